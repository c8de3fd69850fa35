/- The law on least lengths. -/
import Derived.Test.YtdjglaoahmaljaaGreatDoorS158

set_option maxRecDepth 100000
namespace HM
open Go Go.RowKit Go.Proofs
theorem reasonG_zero {n : Net} {q : List Req} {len offs : Int} (h1 : sizedQ n q len = 0) (h2 : ¬ (offs < 1 ∨ 16 < offs)) : (reasonG n q len offs).2.2 = 0 := by
  unfold reasonG
  rw [reasonM_ok h1 h2]
  split
  · rfl
  split
  · rfl
  split <;> rfl
section
variable (L : World → Prop)
set_option maxHeartbeats 4000000 in
theorem c_LoadLeast (n : Net) (q : List Req) (offs : Int) (hn : n.small) (hq : q.length ≤ 281474976710656) (hx : ∀ x ∈ q, x.small) : PCall Tryz.prog L 9 [n.av, encReqs q, .int .i64 offs] (.bool true) := by
  have hr : ∀ x : Int, (x == x) = true := fun x => by simp
  refine PCall.intro mixed [] (nt := 111) Tryz.func9 rfl rfl (by simp) ?_
  refine Wk ?_
  first | refine CallK.data rfl (c_awake39 L) rfl ?_ | refine CallP.data rfl (c_awake39 L) rfl ?_
  refine Wk ?_
  first | refine CallK.data rfl (c_Few39 L n hn q hq hx) rfl ?_ | refine CallP.data rfl (c_Few39 L n hn q hq hx) rfl ?_
  cases h1 : few38 n q sched0 with
  | false =>
    refine Wk ?_
    exact resP.mk rfl (Sees.bool rfl)
  | true =>
    have hq4 := (few38_len h1).1
    have hq := Nat.le_trans hq4 (by decide : 4 ≤ 1099511627776)
    by_cases h2 : 2 < q.length
    · have g : decide ((2 : Int) < ((q.map Req.av).length : Int)) = true := decide_eq_true (by rw [List.length_map]; omega)
      repeat ((conv => whnf); first | refine sJ ?_ | refine And.intro (by first | exact trivial | kernel_rfl) ?_ | rw [g])
      try (conv => whnf)
      exact resP.mk rfl (Sees.bool rfl)
    have g : decide ((2 : Int) < ((q.map Req.av).length : Int)) = false := decide_eq_false (by rw [List.length_map]; omega)
    repeat ((conv => whnf); first | refine sJ ?_ | refine And.intro (by first | exact trivial | kernel_rfl) ?_ | rw [g])
    try (conv => whnf)
    first | refine CallK.data rfl (c_Flows38 L q hq) rfl ?_ | refine CallP.data rfl (c_Flows38 L q hq) rfl ?_
    refine Wk ?_
    first | refine CallK.data rfl (c_Hyper L (flowsQ q) (by simp [flowsQ]; omega)) rfl ?_ | refine CallP.data rfl (c_Hyper L (flowsQ q) (by simp [flowsQ]; omega)) rfl ?_
    by_cases hh : (hyperM (flowsQ q)).2 = 0 ∧ (hyperM (flowsQ q)).1 < 32
    rotate_left
    · by_cases hh1 : (hyperM (flowsQ q)).2 = 0
      · have g1 : ((hyperM (flowsQ q)).2 == 0) = true := by simpa using hh1
        have g2 : decide ((hyperM (flowsQ q)).1 < 32) = false := decide_eq_false (fun h => hh ⟨hh1, h⟩)
        repeat ((conv => whnf); first | refine sJ ?_ | refine And.intro (by first | exact trivial | kernel_rfl) ?_ | rw [g1] | rw [g2])
        try (conv => whnf)
        first | refine CallK.data rfl (c_Least L n hn q hq hx offs) rfl ?_ | refine CallP.data rfl (c_Least L n hn q hq hx offs) rfl ?_
        refine Wk ?_
        first | refine CallK.data rfl (c_Least39 L n hn q hq hx offs) rfl ?_ | refine CallP.data rfl (c_Least39 L n hn q hq hx offs) rfl ?_
        repeat ((conv => whnf); first | refine sJ ?_ | refine And.intro (by first | exact trivial | kernel_rfl) ?_ | rw [hr])
        try (conv => whnf)
        exact resP.mk rfl (Sees.bool rfl)
      · have g1 : ((hyperM (flowsQ q)).2 == 0) = false := by simpa using hh1
        repeat ((conv => whnf); first | refine sJ ?_ | refine And.intro (by first | exact trivial | kernel_rfl) ?_ | rw [g1])
        try (conv => whnf)
        first | refine CallK.data rfl (c_Least L n hn q hq hx offs) rfl ?_ | refine CallP.data rfl (c_Least L n hn q hq hx offs) rfl ?_
        refine Wk ?_
        first | refine CallK.data rfl (c_Least39 L n hn q hq hx offs) rfl ?_ | refine CallP.data rfl (c_Least39 L n hn q hq hx offs) rfl ?_
        repeat ((conv => whnf); first | refine sJ ?_ | refine And.intro (by first | exact trivial | kernel_rfl) ?_ | rw [hr])
        try (conv => whnf)
        exact resP.mk rfl (Sees.bool rfl)
    obtain ⟨hh1, hh2⟩ := hh
    obtain ⟨hM, hle, hp1⟩ := hyperM_ok hh1
    rw [hM] at hh2 ⊢
    simp only at hh2
    have g2 : decide (((hyp (flowsQ q) : Nat) : Int) < 32) = true := decide_eq_true hh2
    have g3 : decide (((hyp (flowsQ q) : Nat) : Int) < 1) = false := decide_eq_false (by omega)
    repeat ((conv => whnf); first | refine sJ ?_ | refine And.intro (by first | exact trivial | kernel_rfl) ?_ | rw [g2] | rw [g3])
    try (conv => whnf)
    first | refine CallK.data rfl (c_Least L n hn q hq hx offs) rfl ?_ | refine CallP.data rfl (c_Least L n hn q hq hx offs) rfl ?_
    refine Wk ?_
    first | refine CallK.data rfl (c_ReasonG L n hn q hq hx (hyp (flowsQ q)) offs) rfl ?_ | refine CallP.data rfl (c_ReasonG L n hn q hq hx (hyp (flowsQ q)) offs) rfl ?_
    by_cases k1 : (reqE n q).2 = 0
    rotate_left
    · have e1 : leastL n q offs = (0, 1) := by unfold leastL; rw [if_pos k1]
      have e2 : reasonG n q (hyp (flowsQ q)) offs = (rsn0, false, 1) := by
        unfold reasonG
        have : sizedQ n q (hyp (flowsQ q)) = 1 := by unfold sizedQ; rw [if_pos k1]
        rw [reasonM_bad (by rw [this]; decide), this]
      rw [e1, e2]
      refine Wk ?_
      exact resP.mk rfl (Sees.bool rfl)
    have hz := hyp_sized (n := n) k1 hle (k := 0) (by omega)
    rw [Nat.zero_add, Nat.mul_one] at hz
    by_cases k2 : offs < 1 ∨ 16 < offs
    · have e1 : leastL n q offs = (0, 2) := by unfold leastL; rw [if_neg (by omega), if_pos k2]
      have e2 : reasonG n q (hyp (flowsQ q)) offs = (rsn0, false, 2) := reasonM_off hz.mk' k2
      rw [e1, e2]
      refine Wk ?_
      exact resP.mk rfl (Sees.bool rfl)
    have e1 := least_first k1 k2 hh1 hle
    have e3 := reasonG_zero hz.mk' k2
    obtain ⟨r, hrd⟩ : ∃ r, r = reasonG n q (hyp (flowsQ q)) offs := ⟨_, rfl⟩
    rw [← hrd] at e1 e3 ⊢
    obtain ⟨r1, r2, r3⟩ := r
    simp only at e1 e3 ⊢
    subst e3
    cases r2 with
    | true =>
      rw [if_pos rfl] at e1
      rw [e1]
      refine Wk ?_
      exact resP.mk rfl (Sees.bool rfl)
    | false =>
      rw [if_neg (by decide)] at e1
      rw [e1]
      repeat ((conv => whnf); first | refine sJ ?_ | refine And.intro (by first | exact trivial | kernel_rfl) ?_ | rw [hr])
      try (conv => whnf)
      exact resP.mk rfl (Sees.bool rfl)
end
end HM
