/- The law on reasons. -/
import Derived.Test.YtdjglaoahmaljaaGreatDoorS145

set_option maxRecDepth 100000
namespace HM
open Go Go.RowKit Go.Proofs
section
variable (L : World → Prop)
set_option maxHeartbeats 4000000 in
theorem c_LoadReasons (n : Net) (q : List Req) (len offs : Int) (hn : n.small) (hq : q.length ≤ 281474976710656) (hx : ∀ x ∈ q, x.small) : PCall Tryz.prog L 3 [n.av, encReqs q, .int .i64 len, .int .i64 offs] (.bool true) := by
  refine PCall.intro mixed [] (nt := 52) Tryz.func3 rfl rfl (by simp) ?_
  refine Wk ?_
  first | refine CallK.data rfl (c_awake39 L) rfl ?_ | refine CallP.data rfl (c_awake39 L) rfl ?_
  refine Wk ?_
  first | refine CallK.data rfl (c_Few39 L n hn q hq hx) rfl ?_ | refine CallP.data rfl (c_Few39 L n hn q hq hx) rfl ?_
  refine Wk ?_
  refine BrK.mk (fun h1 => ?_) (fun h1 => ?_) <;> (try rw [h1])
  · refine Wk ?_
    exact resP.mk rfl (Sees.bool rfl)
  have hq := Nat.le_trans (few38_len (by simpa using h1)).1 (by decide : 4 ≤ 1099511627776)
  have hlk := reasonG_links n hn.2.2.1 q len offs
  refine Wk ?_
  first | refine CallK.data rfl (c_ReasonG L n hn q hq hx len offs) rfl ?_ | refine CallP.data rfl (c_ReasonG L n hn q hq hx len offs) rfl ?_
  refine Wk ?_
  first | refine CallK.data rfl (c_Reason39 L n hn q hq hx len offs) rfl ?_ | refine CallP.data rfl (c_Reason39 L n hn q hq hx len offs) rfl ?_
  obtain ⟨r, hr⟩ : ∃ r, r = reasonG n q len offs := ⟨_, rfl⟩
  rw [← hr] at hlk ⊢
  obtain ⟨r1, r2, r3⟩ := r
  simp only at hlk ⊢
  refine Wk ?_
  first | refine CallK.data rfl (c_Same39 L r1 r1 hlk) rfl ?_ | refine CallP.data rfl (c_Same39 L r1 r1 hlk) rfl ?_
  rw [decide_eq_true rfl]
  have hb : (r2 == r2) = true := by simp
  have hi : (r3 == r3) = true := by simp
  repeat ((conv => whnf); first | refine sJ ?_ | refine And.intro (by first | exact trivial | kernel_rfl) ?_ | rw [hb] | rw [hi])
  try (conv => whnf)
  exact resP.mk rfl (Sees.bool rfl)
end
end HM
