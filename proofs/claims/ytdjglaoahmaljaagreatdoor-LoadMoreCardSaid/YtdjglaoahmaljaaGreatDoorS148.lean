/- The law on fewer requests. -/
import Derived.Test.YtdjglaoahmaljaaGreatDoorS145

set_option maxRecDepth 100000
namespace HM
open Go Go.RowKit Go.Proofs
section
variable (L : World → Prop)
theorem many_bd {n : Net} {q : List Req} (h : ∀ x ∈ q, ReqOk n x) (hq : q.length ≤ 16) : 0 ≤ manyM q ∧ manyM q ≤ 256 := by
  have := sumW_bd (f := fun x : Req => sumW (fun r : List Int => (r.length : Int) - 1) x.routes) (m := 16) (by omega) (l := q) fun x hx => by
    have hx := h x hx
    have h1 := hx.len
    have := sumW_bd (f := fun r : List Int => (r.length : Int) - 1) (m := 8) (by omega) (l := x.routes) fun r hr => by
      have := (routeF_ok (hx.route r hr)).1
      omega
    omega
  unfold manyM
  omega
set_option maxHeartbeats 1000000 in
theorem c_many39 (n : Net) (q : List Req) (h : ∀ x ∈ q, ReqOk n x) (hq : q.length ≤ 16) : PCall Tryz.prog L 20 [encReqs q] (.bool (decide (10 < manyM q))) := by
  refine PCall.intro mixed [] (nt := 30) Tryz.func20 rfl rfl (by simp) ?_
  refine Wk ?_
  refine LoopK.run mixed [] (fun (k : Nat) => k ≤ q.length) (fun k => [(3, .int .i64 (manyM (q.take k))), (8, encReqs q), (9, .int .i64 q.length), (10, .int .i64 k)]) (fun k => St.none) (fun k => q.length - k) 0 (by simp) ?_ ?_
  · refine Fits.mk' rfl rfl rfl rfl ?_ ?_ ?_ ?_ ?_ <;> repeat' (first | exact trivial | refine And.intro ?_ ?_ | exact Sees.of_eq rfl | exact lt_b rfl | rfl | exact Sees.int (by simp))
  rintro k hk
  have hb1 := many_bd (q := q.take k) (fun x hx => h x (List.mem_of_mem_take hx)) (by rw [List.length_take]; omega)
  refine Wk ?_
  refine BrK.mk (fun hb => ?_) (fun hb => ?_) <;> (try rw [hb])
  · have hlt : k < q.length := by simpa using hb
    obtain ⟨x, hgx⟩ := getLt hlt
    have hmx := getMap (f := Req.av) hgx
    have hxo := h x (List.mem_of_getElem? hgx)
    have hst : manyM (q.take (k + 1)) = manyM (q.take k) + sumW (fun r : List Int => (r.length : Int) - 1) x.routes := sumW_take _ hgx
    repeat ((conv => whnf); first | refine sJ ?_ | refine And.intro (by first | exact inbMap hlt | kernel_rfl) ?_ | rw [hmx])
    try (conv => whnf)
    refine LoopK.run mixed [] (fun (j : Nat) => j ≤ x.routes.length) (fun j => [(3, .int .i64 (manyM (q.take k) + sumW (fun r : List Int => (r.length : Int) - 1) (x.routes.take j))), (8, encReqs q), (9, .int .i64 q.length), (10, .int .i64 k), (15, encRows x.routes), (16, .int .i64 x.routes.length), (17, .int .i64 j)]) (fun j => St.none) (fun j => x.routes.length - j) 0 (by simp) ?_ ?_
    · refine Fits.mk' rfl rfl rfl rfl ?_ ?_ ?_ ?_ ?_ <;> repeat' (first | exact trivial | refine And.intro ?_ ?_ | exact Sees.of_eq rfl | exact lt_b rfl | rfl | exact Sees.int (by simp [sumW]) | exact Sees.int (by simp))
    rintro j hj
    have hb2 : ∀ i, 0 ≤ sumW (fun r : List Int => (r.length : Int) - 1) (x.routes.take i) ∧ sumW (fun r : List Int => (r.length : Int) - 1) (x.routes.take i) ≤ 16 := fun i => by
      have := sumW_bd (f := fun r : List Int => (r.length : Int) - 1) (m := 8) (by omega) (l := x.routes.take i) fun r hr => by
        have := (routeF_ok (hxo.route r (List.mem_of_mem_take hr))).1
        omega
      have h1 := hxo.len
      rw [List.length_take] at this
      omega
    have hbj := hb2 j
    have hbj1 := hb2 (j + 1)
    refine Wk ?_
    refine BrK.mk (fun hd => ?_) (fun hd => ?_) <;> (try rw [hd])
    · have hjt : j < x.routes.length := by simpa using hd
      obtain ⟨r, hgr⟩ := getLt hjt
      have hmr := getMap (f := encIs) hgr
      have hst2 : sumW (fun r : List Int => (r.length : Int) - 1) (x.routes.take (j + 1)) = sumW (fun r : List Int => (r.length : Int) - 1) (x.routes.take j) + ((r.length : Int) - 1) := sumW_take _ hgr
      have hrl := (routeF_ok (hxo.route r (List.mem_of_getElem? hgr))).1
      have hxl := hxo.len
      rw [hst2] at hbj1
      have hw : IntKind.i64.wrap (((r.map encI).length : Int) - 1) = (r.length : Int) - 1 := by rw [List.length_map, w64] <;> omega
      repeat ((conv => whnf); first | refine sJ ?_ | refine And.intro (by first | exact inbMap hjt | kernel_rfl) ?_ | rw [hmr])
      try (conv => whnf)
      refine ⟨j + 1, by omega, by omega, ?_⟩
      refine Fits.mk' rfl rfl rfl rfl ?_ ?_ ?_ ?_ ?_ <;> repeat' (first | exact trivial | refine And.intro ?_ ?_ | exact Sees.of_eq rfl | exact lt_b rfl | rfl | exact Sees.int (by rw [w64] <;> omega) | exact Sees.int (by rw [hw, hst2, w64] <;> omega))
    · have hjn : j = x.routes.length := by simp at hd; omega
      subst hjn
      rw [List.take_length, ← hst]
      refine Wk ?_
      refine ⟨k + 1, by omega, by omega, ?_⟩
      refine Fits.mk' rfl rfl rfl rfl ?_ ?_ ?_ ?_ ?_ <;> repeat' (first | exact trivial | refine And.intro ?_ ?_ | exact Sees.of_eq rfl | exact lt_b rfl | rfl | exact Sees.int (by rw [w64] <;> omega))
  · have hkn : k = q.length := by simp at hb; omega
    subst hkn
    rw [List.take_length]
    refine Wk ?_
    exact resP.mk rfl (Sees.bool rfl)

set_option maxHeartbeats 4000000 in
theorem c_LoadMore (n : Net) (q : List Req) (len offs : Int) (hn : n.small) (hq : q.length ≤ 281474976710656) (hx : ∀ x ∈ q, x.small) : PCall Tryz.prog L 6 [n.av, encReqs q, .int .i64 len, .int .i64 offs] (.bool true) := by
  refine PCall.intro mixed [] (nt := 113) Tryz.func6 rfl rfl (by simp) ?_
  refine Wk ?_
  first | refine CallK.data rfl (c_awake39 L) rfl ?_ | refine CallP.data rfl (c_awake39 L) rfl ?_
  refine Wk ?_
  first | refine CallK.data rfl (c_Few39 L n hn q hq hx) rfl ?_ | refine CallP.data rfl (c_Few39 L n hn q hq hx) rfl ?_
  cases h1 : few38 n q sched0 with
  | false =>
    refine Wk ?_
    exact resP.mk rfl (Sees.bool rfl)
  | true =>
    have hq4 := (few38_len h1).1
    have hq := Nat.le_trans hq4 (by decide : 4 ≤ 1099511627776)
    by_cases h2 : q.length = 0
    · have g : (((q.map Req.av).length : Int) == 0) = true := by rw [List.length_map, h2]; rfl
      repeat ((conv => whnf); first | refine sJ ?_ | refine And.intro (by first | exact trivial | kernel_rfl) ?_ | rw [g])
      try (conv => whnf)
      exact resP.mk rfl (Sees.bool rfl)
    have g : (((q.map Req.av).length : Int) == 0) = false := beq_eq_false_iff_ne.2 (by rw [List.length_map]; omega)
    repeat ((conv => whnf); first | refine sJ ?_ | refine And.intro (by first | exact trivial | kernel_rfl) ?_ | rw [g])
    try (conv => whnf)
    first | refine CallK.data rfl (c_ReasonG L n hn q hq hx len offs) rfl ?_ | refine CallP.data rfl (c_ReasonG L n hn q hq hx len offs) rfl ?_
    have hrc := reasonG_cases n q len offs
    have hrk := reasonG_ok (n := n) (q := q) (len := len) (offs := offs)
    obtain ⟨r, hr⟩ : ∃ r, r = reasonG n q len offs := ⟨_, rfl⟩
    rw [← hr] at hrc hrk ⊢
    obtain ⟨r1, r2, r3⟩ := r
    simp only at hrc hrk ⊢
    refine Wk ?_
    refine BrK.mk (fun h3 => ?_) (fun h3 => ?_) <;> (try rw [h3])
    · have h3' : r3 ≠ 0 := by simpa using h3
      have e : r2 = false := by rcases hrc with h | h
                                · exact h.2
                                · exact absurd h.2.1 h3'
      subst e
      refine Wk ?_
      exact resP.mk rfl (Sees.bool rfl)
    have h3' : r3 = 0 := by simpa using h3
    obtain ⟨hs, ho⟩ := hrk h3'
    subst h3'
    obtain ⟨k, hk⟩ : ∃ k, k = q.length - 1 := ⟨_, rfl⟩
    have hkq : k ≤ q.length := by omega
    have hs2 := sized_less hs k hkq
    have hsz := sizedQ_ok hs
    obtain ⟨hok, hq16, hreq, hfl⟩ := reqE_ok hsz.req
    have hper := hsz.q.per
    have hL : LessOk n q len := ⟨hok, hsz.l1, fun x hx => (hper x hx).1⟩
    obtain ⟨hc1, hc2, hc3⟩ := cells_less hL hs k hkq
    have hxk : ∀ x ∈ q.take k, x.small := fun x h => hx x (List.mem_of_mem_take h)
    have hlk : (q.take k).length ≤ 1099511627776 := by rw [List.length_take]; omega
    have hw : IntKind.i64.wrap (((q.map Req.av).length : Int) - 1) = (k : Int) := by rw [List.length_map, w64] <;> omega
    have htk : List.drop 0 (List.take ((k : Nat) : Int).toNat (q.map Req.av)) = (q.take k).map Req.av := by rw [List.drop_zero, Int.toNat_natCast, List.map_take]
    repeat ((conv => whnf); first | refine sJ ?_ | refine And.intro (by first | exact Els.map (f := Req.av) (fun x => ⟨rfl, rfl⟩) | exact (show InC (k : Int) (q.map Req.av).length from ⟨by omega, by simp; omega⟩) | kernel_rfl) ?_ | rw [hw] | rw [htk])
    try (conv => whnf)
    first | refine CallK.data rfl (c_ReasonG L n hn (q.take k) hlk hxk len offs) rfl ?_ | refine CallP.data rfl (c_ReasonG L n hn (q.take k) hlk hxk len offs) rfl ?_
    have hrk2 := reasonG_cases n (q.take k) len offs
    have hrl := reason_less (r := r1) hL hreq hs ho k hkq
    have hu3 : (reasonG n (q.take k) len offs).2.2 = 0 := by
      rcases hrk2 with ⟨_, _⟩ | ⟨_, h, _⟩
      · unfold reasonG
        rw [reasonM_ok hs2 ho]
        split
        · rfl
        split
        · rfl
        split <;> rfl
      · exact h
    have hfv := found_verifies (r := r1) hok hs ho
    have hr0 : reasonM n q len offs (grpO n q len offs) = (r1, r2, 0) := hr.symm
    obtain ⟨u, hu⟩ : ∃ u, u = reasonG n (q.take k) len offs := ⟨_, rfl⟩
    rw [← hu] at hrk2 hu3 ⊢
    obtain ⟨u1, u2, u3⟩ := u
    simp only at hrk2 hu3 ⊢
    subst hu3
    refine Wk ?_
    first | refine CallK.data rfl (c_Cells L n hn q hq hx len) rfl ?_ | refine CallP.data rfl (c_Cells L n hn q hq hx len) rfl ?_
    rw [hc1]
    refine Wk ?_
    first | refine CallK.data rfl (c_Cells L n hn (q.take k) hlk hxk len) rfl ?_ | refine CallP.data rfl (c_Cells L n hn (q.take k) hlk hxk len) rfl ?_
    rw [hc2]
    have g3 : decide (sumW (needM q len) n.links < sumW (needM (q.take k) len) n.links) = false := decide_eq_false (by omega)
    cases r2 with
    | true =>
      have hv := hfv hr0
      have hll : r1.links.length ≤ 1099511627776 := by
        rcases hrc with h | h
        · exact absurd h.2 (by decide)
        · have := h.2.2
          have := hok.many
          omega
      repeat ((conv => whnf); first | refine sJ ?_ | refine And.intro (by first | exact trivial | kernel_rfl) ?_ | rw [g3])
      try (conv => whnf)
      first | refine CallK.data rfl (c_VerifyG L n hn q hq hx len offs r1 hll) rfl ?_ | refine CallP.data rfl (c_VerifyG L n hn q hq hx len offs r1 hll) rfl ?_
      rw [hv]
      refine Wk ?_
      exact resP.mk rfl (Sees.bool rfl)
    | false =>
      have hr1 : r1 = rsn0 := by
        rcases hrc with h | h
        · exact h.1
        · exact absurd h.1 (by decide)
      subst hr1
      cases u2 with
      | false =>
        repeat ((conv => whnf); first | refine sJ ?_ | refine And.intro (by first | exact trivial | kernel_rfl) ?_ | rw [g3])
        try (conv => whnf)
        exact resP.mk rfl (Sees.bool rfl)
      | true =>
        have hmany : 10 < manyM q := by
          rcases hrl hr0 with h | h
          · have h : reasonG n (q.take k) len offs = (rsn0, false, 0) := h
            rw [h] at hu
            cases hu
          · exact h
        repeat ((conv => whnf); first | refine sJ ?_ | refine And.intro (by first | exact trivial | kernel_rfl) ?_ | rw [g3])
        try (conv => whnf)
        first | refine CallK.data rfl (c_many39 L n q hreq hq16) rfl ?_ | refine CallP.data rfl (c_many39 L n q hreq hq16) rfl ?_
        rw [decide_eq_true hmany]
        refine Wk ?_
        exact resP.mk rfl (Sees.bool rfl)
end
end HM
