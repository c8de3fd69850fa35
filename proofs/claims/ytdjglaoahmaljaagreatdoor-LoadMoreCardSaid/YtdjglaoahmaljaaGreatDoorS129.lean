/- Reasons: the first one; whether one is one. -/
import Derived.Test.YtdjglaoahmaljaaGreatDoorS128

set_option maxRecDepth 100000
namespace HM
open Go Go.RowKit Go.Proofs
section
variable (L : World → Prop)

set_option maxHeartbeats 1000000 in
theorem c_equalR (a b : Rsn) (ha : a.links.length ≤ 281474976710656) : PCall Tryz.prog L 48 [a.av, b.av] (.bool (decide (a = b))) := by
  have hd : decide (a = b) = (decide (a.links = b.links) && (a.kind == b.kind) && (a.node == b.node) && (a.idx == b.idx) && (a.route == b.route) && (a.need == b.need) && (a.have_ == b.have_)) := by
    rw [Bool.eq_iff_iff]
    cases a; cases b
    simp only [decide_eq_true_eq, Rsn.mk.injEq, Bool.and_eq_true, beq_iff_eq]
    constructor
    · rintro ⟨h1, h2, h3, h4, h5, h6, h7⟩; exact ⟨⟨⟨⟨⟨⟨h5, h1⟩, h2⟩, h3⟩, h4⟩, h6⟩, h7⟩
    · rintro ⟨⟨⟨⟨⟨⟨h5, h1⟩, h2⟩, h3⟩, h4⟩, h6⟩, h7⟩; exact ⟨h1, h2, h3, h4, h5, h6, h7⟩
  rw [hd]
  refine PCall.intro mixed [] (nt := 56) Tryz.func48 rfl rfl (by simp) ?_
  refine Wk ?_
  first | refine CallK.data rfl (c_EqLinks L a.links b.links ha) rfl ?_ | refine CallP.data rfl (c_EqLinks L a.links b.links ha) rfl ?_
  generalize decide (a.links = b.links) = e0
  cases e0
  · refine Wk ?_
    exact resP.mk rfl (Sees.bool (by simp))
  refine Wk ?_
  cases h1 : a.kind == b.kind
  · refine Wk ?_
    exact resP.mk rfl (Sees.bool (by simp))
  refine Wk ?_
  cases h2 : a.node == b.node
  · refine Wk ?_
    exact resP.mk rfl (Sees.bool (by simp))
  refine Wk ?_
  cases h3 : a.idx == b.idx
  · refine Wk ?_
    exact resP.mk rfl (Sees.bool (by simp))
  refine Wk ?_
  cases h4 : a.route == b.route
  · refine Wk ?_
    exact resP.mk rfl (Sees.bool (by simp))
  refine Wk ?_
  cases h5 : a.need == b.need
  · refine Wk ?_
    exact resP.mk rfl (Sees.bool (by simp))
  refine Wk ?_
  exact resP.mk rfl (Sees.bool (by simp))

set_option maxHeartbeats 1000000 in
theorem c_Reason (n : Net) (hn : n.small) (q : List Req) (hq : q.length ≤ 1099511627776) (hx : ∀ x ∈ q, x.small) (len offs : Int) (gr : Option Rsn) (gx : Rsn × Bool) (hgx : gr = if gx.2 then some gx.1 else none)
    (hG : QOk n q len → 1 ≤ offs → offs ≤ 16 → byNodeM n q len = none → byWindowM n q = none → PCall Tryz.prog L 36 [qnAv n q len offs] (.tup [gx.1.av, .bool gx.2])) :
    PCall Tryz.prog L 12 [n.av, encReqs q, .int .i64 len, .int .i64 offs] (.tup [(reasonM n q len offs gr).1.av, .bool (reasonM n q len offs gr).2.1, .int .i64 (reasonM n q len offs gr).2.2]) := by
  refine PCall.intro mixed [] (nt := 51) Tryz.func12 rfl rfl (by simp) ?_
  refine Wk ?_
  first | refine CallK.data rfl (c_lsized L n hn q hq hx len) rfl ?_ | refine CallP.data rfl (c_lsized L n hn q hq hx len) rfl ?_
  refine Wk ?_
  refine BrK.mk (fun h1 => ?_) (fun h1 => ?_) <;> (try rw [h1])
  · refine Wk ?_
    exact resP.mk rfl (Sees.of_eq (by rw [reasonM_bad (by simpa using h1)]; rfl))
  have h1' : sizedQ n q len = 0 := by simpa using h1
  have hQ := (sizedQ_ok h1').q
  refine Wk ?_
  refine BrK.mk (fun h2 => ?_) (fun h2 => ?_) <;> (try rw [h2])
  · refine Wk ?_
    exact resP.mk rfl (Sees.of_eq (by rw [reasonM_off h1' (.inl (by simpa using h2))]; rfl))
  refine Wk ?_
  refine BrK.mk (fun h3 => ?_) (fun h3 => ?_) <;> (try rw [h3])
  · refine Wk ?_
    exact resP.mk rfl (Sees.of_eq (by rw [reasonM_off h1' (.inr (by simpa using h3))]; rfl))
  have e2 : ¬ (offs < 1 ∨ 16 < offs) := by simp at h2 h3; omega
  rw [reasonM_ok h1' e2]
  refine Wk ?_
  refine LoopK.run mixed [] (fun (k : Nat) => k = 0 ∨ (k = 1 ∧ byNodeM n q len = none) ∨ (k = 2 ∧ byNodeM n q len = none ∧ byWindowM n q = none) ∨ (k = 3 ∧ byNodeM n q len = none ∧ byWindowM n q = none ∧ gr = none)) (fun k => [(1, encReqs q), (2, .int .i64 len), (3, .int .i64 offs), (4, .ptr 0 0), (8, .ptr 1 0), (33, .agg [.fn 34 [], .fn 35 [], .fn 36 []]), (34, .int .i64 k)]) (fun _ => ⟨[.cells n.cs 26, .cells [.int .i64 0, .int .i64 0, .int .i64 0, .int .i64 0, .nils, .int .i64 0, .int .i64 0] 31], [], 0, 0, fun _ => 0⟩) (fun k => 3 - k) 0 (.inl rfl) ?_ ?_
  · refine Fits.mk' rfl rfl rfl rfl ?_ ?_ ?_ ?_ ?_ <;> repeat' (first | exact trivial | refine And.intro ?_ ?_ | exact Sees.of_eq rfl | exact lt_b rfl | rfl | exact SeesL.rfl' _)
  rintro k (rfl | ⟨rfl, hN⟩ | ⟨rfl, hN, hW⟩ | ⟨rfl, hN, hW, hg⟩)
  · repeat ((conv => whnf); first | refine sJ ?_ | refine And.intro (by first | exact ⟨by decide, by decide⟩ | kernel_rfl) ?_ )
    try (conv => whnf)
    first | refine CallK.data rfl (c_byNode L n hn q hx len offs hQ) rfl ?_ | refine CallP.data rfl (c_byNode L n hn q hx len offs hQ) rfl ?_
    cases hr : byNodeM n q len with
    | some r =>
      refine Wk ?_
      exact resP.mk rfl (Sees.of_eq rfl)
    | none =>
      refine Wk ?_
      refine ⟨1, .inr (.inl ⟨rfl, rfl⟩), by omega, ?_⟩
      refine Fits.mk' rfl rfl rfl rfl ?_ ?_ ?_ ?_ ?_ <;> repeat' (first | exact trivial | refine And.intro ?_ ?_ | exact Sees.of_eq rfl | exact lt_b rfl | rfl | exact SeesL.rfl' _ | exact Sees.int (by decide))
  · repeat ((conv => whnf); first | refine sJ ?_ | refine And.intro (by first | exact ⟨by decide, by decide⟩ | kernel_rfl) ?_ )
    try (conv => whnf)
    first | refine CallK.data rfl (c_byWindow L n hn q hx len offs hQ) rfl ?_ | refine CallP.data rfl (c_byWindow L n hn q hx len offs hQ) rfl ?_
    rw [hN]
    cases hr : byWindowM n q with
    | some r =>
      refine Wk ?_
      exact resP.mk rfl (Sees.of_eq rfl)
    | none =>
      refine Wk ?_
      refine ⟨2, .inr (.inr (.inl ⟨rfl, rfl, rfl⟩)), by omega, ?_⟩
      refine Fits.mk' rfl rfl rfl rfl ?_ ?_ ?_ ?_ ?_ <;> repeat' (first | exact trivial | refine And.intro ?_ ?_ | exact Sees.of_eq rfl | exact lt_b rfl | rfl | exact SeesL.rfl' _ | exact Sees.int (by decide))
  · have hcG := hG hQ (by omega) (by omega) hN hW
    rw [hN, hW]
    repeat ((conv => whnf); first | refine sJ ?_ | refine And.intro (by first | exact ⟨by decide, by decide⟩ | kernel_rfl) ?_ )
    try (conv => whnf)
    first | refine CallK.data rfl (hcG) rfl ?_ | refine CallP.data rfl (hcG) rfl ?_
    obtain ⟨g1, g2⟩ := gx
    cases g2 with
    | true =>
      rw [hgx]
      refine Wk ?_
      exact resP.mk rfl (Sees.of_eq rfl)
    | false =>
      have hgx : gr = none := hgx
      rw [hgx]
      refine Wk ?_
      refine ⟨3, .inr (.inr (.inr ⟨rfl, rfl, rfl, rfl⟩)), by omega, ?_⟩
      refine Fits.mk' rfl rfl rfl rfl ?_ ?_ ?_ ?_ ?_ <;> repeat' (first | exact trivial | refine And.intro ?_ ?_ | exact Sees.of_eq rfl | exact lt_b rfl | rfl | exact SeesL.rfl' _ | exact Sees.int (by decide))
  · rw [hN, hW, hg]
    refine Wk ?_
    exact resP.mk rfl (Sees.of_eq rfl)

set_option maxHeartbeats 4000000 in
theorem c_Verify (n : Net) (hn : n.small) (q : List Req) (hq : q.length ≤ 1099511627776) (hx : ∀ x ∈ q, x.small) (len offs : Int) (r : Rsn) (hrl : r.links.length ≤ 281474976710656) (ab : Bool)
    (hA : QOk n q len → 1 ≤ offs → offs ≤ 16 → r.kind = 3 → PCall Tryz.prog L 45 [qnAv n q len offs, encLinks r.links] (.bool ab) ∧ (ab = true → PCall Tryz.prog L 46 [qnAv n q len offs, encLinks r.links] (groupR n q len offs r.links).av)) :
    PCall Tryz.prog L 15 [n.av, encReqs q, .int .i64 len, .int .i64 offs, r.av] (.int .i64 (verifyM n q len offs r ab)) := by
  obtain ⟨kind, node, idx, route, links, need, hv⟩ := r
  simp only at hrl hA
  refine PCall.intro mixed [] (nt := 114) Tryz.func15 rfl rfl (by simp) ?_
  refine Wk ?_
  first | refine CallK.data rfl (c_lsized L n hn q hq hx len) rfl ?_ | refine CallP.data rfl (c_lsized L n hn q hq hx len) rfl ?_
  refine Wk ?_
  refine BrK.mk (fun h1 => ?_) (fun h1 => ?_) <;> (try rw [h1])
  · refine Wk ?_
    exact resP.mk rfl (Sees.int (by rw [verifyM, if_pos (by simpa using h1)]))
  have h1' : sizedQ n q len = 0 := by simpa using h1
  have hQ := (sizedQ_ok h1').q
  refine Wk ?_
  refine BrK.mk (fun h2 => ?_) (fun h2 => ?_) <;> (try rw [h2])
  · refine Wk ?_
    exact resP.mk rfl (Sees.int (by rw [verifyM, if_neg (by simp [h1']), if_pos (.inl (by simpa using h2))]))
  refine Wk ?_
  refine BrK.mk (fun h3 => ?_) (fun h3 => ?_) <;> (try rw [h3])
  · refine Wk ?_
    exact resP.mk rfl (Sees.int (by rw [verifyM, if_neg (by simp [h1']), if_pos (.inr (by simpa using h3))]))
  have e2 : ¬ (offs < 1 ∨ 16 < offs) := by simp at h2 h3; omega
  have hE : verifyM n q len offs ⟨kind, node, idx, route, links, need, hv⟩ ab = if isR (wantM n q len offs ⟨kind, node, idx, route, links, need, hv⟩ ab) = true ∧ ⟨kind, node, idx, route, links, need, hv⟩ = wantM n q len offs ⟨kind, node, idx, route, links, need, hv⟩ ab then 0 else 20 := by rw [verifyM, if_neg (by simp [h1']), if_neg e2]
  refine Wk ?_
  have hit : True := trivial
  rcases Decidable.em (kind = 1) with c1 | c1
  · have g1 : (kind == 1) = true := by simpa using c1
    have g2 : (kind == 2) = false := by simp; omega
    have g3 : (kind == 3) = false := by simp; omega
    rcases Decidable.em (0 ≤ node) with c2 | c2
    · have g4 : decide (0 ≤ node) = true := by simpa using c2
      rcases Decidable.em (node < n.nodes) with c3 | c3
      · have g5 : decide (node < n.nodes) = true := by simpa using c3
        obtain ⟨w, hw⟩ : ∃ w, w = nodeR n q len node := ⟨_, rfl⟩
        have hfin : verifyM n q len offs ⟨kind, node, idx, route, links, need, hv⟩ ab = if isR w = true ∧ ⟨kind, node, idx, route, links, need, hv⟩ = w then 0 else 20 := by rw [hE, want_node ⟨c1, c2, c3⟩, hw]
        repeat ((conv => whnf); first | refine sJ ?_ | refine And.intro (by first | exact trivial | kernel_rfl) ?_ | rw [g1] | rw [g4] | rw [g5])
        try (conv => whnf)
        first | refine CallK.data rfl (c_qnode L n hn q hx len offs node hQ) rfl ?_ | refine CallP.data rfl (c_qnode L n hn q hx len offs node hQ) rfl ?_
        rw [← hw]
        refine Wk ?_
        first | refine CallK.data rfl (c_is L w) rfl ?_ | refine CallP.data rfl (c_is L w) rfl ?_
        cases hi : isR w
        · refine Wk ?_
          exact resP.mk rfl (Sees.int (by rw [hfin, hi, if_neg (by simp)]))
        · refine Wk ?_
          first | refine CallK.data rfl (c_equalR L ⟨kind, node, idx, route, links, need, hv⟩ w hrl) rfl ?_ | refine CallP.data rfl (c_equalR L ⟨kind, node, idx, route, links, need, hv⟩ w hrl) rfl ?_
          by_cases he : (⟨kind, node, idx, route, links, need, hv⟩ : Rsn) = w
          · rw [decide_eq_true he]
            refine Wk ?_
            exact resP.mk rfl (Sees.int (by rw [hfin, hi, if_pos ⟨rfl, he⟩]))
          · rw [decide_eq_false he]
            refine Wk ?_
            exact resP.mk rfl (Sees.int (by rw [hfin, if_neg (fun h => he h.2)]))
      · have g5 : decide (node < n.nodes) = false := by simpa using c3
        have hfin : verifyM n q len offs ⟨kind, node, idx, route, links, need, hv⟩ ab = if isR rsn0 = true ∧ ⟨kind, node, idx, route, links, need, hv⟩ = rsn0 then 0 else 20 := by rw [hE, want_zero (fun h => by simp only at h; omega) (fun h1 h2 h3 x hgx => by simp only at h1; omega) (fun h => absurd (show kind = 3 from h.1) (by omega))]
        repeat ((conv => whnf); first | refine sJ ?_ | refine And.intro (by first | exact trivial | kernel_rfl) ?_ | rw [g1] | rw [g2] | rw [g3] | rw [g4] | rw [g5])
        try (conv => whnf)
        first | refine CallK.data rfl (c_is L rsn0) rfl ?_ | refine CallP.data rfl (c_is L rsn0) rfl ?_
        refine Wk ?_
        exact resP.mk rfl (Sees.int (by rw [hfin, if_neg (fun h => by simp [isR, rsn0] at h)]))
    · have g4 : decide (0 ≤ node) = false := by simpa using c2
      have hfin : verifyM n q len offs ⟨kind, node, idx, route, links, need, hv⟩ ab = if isR rsn0 = true ∧ ⟨kind, node, idx, route, links, need, hv⟩ = rsn0 then 0 else 20 := by rw [hE, want_zero (fun h => by simp only at h; omega) (fun h1 h2 h3 x hgx => by simp only at h1; omega) (fun h => absurd (show kind = 3 from h.1) (by omega))]
      repeat ((conv => whnf); first | refine sJ ?_ | refine And.intro (by first | exact trivial | kernel_rfl) ?_ | rw [g1] | rw [g2] | rw [g3] | rw [g4])
      try (conv => whnf)
      first | refine CallK.data rfl (c_is L rsn0) rfl ?_ | refine CallP.data rfl (c_is L rsn0) rfl ?_
      refine Wk ?_
      exact resP.mk rfl (Sees.int (by rw [hfin, if_neg (fun h => by simp [isR, rsn0] at h)]))
  have g1 : (kind == 1) = false := by simpa using c1
  rcases Decidable.em (kind = 2) with k2 | k2
  · have g2 : (kind == 2) = true := by simpa using k2
    have g3 : (kind == 3) = false := by simp; omega
    rcases Decidable.em (0 ≤ idx) with c2 | c2
    · have g4 : decide (0 ≤ idx) = true := by simpa using c2
      obtain ⟨i, rfl⟩ : ∃ i : Nat, idx = i := ⟨idx.toNat, by omega⟩
      rcases Nat.lt_or_ge i q.length with c3 | c3
      · have g5 : decide ((i : Int) < ((q.map Req.av).length : Int)) = true := by simp; omega
        obtain ⟨x, hgx⟩ := getLt c3
        have hgx0 := hgx
        have hmx := getMap (f := Req.av) hgx
        have hxo := hQ.req x (List.mem_of_getElem? hgx)
        rcases Decidable.em (0 ≤ route) with c4 | c4
        · have g6 : decide (0 ≤ route) = true := by simpa using c4
          obtain ⟨k, rfl⟩ : ∃ k : Nat, route = k := ⟨route.toNat, by omega⟩
          rcases Nat.lt_or_ge k x.routes.length with c5 | c5
          · have g7 : decide ((k : Int) < ((x.routes.map encIs).length : Int)) = true := by simp; omega
            obtain ⟨y, hgy⟩ := getLt c5
            obtain ⟨w, hw⟩ : ∃ w, w = windowR n x i k y := ⟨_, rfl⟩
            have hfin : verifyM n q len offs ⟨kind, node, (i : Int), (k : Int), links, need, hv⟩ ab = if isR w = true ∧ ⟨kind, node, (i : Int), (k : Int), links, need, hv⟩ = w then 0 else 20 := by rw [hE, want_win (r := ⟨kind, node, (i : Int), (k : Int), links, need, hv⟩) (x := x) (y := y) ⟨k2, Int.natCast_nonneg _, Int.natCast_nonneg _⟩ hgx hgy, hw]
            repeat ((conv => whnf); first | refine sJ ?_ | refine And.intro (by first | exact trivial | exact inbMap c3 | kernel_rfl) ?_ | rw [g1] | rw [g2] | rw [g3] | rw [g4] | rw [g5] | rw [g6] | rw [g7] | rw [hmx])
            try (conv => whnf)
            refine CallK.data rfl (c_qwindow L n hn q len offs i k x y hQ.n0 hgx hgy hxo) rfl ?_
            rw [← hw]
            refine Wk ?_
            first | refine CallK.data rfl (c_is L w) rfl ?_ | refine CallP.data rfl (c_is L w) rfl ?_
            cases hi : isR w
            · refine Wk ?_
              exact resP.mk rfl (Sees.int (by rw [hfin, hi, if_neg (by simp)]))
            · refine Wk ?_
              first | refine CallK.data rfl (c_equalR L ⟨kind, node, (i : Int), (k : Int), links, need, hv⟩ w hrl) rfl ?_ | refine CallP.data rfl (c_equalR L ⟨kind, node, (i : Int), (k : Int), links, need, hv⟩ w hrl) rfl ?_
              by_cases he : (⟨kind, node, (i : Int), (k : Int), links, need, hv⟩ : Rsn) = w
              · rw [decide_eq_true he]
                refine Wk ?_
                exact resP.mk rfl (Sees.int (by rw [hfin, hi, if_pos ⟨rfl, he⟩]))
              · rw [decide_eq_false he]
                refine Wk ?_
                exact resP.mk rfl (Sees.int (by rw [hfin, if_neg (fun h => he h.2)]))
          · have g7 : decide ((k : Int) < ((x.routes.map encIs).length : Int)) = false := by simp; omega
            have hfin : verifyM n q len offs ⟨kind, node, (i : Int), (k : Int), links, need, hv⟩ ab = if isR rsn0 = true ∧ ⟨kind, node, (i : Int), (k : Int), links, need, hv⟩ = rsn0 then 0 else 20 := by rw [hE, want_zero (fun h => by simp only at h; omega) (fun h1 h2 h3 x hgx => by simp only [Int.toNat_natCast] at hgx ⊢; rw [hgx0] at hgx; injection hgx with hgx; subst hgx; exact List.getElem?_eq_none c5) (fun h => absurd (show kind = 3 from h.1) (by omega))]
            repeat ((conv => whnf); first | refine sJ ?_ | refine And.intro (by first | exact trivial | exact inbMap c3 | kernel_rfl) ?_ | rw [g1] | rw [g2] | rw [g3] | rw [g4] | rw [g5] | rw [g6] | rw [g7] | rw [hmx])
            try (conv => whnf)
            first | refine CallK.data rfl (c_is L rsn0) rfl ?_ | refine CallP.data rfl (c_is L rsn0) rfl ?_
            refine Wk ?_
            exact resP.mk rfl (Sees.int (by rw [hfin, if_neg (fun h => by simp [isR, rsn0] at h)]))
        · have g6 : decide (0 ≤ route) = false := by simpa using c4
          have hfin : verifyM n q len offs ⟨kind, node, (i : Int), route, links, need, hv⟩ ab = if isR rsn0 = true ∧ ⟨kind, node, (i : Int), route, links, need, hv⟩ = rsn0 then 0 else 20 := by rw [hE, want_zero (fun h => by simp only at h; omega) (fun h1 h2 h3 x hgx => by simp only at h3; omega) (fun h => absurd (show kind = 3 from h.1) (by omega))]
          repeat ((conv => whnf); first | refine sJ ?_ | refine And.intro (by first | exact trivial | kernel_rfl) ?_ | rw [g1] | rw [g2] | rw [g3] | rw [g4] | rw [g5] | rw [g6])
          try (conv => whnf)
          first | refine CallK.data rfl (c_is L rsn0) rfl ?_ | refine CallP.data rfl (c_is L rsn0) rfl ?_
          refine Wk ?_
          exact resP.mk rfl (Sees.int (by rw [hfin, if_neg (fun h => by simp [isR, rsn0] at h)]))
      · have g5 : decide ((i : Int) < ((q.map Req.av).length : Int)) = false := by simp; omega
        have hfin : verifyM n q len offs ⟨kind, node, (i : Int), route, links, need, hv⟩ ab = if isR rsn0 = true ∧ ⟨kind, node, (i : Int), route, links, need, hv⟩ = rsn0 then 0 else 20 := by rw [hE, want_zero (fun h => by simp only at h; omega) (fun h1 h2 h3 x hgx => by have := (List.getElem?_eq_some_iff.1 hgx).1; simp at this; omega) (fun h => absurd (show kind = 3 from h.1) (by omega))]
        repeat ((conv => whnf); first | refine sJ ?_ | refine And.intro (by first | exact trivial | kernel_rfl) ?_ | rw [g1] | rw [g2] | rw [g3] | rw [g4] | rw [g5])
        try (conv => whnf)
        first | refine CallK.data rfl (c_is L rsn0) rfl ?_ | refine CallP.data rfl (c_is L rsn0) rfl ?_
        refine Wk ?_
        exact resP.mk rfl (Sees.int (by rw [hfin, if_neg (fun h => by simp [isR, rsn0] at h)]))
    · have g4 : decide (0 ≤ idx) = false := by simpa using c2
      have hfin : verifyM n q len offs ⟨kind, node, idx, route, links, need, hv⟩ ab = if isR rsn0 = true ∧ ⟨kind, node, idx, route, links, need, hv⟩ = rsn0 then 0 else 20 := by rw [hE, want_zero (fun h => by simp only at h; omega) (fun h1 h2 h3 x hgx => by simp only at h2; omega) (fun h => absurd (show kind = 3 from h.1) (by omega))]
      repeat ((conv => whnf); first | refine sJ ?_ | refine And.intro (by first | exact trivial | kernel_rfl) ?_ | rw [g1] | rw [g2] | rw [g3] | rw [g4])
      try (conv => whnf)
      first | refine CallK.data rfl (c_is L rsn0) rfl ?_ | refine CallP.data rfl (c_is L rsn0) rfl ?_
      refine Wk ?_
      exact resP.mk rfl (Sees.int (by rw [hfin, if_neg (fun h => by simp [isR, rsn0] at h)]))
  have g2 : (kind == 2) = false := by simpa using k2
  rcases Decidable.em (kind = 3) with k3 | k3
  · have g3 : (kind == 3) = true := by simpa using k3
    obtain ⟨hA1, hA2⟩ := hA hQ (by omega) (by omega) k3
    repeat ((conv => whnf); first | refine sJ ?_ | refine And.intro (by first | exact trivial | kernel_rfl) ?_ | rw [g1] | rw [g2] | rw [g3])
    try (conv => whnf)
    first | refine CallK.data rfl (hA1) rfl ?_ | refine CallP.data rfl (hA1) rfl ?_
    cases ab with
    | false =>
      have hfin : verifyM n q len offs ⟨kind, node, idx, route, links, need, hv⟩ false = if isR rsn0 = true ∧ ⟨kind, node, idx, route, links, need, hv⟩ = rsn0 then 0 else 20 := by rw [hE, want_zero (fun h => by simp only at h; omega) (fun h1 h2 h3 x hgx => by simp only at h1; omega) (fun h => Bool.noConfusion h.2)]
      repeat ((conv => whnf); first | refine sJ ?_ | refine And.intro (by first | exact trivial | kernel_rfl) ?_ | rw [g1] | rw [g2] | rw [g3])
      try (conv => whnf)
      first | refine CallK.data rfl (c_is L rsn0) rfl ?_ | refine CallP.data rfl (c_is L rsn0) rfl ?_
      refine Wk ?_
      exact resP.mk rfl (Sees.int (by rw [hfin, if_neg (fun h => by simp [isR, rsn0] at h)]))
    | true =>
      have hG := hA2 rfl
      obtain ⟨w, hw⟩ : ∃ w, w = groupR n q len offs links := ⟨_, rfl⟩
      have hfin : verifyM n q len offs ⟨kind, node, idx, route, links, need, hv⟩ true = if isR w = true ∧ ⟨kind, node, idx, route, links, need, hv⟩ = w then 0 else 20 := by rw [hE, want_grp k3, hw]
      rw [← hw] at hG
      refine Wk ?_
      first | refine CallK.data rfl (hG) rfl ?_ | refine CallP.data rfl (hG) rfl ?_
      refine Wk ?_
      first | refine CallK.data rfl (c_is L w) rfl ?_ | refine CallP.data rfl (c_is L w) rfl ?_
      cases hi : isR w
      · refine Wk ?_
        exact resP.mk rfl (Sees.int (by rw [hfin, hi, if_neg (by simp)]))
      · refine Wk ?_
        first | refine CallK.data rfl (c_equalR L ⟨kind, node, idx, route, links, need, hv⟩ w hrl) rfl ?_ | refine CallP.data rfl (c_equalR L ⟨kind, node, idx, route, links, need, hv⟩ w hrl) rfl ?_
        by_cases he : (⟨kind, node, idx, route, links, need, hv⟩ : Rsn) = w
        · rw [decide_eq_true he]
          refine Wk ?_
          exact resP.mk rfl (Sees.int (by rw [hfin, hi, if_pos ⟨rfl, he⟩]))
        · rw [decide_eq_false he]
          refine Wk ?_
          exact resP.mk rfl (Sees.int (by rw [hfin, if_neg (fun h => he h.2)]))
  · have g3 : (kind == 3) = false := by simpa using k3
    have hfin : verifyM n q len offs ⟨kind, node, idx, route, links, need, hv⟩ ab = if isR rsn0 = true ∧ ⟨kind, node, idx, route, links, need, hv⟩ = rsn0 then 0 else 20 := by rw [hE, want_zero (fun h => by simp only at h; omega) (fun h1 h2 h3 x hgx => by simp only at h1; omega) (fun h => absurd (show kind = 3 from h.1) (by omega))]
    repeat ((conv => whnf); first | refine sJ ?_ | refine And.intro (by first | exact trivial | kernel_rfl) ?_ | rw [g1] | rw [g2] | rw [g3])
    try (conv => whnf)
    first | refine CallK.data rfl (c_is L rsn0) rfl ?_ | refine CallP.data rfl (c_is L rsn0) rfl ?_
    refine Wk ?_
    exact resP.mk rfl (Sees.int (by rw [hfin, if_neg (fun h => by simp [isR, rsn0] at h)]))
end
end HM
