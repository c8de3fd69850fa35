/- Reasons: the reference's check, and its first one. -/
import Derived.Test.YtdjglaoahmaljaaGreatDoorS144
import Derived.Test.YtdjglaoahmaljaaGreatDoorDb

set_option maxRecDepth 100000
namespace HM
open Go Go.RowKit Go.Proofs
section
variable (L : World → Prop)

set_option maxHeartbeats 4000000 in
theorem c_proves39 (n : Net) (hn : n.small) (q : List Req) (hq : q.length ≤ 1099511627776) (hx : ∀ x ∈ q, x.small) (len offs : Int) (hQ : QOk n q len) (ho1 : 1 ≤ offs) (ho2 : offs ≤ 16) (r : Rsn) (hrl : r.links.length ≤ 1099511627776) : PCall Tryz.prog L 49 [n.av, encReqs q, .int .i64 len, .int .i64 offs, r.av] (.bool (provesB n q len offs r (apartB n q r.links))) := by
  have hok := hQ.net
  have hnb := hok.nodes
  have hq16 := hQ.q16
  have hl1 := hQ.sz.l1
  have hl2 := hQ.sz.l2
  have hmul : 0 ≤ len * offs ∧ len * offs ≤ 8192 := ⟨Int.mul_nonneg (by omega) (by omega), Int.le_trans (Int.mul_le_mul hl2 ho2 (by omega) (by omega)) (by decide)⟩
  have hwm : IntKind.i64.wrap (len * offs) = len * offs := by rw [w64] <;> omega
  obtain ⟨kind, node, idx, route, links, need, hv⟩ := r
  simp only at hrl ⊢
  refine PCall.intro mixed [] (nt := 120) Tryz.func49 rfl rfl (by simp) ?_
  by_cases k1 : kind = 1
  · subst k1
    have hw1 : IntKind.i64.wrap (n.nodes - 1) = n.nodes - 1 := by rw [w64] <;> omega
    repeat ((conv => whnf); first | refine sJ ?_ | refine And.intro (by first | exact trivial | kernel_rfl) ?_ | rw [hw1])
    try (conv => whnf)
    first | refine CallK.data rfl (c_in39 L node 0 (n.nodes - 1)) rfl ?_ | refine CallP.data rfl (c_in39 L node 0 (n.nodes - 1)) rfl ?_
    cases hi : inB node 0 (n.nodes - 1) with
    | true =>
      have hi' : 0 ≤ node ∧ node < n.nodes := by simp [inB] at hi; omega
      rw [proves_node (r := ⟨1, node, idx, route, links, need, hv⟩) ⟨rfl, hi'.1, hi'.2⟩]
      refine Wk ?_
      first | refine CallK.data rfl (c_at39 L n hn q hx len hQ node) rfl ?_ | refine CallP.data rfl (c_at39 L n hn q hx len hQ node) rfl ?_
      refine Wk ?_
      first | refine CallK.data rfl (c_Same39 L ⟨1, node, idx, route, links, need, hv⟩ ⟨1, node, 0, 0, [], sumW (needM q len) (n.links.filter (atN node)), len⟩ (by simp only; omega)) rfl ?_ | refine CallP.data rfl (c_Same39 L ⟨1, node, idx, route, links, need, hv⟩ ⟨1, node, 0, 0, [], sumW (needM q len) (n.links.filter (atN node)), len⟩ (by simp only; omega)) rfl ?_
      refine Wk ?_
      exact resP.mk rfl (Sees.bool (by unfold nodeR; rw [sumQ_need]))
    | false =>
      have hi' : ¬ (0 ≤ node ∧ node < n.nodes) := by simp [inB] at hi; omega
      rw [proves_no (r := ⟨1, node, idx, route, links, need, hv⟩) (fun h => hi' h.2) (fun h => absurd (show (1 : Int) = 2 from h) (by decide)) (fun h => absurd (show (1 : Int) = 3 from h.1) (by decide))]
      refine Wk ?_
      exact resP.mk rfl (Sees.bool rfl)
  have g1 : (kind == 1) = false := by simpa using k1
  by_cases k2 : kind = 2
  · subst k2
    have hw1 : IntKind.i64.wrap (((q.map Req.av).length : Int) - 1) = (q.length : Int) - 1 := by rw [List.length_map, w64] <;> omega
    repeat ((conv => whnf); first | refine sJ ?_ | refine And.intro (by first | exact trivial | kernel_rfl) ?_ | rw [hw1])
    try (conv => whnf)
    first | refine CallK.data rfl (c_in39 L idx 0 ((q.length : Int) - 1)) rfl ?_ | refine CallP.data rfl (c_in39 L idx 0 ((q.length : Int) - 1)) rfl ?_
    cases hi : inB idx 0 ((q.length : Int) - 1) with
    | false =>
      have hi' : ¬ (0 ≤ idx ∧ idx < q.length) := by simp [inB] at hi; omega
      rw [proves_no (r := ⟨2, node, idx, route, links, need, hv⟩) (fun h => absurd (show (2 : Int) = 1 from h.1) (by decide)) (fun _ h1 h2 x hgx => by
        simp only at h1 hgx
        have := (List.getElem?_eq_some_iff.1 hgx).1
        omega) (fun h => absurd (show (2 : Int) = 3 from h.1) (by decide))]
      refine Wk ?_
      exact resP.mk rfl (Sees.bool rfl)
    | true =>
      have hi' : 0 ≤ idx ∧ idx < q.length := by simp [inB] at hi; omega
      obtain ⟨i, rfl⟩ : ∃ i : Nat, idx = i := ⟨idx.toNat, by omega⟩
      have hit : i < q.length := by omega
      obtain ⟨x, hgx⟩ := getLt hit
      have hmx := getMap (f := Req.av) hgx
      have hxo := hQ.req x (List.mem_of_getElem? hgx)
      have hxl := hxo.len
      have hw2 : IntKind.i64.wrap (((x.routes.map encIs).length : Int) - 1) = (x.routes.length : Int) - 1 := by rw [List.length_map, w64] <;> omega
      repeat ((conv => whnf); first | refine sJ ?_ | refine And.intro (by first | exact inbMap hit | kernel_rfl) ?_ | rw [hmx] | rw [hw2])
      try (conv => whnf)
      first | refine CallK.data rfl (c_in39 L route 0 ((x.routes.length : Int) - 1)) rfl ?_ | refine CallP.data rfl (c_in39 L route 0 ((x.routes.length : Int) - 1)) rfl ?_
      cases hj : inB route 0 ((x.routes.length : Int) - 1) with
      | false =>
        have hj' : ¬ (0 ≤ route ∧ route < x.routes.length) := by simp [inB] at hj; omega
        rw [proves_no (r := ⟨2, node, (i : Int), route, links, need, hv⟩) (fun h => absurd (show (2 : Int) = 1 from h.1) (by decide)) (fun _ h1 h2 y hgy => by
          simp only [Int.toNat_natCast] at h2 hgy ⊢
          rw [hgx] at hgy; injection hgy with hgy; subst hgy
          exact List.getElem?_eq_none (by omega)) (fun h => absurd (show (2 : Int) = 3 from h.1) (by decide))]
        refine Wk ?_
        exact resP.mk rfl (Sees.bool rfl)
      | true =>
        have hj' : 0 ≤ route ∧ route < x.routes.length := by simp [inB] at hj; omega
        obtain ⟨k, rfl⟩ : ∃ k : Nat, route = k := ⟨route.toNat, by omega⟩
        have hkt : k < x.routes.length := by omega
        obtain ⟨y, hgy⟩ := getLt hkt
        have hmy := getMap (f := encIs) hgy
        have hro := routeF_ok (hxo.route y (List.mem_of_getElem? hgy))
        rw [proves_win (r := ⟨2, node, (i : Int), (k : Int), links, need, hv⟩) (x := x) (y := y) ⟨rfl, Int.natCast_nonneg _, Int.natCast_nonneg _⟩ hgx hgy]
        repeat ((conv => whnf); first | refine sJ ?_ | refine And.intro (by first | exact inbMap hit | exact inbMap hkt | kernel_rfl) ?_ | rw [hmx] | rw [hmy])
        try (conv => whnf)
        first | refine CallK.data rfl (c_Sum33 L n hn hok y (by omega) hro.2.1) rfl ?_ | refine CallP.data rfl (c_Sum33 L n hn hok y (by omega) hro.2.1) rfl ?_
        repeat ((conv => whnf); first | refine sJ ?_ | refine And.intro (by first | exact inbMap hit | kernel_rfl) ?_ | rw [hmx])
        try (conv => whnf)
        first | refine CallK.data rfl (c_Same39 L ⟨2, node, (i : Int), (k : Int), links, need, hv⟩ ⟨2, 0, i, k, [], costR n y (y.length - 1), x.flow.dead⟩ (by simp only; omega)) rfl ?_ | refine CallP.data rfl (c_Same39 L ⟨2, node, (i : Int), (k : Int), links, need, hv⟩ ⟨2, 0, i, k, [], costR n y (y.length - 1), x.flow.dead⟩ (by simp only; omega)) rfl ?_
        refine Wk ?_
        exact resP.mk rfl (Sees.bool rfl)
  have g2 : (kind == 2) = false := by simpa using k2
  by_cases k3 : kind = 3
  · subst k3
    have hab := apart_ref hok q links
    have hals : (allM n q).length ≤ 281474976710656 := by
      have h1 := (all_sub n q).length_le
      have h2 := hok.many
      omega
    repeat ((conv => whnf); first | refine sJ ?_ | refine And.intro (by first | exact trivial | kernel_rfl) ?_ | rw [g1] | rw [g2])
    try (conv => whnf)
    first | refine CallK.data rfl (c_used39 L n hok q hq hx) rfl ?_ | refine CallP.data rfl (c_used39 L n hok q hq hx) rfl ?_
    refine Wk ?_
    first | refine CallK.data rfl (c_links39 L (allM n q) links hals (by omega)) rfl ?_ | refine CallP.data rfl (c_links39 L (allM n q) links hals (by omega)) rfl ?_
    cases hli : (decide (List.Sublist links (allM n q)) && decide (0 < links.length)) with
    | false =>
      rw [hli, Bool.false_and] at hab
      rw [hab, proves_no (r := ⟨3, node, idx, route, links, need, hv⟩) (fun h => absurd (show (3 : Int) = 1 from h.1) (by decide)) (fun h => absurd (show (3 : Int) = 2 from h) (by decide)) (fun h => Bool.noConfusion h.2)]
      refine Wk ?_
      exact resP.mk rfl (Sees.bool rfl)
    | true =>
      rw [hli, Bool.true_and] at hab
      have hsub : List.Sublist links (allM n q) := by
        simp only [Bool.and_eq_true, decide_eq_true_eq] at hli
        exact hli.1
      have hsl := hsub.trans (all_sub n q)
      have hsll := hsl.length_le
      have hmany := hok.many
      refine Wk ?_
      first | refine CallK.data rfl (c_apart39 L n hn links (by omega)) rfl ?_ | refine CallP.data rfl (c_apart39 L n hn links (by omega)) rfl ?_
      cases hpb : pairB n links with
      | false =>
        rw [hpb] at hab
        rw [hab, proves_no (r := ⟨3, node, idx, route, links, need, hv⟩) (fun h => absurd (show (3 : Int) = 1 from h.1) (by decide)) (fun h => absurd (show (3 : Int) = 2 from h) (by decide)) (fun h => Bool.noConfusion h.2)]
        refine Wk ?_
        exact resP.mk rfl (Sees.bool rfl)
      | true =>
        rw [hpb] at hab
        rw [hab, proves_grp (r := ⟨3, node, idx, route, links, need, hv⟩) rfl]
        refine Wk ?_
        first | refine CallK.data rfl (c_total39 L n hok q hx len hQ links (fun l h => hsl.subset h) (by omega)) rfl ?_ | refine CallP.data rfl (c_total39 L n hok q hx len hQ links (fun l h => hsl.subset h) (by omega)) rfl ?_
        repeat ((conv => whnf); first | refine sJ ?_ | refine And.intro (by first | exact trivial | kernel_rfl) ?_ | rw [hwm])
        try (conv => whnf)
        first | refine CallK.data rfl (c_Same39 L ⟨3, node, idx, route, links, need, hv⟩ ⟨3, 0, 0, 0, links, sumW (needM q len) links, len * offs⟩ (by simp only; omega)) rfl ?_ | refine CallP.data rfl (c_Same39 L ⟨3, node, idx, route, links, need, hv⟩ ⟨3, 0, 0, 0, links, sumW (needM q len) links, len * offs⟩ (by simp only; omega)) rfl ?_
        refine Wk ?_
        exact resP.mk rfl (Sees.bool (by unfold groupR; rw [sumQ_grp hok q len hsl]))
  · have g3 : (kind == 3) = false := by simpa using k3
    rw [proves_no (r := ⟨kind, node, idx, route, links, need, hv⟩) (fun h => k1 h.1) (fun h => absurd h k2) (fun h => k3 h.1)]
    repeat ((conv => whnf); first | refine sJ ?_ | refine And.intro (by first | exact trivial | kernel_rfl) ?_ | rw [g1] | rw [g2] | rw [g3])
    try (conv => whnf)
    exact resP.mk rfl (Sees.bool rfl)

set_option maxHeartbeats 1000000 in
theorem c_Verify39 (n : Net) (hn : n.small) (q : List Req) (hq : q.length ≤ 1099511627776) (hx : ∀ x ∈ q, x.small) (len offs : Int) (r : Rsn) (hrl : r.links.length ≤ 1099511627776) : PCall Tryz.prog L 16 [n.av, encReqs q, .int .i64 len, .int .i64 offs, r.av] (.int .i64 (verifyM n q len offs r (apartB n q r.links))) := by
  refine PCall.intro mixed [] (nt := 36) Tryz.func16 rfl rfl (by simp) ?_
  refine Wk ?_
  first | refine CallK.data rfl (c_right39 L n hn q hq hx len) rfl ?_ | refine CallP.data rfl (c_right39 L n hn q hq hx len) rfl ?_
  refine Wk ?_
  refine BrK.mk (fun h1 => ?_) (fun h1 => ?_) <;> (try rw [h1])
  · refine Wk ?_
    exact resP.mk rfl (Sees.int (by rw [verifyM, if_pos (by simpa using h1)]))
  have h1' : sizedQ n q len = 0 := by simpa using h1
  refine Wk ?_
  first | refine CallK.data rfl (c_in39 L offs 1 16) rfl ?_ | refine CallP.data rfl (c_in39 L offs 1 16) rfl ?_
  refine Wk ?_
  refine BrK.mk (fun h2 => ?_) (fun h2 => ?_) <;> (try rw [h2])
  · refine Wk ?_
    exact resP.mk rfl (Sees.int (by rw [verifyM, if_neg (by simp [h1']), if_pos (by simp [inB] at h2; omega)]))
  have e2 : ¬ (offs < 1 ∨ 16 < offs) := by simp [inB] at h2; omega
  rw [verify_proves h1' e2]
  by_cases h3 : r.need ≤ r.have_
  · have g3 : decide (r.need ≤ r.have_) = true := decide_eq_true h3
    repeat ((conv => whnf); first | refine sJ ?_ | refine And.intro (by first | exact trivial | kernel_rfl) ?_ | rw [g3])
    try (conv => whnf)
    exact resP.mk rfl (Sees.int (by rw [if_neg (fun h => by have := h.1; simp [isR] at this; omega)]))
  · have g3 : decide (r.need ≤ r.have_) = false := decide_eq_false h3
    have hr : isR r = true := by simp [isR]; omega
    rw [hr]
    repeat ((conv => whnf); first | refine sJ ?_ | refine And.intro (by first | exact trivial | kernel_rfl) ?_ | rw [g3])
    try (conv => whnf)
    first | refine CallK.data rfl (c_proves39 L n hn q hq hx len offs (sizedQ_ok h1').q (by omega) (by omega) r hrl) rfl ?_ | refine CallP.data rfl (c_proves39 L n hn q hq hx len offs (sizedQ_ok h1').q (by omega) (by omega) r hrl) rfl ?_
    cases hp : provesB n q len offs r (apartB n q r.links) with
    | true =>
      refine Wk ?_
      exact resP.mk rfl (Sees.int (by simp))
    | false =>
      refine Wk ?_
      exact resP.mk rfl (Sees.int (by simp))
end
end HM
