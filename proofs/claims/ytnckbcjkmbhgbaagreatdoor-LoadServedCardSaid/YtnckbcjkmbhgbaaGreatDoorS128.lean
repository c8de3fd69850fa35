/- Reasons of nodes and routes. -/
import Derived.Test.YtnckbcjkmbhgbaaGreatDoorS124
import Derived.Test.YtnckbcjkmbhgbaaGreatDoorDa
/- Reasons of nodes and routes. -/
set_option maxRecDepth 100000
namespace HM
open Go Go.RowKit Go.Proofs
section
variable (L : World → Prop)
theorem c_is (r : Rsn) : PCall Tryz.prog L 248 [r.av] (.bool (isR r)) := by
  refine PCall.intro mixed [] (nt := 8) Tryz.func248 rfl rfl (by simp) ?_
  refine Wk ?_
  exact resP.mk rfl (Sees.bool rfl)

theorem c_qnode (n : Net) (hn : n.small) (q : List Req) (hx : ∀ x ∈ q, x.small) (len offs a : Int) (hQ : QOk n q len) : PCall Tryz.prog L 244 [qnAv n q len offs, .int .i64 a] (nodeR n q len a).av := by
  refine PCall.intro mixed [] (nt := 18) Tryz.func244 rfl rfl (by simp) ?_
  refine Wk ?_
  first | refine CallK.data rfl (c_at L a) rfl ?_ | refine CallP.data rfl (c_at L a) rfl ?_
  refine Wk ?_
  first | refine CallK.data rfl (c_lsum L n hn q hx len hQ (atN a) 326 [.cptr (.agg [.int .i64 a]) 0] rfl rfl (fun l _ => c_at1 L l a)) rfl ?_ | refine CallP.data rfl (c_lsum L n hn q hx len hQ (atN a) 326 [.cptr (.agg [.int .i64 a]) 0] rfl rfl (fun l _ => c_at1 L l a)) rfl ?_
  refine Wk ?_
  exact resP.mk rfl (Sees.of_eq rfl)

theorem costR_bd {n : Net} {r : List Int} {k : Nat} (h : NetOk n) (hg : ∀ i, i < k → 0 ≤ findL n (r.getD i 0) (r.getD (i + 1) 0)) : 0 ≤ costR n r k ∧ costR n r k ≤ k * 8 := by
  unfold costR
  have := sumW_bd (f := fun l : Link => l.loss + 1) (m := 8) (by omega) (l := linksR n r k) fun l hl => by
    unfold linksR at hl
    obtain ⟨i, hi, rfl⟩ := List.mem_map.1 hl
    have := link_bd h (lnkAt_mem (hg i (by simpa using hi))).1
    omega
  rw [linksR_len] at this
  exact this

set_option maxHeartbeats 1000000 in
theorem c_qwindow (n : Net) (hn : n.small) (q : List Req) (len offs : Int) (i k : Nat) (x : Req) (r : List Int) (h0 : netE n = 0) (hgx : q[i]? = some x) (hgr : x.routes[k]? = some r) (hxo : ReqOk n x) : PCall Tryz.prog L 245 [qnAv n q len offs, .int .i64 i, .int .i64 k] (windowR n x i k r).av := by
  have hok := netE_ok h0
  obtain ⟨⟨hr2, hr9⟩, hhop, _⟩ := routeF_ok (hxo.route r (List.mem_of_getElem? hgr))
  have hmx := getMap (f := Req.av) hgx
  have hmr := getMap (f := encIs) hgr
  have hit := (List.getElem?_eq_some_iff.1 hgx).1
  have hkt := (List.getElem?_eq_some_iff.1 hgr).1
  refine PCall.intro mixed [] (nt := 57) Tryz.func245 rfl rfl (by simp) ?_
  repeat ((conv => whnf); first | refine sJ ?_ | refine And.intro (by first | exact inbMap hit | exact inbMap hkt | kernel_rfl) ?_ | rw [hmx] | rw [hmr])
  try (conv => whnf)
  refine LoopK.run mixed [] (fun (j : Nat) => 1 ≤ j ∧ j ≤ r.length) (fun j => [(1, .int .i64 i), (2, .int .i64 k), (3, .ptr 0 0), (6, .ptr 1 0), (7, .int .i64 (costR n r (j - 1))), (8, .int .i64 j), (9, encIs r)]) (fun _ => ⟨[.cells (qnCs n q len offs) 232, .cells [.int .i64 0, .int .i64 0, .int .i64 0, .int .i64 0, .nils, .int .i64 0, .int .i64 0] 115], [], 0, 0, fun _ => 0⟩) (fun j => r.length - j) 1 ⟨by omega, by omega⟩ ?_ ?_
  · refine Fits.mk' rfl rfl rfl rfl ?_ ?_ ?_ ?_ ?_ <;> repeat' (first | exact trivial | refine And.intro ?_ ?_ | exact Sees.of_eq rfl | exact lt_b rfl | rfl | exact SeesL.rfl' _ | exact Sees.int (by simp [costR, linksR, sumW]))
  rintro j ⟨hj1, hj2⟩
  obtain ⟨j, rfl⟩ : ∃ m, j = m + 1 := ⟨j - 1, by omega⟩
  rw [Nat.add_sub_cancel]
  refine Wk ?_
  refine BrK.mk (fun hb => ?_) (fun hb => ?_) <;> (try rw [hb])
  · have hjt : j + 1 < r.length := by simp at hb; omega
    have hw : IntKind.i64.wrap (((j + 1 : Nat) : Int) - 1) = (j : Int) := by rw [w64] <;> omega
    obtain ⟨a, hga⟩ := getLt (l := r) (k := j) (by omega)
    obtain ⟨b, hgb⟩ := getLt hjt
    have hma := getMap (f := encI) hga
    have hmb := getMap (f := encI) hgb
    have hg := hhop j hjt
    have ha : r.getD j 0 = a := by rw [List.getD_eq_getElem?_getD, hga]; rfl
    have hb' : r.getD (j + 1) 0 = b := by rw [List.getD_eq_getElem?_getD, hgb]; rfl
    have hcs := costR_succ n r j
    have hcb := costR_bd hok (r := r) (k := j + 1) fun m hm => good_find (hhop m (by omega))
    have hcb0 := costR_bd hok (r := r) (k := j) fun m hm => good_find (hhop m (by omega))
    rw [ha, hb'] at hg hcs
    obtain ⟨p, hp, hgp⟩ := lnkAt_get (good_find hg)
    have hmp := getMap (f := Link.av) hgp
    have hpl := (List.getElem?_eq_some_iff.1 hgp).1
    have hidx : indexN n a b = (p : Int) := by rw [indexN, if_pos h0, hp]
    obtain ⟨b1, b2⟩ := link_bd hok (List.mem_of_getElem? hgp)
    have hw1 : IntKind.i64.wrap ((lnkAt n a b).loss + 1) = (lnkAt n a b).loss + 1 := by rw [w64] <;> omega
    repeat ((conv => whnf); first | refine sJ ?_ | refine And.intro (by first | exact inbMap hjt | (rw [hw]; exact inbMap (by omega)) | kernel_rfl) ?_ | rw [hw] | rw [hma] | rw [hmb])
    try (conv => whnf)
    first | refine CallK.data rfl (c_index L n hn a b) rfl ?_ | refine CallP.data rfl (c_index L n hn a b) rfl ?_
    rw [hidx]
    repeat ((conv => whnf); first | refine sJ ?_ | refine And.intro (by first | exact inbMap hpl | kernel_rfl) ?_ | rw [hmp])
    try (conv => whnf)
    refine ⟨j + 2, ⟨by omega, by omega⟩, by omega, ?_⟩
    rw [show j + 2 - 1 = j + 1 from rfl, hcs]
    refine Fits.mk' rfl rfl rfl rfl ?_ ?_ ?_ ?_ ?_ <;> repeat' (first | exact trivial | refine And.intro ?_ ?_ | exact Sees.of_eq rfl | exact lt_b rfl | rfl | exact SeesL.rfl' _ | exact Sees.int (by rw [w64] <;> omega) | exact Sees.int (by rw [hw1, w64] <;> omega))
  · have hjr : j = r.length - 1 := by simp at hb; omega
    repeat ((conv => whnf); first | refine sJ ?_ | refine And.intro (by first | exact inbMap hit | kernel_rfl) ?_ | rw [hmx])
    try (conv => whnf)
    exact resP.mk rfl (Sees.of_eq (by rw [hjr]; rfl))

def encOptR (r : Option Rsn) : AV := .tup [(optR r).1.av, .bool (optR r).2]
set_option maxHeartbeats 1000000 in
theorem c_byNode (n : Net) (hn : n.small) (q : List Req) (hx : ∀ x ∈ q, x.small) (len offs : Int) (hQ : QOk n q len) : PCall Tryz.prog L 161 [qnAv n q len offs] (encOptR (byNodeM n q len)) := by
  have hnb := hQ.net.nodes
  refine PCall.intro mixed [] (nt := 20) Tryz.func161 rfl rfl (by simp) ?_
  refine Wk ?_
  refine LoopK.run mixed [] (fun (k : Nat) => k ≤ n.nodes.toNat ∧ ∀ j, j < k → asR (nodeR n q len j) = none) (fun k => [(1, .ptr 0 0), (2, .ptr 1 0), (8, .int .i64 n.nodes), (9, .int .i64 k)]) (fun k => ⟨[.cells (qnCs n q len offs) 232, .cells [.int .i64 0, .int .i64 0, .int .i64 0, .int .i64 0, .nils, .int .i64 0, .int .i64 0] 115], [], 0, 0, fun _ => 0⟩) (fun k => n.nodes.toNat - k) 0 ⟨by simp, by simp⟩ ?_ ?_
  · refine Fits.mk' rfl rfl rfl rfl ?_ ?_ ?_ ?_ ?_ <;> repeat' (first | exact trivial | refine And.intro ?_ ?_ | exact Sees.of_eq rfl | exact lt_b rfl | rfl | exact SeesL.rfl' _)
  rintro k ⟨hk, hinv⟩
  refine Wk ?_
  refine BrK.mk (fun hb => ?_) (fun hb => ?_) <;> (try rw [hb])
  · have hlt : k < n.nodes.toNat := by simp at hb; omega
    refine Wk ?_
    first | refine CallK.data rfl (c_qnode L n hn q hx len offs k hQ) rfl ?_ | refine CallP.data rfl (c_qnode L n hn q hx len offs k hQ) rfl ?_
    obtain ⟨r, hr⟩ : ∃ r, r = nodeR n q len k := ⟨_, rfl⟩
    rw [← hr]
    refine Wk ?_
    first | refine CallK.data rfl (c_is L r) rfl ?_ | refine CallP.data rfl (c_is L r) rfl ?_
    refine Wk ?_
    refine BrK.mk (fun h1 => ?_) (fun h1 => ?_) <;> (try rw [h1])
    · have hs : asR (nodeR n q len k) = some r := by rw [← hr, asR, if_pos h1]
      have hf : byNodeM n q len = some r := firstO_hit (f := fun a : Nat => asR (nodeR n q len a)) hinv hs hlt
      refine Wk ?_
      exact resP.mk rfl (Sees.of_eq (by rw [hf]; rfl))
    · have hs : asR (nodeR n q len k) = none := by rw [← hr, asR, if_neg (by simp [h1])]
      refine Wk ?_
      refine ⟨k + 1, ⟨by omega, fun j hj => ?_⟩, by omega, ?_⟩
      · rcases Nat.lt_succ_iff_lt_or_eq.1 hj with h | rfl
        · exact hinv j h
        · exact hs
      · refine Fits.mk' rfl rfl rfl rfl ?_ ?_ ?_ ?_ ?_ <;> repeat' (first | exact trivial | refine And.intro ?_ ?_ | exact Sees.of_eq rfl | exact lt_b rfl | rfl | exact Sees.int (by rw [w64] <;> omega) | exact SeesL.rfl' _)
  · have hk' : k = n.nodes.toNat := by simp at hb; omega
    have hf : byNodeM n q len = none := firstO_none (f := fun a : Nat => asR (nodeR n q len a)) (hk' ▸ hinv)
    refine Wk ?_
    exact resP.mk rfl (Sees.of_eq (by rw [hf]; rfl))

set_option maxHeartbeats 2000000 in
theorem c_byWindow (n : Net) (hn : n.small) (q : List Req) (_ : ∀ x ∈ q, x.small) (len offs : Int) (hQ : QOk n q len) : PCall Tryz.prog L 162 [qnAv n q len offs] (encOptR (byWindowM n q)) := by
  have hq16 := hQ.q16
  refine PCall.intro mixed [] (nt := 32) Tryz.func162 rfl rfl (by simp) ?_
  refine Wk ?_
  refine LoopK.run mixed [] (fun (k : Nat) => k ≤ q.length ∧ ∀ j, j < k → winQ n q j = none) (fun k => [(1, .ptr 0 0), (2, .ptr 1 0), (9, encReqs q), (10, .int .i64 q.length), (11, .int .i64 k)]) (fun k => ⟨[.cells (qnCs n q len offs) 232, .cells [.int .i64 0, .int .i64 0, .int .i64 0, .int .i64 0, .nils, .int .i64 0, .int .i64 0] 115], [], 0, 0, fun _ => 0⟩) (fun k => q.length - k) 0 ⟨by simp, by simp⟩ ?_ ?_
  · refine Fits.mk' rfl rfl rfl rfl ?_ ?_ ?_ ?_ ?_ <;> repeat' (first | exact trivial | refine And.intro ?_ ?_ | exact Sees.of_eq rfl | exact lt_b rfl | rfl | exact SeesL.rfl' _ | exact Sees.int (by simp))
  rintro k ⟨hk, hinv⟩
  refine Wk ?_
  refine BrK.mk (fun hb => ?_) (fun hb => ?_) <;> (try rw [hb])
  · have hlt : k < q.length := by simpa using hb
    obtain ⟨x, hgx⟩ := getLt hlt
    have hmx := getMap (f := Req.av) hgx
    have hxm := List.mem_of_getElem? hgx
    have hxo := hQ.req x hxm
    have hx2 := hxo.len
    have hwq : winQ n q k = winX n x k := by unfold winQ; rw [hgx]
    repeat ((conv => whnf); first | refine sJ ?_ | refine And.intro (by first | exact inbMap hlt | kernel_rfl) ?_ | rw [hmx])
    try (conv => whnf)
    refine LoopK.run mixed [] (fun (j : Nat) => j ≤ x.routes.length ∧ ∀ i, i < j → winAt n x k i = none) (fun j => [(1, .ptr 0 0), (2, .ptr 1 0), (4, .int .i64 k), (9, encReqs q), (10, .int .i64 q.length), (11, .int .i64 k), (17, encRows x.routes), (18, .int .i64 x.routes.length), (19, .int .i64 j)]) (fun j => ⟨[.cells (qnCs n q len offs) 232, .cells [.int .i64 0, .int .i64 0, .int .i64 0, .int .i64 0, .nils, .int .i64 0, .int .i64 0] 115], [], 0, 0, fun _ => 0⟩) (fun j => x.routes.length - j) 0 ⟨by simp, by simp⟩ ?_ ?_
    · refine Fits.mk' rfl rfl rfl rfl ?_ ?_ ?_ ?_ ?_ <;> repeat' (first | exact trivial | refine And.intro ?_ ?_ | exact Sees.of_eq rfl | exact lt_b rfl | rfl | exact SeesL.rfl' _ | exact Sees.int (by simp))
    rintro j ⟨hj, hinv2⟩
    refine Wk ?_
    refine BrK.mk (fun hd => ?_) (fun hd => ?_) <;> (try rw [hd])
    · have hjt : j < x.routes.length := by simpa using hd
      obtain ⟨r, hgr⟩ := getLt hjt
      have hwa : winAt n x k j = asR (windowR n x k j r) := by unfold winAt; rw [hgr]
      refine Wk ?_
      first | refine CallK.data rfl (c_qwindow L n hn q len offs k j x r hQ.n0 hgx hgr hxo) rfl ?_ | refine CallP.data rfl (c_qwindow L n hn q len offs k j x r hQ.n0 hgx hgr hxo) rfl ?_
      obtain ⟨w, hw⟩ : ∃ w, w = windowR n x k j r := ⟨_, rfl⟩
      rw [← hw]
      refine Wk ?_
      first | refine CallK.data rfl (c_is L w) rfl ?_ | refine CallP.data rfl (c_is L w) rfl ?_
      refine Wk ?_
      refine BrK.mk (fun h1 => ?_) (fun h1 => ?_) <;> (try rw [h1])
      · have hs : winAt n x k j = some w := by rw [hwa, ← hw, asR, if_pos h1]
        have hf : byWindowM n q = some w := firstO_hit hinv (hwq.trans (firstO_hit hinv2 hs hjt)) hlt
        refine Wk ?_
        exact resP.mk rfl (Sees.of_eq (by rw [hf]; rfl))
      · have hs : winAt n x k j = none := by rw [hwa, ← hw, asR, if_neg (by simp [h1])]
        refine Wk ?_
        refine ⟨j + 1, ⟨by omega, fun m hm => ?_⟩, by omega, ?_⟩
        · rcases Nat.lt_succ_iff_lt_or_eq.1 hm with h | rfl
          · exact hinv2 m h
          · exact hs
        · refine Fits.mk' rfl rfl rfl rfl ?_ ?_ ?_ ?_ ?_ <;> repeat' (first | exact trivial | refine And.intro ?_ ?_ | exact Sees.of_eq rfl | exact lt_b rfl | rfl | exact Sees.int (by rw [w64] <;> omega) | exact SeesL.rfl' _)
    · have hj' : j = x.routes.length := by simp at hd; omega
      have hs : winQ n q k = none := hwq.trans (firstO_none (hj' ▸ hinv2))
      refine Wk ?_
      refine ⟨k + 1, ⟨by omega, fun m hm => ?_⟩, by omega, ?_⟩
      · rcases Nat.lt_succ_iff_lt_or_eq.1 hm with h | rfl
        · exact hinv m h
        · exact hs
      · refine Fits.mk' rfl rfl rfl rfl ?_ ?_ ?_ ?_ ?_ <;> repeat' (first | exact trivial | refine And.intro ?_ ?_ | exact Sees.of_eq rfl | exact lt_b rfl | rfl | exact Sees.int (by rw [w64] <;> omega) | exact SeesL.rfl' _)
  · have hk' : k = q.length := by simp at hb; omega
    have hf : byWindowM n q = none := firstO_none (hk' ▸ hinv)
    refine Wk ?_
    exact resP.mk rfl (Sees.of_eq (by rw [hf]; rfl))

theorem link_dec (x y : Link) : (x.src == y.src && (x.dst == y.dst && (x.loss == y.loss && true))) = decide (x = y) := by
  rw [Bool.eq_iff_iff]
  simp only [Bool.and_eq_true, beq_iff_eq, and_true, decide_eq_true_eq]
  constructor
  · rintro ⟨h1, h2, h3⟩
    cases x; cases y
    simp only at h1 h2 h3
    subst h1; subst h2; subst h3; rfl
  · rintro rfl; exact ⟨rfl, rfl, rfl⟩
theorem c_EqLinks (a b : List Link) (ha : a.length ≤ 281474976710656) : PCall Tryz.prog L 331 [encLinks a, encLinks b] (.bool (decide (a = b))) := by
  refine PCall.intro mixed [] (nt := 26) Tryz.func331 rfl rfl (by simp) ?_
  refine Wk ?_
  refine BrK.mk (fun h1 => ?_) (fun h1 => ?_) <;> (try rw [h1])
  · have hne : a.length ≠ b.length := by simp at h1; omega
    refine Wk ?_
    exact resP.mk rfl (Sees.bool (by rw [decide_eq_false (fun h => hne (by rw [h]))]))
  have hl : a.length = b.length := by simp at h1; omega
  refine Wk ?_
  refine LoopK.run mixed [] (fun (k : Nat) => k ≤ a.length ∧ ∀ (j : Nat) x y, j < k → a[j]? = some x → b[j]? = some y → x = y) (fun k => [(0, encLinks a), (1, encLinks b), (12, .int .i64 a.length), (13, .int .i64 k)]) (fun k => St.none) (fun k => a.length - k) 0 ⟨by simp, by simp⟩ ?_ ?_
  · refine Fits.mk' rfl rfl rfl rfl ?_ ?_ ?_ ?_ ?_ <;> repeat' (first | exact trivial | refine And.intro ?_ ?_ | exact Sees.of_eq rfl | exact lt_b rfl | rfl | exact Sees.int (by simp))
  rintro k ⟨hk, hinv⟩
  refine Wk ?_
  refine BrK.mk (fun hb => ?_) (fun hb => ?_) <;> (try rw [hb])
  · have hkt : k < a.length := by simpa using hb
    obtain ⟨x, hgx⟩ := getLt hkt
    obtain ⟨y, hgy⟩ := getLt (l := b) (k := k) (by omega)
    have hmx := getMap (f := Link.av) hgx
    have hmy := getMap (f := Link.av) hgy
    have hdec := link_dec x y
    repeat ((conv => whnf); first | refine sJ ?_ | refine And.intro (by first | exact inbMap hkt | exact inbMap (by omega : k < b.length) | kernel_rfl) ?_ | rw [hmx] | rw [hmy])
    try (conv => whnf)
    rw [hdec]
    refine BrK.mk (fun h2 => ?_) (fun h2 => ?_) <;> (try rw [h2])
    · have hne : ¬ a = b := fun h => by
        subst h
        rw [hgx] at hgy
        injection hgy with hgy
        subst hgy
        simp at h2
      refine Wk ?_
      exact resP.mk rfl (Sees.bool (by rw [decide_eq_false hne]))
    · have hxy : x = y := by simpa using h2
      refine Wk ?_
      refine ⟨k + 1, ⟨by omega, fun j x' y' hj hx' hy' => ?_⟩, by omega, ?_⟩
      · rcases Nat.lt_succ_iff_lt_or_eq.1 hj with h | rfl
        · exact hinv j x' y' h hx' hy'
        · rw [hgx] at hx'; rw [hgy] at hy'; injection hx' with hx'; injection hy' with hy'; rw [← hx', ← hy', hxy]
      · refine Fits.mk' rfl rfl rfl rfl ?_ ?_ ?_ ?_ ?_ <;> repeat' (first | exact trivial | refine And.intro ?_ ?_ | exact Sees.of_eq rfl | exact lt_b rfl | rfl | exact Sees.int (succI hkt ha))
  · have hkn : k = a.length := by simp at hb; omega
    subst hkn
    refine Wk ?_
    exact resP.mk rfl (Sees.bool (by rw [decide_eq_true (eq_of_at hl hinv)]))
end
end HM

/- Reasons: the first one; whether one is one. -/
set_option maxRecDepth 100000
namespace HM
open Go Go.RowKit Go.Proofs
section
variable (L : World → Prop)

set_option maxHeartbeats 1000000 in
theorem c_equalR (a b : Rsn) (ha : a.links.length ≤ 281474976710656) : PCall Tryz.prog L 249 [a.av, b.av] (.bool (decide (a = b))) := by
  have hd : decide (a = b) = (decide (a.links = b.links) && (a.kind == b.kind) && (a.node == b.node) && (a.idx == b.idx) && (a.route == b.route) && (a.need == b.need) && (a.have_ == b.have_)) := by
    rw [Bool.eq_iff_iff]
    cases a; cases b
    simp only [decide_eq_true_eq, Rsn.mk.injEq, Bool.and_eq_true, beq_iff_eq]
    constructor
    · rintro ⟨h1, h2, h3, h4, h5, h6, h7⟩; exact ⟨⟨⟨⟨⟨⟨h5, h1⟩, h2⟩, h3⟩, h4⟩, h6⟩, h7⟩
    · rintro ⟨⟨⟨⟨⟨⟨h5, h1⟩, h2⟩, h3⟩, h4⟩, h6⟩, h7⟩; exact ⟨h1, h2, h3, h4, h5, h6, h7⟩
  rw [hd]
  refine PCall.intro mixed [] (nt := 56) Tryz.func249 rfl rfl (by simp) ?_
  refine Wk ?_
  first | refine CallK.data rfl (c_EqLinks L a.links b.links ha) rfl ?_ | refine CallP.data rfl (c_EqLinks L a.links b.links ha) rfl ?_
  generalize decide (a.links = b.links) = e0
  cases e0
  · refine Wk ?_
    exact resP.mk rfl (Sees.bool (by simp))
  refine Wk ?_
  cases h1 : a.kind == b.kind
  · refine Wk ?_
    exact resP.mk rfl (Sees.bool (by simp))
  refine Wk ?_
  cases h2 : a.node == b.node
  · refine Wk ?_
    exact resP.mk rfl (Sees.bool (by simp))
  refine Wk ?_
  cases h3 : a.idx == b.idx
  · refine Wk ?_
    exact resP.mk rfl (Sees.bool (by simp))
  refine Wk ?_
  cases h4 : a.route == b.route
  · refine Wk ?_
    exact resP.mk rfl (Sees.bool (by simp))
  refine Wk ?_
  cases h5 : a.need == b.need
  · refine Wk ?_
    exact resP.mk rfl (Sees.bool (by simp))
  refine Wk ?_
  exact resP.mk rfl (Sees.bool (by simp))

set_option maxHeartbeats 1000000 in
theorem c_Reason (n : Net) (hn : n.small) (q : List Req) (hq : q.length ≤ 1099511627776) (hx : ∀ x ∈ q, x.small) (len offs : Int) (gr : Option Rsn) (gx : Rsn × Bool) (hgx : gr = if gx.2 then some gx.1 else none)
    (hG : QOk n q len → 1 ≤ offs → offs ≤ 16 → byNodeM n q len = none → byWindowM n q = none → PCall Tryz.prog L 163 [qnAv n q len offs] (.tup [gx.1.av, .bool gx.2])) :
    PCall Tryz.prog L 65 [n.av, encReqs q, .int .i64 len, .int .i64 offs] (.tup [(reasonM n q len offs gr).1.av, .bool (reasonM n q len offs gr).2.1, .int .i64 (reasonM n q len offs gr).2.2]) := by
  refine PCall.intro mixed [] (nt := 51) Tryz.func65 rfl rfl (by simp) ?_
  refine Wk ?_
  first | refine CallK.data rfl (c_lsized L n hn q hq hx len) rfl ?_ | refine CallP.data rfl (c_lsized L n hn q hq hx len) rfl ?_
  refine Wk ?_
  refine BrK.mk (fun h1 => ?_) (fun h1 => ?_) <;> (try rw [h1])
  · refine Wk ?_
    exact resP.mk rfl (Sees.of_eq (by rw [reasonM_bad (by simpa using h1)]; rfl))
  have h1' : sizedQ n q len = 0 := by simpa using h1
  have hQ := (sizedQ_ok h1').q
  refine Wk ?_
  refine BrK.mk (fun h2 => ?_) (fun h2 => ?_) <;> (try rw [h2])
  · refine Wk ?_
    exact resP.mk rfl (Sees.of_eq (by rw [reasonM_off h1' (.inl (by simpa using h2))]; rfl))
  refine Wk ?_
  refine BrK.mk (fun h3 => ?_) (fun h3 => ?_) <;> (try rw [h3])
  · refine Wk ?_
    exact resP.mk rfl (Sees.of_eq (by rw [reasonM_off h1' (.inr (by simpa using h3))]; rfl))
  have e2 : ¬ (offs < 1 ∨ 16 < offs) := by simp at h2 h3; omega
  rw [reasonM_ok h1' e2]
  refine Wk ?_
  refine LoopK.run mixed [] (fun (k : Nat) => k = 0 ∨ (k = 1 ∧ byNodeM n q len = none) ∨ (k = 2 ∧ byNodeM n q len = none ∧ byWindowM n q = none) ∨ (k = 3 ∧ byNodeM n q len = none ∧ byWindowM n q = none ∧ gr = none)) (fun k => [(1, encReqs q), (2, .int .i64 len), (3, .int .i64 offs), (4, .ptr 0 0), (8, .ptr 1 0), (33, .agg [.fn 161 [], .fn 162 [], .fn 163 []]), (34, .int .i64 k)]) (fun _ => ⟨[.cells n.cs 26, .cells [.int .i64 0, .int .i64 0, .int .i64 0, .int .i64 0, .nils, .int .i64 0, .int .i64 0] 115], [], 0, 0, fun _ => 0⟩) (fun k => 3 - k) 0 (.inl rfl) ?_ ?_
  · refine Fits.mk' rfl rfl rfl rfl ?_ ?_ ?_ ?_ ?_ <;> repeat' (first | exact trivial | refine And.intro ?_ ?_ | exact Sees.of_eq rfl | exact lt_b rfl | rfl | exact SeesL.rfl' _)
  rintro k (rfl | ⟨rfl, hN⟩ | ⟨rfl, hN, hW⟩ | ⟨rfl, hN, hW, hg⟩)
  · repeat ((conv => whnf); first | refine sJ ?_ | refine And.intro (by first | exact ⟨by decide, by decide⟩ | kernel_rfl) ?_ )
    try (conv => whnf)
    first | refine CallK.data rfl (c_byNode L n hn q hx len offs hQ) rfl ?_ | refine CallP.data rfl (c_byNode L n hn q hx len offs hQ) rfl ?_
    cases hr : byNodeM n q len with
    | some r =>
      refine Wk ?_
      exact resP.mk rfl (Sees.of_eq rfl)
    | none =>
      refine Wk ?_
      refine ⟨1, .inr (.inl ⟨rfl, rfl⟩), by omega, ?_⟩
      refine Fits.mk' rfl rfl rfl rfl ?_ ?_ ?_ ?_ ?_ <;> repeat' (first | exact trivial | refine And.intro ?_ ?_ | exact Sees.of_eq rfl | exact lt_b rfl | rfl | exact SeesL.rfl' _ | exact Sees.int (by decide))
  · repeat ((conv => whnf); first | refine sJ ?_ | refine And.intro (by first | exact ⟨by decide, by decide⟩ | kernel_rfl) ?_ )
    try (conv => whnf)
    first | refine CallK.data rfl (c_byWindow L n hn q hx len offs hQ) rfl ?_ | refine CallP.data rfl (c_byWindow L n hn q hx len offs hQ) rfl ?_
    rw [hN]
    cases hr : byWindowM n q with
    | some r =>
      refine Wk ?_
      exact resP.mk rfl (Sees.of_eq rfl)
    | none =>
      refine Wk ?_
      refine ⟨2, .inr (.inr (.inl ⟨rfl, rfl, rfl⟩)), by omega, ?_⟩
      refine Fits.mk' rfl rfl rfl rfl ?_ ?_ ?_ ?_ ?_ <;> repeat' (first | exact trivial | refine And.intro ?_ ?_ | exact Sees.of_eq rfl | exact lt_b rfl | rfl | exact SeesL.rfl' _ | exact Sees.int (by decide))
  · have hcG := hG hQ (by omega) (by omega) hN hW
    rw [hN, hW]
    repeat ((conv => whnf); first | refine sJ ?_ | refine And.intro (by first | exact ⟨by decide, by decide⟩ | kernel_rfl) ?_ )
    try (conv => whnf)
    first | refine CallK.data rfl (hcG) rfl ?_ | refine CallP.data rfl (hcG) rfl ?_
    obtain ⟨g1, g2⟩ := gx
    cases g2 with
    | true =>
      rw [hgx]
      refine Wk ?_
      exact resP.mk rfl (Sees.of_eq rfl)
    | false =>
      have hgx : gr = none := hgx
      rw [hgx]
      refine Wk ?_
      refine ⟨3, .inr (.inr (.inr ⟨rfl, rfl, rfl, rfl⟩)), by omega, ?_⟩
      refine Fits.mk' rfl rfl rfl rfl ?_ ?_ ?_ ?_ ?_ <;> repeat' (first | exact trivial | refine And.intro ?_ ?_ | exact Sees.of_eq rfl | exact lt_b rfl | rfl | exact SeesL.rfl' _ | exact Sees.int (by decide))
  · rw [hN, hW, hg]
    refine Wk ?_
    exact resP.mk rfl (Sees.of_eq rfl)

set_option maxHeartbeats 4000000 in
theorem c_Verify (n : Net) (hn : n.small) (q : List Req) (hq : q.length ≤ 1099511627776) (hx : ∀ x ∈ q, x.small) (len offs : Int) (r : Rsn) (hrl : r.links.length ≤ 281474976710656) (ab : Bool)
    (hA : QOk n q len → 1 ≤ offs → offs ≤ 16 → r.kind = 3 → PCall Tryz.prog L 246 [qnAv n q len offs, encLinks r.links] (.bool ab) ∧ (ab = true → PCall Tryz.prog L 247 [qnAv n q len offs, encLinks r.links] (groupR n q len offs r.links).av)) :
    PCall Tryz.prog L 159 [n.av, encReqs q, .int .i64 len, .int .i64 offs, r.av] (.int .i64 (verifyM n q len offs r ab)) := by
  obtain ⟨kind, node, idx, route, links, need, hv⟩ := r
  simp only at hrl hA
  refine PCall.intro mixed [] (nt := 114) Tryz.func159 rfl rfl (by simp) ?_
  refine Wk ?_
  first | refine CallK.data rfl (c_lsized L n hn q hq hx len) rfl ?_ | refine CallP.data rfl (c_lsized L n hn q hq hx len) rfl ?_
  refine Wk ?_
  refine BrK.mk (fun h1 => ?_) (fun h1 => ?_) <;> (try rw [h1])
  · refine Wk ?_
    exact resP.mk rfl (Sees.int (by rw [verifyM, if_pos (by simpa using h1)]))
  have h1' : sizedQ n q len = 0 := by simpa using h1
  have hQ := (sizedQ_ok h1').q
  refine Wk ?_
  refine BrK.mk (fun h2 => ?_) (fun h2 => ?_) <;> (try rw [h2])
  · refine Wk ?_
    exact resP.mk rfl (Sees.int (by rw [verifyM, if_neg (by simp [h1']), if_pos (.inl (by simpa using h2))]))
  refine Wk ?_
  refine BrK.mk (fun h3 => ?_) (fun h3 => ?_) <;> (try rw [h3])
  · refine Wk ?_
    exact resP.mk rfl (Sees.int (by rw [verifyM, if_neg (by simp [h1']), if_pos (.inr (by simpa using h3))]))
  have e2 : ¬ (offs < 1 ∨ 16 < offs) := by simp at h2 h3; omega
  have hE : verifyM n q len offs ⟨kind, node, idx, route, links, need, hv⟩ ab = if isR (wantM n q len offs ⟨kind, node, idx, route, links, need, hv⟩ ab) = true ∧ ⟨kind, node, idx, route, links, need, hv⟩ = wantM n q len offs ⟨kind, node, idx, route, links, need, hv⟩ ab then 0 else 20 := by rw [verifyM, if_neg (by simp [h1']), if_neg e2]
  refine Wk ?_
  have hit : True := trivial
  rcases Decidable.em (kind = 1) with c1 | c1
  · have g1 : (kind == 1) = true := by simpa using c1
    have g2 : (kind == 2) = false := by simp; omega
    have g3 : (kind == 3) = false := by simp; omega
    rcases Decidable.em (0 ≤ node) with c2 | c2
    · have g4 : decide (0 ≤ node) = true := by simpa using c2
      rcases Decidable.em (node < n.nodes) with c3 | c3
      · have g5 : decide (node < n.nodes) = true := by simpa using c3
        obtain ⟨w, hw⟩ : ∃ w, w = nodeR n q len node := ⟨_, rfl⟩
        have hfin : verifyM n q len offs ⟨kind, node, idx, route, links, need, hv⟩ ab = if isR w = true ∧ ⟨kind, node, idx, route, links, need, hv⟩ = w then 0 else 20 := by rw [hE, want_node ⟨c1, c2, c3⟩, hw]
        repeat ((conv => whnf); first | refine sJ ?_ | refine And.intro (by first | exact trivial | kernel_rfl) ?_ | rw [g1] | rw [g4] | rw [g5])
        try (conv => whnf)
        first | refine CallK.data rfl (c_qnode L n hn q hx len offs node hQ) rfl ?_ | refine CallP.data rfl (c_qnode L n hn q hx len offs node hQ) rfl ?_
        rw [← hw]
        refine Wk ?_
        first | refine CallK.data rfl (c_is L w) rfl ?_ | refine CallP.data rfl (c_is L w) rfl ?_
        cases hi : isR w
        · refine Wk ?_
          exact resP.mk rfl (Sees.int (by rw [hfin, hi, if_neg (by simp)]))
        · refine Wk ?_
          first | refine CallK.data rfl (c_equalR L ⟨kind, node, idx, route, links, need, hv⟩ w hrl) rfl ?_ | refine CallP.data rfl (c_equalR L ⟨kind, node, idx, route, links, need, hv⟩ w hrl) rfl ?_
          by_cases he : (⟨kind, node, idx, route, links, need, hv⟩ : Rsn) = w
          · rw [decide_eq_true he]
            refine Wk ?_
            exact resP.mk rfl (Sees.int (by rw [hfin, hi, if_pos ⟨rfl, he⟩]))
          · rw [decide_eq_false he]
            refine Wk ?_
            exact resP.mk rfl (Sees.int (by rw [hfin, if_neg (fun h => he h.2)]))
      · have g5 : decide (node < n.nodes) = false := by simpa using c3
        have hfin : verifyM n q len offs ⟨kind, node, idx, route, links, need, hv⟩ ab = if isR rsn0 = true ∧ ⟨kind, node, idx, route, links, need, hv⟩ = rsn0 then 0 else 20 := by rw [hE, want_zero (fun h => by simp only at h; omega) (fun h1 h2 h3 x hgx => by simp only at h1; omega) (fun h => absurd (show kind = 3 from h.1) (by omega))]
        repeat ((conv => whnf); first | refine sJ ?_ | refine And.intro (by first | exact trivial | kernel_rfl) ?_ | rw [g1] | rw [g2] | rw [g3] | rw [g4] | rw [g5])
        try (conv => whnf)
        first | refine CallK.data rfl (c_is L rsn0) rfl ?_ | refine CallP.data rfl (c_is L rsn0) rfl ?_
        refine Wk ?_
        exact resP.mk rfl (Sees.int (by rw [hfin, if_neg (fun h => by simp [isR, rsn0] at h)]))
    · have g4 : decide (0 ≤ node) = false := by simpa using c2
      have hfin : verifyM n q len offs ⟨kind, node, idx, route, links, need, hv⟩ ab = if isR rsn0 = true ∧ ⟨kind, node, idx, route, links, need, hv⟩ = rsn0 then 0 else 20 := by rw [hE, want_zero (fun h => by simp only at h; omega) (fun h1 h2 h3 x hgx => by simp only at h1; omega) (fun h => absurd (show kind = 3 from h.1) (by omega))]
      repeat ((conv => whnf); first | refine sJ ?_ | refine And.intro (by first | exact trivial | kernel_rfl) ?_ | rw [g1] | rw [g2] | rw [g3] | rw [g4])
      try (conv => whnf)
      first | refine CallK.data rfl (c_is L rsn0) rfl ?_ | refine CallP.data rfl (c_is L rsn0) rfl ?_
      refine Wk ?_
      exact resP.mk rfl (Sees.int (by rw [hfin, if_neg (fun h => by simp [isR, rsn0] at h)]))
  have g1 : (kind == 1) = false := by simpa using c1
  rcases Decidable.em (kind = 2) with k2 | k2
  · have g2 : (kind == 2) = true := by simpa using k2
    have g3 : (kind == 3) = false := by simp; omega
    rcases Decidable.em (0 ≤ idx) with c2 | c2
    · have g4 : decide (0 ≤ idx) = true := by simpa using c2
      obtain ⟨i, rfl⟩ : ∃ i : Nat, idx = i := ⟨idx.toNat, by omega⟩
      rcases Nat.lt_or_ge i q.length with c3 | c3
      · have g5 : decide ((i : Int) < ((q.map Req.av).length : Int)) = true := by simp; omega
        obtain ⟨x, hgx⟩ := getLt c3
        have hgx0 := hgx
        have hmx := getMap (f := Req.av) hgx
        have hxo := hQ.req x (List.mem_of_getElem? hgx)
        rcases Decidable.em (0 ≤ route) with c4 | c4
        · have g6 : decide (0 ≤ route) = true := by simpa using c4
          obtain ⟨k, rfl⟩ : ∃ k : Nat, route = k := ⟨route.toNat, by omega⟩
          rcases Nat.lt_or_ge k x.routes.length with c5 | c5
          · have g7 : decide ((k : Int) < ((x.routes.map encIs).length : Int)) = true := by simp; omega
            obtain ⟨y, hgy⟩ := getLt c5
            obtain ⟨w, hw⟩ : ∃ w, w = windowR n x i k y := ⟨_, rfl⟩
            have hfin : verifyM n q len offs ⟨kind, node, (i : Int), (k : Int), links, need, hv⟩ ab = if isR w = true ∧ ⟨kind, node, (i : Int), (k : Int), links, need, hv⟩ = w then 0 else 20 := by rw [hE, want_win (r := ⟨kind, node, (i : Int), (k : Int), links, need, hv⟩) (x := x) (y := y) ⟨k2, Int.natCast_nonneg _, Int.natCast_nonneg _⟩ hgx hgy, hw]
            repeat ((conv => whnf); first | refine sJ ?_ | refine And.intro (by first | exact trivial | exact inbMap c3 | kernel_rfl) ?_ | rw [g1] | rw [g2] | rw [g3] | rw [g4] | rw [g5] | rw [g6] | rw [g7] | rw [hmx])
            try (conv => whnf)
            refine CallK.data rfl (c_qwindow L n hn q len offs i k x y hQ.n0 hgx hgy hxo) rfl ?_
            rw [← hw]
            refine Wk ?_
            first | refine CallK.data rfl (c_is L w) rfl ?_ | refine CallP.data rfl (c_is L w) rfl ?_
            cases hi : isR w
            · refine Wk ?_
              exact resP.mk rfl (Sees.int (by rw [hfin, hi, if_neg (by simp)]))
            · refine Wk ?_
              first | refine CallK.data rfl (c_equalR L ⟨kind, node, (i : Int), (k : Int), links, need, hv⟩ w hrl) rfl ?_ | refine CallP.data rfl (c_equalR L ⟨kind, node, (i : Int), (k : Int), links, need, hv⟩ w hrl) rfl ?_
              by_cases he : (⟨kind, node, (i : Int), (k : Int), links, need, hv⟩ : Rsn) = w
              · rw [decide_eq_true he]
                refine Wk ?_
                exact resP.mk rfl (Sees.int (by rw [hfin, hi, if_pos ⟨rfl, he⟩]))
              · rw [decide_eq_false he]
                refine Wk ?_
                exact resP.mk rfl (Sees.int (by rw [hfin, if_neg (fun h => he h.2)]))
          · have g7 : decide ((k : Int) < ((x.routes.map encIs).length : Int)) = false := by simp; omega
            have hfin : verifyM n q len offs ⟨kind, node, (i : Int), (k : Int), links, need, hv⟩ ab = if isR rsn0 = true ∧ ⟨kind, node, (i : Int), (k : Int), links, need, hv⟩ = rsn0 then 0 else 20 := by rw [hE, want_zero (fun h => by simp only at h; omega) (fun h1 h2 h3 x hgx => by simp only [Int.toNat_natCast] at hgx ⊢; rw [hgx0] at hgx; injection hgx with hgx; subst hgx; exact List.getElem?_eq_none c5) (fun h => absurd (show kind = 3 from h.1) (by omega))]
            repeat ((conv => whnf); first | refine sJ ?_ | refine And.intro (by first | exact trivial | exact inbMap c3 | kernel_rfl) ?_ | rw [g1] | rw [g2] | rw [g3] | rw [g4] | rw [g5] | rw [g6] | rw [g7] | rw [hmx])
            try (conv => whnf)
            first | refine CallK.data rfl (c_is L rsn0) rfl ?_ | refine CallP.data rfl (c_is L rsn0) rfl ?_
            refine Wk ?_
            exact resP.mk rfl (Sees.int (by rw [hfin, if_neg (fun h => by simp [isR, rsn0] at h)]))
        · have g6 : decide (0 ≤ route) = false := by simpa using c4
          have hfin : verifyM n q len offs ⟨kind, node, (i : Int), route, links, need, hv⟩ ab = if isR rsn0 = true ∧ ⟨kind, node, (i : Int), route, links, need, hv⟩ = rsn0 then 0 else 20 := by rw [hE, want_zero (fun h => by simp only at h; omega) (fun h1 h2 h3 x hgx => by simp only at h3; omega) (fun h => absurd (show kind = 3 from h.1) (by omega))]
          repeat ((conv => whnf); first | refine sJ ?_ | refine And.intro (by first | exact trivial | kernel_rfl) ?_ | rw [g1] | rw [g2] | rw [g3] | rw [g4] | rw [g5] | rw [g6])
          try (conv => whnf)
          first | refine CallK.data rfl (c_is L rsn0) rfl ?_ | refine CallP.data rfl (c_is L rsn0) rfl ?_
          refine Wk ?_
          exact resP.mk rfl (Sees.int (by rw [hfin, if_neg (fun h => by simp [isR, rsn0] at h)]))
      · have g5 : decide ((i : Int) < ((q.map Req.av).length : Int)) = false := by simp; omega
        have hfin : verifyM n q len offs ⟨kind, node, (i : Int), route, links, need, hv⟩ ab = if isR rsn0 = true ∧ ⟨kind, node, (i : Int), route, links, need, hv⟩ = rsn0 then 0 else 20 := by rw [hE, want_zero (fun h => by simp only at h; omega) (fun h1 h2 h3 x hgx => by have := (List.getElem?_eq_some_iff.1 hgx).1; simp at this; omega) (fun h => absurd (show kind = 3 from h.1) (by omega))]
        repeat ((conv => whnf); first | refine sJ ?_ | refine And.intro (by first | exact trivial | kernel_rfl) ?_ | rw [g1] | rw [g2] | rw [g3] | rw [g4] | rw [g5])
        try (conv => whnf)
        first | refine CallK.data rfl (c_is L rsn0) rfl ?_ | refine CallP.data rfl (c_is L rsn0) rfl ?_
        refine Wk ?_
        exact resP.mk rfl (Sees.int (by rw [hfin, if_neg (fun h => by simp [isR, rsn0] at h)]))
    · have g4 : decide (0 ≤ idx) = false := by simpa using c2
      have hfin : verifyM n q len offs ⟨kind, node, idx, route, links, need, hv⟩ ab = if isR rsn0 = true ∧ ⟨kind, node, idx, route, links, need, hv⟩ = rsn0 then 0 else 20 := by rw [hE, want_zero (fun h => by simp only at h; omega) (fun h1 h2 h3 x hgx => by simp only at h2; omega) (fun h => absurd (show kind = 3 from h.1) (by omega))]
      repeat ((conv => whnf); first | refine sJ ?_ | refine And.intro (by first | exact trivial | kernel_rfl) ?_ | rw [g1] | rw [g2] | rw [g3] | rw [g4])
      try (conv => whnf)
      first | refine CallK.data rfl (c_is L rsn0) rfl ?_ | refine CallP.data rfl (c_is L rsn0) rfl ?_
      refine Wk ?_
      exact resP.mk rfl (Sees.int (by rw [hfin, if_neg (fun h => by simp [isR, rsn0] at h)]))
  have g2 : (kind == 2) = false := by simpa using k2
  rcases Decidable.em (kind = 3) with k3 | k3
  · have g3 : (kind == 3) = true := by simpa using k3
    obtain ⟨hA1, hA2⟩ := hA hQ (by omega) (by omega) k3
    repeat ((conv => whnf); first | refine sJ ?_ | refine And.intro (by first | exact trivial | kernel_rfl) ?_ | rw [g1] | rw [g2] | rw [g3])
    try (conv => whnf)
    first | refine CallK.data rfl (hA1) rfl ?_ | refine CallP.data rfl (hA1) rfl ?_
    cases ab with
    | false =>
      have hfin : verifyM n q len offs ⟨kind, node, idx, route, links, need, hv⟩ false = if isR rsn0 = true ∧ ⟨kind, node, idx, route, links, need, hv⟩ = rsn0 then 0 else 20 := by rw [hE, want_zero (fun h => by simp only at h; omega) (fun h1 h2 h3 x hgx => by simp only at h1; omega) (fun h => Bool.noConfusion h.2)]
      repeat ((conv => whnf); first | refine sJ ?_ | refine And.intro (by first | exact trivial | kernel_rfl) ?_ | rw [g1] | rw [g2] | rw [g3])
      try (conv => whnf)
      first | refine CallK.data rfl (c_is L rsn0) rfl ?_ | refine CallP.data rfl (c_is L rsn0) rfl ?_
      refine Wk ?_
      exact resP.mk rfl (Sees.int (by rw [hfin, if_neg (fun h => by simp [isR, rsn0] at h)]))
    | true =>
      have hG := hA2 rfl
      obtain ⟨w, hw⟩ : ∃ w, w = groupR n q len offs links := ⟨_, rfl⟩
      have hfin : verifyM n q len offs ⟨kind, node, idx, route, links, need, hv⟩ true = if isR w = true ∧ ⟨kind, node, idx, route, links, need, hv⟩ = w then 0 else 20 := by rw [hE, want_grp k3, hw]
      rw [← hw] at hG
      refine Wk ?_
      first | refine CallK.data rfl (hG) rfl ?_ | refine CallP.data rfl (hG) rfl ?_
      refine Wk ?_
      first | refine CallK.data rfl (c_is L w) rfl ?_ | refine CallP.data rfl (c_is L w) rfl ?_
      cases hi : isR w
      · refine Wk ?_
        exact resP.mk rfl (Sees.int (by rw [hfin, hi, if_neg (by simp)]))
      · refine Wk ?_
        first | refine CallK.data rfl (c_equalR L ⟨kind, node, idx, route, links, need, hv⟩ w hrl) rfl ?_ | refine CallP.data rfl (c_equalR L ⟨kind, node, idx, route, links, need, hv⟩ w hrl) rfl ?_
        by_cases he : (⟨kind, node, idx, route, links, need, hv⟩ : Rsn) = w
        · rw [decide_eq_true he]
          refine Wk ?_
          exact resP.mk rfl (Sees.int (by rw [hfin, hi, if_pos ⟨rfl, he⟩]))
        · rw [decide_eq_false he]
          refine Wk ?_
          exact resP.mk rfl (Sees.int (by rw [hfin, if_neg (fun h => he h.2)]))
  · have g3 : (kind == 3) = false := by simpa using k3
    have hfin : verifyM n q len offs ⟨kind, node, idx, route, links, need, hv⟩ ab = if isR rsn0 = true ∧ ⟨kind, node, idx, route, links, need, hv⟩ = rsn0 then 0 else 20 := by rw [hE, want_zero (fun h => by simp only at h; omega) (fun h1 h2 h3 x hgx => by simp only at h1; omega) (fun h => absurd (show kind = 3 from h.1) (by omega))]
    repeat ((conv => whnf); first | refine sJ ?_ | refine And.intro (by first | exact trivial | kernel_rfl) ?_ | rw [g1] | rw [g2] | rw [g3])
    try (conv => whnf)
    first | refine CallK.data rfl (c_is L rsn0) rfl ?_ | refine CallP.data rfl (c_is L rsn0) rfl ?_
    refine Wk ?_
    exact resP.mk rfl (Sees.int (by rw [hfin, if_neg (fun h => by simp [isR, rsn0] at h)]))
end
end HM

/- The example of the laws on load. -/
set_option maxRecDepth 100000
namespace HM
open Go Go.RowKit Go.Proofs
section
variable (L : World → Prop)
set_option maxHeartbeats 1000000 in
theorem c_Same39 (a b : Rsn) (ha : a.links.length ≤ 281474976710656) : PCall Tryz.prog L 158 [a.av, b.av] (.bool (decide (a = b))) := by
  have hd : decide (a = b) = (decide (a.links = b.links) && (a.kind == b.kind) && (a.node == b.node) && (a.idx == b.idx) && (a.route == b.route) && (a.need == b.need) && (a.have_ == b.have_)) := by
    rw [Bool.eq_iff_iff]
    cases a; cases b
    simp only [decide_eq_true_eq, Rsn.mk.injEq, Bool.and_eq_true, beq_iff_eq]
    constructor
    · rintro ⟨h1, h2, h3, h4, h5, h6, h7⟩; exact ⟨⟨⟨⟨⟨⟨h5, h1⟩, h2⟩, h3⟩, h4⟩, h6⟩, h7⟩
    · rintro ⟨⟨⟨⟨⟨⟨h5, h1⟩, h2⟩, h3⟩, h4⟩, h6⟩, h7⟩; exact ⟨h1, h2, h3, h4, h5, h6, h7⟩
  refine PCall.intro mixed [] (nt := 73) Tryz.func158 rfl rfl (by simp) ?_
  have key : ∀ x y : Int, (x != y) = !(x == y) := fun _ _ => rfl
  refine Wk ?_
  cases h1 : a.kind == b.kind
  · rw [show (a.kind != b.kind) = true by rw [key, h1]; rfl]
    refine Wk ?_
    exact resP.mk rfl (Sees.bool (by rw [hd, h1]; simp))
  rw [show (a.kind != b.kind) = false by rw [key, h1]; rfl]
  refine Wk ?_
  cases h2 : a.node == b.node
  · rw [show (a.node != b.node) = true by rw [key, h2]; rfl]
    refine Wk ?_
    exact resP.mk rfl (Sees.bool (by rw [hd, h2]; simp))
  rw [show (a.node != b.node) = false by rw [key, h2]; rfl]
  refine Wk ?_
  cases h3 : a.idx == b.idx
  · rw [show (a.idx != b.idx) = true by rw [key, h3]; rfl]
    refine Wk ?_
    exact resP.mk rfl (Sees.bool (by rw [hd, h3]; simp))
  rw [show (a.idx != b.idx) = false by rw [key, h3]; rfl]
  refine Wk ?_
  cases h4 : a.route == b.route
  · rw [show (a.route != b.route) = true by rw [key, h4]; rfl]
    refine Wk ?_
    exact resP.mk rfl (Sees.bool (by rw [hd, h4]; simp))
  rw [show (a.route != b.route) = false by rw [key, h4]; rfl]
  refine Wk ?_
  cases h5 : a.need == b.need
  · rw [show (a.need != b.need) = true by rw [key, h5]; rfl]
    refine Wk ?_
    exact resP.mk rfl (Sees.bool (by rw [hd, h5]; simp))
  rw [show (a.need != b.need) = false by rw [key, h5]; rfl]
  refine Wk ?_
  cases h6 : a.have_ == b.have_
  · rw [show (a.have_ != b.have_) = true by rw [key, h6]; rfl]
    refine Wk ?_
    exact resP.mk rfl (Sees.bool (by rw [hd, h6]; simp))
  rw [show (a.have_ != b.have_) = false by rw [key, h6]; rfl]
  refine Wk ?_
  refine BrK.mk (fun h7 => ?_) (fun h7 => ?_) <;> (try rw [h7])
  · have hne : a.links ≠ b.links := fun h => by rw [h] at h7; simp at h7
    refine Wk ?_
    exact resP.mk rfl (Sees.bool (by rw [hd, decide_eq_false hne]; rfl))
  have hl : a.links.length = b.links.length := by simp at h7; omega
  rw [hd, h1, h2, h3, h4, h5, h6]
  refine Wk ?_
  refine LoopK.run mixed [] (fun (k : Nat) => k ≤ a.links.length ∧ ∀ (j : Nat) x y, j < k → a.links[j]? = some x → b.links[j]? = some y → x = y) (fun k => [(2, .ptr 0 0), (3, .ptr 1 0), (5, .int .i64 k)]) (fun k => ⟨[.cells a.cs 115, .cells b.cs 115], [], 0, 0, fun _ => 0⟩) (fun k => a.links.length - k) 0 ⟨by simp, by simp⟩ ?_ ?_
  · refine Fits.mk' rfl rfl rfl rfl ?_ ?_ ?_ ?_ ?_ <;> repeat' (first | exact trivial | refine And.intro ?_ ?_ | exact Sees.of_eq rfl | exact lt_b rfl | rfl | exact SeesL.rfl' _)
  rintro k ⟨hk, hinv⟩
  refine Wk ?_
  refine BrK.mk (fun hb => ?_) (fun hb => ?_) <;> (try rw [hb])
  · have hkt : k < a.links.length := by simpa using hb
    obtain ⟨x, hgx⟩ := getLt hkt
    obtain ⟨y, hgy⟩ := getLt (l := b.links) (k := k) (by omega)
    have hmx := getMap (f := Link.av) hgx
    have hmy := getMap (f := Link.av) hgy
    have hdec := link_dec x y
    repeat ((conv => whnf); first | refine sJ ?_ | refine And.intro (by first | exact inbMap hkt | exact inbMap (by omega : k < b.links.length) | kernel_rfl) ?_ | rw [hmx] | rw [hmy])
    try (conv => whnf)
    rw [hdec]
    by_cases hxy : x = y
    · rw [decide_eq_true hxy]
      refine Wk ?_
      refine ⟨k + 1, ⟨by omega, fun j x' y' hj hx' hy' => ?_⟩, by omega, ?_⟩
      · rcases Nat.lt_succ_iff_lt_or_eq.1 hj with h | rfl
        · exact hinv j x' y' h hx' hy'
        · rw [hgx] at hx'; rw [hgy] at hy'; injection hx' with hx'; injection hy' with hy'; rw [← hx', ← hy', hxy]
      · refine Fits.mk' rfl rfl rfl rfl ?_ ?_ ?_ ?_ ?_ <;> repeat' (first | exact trivial | refine And.intro ?_ ?_ | exact Sees.of_eq rfl | exact lt_b rfl | rfl | exact Sees.int (succI hkt ha) | exact SeesL.rfl' _)
    · have hne : ¬ a.links = b.links := fun h => by
        rw [h] at hgx
        rw [hgx] at hgy
        injection hgy with hgy
        exact hxy hgy
      rw [decide_eq_false hxy]
      refine Wk ?_
      exact resP.mk rfl (Sees.bool (by rw [decide_eq_false hne]; rfl))
  · have hkn : k = a.links.length := by simp at hb; omega
    subst hkn
    refine Wk ?_
    exact resP.mk rfl (Sees.bool (by rw [decide_eq_true (eq_of_at hl hinv)]; rfl))

def n39 : Net := ⟨3, [[0, 9, 9], [9, 0, 9], [9, 9, 0]], 1, 1000, [⟨0, 1, 1⟩, ⟨1, 0, 0⟩, ⟨1, 2, 1⟩, ⟨2, 1, 0⟩], [9, 9, 9, 9]⟩
def q39 : List Req := [⟨⟨3, 0, 2, 6, 0, 3⟩, [[0, 1, 2]]⟩]
def r39 : Rsn := ⟨2, 0, 0, 0, [], 4, 3⟩
def nz39 : List AV := [.int .i64 0, .nils, .int .i64 0, .int .i64 0, .nils, .nils]
set_option maxHeartbeats 4000000 in
theorem c_example39 : PCall Tryz.prog L 156 [] (.tup [n39.av, encReqs q39]) := by
  refine PCall.intro mixed [2, 3] (nt := 21) Tryz.func156 rfl rfl (by simp) ?_
  refine Wk ?_
  refine SeqK.cutS mixed [3] [(0, .ptr 0 0), (2, .ptr 1 0)] ⟨[.cells nz39 26, .cells [.int .i64 3, encRows n39.power, .int .i64 1, .int .i64 1000, .nils, encIs n39.margin] 26], [], 0, 0, fun _ => 0⟩ (twC_sound (ct := []) mixed _ _ _ _ ?_) ?_
  · refine Wk ?_
    refine Fits.mk' rfl rfl rfl rfl ?_ ?_ ?_ ?_ ?_ <;> repeat' (first | exact trivial | refine And.intro ?_ ?_ | exact Sees.of_eq rfl | exact lt_b rfl | rfl | exact Sees.elems rfl)
  refine SeqK.cutS mixed [] [(0, .ptr 0 0), (2, .ptr 1 0)] ⟨[.cells nz39 26, .cells n39.cs 26], [], 0, 0, fun _ => 0⟩ (twC_sound (ct := []) mixed _ _ _ _ ?_) ?_
  · refine Wk ?_
    refine Fits.mk' rfl rfl rfl rfl ?_ ?_ ?_ ?_ ?_ <;> repeat' (first | exact trivial | refine And.intro ?_ ?_ | exact Sees.of_eq rfl | exact lt_b rfl | rfl | exact Sees.elems rfl)
  refine Wk ?_
  exact resP.mk rfl (Sees.of_eq rfl)

theorem e_cells39 : cellsM n39 q39 6 = (4, 0) := by decide +kernel
theorem e_node39 : nodeM n39 q39 6 1 = (4, 0) := by decide +kernel
theorem e_sz39 : sizedQ n39 q39 6 = 0 := by decide +kernel
theorem e_bn39 : byNodeM n39 q39 6 = none := by decide +kernel
theorem e_bw39 : byWindowM n39 q39 = some r39 := by decide +kernel
theorem e_reason39 : reasonM n39 q39 6 1 none = (r39, true, 0) := by rw [reasonM_ok e_sz39 (by decide), e_bn39, e_bw39]
theorem e_verify39 : verifyM n39 q39 6 1 r39 false = 0 := by decide +kernel
theorem n39_small : n39.small := ⟨by decide, by decide, by decide, by decide⟩
theorem q39_small : ∀ x ∈ q39, x.small := fun x hx => by
  simp only [q39, List.mem_singleton] at hx
  subst hx
  exact ⟨by decide, by decide⟩
set_option maxHeartbeats 4000000 in
theorem c_awake39 : PCall Tryz.prog L 64 [] (.bool true) := by
  refine PCall.intro mixed [2, 3, 4, 5] (nt := 66) Tryz.func64 rfl rfl (by simp) ?_
  refine Wk ?_
  refine SeqK.cutS mixed [3, 4, 5] [(1, .ptr 0 0), (2, encReqs q39)] ⟨[.cells n39.cs 26], [], 0, 0, fun _ => 0⟩ (twC_sound (ct := []) mixed _ _ _ _ ?_) ?_
  · refine Wk ?_
    first | refine CallK.data rfl (c_example39 L) rfl ?_ | refine CallP.data rfl (c_example39 L) rfl ?_
    refine Wk ?_
    refine Fits.mk' rfl rfl rfl rfl ?_ ?_ ?_ ?_ ?_ <;> repeat' (first | exact trivial | refine And.intro ?_ ?_ | exact Sees.of_eq rfl | exact lt_b rfl | rfl | exact SeesL.rfl' _)
  refine Wk ?_
  refine SeqK.cutS mixed [4, 5] [(1, .ptr 0 0), (2, encReqs q39), (3, .int .i64 4), (4, .int .i64 0)] ⟨[.cells n39.cs 26], [], 0, 0, fun _ => 0⟩ (twC_sound (ct := []) mixed _ _ _ _ ?_) ?_
  · refine Wk ?_
    first | refine CallK.data rfl (c_Cells L n39 n39_small q39 (by decide) q39_small 6) rfl ?_ | refine CallP.data rfl (c_Cells L n39 n39_small q39 (by decide) q39_small 6) rfl ?_
    rw [e_cells39]
    refine Wk ?_
    refine Fits.mk' rfl rfl rfl rfl ?_ ?_ ?_ ?_ ?_ <;> repeat' (first | exact trivial | refine And.intro ?_ ?_ | exact Sees.of_eq rfl | exact lt_b rfl | rfl | exact SeesL.rfl' _)
  refine Wk ?_
  refine SeqK.cutS mixed [5] [(1, .ptr 0 0), (2, encReqs q39), (3, .int .i64 4), (4, .int .i64 0), (5, .int .i64 4), (6, .int .i64 0)] ⟨[.cells n39.cs 26], [], 0, 0, fun _ => 0⟩ (twC_sound (ct := []) mixed _ _ _ _ ?_) ?_
  · refine Wk ?_
    first | refine CallK.data rfl (c_Node L n39 n39_small q39 (by decide) q39_small 6 1) rfl ?_ | refine CallP.data rfl (c_Node L n39 n39_small q39 (by decide) q39_small 6 1) rfl ?_
    rw [e_node39]
    refine Wk ?_
    refine Fits.mk' rfl rfl rfl rfl ?_ ?_ ?_ ?_ ?_ <;> repeat' (first | exact trivial | refine And.intro ?_ ?_ | exact Sees.of_eq rfl | exact lt_b rfl | rfl | exact SeesL.rfl' _)
  refine Wk ?_
  refine SeqK.cutS mixed [] [(1, .ptr 0 0), (2, encReqs q39), (3, .int .i64 4), (4, .int .i64 0), (5, .int .i64 4), (6, .int .i64 0), (7, .ptr 1 0), (8, .bool true), (9, .int .i64 0)] ⟨[.cells n39.cs 26, .cells r39.cs 115], [], 0, 0, fun _ => 0⟩ (twC_sound (ct := []) mixed _ _ _ _ ?_) ?_
  · refine Wk ?_
    first | refine CallK.data rfl (c_Reason L n39 n39_small q39 (by decide) q39_small 6 1 none (rsn0, false) rfl (fun _ _ _ _ h => by rw [e_bw39] at h; cases h)) rfl ?_ | refine CallP.data rfl (c_Reason L n39 n39_small q39 (by decide) q39_small 6 1 none (rsn0, false) rfl (fun _ _ _ _ h => by rw [e_bw39] at h; cases h)) rfl ?_
    rw [e_reason39]
    refine Wk ?_
    refine Fits.mk' rfl rfl rfl rfl ?_ ?_ ?_ ?_ ?_ <;> repeat' (first | exact trivial | refine And.intro ?_ ?_ | exact Sees.of_eq rfl | exact lt_b rfl | rfl | exact SeesL.rfl' _)
  refine Wk ?_
  first | refine CallK.data rfl (c_Same39 L r39 r39 (by decide)) rfl ?_ | refine CallP.data rfl (c_Same39 L r39 r39 (by decide)) rfl ?_
  rw [decide_eq_true rfl]
  refine Wk ?_
  first | refine CallK.data rfl (c_Verify L n39 n39_small q39 (by decide) q39_small 6 1 r39 (by decide) false (fun _ _ _ h => absurd h (by decide))) rfl ?_ | refine CallP.data rfl (c_Verify L n39 n39_small q39 (by decide) q39_small 6 1 r39 (by decide) false (fun _ _ _ h => absurd h (by decide))) rfl ?_
  rw [e_verify39]
  refine Wk ?_
  exact resP.mk rfl (Sees.of_eq rfl)
end
end HM
