/- Reasons of nodes and routes. -/
import Derived.Test.YtdjglaoahmaljaaGreatDoorS125
import Derived.Test.YtdjglaoahmaljaaGreatDoorDa

set_option maxRecDepth 100000
namespace HM
open Go Go.RowKit Go.Proofs
section
variable (L : World → Prop)
theorem c_is (r : Rsn) : PCall Tryz.prog L 47 [r.av] (.bool (isR r)) := by
  refine PCall.intro mixed [] (nt := 8) Tryz.func47 rfl rfl (by simp) ?_
  refine Wk ?_
  exact resP.mk rfl (Sees.bool rfl)

theorem c_qnode (n : Net) (hn : n.small) (q : List Req) (hx : ∀ x ∈ q, x.small) (len offs a : Int) (hQ : QOk n q len) : PCall Tryz.prog L 43 [qnAv n q len offs, .int .i64 a] (nodeR n q len a).av := by
  refine PCall.intro mixed [] (nt := 18) Tryz.func43 rfl rfl (by simp) ?_
  refine Wk ?_
  first | refine CallK.data rfl (c_at L a) rfl ?_ | refine CallP.data rfl (c_at L a) rfl ?_
  refine Wk ?_
  first | refine CallK.data rfl (c_lsum L n hn q hx len hQ (atN a) 111 [.cptr (.agg [.int .i64 a]) 0] rfl rfl (fun l _ => c_at1 L l a)) rfl ?_ | refine CallP.data rfl (c_lsum L n hn q hx len hQ (atN a) 111 [.cptr (.agg [.int .i64 a]) 0] rfl rfl (fun l _ => c_at1 L l a)) rfl ?_
  refine Wk ?_
  exact resP.mk rfl (Sees.of_eq rfl)

theorem costR_bd {n : Net} {r : List Int} {k : Nat} (h : NetOk n) (hg : ∀ i, i < k → 0 ≤ findL n (r.getD i 0) (r.getD (i + 1) 0)) : 0 ≤ costR n r k ∧ costR n r k ≤ k * 8 := by
  unfold costR
  have := sumW_bd (f := fun l : Link => l.loss + 1) (m := 8) (by omega) (l := linksR n r k) fun l hl => by
    unfold linksR at hl
    obtain ⟨i, hi, rfl⟩ := List.mem_map.1 hl
    have := link_bd h (lnkAt_mem (hg i (by simpa using hi))).1
    omega
  rw [linksR_len] at this
  exact this

set_option maxHeartbeats 1000000 in
theorem c_qwindow (n : Net) (hn : n.small) (q : List Req) (len offs : Int) (i k : Nat) (x : Req) (r : List Int) (h0 : netE n = 0) (hgx : q[i]? = some x) (hgr : x.routes[k]? = some r) (hxo : ReqOk n x) : PCall Tryz.prog L 44 [qnAv n q len offs, .int .i64 i, .int .i64 k] (windowR n x i k r).av := by
  have hok := netE_ok h0
  obtain ⟨⟨hr2, hr9⟩, hhop, _⟩ := routeF_ok (hxo.route r (List.mem_of_getElem? hgr))
  have hmx := getMap (f := Req.av) hgx
  have hmr := getMap (f := encIs) hgr
  have hit := (List.getElem?_eq_some_iff.1 hgx).1
  have hkt := (List.getElem?_eq_some_iff.1 hgr).1
  refine PCall.intro mixed [] (nt := 57) Tryz.func44 rfl rfl (by simp) ?_
  repeat ((conv => whnf); first | refine sJ ?_ | refine And.intro (by first | exact inbMap hit | exact inbMap hkt | kernel_rfl) ?_ | rw [hmx] | rw [hmr])
  try (conv => whnf)
  refine LoopK.run mixed [] (fun (j : Nat) => 1 ≤ j ∧ j ≤ r.length) (fun j => [(1, .int .i64 i), (2, .int .i64 k), (3, .ptr 0 0), (6, .ptr 1 0), (7, .int .i64 (costR n r (j - 1))), (8, .int .i64 j), (9, encIs r)]) (fun _ => ⟨[.cells (qnCs n q len offs) 68, .cells [.int .i64 0, .int .i64 0, .int .i64 0, .int .i64 0, .nils, .int .i64 0, .int .i64 0] 31], [], 0, 0, fun _ => 0⟩) (fun j => r.length - j) 1 ⟨by omega, by omega⟩ ?_ ?_
  · refine Fits.mk' rfl rfl rfl rfl ?_ ?_ ?_ ?_ ?_ <;> repeat' (first | exact trivial | refine And.intro ?_ ?_ | exact Sees.of_eq rfl | exact lt_b rfl | rfl | exact SeesL.rfl' _ | exact Sees.int (by simp [costR, linksR, sumW]))
  rintro j ⟨hj1, hj2⟩
  obtain ⟨j, rfl⟩ : ∃ m, j = m + 1 := ⟨j - 1, by omega⟩
  rw [Nat.add_sub_cancel]
  refine Wk ?_
  refine BrK.mk (fun hb => ?_) (fun hb => ?_) <;> (try rw [hb])
  · have hjt : j + 1 < r.length := by simp at hb; omega
    have hw : IntKind.i64.wrap (((j + 1 : Nat) : Int) - 1) = (j : Int) := by rw [w64] <;> omega
    obtain ⟨a, hga⟩ := getLt (l := r) (k := j) (by omega)
    obtain ⟨b, hgb⟩ := getLt hjt
    have hma := getMap (f := encI) hga
    have hmb := getMap (f := encI) hgb
    have hg := hhop j hjt
    have ha : r.getD j 0 = a := by rw [List.getD_eq_getElem?_getD, hga]; rfl
    have hb' : r.getD (j + 1) 0 = b := by rw [List.getD_eq_getElem?_getD, hgb]; rfl
    have hcs := costR_succ n r j
    have hcb := costR_bd hok (r := r) (k := j + 1) fun m hm => good_find (hhop m (by omega))
    have hcb0 := costR_bd hok (r := r) (k := j) fun m hm => good_find (hhop m (by omega))
    rw [ha, hb'] at hg hcs
    obtain ⟨p, hp, hgp⟩ := lnkAt_get (good_find hg)
    have hmp := getMap (f := Link.av) hgp
    have hpl := (List.getElem?_eq_some_iff.1 hgp).1
    have hidx : indexN n a b = (p : Int) := by rw [indexN, if_pos h0, hp]
    obtain ⟨b1, b2⟩ := link_bd hok (List.mem_of_getElem? hgp)
    have hw1 : IntKind.i64.wrap ((lnkAt n a b).loss + 1) = (lnkAt n a b).loss + 1 := by rw [w64] <;> omega
    repeat ((conv => whnf); first | refine sJ ?_ | refine And.intro (by first | exact inbMap hjt | (rw [hw]; exact inbMap (by omega)) | kernel_rfl) ?_ | rw [hw] | rw [hma] | rw [hmb])
    try (conv => whnf)
    first | refine CallK.data rfl (c_index L n hn a b) rfl ?_ | refine CallP.data rfl (c_index L n hn a b) rfl ?_
    rw [hidx]
    repeat ((conv => whnf); first | refine sJ ?_ | refine And.intro (by first | exact inbMap hpl | kernel_rfl) ?_ | rw [hmp])
    try (conv => whnf)
    refine ⟨j + 2, ⟨by omega, by omega⟩, by omega, ?_⟩
    rw [show j + 2 - 1 = j + 1 from rfl, hcs]
    refine Fits.mk' rfl rfl rfl rfl ?_ ?_ ?_ ?_ ?_ <;> repeat' (first | exact trivial | refine And.intro ?_ ?_ | exact Sees.of_eq rfl | exact lt_b rfl | rfl | exact SeesL.rfl' _ | exact Sees.int (by rw [w64] <;> omega) | exact Sees.int (by rw [hw1, w64] <;> omega))
  · have hjr : j = r.length - 1 := by simp at hb; omega
    repeat ((conv => whnf); first | refine sJ ?_ | refine And.intro (by first | exact inbMap hit | kernel_rfl) ?_ | rw [hmx])
    try (conv => whnf)
    exact resP.mk rfl (Sees.of_eq (by rw [hjr]; rfl))

def encOptR (r : Option Rsn) : AV := .tup [(optR r).1.av, .bool (optR r).2]
set_option maxHeartbeats 1000000 in
theorem c_byNode (n : Net) (hn : n.small) (q : List Req) (hx : ∀ x ∈ q, x.small) (len offs : Int) (hQ : QOk n q len) : PCall Tryz.prog L 34 [qnAv n q len offs] (encOptR (byNodeM n q len)) := by
  have hnb := hQ.net.nodes
  refine PCall.intro mixed [] (nt := 20) Tryz.func34 rfl rfl (by simp) ?_
  refine Wk ?_
  refine LoopK.run mixed [] (fun (k : Nat) => k ≤ n.nodes.toNat ∧ ∀ j, j < k → asR (nodeR n q len j) = none) (fun k => [(1, .ptr 0 0), (2, .ptr 1 0), (8, .int .i64 n.nodes), (9, .int .i64 k)]) (fun k => ⟨[.cells (qnCs n q len offs) 68, .cells [.int .i64 0, .int .i64 0, .int .i64 0, .int .i64 0, .nils, .int .i64 0, .int .i64 0] 31], [], 0, 0, fun _ => 0⟩) (fun k => n.nodes.toNat - k) 0 ⟨by simp, by simp⟩ ?_ ?_
  · refine Fits.mk' rfl rfl rfl rfl ?_ ?_ ?_ ?_ ?_ <;> repeat' (first | exact trivial | refine And.intro ?_ ?_ | exact Sees.of_eq rfl | exact lt_b rfl | rfl | exact SeesL.rfl' _)
  rintro k ⟨hk, hinv⟩
  refine Wk ?_
  refine BrK.mk (fun hb => ?_) (fun hb => ?_) <;> (try rw [hb])
  · have hlt : k < n.nodes.toNat := by simp at hb; omega
    refine Wk ?_
    first | refine CallK.data rfl (c_qnode L n hn q hx len offs k hQ) rfl ?_ | refine CallP.data rfl (c_qnode L n hn q hx len offs k hQ) rfl ?_
    obtain ⟨r, hr⟩ : ∃ r, r = nodeR n q len k := ⟨_, rfl⟩
    rw [← hr]
    refine Wk ?_
    first | refine CallK.data rfl (c_is L r) rfl ?_ | refine CallP.data rfl (c_is L r) rfl ?_
    refine Wk ?_
    refine BrK.mk (fun h1 => ?_) (fun h1 => ?_) <;> (try rw [h1])
    · have hs : asR (nodeR n q len k) = some r := by rw [← hr, asR, if_pos h1]
      have hf : byNodeM n q len = some r := firstO_hit (f := fun a : Nat => asR (nodeR n q len a)) hinv hs hlt
      refine Wk ?_
      exact resP.mk rfl (Sees.of_eq (by rw [hf]; rfl))
    · have hs : asR (nodeR n q len k) = none := by rw [← hr, asR, if_neg (by simp [h1])]
      refine Wk ?_
      refine ⟨k + 1, ⟨by omega, fun j hj => ?_⟩, by omega, ?_⟩
      · rcases Nat.lt_succ_iff_lt_or_eq.1 hj with h | rfl
        · exact hinv j h
        · exact hs
      · refine Fits.mk' rfl rfl rfl rfl ?_ ?_ ?_ ?_ ?_ <;> repeat' (first | exact trivial | refine And.intro ?_ ?_ | exact Sees.of_eq rfl | exact lt_b rfl | rfl | exact Sees.int (by rw [w64] <;> omega) | exact SeesL.rfl' _)
  · have hk' : k = n.nodes.toNat := by simp at hb; omega
    have hf : byNodeM n q len = none := firstO_none (f := fun a : Nat => asR (nodeR n q len a)) (hk' ▸ hinv)
    refine Wk ?_
    exact resP.mk rfl (Sees.of_eq (by rw [hf]; rfl))

set_option maxHeartbeats 2000000 in
theorem c_byWindow (n : Net) (hn : n.small) (q : List Req) (_ : ∀ x ∈ q, x.small) (len offs : Int) (hQ : QOk n q len) : PCall Tryz.prog L 35 [qnAv n q len offs] (encOptR (byWindowM n q)) := by
  have hq16 := hQ.q16
  refine PCall.intro mixed [] (nt := 32) Tryz.func35 rfl rfl (by simp) ?_
  refine Wk ?_
  refine LoopK.run mixed [] (fun (k : Nat) => k ≤ q.length ∧ ∀ j, j < k → winQ n q j = none) (fun k => [(1, .ptr 0 0), (2, .ptr 1 0), (9, encReqs q), (10, .int .i64 q.length), (11, .int .i64 k)]) (fun k => ⟨[.cells (qnCs n q len offs) 68, .cells [.int .i64 0, .int .i64 0, .int .i64 0, .int .i64 0, .nils, .int .i64 0, .int .i64 0] 31], [], 0, 0, fun _ => 0⟩) (fun k => q.length - k) 0 ⟨by simp, by simp⟩ ?_ ?_
  · refine Fits.mk' rfl rfl rfl rfl ?_ ?_ ?_ ?_ ?_ <;> repeat' (first | exact trivial | refine And.intro ?_ ?_ | exact Sees.of_eq rfl | exact lt_b rfl | rfl | exact SeesL.rfl' _ | exact Sees.int (by simp))
  rintro k ⟨hk, hinv⟩
  refine Wk ?_
  refine BrK.mk (fun hb => ?_) (fun hb => ?_) <;> (try rw [hb])
  · have hlt : k < q.length := by simpa using hb
    obtain ⟨x, hgx⟩ := getLt hlt
    have hmx := getMap (f := Req.av) hgx
    have hxm := List.mem_of_getElem? hgx
    have hxo := hQ.req x hxm
    have hx2 := hxo.len
    have hwq : winQ n q k = winX n x k := by unfold winQ; rw [hgx]
    repeat ((conv => whnf); first | refine sJ ?_ | refine And.intro (by first | exact inbMap hlt | kernel_rfl) ?_ | rw [hmx])
    try (conv => whnf)
    refine LoopK.run mixed [] (fun (j : Nat) => j ≤ x.routes.length ∧ ∀ i, i < j → winAt n x k i = none) (fun j => [(1, .ptr 0 0), (2, .ptr 1 0), (4, .int .i64 k), (9, encReqs q), (10, .int .i64 q.length), (11, .int .i64 k), (17, encRows x.routes), (18, .int .i64 x.routes.length), (19, .int .i64 j)]) (fun j => ⟨[.cells (qnCs n q len offs) 68, .cells [.int .i64 0, .int .i64 0, .int .i64 0, .int .i64 0, .nils, .int .i64 0, .int .i64 0] 31], [], 0, 0, fun _ => 0⟩) (fun j => x.routes.length - j) 0 ⟨by simp, by simp⟩ ?_ ?_
    · refine Fits.mk' rfl rfl rfl rfl ?_ ?_ ?_ ?_ ?_ <;> repeat' (first | exact trivial | refine And.intro ?_ ?_ | exact Sees.of_eq rfl | exact lt_b rfl | rfl | exact SeesL.rfl' _ | exact Sees.int (by simp))
    rintro j ⟨hj, hinv2⟩
    refine Wk ?_
    refine BrK.mk (fun hd => ?_) (fun hd => ?_) <;> (try rw [hd])
    · have hjt : j < x.routes.length := by simpa using hd
      obtain ⟨r, hgr⟩ := getLt hjt
      have hwa : winAt n x k j = asR (windowR n x k j r) := by unfold winAt; rw [hgr]
      refine Wk ?_
      first | refine CallK.data rfl (c_qwindow L n hn q len offs k j x r hQ.n0 hgx hgr hxo) rfl ?_ | refine CallP.data rfl (c_qwindow L n hn q len offs k j x r hQ.n0 hgx hgr hxo) rfl ?_
      obtain ⟨w, hw⟩ : ∃ w, w = windowR n x k j r := ⟨_, rfl⟩
      rw [← hw]
      refine Wk ?_
      first | refine CallK.data rfl (c_is L w) rfl ?_ | refine CallP.data rfl (c_is L w) rfl ?_
      refine Wk ?_
      refine BrK.mk (fun h1 => ?_) (fun h1 => ?_) <;> (try rw [h1])
      · have hs : winAt n x k j = some w := by rw [hwa, ← hw, asR, if_pos h1]
        have hf : byWindowM n q = some w := firstO_hit hinv (hwq.trans (firstO_hit hinv2 hs hjt)) hlt
        refine Wk ?_
        exact resP.mk rfl (Sees.of_eq (by rw [hf]; rfl))
      · have hs : winAt n x k j = none := by rw [hwa, ← hw, asR, if_neg (by simp [h1])]
        refine Wk ?_
        refine ⟨j + 1, ⟨by omega, fun m hm => ?_⟩, by omega, ?_⟩
        · rcases Nat.lt_succ_iff_lt_or_eq.1 hm with h | rfl
          · exact hinv2 m h
          · exact hs
        · refine Fits.mk' rfl rfl rfl rfl ?_ ?_ ?_ ?_ ?_ <;> repeat' (first | exact trivial | refine And.intro ?_ ?_ | exact Sees.of_eq rfl | exact lt_b rfl | rfl | exact Sees.int (by rw [w64] <;> omega) | exact SeesL.rfl' _)
    · have hj' : j = x.routes.length := by simp at hd; omega
      have hs : winQ n q k = none := hwq.trans (firstO_none (hj' ▸ hinv2))
      refine Wk ?_
      refine ⟨k + 1, ⟨by omega, fun m hm => ?_⟩, by omega, ?_⟩
      · rcases Nat.lt_succ_iff_lt_or_eq.1 hm with h | rfl
        · exact hinv m h
        · exact hs
      · refine Fits.mk' rfl rfl rfl rfl ?_ ?_ ?_ ?_ ?_ <;> repeat' (first | exact trivial | refine And.intro ?_ ?_ | exact Sees.of_eq rfl | exact lt_b rfl | rfl | exact Sees.int (by rw [w64] <;> omega) | exact SeesL.rfl' _)
  · have hk' : k = q.length := by simp at hb; omega
    have hf : byWindowM n q = none := firstO_none (hk' ▸ hinv)
    refine Wk ?_
    exact resP.mk rfl (Sees.of_eq (by rw [hf]; rfl))

theorem link_dec (x y : Link) : (x.src == y.src && (x.dst == y.dst && (x.loss == y.loss && true))) = decide (x = y) := by
  rw [Bool.eq_iff_iff]
  simp only [Bool.and_eq_true, beq_iff_eq, and_true, decide_eq_true_eq]
  constructor
  · rintro ⟨h1, h2, h3⟩
    cases x; cases y
    simp only at h1 h2 h3
    subst h1; subst h2; subst h3; rfl
  · rintro rfl; exact ⟨rfl, rfl, rfl⟩
theorem c_EqLinks (a b : List Link) (ha : a.length ≤ 281474976710656) : PCall Tryz.prog L 90 [encLinks a, encLinks b] (.bool (decide (a = b))) := by
  refine PCall.intro mixed [] (nt := 26) Tryz.func90 rfl rfl (by simp) ?_
  refine Wk ?_
  refine BrK.mk (fun h1 => ?_) (fun h1 => ?_) <;> (try rw [h1])
  · have hne : a.length ≠ b.length := by simp at h1; omega
    refine Wk ?_
    exact resP.mk rfl (Sees.bool (by rw [decide_eq_false (fun h => hne (by rw [h]))]))
  have hl : a.length = b.length := by simp at h1; omega
  refine Wk ?_
  refine LoopK.run mixed [] (fun (k : Nat) => k ≤ a.length ∧ ∀ (j : Nat) x y, j < k → a[j]? = some x → b[j]? = some y → x = y) (fun k => [(0, encLinks a), (1, encLinks b), (12, .int .i64 a.length), (13, .int .i64 k)]) (fun k => St.none) (fun k => a.length - k) 0 ⟨by simp, by simp⟩ ?_ ?_
  · refine Fits.mk' rfl rfl rfl rfl ?_ ?_ ?_ ?_ ?_ <;> repeat' (first | exact trivial | refine And.intro ?_ ?_ | exact Sees.of_eq rfl | exact lt_b rfl | rfl | exact Sees.int (by simp))
  rintro k ⟨hk, hinv⟩
  refine Wk ?_
  refine BrK.mk (fun hb => ?_) (fun hb => ?_) <;> (try rw [hb])
  · have hkt : k < a.length := by simpa using hb
    obtain ⟨x, hgx⟩ := getLt hkt
    obtain ⟨y, hgy⟩ := getLt (l := b) (k := k) (by omega)
    have hmx := getMap (f := Link.av) hgx
    have hmy := getMap (f := Link.av) hgy
    have hdec := link_dec x y
    repeat ((conv => whnf); first | refine sJ ?_ | refine And.intro (by first | exact inbMap hkt | exact inbMap (by omega : k < b.length) | kernel_rfl) ?_ | rw [hmx] | rw [hmy])
    try (conv => whnf)
    rw [hdec]
    refine BrK.mk (fun h2 => ?_) (fun h2 => ?_) <;> (try rw [h2])
    · have hne : ¬ a = b := fun h => by
        subst h
        rw [hgx] at hgy
        injection hgy with hgy
        subst hgy
        simp at h2
      refine Wk ?_
      exact resP.mk rfl (Sees.bool (by rw [decide_eq_false hne]))
    · have hxy : x = y := by simpa using h2
      refine Wk ?_
      refine ⟨k + 1, ⟨by omega, fun j x' y' hj hx' hy' => ?_⟩, by omega, ?_⟩
      · rcases Nat.lt_succ_iff_lt_or_eq.1 hj with h | rfl
        · exact hinv j x' y' h hx' hy'
        · rw [hgx] at hx'; rw [hgy] at hy'; injection hx' with hx'; injection hy' with hy'; rw [← hx', ← hy', hxy]
      · refine Fits.mk' rfl rfl rfl rfl ?_ ?_ ?_ ?_ ?_ <;> repeat' (first | exact trivial | refine And.intro ?_ ?_ | exact Sees.of_eq rfl | exact lt_b rfl | rfl | exact Sees.int (succI hkt ha))
  · have hkn : k = a.length := by simp at hb; omega
    subst hkn
    refine Wk ?_
    exact resP.mk rfl (Sees.bool (by rw [decide_eq_true (eq_of_at hl hinv)]))
end
end HM
