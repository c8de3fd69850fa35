/- Reasons: the reference. -/
import Derived.Test.YtdjglaoahmaljaaGreatDoorS143
import Derived.Test.YtdjglaoahmaljaaGreatDoorS130
import Derived.Test.YtdjglaoahmaljaaGreatDoorDb

set_option maxRecDepth 100000
namespace HM
open Go Go.RowKit Go.Proofs
section
variable (L : World → Prop)

set_option maxHeartbeats 1000000 in
theorem c_Sum33 (n : Net) (hn : n.small) (hok : NetOk n) (r : List Int) (hl : r.length ≤ 128) (hhop : ∀ i, i + 1 < r.length → goodL n (r.getD i 0) (r.getD (i + 1) 0) = true) : PCall Tryz.prog L 40 [n.av, encIs r] (.int .i64 (costR n r (r.length - 1))) := by
  refine PCall.intro mixed [] (nt := 28) Tryz.func40 rfl rfl (by simp) ?_
  refine Wk ?_
  refine LoopK.run mixed [] (fun (j : Nat) => j ≤ r.length - 1) (fun j => [(1, encIs r), (2, .ptr 0 0), (5, .int .i64 (costR n r j)), (6, .int .i64 (j + 1 : Nat))]) (fun _ => ⟨[.cells n.cs 26], [], 0, 0, fun _ => 0⟩) (fun j => r.length - j) 0 (by omega) ?_ ?_
  · refine Fits.mk' rfl rfl rfl rfl ?_ ?_ ?_ ?_ ?_ <;> repeat' (first | exact trivial | refine And.intro ?_ ?_ | exact Sees.of_eq rfl | exact lt_b rfl | rfl | exact SeesL.rfl' _)
  rintro j hj
  refine Wk ?_
  refine BrK.mk (fun hb => ?_) (fun hb => ?_) <;> (try rw [hb])
  · have hjt : j + 1 < r.length := by simp at hb; omega
    have hw : IntKind.i64.wrap (((j + 1 : Nat) : Int) - 1) = (j : Int) := by rw [w64] <;> omega
    obtain ⟨a, hga⟩ := getLt (l := r) (k := j) (by omega)
    obtain ⟨b, hgb⟩ := getLt hjt
    have hma := getMap (f := encI) hga
    have hmb := getMap (f := encI) hgb
    have hg := hhop j hjt
    have ha : r.getD j 0 = a := by rw [List.getD_eq_getElem?_getD, hga]; rfl
    have hb' : r.getD (j + 1) 0 = b := by rw [List.getD_eq_getElem?_getD, hgb]; rfl
    have hcs := costR_succ n r j
    have hcb := costR_bd hok (r := r) (k := j + 1) fun m hm => good_find (hhop m (by omega))
    have hcb0 := costR_bd hok (r := r) (k := j) fun m hm => good_find (hhop m (by omega))
    rw [ha, hb'] at hg hcs
    have hf := good_find hg
    have hls : lossL n a b = (lnkAt n a b).loss := by
      unfold lossL lnkAt
      rw [List.getD_eq_getElem?_getD]
      cases n.links[(findL n a b).toNat]? <;> rfl
    obtain ⟨b1, b2⟩ := link_bd hok (lnkAt_mem hf).1
    have hw1 : IntKind.i64.wrap (costR n r j + lossL n a b) = costR n r j + lossL n a b := by rw [w64] <;> omega
    repeat ((conv => whnf); first | refine sJ ?_ | refine And.intro (by first | exact inbMap hjt | (rw [hw]; exact inbMap (by omega)) | kernel_rfl) ?_ | rw [hw] | rw [hma] | rw [hmb])
    try (conv => whnf)
    first | refine CallK.data rfl (c_Loss33 L n hn.2.2.1 a b hf) rfl ?_ | refine CallP.data rfl (c_Loss33 L n hn.2.2.1 a b hf) rfl ?_
    refine Wk ?_
    refine ⟨j + 1, by omega, by omega, ?_⟩
    rw [hcs]
    refine Fits.mk' rfl rfl rfl rfl ?_ ?_ ?_ ?_ ?_ <;> repeat' (first | exact trivial | refine And.intro ?_ ?_ | exact Sees.of_eq rfl | exact lt_b rfl | rfl | exact SeesL.rfl' _ | exact Sees.int (by rw [w64] <;> omega) | exact Sees.int (by rw [hw1, w64] <;> omega))
  · have hjr : j = r.length - 1 := by simp at hb; omega
    refine Wk ?_
    exact resP.mk rfl (Sees.int (by rw [hjr]))

set_option maxHeartbeats 2000000 in
theorem c_group39 (n : Net) (hn : n.small) (q : List Req) (hq : q.length ≤ 1099511627776) (hx : ∀ x ∈ q, x.small) (len : Int) (hQ : QOk n q len) : PCall Tryz.prog L 41 [n.av, encReqs q, .int .i64 len] (encLinks (if 10 < (allM n q).length then [] else gL (allM n q) (bestI n q len))) := by
  have hok := hQ.net
  refine PCall.intro mixed [] (nt := 65) Tryz.func41 rfl rfl (by simp) ?_
  refine Wk ?_
  first | refine CallK.data rfl (c_used39 L n hok q hq hx) rfl ?_ | refine CallP.data rfl (c_used39 L n hok q hq hx) rfl ?_
  obtain ⟨al, hal⟩ : ∃ al, al = allM n q := ⟨_, rfl⟩
  have hals : List.Sublist al n.links := hal ▸ all_sub n q
  rw [← hal]
  refine Wk ?_
  refine BrK.mk (fun h1 => ?_) (fun h1 => ?_) <;> (try rw [h1])
  · have h1' : 10 < al.length := by simp at h1; omega
    rw [if_pos h1']
    refine Wk ?_
    exact resP.mk rfl (Sees.of_eq rfl)
  have h1' : ¬ 10 < al.length := by simp at h1; omega
  rw [if_neg h1']
  have hrs : ∀ k, List.Sublist (refI n q len k) (List.range al.length) := fun k => hal ▸ refI_sub n q len k
  have hrl : ∀ k, (refI n q len k).length ≤ 10 := fun k => by have := (hrs k).length_le; rw [List.length_range] at this; omega
  have hpw : 2 ^ al.length ≤ 1024 := Nat.pow_le_pow_right (n := 2) (by omega) (show al.length ≤ 10 by omega)
  have hp1 : 1 ≤ 2 ^ al.length := Nat.one_le_two_pow
  refine Wk ?_
  refine LoopK.run mixed [] (fun (k : Nat) => 1 ≤ k ∧ k ≤ 2 ^ al.length) (fun k => [(1, encReqs q), (2, .int .i64 len), (3, .ptr 0 0), (7, encLinks al), (8, encLinks (gL al (refI n q len k))), (9, encNs (refI n q len k)), (10, .int .i64 k)]) (fun _ => ⟨[.cells n.cs 26], [], 0, 0, fun _ => 0⟩) (fun k => 2 ^ al.length - k) 1 ⟨by omega, by omega⟩ ?_ ?_
  · refine Fits.mk' rfl rfl rfl rfl ?_ ?_ ?_ ?_ ?_ <;> repeat' (first | exact trivial | refine And.intro ?_ ?_ | exact Sees.of_eq rfl | exact lt_b rfl | rfl | exact SeesL.rfl' _ | exact Sees.elems (by rw [refI_one]; rfl))
  rintro k ⟨hk1, hk2⟩
  have hshl : IntKind.i64.wrap (1 * 2 ^ min ((al.map Link.av).length : Int).toNat IntKind.i64.bits) = ((2 ^ al.length : Nat) : Int) := by
    rw [List.length_map, Int.toNat_natCast, show min al.length IntKind.i64.bits = al.length from Nat.min_eq_left (show al.length ≤ 64 by omega), Int.one_mul]
    have e : ((2 ^ al.length : Nat) : Int) = (2 : Int) ^ al.length := by simp
    rw [← e, w64 (by omega) (by omega)]
  repeat ((conv => whnf); first | refine sJ ?_ | refine And.intro (by first | exact (show (0 : Int) ≤ _ by omega) | kernel_rfl) ?_ | rw [hshl])
  try (conv => whnf)
  refine BrK.mk (fun hb => ?_) (fun hb => ?_) <;> (try rw [hb])
  · have hlt : k < 2 ^ al.length := Int.ofNat_lt.1 (of_decide_eq_true hb)
    obtain ⟨bi, hbi⟩ : ∃ bi, bi = bitsI al.length k := ⟨_, rfl⟩
    have hcs := c_Some34 L al (by omega) k (by omega)
    rw [← hbi] at hcs
    have hbs : List.Sublist bi (List.range al.length) := hbi ▸ bitsI_sub _ _
    have hbl : bi.length ≤ 10 := by have := hbs.length_le; rw [List.length_range] at this; omega
    have hs1 : List.Sublist (gL al bi) n.links := (gL_sub hbs).trans hals
    have hs2 : List.Sublist (gL al (refI n q len k)) n.links := (gL_sub (hrs k)).trans hals
    have hw1 : sumW (needM q len) (gL al bi) = wI q len al bi := rfl
    have hw2 : sumW (needM q len) (gL al (refI n q len k)) = wI q len al (refI n q len k) := rfl
    have hst := refI_succ n q len hk1
    rw [← hal, ← hbi] at hst
    have hpb : pairB n (gL al bi) = decide (bi.Pairwise fun a b => tgI n al a b = false) := by
      unfold pairB gL
      rw [decide_eq_decide, List.pairwise_map]; rfl
    refine Wk ?_
    first | refine CallK.data rfl (hcs) rfl ?_ | refine CallP.data rfl (hcs) rfl ?_
    refine Wk ?_
    first | refine CallK.data rfl (c_total39 L n hok q hx len hQ (gL al bi) (fun l h => hs1.subset h) (by rw [gL_len]; omega)) rfl ?_ | refine CallP.data rfl (c_total39 L n hok q hx len hQ (gL al bi) (fun l h => hs1.subset h) (by rw [gL_len]; omega)) rfl ?_
    rw [hw1]
    refine Wk ?_
    first | refine CallK.data rfl (c_total39 L n hok q hx len hQ (gL al (refI n q len k)) (fun l h => hs2.subset h) (by rw [gL_len]; have := hrl k; omega)) rfl ?_ | refine CallP.data rfl (c_total39 L n hok q hx len hQ (gL al (refI n q len k)) (fun l h => hs2.subset h) (by rw [gL_len]; have := hrl k; omega)) rfl ?_
    rw [hw2]
    refine Wk ?_
    first | refine CallK.data rfl (c_apart39 L n hn (gL al bi) (by rw [gL_len]; omega)) rfl ?_ | refine CallP.data rfl (c_apart39 L n hn (gL al bi) (by rw [gL_len]; omega)) rfl ?_
    rw [hpb]
    by_cases hp : bi.Pairwise fun a b => tgI n al a b = false
    · rw [decide_eq_true hp]
      rw [if_pos hp] at hst
      unfold pickR at hst
      by_cases h3 : wI q len al (refI n q len k) < wI q len al bi
      · rw [if_pos (.inl h3)] at hst
        have g3 : decide (wI q len al (refI n q len k) < wI q len al bi) = true := decide_eq_true h3
        repeat ((conv => whnf); first | refine sJ ?_ | refine And.intro (by first | exact trivial | kernel_rfl) ?_ | rw [g3])
        try (conv => whnf)
        refine ⟨k + 1, ⟨by omega, by omega⟩, by omega, ?_⟩
        rw [hst]
        refine Fits.mk' rfl rfl rfl rfl ?_ ?_ ?_ ?_ ?_ <;> repeat' (first | exact trivial | refine And.intro ?_ ?_ | exact Sees.of_eq rfl | exact lt_b rfl | rfl | exact SeesL.rfl' _ | exact Sees.int (by rw [w64] <;> omega))
      · have g3 : decide (wI q len al (refI n q len k) < wI q len al bi) = false := decide_eq_false h3
        by_cases h4 : wI q len al bi = wI q len al (refI n q len k)
        · have g4 : (wI q len al bi == wI q len al (refI n q len k)) = true := by simpa using h4
          repeat ((conv => whnf); first | refine sJ ?_ | refine And.intro (by first | exact trivial | kernel_rfl) ?_ | rw [g3] | rw [g4])
          try (conv => whnf)
          first | refine CallK.data rfl (c_less39 L bi (refI n q len k) (by omega) (by have := hrl k; omega)) rfl ?_ | refine CallP.data rfl (c_less39 L bi (refI n q len k) (by omega) (by have := hrl k; omega)) rfl ?_
          cases h5 : lexB bi (refI n q len k) with
          | true =>
            rw [if_pos (.inr ⟨h4, h5⟩)] at hst
            refine Wk ?_
            refine ⟨k + 1, ⟨by omega, by omega⟩, by omega, ?_⟩
            rw [hst]
            refine Fits.mk' rfl rfl rfl rfl ?_ ?_ ?_ ?_ ?_ <;> repeat' (first | exact trivial | refine And.intro ?_ ?_ | exact Sees.of_eq rfl | exact lt_b rfl | rfl | exact SeesL.rfl' _ | exact Sees.int (by rw [w64] <;> omega))
          | false =>
            rw [if_neg (by simp [h5, h3])] at hst
            refine Wk ?_
            refine ⟨k + 1, ⟨by omega, by omega⟩, by omega, ?_⟩
            rw [hst]
            refine Fits.mk' rfl rfl rfl rfl ?_ ?_ ?_ ?_ ?_ <;> repeat' (first | exact trivial | refine And.intro ?_ ?_ | exact Sees.of_eq rfl | exact lt_b rfl | rfl | exact SeesL.rfl' _ | exact Sees.int (by rw [w64] <;> omega))
        · have g4 : (wI q len al bi == wI q len al (refI n q len k)) = false := by simpa using h4
          rw [if_neg (by simp [h4, h3])] at hst
          repeat ((conv => whnf); first | refine sJ ?_ | refine And.intro (by first | exact trivial | kernel_rfl) ?_ | rw [g3] | rw [g4])
          try (conv => whnf)
          refine ⟨k + 1, ⟨by omega, by omega⟩, by omega, ?_⟩
          rw [hst]
          refine Fits.mk' rfl rfl rfl rfl ?_ ?_ ?_ ?_ ?_ <;> repeat' (first | exact trivial | refine And.intro ?_ ?_ | exact Sees.of_eq rfl | exact lt_b rfl | rfl | exact SeesL.rfl' _ | exact Sees.int (by rw [w64] <;> omega))
    · rw [decide_eq_false hp]
      rw [if_neg hp] at hst
      refine Wk ?_
      refine ⟨k + 1, ⟨by omega, by omega⟩, by omega, ?_⟩
      rw [hst]
      refine Fits.mk' rfl rfl rfl rfl ?_ ?_ ?_ ?_ ?_ <;> repeat' (first | exact trivial | refine And.intro ?_ ?_ | exact Sees.of_eq rfl | exact lt_b rfl | rfl | exact SeesL.rfl' _ | exact Sees.int (by rw [w64] <;> omega))
  · have hkn : k = 2 ^ al.length := by
      have := of_decide_eq_false hb
      have := Int.not_lt.1 this
      omega
    subst hkn
    have e := refI_eq n q len
    rw [← hal] at e
    rw [e]
    refine Wk ?_
    exact resP.mk rfl (Sees.of_eq rfl)

theorem c_links39 (al ls : List Link) (h1 : al.length ≤ 281474976710656) (h2 : ls.length ≤ 281474976710656) : PCall Tryz.prog L 91 [encLinks al, encLinks ls] (.bool (decide (List.Sublist ls al) && decide (0 < ls.length))) := by
  refine PCall.intro mixed [] (nt := 39) Tryz.func91 rfl rfl (by simp) ?_
  refine Wk ?_
  refine LoopK.run mixed [] (fun (s : Nat × Nat) => s.1 ≤ al.length ∧ s.2 ≤ ls.length ∧ (List.Sublist ls al ↔ List.Sublist (ls.drop s.2) (al.drop s.1))) (fun s => [(0, encLinks al), (1, encLinks ls), (5, .int .i64 s.1), (6, .int .i64 s.2)]) (fun _ => St.none) (fun s => ls.length - s.2) (0, 0) ⟨by simp, by simp, by simp⟩ ?_ ?_
  · refine Fits.mk' rfl rfl rfl rfl ?_ ?_ ?_ ?_ ?_ <;> repeat' (first | exact trivial | refine And.intro ?_ ?_ | exact Sees.of_eq rfl | exact lt_b rfl | rfl )
  rintro ⟨j, i⟩ ⟨hj, hi, hinv⟩
  simp only at hj hi hinv
  refine Wk ?_
  refine BrK.mk (fun hb => ?_) (fun hb => ?_) <;> (try rw [hb])
  · have hlt : i < ls.length := by simpa using hb
    obtain ⟨x, hgx⟩ := getLt hlt
    have hmx := getMap (f := Link.av) hgx
    refine Wk ?_
    refine LoopK.run mixed [] (fun (m : Nat) => m ≤ al.length ∧ (List.Sublist ls al ↔ List.Sublist (ls.drop i) (al.drop m))) (fun m => [(0, encLinks al), (1, encLinks ls), (5, .int .i64 m), (6, .int .i64 i)]) (fun _ => St.none) (fun m => al.length - m) j ⟨hj, hinv⟩ ?_ ?_
    · refine Fits.mk' rfl rfl rfl rfl ?_ ?_ ?_ ?_ ?_ <;> repeat' (first | exact trivial | refine And.intro ?_ ?_ | exact Sees.of_eq rfl | exact lt_b rfl | rfl )
    rintro m ⟨hm, hinv2⟩
    by_cases h3 : m < al.length
    · obtain ⟨y, hgy⟩ := getLt h3
      have hmy := getMap (f := Link.av) hgy
      have g1 : decide ((m : Int) < ((al.map Link.av).length : Int)) = true := decide_eq_true (by simp; omega)
      have hdec := link_dec y x
      by_cases h4 : y = x
      · subst h4
        have g2 : (!(y.src == y.src && (y.dst == y.dst && (y.loss == y.loss && true)))) = false := by simp
        have g3 : ((m : Int) == ((al.map Link.av).length : Int)) = false := by simp; omega
        repeat ((conv => whnf); first | refine sJ ?_ | refine And.intro (by first | exact trivial | exact inbMap h3 | exact inbMap hlt | kernel_rfl) ?_ | rw [g1] | rw [hmx] | rw [hmy] | rw [g2] | rw [g3])
        try (conv => whnf)
        refine ⟨(m + 1, i + 1), ⟨by simp only; omega, by simp only; omega, hinv2.trans (sub_drop_eq hgx hgy)⟩, by simp only; omega, ?_⟩
        refine Fits.mk' rfl rfl rfl rfl ?_ ?_ ?_ ?_ ?_ <;> repeat' (first | exact trivial | refine And.intro ?_ ?_ | exact Sees.of_eq rfl | exact lt_b rfl | rfl | exact Sees.int (by simp only; rw [w64] <;> omega))
      · have g2 : (!(y.src == x.src && (y.dst == x.dst && (y.loss == x.loss && true)))) = true := by rw [hdec]; simp [h4]
        repeat ((conv => whnf); first | refine sJ ?_ | refine And.intro (by first | exact trivial | exact inbMap h3 | exact inbMap hlt | kernel_rfl) ?_ | rw [g1] | rw [hmx] | rw [hmy] | rw [g2])
        try (conv => whnf)
        refine ⟨m + 1, ⟨by omega, hinv2.trans (sub_drop_ne hgx hgy h4)⟩, by omega, ?_⟩
        refine Fits.mk' rfl rfl rfl rfl ?_ ?_ ?_ ?_ ?_ <;> repeat' (first | exact trivial | refine And.intro ?_ ?_ | exact Sees.of_eq rfl | exact lt_b rfl | rfl | exact Sees.int (by rw [w64] <;> omega))
    · have hme : m = al.length := by omega
      subst hme
      have g1 : decide ((al.length : Int) < ((al.map Link.av).length : Int)) = false := decide_eq_false (by simp)
      have g3 : ((al.length : Int) == ((al.map Link.av).length : Int)) = true := by simp
      have hno := fun h => sub_drop_no hgx (hinv2.1 h)
      repeat ((conv => whnf); first | refine sJ ?_ | refine And.intro (by first | exact trivial | kernel_rfl) ?_ | rw [g1] | rw [g3])
      try (conv => whnf)
      exact resP.mk rfl (Sees.bool (by rw [decide_eq_false hno]; rfl))
  · have hin : i = ls.length := by simp at hb; omega
    subst hin
    rw [List.drop_length] at hinv
    have hyes : List.Sublist ls al := hinv.2 (List.nil_sublist _)
    refine Wk ?_
    exact resP.mk rfl (Sees.bool (by rw [decide_eq_true hyes]; simp))

end
end HM
