/- Groups of links: the reference's parts. -/
import Derived.Test.YtdjglaoahmaljaaGreatDoorS138
import Derived.Test.YtdjglaoahmaljaaGreatDoorDb

set_option maxRecDepth 100000
namespace HM
open Go Go.RowKit Go.Proofs
def encN (n : Nat) : AV := .int .i64 n
def encNs (l : List Nat) : AV := .sl false (l.map encN)
section
variable (L : World → Prop)

set_option maxHeartbeats 1000000 in
theorem c_apart39 (n : Net) (hn : n.small) (ls : List Link) (hl : ls.length ≤ 281474976710656) : PCall Tryz.prog L 84 [n.av, encLinks ls] (.bool (pairB n ls)) := by
  refine PCall.intro mixed [] (nt := 28) Tryz.func84 rfl rfl (by simp) ?_
  refine Wk ?_
  refine LoopK.run mixed [] (fun (k : Nat) => k ≤ ls.length ∧ pairB n (ls.take k) = true) (fun k => [(1, encLinks ls), (2, .ptr 0 0), (5, .int .i64 k)]) (fun k => ⟨[.cells n.cs 26], [], 0, 0, fun _ => 0⟩) (fun k => ls.length - k) 0 ⟨by simp, by simp [pairB]⟩ ?_ ?_
  · refine Fits.mk' rfl rfl rfl rfl ?_ ?_ ?_ ?_ ?_ <;> repeat' (first | exact trivial | refine And.intro ?_ ?_ | exact Sees.of_eq rfl | exact lt_b rfl | rfl | exact SeesL.rfl' _)
  rintro k ⟨hk, hinv⟩
  refine Wk ?_
  refine BrK.mk (fun hb => ?_) (fun hb => ?_) <;> (try rw [hb])
  · have hlt : k < ls.length := by simpa using hb
    obtain ⟨x, hgx⟩ := getLt hlt
    have hmx := getMap (f := Link.av) hgx
    refine Wk ?_
    refine LoopK.run mixed [] (fun (j : Nat) => j ≤ k ∧ ∀ i y, i < j → ls[i]? = some y → togB n y x = false) (fun j => [(1, encLinks ls), (2, .ptr 0 0), (5, .int .i64 k), (6, .int .i64 j)]) (fun j => ⟨[.cells n.cs 26], [], 0, 0, fun _ => 0⟩) (fun j => k - j) 0 ⟨by simp, by simp⟩ ?_ ?_
    · refine Fits.mk' rfl rfl rfl rfl ?_ ?_ ?_ ?_ ?_ <;> repeat' (first | exact trivial | refine And.intro ?_ ?_ | exact Sees.of_eq rfl | exact lt_b rfl | rfl | exact SeesL.rfl' _)
    rintro j ⟨hj, hinv2⟩
    refine Wk ?_
    refine BrK.mk (fun hd => ?_) (fun hd => ?_) <;> (try rw [hd])
    · have hjt : j < k := by simpa using hd
      obtain ⟨y, hgy⟩ := getLt (l := ls) (k := j) (by omega)
      have hmy := getMap (f := Link.av) hgy
      repeat ((conv => whnf); first | refine sJ ?_ | refine And.intro (by first | exact inbMap hlt | exact inbMap (k := j) (by omega) | kernel_rfl) ?_ | rw [hmx] | rw [hmy])
      try (conv => whnf)
      first | refine CallK.data rfl (c_Together34 L n hn y x) rfl ?_ | refine CallP.data rfl (c_Together34 L n hn y x) rfl ?_
      cases ht : togB n y x with
      | true =>
        refine Wk ?_
        exact resP.mk rfl (Sees.bool (pairB_no hjt hgy hgx ht).symm)
      | false =>
        refine Wk ?_
        refine ⟨j + 1, ⟨by omega, fun i z hi hz => ?_⟩, by omega, ?_⟩
        · rcases Nat.lt_succ_iff_lt_or_eq.1 hi with h | rfl
          · exact hinv2 i z h hz
          · rw [hgy] at hz; injection hz with hz; subst hz; exact ht
        · refine Fits.mk' rfl rfl rfl rfl ?_ ?_ ?_ ?_ ?_ <;> repeat' (first | exact trivial | refine And.intro ?_ ?_ | exact Sees.of_eq rfl | exact lt_b rfl | rfl | exact SeesL.rfl' _ | exact Sees.int (by rw [w64] <;> omega))
    · have hjn : j = k := by simp at hd; omega
      subst hjn
      refine Wk ?_
      refine ⟨j + 1, ⟨by omega, pairB_take hgx hinv hinv2⟩, by omega, ?_⟩
      refine Fits.mk' rfl rfl rfl rfl ?_ ?_ ?_ ?_ ?_ <;> repeat' (first | exact trivial | refine And.intro ?_ ?_ | exact Sees.of_eq rfl | exact lt_b rfl | rfl | exact SeesL.rfl' _ | exact Sees.int (succI hlt (by omega)))
  · have hk' : k = ls.length := by simp at hb; omega
    subst hk'
    rw [List.take_length] at hinv
    refine Wk ?_
    exact resP.mk rfl (Sees.bool hinv.symm)

theorem c_less39 (a b : List Nat) (ha : a.length ≤ 281474976710656) (hb0 : b.length ≤ 281474976710656) : PCall Tryz.prog L 85 [encNs a, encNs b] (.bool (lexB a b)) := by
  refine PCall.intro mixed [] (nt := 41) Tryz.func85 rfl rfl (by simp) ?_
  refine Wk ?_
  refine LoopK.run mixed [] (fun (k : Nat) => k ≤ a.length ∧ k ≤ b.length ∧ lexB a b = lexB (a.drop k) (b.drop k)) (fun k => [(0, encNs a), (1, encNs b), (5, .int .i64 k)]) (fun k => St.none) (fun k => a.length - k) 0 ⟨by simp, by simp, by simp⟩ ?_ ?_
  · refine Fits.mk' rfl rfl rfl rfl ?_ ?_ ?_ ?_ ?_ <;> repeat' (first | exact trivial | refine And.intro ?_ ?_ | exact Sees.of_eq rfl | exact lt_b rfl | rfl )
  rintro k ⟨hka, hkb, hinv⟩
  rw [hinv]
  clear hinv
  by_cases h1 : k < a.length ∧ k < b.length
  · obtain ⟨h1, h2⟩ := h1
    obtain ⟨x, hgx⟩ := getLt h1
    obtain ⟨y, hgy⟩ := getLt h2
    have hmx := getMap (f := encN) hgx
    have hmy := getMap (f := encN) hgy
    have g1 : decide ((k : Int) < ((a.map encN).length : Int)) = true := by simpa using h1
    have g2 : decide ((k : Int) < ((b.map encN).length : Int)) = true := by simpa using h2
    repeat ((conv => whnf); first | refine sJ ?_ | refine And.intro (by first | exact trivial | exact inbMap h1 | exact inbMap h2 | kernel_rfl) ?_ | rw [g1] | rw [g2] | rw [hmx] | rw [hmy])
    try (conv => whnf)
    refine BrK.mk (fun h3 => ?_) (fun h3 => ?_) <;> (try rw [h3])
    · have h3' : x ≠ y := by simp at h3; omega
      rw [lexB_drop_ne hgx hgy h3']
      repeat ((conv => whnf); first | refine sJ ?_ | refine And.intro (by first | exact inbMap h1 | exact inbMap h2 | kernel_rfl) ?_ | rw [hmx] | rw [hmy])
      try (conv => whnf)
      exact resP.mk rfl (Sees.bool (by simp))
    · have h3' : x = y := by simp at h3; omega
      subst h3'
      refine Wk ?_
      refine ⟨k + 1, ⟨by omega, by omega, lexB_drop_eq hgx hgy⟩, by omega, ?_⟩
      refine Fits.mk' rfl rfl rfl rfl ?_ ?_ ?_ ?_ ?_ <;> repeat' (first | exact trivial | refine And.intro ?_ ?_ | exact Sees.of_eq rfl | exact lt_b rfl | rfl | exact Sees.int (succI h1 ha))
  · have hend := lexB_drop_end (a := a) (b := b) (i := k) (by omega) hka hkb
    rw [hend]
    by_cases h1 : k < a.length
    · have g1 : decide ((k : Int) < ((a.map encN).length : Int)) = true := by simpa using h1
      have g2 : decide ((k : Int) < ((b.map encN).length : Int)) = false := by simp; omega
      repeat ((conv => whnf); first | refine sJ ?_ | refine And.intro (by first | exact trivial | kernel_rfl) ?_ | rw [g1] | rw [g2])
      try (conv => whnf)
      exact resP.mk rfl (Sees.bool (by simp))
    · have g1 : decide ((k : Int) < ((a.map encN).length : Int)) = false := by simp; omega
      repeat ((conv => whnf); first | refine sJ ?_ | refine And.intro (by first | exact trivial | kernel_rfl) ?_ | rw [g1])
      try (conv => whnf)
      exact resP.mk rfl (Sees.bool (by simp))

theorem c_Some34 (al : List Link) (hal : al.length ≤ 10) (b : Nat) (hb0 : b < 1024) : PCall Tryz.prog L 83 [encLinks al, .int .i64 b] (.tup [encLinks (gL al (bitsI al.length b)), encNs (bitsI al.length b)]) := by
  refine PCall.intro mixed [] (nt := 35) Tryz.func83 rfl rfl (by simp) ?_
  refine Wk ?_
  refine LoopK.run mixed [] (fun (k : Nat) => k ≤ al.length) (fun k => [(0, encLinks al), (1, .int .i64 b), (6, .own ((gL al (bitsI k b)).map Link.av) 0), (7, .own ((bitsI k b).map encN) 1), (8, .int .i64 k)]) (fun k => ⟨[], [((gL al (bitsI k b)).length, 3), ((bitsI k b).length, 1)], 0, 0, fun j => if j = 0 then 56 else 3⟩) (fun k => al.length - k) 0 (by simp) ?_ ?_
  · refine Fits.mk' rfl rfl rfl rfl ?_ ?_ ?_ ?_ ?_ <;> repeat' (first | exact trivial | refine And.intro ?_ ?_ | exact Sees.of_eq rfl | exact lt_b rfl | rfl )
  rintro k hk
  have hbl := bitsI_len k b
  have hgl2 := gL_len al (bitsI k b)
  refine Wk ?_
  refine BrK.mk (fun hb => ?_) (fun hb => ?_) <;> (try rw [hb])
  · have hlt : k < al.length := by simpa using hb
    obtain ⟨l, hgl⟩ := getLt hlt
    have hml := getMap (f := Link.av) hgl
    have hld : al.getD k lk0 = l := by rw [List.getD_eq_getElem?_getD, hgl]; rfl
    have hst := bitsI_succ k b
    have hsh := shr_and (m := (b : Int)) (k := k) (by omega) (by omega) (by omega)
    rw [bitI_nat] at hsh
    repeat ((conv => whnf); first | refine sJ ?_ | refine And.intro (by first | exact (by omega : (0 : Int) ≤ (k : Int)) | kernel_rfl) ?_ | rw [hsh])
    try (conv => whnf)
    cases hbt : b.testBit k with
    | true =>
      rw [if_pos hbt] at hst
      have hgs : gL al (bitsI k b ++ [k]) = gL al (bitsI k b) ++ [l] := by rw [gL_snoc, hld]
      repeat ((conv => whnf); first | refine sJ ?_ | refine And.intro (by first | exact inbMap hlt | exact Els.map (f := Link.av) (fun _ => ⟨rfl, rfl⟩) | exact Els.map (f := encN) (fun _ => ⟨rfl, rfl⟩) | exact Els.of_b rfl | exact (show _ * 24 ≤ _ by simp only [List.length_map, List.length_append, List.length_cons, List.length_nil]; omega) | exact (show _ * 8 ≤ _ by simp only [List.length_map, List.length_append, List.length_cons, List.length_nil]; omega) | exact (by simp only [List.length_map, List.length_append, List.length_cons, List.length_nil, maxLen]; omega) | exact (show some (_, _) = some (_, _) by simp only [List.length_map]) | kernel_rfl) ?_ | rw [hml])
      try (conv => whnf)
      refine ⟨k + 1, by omega, by omega, ?_⟩
      rw [hst, hgs]
      refine Fits.mk' rfl rfl rfl rfl ?_ ?_ ?_ ?_ ?_ <;> repeat' (first | exact trivial | refine And.intro ?_ ?_ | exact Sees.of_eq rfl | exact lt_b rfl | rfl | exact Sees.int (succI hlt (by omega)) | exact Sees.own (by simp; rfl) | (show (_, _) = (_, _); simp only [List.length_append, List.length_map, List.length_cons, List.length_nil]))
    | false =>
      rw [if_neg (by simp [hbt])] at hst
      refine Wk ?_
      refine ⟨k + 1, by omega, by omega, ?_⟩
      rw [hst]
      refine Fits.mk' rfl rfl rfl rfl ?_ ?_ ?_ ?_ ?_ <;> repeat' (first | exact trivial | refine And.intro ?_ ?_ | exact Sees.of_eq rfl | exact lt_b rfl | rfl | exact Sees.int (succI hlt (by omega)))
  · have hk' : k = al.length := by simp at hb; omega
    subst hk'
    refine Wk ?_
    exact resP.mk rfl (Sees.of_eq rfl)
end
end HM
