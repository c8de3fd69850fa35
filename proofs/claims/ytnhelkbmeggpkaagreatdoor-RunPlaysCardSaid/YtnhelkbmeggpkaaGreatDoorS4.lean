/- The reference: the form of a schedule. -/
import Derived.Test.YtnhelkbmeggpkaaGreatDoorS3

set_option maxRecDepth 100000
namespace HM
open Go Go.RowKit Go.Proofs
variable (L : World → Prop)

theorem less_cmp : ∀ (xs ys : List Int), xs.length = ys.length → lessL xs ys = decide (cmpL xs ys < 0)
  | [], [], _ => rfl
  | [], _ :: _, h => by simp at h
  | _ :: _, [], h => by simp at h
  | x :: xs, y :: ys, h => by
    simp only [lessL, cmpL, cmpI]
    by_cases h1 : x = y
    · subst h1; simp [less_cmp xs ys (by simpa using h)]
    · by_cases h2 : x < y
      · simp [h1, h2]
      · have h3 : y < x := by omega
        simp [h1, h2, h3]

theorem c_Less (a b : Cell) : PCall Tryz.prog L 140 [a.av, b.av] (.bool (decide (a.cmp b < 0))) := by
  have hlen : a.nums.length = b.nums.length := rfl
  rw [show decide (a.cmp b < 0) = lessL a.nums b.nums from (less_cmp a.nums b.nums rfl).symm]
  refine PCall.intro mixed [] (nt := 36) Tryz.func140 rfl rfl (by simp) ?_
  refine Wk ?_
  first | refine CallK.data rfl (c_numbers35 L a) rfl ?_ | refine CallP.data rfl (c_numbers35 L a) rfl ?_
  refine Wk ?_
  first | refine CallK.data rfl (c_numbers35 L b) rfl ?_ | refine CallP.data rfl (c_numbers35 L b) rfl ?_
  refine Wk ?_
  refine LoopK.run mixed [] (fun (k : Nat) => k ≤ a.nums.length ∧ lessL (a.nums.drop k) (b.nums.drop k) = lessL a.nums b.nums) (fun k => [(5, encIs a.nums), (6, encIs b.nums), (7, .int .i64 k)]) (fun k => St.none) (fun k => a.nums.length - k) 0 ⟨by simp, by simp⟩ ?_ ?_
  · refine Fits.mk' rfl rfl rfl rfl ?_ ?_ ?_ ?_ ?_ <;> repeat' (first | exact trivial | refine And.intro ?_ ?_ | exact Sees.of_eq rfl | exact lt_b rfl | rfl )
  rintro k ⟨hk, hinv⟩
  refine Wk ?_
  refine BrK.mk (fun hb => ?_) (fun hb => ?_) <;> (try rw [hb])
  · have hlt : k < a.nums.length := lenLt hb
    obtain ⟨x, hgx⟩ := getLt hlt
    have hmx := getMap (f := encI) hgx
    obtain ⟨y, hgy⟩ := getLt (l := b.nums) (k := k) hlt
    have hmy := getMap (f := encI) hgy
    rw [dropGet hgx, dropGet hgy] at hinv
    simp only [lessL] at hinv
    repeat ((conv => whnf); first | refine sJ ?_ | refine And.intro (by first | exact inbMap hlt | kernel_rfl) ?_ | rw [hmx] | rw [hmy])
    try (conv => whnf)
    refine BrK.mk (fun h2 => ?_) (fun h2 => ?_) <;> (try rw [h2])
    · repeat ((conv => whnf); first | refine sJ ?_ | refine And.intro (by first | exact inbMap hlt | kernel_rfl) ?_ | rw [hmx] | rw [hmy])
      try (conv => whnf)
      exact resP.mk rfl (Sees.bool (by rw [← hinv, if_neg (by simpa using h2)]))
    · refine Wk ?_
      refine ⟨k + 1, ⟨by omega, by rw [← hinv, if_pos (by simpa using h2)]⟩, by omega, ?_⟩
      refine Fits.mk' rfl rfl rfl rfl ?_ ?_ ?_ ?_ ?_ <;> repeat' (first | exact trivial | refine And.intro ?_ ?_ | exact Sees.of_eq rfl | exact lt_b rfl | rfl | exact Sees.int (succI hlt (by simp [Cell.nums])))
  · have hk' := lenGe hb
    refine Wk ?_
    exact resP.mk rfl (Sees.bool (by rw [← hinv, List.drop_of_length_le hk', List.drop_of_length_le (hlen ▸ hk')]; rfl))

theorem c_Formed (s : Sched) : PCall Tryz.prog L 97 [s.av] (.bool (formB s)) := by
  refine PCall.intro mixed [] (nt := 54) Tryz.func97 rfl rfl (by simp) ?_
  refine Wk ?_
  first | refine CallK.data rfl (c_in35 L _ _ _) rfl ?_ | refine CallP.data rfl (c_in35 L _ _ _) rfl ?_
  refine Wk ?_
  refine BrK.mk (fun g1 => ?_) (fun g1 => ?_) <;> (try rw [g1])
  · refine Wk ?_
    exact resP.mk rfl (Sees.bool (by
      have : sizedB s = false := by
        cases hs : sizedB s with
        | false => rfl
        | true => simp [sizedB] at hs; simp [inB] at g1; omega
      simp [formB, this]))
  refine Wk ?_
  first | refine CallK.data rfl (c_in35 L _ _ _) rfl ?_ | refine CallP.data rfl (c_in35 L _ _ _) rfl ?_
  refine Wk ?_
  refine BrK.mk (fun g2 => ?_) (fun g2 => ?_) <;> (try rw [g2])
  · refine Wk ?_
    exact resP.mk rfl (Sees.bool (by
      have : sizedB s = false := by
        cases hs : sizedB s with
        | false => rfl
        | true => simp [sizedB] at hs; simp [inB] at g2; omega
      simp [formB, this]))
  have hz : sizedB s = true := by simp [inB] at g1 g2; simp [sizedB]; omega
  have hzz : 1 ≤ s.len ∧ s.len ≤ 512 ∧ 1 ≤ s.offs ∧ s.offs ≤ 16 := by simp [sizedB] at hz; omega
  have h1 : -9223372036854775808 < s.len := by omega
  have h2 : -9223372036854775808 < s.offs := by omega
  have h3 : s.len ≤ 9223372036854775807 := by omega
  have h4 : s.offs ≤ 9223372036854775807 := by omega
  refine Wk ?_
  refine BrK.mk (fun g3 => ?_) (fun g3 => ?_) <;> (try rw [g3])
  · refine Wk ?_
    exact resP.mk rfl (Sees.bool (by have : ¬ s.cells.length ≤ 512 := by simp at g3; omega
                                     simp [formB, this]))
  have hl : s.cells.length ≤ 512 := by simp at g3; omega
  refine Wk ?_
  refine LoopK.run mixed [] (fun (k : Nat) => k ≤ s.cells.length ∧ ∀ j, j < k → okAt s j = true) (fun k => [(1, .ptr 0 0), (3, .int .i64 k)]) (fun k => ⟨[.cells [.int .i64 s.len, .int .i64 s.offs, encCells s.cells] 30], [], 0, 0, fun _ => 0⟩) (fun k => s.cells.length - k) 0 ⟨by simp, by simp⟩ ?_ ?_
  · refine Fits.mk' rfl rfl rfl rfl ?_ ?_ ?_ ?_ ?_ <;> repeat' (first | exact trivial | refine And.intro ?_ ?_ | exact Sees.of_eq rfl | exact lt_b rfl | rfl | exact Sees.int (by simp))
  rintro k ⟨hk, hinv⟩
  refine Wk ?_
  refine BrK.mk (fun hb => ?_) (fun hb => ?_) <;> (try rw [hb])
  · have hlt : k < s.cells.length := lenLt hb
    obtain ⟨c, hgc⟩ := getLt hlt
    have hmc := getMap (f := Cell.av) hgc
    have next : okAt s k = true → ∀ j, j < k + 1 → okAt s j = true := fun hk j hj => by
      rcases Nat.lt_succ_iff_lt_or_eq.1 hj with h | rfl
      · exact hinv j h
      · exact hk
    repeat ((conv => whnf); first | refine sJ ?_ | refine And.intro (by first | exact inbMap hlt | kernel_rfl) ?_ | rw [hmc])
    try (conv => whnf)
    first | refine CallK.data rfl (c_right L s c h1 h2 h3 h4) rfl ?_ | refine CallP.data rfl (c_right L s c h1 h2 h3 h4) rfl ?_
    refine Wk ?_
    refine BrK.mk (fun h3 => ?_) (fun h3 => ?_) <;> (try rw [h3])
    · refine Wk ?_
      exact resP.mk rfl (Sees.bool (by simp at h3; rw [formB, range_not hlt (by simp [okAt, hgc, h3])]; simp))
    · simp at h3
      refine Wk ?_
      refine BrK.mk (fun h4 => ?_) (fun h4 => ?_) <;> (try rw [h4])
      · have hpos : 0 < k := by simpa using h4
        obtain ⟨j, rfl⟩ : ∃ j, k = j + 1 := ⟨k - 1, by omega⟩
        obtain ⟨p, hgp⟩ := getLt (l := s.cells) (k := j) (by omega)
        have hmp := getMap (f := Cell.av) hgp
        have hw : IntKind.i64.wrap (((j + 1 : Nat) : Int) - 1) = (j : Int) := by rw [w64] <;> omega
        repeat ((conv => whnf); first | refine sJ ?_ | refine And.intro (by first | exact inbMap hlt | (rw [hw]; exact inbMap (by omega)) | kernel_rfl) ?_ | rw [hw] | rw [hmp] | rw [hmc])
        try (conv => whnf)
        first | refine CallK.data rfl (c_Less L p c) rfl ?_ | refine CallP.data rfl (c_Less L p c) rfl ?_
        refine Wk ?_
        refine BrK.mk (fun h5 => ?_) (fun h5 => ?_) <;> (try rw [h5])
        · refine Wk ?_
          exact resP.mk rfl (Sees.bool (by
            have : ¬ p.cmp c < 0 := by simpa using h5
            rw [formB, range_not hlt (by simp [okAt, hgc, hgp, this])]; simp))
        · have : p.cmp c < 0 := by simpa using h5
          refine Wk ?_
          refine ⟨j + 2, ⟨by omega, next (by simp [okAt, hgc, hgp, this, h3])⟩, by omega, ?_⟩
          refine Fits.mk' rfl rfl rfl rfl ?_ ?_ ?_ ?_ ?_ <;> repeat' (first | exact trivial | refine And.intro ?_ ?_ | exact Sees.of_eq rfl | exact lt_b rfl | rfl | exact Sees.int (succI hlt (by omega)))
      · have hz : k = 0 := by simp at h4; omega
        subst hz
        refine Wk ?_
        refine ⟨1, ⟨by omega, next (by simp [okAt, hgc, h3])⟩, by omega, ?_⟩
        refine Fits.mk' rfl rfl rfl rfl ?_ ?_ ?_ ?_ ?_ <;> repeat' (first | exact trivial | refine And.intro ?_ ?_ | exact Sees.of_eq rfl | exact lt_b rfl | rfl | exact Sees.int (succI hlt (by omega)))
  · have hk' : k = s.cells.length := by have := lenGe hb; omega
    subst hk'
    refine Wk ?_
    exact resP.mk rfl (Sees.bool (by simp [formB, hz, hl, range_all hinv]))
end HM
