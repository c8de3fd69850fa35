/- Schedules: their form. -/
import Derived.Test.YtdjglaoahmaljaaGreatDoorS2

set_option maxRecDepth 100000
namespace HM
open Go Go.RowKit Go.Proofs
variable (L : World → Prop)

theorem c_form (s : Sched) : PCall Tryz.prog L 188 [s.av] (.bool (formB s)) := by
  refine PCall.intro mixed [] (nt := 42) Tryz.func188 rfl rfl (by simp) ?_
  refine Wk ?_
  first | refine CallK.data rfl (c_sized L s) rfl ?_ | refine CallP.data rfl (c_sized L s) rfl ?_
  refine Wk ?_
  refine BrK.mk (fun h1 => ?_) (fun h1 => ?_) <;> (try rw [h1])
  · refine Wk ?_
    exact resP.mk rfl (Sees.bool (by simp at h1; simp [formB, h1]))
  · simp at h1
    refine Wk ?_
    refine BrK.mk (fun h2 => ?_) (fun h2 => ?_) <;> (try rw [h2])
    · refine Wk ?_
      exact resP.mk rfl (Sees.bool (by have : ¬ s.cells.length ≤ 512 := by simp at h2; omega
                                       simp [formB, h1, this]))
    · have hl : s.cells.length ≤ 512 := by simp at h2; omega
      refine Wk ?_
      refine LoopK.run mixed [] (fun (k : Nat) => k ≤ s.cells.length ∧ ∀ j, j < k → okAt s j = true) (fun k => [(1, .ptr 0 0), (15, encCells s.cells), (16, .int .i64 s.cells.length), (17, .int .i64 k)]) (fun k => ⟨[.cells [.int .i64 s.len, .int .i64 s.offs, encCells s.cells] 41], [], 0, 0, fun _ => 0⟩) (fun k => s.cells.length - k) 0 ⟨by simp, by simp⟩ ?_ ?_
      · refine Fits.mk' rfl rfl rfl rfl ?_ ?_ ?_ ?_ ?_ <;> repeat' (first | exact trivial | refine And.intro ?_ ?_ | exact Sees.of_eq rfl | exact lt_b rfl | rfl | exact Sees.int (by simp))
      rintro k ⟨hk, hinv⟩
      refine Wk ?_
      refine BrK.mk (fun hb => ?_) (fun hb => ?_) <;> (try rw [hb])
      · have hlt : k < s.cells.length := by simpa using hb
        obtain ⟨c, hgc⟩ := getLt hlt
        have hmc := getMap (f := Cell.av) hgc
        repeat ((conv => whnf); first | refine sJ ?_ | refine And.intro (by first | exact inbMap hlt | kernel_rfl) ?_ | rw [hmc])
        try (conv => whnf)
        first | refine CallK.data rfl (c_formed L s c) rfl ?_ | refine CallP.data rfl (c_formed L s c) rfl ?_
        refine Wk ?_
        have next : okAt s k = true → ∀ j, j < k + 1 → okAt s j = true := fun hk j hj => by
          rcases Nat.lt_succ_iff_lt_or_eq.1 hj with h | rfl
          · exact hinv j h
          · exact hk
        refine BrK.mk (fun h3 => ?_) (fun h3 => ?_) <;> (try rw [h3])
        · refine Wk ?_
          exact resP.mk rfl (Sees.bool (by simp at h3; rw [formB, range_not hlt (by simp [okAt, hgc, h3])]; simp))
        · simp at h3
          refine Wk ?_
          refine BrK.mk (fun h4 => ?_) (fun h4 => ?_) <;> (try rw [h4])
          · have hpos : 0 < k := by simpa using h4
            obtain ⟨j, rfl⟩ : ∃ j, k = j + 1 := ⟨k - 1, by omega⟩
            obtain ⟨p, hgp⟩ := getLt (l := s.cells) (k := j) (by omega)
            have hmp := getMap (f := Cell.av) hgp
            have hw : IntKind.i64.wrap (((j + 1 : Nat) : Int) - 1) = (j : Int) := by rw [w64] <;> omega
            repeat ((conv => whnf); first | refine sJ ?_ | refine And.intro (by first | (rw [hw]; exact inbMap (by omega)) | kernel_rfl) ?_ | rw [hw] | rw [hmp])
            try (conv => whnf)
            first | refine CallK.data rfl (c_compare L p c) rfl ?_ | refine CallP.data rfl (c_compare L p c) rfl ?_
            refine Wk ?_
            refine BrK.mk (fun h5 => ?_) (fun h5 => ?_) <;> (try rw [h5])
            · refine Wk ?_
              exact resP.mk rfl (Sees.bool (by
                have : ¬ p.cmp c < 0 := by simpa using h5
                rw [formB, range_not hlt (by simp [okAt, hgc, hgp, this])]; simp))
            · have : p.cmp c < 0 := by simpa using h5
              refine Wk ?_
              refine ⟨j + 2, ⟨by omega, next (by simp [okAt, hgc, hgp, this, h3])⟩, by omega, ?_⟩
              refine Fits.mk' rfl rfl rfl rfl ?_ ?_ ?_ ?_ ?_ <;> repeat' (first | exact trivial | refine And.intro ?_ ?_ | exact Sees.of_eq rfl | exact lt_b rfl | rfl | exact Sees.int (succI hlt (by omega)))
          · have hz : k = 0 := by simp at h4; omega
            subst hz
            refine Wk ?_
            refine ⟨1, ⟨by omega, next (by simp [okAt, hgc, h3])⟩, by omega, ?_⟩
            refine Fits.mk' rfl rfl rfl rfl ?_ ?_ ?_ ?_ ?_ <;> repeat' (first | exact trivial | refine And.intro ?_ ?_ | exact Sees.of_eq rfl | exact lt_b rfl | rfl | exact Sees.int (succI hlt (by omega)))
      · have hk' : k = s.cells.length := by simp at hb; omega
        subst hk'
        refine Wk ?_
        exact resP.mk rfl (Sees.bool (by simp [formB, h1, hl, range_all hinv]))
end HM
