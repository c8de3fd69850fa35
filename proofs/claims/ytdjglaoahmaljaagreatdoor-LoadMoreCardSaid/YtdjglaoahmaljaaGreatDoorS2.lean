/- Schedules: how cells compare. -/
import Derived.Test.YtdjglaoahmaljaaGreatDoorS1

set_option maxRecDepth 100000
namespace HM
open Go Go.RowKit Go.Proofs
variable (L : World → Prop)

theorem c_isNaN (x : Int) : PCall Tryz.prog L 152 [.int .i64 x] (.bool false) := by
  refine PCall.intro mixed [] (nt := 6) Tryz.func152 rfl rfl (by simp) ?_
  repeat' ((conv => whnf); first | refine sJ ?_ | refine And.intro (by first  | kernel_rfl) ?_  | (refine BrK.mk (fun hb => ?_) (fun hb => ?_) <;> (try rw [hb])))
  all_goals try (conv => whnf)
  all_goals exact resP.mk rfl (Sees.of_eq (by first | (simp_all []; done) | (simp_all []; omega)))

theorem c_cmp (x y : Int) : PCall Tryz.prog L 124 [.int .i64 x, .int .i64 y] (.int .i64 (cmpI x y)) := by
  refine PCall.intro mixed [] (nt := 20) Tryz.func124 rfl rfl (by simp) ?_
  repeat' ((conv => whnf); first | refine sJ ?_ | refine And.intro (by first  | kernel_rfl) ?_  | (refine BrK.mk (fun hb => ?_) (fun hb => ?_) <;> (try rw [hb])))
  all_goals try (conv => whnf)
  first | refine CallK.data rfl (c_isNaN L _) rfl ?_ | refine CallP.data rfl (c_isNaN L _) rfl ?_
  repeat' ((conv => whnf); first | refine sJ ?_ | refine And.intro (by first  | kernel_rfl) ?_  | (refine BrK.mk (fun hb => ?_) (fun hb => ?_) <;> (try rw [hb])))
  all_goals try (conv => whnf)
  first | refine CallK.data rfl (c_isNaN L _) rfl ?_ | refine CallP.data rfl (c_isNaN L _) rfl ?_
  repeat' ((conv => whnf); first | refine sJ ?_ | refine And.intro (by first  | kernel_rfl) ?_  | (refine BrK.mk (fun hb => ?_) (fun hb => ?_) <;> (try rw [hb])))
  all_goals try (conv => whnf)
  all_goals exact resP.mk rfl (Sees.of_eq (by first | (simp_all [cmpI]; done) | (simp_all [cmpI]; omega)))

theorem c_Compare (xs ys : List Int) (hx : xs.length ≤ 281474976710656) (_hy : ys.length ≤ 281474976710656) : PCall Tryz.prog L 186 [encIs xs, encIs ys] (.int .i64 (cmpL xs ys)) := by
  refine PCall.intro mixed [] (nt := 36) Tryz.func186 rfl rfl (by simp) ?_
  repeat' ((conv => whnf); first | refine sJ ?_ | refine And.intro (by first  | kernel_rfl) ?_  | (refine BrK.mk (fun hb => ?_) (fun hb => ?_) <;> (try rw [hb])))
  all_goals try (conv => whnf)
  refine LoopK.run mixed [] (fun (k : Nat) => k ≤ xs.length ∧ k ≤ ys.length ∧ cmpL (xs.drop k) (ys.drop k) = cmpL xs ys) (fun k => [(0, encIs xs), (1, encIs ys), (9, encIs xs), (10, .int .i64 xs.length), (11, .int .i64 k)]) (fun k => St.none) (fun k => xs.length - k) 0 ⟨by simp, by simp, by simp⟩ ?_ ?_
  · refine Fits.mk' rfl rfl rfl rfl ?_ ?_ ?_ ?_ ?_ <;> repeat' (first | exact trivial | refine And.intro ?_ ?_ | exact Sees.of_eq rfl | exact lt_b rfl | rfl | exact Sees.int (by simp))
  rintro k ⟨hk, hk2, hinv⟩
  refine Wk ?_
  refine BrK.mk (fun hb => ?_) (fun hb => ?_) <;> (try rw [hb])
  · have hlt : k < xs.length := by simpa using hb
    obtain ⟨x, hgx⟩ := getLt hlt
    have hmx := getMap (f := encI) hgx
    have hdx := dropGet hgx
    repeat ((conv => whnf); first | refine sJ ?_ | refine And.intro (by first | exact inbMap hlt | kernel_rfl) ?_ | rw [hmx])
    try (conv => whnf)
    refine BrK.mk (fun hb2 => ?_) (fun hb2 => ?_) <;> (try rw [hb2])
    · refine Wk ?_
      have hle : ys.length ≤ k := by simpa using hb2
      refine resP.mk rfl (Sees.int ?_)
      rw [← hinv, hdx, List.drop_of_length_le hle]; rfl
    · have hlt2 : k < ys.length := by simpa using hb2
      obtain ⟨y, hgy⟩ := getLt hlt2
      have hmy := getMap (f := encI) hgy
      have hdy := dropGet hgy
      repeat ((conv => whnf); first | refine sJ ?_ | refine And.intro (by first | exact inbMap hlt2 | kernel_rfl) ?_ | rw [hmy])
      try (conv => whnf)
      first | refine CallK.data rfl (c_cmp L _ _) rfl ?_ | refine CallP.data rfl (c_cmp L _ _) rfl ?_
      rw [hdx, hdy] at hinv
      simp only [cmpL] at hinv
      repeat' ((conv => whnf); first | refine sJ ?_ | refine And.intro (by first  | kernel_rfl) ?_  | (refine BrK.mk (fun hb => ?_) (fun hb => ?_) <;> (try rw [hb])))
      all_goals try (conv => whnf)
      · refine resP.mk rfl (Sees.int ?_)
        rw [← hinv, if_neg (by simpa using hb)]
      · refine ⟨k + 1, ⟨by omega, by omega, ?_⟩, by omega, ?_⟩
        · rw [← hinv, if_pos (by simpa using hb)]
        · refine Fits.mk' rfl rfl rfl rfl ?_ ?_ ?_ ?_ ?_ <;> repeat' (first | exact trivial | refine And.intro ?_ ?_ | exact Sees.of_eq rfl | exact lt_b rfl | rfl | exact Sees.int (succI hlt hx))
  · have hk' : k = xs.length := by simp at hb; omega
    subst hk'
    repeat' ((conv => whnf); first | refine sJ ?_ | refine And.intro (by first  | kernel_rfl) ?_  | (refine BrK.mk (fun hb => ?_) (fun hb => ?_) <;> (try rw [hb])))
    all_goals try (conv => whnf)
    · refine resP.mk rfl (Sees.int ?_)
      have hlt : xs.length < ys.length := by simpa using hb
      obtain ⟨y, hgy⟩ := getLt hlt
      rw [← hinv, dropGet hgy, List.drop_length]; rfl
    · have hle : ys.length = xs.length := by simp at hb; omega
      refine resP.mk rfl (Sees.int ?_)
      rw [← hinv, List.drop_length, List.drop_of_length_le (by omega)]; rfl

theorem c_order (a b : Cell) : PCall Tryz.prog L 158 [a.av, b.av, .fn 159 []] (.int .i64 (a.cmp b)) := by
  refine PCall.intro mixed [] (nt := 18) Tryz.func158 rfl rfl (by simp) ?_
  refine Wk ?_
  first | refine CallK.data rfl (c_numbers L a) rfl ?_ | refine CallP.data rfl (c_numbers L a) rfl ?_
  refine Wk ?_
  first | refine CallK.data rfl (c_numbers L b) rfl ?_ | refine CallP.data rfl (c_numbers L b) rfl ?_
  refine Wk ?_
  refine CallP.box rfl (c_Compare L a.nums b.nums (by simp [Cell.nums]) (by simp [Cell.nums])) rfl rfl ?_
  refine Wk ?_
  all_goals exact resP.mk rfl (Sees.of_eq (by first | (simp_all [Cell.cmp]; done) | (simp_all [Cell.cmp]; omega)))

theorem c_compare (a b : Cell) : PCall Tryz.prog L 130 [a.av, b.av] (.int .i64 (a.cmp b)) := by
  refine PCall.intro mixed [] (nt := 8) Tryz.func130 rfl rfl (by simp) ?_
  refine Wk ?_
  first | refine CallK.data rfl (c_order L a b) rfl ?_ | refine CallP.data rfl (c_order L a b) rfl ?_
  refine Wk ?_
  all_goals exact resP.mk rfl (Sees.of_eq (by first | (simp_all []; done) | (simp_all []; omega)))

