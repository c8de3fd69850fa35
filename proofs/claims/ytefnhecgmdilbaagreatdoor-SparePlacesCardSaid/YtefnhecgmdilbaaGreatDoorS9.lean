/- Masks: their checks. -/
import Derived.Test.YtefnhecgmdilbaaGreatDoorS6
import Derived.Test.YtefnhecgmdilbaaGreatDoorDa
/- Masks: their checks. -/
set_option maxRecDepth 100000
namespace HM
open Go Go.RowKit Go.Proofs
section
variable (L : World → Prop)

def outA (offs : Int) : AV := .cptr (.agg [.int .i64 offs]) 0

theorem c_outside (n : Int) : PCall Tryz.prog L 32 [.int .i64 n] (.fn 51 [outA n]) := by
  refine PCall.intro mixed [] (nt := 4) Tryz.func32 rfl rfl (by simp) ?_
  refine Wk ?_
  exact resP.mk rfl (Sees.of_eq rfl)

theorem c_outside1 (n m : Int) (h0 : 0 ≤ n) (h1 : n ≤ 62) : PCall Tryz.prog L 51 [.int .i64 m, outA n] (.bool (outB n m)) := by
  refine PCall.intro mixed [] (nt := 12) Tryz.func51 rfl rfl (by simp) ?_
  refine Wk ?_
  refine BrK.mk (fun hb => ?_) (fun hb => ?_) <;> (try rw [hb])
  · refine Wk ?_
    exact resP.mk rfl (Sees.bool (by simp at hb; simp [outB, hb]))
  · have hs := shl1 h0 h1
    repeat ((conv => whnf); first | refine sJ ?_ | refine And.intro (by first | exact h0 | kernel_rfl) ?_ )
    try (conv => whnf)
    exact resP.mk rfl (Sees.bool (by rw [hs]; simp [outB]; simp at hb; omega))

theorem c_scheck (f : List Int) (len offs : Int) (hf : f.length ≤ 281474976710656) : PCall Tryz.prog L 13 [encIs f, .int .i64 len, .int .i64 offs] (.int .i64 (checkM f len offs)) := by
  refine PCall.intro mixed [] (nt := 32) Tryz.func13 rfl rfl (by simp) ?_
  repeat' ((conv => whnf); first | refine sJ ?_ | refine And.intro (by first  | kernel_rfl) ?_  | (refine BrK.mk (fun hb => ?_) (fun hb => ?_) <;> (try rw [hb])))
  all_goals try (conv => whnf)
  · exact resP.mk rfl (Sees.int (by first | (simp_all [checkM]; done) | (simp_all [checkM]; omega)))
  · exact resP.mk rfl (Sees.int (by first | (simp_all [checkM]; done) | (simp_all [checkM]; omega)))
  · exact resP.mk rfl (Sees.int (by first | (simp_all [checkM]; done) | (simp_all [checkM]; omega)))
  · exact resP.mk rfl (Sees.int (by first | (simp_all [checkM]; done) | (simp_all [checkM]; omega)))
  · exact resP.mk rfl (Sees.int (by first | (simp_all [checkM]; done) | (simp_all [checkM]; omega)))
  rename_i g1 g2 g3 g4
  simp only [decide_eq_false_iff_not, List.length_map, bne_eq_false_iff_eq] at g1 g2 g3 g4 hb
  have hck : checkM f len offs = if f.any (outB offs) then 2 else 0 := by
    rw [checkM, if_neg (by omega), if_neg (by omega)]
  first | refine CallK.data rfl (c_outside L offs) rfl ?_ | refine CallP.data rfl (c_outside L offs) rfl ?_
  refine Wk ?_
  first | refine CallK.data rfl (c_ContainsFuncFree L f (outB offs) 51 [outA offs] hf rfl rfl (fun x _ => c_outside1 L offs x (by omega) (by omega))) rfl ?_ | refine CallP.data rfl (c_ContainsFuncFree L f (outB offs) 51 [outA offs] hf rfl rfl (fun x _ => c_outside1 L offs x (by omega) (by omega))) rfl ?_
  repeat' ((conv => whnf); first | refine sJ ?_ | refine And.intro (by first  | kernel_rfl) ?_  | (refine BrK.mk (fun hb => ?_) (fun hb => ?_) <;> (try rw [hb])))
  all_goals try (conv => whnf)
  · exact resP.mk rfl (Sees.int (by rw [hck, hb]; rfl))
  · exact resP.mk rfl (Sees.int (by rw [hck, hb]; rfl))

end
end HM

/- Masks: counted. -/
set_option maxRecDepth 100000
namespace HM
open Go Go.RowKit Go.Proofs
section
variable (L : World → Prop)

theorem any_out {f : List Int} (h : f.any (outB 16) = false) : ∀ x ∈ f, 0 ≤ x ∧ x < 65536 := by
  intro x hx
  have := List.any_eq_false.1 h x hx
  simp [outB] at this
  omega

end
end HM

/- Masks: counted by the program. -/
set_option maxRecDepth 100000
namespace HM
open Go Go.RowKit Go.Proofs
section
variable (L : World → Prop)

def colM (l : List Int) (i : Nat) : Int := sumI (fun m => bitI m i) l
def byF (l : List Int) (x : Int) (j i : Nat) : Int := colM l i + if i < j then bitI x i else 0
def byL (g : Nat → Int) : List Int := (List.range 16).map g

theorem byL_get (g : Nat → Int) {j : Nat} (hj : j < 16) : ((byL g).map encI)[j]? = some (encI (g j)) := by
  simp [byL, hj]

theorem byL_ld (g : Nat → Int) {j : Nat} (hj : j < 16) (n : Nat) (hn : n = 1) : ((byL g).map encI)[0 + ((j : Int)).toNat * n]? = some (encI (g j)) := by
  subst hn; rw [Nat.zero_add, Nat.mul_one, Int.toNat_natCast, byL_get g hj]

theorem byL_ix (g : Nat → Int) {j : Nat} (hj : j < 16) (n : Nat) (hn : n = 1) : ((byL g).map encI)[((j : Int)).toNat * n]? = some (encI (g j)) := by
  subst hn; rw [Nat.mul_one, Int.toNat_natCast, byL_get g hj]

theorem byL_set (g : Nat → Int) {j : Nat} (hj : j < 16) (v : Int) : (((byL g).map encI).set j (encI v)) = (byL (fun i => if i = j then v else g i)).map encI := by
  apply List.ext_getElem?
  intro i
  rw [List.getElem?_set]
  by_cases h : j = i
  · subst h; simp [byL, hj]
  · rw [if_neg h]
    by_cases hi : i < 16
    · simp only [byL, List.getElem?_map, List.getElem?_range hi, Option.map_some]
      rw [if_neg (Ne.symm h)]
    · simp [byL, hi]

theorem colM_bd (l : List Int) (i : Nat) : 0 ≤ colM l i ∧ colM l i ≤ l.length := by
  have := sumI_bd (f := fun m => bitI m i) (c := 1) (by omega) l fun x _ => by have := bitI_lt x i; omega
  simpa [colM] using this

theorem byL_congr {g h : Nat → Int} (e : ∀ i, i < 16 → g i = h i) : byL g = byL h := by
  unfold byL
  exact List.map_congr_left fun i hi => e i (by simpa using hi)

def sumC (f : List Int) : Nat → Int
  | 0 => 0
  | n + 1 => sumC f n + colM f n

theorem sumC_bits (f : List Int) : ∀ n, sumC f n = sumI (fun m => bitsTo m n) f
  | 0 => by
    induction f with
    | nil => rfl
    | cons x f ih => simp only [sumC, sumI, bitsTo] at *; omega
  | n + 1 => by
    rw [sumC, sumC_bits f n, colM]
    induction f with
    | nil => rfl
    | cons x f ih => simp only [sumI, bitsTo] at *; omega

theorem sumC_bd (f : List Int) (n : Nat) : 0 ≤ sumC f n ∧ sumC f n ≤ n * f.length := by
  rw [sumC_bits]
  have := sumI_bd (f := fun m => bitsTo m n) (c := n) (by omega) f fun x _ => bitsTo_le x n
  exact this

theorem c_count (f : List Int) (hf : f.length ≤ 281474976710656) : PCall Tryz.prog L 12 [encIs f] (.int .i64 (countM f)) := by
  refine PCall.intro mixed [] (nt := 47) Tryz.func12 rfl rfl (by simp) ?_
  refine Wk ?_
  refine BrK.mk (fun g1 => ?_) (fun g1 => ?_) <;> (try rw [g1])
  · refine Wk ?_
    exact resP.mk rfl (Sees.int (by rw [countM, if_pos (by simp at g1; omega)]))
  have g1' : ¬ 512 < f.length := by simp at g1; omega
  refine Wk ?_
  first | refine CallK.data rfl (c_outside L 16) rfl ?_ | refine CallP.data rfl (c_outside L 16) rfl ?_
  refine Wk ?_
  first | refine CallK.data rfl (c_ContainsFuncFree L f (outB 16) 51 [outA 16] hf rfl rfl (fun x _ => c_outside1 L 16 x (by omega) (by omega))) rfl ?_ | refine CallP.data rfl (c_ContainsFuncFree L f (outB 16) 51 [outA 16] hf rfl rfl (fun x _ => c_outside1 L 16 x (by omega) (by omega))) rfl ?_
  refine Wk ?_
  refine BrK.mk (fun g2 => ?_) (fun g2 => ?_) <;> (try rw [g2])
  · refine Wk ?_
    exact resP.mk rfl (Sees.int (by rw [countM, if_neg g1', if_pos g2]))
  have hbd := any_out g2
  refine Wk ?_
  refine LoopK.run mixed [] (fun (k : Nat) => k ≤ f.length) (fun k => [(3, .ptr 0 0), (18, encIs f), (19, .int .i64 f.length), (20, .int .i64 k)]) (fun k => ⟨[.cells ((byL (colM (f.take k))).map encI) 74], [], 0, 0, fun _ => 0⟩) (fun k => f.length - k) 0 (by simp) ?_ ?_
  · refine Fits.mk' rfl rfl rfl rfl ?_ ?_ ?_ ?_ ?_ <;> repeat' (first | exact trivial | refine And.intro ?_ ?_ | exact Sees.of_eq rfl | exact lt_b rfl | rfl | exact Sees.int (by simp))
  rintro k hk
  refine Wk ?_
  refine BrK.mk (fun hb => ?_) (fun hb => ?_) <;> (try rw [hb])
  · have hlt : k < f.length := by simpa using hb
    obtain ⟨x, hgx⟩ := getLt hlt
    have hmx := getMap (f := encI) hgx
    have hx := hbd x (List.mem_of_getElem? hgx)
    repeat ((conv => whnf); first | refine sJ ?_ | refine And.intro (by first | exact inbMap hlt | kernel_rfl) ?_ | rw [hmx])
    try (conv => whnf)
    refine LoopK.run mixed [] (fun (j : Nat) => j ≤ 16) (fun j => [(3, .ptr 0 0), (18, encIs f), (19, .int .i64 f.length), (20, .int .i64 k), (5, .int .i64 x), (24, .int .i64 j)]) (fun j => ⟨[.cells ((byL (byF (f.take k) x j)).map encI) 74], [], 0, 0, fun _ => 0⟩) (fun j => 16 - j) 0 (by simp) ?_ ?_
    · refine Fits.mk' rfl rfl rfl rfl ?_ ?_ ?_ ?_ ?_ <;> repeat' (first | exact trivial | refine And.intro ?_ ?_ | exact Sees.of_eq rfl | exact lt_b rfl | rfl | exact Sees.of_eq (by simp [byF]))
    rintro j hj
    refine Wk ?_
    refine BrK.mk (fun hc => ?_) (fun hc => ?_) <;> (try rw [hc])
    · have hj' : j < 16 := by simp at hc; omega
      repeat ((conv => whnf); first | refine sJ ?_ | refine And.intro (by first | exact ⟨by omega, by omega⟩ | kernel_rfl) ?_ )
      try (conv => whnf)
      rw [byL_ld _ hj' _ (by kernel_rfl)]
      have hb1 := bitI_lt x j
      have hcb := colM_bd (f.take k) j
      have htk : (f.take k).length = k := by simp; omega
      rw [htk] at hcb
      repeat ((conv => whnf); first | refine sJ ?_ | refine And.intro (by first | exact ⟨by omega, by omega⟩ | exact (by omega : (0 : Int) ≤ (j : Int)) | exact (show 0 + (j : Int).toNat * 1 + 1 ≤ _ by simp [byL]; omega) | kernel_rfl) ?_ )
      try (conv => whnf)
      refine ⟨j + 1, by omega, by omega, ?_⟩
      have e : splice ((byL (byF (f.take k) x j)).map encI) (0 + (j : Int).toNat * 1) [.int .i64 (IntKind.i64.wrap (byF (f.take k) x j j + IntKind.i64.wrap ↑(BitVec.ofInt IntKind.i64.bits (x.fdiv (2 ^ min (↑j : Int).toNat IntKind.i64.bits)) &&& BitVec.ofInt IntKind.i64.bits 1).toNat))] = (byL (byF (f.take k) x (j + 1))).map encI := by
        rw [Nat.zero_add, Nat.mul_one, Int.toNat_natCast, splice_one]
        have e1 := shr_and (m := x) (k := j) hx.1 (by omega) (by omega)
        rw [Int.toNat_natCast] at e1
        rw [e1]
        have e2 : byF (f.take k) x j j = colM (f.take k) j := by simp [byF]
        rw [e2, w64 (by omega) (by omega)]
        refine (byL_set _ hj' _).trans (congrArg (List.map encI) (byL_congr fun i hi => ?_))
        unfold byF
        by_cases h : i = j
        · subst h; simp
        · rw [if_neg h]
          by_cases h2 : i < j
          · rw [if_pos h2, if_pos (by omega)]
          · rw [if_neg h2, if_neg (by omega)]
      refine Fits.mk' rfl rfl rfl rfl ?_ ?_ ?_ ?_ ?_ <;> repeat' (first | exact trivial | refine And.intro ?_ ?_ | exact Sees.of_eq rfl | exact lt_b rfl | rfl | exact Sees.int (succI hj' (by omega)) | exact SeesL.of_eq e)
    · have hj' : j = 16 := by simp at hc; omega
      subst hj'
      refine Wk ?_
      refine ⟨k + 1, by omega, by omega, ?_⟩
      refine Fits.mk' rfl rfl rfl rfl ?_ ?_ ?_ ?_ ?_ <;> repeat' (first | exact trivial | refine And.intro ?_ ?_ | exact Sees.of_eq rfl | exact lt_b rfl | rfl | exact Sees.int (succI hlt hf) | exact Sees.int (by simp [byF, colM, sumI_take hgx]))
  · have hk' : k = f.length := by simp at hb; omega
    subst hk'
    rw [List.take_length]
    refine Wk ?_
    refine LoopK.run mixed [] (fun (j : Nat) => j ≤ 16) (fun j => [(7, .int .i64 (sumC f j)), (38, .agg ((byL (colM f)).map encI)), (39, .int .i64 j)]) (fun j => St.none) (fun j => 16 - j) 0 (by simp) ?_ ?_
    · refine Fits.mk' rfl rfl rfl rfl ?_ ?_ ?_ ?_ ?_ <;> repeat' (first | exact trivial | refine And.intro ?_ ?_ | exact Sees.of_eq rfl | exact lt_b rfl | rfl )
    rintro j hj
    refine Wk ?_
    refine BrK.mk (fun hc => ?_) (fun hc => ?_) <;> (try rw [hc])
    · have hj' : j < 16 := by simp at hc; omega
      repeat ((conv => whnf); first | refine sJ ?_ | refine And.intro (by first | exact ⟨by omega, by omega⟩ | kernel_rfl) ?_ )
      try (conv => whnf)
      rw [byL_ix _ hj' _ (by kernel_rfl)]
      have hcb := colM_bd f j
      have hs1 := sumC_bd f j
      have hl : f.length ≤ 512 := by omega
      have hs2 : (j : Int) * f.length ≤ 16 * 512 := by
        have : j * f.length ≤ 16 * 512 := Nat.mul_le_mul hj hl
        exact_mod_cast this
      refine Wk ?_
      refine ⟨j + 1, by omega, by omega, ?_⟩
      refine Fits.mk' rfl rfl rfl rfl ?_ ?_ ?_ ?_ ?_ <;> repeat' (first | exact trivial | refine And.intro ?_ ?_ | exact Sees.of_eq rfl | exact lt_b rfl | rfl | exact Sees.int (succI hj' (by omega)) | exact Sees.int (w64 (by omega) (by omega)))
    · have hj' : j = 16 := by simp at hc; omega
      subst hj'
      refine Wk ?_
      exact resP.mk rfl (Sees.int (by rw [countM, if_neg g1', if_neg (by simp [g2]), sumC_bits]))
end
end HM
