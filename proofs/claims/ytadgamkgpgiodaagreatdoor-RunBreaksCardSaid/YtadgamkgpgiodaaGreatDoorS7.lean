/- The text of a schedule: Print. -/
import Derived.Test.YtadgamkgpgiodaaGreatDoorS6

set_option maxRecDepth 100000
namespace HM
open Go Go.RowKit Go.Proofs

def wordS : ByteArray := ⟨#[115, 99, 104, 101, 100, 117, 108, 101]⟩
def wordC : ByteArray := ⟨#[99, 101, 108, 108]⟩
def lineOf (w : ByteArray) (l : List Int) : ByteArray := lineB w l ++ ⟨#[10]⟩
def printR : List UInt8 → List Cell → List UInt8
  | acc, [] => acc
  | acc, c :: l => printR (acc ++ (lineOf wordC c.nums).data.toList) l
def printT (s : Sched) : List UInt8 := printR (lineOf wordS [s.len, s.offs]).data.toList s.cells

theorem lineOf_size (w : ByteArray) (l : List Int) (hw : w.size ≤ 8) (hl : l.length ≤ 5) (h : ∀ n ∈ l, I64 n) : (lineOf w l).size ≤ 119 ∧ (lineOf w l).size ≠ 0 := by
  have h1 := lineB_size l w h
  have h10 : (⟨#[10]⟩ : ByteArray).size = 1 := rfl
  simp only [lineOf, ByteArray.size_append, h10]
  omega
theorem size_list (b : ByteArray) : b.data.toList.length = b.size := by simp
theorem byteL_append (a b : List UInt8) : byteL (a ++ b) = byteL a ++ byteL b := by simp [byteL]
theorem byteL_length (a : List UInt8) : (byteL a).length = a.length := by simp [byteL]
theorem byteL_els (a : List UInt8) : Els 1 (byteL a) := Els.map (f := fun x : UInt8 => AV.int .u8 x.toNat) (fun _ => ⟨rfl, rfl⟩)
theorem formed_i64 {s : Sched} {c : Cell} (hs : sizedB s = true) (h : formedB s c = true) : ∀ n ∈ c.nums, I64 n := by
  simp [sizedB] at hs
  simp [formedB, placedB, insB] at h
  intro n hn
  simp [Cell.nums] at hn
  unfold I64
  rcases hn with rfl | rfl | rfl | rfl | rfl <;> omega

theorem c_Print (s : Sched) : PCall Tryz.prog LW 34 [s.av] (.tup [.str (if formB s then ⟨(printT s).toArray⟩ else ⟨#[]⟩), .int .i64 (if formB s then 0 else 1)]) := by
  refine PCall.intro mixed [] (nt := 32) Tryz.func34 rfl rfl (by simp) ?_
  refine Wk ?_
  first | refine CallK.data rfl (c_form LW s) rfl ?_ | refine CallP.data rfl (c_form LW s) rfl ?_
  refine Wk ?_
  refine BrK.mk (fun h1 => ?_) (fun h1 => ?_) <;> (try rw [h1])
  · refine Wk ?_
    exact resP.mk rfl (Sees.of_eq (by simp at h1; simp [h1]))
  simp at h1
  have hsz : sizedB s = true := by simp [formB] at h1; exact h1.1.1
  have hal : ∀ j, j < s.cells.length → okAt s j = true := by simp [formB] at h1; exact h1.2
  have hlen : s.cells.length ≤ 512 := by simp [formB] at h1; exact h1.1.2
  refine Wk ?_
  have e1 : I64 s.len := by simp [sizedB] at hsz; unfold I64; omega
  have e2 : I64 s.offs := by simp [sizedB] at hsz; unfold I64; omega
  have e3 : ∀ n ∈ [s.len, s.offs], I64 n := by intro n hn; simp at hn; rcases hn with rfl | rfl <;> assumption
  first | refine CallK.data rfl (c_line wordS [s.len, s.offs] (by decide) (by simp) e3) rfl ?_ | refine CallP.data rfl (c_line wordS [s.len, s.offs] (by decide) (by simp) e3) rfl ?_
  have hs0 := lineOf_size wordS [s.len, s.offs] (by decide) (by simp) e3
  obtain ⟨t0, ht0⟩ : ∃ t0, t0 = lineOf wordS [s.len, s.offs] := ⟨_, rfl⟩
  rw [show lineB wordS [s.len, s.offs] ++ ⟨#[10]⟩ = t0 from ht0.symm]
  rw [← ht0] at hs0
  refine Wk ?_
  refine CallK.inl rfl (ICall.intro mixed [] (nt := 19) Tryz.func51 rfl rfl (by simp) ?_)
  refine Wk ?_
  refine CallK.inl rfl (ICall.intro mixed [] (nt := 20) Tryz.func85 rfl rfl (by simp) ?_)
  refine Wk ?_
  refine CallK.same rfl (by kernel_rfl) (by kernel_rfl) (by kernel_rfl) (by kernel_rfl) ?_
  refine Wk ?_
  repeat ((conv => whnf); first | refine sJ ?_ | refine And.intro (by first | omega | kernel_rfl) ?_ )
  try (conv => whnf)
  refine LoopK.run mixed [] (fun q : Nat × List UInt8 => q.1 ≤ s.cells.length ∧ q.2.length ≤ 119 * (q.1 + 1) ∧ q.2 ≠ [] ∧ printR q.2 (s.cells.drop q.1) = printT s) (fun q => [(4, .ptr 1 0), (19, encCells s.cells), (20, .int .i64 s.cells.length), (21, .int .i64 q.1)])
    (fun q => ⟨[.cells [.int .i64 s.len, .int .i64 s.offs, encCells s.cells] 30, .cells [.ptr 1 0, .own (byteL q.2) 1] 115], [(2, 1), ((byteL q.2).length, 1)], 0, 0, fun k => if k = 1 then 5 else if k = 0 then 3 else 0⟩) (fun q => s.cells.length - q.1) (0, t0.data.toList) ⟨by simp, by simp; omega, ?_, by simp [printT, ht0]⟩ ?_ ?_
  · intro h
    have := congrArg List.length h
    rw [size_list] at this
    exact hs0.2 this
  · refine Fits.mk' rfl rfl rfl rfl ?_ ?_ ?_ ?_ ?_ <;> repeat' (first | exact trivial | refine And.intro ?_ ?_ | exact Sees.of_eq rfl | exact lt_b rfl | rfl | exact Sees.int (by simp))
  rintro ⟨k, acc⟩ ⟨hk, hsize, hne, hinv⟩
  simp only at hk hsize hne hinv
  refine Wk ?_
  refine BrK.mk (fun hb => ?_) (fun hb => ?_) <;> (try rw [hb])
  · have hlt : k < s.cells.length := by simpa using hb
    obtain ⟨c, hgc⟩ := getLt hlt
    have hmc := getMap (f := Cell.av) hgc
    have hf : formedB s c = true := by
      have := hal k hlt
      simp [okAt, hgc] at this
      exact this.1
    have hi := formed_i64 hsz hf
    rw [dropGet hgc] at hinv
    repeat ((conv => whnf); first | refine sJ ?_ | refine And.intro (by first | exact inbMap hlt | kernel_rfl) ?_ | rw [hmc])
    try (conv => whnf)
    first | refine CallK.data rfl (c_numbers LW c) rfl ?_ | refine CallP.data rfl (c_numbers LW c) rfl ?_
    refine Wk ?_
    refine CallK.box rfl (c_line wordC c.nums (by decide) (by simp [Cell.nums]) hi) rfl rfl ?_
    have hs1 := lineOf_size wordC c.nums (by decide) (by simp [Cell.nums]) hi
    simp only [printR] at hinv
    obtain ⟨t1, ht1⟩ : ∃ t1, t1 = lineOf wordC c.nums := ⟨_, rfl⟩
    rw [show lineB wordC c.nums ++ ⟨#[10]⟩ = t1 from ht1.symm]
    rw [← ht1] at hs1 hinv
    refine Wk ?_
    refine CallK.inl rfl (ICall.intro mixed [] (nt := 19) Tryz.func51 rfl rfl (by simp) ?_)
    refine Wk ?_
    refine CallK.inl rfl (ICall.intro mixed [] (nt := 20) Tryz.func85 rfl rfl (by simp) ?_)
    repeat ((conv => whnf); first | refine sJ ?_ | refine And.intro (by first | exact byteL_els _ | (show (some 2 : Option Nat) ≠ some 0; decide) | (simp only [byteL_length]; omega) | omega | kernel_rfl) ?_ )
    try (conv => whnf)
    refine ⟨(k + 1, acc ++ t1.data.toList), ⟨by simp; omega, ?_, by simp [hne], by simpa using hinv⟩, by simp; omega, ?_⟩
    · simp only [List.length_append, size_list]; omega
    · refine Fits.mk' rfl rfl rfl rfl ?_ ?_ ?_ ?_ ?_ <;> repeat' (first | exact trivial | refine And.intro ?_ ?_ | exact Sees.of_eq rfl | exact lt_b rfl | rfl | exact Sees.int (succI hlt (by omega)) | exact Sees.of_eq (by rw [byteL_append]; rfl) | (show ((byteL acc ++ byteL t1.data.toList).length, 1) = ((byteL (acc ++ t1.data.toList)).length, 1); rw [byteL_append]))
  · have hk' : k = s.cells.length := by simp at hb; omega
    subst hk'
    rw [List.drop_length] at hinv
    simp only [printR] at hinv
    refine Wk ?_
    refine k_String (l := acc) rfl (by simp [byteL_length]) rfl hne (by omega) ?_
    refine Wk ?_
    exact resP.mk rfl (Sees.of_eq (by rw [hinv]; simp [h1]))
end HM
