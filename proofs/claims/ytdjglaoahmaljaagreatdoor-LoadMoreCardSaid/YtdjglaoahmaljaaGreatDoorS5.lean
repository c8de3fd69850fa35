/- Lines of text. -/
import Derived.Test.YtdjglaoahmaljaaGreatDoorS4
import Derived.Test.YtdjglaoahmaljaaGreatDoorShelf
import Derived.Lib.ItoaLen
import Derived.Lib.AppendIntMem

set_option maxRecDepth 100000
namespace HM
open Go Go.RowKit Go.Proofs

/-- what is asked of a world: the library's table -/
def LW : World → Prop := fun w => Lib.TabIs Tryz.prog w "internal/strconv.uint64pow10" .u64 Lib.pow10Tab

def itoaB (n : Int) : ByteArray := ⟨(Lib.itoa n).toArray⟩
theorem itoaB_size (n : Int) (h0 : -9223372036854775808 ≤ n) (h1 : n ≤ 9223372036854775807) : (itoaB n).size ≤ 21 := by
  have := Lib.itoa_length_le n h0 h1
  simpa [itoaB, ByteArray.size] using this

def I64 (n : Int) : Prop := -9223372036854775808 ≤ n ∧ n ≤ 9223372036854775807

theorem c_Itoa (n : Int) (h : I64 n) : PCall Tryz.prog LW 206 [.int .i64 n] (.str (itoaB n)) := by
  refine PCall.of_calls fun w G vals hL hv => ?_
  obtain ⟨v, vs, rfl, hv1, hvs⟩ := hv
  obtain rfl : v = _ := hv1
  obtain rfl : vs = _ := hvs
  exact (Tryz.strconv_Itoa n h.1 h.2 w hL).mono fun e w' ⟨he, k, os, hw⟩ => ⟨_, he, by subst hw; exact Lib.below_grow _ w (Nat.le_refl _) k os, fun _ _ => rfl⟩

def lineB (word : ByteArray) : List Int → ByteArray
  | [] => word
  | n :: l => lineB (word ++ (⟨#[32]⟩ ++ itoaB n)) l

theorem lineB_size : ∀ (l : List Int) (word : ByteArray), (∀ n ∈ l, I64 n) → (lineB word l).size ≤ word.size + 22 * l.length ∧ word.size ≤ (lineB word l).size
  | [], _, _ => by simp [lineB]
  | n :: l, word, h => by
    have h1 := lineB_size l (word ++ (⟨#[32]⟩ ++ itoaB n)) (fun m hm => h m (by simp [hm]))
    have h2 := itoaB_size n (h n (by simp)).1 (h n (by simp)).2
    have h3 : (⟨#[32]⟩ : ByteArray).size = 1 := rfl
    simp only [ByteArray.size_append, h3, List.length_cons, lineB] at h1 ⊢
    omega

theorem c_line (word : ByteArray) (l : List Int) (hw : word.size ≤ 1099511627776) (hl : l.length ≤ 1099511627776) (h : ∀ n ∈ l, I64 n) : PCall Tryz.prog LW 190 [.str word, encIs l] (.str (lineB word l ++ ⟨#[10]⟩)) := by
  have h1 : (⟨#[32]⟩ : ByteArray).size = 1 := rfl
  have h10 : (⟨#[10]⟩ : ByteArray).size = 1 := rfl
  refine PCall.intro mixed [] (nt := 21) Tryz.func190 rfl rfl (by simp) ?_
  refine Wk ?_
  refine LoopK.run mixed [] (fun s : Nat × ByteArray => s.1 ≤ l.length ∧ s.2.size ≤ word.size + 22 * s.1 ∧ lineB s.2 (l.drop s.1) = lineB word l) (fun s => [(0, .str s.2), (7, encIs l), (8, .int .i64 l.length), (9, .int .i64 s.1)]) (fun _ => St.none) (fun s => l.length - s.1) (0, word) ⟨by simp, by simp, by simp⟩ ?_ ?_
  · refine Fits.mk' rfl rfl rfl rfl ?_ ?_ ?_ ?_ ?_ <;> repeat' (first | exact trivial | refine And.intro ?_ ?_ | exact Sees.of_eq rfl | exact lt_b rfl | rfl | exact Sees.int (by simp))
  rintro ⟨k, t⟩ ⟨hk, ht, hinv⟩
  simp only at hk ht hinv
  refine Wk ?_
  refine BrK.mk (fun hb => ?_) (fun hb => ?_) <;> (try rw [hb])
  · have hlt : k < l.length := by simpa using hb
    obtain ⟨x, hgx⟩ := getLt hlt
    have hmx := getMap (f := encI) hgx
    have hx := h x (List.mem_of_getElem? hgx)
    have hs := itoaB_size x hx.1 hx.2
    rw [dropGet hgx] at hinv
    repeat ((conv => whnf); first | refine sJ ?_ | refine And.intro (by first | exact inbMap hlt | kernel_rfl) ?_ | rw [hmx])
    try (conv => whnf)
    first | refine CallK.data rfl (c_Itoa x hx) rfl ?_ | refine CallP.data rfl (c_Itoa x hx) rfl ?_
    repeat ((conv => whnf); first | refine sJ ?_ | refine And.intro (by first | (simp only [ByteArray.size_append, h1]; omega) | kernel_rfl) ?_ )
    try (conv => whnf)
    refine ⟨(k + 1, t ++ (⟨#[32]⟩ ++ itoaB x)), ⟨by simp; omega, ?_, by simpa [lineB] using hinv⟩, by simp; omega, ?_⟩
    · simp only [ByteArray.size_append, h1]; omega
    · refine Fits.mk' rfl rfl rfl rfl ?_ ?_ ?_ ?_ ?_ <;> repeat' (first | exact trivial | refine And.intro ?_ ?_ | exact Sees.of_eq rfl | exact lt_b rfl | rfl | exact Sees.int (succI hlt (by omega)))
  · have hk' : k = l.length := by simp at hb; omega
    subst hk'
    have hfin : t = lineB word l := by rw [← hinv, List.drop_length]; rfl
    repeat ((conv => whnf); first | refine sJ ?_ | refine And.intro (by first | (simp only [h10]; omega) | kernel_rfl) ?_ )
    try (conv => whnf)
    exact resP.mk rfl (Sees.of_eq (by rw [hfin]))
end HM
