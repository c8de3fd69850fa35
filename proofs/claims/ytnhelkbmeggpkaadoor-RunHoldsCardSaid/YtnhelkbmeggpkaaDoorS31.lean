/- Networks: Check, Index, Usable. -/
import Derived.Test.YtnhelkbmeggpkaaDoorS30

set_option maxRecDepth 100000
namespace HM
open Go Go.RowKit Go.Proofs
section
variable (L : World → Prop)











theorem heard_w (n : Net) (h : NetOk n) {s d : Int} (hs : 0 ≤ s ∧ s ≤ 8796093022208) (hd : 0 ≤ d ∧ d ≤ 8796093022208) :
    decide (IntKind.i64.wrap (n.thr * IntKind.i64.wrap (n.noise + d)) ≤ IntKind.i64.wrap (s * 1000)) = heardB n s d := by
  have h1 := h.noise
  have h2 := h.thr
  have h3 : 0 ≤ n.thr * (n.noise + d) := Int.mul_nonneg (by omega) (by omega)
  have h4 : n.thr * (n.noise + d) ≤ 100000 * 8864812498944 := Int.mul_le_mul (by omega) (by omega) (by omega) (by omega)
  rw [w64 (x := n.noise + d) (by omega) (by omega), w64 (by omega) (by omega), w64 (by omega) (by omega)]
  rfl



theorem NetOk.marginB {n : Net} (h : NetOk n) {k : Nat} (hk : k < n.links.length) : ∃ m, n.margin[k]? = some m ∧ 0 ≤ m ∧ m ≤ 8796093022208 := by
  obtain ⟨m, hm⟩ := getLt (l := n.margin) (k := k) (by rw [h.mar]; exact hk)
  obtain ⟨l, hl⟩ := getLt hk
  have := (h.link k l hl).2.2
  rw [List.getD_eq_getElem?_getD, hm] at this
  have hp := powAt_bd h.pow l.src l.dst
  simp only [Option.getD_some] at this
  exact ⟨m, hm, by omega, by omega⟩



