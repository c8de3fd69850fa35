/- What the reference knows of a run: who holds a frame, what was acknowledged, the outcome. -/
import Derived.Test.YtnhelkbmeggpkaaGreatDoorS33
import Derived.Test.YtnhelkbmeggpkaaGreatDoorS69
import Derived.Test.YtnhelkbmeggpkaaGreatDoorDb

set_option maxRecDepth 100000
namespace HM
open Go Go.RowKit Go.Proofs
section
variable (L : World → Prop)

theorem c_Deliv36 (r : RunL) (flow frame : Int) (hr : r.dels.length ≤ 281474976710656) : PCall Tryz.prog L 19 [r.av, .int .i64 flow, .int .i64 frame] (.tup [.int .i64 (delivM r flow frame).1, .bool (delivM r flow frame).2]) := by
  refine PCall.intro mixed [] (nt := 40) Tryz.func19 rfl rfl (by simp) ?_
  refine Wk ?_
  refine LoopK.run mixed [] (fun (k : Nat) => k ≤ r.dels.length ∧ ∀ (j : Nat) y, j < k → r.dels[j]? = some y → (y.flow == flow && y.frame == frame) = false) (fun k => [(1, .int .i64 flow), (2, .int .i64 frame), (3, .ptr 0 0), (8, .int .i64 k)]) (fun k => ⟨[.cells [encAtts r.atts, encDels r.dels] 41], [], 0, 0, fun _ => 0⟩) (fun k => r.dels.length - k) 0 ⟨by simp, by simp⟩ ?_ ?_
  · refine Fits.mk' rfl rfl rfl rfl ?_ ?_ ?_ ?_ ?_ <;> repeat' (first | exact trivial | refine And.intro ?_ ?_ | exact Sees.of_eq rfl | exact lt_b rfl | rfl | exact SeesL.rfl' _)
  rintro k ⟨hk, hinv⟩
  refine Wk ?_
  refine BrK.mk (fun hb => ?_) (fun hb => ?_) <;> (try rw [hb])
  · have hkt : k < r.dels.length := by simpa using hb
    obtain ⟨d, hgd⟩ := getLt hkt
    have hmd := getMap (f := Del.av) hgd
    repeat ((conv => whnf); first | refine sJ ?_ | refine And.intro (by first | exact inbMap hkt | kernel_rfl) ?_ | rw [hmd])
    try (conv => whnf)
    refine BrK.mk (fun h2 => ?_) (fun h2 => ?_) <;> (try rw [h2])
    · repeat ((conv => whnf); first | refine sJ ?_ | refine And.intro (by first | exact inbMap hkt | kernel_rfl) ?_ | rw [hmd])
      try (conv => whnf)
      refine BrK.mk (fun h3 => ?_) (fun h3 => ?_) <;> (try rw [h3])
      · repeat ((conv => whnf); first | refine sJ ?_ | refine And.intro (by first | exact inbMap hkt | kernel_rfl) ?_ | rw [hmd])
        try (conv => whnf)
        have := find_hit (p := fun e : Del => e.flow == flow && e.frame == frame) hinv hgd (by rw [h2, h3]; rfl)
        exact resP.mk rfl (Sees.of_eq (by unfold delivM; rw [this]))
      · refine Wk ?_
        refine ⟨k + 1, ⟨by omega, inv_snoc (p := fun y : Del => y.flow == flow && y.frame == frame) hinv hgd (by rw [h2, h3]; rfl)⟩, by omega, ?_⟩
        refine Fits.mk' rfl rfl rfl rfl ?_ ?_ ?_ ?_ ?_ <;> repeat' (first | exact trivial | refine And.intro ?_ ?_ | exact Sees.of_eq rfl | exact lt_b rfl | rfl | exact SeesL.rfl' _ | exact Sees.int (succI hkt hr))
    · refine Wk ?_
      refine ⟨k + 1, ⟨by omega, inv_snoc (p := fun y : Del => y.flow == flow && y.frame == frame) hinv hgd (by rw [h2]; rfl)⟩, by omega, ?_⟩
      refine Fits.mk' rfl rfl rfl rfl ?_ ?_ ?_ ?_ ?_ <;> repeat' (first | exact trivial | refine And.intro ?_ ?_ | exact Sees.of_eq rfl | exact lt_b rfl | rfl | exact SeesL.rfl' _ | exact Sees.int (succI hkt hr))
  · have hkn : k = r.dels.length := by simp at hb; omega
    subst hkn
    have := find_miss (p := fun e : Del => e.flow == flow && e.frame == frame) fun j y hy => hinv j y (List.getElem?_eq_some_iff.1 hy).1 hy
    refine Wk ?_
    exact resP.mk rfl (Sees.of_eq (by unfold delivM; rw [this]))

end
end HM
