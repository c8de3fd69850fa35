/- Scripts: what Check returns, and its definition. -/
import Derived.Test.YtefnhecgmdilbaaGreatDoorS30
import Derived.Test.YtefnhecgmdilbaaGreatDoorDa
import Derived.Test.YtefnhecgmdilbaaGreatDoorS33
import Derived.Test.YtefnhecgmdilbaaGreatDoorDc
/- Scripts: what Check returns, and its definition. -/
set_option maxRecDepth 100000
namespace HM
open Go Go.RowKit Go.Proofs
section
variable (L : World → Prop)

end
end HM

/- Scripts: the definition of Check; the guard. -/
set_option maxRecDepth 100000
namespace HM
open Go Go.RowKit Go.Proofs
section
variable (L : World → Prop)

end
end HM

/- What the reference knows of a run: who holds a frame, what was acknowledged, the outcome. -/
set_option maxRecDepth 100000
namespace HM
open Go Go.RowKit Go.Proofs
section
variable (L : World → Prop)

theorem c_Find32 (l : List Flow) (id : Int) (hl : l.length ≤ 281474976710656) : PCall Tryz.prog L 132 [encFlows l, .int .i64 id] (.int .i64 (findF l id)) := by
  refine PCall.intro mixed [] (nt := 20) Tryz.func132 rfl rfl (by simp) ?_
  refine Wk ?_
  refine LoopK.run mixed [] (fun (k : Nat) => k ≤ l.length ∧ ∀ (j : Nat) y, j < k → l[j]? = some y → (y.id == id) = false) (fun k => [(0, encFlows l), (1, .int .i64 id), (5, .int .i64 k)]) (fun k => St.none) (fun k => l.length - k) 0 ⟨by simp, by simp⟩ ?_ ?_
  · refine Fits.mk' rfl rfl rfl rfl ?_ ?_ ?_ ?_ ?_ <;> repeat' (first | exact trivial | refine And.intro ?_ ?_ | exact Sees.of_eq rfl | exact lt_b rfl | rfl )
  rintro k ⟨hk, hinv⟩
  refine Wk ?_
  refine BrK.mk (fun hb => ?_) (fun hb => ?_) <;> (try rw [hb])
  · have hkt : k < l.length := by simpa using hb
    obtain ⟨f, hgf⟩ := getLt hkt
    have hmf := getMap (f := Flow.av) hgf
    repeat ((conv => whnf); first | refine sJ ?_ | refine And.intro (by first | exact inbMap hkt | kernel_rfl) ?_ | rw [hmf])
    try (conv => whnf)
    refine BrK.mk (fun h2 => ?_) (fun h2 => ?_) <;> (try rw [h2])
    · refine Wk ?_
      exact resP.mk rfl (Sees.int (idxF_some (p := fun f : Flow => f.id == id) hkt hinv hgf h2).symm)
    · refine Wk ?_
      refine ⟨k + 1, ⟨by omega, inv_snoc (p := fun y : Flow => y.id == id) hinv hgf h2⟩, by omega, ?_⟩
      refine Fits.mk' rfl rfl rfl rfl ?_ ?_ ?_ ?_ ?_ <;> repeat' (first | exact trivial | refine And.intro ?_ ?_ | exact Sees.of_eq rfl | exact lt_b rfl | rfl | exact Sees.int (succI hkt hl))
  · have hkn : k = l.length := by simp at hb; omega
    subst hkn
    refine Wk ?_
    exact resP.mk rfl (Sees.int (idxF_none (p := fun f : Flow => f.id == id) hinv).symm)

end
end HM
