/- The example of the laws on runs. -/
import Derived.Test.YtadgamkgpgiodaaGreatDoorS73
import Derived.Test.YtadgamkgpgiodaaGreatDoorDa
import Derived.Test.YtadgamkgpgiodaaGreatDoorFh

set_option maxRecDepth 100000
namespace HM
open Go Go.RowKit Go.Proofs

theorem exI36 {α : Type} {A B : α → Prop} {v : α} (h1 : A v) (h2 : B v) : ∃ v, A v ∧ B v := ⟨v, h1, h2⟩
def x36S : Sched := ⟨4, 1, [⟨0, 0, 0, 1, 7⟩, ⟨1, 0, 0, 1, 7⟩, ⟨2, 0, 1, 2, 7⟩, ⟨3, 0, 1, 2, 7⟩]⟩
def x36F : Flow := ⟨7, 0, 2, 4, 0, 4⟩
def x36X : List Rule := [⟨7, 0, 1, 0, [2]⟩]
set_option maxHeartbeats 4000000 in
theorem c_example36 (L : World → Prop) : PCall Tryz.prog L 14 [] (.tup [encFlows [x36F], x36S.av, encScript x36X]) := by
  refine PCall.intro mixed [2] (nt := 16) Tryz.func14 rfl rfl (by simp) ?_
  refine Wk ?_
  refine SeqK.cutS mixed [10002] [(1, .ptr 0 0), (3, .ptr 1 0)] ⟨[.cells [.int .i64 0, .int .i64 0, .nils] 30, .cells [.int .i64 4, .int .i64 1, encCells x36S.cells] 30], [], 0, 0, fun _ => 0⟩ (twC_sound (ct := []) mixed _ _ _ _ ?_) ?_
  · refine Wk ?_
    refine Fits.mk' rfl rfl rfl rfl ?_ ?_ ?_ ?_ ?_ <;> repeat' (first | exact trivial | refine And.intro ?_ ?_ | exact Sees.of_eq rfl | exact lt_b rfl | rfl | exact Sees.elems rfl)
  conv => whnf
  refine SemK.regionInv mixed (fun S' => S'.bx[1]? = some (.cells [.int .i64 4, .int .i64 1, encCells x36S.cells] 30)) [0, 2] 7 rfl rfl (by decide) rfl rfl ?_
  iterate 2
    conv => whnf
    apply exI36
    · intro S' K' hI' hh
      repeat ((conv => whnf); first | refine sJ ?_ | refine And.intro (by first | exact trivial | kernel_rfl) ?_ | rw [hI'])
      try (conv => whnf)
      exact hh
  repeat' ((conv => whnf); first | exact trivial | refine sJ ?_ | refine And.intro (by first | exact trivial | kernel_rfl) ?_ | refine And.intro ?_ ?_ )
  all_goals (conv => whnf)
  all_goals exact resP.mk rfl (Sees.of_eq rfl)

def x36A : List Att := [⟨0, 0, ⟨0, 0, 0, 1, 7⟩, 2⟩, ⟨1, 0, ⟨1, 0, 0, 1, 7⟩, 1⟩, ⟨2, 0, ⟨2, 0, 1, 2, 7⟩, 1⟩]
def x36D : List Del := [⟨7, 0, 2⟩]
theorem e_ready36 : readyM [x36F] x36S x36X 4 = 0 := by decide +kernel
theorem e_flows36 : (flowsE 32 [x36F]).2 = 0 := by decide +kernel
theorem e_playR36 : (playR [x36F] (fun _ => x36S) x36X 4).atts = x36A ∧ (playR [x36F] (fun _ => x36S) x36X 4).dels = x36D := by decide +kernel
theorem e_play36 : playM [x36F] x36S x36X 4 = (⟨x36A, x36D⟩, 0) := by
  have h := playV_R (flowsOk_of e_flows36) (fun _ => x36S) x36X 4 (by omega)
  rw [playV_S] at h
  rw [playM, if_neg (by rw [e_ready36]; simp)]
  show ((⟨(playS [x36F] x36S x36X 4).atts, (playS [x36F] x36S x36X 4).dels⟩ : RunL), (0 : Int)) = _
  rw [← h.at_, ← h.dl, e_playR36.1, e_playR36.2]
theorem e_deliv36 : delivM ⟨x36A, x36D⟩ 7 0 = (2, true) := by decide +kernel
theorem e_late36 : lateM [x36F] ⟨x36A, x36D⟩ 4 = ([], 0) := by decide +kernel
end HM
