/- The laws on bounds: releases, routes, least bounds, slack. -/
import Derived.Test.YtjlemnimmbblkaaGreatDoorS44
import Derived.Test.YtjlemnimmbblkaaGreatDoorFh

set_option maxRecDepth 100000
namespace HM
open Go Go.RowKit Go.Proofs

theorem c_EqII (L : World → Prop) (a : List Int) (ha : a.length ≤ 281474976710656) : PCall Tryz.prog L 16 [encIs a, encIs a] (.bool true) := by
  refine PCall.intro mixed [] (nt := 26) Tryz.func16 rfl rfl (by simp) ?_
  refine Wk ?_
  rw [show (((List.map encI a).length : Int) != ((List.map encI a).length : Int)) = false from by simp]
  refine Wk ?_
  refine LoopK.run mixed [] (fun (k : Nat) => k ≤ a.length) (fun k => [(0, encIs a), (1, encIs a), (12, .int .i64 a.length), (13, .int .i64 k)]) (fun k => St.none) (fun k => a.length - k) 0 (by simp) ?_ ?_
  · refine Fits.mk' rfl rfl rfl rfl ?_ ?_ ?_ ?_ ?_ <;> repeat' (first | exact trivial | refine And.intro ?_ ?_ | exact Sees.of_eq rfl | exact lt_b rfl | rfl | exact Sees.int (by simp))
  rintro k hk
  refine Wk ?_
  refine BrK.mk (fun hb => ?_) (fun hb => ?_) <;> (try rw [hb])
  · have hlt : k < a.length := by simpa using hb
    obtain ⟨x, hgx⟩ := getLt hlt
    have hmx := getMap (f := encI) hgx
    repeat ((conv => whnf); first | refine sJ ?_ | refine And.intro (by first | exact inbMap hlt | kernel_rfl) ?_ | rw [hmx])
    try (conv => whnf)
    rw [show (x != x) = false from by simp]
    refine Wk ?_
    refine ⟨k + 1, by omega, by omega, ?_⟩
    refine Fits.mk' rfl rfl rfl rfl ?_ ?_ ?_ ?_ ?_ <;> repeat' (first | exact trivial | refine And.intro ?_ ?_ | exact Sees.of_eq rfl | exact lt_b rfl | rfl | exact Sees.int (succI hlt (by omega)))
  · have hk' : k = a.length := by simp at hb; omega
    subst hk'
    refine Wk ?_
    exact resP.mk rfl (Sees.of_eq rfl)

def exN (loss : Int) : Net := ⟨3, [[0, 9, 9], [9, 0, 9], [9, 9, 0]], 1, 1000, [⟨0, 1, loss⟩, ⟨1, 0, 0⟩, ⟨1, 2, loss⟩, ⟨2, 1, 0⟩], [9, 9, 9, 9]⟩
def exS : Sched := ⟨6, 1, [⟨0, 0, 0, 1, 3⟩, ⟨1, 0, 1, 2, 3⟩, ⟨2, 0, 0, 1, 3⟩, ⟨3, 0, 1, 2, 3⟩, ⟨4, 0, 1, 2, 3⟩]⟩
def exF : Flow := ⟨3, 0, 2, 6, 0, 6⟩

def exB : List Ob := [.cells [.int .i64 0, .nils, .int .i64 0, .int .i64 0, .nils, .nils] 26, .cells [.int .i64 0, .int .i64 0, .nils] 29, .cells [.int .i64 0, .int .i64 0, .int .i64 0, .int .i64 0, .int .i64 0, .int .i64 0] 31]
def exSl (loss : Int) : List (Nat × AV) := [(0, .int .i64 loss), (2, .ptr 0 0), (3, .ptr 1 0), (4, .ptr 2 0), (5, .ptr 3 0)]
def exR : AV := encRows [[0, 9, 9], [9, 0, 9], [9, 9, 0]]
set_option maxHeartbeats 4000000 in
theorem c_example (L : World → Prop) (loss : Int) : PCall Tryz.prog L 14 [.int .i64 loss] (.tup [(exN loss).av, exS.av, exF.av]) := by
  refine PCall.intro mixed [2, 3, 4] (nt := 31) Tryz.func14 rfl rfl (by simp) ?_
  refine Wk ?_
  refine SeqK.cutS mixed [3, 4] (exSl loss) ⟨exB ++ [.cells [.int .i64 3, exR, .int .i64 1, .int .i64 1000, .nils, encIs [9, 9, 9, 9]] 26], [], 0, 0, fun _ => 0⟩ (twC_sound (ct := []) mixed _ _ _ _ ?_) ?_
  · refine Wk ?_
    refine Fits.mk' rfl rfl rfl rfl ?_ ?_ ?_ ?_ ?_ <;> repeat' (first | exact trivial | refine And.intro ?_ ?_ | exact Sees.of_eq rfl | exact lt_b rfl | rfl | exact Sees.elems rfl)
  refine SeqK.cutS mixed [4] (exSl loss) ⟨exB ++ [.cells (exN loss).cs 26], [], 0, 0, fun _ => 0⟩ (twC_sound (ct := []) mixed _ _ _ _ ?_) ?_
  · refine Wk ?_
    refine Fits.mk' rfl rfl rfl rfl ?_ ?_ ?_ ?_ ?_ <;> repeat' (first | exact trivial | refine And.intro ?_ ?_ | exact Sees.of_eq rfl | exact lt_b rfl | rfl | exact Sees.elems rfl)
  refine SeqK.cutM ((6, .ptr 4 0) :: exSl loss) ⟨exB ++ [.cells (exN loss).cs 26, .cells [.int .i64 6, .int .i64 1, encCells exS.cells] 29], [], 0, 0, fun _ => 0⟩ (twC_sound (ct := []) mixed _ _ _ _ ?_) ((SeqK.cutS mixed [] (exSl loss) ⟨[.cells (exN loss).cs 26, .cells [.int .i64 6, .int .i64 1, encCells exS.cells] 29, .cells [.int .i64 3, .int .i64 0, .int .i64 2, .int .i64 6, .int .i64 0, .int .i64 6] 31, .cells (exN loss).cs 26], [], 0, 0, fun _ => 0⟩ (SemK.regionAny mixed rfl ?_) ?_).out)
  · refine Wk ?_
    refine Fits.mk' rfl rfl rfl rfl ?_ ?_ ?_ ?_ ?_ <;> repeat' (first | exact trivial | refine And.intro ?_ ?_ | exact Sees.of_eq rfl | exact lt_b rfl | rfl | exact Sees.elems rfl)
  · repeat' ((conv => whnf); first | exact trivial | refine sJ ?_ | refine And.intro (by first  | kernel_rfl) ?_ | refine And.intro ?_ ?_ )
    all_goals (conv => whnf)
    all_goals
      refine Fits.mk' rfl rfl rfl rfl ?_ ?_ ?_ ?_ ?_ <;> repeat' (first | exact trivial | refine And.intro ?_ ?_ | exact Sees.of_eq rfl | exact lt_b rfl | rfl )
  refine Wk ?_
  exact resP.mk rfl (Sees.of_eq rfl)

theorem e_route1 : routeM (exN 1) exS exF [0, 1, 2] = (5, 0, [0, 2, 3, 4], 0) := by decide +kernel
theorem e_route0 : routeM (exN 0) exS exF [0, 1, 2] = (2, 0, [0, 1], 0) := by decide +kernel
theorem e_slack : slackM (exN 0) exS exF [0, 1, 2] = (1, 0) := by decide +kernel
theorem exN_small (loss : Int) : (exN loss).small := ⟨by simp [exN], by simp [exN], by simp [exN], by simp [exN]⟩
end HM
