/- Guards and the example of the law on bounds. -/
import Derived.Test.YtcbpgfmedemibaaGreatDoorS41
import Derived.Test.YtcbpgfmedemibaaGreatDoorS37
import Derived.Test.YtcbpgfmedemibaaGreatDoorFh
/- Guards and the example of the law on bounds. -/
set_option maxRecDepth 100000
namespace HM
open Go Go.RowKit Go.Proofs
section
variable (L : World → Prop)

end
end HM

/- Least and Slack of the program. -/
set_option maxRecDepth 100000
namespace HM
open Go Go.RowKit Go.Proofs

def skBx (n : Net) (s : Sched) (f : Flow) (r : List Int) (m : Int) : List Ob := sl37 n s f ++ [.cells (Way.cs ⟨n, s, f, r, m⟩) 86]
set_option maxHeartbeats 4000000 in
theorem c_BSlack (n : Net) (s : Sched) (f : Flow) (r : List Int) (hn : n.small) (hc : s.cells.length ≤ 281474976710656) (hr : r.length ≤ 281474976710656) :
    PCall Tryz.prog LW 34 [n.av, s.av, f.av, encIs r] (.tup [.int .i64 (slackM n s f r).1, .int .i64 (slackM n s f r).2]) := by
  refine PCall.intro mixed [] (nt := 39) Tryz.func34 rfl rfl (by simp) ?_
  refine Wk ?_
  first | refine CallK.data rfl (c_wcheck ⟨n, s, f, r, 0⟩ hn hc hr) rfl ?_ | refine CallP.data rfl (c_wcheck ⟨n, s, f, r, 0⟩ hn hc hr) rfl ?_
  refine Wk ?_
  refine BrK.mk (fun h1 => ?_) (fun h1 => ?_) <;> (try rw [h1])
  · refine Wk ?_
    exact resP.mk rfl (Sees.of_eq (by rw [slackM, if_pos (by simpa using h1)]))
  have h1' : wayE n s f r = 0 := by simpa using h1
  have e1 : ¬ wayE n s f r ≠ 0 := by simpa using h1'
  have hw := wayE_ok h1'
  have hn0 := wayE_net h1'
  refine Wk ?_
  refine CallK.inl rfl (ICall.intro mixed [] (nt := 25) Tryz.func87 rfl rfl (by simp) ?_)
  refine Wk ?_
  first | refine CallK.data rfl (c_bound ⟨n, s, f, r, 0⟩ hn hw hn0 (Int.le_refl _) (by show (0 : Int) ≤ 8; omega)) rfl ?_ | refine CallP.data rfl (c_bound ⟨n, s, f, r, 0⟩ hn hw hn0 (Int.le_refl _) (by show (0 : Int) ≤ 8; omega)) rfl ?_
  have no : fitsB n s f r 0 = false → slackM n s f r = (0, 15) := fun h => by rw [slackM, if_neg e1, if_pos h]
  have rest : fitsB n s f r 0 = true → True := fun _ => trivial
  cases hB : boundR n s f r 0 with
  | none =>
    refine Wk ?_
    exact resP.mk rfl (Sees.of_eq (by rw [no (by rw [fitsB]; show (match boundR n s f r 0 with | some x => _ | none => _) = _; rw [hB])]))
  | some x =>
    refine Wk ?_
    have hfit : fitsB n s f r 0 = decide (x.b ≤ f.dead) := by rw [fitsB]; show (match boundR n s f r 0 with | some x => _ | none => _) = _; rw [hB]
    refine BrK.mk (fun h2 => ?_) (fun h2 => ?_) <;> (try rw [h2])
    · have h2' : decide (x.b ≤ f.dead) = false := by simpa using h2
      refine Wk ?_
      exact resP.mk rfl (Sees.of_eq (by rw [no (by rw [hfit]; exact h2')]))
    have h2' : fitsB n s f r 0 = true := by rw [hfit]; simpa using h2
    have yes : ∀ k : Nat, slackUp (fitsB n s f r) 7 0 = k → slackM n s f r = ((k : Int), 0) := fun k hk => by rw [slackM, if_neg e1, if_neg (by simp [h2']), hk]
    clear hfit
    refine Wk ?_
    refine LoopK.run mixed [] (fun (k : Nat) => k ≤ 7 ∧ slackUp (fitsB n s f r) 7 0 = slackUp (fitsB n s f r) (7 - k) k) (fun k => [(12, .fn 87 [.ptr 3 0, .ptr 2 0]), (13, .int .i64 k)]) (fun k => ⟨skBx n s f r k, [], 0, 0, fun _ => 0⟩) (fun k => 7 - k) 0 ⟨by simp, rfl⟩ ?_ ?_
    · refine Fits.mk' rfl rfl rfl rfl ?_ ?_ ?_ ?_ ?_ <;> repeat' (first | exact trivial | refine And.intro ?_ ?_ | exact Sees.of_eq rfl | exact lt_b rfl | rfl | exact SeesL.rfl' _)
    rintro k ⟨hk, hinv⟩
    refine Wk ?_
    refine BrK.mk (fun h3 => ?_) (fun h3 => ?_) <;> (try rw [h3])
    · have hlt : k < 7 := by simp at h3; omega
      have hk1 : IntKind.i64.wrap ((k : Int) + 1) = ((k + 1 : Nat) : Int) := succI hlt (by omega)
      have hu : slackUp (fitsB n s f r) (7 - k) k = if fitsB n s f r (k + 1) then slackUp (fitsB n s f r) (7 - (k + 1)) (k + 1) else k := by rw [show 7 - k = (7 - (k + 1)) + 1 by omega, slackUp]
      rw [hu] at hinv
      refine Wk ?_
      rw [hk1]
      refine CallK.inl rfl (ICall.intro mixed [] (nt := 25) Tryz.func87 rfl rfl (by simp) ?_)
      refine Wk ?_
      first | refine CallK.data rfl (c_bound ⟨n, s, f, r, (k + 1 : Nat)⟩ hn hw hn0 (by show (0 : Int) ≤ ((k + 1 : Nat) : Int); omega) (by show ((k + 1 : Nat) : Int) ≤ 8; omega)) rfl ?_ | refine CallP.data rfl (c_bound ⟨n, s, f, r, (k + 1 : Nat)⟩ hn hw hn0 (by show (0 : Int) ≤ ((k + 1 : Nat) : Int); omega) (by show ((k + 1 : Nat) : Int) ≤ 8; omega)) rfl ?_
      cases hB : boundR n s f r ((k + 1 : Nat) : Int) with
      | none =>
        rw [show fitsB n s f r (k + 1) = false from by rw [fitsB, hB]] at hinv
        refine Wk ?_
        exact resP.mk rfl (Sees.of_eq (by rw [yes k (by simpa using hinv)]))
      | some x =>
        have hfit : fitsB n s f r (k + 1) = decide (x.b ≤ f.dead) := by rw [fitsB, hB]
        refine Wk ?_
        refine BrK.mk (fun h4 => ?_) (fun h4 => ?_) <;> (try rw [h4])
        · rw [hfit, h4] at hinv
          refine Wk ?_
          refine ⟨k + 1, ⟨by omega, by simpa using hinv⟩, by omega, ?_⟩
          refine Fits.mk' rfl rfl rfl rfl ?_ ?_ ?_ ?_ ?_ <;> repeat' (first | exact trivial | refine And.intro ?_ ?_ | exact Sees.of_eq rfl | exact lt_b rfl | rfl | exact SeesL.rfl' _ | exact Sees.int hk1)
        · rw [hfit, h4] at hinv
          refine Wk ?_
          exact resP.mk rfl (Sees.of_eq (by rw [yes k (by simpa using hinv)]))
    · have hk7 : k = 7 := by simp at h3; omega
      subst hk7
      refine Wk ?_
      exact resP.mk rfl (Sees.of_eq (by rw [yes 7 hinv]))
end HM

/- The laws on bounds: releases, routes, least bounds, slack. -/
set_option maxRecDepth 100000
namespace HM
open Go Go.RowKit Go.Proofs

theorem c_EqII (L : World → Prop) (a : List Int) (ha : a.length ≤ 281474976710656) : PCall Tryz.prog L 35 [encIs a, encIs a] (.bool true) := by
  refine PCall.intro mixed [] (nt := 26) Tryz.func35 rfl rfl (by simp) ?_
  refine Wk ?_
  rw [show (((List.map encI a).length : Int) != ((List.map encI a).length : Int)) = false from by simp]
  refine Wk ?_
  refine LoopK.run mixed [] (fun (k : Nat) => k ≤ a.length) (fun k => [(0, encIs a), (1, encIs a), (12, .int .i64 a.length), (13, .int .i64 k)]) (fun k => St.none) (fun k => a.length - k) 0 (by simp) ?_ ?_
  · refine Fits.mk' rfl rfl rfl rfl ?_ ?_ ?_ ?_ ?_ <;> repeat' (first | exact trivial | refine And.intro ?_ ?_ | exact Sees.of_eq rfl | exact lt_b rfl | rfl | exact Sees.int (by simp))
  rintro k hk
  refine Wk ?_
  refine BrK.mk (fun hb => ?_) (fun hb => ?_) <;> (try rw [hb])
  · have hlt : k < a.length := by simpa using hb
    obtain ⟨x, hgx⟩ := getLt hlt
    have hmx := getMap (f := encI) hgx
    repeat ((conv => whnf); first | refine sJ ?_ | refine And.intro (by first | exact inbMap hlt | kernel_rfl) ?_ | rw [hmx])
    try (conv => whnf)
    rw [show (x != x) = false from by simp]
    refine Wk ?_
    refine ⟨k + 1, by omega, by omega, ?_⟩
    refine Fits.mk' rfl rfl rfl rfl ?_ ?_ ?_ ?_ ?_ <;> repeat' (first | exact trivial | refine And.intro ?_ ?_ | exact Sees.of_eq rfl | exact lt_b rfl | rfl | exact Sees.int (succI hlt (by omega)))
  · have hk' : k = a.length := by simp at hb; omega
    subst hk'
    refine Wk ?_
    exact resP.mk rfl (Sees.of_eq rfl)

def exN (loss : Int) : Net := ⟨3, [[0, 9, 9], [9, 0, 9], [9, 9, 0]], 1, 1000, [⟨0, 1, loss⟩, ⟨1, 0, 0⟩, ⟨1, 2, loss⟩, ⟨2, 1, 0⟩], [9, 9, 9, 9]⟩
def exS : Sched := ⟨6, 1, [⟨0, 0, 0, 1, 3⟩, ⟨1, 0, 1, 2, 3⟩, ⟨2, 0, 0, 1, 3⟩, ⟨3, 0, 1, 2, 3⟩, ⟨4, 0, 1, 2, 3⟩]⟩
def exF : Flow := ⟨3, 0, 2, 6, 0, 6⟩

def exB : List Ob := [.cells [.int .i64 0, .nils, .int .i64 0, .int .i64 0, .nils, .nils] 26, .cells [.int .i64 0, .int .i64 0, .nils] 29, .cells [.int .i64 0, .int .i64 0, .int .i64 0, .int .i64 0, .int .i64 0, .int .i64 0] 31]
def exSl (loss : Int) : List (Nat × AV) := [(0, .int .i64 loss), (2, .ptr 0 0), (3, .ptr 1 0), (4, .ptr 2 0), (5, .ptr 3 0)]
def exR : AV := encRows [[0, 9, 9], [9, 0, 9], [9, 9, 0]]
set_option maxHeartbeats 4000000 in
theorem c_example (L : World → Prop) (loss : Int) : PCall Tryz.prog L 32 [.int .i64 loss] (.tup [(exN loss).av, exS.av, exF.av]) := by
  refine PCall.intro mixed [2, 3, 4] (nt := 31) Tryz.func32 rfl rfl (by simp) ?_
  refine Wk ?_
  refine SeqK.cutS mixed [3, 4] (exSl loss) ⟨exB ++ [.cells [.int .i64 3, exR, .int .i64 1, .int .i64 1000, .nils, encIs [9, 9, 9, 9]] 26], [], 0, 0, fun _ => 0⟩ (twC_sound (ct := []) mixed _ _ _ _ ?_) ?_
  · refine Wk ?_
    refine Fits.mk' rfl rfl rfl rfl ?_ ?_ ?_ ?_ ?_ <;> repeat' (first | exact trivial | refine And.intro ?_ ?_ | exact Sees.of_eq rfl | exact lt_b rfl | rfl | exact Sees.elems rfl)
  refine SeqK.cutS mixed [4] (exSl loss) ⟨exB ++ [.cells (exN loss).cs 26], [], 0, 0, fun _ => 0⟩ (twC_sound (ct := []) mixed _ _ _ _ ?_) ?_
  · refine Wk ?_
    refine Fits.mk' rfl rfl rfl rfl ?_ ?_ ?_ ?_ ?_ <;> repeat' (first | exact trivial | refine And.intro ?_ ?_ | exact Sees.of_eq rfl | exact lt_b rfl | rfl | exact Sees.elems rfl)
  refine SeqK.cutM ((6, .ptr 4 0) :: exSl loss) ⟨exB ++ [.cells (exN loss).cs 26, .cells [.int .i64 6, .int .i64 1, encCells exS.cells] 29], [], 0, 0, fun _ => 0⟩ (twC_sound (ct := []) mixed _ _ _ _ ?_) ((SeqK.cutS mixed [] (exSl loss) ⟨[.cells (exN loss).cs 26, .cells [.int .i64 6, .int .i64 1, encCells exS.cells] 29, .cells [.int .i64 3, .int .i64 0, .int .i64 2, .int .i64 6, .int .i64 0, .int .i64 6] 31, .cells (exN loss).cs 26], [], 0, 0, fun _ => 0⟩ (SemK.regionAny mixed rfl ?_) ?_).out)
  · refine Wk ?_
    refine Fits.mk' rfl rfl rfl rfl ?_ ?_ ?_ ?_ ?_ <;> repeat' (first | exact trivial | refine And.intro ?_ ?_ | exact Sees.of_eq rfl | exact lt_b rfl | rfl | exact Sees.elems rfl)
  · repeat' ((conv => whnf); first | exact trivial | refine sJ ?_ | refine And.intro (by first  | kernel_rfl) ?_ | refine And.intro ?_ ?_ )
    all_goals (conv => whnf)
    all_goals
      refine Fits.mk' rfl rfl rfl rfl ?_ ?_ ?_ ?_ ?_ <;> repeat' (first | exact trivial | refine And.intro ?_ ?_ | exact Sees.of_eq rfl | exact lt_b rfl | rfl )
  refine Wk ?_
  exact resP.mk rfl (Sees.of_eq rfl)

theorem e_route1 : routeM (exN 1) exS exF [0, 1, 2] = (5, 0, [0, 2, 3, 4], 0) := by decide +kernel
theorem e_route0 : routeM (exN 0) exS exF [0, 1, 2] = (2, 0, [0, 1], 0) := by decide +kernel
theorem e_slack : slackM (exN 0) exS exF [0, 1, 2] = (1, 0) := by decide +kernel
theorem exN_small (loss : Int) : (exN loss).small := ⟨by simp [exN], by simp [exN], by simp [exN], by simp [exN]⟩
end HM

/- The example of the laws on bounds holds. -/
set_option maxRecDepth 100000
namespace HM
open Go Go.RowKit Go.Proofs

def awB (l : Int) : List Ob := [.cells (exN l).cs 26, .cells [.int .i64 6, .int .i64 1, encCells exS.cells] 29, .cells [.int .i64 3, .int .i64 0, .int .i64 2, .int .i64 6, .int .i64 0, .int .i64 6] 31]
def awS : List (Nat × AV) := [(4, .int .i64 5), (5, .int .i64 0), (6, encIs [0, 2, 3, 4]), (7, .int .i64 0)]
set_option maxHeartbeats 4000000 in
theorem c_awake37 : PCall Tryz.prog LW 7 [] (.bool true) := by
  refine PCall.intro mixed [2, 3, 4, 5, 6] (nt := 86) Tryz.func7 rfl rfl (by simp) ?_
  refine Wk ?_
  refine SeqK.cutS mixed [3, 4, 5, 6] [(1, .ptr 0 0), (2, .ptr 1 0), (3, .ptr 2 0)] ⟨awB 1, [], 0, 0, fun _ => 0⟩ (twC_sound (ct := []) mixed _ _ _ _ ?_) ?_
  · refine Wk ?_
    first | refine CallK.data rfl (c_example LW 1) rfl ?_ | refine CallP.data rfl (c_example LW 1) rfl ?_
    refine Wk ?_
    refine Fits.mk' rfl rfl rfl rfl ?_ ?_ ?_ ?_ ?_ <;> repeat' (first | exact trivial | refine And.intro ?_ ?_ | exact Sees.of_eq rfl | exact lt_b rfl | rfl | exact SeesL.rfl' _)
  refine Wk ?_
  refine SeqK.cutS mixed [4, 5, 6] awS ⟨[], [], 0, 0, fun _ => 0⟩ (twC_sound (ct := []) mixed _ _ _ _ ?_) ?_
  · refine Wk ?_
    first | refine CallK.data rfl (c_BRoute (exN 1) exS exF [0, 1, 2] (exN_small 1) (by decide) (by decide)) rfl ?_ | refine CallP.data rfl (c_BRoute (exN 1) exS exF [0, 1, 2] (exN_small 1) (by decide) (by decide)) rfl ?_
    rw [e_route1]
    refine Wk ?_
    refine Fits.mk' rfl rfl rfl rfl ?_ ?_ ?_ ?_ ?_ <;> repeat' (first | exact trivial | refine And.intro ?_ ?_ | exact Sees.of_eq rfl | exact lt_b rfl | rfl )
  refine Wk ?_
  refine SeqK.cutS mixed [5, 6] ([(8, .ptr 0 0), (9, .ptr 1 0), (10, .ptr 2 0)] ++ awS) ⟨awB 0, [], 0, 0, fun _ => 0⟩ (twC_sound (ct := []) mixed _ _ _ _ ?_) ?_
  · refine Wk ?_
    first | refine CallK.data rfl (c_example LW 0) rfl ?_ | refine CallP.data rfl (c_example LW 0) rfl ?_
    refine Wk ?_
    refine Fits.mk' rfl rfl rfl rfl ?_ ?_ ?_ ?_ ?_ <;> repeat' (first | exact trivial | refine And.intro ?_ ?_ | exact Sees.of_eq rfl | exact lt_b rfl | rfl | exact SeesL.rfl' _)
  refine Wk ?_
  refine SeqK.cutS mixed [6] ([(8, .ptr 0 0), (9, .ptr 1 0), (10, .ptr 2 0), (11, .int .i64 2), (14, .int .i64 0)] ++ awS) ⟨awB 0, [], 0, 0, fun _ => 0⟩ (twC_sound (ct := []) mixed _ _ _ _ ?_) ?_
  · refine Wk ?_
    first | refine CallK.data rfl (c_BRoute (exN 0) exS exF [0, 1, 2] (exN_small 0) (by decide) (by decide)) rfl ?_ | refine CallP.data rfl (c_BRoute (exN 0) exS exF [0, 1, 2] (exN_small 0) (by decide) (by decide)) rfl ?_
    rw [e_route0]
    refine Wk ?_
    refine Fits.mk' rfl rfl rfl rfl ?_ ?_ ?_ ?_ ?_ <;> repeat' (first | exact trivial | refine And.intro ?_ ?_ | exact Sees.of_eq rfl | exact lt_b rfl | rfl | exact SeesL.rfl' _)
  refine Wk ?_
  refine SeqK.cutS mixed [] ([(11, .int .i64 2), (14, .int .i64 0), (15, .int .i64 1), (16, .int .i64 0)] ++ awS) ⟨[], [], 0, 0, fun _ => 0⟩ (twC_sound (ct := []) mixed _ _ _ _ ?_) ?_
  · refine Wk ?_
    first | refine CallK.data rfl (c_BSlack (exN 0) exS exF [0, 1, 2] (exN_small 0) (by decide) (by decide)) rfl ?_ | refine CallP.data rfl (c_BSlack (exN 0) exS exF [0, 1, 2] (exN_small 0) (by decide) (by decide)) rfl ?_
    rw [e_slack]
    refine Wk ?_
    refine Fits.mk' rfl rfl rfl rfl ?_ ?_ ?_ ?_ ?_ <;> repeat' (first | exact trivial | refine And.intro ?_ ?_ | exact Sees.of_eq rfl | exact lt_b rfl | rfl )
  refine Wk ?_
  first | refine CallK.data rfl (c_EqII LW [0, 2, 3, 4] (by decide)) rfl ?_ | refine CallP.data rfl (c_EqII LW [0, 2, 3, 4] (by decide)) rfl ?_
  refine Wk ?_
  exact resP.mk rfl (Sees.of_eq rfl)
end HM
