/- Least and Slack of the program. -/
import Derived.Test.YtjlemnimmbblkaaGreatDoorS37
import Derived.Test.YtjlemnimmbblkaaGreatDoorS43

set_option maxRecDepth 100000
namespace HM
open Go Go.RowKit Go.Proofs



def skBx (n : Net) (s : Sched) (f : Flow) (r : List Int) (m : Int) : List Ob := sl37 n s f ++ [.cells (Way.cs ⟨n, s, f, r, m⟩) 67]
set_option maxHeartbeats 4000000 in
theorem c_BSlack (n : Net) (s : Sched) (f : Flow) (r : List Int) (hn : n.small) (hc : s.cells.length ≤ 281474976710656) (hr : r.length ≤ 281474976710656) :
    PCall Tryz.prog LW 15 [n.av, s.av, f.av, encIs r] (.tup [.int .i64 (slackM n s f r).1, .int .i64 (slackM n s f r).2]) := by
  refine PCall.intro mixed [] (nt := 39) Tryz.func15 rfl rfl (by simp) ?_
  refine Wk ?_
  first | refine CallK.data rfl (c_wcheck ⟨n, s, f, r, 0⟩ hn hc hr) rfl ?_ | refine CallP.data rfl (c_wcheck ⟨n, s, f, r, 0⟩ hn hc hr) rfl ?_
  refine Wk ?_
  refine BrK.mk (fun h1 => ?_) (fun h1 => ?_) <;> (try rw [h1])
  · refine Wk ?_
    exact resP.mk rfl (Sees.of_eq (by rw [slackM, if_pos (by simpa using h1)]))
  have h1' : wayE n s f r = 0 := by simpa using h1
  have e1 : ¬ wayE n s f r ≠ 0 := by simpa using h1'
  have hw := wayE_ok h1'
  have hn0 := wayE_net h1'
  refine Wk ?_
  refine CallK.inl rfl (ICall.intro mixed [] (nt := 25) Tryz.func32 rfl rfl (by simp) ?_)
  refine Wk ?_
  first | refine CallK.data rfl (c_bound ⟨n, s, f, r, 0⟩ hn hw hn0 (Int.le_refl _) (by show (0 : Int) ≤ 8; omega)) rfl ?_ | refine CallP.data rfl (c_bound ⟨n, s, f, r, 0⟩ hn hw hn0 (Int.le_refl _) (by show (0 : Int) ≤ 8; omega)) rfl ?_
  have no : fitsB n s f r 0 = false → slackM n s f r = (0, 15) := fun h => by rw [slackM, if_neg e1, if_pos h]
  have rest : fitsB n s f r 0 = true → True := fun _ => trivial
  cases hB : boundR n s f r 0 with
  | none =>
    refine Wk ?_
    exact resP.mk rfl (Sees.of_eq (by rw [no (by rw [fitsB]; show (match boundR n s f r 0 with | some x => _ | none => _) = _; rw [hB])]))
  | some x =>
    refine Wk ?_
    have hfit : fitsB n s f r 0 = decide (x.b ≤ f.dead) := by rw [fitsB]; show (match boundR n s f r 0 with | some x => _ | none => _) = _; rw [hB]
    refine BrK.mk (fun h2 => ?_) (fun h2 => ?_) <;> (try rw [h2])
    · have h2' : decide (x.b ≤ f.dead) = false := by simpa using h2
      refine Wk ?_
      exact resP.mk rfl (Sees.of_eq (by rw [no (by rw [hfit]; exact h2')]))
    have h2' : fitsB n s f r 0 = true := by rw [hfit]; simpa using h2
    have yes : ∀ k : Nat, slackUp (fitsB n s f r) 7 0 = k → slackM n s f r = ((k : Int), 0) := fun k hk => by rw [slackM, if_neg e1, if_neg (by simp [h2']), hk]
    clear hfit
    refine Wk ?_
    refine LoopK.run mixed [] (fun (k : Nat) => k ≤ 7 ∧ slackUp (fitsB n s f r) 7 0 = slackUp (fitsB n s f r) (7 - k) k) (fun k => [(12, .fn 32 [.ptr 3 0, .ptr 2 0]), (13, .int .i64 k)]) (fun k => ⟨skBx n s f r k, [], 0, 0, fun _ => 0⟩) (fun k => 7 - k) 0 ⟨by simp, rfl⟩ ?_ ?_
    · refine Fits.mk' rfl rfl rfl rfl ?_ ?_ ?_ ?_ ?_ <;> repeat' (first | exact trivial | refine And.intro ?_ ?_ | exact Sees.of_eq rfl | exact lt_b rfl | rfl | exact SeesL.rfl' _)
    rintro k ⟨hk, hinv⟩
    refine Wk ?_
    refine BrK.mk (fun h3 => ?_) (fun h3 => ?_) <;> (try rw [h3])
    · have hlt : k < 7 := by simp at h3; omega
      have hk1 : IntKind.i64.wrap ((k : Int) + 1) = ((k + 1 : Nat) : Int) := succI hlt (by omega)
      have hu : slackUp (fitsB n s f r) (7 - k) k = if fitsB n s f r (k + 1) then slackUp (fitsB n s f r) (7 - (k + 1)) (k + 1) else k := by rw [show 7 - k = (7 - (k + 1)) + 1 by omega, slackUp]
      rw [hu] at hinv
      refine Wk ?_
      rw [hk1]
      refine CallK.inl rfl (ICall.intro mixed [] (nt := 25) Tryz.func32 rfl rfl (by simp) ?_)
      refine Wk ?_
      first | refine CallK.data rfl (c_bound ⟨n, s, f, r, (k + 1 : Nat)⟩ hn hw hn0 (by show (0 : Int) ≤ ((k + 1 : Nat) : Int); omega) (by show ((k + 1 : Nat) : Int) ≤ 8; omega)) rfl ?_ | refine CallP.data rfl (c_bound ⟨n, s, f, r, (k + 1 : Nat)⟩ hn hw hn0 (by show (0 : Int) ≤ ((k + 1 : Nat) : Int); omega) (by show ((k + 1 : Nat) : Int) ≤ 8; omega)) rfl ?_
      cases hB : boundR n s f r ((k + 1 : Nat) : Int) with
      | none =>
        rw [show fitsB n s f r (k + 1) = false from by rw [fitsB, hB]] at hinv
        refine Wk ?_
        exact resP.mk rfl (Sees.of_eq (by rw [yes k (by simpa using hinv)]))
      | some x =>
        have hfit : fitsB n s f r (k + 1) = decide (x.b ≤ f.dead) := by rw [fitsB, hB]
        refine Wk ?_
        refine BrK.mk (fun h4 => ?_) (fun h4 => ?_) <;> (try rw [h4])
        · rw [hfit, h4] at hinv
          refine Wk ?_
          refine ⟨k + 1, ⟨by omega, by simpa using hinv⟩, by omega, ?_⟩
          refine Fits.mk' rfl rfl rfl rfl ?_ ?_ ?_ ?_ ?_ <;> repeat' (first | exact trivial | refine And.intro ?_ ?_ | exact Sees.of_eq rfl | exact lt_b rfl | rfl | exact SeesL.rfl' _ | exact Sees.int hk1)
        · rw [hfit, h4] at hinv
          refine Wk ?_
          exact resP.mk rfl (Sees.of_eq (by rw [yes k (by simpa using hinv)]))
    · have hk7 : k = 7 := by simp at h3; omega
      subst hk7
      refine Wk ?_
      exact resP.mk rfl (Sees.of_eq (by rw [yes 7 hinv]))
end HM
