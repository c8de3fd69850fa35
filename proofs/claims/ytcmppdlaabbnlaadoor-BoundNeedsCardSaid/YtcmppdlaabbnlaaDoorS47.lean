/- The laws on releases, routes, least bounds and slack. -/
import Derived.Test.YtcmppdlaabbnlaaDoorS46

set_option maxRecDepth 100000
namespace HM
open Go Go.RowKit Go.Proofs

theorem relR_len {n : Net} {s : Sched} {f : Flow} {r : List Int} {more rel b : Int} {l : List Int} (hw : WayOk n s f r) (h0 : 0 ≤ more) (h1 : more ≤ 8) (h : relR n s f r more rel = some (b, l)) : l.length ≤ 144 := by
  unfold relR at h
  cases hs : slotsW n s f r rel more with
  | none => rw [hs] at h; cases h
  | some l' =>
    rw [hs] at h
    obtain ⟨_, _, _, _, _, h5, _, _⟩ := slotsW_some hw h0 h1 hs
    simp only [Option.map_some, Option.some.injEq, Prod.mk.injEq] at h
    rw [← h.2, List.length_map]; exact h5
theorem boundUp_len {n : Net} {s : Sched} {f : Flow} {r : List Int} {more : Int} (hw : WayOk n s f r) (h0 : 0 ≤ more) (h1 : more ≤ 8) : ∀ (k : Nat) {x : Bnd}, boundUp n s f r more k = some x → x.l.length ≤ 144
  | 0, x, h => by simp [boundUp] at h; subst h; simp
  | k + 1, x, h => by
    cases hb : boundUp n s f r more k with
    | none => simp only [boundUp, hb] at h; cases h
    | some y =>
      cases hr : relR n s f r more (f.phase + k * f.period) with
      | none => rw [boundUp_stop hr] at h; cases h
      | some bl =>
        obtain ⟨b, l⟩ := bl
        rw [boundUp_some hb hr] at h
        injection h with h
        have h2 := boundUp_len hw h0 h1 k hb
        have h3 := relR_len hw h0 h1 hr
        split at h
        · subst h; exact h3
        · subst h; exact h2
theorem releaseM_len (n : Net) (s : Sched) (f : Flow) (r : List Int) (rel : Int) : (releaseM n s f r rel).2.1.length ≤ 144 := by
  by_cases h : wayE n s f r = 0
  · unfold releaseM
    rw [if_neg (by simp [h])]
    split
    · simp
    · split
      · simp
      · rename_i b l hr
        exact relR_len (wayE_ok h) (by omega) (by omega) hr
  · rw [releaseM, if_pos h]; simp
theorem routeM_len (n : Net) (s : Sched) (f : Flow) (r : List Int) : (routeM n s f r).2.2.1.length ≤ 144 := by
  by_cases h : wayE n s f r = 0
  · unfold routeM
    rw [if_neg (by simp [h])]
    split
    · simp
    · rename_i x hr
      exact boundUp_len (wayE_ok h) (by omega) (by omega) _ hr
  · rw [routeM, if_pos h]; simp



