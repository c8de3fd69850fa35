/- The reference's Least, Slack and guards. -/
import Derived.Test.YtcmppdlaabbnlaaDoorS41

set_option maxRecDepth 100000
namespace HM
open Go Go.RowKit Go.Proofs
section
variable (L : World → Prop)

theorem routeM_bad {n : Net} {s : Sched} {f : Flow} {r : List Int} (h : wayE n s f r ≠ 0) : routeM n s f r = (0, 0, [], wayE n s f r) := by rw [routeM, if_pos h]
theorem routeM_none {n : Net} {s : Sched} {f : Flow} {r : List Int} (h : wayE n s f r = 0) (hb : boundR n s f r 0 = none) : routeM n s f r = (0, 0, [], 15) := by rw [routeM, if_neg (by simp [h]), hb]
theorem routeM_some {n : Net} {s : Sched} {f : Flow} {r : List Int} {x : Bnd} (h : wayE n s f r = 0) (hb : boundR n s f r 0 = some x) : routeM n s f r = (x.b, x.w, x.l, 0) := by rw [routeM, if_neg (by simp [h]), hb]



