/- Which slots count for a release. -/
import Derived.Test.YtgfboaadhlhjhaaGreatDoorS51
import Derived.Test.YtgfboaadhlhjhaaGreatDoorS52
set_option maxRecDepth 100000
namespace HM
open Go Go.RowKit Go.Proofs
theorem c_release (w : Way) (rel : Int) (hn : w.n.small) (h : WayOk w.n w.s w.f w.r) (h0 : netE w.n = 0) (hm0 : 0 ≤ w.more) (hm1 : w.more ≤ 8) (hr0 : 0 ≤ rel) (hr1 : rel ≤ 1048576) :
    PCall Tryz.prog LW 121 [w.av, .int .i64 rel] (relAV (relR w.n w.s w.f w.r w.more rel)) := (relHalf w rel h hr0 hr1).2 (fun _ => relFirst w rel hn h h0 hm0 hm1 hr0 hr1) (fun _ => relSecond w rel hn h h0 hm0 hm1 hr0 hr1)
end HM
