/- One cell more, where there is room: the program. -/
import Derived.Test.YtgfboaadhlhjhaaGreatDoorS218
import Derived.Test.YtgfboaadhlhjhaaGreatDoorS219
namespace HM
open Go Go.RowKit Go.Proofs
theorem c_slot (n : Net) (s : Sched) (l : Link) (id k : Int) (hn : n.small) (hg : GridOk s) (hs : s.cells.length ≤ 1000000) (hz : 1 ≤ s.offs ∧ s.offs ≤ 16) (hk : 0 ≤ k ∧ k ≤ 512) : PCall Tryz.prog LW 145 [gridAv n s, l.av, .int .i64 id, .int .i64 k] (.tup [gridAv n (slotM n s l.src l.dst id k).1, .bool (slotM n s l.src l.dst id k).2]) :=
  (slotHalf n s l id k hn hg hs hz hk).2 (fun _ => slotFirst n s l id k hn hg hs hz hk) (fun _ => slotSecond n s l id k hn hg hs hz hk)
end HM
