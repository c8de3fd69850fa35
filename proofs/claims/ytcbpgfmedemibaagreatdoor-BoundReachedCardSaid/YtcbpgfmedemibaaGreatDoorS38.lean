/- Which slots count: the reference. -/
import Derived.Test.YtcbpgfmedemibaaGreatDoorS33
import Derived.Test.YtcbpgfmedemibaaGreatDoorDa
/- Which slots count: the reference. -/
set_option maxRecDepth 100000
namespace HM
open Go Go.RowKit Go.Proofs
section
variable (L : World → Prop)

end
end HM

/- Release, Route, Least and Slack of the reference. -/
set_option maxRecDepth 100000
namespace HM
open Go Go.RowKit Go.Proofs
section
variable (L : World → Prop)

def sl37 (n : Net) (s : Sched) (f : Flow) : List Ob := [.cells [.int .i64 n.nodes, encRows n.power, .int .i64 n.noise, .int .i64 n.thr, encLinks n.links, encIs n.margin] 26, .cells [.int .i64 s.len, .int .i64 s.offs, encCells s.cells] 29, .cells [.int .i64 f.id, .int .i64 f.src, .int .i64 f.dst, .int .i64 f.period, .int .i64 f.phase, .int .i64 f.dead] 31]

end
end HM

/- The reference's Release, Route, Least and Slack. -/
set_option maxRecDepth 100000
namespace HM
open Go Go.RowKit Go.Proofs
section
variable (L : World → Prop)

end
end HM
