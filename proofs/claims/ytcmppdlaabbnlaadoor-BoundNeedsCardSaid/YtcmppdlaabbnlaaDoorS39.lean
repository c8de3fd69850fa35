/- Release, Route, Least and Slack of the reference. -/
import Derived.Test.YtcmppdlaabbnlaaDoorS38
import Derived.Test.YtcmppdlaabbnlaaDoorDa

set_option maxRecDepth 100000
namespace HM
open Go Go.RowKit Go.Proofs
section
variable (L : World → Prop)



theorem slotsUp_step' {n : Net} {s : Sched} {f : Flow} {r : List Int} {rel more : Int} {k : Nat} {o : List Int} {a : Int} (h : slotsUp n s f r rel more k = some (o, a)) {t : List Int} (ht : slotsOn s f (r.getD k 0) (r.getD (k + 1) 0) (needAt n r more k) a (rel + f.period) = t) (hl : t.length = needAt n r more k) : slotsUp n s f r rel more (k + 1) = some (o ++ t, nextA a t) := by
  simp only [slotsUp, h, ht, hl, Nat.lt_irrefl, if_false]
theorem slotsUp_stop' {n : Net} {s : Sched} {f : Flow} {r : List Int} {rel more : Int} {k : Nat} {o : List Int} {a : Int} (h : slotsUp n s f r rel more k = some (o, a)) {t : List Int} (ht : slotsOn s f (r.getD k 0) (r.getD (k + 1) 0) (needAt n r more k) a (rel + f.period) = t) (hl : t.length < needAt n r more k) : slotsUp n s f r rel more (k + 1) = none := by
  simp only [slotsUp, h, ht, hl, if_true]

def sl37 (n : Net) (s : Sched) (f : Flow) : List Ob := [.cells [.int .i64 n.nodes, encRows n.power, .int .i64 n.noise, .int .i64 n.thr, encLinks n.links, encIs n.margin] 26, .cells [.int .i64 s.len, .int .i64 s.offs, encCells s.cells] 29, .cells [.int .i64 f.id, .int .i64 f.src, .int .i64 f.dst, .int .i64 f.period, .int .i64 f.phase, .int .i64 f.dead] 31]

