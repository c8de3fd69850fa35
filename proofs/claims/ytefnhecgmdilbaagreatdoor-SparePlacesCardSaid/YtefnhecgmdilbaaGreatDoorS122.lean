/- Sorting links. -/
import Derived.Test.YtefnhecgmdilbaaGreatDoorS120
import Derived.Test.YtefnhecgmdilbaaGreatDoorShelf
import Derived.Test.YtefnhecgmdilbaaGreatDoorFh
import Derived.Shelf.Small.Wraps
import Derived.Handy
import Derived.Deep.RegionHeld3
import Derived.Test.YtefnhecgmdilbaaGreatDoorS30
/- Sorting links. -/
set_option maxRecDepth 100000
namespace HM
open Go Go.RowKit Go.Proofs

instance : Inhabited Link := ⟨⟨0, 0, 0⟩⟩
def Link.enc (x : Link) : List Value := [.int .i64 x.src, .int .i64 x.dst, .int .i64 x.loss]
end HM

/- What slices.Compact leaves of sorted links. -/
set_option maxRecDepth 100000
namespace HM
open Go Go.RowKit Go.Proofs
section
variable (L : World → Prop)

end
end HM

/- The links of a request. -/
set_option maxRecDepth 100000
namespace HM
open Go Go.RowKit Go.Proofs
section
variable (L : World → Prop)

end
end HM

/- How many cells requests need: the program. -/
set_option maxRecDepth 100000
namespace HM
open Go Go.RowKit Go.Proofs
structure QOk (n : Net) (q : List Req) (len : Int) : Prop where
  n0 : netE n = 0
  sz : SzOk n q len
  net : NetOk n
  q16 : q.length ≤ 16
  req : ∀ x ∈ q, ReqOk n x
  per : ∀ x ∈ q, 1 ≤ x.flow.period ∧ x.flow.period ≤ 512
theorem SzOk.q {n : Net} {q : List Req} {len : Int} (h : SzOk n q len) : QOk n q len := by
  obtain ⟨h1, h2, h3, h4⟩ := reqE_ok h.req
  refine ⟨?_, h, h1, h2, h3, fun x hx => ?_⟩
  · by_cases hn : netE n = 0
    · exact hn
    · have := h.req
      rw [reqE, if_pos hn] at this; cases this
  · have := flowE_ok (h3 x hx).flow
    omega
section
variable (L : World → Prop)

end
end HM
