/- Which links can be together: the program's faults. -/
import Derived.Test.YtckcedndijobaaaGreatDoorS53
set_option maxRecDepth 100000
namespace HM
open Go Go.RowKit Go.Proofs
section
variable (L:World→Prop)
theorem any_hit {m k:Nat}{f:Nat→Bool}(hk:k < m)(h:f k=true):(List.range m).any f=true:=List.any_eq_true.2 ⟨k,by simpa using hk,h⟩
theorem any_nk {m:Nat}{f:Nat→Bool}(h:∀j,j < m→f j=false):(List.range m).any f=false:=by
 rw[List.any_eq_false];intro j hj;simp[h j (by simpa using hj)]
end
end HM
