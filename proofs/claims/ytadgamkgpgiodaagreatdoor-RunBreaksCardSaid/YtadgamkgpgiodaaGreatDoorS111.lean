/- Breaches: the reference's parts. -/
import Derived.Test.YtadgamkgpgiodaaGreatDoorS69
import Derived.Test.YtadgamkgpgiodaaGreatDoorS33
import Derived.Test.YtadgamkgpgiodaaGreatDoorDb

set_option maxRecDepth 100000
namespace HM
open Go Go.RowKit Go.Proofs
section
variable (L : World → Prop)







def rowAV (row : List Int) (c : Nat) : AV := if row = [] then .nils else .own (row.map encI) c
