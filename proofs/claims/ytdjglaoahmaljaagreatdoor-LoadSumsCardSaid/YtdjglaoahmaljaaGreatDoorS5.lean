/- Lines of text. -/
import Derived.Test.YtdjglaoahmaljaaGreatDoorS4
import Derived.Test.YtdjglaoahmaljaaGreatDoorShelf
import Derived.Lib.ItoaLen
import Derived.Lib.AppendIntMem

set_option maxRecDepth 100000
namespace HM
open Go Go.RowKit Go.Proofs

/-- what is asked of a world: the library's table -/
def LW : World → Prop := fun w => Lib.TabIs Tryz.prog w "internal/strconv.uint64pow10" .u64 Lib.pow10Tab

end HM
