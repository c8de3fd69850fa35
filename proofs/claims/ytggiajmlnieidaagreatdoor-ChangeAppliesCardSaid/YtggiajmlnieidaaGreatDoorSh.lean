/-
  DERIVED: THE SHELF's CONTRACTS AT THIS DUMP, IN PLAIN WORDS (tools/lay-plain.mjs out of 'TryzShelf.lean', which tools/lay-shelf.mjs wrote): THE SAME DECLARATIONS UNDER THE SAME NAMES: 'import', 'namespace', 'open', 'def', 'theorem' AND NOTHING ELSE: no command of the shelf's: FOR A HAND-IN. Each laying: the table of numbers ('.._ren') and one theorem, a field a fact of the dump's own or the kernel's comparison; each contract: ONE APPLICATION.
-/
import Derived.Shelf.SlSortCmp.NoneTotal
import Derived.Shelf.Strings.Builder1
import Derived.Shelf.Small.Bits
import Derived.Shelf.Small.Wraps
import Derived.Shelf.Strings.BuilderF
import Derived.Shelf.Strings.BuilderK
import Derived.Shelf.Strconv.Itoa0
import Derived.Shelf.Strconv.Itoa1
import Derived.Shelf.LaysM
import Derived.Shelf.Strconv.Itoa2
import Derived.Shelf.Strconv.Itoa3
import Derived.Shelf.Strings.BuilderCap
import Derived.Ground.Names2Prog
import Derived.Shelf.Slices.SearchI
import Derived.Test.YtggiajmlnieidaaGreatDoorProg
namespace Go.Proofs
open Go.Shelf
def Tryz.lays215_ren:Go.Shelf.Ren:=⟨fun|215=>154|n=>n,fun|3=>3|4=>4|n=>n,fun|n=>n⟩
def Tryz.lays122_ren:Go.Shelf.Ren:=⟨fun|122=>92|215=>154|n=>n,fun|3=>3|4=>4|n=>n,fun|n=>n⟩
theorem Tryz.lays122:Go.Proofs.Lays.n122 Tryz.prog Tryz.lays122_ren:={
 mixed:=by kernel_rfl
 f122:=Tryz.func92.trans (congrArg some (by kernel_rfl))
 f215:=Tryz.func154.trans (congrArg some (by kernel_rfl))
 t3:=Tryz.underlying3
 a3:=Tryz.isAgg3
 z3:=Tryz.sizeOf3
 v3:=Tryz.zeroValue3
 t4:=Tryz.underlying4
 a4:=Tryz.isAgg4
 z4:=Tryz.sizeOf4
 v4:=Tryz.zeroValue4}
open Go.RowKit in
theorem Tryz.cmp_Compare_int (x y:Int)(w:World) :
  Calls Tryz.prog 92 #[.int .i64 x,.int .i64 y] w fun e w'=>e=.returned (.int .i64 (Lib.compareInt x y))∧w'=w:=Any.cmp_Compare_int Tryz.lays122 x y w
def Tryz.laysM246_ren:Go.Shelf.Ren:=⟨fun|246=>292|283=>297|284=>298|285=>299|286=>300|129=>214|317=>301|318=>302|319=>303|320=>304|337=>305|338=>306|n=>n,fun|2=>2|3=>3|9=>9|4=>4|171=>330|0=>0|53=>265|37=>234|5=>5|173=>332|212=>335|51=>263|20=>20|213=>336|46=>204|232=>337|233=>338|n=>n,fun|17=>0|18=>1|19=>2|n=>n⟩
def Tryz.laysM243_ren:Go.Shelf.Ren:=⟨fun|243=>278|246=>292|283=>297|284=>298|285=>299|286=>300|129=>214|317=>301|318=>302|319=>303|320=>304|337=>305|338=>306|n=>n,fun|3=>3|9=>9|2=>2|4=>4|171=>330|0=>0|53=>265|37=>234|5=>5|173=>332|212=>335|51=>263|20=>20|213=>336|46=>204|232=>337|233=>338|n=>n,fun|17=>0|18=>1|19=>2|n=>n⟩
def Tryz.laysM171_ren:Go.Shelf.Ren:=⟨fun|171=>246|243=>278|246=>292|283=>297|284=>298|285=>299|286=>300|129=>214|317=>301|318=>302|319=>303|320=>304|337=>305|338=>306|n=>n,fun|3=>3|9=>9|2=>2|4=>4|171=>330|0=>0|53=>265|37=>234|5=>5|173=>332|212=>335|51=>263|20=>20|213=>336|46=>204|232=>337|233=>338|n=>n,fun|17=>0|18=>1|19=>2|n=>n⟩
theorem Tryz.laysM171:Go.Proofs.LaysM.n171 Tryz.prog Tryz.laysM171_ren:={
 mixed:=by kernel_rfl
 f129:=Tryz.func214.trans (congrArg some (by kernel_rfl))
 f171:=Tryz.func246.trans (congrArg some (by kernel_rfl))
 f243:=Tryz.func278.trans (congrArg some (by kernel_rfl))
 f246:=Tryz.func292.trans (congrArg some (by kernel_rfl))
 f283:=Tryz.func297.trans (congrArg some (by kernel_rfl))
 f284:=Tryz.func298.trans (congrArg some (by kernel_rfl))
 f285:=Tryz.func299.trans (congrArg some (by kernel_rfl))
 f286:=Tryz.func300.trans (congrArg some (by kernel_rfl))
 f317:=Tryz.func301.trans (congrArg some (by kernel_rfl))
 f318:=Tryz.func302.trans (congrArg some (by kernel_rfl))
 f319:=Tryz.func303.trans (congrArg some (by kernel_rfl))
 f320:=Tryz.func304.trans (congrArg some (by kernel_rfl))
 f337:=Tryz.func305.trans (congrArg some (by kernel_rfl))
 f338:=Tryz.func306.trans (congrArg some (by kernel_rfl))
 t0:=Tryz.underlying0
 a0:=Tryz.isAgg0
 z0:=Tryz.sizeOf0
 v0:=Tryz.zeroValue0
 t2:=Tryz.underlying2
 a2:=Tryz.isAgg2
 z2:=Tryz.sizeOf2
 v2:=Tryz.zeroValue2
 t3:=Tryz.underlying3
 a3:=Tryz.isAgg3
 z3:=Tryz.sizeOf3
 v3:=Tryz.zeroValue3
 t4:=Tryz.underlying4
 a4:=Tryz.isAgg4
 z4:=Tryz.sizeOf4
 v4:=Tryz.zeroValue4
 t5:=Tryz.underlying5
 a5:=Tryz.isAgg5
 z5:=Tryz.sizeOf5
 v5:=Tryz.zeroValue5
 t9:=Tryz.underlying9
 a9:=Tryz.isAgg9
 z9:=Tryz.sizeOf9
 v9:=Tryz.zeroValue9
 t20:=Tryz.underlying20
 a20:=Tryz.isAgg20
 z20:=Tryz.sizeOf20
 v20:=Tryz.zeroValue20
 t37:=Tryz.underlying234
 a37:=Tryz.isAgg234
 z37:=Tryz.sizeOf234
 v37:=Tryz.zeroValue234
 t46:=Tryz.underlying204
 a46:=Tryz.isAgg204
 z46:=Tryz.sizeOf204
 v46:=Tryz.zeroValue204
 t51:=Tryz.underlying263
 a51:=Tryz.isAgg263
 z51:=Tryz.sizeOf263
 v51:=Tryz.zeroValue263
 t53:=Tryz.underlying265
 a53:=Tryz.isAgg265
 z53:=Tryz.sizeOf265
 v53:=Tryz.zeroValue265
 t171:=Tryz.underlying330
 a171:=Tryz.isAgg330
 z171:=Tryz.sizeOf330
 v171:=Tryz.zeroValue330
 t173:=Tryz.underlying332
 a173:=Tryz.isAgg332
 z173:=Tryz.sizeOf332
 v173:=Tryz.zeroValue332
 t212:=Tryz.underlying335
 a212:=Tryz.isAgg335
 z212:=Tryz.sizeOf335
 v212:=Tryz.zeroValue335
 t213:=Tryz.underlying336
 a213:=Tryz.isAgg336
 z213:=Tryz.sizeOf336
 t232:=Tryz.underlying337
 a232:=Tryz.isAgg337
 z232:=Tryz.sizeOf337
 v232:=Tryz.zeroValue337
 t233:=Tryz.underlying338
 a233:=Tryz.isAgg338
 z233:=Tryz.sizeOf338
 v233:=Tryz.zeroValue338
 g17:=by kernel_rfl
 g18:=by kernel_rfl
 g19:=by kernel_rfl
 i0:=by kernel_rfl
 i2:=by kernel_rfl
 i3:=by kernel_rfl
 i4:=by kernel_rfl
 i5:=by kernel_rfl
 i9:=by kernel_rfl
 i20:=by kernel_rfl
 i37:=by kernel_rfl
 i46:=by kernel_rfl
 i51:=by kernel_rfl
 i53:=by kernel_rfl
 i171:=by kernel_rfl
 i173:=by kernel_rfl
 i212:=by kernel_rfl
 i232:=by kernel_rfl
 i233:=by kernel_rfl
 m17:=by kernel_rfl
 m18:=by kernel_rfl
 m19:=by kernel_rfl}
open Go.RowKit Go.Sort Go.Lib in
theorem Tryz.strconv_Itoa (n:Int)(h0:-9223372036854775808≤n)(h1:n≤9223372036854775807)(w:World)(htab:Lib.TabIs Tryz.prog w "internal/strconv.uint64pow10" .u64 Lib.pow10Tab) :
  Calls Tryz.prog 246 #[.int .i64 n] w fun e w'=>e=.returned (.string ⟨(Lib.itoa n).toArray⟩)∧∃k os,w'=grow (w.drewN k) os:=Any.strconv_Itoa Tryz.laysM171 n h0 h1 w htab
def Tryz.sort89_ren:Go.Shelf.Ren:=⟨fun|6=>89|15=>153|14=>152|28=>213|29=>214|20=>205|21=>206|22=>207|23=>208|24=>209|25=>210|26=>211|27=>212|46=>258|47=>259|48=>260|49=>261|50=>262|57=>282|n=>n,fun|22=>77|24=>86|25=>150|3=>3|39=>204|0=>0|53=>263|55=>265|4=>4|46=>257|45=>256|50=>92|5=>5|9=>9|66=>297|70=>301|76=>314|77=>315|n=>n,fun|n=>n⟩
def Tryz.sort110_ren:Go.Shelf.Ren:=⟨fun|6=>110|15=>153|14=>160|28=>213|29=>214|20=>217|21=>218|22=>219|23=>220|24=>221|25=>222|26=>223|27=>224|46=>263|47=>259|48=>260|49=>264|50=>265|57=>283|n=>n,fun|22=>44|24=>46|25=>166|3=>3|39=>204|0=>0|53=>263|55=>265|4=>4|46=>257|45=>256|50=>92|5=>5|9=>9|66=>297|70=>301|76=>314|77=>315|n=>n,fun|n=>n⟩
theorem Tryz.sort110:Go.Proofs.SlLaysF0.n6 Tryz.prog Tryz.sort110_ren:={
 mixed:=by kernel_rfl
 f6:=⟨Tryz.f110.name,by decide,Tryz.func110.trans (congrArg some (by kernel_rfl))⟩
 f14:=⟨Tryz.f160.name,by decide,Tryz.func160.trans (congrArg some (by kernel_rfl))⟩
 f15:=Tryz.func153.trans (congrArg some (by kernel_rfl))
 f20:=⟨Tryz.f217.name,by decide,Tryz.func217.trans (congrArg some (by kernel_rfl))⟩
 f21:=⟨Tryz.f218.name,by decide,Tryz.func218.trans (congrArg some (by kernel_rfl))⟩
 f22:=⟨Tryz.f219.name,by decide,Tryz.func219.trans (congrArg some (by kernel_rfl))⟩
 f23:=⟨Tryz.f220.name,by decide,Tryz.func220.trans (congrArg some (by kernel_rfl))⟩
 f24:=⟨Tryz.f221.name,by decide,Tryz.func221.trans (congrArg some (by kernel_rfl))⟩
 f25:=⟨Tryz.f222.name,by decide,Tryz.func222.trans (congrArg some (by kernel_rfl))⟩
 f26:=⟨Tryz.f223.name,by decide,Tryz.func223.trans (congrArg some (by kernel_rfl))⟩
 f27:=⟨Tryz.f224.name,by decide,Tryz.func224.trans (congrArg some (by kernel_rfl))⟩
 f28:=Tryz.func213.trans (congrArg some (by kernel_rfl))
 f29:=Tryz.func214.trans (congrArg some (by kernel_rfl))
 f46:=⟨Tryz.f263.name,by decide,Tryz.func263.trans (congrArg some (by kernel_rfl))⟩
 f47:=Tryz.func259.trans (congrArg some (by kernel_rfl))
 f48:=Tryz.func260.trans (congrArg some (by kernel_rfl))
 f49:=⟨Tryz.f264.name,by decide,Tryz.func264.trans (congrArg some (by kernel_rfl))⟩
 f50:=⟨Tryz.f265.name,by decide,Tryz.func265.trans (congrArg some (by kernel_rfl))⟩
 f57:=⟨Tryz.f283.name,by decide,Tryz.func283.trans (congrArg some (by kernel_rfl))⟩
 t0:=Tryz.underlying0
 a0:=Tryz.isAgg0
 z0:=Tryz.sizeOf0
 v0:=Tryz.zeroValue0
 t3:=Tryz.underlying3
 a3:=Tryz.isAgg3
 z3:=Tryz.sizeOf3
 v3:=Tryz.zeroValue3
 t4:=Tryz.underlying4
 a4:=Tryz.isAgg4
 z4:=Tryz.sizeOf4
 v4:=Tryz.zeroValue4
 t5:=Tryz.underlying5
 a5:=Tryz.isAgg5
 z5:=Tryz.sizeOf5
 v5:=Tryz.zeroValue5
 t9:=Tryz.underlying9
 a9:=Tryz.isAgg9
 z9:=Tryz.sizeOf9
 v9:=Tryz.zeroValue9
 t22:=Tryz.underlying44
 a22:=Tryz.isAgg44
 z22:=Tryz.sizeOf44
 v22:=Tryz.zeroValue44
 t25:=Tryz.underlying166
 a25:=Tryz.isAgg166
 z25:=Tryz.sizeOf166
 v25:=Tryz.zeroValue166
 t39:=Tryz.underlying204
 a39:=Tryz.isAgg204
 z39:=Tryz.sizeOf204
 v39:=Tryz.zeroValue204
 t45:=Tryz.underlying256
 a45:=Tryz.isAgg256
 z45:=Tryz.sizeOf256
 v45:=Tryz.zeroValue256
 t46:=Tryz.underlying257
 a46:=Tryz.isAgg257
 z46:=Tryz.sizeOf257
 v46:=Tryz.zeroValue257
 t50:=Tryz.underlying92
 a50:=Tryz.isAgg92
 z50:=Tryz.sizeOf92
 v50:=Tryz.zeroValue92
 t53:=Tryz.underlying263
 a53:=Tryz.isAgg263
 z53:=Tryz.sizeOf263
 v53:=Tryz.zeroValue263
 t55:=Tryz.underlying265
 a55:=Tryz.isAgg265
 z55:=Tryz.sizeOf265
 v55:=Tryz.zeroValue265
 t66:=Tryz.underlying297
 a66:=Tryz.isAgg297
 z66:=Tryz.sizeOf297
 v66:=Tryz.zeroValue297
 t70:=Tryz.underlying301
 a70:=Tryz.isAgg301
 z70:=Tryz.sizeOf301
 v70:=Tryz.zeroValue301
 t76:=Tryz.underlying314
 a76:=Tryz.isAgg314
 z76:=Tryz.sizeOf314
 v76:=Tryz.zeroValue314
 t77:=Tryz.underlying315
 a77:=Tryz.isAgg315
 z77:=Tryz.sizeOf315
 v77:=Tryz.zeroValue315}
end Go.Proofs
