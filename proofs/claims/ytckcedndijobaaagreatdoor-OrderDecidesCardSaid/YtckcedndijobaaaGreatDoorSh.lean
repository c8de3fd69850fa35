/-
  DERIVED: THE SHELF's CONTRACTS AT THIS DUMP, IN PLAIN WORDS (tools/lay-plain.mjs out of 'TryzShelf.lean', which tools/lay-shelf.mjs wrote): THE SAME DECLARATIONS UNDER THE SAME NAMES: 'import', 'namespace', 'open', 'def', 'theorem' AND NOTHING ELSE: no command of the shelf's: FOR A HAND-IN. Each laying: the table of numbers ('.._ren') and one theorem, a field a fact of the dump's own or the kernel's comparison; each contract: ONE APPLICATION.
-/
import Derived.Shelf.SlSortCmp.NoneTotal
import Derived.Shelf.Strings.Builder1
import Derived.Shelf.Small.Bits
import Derived.Shelf.Small.Wraps
import Derived.Shelf.Strings.BuilderF
import Derived.Shelf.Strings.BuilderK
import Derived.Shelf.Strconv.Itoa0
import Derived.Shelf.Strconv.Itoa1
import Derived.Shelf.LaysM
import Derived.Shelf.Strconv.Itoa2
import Derived.Shelf.Strconv.Itoa3
import Derived.Shelf.Sort.Plain
import Derived.Shelf.Strings.BuilderCap
import Derived.Ground.Names2Prog
import Derived.Shelf.Slices.SearchI
import Derived.Shelf.Slices.In.SortNone
import Derived.Test.YtckcedndijobaaaGreatDoorProg
namespace Go.Proofs
open Go.Shelf
def Tryz.lays215_ren:Go.Shelf.Ren:=⟨fun|215=>116|n=>n,fun|3=>3|4=>4|n=>n,fun|n=>n⟩
def Tryz.lays122_ren:Go.Shelf.Ren:=⟨fun|122=>73|215=>116|n=>n,fun|3=>3|4=>4|n=>n,fun|n=>n⟩
theorem Tryz.lays122:Go.Proofs.Lays.n122 Tryz.prog Tryz.lays122_ren:={
 mixed:=by kernel_rfl
 f122:=Tryz.func73.trans (congrArg some (by kernel_rfl))
 f215:=Tryz.func116.trans (congrArg some (by kernel_rfl))
 t3:=Tryz.underlying3
 a3:=Tryz.isAgg3
 z3:=Tryz.sizeOf3
 v3:=Tryz.zeroValue3
 t4:=Tryz.underlying4
 a4:=Tryz.isAgg4
 z4:=Tryz.sizeOf4
 v4:=Tryz.zeroValue4}
open Go.RowKit in
theorem Tryz.cmp_Compare_int (x y:Int)(w:World) :
  Calls Tryz.prog 73 #[.int .i64 x,.int .i64 y] w fun e w'=>e=.returned (.int .i64 (Lib.compareInt x y))∧w'=w:=Any.cmp_Compare_int Tryz.lays122 x y w
def Tryz.laysM246_ren:Go.Shelf.Ren:=⟨fun|246=>303|283=>305|284=>306|285=>307|286=>308|129=>144|317=>309|318=>310|319=>311|320=>312|337=>313|338=>314|n=>n,fun|2=>2|3=>3|9=>9|4=>4|171=>331|0=>0|53=>179|37=>275|5=>5|173=>333|212=>336|51=>177|20=>20|213=>337|46=>124|232=>338|233=>339|n=>n,fun|17=>0|18=>1|19=>2|n=>n⟩
def Tryz.laysM243_ren:Go.Shelf.Ren:=⟨fun|243=>295|246=>303|283=>305|284=>306|285=>307|286=>308|129=>144|317=>309|318=>310|319=>311|320=>312|337=>313|338=>314|n=>n,fun|3=>3|9=>9|2=>2|4=>4|171=>331|0=>0|53=>179|37=>275|5=>5|173=>333|212=>336|51=>177|20=>20|213=>337|46=>124|232=>338|233=>339|n=>n,fun|17=>0|18=>1|19=>2|n=>n⟩
def Tryz.laysM171_ren:Go.Shelf.Ren:=⟨fun|171=>273|243=>295|246=>303|283=>305|284=>306|285=>307|286=>308|129=>144|317=>309|318=>310|319=>311|320=>312|337=>313|338=>314|n=>n,fun|3=>3|9=>9|2=>2|4=>4|171=>331|0=>0|53=>179|37=>275|5=>5|173=>333|212=>336|51=>177|20=>20|213=>337|46=>124|232=>338|233=>339|n=>n,fun|17=>0|18=>1|19=>2|n=>n⟩
theorem Tryz.laysM171:Go.Proofs.LaysM.n171 Tryz.prog Tryz.laysM171_ren:={
 mixed:=by kernel_rfl
 f129:=Tryz.func144.trans (congrArg some (by kernel_rfl))
 f171:=Tryz.func273.trans (congrArg some (by kernel_rfl))
 f243:=Tryz.func295.trans (congrArg some (by kernel_rfl))
 f246:=Tryz.func303.trans (congrArg some (by kernel_rfl))
 f283:=Tryz.func305.trans (congrArg some (by kernel_rfl))
 f284:=Tryz.func306.trans (congrArg some (by kernel_rfl))
 f285:=Tryz.func307.trans (congrArg some (by kernel_rfl))
 f286:=Tryz.func308.trans (congrArg some (by kernel_rfl))
 f317:=Tryz.func309.trans (congrArg some (by kernel_rfl))
 f318:=Tryz.func310.trans (congrArg some (by kernel_rfl))
 f319:=Tryz.func311.trans (congrArg some (by kernel_rfl))
 f320:=Tryz.func312.trans (congrArg some (by kernel_rfl))
 f337:=Tryz.func313.trans (congrArg some (by kernel_rfl))
 f338:=Tryz.func314.trans (congrArg some (by kernel_rfl))
 t0:=Tryz.underlying0
 a0:=Tryz.isAgg0
 z0:=Tryz.sizeOf0
 v0:=Tryz.zeroValue0
 t2:=Tryz.underlying2
 a2:=Tryz.isAgg2
 z2:=Tryz.sizeOf2
 v2:=Tryz.zeroValue2
 t3:=Tryz.underlying3
 a3:=Tryz.isAgg3
 z3:=Tryz.sizeOf3
 v3:=Tryz.zeroValue3
 t4:=Tryz.underlying4
 a4:=Tryz.isAgg4
 z4:=Tryz.sizeOf4
 v4:=Tryz.zeroValue4
 t5:=Tryz.underlying5
 a5:=Tryz.isAgg5
 z5:=Tryz.sizeOf5
 v5:=Tryz.zeroValue5
 t9:=Tryz.underlying9
 a9:=Tryz.isAgg9
 z9:=Tryz.sizeOf9
 v9:=Tryz.zeroValue9
 t20:=Tryz.underlying20
 a20:=Tryz.isAgg20
 z20:=Tryz.sizeOf20
 v20:=Tryz.zeroValue20
 t37:=Tryz.underlying275
 a37:=Tryz.isAgg275
 z37:=Tryz.sizeOf275
 v37:=Tryz.zeroValue275
 t46:=Tryz.underlying124
 a46:=Tryz.isAgg124
 z46:=Tryz.sizeOf124
 v46:=Tryz.zeroValue124
 t51:=Tryz.underlying177
 a51:=Tryz.isAgg177
 z51:=Tryz.sizeOf177
 v51:=Tryz.zeroValue177
 t53:=Tryz.underlying179
 a53:=Tryz.isAgg179
 z53:=Tryz.sizeOf179
 v53:=Tryz.zeroValue179
 t171:=Tryz.underlying331
 a171:=Tryz.isAgg331
 z171:=Tryz.sizeOf331
 v171:=Tryz.zeroValue331
 t173:=Tryz.underlying333
 a173:=Tryz.isAgg333
 z173:=Tryz.sizeOf333
 v173:=Tryz.zeroValue333
 t212:=Tryz.underlying336
 a212:=Tryz.isAgg336
 z212:=Tryz.sizeOf336
 v212:=Tryz.zeroValue336
 t213:=Tryz.underlying337
 a213:=Tryz.isAgg337
 z213:=Tryz.sizeOf337
 t232:=Tryz.underlying338
 a232:=Tryz.isAgg338
 z232:=Tryz.sizeOf338
 v232:=Tryz.zeroValue338
 t233:=Tryz.underlying339
 a233:=Tryz.isAgg339
 z233:=Tryz.sizeOf339
 v233:=Tryz.zeroValue339
 g17:=by kernel_rfl
 g18:=by kernel_rfl
 g19:=by kernel_rfl
 i0:=by kernel_rfl
 i2:=by kernel_rfl
 i3:=by kernel_rfl
 i4:=by kernel_rfl
 i5:=by kernel_rfl
 i9:=by kernel_rfl
 i20:=by kernel_rfl
 i37:=by kernel_rfl
 i46:=by kernel_rfl
 i51:=by kernel_rfl
 i53:=by kernel_rfl
 i171:=by kernel_rfl
 i173:=by kernel_rfl
 i212:=by kernel_rfl
 i232:=by kernel_rfl
 i233:=by kernel_rfl
 m17:=by kernel_rfl
 m18:=by kernel_rfl
 m19:=by kernel_rfl}
open Go.RowKit Go.Sort Go.Lib in
theorem Tryz.strconv_Itoa (n:Int)(h0:-9223372036854775808≤n)(h1:n≤9223372036854775807)(w:World)(htab:Lib.TabIs Tryz.prog w "internal/strconv.uint64pow10" .u64 Lib.pow10Tab) :
  Calls Tryz.prog 273 #[.int .i64 n] w fun e w'=>e=.returned (.string ⟨(Lib.itoa n).toArray⟩)∧∃k os,w'=grow (w.drewN k) os:=Any.strconv_Itoa Tryz.laysM171 n h0 h1 w htab
def Tryz.lays189_ren:Go.Shelf.Ren:=⟨fun|189=>47|125=>88|257=>87|128=>143|129=>144|294=>134|295=>135|296=>136|297=>137|298=>138|299=>139|216=>140|300=>141|301=>142|328=>193|329=>194|330=>195|331=>196|332=>197|215=>116|343=>234|n=>n,fun|28=>34|3=>3|46=>124|0=>0|51=>177|53=>179|4=>4|183=>170|182=>169|131=>107|5=>5|9=>9|218=>225|222=>229|228=>266|229=>267|n=>n,fun|n=>n⟩
theorem Tryz.lays189:Go.Proofs.Lays.n189 Tryz.prog Tryz.lays189_ren:={
 mixed:=by kernel_rfl
 f125:=Tryz.func88.trans (congrArg some (by kernel_rfl))
 f128:=Tryz.func143.trans (congrArg some (by kernel_rfl))
 f129:=Tryz.func144.trans (congrArg some (by kernel_rfl))
 f189:=Tryz.func47.trans (congrArg some (by kernel_rfl))
 f215:=Tryz.func116.trans (congrArg some (by kernel_rfl))
 f216:=Tryz.func140.trans (congrArg some (by kernel_rfl))
 f257:=Tryz.func87.trans (congrArg some (by kernel_rfl))
 f294:=Tryz.func134.trans (congrArg some (by kernel_rfl))
 f295:=Tryz.func135.trans (congrArg some (by kernel_rfl))
 f296:=Tryz.func136.trans (congrArg some (by kernel_rfl))
 f297:=Tryz.func137.trans (congrArg some (by kernel_rfl))
 f298:=Tryz.func138.trans (congrArg some (by kernel_rfl))
 f299:=Tryz.func139.trans (congrArg some (by kernel_rfl))
 f300:=Tryz.func141.trans (congrArg some (by kernel_rfl))
 f301:=Tryz.func142.trans (congrArg some (by kernel_rfl))
 f328:=Tryz.func193.trans (congrArg some (by kernel_rfl))
 f329:=Tryz.func194.trans (congrArg some (by kernel_rfl))
 f330:=Tryz.func195.trans (congrArg some (by kernel_rfl))
 f331:=Tryz.func196.trans (congrArg some (by kernel_rfl))
 f332:=Tryz.func197.trans (congrArg some (by kernel_rfl))
 f343:=Tryz.func234.trans (congrArg some (by kernel_rfl))
 t0:=Tryz.underlying0
 a0:=Tryz.isAgg0
 z0:=Tryz.sizeOf0
 v0:=Tryz.zeroValue0
 t3:=Tryz.underlying3
 a3:=Tryz.isAgg3
 z3:=Tryz.sizeOf3
 v3:=Tryz.zeroValue3
 t4:=Tryz.underlying4
 a4:=Tryz.isAgg4
 z4:=Tryz.sizeOf4
 v4:=Tryz.zeroValue4
 t5:=Tryz.underlying5
 a5:=Tryz.isAgg5
 z5:=Tryz.sizeOf5
 v5:=Tryz.zeroValue5
 t9:=Tryz.underlying9
 a9:=Tryz.isAgg9
 z9:=Tryz.sizeOf9
 v9:=Tryz.zeroValue9
 t28:=Tryz.underlying34
 a28:=Tryz.isAgg34
 z28:=Tryz.sizeOf34
 v28:=Tryz.zeroValue34
 t46:=Tryz.underlying124
 a46:=Tryz.isAgg124
 z46:=Tryz.sizeOf124
 v46:=Tryz.zeroValue124
 t51:=Tryz.underlying177
 a51:=Tryz.isAgg177
 z51:=Tryz.sizeOf177
 v51:=Tryz.zeroValue177
 t53:=Tryz.underlying179
 a53:=Tryz.isAgg179
 z53:=Tryz.sizeOf179
 v53:=Tryz.zeroValue179
 t131:=Tryz.underlying107
 a131:=Tryz.isAgg107
 z131:=Tryz.sizeOf107
 v131:=Tryz.zeroValue107
 t182:=Tryz.underlying169
 a182:=Tryz.isAgg169
 z182:=Tryz.sizeOf169
 v182:=Tryz.zeroValue169
 t183:=Tryz.underlying170
 a183:=Tryz.isAgg170
 z183:=Tryz.sizeOf170
 v183:=Tryz.zeroValue170
 t218:=Tryz.underlying225
 a218:=Tryz.isAgg225
 z218:=Tryz.sizeOf225
 v218:=Tryz.zeroValue225
 t222:=Tryz.underlying229
 a222:=Tryz.isAgg229
 z222:=Tryz.sizeOf229
 v222:=Tryz.zeroValue229
 t228:=Tryz.underlying266
 a228:=Tryz.isAgg266
 z228:=Tryz.sizeOf266
 v228:=Tryz.zeroValue266
 t229:=Tryz.underlying267
 a229:=Tryz.isAgg267
 z229:=Tryz.sizeOf267
 v229:=Tryz.zeroValue267}
open Go.Sort Go.RowKit in
theorem Tryz.slices_Sort_int (blk off cap:Nat)(zs:List Int)(w:World)(hH:Holds (Value.int .i64) w blk off zs.toArray)(hblk:blk < w.heap.size)(hsz:zs.length < 4611686018427387904) :
  Calls Tryz.prog 47 #[.slice (some ⟨blk,off,none⟩) zs.length cap] w fun e w'=>
   e=.returned (.tuple #[])∧∃n os,w'=grow (putRow (Value.int .i64) (Sort.ahead w n) blk off (zs.mergeSort fun x y=>decide (x≤y)).toArray) os:=Any.slices_Sort_int Tryz.lays189 blk off cap zs w hH hblk hsz
def Tryz.sort71_ren:Go.Shelf.Ren:=⟨fun|6=>71|15=>88|14=>115|28=>143|29=>144|20=>174|21=>175|22=>176|23=>177|24=>178|25=>179|26=>180|27=>181|46=>220|47=>194|48=>195|49=>221|50=>222|57=>263|n=>n,fun|22=>72|24=>78|25=>113|3=>3|39=>124|0=>0|53=>177|55=>179|4=>4|46=>170|45=>169|50=>107|5=>5|9=>9|66=>225|70=>229|76=>266|77=>267|n=>n,fun|n=>n⟩
theorem Tryz.sort71:Go.Proofs.SlLaysF0.n6 Tryz.prog Tryz.sort71_ren:={
 mixed:=by kernel_rfl
 f6:=⟨Tryz.f71.name,by decide,Tryz.func71.trans (congrArg some (by kernel_rfl))⟩
 f14:=⟨Tryz.f115.name,by decide,Tryz.func115.trans (congrArg some (by kernel_rfl))⟩
 f15:=Tryz.func88.trans (congrArg some (by kernel_rfl))
 f20:=⟨Tryz.f174.name,by decide,Tryz.func174.trans (congrArg some (by kernel_rfl))⟩
 f21:=⟨Tryz.f175.name,by decide,Tryz.func175.trans (congrArg some (by kernel_rfl))⟩
 f22:=⟨Tryz.f176.name,by decide,Tryz.func176.trans (congrArg some (by kernel_rfl))⟩
 f23:=⟨Tryz.f177.name,by decide,Tryz.func177.trans (congrArg some (by kernel_rfl))⟩
 f24:=⟨Tryz.f178.name,by decide,Tryz.func178.trans (congrArg some (by kernel_rfl))⟩
 f25:=⟨Tryz.f179.name,by decide,Tryz.func179.trans (congrArg some (by kernel_rfl))⟩
 f26:=⟨Tryz.f180.name,by decide,Tryz.func180.trans (congrArg some (by kernel_rfl))⟩
 f27:=⟨Tryz.f181.name,by decide,Tryz.func181.trans (congrArg some (by kernel_rfl))⟩
 f28:=Tryz.func143.trans (congrArg some (by kernel_rfl))
 f29:=Tryz.func144.trans (congrArg some (by kernel_rfl))
 f46:=⟨Tryz.f220.name,by decide,Tryz.func220.trans (congrArg some (by kernel_rfl))⟩
 f47:=Tryz.func194.trans (congrArg some (by kernel_rfl))
 f48:=Tryz.func195.trans (congrArg some (by kernel_rfl))
 f49:=⟨Tryz.f221.name,by decide,Tryz.func221.trans (congrArg some (by kernel_rfl))⟩
 f50:=⟨Tryz.f222.name,by decide,Tryz.func222.trans (congrArg some (by kernel_rfl))⟩
 f57:=⟨Tryz.f263.name,by decide,Tryz.func263.trans (congrArg some (by kernel_rfl))⟩
 t0:=Tryz.underlying0
 a0:=Tryz.isAgg0
 z0:=Tryz.sizeOf0
 v0:=Tryz.zeroValue0
 t3:=Tryz.underlying3
 a3:=Tryz.isAgg3
 z3:=Tryz.sizeOf3
 v3:=Tryz.zeroValue3
 t4:=Tryz.underlying4
 a4:=Tryz.isAgg4
 z4:=Tryz.sizeOf4
 v4:=Tryz.zeroValue4
 t5:=Tryz.underlying5
 a5:=Tryz.isAgg5
 z5:=Tryz.sizeOf5
 v5:=Tryz.zeroValue5
 t9:=Tryz.underlying9
 a9:=Tryz.isAgg9
 z9:=Tryz.sizeOf9
 v9:=Tryz.zeroValue9
 t22:=Tryz.underlying72
 a22:=Tryz.isAgg72
 z22:=Tryz.sizeOf72
 v22:=Tryz.zeroValue72
 t25:=Tryz.underlying113
 a25:=Tryz.isAgg113
 z25:=Tryz.sizeOf113
 v25:=Tryz.zeroValue113
 t39:=Tryz.underlying124
 a39:=Tryz.isAgg124
 z39:=Tryz.sizeOf124
 v39:=Tryz.zeroValue124
 t45:=Tryz.underlying169
 a45:=Tryz.isAgg169
 z45:=Tryz.sizeOf169
 v45:=Tryz.zeroValue169
 t46:=Tryz.underlying170
 a46:=Tryz.isAgg170
 z46:=Tryz.sizeOf170
 v46:=Tryz.zeroValue170
 t50:=Tryz.underlying107
 a50:=Tryz.isAgg107
 z50:=Tryz.sizeOf107
 v50:=Tryz.zeroValue107
 t53:=Tryz.underlying177
 a53:=Tryz.isAgg177
 z53:=Tryz.sizeOf177
 v53:=Tryz.zeroValue177
 t55:=Tryz.underlying179
 a55:=Tryz.isAgg179
 z55:=Tryz.sizeOf179
 v55:=Tryz.zeroValue179
 t66:=Tryz.underlying225
 a66:=Tryz.isAgg225
 z66:=Tryz.sizeOf225
 v66:=Tryz.zeroValue225
 t70:=Tryz.underlying229
 a70:=Tryz.isAgg229
 z70:=Tryz.sizeOf229
 v70:=Tryz.zeroValue229
 t76:=Tryz.underlying266
 a76:=Tryz.isAgg266
 z76:=Tryz.sizeOf266
 v76:=Tryz.zeroValue266
 t77:=Tryz.underlying267
 a77:=Tryz.isAgg267
 z77:=Tryz.sizeOf267
 v77:=Tryz.zeroValue267}
end Go.Proofs
