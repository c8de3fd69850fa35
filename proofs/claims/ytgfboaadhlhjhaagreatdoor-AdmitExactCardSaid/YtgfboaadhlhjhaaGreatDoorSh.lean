/-
  DERIVED: THE SHELF's CONTRACTS AT THIS DUMP, IN PLAIN WORDS (tools/lay-plain.mjs out of 'TryzShelf.lean', which tools/lay-shelf.mjs wrote): THE SAME DECLARATIONS UNDER THE SAME NAMES: 'import', 'namespace', 'open', 'def', 'theorem' AND NOTHING ELSE: no command of the shelf's: FOR A HAND-IN. Each laying: the table of numbers ('.._ren') and one theorem, a field a fact of the dump's own or the kernel's comparison; each contract: ONE APPLICATION.
-/
import Derived.Shelf.Strings.Builder1
import Derived.Shelf.Small.Wraps
import Derived.Shelf.Strings.BuilderF
import Derived.Shelf.Strings.BuilderK
import Derived.Shelf.Strconv.Itoa0
import Derived.Shelf.Strconv.Itoa1
import Derived.Shelf.LaysM
import Derived.Shelf.Strconv.Itoa2
import Derived.Shelf.Strconv.Itoa3
import Derived.Shelf.Strings.BuilderCap
import Derived.Ground.Names2Prog
import Derived.Shelf.Slices.SearchI
import Derived.Test.YtgfboaadhlhjhaaGreatDoorProg
namespace Go.Proofs
open Go.Shelf
def Tryz.laysM246_ren : Go.Shelf.Ren := ⟨fun | 246 => 188 | 283 => 202 | 284 => 203 | 285 => 204 | 286 => 205 | 129 => 210 | 317 => 209 | 318 => 211 | 319 => 212 | 320 => 213 | 337 => 215 | 338 => 216 | n => n, fun | 2 => 2 | 3 => 3 | 9 => 9 | 4 => 4 | 171 => 214 | 0 => 0 | 53 => 215 | 37 => 131 | 5 => 5 | 173 => 218 | 212 => 225 | 51 => 226 | 20 => 20 | 213 => 227 | 46 => 157 | 232 => 231 | 233 => 232 | n => n, fun | 17 => 0 | 18 => 1 | 19 => 2 | n => n⟩
def Tryz.laysM243_ren : Go.Shelf.Ren := ⟨fun | 243 => 171 | 246 => 188 | 283 => 202 | 284 => 203 | 285 => 204 | 286 => 205 | 129 => 210 | 317 => 209 | 318 => 211 | 319 => 212 | 320 => 213 | 337 => 215 | 338 => 216 | n => n, fun | 3 => 3 | 9 => 9 | 2 => 2 | 4 => 4 | 171 => 214 | 0 => 0 | 53 => 215 | 37 => 131 | 5 => 5 | 173 => 218 | 212 => 225 | 51 => 226 | 20 => 20 | 213 => 227 | 46 => 157 | 232 => 231 | 233 => 232 | n => n, fun | 17 => 0 | 18 => 1 | 19 => 2 | n => n⟩
def Tryz.laysM171_ren : Go.Shelf.Ren := ⟨fun | 171 => 136 | 243 => 171 | 246 => 188 | 283 => 202 | 284 => 203 | 285 => 204 | 286 => 205 | 129 => 210 | 317 => 209 | 318 => 211 | 319 => 212 | 320 => 213 | 337 => 215 | 338 => 216 | n => n, fun | 3 => 3 | 9 => 9 | 2 => 2 | 4 => 4 | 171 => 214 | 0 => 0 | 53 => 215 | 37 => 131 | 5 => 5 | 173 => 218 | 212 => 225 | 51 => 226 | 20 => 20 | 213 => 227 | 46 => 157 | 232 => 231 | 233 => 232 | n => n, fun | 17 => 0 | 18 => 1 | 19 => 2 | n => n⟩
theorem Tryz.laysM171 : Go.Proofs.LaysM.n171 Tryz.prog Tryz.laysM171_ren := {
  mixed := by kernel_rfl
  f129 := Tryz.func210.trans (congrArg some (by kernel_rfl))
  f171 := Tryz.func136.trans (congrArg some (by kernel_rfl))
  f243 := Tryz.func171.trans (congrArg some (by kernel_rfl))
  f246 := Tryz.func188.trans (congrArg some (by kernel_rfl))
  f283 := Tryz.func202.trans (congrArg some (by kernel_rfl))
  f284 := Tryz.func203.trans (congrArg some (by kernel_rfl))
  f285 := Tryz.func204.trans (congrArg some (by kernel_rfl))
  f286 := Tryz.func205.trans (congrArg some (by kernel_rfl))
  f317 := Tryz.func209.trans (congrArg some (by kernel_rfl))
  f318 := Tryz.func211.trans (congrArg some (by kernel_rfl))
  f319 := Tryz.func212.trans (congrArg some (by kernel_rfl))
  f320 := Tryz.func213.trans (congrArg some (by kernel_rfl))
  f337 := Tryz.func215.trans (congrArg some (by kernel_rfl))
  f338 := Tryz.func216.trans (congrArg some (by kernel_rfl))
  t0 := Tryz.underlying0
  a0 := Tryz.isAgg0
  z0 := Tryz.sizeOf0
  v0 := Tryz.zeroValue0
  t2 := Tryz.underlying2
  a2 := Tryz.isAgg2
  z2 := Tryz.sizeOf2
  v2 := Tryz.zeroValue2
  t3 := Tryz.underlying3
  a3 := Tryz.isAgg3
  z3 := Tryz.sizeOf3
  v3 := Tryz.zeroValue3
  t4 := Tryz.underlying4
  a4 := Tryz.isAgg4
  z4 := Tryz.sizeOf4
  v4 := Tryz.zeroValue4
  t5 := Tryz.underlying5
  a5 := Tryz.isAgg5
  z5 := Tryz.sizeOf5
  v5 := Tryz.zeroValue5
  t9 := Tryz.underlying9
  a9 := Tryz.isAgg9
  z9 := Tryz.sizeOf9
  v9 := Tryz.zeroValue9
  t20 := Tryz.underlying20
  a20 := Tryz.isAgg20
  z20 := Tryz.sizeOf20
  v20 := Tryz.zeroValue20
  t37 := Tryz.underlying131
  a37 := Tryz.isAgg131
  z37 := Tryz.sizeOf131
  v37 := Tryz.zeroValue131
  t46 := Tryz.underlying157
  a46 := Tryz.isAgg157
  z46 := Tryz.sizeOf157
  v46 := Tryz.zeroValue157
  t51 := Tryz.underlying226
  a51 := Tryz.isAgg226
  z51 := Tryz.sizeOf226
  v51 := Tryz.zeroValue226
  t53 := Tryz.underlying215
  a53 := Tryz.isAgg215
  z53 := Tryz.sizeOf215
  v53 := Tryz.zeroValue215
  t171 := Tryz.underlying214
  a171 := Tryz.isAgg214
  z171 := Tryz.sizeOf214
  v171 := Tryz.zeroValue214
  t173 := Tryz.underlying218
  a173 := Tryz.isAgg218
  z173 := Tryz.sizeOf218
  v173 := Tryz.zeroValue218
  t212 := Tryz.underlying225
  a212 := Tryz.isAgg225
  z212 := Tryz.sizeOf225
  v212 := Tryz.zeroValue225
  t213 := Tryz.underlying227
  a213 := Tryz.isAgg227
  z213 := Tryz.sizeOf227
  t232 := Tryz.underlying231
  a232 := Tryz.isAgg231
  z232 := Tryz.sizeOf231
  v232 := Tryz.zeroValue231
  t233 := Tryz.underlying232
  a233 := Tryz.isAgg232
  z233 := Tryz.sizeOf232
  v233 := Tryz.zeroValue232
  g17 := by kernel_rfl
  g18 := by kernel_rfl
  g19 := by kernel_rfl
  i0 := by kernel_rfl
  i2 := by kernel_rfl
  i3 := by kernel_rfl
  i4 := by kernel_rfl
  i5 := by kernel_rfl
  i9 := by kernel_rfl
  i20 := by kernel_rfl
  i37 := by kernel_rfl
  i46 := by kernel_rfl
  i51 := by kernel_rfl
  i53 := by kernel_rfl
  i171 := by kernel_rfl
  i173 := by kernel_rfl
  i212 := by kernel_rfl
  i232 := by kernel_rfl
  i233 := by kernel_rfl
  m17 := by kernel_rfl
  m18 := by kernel_rfl
  m19 := by kernel_rfl }
open Go.RowKit Go.Sort Go.Lib in
theorem Tryz.strconv_Itoa (n : Int) (h0 : -9223372036854775808 ≤ n) (h1 : n ≤ 9223372036854775807) (w : World) (htab : Lib.TabIs Tryz.prog w "internal/strconv.uint64pow10" .u64 Lib.pow10Tab) :
    Calls Tryz.prog 136 #[.int .i64 n] w fun e w' => e = .returned (.string ⟨(Lib.itoa n).toArray⟩) ∧ ∃ k os, w' = grow (w.drewN k) os := Any.strconv_Itoa Tryz.laysM171 n h0 h1 w htab
end Go.Proofs
