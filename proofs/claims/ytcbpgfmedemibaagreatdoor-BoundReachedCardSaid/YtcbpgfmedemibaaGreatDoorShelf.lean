/-
  DERIVED: THE SHELF's CONTRACTS AT THIS DUMP, IN PLAIN WORDS (tools/lay-plain.mjs out of 'TryzShelf.lean', which tools/lay-shelf.mjs wrote): THE SAME DECLARATIONS UNDER THE SAME NAMES: 'import', 'namespace', 'open', 'def', 'theorem' AND NOTHING ELSE: no command of the shelf's: FOR A HAND-IN. Each laying: the table of numbers ('.._ren') and one theorem, a field a fact of the dump's own or the kernel's comparison; each contract: ONE APPLICATION.
-/
import Derived.Shelf.SlSortCmp.NoneTotal
import Derived.Shelf.Strings.Builder1
import Derived.Shelf.Small.Bits
import Derived.Shelf.Small.Wraps
import Derived.Shelf.Strings.BuilderF
import Derived.Shelf.Strings.BuilderK
import Derived.Shelf.Strconv.Itoa0
import Derived.Shelf.Strconv.Itoa1
import Derived.Shelf.LaysM
import Derived.Shelf.Strconv.Itoa2
import Derived.Shelf.Strconv.Itoa3
import Derived.Shelf.Bits.Mul64
import Derived.Shelf.Strings.BuilderCap
import Derived.Ground.Names2Prog
import Derived.Shelf.Slices.SearchI
import Derived.Test.YtcbpgfmedemibaaGreatDoorProg
namespace Go.Proofs
open Go.Shelf
def Tryz.lays169_ren : Go.Shelf.Ren := ⟨fun | 169 => 116 | n => n, fun | 70 => 183 | 9 => 9 | 0 => 0 | 72 => 186 | 37 => 184 | 127 => 247 | 3 => 3 | 5 => 5 | n => n, fun | n => n⟩
theorem Tryz.lays169 : Go.Proofs.Lays.n169 Tryz.prog Tryz.lays169_ren := {
  mixed := by kernel_rfl
  f169 := Tryz.func116.trans (congrArg some (by kernel_rfl))
  t0 := Tryz.underlying0
  a0 := Tryz.isAgg0
  z0 := Tryz.sizeOf0
  v0 := Tryz.zeroValue0
  t3 := Tryz.underlying3
  a3 := Tryz.isAgg3
  z3 := Tryz.sizeOf3
  v3 := Tryz.zeroValue3
  t9 := Tryz.underlying9
  a9 := Tryz.isAgg9
  z9 := Tryz.sizeOf9
  v9 := Tryz.zeroValue9
  t37 := Tryz.underlying184
  a37 := Tryz.isAgg184
  z37 := Tryz.sizeOf184
  v37 := Tryz.zeroValue184
  t70 := Tryz.underlying183
  a70 := Tryz.isAgg183
  z70 := Tryz.sizeOf183
  v70 := Tryz.zeroValue183
  t72 := Tryz.underlying186
  a72 := Tryz.isAgg186
  z72 := Tryz.sizeOf186
  v72 := Tryz.zeroValue186
  t127 := Tryz.underlying247
  a127 := Tryz.isAgg247
  z127 := Tryz.sizeOf247
  v127 := Tryz.zeroValue247 }
theorem Tryz.Builder_Extra_169 : Builder.Extra Tryz.prog Tryz.lays169_ren := {
  sizeBuilder := by kernel_rfl
  liesBuilder := by kernel_rfl
  t5 := Tryz.underlying5
  a5 := Tryz.isAgg5
  z5 := Tryz.sizeOf5
  v5 := Tryz.zeroValue5
  infoByte := by kernel_rfl
  cellsByte := by kernel_rfl
  sizeByte := by kernel_rfl
  neB5 := by decide }
open Go.RowKit in
/-- (*strings.Builder).String: "String returns the accumulated string.": OF A BUILDER THAT HOLDS AT LEAST ONE BYTE. ✋ THE MODEL FREEZES THOSE BYTES IN THE BUFFER (unsafe.String): a later write INTO them ends the model's run without an answer; a later append BEHIND them goes on. The statement's order of evaluation is drawn: one draw. (LAID: no walk: one application.) -/
theorem Tryz.Builder_String (B b : Nat) (l : List UInt8) (w : World) (h : Lib.IsBuilder 186 5 B b (Lib.byteCells l) w) (h0 : l ≠ []) :
    Calls Tryz.prog 116 #[.pointer (some ⟨b, 0, none⟩)] w fun e w' => e = .returned (.string ⟨l.toArray⟩) ∧ Below B w w' := Any.Builder_String Tryz.lays169 Tryz.Builder_Extra_169 B b l w h h0
open Go.RowKit in
/-- (*strings.Builder).String OF A BUILDER THAT HOLDS NO BYTE: the empty string. (Its buffer is nil, or a row of which it has taken nothing yet; where that row has NO capacity the model lays one new block for unsafe.SliceData's 'some address'.) One draw. (LAID: no walk: one application.) -/
theorem Tryz.Builder_String_empty (B b : Nat) (w : World) (h : Lib.IsBuilder 186 5 B b [] w) (hBw : B ≤ w.heap.size) :
    Calls Tryz.prog 116 #[.pointer (some ⟨b, 0, none⟩)] w fun e w' => e = .returned (.string ⟨#[]⟩) ∧ Below B w w' := Any.Builder_String_empty Tryz.lays169 Tryz.Builder_Extra_169 B b w h hBw
open Go.RowKit in
/-- (*strings.Builder).String: "String returns the accumulated string.": WHATEVER THE BUILDER HOLDS. (LAID: no walk: one application.) -/
theorem Tryz.Builder_String_any (B b : Nat) (l : List UInt8) (w : World) (h : Lib.IsBuilder 186 5 B b (Lib.byteCells l) w) (hBw : B ≤ w.heap.size) :
    Calls Tryz.prog 116 #[.pointer (some ⟨b, 0, none⟩)] w fun e w' => e = .returned (.string ⟨l.toArray⟩) ∧ Below B w w' := Any.Builder_String_any Tryz.lays169 Tryz.Builder_Extra_169 B b l w h hBw
def Tryz.lays128_ren : Go.Shelf.Ren := ⟨fun | 128 => 161 | n => n, fun | 51 => 216 | 3 => 3 | 4 => 4 | 46 => 163 | 5 => 5 | 9 => 9 | n => n, fun | n => n⟩
theorem Tryz.lays128 : Go.Proofs.Lays.n128 Tryz.prog Tryz.lays128_ren := {
  mixed := by kernel_rfl
  f128 := Tryz.func161.trans (congrArg some (by kernel_rfl))
  t3 := Tryz.underlying3
  a3 := Tryz.isAgg3
  z3 := Tryz.sizeOf3
  v3 := Tryz.zeroValue3
  t4 := Tryz.underlying4
  a4 := Tryz.isAgg4
  z4 := Tryz.sizeOf4
  v4 := Tryz.zeroValue4
  t5 := Tryz.underlying5
  a5 := Tryz.isAgg5
  z5 := Tryz.sizeOf5
  v5 := Tryz.zeroValue5
  t9 := Tryz.underlying9
  a9 := Tryz.isAgg9
  z9 := Tryz.sizeOf9
  v9 := Tryz.zeroValue9
  t46 := Tryz.underlying163
  a46 := Tryz.isAgg163
  z46 := Tryz.sizeOf163
  v46 := Tryz.zeroValue163
  t51 := Tryz.underlying216
  a51 := Tryz.isAgg216
  z51 := Tryz.sizeOf216
  v51 := Tryz.zeroValue216 }
/-- bits.Len32: "Len32 returns the minimum number of bits required to represent x; the result is 0 for x == 0.": IT RETURNS 'Lib.bitLen x'; the world is as it was. ('h0', 'h1': x is a uint32.) (LAID: no walk: one application.) -/
theorem Tryz.bits_Len32 (x : Int) (w : World) (h0 : 0 ≤ x) (h1 : x ≤ 4294967295) :
    Calls Tryz.prog 161 #[.int .u32 x] w fun e w' => e = .returned (.int .i64 (Lib.bitLen x.toNat)) ∧ w' = w := Any.bits_Len32 Tryz.lays128 x w h0 h1
def Tryz.lays125_ren : Go.Shelf.Ren := ⟨fun | 125 => 93 | 128 => 161 | 129 => 162 | n => n, fun | 46 => 163 | 3 => 3 | 51 => 216 | 53 => 219 | 4 => 4 | 5 => 5 | 9 => 9 | n => n, fun | n => n⟩
theorem Tryz.lays125 : Go.Proofs.Lays.n125 Tryz.prog Tryz.lays125_ren := {
  mixed := by kernel_rfl
  f125 := Tryz.func93.trans (congrArg some (by kernel_rfl))
  f128 := Tryz.func161.trans (congrArg some (by kernel_rfl))
  f129 := Tryz.func162.trans (congrArg some (by kernel_rfl))
  t3 := Tryz.underlying3
  a3 := Tryz.isAgg3
  z3 := Tryz.sizeOf3
  v3 := Tryz.zeroValue3
  t4 := Tryz.underlying4
  a4 := Tryz.isAgg4
  z4 := Tryz.sizeOf4
  v4 := Tryz.zeroValue4
  t5 := Tryz.underlying5
  a5 := Tryz.isAgg5
  z5 := Tryz.sizeOf5
  v5 := Tryz.zeroValue5
  t9 := Tryz.underlying9
  a9 := Tryz.isAgg9
  z9 := Tryz.sizeOf9
  v9 := Tryz.zeroValue9
  t46 := Tryz.underlying163
  a46 := Tryz.isAgg163
  z46 := Tryz.sizeOf163
  v46 := Tryz.zeroValue163
  t51 := Tryz.underlying216
  a51 := Tryz.isAgg216
  z51 := Tryz.sizeOf216
  v51 := Tryz.zeroValue216
  t53 := Tryz.underlying219
  a53 := Tryz.isAgg219
  z53 := Tryz.sizeOf219
  v53 := Tryz.zeroValue219 }
/-- bits.Len: "Len returns the minimum number of bits required to represent x; the result is 0 for x == 0.": IT RETURNS 'Lib.bitLen x'; the world is as it was. (A uint has 64 bits in the model.) ITS CALLEE bits.Len64 IS MET BY ITS OWN CONTRACT OFF THE SHELF (lay that first). (LAID: no walk: one application.) -/
theorem Tryz.bits_Len (x : Int) (w : World) (h0 : 0 ≤ x) (h1 : x ≤ 18446744073709551615) :
    Calls Tryz.prog 93 #[.int .u64 x] w fun e w' => e = .returned (.int .i64 (Lib.bitLen x.toNat)) ∧ w' = w := Any.bits_Len Tryz.lays125 x w h0 h1
def Tryz.lays215_ren : Go.Shelf.Ren := ⟨fun | 215 => 94 | n => n, fun | 3 => 3 | 4 => 4 | n => n, fun | n => n⟩
theorem Tryz.lays215 : Go.Proofs.Lays.n215 Tryz.prog Tryz.lays215_ren := {
  mixed := by kernel_rfl
  f215 := Tryz.func94.trans (congrArg some (by kernel_rfl))
  t3 := Tryz.underlying3
  a3 := Tryz.isAgg3
  z3 := Tryz.sizeOf3
  v3 := Tryz.zeroValue3
  t4 := Tryz.underlying4
  a4 := Tryz.isAgg4
  z4 := Tryz.sizeOf4
  v4 := Tryz.zeroValue4 }
open Go.RowKit in
/-- cmp.isNaN at int: 'x != x': false. (LAID: no walk: one application.) -/
theorem Tryz.cmp_isNaN_int (x : Int) (w : World) :
    Calls Tryz.prog 94 #[.int .i64 x] w fun e w' => e = .returned (.bool false) ∧ w' = w := Any.cmp_isNaN_int Tryz.lays215 x w
def Tryz.lays122_ren : Go.Shelf.Ren := ⟨fun | 122 => 43 | 215 => 94 | n => n, fun | 3 => 3 | 4 => 4 | n => n, fun | n => n⟩
theorem Tryz.lays122 : Go.Proofs.Lays.n122 Tryz.prog Tryz.lays122_ren := {
  mixed := by kernel_rfl
  f122 := Tryz.func43.trans (congrArg some (by kernel_rfl))
  f215 := Tryz.func94.trans (congrArg some (by kernel_rfl))
  t3 := Tryz.underlying3
  a3 := Tryz.isAgg3
  z3 := Tryz.sizeOf3
  v3 := Tryz.zeroValue3
  t4 := Tryz.underlying4
  a4 := Tryz.isAgg4
  z4 := Tryz.sizeOf4
  v4 := Tryz.zeroValue4 }
open Go.RowKit in
/-- cmp.Compare at int: "Compare returns -1 if x is less than y, 0 if x equals y, +1 if x is greater than y.": IT RETURNS 'Lib.compareInt x y'; the world is as it was. (LAID: no walk: one application.) -/
theorem Tryz.cmp_Compare_int (x y : Int) (w : World) :
    Calls Tryz.prog 43 #[.int .i64 x, .int .i64 y] w fun e w' => e = .returned (.int .i64 (Lib.compareInt x y)) ∧ w' = w := Any.cmp_Compare_int Tryz.lays122 x y w
open Go.RowKit in
/-- (*strings.Builder).String: "String returns the accumulated string.": OF A BUILDER THAT HOLDS AT LEAST ONE BYTE. ✋ THE MODEL FREEZES THOSE BYTES IN THE BUFFER (unsafe.String): a later write INTO them ends the model's run without an answer; a later append BEHIND them goes on. The statement's order of evaluation is drawn: one draw. THE FORM '_f': IT SAYS BESIDES THAT THE BUILDER IS A BUILDER STILL ('Lib.IsBuilderF', the same bytes): SO IT CAN BE WRITTEN ON: 'b.WriteString(b.String()[:k])'. (LAID: no walk: one application.) -/
theorem Tryz.Builder_String_f (B b : Nat) (l : List UInt8) (w : World) (h : Lib.IsBuilderF 186 5 B b (Lib.byteCells l) w) (h0 : l ≠ []) :
    Calls Tryz.prog 116 #[.pointer (some ⟨b, 0, none⟩)] w fun e w' => e = .returned (.string ⟨l.toArray⟩) ∧ (Lib.IsBuilderF 186 5 B b (Lib.byteCells l) w' ∧ Below B w w') := Any.Builder_String_f Tryz.lays169 Tryz.Builder_Extra_169 B b l w h h0
open Go.RowKit in
/-- (*strings.Builder).String OF A BUILDER THAT HOLDS NO BYTE: the empty string; THE FORM '_f': a builder still. (LAID: no walk: one application.) -/
theorem Tryz.Builder_String_empty_f (B b : Nat) (w : World) (h : Lib.IsBuilderF 186 5 B b [] w) (hBw : B ≤ w.heap.size) :
    Calls Tryz.prog 116 #[.pointer (some ⟨b, 0, none⟩)] w fun e w' => e = .returned (.string ⟨#[]⟩) ∧ (Lib.IsBuilderF 186 5 B b [] w' ∧ Below B w w') := Any.Builder_String_empty_f Tryz.lays169 Tryz.Builder_Extra_169 B b w h hBw
open Go.RowKit in
/-- (*strings.Builder).String: "String returns the accumulated string.": WHATEVER THE BUILDER HOLDS; THE FORM '_f': OF A BUILDER THAT MAY HAVE BEEN READ BEFORE; AND IT IS A BUILDER STILL, holding the same bytes: it can be written on. (LAID: no walk: one application.) -/
theorem Tryz.Builder_String_any_f (B b : Nat) (l : List UInt8) (w : World) (h : Lib.IsBuilderF 186 5 B b (Lib.byteCells l) w) (hBw : B ≤ w.heap.size) :
    Calls Tryz.prog 116 #[.pointer (some ⟨b, 0, none⟩)] w fun e w' => e = .returned (.string ⟨l.toArray⟩) ∧ (Lib.IsBuilderF 186 5 B b (Lib.byteCells l) w' ∧ Below B w w') := Any.Builder_String_any_f Tryz.lays169 Tryz.Builder_Extra_169 B b l w h hBw
open Go.RowKit in
/-- (*strings.Builder).String: "String returns the accumulated string.": OF A BUILDER THAT HOLDS AT LEAST ONE BYTE. ✋ THE MODEL FREEZES THOSE BYTES IN THE BUFFER (unsafe.String): a later write INTO them ends the model's run without an answer; a later append BEHIND them goes on. The statement's order of evaluation is drawn: one draw. THE FORM '_k': OVER 'Lib.IsBuilderF' (a builder that 'String()' may have read), AND WITH THE FRAME THAT REACHES ABOVE THE BUILDER: 'Lib.OthersKept': every block that is not b and is no row of uint8's stands as it stood: the iterator of a range among them. (LAID: no walk: one application.) -/
theorem Tryz.Builder_String_k (B b : Nat) (l : List UInt8) (w : World) (h : Lib.IsBuilderF 186 5 B b (Lib.byteCells l) w) (h0 : l ≠ []) :
    Calls Tryz.prog 116 #[.pointer (some ⟨b, 0, none⟩)] w fun e w' => e = .returned (.string ⟨l.toArray⟩) ∧ (Lib.IsBuilderF 186 5 B b (Lib.byteCells l) w' ∧ Below B w w' ∧ Lib.OthersKept 5 (some b) w w') := Any.Builder_String_k Tryz.lays169 Tryz.Builder_Extra_169 B b l w h h0
open Go.RowKit in
/-- (*strings.Builder).String OF A BUILDER THAT HOLDS NO BYTE: the empty string; THE FORM '_k': OVER 'Lib.IsBuilderF' (a builder that 'String()' may have read), AND WITH THE FRAME THAT REACHES ABOVE THE BUILDER: 'Lib.OthersKept': every block that is not b and is no row of uint8's stands as it stood: the iterator of a range among them. (LAID: no walk: one application.) -/
theorem Tryz.Builder_String_empty_k (B b : Nat) (w : World) (h : Lib.IsBuilderF 186 5 B b [] w) (hBw : B ≤ w.heap.size) :
    Calls Tryz.prog 116 #[.pointer (some ⟨b, 0, none⟩)] w fun e w' => e = .returned (.string ⟨#[]⟩) ∧ (Lib.IsBuilderF 186 5 B b [] w' ∧ Below B w w' ∧ Lib.OthersKept 5 (some b) w w') := Any.Builder_String_empty_k Tryz.lays169 Tryz.Builder_Extra_169 B b w h hBw
open Go.RowKit in
/-- (*strings.Builder).String: "String returns the accumulated string.": WHATEVER THE BUILDER HOLDS; THE FORM '_k': OVER 'Lib.IsBuilderF' (a builder that 'String()' may have read), AND WITH THE FRAME THAT REACHES ABOVE THE BUILDER: 'Lib.OthersKept': every block that is not b and is no row of uint8's stands as it stood: the iterator of a range among them. (LAID: no walk: one application.) -/
theorem Tryz.Builder_String_any_k (B b : Nat) (l : List UInt8) (w : World) (h : Lib.IsBuilderF 186 5 B b (Lib.byteCells l) w) (hBw : B ≤ w.heap.size) :
    Calls Tryz.prog 116 #[.pointer (some ⟨b, 0, none⟩)] w fun e w' => e = .returned (.string ⟨l.toArray⟩) ∧ (Lib.IsBuilderF 186 5 B b (Lib.byteCells l) w' ∧ Below B w w' ∧ Lib.OthersKept 5 (some b) w w') := Any.Builder_String_any_k Tryz.lays169 Tryz.Builder_Extra_169 B b l w h hBw
def Tryz.lays129_ren : Go.Shelf.Ren := ⟨fun | 129 => 162 | n => n, fun | 53 => 219 | 3 => 3 | 4 => 4 | 46 => 163 | 5 => 5 | 9 => 9 | n => n, fun | n => n⟩
theorem Tryz.lays129 : Go.Proofs.Lays.n129 Tryz.prog Tryz.lays129_ren := {
  mixed := by kernel_rfl
  f129 := Tryz.func162.trans (congrArg some (by kernel_rfl))
  t3 := Tryz.underlying3
  a3 := Tryz.isAgg3
  z3 := Tryz.sizeOf3
  v3 := Tryz.zeroValue3
  t4 := Tryz.underlying4
  a4 := Tryz.isAgg4
  z4 := Tryz.sizeOf4
  v4 := Tryz.zeroValue4
  t5 := Tryz.underlying5
  a5 := Tryz.isAgg5
  z5 := Tryz.sizeOf5
  v5 := Tryz.zeroValue5
  t9 := Tryz.underlying9
  a9 := Tryz.isAgg9
  z9 := Tryz.sizeOf9
  v9 := Tryz.zeroValue9
  t46 := Tryz.underlying163
  a46 := Tryz.isAgg163
  z46 := Tryz.sizeOf163
  v46 := Tryz.zeroValue163
  t53 := Tryz.underlying219
  a53 := Tryz.isAgg219
  z53 := Tryz.sizeOf219
  v53 := Tryz.zeroValue219 }
/-- bits.Len64: "Len64 returns the minimum number of bits required to represent x; the result is 0 for x == 0.": IT RETURNS 'Lib.bitLen x'; the world is as it was. ('h0', 'h1': x is a uint64.) (LAID: no walk: one application.) -/
theorem Tryz.bits_Len64 (x : Int) (w : World) (h0 : 0 ≤ x) (h1 : x ≤ 18446744073709551615) :
    Calls Tryz.prog 162 #[.int .u64 x] w fun e w' => e = .returned (.int .i64 (Lib.bitLen x.toNat)) ∧ w' = w := Any.bits_Len64 Tryz.lays129 x w h0 h1
def Tryz.lays317_ren : Go.Shelf.Ren := ⟨fun | 317 => 271 | n => n, fun | 3 => 3 | 46 => 163 | n => n, fun | n => n⟩
theorem Tryz.lays317 : Go.Proofs.Lays.n317 Tryz.prog Tryz.lays317_ren := {
  mixed := by kernel_rfl
  f317 := Tryz.func271.trans (congrArg some (by kernel_rfl))
  t3 := Tryz.underlying3
  a3 := Tryz.isAgg3
  z3 := Tryz.sizeOf3
  v3 := Tryz.zeroValue3
  t46 := Tryz.underlying163
  a46 := Tryz.isAgg163
  z46 := Tryz.sizeOf163
  v46 := Tryz.zeroValue163 }
open Go.Lib in
/-- internal/strconv.log10Pow2: "log10Pow2(x) returns ⌊log₁₀ 2**x⌋ = ⌊x * log₁₀ 2⌋.": '(x * 78913) >> 18', at an x up to 64 (a length in bits). The world is as it was. (LAID: no walk: one application.) -/
theorem Tryz.internal_strconv_log10Pow2 (x : Nat) (h : x ≤ 64) (w : World) :
    Calls Tryz.prog 271 #[.int .i64 x] w fun e w' => e = .returned (.int .i64 (Lib.l10 x)) ∧ w' = w := Any.internal_strconv_log10Pow2 Tryz.lays317 x h w
def Tryz.lays318_ren : Go.Shelf.Ren := ⟨fun | 318 => 272 | n => n, fun | 3 => 3 | 4 => 4 | n => n, fun | n => n⟩
theorem Tryz.lays318 : Go.Proofs.Lays.n318 Tryz.prog Tryz.lays318_ren := {
  mixed := by kernel_rfl
  f318 := Tryz.func272.trans (congrArg some (by kernel_rfl))
  t3 := Tryz.underlying3
  a3 := Tryz.isAgg3
  z3 := Tryz.sizeOf3
  v3 := Tryz.zeroValue3
  t4 := Tryz.underlying4
  a4 := Tryz.isAgg4
  z4 := Tryz.sizeOf4
  v4 := Tryz.zeroValue4 }
open Go.Lib in
/-- internal/strconv.bool2: "bool2 converts b to an integer: 1 for true, 0 for false." The world is as it was. (LAID: no walk: one application.) -/
theorem Tryz.internal_strconv_bool2_int (b : Bool) (w : World) :
    Calls Tryz.prog 272 #[.bool b] w fun e w' => e = .returned (.int .i64 (if b then 1 else 0)) ∧ w' = w := Any.internal_strconv_bool2_int Tryz.lays318 b w
def Tryz.lays283_ren : Go.Shelf.Ren := ⟨fun | 283 => 265 | n => n, fun | 3 => 3 | 9 => 9 | 4 => 4 | n => n, fun | n => n⟩
theorem Tryz.lays283 : Go.Proofs.Lays.n283 Tryz.prog Tryz.lays283_ren := {
  mixed := by kernel_rfl
  f283 := Tryz.func265.trans (congrArg some (by kernel_rfl))
  t3 := Tryz.underlying3
  a3 := Tryz.isAgg3
  z3 := Tryz.sizeOf3
  v3 := Tryz.zeroValue3
  t4 := Tryz.underlying4
  a4 := Tryz.isAgg4
  z4 := Tryz.sizeOf4
  v4 := Tryz.zeroValue4
  t9 := Tryz.underlying9
  a9 := Tryz.isAgg9
  z9 := Tryz.sizeOf9
  v9 := Tryz.zeroValue9 }
open Go.Lib in
/-- internal/strconv.small: "small returns the string for an i with 0 <= i < nSmalls.": i's decimal numeral. The world is as it was. (LAID: no walk: one application.) -/
theorem Tryz.internal_strconv_small (i : Nat) (h : i < 100) (w : World) :
    Calls Tryz.prog 265 #[.int .i64 i] w fun e w' => e = .returned (.string ⟨(Lib.decDigits i).toArray⟩) ∧ w' = w := Any.internal_strconv_small Tryz.lays283 i h w
def Tryz.laysM284_ren : Go.Shelf.Ren := ⟨fun | 284 => 266 | 129 => 162 | 317 => 271 | 318 => 272 | n => n, fun | 53 => 219 | 3 => 3 | 212 => 316 | 0 => 0 | 4 => 4 | 46 => 163 | 5 => 5 | 9 => 9 | n => n, fun | 17 => 0 | n => n⟩
theorem Tryz.laysM284 : Go.Proofs.LaysM.n284 Tryz.prog Tryz.laysM284_ren := {
  mixed := by kernel_rfl
  f129 := Tryz.func162.trans (congrArg some (by kernel_rfl))
  f284 := Tryz.func266.trans (congrArg some (by kernel_rfl))
  f317 := Tryz.func271.trans (congrArg some (by kernel_rfl))
  f318 := Tryz.func272.trans (congrArg some (by kernel_rfl))
  t0 := Tryz.underlying0
  a0 := Tryz.isAgg0
  z0 := Tryz.sizeOf0
  v0 := Tryz.zeroValue0
  t3 := Tryz.underlying3
  a3 := Tryz.isAgg3
  z3 := Tryz.sizeOf3
  v3 := Tryz.zeroValue3
  t4 := Tryz.underlying4
  a4 := Tryz.isAgg4
  z4 := Tryz.sizeOf4
  v4 := Tryz.zeroValue4
  t5 := Tryz.underlying5
  a5 := Tryz.isAgg5
  z5 := Tryz.sizeOf5
  v5 := Tryz.zeroValue5
  t9 := Tryz.underlying9
  a9 := Tryz.isAgg9
  z9 := Tryz.sizeOf9
  v9 := Tryz.zeroValue9
  t46 := Tryz.underlying163
  a46 := Tryz.isAgg163
  z46 := Tryz.sizeOf163
  v46 := Tryz.zeroValue163
  t53 := Tryz.underlying219
  a53 := Tryz.isAgg219
  z53 := Tryz.sizeOf219
  v53 := Tryz.zeroValue219
  t212 := Tryz.underlying316
  a212 := Tryz.isAgg316
  z212 := Tryz.sizeOf316
  v212 := Tryz.zeroValue316
  g17 := by kernel_rfl
  i0 := by kernel_rfl
  i3 := by kernel_rfl
  i4 := by kernel_rfl
  i5 := by kernel_rfl
  i9 := by kernel_rfl
  i46 := by kernel_rfl
  i53 := by kernel_rfl
  i212 := by kernel_rfl
  m17 := by kernel_rfl }
open Go.Lib in
/-- internal/strconv.numDigits, at a d that is not 0: THE NUMBER OF d's DECIMAL DIGITS. The world is as it was. (LAID: no walk: one application.) -/
theorem Tryz.internal_strconv_numDigits (u : Nat) (h1 : 1 ≤ u) (h2 : u < 18446744073709551616) (w : World) (htab : Lib.TabIs Tryz.prog w "internal/strconv.uint64pow10" .u64 Lib.pow10Tab) :
    Calls Tryz.prog 266 #[.int .u64 u] w fun e w' => e = .returned (.int .i64 (Lib.nDigits u)) ∧ w' = w := Any.internal_strconv_numDigits Tryz.laysM284 u h1 h2 w htab
def Tryz.lays285_ren : Go.Shelf.Ren := ⟨fun | 285 => 267 | n => n, fun | 37 => 184 | 53 => 219 | 3 => 3 | 4 => 4 | 51 => 216 | 9 => 9 | 5 => 5 | 0 => 0 | n => n, fun | n => n⟩
theorem Tryz.lays285 : Go.Proofs.Lays.n285 Tryz.prog Tryz.lays285_ren := {
  mixed := by kernel_rfl
  f285 := Tryz.func267.trans (congrArg some (by kernel_rfl))
  t0 := Tryz.underlying0
  a0 := Tryz.isAgg0
  z0 := Tryz.sizeOf0
  v0 := Tryz.zeroValue0
  t3 := Tryz.underlying3
  a3 := Tryz.isAgg3
  z3 := Tryz.sizeOf3
  v3 := Tryz.zeroValue3
  t4 := Tryz.underlying4
  a4 := Tryz.isAgg4
  z4 := Tryz.sizeOf4
  v4 := Tryz.zeroValue4
  t5 := Tryz.underlying5
  a5 := Tryz.isAgg5
  z5 := Tryz.sizeOf5
  v5 := Tryz.zeroValue5
  t9 := Tryz.underlying9
  a9 := Tryz.isAgg9
  z9 := Tryz.sizeOf9
  v9 := Tryz.zeroValue9
  t37 := Tryz.underlying184
  a37 := Tryz.isAgg184
  z37 := Tryz.sizeOf184
  v37 := Tryz.zeroValue184
  t51 := Tryz.underlying216
  a51 := Tryz.isAgg216
  z51 := Tryz.sizeOf216
  v51 := Tryz.zeroValue216
  t53 := Tryz.underlying219
  a53 := Tryz.isAgg219
  z53 := Tryz.sizeOf219
  v53 := Tryz.zeroValue219 }
open Go.RowKit Go.Sort Go.Lib in
/-- internal/strconv.formatBase10: "formatBase10 formats the decimal representation of u into a. The caller is responsible for ensuring that a is big enough to hold u. If a is too big, leading zeros will be filled in as needed.": THE ROW HOLDS u's DIGITS ('FmtInv .. 0 ..': every place t holds 'dg u (len - 1 - t)'); all else is as it was but for the count of draws. (LAID: no walk: one application.) -/
theorem Tryz.internal_strconv_formatBase10 (blk off cap : Nat) (u : Nat) (d : Array UInt8) (w : World) (hH : Holds (fun (b : UInt8) => Value.int .u8 (b.toNat : Int)) w blk off d) (hu : u < 10 ^ d.size) (hu64 : u < 18446744073709551616) (hsz : d.size < 4611686018427387904) :
    Calls Tryz.prog 267 #[.slice (some ⟨blk, off, none⟩) d.size cap, .int .u64 u] w fun e w' =>
      e = .returned (.tuple #[]) ∧ ∃ (n v' : Nat) (dk : Array UInt8), w' = (putRow (fun (b : UInt8) => Value.int .u8 (b.toNat : Int)) w blk off dk).drewN n ∧ FmtInv d.size u 0 v' dk := Any.internal_strconv_formatBase10 Tryz.lays285 blk off cap u d w hH hu hu64 hsz
def Tryz.laysM246_ren : Go.Shelf.Ren := ⟨fun | 246 => 254 | 283 => 265 | 284 => 266 | 285 => 267 | 286 => 268 | 129 => 162 | 317 => 271 | 318 => 272 | 319 => 273 | 320 => 274 | 337 => 275 | 338 => 276 | n => n, fun | 2 => 2 | 3 => 3 | 9 => 9 | 4 => 4 | 171 => 309 | 0 => 0 | 53 => 219 | 37 => 184 | 5 => 5 | 173 => 311 | 212 => 316 | 51 => 216 | 20 => 20 | 213 => 317 | 46 => 163 | 232 => 318 | 233 => 319 | n => n, fun | 17 => 0 | 18 => 1 | 19 => 2 | n => n⟩
theorem Tryz.laysM246 : Go.Proofs.LaysM.n246 Tryz.prog Tryz.laysM246_ren := {
  mixed := by kernel_rfl
  f129 := Tryz.func162.trans (congrArg some (by kernel_rfl))
  f246 := Tryz.func254.trans (congrArg some (by kernel_rfl))
  f283 := Tryz.func265.trans (congrArg some (by kernel_rfl))
  f284 := Tryz.func266.trans (congrArg some (by kernel_rfl))
  f285 := Tryz.func267.trans (congrArg some (by kernel_rfl))
  f286 := Tryz.func268.trans (congrArg some (by kernel_rfl))
  f317 := Tryz.func271.trans (congrArg some (by kernel_rfl))
  f318 := Tryz.func272.trans (congrArg some (by kernel_rfl))
  f319 := Tryz.func273.trans (congrArg some (by kernel_rfl))
  f320 := Tryz.func274.trans (congrArg some (by kernel_rfl))
  f337 := Tryz.func275.trans (congrArg some (by kernel_rfl))
  f338 := Tryz.func276.trans (congrArg some (by kernel_rfl))
  t0 := Tryz.underlying0
  a0 := Tryz.isAgg0
  z0 := Tryz.sizeOf0
  v0 := Tryz.zeroValue0
  t2 := Tryz.underlying2
  a2 := Tryz.isAgg2
  z2 := Tryz.sizeOf2
  v2 := Tryz.zeroValue2
  t3 := Tryz.underlying3
  a3 := Tryz.isAgg3
  z3 := Tryz.sizeOf3
  v3 := Tryz.zeroValue3
  t4 := Tryz.underlying4
  a4 := Tryz.isAgg4
  z4 := Tryz.sizeOf4
  v4 := Tryz.zeroValue4
  t5 := Tryz.underlying5
  a5 := Tryz.isAgg5
  z5 := Tryz.sizeOf5
  v5 := Tryz.zeroValue5
  t9 := Tryz.underlying9
  a9 := Tryz.isAgg9
  z9 := Tryz.sizeOf9
  v9 := Tryz.zeroValue9
  t20 := Tryz.underlying20
  a20 := Tryz.isAgg20
  z20 := Tryz.sizeOf20
  v20 := Tryz.zeroValue20
  t37 := Tryz.underlying184
  a37 := Tryz.isAgg184
  z37 := Tryz.sizeOf184
  v37 := Tryz.zeroValue184
  t46 := Tryz.underlying163
  a46 := Tryz.isAgg163
  z46 := Tryz.sizeOf163
  v46 := Tryz.zeroValue163
  t51 := Tryz.underlying216
  a51 := Tryz.isAgg216
  z51 := Tryz.sizeOf216
  v51 := Tryz.zeroValue216
  t53 := Tryz.underlying219
  a53 := Tryz.isAgg219
  z53 := Tryz.sizeOf219
  v53 := Tryz.zeroValue219
  t171 := Tryz.underlying309
  a171 := Tryz.isAgg309
  z171 := Tryz.sizeOf309
  v171 := Tryz.zeroValue309
  t173 := Tryz.underlying311
  a173 := Tryz.isAgg311
  z173 := Tryz.sizeOf311
  v173 := Tryz.zeroValue311
  t212 := Tryz.underlying316
  a212 := Tryz.isAgg316
  z212 := Tryz.sizeOf316
  v212 := Tryz.zeroValue316
  t213 := Tryz.underlying317
  a213 := Tryz.isAgg317
  z213 := Tryz.sizeOf317
  t232 := Tryz.underlying318
  a232 := Tryz.isAgg318
  z232 := Tryz.sizeOf318
  v232 := Tryz.zeroValue318
  t233 := Tryz.underlying319
  a233 := Tryz.isAgg319
  z233 := Tryz.sizeOf319
  v233 := Tryz.zeroValue319
  g17 := by kernel_rfl
  g18 := by kernel_rfl
  g19 := by kernel_rfl
  i0 := by kernel_rfl
  i2 := by kernel_rfl
  i3 := by kernel_rfl
  i4 := by kernel_rfl
  i5 := by kernel_rfl
  i9 := by kernel_rfl
  i20 := by kernel_rfl
  i37 := by kernel_rfl
  i46 := by kernel_rfl
  i51 := by kernel_rfl
  i53 := by kernel_rfl
  i171 := by kernel_rfl
  i173 := by kernel_rfl
  i212 := by kernel_rfl
  i232 := by kernel_rfl
  i233 := by kernel_rfl
  m17 := by kernel_rfl
  m18 := by kernel_rfl
  m19 := by kernel_rfl }
open Go.RowKit Go.Sort Go.Lib in
/-- internal/strconv.FormatInt: "FormatInt returns the string representation of i in the given base": AT BASE 10: i's decimal numeral, for every int64. The world behind the call: the world before it, new blocks behind the heap, draws. (LAID: no walk: one application.) -/
theorem Tryz.internal_strconv_FormatInt_10 (n : Int) (h0 : -9223372036854775808 ≤ n) (h1 : n ≤ 9223372036854775807) (w : World) (htab : Lib.TabIs Tryz.prog w "internal/strconv.uint64pow10" .u64 Lib.pow10Tab) :
    Calls Tryz.prog 254 #[.int .i64 n, .int .i64 10] w fun e w' => e = .returned (.string ⟨(Lib.itoa n).toArray⟩) ∧ ∃ k os, w' = grow (w.drewN k) os := Any.internal_strconv_FormatInt_10 Tryz.laysM246 n h0 h1 w htab
def Tryz.lays246_ren : Go.Shelf.Ren := ⟨fun | 246 => 254 | 283 => 265 | 284 => 266 | 285 => 267 | 286 => 268 | 129 => 162 | 317 => 271 | 318 => 272 | 319 => 273 | 320 => 274 | 337 => 275 | 338 => 276 | n => n, fun | 2 => 2 | 3 => 3 | 9 => 9 | 4 => 4 | 171 => 309 | 0 => 0 | 53 => 219 | 37 => 184 | 5 => 5 | 173 => 311 | 212 => 316 | 51 => 216 | 20 => 20 | 213 => 317 | 46 => 163 | 232 => 318 | 233 => 319 | n => n, fun | 17 => 0 | 18 => 1 | 19 => 2 | n => n⟩
theorem Tryz.lays246 : Go.Proofs.Lays.n246 Tryz.prog Tryz.lays246_ren := {
  mixed := by kernel_rfl
  f129 := Tryz.func162.trans (congrArg some (by kernel_rfl))
  f246 := Tryz.func254.trans (congrArg some (by kernel_rfl))
  f283 := Tryz.func265.trans (congrArg some (by kernel_rfl))
  f284 := Tryz.func266.trans (congrArg some (by kernel_rfl))
  f285 := Tryz.func267.trans (congrArg some (by kernel_rfl))
  f286 := Tryz.func268.trans (congrArg some (by kernel_rfl))
  f317 := Tryz.func271.trans (congrArg some (by kernel_rfl))
  f318 := Tryz.func272.trans (congrArg some (by kernel_rfl))
  f319 := Tryz.func273.trans (congrArg some (by kernel_rfl))
  f320 := Tryz.func274.trans (congrArg some (by kernel_rfl))
  f337 := Tryz.func275.trans (congrArg some (by kernel_rfl))
  f338 := Tryz.func276.trans (congrArg some (by kernel_rfl))
  t0 := Tryz.underlying0
  a0 := Tryz.isAgg0
  z0 := Tryz.sizeOf0
  v0 := Tryz.zeroValue0
  t2 := Tryz.underlying2
  a2 := Tryz.isAgg2
  z2 := Tryz.sizeOf2
  v2 := Tryz.zeroValue2
  t3 := Tryz.underlying3
  a3 := Tryz.isAgg3
  z3 := Tryz.sizeOf3
  v3 := Tryz.zeroValue3
  t4 := Tryz.underlying4
  a4 := Tryz.isAgg4
  z4 := Tryz.sizeOf4
  v4 := Tryz.zeroValue4
  t5 := Tryz.underlying5
  a5 := Tryz.isAgg5
  z5 := Tryz.sizeOf5
  v5 := Tryz.zeroValue5
  t9 := Tryz.underlying9
  a9 := Tryz.isAgg9
  z9 := Tryz.sizeOf9
  v9 := Tryz.zeroValue9
  t20 := Tryz.underlying20
  a20 := Tryz.isAgg20
  z20 := Tryz.sizeOf20
  v20 := Tryz.zeroValue20
  t37 := Tryz.underlying184
  a37 := Tryz.isAgg184
  z37 := Tryz.sizeOf184
  v37 := Tryz.zeroValue184
  t46 := Tryz.underlying163
  a46 := Tryz.isAgg163
  z46 := Tryz.sizeOf163
  v46 := Tryz.zeroValue163
  t51 := Tryz.underlying216
  a51 := Tryz.isAgg216
  z51 := Tryz.sizeOf216
  v51 := Tryz.zeroValue216
  t53 := Tryz.underlying219
  a53 := Tryz.isAgg219
  z53 := Tryz.sizeOf219
  v53 := Tryz.zeroValue219
  t171 := Tryz.underlying309
  a171 := Tryz.isAgg309
  z171 := Tryz.sizeOf309
  v171 := Tryz.zeroValue309
  t173 := Tryz.underlying311
  a173 := Tryz.isAgg311
  z173 := Tryz.sizeOf311
  v173 := Tryz.zeroValue311
  t212 := Tryz.underlying316
  a212 := Tryz.isAgg316
  z212 := Tryz.sizeOf316
  v212 := Tryz.zeroValue316
  t213 := Tryz.underlying317
  a213 := Tryz.isAgg317
  z213 := Tryz.sizeOf317
  t232 := Tryz.underlying318
  a232 := Tryz.isAgg318
  z232 := Tryz.sizeOf318
  v232 := Tryz.zeroValue318
  t233 := Tryz.underlying319
  a233 := Tryz.isAgg319
  z233 := Tryz.sizeOf319
  v233 := Tryz.zeroValue319
  g17 := by kernel_rfl
  g18 := by kernel_rfl
  g19 := by kernel_rfl }
open Go.RowKit Go.Sort Go.Lib in
/-- THE ROAD WITHOUT THE TABLE: 0 <= i < 100: two constants are read, nothing is laid: no premise on the world, and the world is as it was. (LAID: no walk: one application.) -/
theorem Tryz.internal_strconv_FormatInt_10_small (i : Nat) (hi : i < 100) (w : World) :
    Calls Tryz.prog 254 #[.int .i64 i, .int .i64 10] w fun e w' => e = .returned (.string ⟨(Lib.decDigits i).toArray⟩) ∧ w' = w := Any.internal_strconv_FormatInt_10_small Tryz.lays246 i hi w
def Tryz.laysM243_ren : Go.Shelf.Ren := ⟨fun | 243 => 228 | 246 => 254 | 283 => 265 | 284 => 266 | 285 => 267 | 286 => 268 | 129 => 162 | 317 => 271 | 318 => 272 | 319 => 273 | 320 => 274 | 337 => 275 | 338 => 276 | n => n, fun | 3 => 3 | 9 => 9 | 2 => 2 | 4 => 4 | 171 => 309 | 0 => 0 | 53 => 219 | 37 => 184 | 5 => 5 | 173 => 311 | 212 => 316 | 51 => 216 | 20 => 20 | 213 => 317 | 46 => 163 | 232 => 318 | 233 => 319 | n => n, fun | 17 => 0 | 18 => 1 | 19 => 2 | n => n⟩
theorem Tryz.laysM243 : Go.Proofs.LaysM.n243 Tryz.prog Tryz.laysM243_ren := {
  mixed := by kernel_rfl
  f129 := Tryz.func162.trans (congrArg some (by kernel_rfl))
  f243 := Tryz.func228.trans (congrArg some (by kernel_rfl))
  f246 := Tryz.func254.trans (congrArg some (by kernel_rfl))
  f283 := Tryz.func265.trans (congrArg some (by kernel_rfl))
  f284 := Tryz.func266.trans (congrArg some (by kernel_rfl))
  f285 := Tryz.func267.trans (congrArg some (by kernel_rfl))
  f286 := Tryz.func268.trans (congrArg some (by kernel_rfl))
  f317 := Tryz.func271.trans (congrArg some (by kernel_rfl))
  f318 := Tryz.func272.trans (congrArg some (by kernel_rfl))
  f319 := Tryz.func273.trans (congrArg some (by kernel_rfl))
  f320 := Tryz.func274.trans (congrArg some (by kernel_rfl))
  f337 := Tryz.func275.trans (congrArg some (by kernel_rfl))
  f338 := Tryz.func276.trans (congrArg some (by kernel_rfl))
  t0 := Tryz.underlying0
  a0 := Tryz.isAgg0
  z0 := Tryz.sizeOf0
  v0 := Tryz.zeroValue0
  t2 := Tryz.underlying2
  a2 := Tryz.isAgg2
  z2 := Tryz.sizeOf2
  v2 := Tryz.zeroValue2
  t3 := Tryz.underlying3
  a3 := Tryz.isAgg3
  z3 := Tryz.sizeOf3
  v3 := Tryz.zeroValue3
  t4 := Tryz.underlying4
  a4 := Tryz.isAgg4
  z4 := Tryz.sizeOf4
  v4 := Tryz.zeroValue4
  t5 := Tryz.underlying5
  a5 := Tryz.isAgg5
  z5 := Tryz.sizeOf5
  v5 := Tryz.zeroValue5
  t9 := Tryz.underlying9
  a9 := Tryz.isAgg9
  z9 := Tryz.sizeOf9
  v9 := Tryz.zeroValue9
  t20 := Tryz.underlying20
  a20 := Tryz.isAgg20
  z20 := Tryz.sizeOf20
  v20 := Tryz.zeroValue20
  t37 := Tryz.underlying184
  a37 := Tryz.isAgg184
  z37 := Tryz.sizeOf184
  v37 := Tryz.zeroValue184
  t46 := Tryz.underlying163
  a46 := Tryz.isAgg163
  z46 := Tryz.sizeOf163
  v46 := Tryz.zeroValue163
  t51 := Tryz.underlying216
  a51 := Tryz.isAgg216
  z51 := Tryz.sizeOf216
  v51 := Tryz.zeroValue216
  t53 := Tryz.underlying219
  a53 := Tryz.isAgg219
  z53 := Tryz.sizeOf219
  v53 := Tryz.zeroValue219
  t171 := Tryz.underlying309
  a171 := Tryz.isAgg309
  z171 := Tryz.sizeOf309
  v171 := Tryz.zeroValue309
  t173 := Tryz.underlying311
  a173 := Tryz.isAgg311
  z173 := Tryz.sizeOf311
  v173 := Tryz.zeroValue311
  t212 := Tryz.underlying316
  a212 := Tryz.isAgg316
  z212 := Tryz.sizeOf316
  v212 := Tryz.zeroValue316
  t213 := Tryz.underlying317
  a213 := Tryz.isAgg317
  z213 := Tryz.sizeOf317
  t232 := Tryz.underlying318
  a232 := Tryz.isAgg318
  z232 := Tryz.sizeOf318
  v232 := Tryz.zeroValue318
  t233 := Tryz.underlying319
  a233 := Tryz.isAgg319
  z233 := Tryz.sizeOf319
  v233 := Tryz.zeroValue319
  g17 := by kernel_rfl
  g18 := by kernel_rfl
  g19 := by kernel_rfl
  i0 := by kernel_rfl
  i2 := by kernel_rfl
  i3 := by kernel_rfl
  i4 := by kernel_rfl
  i5 := by kernel_rfl
  i9 := by kernel_rfl
  i20 := by kernel_rfl
  i37 := by kernel_rfl
  i46 := by kernel_rfl
  i51 := by kernel_rfl
  i53 := by kernel_rfl
  i171 := by kernel_rfl
  i173 := by kernel_rfl
  i212 := by kernel_rfl
  i232 := by kernel_rfl
  i233 := by kernel_rfl
  m17 := by kernel_rfl
  m18 := by kernel_rfl
  m19 := by kernel_rfl }
open Go.RowKit Go.Sort Go.Lib in
/-- internal/strconv.Itoa: "Itoa is equivalent to FormatInt(int64(i), 10).": i's decimal numeral, for every int. (LAID: no walk: one application.) -/
theorem Tryz.internal_strconv_Itoa (n : Int) (h0 : -9223372036854775808 ≤ n) (h1 : n ≤ 9223372036854775807) (w : World) (htab : Lib.TabIs Tryz.prog w "internal/strconv.uint64pow10" .u64 Lib.pow10Tab) :
    Calls Tryz.prog 228 #[.int .i64 n] w fun e w' => e = .returned (.string ⟨(Lib.itoa n).toArray⟩) ∧ ∃ k os, w' = grow (w.drewN k) os := Any.internal_strconv_Itoa Tryz.laysM243 n h0 h1 w htab
def Tryz.lays243_ren : Go.Shelf.Ren := ⟨fun | 243 => 228 | 246 => 254 | 283 => 265 | 284 => 266 | 285 => 267 | 286 => 268 | 129 => 162 | 317 => 271 | 318 => 272 | 319 => 273 | 320 => 274 | 337 => 275 | 338 => 276 | n => n, fun | 3 => 3 | 9 => 9 | 2 => 2 | 4 => 4 | 171 => 309 | 0 => 0 | 53 => 219 | 37 => 184 | 5 => 5 | 173 => 311 | 212 => 316 | 51 => 216 | 20 => 20 | 213 => 317 | 46 => 163 | 232 => 318 | 233 => 319 | n => n, fun | 17 => 0 | 18 => 1 | 19 => 2 | n => n⟩
theorem Tryz.lays243 : Go.Proofs.Lays.n243 Tryz.prog Tryz.lays243_ren := {
  mixed := by kernel_rfl
  f129 := Tryz.func162.trans (congrArg some (by kernel_rfl))
  f243 := Tryz.func228.trans (congrArg some (by kernel_rfl))
  f246 := Tryz.func254.trans (congrArg some (by kernel_rfl))
  f283 := Tryz.func265.trans (congrArg some (by kernel_rfl))
  f284 := Tryz.func266.trans (congrArg some (by kernel_rfl))
  f285 := Tryz.func267.trans (congrArg some (by kernel_rfl))
  f286 := Tryz.func268.trans (congrArg some (by kernel_rfl))
  f317 := Tryz.func271.trans (congrArg some (by kernel_rfl))
  f318 := Tryz.func272.trans (congrArg some (by kernel_rfl))
  f319 := Tryz.func273.trans (congrArg some (by kernel_rfl))
  f320 := Tryz.func274.trans (congrArg some (by kernel_rfl))
  f337 := Tryz.func275.trans (congrArg some (by kernel_rfl))
  f338 := Tryz.func276.trans (congrArg some (by kernel_rfl))
  t0 := Tryz.underlying0
  a0 := Tryz.isAgg0
  z0 := Tryz.sizeOf0
  v0 := Tryz.zeroValue0
  t2 := Tryz.underlying2
  a2 := Tryz.isAgg2
  z2 := Tryz.sizeOf2
  v2 := Tryz.zeroValue2
  t3 := Tryz.underlying3
  a3 := Tryz.isAgg3
  z3 := Tryz.sizeOf3
  v3 := Tryz.zeroValue3
  t4 := Tryz.underlying4
  a4 := Tryz.isAgg4
  z4 := Tryz.sizeOf4
  v4 := Tryz.zeroValue4
  t5 := Tryz.underlying5
  a5 := Tryz.isAgg5
  z5 := Tryz.sizeOf5
  v5 := Tryz.zeroValue5
  t9 := Tryz.underlying9
  a9 := Tryz.isAgg9
  z9 := Tryz.sizeOf9
  v9 := Tryz.zeroValue9
  t20 := Tryz.underlying20
  a20 := Tryz.isAgg20
  z20 := Tryz.sizeOf20
  v20 := Tryz.zeroValue20
  t37 := Tryz.underlying184
  a37 := Tryz.isAgg184
  z37 := Tryz.sizeOf184
  v37 := Tryz.zeroValue184
  t46 := Tryz.underlying163
  a46 := Tryz.isAgg163
  z46 := Tryz.sizeOf163
  v46 := Tryz.zeroValue163
  t51 := Tryz.underlying216
  a51 := Tryz.isAgg216
  z51 := Tryz.sizeOf216
  v51 := Tryz.zeroValue216
  t53 := Tryz.underlying219
  a53 := Tryz.isAgg219
  z53 := Tryz.sizeOf219
  v53 := Tryz.zeroValue219
  t171 := Tryz.underlying309
  a171 := Tryz.isAgg309
  z171 := Tryz.sizeOf309
  v171 := Tryz.zeroValue309
  t173 := Tryz.underlying311
  a173 := Tryz.isAgg311
  z173 := Tryz.sizeOf311
  v173 := Tryz.zeroValue311
  t212 := Tryz.underlying316
  a212 := Tryz.isAgg316
  z212 := Tryz.sizeOf316
  v212 := Tryz.zeroValue316
  t213 := Tryz.underlying317
  a213 := Tryz.isAgg317
  z213 := Tryz.sizeOf317
  t232 := Tryz.underlying318
  a232 := Tryz.isAgg318
  z232 := Tryz.sizeOf318
  v232 := Tryz.zeroValue318
  t233 := Tryz.underlying319
  a233 := Tryz.isAgg319
  z233 := Tryz.sizeOf319
  v233 := Tryz.zeroValue319
  g17 := by kernel_rfl
  g18 := by kernel_rfl
  g19 := by kernel_rfl }
open Go.RowKit Go.Sort Go.Lib in
/-- THE ROAD WITHOUT THE TABLE: 0 <= i < 100. (LAID: no walk: one application.) -/
theorem Tryz.internal_strconv_Itoa_small (i : Nat) (hi : i < 100) (w : World) :
    Calls Tryz.prog 228 #[.int .i64 i] w fun e w' => e = .returned (.string ⟨(Lib.decDigits i).toArray⟩) ∧ w' = w := Any.internal_strconv_Itoa_small Tryz.lays243 i hi w
def Tryz.laysM171_ren : Go.Shelf.Ren := ⟨fun | 171 => 182 | 243 => 228 | 246 => 254 | 283 => 265 | 284 => 266 | 285 => 267 | 286 => 268 | 129 => 162 | 317 => 271 | 318 => 272 | 319 => 273 | 320 => 274 | 337 => 275 | 338 => 276 | n => n, fun | 3 => 3 | 9 => 9 | 2 => 2 | 4 => 4 | 171 => 309 | 0 => 0 | 53 => 219 | 37 => 184 | 5 => 5 | 173 => 311 | 212 => 316 | 51 => 216 | 20 => 20 | 213 => 317 | 46 => 163 | 232 => 318 | 233 => 319 | n => n, fun | 17 => 0 | 18 => 1 | 19 => 2 | n => n⟩
theorem Tryz.laysM171 : Go.Proofs.LaysM.n171 Tryz.prog Tryz.laysM171_ren := {
  mixed := by kernel_rfl
  f129 := Tryz.func162.trans (congrArg some (by kernel_rfl))
  f171 := Tryz.func182.trans (congrArg some (by kernel_rfl))
  f243 := Tryz.func228.trans (congrArg some (by kernel_rfl))
  f246 := Tryz.func254.trans (congrArg some (by kernel_rfl))
  f283 := Tryz.func265.trans (congrArg some (by kernel_rfl))
  f284 := Tryz.func266.trans (congrArg some (by kernel_rfl))
  f285 := Tryz.func267.trans (congrArg some (by kernel_rfl))
  f286 := Tryz.func268.trans (congrArg some (by kernel_rfl))
  f317 := Tryz.func271.trans (congrArg some (by kernel_rfl))
  f318 := Tryz.func272.trans (congrArg some (by kernel_rfl))
  f319 := Tryz.func273.trans (congrArg some (by kernel_rfl))
  f320 := Tryz.func274.trans (congrArg some (by kernel_rfl))
  f337 := Tryz.func275.trans (congrArg some (by kernel_rfl))
  f338 := Tryz.func276.trans (congrArg some (by kernel_rfl))
  t0 := Tryz.underlying0
  a0 := Tryz.isAgg0
  z0 := Tryz.sizeOf0
  v0 := Tryz.zeroValue0
  t2 := Tryz.underlying2
  a2 := Tryz.isAgg2
  z2 := Tryz.sizeOf2
  v2 := Tryz.zeroValue2
  t3 := Tryz.underlying3
  a3 := Tryz.isAgg3
  z3 := Tryz.sizeOf3
  v3 := Tryz.zeroValue3
  t4 := Tryz.underlying4
  a4 := Tryz.isAgg4
  z4 := Tryz.sizeOf4
  v4 := Tryz.zeroValue4
  t5 := Tryz.underlying5
  a5 := Tryz.isAgg5
  z5 := Tryz.sizeOf5
  v5 := Tryz.zeroValue5
  t9 := Tryz.underlying9
  a9 := Tryz.isAgg9
  z9 := Tryz.sizeOf9
  v9 := Tryz.zeroValue9
  t20 := Tryz.underlying20
  a20 := Tryz.isAgg20
  z20 := Tryz.sizeOf20
  v20 := Tryz.zeroValue20
  t37 := Tryz.underlying184
  a37 := Tryz.isAgg184
  z37 := Tryz.sizeOf184
  v37 := Tryz.zeroValue184
  t46 := Tryz.underlying163
  a46 := Tryz.isAgg163
  z46 := Tryz.sizeOf163
  v46 := Tryz.zeroValue163
  t51 := Tryz.underlying216
  a51 := Tryz.isAgg216
  z51 := Tryz.sizeOf216
  v51 := Tryz.zeroValue216
  t53 := Tryz.underlying219
  a53 := Tryz.isAgg219
  z53 := Tryz.sizeOf219
  v53 := Tryz.zeroValue219
  t171 := Tryz.underlying309
  a171 := Tryz.isAgg309
  z171 := Tryz.sizeOf309
  v171 := Tryz.zeroValue309
  t173 := Tryz.underlying311
  a173 := Tryz.isAgg311
  z173 := Tryz.sizeOf311
  v173 := Tryz.zeroValue311
  t212 := Tryz.underlying316
  a212 := Tryz.isAgg316
  z212 := Tryz.sizeOf316
  v212 := Tryz.zeroValue316
  t213 := Tryz.underlying317
  a213 := Tryz.isAgg317
  z213 := Tryz.sizeOf317
  t232 := Tryz.underlying318
  a232 := Tryz.isAgg318
  z232 := Tryz.sizeOf318
  v232 := Tryz.zeroValue318
  t233 := Tryz.underlying319
  a233 := Tryz.isAgg319
  z233 := Tryz.sizeOf319
  v233 := Tryz.zeroValue319
  g17 := by kernel_rfl
  g18 := by kernel_rfl
  g19 := by kernel_rfl
  i0 := by kernel_rfl
  i2 := by kernel_rfl
  i3 := by kernel_rfl
  i4 := by kernel_rfl
  i5 := by kernel_rfl
  i9 := by kernel_rfl
  i20 := by kernel_rfl
  i37 := by kernel_rfl
  i46 := by kernel_rfl
  i51 := by kernel_rfl
  i53 := by kernel_rfl
  i171 := by kernel_rfl
  i173 := by kernel_rfl
  i212 := by kernel_rfl
  i232 := by kernel_rfl
  i233 := by kernel_rfl
  m17 := by kernel_rfl
  m18 := by kernel_rfl
  m19 := by kernel_rfl }
open Go.RowKit Go.Sort Go.Lib in
/-- strconv.Itoa: "Itoa is equivalent to FormatInt(int64(i), 10).": i's DECIMAL NUMERAL ('Lib.itoa': a '-' where i is negative, then the digits), FOR EVERY int. The world behind the call: the world before it, new blocks behind the heap (the library's 'var a [24]byte'), draws. (LAID: no walk: one application.) -/
theorem Tryz.strconv_Itoa (n : Int) (h0 : -9223372036854775808 ≤ n) (h1 : n ≤ 9223372036854775807) (w : World) (htab : Lib.TabIs Tryz.prog w "internal/strconv.uint64pow10" .u64 Lib.pow10Tab) :
    Calls Tryz.prog 182 #[.int .i64 n] w fun e w' => e = .returned (.string ⟨(Lib.itoa n).toArray⟩) ∧ ∃ k os, w' = grow (w.drewN k) os := Any.strconv_Itoa Tryz.laysM171 n h0 h1 w htab
def Tryz.lays171_ren : Go.Shelf.Ren := ⟨fun | 171 => 182 | 243 => 228 | 246 => 254 | 283 => 265 | 284 => 266 | 285 => 267 | 286 => 268 | 129 => 162 | 317 => 271 | 318 => 272 | 319 => 273 | 320 => 274 | 337 => 275 | 338 => 276 | n => n, fun | 3 => 3 | 9 => 9 | 2 => 2 | 4 => 4 | 171 => 309 | 0 => 0 | 53 => 219 | 37 => 184 | 5 => 5 | 173 => 311 | 212 => 316 | 51 => 216 | 20 => 20 | 213 => 317 | 46 => 163 | 232 => 318 | 233 => 319 | n => n, fun | 17 => 0 | 18 => 1 | 19 => 2 | n => n⟩
theorem Tryz.lays171 : Go.Proofs.Lays.n171 Tryz.prog Tryz.lays171_ren := {
  mixed := by kernel_rfl
  f129 := Tryz.func162.trans (congrArg some (by kernel_rfl))
  f171 := Tryz.func182.trans (congrArg some (by kernel_rfl))
  f243 := Tryz.func228.trans (congrArg some (by kernel_rfl))
  f246 := Tryz.func254.trans (congrArg some (by kernel_rfl))
  f283 := Tryz.func265.trans (congrArg some (by kernel_rfl))
  f284 := Tryz.func266.trans (congrArg some (by kernel_rfl))
  f285 := Tryz.func267.trans (congrArg some (by kernel_rfl))
  f286 := Tryz.func268.trans (congrArg some (by kernel_rfl))
  f317 := Tryz.func271.trans (congrArg some (by kernel_rfl))
  f318 := Tryz.func272.trans (congrArg some (by kernel_rfl))
  f319 := Tryz.func273.trans (congrArg some (by kernel_rfl))
  f320 := Tryz.func274.trans (congrArg some (by kernel_rfl))
  f337 := Tryz.func275.trans (congrArg some (by kernel_rfl))
  f338 := Tryz.func276.trans (congrArg some (by kernel_rfl))
  t0 := Tryz.underlying0
  a0 := Tryz.isAgg0
  z0 := Tryz.sizeOf0
  v0 := Tryz.zeroValue0
  t2 := Tryz.underlying2
  a2 := Tryz.isAgg2
  z2 := Tryz.sizeOf2
  v2 := Tryz.zeroValue2
  t3 := Tryz.underlying3
  a3 := Tryz.isAgg3
  z3 := Tryz.sizeOf3
  v3 := Tryz.zeroValue3
  t4 := Tryz.underlying4
  a4 := Tryz.isAgg4
  z4 := Tryz.sizeOf4
  v4 := Tryz.zeroValue4
  t5 := Tryz.underlying5
  a5 := Tryz.isAgg5
  z5 := Tryz.sizeOf5
  v5 := Tryz.zeroValue5
  t9 := Tryz.underlying9
  a9 := Tryz.isAgg9
  z9 := Tryz.sizeOf9
  v9 := Tryz.zeroValue9
  t20 := Tryz.underlying20
  a20 := Tryz.isAgg20
  z20 := Tryz.sizeOf20
  v20 := Tryz.zeroValue20
  t37 := Tryz.underlying184
  a37 := Tryz.isAgg184
  z37 := Tryz.sizeOf184
  v37 := Tryz.zeroValue184
  t46 := Tryz.underlying163
  a46 := Tryz.isAgg163
  z46 := Tryz.sizeOf163
  v46 := Tryz.zeroValue163
  t51 := Tryz.underlying216
  a51 := Tryz.isAgg216
  z51 := Tryz.sizeOf216
  v51 := Tryz.zeroValue216
  t53 := Tryz.underlying219
  a53 := Tryz.isAgg219
  z53 := Tryz.sizeOf219
  v53 := Tryz.zeroValue219
  t171 := Tryz.underlying309
  a171 := Tryz.isAgg309
  z171 := Tryz.sizeOf309
  v171 := Tryz.zeroValue309
  t173 := Tryz.underlying311
  a173 := Tryz.isAgg311
  z173 := Tryz.sizeOf311
  v173 := Tryz.zeroValue311
  t212 := Tryz.underlying316
  a212 := Tryz.isAgg316
  z212 := Tryz.sizeOf316
  v212 := Tryz.zeroValue316
  t213 := Tryz.underlying317
  a213 := Tryz.isAgg317
  z213 := Tryz.sizeOf317
  t232 := Tryz.underlying318
  a232 := Tryz.isAgg318
  z232 := Tryz.sizeOf318
  v232 := Tryz.zeroValue318
  t233 := Tryz.underlying319
  a233 := Tryz.isAgg319
  z233 := Tryz.sizeOf319
  v233 := Tryz.zeroValue319
  g17 := by kernel_rfl
  g18 := by kernel_rfl
  g19 := by kernel_rfl }
open Go.RowKit Go.Sort Go.Lib in
/-- THE ROAD WITHOUT THE TABLE: 0 <= i < 100: NO PREMISE ON THE WORLD, AND THE WORLD IS AS IT WAS: a row that keeps its argument in that range need list no table ('laid = []'). (LAID: no walk: one application.) -/
theorem Tryz.strconv_Itoa_small (i : Nat) (hi : i < 100) (w : World) :
    Calls Tryz.prog 182 #[.int .i64 i] w fun e w' => e = .returned (.string ⟨(Lib.decDigits i).toArray⟩) ∧ w' = w := Any.strconv_Itoa_small Tryz.lays171 i hi w
def Tryz.lays264_ren : Go.Shelf.Ren := ⟨fun | 264 => 152 | n => n, fun | 53 => 219 | 46 => 163 | n => n, fun | n => n⟩
theorem Tryz.lays264 : Go.Proofs.Lays.n264 Tryz.prog Tryz.lays264_ren := {
  mixed := by kernel_rfl
  f264 := Tryz.func152.trans (congrArg some (by kernel_rfl))
  t46 := Tryz.underlying163
  a46 := Tryz.isAgg163
  z46 := Tryz.sizeOf163
  v46 := Tryz.zeroValue163
  t53 := Tryz.underlying219
  a53 := Tryz.isAgg219
  z53 := Tryz.sizeOf219
  v53 := Tryz.zeroValue219 }
open Go.RowKit Go.Lib in
theorem Tryz.bits_Mul64 (x y : Nat) (hx : x < 18446744073709551616) (hy : y < 18446744073709551616) (w : World) :
    Calls Tryz.prog 152 #[.int .u64 x, .int .u64 y] w fun e w' => e = .returned (.tuple #[.int .u64 ((x * y / 18446744073709551616 : Nat) : Int), .int .u64 ((x * y % 18446744073709551616 : Nat) : Int)]) ∧ w' = w := Any.bits_Mul64 Tryz.lays264 x y hx hy w
def Tryz.lays212_ren : Go.Shelf.Ren := ⟨fun | 212 => 91 | 263 => 151 | 264 => 152 | n => n, fun | 46 => 163 | 51 => 216 | 146 => 217 | 53 => 219 | 148 => 220 | n => n, fun | n => n⟩
theorem Tryz.lays212 : Go.Proofs.Lays.n212 Tryz.prog Tryz.lays212_ren := {
  mixed := by kernel_rfl
  f212 := Tryz.func91.trans (congrArg some (by kernel_rfl))
  f263 := Tryz.func151.trans (congrArg some (by kernel_rfl))
  f264 := Tryz.func152.trans (congrArg some (by kernel_rfl))
  t46 := Tryz.underlying163
  a46 := Tryz.isAgg163
  z46 := Tryz.sizeOf163
  v46 := Tryz.zeroValue163
  t51 := Tryz.underlying216
  a51 := Tryz.isAgg216
  z51 := Tryz.sizeOf216
  v51 := Tryz.zeroValue216
  t53 := Tryz.underlying219
  a53 := Tryz.isAgg219
  z53 := Tryz.sizeOf219
  v53 := Tryz.zeroValue219
  t146 := Tryz.underlying217
  a146 := Tryz.isAgg217
  z146 := Tryz.sizeOf217
  v146 := Tryz.zeroValue217
  t148 := Tryz.underlying220
  a148 := Tryz.isAgg220
  z148 := Tryz.sizeOf220
  v148 := Tryz.zeroValue220 }
open Go.RowKit Go.Lib in
/-- math/bits.Mul: "Mul returns the full-width product of x and y": on a machine of 64 bits: Mul64's. (LAID: no walk: one application.) -/
theorem Tryz.bits_Mul (x y : Nat) (hx : x < 18446744073709551616) (hy : y < 18446744073709551616) (w : World) :
    Calls Tryz.prog 91 #[.int .u64 x, .int .u64 y] w fun e w' => e = .returned (.tuple #[.int .u64 ((x * y / 18446744073709551616 : Nat) : Int), .int .u64 ((x * y % 18446744073709551616 : Nat) : Int)]) ∧ w' = w := Any.bits_Mul Tryz.lays212 x y hx hy w
def Tryz.laysNm237_ren : Go.Shelf.Ren := ⟨fun | 37 => 94 | n => n, fun | 3 => 3 | 4 => 4 | n => n, fun | n => n⟩
theorem Tryz.laysNm237 : Go.Proofs.Lays2.n37 Tryz.prog Tryz.laysNm237_ren := {
  mixed := by kernel_rfl
  f37 := Tryz.func94.trans (congrArg some (by kernel_rfl))
  t3 := Tryz.underlying3
  a3 := Tryz.isAgg3
  z3 := Tryz.sizeOf3
  v3 := Tryz.zeroValue3
  t4 := Tryz.underlying4
  a4 := Tryz.isAgg4
  z4 := Tryz.sizeOf4
  v4 := Tryz.zeroValue4 }
open Go.RowKit Go.Lib in
/-- cmp.isNaN[int]: 'x != x': false. (LAID: no walk: one application.) -/
theorem Tryz.cmp_isNaN_int2 (x : Int) (w : World) :
    Calls Tryz.prog 94 #[.int .i64 x] w fun e w' => e = .returned (.bool false) ∧ w' = w := Any.cmp_isNaN_int2 Tryz.laysNm237 x w
def Tryz.sort84_ren : Go.Shelf.Ren := ⟨fun | 6 => 84 | 15 => 93 | 14 => 148 | 28 => 161 | 29 => 162 | 20 => 202 | 21 => 203 | 22 => 204 | 23 => 205 | 24 => 206 | 25 => 207 | 26 => 208 | 27 => 209 | 46 => 244 | 47 => 214 | 48 => 215 | 49 => 245 | 50 => 246 | 57 => 261 | n => n, fun | 22 => 76 | 24 => 154 | 25 => 156 | 3 => 3 | 39 => 163 | 0 => 0 | 53 => 216 | 55 => 219 | 4 => 4 | 46 => 224 | 45 => 223 | 50 => 74 | 5 => 5 | 9 => 9 | 66 => 267 | 70 => 271 | 76 => 297 | 77 => 298 | n => n, fun | n => n⟩
theorem Tryz.sort84 : Go.Proofs.SlLaysF0.n6 Tryz.prog Tryz.sort84_ren := {
  mixed := by kernel_rfl
  f6 := ⟨Tryz.f84.name, by decide, Tryz.func84.trans (congrArg some (by kernel_rfl))⟩
  f14 := ⟨Tryz.f148.name, by decide, Tryz.func148.trans (congrArg some (by kernel_rfl))⟩
  f15 := Tryz.func93.trans (congrArg some (by kernel_rfl))
  f20 := ⟨Tryz.f202.name, by decide, Tryz.func202.trans (congrArg some (by kernel_rfl))⟩
  f21 := ⟨Tryz.f203.name, by decide, Tryz.func203.trans (congrArg some (by kernel_rfl))⟩
  f22 := ⟨Tryz.f204.name, by decide, Tryz.func204.trans (congrArg some (by kernel_rfl))⟩
  f23 := ⟨Tryz.f205.name, by decide, Tryz.func205.trans (congrArg some (by kernel_rfl))⟩
  f24 := ⟨Tryz.f206.name, by decide, Tryz.func206.trans (congrArg some (by kernel_rfl))⟩
  f25 := ⟨Tryz.f207.name, by decide, Tryz.func207.trans (congrArg some (by kernel_rfl))⟩
  f26 := ⟨Tryz.f208.name, by decide, Tryz.func208.trans (congrArg some (by kernel_rfl))⟩
  f27 := ⟨Tryz.f209.name, by decide, Tryz.func209.trans (congrArg some (by kernel_rfl))⟩
  f28 := Tryz.func161.trans (congrArg some (by kernel_rfl))
  f29 := Tryz.func162.trans (congrArg some (by kernel_rfl))
  f46 := ⟨Tryz.f244.name, by decide, Tryz.func244.trans (congrArg some (by kernel_rfl))⟩
  f47 := Tryz.func214.trans (congrArg some (by kernel_rfl))
  f48 := Tryz.func215.trans (congrArg some (by kernel_rfl))
  f49 := ⟨Tryz.f245.name, by decide, Tryz.func245.trans (congrArg some (by kernel_rfl))⟩
  f50 := ⟨Tryz.f246.name, by decide, Tryz.func246.trans (congrArg some (by kernel_rfl))⟩
  f57 := ⟨Tryz.f261.name, by decide, Tryz.func261.trans (congrArg some (by kernel_rfl))⟩
  t0 := Tryz.underlying0
  a0 := Tryz.isAgg0
  z0 := Tryz.sizeOf0
  v0 := Tryz.zeroValue0
  t3 := Tryz.underlying3
  a3 := Tryz.isAgg3
  z3 := Tryz.sizeOf3
  v3 := Tryz.zeroValue3
  t4 := Tryz.underlying4
  a4 := Tryz.isAgg4
  z4 := Tryz.sizeOf4
  v4 := Tryz.zeroValue4
  t5 := Tryz.underlying5
  a5 := Tryz.isAgg5
  z5 := Tryz.sizeOf5
  v5 := Tryz.zeroValue5
  t9 := Tryz.underlying9
  a9 := Tryz.isAgg9
  z9 := Tryz.sizeOf9
  v9 := Tryz.zeroValue9
  t22 := Tryz.underlying76
  a22 := Tryz.isAgg76
  z22 := Tryz.sizeOf76
  v22 := Tryz.zeroValue76
  t25 := Tryz.underlying156
  a25 := Tryz.isAgg156
  z25 := Tryz.sizeOf156
  v25 := Tryz.zeroValue156
  t39 := Tryz.underlying163
  a39 := Tryz.isAgg163
  z39 := Tryz.sizeOf163
  v39 := Tryz.zeroValue163
  t45 := Tryz.underlying223
  a45 := Tryz.isAgg223
  z45 := Tryz.sizeOf223
  v45 := Tryz.zeroValue223
  t46 := Tryz.underlying224
  a46 := Tryz.isAgg224
  z46 := Tryz.sizeOf224
  v46 := Tryz.zeroValue224
  t50 := Tryz.underlying74
  a50 := Tryz.isAgg74
  z50 := Tryz.sizeOf74
  v50 := Tryz.zeroValue74
  t53 := Tryz.underlying216
  a53 := Tryz.isAgg216
  z53 := Tryz.sizeOf216
  v53 := Tryz.zeroValue216
  t55 := Tryz.underlying219
  a55 := Tryz.isAgg219
  z55 := Tryz.sizeOf219
  v55 := Tryz.zeroValue219
  t66 := Tryz.underlying267
  a66 := Tryz.isAgg267
  z66 := Tryz.sizeOf267
  v66 := Tryz.zeroValue267
  t70 := Tryz.underlying271
  a70 := Tryz.isAgg271
  z70 := Tryz.sizeOf271
  v70 := Tryz.zeroValue271
  t76 := Tryz.underlying297
  a76 := Tryz.isAgg297
  z76 := Tryz.sizeOf297
  v76 := Tryz.zeroValue297
  t77 := Tryz.underlying298
  a77 := Tryz.isAgg298
  z77 := Tryz.sizeOf298
  v77 := Tryz.zeroValue298 }
def Tryz.pdq92_ren : Go.Shelf.Ren := ⟨fun | 14 => 92 | 20 => 153 | 21 => 154 | 22 => 155 | 23 => 156 | 24 => 157 | 25 => 158 | 26 => 159 | 27 => 160 | 46 => 213 | 47 => 214 | 48 => 215 | 49 => 216 | 50 => 217 | 15 => 93 | 57 => 248 | 28 => 161 | 29 => 162 | n => n, fun | 24 => 95 | 22 => 36 | 3 => 3 | 25 => 99 | 4 => 4 | 0 => 0 | 46 => 224 | 45 => 223 | 50 => 74 | 66 => 267 | 39 => 163 | 55 => 219 | 70 => 271 | 76 => 297 | 77 => 298 | 53 => 216 | 5 => 5 | 9 => 9 | n => n, fun | n => n⟩
theorem Tryz.pdq92 : Go.Proofs.SlLaysF0.n14 Tryz.prog Tryz.pdq92_ren := {
  mixed := by kernel_rfl
  f14 := ⟨Tryz.f92.name, by decide, Tryz.func92.trans (congrArg some (by kernel_rfl))⟩
  f15 := Tryz.func93.trans (congrArg some (by kernel_rfl))
  f20 := ⟨Tryz.f153.name, by decide, Tryz.func153.trans (congrArg some (by kernel_rfl))⟩
  f21 := ⟨Tryz.f154.name, by decide, Tryz.func154.trans (congrArg some (by kernel_rfl))⟩
  f22 := ⟨Tryz.f155.name, by decide, Tryz.func155.trans (congrArg some (by kernel_rfl))⟩
  f23 := ⟨Tryz.f156.name, by decide, Tryz.func156.trans (congrArg some (by kernel_rfl))⟩
  f24 := ⟨Tryz.f157.name, by decide, Tryz.func157.trans (congrArg some (by kernel_rfl))⟩
  f25 := ⟨Tryz.f158.name, by decide, Tryz.func158.trans (congrArg some (by kernel_rfl))⟩
  f26 := ⟨Tryz.f159.name, by decide, Tryz.func159.trans (congrArg some (by kernel_rfl))⟩
  f27 := ⟨Tryz.f160.name, by decide, Tryz.func160.trans (congrArg some (by kernel_rfl))⟩
  f28 := Tryz.func161.trans (congrArg some (by kernel_rfl))
  f29 := Tryz.func162.trans (congrArg some (by kernel_rfl))
  f46 := ⟨Tryz.f213.name, by decide, Tryz.func213.trans (congrArg some (by kernel_rfl))⟩
  f47 := Tryz.func214.trans (congrArg some (by kernel_rfl))
  f48 := Tryz.func215.trans (congrArg some (by kernel_rfl))
  f49 := ⟨Tryz.f216.name, by decide, Tryz.func216.trans (congrArg some (by kernel_rfl))⟩
  f50 := ⟨Tryz.f217.name, by decide, Tryz.func217.trans (congrArg some (by kernel_rfl))⟩
  f57 := ⟨Tryz.f248.name, by decide, Tryz.func248.trans (congrArg some (by kernel_rfl))⟩
  t0 := Tryz.underlying0
  a0 := Tryz.isAgg0
  z0 := Tryz.sizeOf0
  v0 := Tryz.zeroValue0
  t3 := Tryz.underlying3
  a3 := Tryz.isAgg3
  z3 := Tryz.sizeOf3
  v3 := Tryz.zeroValue3
  t4 := Tryz.underlying4
  a4 := Tryz.isAgg4
  z4 := Tryz.sizeOf4
  v4 := Tryz.zeroValue4
  t5 := Tryz.underlying5
  a5 := Tryz.isAgg5
  z5 := Tryz.sizeOf5
  v5 := Tryz.zeroValue5
  t9 := Tryz.underlying9
  a9 := Tryz.isAgg9
  z9 := Tryz.sizeOf9
  v9 := Tryz.zeroValue9
  t22 := Tryz.underlying36
  a22 := Tryz.isAgg36
  z22 := Tryz.sizeOf36
  v22 := Tryz.zeroValue36
  t25 := Tryz.underlying99
  a25 := Tryz.isAgg99
  z25 := Tryz.sizeOf99
  v25 := Tryz.zeroValue99
  t39 := Tryz.underlying163
  a39 := Tryz.isAgg163
  z39 := Tryz.sizeOf163
  v39 := Tryz.zeroValue163
  t45 := Tryz.underlying223
  a45 := Tryz.isAgg223
  z45 := Tryz.sizeOf223
  v45 := Tryz.zeroValue223
  t46 := Tryz.underlying224
  a46 := Tryz.isAgg224
  z46 := Tryz.sizeOf224
  v46 := Tryz.zeroValue224
  t50 := Tryz.underlying74
  a50 := Tryz.isAgg74
  z50 := Tryz.sizeOf74
  v50 := Tryz.zeroValue74
  t53 := Tryz.underlying216
  a53 := Tryz.isAgg216
  z53 := Tryz.sizeOf216
  v53 := Tryz.zeroValue216
  t55 := Tryz.underlying219
  a55 := Tryz.isAgg219
  z55 := Tryz.sizeOf219
  v55 := Tryz.zeroValue219
  t66 := Tryz.underlying267
  a66 := Tryz.isAgg267
  z66 := Tryz.sizeOf267
  v66 := Tryz.zeroValue267
  t70 := Tryz.underlying271
  a70 := Tryz.isAgg271
  z70 := Tryz.sizeOf271
  v70 := Tryz.zeroValue271
  t76 := Tryz.underlying297
  a76 := Tryz.isAgg297
  z76 := Tryz.sizeOf297
  v76 := Tryz.zeroValue297
  t77 := Tryz.underlying298
  a77 := Tryz.isAgg298
  z77 := Tryz.sizeOf298
  v77 := Tryz.zeroValue298 }
def Tryz.sort146_ren : Go.Shelf.Ren := ⟨fun | 6 => 146 | 15 => 93 | 14 => 201 | 28 => 161 | 29 => 162 | 20 => 236 | 21 => 237 | 22 => 238 | 23 => 239 | 24 => 240 | 25 => 241 | 26 => 242 | 27 => 243 | 46 => 258 | 47 => 214 | 48 => 215 | 49 => 259 | 50 => 260 | 57 => 270 | n => n, fun | 22 => 69 | 24 => 147 | 25 => 213 | 3 => 3 | 39 => 163 | 0 => 0 | 53 => 216 | 55 => 219 | 4 => 4 | 46 => 224 | 45 => 223 | 50 => 74 | 5 => 5 | 9 => 9 | 66 => 267 | 70 => 271 | 76 => 297 | 77 => 298 | n => n, fun | n => n⟩
theorem Tryz.sort146 : Go.Proofs.SlLaysF0.n6 Tryz.prog Tryz.sort146_ren := {
  mixed := by kernel_rfl
  f6 := ⟨Tryz.f146.name, by decide, Tryz.func146.trans (congrArg some (by kernel_rfl))⟩
  f14 := ⟨Tryz.f201.name, by decide, Tryz.func201.trans (congrArg some (by kernel_rfl))⟩
  f15 := Tryz.func93.trans (congrArg some (by kernel_rfl))
  f20 := ⟨Tryz.f236.name, by decide, Tryz.func236.trans (congrArg some (by kernel_rfl))⟩
  f21 := ⟨Tryz.f237.name, by decide, Tryz.func237.trans (congrArg some (by kernel_rfl))⟩
  f22 := ⟨Tryz.f238.name, by decide, Tryz.func238.trans (congrArg some (by kernel_rfl))⟩
  f23 := ⟨Tryz.f239.name, by decide, Tryz.func239.trans (congrArg some (by kernel_rfl))⟩
  f24 := ⟨Tryz.f240.name, by decide, Tryz.func240.trans (congrArg some (by kernel_rfl))⟩
  f25 := ⟨Tryz.f241.name, by decide, Tryz.func241.trans (congrArg some (by kernel_rfl))⟩
  f26 := ⟨Tryz.f242.name, by decide, Tryz.func242.trans (congrArg some (by kernel_rfl))⟩
  f27 := ⟨Tryz.f243.name, by decide, Tryz.func243.trans (congrArg some (by kernel_rfl))⟩
  f28 := Tryz.func161.trans (congrArg some (by kernel_rfl))
  f29 := Tryz.func162.trans (congrArg some (by kernel_rfl))
  f46 := ⟨Tryz.f258.name, by decide, Tryz.func258.trans (congrArg some (by kernel_rfl))⟩
  f47 := Tryz.func214.trans (congrArg some (by kernel_rfl))
  f48 := Tryz.func215.trans (congrArg some (by kernel_rfl))
  f49 := ⟨Tryz.f259.name, by decide, Tryz.func259.trans (congrArg some (by kernel_rfl))⟩
  f50 := ⟨Tryz.f260.name, by decide, Tryz.func260.trans (congrArg some (by kernel_rfl))⟩
  f57 := ⟨Tryz.f270.name, by decide, Tryz.func270.trans (congrArg some (by kernel_rfl))⟩
  t0 := Tryz.underlying0
  a0 := Tryz.isAgg0
  z0 := Tryz.sizeOf0
  v0 := Tryz.zeroValue0
  t3 := Tryz.underlying3
  a3 := Tryz.isAgg3
  z3 := Tryz.sizeOf3
  v3 := Tryz.zeroValue3
  t4 := Tryz.underlying4
  a4 := Tryz.isAgg4
  z4 := Tryz.sizeOf4
  v4 := Tryz.zeroValue4
  t5 := Tryz.underlying5
  a5 := Tryz.isAgg5
  z5 := Tryz.sizeOf5
  v5 := Tryz.zeroValue5
  t9 := Tryz.underlying9
  a9 := Tryz.isAgg9
  z9 := Tryz.sizeOf9
  v9 := Tryz.zeroValue9
  t22 := Tryz.underlying69
  a22 := Tryz.isAgg69
  z22 := Tryz.sizeOf69
  v22 := Tryz.zeroValue69
  t25 := Tryz.underlying213
  a25 := Tryz.isAgg213
  z25 := Tryz.sizeOf213
  v25 := Tryz.zeroValue213
  t39 := Tryz.underlying163
  a39 := Tryz.isAgg163
  z39 := Tryz.sizeOf163
  v39 := Tryz.zeroValue163
  t45 := Tryz.underlying223
  a45 := Tryz.isAgg223
  z45 := Tryz.sizeOf223
  v45 := Tryz.zeroValue223
  t46 := Tryz.underlying224
  a46 := Tryz.isAgg224
  z46 := Tryz.sizeOf224
  v46 := Tryz.zeroValue224
  t50 := Tryz.underlying74
  a50 := Tryz.isAgg74
  z50 := Tryz.sizeOf74
  v50 := Tryz.zeroValue74
  t53 := Tryz.underlying216
  a53 := Tryz.isAgg216
  z53 := Tryz.sizeOf216
  v53 := Tryz.zeroValue216
  t55 := Tryz.underlying219
  a55 := Tryz.isAgg219
  z55 := Tryz.sizeOf219
  v55 := Tryz.zeroValue219
  t66 := Tryz.underlying267
  a66 := Tryz.isAgg267
  z66 := Tryz.sizeOf267
  v66 := Tryz.zeroValue267
  t70 := Tryz.underlying271
  a70 := Tryz.isAgg271
  z70 := Tryz.sizeOf271
  v70 := Tryz.zeroValue271
  t76 := Tryz.underlying297
  a76 := Tryz.isAgg297
  z76 := Tryz.sizeOf297
  v76 := Tryz.zeroValue297
  t77 := Tryz.underlying298
  a77 := Tryz.isAgg298
  z77 := Tryz.sizeOf298
  v77 := Tryz.zeroValue298 }
def Tryz.pdq148_ren : Go.Shelf.Ren := ⟨fun | 14 => 148 | 20 => 202 | 21 => 203 | 22 => 204 | 23 => 205 | 24 => 206 | 25 => 207 | 26 => 208 | 27 => 209 | 46 => 244 | 47 => 214 | 48 => 215 | 49 => 245 | 50 => 246 | 15 => 93 | 57 => 261 | 28 => 161 | 29 => 162 | n => n, fun | 24 => 154 | 22 => 76 | 3 => 3 | 25 => 156 | 4 => 4 | 0 => 0 | 46 => 224 | 45 => 223 | 50 => 74 | 66 => 267 | 39 => 163 | 55 => 219 | 70 => 271 | 76 => 297 | 77 => 298 | 53 => 216 | 5 => 5 | 9 => 9 | n => n, fun | n => n⟩
theorem Tryz.pdq148 : Go.Proofs.SlLaysF0.n14 Tryz.prog Tryz.pdq148_ren := {
  mixed := by kernel_rfl
  f14 := ⟨Tryz.f148.name, by decide, Tryz.func148.trans (congrArg some (by kernel_rfl))⟩
  f15 := Tryz.func93.trans (congrArg some (by kernel_rfl))
  f20 := ⟨Tryz.f202.name, by decide, Tryz.func202.trans (congrArg some (by kernel_rfl))⟩
  f21 := ⟨Tryz.f203.name, by decide, Tryz.func203.trans (congrArg some (by kernel_rfl))⟩
  f22 := ⟨Tryz.f204.name, by decide, Tryz.func204.trans (congrArg some (by kernel_rfl))⟩
  f23 := ⟨Tryz.f205.name, by decide, Tryz.func205.trans (congrArg some (by kernel_rfl))⟩
  f24 := ⟨Tryz.f206.name, by decide, Tryz.func206.trans (congrArg some (by kernel_rfl))⟩
  f25 := ⟨Tryz.f207.name, by decide, Tryz.func207.trans (congrArg some (by kernel_rfl))⟩
  f26 := ⟨Tryz.f208.name, by decide, Tryz.func208.trans (congrArg some (by kernel_rfl))⟩
  f27 := ⟨Tryz.f209.name, by decide, Tryz.func209.trans (congrArg some (by kernel_rfl))⟩
  f28 := Tryz.func161.trans (congrArg some (by kernel_rfl))
  f29 := Tryz.func162.trans (congrArg some (by kernel_rfl))
  f46 := ⟨Tryz.f244.name, by decide, Tryz.func244.trans (congrArg some (by kernel_rfl))⟩
  f47 := Tryz.func214.trans (congrArg some (by kernel_rfl))
  f48 := Tryz.func215.trans (congrArg some (by kernel_rfl))
  f49 := ⟨Tryz.f245.name, by decide, Tryz.func245.trans (congrArg some (by kernel_rfl))⟩
  f50 := ⟨Tryz.f246.name, by decide, Tryz.func246.trans (congrArg some (by kernel_rfl))⟩
  f57 := ⟨Tryz.f261.name, by decide, Tryz.func261.trans (congrArg some (by kernel_rfl))⟩
  t0 := Tryz.underlying0
  a0 := Tryz.isAgg0
  z0 := Tryz.sizeOf0
  v0 := Tryz.zeroValue0
  t3 := Tryz.underlying3
  a3 := Tryz.isAgg3
  z3 := Tryz.sizeOf3
  v3 := Tryz.zeroValue3
  t4 := Tryz.underlying4
  a4 := Tryz.isAgg4
  z4 := Tryz.sizeOf4
  v4 := Tryz.zeroValue4
  t5 := Tryz.underlying5
  a5 := Tryz.isAgg5
  z5 := Tryz.sizeOf5
  v5 := Tryz.zeroValue5
  t9 := Tryz.underlying9
  a9 := Tryz.isAgg9
  z9 := Tryz.sizeOf9
  v9 := Tryz.zeroValue9
  t22 := Tryz.underlying76
  a22 := Tryz.isAgg76
  z22 := Tryz.sizeOf76
  v22 := Tryz.zeroValue76
  t25 := Tryz.underlying156
  a25 := Tryz.isAgg156
  z25 := Tryz.sizeOf156
  v25 := Tryz.zeroValue156
  t39 := Tryz.underlying163
  a39 := Tryz.isAgg163
  z39 := Tryz.sizeOf163
  v39 := Tryz.zeroValue163
  t45 := Tryz.underlying223
  a45 := Tryz.isAgg223
  z45 := Tryz.sizeOf223
  v45 := Tryz.zeroValue223
  t46 := Tryz.underlying224
  a46 := Tryz.isAgg224
  z46 := Tryz.sizeOf224
  v46 := Tryz.zeroValue224
  t50 := Tryz.underlying74
  a50 := Tryz.isAgg74
  z50 := Tryz.sizeOf74
  v50 := Tryz.zeroValue74
  t53 := Tryz.underlying216
  a53 := Tryz.isAgg216
  z53 := Tryz.sizeOf216
  v53 := Tryz.zeroValue216
  t55 := Tryz.underlying219
  a55 := Tryz.isAgg219
  z55 := Tryz.sizeOf219
  v55 := Tryz.zeroValue219
  t66 := Tryz.underlying267
  a66 := Tryz.isAgg267
  z66 := Tryz.sizeOf267
  v66 := Tryz.zeroValue267
  t70 := Tryz.underlying271
  a70 := Tryz.isAgg271
  z70 := Tryz.sizeOf271
  v70 := Tryz.zeroValue271
  t76 := Tryz.underlying297
  a76 := Tryz.isAgg297
  z76 := Tryz.sizeOf297
  v76 := Tryz.zeroValue297
  t77 := Tryz.underlying298
  a77 := Tryz.isAgg298
  z77 := Tryz.sizeOf298
  v77 := Tryz.zeroValue298 }
def Tryz.pdq201_ren : Go.Shelf.Ren := ⟨fun | 14 => 201 | 20 => 236 | 21 => 237 | 22 => 238 | 23 => 239 | 24 => 240 | 25 => 241 | 26 => 242 | 27 => 243 | 46 => 258 | 47 => 214 | 48 => 215 | 49 => 259 | 50 => 260 | 15 => 93 | 57 => 270 | 28 => 161 | 29 => 162 | n => n, fun | 24 => 147 | 22 => 69 | 3 => 3 | 25 => 213 | 4 => 4 | 0 => 0 | 46 => 224 | 45 => 223 | 50 => 74 | 66 => 267 | 39 => 163 | 55 => 219 | 70 => 271 | 76 => 297 | 77 => 298 | 53 => 216 | 5 => 5 | 9 => 9 | n => n, fun | n => n⟩
theorem Tryz.pdq201 : Go.Proofs.SlLaysF0.n14 Tryz.prog Tryz.pdq201_ren := {
  mixed := by kernel_rfl
  f14 := ⟨Tryz.f201.name, by decide, Tryz.func201.trans (congrArg some (by kernel_rfl))⟩
  f15 := Tryz.func93.trans (congrArg some (by kernel_rfl))
  f20 := ⟨Tryz.f236.name, by decide, Tryz.func236.trans (congrArg some (by kernel_rfl))⟩
  f21 := ⟨Tryz.f237.name, by decide, Tryz.func237.trans (congrArg some (by kernel_rfl))⟩
  f22 := ⟨Tryz.f238.name, by decide, Tryz.func238.trans (congrArg some (by kernel_rfl))⟩
  f23 := ⟨Tryz.f239.name, by decide, Tryz.func239.trans (congrArg some (by kernel_rfl))⟩
  f24 := ⟨Tryz.f240.name, by decide, Tryz.func240.trans (congrArg some (by kernel_rfl))⟩
  f25 := ⟨Tryz.f241.name, by decide, Tryz.func241.trans (congrArg some (by kernel_rfl))⟩
  f26 := ⟨Tryz.f242.name, by decide, Tryz.func242.trans (congrArg some (by kernel_rfl))⟩
  f27 := ⟨Tryz.f243.name, by decide, Tryz.func243.trans (congrArg some (by kernel_rfl))⟩
  f28 := Tryz.func161.trans (congrArg some (by kernel_rfl))
  f29 := Tryz.func162.trans (congrArg some (by kernel_rfl))
  f46 := ⟨Tryz.f258.name, by decide, Tryz.func258.trans (congrArg some (by kernel_rfl))⟩
  f47 := Tryz.func214.trans (congrArg some (by kernel_rfl))
  f48 := Tryz.func215.trans (congrArg some (by kernel_rfl))
  f49 := ⟨Tryz.f259.name, by decide, Tryz.func259.trans (congrArg some (by kernel_rfl))⟩
  f50 := ⟨Tryz.f260.name, by decide, Tryz.func260.trans (congrArg some (by kernel_rfl))⟩
  f57 := ⟨Tryz.f270.name, by decide, Tryz.func270.trans (congrArg some (by kernel_rfl))⟩
  t0 := Tryz.underlying0
  a0 := Tryz.isAgg0
  z0 := Tryz.sizeOf0
  v0 := Tryz.zeroValue0
  t3 := Tryz.underlying3
  a3 := Tryz.isAgg3
  z3 := Tryz.sizeOf3
  v3 := Tryz.zeroValue3
  t4 := Tryz.underlying4
  a4 := Tryz.isAgg4
  z4 := Tryz.sizeOf4
  v4 := Tryz.zeroValue4
  t5 := Tryz.underlying5
  a5 := Tryz.isAgg5
  z5 := Tryz.sizeOf5
  v5 := Tryz.zeroValue5
  t9 := Tryz.underlying9
  a9 := Tryz.isAgg9
  z9 := Tryz.sizeOf9
  v9 := Tryz.zeroValue9
  t22 := Tryz.underlying69
  a22 := Tryz.isAgg69
  z22 := Tryz.sizeOf69
  v22 := Tryz.zeroValue69
  t25 := Tryz.underlying213
  a25 := Tryz.isAgg213
  z25 := Tryz.sizeOf213
  v25 := Tryz.zeroValue213
  t39 := Tryz.underlying163
  a39 := Tryz.isAgg163
  z39 := Tryz.sizeOf163
  v39 := Tryz.zeroValue163
  t45 := Tryz.underlying223
  a45 := Tryz.isAgg223
  z45 := Tryz.sizeOf223
  v45 := Tryz.zeroValue223
  t46 := Tryz.underlying224
  a46 := Tryz.isAgg224
  z46 := Tryz.sizeOf224
  v46 := Tryz.zeroValue224
  t50 := Tryz.underlying74
  a50 := Tryz.isAgg74
  z50 := Tryz.sizeOf74
  v50 := Tryz.zeroValue74
  t53 := Tryz.underlying216
  a53 := Tryz.isAgg216
  z53 := Tryz.sizeOf216
  v53 := Tryz.zeroValue216
  t55 := Tryz.underlying219
  a55 := Tryz.isAgg219
  z55 := Tryz.sizeOf219
  v55 := Tryz.zeroValue219
  t66 := Tryz.underlying267
  a66 := Tryz.isAgg267
  z66 := Tryz.sizeOf267
  v66 := Tryz.zeroValue267
  t70 := Tryz.underlying271
  a70 := Tryz.isAgg271
  z70 := Tryz.sizeOf271
  v70 := Tryz.zeroValue271
  t76 := Tryz.underlying297
  a76 := Tryz.isAgg297
  z76 := Tryz.sizeOf297
  v76 := Tryz.zeroValue297
  t77 := Tryz.underlying298
  a77 := Tryz.isAgg298
  z77 := Tryz.sizeOf298
  v77 := Tryz.zeroValue298 }
end Go.Proofs
