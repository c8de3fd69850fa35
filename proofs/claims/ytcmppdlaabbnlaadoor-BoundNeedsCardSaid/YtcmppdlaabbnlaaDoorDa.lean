/- Schedules, masks and places in plain words. -/
import Derived.Test.YtcmppdlaabbnlaaDoorFg
import Derived.Test.YtcmppdlaabbnlaaDoorFh
/- Schedules as plain data, and what the code computes of them. -/
namespace HM
open Go Go.RowKit

theorem Els.map {α : Type} {sz : Nat} {f : α → AV} (h : ∀ x, (f x).ncells = sz ∧ (f x).cells.all AV.isCell = true) {l : List α} : Els sz (l.map f) := by
  intro e he
  obtain ⟨x, _, rfl⟩ := List.mem_map.1 he
  exact h x

structure Cell where
  slot : Int
  off : Int
  src : Int
  dst : Int
  flow : Int
  deriving DecidableEq

structure Sched where
  len : Int
  offs : Int
  cells : List Cell

def encI (n : Int) : AV := .int .i64 n
def encIs (l : List Int) : AV := .sl false (l.map encI)
def Cell.av (c : Cell) : AV := .agg [.int .i64 c.slot, .int .i64 c.off, .int .i64 c.src, .int .i64 c.dst, .int .i64 c.flow]
def encCells (l : List Cell) : AV := .sl false (l.map Cell.av)
def Sched.av (s : Sched) : AV := .agg [.int .i64 s.len, .int .i64 s.offs, encCells s.cells]

def insB (x n : Int) : Bool := decide (0 ≤ x) && decide (x < n)
def sizedB (s : Sched) : Bool := decide (1 ≤ s.len) && decide (s.len ≤ 512) && decide (1 ≤ s.offs) && decide (s.offs ≤ 16)
def placedB (s : Sched) (c : Cell) : Bool := insB c.slot s.len && insB c.off s.offs
def formedB (s : Sched) (c : Cell) : Bool := placedB s c && insB c.src 32 && insB c.dst 32 && insB c.flow 256
def inB (n lo hi : Int) : Bool := decide (lo ≤ n) && decide (n ≤ hi)
def Cell.nums (c : Cell) : List Int := [c.slot, c.off, c.src, c.dst, c.flow]

/-- how two lists of numbers compare -/
def cmpI (x y : Int) : Int := if x < y then -1 else if y < x then 1 else 0
def cmpL : List Int → List Int → Int
  | [], [] => 0
  | [], _ :: _ => -1
  | _ :: _, [] => 1
  | x :: xs, y :: ys => if cmpI x y = 0 then cmpL xs ys else cmpI x y
def lessL : List Int → List Int → Bool
  | x :: xs, y :: ys => if x = y then lessL xs ys else decide (x < y)
  | _, _ => false
def Cell.cmp (a b : Cell) : Int := cmpL a.nums b.nums

theorem getMap {α : Type} {f : α → AV} {l : List α} {k : Nat} {x : α} (h : l[k]? = some x) : (l.map f)[(k : Int).toNat]? = some (f x) := by simp [h]
theorem dropGet {α : Type} {l : List α} {k : Nat} {x : α} (h : l[k]? = some x) : l.drop k = x :: l.drop (k + 1) := by
  obtain ⟨hlt, rfl⟩ := List.getElem?_eq_some_iff.1 h
  exact List.drop_eq_getElem_cons hlt
theorem getLt {α : Type} {l : List α} {k : Nat} (h : k < l.length) : ∃ x, l[k]? = some x := ⟨_, List.getElem?_eq_getElem h⟩
theorem lenLt {α : Type} {f : α → AV} {l : List α} {k : Nat} (h : decide ((k : Int) < ((l.map f).length : Int)) = true) : k < l.length := by simpa using h
theorem lenGe {α : Type} {f : α → AV} {l : List α} {k : Nat} (h : decide ((k : Int) < ((l.map f).length : Int)) = false) : l.length ≤ k := by simpa using h
theorem inbMap {α : Type} {f : α → AV} {l : List α} {k : Nat} (h : k < l.length) : InB (k : Int) (l.map f).length := ⟨by omega, by simp; omega⟩
theorem succI {k n : Nat} (h : k < n) (hn : n ≤ 281474976710656) : IntKind.i64.wrap ((k : Int) + 1) = ((k + 1 : Nat) : Int) := by rw [w64] <;> omega

/-- what is asked of the cell at a place -/
def okAt (s : Sched) (i : Nat) : Bool := match s.cells[i]? with
  | some c => formedB s c && (match i with
    | 0 => true
    | j + 1 => match s.cells[j]? with
      | some p => decide (p.cmp c < 0)
      | none => true)
  | none => true
def formB (s : Sched) : Bool := sizedB s && decide (s.cells.length ≤ 512) && (List.range s.cells.length).all (okAt s)

theorem range_all {n : Nat} {f : Nat → Bool} (h : ∀ j, j < n → f j = true) : (List.range n).all f = true := by
  simp [List.all_eq_true]; exact h
theorem range_not {n k : Nat} {f : Nat → Bool} (hk : k < n) (h : f k = false) : (List.range n).all f = false := by
  rw [List.all_eq_false]
  exact ⟨k, by simpa using hk, by simp [h]⟩
theorem form_all {s : Sched} (h : formB s = true) : sizedB s = true ∧ s.cells.length ≤ 512 ∧ ∀ c ∈ s.cells, formedB s c = true := by
  simp only [formB, Bool.and_eq_true, decide_eq_true_eq, List.all_eq_true] at h
  refine ⟨h.1.1, h.1.2, fun c hc => ?_⟩
  obtain ⟨j, hj⟩ := List.getElem?_of_mem hc
  have h2 := h.2 j (by simp; exact (List.getElem?_eq_some_iff.1 hj).1)
  unfold okAt at h2
  rw [hj] at h2
  simp at h2
  exact h2.1

theorem sized_bd {s : Sched} (h : sizedB s = true) : 1 ≤ s.len ∧ s.len ≤ 512 ∧ 1 ≤ s.offs ∧ s.offs ≤ 16 := by simp [sizedB] at h; omega
theorem formed_bd {s : Sched} {c : Cell} (h : formedB s c = true) : 0 ≤ c.slot ∧ c.slot < s.len ∧ 0 ≤ c.off ∧ c.off < s.offs := by
  simp [formedB, placedB, insB] at h; omega

mutual
theorem fz_okk : ∀ (e : AV) {e' : AV} {k m : Nat}, fz e = some e' → e'.okk k m
  | .int _ _, _, _, _, h => by simp [fz] at h; subst h; trivial
  | .bool _, _, _, _, h => by simp [fz] at h; subst h; trivial
  | .str _, _, _, _, h => by simp [fz] at h; subst h; trivial
  | .nils, _, _, _, h => by simp [fz] at h; subst h; trivial
  | .nilp, _, _, _, h => by simp [fz] at h; subst h; trivial
  | .nili, _, _, _, h => by simp [fz] at h; subst h; trivial
  | .nilm, _, _, _, h => by simp [fz] at h; subst h; trivial
  | .sl _ _, _, _, _, h => by simp [fz] at h; subst h; trivial
  | .own _ _, _, _, _, h => by simp [fz] at h; subst h; trivial
  | .cptr _ _, _, _, _, h => by simp [fz] at h; subst h; trivial
  | .cmp _ _ _, _, _, _, h => by simp [fz] at h; subst h; trivial
  | .fn f caps, e', k, m, h => by
    simp only [fz, Option.map_eq_some_iff] at h
    obtain ⟨x, h1, rfl⟩ := h
    exact fzs_okk' caps h1
  | .agg cs, e', k, m, h => by
    simp only [fz, Option.map_eq_some_iff] at h
    obtain ⟨x, h1, rfl⟩ := h
    exact fzs_okk' cs h1
  | .tup cs, e', k, m, h => by
    simp only [fz, Option.map_eq_some_iff] at h
    obtain ⟨x, h1, rfl⟩ := h
    exact fzs_okk' cs h1
  | .undef, _, _, _, h => by simp [fz] at h
  | .bsl _ _ _ _, _, _, _, h => by simp [fz] at h
  | .vsl _ _ _ _, _, _, _, h => by simp [fz] at h
  | .ptr _ _, _, _, _, h => by simp [fz] at h
  | .yld _, _, _, _, h => by simp [fz] at h
  | .mp _, _, _, _, h => by simp [fz] at h
theorem fzs_okk' : ∀ (es : List AV) {es' : List AV} {k m : Nat}, fzs es = some es' → okks k m es'
  | [], _, _, _, h => by simp [fzs] at h; subst h; trivial
  | e :: es, es', k, m, h => by
    simp only [fzs] at h
    split at h
    · rename_i a b h1 h2
      simp at h; subst h
      exact ⟨fz_okk e h1, fzs_okk' es h2⟩
    · cases h
end
theorem fzs_okk {es : List AV} {k m : Nat} (h : fzs es = some es) : okks k m es := fzs_okk' es h

/-- where a list first meets a condition; -1: nowhere -/
def idxF {α : Type} (p : α → Bool) (l : List α) : Int := if l.any p then (l.findIdx p : Int) else -1

theorem idxF_some {α : Type} {p : α → Bool} {l : List α} {k : Nat} {x : α} (hlt : k < l.length) (hinv : ∀ j y, j < k → l[j]? = some y → p y = false) (hx : l[k]? = some x) (hp : p x = true) : idxF p l = (k : Int) := by
  have hany : l.any p = true := List.any_eq_true.2 ⟨x, List.mem_of_getElem? hx, hp⟩
  have hidx : l.findIdx p = k := by
    rw [List.findIdx_eq hlt]
    obtain ⟨_, rfl⟩ := List.getElem?_eq_some_iff.1 hx
    exact ⟨hp, fun j hj => hinv j _ hj (List.getElem?_eq_getElem (by omega))⟩
  simp [idxF, hany, hidx]
theorem idxF_none {α : Type} {p : α → Bool} {l : List α} (hinv : ∀ j y, j < l.length → l[j]? = some y → p y = false) : idxF p l = -1 := by
  have hany : l.any p = false := by
    rw [List.any_eq_false]
    intro x hx
    obtain ⟨j, hj⟩ := List.getElem?_of_mem hx
    simp [hinv j x (List.getElem?_eq_some_iff.1 hj).1 hj]
  simp [idxF, hany]
theorem idxF_any {α : Type} (p : α → Bool) (l : List α) : decide (0 ≤ idxF p l) = l.any p := by
  unfold idxF
  cases h : l.any p <;> simp
end HM

/- Masks as plain numbers. -/
namespace HM
open Go Go.RowKit

def outB (offs m : Int) : Bool := decide (m < 0) || decide (2 ^ offs.toNat ≤ m)
def checkM (f : List Int) (len offs : Int) : Int :=
  if len < 1 ∨ 512 < len ∨ offs < 1 ∨ 16 < offs then 2 else if (f.length : Int) ≠ len then 11 else if f.any (outB offs) then 2 else 0

theorem pow_le62 {n : Nat} (h : n ≤ 62) : (2 : Int) ^ n ≤ 4611686018427387904 := by
  have : (2 : Nat) ^ n ≤ 2 ^ 62 := Nat.pow_le_pow_right (by omega) h
  have h2 : ((2 ^ n : Nat) : Int) ≤ ((2 ^ 62 : Nat) : Int) := Int.ofNat_le.2 this
  simpa using h2
theorem pow_pos' (n : Nat) : (1 : Int) ≤ 2 ^ n := by
  have : 0 < (2 : Nat) ^ n := Nat.pos_of_ne_zero (by simp)
  have h2 : ((1 : Nat) : Int) ≤ ((2 ^ n : Nat) : Int) := Int.ofNat_le.2 this
  simpa using h2
theorem shl1 {n : Int} (h0 : 0 ≤ n) (h1 : n ≤ 62) : IntKind.i64.wrap (1 * 2 ^ (min n.toNat IntKind.i64.bits)) = 2 ^ n.toNat := by
  have hb : IntKind.i64.bits = 64 := rfl
  have hm : min n.toNat 64 = n.toNat := by omega
  have h2 := pow_le62 (n := n.toNat) (by omega)
  have h3 := pow_pos' n.toNat
  rw [hb, hm, Int.one_mul, w64 (by omega) (by omega)]

theorem ofInt_toNat {x : Int} (h0 : 0 ≤ x) (h1 : x < 18446744073709551616) : (BitVec.ofInt 64 x).toNat = x.toNat := by
  rw [BitVec.toNat_ofInt]
  have : x % ((2 ^ 64 : Nat) : Int) = x := Int.emod_eq_of_lt h0 (by simpa using h1)
  rw [this]

theorem and1 {x : Int} (h0 : 0 ≤ x) (h1 : x ≤ 9223372036854775807) : IntKind.i64.wrap ((BitVec.ofInt IntKind.i64.bits x &&& BitVec.ofInt IntKind.i64.bits 1).toNat) = x % 2 := by
  have hb : IntKind.i64.bits = 64 := rfl
  rw [hb, BitVec.toNat_and, ofInt_toNat h0 (by omega), ofInt_toNat (by omega) (by omega)]
  rw [show (1 : Int).toNat = 1 from rfl, Nat.and_one_is_mod]
  rw [w64 (by omega) (by omega)]
  omega

def bitI (m : Int) (k : Nat) : Int := (m / 2 ^ k) % 2
theorem bitI_lt (m : Int) (k : Nat) : 0 ≤ bitI m k ∧ bitI m k ≤ 1 := by unfold bitI; omega
theorem shr_and {m : Int} {k : Nat} (h0 : 0 ≤ m) (h1 : m ≤ 9223372036854775807) (hk : k < 64) :
    IntKind.i64.wrap ((BitVec.ofInt IntKind.i64.bits (m.fdiv (2 ^ (min ((k : Int).toNat) IntKind.i64.bits))) &&& BitVec.ofInt IntKind.i64.bits 1).toNat) = bitI m k := by
  have hb : IntKind.i64.bits = 64 := rfl
  have hm : min ((k : Int).toNat) 64 = k := by omega
  have h3 := pow_pos' k
  have he : m.fdiv (2 ^ k) = m / 2 ^ k := Int.fdiv_eq_ediv_of_nonneg _ (by omega)
  have h4 : 0 ≤ m / 2 ^ k := Int.ediv_nonneg h0 (by omega)
  have h5 : m / 2 ^ k ≤ m := Int.ediv_le_self _ h0
  rw [show min ((k : Int).toNat) IntKind.i64.bits = k from hm, he]
  exact and1 h4 (by omega)

/-- how many of the lowest bits are set -/
def bitsTo (m : Int) : Nat → Int
  | 0 => 0
  | n + 1 => bitsTo m n + bitI m n
def sumI {α : Type} (f : α → Int) : List α → Int
  | [] => 0
  | x :: l => f x + sumI f l
theorem sumI_append {α : Type} (f : α → Int) (a b : List α) : sumI f (a ++ b) = sumI f a + sumI f b := by
  induction a with
  | nil => simp [sumI]
  | cons x a ih => simp [sumI, ih]; omega
theorem take_succ {α : Type} {l : List α} {k : Nat} {x : α} (h : l[k]? = some x) : l.take (k + 1) = l.take k ++ [x] := by
  rw [List.take_add_one, h]; rfl
theorem sumI_take {α : Type} {f : α → Int} {l : List α} {k : Nat} {x : α} (h : l[k]? = some x) : sumI f (l.take (k + 1)) = sumI f (l.take k) + f x := by
  rw [take_succ h, sumI_append]; simp [sumI]
def countM (f : List Int) : Int := if 512 < f.length then 0 else if f.any (outB 16) then 0 else sumI (fun m => bitsTo m 16) f

theorem bitsTo_le (m : Int) : ∀ n, 0 ≤ bitsTo m n ∧ bitsTo m n ≤ n
  | 0 => by simp [bitsTo]
  | n + 1 => by
    have h1 := bitsTo_le m n
    have h2 := bitI_lt m n
    simp only [bitsTo]
    omega
theorem sumI_bd {α : Type} {f : α → Int} {c : Int} (hc : 0 ≤ c) : ∀ l : List α, (∀ x ∈ l, 0 ≤ f x ∧ f x ≤ c) → 0 ≤ sumI f l ∧ sumI f l ≤ c * l.length
  | [], _ => by simp [sumI]
  | x :: l, h => by
    have h1 := sumI_bd hc l fun y hy => h y (by simp [hy])
    have h2 := h x (by simp)
    simp only [sumI, List.length_cons]
    have : c * ((l.length + 1 : Nat) : Int) = c * l.length + c := by rw [Int.natCast_add, Int.mul_add]; simp
    omega
theorem inB16 (m : Int) : inB m 0 65535 = !outB 16 m := by
  rw [Bool.eq_iff_iff]
  simp [inB, outB]
  omega
end HM

/- Rows of numbers that are written; bits cleared. -/
namespace HM
open Go Go.RowKit

theorem rowI_ld {l : List Int} {i : Int} {x : Int} (h : l[i.toNat]? = some x) (n : Nat) (hn : n = 1) : (l.map encI)[0 + i.toNat * n]? = some (encI x) := by
  subst hn; rw [Nat.zero_add, Nat.mul_one, List.getElem?_map, h]; rfl
theorem rowI_st (l : List Int) (i v : Int) (n : Nat) (hn : n = 1) : splice (l.map encI) (0 + i.toNat * n) [encI v] = (l.set i.toNat v).map encI := by
  subst hn; rw [Nat.zero_add, Nat.mul_one, splice_one, List.map_set]
theorem rowI_okk (k m : Nat) : ∀ l : List Int, okks k m (l.map encI)
  | [] => trivial
  | _ :: l => ⟨trivial, rowI_okk k m l⟩
theorem rowI_oko (k m : Nat) (l : List Int) (t : TypeId) : Ob.okk k m (.cells (l.map encI) t) := rowI_okk k m l
theorem rowI_fit {i : Int} {l : List Int} (h0 : 0 ≤ i) (h : i < l.length) (n : Nat) (hn : n = 1) (m : Nat) (hm : m = 1) : 0 + i.toNat * n + m ≤ (l.map encI).length := by
  subst hn; subst hm; rw [List.length_map]; omega

theorem fzs_rowI : ∀ l : List Int, fzs (l.map encI) = some (l.map encI)
  | [] => rfl
  | x :: l => by
    have h := fzs_rowI l
    show (match fz (encI x), fzs (l.map encI) with | some a, some b => some (a :: b) | _, _ => none) = _
    rw [h]; rfl
theorem rowI_fzb {S : St} {id n : Nat} {l : List Int} {t : TypeId} (h : S.bx[id]? = some (.cells (l.map encI) t)) (hn : l.length = n) : fzb S (.bsl id 0 n 1) = some (encIs l) := by
  subst hn
  unfold fzb
  rw [h]
  simp only [if_true, Nat.zero_add, List.length_map, Nat.le_refl, List.drop_zero]
  rw [List.take_of_length_le (by simp), fzs_rowI]
  simp only [Option.bind_some]
  rw [if_pos (by simp [encI, AV.isCell])]
  rfl

theorem set_rep {n k : Nat} (a b : Int) (h : k < n) : (List.replicate k a ++ List.replicate (n - k) b).set k a = List.replicate (k + 1) a ++ List.replicate (n - (k + 1)) b := by
  have e : n - k = (n - (k + 1)) + 1 := by omega
  rw [List.set_append_right _ _ (by simp), List.length_replicate, Nat.sub_self, e, List.replicate_succ, List.set_cons_zero, List.replicate_succ']
  simp

/-- a number with a bit cleared -/
def clrI (m : Int) (k : Nat) : Int := if bitI m k = 1 then m - 2 ^ k else m

theorem bv_andNot (a b : BitVec 64) : (a &&& ~~~b).toNat = a.toNat - (a.toNat &&& b.toNat) := by
  have h1 : (a &&& b) + (a &&& ~~~b) = a := by
    rw [BitVec.add_eq_or_of_and_eq_zero]
    · ext i hi
      simp only [BitVec.getElem_or, BitVec.getElem_and, BitVec.getElem_not]
      cases a[i] <;> cases b[i] <;> rfl
    · ext i hi
      simp only [BitVec.getElem_and, BitVec.getElem_not, BitVec.getElem_zero]
      cases a[i] <;> cases b[i] <;> rfl
  have h2 := congrArg BitVec.toNat h1
  rw [BitVec.toNat_add, BitVec.toNat_and] at h2
  have h3 : (a &&& ~~~b).toNat ≤ a.toNat := by rw [BitVec.toNat_and]; exact Nat.and_le_left
  have h4 : a.toNat &&& b.toNat ≤ a.toNat := Nat.and_le_left
  have h5 := a.isLt
  by_cases h6 : (a.toNat &&& b.toNat) + (a &&& ~~~b).toNat < 2 ^ 64
  · rw [Nat.mod_eq_of_lt h6] at h2; omega
  · have h7 : ((a.toNat &&& b.toNat) + (a &&& ~~~b).toNat) % 2 ^ 64 = (a.toNat &&& b.toNat) + (a &&& ~~~b).toNat - 2 ^ 64 := by
      rw [Nat.mod_eq_sub_mod (by omega), Nat.mod_eq_of_lt (by omega)]
    rw [h7] at h2; omega

theorem and_pow (m k : Nat) : m &&& 2 ^ k = if m / 2 ^ k % 2 = 1 then 2 ^ k else 0 := by
  apply Nat.eq_of_testBit_eq
  intro i
  rw [Nat.testBit_and, Nat.testBit_two_pow]
  by_cases h : m / 2 ^ k % 2 = 1
  · rw [if_pos h, Nat.testBit_two_pow]
    by_cases hi : k = i
    · subst hi; rw [Nat.testBit_eq_decide_div_mod_eq]; simp [h]
    · simp [hi]
  · rw [if_neg h]
    by_cases hi : k = i
    · subst hi; rw [Nat.testBit_eq_decide_div_mod_eq]; simp; omega
    · simp [hi]

theorem andNot_clr {m : Int} {k : Nat} (h0 : 0 ≤ m) (h1 : m ≤ 9223372036854775807) (hk : k ≤ 62) :
    IntKind.i64.wrap ((BitVec.ofInt IntKind.i64.bits m &&& ~~~BitVec.ofInt IntKind.i64.bits (2 ^ k)).toNat) = clrI m k := by
  have hb : IntKind.i64.bits = 64 := rfl
  have h2 := pow_le62 (n := k) hk
  have h3 := pow_pos' k
  have e2 : ((2 : Int) ^ k).toNat = 2 ^ k := by
    have : ((2 ^ k : Nat) : Int) = (2 : Int) ^ k := by simp
    rw [← this, Int.toNat_natCast]
  rw [hb, bv_andNot, ofInt_toNat h0 (by omega), ofInt_toNat (by omega) (by omega), e2, and_pow]
  obtain ⟨M, rfl⟩ : ∃ M : Nat, m = M := ⟨m.toNat, by omega⟩
  rw [Int.toNat_natCast]
  have hbit : bitI (M : Int) k = ((M / 2 ^ k % 2 : Nat) : Int) := by simp [bitI]
  unfold clrI
  rw [hbit]
  by_cases h : M / 2 ^ k % 2 = 1
  · have hge : 2 ^ k ≤ M := by
      rcases Nat.lt_or_ge M (2 ^ k) with hlt | hge
      · rw [Nat.div_eq_of_lt hlt] at h; omega
      · exact hge
    rw [if_pos h, if_pos (by rw [h]; rfl), Int.ofNat_sub hge]
    have : ((2 ^ k : Nat) : Int) = (2 : Int) ^ k := by simp
    rw [this, w64 (by omega) (by omega)]
  · rw [if_neg h, if_neg (by omega), Nat.sub_zero, w64 (by omega) (by omega)]

/-- the masks of a schedule -/
def fullI (s : Sched) : Int := 2 ^ s.offs.toNat - 1
def maskStep (f : List Int) (c : Cell) : List Int := f.set c.slot.toNat (clrI (f.getD c.slot.toNat 0) c.off.toNat)
def maskM (s : Sched) (l : List Cell) : List Int := l.foldl maskStep (List.replicate s.len.toNat (fullI s))
theorem maskM_take {s : Sched} {l : List Cell} {k : Nat} {c : Cell} (h : l[k]? = some c) : maskM s (l.take (k + 1)) = maskStep (maskM s (l.take k)) c := by
  rw [take_succ h, maskM, List.foldl_append]; rfl
theorem maskM_len (s : Sched) (l : List Cell) : (maskM s l).length = s.len.toNat := by
  suffices ∀ f : List Int, (l.foldl maskStep f).length = f.length by simpa [maskM] using this (List.replicate s.len.toNat (fullI s))
  induction l with
  | nil => simp
  | cons c l ih => intro f; rw [List.foldl_cons, ih]; simp [maskStep]
theorem clrI_bd {m : Int} {k : Nat} {B : Int} (h : 0 ≤ m ∧ m ≤ B) : 0 ≤ clrI m k ∧ clrI m k ≤ B := by
  unfold clrI
  split
  · rename_i hb
    have hp := pow_pos' k
    have : 2 ^ k ≤ m := by
      rcases Int.lt_or_le m (2 ^ k) with hlt | hge
      · unfold bitI at hb
        rw [Int.ediv_eq_zero_of_lt h.1 hlt] at hb; omega
      · exact hge
    omega
  · exact h
theorem maskM_bd (s : Sched) (l : List Cell) : ∀ x ∈ maskM s l, 0 ≤ x ∧ x ≤ fullI s := by
  have hp := pow_pos' s.offs.toNat
  suffices ∀ f : List Int, (∀ x ∈ f, 0 ≤ x ∧ x ≤ fullI s) → ∀ x ∈ l.foldl maskStep f, 0 ≤ x ∧ x ≤ fullI s from
    this _ (fun x hx => by rw [List.eq_of_mem_replicate hx]; unfold fullI; omega)
  induction l with
  | nil => intro f h; simpa using h
  | cons c l ih =>
    intro f h
    rw [List.foldl_cons]
    refine ih _ fun x hx => ?_
    rcases List.mem_or_eq_of_mem_set hx with hx | rfl
    · exact h x hx
    · refine clrI_bd ?_
      rw [List.getD_eq_getElem?_getD]
      by_cases hlt : c.slot.toNat < f.length
      · rw [List.getElem?_eq_getElem hlt]; exact h _ (List.getElem_mem hlt)
      · rw [List.getElem?_eq_none (by omega)]
        simp only [Option.getD_none]; unfold fullI; omega
end HM

/- Places, in plain words. -/
namespace HM
open Go Go.RowKit

def busyC (slot node : Int) (c : Cell) : Bool := c.slot == slot && (c.src == node || c.dst == node)
def busyAt (l : List Cell) (slot node : Int) : Bool := l.any (busyC slot node)
def takenC (slot off : Int) (c : Cell) : Bool := c.slot == slot && c.off == off
def takenAt (l : List Cell) (slot off : Int) : Bool := l.any (takenC slot off)
def slotBusy (s : Sched) (used : List Cell) (src dst i : Int) : Bool := busyAt s.cells i src || busyAt s.cells i dst || busyAt used i src || busyAt used i dst
def bitAt (f : List Int) (i j : Nat) : Bool := bitI (f.getD i 0) j == 1
def openAt (s : Sched) (f : List Int) (used : List Cell) (src dst : Int) (i j : Nat) : Bool := !slotBusy s used src dst i && (bitAt f i j && !takenAt used i j)

def firstP (n o : Nat) (p : Nat → Nat → Bool) : Option (Nat × Nat) :=
  match (List.range n).find? (fun i => (List.range o).any (p i)) with
  | none => none
  | some i => ((List.range o).find? (p i)).map fun j => (i, j)

theorem find_range {n i : Nat} {p : Nat → Bool} (hi : i < n) (hp : p i = true) (hb : ∀ j, j < i → p j = false) : (List.range n).find? p = some i := by
  rw [List.find?_range_eq_some]
  exact ⟨hp, by simpa using hi, fun j hj => by simp [hb j hj]⟩

theorem firstP_some {n o i j : Nat} {p : Nat → Nat → Bool} (hi : i < n) (hj : j < o) (hp : p i j = true) (hb : ∀ i' j', i' < i → j' < o → p i' j' = false) (hc : ∀ j', j' < j → p i j' = false) : firstP n o p = some (i, j) := by
  unfold firstP
  rw [find_range hi (by rw [List.any_eq_true]; exact ⟨j, by simpa using hj, hp⟩) (fun i' h => by
    rw [List.any_eq_false]
    intro j' hj'
    simp [hb i' j' h (by simpa using hj')])]
  simp only
  rw [find_range hj hp hc]; rfl
theorem firstP_none {n o : Nat} {p : Nat → Nat → Bool} (hb : ∀ i' j', i' < n → j' < o → p i' j' = false) : firstP n o p = none := by
  unfold firstP
  have : (List.range n).find? (fun i => (List.range o).any (p i)) = none := by
    rw [List.find?_eq_none]
    intro i hi
    simp only [Bool.not_eq_true, List.any_eq_false]
    intro j hj
    simp [hb i j (by simpa using hi) (by simpa using hj)]
  rw [this]

def Cell.zero : Cell := ⟨0, 0, 0, 0, 0⟩
def placeR (src dst : Int) : Option (Nat × Nat) → Cell × Int
  | some (i, j) => (⟨i, j, src, dst, 0⟩, 0)
  | none => (Cell.zero, 13)
def takeM (s : Sched) (f : List Int) (used : List Cell) (src dst : Int) : Cell × Int :=
  if formB s = false ∨ checkM f s.len s.offs ≠ 0 then (Cell.zero, 1)
  else if insB src 32 = false ∨ insB dst 32 = false ∨ src = dst then (Cell.zero, 2)
  else if 1024 < used.length then (Cell.zero, 8)
  else placeR src dst (firstP s.len.toNat s.offs.toNat (openAt s f used src dst))
end HM

/- Arguments as schedules, masks, cells. -/
namespace HM
open Go Go.RowKit

def tI : Ty := .int .i64
def tCell : Ty := .st [tI, tI, tI, tI, tI]
def tSched : Ty := .st [tI, tI, .sl tCell]
def I64b (n : Int) : Prop := -9223372036854775808 ≤ n ∧ n ≤ 9223372036854775807

theorem sh_int {l : List AV} (h : tI.sh l) : ∃ n, l = [.int .i64 n] ∧ I64b n := by
  obtain ⟨n, rfl, hw⟩ := h
  refine ⟨n, rfl, ?_⟩
  simp only [Lit.wf, Bool.and_eq_true, decide_eq_true_eq] at hw
  exact hw
theorem sh_cell {l : List AV} (h : tCell.sh l) : ∃ c : Cell, l = [.int .i64 c.slot, .int .i64 c.off, .int .i64 c.src, .int .i64 c.dst, .int .i64 c.flow] := by
  obtain ⟨_, _, rfl, _, h1, _, _, rfl, _, h2, _, _, rfl, _, h3, _, _, rfl, _, h4, _, _, rfl, _, h5, h6⟩ := h
  obtain ⟨a, rfl, _⟩ := sh_int h1
  obtain ⟨b, rfl, _⟩ := sh_int h2
  obtain ⟨c, rfl, _⟩ := sh_int h3
  obtain ⟨d, rfl, _⟩ := sh_int h4
  obtain ⟨e, rfl, _⟩ := sh_int h5
  obtain rfl := h6
  exact ⟨⟨a, b, c, d, e⟩, rfl⟩
theorem list_of {α : Type} {d : Ty} {f : α → AV} (h : ∀ l, d.sh l → ∃ x, d.mk l = f x) : ∀ els : List (List AV), (∀ c ∈ els, d.sh c ∧ c.length = d.n) → ∃ xs : List α, els.map d.mk = xs.map f ∧ xs.length = els.length
  | [], _ => ⟨[], rfl, rfl⟩
  | c :: els, hc => by
    obtain ⟨x, hx⟩ := h c (hc c (by simp)).1
    obtain ⟨xs, h1, h2⟩ := list_of h els (fun c hm => hc c (by simp [hm]))
    exact ⟨x :: xs, by simp [hx, h1], by simp [h2]⟩
theorem sh_cells {l : List AV} (h : (Ty.sl tCell).sh l) : ∃ cs : List Cell, l = [encCells cs] ∧ cs.length ≤ 140737488355328 := by
  obtain ⟨els, rfl, h1, h2⟩ := h
  obtain ⟨cs, h3, h4⟩ := list_of (f := Cell.av) (fun l hl => by
    obtain ⟨c, rfl⟩ := sh_cell hl
    exact ⟨c, rfl⟩) els h1
  exact ⟨cs, by rw [h3]; rfl, by omega⟩
theorem sh_ints {l : List AV} (h : (Ty.sl tI).sh l) : ∃ f : List Int, l = [encIs f] ∧ f.length ≤ 140737488355328 := by
  obtain ⟨els, rfl, h1, h2⟩ := h
  obtain ⟨cs, h3, h4⟩ := list_of (f := encI) (fun l hl => by
    obtain ⟨c, rfl, _⟩ := sh_int hl
    exact ⟨c, rfl⟩) els h1
  exact ⟨cs, by rw [h3]; rfl, by omega⟩
theorem sh_sched {l : List AV} (h : tSched.sh l) : ∃ s : Sched, l = [.int .i64 s.len, .int .i64 s.offs, encCells s.cells] := by
  obtain ⟨_, _, rfl, _, h1, _, _, rfl, _, h2, _, _, rfl, _, h3, h6⟩ := h
  obtain ⟨a, rfl, _⟩ := sh_int h1
  obtain ⟨b, rfl, _⟩ := sh_int h2
  obtain ⟨c, rfl, _⟩ := sh_cells h3
  obtain rfl := h6
  exact ⟨⟨a, b, c⟩, rfl⟩
theorem sh1 {d1 : Ty} : ∀ {es : List AV}, shArgs [d1] es → ∃ l1, es = [d1.mk l1] ∧ d1.sh l1
  | [e1], h => by
    obtain ⟨⟨l1, h1, rfl⟩, _⟩ := h
    exact ⟨l1, rfl, h1⟩
  | [], h => by simp [shArgs] at h
  | _ :: _ :: _, h => by simp [shArgs] at h
theorem sh4 {d1 d2 d3 d4 : Ty} : ∀ {es : List AV}, shArgs [d1, d2, d3, d4] es → ∃ l1 l2 l3 l4, es = [d1.mk l1, d2.mk l2, d3.mk l3, d4.mk l4] ∧ d1.sh l1 ∧ d2.sh l2 ∧ d3.sh l3 ∧ d4.sh l4
  | [e1, e2, e3, e4], h => by
    obtain ⟨⟨l1, h1, rfl⟩, ⟨l2, h2, rfl⟩, ⟨l3, h3, rfl⟩, ⟨l4, h4, rfl⟩, _⟩ := h
    exact ⟨l1, l2, l3, l4, rfl, h1, h2, h3, h4⟩
  | [], h => by simp [shArgs] at h
  | [_], h => by simp [shArgs] at h
  | [_, _], h => by simp [shArgs] at h
  | [_, _, _], h => by simp [shArgs] at h
  | _ :: _ :: _ :: _ :: _ :: _, h => by simp [shArgs] at h
theorem sh5 {d1 d2 d3 d4 d5 : Ty} : ∀ {es : List AV}, shArgs [d1, d2, d3, d4, d5] es → ∃ l1 l2 l3 l4 l5, es = [d1.mk l1, d2.mk l2, d3.mk l3, d4.mk l4, d5.mk l5] ∧ d1.sh l1 ∧ d2.sh l2 ∧ d3.sh l3 ∧ d4.sh l4 ∧ d5.sh l5
  | [e1, e2, e3, e4, e5], h => by
    obtain ⟨⟨l1, h1, rfl⟩, ⟨l2, h2, rfl⟩, ⟨l3, h3, rfl⟩, ⟨l4, h4, rfl⟩, ⟨l5, h5, rfl⟩, _⟩ := h
    exact ⟨l1, l2, l3, l4, l5, rfl, h1, h2, h3, h4, h5⟩
  | [], h => by simp [shArgs] at h
  | [_], h => by simp [shArgs] at h
  | [_, _], h => by simp [shArgs] at h
  | [_, _, _], h => by simp [shArgs] at h
  | [_, _, _, _], h => by simp [shArgs] at h
  | _ :: _ :: _ :: _ :: _ :: _ :: _, h => by simp [shArgs] at h
end HM

/- Networks, flows and routes as plain data, and what the code computes of them. -/
namespace HM
open Go Go.RowKit

structure Link where
  src : Int
  dst : Int
  loss : Int
  deriving DecidableEq
def Link.av (l : Link) : AV := .agg [.int .i64 l.src, .int .i64 l.dst, .int .i64 l.loss]
def encLinks (l : List Link) : AV := .sl false (l.map Link.av)
structure Net where
  nodes : Int
  power : List (List Int)
  noise : Int
  thr : Int
  links : List Link
  margin : List Int
def encRows (l : List (List Int)) : AV := .sl false (l.map encIs)
def Net.cs (n : Net) : List AV := [.int .i64 n.nodes, encRows n.power, .int .i64 n.noise, .int .i64 n.thr, encLinks n.links, encIs n.margin]
def Net.av (n : Net) : AV := .agg [.int .i64 n.nodes, encRows n.power, .int .i64 n.noise, .int .i64 n.thr, encLinks n.links, encIs n.margin]
structure Flow where
  id : Int
  src : Int
  dst : Int
  period : Int
  phase : Int
  dead : Int
  deriving DecidableEq
def Flow.av (f : Flow) : AV := .agg [.int .i64 f.id, .int .i64 f.src, .int .i64 f.dst, .int .i64 f.period, .int .i64 f.phase, .int .i64 f.dead]
def encFlows (l : List Flow) : AV := .sl false (l.map Flow.av)

-- the first fault of many

def firstE (f : Nat → Int) : Nat → Int
  | 0 => 0
  | k + 1 => if firstE f k = 0 then f k else firstE f k
theorem firstE_zero {f : Nat → Int} : ∀ {n : Nat}, (∀ j, j < n → f j = 0) → firstE f n = 0
  | 0, _ => rfl
  | n + 1, h => by rw [firstE, firstE_zero fun j hj => h j (by omega), if_pos rfl]; exact h n (by omega)
theorem firstE_hit {f : Nat → Int} {k : Nat} (h0 : ∀ j, j < k → f j = 0) (he : f k ≠ 0) : ∀ {n : Nat}, k < n → firstE f n = f k
  | 0, h => by omega
  | n + 1, h => by
    rw [firstE]
    by_cases e : k = n
    · subst e; rw [firstE_zero h0, if_pos rfl]
    · rw [firstE_hit h0 he (n := n) (by omega), if_neg he]
theorem firstE_spec {f : Nat → Int} : ∀ {n : Nat}, firstE f n = 0 ↔ ∀ j, j < n → f j = 0
  | 0 => by simp [firstE]
  | n + 1 => by
    rw [firstE]
    constructor
    · intro h j hj
      by_cases h0 : firstE f n = 0
      · rw [if_pos h0] at h
        rcases Nat.lt_succ_iff_lt_or_eq.1 hj with hl | rfl
        · exact firstE_spec.1 h0 j hl
        · exact h
      · rw [if_neg h0] at h; exact absurd h h0
    · intro h
      rw [if_pos (firstE_spec.2 fun j hj => h j (by omega))]
      exact h n (by omega)
theorem firstE_congr {f g : Nat → Int} {n : Nat} (h : ∀ j, j < n → f j = g j) : firstE f n = firstE g n := by
  induction n with
  | zero => rfl
  | succ n ih => rw [firstE, firstE, ih fun j hj => h j (by omega), h n (by omega)]

-- networks

def Link.key (l : Link) : List Int := [l.src, l.dst]
def Link.cmp (a b : Link) : Int := cmpL a.key b.key
def powAt (n : Net) (a b : Int) : Int := (n.power.getD a.toNat []).getD b.toNat 0
def badP (x : Int) : Bool := decide (x < 0) || decide (68719476736 < x)
def powerE (n : Net) : Int :=
  if (n.power.length : Int) ≠ n.nodes ∨ n.power.any (fun r => (r.length : Int) != n.nodes) then 1
  else if n.power.any (fun r => r.any badP) then 2 else 0
def linkR (n : Net) (l : Link) : Bool := insB l.src n.nodes && insB l.dst n.nodes && decide (l.src ≠ l.dst) && decide (0 ≤ l.loss) && decide (l.loss ≤ 7)
def linkO (n : Net) (i : Nat) (l : Link) : Bool := match i with
  | 0 => true
  | j + 1 => match n.links[j]? with
    | some p => decide (p.cmp l < 0)
    | none => true
def linkE (n : Net) (i : Nat) : Int := match n.links[i]? with
  | none => 0
  | some l => if linkR n l = false then 2 else if linkO n i l = false then 5
    else if n.margin.getD i 0 < 0 ∨ powAt n l.src l.dst < n.margin.getD i 0 then 2 else 0
def netE (n : Net) : Int :=
  if n.nodes < 2 ∨ 32 < n.nodes then 2
  else if powerE n ≠ 0 then powerE n
  else if n.noise < 0 ∨ 68719476736 < n.noise ∨ n.thr < 1000 ∨ 100000 < n.thr then 2
  else if 128 < n.links.length then 8
  else if n.margin.length ≠ n.links.length then 11
  else firstE (linkE n) n.links.length

structure NetOk (n : Net) : Prop where
  nodes : 2 ≤ n.nodes ∧ n.nodes ≤ 32
  rows : (n.power.length : Int) = n.nodes
  row : ∀ r ∈ n.power, (r.length : Int) = n.nodes
  pow : ∀ r ∈ n.power, ∀ x ∈ r, 0 ≤ x ∧ x ≤ 68719476736
  noise : 0 ≤ n.noise ∧ n.noise ≤ 68719476736
  thr : 1000 ≤ n.thr ∧ n.thr ≤ 100000
  many : n.links.length ≤ 128
  mar : n.margin.length = n.links.length
  link : ∀ i l, n.links[i]? = some l → linkR n l = true ∧ linkO n i l = true ∧ 0 ≤ n.margin.getD i 0 ∧ n.margin.getD i 0 ≤ powAt n l.src l.dst

theorem powerE_ok {n : Net} (h : powerE n = 0) : (n.power.length : Int) = n.nodes ∧ (∀ r ∈ n.power, (r.length : Int) = n.nodes) ∧ ∀ r ∈ n.power, ∀ x ∈ r, 0 ≤ x ∧ x ≤ 68719476736 := by
  unfold powerE at h
  split at h
  · cases h
  · rename_i h1
    split at h
    · cases h
    · rename_i h2
      simp only [not_or, ne_eq, Decidable.not_not, Bool.not_eq_true, List.any_eq_false, bne_iff_ne] at h1 h2
      refine ⟨h1.1, h1.2, fun r hr x hx => ?_⟩
      have := h2 r hr x hx
      simp [badP] at this
      omega

theorem powAt_bd {n : Net} (h : ∀ r ∈ n.power, ∀ x ∈ r, 0 ≤ x ∧ x ≤ 68719476736) (a b : Int) : 0 ≤ powAt n a b ∧ powAt n a b ≤ 68719476736 := by
  unfold powAt
  rw [List.getD_eq_getElem?_getD, List.getD_eq_getElem?_getD]
  cases h1 : n.power[a.toNat]? with
  | none => simp
  | some r =>
    simp only [Option.getD_some]
    cases h2 : r[b.toNat]? with
    | none => simp
    | some x => exact h r (List.mem_of_getElem? h1) x (List.mem_of_getElem? h2)

theorem netE_ok {n : Net} (h : netE n = 0) : NetOk n := by
  unfold netE at h
  split at h
  · cases h
  split at h
  · contradiction
  split at h
  · cases h
  split at h
  · cases h
  split at h
  · cases h
  rename_i h1 h2 h3 h4 h5
  obtain ⟨p1, p2, p3⟩ := powerE_ok (Decidable.not_not.1 h2)
  refine ⟨by omega, p1, p2, p3, by omega, by omega, by omega, by omega, fun i l hl => ?_⟩
  have hi := (List.getElem?_eq_some_iff.1 hl).1
  have := firstE_spec.1 h i hi
  unfold linkE at this
  rw [hl] at this
  simp only at this
  split at this
  · cases this
  split at this
  · cases this
  split at this
  · cases this
  rename_i g1 g2 g3
  exact ⟨by simpa using g1, by simpa using g2, by omega, by omega⟩

theorem linkR_bd {n : Net} {l : Link} (h : linkR n l = true) : 0 ≤ l.src ∧ l.src < n.nodes ∧ 0 ≤ l.dst ∧ l.dst < n.nodes ∧ l.src ≠ l.dst ∧ 0 ≤ l.loss ∧ l.loss ≤ 7 := by
  simp [linkR, insB] at h; omega

-- sorted lists

theorem cmpI_lt {x y : Int} : cmpI x y < 0 ↔ x < y := by
  unfold cmpI
  by_cases h : x < y
  · simp [h]
  · by_cases h2 : y < x <;> simp [h, h2]
theorem cmpI_eq {x y : Int} : cmpI x y = 0 ↔ x = y := by
  unfold cmpI
  by_cases h : x < y
  · simp [h]; omega
  · by_cases h2 : y < x
    · simp [h, h2]; omega
    · simp [h, h2]; omega
theorem cmpI_bd (x y : Int) : -1 ≤ cmpI x y ∧ cmpI x y ≤ 1 := by
  unfold cmpI
  by_cases h : x < y
  · simp [h]
  · by_cases h2 : y < x <;> simp [h, h2]
theorem cmpL_bd : ∀ (xs ys : List Int), -1 ≤ cmpL xs ys ∧ cmpL xs ys ≤ 1
  | [], [] => by simp [cmpL]
  | [], _ :: _ => by simp [cmpL]
  | _ :: _, [] => by simp [cmpL]
  | x :: xs, y :: ys => by
    unfold cmpL
    split
    · exact cmpL_bd xs ys
    · exact cmpI_bd x y
theorem cmpL_eq : ∀ {xs ys : List Int}, cmpL xs ys = 0 ↔ xs = ys
  | [], [] => by simp [cmpL]
  | [], _ :: _ => by simp [cmpL]
  | _ :: _, [] => by simp [cmpL]
  | x :: xs, y :: ys => by
    unfold cmpL
    split
    · rename_i h
      rw [cmpI_eq] at h
      simp [h, cmpL_eq (xs := xs) (ys := ys)]
    · rename_i h
      have h2 : x ≠ y := fun e => h (cmpI_eq.2 e)
      simp [h, h2]
theorem cmpL_trans : ∀ {xs ys zs : List Int}, cmpL xs ys < 0 → cmpL ys zs < 0 → cmpL xs zs < 0
  | [], [], _, h, _ => by simp [cmpL] at h
  | [], _ :: _, [], _, h => by simp [cmpL] at h
  | [], _ :: _, _ :: _, _, _ => by simp [cmpL]
  | _ :: _, [], _, h, _ => by simp [cmpL] at h
  | _ :: _, _ :: _, [], _, h => by simp [cmpL] at h
  | x :: xs, y :: ys, z :: zs, h1, h2 => by
    unfold cmpL at h1 h2 ⊢
    split at h1
    · rename_i e1
      rw [cmpI_eq] at e1; subst e1
      split at h2
      · rename_i e2
        rw [if_pos e2]; exact cmpL_trans h1 h2
      · rename_i e2
        rw [if_neg e2]; exact h2
    · rename_i e1
      rw [cmpI_lt] at h1
      split at h2
      · rename_i e2
        rw [cmpI_eq] at e2; subst e2
        rw [if_neg (fun e => by rw [cmpI_eq] at e; omega), cmpI_lt]; exact h1
      · rename_i e2
        rw [cmpI_lt] at h2
        rw [if_neg (fun e => by rw [cmpI_eq] at e; omega), cmpI_lt]; omega
theorem cmpL_anti : ∀ {xs ys : List Int}, cmpL xs ys < 0 ↔ 0 < cmpL ys xs
  | [], [] => by simp [cmpL]
  | [], _ :: _ => by simp [cmpL]
  | _ :: _, [] => by simp [cmpL]
  | x :: xs, y :: ys => by
    unfold cmpL
    by_cases e : x = y
    · subst e
      rw [if_pos (cmpI_eq.2 rfl), if_pos (cmpI_eq.2 rfl)]; exact cmpL_anti
    · rw [if_neg (fun h => e (cmpI_eq.1 h)), if_neg (fun h => e (cmpI_eq.1 h).symm)]
      unfold cmpI
      by_cases h1 : x < y
      · have h2 : ¬ y < x := by omega
        simp [h1, h2]
      · have h2 : y < x := by omega
        simp [h1, h2]

/-- neighbours in order: all in order -/
def Sorted {α : Type} (c : α → α → Int) (l : List α) : Prop := ∀ (i j : Nat) (x y : α), i < j → l[i]? = some x → l[j]? = some y → c x y < 0
theorem sorted_of_next {α : Type} {key : α → List Int} {l : List α} (h : ∀ (j : Nat) (p x : α), l[j]? = some p → l[j + 1]? = some x → cmpL (key p) (key x) < 0) : Sorted (fun a b => cmpL (key a) (key b)) l := by
  intro i j x y hij hx hy
  induction j generalizing y with
  | zero => omega
  | succ j ih =>
    have hlt := (List.getElem?_eq_some_iff.1 hy).1
    have hj : l[j]? = some l[j] := List.getElem?_eq_getElem (by omega)
    rcases Nat.lt_succ_iff_lt_or_eq.1 hij with h1 | rfl
    · exact cmpL_trans (ih _ h1 hj) (h j _ y hj hy)
    · rw [hx] at hj; injection hj with hj
      exact h i x y hx hy

/-- where a thing stands, or would stand, in a list that goes up against it -/
def posB {α : Type} (c : α → Int) (l : List α) : Nat := (l.takeWhile fun x => decide (c x < 0)).length
def hasB {α : Type} (c : α → Int) (l : List α) : Bool := match l[posB c l]? with
  | some x => c x == 0
  | none => false
def Mono {α : Type} (c : α → Int) (l : List α) : Prop := ∀ (i j : Nat) (x y : α), i < j → l[i]? = some x → l[j]? = some y → c y < 0 → c x < 0
theorem posB_lt {α : Type} {c : α → Int} : ∀ {l : List α} {i : Nat} {x : α}, i < posB c l → l[i]? = some x → c x < 0
  | [], _, _, h, _ => by simp [posB] at h
  | a :: l, i, x, h, hx => by
    unfold posB at h
    rw [List.takeWhile_cons] at h
    split at h
    · rename_i ha
      cases i with
      | zero => simp at hx; subst hx; simpa using ha
      | succ i => exact posB_lt (l := l) (by simpa [posB] using h) (by simpa using hx)
    · simp at h
theorem posB_ge {α : Type} {c : α → Int} : ∀ {l : List α} {x : α}, l[posB c l]? = some x → ¬ c x < 0
  | [], _, h => by simp [posB] at h
  | a :: l, x, h => by
    unfold posB at h
    rw [List.takeWhile_cons] at h
    split at h
    · exact posB_ge (l := l) (by simpa [posB] using h)
    · rename_i ha
      simp at h; subst h
      simpa using ha
theorem posB_le {α : Type} (c : α → Int) : ∀ l : List α, posB c l ≤ l.length
  | [] => by simp [posB]
  | a :: l => by
    unfold posB
    rw [List.takeWhile_cons]
    split
    · simpa [posB] using posB_le c l
    · simp
theorem posB_uniq {α : Type} {c : α → Int} {l : List α} {p : Nat} (hp : p ≤ l.length) (h1 : ∀ i x, i < p → l[i]? = some x → c x < 0) (h2 : ∀ x, l[p]? = some x → ¬ c x < 0) : posB c l = p := by
  rcases Nat.lt_trichotomy (posB c l) p with h | h | h
  · have hlt : posB c l < l.length := by omega
    exact absurd (h1 _ _ h (List.getElem?_eq_getElem hlt)) (posB_ge (List.getElem?_eq_getElem hlt))
  · exact h
  · have hlt : p < l.length := by have := posB_le c l; omega
    exact absurd (posB_lt h (List.getElem?_eq_getElem hlt)) (h2 _ (List.getElem?_eq_getElem hlt))

-- links by their ends

def isL (a b : Int) (l : Link) : Bool := l.src == a && l.dst == b
def findL (n : Net) (a b : Int) : Int := idxF (isL a b) n.links
def cmpTo (a b : Int) (l : Link) : Int := cmpL l.key [a, b]
theorem cmpTo_eq {a b : Int} {l : Link} : cmpTo a b l = 0 ↔ isL a b l = true := by
  unfold cmpTo Link.key isL
  rw [cmpL_eq]; simp

theorem NetOk.sorted {n : Net} (h : NetOk n) : Sorted Link.cmp n.links := by
  refine sorted_of_next (key := Link.key) fun j p x hp hx => ?_
  have := (h.link (j + 1) x hx).2.1
  unfold linkO at this
  simp only [hp] at this
  exact of_decide_eq_true this
theorem NetOk.mono {n : Net} (h : NetOk n) (a b : Int) : Mono (cmpTo a b) n.links := fun i j x y hij hx hy hc => cmpL_trans (h.sorted i j x y hij hx hy) hc

theorem idxF_at {α : Type} {p : α → Bool} {l : List α} (h : idxF p l ≠ -1) : ∃ (k : Nat) (x : α), idxF p l = k ∧ l[k]? = some x ∧ p x = true := by
  unfold idxF at h ⊢
  cases ha : l.any p with
  | false => simp [ha] at h
  | true =>
    simp only [if_true]
    have hlt : l.findIdx p < l.length := List.findIdx_lt_length_of_exists (by simpa [List.any_eq_true] using ha)
    exact ⟨_, l[l.findIdx p], rfl, List.getElem?_eq_getElem hlt, List.findIdx_getElem⟩

/-- a search by halves finds what a search from the front does -/
theorem find_half {n : Net} (h : NetOk n) (a b : Int) : (if hasB (cmpTo a b) n.links then (posB (cmpTo a b) n.links : Int) else -1) = findL n a b := by
  have hs := h.mono a b
  unfold findL hasB
  cases hp : n.links[posB (cmpTo a b) n.links]? with
  | none =>
    simp only [Bool.false_eq_true, if_false]
    symm
    refine idxF_none fun j y hj hy => ?_
    have : ¬ posB (cmpTo a b) n.links < n.links.length := fun hh => by rw [List.getElem?_eq_getElem hh] at hp; cases hp
    have h1 := posB_lt (c := cmpTo a b) (l := n.links) (i := j) (by omega) hy
    cases e : isL a b y with
    | false => rfl
    | true => rw [cmpTo_eq.2 e] at h1; omega
  | some x =>
    simp only
    by_cases e : cmpTo a b x = 0
    · rw [if_pos (by simpa using e)]
      symm
      have hlt := (List.getElem?_eq_some_iff.1 hp).1
      refine idxF_some hlt (fun j y hj hy => ?_) hp (cmpTo_eq.1 e)
      have h1 := posB_lt hj hy
      cases e2 : isL a b y with
      | false => rfl
      | true => rw [cmpTo_eq.2 e2] at h1; omega
    · rw [if_neg (by simpa using e)]
      symm
      refine idxF_none fun j y hj hy => ?_
      cases e2 : isL a b y with
      | false => rfl
      | true =>
        have h0 := cmpTo_eq.2 e2
        have hx := posB_ge hp
        rcases Nat.lt_trichotomy j (posB (cmpTo a b) n.links) with hlt | rfl | hgt
        · have := posB_lt hlt hy; omega
        · rw [hp] at hy; injection hy with hy; subst hy; exact absurd h0 e
        · have h2 := h.sorted _ _ x y hgt hp hy
          have h3 : y.key = [a, b] := cmpL_eq.1 h0
          unfold Link.cmp at h2
          rw [h3] at h2
          exact absurd h2 hx

-- what is heard

def heardB (n : Net) (s d : Int) : Bool := decide (n.thr * (n.noise + d) ≤ s * 1000)
def heardAt (n : Net) (i : Int) : Bool := heardB n (n.margin.getD i.toNat 0) 0
/-- whether there is a usable link -/
def goodL (n : Net) (a b : Int) : Bool := decide (0 ≤ findL n a b) && decide (0 ≤ findL n b a) && heardAt n (findL n a b) && heardAt n (findL n b a)
def usableL (n : Net) (i : Int) : Bool := match n.links[i.toNat]? with
  | some l => decide (0 ≤ findL n l.dst l.src) && heardAt n i && heardAt n (findL n l.dst l.src)
  | none => false
def usableN (n : Net) (i : Int) : Bool := decide (netE n = 0) && insB i n.links.length && usableL n i
def indexN (n : Net) (a b : Int) : Int := if netE n = 0 then findL n a b else -1

theorem findL_at {n : Net} {a b : Int} (h : 0 ≤ findL n a b) : ∃ (k : Nat) (l : Link), findL n a b = k ∧ n.links[k]? = some l ∧ l.src = a ∧ l.dst = b := by
  obtain ⟨k, l, h1, h2, h3⟩ := idxF_at (p := isL a b) (l := n.links) (by unfold findL at h; omega)
  simp [isL] at h3
  exact ⟨k, l, h1, h2, h3.1, h3.2⟩
theorem findL_bd (n : Net) (a b : Int) : -1 ≤ findL n a b ∧ findL n a b < n.links.length := by
  unfold findL idxF
  split
  · rename_i h
    have : n.links.findIdx (isL a b) < n.links.length := List.findIdx_lt_length_of_exists (by simpa [List.any_eq_true] using h)
    omega
  · omega

theorem usable_index {n : Net} (h : netE n = 0) (a b : Int) : usableN n (indexN n a b) = goodL n a b := by
  unfold usableN indexN goodL
  rw [if_pos h]
  have hb := findL_bd n a b
  by_cases h0 : 0 ≤ findL n a b
  · obtain ⟨k, l, h1, h2, h3, h4⟩ := findL_at h0
    have hins : insB (findL n a b) n.links.length = true := by simp [insB]; omega
    rw [hins]
    unfold usableL
    rw [h1, Int.toNat_natCast, h2]
    simp only [h3, h4, h, decide_true, Bool.true_and]
    simp [Bool.and_comm]
  · have : insB (findL n a b) n.links.length = false := by simp [insB, h0]
    simp [this, h0]

-- flows

def flowE (nodes : Int) (f : Flow) : Int :=
  if f.id < 0 ∨ 255 < f.id ∨ insB f.src nodes = false ∨ insB f.dst nodes = false then 2
  else if f.period < 1 ∨ 512 < f.period ∨ f.phase < 0 ∨ f.period ≤ f.phase ∨ f.dead < 1 ∨ f.period < f.dead then 2
  else if f.src = f.dst then 1 else 0
def flowO (l : List Flow) (i : Nat) (f : Flow) : Bool := match i with
  | 0 => true
  | j + 1 => match l[j]? with
    | some p => decide (p.id < f.id)
    | none => true
def flowAt (nodes : Int) (l : List Flow) (i : Nat) : Int := match l[i]? with
  | none => 0
  | some f => if flowE nodes f ≠ 0 then flowE nodes f else if flowO l i f = false then 5 else 0
/-- the first place with a fault, and the fault -/
def firstAt (f : Nat → Int) (n : Nat) : Int × Int := match (List.range n).find? (fun i => f i != 0) with
  | some i => (i, f i)
  | none => (-1, 0)
theorem firstAt_hit {f : Nat → Int} {n k : Nat} (h0 : ∀ j, j < k → f j = 0) (he : f k ≠ 0) (hk : k < n) : firstAt f n = ((k : Int), f k) := by
  unfold firstAt
  have : (List.range n).find? (fun i => f i != 0) = some k := by
    rw [List.find?_range_eq_some]
    exact ⟨by simpa using he, by simpa using hk, fun j hj => by simp [h0 j hj]⟩
  rw [this]
theorem firstAt_zero {f : Nat → Int} {n : Nat} (h0 : ∀ j, j < n → f j = 0) : firstAt f n = (-1, 0) := by
  unfold firstAt
  have : (List.range n).find? (fun i => f i != 0) = none := by
    rw [List.find?_eq_none]
    intro j hj
    simp [h0 j (by simpa using hj)]
  rw [this]
theorem firstAt_ok {f : Nat → Int} {n : Nat} : (firstAt f n).2 = 0 ↔ ∀ j, j < n → f j = 0 := by
  unfold firstAt
  cases h : (List.range n).find? (fun i => f i != 0) with
  | none =>
    simp only [true_iff]
    rw [List.find?_eq_none] at h
    intro j hj
    simpa using h j (by simpa using hj)
  | some i =>
    rw [List.find?_range_eq_some] at h
    simp only
    constructor
    · intro h2; simp [h2] at h
    · intro h2; exact h2 i (by simpa using h.2.1)
def flowsE (nodes : Int) (l : List Flow) : Int × Int :=
  if nodes < 2 ∨ 32 < nodes then (-1, 2) else if 16 < l.length then (-1, 8) else firstAt (flowAt nodes l) l.length

theorem flowE_ok {nodes : Int} {f : Flow} (h : flowE nodes f = 0) : 0 ≤ f.id ∧ f.id ≤ 255 ∧ 0 ≤ f.src ∧ f.src < nodes ∧ 0 ≤ f.dst ∧ f.dst < nodes ∧ 1 ≤ f.period ∧ f.period ≤ 512 ∧ 0 ≤ f.phase ∧ f.phase < f.period ∧ 1 ≤ f.dead ∧ f.dead ≤ f.period ∧ f.src ≠ f.dst := by
  unfold flowE at h
  split at h
  · cases h
  split at h
  · cases h
  split at h
  · cases h
  rename_i h1 h2 h3
  simp [insB] at h1 h2
  omega

-- routes

def endsE (n : Net) (a b : Int) : Int := if netE n ≠ 0 then 1 else if insB a n.nodes = false ∨ insB b n.nodes = false ∨ a = b then 2 else 0
def dupAt (r : List Int) (i : Nat) : Bool := match r[i]? with
  | some a => (r.take i).any (· == a)
  | none => false
def hopOk (n : Net) (r : List Int) (i : Nat) : Bool := goodL n (r.getD i 0) (r.getD (i + 1) 0)
def routeF (n : Net) (a b : Int) (r : List Int) : Int :=
  if r.length < 2 then 9 else if 9 < r.length then 8
  else if r.any (fun x => !insB x n.nodes) then 2
  else if r.getD 0 0 ≠ a ∨ r.getD (r.length - 1) 0 ≠ b then 11
  else if (List.range r.length).any (dupAt r) then 6
  else if (List.range (r.length - 1)).all (hopOk n r) then 0 else 17
def routeE (n : Net) (a b : Int) (r : List Int) : Int := if endsE n a b ≠ 0 then endsE n a b else routeF n a b r
end HM

/- Slices that are written, of things of several cells. -/
namespace HM
open Go Go.RowKit

/-- things of several plain cells -/
structure EncOk {α : Type} (enc : α → AV) (sz : Nat) : Prop where
  agg : ∀ x, enc x = .agg (enc x).cells
  len : ∀ x, (enc x).cells.length = sz
  fz : ∀ x, fzs (enc x).cells = some (enc x).cells
  cell : ∀ x, (enc x).cells.all AV.isCell = true
  sc : ∀ x, scalars (enc x).cells = true
  two : 2 ≤ sz

theorem scalars_append : ∀ a b : List AV, scalars (a ++ b) = (scalars a && scalars b)
  | [], b => by simp [scalars]
  | x :: a, b => by simp [scalars, scalars_append a b, Bool.and_assoc]

section
variable {α : Type} {enc : α → AV} {sz : Nat}
theorem EncOk.els (h : EncOk enc sz) (l : List α) : Els sz (l.map enc) := Els.map fun x => ⟨h.len x, h.cell x⟩
theorem EncOk.scal (h : EncOk enc sz) : ∀ l : List α, scalars (flatE (l.map enc)) = true
  | [] => rfl
  | x :: l => by
    have := EncOk.scal h l
    simp only [flatE, List.map_cons, List.flatMap_cons, scalars_append] at this ⊢
    rw [h.sc x, this]; rfl
theorem EncOk.flen (h : EncOk enc sz) (l : List α) : (flatE (l.map enc)).length = l.length * sz := by
  have := flatE_len (sz := sz) (es := l.map enc) (by
    intro e he
    obtain ⟨x, _, rfl⟩ := List.mem_map.1 he
    exact h.len x)
  simpa using this

theorem EncOk.ld (h : EncOk enc sz) : ∀ {l : List α} {k : Nat} {x : α} (ex : List AV), l[k]? = some x → ((flatE (l.map enc) ++ ex).drop (k * sz)).take sz = (enc x).cells
  | [], _, _, _, hk => by simp at hk
  | y :: l, 0, x, ex, hk => by
    simp at hk; subst hk
    simp only [flatE, List.map_cons, List.flatMap_cons, Nat.zero_mul, List.drop_zero, List.append_assoc]
    rw [← h.len y]; simp
  | y :: l, k + 1, x, ex, hk => by
    have := EncOk.ld h (l := l) ex (by simpa using hk)
    simp only [flatE, List.map_cons, List.flatMap_cons, List.append_assoc] at this ⊢
    rw [Nat.add_mul, Nat.one_mul, Nat.add_comm, ← List.drop_drop]
    have e : ((enc y).cells ++ (List.flatMap AV.cells (l.map enc) ++ ex)).drop sz = List.flatMap AV.cells (l.map enc) ++ ex := by
      rw [← h.len y]; simp
    rw [e]; exact this
theorem EncOk.ldr (h : EncOk enc sz) {l : List α} {k : Nat} {x : α} (ex : List AV) (hk : l[k]? = some x) (n n' : Nat) (hn : n = sz) (hn' : n' = sz) : ((flatE (l.map enc) ++ ex).drop (0 + (k : Int).toNat * n)).take n' = (enc x).cells := by
  subst hn; subst hn'; rw [Nat.zero_add, Int.toNat_natCast]; exact h.ld ex hk
/-- one cell of one thing -/
theorem EncOk.ldc (h : EncOk enc sz) {l : List α} {k : Nat} {x : α} (ex : List AV) (hk : l[k]? = some x) (j : Nat) (hj : j < sz) : (flatE (l.map enc) ++ ex)[k * sz + j]? = (enc x).cells[j]? := by
  have := congrArg (·[j]?) (h.ld ex hk)
  simp only [List.getElem?_take, hj, if_true, List.getElem?_drop] at this
  exact this

theorem splice_append_left : ∀ (a b c : List AV) (n : Nat), splice (a ++ b) (a.length + n) c = a ++ splice b n c
  | [], b, c, n => by simp
  | x :: a, b, c, n => by
    rw [List.cons_append, List.length_cons, show a.length + 1 + n = (a.length + n) + 1 by omega, splice, splice_append_left a b c n, List.cons_append]
theorem splice_head : ∀ (a b c : List AV), c.length = a.length → splice (a ++ b) 0 c = c ++ b
  | [], b, [], _ => by simp [splice_nil]
  | [], _, _ :: _, h => by simp at h
  | _ :: _, _, [], h => by simp at h
  | x :: a, b, y :: c, h => by
    have := splice_head a b c (by simpa using h)
    simp only [List.cons_append, splice, this]

theorem EncOk.st (h : EncOk enc sz) (v : α) (ex : List AV) : ∀ {l : List α} {k : Nat}, k < l.length → splice (flatE (l.map enc) ++ ex) (k * sz) (enc v).cells = flatE ((l.set k v).map enc) ++ ex
  | [], _, hk => by simp at hk
  | y :: l, 0, _ => by
    simp only [flatE, List.map_cons, List.flatMap_cons, Nat.zero_mul, List.set_cons_zero, List.append_assoc]
    exact splice_head _ _ _ (by rw [h.len, h.len])
  | y :: l, k + 1, hk => by
    have := EncOk.st h v ex (l := l) (k := k) (by simpa using hk)
    simp only [flatE, List.map_cons, List.flatMap_cons, List.set_cons_succ, List.append_assoc] at this ⊢
    rw [Nat.add_mul, Nat.one_mul, Nat.add_comm]
    have e := splice_append_left (enc y).cells (List.flatMap AV.cells (l.map enc) ++ ex) (enc v).cells (k * sz)
    rw [h.len y] at e
    rw [e, this]

theorem fzs_append : ∀ {a b a' b' : List AV}, fzs a = some a' → fzs b = some b' → fzs (a ++ b) = some (a' ++ b')
  | [], _, a', _, h, hb => by simp [fzs] at h; subst h; simpa using hb
  | x :: a, b, a', b', h, hb => by
    simp only [fzs] at h
    split at h
    · rename_i y ys h1 h2
      simp at h; subst h
      simp only [List.cons_append, fzs, h1, fzs_append h2 hb]
    · cases h
theorem EncOk.fzf (h : EncOk enc sz) : ∀ l : List α, fzs (flatE (l.map enc)) = some (flatE (l.map enc))
  | [] => rfl
  | x :: l => by
    have := EncOk.fzf h l
    simp only [flatE, List.map_cons, List.flatMap_cons] at this ⊢
    exact fzs_append (h.fz x) this
theorem EncOk.chunk (h : EncOk enc sz) : ∀ l : List α, chunkA sz l.length (flatE (l.map enc)) = l.map enc
  | [] => rfl
  | x :: l => by
    have := EncOk.chunk h l
    simp only [flatE, List.map_cons, List.flatMap_cons, List.length_cons, chunkA] at this ⊢
    rw [show ((enc x).cells ++ List.flatMap AV.cells (l.map enc)).take sz = (enc x).cells from by rw [← h.len x]; simp, show ((enc x).cells ++ List.flatMap AV.cells (l.map enc)).drop sz = List.flatMap AV.cells (l.map enc) from by rw [← h.len x]; simp, this, ← h.agg x]

/-- data out of such a slice: a part of it from its head on -/
theorem EncOk.fzb (h : EncOk enc sz) {S : St} {id n : Nat} {l : List α} {ex : List AV} {t : TypeId} (hb : S.bx[id]? = some (.cells (flatE (l.map enc) ++ ex) t)) (hn : l.length = n) : HM.fzb S (.vsl id 0 n sz) = some (.sl false (l.map enc)) := by
  subst hn
  have h2 := h.two
  have hfl := h.flen l
  have htake : ((flatE (l.map enc) ++ ex).drop 0).take (l.length * sz) = flatE (l.map enc) := by rw [List.drop_zero, ← hfl]; exact List.take_left
  simp only [HM.fzb, hb]
  rw [if_pos ⟨by rw [List.length_append, hfl, Nat.zero_add]; exact Nat.le_add_right _ _, by omega⟩, htake, h.fzf l]
  simp only [Option.bind_some]
  have hne : ¬ sz = 1 := by omega
  rw [if_pos (flatE_cell (h.els l)), if_neg hne, h.chunk l]

theorem EncOk.fit (h : EncOk enc sz) {l : List α} (ex : List AV) {k : Nat} (hk : k < l.length) : k * sz + sz ≤ (flatE (l.map enc) ++ ex).length := by
  rw [List.length_append, h.flen, ← Nat.succ_mul]
  exact Nat.le_trans (Nat.mul_le_mul_right _ hk) (Nat.le_add_right _ _)
theorem EncOk.okk (h : EncOk enc sz) (k m : Nat) (l : List α) : okks k m (flatE (l.map enc)) := fzs_okk (h.fzf l)
theorem okks_append {k m : Nat} : ∀ {a b : List AV}, okks k m a → okks k m b → okks k m (a ++ b)
  | [], _, _, h => h
  | _ :: _, _, h, h' => ⟨h.1, okks_append h.2 h'⟩
theorem okks_undef (k m : Nat) : ∀ n, okks k m (List.replicate n .undef)
  | 0 => trivial
  | n + 1 => ⟨trivial, okks_undef k m n⟩
/-- zeros behind the head -/
theorem EncOk.clr (h : EncOk enc sz) (l : List α) {k : Nat} (ex : List AV) (zs : List AV) (hk : k ≤ l.length) (hz : zs.length = sz) : splice (flatE (l.map enc) ++ ex) (k * sz) (repL (l.length - k) zs) = flatE ((l.take k).map enc) ++ (repL (l.length - k) zs ++ ex) := by
  have e1 : flatE (l.map enc) = flatE ((l.take k).map enc) ++ flatE ((l.drop k).map enc) := by
    conv => lhs; rw [← List.take_append_drop k l]
    simp only [flatE, List.map_append, List.flatMap_append]
  have e2 : (flatE ((l.take k).map enc)).length = k * sz := by rw [h.flen, List.length_take, Nat.min_eq_left hk]
  have e3 := splice_append_left (flatE ((l.take k).map enc)) (flatE ((l.drop k).map enc) ++ ex) (repL (l.length - k) zs) 0
  rw [e2, Nat.add_zero] at e3
  rw [e1, List.append_assoc, e3, splice_head _ _ _ (by rw [repL_len, h.flen, hz, List.length_drop])]
theorem EncOk.clr' (h : EncOk enc sz) {l : List α} {k : Nat} (ex zs : List AV) (n m : Nat) (hn : n = sz) (hm : m = l.length - k) (hk : k ≤ l.length) (hz : zs.length = sz) : splice (flatE (l.map enc) ++ ex) (0 + (k : Int).toNat * n) (repL m zs) = flatE ((l.take k).map enc) ++ (repL m zs ++ ex) := by
  subst hn; subst hm; rw [Nat.zero_add, Int.toNat_natCast]; exact h.clr l ex zs hk hz
theorem EncOk.headLe (h : EncOk enc sz) {l : List α} {k : Nat} (ex : List AV) (n : Nat) (hn : n = sz) (hk : k ≤ l.length) : 0 + (k : Int).toNat * n ≤ (flatE ((l.take k).map enc) ++ ex).length := by
  subst hn
  rw [List.length_append, h.flen, Int.toNat_natCast, Nat.zero_add, List.length_take, Nat.min_eq_left hk]
  exact Nat.le_add_right _ _
end

theorem cellOk : EncOk Cell.av 5 := ⟨fun _ => rfl, fun _ => rfl, fun _ => rfl, fun _ => rfl, fun _ => rfl, by decide⟩
theorem linkOk : EncOk Link.av 3 := ⟨fun _ => rfl, fun _ => rfl, fun _ => rfl, fun _ => rfl, fun _ => rfl, by decide⟩
theorem flowOk : EncOk Flow.av 6 := ⟨fun _ => rfl, fun _ => rfl, fun _ => rfl, fun _ => rfl, fun _ => rfl, by decide⟩

theorem fz2 {S : St} {a a' : AV} {b b' : List AV} (h : fzb S a = some a') (h2 : fzbs S b = some b') : fzbs S (a :: b) = some (a' :: b') := by simp only [fzbs, h, h2]
theorem fzf1 {S : St} {g : Nat} {c c' : List AV} (h : fzbs S c = some c') : fzbs S [.fn g c] = some [.fn g c'] := by simp only [fzbs, fzb, h, Option.map_some]

/-- keeping of what a condition does not hold for, in place: how far it has come -/
structure Kept {α : Type} (p : α → Bool) (l a : List α) (i j : Nat) : Prop where
  len : a.length = l.length
  ij : i ≤ j ∧ j ≤ l.length
  hd : a.take i = (l.take j).filter fun x => !p x
  tl : a.drop j = l.drop j
theorem Kept.skip {α : Type} {p : α → Bool} {l a : List α} {i j : Nat} {x : α} (h : Kept p l a i j) (hx : l[j]? = some x) (hp : p x = true) : Kept p l a i (j + 1) := by
  have hlt := (List.getElem?_eq_some_iff.1 hx).1
  refine ⟨h.len, ⟨by have := h.ij; omega, by omega⟩, ?_, ?_⟩
  · rw [h.hd, take_succ hx, List.filter_append]; simp [hp]
  · have := congrArg (List.drop 1) h.tl
    simpa [List.drop_drop] using this
theorem Kept.keep {α : Type} {p : α → Bool} {l a : List α} {i j : Nat} {x : α} (h : Kept p l a i j) (hx : l[j]? = some x) (hp : p x = false) : Kept p l (a.set i x) (i + 1) (j + 1) := by
  have hlt := (List.getElem?_eq_some_iff.1 hx).1
  have h1 := h.len
  have h2 := h.ij
  refine ⟨by simpa using h.len, ⟨by omega, by omega⟩, ?_, ?_⟩
  · have e : (a.set i x)[i]? = some x := by rw [List.getElem?_set, if_pos rfl, if_pos (by omega)]
    rw [take_succ e, List.take_set_of_le (Nat.le_refl _), h.hd, take_succ hx, List.filter_append]; simp [hp]
  · rw [List.drop_set_of_lt (by omega)]
    have := congrArg (List.drop 1) h.tl
    simpa [List.drop_drop] using this
theorem Kept.get {α : Type} {p : α → Bool} {l a : List α} {i j : Nat} {x : α} (h : Kept p l a i j) (hx : l[j]? = some x) : a[j]? = some x := by
  have := congrArg (·[0]?) h.tl
  simp only [List.getElem?_drop, Nat.add_zero] at this
  rw [this, hx]
theorem Kept.start {α : Type} {p : α → Bool} {l : List α} {k : Nat} {x : α} (hk : l[k]? = some x) (hp : p x = true) (hb : ∀ (j : Nat) (y : α), j < k → l[j]? = some y → p y = false) : Kept p l l k (k + 1) := by
  have hlt := (List.getElem?_eq_some_iff.1 hk).1
  refine ⟨rfl, ⟨by omega, by omega⟩, ?_, rfl⟩
  rw [take_succ hk, List.filter_append]
  have e : (l.take k).filter (fun x => !p x) = l.take k := by
    rw [List.filter_eq_self]
    intro y hy
    obtain ⟨j, hj⟩ := List.getElem?_of_mem hy
    rw [List.getElem?_take] at hj
    split at hj
    · rename_i hlt2; simp [hb j y hlt2 hj]
    · cases hj
  rw [e]; simp [hp]
theorem Kept.fin {α : Type} {p : α → Bool} {l a : List α} {i : Nat} (h : Kept p l a i l.length) : a.take i = l.filter fun x => !p x := by
  have := h.hd
  rwa [List.take_length] at this
theorem idxF_none_iff {α : Type} {p : α → Bool} {l : List α} (h : idxF p l = -1) : ∀ (j : Nat) (y : α), l[j]? = some y → p y = false := by
  intro j y hy
  unfold idxF at h
  cases ha : l.any p with
  | true => simp [ha] at h <;> omega
  | false =>
    rw [List.any_eq_false] at ha
    simpa using ha y (List.mem_of_getElem? hy)
theorem idxF_first {α : Type} {p : α → Bool} {l : List α} {k : Nat} (h : idxF p l = (k : Int)) : ∃ x, l[k]? = some x ∧ p x = true ∧ ∀ (j : Nat) (y : α), j < k → l[j]? = some y → p y = false := by
  unfold idxF at h
  cases ha : l.any p with
  | false => simp [ha] at h <;> omega
  | true =>
    simp only [ha, if_true] at h
    have hk : l.findIdx p = k := by omega
    have hlt : l.findIdx p < l.length := List.findIdx_lt_length_of_exists (by simpa [List.any_eq_true] using ha)
    subst hk
    refine ⟨l[l.findIdx p], List.getElem?_eq_getElem hlt, List.findIdx_getElem, fun j y hj hy => ?_⟩
    have := List.not_of_lt_findIdx hj
    obtain ⟨hjl, rfl⟩ := List.getElem?_eq_some_iff.1 hy
    simpa using this
end HM

/- Routes in schedules: which slots count. -/
namespace HM
open Go Go.RowKit

structure Way where
  n : Net
  s : Sched
  f : Flow
  r : List Int
  more : Int
def Way.cs (w : Way) : List AV := [.int .i64 w.n.nodes, encRows w.n.power, .int .i64 w.n.noise, .int .i64 w.n.thr, encLinks w.n.links, encIs w.n.margin, .int .i64 w.s.len, .int .i64 w.s.offs, encCells w.s.cells, .int .i64 w.f.id, .int .i64 w.f.src, .int .i64 w.f.dst, .int .i64 w.f.period, .int .i64 w.f.phase, .int .i64 w.f.dead, encIs w.r, .int .i64 w.more]
def Way.av (w : Way) : AV := .agg [.int .i64 w.n.nodes, encRows w.n.power, .int .i64 w.n.noise, .int .i64 w.n.thr, encLinks w.n.links, encIs w.n.margin, .int .i64 w.s.len, .int .i64 w.s.offs, encCells w.s.cells, .int .i64 w.f.id, .int .i64 w.f.src, .int .i64 w.f.dst, .int .i64 w.f.period, .int .i64 w.f.phase, .int .i64 w.f.dead, encIs w.r, .int .i64 w.more]

def wayE (n : Net) (s : Sched) (f : Flow) (r : List Int) : Int :=
  if netE n ≠ 0 ∨ formB s = false ∨ flowE n.nodes f ≠ 0 then 1
  else if s.len % f.period ≠ 0 then 11
  else routeE n f.src f.dst r

/-- the cells of a flow on a link -/
def offL (id a b : Int) (c : Cell) : Bool := (c.flow != id) || (c.src != a) || (c.dst != b)
def cellsL (s : Sched) (f : Flow) (a b : Int) : List Cell := s.cells.filter fun c => !offL f.id a b c

/-- the slots of some cells, so many slots long, each cell once -/
def allS (cs : List Cell) (len a : Int) : Nat → List Int
  | 0 => []
  | d + 1 => allS cs len a d ++ ((cs.filter fun c => c.slot == (a + d) % len).map fun _ => a + (d : Int))
/-- .. and in the last slot only those of the first cells -/
def partS (cs : List Cell) (len a : Int) (d j : Nat) : List Int := allS cs len a d ++ (((cs.take j).filter fun c => c.slot == (a + d) % len).map fun _ => a + (d : Int))
theorem partS_zero (cs : List Cell) (len a : Int) (d : Nat) : partS cs len a d 0 = allS cs len a d := by simp [partS]
theorem partS_all (cs : List Cell) (len a : Int) (d : Nat) : partS cs len a d cs.length = allS cs len a (d + 1) := by simp [partS, allS]
theorem partS_hit {cs : List Cell} {len a : Int} {d j : Nat} {c : Cell} (h : cs[j]? = some c) (hm : c.slot = (a + d) % len) : partS cs len a d (j + 1) = partS cs len a d j ++ [a + (d : Int)] := by
  unfold partS
  rw [take_succ h, List.filter_append, List.map_append, List.append_assoc]
  simp [hm]
theorem partS_miss {cs : List Cell} {len a : Int} {d j : Nat} {c : Cell} (h : cs[j]? = some c) (hm : c.slot ≠ (a + d) % len) : partS cs len a d (j + 1) = partS cs len a d j := by
  unfold partS
  rw [take_succ h, List.filter_append]
  simp [hm]
theorem allS_mem {cs : List Cell} {len a : Int} : ∀ {d : Nat} {x : Int}, x ∈ allS cs len a d → a ≤ x ∧ x < a + d
  | 0, _, h => by simp [allS] at h
  | d + 1, x, h => by
    simp only [allS, List.mem_append, List.mem_map] at h
    rcases h with h | ⟨_, _, rfl⟩
    · have := allS_mem h; omega
    · omega
theorem partS_mem {cs : List Cell} {len a : Int} {d j : Nat} {x : Int} (h : x ∈ partS cs len a d j) : a ≤ x ∧ x ≤ a + d := by
  unfold partS at h
  simp only [List.mem_append, List.mem_map] at h
  rcases h with h | ⟨_, _, rfl⟩
  · have := allS_mem h; omega
  · omega
theorem allS_prefix (cs : List Cell) (len a : Int) {d e : Nat} (h : d ≤ e) : ∃ t, allS cs len a e = allS cs len a d ++ t := by
  induction e with
  | zero => exact ⟨[], by have : d = 0 := by omega
                          subst this; simp⟩
  | succ e ih =>
    rcases Nat.lt_or_ge d (e + 1) with hlt | hge
    · obtain ⟨t, ht⟩ := ih (by omega)
      exact ⟨t ++ _, by rw [allS, ht, List.append_assoc]⟩
    · have : d = e + 1 := by omega
      subst this; exact ⟨[], by simp⟩
theorem take_prefix {α : Type} {l t : List α} {n : Nat} (h : n ≤ l.length) : (l ++ t).take n = l.take n := by
  rw [List.take_append_of_le_length h]

/-- the slots that count on a link -/
def slotsOn (s : Sched) (f : Flow) (a b : Int) (need : Nat) (at_ stop : Int) : List Int := (allS (cellsL s f a b) s.len at_ (stop - at_).toNat).take need
/-- from where the next link goes on -/
def nextA (at_ : Int) (l : List Int) : Int := match l.getLast? with
  | some x => x + 1
  | none => at_

def linkAt (n : Net) (r : List Int) (i : Nat) : Link := (n.links[(findL n (r.getD i 0) (r.getD (i + 1) 0)).toNat]?).getD ⟨0, 0, 0⟩
def needAt (n : Net) (r : List Int) (more : Int) (i : Nat) : Nat := ((linkAt n r i).loss + 1 + more).toNat
/-- the slots that count on the first links -/
def slotsUp (n : Net) (s : Sched) (f : Flow) (r : List Int) (rel more : Int) : Nat → Option (List Int × Int)
  | 0 => some ([], rel)
  | k + 1 => match slotsUp n s f r rel more k with
    | none => none
    | some (o, a) =>
      let h := slotsOn s f (r.getD k 0) (r.getD (k + 1) 0) (needAt n r more k) a (rel + f.period)
      if h.length < needAt n r more k then none else some (o ++ h, nextA a h)
def slotsW (n : Net) (s : Sched) (f : Flow) (r : List Int) (rel more : Int) : Option (List Int) := (slotsUp n s f r rel more (r.length - 1)).map (·.1)
def needUp (n : Net) (r : List Int) (more : Int) : Nat → Nat
  | 0 => 0
  | k + 1 => needUp n r more k + needAt n r more k

theorem slotsOn_le (s : Sched) (f : Flow) (a b : Int) (need : Nat) (at_ stop : Int) : (slotsOn s f a b need at_ stop).length ≤ need := by
  unfold slotsOn; rw [List.length_take]; omega
theorem slotsOn_mem {s : Sched} {f : Flow} {a b : Int} {need : Nat} {at_ stop : Int} {x : Int} (h : x ∈ slotsOn s f a b need at_ stop) : at_ ≤ x ∧ x < stop := by
  have := allS_mem (List.mem_of_mem_take h)
  omega
theorem slotsUp_ok {n : Net} {s : Sched} {f : Flow} {r : List Int} {rel more : Int} (hp : 0 ≤ f.period) : ∀ {k : Nat} {o : List Int} {a : Int}, slotsUp n s f r rel more k = some (o, a) → o.length = needUp n r more k ∧ rel ≤ a ∧ a ≤ rel + f.period ∧ ∀ x ∈ o, rel ≤ x ∧ x < rel + f.period
  | 0, o, a, h => by simp [slotsUp] at h; obtain ⟨rfl, rfl⟩ := h; simp [needUp]; omega
  | k + 1, o, a, h => by
    unfold slotsUp at h
    split at h
    · cases h
    · rename_i o' a' h'
      obtain ⟨h1, h2, h3, h4⟩ := slotsUp_ok hp h'
      simp only at h
      split at h
      · cases h
      · rename_i hlen
        injection h with h; injection h with e1 e2
        subst e1; subst e2
        have hle := slotsOn_le s f (r.getD k 0) (r.getD (k + 1) 0) (needAt n r more k) a' (rel + f.period)
        have hm : ∀ x ∈ slotsOn s f (r.getD k 0) (r.getD (k + 1) 0) (needAt n r more k) a' (rel + f.period), a' ≤ x ∧ x < rel + f.period := fun x hx => slotsOn_mem hx
        refine ⟨by rw [List.length_append, h1, needUp]; omega, ?_, ?_, fun x hx => ?_⟩
        · unfold nextA; split
          · rename_i y hy
            have := hm y (List.mem_of_getLast? hy); omega
          · omega
        · unfold nextA; split
          · rename_i y hy
            have := hm y (List.mem_of_getLast? hy); omega
          · omega
        · rcases List.mem_append.1 hx with hx | hx
          · exact h4 x hx
          · have := hm x hx; omega
theorem slotsUp_none {n : Net} {s : Sched} {f : Flow} {r : List Int} {rel more : Int} {k : Nat} (h : slotsUp n s f r rel more k = none) : ∀ {m : Nat}, k ≤ m → slotsUp n s f r rel more m = none
  | 0, hm => by have : k = 0 := by omega
                subst this; exact h
  | m + 1, hm => by
    rcases Nat.lt_or_ge m k with hlt | hge
    · have : k = m + 1 := by omega
      subst this; exact h
    · unfold slotsUp; rw [slotsUp_none h hge]
theorem needUp_mono {n : Net} {r : List Int} {more : Int} {k m : Nat} (h : k ≤ m) : needUp n r more k ≤ needUp n r more m := by
  induction m with
  | zero => have : k = 0 := by omega
            subst this; exact Nat.le_refl _
  | succ m ih =>
    rcases Nat.lt_or_ge m k with hlt | hge
    · have : k = m + 1 := by omega
      subst this; exact Nat.le_refl _
    · have := ih hge
      rw [needUp]; omega

structure WayOk (n : Net) (s : Sched) (f : Flow) (r : List Int) : Prop where
  net : NetOk n
  form : formB s = true
  flow : 0 ≤ f.id ∧ f.id ≤ 255 ∧ 1 ≤ f.period ∧ f.period ≤ 512 ∧ 0 ≤ f.phase ∧ f.phase < f.period ∧ 1 ≤ f.dead ∧ f.dead ≤ f.period ∧ f.src ≠ f.dst
  per : s.len % f.period = 0
  len : 2 ≤ r.length ∧ r.length ≤ 9
  hop : ∀ i, i + 1 < r.length → goodL n (r.getD i 0) (r.getD (i + 1) 0) = true
  dup : ∀ i, i < r.length → dupAt r i = false
  ends : r.getD 0 0 = f.src ∧ r.getD (r.length - 1) 0 = f.dst
theorem routeF_ok {n : Net} {a b : Int} {r : List Int} (h : routeF n a b r = 0) : (2 ≤ r.length ∧ r.length ≤ 9) ∧ (∀ i, i + 1 < r.length → goodL n (r.getD i 0) (r.getD (i + 1) 0) = true) ∧ (∀ i, i < r.length → dupAt r i = false) ∧ (r.getD 0 0 = a ∧ r.getD (r.length - 1) 0 = b) ∧ ∀ x ∈ r, insB x n.nodes = true := by
  unfold routeF at h
  split at h
  · cases h
  split at h
  · cases h
  split at h
  · cases h
  split at h
  · cases h
  split at h
  · cases h
  split at h
  · rename_i h1 h2 h3 h4 h5 h6
    refine ⟨by omega, fun i hi => ?_, fun i hi => ?_, by simpa using h4, fun x hx => ?_⟩
    · exact List.all_eq_true.1 h6 i (by simp; omega)
    · simp only [Bool.not_eq_true, List.any_eq_false] at h5
      simpa using h5 i (by simpa using hi)
    · simp only [Bool.not_eq_true, List.any_eq_false] at h3
      simpa using h3 x hx
  · cases h
theorem wayE_ok {n : Net} {s : Sched} {f : Flow} {r : List Int} (h : wayE n s f r = 0) : WayOk n s f r := by
  unfold wayE at h
  split at h
  · cases h
  split at h
  · cases h
  rename_i h1 h2
  simp only [not_or, ne_eq, Decidable.not_not, Bool.not_eq_false] at h1 h2
  have hf := flowE_ok h1.2.2
  unfold routeE at h
  split at h
  · contradiction
  obtain ⟨g1, g2, g3, g4, _⟩ := routeF_ok h
  exact ⟨netE_ok h1.1, h1.2.1, by omega, h2, g1, g2, g3, g4⟩
theorem WayOk.at {n : Net} {s : Sched} {f : Flow} {r : List Int} (h : WayOk n s f r) {i : Nat} (hi : i + 1 < r.length) : ∃ (k : Nat) (l : Link), findL n (r.getD i 0) (r.getD (i + 1) 0) = k ∧ n.links[k]? = some l ∧ l.src = r.getD i 0 ∧ l.dst = r.getD (i + 1) 0 ∧ 0 ≤ l.loss ∧ l.loss ≤ 7 ∧ linkAt n r i = l := by
  have hg := h.hop i hi
  unfold goodL at hg
  simp only [Bool.and_eq_true, decide_eq_true_eq] at hg
  obtain ⟨k, l, e1, e2, e3, e4⟩ := findL_at hg.1.1.1
  have hb := linkR_bd (h.net.link k l e2).1
  refine ⟨k, l, e1, e2, e3, e4, by omega, by omega, ?_⟩
  unfold linkAt
  rw [e1, Int.toNat_natCast, e2]; rfl
theorem WayOk.need {n : Net} {s : Sched} {f : Flow} {r : List Int} (h : WayOk n s f r) {more : Int} (h0 : 0 ≤ more) (h1 : more ≤ 8) : ∀ {k : Nat}, k ≤ r.length - 1 → needUp n r more k ≤ 16 * k
  | 0, _ => by simp [needUp]
  | k + 1, hk => by
    have := h.need h0 h1 (k := k) (by omega)
    obtain ⟨_, l, _, _, _, _, g1, g2, g3⟩ := h.at (i := k) (by omega)
    have : needAt n r more k ≤ 16 := by unfold needAt; rw [g3]; omega
    rw [needUp]; omega

/-- the latency of a release, and its slots; none if it has none -/
def relR (n : Net) (s : Sched) (f : Flow) (r : List Int) (more rel : Int) : Option (Int × List Int) :=
  (slotsW n s f r rel more).map fun l => (l.getLastD 0 - rel + 1, l.map (· - rel))
/-- the bound: over the releases of a schedule -/
structure Bnd where
  b : Int
  w : Int
  l : List Int
def boundUp (n : Net) (s : Sched) (f : Flow) (r : List Int) (more : Int) : Nat → Option Bnd
  | 0 => some ⟨0, 0, []⟩
  | k + 1 => match boundUp n s f r more k, relR n s f r more (f.phase + k * f.period) with
    | some x, some (b, l) => if b > x.b then some ⟨b, f.phase + k * f.period, l⟩ else some x
    | _, _ => none
/-- how many releases there are in a schedule -/
def relsN (s : Sched) (f : Flow) : Nat := ((s.len - f.phase + f.period - 1) / f.period).toNat
def boundR (n : Net) (s : Sched) (f : Flow) (r : List Int) (more : Int) : Option Bnd := boundUp n s f r more (relsN s f)

theorem relsN_lt {s : Sched} {f : Flow} (hp : 1 ≤ f.period) {k : Nat} : k < relsN s f ↔ f.phase + k * f.period < s.len := by
  unfold relsN
  have h0 : 0 < f.period := by omega
  constructor
  · intro h
    have h1 : (k : Int) + 1 ≤ (s.len - f.phase + f.period - 1) / f.period := by omega
    have h2 := Int.mul_le_of_le_ediv h0 h1
    rw [Int.add_mul] at h2
    omega
  · intro h
    have h1 : ((k : Int) + 1) ≤ (s.len - f.phase + f.period - 1) / f.period := by
      apply Int.le_ediv_of_mul_le h0
      rw [Int.add_mul]; omega
    omega
end HM

/- The slots of a link, found cell by cell. -/
namespace HM
open Go Go.RowKit

def hS (s : Sched) (f : Flow) (a b at_ : Int) (need d j : Nat) : List Int :=
  (allS (cellsL s f a b) s.len at_ d ++ ((((s.cells.take j).filter fun c => !offL f.id a b c).filter fun c => c.slot == (at_ + d) % s.len).map fun _ => at_ + (d : Int))).take need
theorem hS_len (s : Sched) (f : Flow) (a b at_ : Int) (need d j : Nat) : (hS s f a b at_ need d j).length ≤ need := by unfold hS; rw [List.length_take]; omega
theorem hS_zero (s : Sched) (f : Flow) (a b at_ : Int) (need d : Nat) : hS s f a b at_ need d 0 = (allS (cellsL s f a b) s.len at_ d).take need := by simp [hS]
theorem hS_next (s : Sched) (f : Flow) (a b at_ : Int) (need d : Nat) : hS s f a b at_ need d s.cells.length = hS s f a b at_ need (d + 1) 0 := by
  rw [hS_zero, hS, List.take_length, allS, cellsL]
theorem hS_miss {s : Sched} {f : Flow} {a b at_ : Int} {need d j : Nat} {c : Cell} (h : s.cells[j]? = some c) (hm : offL f.id a b c = true ∨ c.slot ≠ (at_ + d) % s.len) : hS s f a b at_ need d (j + 1) = hS s f a b at_ need d j := by
  unfold hS
  rw [take_succ h, List.filter_append, List.filter_append, List.map_append]
  rcases hm with hm | hm
  · simp [hm]
  · cases ho : offL f.id a b c
    · simp [ho, hm]
    · simp [ho]
theorem hS_app {s : Sched} {f : Flow} {a b at_ : Int} {d j : Nat} {c : Cell} (h : s.cells[j]? = some c) (h1 : offL f.id a b c = false) (h2 : c.slot = (at_ + d) % s.len) (need : Nat) :
    hS s f a b at_ need d (j + 1) = ((allS (cellsL s f a b) s.len at_ d ++ ((((s.cells.take j).filter fun c => !offL f.id a b c).filter fun c => c.slot == (at_ + d) % s.len).map fun _ => at_ + (d : Int))) ++ [at_ + (d : Int)]).take need := by
  unfold hS
  rw [take_succ h, List.filter_append, List.filter_append, List.map_append, ← List.append_assoc]
  simp [h1, h2]
theorem hS_full {s : Sched} {f : Flow} {a b at_ : Int} {need d j : Nat} {c : Cell} (h : s.cells[j]? = some c) (hf : (hS s f a b at_ need d j).length = need) : hS s f a b at_ need d (j + 1) = hS s f a b at_ need d j := by
  by_cases hm : offL f.id a b c = true ∨ c.slot ≠ (at_ + d) % s.len
  · exact hS_miss h hm
  · simp only [not_or, Bool.not_eq_true, ne_eq, Decidable.not_not] at hm
    rw [hS_app h hm.1 hm.2]
    unfold hS at hf ⊢
    rw [List.length_take] at hf
    rw [take_prefix (by omega)]
theorem hS_hit {s : Sched} {f : Flow} {a b at_ : Int} {need d j : Nat} {c : Cell} (h : s.cells[j]? = some c) (h1 : offL f.id a b c = false) (h2 : c.slot = (at_ + d) % s.len) (hf : (hS s f a b at_ need d j).length < need) : hS s f a b at_ need d (j + 1) = hS s f a b at_ need d j ++ [at_ + (d : Int)] := by
  rw [hS_app h h1 h2]
  unfold hS at hf ⊢
  generalize allS (cellsL s f a b) s.len at_ d ++ ((((s.cells.take j).filter fun c => !offL f.id a b c).filter fun c => c.slot == (at_ + d) % s.len).map fun _ => at_ + (d : Int)) = X at hf ⊢
  rw [List.length_take] at hf
  rw [List.take_of_length_le (by simp only [List.length_append, List.length_cons, List.length_nil] at hf ⊢; omega), List.take_of_length_le (by omega)]
theorem hS_done {s : Sched} {f : Flow} {a b at_ : Int} {need d e : Nat} (h : d ≤ e) (hf : (hS s f a b at_ need d 0).length = need) : (allS (cellsL s f a b) s.len at_ e).take need = hS s f a b at_ need d 0 := by
  obtain ⟨t, ht⟩ := allS_prefix (cellsL s f a b) s.len at_ h
  rw [hS_zero] at hf ⊢
  rw [List.length_take] at hf
  rw [ht, take_prefix (by omega)]
end HM

/- Bounds, least bounds and slack in plain words. -/
namespace HM
open Go Go.RowKit

def bndAV : Option Bnd → AV
  | none => .tup [.int .i64 0, .int .i64 0, .sl false [], .bool false]
  | some x => .tup [.int .i64 x.b, .int .i64 x.w, encIs x.l, .bool true]
def slAV : Option (List Int) → AV
  | none => .tup [.sl false [], .bool false]
  | some l => .tup [encIs l, .bool true]

theorem boundUp_none {n : Net} {s : Sched} {f : Flow} {r : List Int} {more : Int} {k : Nat} (h : boundUp n s f r more k = none) : ∀ {m : Nat}, k ≤ m → boundUp n s f r more m = none
  | 0, hm => by have : k = 0 := by omega
                subst this; exact h
  | m + 1, hm => by
    rcases Nat.lt_or_ge m k with hlt | hge
    · have : k = m + 1 := by omega
      subst this; exact h
    · unfold boundUp; rw [boundUp_none h hge]
theorem boundUp_some {n : Net} {s : Sched} {f : Flow} {r : List Int} {more : Int} {k : Nat} {x : Bnd} {b : Int} {l : List Int} (h : boundUp n s f r more k = some x) (hr : relR n s f r more (f.phase + k * f.period) = some (b, l)) :
    boundUp n s f r more (k + 1) = some (if b > x.b then ⟨b, f.phase + k * f.period, l⟩ else x) := by
  simp only [boundUp, h, hr]
  split <;> rfl
theorem boundUp_stop {n : Net} {s : Sched} {f : Flow} {r : List Int} {more : Int} {k : Nat} (hr : relR n s f r more (f.phase + k * f.period) = none) :
    boundUp n s f r more (k + 1) = none := by
  simp only [boundUp, hr]
  cases boundUp n s f r more k <;> rfl

def releaseM (n : Net) (s : Sched) (f : Flow) (r : List Int) (rel : Int) : Int × List Int × Int :=
  if wayE n s f r ≠ 0 then (0, [], wayE n s f r)
  else if rel < f.phase ∨ 1048576 < rel ∨ (rel - f.phase) % f.period ≠ 0 then (0, [], 2)
  else match relR n s f r 0 rel with
    | none => (0, [], 15)
    | some (b, l) => (b, l, 0)
def routeM (n : Net) (s : Sched) (f : Flow) (r : List Int) : Int × Int × List Int × Int :=
  if wayE n s f r ≠ 0 then (0, 0, [], wayE n s f r)
  else match boundR n s f r 0 with
    | none => (0, 0, [], 15)
    | some x => (x.b, x.w, x.l, 0)
def leastS (n : Net) (s : Sched) (f : Flow) (m : Int) (r : List Int) : Int := match boundR n s f r 0 with
  | some x => if m = 0 ∨ x.b < m then x.b else m
  | none => m
def leastF (n : Net) (s : Sched) (f : Flow) (l : List (List Int)) : Int := l.foldl (leastS n s f) 0
def firstW (n : Net) (s : Sched) (f : Flow) : List (List Int) → Int
  | [] => 0
  | r :: l => if wayE n s f r ≠ 0 then wayE n s f r else firstW n s f l
def leastM (n : Net) (s : Sched) (f : Flow) (l : List (List Int)) : Int × Int :=
  if l.length = 0 then (0, 14) else if firstW n s f l ≠ 0 then (0, firstW n s f l) else if leastF n s f l = 0 then (0, 15) else (leastF n s f l, 0)
def fitsB (n : Net) (s : Sched) (f : Flow) (r : List Int) (m : Nat) : Bool := match boundR n s f r m with
  | some x => decide (x.b ≤ f.dead)
  | none => false
def slackUp (p : Nat → Bool) : Nat → Nat → Nat
  | 0, k => k
  | e + 1, k => if p (k + 1) then slackUp p e (k + 1) else k
def slackM (n : Net) (s : Sched) (f : Flow) (r : List Int) : Int × Int :=
  if wayE n s f r ≠ 0 then (0, wayE n s f r) else if fitsB n s f r 0 = false then (0, 15) else (slackUp (fitsB n s f r) 7 0, 0)

theorem wayE_net {n : Net} {s : Sched} {f : Flow} {r : List Int} (h : wayE n s f r = 0) : netE n = 0 := by
  unfold wayE at h
  split at h
  · cases h
  · rename_i hh
    simp only [not_or, ne_eq, Decidable.not_not] at hh
    exact hh.1
theorem leastF_take {n : Net} {s : Sched} {f : Flow} {l : List (List Int)} {k : Nat} {r : List Int} (h : l[k]? = some r) : leastF n s f (l.take (k + 1)) = leastS n s f (leastF n s f (l.take k)) r := by
  rw [take_succ h, leastF, List.foldl_append]; rfl
theorem firstW_zero {n : Net} {s : Sched} {f : Flow} : ∀ {l : List (List Int)}, (∀ (k : Nat) (r : List Int), l[k]? = some r → wayE n s f r = 0) → firstW n s f l = 0
  | [], _ => rfl
  | r :: l, h => by
    rw [firstW, if_neg (by simpa using h 0 r rfl)]
    exact firstW_zero fun k x hx => h (k + 1) x (by simpa using hx)
theorem firstW_at {n : Net} {s : Sched} {f : Flow} : ∀ {l : List (List Int)} {k : Nat} {r : List Int}, l[k]? = some r → (∀ (j : Nat) (x : List Int), j < k → l[j]? = some x → wayE n s f x = 0) → wayE n s f r ≠ 0 → firstW n s f l = wayE n s f r
  | [], _, _, h, _, _ => by simp at h
  | a :: l, 0, r, h, _, hr => by
    simp at h; subst h
    rw [firstW, if_pos hr]
  | a :: l, k + 1, r, h, hb, hr => by
    rw [firstW, if_neg (by simpa using hb 0 a (by omega) rfl)]
    exact firstW_at (by simpa using h) (fun j x hj hx => hb (j + 1) x (by omega) (by simpa using hx)) hr
end HM

/- Arguments as networks, flows, routes. -/
namespace HM
open Go Go.RowKit

def tLink : Ty := .st [tI, tI, tI]
def tRows : Ty := .sl (.sl tI)
def tNet : Ty := .st [tI, .sl (.sl tI), tI, tI, .sl tLink, .sl tI]
def tFlow : Ty := .st [tI, tI, tI, tI, tI, tI]

theorem list_ofP {α : Type} {d : Ty} {f : α → AV} {Q : α → Prop} (h : ∀ l, d.sh l → ∃ x, d.mk l = f x ∧ Q x) : ∀ els : List (List AV), (∀ c ∈ els, d.sh c ∧ c.length = d.n) → ∃ xs : List α, els.map d.mk = xs.map f ∧ xs.length = els.length ∧ ∀ x ∈ xs, Q x
  | [], _ => ⟨[], rfl, rfl, by simp⟩
  | c :: els, hc => by
    obtain ⟨x, hx, hq⟩ := h c (hc c (by simp)).1
    obtain ⟨xs, h1, h2, h3⟩ := list_ofP h els (fun c hm => hc c (by simp [hm]))
    exact ⟨x :: xs, by simp [hx, h1], by simp [h2], by simpa using ⟨hq, h3⟩⟩
theorem sh_link {l : List AV} (h : tLink.sh l) : ∃ c : Link, l = [.int .i64 c.src, .int .i64 c.dst, .int .i64 c.loss] := by
  obtain ⟨_, _, rfl, _, h1, _, _, rfl, _, h2, _, _, rfl, _, h3, h6⟩ := h
  obtain ⟨a, rfl, _⟩ := sh_int h1
  obtain ⟨b, rfl, _⟩ := sh_int h2
  obtain ⟨c, rfl, _⟩ := sh_int h3
  obtain rfl := h6
  exact ⟨⟨a, b, c⟩, rfl⟩
theorem sh_links {l : List AV} (h : (Ty.sl tLink).sh l) : ∃ cs : List Link, l = [encLinks cs] ∧ cs.length ≤ 140737488355328 := by
  obtain ⟨els, rfl, h1, h2⟩ := h
  obtain ⟨cs, h3, h4⟩ := list_of (f := Link.av) (fun l hl => by
    obtain ⟨c, rfl⟩ := sh_link hl
    exact ⟨c, rfl⟩) els h1
  exact ⟨cs, by rw [h3]; rfl, by omega⟩
theorem sh_rows {l : List AV} (h : tRows.sh l) : ∃ cs : List (List Int), l = [encRows cs] ∧ cs.length ≤ 140737488355328 ∧ ∀ r ∈ cs, r.length ≤ 140737488355328 := by
  obtain ⟨els, rfl, h1, h2⟩ := h
  obtain ⟨cs, h3, h4, h5⟩ := list_ofP (f := encIs) (Q := fun r : List Int => r.length ≤ 140737488355328) (fun l hl => by
    obtain ⟨c, rfl, hc⟩ := sh_ints hl
    exact ⟨c, rfl, hc⟩) els h1
  exact ⟨cs, by rw [h3]; rfl, by omega, h5⟩
theorem sh_flow {l : List AV} (h : tFlow.sh l) : ∃ c : Flow, l = [.int .i64 c.id, .int .i64 c.src, .int .i64 c.dst, .int .i64 c.period, .int .i64 c.phase, .int .i64 c.dead] := by
  obtain ⟨_, _, rfl, _, h1, _, _, rfl, _, h2, _, _, rfl, _, h3, _, _, rfl, _, h4, _, _, rfl, _, h5, _, _, rfl, _, h5', h6⟩ := h
  obtain ⟨a, rfl, _⟩ := sh_int h1
  obtain ⟨b, rfl, _⟩ := sh_int h2
  obtain ⟨c, rfl, _⟩ := sh_int h3
  obtain ⟨d, rfl, _⟩ := sh_int h4
  obtain ⟨e, rfl, _⟩ := sh_int h5
  obtain ⟨f, rfl, _⟩ := sh_int h5'
  obtain rfl := h6
  exact ⟨⟨a, b, c, d, e, f⟩, rfl⟩
theorem sh_net {l : List AV} (h : tNet.sh l) : ∃ n : Net, l = n.cs ∧ n.power.length ≤ 140737488355328 ∧ (∀ r ∈ n.power, r.length ≤ 140737488355328) ∧ n.links.length ≤ 140737488355328 ∧ n.margin.length ≤ 140737488355328 := by
  obtain ⟨_, _, rfl, _, h1, _, _, rfl, _, h2, _, _, rfl, _, h3, _, _, rfl, _, h4, _, _, rfl, _, h5, _, _, rfl, _, h5', h6⟩ := h
  obtain ⟨a, rfl, _⟩ := sh_int h1
  obtain ⟨b, rfl, b1, b2⟩ := sh_rows h2
  obtain ⟨c, rfl, _⟩ := sh_int h3
  obtain ⟨d, rfl, _⟩ := sh_int h4
  obtain ⟨e, rfl, e1⟩ := sh_links h5
  obtain ⟨f, rfl, f1⟩ := sh_ints h5'
  obtain rfl := h6
  exact ⟨⟨a, b, c, d, e, f⟩, rfl, b1, b2, e1, f1⟩
/-- the cells of a schedule are few enough -/
theorem sh_sched' {l : List AV} (h : tSched.sh l) : ∃ s : Sched, l = [.int .i64 s.len, .int .i64 s.offs, encCells s.cells] ∧ s.cells.length ≤ 140737488355328 := by
  obtain ⟨_, _, rfl, _, h1, _, _, rfl, _, h2, _, _, rfl, _, h3, h6⟩ := h
  obtain ⟨a, rfl, _⟩ := sh_int h1
  obtain ⟨b, rfl, _⟩ := sh_int h2
  obtain ⟨c, rfl, hc⟩ := sh_cells h3
  obtain rfl := h6
  exact ⟨⟨a, b, c⟩, rfl, hc⟩
end HM

/- One more cell: no bound is greater. -/
namespace HM
open Go Go.RowKit

/-- so many of the cells stand in a slot -/
def slotN (cs : List Cell) (len x : Int) : Nat := (cs.filter fun c => c.slot == x % len).length
theorem allS_len (cs : List Cell) (len a : Int) : ∀ d, (allS cs len a (d + 1)).length = (allS cs len a d).length + slotN cs len (a + d) := fun d => by
  rw [allS, List.length_append, List.length_map]; rfl
theorem allS_front (cs : List Cell) (len a : Int) : ∀ d, (allS cs len a (d + 1)).length = slotN cs len a + (allS cs len (a + 1) d).length
  | 0 => by rw [allS_len]; simp [allS]
  | d + 1 => by
    rw [allS_len, allS_front cs len a d, allS_len, show a + ((d + 1 : Nat) : Int) = a + 1 + (d : Int) by omega]; omega
theorem allS_shift (cs : List Cell) (len a : Int) (d : Nat) : ∀ e : Nat, (allS cs len (a + e) d).length ≤ (allS cs len a (e + d)).length
  | 0 => by simp
  | e + 1 => by
    have h1 := allS_shift cs len a (d + 1) e
    rw [allS_front, show a + (e : Int) + 1 = a + ((e + 1 : Nat) : Int) by omega, show e + (d + 1) = e + 1 + d by omega] at h1
    omega
theorem slotN_mono {cs cs' : List Cell} (h : ∀ p : Cell → Bool, (cs.filter p).length ≤ (cs'.filter p).length) (len x : Int) : slotN cs len x ≤ slotN cs' len x := h _
theorem allS_mono {cs cs' : List Cell} (h : ∀ p : Cell → Bool, (cs.filter p).length ≤ (cs'.filter p).length) (len a : Int) : ∀ d, (allS cs len a d).length ≤ (allS cs' len a d).length
  | 0 => by simp [allS]
  | d + 1 => by
    have := allS_mono h len a d
    have := slotN_mono h len (a + d)
    rw [allS_len, allS_len]; omega

/-- how far the slots reach -/
theorem next_reach {cs : List Cell} {len a : Int} {need D : Nat} (hn : 1 ≤ need) (hl : ((allS cs len a D).take need).length = need) :
    ∃ d : Nat, d ≤ D ∧ nextA a ((allS cs len a D).take need) = a + d ∧ need ≤ (allS cs len a d).length := by
  induction D with
  | zero => simp [allS] at hl; omega
  | succ D ih =>
    by_cases hd : need ≤ (allS cs len a D).length
    · rw [allS, take_prefix hd] at hl ⊢
      obtain ⟨d, h1, h2, h3⟩ := ih hl
      exact ⟨d, by omega, h2, h3⟩
    · refine ⟨D + 1, Nat.le_refl _, ?_, by rw [List.length_take] at hl; omega⟩
      rw [allS] at hl ⊢
      rw [List.take_append, List.take_of_length_le (by omega)] at hl ⊢
      have hne : List.take (need - (allS cs len a D).length) (List.map (fun _ => a + (D : Int)) (List.filter (fun c => c.slot == (a + D) % len) cs)) ≠ [] := by
        intro hh
        rw [hh, List.append_nil] at hl; omega
      obtain ⟨z, hz⟩ := Option.isSome_iff_exists.1 (List.getLast?_isSome.2 hne)
      have hzm := List.mem_of_mem_take (List.mem_of_getLast? hz)
      simp only [List.mem_map] at hzm
      obtain ⟨_, _, rfl⟩ := hzm
      rw [nextA, List.getLast?_append, hz]
      simp; omega
theorem next_le {cs : List Cell} {len a : Int} {need d D : Nat} (hn : 1 ≤ need) (hd : d ≤ D) (hl : need ≤ (allS cs len a d).length) : ((allS cs len a D).take need).length = need ∧ nextA a ((allS cs len a D).take need) ≤ a + d ∧ a ≤ nextA a ((allS cs len a D).take need) := by
  obtain ⟨t, ht⟩ := allS_prefix cs len a hd
  rw [ht, take_prefix hl]
  have h1 : ((allS cs len a d).take need).length = need := by rw [List.length_take]; omega
  refine ⟨h1, ?_⟩
  obtain ⟨z, hz⟩ := Option.isSome_iff_exists.1 (List.getLast?_isSome.2 (show (allS cs len a d).take need ≠ [] by intro hh; rw [hh] at h1; simp at h1; omega))
  have hb := allS_mem (List.mem_of_mem_take (List.mem_of_getLast? hz))
  rw [nextA, hz]
  simp only
  omega

/-- more cells -/
structure MoreS (s t : Sched) : Prop where
  len : t.len = s.len
  cells : ∀ p : Cell → Bool, (s.cells.filter p).length ≤ (t.cells.filter p).length

theorem slots_more {s t : Sched} (h : MoreS s t) {f : Flow} {x y : Int} {need : Nat} {a a' stop : Int} (hn : 1 ≤ need) (ha : a' ≤ a) (has : a ≤ stop) (hl : (slotsOn s f x y need a stop).length = need) :
    (slotsOn t f x y need a' stop).length = need ∧ nextA a' (slotsOn t f x y need a' stop) ≤ nextA a (slotsOn s f x y need a stop) := by
  unfold slotsOn at hl ⊢
  obtain ⟨d, h1, h2, h3⟩ := next_reach hn hl
  have hc : ∀ p : Cell → Bool, ((cellsL s f x y).filter p).length ≤ ((cellsL t f x y).filter p).length := fun p => by
    unfold cellsL
    rw [List.filter_filter, List.filter_filter]
    exact h.cells _
  have h4 := allS_mono hc s.len a d
  have h5 := allS_shift (cellsL t f x y) s.len a' d (a - a').toNat
  rw [show a' + ((a - a').toNat : Int) = a by omega] at h5
  rw [h.len, h2]
  obtain ⟨g1, g2, g3⟩ := next_le (cs := cellsL t f x y) (len := s.len) (a := a') (need := need) (d := (a - a').toNat + d) (D := (stop - a').toNat) hn (by omega) (by omega)
  exact ⟨g1, by omega⟩

theorem WayOk.need1 {n : Net} {s : Sched} {f : Flow} {r : List Int} (h : WayOk n s f r) {more : Int} (h0 : 0 ≤ more) {k : Nat} (hk : k + 1 < r.length) : 1 ≤ needAt n r more k := by
  obtain ⟨_, l, _, _, _, _, g1, g2, g3⟩ := h.at (i := k) hk
  unfold needAt; rw [g3]; omega

theorem slotsUp_last {n : Net} {s : Sched} {f : Flow} {r : List Int} {rel more : Int} {k : Nat} {o : List Int} {a : Int} (hn : 1 ≤ needAt n r more k) (h : slotsUp n s f r rel more (k + 1) = some (o, a)) : o.getLast? = some (a - 1) := by
  unfold slotsUp at h
  split at h
  · cases h
  · rename_i o' a' h'
    simp only at h
    split at h
    · cases h
    · rename_i hlen
      injection h with h; injection h with e1 e2
      subst e1; subst e2
      obtain ⟨z, hz⟩ := Option.isSome_iff_exists.1 (List.getLast?_isSome.2 (show slotsOn s f (r.getD k 0) (r.getD (k + 1) 0) (needAt n r more k) a' (rel + f.period) ≠ [] by intro hh; rw [hh] at hlen; simp at hlen; omega))
      rw [List.getLast?_append, hz, nextA, hz]
      simp

theorem slotsUp_more {n : Net} {s t : Sched} {f : Flow} {r : List Int} {rel more : Int} (h : MoreS s t) (hw : WayOk n s f r) (h0 : 0 ≤ more) : ∀ {k : Nat} {o : List Int} {a : Int}, k + 1 ≤ r.length → slotsUp n s f r rel more k = some (o, a) →
    ∃ o' a', slotsUp n t f r rel more k = some (o', a') ∧ a' ≤ a
  | 0, o, a, _, hu => ⟨[], rel, rfl, by simp [slotsUp] at hu; omega⟩
  | k + 1, o, a, hk, hu => by
    have hn := hw.need1 h0 (k := k) (by omega)
    have hfl := hw.flow
    unfold slotsUp at hu
    split at hu
    · cases hu
    · rename_i o1 a1 h1
      obtain ⟨o', a', h2, h3⟩ := slotsUp_more h hw h0 (by omega) h1
      obtain ⟨_, u2, u3, _⟩ := slotsUp_ok (by omega) h1
      simp only at hu
      split at hu
      · cases hu
      · rename_i hlen
        injection hu with hu; injection hu with e1 e2
        have hle := slotsOn_le s f (r.getD k 0) (r.getD (k + 1) 0) (needAt n r more k) a1 (rel + f.period)
        obtain ⟨g1, g2⟩ := slots_more h (f := f) (x := r.getD k 0) (y := r.getD (k + 1) 0) (stop := rel + f.period) hn h3 u3 (by omega)
        refine ⟨o' ++ slotsOn t f (r.getD k 0) (r.getD (k + 1) 0) (needAt n r more k) a' (rel + f.period), _, ?_, by rw [← e2]; exact g2⟩
        simp only [slotsUp, h2, g1, Nat.lt_irrefl, if_false]

theorem relR_more {n : Net} {s t : Sched} {f : Flow} {r : List Int} {rel more b : Int} {l : List Int} (h : MoreS s t) (hw : WayOk n s f r) (h0 : 0 ≤ more) (hr : relR n s f r more rel = some (b, l)) :
    ∃ b' l', relR n t f r more rel = some (b', l') ∧ b' ≤ b ∧ 1 ≤ b' := by
  have hl := hw.len
  have hfl := hw.flow
  obtain ⟨m, hm⟩ : ∃ m, r.length - 1 = m + 1 := ⟨r.length - 2, by omega⟩
  unfold relR slotsW at hr ⊢
  rw [hm] at hr ⊢
  cases hu : slotsUp n s f r rel more (m + 1) with
  | none => rw [hu] at hr; cases hr
  | some oa =>
    obtain ⟨o, a⟩ := oa
    have hn := hw.need1 h0 (k := m) (by omega)
    have hz := slotsUp_last hn hu
    obtain ⟨o', a', h2, h3⟩ := slotsUp_more h hw h0 (by omega) hu
    have hz' := slotsUp_last hn h2
    obtain ⟨_, _, _, u4⟩ := slotsUp_ok (by omega) h2
    have hb := u4 _ (List.mem_of_getLast? hz')
    rw [hu] at hr
    rw [h2]
    simp only [Option.map_some, Option.some.injEq, Prod.mk.injEq, List.getLastD_eq_getLast?, hz] at hr
    refine ⟨_, _, rfl, ?_⟩
    simp only [List.getLastD_eq_getLast?, hz', Option.getD_some]
    simp only [Option.getD_some] at hr
    omega

theorem boundUp_more {n : Net} {s t : Sched} {f : Flow} {r : List Int} {more : Int} (h : MoreS s t) (hw : WayOk n s f r) (h0 : 0 ≤ more) : ∀ {k : Nat} {x : Bnd}, boundUp n s f r more k = some x →
    ∃ y, boundUp n t f r more k = some y ∧ y.b ≤ x.b ∧ 0 ≤ y.b ∧ (1 ≤ k → 1 ≤ y.b)
  | 0, x, hu => ⟨⟨0, 0, []⟩, rfl, by simp [boundUp] at hu; subst hu; simp, by simp, by omega⟩
  | k + 1, x, hu => by
    cases hb : boundUp n s f r more k with
    | none => simp only [boundUp, hb] at hu; cases hu
    | some x1 =>
      cases hr : relR n s f r more (f.phase + k * f.period) with
      | none => rw [boundUp_stop hr] at hu; cases hu
      | some bl =>
        obtain ⟨b, l⟩ := bl
        rw [boundUp_some hb hr] at hu
        injection hu with hu
        obtain ⟨y1, g1, g2, g3, g4⟩ := boundUp_more h hw h0 hb
        obtain ⟨b', l', g5, g6, g7⟩ := relR_more h hw h0 hr
        have hx : b ≤ x.b ∧ x1.b ≤ x.b := by
          split at hu
          · subst hu; simp only; omega
          · subst hu; omega
        refine ⟨_, boundUp_some g1 g5, ?_⟩
        split
        · simp only; omega
        · omega

theorem wayE_more {n : Net} {s t : Sched} {f : Flow} {r : List Int} (h : MoreS s t) (hs : formB s = true) (ht : formB t = true) : wayE n t f r = wayE n s f r := by
  unfold wayE
  rw [hs, ht, h.len]
theorem route_more {n : Net} {s t : Sched} {f : Flow} {r : List Int} (h : MoreS s t) (hs : formB s = true) (ht : formB t = true) :
    ((routeM n s f r).2.2.2 = 0 → (routeM n t f r).2.2.2 = 0 ∧ (routeM n t f r).1 ≤ (routeM n s f r).1 ∧ 1 ≤ (routeM n t f r).1) ∧
    ((routeM n s f r).2.2.2 ≠ 0 → (routeM n s f r).2.2.2 = 15 ∨ (routeM n s f r).2.2.2 = (routeM n t f r).2.2.2) := by
  have hE := wayE_more (n := n) (f := f) (r := r) h hs ht
  by_cases hw : wayE n s f r = 0
  · have hok := wayE_ok hw
    have hfl := hok.flow
    have e1 : ¬ wayE n s f r ≠ 0 := by simp [hw]
    have e2 : ¬ wayE n t f r ≠ 0 := by simp [hE, hw]
    cases hB : boundR n s f r 0 with
    | none =>
      have : routeM n s f r = (0, 0, [], 15) := by rw [routeM, if_neg e1, hB]
      rw [this]
      exact ⟨fun hh => (by cases hh), fun _ => .inl rfl⟩
    | some x =>
      have hA : routeM n s f r = (x.b, x.w, x.l, 0) := by rw [routeM, if_neg e1, hB]
      obtain ⟨y, g1, g2, g3, g4⟩ := boundUp_more h hok (Int.le_refl 0) hB
      have hN : relsN t f = relsN s f := by unfold relsN; rw [h.len]
      have hB' : boundR n t f r 0 = some y := by rw [boundR, hN]; exact g1
      have hT : routeM n t f r = (y.b, y.w, y.l, 0) := by rw [routeM, if_neg e2, hB']
      rw [hA, hT]
      obtain ⟨hz, _, _⟩ := form_all hs
      have hsb := sized_bd hz
      have hper := hok.per
      have h1 : 0 < relsN s f := (relsN_lt (by omega)).2 (by
        have : f.period ≤ s.len := by
          rcases Int.lt_or_le s.len f.period with hh | hh
          · rw [Int.emod_eq_of_lt (by omega) hh] at hper; omega
          · exact hh
        simp; omega)
      exact ⟨fun _ => ⟨rfl, g2, g4 h1⟩, fun hh => absurd rfl hh⟩
  · have hA : routeM n s f r = (0, 0, [], wayE n s f r) := by rw [routeM, if_pos hw]
    have hT : routeM n t f r = (0, 0, [], wayE n s f r) := by rw [routeM, if_pos (by rw [hE]; exact hw), hE]
    rw [hA, hT]
    exact ⟨fun hh => absurd hh hw, fun _ => .inr rfl⟩
end HM

/- One more cell: where it comes to stand. -/
namespace HM
open Go Go.RowKit

def insAt {α : Type} (l : List α) (p : Nat) (x : α) : List α := l.take p ++ x :: l.drop p
theorem insAt_len {α : Type} (l : List α) (p : Nat) (x : α) : (insAt l p x).length = l.length + 1 := by
  simp [insAt]; omega
theorem insAt_mem {α : Type} {l : List α} {p : Nat} {x y : α} : y ∈ insAt l p x ↔ y = x ∨ y ∈ l := by
  unfold insAt
  rw [List.mem_append, List.mem_cons]
  constructor
  · rintro (h | rfl | h)
    · exact .inr (List.mem_of_mem_take h)
    · exact .inl rfl
    · exact .inr (List.mem_of_mem_drop h)
  · rintro (rfl | h)
    · exact .inr (.inl rfl)
    · rw [← List.take_append_drop p l, List.mem_append] at h
      rcases h with h | h
      · exact .inl h
      · exact .inr (.inr h)
theorem insAt_filter {α : Type} (l : List α) (p : Nat) (x : α) (q : α → Bool) : (l.filter q).length ≤ ((insAt l p x).filter q).length := by
  unfold insAt
  have h := congrArg (fun l => (List.filter q l).length) (List.take_append_drop p l)
  simp only [List.filter_append, List.length_append] at h ⊢
  have : (List.filter q (l.drop p)).length ≤ (List.filter q (x :: l.drop p)).length := by
    rw [List.filter_cons]; split <;> simp
  omega
theorem insAt_get {α : Type} {l : List α} {p : Nat} {x : α} (hp : p ≤ l.length) (j : Nat) : (insAt l p x)[j]? = if j < p then l[j]? else if j = p then some x else l[j - 1]? := by
  unfold insAt
  by_cases h1 : j < p
  · rw [if_pos h1, List.getElem?_append_left (by simp; omega), List.getElem?_take, if_pos h1]
  · rw [if_neg h1, List.getElem?_append_right (by simp; omega), List.length_take, Nat.min_eq_left hp]
    by_cases h2 : j = p
    · subst h2; simp
    · rw [if_neg h2, show j - p = (j - 1 - p) + 1 by omega, List.getElem?_cons_succ, List.getElem?_drop]
      congr 1; omega

def cellTo (c x : Cell) : Int := x.cmp c
theorem formB_sorted {s : Sched} (h : formB s = true) : Sorted Cell.cmp s.cells := by
  refine sorted_of_next (key := Cell.nums) fun j p x hp hx => ?_
  simp only [formB, Bool.and_eq_true, List.all_eq_true] at h
  have hlt := (List.getElem?_eq_some_iff.1 hx).1
  have h2 := h.2 (j + 1) (by simpa using hlt)
  unfold okAt at h2
  rw [hx] at h2
  simp only [hp, Bool.and_eq_true, decide_eq_true_eq] at h2
  exact h2.2
theorem formB_mono {s : Sched} (h : formB s = true) (c : Cell) : Mono (cellTo c) s.cells := fun i j x y hij hx hy hc => cmpL_trans (formB_sorted h i j x y hij hx hy) hc
theorem formB_mk {s : Sched} (h1 : sizedB s = true) (h2 : s.cells.length ≤ 512) (h3 : ∀ c ∈ s.cells, formedB s c = true) (h4 : Sorted Cell.cmp s.cells) : formB s = true := by
  simp only [formB, h1, decide_eq_true h2, Bool.true_and]
  refine range_all fun j hj => ?_
  obtain ⟨c, hc⟩ := getLt hj
  unfold okAt
  rw [hc]
  simp only [h3 c (List.mem_of_getElem? hc), Bool.true_and]
  cases j with
  | zero => rfl
  | succ j =>
    obtain ⟨p, hp⟩ := getLt (l := s.cells) (k := j) (by omega)
    simp only [hp]
    exact decide_eq_true (h4 j (j + 1) p c (by omega) hp hc)

def posC (s : Sched) (c : Cell) : Nat := posB (cellTo c) s.cells
def hasC (s : Sched) (c : Cell) : Bool := hasB (cellTo c) s.cells
def addM (s : Sched) (c : Cell) : Sched × Int :=
  if formB s = false then (⟨0, 0, []⟩, 1)
  else if formedB s c = false then (⟨0, 0, []⟩, 2)
  else if hasC s c = true then (⟨0, 0, []⟩, 6)
  else if s.cells.length = 512 then (⟨0, 0, []⟩, 8)
  else (⟨s.len, s.offs, insAt s.cells (posC s c) c⟩, 0)
theorem addM_ok {s t : Sched} {c : Cell} (h : addM s c = (t, 0)) : formB s = true ∧ formedB s c = true ∧ hasC s c = false ∧ s.cells.length < 512 ∧ t = ⟨s.len, s.offs, insAt s.cells (posC s c) c⟩ := by
  unfold addM at h
  split at h
  · simp at h
  split at h
  · simp at h
  split at h
  · simp at h
  split at h
  · simp at h
  rename_i h1 h2 h3 h4
  have hb := (form_all (by simpa using h1 : formB s = true)).2.1
  injection h with h5 h6
  exact ⟨by simpa using h1, by simpa using h2, by simpa using h3, by omega, h5.symm⟩
theorem formedB_len {s t : Sched} (h1 : t.len = s.len) (h2 : t.offs = s.offs) (c : Cell) : formedB t c = formedB s c := by
  unfold formedB placedB; rw [h1, h2]
theorem add_sorted {s : Sched} {c : Cell} (h : formB s = true) (hc : hasC s c = false) : Sorted Cell.cmp (insAt s.cells (posC s c) c) := by
  have hs := formB_sorted h
  have hp : posC s c ≤ s.cells.length := posB_le _ _
  have hlt : ∀ (i : Nat) (x : Cell), i < posC s c → s.cells[i]? = some x → x.cmp c < 0 := fun i x hi hx => posB_lt (c := cellTo c) hi hx
  have hge : ∀ (j : Nat) (y : Cell), posC s c ≤ j → s.cells[j]? = some y → c.cmp y < 0 := by
    have h0 : ∀ y, s.cells[posC s c]? = some y → c.cmp y < 0 := fun y hy => by
      have h1 : ¬ y.cmp c < 0 := posB_ge (c := cellTo c) hy
      have h2 : y.cmp c ≠ 0 := by
        unfold hasC hasB at hc
        unfold posC at hy
        rw [hy] at hc
        simpa [cellTo] using hc
      have h3 : 0 < y.cmp c := by omega
      exact cmpL_anti.2 h3
    intro j y hj hy
    rcases Nat.lt_or_eq_of_le hj with hj | rfl
    · have hjl := (List.getElem?_eq_some_iff.1 hy).1
      obtain ⟨z, hz⟩ := getLt (l := s.cells) (k := posC s c) (by omega)
      exact cmpL_trans (h0 z hz) (hs _ _ z y hj hz hy)
    · exact h0 y hy
  intro i j x y hij hx hy
  rw [insAt_get hp] at hx hy
  by_cases h1 : j < posC s c
  · rw [if_pos h1] at hy
    rw [if_pos (by omega)] at hx
    exact hs i j x y hij hx hy
  rw [if_neg h1] at hy
  by_cases h2 : j = posC s c
  · rw [if_pos h2] at hy
    injection hy with hy; subst hy
    rw [if_pos (by omega)] at hx
    exact hlt i x (by omega) hx
  rw [if_neg h2] at hy
  by_cases h3 : i < posC s c
  · rw [if_pos h3] at hx
    exact hs i (j - 1) x y (by omega) hx hy
  rw [if_neg h3] at hx
  by_cases h4 : i = posC s c
  · rw [if_pos h4] at hx
    injection hx with hx; subst hx
    exact hge (j - 1) y (by omega) hy
  · rw [if_neg h4] at hx
    exact hs (i - 1) (j - 1) x y (by omega) hx hy
theorem addM_more {s t : Sched} {c : Cell} (h : addM s c = (t, 0)) : MoreS s t ∧ formB s = true ∧ formB t = true := by
  obtain ⟨h1, h2, h3, h4, rfl⟩ := addM_ok h
  obtain ⟨f1, f2, f3⟩ := form_all h1
  refine ⟨⟨rfl, fun p => insAt_filter _ _ _ _⟩, h1, formB_mk f1 (by simp only [insAt_len]; omega) (fun x hx => ?_) (add_sorted h1 h3)⟩
  have e := formedB_len (s := s) (t := ⟨s.len, s.offs, insAt s.cells (posC s c) c⟩) rfl rfl x
  rw [e]
  rcases insAt_mem.1 hx with rfl | hx
  · exact h2
  · exact f3 x hx

-- what the writing of the cells comes to
theorem ins_room {A B U X : List AV} (h : X.length ≤ U.length) : splice (splice (A ++ B ++ U) (A.length + X.length) B) A.length X = A ++ X ++ B ++ U.drop X.length := by
  have e1 : splice (A ++ B ++ U) (A.length + X.length) B = (A ++ B ++ U).take (A.length + X.length) ++ B ++ U.drop X.length := by
    rw [splice_eq _ _ _ (by simp; omega)]
    congr 1
    rw [show A.length + X.length + B.length = (A ++ B).length + X.length by simp; omega, List.drop_append]
    simp
  rw [e1, splice_eq _ _ _ (by simp; omega)]
  rw [List.append_assoc ((A ++ B ++ U).take _), List.take_append_of_le_length (by simp <;> omega), List.take_take, Nat.min_eq_left (by omega), List.append_assoc A, List.take_left]
  rw [List.drop_append, List.drop_eq_nil_of_le (by simp; omega)]
  rw [show A.length + X.length - (List.take (A.length + X.length) (A ++ (B ++ U))).length = 0 by simp; omega]
  simp
theorem ins_grow {A B Z U X : List AV} (h : Z.length = X.length + B.length) : splice (splice (A ++ Z ++ U) A.length X) (A.length + X.length) B = A ++ X ++ B ++ U := by
  have e1 : splice (A ++ Z ++ U) A.length X = A ++ X ++ (Z.drop X.length ++ U) := by
    rw [splice_eq _ _ _ (by simp; omega), List.append_assoc A, List.take_left, List.drop_append, List.drop_eq_nil_of_le (by omega)]
    rw [show A.length + X.length - A.length = X.length by omega, List.drop_append, show X.length - Z.length = 0 by omega]
    rfl
  rw [e1, splice_eq _ _ _ (by simp; omega)]
  rw [show A.length + X.length = (A ++ X).length by simp, List.take_left, List.drop_append, List.drop_eq_nil_of_le (by omega)]
  rw [show (A ++ X).length + B.length - (A ++ X).length = B.length by omega, List.drop_append, List.drop_eq_nil_of_le (by simp; omega)]
  rw [show B.length - (Z.drop X.length).length = 0 by simp; omega]
  simp
theorem flatE_app (a b : List AV) : flatE (a ++ b) = flatE a ++ flatE b := by simp [flatE]
end HM

/- Links that may lose more. -/
namespace HM
open Go Go.RowKit

def zeroNet : Net := ⟨0, [], 0, 0, [], []⟩
def bump (n : Net) (i : Nat) (k : Int) : Net := { n with links := n.links.modify i fun l => ⟨l.src, l.dst, l.loss + k⟩ }
def weakM (n : Net) (a b k : Int) : Net × Int :=
  if netE n ≠ 0 then (zeroNet, 1) else if findL n a b < 0 then (zeroNet, 7)
  else if k < 0 ∨ 7 - ((n.links[(findL n a b).toNat]?).getD ⟨0, 0, 0⟩).loss < k then (zeroNet, 2)
  else (bump n (findL n a b).toNat k, 0)
def weakR (n : Net) (r : List Int) (k : Int) : Nat → Net × Bool
  | 0 => (n, true)
  | j + 1 => match weakR n r k j with
    | (m, true) => if (weakM m (r.getD j 0) (r.getD (j + 1) 0) k).2 = 0 then ((weakM m (r.getD j 0) (r.getD (j + 1) 0) k).1, true) else (m, false)
    | (m, false) => (m, false)
theorem weakR_step {n m : Net} {r : List Int} {k : Int} {j : Nat} (h : weakR n r k j = (m, true)) (hz : (weakM m (r.getD j 0) (r.getD (j + 1) 0) k).2 = 0) : weakR n r k (j + 1) = ((weakM m (r.getD j 0) (r.getD (j + 1) 0) k).1, true) := by
  simp only [weakR, h, hz, if_true]
theorem weakR_fail {n m : Net} {r : List Int} {k : Int} {j : Nat} (h : weakR n r k j = (m, true)) (hz : (weakM m (r.getD j 0) (r.getD (j + 1) 0) k).2 ≠ 0) : ∀ i, j < i → weakR n r k i = (m, false)
  | 0, hi => by omega
  | i + 1, hi => by
    rcases Nat.lt_succ_iff_lt_or_eq.1 hi with hlt | rfl
    · simp only [weakR, weakR_fail h hz i hlt]
    · simp only [weakR, h, hz, if_false]

/-- the same network but for the losses -/
structure Same (n m : Net) : Prop where
  nodes : m.nodes = n.nodes
  power : m.power = n.power
  noise : m.noise = n.noise
  thr : m.thr = n.thr
  margin : m.margin = n.margin
  keys : m.links.map Link.key = n.links.map Link.key
theorem Same.rfl' (n : Net) : Same n n := ⟨rfl, rfl, rfl, rfl, rfl, rfl⟩
theorem Same.trans {n m o : Net} (h : Same n m) (h' : Same m o) : Same n o := ⟨h'.nodes.trans h.nodes, h'.power.trans h.power, h'.noise.trans h.noise, h'.thr.trans h.thr, h'.margin.trans h.margin, h'.keys.trans h.keys⟩
theorem Same.len {n m : Net} (h : Same n m) : m.links.length = n.links.length := by
  have := congrArg List.length h.keys
  simpa using this
theorem Same.key {n m : Net} (h : Same n m) (i : Nat) : (m.links[i]?).map Link.key = (n.links[i]?).map Link.key := by
  have := congrArg (·[i]?) h.keys
  simpa using this
theorem idxF_map {α β : Type} (g : α → β) (q : β → Bool) (l : List α) : idxF (fun x => q (g x)) l = idxF q (l.map g) := by
  unfold idxF
  simp [List.any_map, List.findIdx_map, Function.comp_def]
theorem isL_key (a b : Int) (l : Link) : isL a b l = (l.key == [a, b]) := by
  unfold isL Link.key
  simp []
theorem Same.find {n m : Net} (h : Same n m) (a b : Int) : findL m a b = findL n a b := by
  unfold findL
  have e : isL a b = (fun x => (fun k : List Int => k == [a, b]) (Link.key x)) := funext (isL_key a b)
  rw [e, idxF_map Link.key (fun k : List Int => k == [a, b]) m.links, idxF_map Link.key (fun k : List Int => k == [a, b]) n.links, h.keys]
theorem Same.heard {n m : Net} (h : Same n m) (i : Int) : heardAt m i = heardAt n i := by
  unfold heardAt heardB
  rw [h.thr, h.noise, h.margin]
theorem Same.good {n m : Net} (h : Same n m) (a b : Int) : goodL m a b = goodL n a b := by
  unfold goodL
  rw [h.find, h.find, h.heard, h.heard]
theorem Same.powE {n m : Net} (h : Same n m) : powerE m = powerE n := by
  unfold powerE; rw [h.power, h.nodes]
theorem Same.net {n m : Net} (h : Same n m) (h0 : netE n = 0) (hl : ∀ (i : Nat) (l : Link), m.links[i]? = some l → 0 ≤ l.loss ∧ l.loss ≤ 7) : netE m = 0 := by
  have hn := netE_ok h0
  unfold netE at h0 ⊢
  rw [h.nodes, h.powE, h.noise, h.thr, h.margin, h.len]
  split at h0
  · cases h0
  split at h0
  · contradiction
  split at h0
  · cases h0
  split at h0
  · cases h0
  split at h0
  · cases h0
  rename_i h1 h2 h3 h4 h5
  rw [if_neg h1, if_neg h2, if_neg h3, if_neg h4, if_neg h5]
  rw [firstE_spec] at h0 ⊢
  intro j hj
  have hj0 := h0 j hj
  obtain ⟨l, hgl⟩ := getLt hj
  obtain ⟨l', hgl'⟩ := getLt (l := m.links) (k := j) (by rw [h.len]; exact hj)
  have hk : l'.key = l.key := by
    have := h.key j
    rw [hgl, hgl'] at this
    simpa using this
  have hk2 : l'.src = l.src ∧ l'.dst = l.dst := by simpa [Link.key] using hk
  have hb := hl j l' hgl'
  have hR : linkR m l' = linkR n l := by
    have hb0 := linkR_bd (hn.link j l hgl).1
    unfold linkR
    rw [h.nodes, hk2.1, hk2.2, decide_eq_true hb.1, decide_eq_true hb.2, decide_eq_true hb0.2.2.2.2.2.1, decide_eq_true hb0.2.2.2.2.2.2]
  have hO : linkO m j l' = linkO n j l := by
    unfold linkO
    cases j with
    | zero => rfl
    | succ i =>
      simp only
      have := h.key i
      cases h1 : n.links[i]? with
      | none => rw [h1] at this; simp at this; simp [this]
      | some p =>
        rw [h1] at this
        simp only [Option.map_some, Option.map_eq_some_iff] at this
        obtain ⟨p', hp', hpk⟩ := this
        simp only [hp']
        exact decide_eq_decide.2 (by unfold Link.cmp; rw [hpk, hk])
  unfold linkE at hj0 ⊢
  rw [hgl] at hj0
  rw [hgl']
  simp only [hR, hO, h.margin, powAt, h.power, hk2.1, hk2.2] at hj0 ⊢
  exact hj0
theorem Same.way {n m : Net} (h : Same n m) (h0 : netE n = 0) (h1 : netE m = 0) (s : Sched) (f : Flow) (r : List Int) : wayE m s f r = wayE n s f r := by
  have hopE : hopOk m r = hopOk n r := funext fun i => by unfold hopOk; rw [h.good]
  unfold wayE routeE endsE routeF
  rw [h0, h1, h.nodes, hopE]
theorem bump_same (n : Net) (i : Nat) (k : Int) : Same n (bump n i k) := by
  refine ⟨rfl, rfl, rfl, rfl, rfl, ?_⟩
  apply List.ext_getElem?
  intro j
  simp only [bump, List.getElem?_map, List.getElem?_modify]
  cases n.links[j]? with
  | none => rfl
  | some l => simp only [Option.map_some]; split <;> rfl
theorem bump_get (n : Net) (i j : Nat) (k : Int) : (bump n i k).links[j]? = (n.links[j]?).map fun l => if i = j then ⟨l.src, l.dst, l.loss + k⟩ else l := by
  simp only [bump, List.getElem?_modify]
  cases n.links[j]? with
  | none => rfl
  | some l => rfl

/-- what the first links' weakening comes to -/
structure Weak (n m : Net) (r : List Int) (k : Int) (j : Nat) : Prop where
  same : Same n m
  net : netE m = 0
  loss : ∀ t, t + 1 < r.length → (linkAt m r t).loss = (linkAt n r t).loss + if t < j then k else 0
theorem WayOk.idx {n : Net} {s : Sched} {f : Flow} {r : List Int} (h : WayOk n s f r) {t u : Nat} (ht : t + 1 < r.length) (hu : u + 1 < r.length) (e : findL n (r.getD t 0) (r.getD (t + 1) 0) = findL n (r.getD u 0) (r.getD (u + 1) 0)) : t = u := by
  obtain ⟨k, l, e1, e2, e3, _⟩ := h.at ht
  obtain ⟨k', l', g1, g2, g3, _⟩ := h.at hu
  have hkk : k = k' := by omega
  subst hkk
  rw [e2] at g2; injection g2 with g2; subst g2
  have hr : r.getD t 0 = r.getD u 0 := by rw [← e3, g3]
  have key : ∀ a b : Nat, a < b → b < r.length → r.getD a 0 ≠ r.getD b 0 := fun a b hab hb hh => by
    have hd := h.dup b hb
    unfold dupAt at hd
    rw [List.getElem?_eq_getElem hb] at hd
    simp only at hd
    rw [List.any_eq_false] at hd
    refine hd r[a] ?_ ?_
    · rw [List.mem_take_iff_getElem]
      exact ⟨a, by omega, rfl⟩
    · rw [List.getD_eq_getElem?_getD, List.getD_eq_getElem?_getD, List.getElem?_eq_getElem (by omega), List.getElem?_eq_getElem hb] at hh
      simpa using hh
  rcases Nat.lt_trichotomy t u with hlt | he | hgt
  · exact absurd hr (key t u hlt (by omega))
  · exact he
  · exact absurd hr.symm (key u t hgt (by omega))
theorem weakR_ok {n : Net} {s : Sched} {f : Flow} {r : List Int} (h : WayOk n s f r) (h0 : netE n = 0) {k : Int} (hk : 0 ≤ k) : ∀ {j : Nat} {m : Net}, j + 1 ≤ r.length → weakR n r k j = (m, true) → Weak n m r k j
  | 0, m, _, hw => by
    simp [weakR] at hw; subst hw
    exact ⟨Same.rfl' n, h0, fun t _ => by simp⟩
  | j + 1, m, hj, hw => by
    cases hp : weakR n r k j with
    | mk m0 ok =>
      cases ok with
      | false => simp [weakR, hp] at hw
      | true =>
        have ih := weakR_ok h h0 hk (by omega) hp
        simp only [weakR, hp] at hw
        split at hw
        · rename_i hz
          obtain ⟨i, l, e1, e2, e3, e4, e5, e6, e7⟩ := h.at (i := j) (by omega)
          have hf : findL m0 (r.getD j 0) (r.getD (j + 1) 0) = i := by rw [ih.same.find, e1]
          unfold weakM at hz hw
          rw [if_neg (by simp [ih.net]), if_neg (by omega)] at hz hw
          split at hz
          · cases hz
          rename_i hb
          rw [if_neg hb] at hw
          simp only [Prod.mk.injEq, and_true] at hw
          subst hw
          rw [hf, Int.toNat_natCast] at hb ⊢
          have hsm := bump_same m0 i k
          refine ⟨ih.same.trans hsm, ?_, fun t ht => ?_⟩
          · refine hsm.net ih.net fun a la hla => ?_
            rw [bump_get] at hla
            simp only [Option.map_eq_some_iff] at hla
            obtain ⟨l0, hl0, rfl⟩ := hla
            have hbd := linkR_bd ((netE_ok ih.net).link a l0 hl0).1
            split
            · rename_i hia
              subst hia
              rw [hl0] at hb
              simp only [Option.getD_some] at hb
              simp only
              omega
            · omega
          · have hlt := ih.loss t ht
            obtain ⟨it, lt, g1, g2, _⟩ := h.at ht
            unfold linkAt at hlt ⊢
            rw [(ih.same.trans hsm).find, bump_get, g1, Int.toNat_natCast]
            rw [ih.same.find, g1, Int.toNat_natCast] at hlt
            have hml : it < m0.links.length := by rw [ih.same.len]; exact (List.getElem?_eq_some_iff.1 g2).1
            obtain ⟨ml, hml⟩ := getLt hml
            rw [hml] at hlt ⊢
            simp only [Option.getD_some, Option.map_some] at hlt ⊢
            by_cases hti : i = it
            · subst hti
              have : t = j := h.idx ht (by omega) (by rw [g1, e1])
              subst this
              rw [if_pos rfl, if_pos (by omega)]
              rw [if_neg (by omega)] at hlt
              simp only
              omega
            · rw [if_neg hti, hlt]
              have : t ≠ j := fun hh => hti (by subst hh; omega)
              by_cases htj : t < j
              · rw [if_pos htj, if_pos (by omega)]
              · rw [if_neg htj, if_neg (by omega)]
        · simp at hw
theorem Weak.need {n m : Net} {r : List Int} {k : Int} {j : Nat} (h : Weak n m r k j) {t : Nat} (ht : t + 1 < r.length) (hj : t < j) : needAt m r 0 t = needAt n r k t := by
  unfold needAt
  rw [h.loss t ht, if_pos hj]
  congr 1
  omega
theorem Weak.slots {n m : Net} {s : Sched} {f : Flow} {r : List Int} {k : Int} {j : Nat} (h : Weak n m r k j) (hj : j + 1 = r.length) (rel : Int) : ∀ {t : Nat}, t ≤ j → slotsUp m s f r rel 0 t = slotsUp n s f r rel k t
  | 0, _ => rfl
  | t + 1, ht => by
    unfold slotsUp
    rw [h.slots hj rel (t := t) (by omega), h.need (t := t) (by omega) (by omega)]
theorem Weak.bound {n m : Net} {s : Sched} {f : Flow} {r : List Int} {k : Int} {j : Nat} (h : Weak n m r k j) (hj : j + 1 = r.length) : boundR m s f r 0 = boundR n s f r k := by
  have hrel : ∀ rel, relR m s f r 0 rel = relR n s f r k rel := fun rel => by
    unfold relR slotsW
    rw [h.slots hj rel (by omega)]
  have : ∀ t, boundUp m s f r 0 t = boundUp n s f r k t := by
    intro t
    induction t with
    | zero => rfl
    | succ t ih => unfold boundUp; rw [ih, hrel]
  unfold boundR
  rw [this]

theorem slackUp_spec {p : Nat → Bool} : ∀ {e k : Nat}, p k = true → k ≤ slackUp p e k ∧ slackUp p e k ≤ k + e ∧ p (slackUp p e k) = true ∧ (slackUp p e k < k + e → p (slackUp p e k + 1) = false)
  | 0, k, h => by simp [slackUp, h]
  | e + 1, k, h => by
    unfold slackUp
    split
    · rename_i h1
      obtain ⟨a, b, c, d⟩ := slackUp_spec (e := e) h1
      exact ⟨by omega, by omega, c, fun hh => d (by omega)⟩
    · rename_i h1
      exact ⟨by omega, by omega, h, fun _ => by simpa using h1⟩

/-- a route's bound in a weakened network -/
theorem weak_route {n m : Net} {s : Sched} {f : Flow} {r : List Int} (hw : wayE n s f r = 0) {k : Nat} (h : weakR n r k (r.length - 1) = (m, true)) :
    (fitsB n s f r k = true → (routeM m s f r).2.2.2 = 0 ∧ (routeM m s f r).1 ≤ f.dead) ∧ (fitsB n s f r k = false → (routeM m s f r).2.2.2 = 15 ∨ (routeM m s f r).2.2.2 = 0 ∧ f.dead < (routeM m s f r).1) := by
  have hok := wayE_ok hw
  have h0 := wayE_net hw
  have hlen := hok.len
  have W := weakR_ok hok h0 (k := k) (by omega) (by omega) h
  have hway : wayE m s f r = 0 := by rw [W.same.way h0 W.net, hw]
  have hb := W.bound (s := s) (f := f) (by omega)
  unfold fitsB routeM
  rw [if_neg (by simp [hway]), hb]
  cases boundR n s f r k with
  | none => simp
  | some x => simp

theorem slack_law {n : Net} {s : Sched} {f : Flow} {r : List Int} {k e : Int} (h : slackM n s f r = (k, e)) (he : e = 0) :
    (routeM n s f r).2.2.2 = 0 ∧ (routeM n s f r).1 ≤ f.dead ∧ 0 ≤ k ∧ k ≤ 7 ∧
    (∀ m, weakR n r k (r.length - 1) = (m, true) → (routeM m s f r).2.2.2 = 0 ∧ (routeM m s f r).1 ≤ f.dead) ∧
    (∀ m, weakR n r (k + 1) (r.length - 1) = (m, true) → k = 7 ∨ (routeM m s f r).2.2.2 = 15 ∨ (routeM m s f r).2.2.2 = 0 ∧ f.dead < (routeM m s f r).1) := by
  subst he
  unfold slackM at h
  split at h
  · rename_i hw
    simp only [Prod.mk.injEq] at h
    exact absurd h.2 hw
  split at h
  · simp at h
  rename_i h1 h2
  simp only [Prod.mk.injEq, and_true] at h
  have hw : wayE n s f r = 0 := by simpa using h1
  have hf0 : fitsB n s f r 0 = true := by simpa using h2
  obtain ⟨a, b, c, d⟩ := slackUp_spec (p := fitsB n s f r) (e := 7) hf0
  generalize slackUp (fitsB n s f r) 7 0 = kk at *
  subst h
  refine ⟨?_, ?_, by omega, by omega, fun m hm => (weak_route hw hm).1 c, fun m hm => ?_⟩
  · unfold routeM
    rw [if_neg h1]
    unfold fitsB at hf0
    cases hb : boundR n s f r 0 with
    | none => rw [show ((0 : Nat) : Int) = 0 from rfl, hb] at hf0; cases hf0
    | some x => rfl
  · unfold routeM
    rw [if_neg h1]
    unfold fitsB at hf0
    cases hb : boundR n s f r 0 with
    | none => rw [show ((0 : Nat) : Int) = 0 from rfl, hb] at hf0; cases hf0
    | some x =>
      rw [show ((0 : Nat) : Int) = 0 from rfl, hb] at hf0
      simpa using hf0
  · by_cases h7 : kk = 7
    · left; omega
    · right
      exact (weak_route hw (k := kk + 1) (by rw [Int.natCast_add]; exact hm)).2 (d (by omega))
theorem slack_bad {n : Net} {s : Sched} {f : Flow} {r : List Int} {k e : Int} (h : slackM n s f r = (k, e)) (he : e ≠ 0) :
    k = 0 ∧ (e = (routeM n s f r).2.2.2 ∨ e = 15 ∧ (routeM n s f r).2.2.2 = 0 ∧ f.dead < (routeM n s f r).1) := by
  unfold slackM at h
  split at h
  · rename_i hw
    simp only [Prod.mk.injEq] at h
    refine ⟨h.1.symm, .inl ?_⟩
    unfold routeM
    rw [if_pos hw, ← h.2]
  split at h
  · rename_i h1 h2
    simp only [Prod.mk.injEq] at h
    refine ⟨h.1.symm, ?_⟩
    unfold routeM
    rw [if_neg h1]
    unfold fitsB at h2
    rw [show ((0 : Nat) : Int) = 0 from rfl] at h2
    cases hb : boundR n s f r 0 with
    | none => exact .inl h.2.symm
    | some x =>
      rw [hb] at h2
      refine .inr ⟨h.2.symm, rfl, by simpa using h2⟩
  · simp only [Prod.mk.injEq] at h
    exact absurd h.2.symm he
end HM

/- The cells that are needed: their own slots are the same. -/
namespace HM
open Go Go.RowKit

/-- the cells that come by, with their slots -/
def evC (cs : List Cell) (len a : Int) : Nat → List (Cell × Int)
  | 0 => []
  | d + 1 => evC cs len a d ++ ((cs.filter fun c => c.slot == (a + d) % len).map fun c => (c, a + (d : Int)))
theorem evC_snd (cs : List Cell) (len a : Int) : ∀ d, (evC cs len a d).map (·.2) = allS cs len a d
  | 0 => rfl
  | d + 1 => by simp [evC, allS, evC_snd cs len a d, Function.comp_def]
theorem evC_filter (cs : List Cell) (len a : Int) (p : Cell → Bool) : ∀ d, evC (cs.filter p) len a d = (evC cs len a d).filter fun x => p x.1
  | 0 => rfl
  | d + 1 => by
    simp only [evC, List.filter_append, evC_filter cs len a p d, List.filter_map, Function.comp_def]
    rw [List.filter_filter, List.filter_filter]
    congr 3
    funext c
    simp [Bool.and_comm]
theorem evC_mem {cs : List Cell} {len a : Int} : ∀ {d : Nat} {x : Cell × Int}, x ∈ evC cs len a d → x.1 ∈ cs
  | 0, _, h => by simp [evC] at h
  | d + 1, x, h => by
    simp only [evC, List.mem_append, List.mem_map, List.mem_filter] at h
    rcases h with h | ⟨c, ⟨hc, _⟩, rfl⟩
    · exact evC_mem h
    · exact hc
theorem take_filter {α : Type} {p : α → Bool} : ∀ {l : List α} {n : Nat}, (l.take n).length = n → (∀ x ∈ l.take n, p x = true) → (l.filter p).take n = l.take n
  | _, 0, _, _ => by simp
  | [], n + 1, h, _ => by simp at h
  | x :: l, n + 1, h, hp => by
    have hx := hp x (by simp)
    rw [List.filter_cons, if_pos hx, List.take_succ_cons, List.take_succ_cons, take_filter (by simpa using h) fun y hy => hp y (by simp [hy])]

/-- the cells that count on the first links -/
def onC (s : Sched) (f : Flow) (a b : Int) (need : Nat) (at_ stop : Int) : List Cell := ((evC (cellsL s f a b) s.len at_ (stop - at_).toNat).take need).map (·.1)
def cellsUp (n : Net) (s : Sched) (f : Flow) (r : List Int) (rel : Int) : Nat → List Cell
  | 0 => []
  | k + 1 => match slotsUp n s f r rel 0 k with
    | none => cellsUp n s f r rel k
    | some (_, a) => cellsUp n s f r rel k ++ onC s f (r.getD k 0) (r.getD (k + 1) 0) (needAt n r 0 k) a (rel + f.period)
def relC (n : Net) (s : Sched) (f : Flow) (r : List Int) (rel : Int) : List Cell := cellsUp n s f r rel (r.length - 1)
def relsC (n : Net) (s : Sched) (f : Flow) (r : List Int) : Nat → List Cell
  | 0 => []
  | k + 1 => relsC n s f r k ++ relC n s f r (f.phase + k * f.period)
def allC (n : Net) (s : Sched) (f : Flow) (l : List (List Int)) : List Cell := l.flatMap fun r => relsC n s f r (relsN s f)
def needL (n : Net) (s : Sched) (f : Flow) (l : List (List Int)) : List Cell := s.cells.filter fun c => decide (c ∈ allC n s f l)
def badR (n : Net) (s : Sched) (f : Flow) : List (List Int) → Int
  | [] => 0
  | r :: l => if (routeM n s f r).2.2.2 ≠ 0 then (routeM n s f r).2.2.2 else badR n s f l
def needM (n : Net) (s : Sched) (f : Flow) (l : List (List Int)) : List Cell × Int :=
  if l.length = 0 then ([], 14) else if badR n s f l ≠ 0 then ([], badR n s f l) else (needL n s f l, 0)

theorem onC_mem {s : Sched} {f : Flow} {a b : Int} {need : Nat} {x y : Int} {c : Cell} (h : c ∈ onC s f a b need x y) : c ∈ s.cells ∧ c.flow = f.id := by
  unfold onC at h
  obtain ⟨e, he, rfl⟩ := List.mem_map.1 h
  have := evC_mem (List.mem_of_mem_take he)
  unfold cellsL at this
  rw [List.mem_filter] at this
  refine ⟨this.1, ?_⟩
  have h2 := this.2
  simp [offL] at h2
  exact h2.1.1
theorem cellsUp_mem {n : Net} {s : Sched} {f : Flow} {r : List Int} {rel : Int} {c : Cell} : ∀ {k : Nat}, c ∈ cellsUp n s f r rel k → c ∈ s.cells ∧ c.flow = f.id
  | 0, h => by simp [cellsUp] at h
  | k + 1, h => by
    unfold cellsUp at h
    split at h
    · exact cellsUp_mem h
    · rcases List.mem_append.1 h with h | h
      · exact cellsUp_mem h
      · exact onC_mem h
theorem allC_mem {n : Net} {s : Sched} {f : Flow} {l : List (List Int)} {c : Cell} (h : c ∈ allC n s f l) : c ∈ s.cells ∧ c.flow = f.id := by
  unfold allC at h
  rw [List.mem_flatMap] at h
  obtain ⟨r, _, h⟩ := h
  have : ∀ k, c ∈ relsC n s f r k → c ∈ s.cells ∧ c.flow = f.id := by
    intro k
    induction k with
    | zero => intro h; simp [relsC] at h
    | succ k ih =>
      intro h
      rcases List.mem_append.1 h with h | h
      · exact ih h
      · exact cellsUp_mem h
  exact this _ h
theorem onC_len (s : Sched) (f : Flow) (a b : Int) (need : Nat) (x y : Int) : (onC s f a b need x y).length = (slotsOn s f a b need x y).length := by
  unfold onC slotsOn
  rw [← evC_snd]
  simp

/-- fewer cells, with all that count -/
theorem slots_part {s t : Sched} {f : Flow} {a b x y : Int} {need : Nat} {p : Cell → Bool} (hl : t.len = s.len) (ht : t.cells = s.cells.filter p) (hn : (slotsOn s f a b need x y).length = need) (hp : ∀ c ∈ onC s f a b need x y, p c = true) : slotsOn t f a b need x y = slotsOn s f a b need x y := by
  have hc : cellsL t f a b = (cellsL s f a b).filter p := by
    unfold cellsL
    rw [ht, List.filter_filter, List.filter_filter]
    congr 1
    funext c
    simp [Bool.and_comm]
  unfold slotsOn at hn ⊢
  rw [hc, hl, ← evC_snd, ← evC_snd, evC_filter, ← List.map_take, ← List.map_take]
  rw [← evC_snd, ← List.map_take, List.length_map] at hn
  rw [take_filter hn fun e he => hp e.1 (List.mem_map.2 ⟨e, he, rfl⟩)]
theorem slotsUp_part {n : Net} {s t : Sched} {f : Flow} {r : List Int} {rel : Int} {p : Cell → Bool} (hl : t.len = s.len) (ht : t.cells = s.cells.filter p) : ∀ {k : Nat} {o : List Int} {a : Int}, slotsUp n s f r rel 0 k = some (o, a) → (∀ c ∈ cellsUp n s f r rel k, p c = true) → slotsUp n t f r rel 0 k = some (o, a)
  | 0, _, _, h, _ => h
  | k + 1, o, a, h, hp => by
    have h' := h
    unfold slotsUp at h
    split at h
    · cases h
    · rename_i o1 a1 h1
      simp only at h
      split at h
      · cases h
      · rename_i hlen
        have hle := slotsOn_le s f (r.getD k 0) (r.getD (k + 1) 0) (needAt n r 0 k) a1 (rel + f.period)
        unfold cellsUp at hp
        rw [h1] at hp
        simp only at hp
        have ih := slotsUp_part (n := n) (s := s) (t := t) hl ht h1 fun c hc => hp c (List.mem_append_left _ hc)
        have e := slots_part (s := s) (t := t) hl ht (by omega) fun c hc => hp c (List.mem_append_right _ hc)
        unfold slotsUp
        rw [ih]
        simp only
        rw [e, if_neg hlen]
        exact h
theorem boundUp_part {n : Net} {s t : Sched} {f : Flow} {r : List Int} {p : Cell → Bool} (hl : t.len = s.len) (ht : t.cells = s.cells.filter p) : ∀ {k : Nat} {x : Bnd}, boundUp n s f r 0 k = some x → (∀ c ∈ relsC n s f r k, p c = true) → boundUp n t f r 0 k = some x
  | 0, _, h, _ => h
  | k + 1, x, h, hp => by
    cases hb : boundUp n s f r 0 k with
    | none => simp only [boundUp, hb] at h; cases h
    | some y =>
      cases hr : relR n s f r 0 (f.phase + k * f.period) with
      | none => rw [boundUp_stop hr] at h; cases h
      | some bl =>
        have ih := boundUp_part hl ht hb fun c hc => hp c (List.mem_append_left _ hc)
        have hrt : relR n t f r 0 (f.phase + k * f.period) = some bl := by
          unfold relR slotsW at hr ⊢
          cases hu : slotsUp n s f r (f.phase + k * f.period) 0 (r.length - 1) with
          | none => rw [hu] at hr; cases hr
          | some oa =>
            obtain ⟨o, a⟩ := oa
            rw [hu] at hr
            rw [slotsUp_part hl ht hu fun c hc => hp c (List.mem_append_right _ hc)]
            exact hr
        obtain ⟨b, l⟩ := bl
        rw [boundUp_some hb hr] at h
        rw [boundUp_some ih hrt]
        exact h
theorem sorted_filter {α : Type} {c : α → α → Int} {l : List α} (p : α → Bool) (h : Sorted c l) : Sorted c (l.filter p) := by
  have h1 : l.Pairwise (fun x y => c x y < 0) := by
    rw [List.pairwise_iff_getElem]
    intro i j hi hj hij
    exact h i j _ _ hij (List.getElem?_eq_getElem hi) (List.getElem?_eq_getElem hj)
  have h2 := h1.filter p
  rw [List.pairwise_iff_getElem] at h2
  intro i j x y hij hx hy
  obtain ⟨hi, rfl⟩ := List.getElem?_eq_some_iff.1 hx
  obtain ⟨hj, rfl⟩ := List.getElem?_eq_some_iff.1 hy
  exact h2 i j hi hj hij
theorem formB_filter {s : Sched} (h : formB s = true) (p : Cell → Bool) : formB ⟨s.len, s.offs, s.cells.filter p⟩ = true := by
  obtain ⟨f1, f2, f3⟩ := form_all h
  refine formB_mk f1 (Nat.le_trans (List.length_filter_le _ _) f2) (fun c hc => ?_) (sorted_filter p (formB_sorted h))
  have e := formedB_len (s := s) (t := ⟨s.len, s.offs, s.cells.filter p⟩) rfl rfl c
  rw [e]
  exact f3 c (List.mem_filter.1 hc).1
theorem badR_all {n : Net} {s : Sched} {f : Flow} : ∀ {l : List (List Int)}, badR n s f l = 0 → ∀ r ∈ l, (routeM n s f r).2.2.2 = 0
  | [], _, r, h => by cases h
  | a :: l, h, r, hr => by
    unfold badR at h
    split at h
    · contradiction
    · rename_i h1
      rcases List.mem_cons.1 hr with rfl | hr
      · simpa using h1
      · exact badR_all h r hr
theorem routeM_ok {n : Net} {s : Sched} {f : Flow} {r : List Int} (h : (routeM n s f r).2.2.2 = 0) : wayE n s f r = 0 ∧ ∃ x, boundR n s f r 0 = some x ∧ routeM n s f r = (x.b, x.w, x.l, 0) := by
  unfold routeM at h ⊢
  split at h
  · contradiction
  rename_i hw
  rw [if_neg hw]
  cases hb : boundR n s f r 0 with
  | none => rw [hb] at h; cases h
  | some x => exact ⟨by simpa using hw, x, rfl, rfl⟩
theorem needs_law {n : Net} {s : Sched} {f : Flow} {l : List (List Int)} {c : List Cell} (h : needM n s f l = (c, 0)) :
    (∀ r ∈ l, (routeM n s f r).2.2.2 = 0 ∧ routeM n ⟨s.len, s.offs, c⟩ f r = routeM n s f r) ∧ c ≠ [] ∧ ∀ x ∈ c, x.flow = f.id ∧ x ∈ s.cells := by
  unfold needM at h
  split at h
  · simp at h
  split at h
  · rename_i h1
    simp only [Prod.mk.injEq] at h
    exact absurd h.2 h1
  rename_i h0 h1
  simp only [Prod.mk.injEq, and_true] at h
  have hall := badR_all (by simpa using h1 : badR n s f l = 0)
  subst h
  refine ⟨fun r hr => ⟨hall r hr, ?_⟩, ?_, fun x hx => ?_⟩
  · obtain ⟨hw, x, hb, hR⟩ := routeM_ok (hall r hr)
    have hok := wayE_ok hw
    have hway : wayE n ⟨s.len, s.offs, needL n s f l⟩ f r = 0 := by
      have hf := formB_filter hok.form fun c => decide (c ∈ allC n s f l)
      unfold wayE at hw ⊢
      unfold needL
      rw [hf]
      rw [hok.form] at hw
      exact hw
    have hbt : boundR n ⟨s.len, s.offs, needL n s f l⟩ f r 0 = some x := by
      unfold boundR at hb ⊢
      rw [show relsN ⟨s.len, s.offs, needL n s f l⟩ f = relsN s f from rfl]
      refine boundUp_part (s := s) (t := ⟨s.len, s.offs, needL n s f l⟩) (p := fun c => decide (c ∈ allC n s f l)) rfl rfl hb fun c hc => ?_
      refine decide_eq_true ?_
      unfold allC
      rw [List.mem_flatMap]
      exact ⟨r, hr, hc⟩
    rw [hR]
    unfold routeM
    rw [if_neg (by simp [hway]), hbt]
  · obtain ⟨r, hr⟩ : ∃ r, r ∈ l := by
      cases l with
      | nil => simp at h0
      | cons a l => exact ⟨a, by simp⟩
    obtain ⟨hw, x, hb, hR⟩ := routeM_ok (hall r hr)
    have hok := wayE_ok hw
    have hfl := hok.flow
    have hlen := hok.len
    obtain ⟨hz, _, _⟩ := form_all hok.form
    have hsb := sized_bd hz
    have hper := hok.per
    have h1 : 0 < relsN s f := (relsN_lt (by omega)).2 (by
      have : f.period ≤ s.len := by
        rcases Int.lt_or_le s.len f.period with hh | hh
        · rw [Int.emod_eq_of_lt (by omega) hh] at hper; omega
        · exact hh
      simp; omega)
    -- the first release has a cell on the first link
    have hc : ∃ c, c ∈ relC n s f r (f.phase + (0 : Nat) * f.period) := by
      have hu1 : ∃ o a, slotsUp n s f r (f.phase + (0 : Nat) * f.period) 0 1 = some (o, a) := by
        have hb1 : ∀ k x, boundUp n s f r 0 (k + 1) = some x → relR n s f r 0 (f.phase + (0 : Nat) * f.period) ≠ none := by
          intro k
          induction k with
          | zero =>
            intro x hx hh
            rw [boundUp_stop hh] at hx; cases hx
          | succ k ih =>
            intro x hx
            cases hb' : boundUp n s f r 0 (k + 1) with
            | none => simp only [boundUp] at hx hb'; rw [hb'] at hx; cases hx
            | some y => exact ih y hb'
        obtain ⟨k, hk⟩ : ∃ k, relsN s f = k + 1 := ⟨relsN s f - 1, by omega⟩
        have hb2 := hb
        unfold boundR at hb2
        rw [hk] at hb2
        have hr1 := hb1 k x hb2
        unfold relR slotsW at hr1
        cases hu : slotsUp n s f r (f.phase + (0 : Nat) * f.period) 0 1 with
        | some oa => exact ⟨oa.1, oa.2, rfl⟩
        | none =>
          rw [slotsUp_none hu (by omega : 1 ≤ r.length - 1)] at hr1
          exact absurd rfl hr1
      obtain ⟨o, a, hu⟩ := hu1
      have hn1 := hok.need1 (Int.le_refl 0) (k := 0) (by omega)
      unfold slotsUp at hu
      simp only [slotsUp] at hu
      split at hu
      · cases hu
      rename_i hlen1
      have hl := onC_len s f (r.getD 0 0) (r.getD (0 + 1) 0) (needAt n r 0 0) (f.phase + (0 : Nat) * f.period) (f.phase + (0 : Nat) * f.period + f.period)
      have hpos : 0 < (onC s f (r.getD 0 0) (r.getD (0 + 1) 0) (needAt n r 0 0) (f.phase + (0 : Nat) * f.period) (f.phase + (0 : Nat) * f.period + f.period)).length := by rw [hl]; omega
      obtain ⟨c, hc⟩ := List.exists_mem_of_length_pos hpos
      have hmono : ∀ k, 1 ≤ k → c ∈ cellsUp n s f r (f.phase + (0 : Nat) * f.period) k := by
        intro k
        induction k with
        | zero => intro hh; omega
        | succ k ih =>
          intro _
          by_cases hk : k = 0
          · subst hk
            unfold cellsUp
            simp only [slotsUp]
            exact List.mem_append_right _ hc
          · unfold cellsUp
            split
            · exact ih (by omega)
            · exact List.mem_append_left _ (ih (by omega))
      exact ⟨c, hmono _ (by omega)⟩
    obtain ⟨c, hc⟩ := hc
    have hmem : c ∈ allC n s f l := by
      unfold allC
      rw [List.mem_flatMap]
      refine ⟨r, hr, ?_⟩
      have : ∀ k, 0 < k → c ∈ relsC n s f r k := by
        intro k
        induction k with
        | zero => intro hh; omega
        | succ k ih =>
          intro _
          by_cases hk : k = 0
          · subst hk
            exact List.mem_append_right _ hc
          · exact List.mem_append_left _ (ih (by omega))
      exact this _ h1
    intro hnil
    have hcs := (allC_mem hmem).1
    have : c ∈ needL n s f l := by
      unfold needL
      rw [List.mem_filter]
      exact ⟨hcs, decide_eq_true hmem⟩
    rw [hnil] at this
    cases this
  · unfold needL at hx
    rw [List.mem_filter] at hx
    have := allC_mem (of_decide_eq_true hx.2)
    exact ⟨this.2, hx.1⟩
theorem needs_bad {n : Net} {s : Sched} {f : Flow} {l : List (List Int)} {c : List Cell} {e : Int} (h : needM n s f l = (c, e)) (he : e ≠ 0) : c = [] := by
  unfold needM at h
  split at h
  · simp only [Prod.mk.injEq] at h; exact h.1.symm
  split at h
  · simp only [Prod.mk.injEq] at h; exact h.1.symm
  · simp only [Prod.mk.injEq] at h; exact absurd h.2.symm he
end HM
