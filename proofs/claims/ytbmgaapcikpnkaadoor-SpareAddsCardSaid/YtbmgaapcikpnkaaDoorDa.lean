/- Schedules, masks and places in plain words. -/
import Derived.Test.YtbmgaapcikpnkaaDoorFg
/- Schedules as plain data, and what the code computes of them. -/
namespace HM
open Go Go.RowKit

theorem Els.map {α : Type} {sz : Nat} {f : α → AV} (h : ∀ x, (f x).ncells = sz ∧ (f x).cells.all AV.isCell = true) {l : List α} : Els sz (l.map f) := by
  intro e he
  obtain ⟨x, _, rfl⟩ := List.mem_map.1 he
  exact h x

structure Cell where
  slot : Int
  off : Int
  src : Int
  dst : Int
  flow : Int
  deriving DecidableEq

structure Sched where
  len : Int
  offs : Int
  cells : List Cell

def encI (n : Int) : AV := .int .i64 n
def encIs (l : List Int) : AV := .sl false (l.map encI)
def Cell.av (c : Cell) : AV := .agg [.int .i64 c.slot, .int .i64 c.off, .int .i64 c.src, .int .i64 c.dst, .int .i64 c.flow]
def encCells (l : List Cell) : AV := .sl false (l.map Cell.av)
def Sched.av (s : Sched) : AV := .agg [.int .i64 s.len, .int .i64 s.offs, encCells s.cells]

def insB (x n : Int) : Bool := decide (0 ≤ x) && decide (x < n)
def sizedB (s : Sched) : Bool := decide (1 ≤ s.len) && decide (s.len ≤ 512) && decide (1 ≤ s.offs) && decide (s.offs ≤ 16)
def placedB (s : Sched) (c : Cell) : Bool := insB c.slot s.len && insB c.off s.offs
def formedB (s : Sched) (c : Cell) : Bool := placedB s c && insB c.src 32 && insB c.dst 32 && insB c.flow 256
def inB (n lo hi : Int) : Bool := decide (lo ≤ n) && decide (n ≤ hi)
def Cell.nums (c : Cell) : List Int := [c.slot, c.off, c.src, c.dst, c.flow]

/-- how two lists of numbers compare -/
def cmpI (x y : Int) : Int := if x < y then -1 else if y < x then 1 else 0
def cmpL : List Int → List Int → Int
  | [], [] => 0
  | [], _ :: _ => -1
  | _ :: _, [] => 1
  | x :: xs, y :: ys => if cmpI x y = 0 then cmpL xs ys else cmpI x y
def lessL : List Int → List Int → Bool
  | x :: xs, y :: ys => if x = y then lessL xs ys else decide (x < y)
  | _, _ => false
def Cell.cmp (a b : Cell) : Int := cmpL a.nums b.nums

theorem getMap {α : Type} {f : α → AV} {l : List α} {k : Nat} {x : α} (h : l[k]? = some x) : (l.map f)[(k : Int).toNat]? = some (f x) := by simp [h]
theorem dropGet {α : Type} {l : List α} {k : Nat} {x : α} (h : l[k]? = some x) : l.drop k = x :: l.drop (k + 1) := by
  obtain ⟨hlt, rfl⟩ := List.getElem?_eq_some_iff.1 h
  exact List.drop_eq_getElem_cons hlt
theorem getLt {α : Type} {l : List α} {k : Nat} (h : k < l.length) : ∃ x, l[k]? = some x := ⟨_, List.getElem?_eq_getElem h⟩
theorem lenLt {α : Type} {f : α → AV} {l : List α} {k : Nat} (h : decide ((k : Int) < ((l.map f).length : Int)) = true) : k < l.length := by simpa using h
theorem lenGe {α : Type} {f : α → AV} {l : List α} {k : Nat} (h : decide ((k : Int) < ((l.map f).length : Int)) = false) : l.length ≤ k := by simpa using h
theorem inbMap {α : Type} {f : α → AV} {l : List α} {k : Nat} (h : k < l.length) : InB (k : Int) (l.map f).length := ⟨by omega, by simp; omega⟩
theorem succI {k n : Nat} (h : k < n) (hn : n ≤ 281474976710656) : IntKind.i64.wrap ((k : Int) + 1) = ((k + 1 : Nat) : Int) := by rw [w64] <;> omega

/-- what is asked of the cell at a place -/
def okAt (s : Sched) (i : Nat) : Bool := match s.cells[i]? with
  | some c => formedB s c && (match i with
    | 0 => true
    | j + 1 => match s.cells[j]? with
      | some p => decide (p.cmp c < 0)
      | none => true)
  | none => true
def formB (s : Sched) : Bool := sizedB s && decide (s.cells.length ≤ 512) && (List.range s.cells.length).all (okAt s)

theorem range_all {n : Nat} {f : Nat → Bool} (h : ∀ j, j < n → f j = true) : (List.range n).all f = true := by
  simp [List.all_eq_true]; exact h
theorem range_not {n k : Nat} {f : Nat → Bool} (hk : k < n) (h : f k = false) : (List.range n).all f = false := by
  rw [List.all_eq_false]
  exact ⟨k, by simpa using hk, by simp [h]⟩
theorem form_all {s : Sched} (h : formB s = true) : sizedB s = true ∧ s.cells.length ≤ 512 ∧ ∀ c ∈ s.cells, formedB s c = true := by
  simp only [formB, Bool.and_eq_true, decide_eq_true_eq, List.all_eq_true] at h
  refine ⟨h.1.1, h.1.2, fun c hc => ?_⟩
  obtain ⟨j, hj⟩ := List.getElem?_of_mem hc
  have h2 := h.2 j (by simp; exact (List.getElem?_eq_some_iff.1 hj).1)
  unfold okAt at h2
  rw [hj] at h2
  simp at h2
  exact h2.1

theorem sized_bd {s : Sched} (h : sizedB s = true) : 1 ≤ s.len ∧ s.len ≤ 512 ∧ 1 ≤ s.offs ∧ s.offs ≤ 16 := by simp [sizedB] at h; omega
theorem formed_bd {s : Sched} {c : Cell} (h : formedB s c = true) : 0 ≤ c.slot ∧ c.slot < s.len ∧ 0 ≤ c.off ∧ c.off < s.offs := by
  simp [formedB, placedB, insB] at h; omega

mutual
theorem fz_okk : ∀ (e : AV) {e' : AV} {k m : Nat}, fz e = some e' → e'.okk k m
  | .int _ _, _, _, _, h => by simp [fz] at h; subst h; trivial
  | .bool _, _, _, _, h => by simp [fz] at h; subst h; trivial
  | .str _, _, _, _, h => by simp [fz] at h; subst h; trivial
  | .nils, _, _, _, h => by simp [fz] at h; subst h; trivial
  | .nilp, _, _, _, h => by simp [fz] at h; subst h; trivial
  | .nili, _, _, _, h => by simp [fz] at h; subst h; trivial
  | .nilm, _, _, _, h => by simp [fz] at h; subst h; trivial
  | .sl _ _, _, _, _, h => by simp [fz] at h; subst h; trivial
  | .own _ _, _, _, _, h => by simp [fz] at h; subst h; trivial
  | .cptr _ _, _, _, _, h => by simp [fz] at h; subst h; trivial
  | .cmp _ _ _, _, _, _, h => by simp [fz] at h; subst h; trivial
  | .fn f caps, e', k, m, h => by
    simp only [fz, Option.map_eq_some_iff] at h
    obtain ⟨x, h1, rfl⟩ := h
    exact fzs_okk' caps h1
  | .agg cs, e', k, m, h => by
    simp only [fz, Option.map_eq_some_iff] at h
    obtain ⟨x, h1, rfl⟩ := h
    exact fzs_okk' cs h1
  | .tup cs, e', k, m, h => by
    simp only [fz, Option.map_eq_some_iff] at h
    obtain ⟨x, h1, rfl⟩ := h
    exact fzs_okk' cs h1
  | .undef, _, _, _, h => by simp [fz] at h
  | .bsl _ _ _ _, _, _, _, h => by simp [fz] at h
  | .vsl _ _ _ _, _, _, _, h => by simp [fz] at h
  | .ptr _ _, _, _, _, h => by simp [fz] at h
  | .yld _, _, _, _, h => by simp [fz] at h
  | .mp _, _, _, _, h => by simp [fz] at h
theorem fzs_okk' : ∀ (es : List AV) {es' : List AV} {k m : Nat}, fzs es = some es' → okks k m es'
  | [], _, _, _, h => by simp [fzs] at h; subst h; trivial
  | e :: es, es', k, m, h => by
    simp only [fzs] at h
    split at h
    · rename_i a b h1 h2
      simp at h; subst h
      exact ⟨fz_okk e h1, fzs_okk' es h2⟩
    · cases h
end
theorem fzs_okk {es : List AV} {k m : Nat} (h : fzs es = some es) : okks k m es := fzs_okk' es h

/-- where a list first meets a condition; -1: nowhere -/
def idxF {α : Type} (p : α → Bool) (l : List α) : Int := if l.any p then (l.findIdx p : Int) else -1

theorem idxF_some {α : Type} {p : α → Bool} {l : List α} {k : Nat} {x : α} (hlt : k < l.length) (hinv : ∀ j y, j < k → l[j]? = some y → p y = false) (hx : l[k]? = some x) (hp : p x = true) : idxF p l = (k : Int) := by
  have hany : l.any p = true := List.any_eq_true.2 ⟨x, List.mem_of_getElem? hx, hp⟩
  have hidx : l.findIdx p = k := by
    rw [List.findIdx_eq hlt]
    obtain ⟨_, rfl⟩ := List.getElem?_eq_some_iff.1 hx
    exact ⟨hp, fun j hj => hinv j _ hj (List.getElem?_eq_getElem (by omega))⟩
  simp [idxF, hany, hidx]
theorem idxF_none {α : Type} {p : α → Bool} {l : List α} (hinv : ∀ j y, j < l.length → l[j]? = some y → p y = false) : idxF p l = -1 := by
  have hany : l.any p = false := by
    rw [List.any_eq_false]
    intro x hx
    obtain ⟨j, hj⟩ := List.getElem?_of_mem hx
    simp [hinv j x (List.getElem?_eq_some_iff.1 hj).1 hj]
  simp [idxF, hany]
theorem idxF_any {α : Type} (p : α → Bool) (l : List α) : decide (0 ≤ idxF p l) = l.any p := by
  unfold idxF
  cases h : l.any p <;> simp
end HM

/- Masks as plain numbers. -/
namespace HM
open Go Go.RowKit

def outB (offs m : Int) : Bool := decide (m < 0) || decide (2 ^ offs.toNat ≤ m)
def checkM (f : List Int) (len offs : Int) : Int :=
  if len < 1 ∨ 512 < len ∨ offs < 1 ∨ 16 < offs then 2 else if (f.length : Int) ≠ len then 11 else if f.any (outB offs) then 2 else 0

theorem pow_le62 {n : Nat} (h : n ≤ 62) : (2 : Int) ^ n ≤ 4611686018427387904 := by
  have : (2 : Nat) ^ n ≤ 2 ^ 62 := Nat.pow_le_pow_right (by omega) h
  have h2 : ((2 ^ n : Nat) : Int) ≤ ((2 ^ 62 : Nat) : Int) := Int.ofNat_le.2 this
  simpa using h2
theorem pow_pos' (n : Nat) : (1 : Int) ≤ 2 ^ n := by
  have : 0 < (2 : Nat) ^ n := Nat.pos_of_ne_zero (by simp)
  have h2 : ((1 : Nat) : Int) ≤ ((2 ^ n : Nat) : Int) := Int.ofNat_le.2 this
  simpa using h2
theorem shl1 {n : Int} (h0 : 0 ≤ n) (h1 : n ≤ 62) : IntKind.i64.wrap (1 * 2 ^ (min n.toNat IntKind.i64.bits)) = 2 ^ n.toNat := by
  have hb : IntKind.i64.bits = 64 := rfl
  have hm : min n.toNat 64 = n.toNat := by omega
  have h2 := pow_le62 (n := n.toNat) (by omega)
  have h3 := pow_pos' n.toNat
  rw [hb, hm, Int.one_mul, w64 (by omega) (by omega)]

theorem ofInt_toNat {x : Int} (h0 : 0 ≤ x) (h1 : x < 18446744073709551616) : (BitVec.ofInt 64 x).toNat = x.toNat := by
  rw [BitVec.toNat_ofInt]
  have : x % ((2 ^ 64 : Nat) : Int) = x := Int.emod_eq_of_lt h0 (by simpa using h1)
  rw [this]

theorem and1 {x : Int} (h0 : 0 ≤ x) (h1 : x ≤ 9223372036854775807) : IntKind.i64.wrap ((BitVec.ofInt IntKind.i64.bits x &&& BitVec.ofInt IntKind.i64.bits 1).toNat) = x % 2 := by
  have hb : IntKind.i64.bits = 64 := rfl
  rw [hb, BitVec.toNat_and, ofInt_toNat h0 (by omega), ofInt_toNat (by omega) (by omega)]
  rw [show (1 : Int).toNat = 1 from rfl, Nat.and_one_is_mod]
  rw [w64 (by omega) (by omega)]
  omega

def bitI (m : Int) (k : Nat) : Int := (m / 2 ^ k) % 2
theorem bitI_lt (m : Int) (k : Nat) : 0 ≤ bitI m k ∧ bitI m k ≤ 1 := by unfold bitI; omega
theorem shr_and {m : Int} {k : Nat} (h0 : 0 ≤ m) (h1 : m ≤ 9223372036854775807) (hk : k < 64) :
    IntKind.i64.wrap ((BitVec.ofInt IntKind.i64.bits (m.fdiv (2 ^ (min ((k : Int).toNat) IntKind.i64.bits))) &&& BitVec.ofInt IntKind.i64.bits 1).toNat) = bitI m k := by
  have hb : IntKind.i64.bits = 64 := rfl
  have hm : min ((k : Int).toNat) 64 = k := by omega
  have h3 := pow_pos' k
  have he : m.fdiv (2 ^ k) = m / 2 ^ k := Int.fdiv_eq_ediv_of_nonneg _ (by omega)
  have h4 : 0 ≤ m / 2 ^ k := Int.ediv_nonneg h0 (by omega)
  have h5 : m / 2 ^ k ≤ m := Int.ediv_le_self _ h0
  rw [show min ((k : Int).toNat) IntKind.i64.bits = k from hm, he]
  exact and1 h4 (by omega)

/-- how many of the lowest bits are set -/
def bitsTo (m : Int) : Nat → Int
  | 0 => 0
  | n + 1 => bitsTo m n + bitI m n
def sumI {α : Type} (f : α → Int) : List α → Int
  | [] => 0
  | x :: l => f x + sumI f l
theorem sumI_append {α : Type} (f : α → Int) (a b : List α) : sumI f (a ++ b) = sumI f a + sumI f b := by
  induction a with
  | nil => simp [sumI]
  | cons x a ih => simp [sumI, ih]; omega
theorem take_succ {α : Type} {l : List α} {k : Nat} {x : α} (h : l[k]? = some x) : l.take (k + 1) = l.take k ++ [x] := by
  rw [List.take_add_one, h]; rfl
theorem sumI_take {α : Type} {f : α → Int} {l : List α} {k : Nat} {x : α} (h : l[k]? = some x) : sumI f (l.take (k + 1)) = sumI f (l.take k) + f x := by
  rw [take_succ h, sumI_append]; simp [sumI]
def countM (f : List Int) : Int := if 512 < f.length then 0 else if f.any (outB 16) then 0 else sumI (fun m => bitsTo m 16) f

theorem bitsTo_le (m : Int) : ∀ n, 0 ≤ bitsTo m n ∧ bitsTo m n ≤ n
  | 0 => by simp [bitsTo]
  | n + 1 => by
    have h1 := bitsTo_le m n
    have h2 := bitI_lt m n
    simp only [bitsTo]
    omega
theorem sumI_bd {α : Type} {f : α → Int} {c : Int} (hc : 0 ≤ c) : ∀ l : List α, (∀ x ∈ l, 0 ≤ f x ∧ f x ≤ c) → 0 ≤ sumI f l ∧ sumI f l ≤ c * l.length
  | [], _ => by simp [sumI]
  | x :: l, h => by
    have h1 := sumI_bd hc l fun y hy => h y (by simp [hy])
    have h2 := h x (by simp)
    simp only [sumI, List.length_cons]
    have : c * ((l.length + 1 : Nat) : Int) = c * l.length + c := by rw [Int.natCast_add, Int.mul_add]; simp
    omega
theorem inB16 (m : Int) : inB m 0 65535 = !outB 16 m := by
  rw [Bool.eq_iff_iff]
  simp [inB, outB]
  omega
end HM

/- Rows of numbers that are written; bits cleared. -/
namespace HM
open Go Go.RowKit

theorem rowI_ld {l : List Int} {i : Int} {x : Int} (h : l[i.toNat]? = some x) (n : Nat) (hn : n = 1) : (l.map encI)[0 + i.toNat * n]? = some (encI x) := by
  subst hn; rw [Nat.zero_add, Nat.mul_one, List.getElem?_map, h]; rfl
theorem rowI_st (l : List Int) (i v : Int) (n : Nat) (hn : n = 1) : splice (l.map encI) (0 + i.toNat * n) [encI v] = (l.set i.toNat v).map encI := by
  subst hn; rw [Nat.zero_add, Nat.mul_one, splice_one, List.map_set]
theorem rowI_okk (k m : Nat) : ∀ l : List Int, okks k m (l.map encI)
  | [] => trivial
  | _ :: l => ⟨trivial, rowI_okk k m l⟩
theorem rowI_oko (k m : Nat) (l : List Int) (t : TypeId) : Ob.okk k m (.cells (l.map encI) t) := rowI_okk k m l
theorem rowI_fit {i : Int} {l : List Int} (h0 : 0 ≤ i) (h : i < l.length) (n : Nat) (hn : n = 1) (m : Nat) (hm : m = 1) : 0 + i.toNat * n + m ≤ (l.map encI).length := by
  subst hn; subst hm; rw [List.length_map]; omega

theorem fzs_rowI : ∀ l : List Int, fzs (l.map encI) = some (l.map encI)
  | [] => rfl
  | x :: l => by
    have h := fzs_rowI l
    show (match fz (encI x), fzs (l.map encI) with | some a, some b => some (a :: b) | _, _ => none) = _
    rw [h]; rfl
theorem rowI_fzb {S : St} {id n : Nat} {l : List Int} {t : TypeId} (h : S.bx[id]? = some (.cells (l.map encI) t)) (hn : l.length = n) : fzb S (.bsl id 0 n 1) = some (encIs l) := by
  subst hn
  unfold fzb
  rw [h]
  simp only [if_true, Nat.zero_add, List.length_map, Nat.le_refl, List.drop_zero]
  rw [List.take_of_length_le (by simp), fzs_rowI]
  simp only [Option.bind_some]
  rw [if_pos (by simp [encI, AV.isCell])]
  rfl

theorem set_rep {n k : Nat} (a b : Int) (h : k < n) : (List.replicate k a ++ List.replicate (n - k) b).set k a = List.replicate (k + 1) a ++ List.replicate (n - (k + 1)) b := by
  have e : n - k = (n - (k + 1)) + 1 := by omega
  rw [List.set_append_right _ _ (by simp), List.length_replicate, Nat.sub_self, e, List.replicate_succ, List.set_cons_zero, List.replicate_succ']
  simp

/-- a number with a bit cleared -/
def clrI (m : Int) (k : Nat) : Int := if bitI m k = 1 then m - 2 ^ k else m

theorem bv_andNot (a b : BitVec 64) : (a &&& ~~~b).toNat = a.toNat - (a.toNat &&& b.toNat) := by
  have h1 : (a &&& b) + (a &&& ~~~b) = a := by
    rw [BitVec.add_eq_or_of_and_eq_zero]
    · ext i hi
      simp only [BitVec.getElem_or, BitVec.getElem_and, BitVec.getElem_not]
      cases a[i] <;> cases b[i] <;> rfl
    · ext i hi
      simp only [BitVec.getElem_and, BitVec.getElem_not, BitVec.getElem_zero]
      cases a[i] <;> cases b[i] <;> rfl
  have h2 := congrArg BitVec.toNat h1
  rw [BitVec.toNat_add, BitVec.toNat_and] at h2
  have h3 : (a &&& ~~~b).toNat ≤ a.toNat := by rw [BitVec.toNat_and]; exact Nat.and_le_left
  have h4 : a.toNat &&& b.toNat ≤ a.toNat := Nat.and_le_left
  have h5 := a.isLt
  by_cases h6 : (a.toNat &&& b.toNat) + (a &&& ~~~b).toNat < 2 ^ 64
  · rw [Nat.mod_eq_of_lt h6] at h2; omega
  · have h7 : ((a.toNat &&& b.toNat) + (a &&& ~~~b).toNat) % 2 ^ 64 = (a.toNat &&& b.toNat) + (a &&& ~~~b).toNat - 2 ^ 64 := by
      rw [Nat.mod_eq_sub_mod (by omega), Nat.mod_eq_of_lt (by omega)]
    rw [h7] at h2; omega

theorem and_pow (m k : Nat) : m &&& 2 ^ k = if m / 2 ^ k % 2 = 1 then 2 ^ k else 0 := by
  apply Nat.eq_of_testBit_eq
  intro i
  rw [Nat.testBit_and, Nat.testBit_two_pow]
  by_cases h : m / 2 ^ k % 2 = 1
  · rw [if_pos h, Nat.testBit_two_pow]
    by_cases hi : k = i
    · subst hi; rw [Nat.testBit_eq_decide_div_mod_eq]; simp [h]
    · simp [hi]
  · rw [if_neg h]
    by_cases hi : k = i
    · subst hi; rw [Nat.testBit_eq_decide_div_mod_eq]; simp; omega
    · simp [hi]

theorem andNot_clr {m : Int} {k : Nat} (h0 : 0 ≤ m) (h1 : m ≤ 9223372036854775807) (hk : k ≤ 62) :
    IntKind.i64.wrap ((BitVec.ofInt IntKind.i64.bits m &&& ~~~BitVec.ofInt IntKind.i64.bits (2 ^ k)).toNat) = clrI m k := by
  have hb : IntKind.i64.bits = 64 := rfl
  have h2 := pow_le62 (n := k) hk
  have h3 := pow_pos' k
  have e2 : ((2 : Int) ^ k).toNat = 2 ^ k := by
    have : ((2 ^ k : Nat) : Int) = (2 : Int) ^ k := by simp
    rw [← this, Int.toNat_natCast]
  rw [hb, bv_andNot, ofInt_toNat h0 (by omega), ofInt_toNat (by omega) (by omega), e2, and_pow]
  obtain ⟨M, rfl⟩ : ∃ M : Nat, m = M := ⟨m.toNat, by omega⟩
  rw [Int.toNat_natCast]
  have hbit : bitI (M : Int) k = ((M / 2 ^ k % 2 : Nat) : Int) := by simp [bitI]
  unfold clrI
  rw [hbit]
  by_cases h : M / 2 ^ k % 2 = 1
  · have hge : 2 ^ k ≤ M := by
      rcases Nat.lt_or_ge M (2 ^ k) with hlt | hge
      · rw [Nat.div_eq_of_lt hlt] at h; omega
      · exact hge
    rw [if_pos h, if_pos (by rw [h]; rfl), Int.ofNat_sub hge]
    have : ((2 ^ k : Nat) : Int) = (2 : Int) ^ k := by simp
    rw [this, w64 (by omega) (by omega)]
  · rw [if_neg h, if_neg (by omega), Nat.sub_zero, w64 (by omega) (by omega)]

/-- the masks of a schedule -/
def fullI (s : Sched) : Int := 2 ^ s.offs.toNat - 1
def maskStep (f : List Int) (c : Cell) : List Int := f.set c.slot.toNat (clrI (f.getD c.slot.toNat 0) c.off.toNat)
def maskM (s : Sched) (l : List Cell) : List Int := l.foldl maskStep (List.replicate s.len.toNat (fullI s))
theorem maskM_take {s : Sched} {l : List Cell} {k : Nat} {c : Cell} (h : l[k]? = some c) : maskM s (l.take (k + 1)) = maskStep (maskM s (l.take k)) c := by
  rw [take_succ h, maskM, List.foldl_append]; rfl
theorem maskM_len (s : Sched) (l : List Cell) : (maskM s l).length = s.len.toNat := by
  suffices ∀ f : List Int, (l.foldl maskStep f).length = f.length by simpa [maskM] using this (List.replicate s.len.toNat (fullI s))
  induction l with
  | nil => simp
  | cons c l ih => intro f; rw [List.foldl_cons, ih]; simp [maskStep]
theorem clrI_bd {m : Int} {k : Nat} {B : Int} (h : 0 ≤ m ∧ m ≤ B) : 0 ≤ clrI m k ∧ clrI m k ≤ B := by
  unfold clrI
  split
  · rename_i hb
    have hp := pow_pos' k
    have : 2 ^ k ≤ m := by
      rcases Int.lt_or_le m (2 ^ k) with hlt | hge
      · unfold bitI at hb
        rw [Int.ediv_eq_zero_of_lt h.1 hlt] at hb; omega
      · exact hge
    omega
  · exact h
theorem maskM_bd (s : Sched) (l : List Cell) : ∀ x ∈ maskM s l, 0 ≤ x ∧ x ≤ fullI s := by
  have hp := pow_pos' s.offs.toNat
  suffices ∀ f : List Int, (∀ x ∈ f, 0 ≤ x ∧ x ≤ fullI s) → ∀ x ∈ l.foldl maskStep f, 0 ≤ x ∧ x ≤ fullI s from
    this _ (fun x hx => by rw [List.eq_of_mem_replicate hx]; unfold fullI; omega)
  induction l with
  | nil => intro f h; simpa using h
  | cons c l ih =>
    intro f h
    rw [List.foldl_cons]
    refine ih _ fun x hx => ?_
    rcases List.mem_or_eq_of_mem_set hx with hx | rfl
    · exact h x hx
    · refine clrI_bd ?_
      rw [List.getD_eq_getElem?_getD]
      by_cases hlt : c.slot.toNat < f.length
      · rw [List.getElem?_eq_getElem hlt]; exact h _ (List.getElem_mem hlt)
      · rw [List.getElem?_eq_none (by omega)]
        simp only [Option.getD_none]; unfold fullI; omega
end HM

/- Places, in plain words. -/
namespace HM
open Go Go.RowKit

def busyC (slot node : Int) (c : Cell) : Bool := c.slot == slot && (c.src == node || c.dst == node)
def busyAt (l : List Cell) (slot node : Int) : Bool := l.any (busyC slot node)
def takenC (slot off : Int) (c : Cell) : Bool := c.slot == slot && c.off == off
def takenAt (l : List Cell) (slot off : Int) : Bool := l.any (takenC slot off)
def slotBusy (s : Sched) (used : List Cell) (src dst i : Int) : Bool := busyAt s.cells i src || busyAt s.cells i dst || busyAt used i src || busyAt used i dst
def bitAt (f : List Int) (i j : Nat) : Bool := bitI (f.getD i 0) j == 1
def openAt (s : Sched) (f : List Int) (used : List Cell) (src dst : Int) (i j : Nat) : Bool := !slotBusy s used src dst i && (bitAt f i j && !takenAt used i j)

def firstP (n o : Nat) (p : Nat → Nat → Bool) : Option (Nat × Nat) :=
  match (List.range n).find? (fun i => (List.range o).any (p i)) with
  | none => none
  | some i => ((List.range o).find? (p i)).map fun j => (i, j)

theorem find_range {n i : Nat} {p : Nat → Bool} (hi : i < n) (hp : p i = true) (hb : ∀ j, j < i → p j = false) : (List.range n).find? p = some i := by
  rw [List.find?_range_eq_some]
  exact ⟨hp, by simpa using hi, fun j hj => by simp [hb j hj]⟩

theorem firstP_some {n o i j : Nat} {p : Nat → Nat → Bool} (hi : i < n) (hj : j < o) (hp : p i j = true) (hb : ∀ i' j', i' < i → j' < o → p i' j' = false) (hc : ∀ j', j' < j → p i j' = false) : firstP n o p = some (i, j) := by
  unfold firstP
  rw [find_range hi (by rw [List.any_eq_true]; exact ⟨j, by simpa using hj, hp⟩) (fun i' h => by
    rw [List.any_eq_false]
    intro j' hj'
    simp [hb i' j' h (by simpa using hj')])]
  simp only
  rw [find_range hj hp hc]; rfl
theorem firstP_none {n o : Nat} {p : Nat → Nat → Bool} (hb : ∀ i' j', i' < n → j' < o → p i' j' = false) : firstP n o p = none := by
  unfold firstP
  have : (List.range n).find? (fun i => (List.range o).any (p i)) = none := by
    rw [List.find?_eq_none]
    intro i hi
    simp only [Bool.not_eq_true, List.any_eq_false]
    intro j hj
    simp [hb i j (by simpa using hi) (by simpa using hj)]
  rw [this]

def Cell.zero : Cell := ⟨0, 0, 0, 0, 0⟩
def placeR (src dst : Int) : Option (Nat × Nat) → Cell × Int
  | some (i, j) => (⟨i, j, src, dst, 0⟩, 0)
  | none => (Cell.zero, 13)
def takeM (s : Sched) (f : List Int) (used : List Cell) (src dst : Int) : Cell × Int :=
  if formB s = false ∨ checkM f s.len s.offs ≠ 0 then (Cell.zero, 1)
  else if insB src 32 = false ∨ insB dst 32 = false ∨ src = dst then (Cell.zero, 2)
  else if 1024 < used.length then (Cell.zero, 8)
  else placeR src dst (firstP s.len.toNat s.offs.toNat (openAt s f used src dst))
end HM

/- Arguments as schedules, masks, cells. -/
namespace HM
open Go Go.RowKit

def tI : Ty := .int .i64
def tCell : Ty := .st [tI, tI, tI, tI, tI]
def tSched : Ty := .st [tI, tI, .sl tCell]
def I64b (n : Int) : Prop := -9223372036854775808 ≤ n ∧ n ≤ 9223372036854775807

theorem sh_int {l : List AV} (h : tI.sh l) : ∃ n, l = [.int .i64 n] ∧ I64b n := by
  obtain ⟨n, rfl, hw⟩ := h
  refine ⟨n, rfl, ?_⟩
  simp only [Lit.wf, Bool.and_eq_true, decide_eq_true_eq] at hw
  exact hw
theorem sh_cell {l : List AV} (h : tCell.sh l) : ∃ c : Cell, l = [.int .i64 c.slot, .int .i64 c.off, .int .i64 c.src, .int .i64 c.dst, .int .i64 c.flow] := by
  obtain ⟨_, _, rfl, _, h1, _, _, rfl, _, h2, _, _, rfl, _, h3, _, _, rfl, _, h4, _, _, rfl, _, h5, h6⟩ := h
  obtain ⟨a, rfl, _⟩ := sh_int h1
  obtain ⟨b, rfl, _⟩ := sh_int h2
  obtain ⟨c, rfl, _⟩ := sh_int h3
  obtain ⟨d, rfl, _⟩ := sh_int h4
  obtain ⟨e, rfl, _⟩ := sh_int h5
  obtain rfl := h6
  exact ⟨⟨a, b, c, d, e⟩, rfl⟩
theorem list_of {α : Type} {d : Ty} {f : α → AV} (h : ∀ l, d.sh l → ∃ x, d.mk l = f x) : ∀ els : List (List AV), (∀ c ∈ els, d.sh c ∧ c.length = d.n) → ∃ xs : List α, els.map d.mk = xs.map f ∧ xs.length = els.length
  | [], _ => ⟨[], rfl, rfl⟩
  | c :: els, hc => by
    obtain ⟨x, hx⟩ := h c (hc c (by simp)).1
    obtain ⟨xs, h1, h2⟩ := list_of h els (fun c hm => hc c (by simp [hm]))
    exact ⟨x :: xs, by simp [hx, h1], by simp [h2]⟩
theorem sh_cells {l : List AV} (h : (Ty.sl tCell).sh l) : ∃ cs : List Cell, l = [encCells cs] ∧ cs.length ≤ 140737488355328 := by
  obtain ⟨els, rfl, h1, h2⟩ := h
  obtain ⟨cs, h3, h4⟩ := list_of (f := Cell.av) (fun l hl => by
    obtain ⟨c, rfl⟩ := sh_cell hl
    exact ⟨c, rfl⟩) els h1
  exact ⟨cs, by rw [h3]; rfl, by omega⟩
theorem sh_ints {l : List AV} (h : (Ty.sl tI).sh l) : ∃ f : List Int, l = [encIs f] ∧ f.length ≤ 140737488355328 := by
  obtain ⟨els, rfl, h1, h2⟩ := h
  obtain ⟨cs, h3, h4⟩ := list_of (f := encI) (fun l hl => by
    obtain ⟨c, rfl, _⟩ := sh_int hl
    exact ⟨c, rfl⟩) els h1
  exact ⟨cs, by rw [h3]; rfl, by omega⟩
theorem sh_sched {l : List AV} (h : tSched.sh l) : ∃ s : Sched, l = [.int .i64 s.len, .int .i64 s.offs, encCells s.cells] := by
  obtain ⟨_, _, rfl, _, h1, _, _, rfl, _, h2, _, _, rfl, _, h3, h6⟩ := h
  obtain ⟨a, rfl, _⟩ := sh_int h1
  obtain ⟨b, rfl, _⟩ := sh_int h2
  obtain ⟨c, rfl, _⟩ := sh_cells h3
  obtain rfl := h6
  exact ⟨⟨a, b, c⟩, rfl⟩
theorem sh1 {d1 : Ty} : ∀ {es : List AV}, shArgs [d1] es → ∃ l1, es = [d1.mk l1] ∧ d1.sh l1
  | [e1], h => by
    obtain ⟨⟨l1, h1, rfl⟩, _⟩ := h
    exact ⟨l1, rfl, h1⟩
  | [], h => by simp [shArgs] at h
  | _ :: _ :: _, h => by simp [shArgs] at h
theorem sh4 {d1 d2 d3 d4 : Ty} : ∀ {es : List AV}, shArgs [d1, d2, d3, d4] es → ∃ l1 l2 l3 l4, es = [d1.mk l1, d2.mk l2, d3.mk l3, d4.mk l4] ∧ d1.sh l1 ∧ d2.sh l2 ∧ d3.sh l3 ∧ d4.sh l4
  | [e1, e2, e3, e4], h => by
    obtain ⟨⟨l1, h1, rfl⟩, ⟨l2, h2, rfl⟩, ⟨l3, h3, rfl⟩, ⟨l4, h4, rfl⟩, _⟩ := h
    exact ⟨l1, l2, l3, l4, rfl, h1, h2, h3, h4⟩
  | [], h => by simp [shArgs] at h
  | [_], h => by simp [shArgs] at h
  | [_, _], h => by simp [shArgs] at h
  | [_, _, _], h => by simp [shArgs] at h
  | _ :: _ :: _ :: _ :: _ :: _, h => by simp [shArgs] at h
theorem sh5 {d1 d2 d3 d4 d5 : Ty} : ∀ {es : List AV}, shArgs [d1, d2, d3, d4, d5] es → ∃ l1 l2 l3 l4 l5, es = [d1.mk l1, d2.mk l2, d3.mk l3, d4.mk l4, d5.mk l5] ∧ d1.sh l1 ∧ d2.sh l2 ∧ d3.sh l3 ∧ d4.sh l4 ∧ d5.sh l5
  | [e1, e2, e3, e4, e5], h => by
    obtain ⟨⟨l1, h1, rfl⟩, ⟨l2, h2, rfl⟩, ⟨l3, h3, rfl⟩, ⟨l4, h4, rfl⟩, ⟨l5, h5, rfl⟩, _⟩ := h
    exact ⟨l1, l2, l3, l4, l5, rfl, h1, h2, h3, h4, h5⟩
  | [], h => by simp [shArgs] at h
  | [_], h => by simp [shArgs] at h
  | [_, _], h => by simp [shArgs] at h
  | [_, _, _], h => by simp [shArgs] at h
  | [_, _, _, _], h => by simp [shArgs] at h
  | _ :: _ :: _ :: _ :: _ :: _ :: _, h => by simp [shArgs] at h
end HM

/- Masks: which bits are set, and how many. -/
namespace HM
open Go Go.RowKit

theorem bitI_nat (M j : Nat) : bitI (M : Int) j = if M.testBit j then 1 else 0 := by
  have h : bitI (M : Int) j = ((M / 2 ^ j % 2 : Nat) : Int) := by simp [bitI]
  rw [h, Nat.testBit_eq_decide_div_mod_eq]
  by_cases h2 : M / 2 ^ j % 2 = 1
  · simp [h2]
  · have : M / 2 ^ j % 2 = 0 := by omega
    simp [this]

theorem testBit_sub {M k : Nat} (hM : M < 2 ^ 64) (hb : M.testBit k = true) (j : Nat) (hj : j < 64) : (M - 2 ^ k).testBit j = (M.testBit j && !(k == j)) := by
  have hk : k < 64 := by
    rcases Nat.lt_or_ge k 64 with h | h
    · exact h
    · rw [Nat.testBit_lt_two_pow (Nat.lt_of_lt_of_le hM (Nat.pow_le_pow_right (by omega) h))] at hb; cases hb
  have hp : 2 ^ k < 2 ^ 64 := Nat.pow_lt_pow_right (by omega) hk
  have h1 := bv_andNot (BitVec.ofNat 64 M) (BitVec.ofNat 64 (2 ^ k))
  rw [BitVec.toNat_ofNat, BitVec.toNat_ofNat, Nat.mod_eq_of_lt hM, Nat.mod_eq_of_lt hp, and_pow, if_pos (by rw [Nat.testBit_eq_decide_div_mod_eq] at hb; simpa using hb)] at h1
  rw [← h1, BitVec.testBit_toNat]
  rw [BitVec.getLsbD_and, BitVec.getLsbD_not, BitVec.getLsbD_ofNat, BitVec.getLsbD_ofNat, Nat.testBit_two_pow]
  simp only [hj, decide_true, Bool.true_and]
  cases M.testBit j <;> by_cases e : k = j <;> simp [e]

theorem bitI_clr {m : Int} {k j : Nat} (h0 : 0 ≤ m) (h1 : m < 18446744073709551616) (hj : j < 64) : bitI (clrI m k) j = if k = j then 0 else bitI m j := by
  obtain ⟨M, rfl⟩ : ∃ M : Nat, m = M := ⟨m.toNat, by omega⟩
  have hM : M < 2 ^ 64 := by simpa using (by omega : M < 18446744073709551616)
  unfold clrI
  by_cases hb : M.testBit k = true
  · have e1 : bitI (M : Int) k = 1 := by rw [bitI_nat, if_pos hb]
    rw [if_pos e1]
    have hge : 2 ^ k ≤ M := Nat.ge_two_pow_of_testBit hb
    have e2 : (M : Int) - 2 ^ k = ((M - 2 ^ k : Nat) : Int) := by rw [Int.ofNat_sub hge]; simp
    rw [e2, bitI_nat, bitI_nat, testBit_sub hM hb j hj]
    by_cases e : k = j
    · simp [e]
    · simp [e]
  · have e1 : bitI (M : Int) k = 0 := by rw [bitI_nat, if_neg hb]
    rw [if_neg (by omega)]
    by_cases e : k = j
    · subst e; rw [if_pos rfl, e1]
    · rw [if_neg e]

theorem bitI_full {n j : Nat} : bitI (2 ^ n - 1) j = if j < n then 1 else 0 := by
  have h : ((2 : Int) ^ n - 1) = ((2 ^ n - 1 : Nat) : Int) := by
    rw [Int.ofNat_sub (Nat.one_le_two_pow)]; simp
  rw [h, bitI_nat, Nat.testBit_two_pow_sub_one]
  by_cases e : j < n <;> simp [e]

theorem fullI_le {s : Sched} (h : s.offs ≤ 16) : fullI s ≤ 65535 := by
  unfold fullI
  have : (2 : Nat) ^ s.offs.toNat ≤ 2 ^ 16 := Nat.pow_le_pow_right (by omega) (by omega)
  have h2 : ((2 ^ s.offs.toNat : Nat) : Int) ≤ ((2 ^ 16 : Nat) : Int) := Int.ofNat_le.2 this
  have h3 : ((2 ^ s.offs.toNat : Nat) : Int) = (2 : Int) ^ s.offs.toNat := by simp
  rw [h3] at h2
  have h4 : ((2 ^ 16 : Nat) : Int) = 65536 := by decide
  omega

theorem bitAt_step {f : List Int} {c : Cell} {i j : Nat} (hf : ∀ x ∈ f, 0 ≤ x ∧ x ≤ 65535) (hj : j < 64) (hs : 0 ≤ c.slot) (ho : 0 ≤ c.off) (hi : i < f.length) :
    bitAt (maskStep f c) i j = (bitAt f i j && !takenC i j c) := by
  unfold bitAt maskStep takenC
  rw [List.getD_eq_getElem?_getD (l := f.set _ _), List.getD_eq_getElem?_getD (i := c.slot.toNat), List.getElem?_set]
  by_cases e : c.slot.toNat = i
  · have e2 : c.slot = (i : Int) := by omega
    have hlt : c.slot.toNat < f.length := by omega
    have hm : f.getD c.slot.toNat 0 = f[i] := by rw [List.getD_eq_getElem?_getD, e, List.getElem?_eq_getElem hi]; rfl
    have hm' : f.getD i 0 = f[i] := by rw [List.getD_eq_getElem?_getD, List.getElem?_eq_getElem hi]; rfl
    rw [List.getD_eq_getElem?_getD] at hm
    rw [if_pos e, if_pos hlt, hm, hm']
    simp only [Option.getD_some]
    obtain ⟨h0, h1⟩ := hf f[i] (List.getElem_mem hi)
    rw [bitI_clr h0 (by omega) hj]
    by_cases e3 : c.off.toNat = j
    · have e4 : c.off = (j : Int) := by omega
      simp [e2, e3, e4]
    · have e4 : c.off ≠ (j : Int) := by omega
      simp [e2, e3, e4]
  · have e2 : c.slot ≠ (i : Int) := by omega
    rw [if_neg e]
    simp [e2]

theorem maskM_bit {s : Sched} (h1 : s.offs ≤ 16) : ∀ (l : List Cell) (_ : ∀ c ∈ l, 0 ≤ c.slot ∧ 0 ≤ c.off) (i j : Nat), i < s.len.toNat → j < s.offs.toNat → bitAt (maskM s l) i j = !takenAt l i j := by
  intro l hl i j hi hj
  have key : ∀ (l : List Cell) (f : List Int), (∀ c ∈ l, 0 ≤ c.slot ∧ 0 ≤ c.off) → (∀ x ∈ f, 0 ≤ x ∧ x ≤ 65535) → i < f.length → bitAt (l.foldl maskStep f) i j = (bitAt f i j && !takenAt l i j) := by
    intro l
    induction l with
    | nil => intro f _ _ _; simp [takenAt]
    | cons c l ih =>
      intro f hl hf hi
      rw [List.foldl_cons, ih _ (fun c hc => hl c (by simp [hc])) ?_ (by simpa [maskStep] using hi)]
      · rw [bitAt_step hf (by omega) (hl c (by simp)).1 (hl c (by simp)).2 hi]
        simp only [takenAt, List.any_cons, Bool.not_or, Bool.and_assoc]
      · intro x hx
        rcases List.mem_or_eq_of_mem_set hx with hx | rfl
        · exact hf x hx
        · refine clrI_bd ?_
          rw [List.getD_eq_getElem?_getD]
          by_cases hlt : c.slot.toNat < f.length
          · rw [List.getElem?_eq_getElem hlt]; exact hf _ (List.getElem_mem hlt)
          · rw [List.getElem?_eq_none (by omega)]; simp
  have hfull := fullI_le (s := s) h1
  have hp := pow_pos' s.offs.toNat
  rw [maskM, key l _ hl (fun x hx => by rw [List.eq_of_mem_replicate hx]; unfold fullI at hfull ⊢; omega) (by simpa using hi)]
  have : bitAt (List.replicate s.len.toNat (fullI s)) i j = true := by
    unfold bitAt
    rw [List.getD_eq_getElem?_getD, List.getElem?_replicate, if_pos hi]
    simp only [Option.getD_some]
    unfold fullI
    rw [bitI_full, if_pos hj]; rfl
  rw [this, Bool.true_and]

-- how many

theorem bitsTo_clr {m : Int} {k : Nat} (h0 : 0 ≤ m) (h1 : m ≤ 65535) : ∀ n, n ≤ 64 → bitsTo (clrI m k) n = bitsTo m n - if k < n then bitI m k else 0
  | 0, _ => by simp [bitsTo]
  | n + 1, hn => by
    rw [bitsTo, bitsTo, bitsTo_clr h0 h1 n (by omega), bitI_clr h0 (by omega) (by omega)]
    by_cases e : k = n
    · subst e; rw [if_pos rfl, if_neg (by omega), if_pos (by omega)]; omega
    · rw [if_neg e]
      by_cases e2 : k < n
      · rw [if_pos e2, if_pos (by omega)]; omega
      · rw [if_neg e2, if_neg (by omega)]; omega

theorem sumI_set {α : Type} (g : α → Int) (x : α) : ∀ (l : List α) (i : Nat) (y : α), l[i]? = some y → sumI g (l.set i x) = sumI g l - g y + g x
  | [], _, _, h => by simp at h
  | a :: l, 0, y, h => by simp at h; subst h; simp [sumI]; omega
  | a :: l, i + 1, y, h => by
    have := sumI_set g x l i y (by simpa using h)
    simp only [List.set_cons_succ, sumI, this]; omega

theorem sumI_rep {α : Type} (g : α → Int) (x : α) : ∀ n : Nat, sumI g (List.replicate n x) = n * g x
  | 0 => by simp [sumI]
  | n + 1 => by rw [List.replicate_succ, sumI, sumI_rep g x n, Int.natCast_add, Int.add_mul]; simp; omega

theorem bitsTo_full {n : Nat} : ∀ k, bitsTo (2 ^ n - 1) k = if k < n then (k : Int) else n
  | 0 => by simp [bitsTo]; omega
  | k + 1 => by
    rw [bitsTo, bitsTo_full k, bitI_full]
    by_cases e : k < n
    · rw [if_pos e, if_pos e]
      by_cases e2 : k + 1 < n
      · rw [if_pos e2]; omega
      · rw [if_neg e2]; omega
    · rw [if_neg e, if_neg e, if_neg (by omega)]; omega

def onesM (f : List Int) : Int := sumI (fun m => bitsTo m 16) f
theorem onesM_step {f : List Int} {c : Cell} (hf : ∀ x ∈ f, 0 ≤ x ∧ x ≤ 65535) (hs : 0 ≤ c.slot ∧ c.slot.toNat < f.length) (ho : 0 ≤ c.off ∧ c.off < 16) :
    onesM (maskStep f c) = onesM f - if bitAt f c.slot.toNat c.off.toNat then 1 else 0 := by
  have hlt := hs.2
  have hg : f.getD c.slot.toNat 0 = f[c.slot.toNat] := by rw [List.getD_eq_getElem?_getD, List.getElem?_eq_getElem hlt]; rfl
  obtain ⟨h0, h1⟩ := hf _ (List.getElem_mem hlt)
  unfold onesM maskStep
  rw [sumI_set _ _ f _ _ (List.getElem?_eq_getElem hlt), hg, bitsTo_clr h0 h1 16 (by omega), if_pos (by omega)]
  unfold bitAt
  rw [hg]
  have := bitI_lt f[c.slot.toNat] c.off.toNat
  by_cases e : bitI f[c.slot.toNat] c.off.toNat = 1
  · rw [if_pos (by simpa using e)]; omega
  · rw [if_neg (by simpa using e)]; omega

theorem onesM_zero {s : Sched} (h : 1 ≤ s.len ∧ 1 ≤ s.offs ∧ s.offs ≤ 16) : onesM (maskM s []) = s.len * s.offs := by
  unfold onesM maskM
  simp only [List.foldl_nil]
  rw [sumI_rep]
  unfold fullI
  rw [bitsTo_full]
  have e1 : (s.len.toNat : Int) = s.len := by omega
  have e2 : (s.offs.toNat : Int) = s.offs := by omega
  rw [e1]
  by_cases e : 16 < s.offs.toNat
  · omega
  · rw [if_neg e, e2]
end HM
