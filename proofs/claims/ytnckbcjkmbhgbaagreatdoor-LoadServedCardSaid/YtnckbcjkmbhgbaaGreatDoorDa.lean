/- Schedules, masks and places in plain words. -/
import Derived.Test.YtnckbcjkmbhgbaaGreatDoorFg
import Derived.Test.YtnckbcjkmbhgbaaGreatDoorFh
/- Schedules as plain data, and what the code computes of them. -/
namespace HM
open Go Go.RowKit

theorem Els.map {α : Type} {sz : Nat} {f : α → AV} (h : ∀ x, (f x).ncells = sz ∧ (f x).cells.all AV.isCell = true) {l : List α} : Els sz (l.map f) := by
  intro e he
  obtain ⟨x, _, rfl⟩ := List.mem_map.1 he
  exact h x

structure Cell where
  slot : Int
  off : Int
  src : Int
  dst : Int
  flow : Int
  deriving DecidableEq

structure Sched where
  len : Int
  offs : Int
  cells : List Cell

def encI (n : Int) : AV := .int .i64 n
def encIs (l : List Int) : AV := .sl false (l.map encI)
def Cell.av (c : Cell) : AV := .agg [.int .i64 c.slot, .int .i64 c.off, .int .i64 c.src, .int .i64 c.dst, .int .i64 c.flow]
def encCells (l : List Cell) : AV := .sl false (l.map Cell.av)
def Sched.av (s : Sched) : AV := .agg [.int .i64 s.len, .int .i64 s.offs, encCells s.cells]

def insB (x n : Int) : Bool := decide (0 ≤ x) && decide (x < n)
def sizedB (s : Sched) : Bool := decide (1 ≤ s.len) && decide (s.len ≤ 512) && decide (1 ≤ s.offs) && decide (s.offs ≤ 16)
def placedB (s : Sched) (c : Cell) : Bool := insB c.slot s.len && insB c.off s.offs
def formedB (s : Sched) (c : Cell) : Bool := placedB s c && insB c.src 32 && insB c.dst 32 && insB c.flow 256
def Cell.nums (c : Cell) : List Int := [c.slot, c.off, c.src, c.dst, c.flow]

/-- how two lists of numbers compare -/
def cmpI (x y : Int) : Int := if x < y then -1 else if y < x then 1 else 0
def cmpL : List Int → List Int → Int
  | [], [] => 0
  | [], _ :: _ => -1
  | _ :: _, [] => 1
  | x :: xs, y :: ys => if cmpI x y = 0 then cmpL xs ys else cmpI x y
def Cell.cmp (a b : Cell) : Int := cmpL a.nums b.nums

theorem getMap {α : Type} {f : α → AV} {l : List α} {k : Nat} {x : α} (h : l[k]? = some x) : (l.map f)[(k : Int).toNat]? = some (f x) := by simp [h]
theorem dropGet {α : Type} {l : List α} {k : Nat} {x : α} (h : l[k]? = some x) : l.drop k = x :: l.drop (k + 1) := by
  obtain ⟨hlt, rfl⟩ := List.getElem?_eq_some_iff.1 h
  exact List.drop_eq_getElem_cons hlt
theorem getLt {α : Type} {l : List α} {k : Nat} (h : k < l.length) : ∃ x, l[k]? = some x := ⟨_, List.getElem?_eq_getElem h⟩
theorem lenLt {α : Type} {f : α → AV} {l : List α} {k : Nat} (h : decide ((k : Int) < ((l.map f).length : Int)) = true) : k < l.length := by simpa using h
theorem lenGe {α : Type} {f : α → AV} {l : List α} {k : Nat} (h : decide ((k : Int) < ((l.map f).length : Int)) = false) : l.length ≤ k := by simpa using h
theorem inbMap {α : Type} {f : α → AV} {l : List α} {k : Nat} (h : k < l.length) : InB (k : Int) (l.map f).length := ⟨by omega, by simp; omega⟩
theorem eq_of_at {α : Type} {a b : List α} (hl : a.length = b.length) (h : ∀ (j : Nat) x y, j < a.length → a[j]? = some x → b[j]? = some y → x = y) : a = b := by
  apply List.ext_getElem? 
  intro j
  by_cases hj : j < a.length
  · have e1 : a[j]? = some a[j] := List.getElem?_eq_getElem hj
    have e2 : b[j]? = some (b[j]'(by omega)) := List.getElem?_eq_getElem (by omega)
    rw [e1, e2, h j _ _ hj e1 e2]
  · rw [List.getElem?_eq_none (by omega), List.getElem?_eq_none (by omega)]
theorem succI {k n : Nat} (h : k < n) (hn : n ≤ 281474976710656) : IntKind.i64.wrap ((k : Int) + 1) = ((k + 1 : Nat) : Int) := by rw [w64] <;> omega

/-- what is asked of the cell at a place -/
def okAt (s : Sched) (i : Nat) : Bool := match s.cells[i]? with
  | some c => formedB s c && (match i with
    | 0 => true
    | j + 1 => match s.cells[j]? with
      | some p => decide (p.cmp c < 0)
      | none => true)
  | none => true
def formB (s : Sched) : Bool := sizedB s && decide (s.cells.length ≤ 512) && (List.range s.cells.length).all (okAt s)

theorem range_all {n : Nat} {f : Nat → Bool} (h : ∀ j, j < n → f j = true) : (List.range n).all f = true := by
  simp [List.all_eq_true]; exact h
theorem range_not {n k : Nat} {f : Nat → Bool} (hk : k < n) (h : f k = false) : (List.range n).all f = false := by
  rw [List.all_eq_false]
  exact ⟨k, by simpa using hk, by simp [h]⟩
theorem form_all {s : Sched} (h : formB s = true) : sizedB s = true ∧ s.cells.length ≤ 512 ∧ ∀ c ∈ s.cells, formedB s c = true := by
  simp only [formB, Bool.and_eq_true, decide_eq_true_eq, List.all_eq_true] at h
  refine ⟨h.1.1, h.1.2, fun c hc => ?_⟩
  obtain ⟨j, hj⟩ := List.getElem?_of_mem hc
  have h2 := h.2 j (by simp; exact (List.getElem?_eq_some_iff.1 hj).1)
  unfold okAt at h2
  rw [hj] at h2
  simp at h2
  exact h2.1

theorem sized_bd {s : Sched} (h : sizedB s = true) : 1 ≤ s.len ∧ s.len ≤ 512 ∧ 1 ≤ s.offs ∧ s.offs ≤ 16 := by simp [sizedB] at h; omega
mutual
theorem fz_okk : ∀ (e : AV) {e' : AV} {k m : Nat}, fz e = some e' → e'.okk k m
  | .int _ _, _, _, _, h => by simp [fz] at h; subst h; trivial
  | .bool _, _, _, _, h => by simp [fz] at h; subst h; trivial
  | .str _, _, _, _, h => by simp [fz] at h; subst h; trivial
  | .nils, _, _, _, h => by simp [fz] at h; subst h; trivial
  | .nilp, _, _, _, h => by simp [fz] at h; subst h; trivial
  | .nili, _, _, _, h => by simp [fz] at h; subst h; trivial
  | .nilm, _, _, _, h => by simp [fz] at h; subst h; trivial
  | .sl _ _, _, _, _, h => by simp [fz] at h; subst h; trivial
  | .own _ _, _, _, _, h => by simp [fz] at h; subst h; trivial
  | .cptr _ _, _, _, _, h => by simp [fz] at h; subst h; trivial
  | .cmp _ _ _, _, _, _, h => by simp [fz] at h; subst h; trivial
  | .fn f caps, e', k, m, h => by
    simp only [fz, Option.map_eq_some_iff] at h
    obtain ⟨x, h1, rfl⟩ := h
    exact fzs_okk' caps h1
  | .agg cs, e', k, m, h => by
    simp only [fz, Option.map_eq_some_iff] at h
    obtain ⟨x, h1, rfl⟩ := h
    exact fzs_okk' cs h1
  | .tup cs, e', k, m, h => by
    simp only [fz, Option.map_eq_some_iff] at h
    obtain ⟨x, h1, rfl⟩ := h
    exact fzs_okk' cs h1
  | .undef, _, _, _, h => by simp [fz] at h
  | .bsl _ _ _ _, _, _, _, h => by simp [fz] at h
  | .vsl _ _ _ _, _, _, _, h => by simp [fz] at h
  | .ptr _ _, _, _, _, h => by simp [fz] at h
  | .yld _, _, _, _, h => by simp [fz] at h
  | .mp _, _, _, _, h => by simp [fz] at h
theorem fzs_okk' : ∀ (es : List AV) {es' : List AV} {k m : Nat}, fzs es = some es' → okks k m es'
  | [], _, _, _, h => by simp [fzs] at h; subst h; trivial
  | e :: es, es', k, m, h => by
    simp only [fzs] at h
    split at h
    · rename_i a b h1 h2
      simp at h; subst h
      exact ⟨fz_okk e h1, fzs_okk' es h2⟩
    · cases h
end
theorem fzs_okk {es : List AV} {k m : Nat} (h : fzs es = some es) : okks k m es := fzs_okk' es h

/-- where a list first meets a condition; -1: nowhere -/
def idxF {α : Type} (p : α → Bool) (l : List α) : Int := if l.any p then (l.findIdx p : Int) else -1

theorem idxF_some {α : Type} {p : α → Bool} {l : List α} {k : Nat} {x : α} (hlt : k < l.length) (hinv : ∀ j y, j < k → l[j]? = some y → p y = false) (hx : l[k]? = some x) (hp : p x = true) : idxF p l = (k : Int) := by
  have hany : l.any p = true := List.any_eq_true.2 ⟨x, List.mem_of_getElem? hx, hp⟩
  have hidx : l.findIdx p = k := by
    rw [List.findIdx_eq hlt]
    obtain ⟨_, rfl⟩ := List.getElem?_eq_some_iff.1 hx
    exact ⟨hp, fun j hj => hinv j _ hj (List.getElem?_eq_getElem (by omega))⟩
  simp [idxF, hany, hidx]
theorem idxF_none {α : Type} {p : α → Bool} {l : List α} (hinv : ∀ j y, j < l.length → l[j]? = some y → p y = false) : idxF p l = -1 := by
  have hany : l.any p = false := by
    rw [List.any_eq_false]
    intro x hx
    obtain ⟨j, hj⟩ := List.getElem?_of_mem hx
    simp [hinv j x (List.getElem?_eq_some_iff.1 hj).1 hj]
  simp [idxF, hany]
theorem idxF_any {α : Type} (p : α → Bool) (l : List α) : decide (0 ≤ idxF p l) = l.any p := by
  unfold idxF
  cases h : l.any p <;> simp
def elsB (sz : Nat) : List AV → Bool
  | [] => true
  | e :: es => Nat.beq e.ncells sz && e.cells.all AV.isCell && elsB sz es
theorem Els.of_b {sz : Nat} : ∀ {es : List AV}, elsB sz es = true → Els sz es
  | [], _ => Els.nil _
  | e :: es, h => by
    simp only [elsB, Bool.and_eq_true] at h
    exact Els.cons (Nat.eq_of_beq_eq_true h.1.1) h.1.2 (Els.of_b h.2)
/-- the walk goes on until something is to be said -/
theorem sI {a b : Prop} (hb : b) (ha : a := by first | rfl | exact ⟨rfl, rfl⟩ | exact Or.inl ⟨_, rfl⟩ | exact Or.inr rfl | exact le_b rfl | exact Els.of_b rfl | exact Els.map (fun _ => ⟨rfl, rfl⟩) | kernel_rfl) : a ∧ b := ⟨ha, hb⟩
theorem sJ {a b : Prop} (hb : b) (ha : a := by first | rfl | exact ⟨rfl, rfl⟩ | exact Or.inl ⟨_, rfl⟩ | exact Or.inr rfl | exact le_b rfl | exact Els.of_b rfl | exact Els.map (fun _ => ⟨rfl, rfl⟩)) : a ∧ b := ⟨ha, hb⟩
theorem Wk {p q : Prop} (hq : q) (h : q → p := by intro h; (repeat ((conv => whnf); refine sI ?_)); (try (conv => whnf)); exact h) : p := h hq
end HM

/- Masks as plain numbers. -/
namespace HM
open Go Go.RowKit

theorem take_succ {α : Type} {l : List α} {k : Nat} {x : α} (h : l[k]? = some x) : l.take (k + 1) = l.take k ++ [x] := by
  rw [List.take_add_one, h]; rfl
end HM

/- Rows of numbers that are written; bits cleared. -/
namespace HM
open Go Go.RowKit

end HM

/- Places, in plain words. -/
namespace HM
open Go Go.RowKit

def Cell.zero : Cell := ⟨0, 0, 0, 0, 0⟩
end HM

/- Arguments as schedules, masks, cells. -/
namespace HM
open Go Go.RowKit

def tI : Ty := .int .i64
def tCell : Ty := .st [tI, tI, tI, tI, tI]
def tSched : Ty := .st [tI, tI, .sl tCell]
def I64b (n : Int) : Prop := -9223372036854775808 ≤ n ∧ n ≤ 9223372036854775807

theorem sh_int {l : List AV} (h : tI.sh l) : ∃ n, l = [.int .i64 n] ∧ I64b n := by
  obtain ⟨n, rfl, hw⟩ := h
  refine ⟨n, rfl, ?_⟩
  simp only [Lit.wf, Bool.and_eq_true, decide_eq_true_eq] at hw
  exact hw
theorem sh_cell {l : List AV} (h : tCell.sh l) : ∃ c : Cell, l = [.int .i64 c.slot, .int .i64 c.off, .int .i64 c.src, .int .i64 c.dst, .int .i64 c.flow] := by
  obtain ⟨_, _, rfl, _, h1, _, _, rfl, _, h2, _, _, rfl, _, h3, _, _, rfl, _, h4, _, _, rfl, _, h5, h6⟩ := h
  obtain ⟨a, rfl, _⟩ := sh_int h1
  obtain ⟨b, rfl, _⟩ := sh_int h2
  obtain ⟨c, rfl, _⟩ := sh_int h3
  obtain ⟨d, rfl, _⟩ := sh_int h4
  obtain ⟨e, rfl, _⟩ := sh_int h5
  obtain rfl := h6
  exact ⟨⟨a, b, c, d, e⟩, rfl⟩
theorem list_of {α : Type} {d : Ty} {f : α → AV} (h : ∀ l, d.sh l → ∃ x, d.mk l = f x) : ∀ els : List (List AV), (∀ c ∈ els, d.sh c ∧ c.length = d.n) → ∃ xs : List α, els.map d.mk = xs.map f ∧ xs.length = els.length
  | [], _ => ⟨[], rfl, rfl⟩
  | c :: els, hc => by
    obtain ⟨x, hx⟩ := h c (hc c (by simp)).1
    obtain ⟨xs, h1, h2⟩ := list_of h els (fun c hm => hc c (by simp [hm]))
    exact ⟨x :: xs, by simp [hx, h1], by simp [h2]⟩
theorem sh_cells {l : List AV} (h : (Ty.sl tCell).sh l) : ∃ cs : List Cell, l = [encCells cs] ∧ cs.length ≤ 140737488355328 := by
  obtain ⟨els, rfl, h1, h2⟩ := h
  obtain ⟨cs, h3, h4⟩ := list_of (f := Cell.av) (fun l hl => by
    obtain ⟨c, rfl⟩ := sh_cell hl
    exact ⟨c, rfl⟩) els h1
  exact ⟨cs, by rw [h3]; rfl, by omega⟩
theorem sh_ints {l : List AV} (h : (Ty.sl tI).sh l) : ∃ f : List Int, l = [encIs f] ∧ f.length ≤ 140737488355328 := by
  obtain ⟨els, rfl, h1, h2⟩ := h
  obtain ⟨cs, h3, h4⟩ := list_of (f := encI) (fun l hl => by
    obtain ⟨c, rfl, _⟩ := sh_int hl
    exact ⟨c, rfl⟩) els h1
  exact ⟨cs, by rw [h3]; rfl, by omega⟩
end HM

/- Networks, flows and routes as plain data, and what the code computes of them. -/
namespace HM
open Go Go.RowKit

structure Link where
  src : Int
  dst : Int
  loss : Int
  deriving DecidableEq
def Link.av (l : Link) : AV := .agg [.int .i64 l.src, .int .i64 l.dst, .int .i64 l.loss]
def encLinks (l : List Link) : AV := .sl false (l.map Link.av)
structure Net where
  nodes : Int
  power : List (List Int)
  noise : Int
  thr : Int
  links : List Link
  margin : List Int
def encRows (l : List (List Int)) : AV := .sl false (l.map encIs)
def Net.cs (n : Net) : List AV := [.int .i64 n.nodes, encRows n.power, .int .i64 n.noise, .int .i64 n.thr, encLinks n.links, encIs n.margin]
def Net.av (n : Net) : AV := .agg [.int .i64 n.nodes, encRows n.power, .int .i64 n.noise, .int .i64 n.thr, encLinks n.links, encIs n.margin]
structure Flow where
  id : Int
  src : Int
  dst : Int
  period : Int
  phase : Int
  dead : Int
  deriving DecidableEq
def Flow.av (f : Flow) : AV := .agg [.int .i64 f.id, .int .i64 f.src, .int .i64 f.dst, .int .i64 f.period, .int .i64 f.phase, .int .i64 f.dead]
def encFlows (l : List Flow) : AV := .sl false (l.map Flow.av)

-- the first fault of many

def firstE (f : Nat → Int) : Nat → Int
  | 0 => 0
  | k + 1 => if firstE f k = 0 then f k else firstE f k
theorem firstE_zero {f : Nat → Int} : ∀ {n : Nat}, (∀ j, j < n → f j = 0) → firstE f n = 0
  | 0, _ => rfl
  | n + 1, h => by rw [firstE, firstE_zero fun j hj => h j (by omega), if_pos rfl]; exact h n (by omega)
theorem firstE_hit {f : Nat → Int} {k : Nat} (h0 : ∀ j, j < k → f j = 0) (he : f k ≠ 0) : ∀ {n : Nat}, k < n → firstE f n = f k
  | 0, h => by omega
  | n + 1, h => by
    rw [firstE]
    by_cases e : k = n
    · subst e; rw [firstE_zero h0, if_pos rfl]
    · rw [firstE_hit h0 he (n := n) (by omega), if_neg he]
theorem firstE_spec {f : Nat → Int} : ∀ {n : Nat}, firstE f n = 0 ↔ ∀ j, j < n → f j = 0
  | 0 => by simp [firstE]
  | n + 1 => by
    rw [firstE]
    constructor
    · intro h j hj
      by_cases h0 : firstE f n = 0
      · rw [if_pos h0] at h
        rcases Nat.lt_succ_iff_lt_or_eq.1 hj with hl | rfl
        · exact firstE_spec.1 h0 j hl
        · exact h
      · rw [if_neg h0] at h; exact absurd h h0
    · intro h
      rw [if_pos (firstE_spec.2 fun j hj => h j (by omega))]
      exact h n (by omega)
-- networks

def Link.key (l : Link) : List Int := [l.src, l.dst]
def Link.cmp (a b : Link) : Int := cmpL a.key b.key
def powAt (n : Net) (a b : Int) : Int := (n.power.getD a.toNat []).getD b.toNat 0
def badP (x : Int) : Bool := decide (x < 0) || decide (68719476736 < x)
def powerE (n : Net) : Int :=
  if (n.power.length : Int) ≠ n.nodes ∨ n.power.any (fun r => (r.length : Int) != n.nodes) then 1
  else if n.power.any (fun r => r.any badP) then 2 else 0
def linkR (n : Net) (l : Link) : Bool := insB l.src n.nodes && insB l.dst n.nodes && decide (l.src ≠ l.dst) && decide (0 ≤ l.loss) && decide (l.loss ≤ 7)
def linkO (n : Net) (i : Nat) (l : Link) : Bool := match i with
  | 0 => true
  | j + 1 => match n.links[j]? with
    | some p => decide (p.cmp l < 0)
    | none => true
def linkE (n : Net) (i : Nat) : Int := match n.links[i]? with
  | none => 0
  | some l => if linkR n l = false then 2 else if linkO n i l = false then 5
    else if n.margin.getD i 0 < 0 ∨ powAt n l.src l.dst < n.margin.getD i 0 then 2 else 0
def netE (n : Net) : Int :=
  if n.nodes < 2 ∨ 32 < n.nodes then 2
  else if powerE n ≠ 0 then powerE n
  else if n.noise < 0 ∨ 68719476736 < n.noise ∨ n.thr < 1000 ∨ 100000 < n.thr then 2
  else if 128 < n.links.length then 8
  else if n.margin.length ≠ n.links.length then 11
  else firstE (linkE n) n.links.length

structure NetOk (n : Net) : Prop where
  nodes : 2 ≤ n.nodes ∧ n.nodes ≤ 32
  rows : (n.power.length : Int) = n.nodes
  row : ∀ r ∈ n.power, (r.length : Int) = n.nodes
  pow : ∀ r ∈ n.power, ∀ x ∈ r, 0 ≤ x ∧ x ≤ 68719476736
  noise : 0 ≤ n.noise ∧ n.noise ≤ 68719476736
  thr : 1000 ≤ n.thr ∧ n.thr ≤ 100000
  many : n.links.length ≤ 128
  mar : n.margin.length = n.links.length
  link : ∀ i l, n.links[i]? = some l → linkR n l = true ∧ linkO n i l = true ∧ 0 ≤ n.margin.getD i 0 ∧ n.margin.getD i 0 ≤ powAt n l.src l.dst

theorem powerE_ok {n : Net} (h : powerE n = 0) : (n.power.length : Int) = n.nodes ∧ (∀ r ∈ n.power, (r.length : Int) = n.nodes) ∧ ∀ r ∈ n.power, ∀ x ∈ r, 0 ≤ x ∧ x ≤ 68719476736 := by
  unfold powerE at h
  split at h
  · cases h
  · rename_i h1
    split at h
    · cases h
    · rename_i h2
      simp only [not_or, ne_eq, Decidable.not_not, Bool.not_eq_true, List.any_eq_false, bne_iff_ne] at h1 h2
      refine ⟨h1.1, h1.2, fun r hr x hx => ?_⟩
      have := h2 r hr x hx
      simp [badP] at this
      omega

theorem powAt_bd {n : Net} (h : ∀ r ∈ n.power, ∀ x ∈ r, 0 ≤ x ∧ x ≤ 68719476736) (a b : Int) : 0 ≤ powAt n a b ∧ powAt n a b ≤ 68719476736 := by
  unfold powAt
  rw [List.getD_eq_getElem?_getD, List.getD_eq_getElem?_getD]
  cases h1 : n.power[a.toNat]? with
  | none => simp
  | some r =>
    simp only [Option.getD_some]
    cases h2 : r[b.toNat]? with
    | none => simp
    | some x => exact h r (List.mem_of_getElem? h1) x (List.mem_of_getElem? h2)

theorem netE_ok {n : Net} (h : netE n = 0) : NetOk n := by
  unfold netE at h
  split at h
  · cases h
  split at h
  · contradiction
  split at h
  · cases h
  split at h
  · cases h
  split at h
  · cases h
  rename_i h1 h2 h3 h4 h5
  obtain ⟨p1, p2, p3⟩ := powerE_ok (Decidable.not_not.1 h2)
  refine ⟨by omega, p1, p2, p3, by omega, by omega, by omega, by omega, fun i l hl => ?_⟩
  have hi := (List.getElem?_eq_some_iff.1 hl).1
  have := firstE_spec.1 h i hi
  unfold linkE at this
  rw [hl] at this
  simp only at this
  split at this
  · cases this
  split at this
  · cases this
  split at this
  · cases this
  rename_i g1 g2 g3
  exact ⟨by simpa using g1, by simpa using g2, by omega, by omega⟩

theorem linkR_bd {n : Net} {l : Link} (h : linkR n l = true) : 0 ≤ l.src ∧ l.src < n.nodes ∧ 0 ≤ l.dst ∧ l.dst < n.nodes ∧ l.src ≠ l.dst ∧ 0 ≤ l.loss ∧ l.loss ≤ 7 := by
  simp [linkR, insB] at h; omega

-- sorted lists

theorem cmpI_lt {x y : Int} : cmpI x y < 0 ↔ x < y := by
  unfold cmpI
  by_cases h : x < y
  · simp [h]
  · by_cases h2 : y < x <;> simp [h, h2]
theorem cmpI_eq {x y : Int} : cmpI x y = 0 ↔ x = y := by
  unfold cmpI
  by_cases h : x < y
  · simp [h]; omega
  · by_cases h2 : y < x
    · simp [h, h2]; omega
    · simp [h, h2]; omega
theorem cmpL_eq : ∀ {xs ys : List Int}, cmpL xs ys = 0 ↔ xs = ys
  | [], [] => by simp [cmpL]
  | [], _ :: _ => by simp [cmpL]
  | _ :: _, [] => by simp [cmpL]
  | x :: xs, y :: ys => by
    unfold cmpL
    split
    · rename_i h
      rw [cmpI_eq] at h
      simp [h, cmpL_eq (xs := xs) (ys := ys)]
    · rename_i h
      have h2 : x ≠ y := fun e => h (cmpI_eq.2 e)
      simp [h, h2]
theorem cmpL_trans : ∀ {xs ys zs : List Int}, cmpL xs ys < 0 → cmpL ys zs < 0 → cmpL xs zs < 0
  | [], [], _, h, _ => by simp [cmpL] at h
  | [], _ :: _, [], _, h => by simp [cmpL] at h
  | [], _ :: _, _ :: _, _, _ => by simp [cmpL]
  | _ :: _, [], _, h, _ => by simp [cmpL] at h
  | _ :: _, _ :: _, [], _, h => by simp [cmpL] at h
  | x :: xs, y :: ys, z :: zs, h1, h2 => by
    unfold cmpL at h1 h2 ⊢
    split at h1
    · rename_i e1
      rw [cmpI_eq] at e1; subst e1
      split at h2
      · rename_i e2
        rw [if_pos e2]; exact cmpL_trans h1 h2
      · rename_i e2
        rw [if_neg e2]; exact h2
    · rename_i e1
      rw [cmpI_lt] at h1
      split at h2
      · rename_i e2
        rw [cmpI_eq] at e2; subst e2
        rw [if_neg (fun e => by rw [cmpI_eq] at e; omega), cmpI_lt]; exact h1
      · rename_i e2
        rw [cmpI_lt] at h2
        rw [if_neg (fun e => by rw [cmpI_eq] at e; omega), cmpI_lt]; omega
theorem cmpL_anti : ∀ {xs ys : List Int}, cmpL xs ys < 0 ↔ 0 < cmpL ys xs
  | [], [] => by simp [cmpL]
  | [], _ :: _ => by simp [cmpL]
  | _ :: _, [] => by simp [cmpL]
  | x :: xs, y :: ys => by
    unfold cmpL
    by_cases e : x = y
    · subst e
      rw [if_pos (cmpI_eq.2 rfl), if_pos (cmpI_eq.2 rfl)]; exact cmpL_anti
    · rw [if_neg (fun h => e (cmpI_eq.1 h)), if_neg (fun h => e (cmpI_eq.1 h).symm)]
      unfold cmpI
      by_cases h1 : x < y
      · have h2 : ¬ y < x := by omega
        simp [h1, h2]
      · have h2 : y < x := by omega
        simp [h1, h2]

/-- neighbours in order: all in order -/
def Sorted {α : Type} (c : α → α → Int) (l : List α) : Prop := ∀ (i j : Nat) (x y : α), i < j → l[i]? = some x → l[j]? = some y → c x y < 0
theorem sorted_of_next {α : Type} {key : α → List Int} {l : List α} (h : ∀ (j : Nat) (p x : α), l[j]? = some p → l[j + 1]? = some x → cmpL (key p) (key x) < 0) : Sorted (fun a b => cmpL (key a) (key b)) l := by
  intro i j x y hij hx hy
  induction j generalizing y with
  | zero => omega
  | succ j ih =>
    have hlt := (List.getElem?_eq_some_iff.1 hy).1
    have hj : l[j]? = some l[j] := List.getElem?_eq_getElem (by omega)
    rcases Nat.lt_succ_iff_lt_or_eq.1 hij with h1 | rfl
    · exact cmpL_trans (ih _ h1 hj) (h j _ y hj hy)
    · rw [hx] at hj; injection hj with hj
      exact h i x y hx hy

/-- where a thing stands, or would stand, in a list that goes up against it -/
def posB {α : Type} (c : α → Int) (l : List α) : Nat := (l.takeWhile fun x => decide (c x < 0)).length
def hasB {α : Type} (c : α → Int) (l : List α) : Bool := match l[posB c l]? with
  | some x => c x == 0
  | none => false
def Mono {α : Type} (c : α → Int) (l : List α) : Prop := ∀ (i j : Nat) (x y : α), i < j → l[i]? = some x → l[j]? = some y → c y < 0 → c x < 0
theorem posB_lt {α : Type} {c : α → Int} : ∀ {l : List α} {i : Nat} {x : α}, i < posB c l → l[i]? = some x → c x < 0
  | [], _, _, h, _ => by simp [posB] at h
  | a :: l, i, x, h, hx => by
    unfold posB at h
    rw [List.takeWhile_cons] at h
    split at h
    · rename_i ha
      cases i with
      | zero => simp at hx; subst hx; simpa using ha
      | succ i => exact posB_lt (l := l) (by simpa [posB] using h) (by simpa using hx)
    · simp at h
theorem posB_ge {α : Type} {c : α → Int} : ∀ {l : List α} {x : α}, l[posB c l]? = some x → ¬ c x < 0
  | [], _, h => by simp [posB] at h
  | a :: l, x, h => by
    unfold posB at h
    rw [List.takeWhile_cons] at h
    split at h
    · exact posB_ge (l := l) (by simpa [posB] using h)
    · rename_i ha
      simp at h; subst h
      simpa using ha
theorem posB_le {α : Type} (c : α → Int) : ∀ l : List α, posB c l ≤ l.length
  | [] => by simp [posB]
  | a :: l => by
    unfold posB
    rw [List.takeWhile_cons]
    split
    · simpa [posB] using posB_le c l
    · simp
theorem posB_uniq {α : Type} {c : α → Int} {l : List α} {p : Nat} (hp : p ≤ l.length) (h1 : ∀ i x, i < p → l[i]? = some x → c x < 0) (h2 : ∀ x, l[p]? = some x → ¬ c x < 0) : posB c l = p := by
  rcases Nat.lt_trichotomy (posB c l) p with h | h | h
  · have hlt : posB c l < l.length := by omega
    exact absurd (h1 _ _ h (List.getElem?_eq_getElem hlt)) (posB_ge (List.getElem?_eq_getElem hlt))
  · exact h
  · have hlt : p < l.length := by have := posB_le c l; omega
    exact absurd (posB_lt h (List.getElem?_eq_getElem hlt)) (h2 _ (List.getElem?_eq_getElem hlt))

-- links by their ends

def isL (a b : Int) (l : Link) : Bool := l.src == a && l.dst == b
def findL (n : Net) (a b : Int) : Int := idxF (isL a b) n.links
def cmpTo (a b : Int) (l : Link) : Int := cmpL l.key [a, b]
theorem cmpTo_eq {a b : Int} {l : Link} : cmpTo a b l = 0 ↔ isL a b l = true := by
  unfold cmpTo Link.key isL
  rw [cmpL_eq]; simp

theorem NetOk.sorted {n : Net} (h : NetOk n) : Sorted Link.cmp n.links := by
  refine sorted_of_next (key := Link.key) fun j p x hp hx => ?_
  have := (h.link (j + 1) x hx).2.1
  unfold linkO at this
  simp only [hp] at this
  exact of_decide_eq_true this
theorem NetOk.mono {n : Net} (h : NetOk n) (a b : Int) : Mono (cmpTo a b) n.links := fun i j x y hij hx hy hc => cmpL_trans (h.sorted i j x y hij hx hy) hc

theorem idxF_at {α : Type} {p : α → Bool} {l : List α} (h : idxF p l ≠ -1) : ∃ (k : Nat) (x : α), idxF p l = k ∧ l[k]? = some x ∧ p x = true := by
  unfold idxF at h ⊢
  cases ha : l.any p with
  | false => simp [ha] at h
  | true =>
    simp only [if_true]
    have hlt : l.findIdx p < l.length := List.findIdx_lt_length_of_exists (by simpa [List.any_eq_true] using ha)
    exact ⟨_, l[l.findIdx p], rfl, List.getElem?_eq_getElem hlt, List.findIdx_getElem⟩

/-- a search by halves finds what a search from the front does -/
theorem find_half {n : Net} (h : NetOk n) (a b : Int) : (if hasB (cmpTo a b) n.links then (posB (cmpTo a b) n.links : Int) else -1) = findL n a b := by
  have hs := h.mono a b
  unfold findL hasB
  cases hp : n.links[posB (cmpTo a b) n.links]? with
  | none =>
    simp only [Bool.false_eq_true, if_false]
    symm
    refine idxF_none fun j y hj hy => ?_
    have : ¬ posB (cmpTo a b) n.links < n.links.length := fun hh => by rw [List.getElem?_eq_getElem hh] at hp; cases hp
    have h1 := posB_lt (c := cmpTo a b) (l := n.links) (i := j) (by omega) hy
    cases e : isL a b y with
    | false => rfl
    | true => rw [cmpTo_eq.2 e] at h1; omega
  | some x =>
    simp only
    by_cases e : cmpTo a b x = 0
    · rw [if_pos (by simpa using e)]
      symm
      have hlt := (List.getElem?_eq_some_iff.1 hp).1
      refine idxF_some hlt (fun j y hj hy => ?_) hp (cmpTo_eq.1 e)
      have h1 := posB_lt hj hy
      cases e2 : isL a b y with
      | false => rfl
      | true => rw [cmpTo_eq.2 e2] at h1; omega
    · rw [if_neg (by simpa using e)]
      symm
      refine idxF_none fun j y hj hy => ?_
      cases e2 : isL a b y with
      | false => rfl
      | true =>
        have h0 := cmpTo_eq.2 e2
        have hx := posB_ge hp
        rcases Nat.lt_trichotomy j (posB (cmpTo a b) n.links) with hlt | rfl | hgt
        · have := posB_lt hlt hy; omega
        · rw [hp] at hy; injection hy with hy; subst hy; exact absurd h0 e
        · have h2 := h.sorted _ _ x y hgt hp hy
          have h3 : y.key = [a, b] := cmpL_eq.1 h0
          unfold Link.cmp at h2
          rw [h3] at h2
          exact absurd h2 hx

-- what is heard

def heardB (n : Net) (s d : Int) : Bool := decide (n.thr * (n.noise + d) ≤ s * 1000)
def heardAt (n : Net) (i : Int) : Bool := heardB n (n.margin.getD i.toNat 0) 0
/-- whether there is a usable link -/
def goodL (n : Net) (a b : Int) : Bool := decide (0 ≤ findL n a b) && decide (0 ≤ findL n b a) && heardAt n (findL n a b) && heardAt n (findL n b a)
def usableL (n : Net) (i : Int) : Bool := match n.links[i.toNat]? with
  | some l => decide (0 ≤ findL n l.dst l.src) && heardAt n i && heardAt n (findL n l.dst l.src)
  | none => false
def usableN (n : Net) (i : Int) : Bool := decide (netE n = 0) && insB i n.links.length && usableL n i
def indexN (n : Net) (a b : Int) : Int := if netE n = 0 then findL n a b else -1

theorem findL_at {n : Net} {a b : Int} (h : 0 ≤ findL n a b) : ∃ (k : Nat) (l : Link), findL n a b = k ∧ n.links[k]? = some l ∧ l.src = a ∧ l.dst = b := by
  obtain ⟨k, l, h1, h2, h3⟩ := idxF_at (p := isL a b) (l := n.links) (by unfold findL at h; omega)
  simp [isL] at h3
  exact ⟨k, l, h1, h2, h3.1, h3.2⟩
theorem findL_bd (n : Net) (a b : Int) : -1 ≤ findL n a b ∧ findL n a b < n.links.length := by
  unfold findL idxF
  split
  · rename_i h
    have : n.links.findIdx (isL a b) < n.links.length := List.findIdx_lt_length_of_exists (by simpa [List.any_eq_true] using h)
    omega
  · omega

theorem usable_index {n : Net} (h : netE n = 0) (a b : Int) : usableN n (indexN n a b) = goodL n a b := by
  unfold usableN indexN goodL
  rw [if_pos h]
  have hb := findL_bd n a b
  by_cases h0 : 0 ≤ findL n a b
  · obtain ⟨k, l, h1, h2, h3, h4⟩ := findL_at h0
    have hins : insB (findL n a b) n.links.length = true := by simp [insB]; omega
    rw [hins]
    unfold usableL
    rw [h1, Int.toNat_natCast, h2]
    simp only [h3, h4, h, decide_true, Bool.true_and]
    simp [Bool.and_comm]
  · have : insB (findL n a b) n.links.length = false := by simp [insB, h0]
    simp [this, h0]

-- flows

def flowE (nodes : Int) (f : Flow) : Int :=
  if f.id < 0 ∨ 255 < f.id ∨ insB f.src nodes = false ∨ insB f.dst nodes = false then 2
  else if f.period < 1 ∨ 512 < f.period ∨ f.phase < 0 ∨ f.period ≤ f.phase ∨ f.dead < 1 ∨ f.period < f.dead then 2
  else if f.src = f.dst then 1 else 0
def flowO (l : List Flow) (i : Nat) (f : Flow) : Bool := match i with
  | 0 => true
  | j + 1 => match l[j]? with
    | some p => decide (p.id < f.id)
    | none => true
def flowAt (nodes : Int) (l : List Flow) (i : Nat) : Int := match l[i]? with
  | none => 0
  | some f => if flowE nodes f ≠ 0 then flowE nodes f else if flowO l i f = false then 5 else 0
/-- the first place with a fault, and the fault -/
def firstAt (f : Nat → Int) (n : Nat) : Int × Int := match (List.range n).find? (fun i => f i != 0) with
  | some i => (i, f i)
  | none => (-1, 0)
theorem firstAt_hit {f : Nat → Int} {n k : Nat} (h0 : ∀ j, j < k → f j = 0) (he : f k ≠ 0) (hk : k < n) : firstAt f n = ((k : Int), f k) := by
  unfold firstAt
  have : (List.range n).find? (fun i => f i != 0) = some k := by
    rw [List.find?_range_eq_some]
    exact ⟨by simpa using he, by simpa using hk, fun j hj => by simp [h0 j hj]⟩
  rw [this]
theorem firstAt_zero {f : Nat → Int} {n : Nat} (h0 : ∀ j, j < n → f j = 0) : firstAt f n = (-1, 0) := by
  unfold firstAt
  have : (List.range n).find? (fun i => f i != 0) = none := by
    rw [List.find?_eq_none]
    intro j hj
    simp [h0 j (by simpa using hj)]
  rw [this]
theorem firstAt_ok {f : Nat → Int} {n : Nat} : (firstAt f n).2 = 0 ↔ ∀ j, j < n → f j = 0 := by
  unfold firstAt
  cases h : (List.range n).find? (fun i => f i != 0) with
  | none =>
    simp only [true_iff]
    rw [List.find?_eq_none] at h
    intro j hj
    simpa using h j (by simpa using hj)
  | some i =>
    rw [List.find?_range_eq_some] at h
    simp only
    constructor
    · intro h2; simp [h2] at h
    · intro h2; exact h2 i (by simpa using h.2.1)
def flowsE (nodes : Int) (l : List Flow) : Int × Int :=
  if nodes < 2 ∨ 32 < nodes then (-1, 2) else if 16 < l.length then (-1, 8) else firstAt (flowAt nodes l) l.length

theorem flowE_ok {nodes : Int} {f : Flow} (h : flowE nodes f = 0) : 0 ≤ f.id ∧ f.id ≤ 255 ∧ 0 ≤ f.src ∧ f.src < nodes ∧ 0 ≤ f.dst ∧ f.dst < nodes ∧ 1 ≤ f.period ∧ f.period ≤ 512 ∧ 0 ≤ f.phase ∧ f.phase < f.period ∧ 1 ≤ f.dead ∧ f.dead ≤ f.period ∧ f.src ≠ f.dst := by
  unfold flowE at h
  split at h
  · cases h
  split at h
  · cases h
  split at h
  · cases h
  rename_i h1 h2 h3
  simp [insB] at h1 h2
  omega

-- routes

def endsE (n : Net) (a b : Int) : Int := if netE n ≠ 0 then 1 else if insB a n.nodes = false ∨ insB b n.nodes = false ∨ a = b then 2 else 0
def dupAt (r : List Int) (i : Nat) : Bool := match r[i]? with
  | some a => (r.take i).any (· == a)
  | none => false
def hopOk (n : Net) (r : List Int) (i : Nat) : Bool := goodL n (r.getD i 0) (r.getD (i + 1) 0)
def routeF (n : Net) (a b : Int) (r : List Int) : Int :=
  if r.length < 2 then 9 else if 9 < r.length then 8
  else if r.any (fun x => !insB x n.nodes) then 2
  else if r.getD 0 0 ≠ a ∨ r.getD (r.length - 1) 0 ≠ b then 11
  else if (List.range r.length).any (dupAt r) then 6
  else if (List.range (r.length - 1)).all (hopOk n r) then 0 else 17
def routeE (n : Net) (a b : Int) (r : List Int) : Int := if endsE n a b ≠ 0 then endsE n a b else routeF n a b r
theorem link_find {n : Net} (h : NetOk n) {i : Nat} {l : Link} (hl : n.links[i]? = some l) : findL n l.src l.dst = i := by
  refine idxF_some (List.getElem?_eq_some_iff.1 hl).1 (fun j y hj hy => ?_) hl (by simp [isL])
  have := h.sorted j i y l hj hy hl
  cases hc : isL l.src l.dst y with
  | false => rfl
  | true =>
    simp [isL] at hc
    have e : y.key = l.key := by simp [Link.key, hc.1, hc.2]
    unfold Link.cmp at this
    rw [e, cmpL_eq.2 rfl] at this
    exact absurd this (by decide)
theorem strict_ext {α : Type} {lt : α → α → Prop} (irr : ∀ a, ¬ lt a a) (asy : ∀ a b, lt a b → ¬ lt b a) : ∀ {l m : List α}, l.Pairwise lt → m.Pairwise lt → (∀ x, x ∈ l ↔ x ∈ m) → l = m
  | [], [], _, _, _ => rfl
  | [], y :: m, _, _, h => absurd ((h y).2 (by simp)) (by simp)
  | x :: l, [], _, _, h => absurd ((h x).1 (by simp)) (by simp)
  | x :: l, y :: m, h1, h2, h => by
    obtain ⟨a1, a2⟩ := List.pairwise_cons.1 h1
    obtain ⟨b1, b2⟩ := List.pairwise_cons.1 h2
    have e : x = y := by
      rcases List.mem_cons.1 ((h x).1 (by simp)) with e | hx
      · exact e
      rcases List.mem_cons.1 ((h y).2 (by simp)) with e | hy
      · exact e.symm
      exact absurd (a1 y hy) (asy _ _ (b1 x hx))
    subst e
    rw [strict_ext irr asy a2 b2 fun z => ?_]
    constructor
    · intro hz
      rcases List.mem_cons.1 ((h z).1 (by simp [hz])) with rfl | h'
      · exact absurd (a1 z hz) (irr z)
      · exact h'
    · intro hz
      rcases List.mem_cons.1 ((h z).2 (by simp [hz])) with rfl | h'
      · exact absurd (b1 z hz) (irr z)
      · exact h'
end HM

/- Slices that are written, of things of several cells. -/
namespace HM
open Go Go.RowKit

/-- things of several plain cells -/
structure EncOk {α : Type} (enc : α → AV) (sz : Nat) : Prop where
  agg : ∀ x, enc x = .agg (enc x).cells
  len : ∀ x, (enc x).cells.length = sz
  fz : ∀ x, fzs (enc x).cells = some (enc x).cells
  cell : ∀ x, (enc x).cells.all AV.isCell = true
  two : 2 ≤ sz

theorem scalars_append : ∀ a b : List AV, scalars (a ++ b) = (scalars a && scalars b)
  | [], b => by simp [scalars]
  | x :: a, b => by simp [scalars, scalars_append a b, Bool.and_assoc]

section
variable {α : Type} {enc : α → AV} {sz : Nat}
theorem EncOk.els (h : EncOk enc sz) (l : List α) : Els sz (l.map enc) := Els.map fun x => ⟨h.len x, h.cell x⟩
theorem EncOk.scal (h : EncOk enc sz) (hs : ∀ x, scalars (enc x).cells = true) : ∀ l : List α, scalars (flatE (l.map enc)) = true
  | [] => rfl
  | x :: l => by
    have := EncOk.scal h hs l
    simp only [flatE, List.map_cons, List.flatMap_cons, scalars_append] at this ⊢
    rw [hs x, this]; rfl
theorem EncOk.flen (h : EncOk enc sz) (l : List α) : (flatE (l.map enc)).length = l.length * sz := by
  have := flatE_len (sz := sz) (es := l.map enc) (by
    intro e he
    obtain ⟨x, _, rfl⟩ := List.mem_map.1 he
    exact h.len x)
  simpa using this

theorem EncOk.ld (h : EncOk enc sz) : ∀ {l : List α} {k : Nat} {x : α} (ex : List AV), l[k]? = some x → ((flatE (l.map enc) ++ ex).drop (k * sz)).take sz = (enc x).cells
  | [], _, _, _, hk => by simp at hk
  | y :: l, 0, x, ex, hk => by
    simp at hk; subst hk
    simp only [flatE, List.map_cons, List.flatMap_cons, Nat.zero_mul, List.drop_zero, List.append_assoc]
    rw [← h.len y]; simp
  | y :: l, k + 1, x, ex, hk => by
    have := EncOk.ld h (l := l) ex (by simpa using hk)
    simp only [flatE, List.map_cons, List.flatMap_cons, List.append_assoc] at this ⊢
    rw [Nat.add_mul, Nat.one_mul, Nat.add_comm, ← List.drop_drop]
    have e : ((enc y).cells ++ (List.flatMap AV.cells (l.map enc) ++ ex)).drop sz = List.flatMap AV.cells (l.map enc) ++ ex := by
      rw [← h.len y]; simp
    rw [e]; exact this
theorem EncOk.ldr (h : EncOk enc sz) {l : List α} {k : Nat} {x : α} (ex : List AV) (hk : l[k]? = some x) (n n' : Nat) (hn : n = sz) (hn' : n' = sz) : ((flatE (l.map enc) ++ ex).drop (0 + (k : Int).toNat * n)).take n' = (enc x).cells := by
  subst hn; subst hn'; rw [Nat.zero_add, Int.toNat_natCast]; exact h.ld ex hk
theorem splice_append_left : ∀ (a b c : List AV) (n : Nat), splice (a ++ b) (a.length + n) c = a ++ splice b n c
  | [], b, c, n => by simp
  | x :: a, b, c, n => by
    rw [List.cons_append, List.length_cons, show a.length + 1 + n = (a.length + n) + 1 by omega, splice, splice_append_left a b c n, List.cons_append]
theorem splice_head : ∀ (a b c : List AV), c.length = a.length → splice (a ++ b) 0 c = c ++ b
  | [], b, [], _ => by simp [splice_nil]
  | [], _, _ :: _, h => by simp at h
  | _ :: _, _, [], h => by simp at h
  | x :: a, b, y :: c, h => by
    have := splice_head a b c (by simpa using h)
    simp only [List.cons_append, splice, this]

theorem EncOk.st (h : EncOk enc sz) (v : α) (ex : List AV) : ∀ {l : List α} {k : Nat}, k < l.length → splice (flatE (l.map enc) ++ ex) (k * sz) (enc v).cells = flatE ((l.set k v).map enc) ++ ex
  | [], _, hk => by simp at hk
  | y :: l, 0, _ => by
    simp only [flatE, List.map_cons, List.flatMap_cons, Nat.zero_mul, List.set_cons_zero, List.append_assoc]
    exact splice_head _ _ _ (by rw [h.len, h.len])
  | y :: l, k + 1, hk => by
    have := EncOk.st h v ex (l := l) (k := k) (by simpa using hk)
    simp only [flatE, List.map_cons, List.flatMap_cons, List.set_cons_succ, List.append_assoc] at this ⊢
    rw [Nat.add_mul, Nat.one_mul, Nat.add_comm]
    have e := splice_append_left (enc y).cells (List.flatMap AV.cells (l.map enc) ++ ex) (enc v).cells (k * sz)
    rw [h.len y] at e
    rw [e, this]

theorem fzs_append : ∀ {a b a' b' : List AV}, fzs a = some a' → fzs b = some b' → fzs (a ++ b) = some (a' ++ b')
  | [], _, a', _, h, hb => by simp [fzs] at h; subst h; simpa using hb
  | x :: a, b, a', b', h, hb => by
    simp only [fzs] at h
    split at h
    · rename_i y ys h1 h2
      simp at h; subst h
      simp only [List.cons_append, fzs, h1, fzs_append h2 hb]
    · cases h
theorem EncOk.fzf (h : EncOk enc sz) : ∀ l : List α, fzs (flatE (l.map enc)) = some (flatE (l.map enc))
  | [] => rfl
  | x :: l => by
    have := EncOk.fzf h l
    simp only [flatE, List.map_cons, List.flatMap_cons] at this ⊢
    exact fzs_append (h.fz x) this
theorem EncOk.chunk (h : EncOk enc sz) : ∀ l : List α, chunkA sz l.length (flatE (l.map enc)) = l.map enc
  | [] => rfl
  | x :: l => by
    have := EncOk.chunk h l
    simp only [flatE, List.map_cons, List.flatMap_cons, List.length_cons, chunkA] at this ⊢
    rw [show ((enc x).cells ++ List.flatMap AV.cells (l.map enc)).take sz = (enc x).cells from by rw [← h.len x]; simp, show ((enc x).cells ++ List.flatMap AV.cells (l.map enc)).drop sz = List.flatMap AV.cells (l.map enc) from by rw [← h.len x]; simp, this, ← h.agg x]

/-- data out of such a slice: a part of it from its head on -/
theorem EncOk.fzb (h : EncOk enc sz) {S : St} {id n : Nat} {l : List α} {ex : List AV} {t : TypeId} (hb : S.bx[id]? = some (.cells (flatE (l.map enc) ++ ex) t)) (hn : l.length = n) : HM.fzb S (.vsl id 0 n sz) = some (.sl false (l.map enc)) := by
  subst hn
  have h2 := h.two
  have hfl := h.flen l
  have htake : ((flatE (l.map enc) ++ ex).drop 0).take (l.length * sz) = flatE (l.map enc) := by rw [List.drop_zero, ← hfl]; exact List.take_left
  simp only [HM.fzb, hb]
  rw [if_pos ⟨by rw [List.length_append, hfl, Nat.zero_add]; exact Nat.le_add_right _ _, by omega⟩, htake, h.fzf l]
  simp only [Option.bind_some]
  have hne : ¬ sz = 1 := by omega
  rw [if_pos (flatE_cell (h.els l)), if_neg hne, h.chunk l]

theorem EncOk.fit (h : EncOk enc sz) {l : List α} (ex : List AV) {k : Nat} (hk : k < l.length) : k * sz + sz ≤ (flatE (l.map enc) ++ ex).length := by
  rw [List.length_append, h.flen, ← Nat.succ_mul]
  exact Nat.le_trans (Nat.mul_le_mul_right _ hk) (Nat.le_add_right _ _)
theorem EncOk.okk (h : EncOk enc sz) (k m : Nat) (l : List α) : okks k m (flatE (l.map enc)) := fzs_okk (h.fzf l)
theorem okks_append {k m : Nat} : ∀ {a b : List AV}, okks k m a → okks k m b → okks k m (a ++ b)
  | [], _, _, h => h
  | _ :: _, _, h, h' => ⟨h.1, okks_append h.2 h'⟩
theorem okks_undef (k m : Nat) : ∀ n, okks k m (List.replicate n .undef)
  | 0 => trivial
  | n + 1 => ⟨trivial, okks_undef k m n⟩
/-- zeros behind the head -/
theorem EncOk.clr (h : EncOk enc sz) (l : List α) {k : Nat} (ex : List AV) (zs : List AV) (hk : k ≤ l.length) (hz : zs.length = sz) : splice (flatE (l.map enc) ++ ex) (k * sz) (repL (l.length - k) zs) = flatE ((l.take k).map enc) ++ (repL (l.length - k) zs ++ ex) := by
  have e1 : flatE (l.map enc) = flatE ((l.take k).map enc) ++ flatE ((l.drop k).map enc) := by
    conv => lhs; rw [← List.take_append_drop k l]
    simp only [flatE, List.map_append, List.flatMap_append]
  have e2 : (flatE ((l.take k).map enc)).length = k * sz := by rw [h.flen, List.length_take, Nat.min_eq_left hk]
  have e3 := splice_append_left (flatE ((l.take k).map enc)) (flatE ((l.drop k).map enc) ++ ex) (repL (l.length - k) zs) 0
  rw [e2, Nat.add_zero] at e3
  rw [e1, List.append_assoc, e3, splice_head _ _ _ (by rw [repL_len, h.flen, hz, List.length_drop])]
theorem EncOk.clr' (h : EncOk enc sz) {l : List α} {k : Nat} (ex zs : List AV) (n m : Nat) (hn : n = sz) (hm : m = l.length - k) (hk : k ≤ l.length) (hz : zs.length = sz) : splice (flatE (l.map enc) ++ ex) (0 + (k : Int).toNat * n) (repL m zs) = flatE ((l.take k).map enc) ++ (repL m zs ++ ex) := by
  subst hn; subst hm; rw [Nat.zero_add, Int.toNat_natCast]; exact h.clr l ex zs hk hz
theorem EncOk.headLe (h : EncOk enc sz) {l : List α} {k : Nat} (ex : List AV) (n : Nat) (hn : n = sz) (hk : k ≤ l.length) : 0 + (k : Int).toNat * n ≤ (flatE ((l.take k).map enc) ++ ex).length := by
  subst hn
  rw [List.length_append, h.flen, Int.toNat_natCast, Nat.zero_add, List.length_take, Nat.min_eq_left hk]
  exact Nat.le_add_right _ _
end

theorem cellOk : EncOk Cell.av 5 := ⟨fun _ => rfl, fun _ => rfl, fun _ => rfl, fun _ => rfl, by decide⟩
theorem linkOk : EncOk Link.av 3 := ⟨fun _ => rfl, fun _ => rfl, fun _ => rfl, fun _ => rfl, by decide⟩
theorem fz2 {S : St} {a a' : AV} {b b' : List AV} (h : fzb S a = some a') (h2 : fzbs S b = some b') : fzbs S (a :: b) = some (a' :: b') := by simp only [fzbs, h, h2]
theorem fzf1 {S : St} {g : Nat} {c c' : List AV} (h : fzbs S c = some c') : fzbs S [.fn g c] = some [.fn g c'] := by simp only [fzbs, fzb, h, Option.map_some]

/-- keeping of what a condition does not hold for, in place: how far it has come -/
structure Kept {α : Type} (p : α → Bool) (l a : List α) (i j : Nat) : Prop where
  len : a.length = l.length
  ij : i ≤ j ∧ j ≤ l.length
  hd : a.take i = (l.take j).filter fun x => !p x
  tl : a.drop j = l.drop j
theorem Kept.skip {α : Type} {p : α → Bool} {l a : List α} {i j : Nat} {x : α} (h : Kept p l a i j) (hx : l[j]? = some x) (hp : p x = true) : Kept p l a i (j + 1) := by
  have hlt := (List.getElem?_eq_some_iff.1 hx).1
  refine ⟨h.len, ⟨by have := h.ij; omega, by omega⟩, ?_, ?_⟩
  · rw [h.hd, take_succ hx, List.filter_append]; simp [hp]
  · have := congrArg (List.drop 1) h.tl
    simpa [List.drop_drop] using this
theorem Kept.keep {α : Type} {p : α → Bool} {l a : List α} {i j : Nat} {x : α} (h : Kept p l a i j) (hx : l[j]? = some x) (hp : p x = false) : Kept p l (a.set i x) (i + 1) (j + 1) := by
  have hlt := (List.getElem?_eq_some_iff.1 hx).1
  have h1 := h.len
  have h2 := h.ij
  refine ⟨by simpa using h.len, ⟨by omega, by omega⟩, ?_, ?_⟩
  · have e : (a.set i x)[i]? = some x := by rw [List.getElem?_set, if_pos rfl, if_pos (by omega)]
    rw [take_succ e, List.take_set_of_le (Nat.le_refl _), h.hd, take_succ hx, List.filter_append]; simp [hp]
  · rw [List.drop_set_of_lt (by omega)]
    have := congrArg (List.drop 1) h.tl
    simpa [List.drop_drop] using this
theorem Kept.get {α : Type} {p : α → Bool} {l a : List α} {i j : Nat} {x : α} (h : Kept p l a i j) (hx : l[j]? = some x) : a[j]? = some x := by
  have := congrArg (·[0]?) h.tl
  simp only [List.getElem?_drop, Nat.add_zero] at this
  rw [this, hx]
theorem Kept.start {α : Type} {p : α → Bool} {l : List α} {k : Nat} {x : α} (hk : l[k]? = some x) (hp : p x = true) (hb : ∀ (j : Nat) (y : α), j < k → l[j]? = some y → p y = false) : Kept p l l k (k + 1) := by
  have hlt := (List.getElem?_eq_some_iff.1 hk).1
  refine ⟨rfl, ⟨by omega, by omega⟩, ?_, rfl⟩
  rw [take_succ hk, List.filter_append]
  have e : (l.take k).filter (fun x => !p x) = l.take k := by
    rw [List.filter_eq_self]
    intro y hy
    obtain ⟨j, hj⟩ := List.getElem?_of_mem hy
    rw [List.getElem?_take] at hj
    split at hj
    · rename_i hlt2; simp [hb j y hlt2 hj]
    · cases hj
  rw [e]; simp [hp]
theorem Kept.fin {α : Type} {p : α → Bool} {l a : List α} {i : Nat} (h : Kept p l a i l.length) : a.take i = l.filter fun x => !p x := by
  have := h.hd
  rwa [List.take_length] at this
theorem idxF_none_iff {α : Type} {p : α → Bool} {l : List α} (h : idxF p l = -1) : ∀ (j : Nat) (y : α), l[j]? = some y → p y = false := by
  intro j y hy
  unfold idxF at h
  cases ha : l.any p with
  | true => simp [ha] at h <;> omega
  | false =>
    rw [List.any_eq_false] at ha
    simpa using ha y (List.mem_of_getElem? hy)
theorem idxF_first {α : Type} {p : α → Bool} {l : List α} {k : Nat} (h : idxF p l = (k : Int)) : ∃ x, l[k]? = some x ∧ p x = true ∧ ∀ (j : Nat) (y : α), j < k → l[j]? = some y → p y = false := by
  unfold idxF at h
  cases ha : l.any p with
  | false => simp [ha] at h <;> omega
  | true =>
    simp only [ha, if_true] at h
    have hk : l.findIdx p = k := by omega
    have hlt : l.findIdx p < l.length := List.findIdx_lt_length_of_exists (by simpa [List.any_eq_true] using ha)
    subst hk
    refine ⟨l[l.findIdx p], List.getElem?_eq_getElem hlt, List.findIdx_getElem, fun j y hj hy => ?_⟩
    have := List.not_of_lt_findIdx hj
    obtain ⟨hjl, rfl⟩ := List.getElem?_eq_some_iff.1 hy
    simpa using this
theorem EncOk.push {α : Type} {enc : α → AV} {sz : Nat} (h : EncOk enc sz) (l : List α) (x : α) (d : Nat) (hr : (l.length + 1) * sz ≤ (flatE (l.map enc) ++ List.replicate (d * sz) AV.undef).length) : splice (flatE (l.map enc) ++ List.replicate (d * sz) .undef) (l.length * sz) (enc x).cells = flatE ((l ++ [x]).map enc) ++ List.replicate ((d - 1) * sz) .undef := by
  have hfl := h.flen l
  have hx := h.len x
  rw [List.length_append, hfl, List.length_replicate, Nat.add_mul] at hr
  rw [splice_eq _ _ _ (by rw [List.length_append, hfl, List.length_replicate, hx]; omega), ← hfl, List.take_left, List.drop_append, hfl, hx, List.drop_eq_nil_of_le (by rw [hfl]; omega), List.nil_append, List.map_append, List.drop_replicate]
  congr 1
  · simp [flatE]
  · congr 1
    rw [Nat.sub_mul]; omega
theorem EncOk.cut {α : Type} {enc : α → AV} {sz : Nat} (h : EncOk enc sz) (l : List α) (ex : List AV) : (flatE (l.map enc) ++ ex).take (l.length * sz) = flatE (l.map enc) := by
  rw [← h.flen l, List.take_left]
theorem flatE_push {α : Type} (enc : α → AV) (l : List α) (x : α) : flatE (l.map enc) ++ (enc x).cells = flatE ((l ++ [x]).map enc) := by simp [flatE]
end HM

/- Routes in schedules: which slots count. -/
namespace HM
open Go Go.RowKit

structure Way where
  n : Net
  s : Sched
  f : Flow
  r : List Int
  more : Int
def Way.cs (w : Way) : List AV := [.int .i64 w.n.nodes, encRows w.n.power, .int .i64 w.n.noise, .int .i64 w.n.thr, encLinks w.n.links, encIs w.n.margin, .int .i64 w.s.len, .int .i64 w.s.offs, encCells w.s.cells, .int .i64 w.f.id, .int .i64 w.f.src, .int .i64 w.f.dst, .int .i64 w.f.period, .int .i64 w.f.phase, .int .i64 w.f.dead, encIs w.r, .int .i64 w.more]
def Way.av (w : Way) : AV := .agg [.int .i64 w.n.nodes, encRows w.n.power, .int .i64 w.n.noise, .int .i64 w.n.thr, encLinks w.n.links, encIs w.n.margin, .int .i64 w.s.len, .int .i64 w.s.offs, encCells w.s.cells, .int .i64 w.f.id, .int .i64 w.f.src, .int .i64 w.f.dst, .int .i64 w.f.period, .int .i64 w.f.phase, .int .i64 w.f.dead, encIs w.r, .int .i64 w.more]

def wayE (n : Net) (s : Sched) (f : Flow) (r : List Int) : Int :=
  if netE n ≠ 0 ∨ formB s = false ∨ flowE n.nodes f ≠ 0 then 1
  else if s.len % f.period ≠ 0 then 11
  else routeE n f.src f.dst r

/-- the cells of a flow on a link -/
def offL (id a b : Int) (c : Cell) : Bool := (c.flow != id) || (c.src != a) || (c.dst != b)
def cellsL (s : Sched) (f : Flow) (a b : Int) : List Cell := s.cells.filter fun c => !offL f.id a b c

/-- the slots of some cells, so many slots long, each cell once -/
def allS (cs : List Cell) (len a : Int) : Nat → List Int
  | 0 => []
  | d + 1 => allS cs len a d ++ ((cs.filter fun c => c.slot == (a + d) % len).map fun _ => a + (d : Int))
/-- .. and in the last slot only those of the first cells -/
def partS (cs : List Cell) (len a : Int) (d j : Nat) : List Int := allS cs len a d ++ (((cs.take j).filter fun c => c.slot == (a + d) % len).map fun _ => a + (d : Int))
theorem partS_zero (cs : List Cell) (len a : Int) (d : Nat) : partS cs len a d 0 = allS cs len a d := by simp [partS]
theorem partS_all (cs : List Cell) (len a : Int) (d : Nat) : partS cs len a d cs.length = allS cs len a (d + 1) := by simp [partS, allS]
theorem partS_hit {cs : List Cell} {len a : Int} {d j : Nat} {c : Cell} (h : cs[j]? = some c) (hm : c.slot = (a + d) % len) : partS cs len a d (j + 1) = partS cs len a d j ++ [a + (d : Int)] := by
  unfold partS
  rw [take_succ h, List.filter_append, List.map_append, List.append_assoc]
  simp [hm]
theorem partS_miss {cs : List Cell} {len a : Int} {d j : Nat} {c : Cell} (h : cs[j]? = some c) (hm : c.slot ≠ (a + d) % len) : partS cs len a d (j + 1) = partS cs len a d j := by
  unfold partS
  rw [take_succ h, List.filter_append]
  simp [hm]
theorem allS_mem {cs : List Cell} {len a : Int} : ∀ {d : Nat} {x : Int}, x ∈ allS cs len a d → a ≤ x ∧ x < a + d
  | 0, _, h => by simp [allS] at h
  | d + 1, x, h => by
    simp only [allS, List.mem_append, List.mem_map] at h
    rcases h with h | ⟨_, _, rfl⟩
    · have := allS_mem h; omega
    · omega
theorem allS_prefix (cs : List Cell) (len a : Int) {d e : Nat} (h : d ≤ e) : ∃ t, allS cs len a e = allS cs len a d ++ t := by
  induction e with
  | zero => exact ⟨[], by have : d = 0 := by omega
                          subst this; simp⟩
  | succ e ih =>
    rcases Nat.lt_or_ge d (e + 1) with hlt | hge
    · obtain ⟨t, ht⟩ := ih (by omega)
      exact ⟨t ++ _, by rw [allS, ht, List.append_assoc]⟩
    · have : d = e + 1 := by omega
      subst this; exact ⟨[], by simp⟩
theorem take_prefix {α : Type} {l t : List α} {n : Nat} (h : n ≤ l.length) : (l ++ t).take n = l.take n := by
  rw [List.take_append_of_le_length h]

/-- the slots that count on a link -/
def slotsOn (s : Sched) (f : Flow) (a b : Int) (need : Nat) (at_ stop : Int) : List Int := (allS (cellsL s f a b) s.len at_ (stop - at_).toNat).take need
/-- from where the next link goes on -/
def nextA (at_ : Int) (l : List Int) : Int := match l.getLast? with
  | some x => x + 1
  | none => at_

def linkAt (n : Net) (r : List Int) (i : Nat) : Link := (n.links[(findL n (r.getD i 0) (r.getD (i + 1) 0)).toNat]?).getD ⟨0, 0, 0⟩
def needAt (n : Net) (r : List Int) (more : Int) (i : Nat) : Nat := ((linkAt n r i).loss + 1 + more).toNat
/-- the slots that count on the first links -/
def slotsUp (n : Net) (s : Sched) (f : Flow) (r : List Int) (rel more : Int) : Nat → Option (List Int × Int)
  | 0 => some ([], rel)
  | k + 1 => match slotsUp n s f r rel more k with
    | none => none
    | some (o, a) =>
      let h := slotsOn s f (r.getD k 0) (r.getD (k + 1) 0) (needAt n r more k) a (rel + f.period)
      if h.length < needAt n r more k then none else some (o ++ h, nextA a h)
def slotsW (n : Net) (s : Sched) (f : Flow) (r : List Int) (rel more : Int) : Option (List Int) := (slotsUp n s f r rel more (r.length - 1)).map (·.1)
def needUp (n : Net) (r : List Int) (more : Int) : Nat → Nat
  | 0 => 0
  | k + 1 => needUp n r more k + needAt n r more k

theorem slotsOn_le (s : Sched) (f : Flow) (a b : Int) (need : Nat) (at_ stop : Int) : (slotsOn s f a b need at_ stop).length ≤ need := by
  unfold slotsOn; rw [List.length_take]; omega
theorem slotsOn_mem {s : Sched} {f : Flow} {a b : Int} {need : Nat} {at_ stop : Int} {x : Int} (h : x ∈ slotsOn s f a b need at_ stop) : at_ ≤ x ∧ x < stop := by
  have := allS_mem (List.mem_of_mem_take h)
  omega
theorem slotsUp_ok {n : Net} {s : Sched} {f : Flow} {r : List Int} {rel more : Int} (hp : 0 ≤ f.period) : ∀ {k : Nat} {o : List Int} {a : Int}, slotsUp n s f r rel more k = some (o, a) → o.length = needUp n r more k ∧ rel ≤ a ∧ a ≤ rel + f.period ∧ ∀ x ∈ o, rel ≤ x ∧ x < rel + f.period
  | 0, o, a, h => by simp [slotsUp] at h; obtain ⟨rfl, rfl⟩ := h; simp [needUp]; omega
  | k + 1, o, a, h => by
    unfold slotsUp at h
    split at h
    · cases h
    · rename_i o' a' h'
      obtain ⟨h1, h2, h3, h4⟩ := slotsUp_ok hp h'
      simp only at h
      split at h
      · cases h
      · rename_i hlen
        injection h with h; injection h with e1 e2
        subst e1; subst e2
        have hle := slotsOn_le s f (r.getD k 0) (r.getD (k + 1) 0) (needAt n r more k) a' (rel + f.period)
        have hm : ∀ x ∈ slotsOn s f (r.getD k 0) (r.getD (k + 1) 0) (needAt n r more k) a' (rel + f.period), a' ≤ x ∧ x < rel + f.period := fun x hx => slotsOn_mem hx
        refine ⟨by rw [List.length_append, h1, needUp]; omega, ?_, ?_, fun x hx => ?_⟩
        · unfold nextA; split
          · rename_i y hy
            have := hm y (List.mem_of_getLast? hy); omega
          · omega
        · unfold nextA; split
          · rename_i y hy
            have := hm y (List.mem_of_getLast? hy); omega
          · omega
        · rcases List.mem_append.1 hx with hx | hx
          · exact h4 x hx
          · have := hm x hx; omega
theorem slotsUp_none {n : Net} {s : Sched} {f : Flow} {r : List Int} {rel more : Int} {k : Nat} (h : slotsUp n s f r rel more k = none) : ∀ {m : Nat}, k ≤ m → slotsUp n s f r rel more m = none
  | 0, hm => by have : k = 0 := by omega
                subst this; exact h
  | m + 1, hm => by
    rcases Nat.lt_or_ge m k with hlt | hge
    · have : k = m + 1 := by omega
      subst this; exact h
    · unfold slotsUp; rw [slotsUp_none h hge]
theorem needUp_mono {n : Net} {r : List Int} {more : Int} {k m : Nat} (h : k ≤ m) : needUp n r more k ≤ needUp n r more m := by
  induction m with
  | zero => have : k = 0 := by omega
            subst this; exact Nat.le_refl _
  | succ m ih =>
    rcases Nat.lt_or_ge m k with hlt | hge
    · have : k = m + 1 := by omega
      subst this; exact Nat.le_refl _
    · have := ih hge
      rw [needUp]; omega

structure WayOk (n : Net) (s : Sched) (f : Flow) (r : List Int) : Prop where
  net : NetOk n
  form : formB s = true
  flow : 0 ≤ f.id ∧ f.id ≤ 255 ∧ 1 ≤ f.period ∧ f.period ≤ 512 ∧ 0 ≤ f.phase ∧ f.phase < f.period ∧ 1 ≤ f.dead ∧ f.dead ≤ f.period ∧ f.src ≠ f.dst
  per : s.len % f.period = 0
  len : 2 ≤ r.length ∧ r.length ≤ 9
  hop : ∀ i, i + 1 < r.length → goodL n (r.getD i 0) (r.getD (i + 1) 0) = true
  dup : ∀ i, i < r.length → dupAt r i = false
  ends : r.getD 0 0 = f.src ∧ r.getD (r.length - 1) 0 = f.dst
theorem routeF_ok {n : Net} {a b : Int} {r : List Int} (h : routeF n a b r = 0) : (2 ≤ r.length ∧ r.length ≤ 9) ∧ (∀ i, i + 1 < r.length → goodL n (r.getD i 0) (r.getD (i + 1) 0) = true) ∧ (∀ i, i < r.length → dupAt r i = false) ∧ (r.getD 0 0 = a ∧ r.getD (r.length - 1) 0 = b) ∧ ∀ x ∈ r, insB x n.nodes = true := by
  unfold routeF at h
  split at h
  · cases h
  split at h
  · cases h
  split at h
  · cases h
  split at h
  · cases h
  split at h
  · cases h
  split at h
  · rename_i h1 h2 h3 h4 h5 h6
    refine ⟨by omega, fun i hi => ?_, fun i hi => ?_, by simpa using h4, fun x hx => ?_⟩
    · exact List.all_eq_true.1 h6 i (by simp; omega)
    · simp only [Bool.not_eq_true, List.any_eq_false] at h5
      simpa using h5 i (by simpa using hi)
    · simp only [Bool.not_eq_true, List.any_eq_false] at h3
      simpa using h3 x hx
  · cases h
theorem wayE_ok {n : Net} {s : Sched} {f : Flow} {r : List Int} (h : wayE n s f r = 0) : WayOk n s f r := by
  unfold wayE at h
  split at h
  · cases h
  split at h
  · cases h
  rename_i h1 h2
  simp only [not_or, ne_eq, Decidable.not_not, Bool.not_eq_false] at h1 h2
  have hf := flowE_ok h1.2.2
  unfold routeE at h
  split at h
  · contradiction
  obtain ⟨g1, g2, g3, g4, _⟩ := routeF_ok h
  exact ⟨netE_ok h1.1, h1.2.1, by omega, h2, g1, g2, g3, g4⟩
theorem WayOk.at {n : Net} {s : Sched} {f : Flow} {r : List Int} (h : WayOk n s f r) {i : Nat} (hi : i + 1 < r.length) : ∃ (k : Nat) (l : Link), findL n (r.getD i 0) (r.getD (i + 1) 0) = k ∧ n.links[k]? = some l ∧ l.src = r.getD i 0 ∧ l.dst = r.getD (i + 1) 0 ∧ 0 ≤ l.loss ∧ l.loss ≤ 7 ∧ linkAt n r i = l := by
  have hg := h.hop i hi
  unfold goodL at hg
  simp only [Bool.and_eq_true, decide_eq_true_eq] at hg
  obtain ⟨k, l, e1, e2, e3, e4⟩ := findL_at hg.1.1.1
  have hb := linkR_bd (h.net.link k l e2).1
  refine ⟨k, l, e1, e2, e3, e4, by omega, by omega, ?_⟩
  unfold linkAt
  rw [e1, Int.toNat_natCast, e2]; rfl
theorem WayOk.need {n : Net} {s : Sched} {f : Flow} {r : List Int} (h : WayOk n s f r) {more : Int} (h0 : 0 ≤ more) (h1 : more ≤ 8) : ∀ {k : Nat}, k ≤ r.length - 1 → needUp n r more k ≤ 16 * k
  | 0, _ => by simp [needUp]
  | k + 1, hk => by
    have := h.need h0 h1 (k := k) (by omega)
    obtain ⟨_, l, _, _, _, _, g1, g2, g3⟩ := h.at (i := k) (by omega)
    have : needAt n r more k ≤ 16 := by unfold needAt; rw [g3]; omega
    rw [needUp]; omega

/-- the latency of a release, and its slots; none if it has none -/
def relR (n : Net) (s : Sched) (f : Flow) (r : List Int) (more rel : Int) : Option (Int × List Int) :=
  (slotsW n s f r rel more).map fun l => (l.getLastD 0 - rel + 1, l.map (· - rel))
/-- the bound: over the releases of a schedule -/
structure Bnd where
  b : Int
  w : Int
  l : List Int
def boundUp (n : Net) (s : Sched) (f : Flow) (r : List Int) (more : Int) : Nat → Option Bnd
  | 0 => some ⟨0, 0, []⟩
  | k + 1 => match boundUp n s f r more k, relR n s f r more (f.phase + k * f.period) with
    | some x, some (b, l) => if b > x.b then some ⟨b, f.phase + k * f.period, l⟩ else some x
    | _, _ => none
/-- how many releases there are in a schedule -/
def relsN (s : Sched) (f : Flow) : Nat := ((s.len - f.phase + f.period - 1) / f.period).toNat
def boundR (n : Net) (s : Sched) (f : Flow) (r : List Int) (more : Int) : Option Bnd := boundUp n s f r more (relsN s f)

theorem relsN_lt {s : Sched} {f : Flow} (hp : 1 ≤ f.period) {k : Nat} : k < relsN s f ↔ f.phase + k * f.period < s.len := by
  unfold relsN
  have h0 : 0 < f.period := by omega
  constructor
  · intro h
    have h1 : (k : Int) + 1 ≤ (s.len - f.phase + f.period - 1) / f.period := by omega
    have h2 := Int.mul_le_of_le_ediv h0 h1
    rw [Int.add_mul] at h2
    omega
  · intro h
    have h1 : ((k : Int) + 1) ≤ (s.len - f.phase + f.period - 1) / f.period := by
      apply Int.le_ediv_of_mul_le h0
      rw [Int.add_mul]; omega
    omega
end HM

/- The slots of a link, found cell by cell. -/
namespace HM
open Go Go.RowKit

def hS (s : Sched) (f : Flow) (a b at_ : Int) (need d j : Nat) : List Int :=
  (allS (cellsL s f a b) s.len at_ d ++ ((((s.cells.take j).filter fun c => !offL f.id a b c).filter fun c => c.slot == (at_ + d) % s.len).map fun _ => at_ + (d : Int))).take need
end HM

/- Bounds, least bounds and slack in plain words. -/
namespace HM
open Go Go.RowKit

def bndAV : Option Bnd → AV
  | none => .tup [.int .i64 0, .int .i64 0, .sl false [], .bool false]
  | some x => .tup [.int .i64 x.b, .int .i64 x.w, encIs x.l, .bool true]
theorem boundUp_none {n : Net} {s : Sched} {f : Flow} {r : List Int} {more : Int} {k : Nat} (h : boundUp n s f r more k = none) : ∀ {m : Nat}, k ≤ m → boundUp n s f r more m = none
  | 0, hm => by have : k = 0 := by omega
                subst this; exact h
  | m + 1, hm => by
    rcases Nat.lt_or_ge m k with hlt | hge
    · have : k = m + 1 := by omega
      subst this; exact h
    · unfold boundUp; rw [boundUp_none h hge]
theorem boundUp_some {n : Net} {s : Sched} {f : Flow} {r : List Int} {more : Int} {k : Nat} {x : Bnd} {b : Int} {l : List Int} (h : boundUp n s f r more k = some x) (hr : relR n s f r more (f.phase + k * f.period) = some (b, l)) :
    boundUp n s f r more (k + 1) = some (if b > x.b then ⟨b, f.phase + k * f.period, l⟩ else x) := by
  simp only [boundUp, h, hr]
  split <;> rfl
theorem boundUp_stop {n : Net} {s : Sched} {f : Flow} {r : List Int} {more : Int} {k : Nat} (hr : relR n s f r more (f.phase + k * f.period) = none) :
    boundUp n s f r more (k + 1) = none := by
  simp only [boundUp, hr]
  cases boundUp n s f r more k <;> rfl

def routeM (n : Net) (s : Sched) (f : Flow) (r : List Int) : Int × Int × List Int × Int :=
  if wayE n s f r ≠ 0 then (0, 0, [], wayE n s f r)
  else match boundR n s f r 0 with
    | none => (0, 0, [], 15)
    | some x => (x.b, x.w, x.l, 0)
theorem wayE_net {n : Net} {s : Sched} {f : Flow} {r : List Int} (h : wayE n s f r = 0) : netE n = 0 := by
  unfold wayE at h
  split at h
  · cases h
  · rename_i hh
    simp only [not_or, ne_eq, Decidable.not_not] at hh
    exact hh.1
end HM

/- Arguments as networks, flows, routes. -/
namespace HM
open Go Go.RowKit

def tLink : Ty := .st [tI, tI, tI]
def tRows : Ty := .sl (.sl tI)
def tNet : Ty := .st [tI, .sl (.sl tI), tI, tI, .sl tLink, .sl tI]
def tFlow : Ty := .st [tI, tI, tI, tI, tI, tI]

theorem list_ofP {α : Type} {d : Ty} {f : α → AV} {Q : α → Prop} (h : ∀ l, d.sh l → ∃ x, d.mk l = f x ∧ Q x) : ∀ els : List (List AV), (∀ c ∈ els, d.sh c ∧ c.length = d.n) → ∃ xs : List α, els.map d.mk = xs.map f ∧ xs.length = els.length ∧ ∀ x ∈ xs, Q x
  | [], _ => ⟨[], rfl, rfl, by simp⟩
  | c :: els, hc => by
    obtain ⟨x, hx, hq⟩ := h c (hc c (by simp)).1
    obtain ⟨xs, h1, h2, h3⟩ := list_ofP h els (fun c hm => hc c (by simp [hm]))
    exact ⟨x :: xs, by simp [hx, h1], by simp [h2], by simpa using ⟨hq, h3⟩⟩
theorem sh_link {l : List AV} (h : tLink.sh l) : ∃ c : Link, l = [.int .i64 c.src, .int .i64 c.dst, .int .i64 c.loss] := by
  obtain ⟨_, _, rfl, _, h1, _, _, rfl, _, h2, _, _, rfl, _, h3, h6⟩ := h
  obtain ⟨a, rfl, _⟩ := sh_int h1
  obtain ⟨b, rfl, _⟩ := sh_int h2
  obtain ⟨c, rfl, _⟩ := sh_int h3
  obtain rfl := h6
  exact ⟨⟨a, b, c⟩, rfl⟩
theorem sh_links {l : List AV} (h : (Ty.sl tLink).sh l) : ∃ cs : List Link, l = [encLinks cs] ∧ cs.length ≤ 140737488355328 := by
  obtain ⟨els, rfl, h1, h2⟩ := h
  obtain ⟨cs, h3, h4⟩ := list_of (f := Link.av) (fun l hl => by
    obtain ⟨c, rfl⟩ := sh_link hl
    exact ⟨c, rfl⟩) els h1
  exact ⟨cs, by rw [h3]; rfl, by omega⟩
theorem sh_rows {l : List AV} (h : tRows.sh l) : ∃ cs : List (List Int), l = [encRows cs] ∧ cs.length ≤ 140737488355328 ∧ ∀ r ∈ cs, r.length ≤ 140737488355328 := by
  obtain ⟨els, rfl, h1, h2⟩ := h
  obtain ⟨cs, h3, h4, h5⟩ := list_ofP (f := encIs) (Q := fun r : List Int => r.length ≤ 140737488355328) (fun l hl => by
    obtain ⟨c, rfl, hc⟩ := sh_ints hl
    exact ⟨c, rfl, hc⟩) els h1
  exact ⟨cs, by rw [h3]; rfl, by omega, h5⟩
theorem sh_flow {l : List AV} (h : tFlow.sh l) : ∃ c : Flow, l = [.int .i64 c.id, .int .i64 c.src, .int .i64 c.dst, .int .i64 c.period, .int .i64 c.phase, .int .i64 c.dead] := by
  obtain ⟨_, _, rfl, _, h1, _, _, rfl, _, h2, _, _, rfl, _, h3, _, _, rfl, _, h4, _, _, rfl, _, h5, _, _, rfl, _, h5', h6⟩ := h
  obtain ⟨a, rfl, _⟩ := sh_int h1
  obtain ⟨b, rfl, _⟩ := sh_int h2
  obtain ⟨c, rfl, _⟩ := sh_int h3
  obtain ⟨d, rfl, _⟩ := sh_int h4
  obtain ⟨e, rfl, _⟩ := sh_int h5
  obtain ⟨f, rfl, _⟩ := sh_int h5'
  obtain rfl := h6
  exact ⟨⟨a, b, c, d, e, f⟩, rfl⟩
theorem sh_net {l : List AV} (h : tNet.sh l) : ∃ n : Net, l = n.cs ∧ n.power.length ≤ 140737488355328 ∧ (∀ r ∈ n.power, r.length ≤ 140737488355328) ∧ n.links.length ≤ 140737488355328 ∧ n.margin.length ≤ 140737488355328 := by
  obtain ⟨_, _, rfl, _, h1, _, _, rfl, _, h2, _, _, rfl, _, h3, _, _, rfl, _, h4, _, _, rfl, _, h5, _, _, rfl, _, h5', h6⟩ := h
  obtain ⟨a, rfl, _⟩ := sh_int h1
  obtain ⟨b, rfl, b1, b2⟩ := sh_rows h2
  obtain ⟨c, rfl, _⟩ := sh_int h3
  obtain ⟨d, rfl, _⟩ := sh_int h4
  obtain ⟨e, rfl, e1⟩ := sh_links h5
  obtain ⟨f, rfl, f1⟩ := sh_ints h5'
  obtain rfl := h6
  exact ⟨⟨a, b, c, d, e, f⟩, rfl, b1, b2, e1, f1⟩
/-- the cells of a schedule are few enough -/
theorem sh_sched' {l : List AV} (h : tSched.sh l) : ∃ s : Sched, l = [.int .i64 s.len, .int .i64 s.offs, encCells s.cells] ∧ s.cells.length ≤ 140737488355328 := by
  obtain ⟨_, _, rfl, _, h1, _, _, rfl, _, h2, _, _, rfl, _, h3, h6⟩ := h
  obtain ⟨a, rfl, _⟩ := sh_int h1
  obtain ⟨b, rfl, _⟩ := sh_int h2
  obtain ⟨c, rfl, hc⟩ := sh_cells h3
  obtain rfl := h6
  exact ⟨⟨a, b, c⟩, rfl, hc⟩
end HM

/- Scripts of outcomes. -/
namespace HM
open Go Go.RowKit

structure Rule where
  flow : Int
  src : Int
  dst : Int
  frame : Int
  outs : List Int
  deriving DecidableEq
def Rule.av (r : Rule) : AV := .agg [.int .i64 r.flow, .int .i64 r.src, .int .i64 r.dst, .int .i64 r.frame, encIs r.outs]
def Rule.key (r : Rule) : List Int := [r.flow, r.frame, r.src, r.dst]
def Rule.cmp (a b : Rule) : Int := cmpL a.key b.key
/-- a rule that is in range -/
structure RuleOk (r : Rule) : Prop where
  flow : 0 ≤ r.flow ∧ r.flow ≤ 255
  frame : 0 ≤ r.frame ∧ r.frame ≤ 1048576
  src : 0 ≤ r.src ∧ r.src ≤ 31
  dst : 0 ≤ r.dst ∧ r.dst ≤ 31
  len : 1 ≤ r.outs.length ∧ r.outs.length ≤ 16
  outs : ∀ o ∈ r.outs, 1 ≤ o ∧ o ≤ 3
end HM

/- Arguments as scripts and lists of flows. -/
namespace HM
open Go Go.RowKit

theorem len1 {α : Type} {l : List α} (h : l.length = 1) : ∃ a, l = [a] := List.length_eq_one_iff.1 h
theorem len2 {α : Type} {l : List α} (h : l.length = 2) : ∃ a b, l = [a, b] := by
  obtain ⟨a, l1, rfl⟩ := List.exists_cons_of_length_eq_add_one h
  obtain ⟨b, rfl⟩ := len1 (l := l1) (by simpa using h)
  exact ⟨a, b, rfl⟩
theorem len3 {α : Type} {l : List α} (h : l.length = 3) : ∃ a b c, l = [a, b, c] := by
  obtain ⟨a, l1, rfl⟩ := List.exists_cons_of_length_eq_add_one h
  obtain ⟨b, c, rfl⟩ := len2 (l := l1) (by simpa using h)
  exact ⟨a, b, c, rfl⟩
end HM

/- Requests, and how many cells they need. -/
namespace HM
open Go Go.RowKit

structure Req where
  flow : Flow
  routes : List (List Int)
def Req.cs (x : Req) : List AV := [.int .i64 x.flow.id, .int .i64 x.flow.src, .int .i64 x.flow.dst, .int .i64 x.flow.period, .int .i64 x.flow.phase, .int .i64 x.flow.dead, encRows x.routes]
def Req.av (x : Req) : AV := .agg [.int .i64 x.flow.id, .int .i64 x.flow.src, .int .i64 x.flow.dst, .int .i64 x.flow.period, .int .i64 x.flow.phase, .int .i64 x.flow.dead, encRows x.routes]
def encReqs (l : List Req) : AV := .sl false (l.map Req.av)
def flowsQ (q : List Req) : List Flow := q.map Req.flow

-- whether requests are right
def routesAt (n : Net) (x : Req) (k : Nat) : Int := match x.routes[k]? with
  | some r => routeE n x.flow.src x.flow.dst r
  | none => 0
def twoSame : List (List Int) → Bool
  | [a, b] => decide (a = b)
  | _ => false
def routesE (n : Net) (x : Req) : Int :=
  if x.routes.length = 0 then 14 else if 2 < x.routes.length then 8
  else if (firstAt (routesAt n x) x.routes.length).2 ≠ 0 then (firstAt (routesAt n x) x.routes.length).2
  else if twoSame x.routes = true then 6 else 0
def reqAt (n : Net) (q : List Req) (k : Nat) : Int := match q[k]? with
  | some x => routesE n x
  | none => 0
def reqE (n : Net) (q : List Req) : Int × Int :=
  if netE n ≠ 0 then (-1, 1) else if (flowsE n.nodes (flowsQ q)).2 ≠ 0 then flowsE n.nodes (flowsQ q) else firstAt (reqAt n q) q.length

theorem firstAt_lo {f : Nat → Int} {n : Nat} (h : (firstAt f n).2 ≠ 0) : 0 ≤ (firstAt f n).1 := by
  unfold firstAt at h ⊢
  split
  · simp
  · rename_i hh; rw [hh] at h; exact absurd rfl h
theorem reqE_zero {n : Net} {q : List Req} (h : (reqE n q).2 = 0) : reqE n q = (-1, 0) := by
  unfold reqE at h ⊢
  split
  · rename_i h1; rw [if_pos h1] at h; cases h
  rename_i h1
  rw [if_neg h1] at h
  split
  · rename_i h2; rw [if_pos h2] at h; exact absurd h h2
  rename_i h2
  rw [if_neg h2] at h
  exact firstAt_zero (firstAt_ok.1 h)
theorem reqE_lo (n : Net) (q : List Req) (h0 : netE n = 0) (h : (reqE n q).2 = 1) : 0 ≤ (reqE n q).1 := by
  unfold reqE at h ⊢
  rw [if_neg (by omega)] at h ⊢
  split
  · rename_i h2
    rw [if_pos h2] at h
    unfold flowsE at h h2 ⊢
    split
    · rename_i h3; rw [if_pos h3] at h; cases h
    rename_i h3
    rw [if_neg h3] at h h2
    split
    · rename_i h4; rw [if_pos h4] at h; cases h
    rename_i h4
    rw [if_neg h4] at h h2
    exact firstAt_lo h2
  · rename_i h2
    rw [if_neg h2] at h
    exact firstAt_lo (by omega)
structure ReqOk (n : Net) (x : Req) : Prop where
  flow : flowE n.nodes x.flow = 0
  len : 1 ≤ x.routes.length ∧ x.routes.length ≤ 2
  route : ∀ r ∈ x.routes, routeF n x.flow.src x.flow.dst r = 0
  two : twoSame x.routes = false
theorem reqE_ok {n : Net} {q : List Req} (h : (reqE n q).2 = 0) : NetOk n ∧ q.length ≤ 16 ∧ (∀ x ∈ q, ReqOk n x) ∧ (flowsE n.nodes (flowsQ q)).2 = 0 := by
  unfold reqE at h
  split at h
  · cases h
  rename_i h0
  split at h
  · rename_i h1; exact absurd h h1
  rename_i h1
  have h1 : (flowsE n.nodes (flowsQ q)).2 = 0 := by omega
  have hok := netE_ok (by omega : netE n = 0)
  have hfl := h1
  unfold flowsE at hfl
  rw [if_neg (by have := hok.nodes; omega)] at hfl
  split at hfl
  · cases hfl
  rename_i h16
  refine ⟨hok, by simp [flowsQ] at h16; omega, fun x hx => ?_, h1⟩
  obtain ⟨k, hk⟩ := List.getElem?_of_mem hx
  have hkl := (List.getElem?_eq_some_iff.1 hk).1
  have h2 := firstAt_ok.1 h k hkl
  have h3 := firstAt_ok.1 hfl k (by simpa [flowsQ] using hkl)
  have hkf : (flowsQ q)[k]? = some x.flow := by simp [flowsQ, hk]
  unfold flowAt at h3
  rw [hkf] at h3
  simp only at h3
  have hfx : flowE n.nodes x.flow = 0 := by
    split at h3
    · rename_i hh; exact absurd h3 hh
    · omega
  unfold reqAt at h2
  rw [hk] at h2
  simp only [routesE] at h2
  split at h2
  · cases h2
  split at h2
  · cases h2
  split at h2
  · rename_i hh; exact absurd h2 hh
  rename_i hr
  split at h2
  · cases h2
  rename_i ht
  refine ⟨hfx, by omega, fun r hr2 => ?_, by simpa using ht⟩
  obtain ⟨j, hj⟩ := List.getElem?_of_mem hr2
  have h4 := firstAt_ok.1 (by omega : (firstAt (routesAt n x) x.routes.length).2 = 0) j (List.getElem?_eq_some_iff.1 hj).1
  unfold routesAt at h4
  rw [hj] at h4
  simp only [routeE] at h4
  split at h4
  · rename_i hh; exact absurd h4 hh
  · exact h4

-- the links of requests
def usesR (r : List Int) (a b : Int) : Bool := (List.range (r.length - 1)).any fun i => r.getD i 0 == a && r.getD (i + 1) 0 == b
def usesQ (x : Req) (a b : Int) : Bool := x.routes.any fun r => usesR r a b
def lnkAt (n : Net) (a b : Int) : Link := n.links.getD (findL n a b).toNat ⟨0, 0, 0⟩
/-- the links of a route, the first so many -/
def linksR (n : Net) (r : List Int) (k : Nat) : List Link := (List.range k).map fun i => lnkAt n (r.getD i 0) (r.getD (i + 1) 0)
def linksF (n : Net) (l : List (List Int)) : List Link := l.flatMap fun r => linksR n r (r.length - 1)
def linksQ (n : Net) (x : Req) : List Link := n.links.filter fun l => usesQ x l.src l.dst
theorem lnkAt_self {n : Net} (h : NetOk n) {l : Link} (hl : l ∈ n.links) : lnkAt n l.src l.dst = l := by
  obtain ⟨i, hi⟩ := List.getElem?_of_mem hl
  unfold lnkAt
  rw [link_find h hi, Int.toNat_natCast, List.getD_eq_getElem?_getD, hi]; rfl
theorem lnkAt_mem {n : Net} {a b : Int} (h : 0 ≤ findL n a b) : lnkAt n a b ∈ n.links ∧ (lnkAt n a b).src = a ∧ (lnkAt n a b).dst = b := by
  obtain ⟨k, l, e1, e2, e3, e4⟩ := findL_at h
  unfold lnkAt
  rw [e1, Int.toNat_natCast, List.getD_eq_getElem?_getD, e2]
  exact ⟨List.mem_of_getElem? e2, e3, e4⟩
theorem good_find {n : Net} {a b : Int} (h : goodL n a b = true) : 0 ≤ findL n a b := by
  rcases Int.lt_or_le (findL n a b) 0 with hh | hh
  · unfold goodL at h
    simp at h
    omega
  · exact hh
theorem links_mem {n : Net} (h : NetOk n) {x : Req} (hx : ReqOk n x) (l : Link) : l ∈ linksF n x.routes ↔ l ∈ linksQ n x := by
  unfold linksF linksQ linksR usesQ usesR
  simp only [List.mem_flatMap, List.mem_map, List.mem_range, List.mem_filter, List.any_eq_true, Bool.and_eq_true, beq_iff_eq]
  constructor
  · rintro ⟨r, hr, i, hi, rfl⟩
    have hg := (routeF_ok (hx.route r hr)).2.1 i (by omega)
    obtain ⟨h1, h2, h3⟩ := lnkAt_mem (good_find hg)
    exact ⟨h1, r, hr, i, hi, h2.symm, h3.symm⟩
  · rintro ⟨hl, r, hr, i, hi, e1, e2⟩
    exact ⟨r, hr, i, hi, by rw [e1, e2]; exact lnkAt_self h hl⟩
theorem linksQ_sorted {n : Net} (h : NetOk n) (x : Req) : (linksQ n x).Pairwise fun a b => a.cmp b < 0 := by
  have h1 : n.links.Pairwise fun a b => a.cmp b < 0 := List.pairwise_iff_getElem.2 fun i j hi hj hij => h.sorted i j _ _ hij (List.getElem?_eq_getElem hi) (List.getElem?_eq_getElem hj)
  exact h1.filter _
-- one of each
def pushN {α : Type} [DecidableEq α] (acc : List α) (x : α) : List α := if acc.getLast? = some x then acc else acc ++ [x]
def compact {α : Type} [DecidableEq α] (l : List α) : List α := l.foldl pushN []
theorem compact_snoc {α : Type} [DecidableEq α] (l : List α) (x : α) : compact (l ++ [x]) = pushN (compact l) x := by simp [compact]
theorem compact_mem {α : Type} [DecidableEq α] {l : List α} {x : α} : x ∈ compact l ↔ x ∈ l := by
  suffices ∀ (l acc : List α), x ∈ l.foldl pushN acc ↔ x ∈ acc ∨ x ∈ l by simpa [compact] using this l []
  intro l
  induction l with
  | nil => intro acc; simp
  | cons y l ih =>
    intro acc
    rw [List.foldl_cons, ih]
    unfold pushN
    split
    · rename_i h
      have hy := List.mem_of_getLast? h
      constructor
      · rintro (h1 | h1)
        · exact .inl h1
        · exact .inr (by simp [h1])
      · rintro (h1 | h1)
        · exact .inl h1
        · rcases List.mem_cons.1 h1 with rfl | h1
          · exact .inl hy
          · exact .inr h1
    · simp only [List.mem_append, List.mem_cons, List.not_mem_nil, or_false]
      constructor
      · rintro ((h1 | h1) | h1)
        · exact .inl h1
        · exact .inr (.inl h1)
        · exact .inr (.inr h1)
      · rintro (h1 | h1 | h1)
        · exact .inl (.inl h1)
        · exact .inl (.inr h1)
        · exact .inr h1
theorem compact_strict {α : Type} [DecidableEq α] {lt : α → α → Prop} (tr : ∀ {a b c}, lt a b → lt b c → lt a c) {l : List α} (hs : l.Pairwise fun a b => ¬ lt b a) (conn : ∀ a b, a ∈ l → b ∈ l → ¬ lt b a → a ≠ b → lt a b) : (compact l).Pairwise lt := by
  suffices ∀ (k : Nat), k ≤ l.length → (compact (l.take k)).Pairwise lt by simpa using this l.length (Nat.le_refl _)
  intro k
  induction k with
  | zero => intro _; simp [compact]
  | succ k ih =>
    intro hk
    obtain ⟨x, hx⟩ : ∃ x, l[k]? = some x := ⟨_, List.getElem?_eq_getElem (by omega)⟩
    have h1 := ih (by omega)
    rw [take_succ hx, compact_snoc]
    unfold pushN
    split
    · exact h1
    · rename_i hne
      have hxl := List.mem_of_getElem? hx
      have hle : ∀ y ∈ compact (l.take k), ¬ lt x y := fun y hy => by
        have hy := compact_mem.1 hy
        obtain ⟨j, hj⟩ := List.getElem?_of_mem hy
        have hjk := (List.getElem?_eq_some_iff.1 hj).1
        rw [List.length_take] at hjk
        rw [List.getElem?_take_of_lt (by omega)] at hj
        obtain ⟨p1, p2⟩ := List.getElem?_eq_some_iff.1 hj
        obtain ⟨p3, p4⟩ := List.getElem?_eq_some_iff.1 hx
        have := List.pairwise_iff_getElem.1 hs j k p1 p3 (by omega)
        rwa [p2, p4] at this
      refine List.pairwise_append.2 ⟨h1, by simp, fun y hy z hz => ?_⟩
      simp at hz; subst hz
      cases hlast : (compact (l.take k)).getLast? with
      | none => rw [List.getLast?_eq_none_iff] at hlast; rw [hlast] at hy; cases hy
      | some w =>
        have hwm := List.mem_of_getLast? hlast
        have hwl : w ∈ l := List.mem_of_mem_take (compact_mem.1 hwm)
        have hwz : lt w z := conn w z hwl hxl (hle w hwm) (fun e => hne (by rw [hlast, e]))
        obtain ⟨pre, hpre⟩ := List.getLast?_eq_some_iff.1 hlast
        rw [hpre] at hy h1
        rcases List.mem_append.1 hy with hy | hy
        · exact tr ((List.pairwise_append.1 h1).2.2 y hy w (by simp)) hwz
        · simp at hy; subst hy; exact hwz
/-- the links of a request: what is left of the sorted ones is one of each -/
theorem links_eq {n : Net} (h : NetOk n) {x : Req} (hx : ReqOk n x) {ds : List Link} (hp : ds.Perm (linksF n x.routes)) (hs : ds.Pairwise fun a b => ¬ b.cmp a < 0) : compact ds = linksQ n x := by
  have hm : ∀ l, l ∈ ds ↔ l ∈ linksQ n x := fun l => by rw [hp.mem_iff, links_mem h hx]
  refine strict_ext (lt := fun a b : Link => a.cmp b < 0) (fun a => ?_) (fun a b h1 h2 => ?_) (compact_strict (lt := fun a b : Link => a.cmp b < 0) (fun h1 h2 => cmpL_trans h1 h2) hs fun a b ha hb h1 hne => ?_) (linksQ_sorted h x) fun l => by rw [compact_mem, hm]
  · unfold Link.cmp; rw [cmpL_eq.2 rfl]; decide
  · have := cmpL_trans h1 h2
    rw [cmpL_eq.2 rfl] at this; exact absurd this (by decide)
  · rcases Int.lt_trichotomy (a.cmp b) 0 with h2 | h2 | h2
    · exact h2
    · have hk := cmpL_eq.1 h2
      have hal : a ∈ n.links := (List.mem_filter.1 ((hm a).1 ha)).1
      have hbl : b ∈ n.links := (List.mem_filter.1 ((hm b).1 hb)).1
      simp [Link.key] at hk
      exact absurd (by rw [← lnkAt_self h hal, ← lnkAt_self h hbl, hk.1, hk.2]) hne
    · exact absurd (cmpL_anti.2 h2) h1
end HM

/- How many cells requests need: sums; what slices.Compact leaves. -/
namespace HM
open Go Go.RowKit

-- sums
def sumW {α : Type} (f : α → Int) : List α → Int
  | [] => 0
  | x :: l => f x + sumW f l
theorem sumW_app {α : Type} (f : α → Int) (a b : List α) : sumW f (a ++ b) = sumW f a + sumW f b := by
  induction a with
  | nil => simp [sumW]
  | cons x a ih => simp only [List.cons_append, sumW, ih]; omega
theorem sumW_take {α : Type} (f : α → Int) {l : List α} {k : Nat} {x : α} (h : l[k]? = some x) : sumW f (l.take (k + 1)) = sumW f (l.take k) + f x := by rw [take_succ h, sumW_app]; simp [sumW]
theorem sumW_add {α : Type} (f g : α → Int) (l : List α) : sumW (fun x => f x + g x) l = sumW f l + sumW g l := by
  induction l with
  | nil => rfl
  | cons x l ih => simp only [sumW, ih]; omega
theorem sumW_zero {α : Type} (l : List α) : sumW (fun _ => (0 : Int)) l = 0 := by
  induction l with
  | nil => rfl
  | cons x l ih => simp only [sumW, ih]; omega
theorem sumW_swap {α β : Type} (f : α → β → Int) (a : List α) (b : List β) : sumW (fun x => sumW (f x) b) a = sumW (fun y => sumW (fun x => f x y) a) b := by
  induction a with
  | nil => simp only [sumW]; exact (sumW_zero b).symm
  | cons x a ih => simp only [sumW]; rw [ih, ← sumW_add]
theorem sumW_congr {α : Type} {f g : α → Int} {l : List α} (h : ∀ x ∈ l, f x = g x) : sumW f l = sumW g l := by
  induction l with
  | nil => rfl
  | cons x l ih => simp only [sumW, h x (by simp), ih fun y hy => h y (by simp [hy])]
theorem sumW_filter {α : Type} (f : α → Int) (p : α → Bool) (l : List α) : sumW f (l.filter p) = sumW (fun x => if p x then f x else 0) l := by
  induction l with
  | nil => rfl
  | cons x l ih =>
    cases h : p x
    · rw [List.filter_cons_of_neg (by simp [h])]; simp only [sumW, h, ih]; simp
    · rw [List.filter_cons_of_pos h]; simp only [sumW, h, ih]; simp
theorem sumW_bd {α : Type} {f : α → Int} {m : Int} (hm : 0 ≤ m) : ∀ {l : List α}, (∀ x ∈ l, 0 ≤ f x ∧ f x ≤ m) → 0 ≤ sumW f l ∧ sumW f l ≤ l.length * m
  | [], _ => by simp [sumW]
  | x :: l, h => by
    have h1 := h x (by simp)
    have h2 := sumW_bd hm fun y hy => h y (List.mem_cons_of_mem x hy)
    simp only [sumW, List.length_cons]
    have h3 : ((l.length + 1 : Nat) : Int) * m = l.length * m + m := by rw [Int.natCast_add, Int.add_mul]; simp
    omega
theorem sumW_mono {α : Type} {f g : α → Int} : ∀ {l : List α}, (∀ x ∈ l, f x ≤ g x) → sumW f l ≤ sumW g l
  | [], _ => by simp [sumW]
  | x :: l, h => by
    have h1 := h x (by simp)
    have h2 := sumW_mono fun y hy => h y (List.mem_cons_of_mem x hy)
    simp only [sumW]; omega

/-- how many cells a link needs for a request -/
def needC (len : Int) (x : Req) (l : Link) : Int := (l.loss + 1) * len / x.flow.period
def sumX (n : Net) (len : Int) (p : Link → Bool) (x : Req) : Int := sumW (needC len x) ((linksQ n x).filter p)
/-- the program's sum -/
def sumQ (n : Net) (q : List Req) (len : Int) (p : Link → Bool) : Int := sumW (sumX n len p) q
/-- the reference's need of a link -/
def needM (q : List Req) (len : Int) (l : Link) : Int := sumW (fun x => if usesQ x l.src l.dst then needC len x l else 0) q
theorem sumQ_need (n : Net) (q : List Req) (len : Int) (p : Link → Bool) : sumQ n q len p = sumW (needM q len) (n.links.filter p) := by
  unfold sumQ needM
  rw [← sumW_swap]
  refine sumW_congr fun x _ => ?_
  unfold sumX linksQ
  rw [List.filter_filter, sumW_filter, sumW_filter]
  refine sumW_congr fun l _ => ?_
  cases p l <;> cases usesQ x l.src l.dst <;> simp

def mismB (len : Int) (x : Req) : Bool := len % x.flow.period != 0
/-- the error of requests with a length -/
def sizedQ (n : Net) (q : List Req) (len : Int) : Int :=
  if (reqE n q).2 ≠ 0 then 1 else if len < 1 ∨ 512 < len then 2 else if q.any (mismB len) then 11 else 0
structure SzOk (n : Net) (q : List Req) (len : Int) : Prop where
  req : (reqE n q).2 = 0
  l1 : 1 ≤ len
  l2 : len ≤ 512
  mis : ∀ x ∈ q, len % x.flow.period = 0
theorem sizedQ_ok {n : Net} {q : List Req} {len : Int} (h : sizedQ n q len = 0) : SzOk n q len := by
  unfold sizedQ at h
  split at h
  · cases h
  rename_i h1
  split at h
  · cases h
  rename_i h2
  split at h
  · cases h
  rename_i h3
  refine ⟨by omega, by omega, by omega, fun x hx => ?_⟩
  have := List.any_eq_false.1 (by simpa using h3) x hx
  simpa [mismB] using this
theorem SzOk.mk' {n : Net} {q : List Req} {len : Int} (h : SzOk n q len) : sizedQ n q len = 0 := by
  unfold sizedQ
  rw [if_neg (by have := h.req; omega), if_neg (by have := h.l1; have := h.l2; omega), if_neg]
  simp only [List.any_eq_true, not_exists, not_and]
  intro x hx
  simp [mismB, h.mis x hx]
def cellsM (n : Net) (q : List Req) (len : Int) : Int × Int := if sizedQ n q len ≠ 0 then (0, sizedQ n q len) else (sumW (needM q len) n.links, 0)
def atN (a : Int) (l : Link) : Bool := l.src == a || l.dst == a
def nodeM (n : Net) (q : List Req) (len a : Int) : Int × Int := if sizedQ n q len ≠ 0 then (0, sizedQ n q len) else if insB a n.nodes = false then (0, 7) else (sumW (needM q len) (n.links.filter (atN a)), 0)
theorem needC_bd {len : Int} {x : Req} {l : Link} (h1 : 1 ≤ len) (h2 : len ≤ 512) (h3 : 1 ≤ x.flow.period) (h4 : 0 ≤ l.loss) (h5 : l.loss ≤ 255) : 0 ≤ needC len x l ∧ needC len x l ≤ 131072 ∧ 0 ≤ (l.loss + 1) * len ∧ (l.loss + 1) * len ≤ 131072 := by
  have hp : 0 ≤ (l.loss + 1) * len := Int.mul_nonneg (by omega) (by omega)
  have hq : (l.loss + 1) * len ≤ 256 * 512 := Int.mul_le_mul (by omega) h2 (by omega) (by omega)
  have hd : (l.loss + 1) * len / x.flow.period ≤ (l.loss + 1) * len := Int.ediv_le_self _ hp
  refine ⟨Int.ediv_nonneg hp (by omega), ?_, hp, by omega⟩
  unfold needC; omega

-- an element of a slice of a slice
theorem EncOk.ldr2 {α : Type} {enc : α → AV} {sz : Nat} (h : EncOk enc sz) {l : List α} {k j : Nat} {x : α} (ex : List AV) (hk : l[k + j]? = some x) (n m n' : Nat) (hn : n = sz) (hm : m = sz) (hn' : n' = sz) : ((flatE (l.map enc) ++ ex).drop (0 + (k : Int).toNat * n + (j : Int).toNat * m)).take n' = (enc x).cells := by
  subst hn; subst hm; subst hn'
  rw [Nat.zero_add, Int.toNat_natCast, Int.toNat_natCast, ← Nat.add_mul]
  exact h.ld ex hk
theorem EncOk.fit2 {α : Type} {enc : α → AV} {sz : Nat} (h : EncOk enc sz) {l : List α} (ex : List AV) {k j : Nat} (hk : k + j < l.length) : 0 + (k : Int).toNat * sz + (j : Int).toNat * sz + sz ≤ (flatE (l.map enc) ++ ex).length := by
  rw [Nat.zero_add, Int.toNat_natCast, Int.toNat_natCast, ← Nat.add_mul]
  exact h.fit ex hk
theorem EncOk.fit1 {α : Type} {enc : α → AV} {sz : Nat} (h : EncOk enc sz) {l : List α} (ex : List AV) {k : Nat} (hk : k < l.length) : 0 + (k : Int).toNat * sz + sz ≤ (flatE (l.map enc) ++ ex).length := by
  rw [Nat.zero_add, Int.toNat_natCast]
  exact h.fit ex hk
-- what slices.Compact leaves
section
variable {α : Type} [DecidableEq α]
theorem pushN_last (acc : List α) (x : α) : (pushN acc x).getLast? = some x := by
  unfold pushN
  split
  · rename_i h; exact h
  · simp
theorem compact_last {l : List α} {k : Nat} {x : α} (h : l[k]? = some x) : (compact (l.take (k + 1))).getLast? = some x := by
  rw [take_succ h, compact_snoc]; exact pushN_last _ _
theorem compact_eqv {l : List α} {k : Nat} {x y : α} (hx : l[k]? = some x) (hy : l[k + 1]? = some y) (e : y = x) : compact (l.take (k + 2)) = compact (l.take (k + 1)) := by
  rw [take_succ hy, compact_snoc]; unfold pushN; rw [if_pos (by rw [compact_last hx, e])]
theorem compact_new {l : List α} {k : Nat} {x y : α} (hx : l[k]? = some x) (hy : l[k + 1]? = some y) (e : y ≠ x) : compact (l.take (k + 2)) = compact (l.take (k + 1)) ++ [y] := by
  rw [take_succ hy, compact_snoc]; unfold pushN; rw [if_neg (by rw [compact_last hx]; simpa using fun h => e h.symm)]
theorem compact_one {l : List α} {x : α} (hx : l[0]? = some x) : compact (l.take 1) = l.take 1 := by
  rw [take_succ hx]; rfl
theorem compact_short {l : List α} (h : l.length < 2) : compact l = l := by
  match l, h with
  | [], _ => rfl
  | [x], _ => rfl
/-- so many elements of the list are looked at; the first of it are those that stay -/
structure Cpt (l a : List α) (i j : Nat) : Prop where
  len : a.length = l.length
  ij : i + 1 ≤ j
  jl : j ≤ l.length
  pre : a.take i = compact (l.take j)
  post : a.drop (j - 1) = l.drop (j - 1)
theorem Cpt.start {l : List α} {k : Nat} {x y : α} (hx : l[k]? = some x) (hy : l[k + 1]? = some y) (e : y = x) (hc : compact (l.take (k + 1)) = l.take (k + 1)) : Cpt l l (k + 1) (k + 2) :=
  ⟨rfl, by omega, by have := (List.getElem?_eq_some_iff.1 hy).1; omega, by rw [compact_eqv hx hy e, hc], rfl⟩
theorem Cpt.get {l a : List α} {i j m : Nat} (h : Cpt l a i j) (hm : j - 1 ≤ m) : a[m]? = l[m]? := by
  have := congrArg (fun t : List α => t[m - (j - 1)]?) h.post
  simp only [List.getElem?_drop] at this
  rwa [show j - 1 + (m - (j - 1)) = m by omega] at this
theorem Cpt.drop {l a : List α} {i j : Nat} (h : Cpt l a i j) {x y : α} (hx : l[j - 1]? = some x) (hy : l[j]? = some y) (e : y = x) : Cpt l a i (j + 1) := by
  obtain ⟨k, rfl⟩ : ∃ k, j = k + 1 := ⟨j - 1, by have := h.ij; omega⟩
  refine ⟨h.len, by have := h.ij; omega, by have := (List.getElem?_eq_some_iff.1 hy).1; omega, by rw [show k + 1 + 1 = k + 2 from rfl, compact_eqv (k := k) hx hy e]; exact h.pre, ?_⟩
  have := congrArg (List.drop 1) h.post
  simpa [List.drop_drop] using this
theorem Cpt.keep {l a : List α} {i j : Nat} (h : Cpt l a i j) {x y : α} (hx : l[j - 1]? = some x) (hy : l[j]? = some y) (e : y ≠ x) : Cpt l (a.set i y) (i + 1) (j + 1) := by
  obtain ⟨k, rfl⟩ : ∃ k, j = k + 1 := ⟨j - 1, by have := h.ij; omega⟩
  have h1 := h.ij
  have h2 := (List.getElem?_eq_some_iff.1 hy).1
  have h3 := h.len
  refine ⟨by simp [h.len], by omega, by omega, ?_, ?_⟩
  · rw [show k + 1 + 1 = k + 2 from rfl, compact_new (k := k) hx hy e, ← h.pre, List.take_add_one, List.getElem?_set_self (by omega), List.take_set_of_le (by omega)]; rfl
  · have := congrArg (List.drop 1) h.post
    rw [List.drop_drop, List.drop_drop] at this
    show (a.set i y).drop (k + 1) = _
    rw [List.drop_set_of_lt (by omega)]
    simpa using this
theorem Cpt.fin {l a : List α} {i : Nat} (h : Cpt l a i l.length) : a.take i = compact l := by rw [h.pre, List.take_length]
end
theorem linksR_succ (n : Net) (r : List Int) (k : Nat) : linksR n r (k + 1) = linksR n r k ++ [lnkAt n (r.getD k 0) (r.getD (k + 1) 0)] := by
  simp [linksR, List.range_succ]
theorem linksR_len (n : Net) (r : List Int) (k : Nat) : (linksR n r k).length = k := by simp [linksR]
theorem linksF_take {n : Net} {l : List (List Int)} {k : Nat} {r : List Int} (h : l[k]? = some r) : linksF n (l.take (k + 1)) = linksF n (l.take k) ++ linksR n r (r.length - 1) := by
  rw [take_succ h]; simp [linksF]
theorem linksF_len (n : Net) : ∀ {l : List (List Int)}, (∀ r ∈ l, r.length ≤ 9) → (linksF n l).length ≤ l.length * 8
  | [], _ => by simp [linksF]
  | r :: l, h => by
    have h1 := h r (by simp)
    have h2 := linksF_len n (l := l) fun y hy => h y (by simp [hy])
    have e : linksF n (r :: l) = linksR n r (r.length - 1) ++ linksF n l := by simp [linksF]
    rw [e, List.length_append, linksR_len, List.length_cons]
    omega
theorem linksF_pos {n : Net} {l : List (List Int)} (h0 : 1 ≤ l.length) (h : ∀ r ∈ l, 2 ≤ r.length) : linksF n l ≠ [] := by
  match l, h0, h with
  | r :: l, _, h =>
    have h1 := h r (by simp)
    intro e
    have := congrArg List.length e
    have e2 : linksF n (r :: l) = linksR n r (r.length - 1) ++ linksF n l := by simp [linksF]
    rw [e2, List.length_append, linksR_len] at this
    simp at this; omega
theorem lnkAt_get {n : Net} {a b : Int} (h : 0 ≤ findL n a b) : ∃ p : Nat, findL n a b = p ∧ n.links[p]? = some (lnkAt n a b) := by
  obtain ⟨k, l, e1, e2, e3, e4⟩ := findL_at h
  refine ⟨k, e1, ?_⟩
  unfold lnkAt
  rw [e1, Int.toNat_natCast, List.getD_eq_getElem?_getD, e2]; rfl
end HM

/- Reasons: of a node, of a route; two reasons are the same. -/
namespace HM
open Go Go.RowKit
structure Rsn where
  kind : Int
  node : Int
  idx : Int
  route : Int
  links : List Link
  need : Int
  have_ : Int
  deriving DecidableEq
def Rsn.cs (r : Rsn) : List AV := [.int .i64 r.kind, .int .i64 r.node, .int .i64 r.idx, .int .i64 r.route, encLinks r.links, .int .i64 r.need, .int .i64 r.have_]
def Rsn.av (r : Rsn) : AV := .agg [.int .i64 r.kind, .int .i64 r.node, .int .i64 r.idx, .int .i64 r.route, encLinks r.links, .int .i64 r.need, .int .i64 r.have_]
def rsn0 : Rsn := ⟨0, 0, 0, 0, [], 0, 0⟩
def isR (r : Rsn) : Bool := decide (r.have_ < r.need)
/-- a question: a network, requests, a schedule's size -/
def qnCs (n : Net) (q : List Req) (len offs : Int) : List AV := [.int .i64 n.nodes, encRows n.power, .int .i64 n.noise, .int .i64 n.thr, encLinks n.links, encIs n.margin, encReqs q, .int .i64 len, .int .i64 offs]
def qnAv (n : Net) (q : List Req) (len offs : Int) : AV := .agg [.int .i64 n.nodes, encRows n.power, .int .i64 n.noise, .int .i64 n.thr, encLinks n.links, encIs n.margin, encReqs q, .int .i64 len, .int .i64 offs]
def nodeR (n : Net) (q : List Req) (len a : Int) : Rsn := ⟨1, a, 0, 0, [], sumQ n q len (atN a), len⟩
/-- the cost of a route -/
def costR (n : Net) (r : List Int) (k : Nat) : Int := sumW (fun l : Link => l.loss + 1) (linksR n r k)
def windowR (n : Net) (x : Req) (i k : Int) (r : List Int) : Rsn := ⟨2, 0, i, k, [], costR n r (r.length - 1), x.flow.dead⟩
theorem costR_succ (n : Net) (r : List Int) (k : Nat) : costR n r (k + 1) = costR n r k + ((lnkAt n (r.getD k 0) (r.getD (k + 1) 0)).loss + 1) := by
  unfold costR
  rw [linksR_succ, sumW_app]
  simp [sumW]
/-- the first of some things that may be there -/
def firstO {α : Type} (f : Nat → Option α) : Nat → Option α
  | 0 => none
  | k + 1 => match firstO f k with
    | some x => some x
    | none => f k
theorem firstO_none {α : Type} {f : Nat → Option α} : ∀ {k : Nat}, (∀ j, j < k → f j = none) → firstO f k = none
  | 0, _ => rfl
  | k + 1, h => by
    unfold firstO
    rw [firstO_none fun j hj => h j (by omega)]
    exact h k (by omega)
theorem firstO_hit {α : Type} {f : Nat → Option α} {i : Nat} {x : α} (h0 : ∀ j, j < i → f j = none) (hx : f i = some x) : ∀ {k : Nat}, i < k → firstO f k = some x
  | 0, h => by omega
  | k + 1, h => by
    unfold firstO
    rcases Nat.lt_succ_iff_lt_or_eq.1 h with h' | rfl
    · rw [firstO_hit h0 hx h']
    · rw [firstO_none h0, hx]
def asR (r : Rsn) : Option Rsn := if isR r then some r else none
def byNodeM (n : Net) (q : List Req) (len : Int) : Option Rsn := firstO (fun a => asR (nodeR n q len a)) n.nodes.toNat
def winAt (n : Net) (x : Req) (i k : Nat) : Option Rsn := match x.routes[k]? with
  | some r => asR (windowR n x i k r)
  | none => none
def winX (n : Net) (x : Req) (i : Nat) : Option Rsn := firstO (winAt n x i) x.routes.length
def winQ (n : Net) (q : List Req) (i : Nat) : Option Rsn := match q[i]? with
  | some x => winX n x i
  | none => none
def byWindowM (n : Net) (q : List Req) : Option Rsn := firstO (winQ n q) q.length
def optR : Option Rsn → Rsn × Bool
  | some r => (r, true)
  | none => (rsn0, false)
def reasonM (n : Net) (q : List Req) (len offs : Int) (gr : Option Rsn) : Rsn × Bool × Int :=
  if sizedQ n q len ≠ 0 then (rsn0, false, sizedQ n q len) else if offs < 1 ∨ 16 < offs then (rsn0, false, 2)
  else match byNodeM n q len with
    | some r => (r, true, 0)
    | none => match byWindowM n q with
      | some r => (r, true, 0)
      | none => match gr with
        | some r => (r, true, 0)
        | none => (rsn0, false, 0)
theorem reasonM_bad {n : Net} {q : List Req} {len offs : Int} {gr : Option Rsn} (h : sizedQ n q len ≠ 0) : reasonM n q len offs gr = (rsn0, false, sizedQ n q len) := by unfold reasonM; rw [if_pos h]
theorem reasonM_off {n : Net} {q : List Req} {len offs : Int} {gr : Option Rsn} (h : sizedQ n q len = 0) (h2 : offs < 1 ∨ 16 < offs) : reasonM n q len offs gr = (rsn0, false, 2) := by unfold reasonM; rw [if_neg (by simp [h]), if_pos h2]
theorem reasonM_ok {n : Net} {q : List Req} {len offs : Int} {gr : Option Rsn} (h : sizedQ n q len = 0) (h2 : ¬ (offs < 1 ∨ 16 < offs)) : reasonM n q len offs gr = match byNodeM n q len with
    | some r => (r, true, 0)
    | none => match byWindowM n q with
      | some r => (r, true, 0)
      | none => match gr with
        | some r => (r, true, 0)
        | none => (rsn0, false, 0) := by unfold reasonM; rw [if_neg (by simp [h]), if_neg h2]
def groupR (n : Net) (q : List Req) (len offs : Int) (ls : List Link) : Rsn := ⟨3, 0, 0, 0, ls, sumQ n q len (fun m => decide (m ∈ ls)), len * offs⟩
/-- the reason that a claimed one has to be; ab: its links are a group of links of the requests -/
def wantM (n : Net) (q : List Req) (len offs : Int) (r : Rsn) (ab : Bool) : Rsn :=
  if r.kind = 1 ∧ 0 ≤ r.node ∧ r.node < n.nodes then nodeR n q len r.node
  else match (if r.kind = 2 ∧ 0 ≤ r.idx ∧ 0 ≤ r.route then q[r.idx.toNat]?.bind fun x => x.routes[r.route.toNat]?.map fun y => windowR n x r.idx r.route y else none) with
    | some w => w
    | none => if r.kind = 3 ∧ ab = true then groupR n q len offs r.links else rsn0
def verifyM (n : Net) (q : List Req) (len offs : Int) (r : Rsn) (ab : Bool) : Int :=
  if sizedQ n q len ≠ 0 then sizedQ n q len else if offs < 1 ∨ 16 < offs then 2
  else if isR (wantM n q len offs r ab) = true ∧ r = wantM n q len offs r ab then 0 else 20
theorem want_node {n : Net} {q : List Req} {len offs : Int} {r : Rsn} {ab : Bool} (h : r.kind = 1 ∧ 0 ≤ r.node ∧ r.node < n.nodes) : wantM n q len offs r ab = nodeR n q len r.node := by unfold wantM; rw [if_pos h]
theorem want_win {n : Net} {q : List Req} {len offs : Int} {r : Rsn} {ab : Bool} (h : r.kind = 2 ∧ 0 ≤ r.idx ∧ 0 ≤ r.route) {x : Req} (hx : q[r.idx.toNat]? = some x) {y : List Int} (hy : x.routes[r.route.toNat]? = some y) : wantM n q len offs r ab = windowR n x r.idx r.route y := by
  unfold wantM; rw [if_neg (by omega), if_pos h, hx, Option.bind_some, hy]; rfl
theorem want_none {n : Net} {q : List Req} {len offs : Int} {r : Rsn} {ab : Bool} (h1 : ¬ (r.kind = 1 ∧ 0 ≤ r.node ∧ r.node < n.nodes)) (h2 : r.kind = 2 → 0 ≤ r.idx → 0 ≤ r.route → ∀ x, q[r.idx.toNat]? = some x → x.routes[r.route.toNat]? = none) : wantM n q len offs r ab = if r.kind = 3 ∧ ab = true then groupR n q len offs r.links else rsn0 := by
  unfold wantM; rw [if_neg h1]
  split
  · rename_i w hw
    exfalso
    split at hw
    · rename_i hc
      cases hx : q[r.idx.toNat]? with
      | none => rw [hx] at hw; cases hw
      | some x =>
        rw [hx, Option.bind_some, h2 hc.1 hc.2.1 hc.2.2 x hx] at hw; cases hw
    · cases hw
  · rfl
theorem want_zero {n : Net} {q : List Req} {len offs : Int} {r : Rsn} {ab : Bool} (h1 : ¬ (r.kind = 1 ∧ 0 ≤ r.node ∧ r.node < n.nodes)) (h2 : r.kind = 2 → 0 ≤ r.idx → 0 ≤ r.route → ∀ x, q[r.idx.toNat]? = some x → x.routes[r.route.toNat]? = none) (h3 : ¬ (r.kind = 3 ∧ ab = true)) : wantM n q len offs r ab = rsn0 := by rw [want_none h1 h2, if_neg h3]
theorem want_grp {n : Net} {q : List Req} {len offs : Int} {r : Rsn} (h3 : r.kind = 3) : wantM n q len offs r true = groupR n q len offs r.links := by rw [want_none (by omega) (fun h => by omega), if_pos ⟨h3, rfl⟩]
end HM

/- Arguments: requests, reasons. -/
namespace HM
open Go Go.RowKit

def tReq : Ty := .st [tFlow, tRows]
theorem sh_req {l : List AV} (h : tReq.sh l) : ∃ x : Req, l = x.cs ∧ x.routes.length ≤ 140737488355328 ∧ ∀ r ∈ x.routes, r.length ≤ 140737488355328 := by
  obtain ⟨_, _, rfl, _, h1, _, _, rfl, _, h2, h6⟩ := h
  obtain ⟨f, rfl⟩ := sh_flow h1
  obtain ⟨rs, rfl, r1, r2⟩ := sh_rows h2
  obtain rfl := h6
  exact ⟨⟨f, rs⟩, rfl, r1, r2⟩
theorem sh_reqs {l : List AV} (h : (Ty.sl tReq).sh l) : ∃ q : List Req, l = [encReqs q] ∧ q.length ≤ 140737488355328 ∧ ∀ x ∈ q, x.routes.length ≤ 281474976710656 ∧ ∀ r ∈ x.routes, r.length ≤ 281474976710656 := by
  obtain ⟨els, rfl, h1, h2⟩ := h
  obtain ⟨cs, h3, h4, h5⟩ := list_ofP (f := Req.av) (Q := fun x : Req => x.routes.length ≤ 281474976710656 ∧ ∀ r ∈ x.routes, r.length ≤ 281474976710656) (fun l hl => by
    obtain ⟨c, rfl, c1, c2⟩ := sh_req hl
    exact ⟨c, rfl, by omega, fun r hr => by have := c2 r hr; omega⟩) els h1
  exact ⟨cs, by rw [h3]; rfl, by omega, h5⟩
theorem sh3 {d1 d2 d3 : Ty} : ∀ {es : List AV}, shArgs [d1, d2, d3] es → ∃ l1 l2 l3, es = [d1.mk l1, d2.mk l2, d3.mk l3] ∧ d1.sh l1 ∧ d2.sh l2 ∧ d3.sh l3
  | [e1, e2, e3], h => by
    obtain ⟨⟨l1, h1, rfl⟩, ⟨l2, h2, rfl⟩, ⟨l3, h3, rfl⟩, _⟩ := h
    exact ⟨l1, l2, l3, rfl, h1, h2, h3⟩
  | [], h => by simp [shArgs] at h
  | [_], h => by simp [shArgs] at h
  | [_, _], h => by simp [shArgs] at h
  | _ :: _ :: _ :: _ :: _, h => by simp [shArgs] at h
end HM

/- The law on sums. -/
namespace HM
open Go Go.RowKit
theorem SzOk.two {n : Net} {q : List Req} {len : Int} (h : SzOk n q len) (h2 : len ≤ 256) : SzOk n q (2 * len) :=
  ⟨h.req, by have := h.l1; omega, by omega, fun x hx => by
    obtain ⟨k, hk⟩ := Int.dvd_of_emod_eq_zero (h.mis x hx)
    rw [hk, show 2 * (x.flow.period * k) = x.flow.period * (2 * k) by ac_rfl]
    exact Int.mul_emod_right _ _⟩
end HM

/- Masks: which bits are set, and how many. -/
namespace HM
open Go Go.RowKit

-- how many

end HM

/- What disturbs, and which links can be together. -/
namespace HM
open Go Go.RowKit

def marginAt (n : Net) (a b : Int) : Int := n.margin.getD (findL n a b).toNat 0
def powN (n : Net) (a b : Int) : Int := if insB a n.nodes then powAt n a b else 0
def distAt (n : Net) (cs : List Cell) (i : Nat) (node : Int) (k : Nat) : Int := match cs[k]? with
  | some c => if k = i then 0 else powN n c.src node + powN n c.dst node
  | none => 0
def distU (n : Net) (cs : List Cell) (i : Nat) (node : Int) (k : Nat) : Int := sumW (distAt n cs i node) (List.range k)
def distM (n : Net) (cs : List Cell) (i : Nat) (node : Int) : Int := distU n cs i node cs.length
def touchB (a b : Cell) : Bool := a.src == b.src || a.src == b.dst || a.dst == b.src || a.dst == b.dst
def touchAt (cs : List Cell) (c : Cell) (i k : Nat) : Bool := match cs[k]? with
  | some d => k != i && touchB c d
  | none => false
def faultyM (n : Net) (cs : List Cell) (i : Nat) : Bool := match cs[i]? with
  | none => false
  | some c => if goodL n c.src c.dst = false then true else if (List.range cs.length).any (touchAt cs c i) then true
    else if heardB n (marginAt n c.src c.dst) (distM n cs i c.dst) = false then true else !heardB n (marginAt n c.dst c.src) (distM n cs i c.src)
def goodM (n : Net) (cs : List Cell) : Bool := decide (netE n = 0) && !(List.range cs.length).any (faultyM n cs)
def cellL (l : Link) : Cell := ⟨0, 0, l.src, l.dst, 0⟩
def togB (n : Net) (a b : Link) : Bool := goodM n [cellL a, cellL b]
theorem distU_succ (n : Net) (cs : List Cell) (i : Nat) (node : Int) (k : Nat) : distU n cs i node (k + 1) = distU n cs i node k + distAt n cs i node k := by
  unfold distU
  rw [List.range_succ, sumW_app]
  simp [sumW]
theorem powN_bd {n : Net} (h : NetOk n) (a b : Int) : 0 ≤ powN n a b ∧ powN n a b ≤ 68719476736 := by
  unfold powN
  have := powAt_bd h.pow a b
  split <;> omega
theorem distAt_bd {n : Net} (h : NetOk n) (cs : List Cell) (i : Nat) (node : Int) (k : Nat) : 0 ≤ distAt n cs i node k ∧ distAt n cs i node k ≤ 137438953472 := by
  unfold distAt
  split
  · rename_i c _
    have h1 := powN_bd h c.src node
    have h2 := powN_bd h c.dst node
    split <;> omega
  · omega
theorem distU_bd {n : Net} (h : NetOk n) (cs : List Cell) (i : Nat) (node : Int) (k : Nat) : 0 ≤ distU n cs i node k ∧ distU n cs i node k ≤ k * 137438953472 := by
  have := sumW_bd (f := distAt n cs i node) (m := 137438953472) (by omega) (l := List.range k) fun j _ => distAt_bd h cs i node j
  rw [List.length_range] at this
  exact this
theorem pow_at {n : Net} (h : NetOk n) {a b : Int} (ha : insB a n.nodes = true) (hb : insB b n.nodes = true) : ∃ (i j : Nat) (r : List Int) (x : Int), a = i ∧ b = j ∧ n.power[i]? = some r ∧ r[j]? = some x ∧ powAt n a b = x := by
  simp only [insB, Bool.and_eq_true, decide_eq_true_eq] at ha hb
  obtain ⟨i, rfl⟩ : ∃ i : Nat, a = i := ⟨a.toNat, by omega⟩
  obtain ⟨j, rfl⟩ : ∃ j : Nat, b = j := ⟨b.toNat, by omega⟩
  have h1 := h.rows
  obtain ⟨r, hr⟩ : ∃ r, n.power[i]? = some r := ⟨_, List.getElem?_eq_getElem (by omega)⟩
  have h2 := h.row r (List.mem_of_getElem? hr)
  obtain ⟨x, hx⟩ : ∃ x, r[j]? = some x := ⟨_, List.getElem?_eq_getElem (by omega)⟩
  refine ⟨i, j, r, x, rfl, rfl, hr, hx, ?_⟩
  unfold powAt
  rw [Int.toNat_natCast, Int.toNat_natCast, List.getD_eq_getElem?_getD, List.getD_eq_getElem?_getD, hr, Option.getD_some, hx]; rfl
/-- a usable link: where it and its reverse lie, and their margins -/
theorem good_at {n : Net} (h : NetOk n) {a b : Int} (hg : goodL n a b = true) : ∃ (p : Nat) (m : Int), findL n a b = p ∧ n.margin[p]? = some m ∧ marginAt n a b = m ∧ 0 ≤ m ∧ m ≤ 68719476736 ∧ insB a n.nodes = true ∧ insB b n.nodes = true ∧ goodL n b a = true := by
  have h0 := good_find hg
  obtain ⟨p, l, e1, e2, e3, e4⟩ := findL_at h0
  have hp := (List.getElem?_eq_some_iff.1 e2).1
  obtain ⟨m, hm⟩ : ∃ m, n.margin[p]? = some m := ⟨_, List.getElem?_eq_getElem (by rw [h.mar]; exact hp)⟩
  have hk := h.link p l e2
  have hb := linkR_bd hk.1
  have hpw := powAt_bd h.pow l.src l.dst
  rw [List.getD_eq_getElem?_getD, hm, Option.getD_some] at hk
  refine ⟨p, m, e1, hm, ?_, by omega, by omega, by rw [← e3]; simp [insB]; omega, by rw [← e4]; simp [insB]; omega, ?_⟩
  · unfold marginAt; rw [e1, Int.toNat_natCast, List.getD_eq_getElem?_getD, hm]; rfl
  · unfold goodL at hg ⊢
    simp only [Bool.and_eq_true] at hg ⊢
    exact ⟨⟨⟨hg.1.1.2, hg.1.1.1⟩, hg.2⟩, hg.1.2⟩
end HM

/- The links of all requests; groups of links. -/
namespace HM
open Go Go.RowKit

def allM (n : Net) (q : List Req) : List Link := n.links.filter fun l => q.any fun x => usesQ x l.src l.dst
def flatM (n : Net) (q : List Req) : List Link := q.flatMap (linksQ n)
theorem links_sorted {n : Net} (h : NetOk n) (p : Link → Bool) : (n.links.filter p).Pairwise fun a b => a.cmp b < 0 := by
  have h1 : n.links.Pairwise fun a b => a.cmp b < 0 := List.pairwise_iff_getElem.2 fun i j hi hj hij => h.sorted i j _ _ hij (List.getElem?_eq_getElem hi) (List.getElem?_eq_getElem hj)
  exact h1.filter _
theorem lnk_irr (a : Link) : ¬ a.cmp a < 0 := by unfold Link.cmp; rw [cmpL_eq.2 rfl]; decide
theorem lnk_asy {a b : Link} (h1 : a.cmp b < 0) (h2 : b.cmp a < 0) : False := by
  have := cmpL_trans h1 h2
  rw [cmpL_eq.2 rfl] at this; exact absurd this (by decide)
/-- links of the network are told apart by their nodes -/
theorem lnk_conn {n : Net} (h : NetOk n) {a b : Link} (ha : a ∈ n.links) (hb : b ∈ n.links) (h1 : ¬ b.cmp a < 0) (hne : a ≠ b) : a.cmp b < 0 := by
  rcases Int.lt_trichotomy (a.cmp b) 0 with h2 | h2 | h2
  · exact h2
  · have hk := cmpL_eq.1 h2
    simp [Link.key] at hk
    exact absurd (by rw [← lnkAt_self h ha, ← lnkAt_self h hb, hk.1, hk.2]) hne
  · exact absurd (cmpL_anti.2 h2) h1
theorem compact_links {n : Net} (h : NetOk n) {p : Link → Bool} {ds : List Link} (hm : ∀ l, l ∈ ds ↔ l ∈ n.links.filter p) (hs : ds.Pairwise fun a b => ¬ b.cmp a < 0) : compact ds = n.links.filter p := by
  refine strict_ext (lt := fun a b : Link => a.cmp b < 0) lnk_irr (fun a b h1 h2 => lnk_asy h1 h2) (compact_strict (lt := fun a b : Link => a.cmp b < 0) (fun h1 h2 => cmpL_trans h1 h2) hs fun a b ha hb h1 hne => ?_) (links_sorted h p) fun l => by rw [compact_mem, hm]
  exact lnk_conn h (List.mem_filter.1 ((hm a).1 ha)).1 (List.mem_filter.1 ((hm b).1 hb)).1 h1 hne
theorem flat_mem {n : Net} {q : List Req} (l : Link) : l ∈ flatM n q ↔ l ∈ allM n q := by
  unfold flatM allM linksQ
  simp only [List.mem_flatMap, List.mem_filter, List.any_eq_true]
  constructor
  · rintro ⟨x, hx, h1, h2⟩; exact ⟨h1, x, hx, h2⟩
  · rintro ⟨h1, x, hx, h2⟩; exact ⟨x, hx, h1, h2⟩
theorem all_eq {n : Net} (h : NetOk n) {q : List Req} {ds : List Link} (hp : ds.Perm (flatM n q)) (hs : ds.Pairwise fun a b => ¬ b.cmp a < 0) : compact ds = allM n q :=
  compact_links h (fun l => by rw [hp.mem_iff, flat_mem]; rfl) hs
theorem flatM_take {n : Net} {q : List Req} {k : Nat} {x : Req} (h : q[k]? = some x) : flatM n (q.take (k + 1)) = flatM n (q.take k) ++ linksQ n x := by
  rw [take_succ h]; simp [flatM]
theorem linksQ_ne {n : Net} (h : NetOk n) {x : Req} (hx : ReqOk n x) : linksQ n x ≠ [] := by
  have h1 := linksF_pos (n := n) (l := x.routes) hx.len.1 fun r hr => (routeF_ok (hx.route r hr)).1.1
  intro e
  obtain ⟨l, hl⟩ := List.exists_mem_of_ne_nil _ h1
  have := (links_mem h hx l).1 hl
  rw [e] at this; cases this
-- groups
-- rows of structs that grow by some at once
theorem EncOk.pushL {α : Type} {enc : α → AV} {sz : Nat} (h : EncOk enc sz) (l m : List α) (d : Nat) (hr : (l.length + m.length) * sz ≤ (flatE (l.map enc) ++ List.replicate (d * sz) AV.undef).length) : splice (flatE (l.map enc) ++ List.replicate (d * sz) .undef) (l.length * sz) (flatE (m.map enc)) = flatE ((l ++ m).map enc) ++ List.replicate ((d - m.length) * sz) .undef := by
  have hfl := h.flen l
  have hx := h.flen m
  rw [List.length_append, hfl, List.length_replicate, Nat.add_mul] at hr
  rw [splice_eq _ _ _ (by rw [List.length_append, hfl, List.length_replicate, hx]; omega), ← hfl, List.take_left, List.drop_append, hfl, hx, List.drop_eq_nil_of_le (by rw [hfl]; omega), List.nil_append, List.map_append, List.drop_replicate]
  congr 1
  · simp [flatE]
  · congr 1
    rw [Nat.sub_mul]; omega
theorem flatE_pushL {α : Type} (enc : α → AV) (l m : List α) : flatE (l.map enc) ++ flatE (m.map enc) = flatE ((l ++ m).map enc) := by simp [flatE]
end HM

/- Groups of links: the search in the order of words, and the reference by sets of bits. -/
namespace HM
/-- lists of numbers, in the order of words -/
def lexB : List Nat → List Nat → Bool
  | [], [] => false
  | [], _ :: _ => true
  | _ :: _, [] => false
  | a :: s, b :: t => if a = b then lexB s t else decide (a < b)
theorem lexB_app : ∀ g s t, lexB (g ++ s) (g ++ t) = lexB s t
  | [], _, _ => rfl
  | x :: g, s, t => by
    show lexB (x :: (g ++ s)) (x :: (g ++ t)) = _
    rw [show lexB (x :: (g ++ s)) (x :: (g ++ t)) = if x = x then lexB (g ++ s) (g ++ t) else decide (x < x) from rfl, if_pos rfl]; exact lexB_app g s t

/-- the greatest, of those the first -/
structure BestG (w : List Nat → Int) (E : List (List Nat)) (b : List Nat) : Prop where
  mem : b ∈ E
  best : ∀ a ∈ E, w a < w b ∨ (w a = w b ∧ (a = b ∨ lexB b a = true))
def pickF (w : List Nat → Int) (b x : List Nat) : List Nat := if w b < w x then x else b
theorem BestG.stepF {w : List Nat → Int} {E : List (List Nat)} {b x : List Nat} (h : BestG w E b) (hx : ∀ a ∈ E, lexB a x = true) : BestG w (E ++ [x]) (pickF w b x) := by
  unfold pickF
  split
  · rename_i hw
    refine ⟨by simp, fun a ha => ?_⟩
    rcases List.mem_append.1 ha with ha | ha
    · left
      rcases h.best a ha with h1 | ⟨h1, _⟩ <;> omega
    · simp at ha; exact .inr ⟨by rw [ha], .inl ha⟩
  · rename_i hw
    refine ⟨by simp [h.mem], fun a ha => ?_⟩
    rcases List.mem_append.1 ha with ha | ha
    · exact h.best a ha
    · simp at ha; subst ha
      have := hx b h.mem
      rcases Int.lt_trichotomy (w a) (w b) with h1 | h1 | h1
      · exact .inl h1
      · exact .inr ⟨h1, .inr this⟩
      · omega
theorem bestF {w : List Nat → Int} : ∀ (F E : List (List Nat)) (b : List Nat), BestG w E b → (E ++ F).Pairwise (fun a b => lexB a b = true) → BestG w (E ++ F) (F.foldl (pickF w) b)
  | [], E, b, h, _ => by rw [List.append_nil]; exact h
  | x :: F, E, b, h, hp => by
    have e : E ++ x :: F = E ++ [x] ++ F := by simp
    rw [e] at hp ⊢
    exact bestF F (E ++ [x]) _ (h.stepF fun a ha => (List.pairwise_append.1 (List.pairwise_append.1 hp).1).2.2 a ha x (by simp)) hp
-- the groups that the search comes across, in its order
section
variable (tg : Nat → Nat → Bool)
def enumG : List Nat → List Nat → List (List Nat)
  | [], _ => []
  | x :: r, g => (if g.any (fun m => tg m x) then [] else (g ++ [x]) :: enumG r (g ++ [x])) ++ enumG r g
def loopG (w : List Nat → Int) : List Nat → List Nat → List Nat → List Nat
  | [], _, b => b
  | x :: r, g, b => loopG w r g (if g.any (fun m => tg m x) then b else loopG w r (g ++ [x]) (pickF w b (g ++ [x])))
theorem loopG_fold (w : List Nat → Int) : ∀ (r g b : List Nat), loopG tg w r g b = (enumG tg r g).foldl (pickF w) b
  | [], _, _ => rfl
  | x :: r, g, b => by
    unfold loopG enumG
    rw [List.foldl_append, loopG_fold w r g]
    congr 1
    split
    · rfl
    · rw [List.foldl_cons, loopG_fold w r (g ++ [x])]
def apartI (g : List Nat) : Prop := g.Pairwise fun a b => tg a b = false
theorem enumG_mem : ∀ (r g x : List Nat), apartI tg g → (x ∈ enumG tg r g ↔ ∃ s, List.Sublist s r ∧ s ≠ [] ∧ x = g ++ s ∧ apartI tg (g ++ s))
  | [], g, x, _ => by
    unfold enumG
    simp only [List.not_mem_nil, false_iff]
    rintro ⟨s, h1, h2, _⟩
    exact h2 (List.sublist_nil.1 h1)
  | y :: r, g, x, hg => by
    unfold enumG
    rw [List.mem_append, enumG_mem r g x hg]
    have hgy : apartI tg (g ++ [y]) ↔ g.any (fun m => tg m y) = false := by
      unfold apartI
      rw [List.pairwise_append, List.any_eq_false]
      constructor
      · rintro ⟨_, _, h⟩ m hm
        have := h m hm y (by simp)
        simp [this]
      · intro h
        refine ⟨hg, by simp, fun a ha b hb => ?_⟩
        simp at hb; subst hb
        simpa using h a ha
    constructor
    · rintro (h | ⟨s, h1, h2, h3, h4⟩)
      · split at h
        · cases h
        · rename_i hany
          have hap := hgy.2 (by simpa using hany)
          rcases List.mem_cons.1 h with rfl | h
          · exact ⟨[y], by simp, by simp, rfl, hap⟩
          · obtain ⟨s, h1, h2, h3, h4⟩ := (enumG_mem r (g ++ [y]) x hap).1 h
            exact ⟨y :: s, h1.cons_cons y, by simp, by rw [h3]; simp, by rw [show g ++ y :: s = g ++ [y] ++ s by simp]; exact h4⟩
      · exact ⟨s, h1.cons y, h2, h3, h4⟩
    · rintro ⟨s, h1, h2, rfl, h4⟩
      match s, h1, h2, h4 with
      | [], _, h2, _ => exact absurd rfl h2
      | z :: s, h1, _, h4 =>
        cases h1 with
        | cons _ h => exact .inr ⟨z :: s, h, by simp, rfl, h4⟩
        | cons_cons _ h =>
          left
          have hap : apartI tg (g ++ [y]) := by
            have : apartI tg (g ++ [y] ++ s) := by rw [List.append_assoc]; exact h4
            exact (List.pairwise_append.1 this).1
          rw [if_neg (by simp [hgy.1 hap])]
          rcases Decidable.em (s = []) with rfl | hs
          · exact List.mem_cons_self
          · exact List.mem_cons_of_mem _ ((enumG_mem r (g ++ [y]) _ hap).2 ⟨s, h, hs, by simp, by rw [List.append_assoc]; exact h4⟩)
theorem enumG_pre : ∀ (r g x : List Nat), x ∈ enumG tg r g → ∃ s, List.Sublist s r ∧ s ≠ [] ∧ x = g ++ s
  | [], g, x, h => by cases h
  | y :: r, g, x, h => by
    unfold enumG at h
    rcases List.mem_append.1 h with h | h
    · split at h
      · cases h
      · rcases List.mem_cons.1 h with rfl | h
        · exact ⟨[y], by simp, by simp, rfl⟩
        · obtain ⟨s, h1, h2, h3⟩ := enumG_pre r (g ++ [y]) x h
          exact ⟨y :: s, h1.cons_cons y, by simp, by rw [h3]; simp⟩
    · obtain ⟨s, h1, h2, h3⟩ := enumG_pre r g x h
      exact ⟨s, h1.cons y, h2, h3⟩
theorem enumG_lex : ∀ (r g : List Nat), r.Pairwise (· < ·) → (enumG tg r g).Pairwise fun a b => lexB a b = true
  | [], _, _ => List.Pairwise.nil
  | y :: r, g, hr => by
    obtain ⟨h1, h2⟩ := List.pairwise_cons.1 hr
    unfold enumG
    refine List.pairwise_append.2 ⟨?_, enumG_lex r g h2, ?_⟩
    · split
      · exact List.Pairwise.nil
      · refine List.pairwise_cons.2 ⟨fun x hx => ?_, enumG_lex r (g ++ [y]) h2⟩
        obtain ⟨s, _, e2, rfl⟩ := enumG_pre tg r (g ++ [y]) x hx
        have := lexB_app (g ++ [y]) [] s
        rw [List.append_nil] at this
        rw [this]
        cases s with
        | nil => exact absurd rfl e2
        | cons z s => rfl
    · intro a ha b hb
      obtain ⟨t, e1, e2, rfl⟩ := enumG_pre tg r g b hb
      have hlt : ∀ s, lexB (g ++ (y :: s)) (g ++ t) = true := fun s => by
        rw [lexB_app]
        cases t with
        | nil => exact absurd rfl e2
        | cons z t =>
          have := h1 z (e1.subset (by simp))
          unfold lexB
          rw [if_neg (by omega)]
          simpa using this
      split at ha
      · cases ha
      · rcases List.mem_cons.1 ha with rfl | ha
        · exact hlt []
        · obtain ⟨s, _, _, rfl⟩ := enumG_pre tg r (g ++ [y]) a ha
          have := hlt s
          simpa using this
end
-- the reference's way: each set of bits
/-- what the search finds -/
theorem loopG_best (tg : Nat → Nat → Bool) (w : List Nat → Int) (m : Nat) : BestG w ([] :: enumG tg (List.range m) []) (loopG tg w (List.range m) [] []) := by
  rw [loopG_fold]
  have h0 : BestG w [[]] [] := ⟨by simp, fun a ha => by simp at ha; exact .inr ⟨by rw [ha], .inl ha⟩⟩
  refine bestF _ [[]] [] h0 (List.pairwise_append.2 ⟨by simp, enumG_lex tg _ _ (List.pairwise_lt_range), fun a ha b hb => ?_⟩)
  simp at ha; subst ha
  obtain ⟨s, _, h2, e⟩ := enumG_pre tg _ _ b hb
  cases b with
  | nil => exact absurd e.symm h2
  | cons y s => rfl
end HM

/- Groups of links of requests: which one is the greatest. -/
namespace HM
open Go Go.RowKit

def lk0 : Link := ⟨0, 0, 0⟩
def gL (al : List Link) (g : List Nat) : List Link := g.map fun i => al.getD i lk0
def tgI (n : Net) (al : List Link) (i j : Nat) : Bool := togB n (al.getD i lk0) (al.getD j lk0)
def wI (q : List Req) (len : Int) (al : List Link) (g : List Nat) : Int := sumW (needM q len) (gL al g)
def bestI (n : Net) (q : List Req) (len : Int) : List Nat := loopG (tgI n (allM n q)) (wI q len (allM n q)) (List.range (allM n q).length) [] []
theorem gL_range (al : List Link) : gL al (List.range al.length) = al := by
  apply List.ext_getElem?
  intro i
  unfold gL
  rw [List.getElem?_map]
  rcases Nat.lt_or_ge i al.length with h | h
  · rw [List.getElem?_range h, Option.map_some, List.getD_eq_getElem?_getD, List.getElem?_eq_getElem h, Option.getD_some]
  · rw [List.getElem?_eq_none (by simpa using h), List.getElem?_eq_none h]; rfl
theorem gL_sub {al : List Link} {g : List Nat} (h : List.Sublist g (List.range al.length)) : List.Sublist (gL al g) al := by
  have h1 : List.Sublist (gL al g) (gL al (List.range al.length)) := List.Sublist.map _ h
  rwa [gL_range] at h1
theorem gL_snoc (al : List Link) (g : List Nat) (i : Nat) : gL al (g ++ [i]) = gL al g ++ [al.getD i lk0] := by simp [gL]
theorem all_sub (n : Net) (q : List Req) : List.Sublist (allM n q) n.links := List.filter_sublist
theorem net_sorted {n : Net} (h : NetOk n) : n.links.Pairwise fun a b => a.cmp b < 0 := List.pairwise_iff_getElem.2 fun i j hi hj hij => h.sorted i j _ _ hij (List.getElem?_eq_getElem hi) (List.getElem?_eq_getElem hj)
/-- links in order are those of the network that are among them -/
theorem filt_sub {n : Net} (h : NetOk n) {ls : List Link} (hs : ls.Pairwise fun a b => a.cmp b < 0) (hm : ∀ l ∈ ls, l ∈ n.links) : (n.links.filter fun m => decide (m ∈ ls)) = ls := by
  refine strict_ext (lt := fun a b : Link => a.cmp b < 0) lnk_irr (fun a b h1 h2 => lnk_asy h1 h2) (links_sorted h _) hs fun l => ?_
  simp only [List.mem_filter, decide_eq_true_eq]
  exact ⟨fun h => h.2, fun h => ⟨hm l h, h⟩⟩
theorem sumQ_grp {n : Net} (h : NetOk n) (q : List Req) (len : Int) {ls : List Link} (hs : List.Sublist ls n.links) : sumQ n q len (fun m => decide (m ∈ ls)) = sumW (needM q len) ls := by
  rw [sumQ_need, filt_sub h (List.Pairwise.sublist hs (net_sorted h)) fun l hl => hs.subset hl]
theorem grp_need {n : Net} (h : NetOk n) (q : List Req) (len offs : Int) {g : List Nat} (hg : List.Sublist g (List.range (allM n q).length)) : (groupR n q len offs (gL (allM n q) g)).need = wI q len (allM n q) g :=
  sumQ_grp h q len ((gL_sub hg).trans (all_sub n q))
/-- what the search holds -/
def bestC (n : Net) (q : List Req) (len offs : Int) (b : List Nat) : Rsn := if b = [] then rsn0 else groupR n q len offs (gL (allM n q) b)
theorem bestC_need {n : Net} (h : NetOk n) (q : List Req) (len offs : Int) {g : List Nat} (hg : List.Sublist g (List.range (allM n q).length)) : (bestC n q len offs g).need = wI q len (allM n q) g := by
  unfold bestC
  split
  · rename_i e; subst e; rfl
  · exact grp_need h q len offs hg
def updI (w : List Nat → Int) (g b : List Nat) : List Nat := if g = [] then b else pickF w b g
theorem updI_snoc (w : List Nat → Int) (g b : List Nat) (i : Nat) : updI w (g ++ [i]) b = pickF w b (g ++ [i]) := by unfold updI; rw [if_neg (by simp)]
/-- the group: a reason, if it needs too much -/
def grpM (n : Net) (q : List Req) (len offs : Int) : Rsn × Bool := if 10 < (allM n q).length then (rsn0, false) else (bestC n q len offs (bestI n q len), isR (bestC n q len offs (bestI n q len)))
def grpO (n : Net) (q : List Req) (len offs : Int) : Option Rsn := if (grpM n q len offs).2 then some (grpM n q len offs).1 else none
theorem loopG_sub (tg : Nat → Nat → Bool) (w : List Nat → Int) (m : Nat) : List.Sublist (loopG tg w (List.range m) [] []) (List.range m) := by
  rcases List.mem_cons.1 (loopG_best tg w m).mem with h | h
  · rw [h]; exact List.nil_sublist _
  · obtain ⟨s, h1, _, h3⟩ := enumG_pre tg _ _ _ h
    rw [h3]; exact h1
-- the reference's group
-- whether links are a group: the program and the reference
end HM

/- The law on fewer requests: what the requests ahead of the last one need. -/
namespace HM
open Go Go.RowKit

/-- what a row of facts needs of sums -/
structure LessOk (n : Net) (q : List Req) (len : Int) : Prop where
  net : NetOk n
  l1 : 1 ≤ len
  per : ∀ x ∈ q, 1 ≤ x.flow.period
theorem asR_none {r : Rsn} : asR r = none ↔ isR r = false := by
  unfold asR; cases isR r <;> simp
theorem best_apart (n : Net) (q : List Req) (len : Int) : (gL (allM n q) (bestI n q len)).Pairwise fun a b => togB n a b = false := by
  rcases List.mem_cons.1 (loopG_best (tgI n (allM n q)) (wI q len (allM n q)) (allM n q).length).mem with h | h
  · rw [bestI, h]; exact List.Pairwise.nil
  · obtain ⟨s, h1, _, h3, h4⟩ := (enumG_mem _ _ [] _ List.Pairwise.nil).1 h
    rw [bestI, h3]
    exact List.Pairwise.map _ (fun a b h => h) h4
theorem best_sub (n : Net) (q : List Req) (len : Int) : List.Sublist (bestI n q len) (List.range (allM n q).length) := loopG_sub _ _ _
theorem isR_best {n : Net} (h : NetOk n) (q : List Req) (len offs : Int) (h0 : 0 ≤ len * offs) : isR (bestC n q len offs (bestI n q len)) = decide (len * offs < wI q len (allM n q) (bestI n q len)) := by
  unfold isR
  rw [bestC_need h q len offs (best_sub n q len)]
  unfold bestC
  split
  · rename_i e
    rw [e]
    simp only [wI, gL, List.map_nil, sumW, rsn0]
    rw [decide_eq_false (by omega), decide_eq_false (by omega)]
  · rfl
-- many links
theorem nodup_le {α : Type} [DecidableEq α] : ∀ {l m : List α}, l.Nodup → (∀ x ∈ l, x ∈ m) → l.length ≤ m.length
  | [], _, _, _ => Nat.zero_le _
  | x :: l, m, hn, hs => by
    obtain ⟨h1, h2⟩ := List.nodup_cons.1 hn
    have hx := hs x (by simp)
    have := nodup_le (l := l) (m := m.erase x) h2 fun y hy => (List.mem_erase_of_ne (fun e => h1 (by rw [← e]; exact hy))).2 (hs y (List.mem_cons_of_mem _ hy))
    rw [List.length_erase_of_mem hx] at this
    have := List.length_pos_of_mem hx
    simp only [List.length_cons]; omega
end HM
