/- Schedules, masks and places in plain words. -/
import Derived.Test.YtgfboaadhlhjhaaGreatDoorFg
import Derived.Test.YtgfboaadhlhjhaaGreatDoorFh
namespace HM
open Go Go.RowKit
theorem Els.map {α : Type} {sz : Nat} {f : α → AV} (h : ∀ x, (f x).ncells = sz ∧ (f x).cells.all AV.isCell = true) {l : List α} : Els sz (l.map f) := by
  intro e he
  obtain ⟨x, _, rfl⟩ := List.mem_map.1 he
  exact h x
structure Cell where
  slot : Int
  off : Int
  src : Int
  dst : Int
  flow : Int
  deriving DecidableEq
structure Sched where
  len : Int
  offs : Int
  cells : List Cell
def encI (n : Int) : AV := .int .i64 n
def encIs (l : List Int) : AV := .sl false (l.map encI)
def Cell.av (c : Cell) : AV := .agg [.int .i64 c.slot, .int .i64 c.off, .int .i64 c.src, .int .i64 c.dst, .int .i64 c.flow]
def encCells (l : List Cell) : AV := .sl false (l.map Cell.av)
def Sched.av (s : Sched) : AV := .agg [.int .i64 s.len, .int .i64 s.offs, encCells s.cells]
def insB (x n : Int) : Bool := decide (0 ≤ x) && decide (x < n)
def sizedB (s : Sched) : Bool := decide (1 ≤ s.len) && decide (s.len ≤ 512) && decide (1 ≤ s.offs) && decide (s.offs ≤ 16)
def placedB (s : Sched) (c : Cell) : Bool := insB c.slot s.len && insB c.off s.offs
def formedB (s : Sched) (c : Cell) : Bool := placedB s c && insB c.src 32 && insB c.dst 32 && insB c.flow 256
def Cell.nums (c : Cell) : List Int := [c.slot, c.off, c.src, c.dst, c.flow]
def cmpI (x y : Int) : Int := if x < y then -1 else if y < x then 1 else 0
def cmpL : List Int → List Int → Int
  | [], [] => 0
  | [], _ :: _ => -1
  | _ :: _, [] => 1
  | x :: xs, y :: ys => if cmpI x y = 0 then cmpL xs ys else cmpI x y
def Cell.cmp (a b : Cell) : Int := cmpL a.nums b.nums
theorem getMap {α : Type} {f : α → AV} {l : List α} {k : Nat} {x : α} (h : l[k]? = some x) : (l.map f)[(k : Int).toNat]? = some (f x) := by simp [h]
theorem dropGet {α : Type} {l : List α} {k : Nat} {x : α} (h : l[k]? = some x) : l.drop k = x :: l.drop (k + 1) := by
  obtain ⟨hlt, rfl⟩ := List.getElem?_eq_some_iff.1 h
  exact List.drop_eq_getElem_cons hlt
theorem getLt {α : Type} {l : List α} {k : Nat} (h : k < l.length) : ∃ x, l[k]? = some x := ⟨_, List.getElem?_eq_getElem h⟩
theorem lenLt {α : Type} {f : α → AV} {l : List α} {k : Nat} (h : decide ((k : Int) < ((l.map f).length : Int)) = true) : k < l.length := by simpa using h
theorem lenGe {α : Type} {f : α → AV} {l : List α} {k : Nat} (h : decide ((k : Int) < ((l.map f).length : Int)) = false) : l.length ≤ k := by simpa using h
theorem inbMap {α : Type} {f : α → AV} {l : List α} {k : Nat} (h : k < l.length) : InB (k : Int) (l.map f).length := ⟨by omega, by simp; omega⟩
theorem eq_of_at {α : Type} {a b : List α} (hl : a.length = b.length) (h : ∀ (j : Nat) x y, j < a.length → a[j]? = some x → b[j]? = some y → x = y) : a = b := by
  apply List.ext_getElem?
  intro j
  by_cases hj : j < a.length
  · have e1 : a[j]? = some a[j] := List.getElem?_eq_getElem hj
    have e2 : b[j]? = some (b[j]'(by omega)) := List.getElem?_eq_getElem (by omega)
    rw [e1, e2, h j _ _ hj e1 e2]
  · rw [List.getElem?_eq_none (by omega), List.getElem?_eq_none (by omega)]
theorem succI {k n : Nat} (h : k < n) (hn : n ≤ 281474976710656) : IntKind.i64.wrap ((k : Int) + 1) = ((k + 1 : Nat) : Int) := by rw [w64] <;> omega
def okAt (s : Sched) (i : Nat) : Bool := match s.cells[i]? with
  | some c => formedB s c && (match i with
    | 0 => true
    | j + 1 => match s.cells[j]? with
      | some p => decide (p.cmp c < 0)
      | none => true)
  | none => true
def formB (s : Sched) : Bool := sizedB s && decide (s.cells.length ≤ 512) && (List.range s.cells.length).all (okAt s)
theorem range_all {n : Nat} {f : Nat → Bool} (h : ∀ j, j < n → f j = true) : (List.range n).all f = true := by
  simp [List.all_eq_true]; exact h
theorem range_not {n k : Nat} {f : Nat → Bool} (hk : k < n) (h : f k = false) : (List.range n).all f = false := by
  rw [List.all_eq_false]
  exact ⟨k, by simpa using hk, by simp [h]⟩
theorem form_all {s : Sched} (h : formB s = true) : sizedB s = true ∧ s.cells.length ≤ 512 ∧ ∀ c ∈ s.cells, formedB s c = true := by
  simp only [formB, Bool.and_eq_true, decide_eq_true_eq, List.all_eq_true] at h
  refine ⟨h.1.1, h.1.2, fun c hc => ?_⟩
  obtain ⟨j, hj⟩ := List.getElem?_of_mem hc
  have h2 := h.2 j (by simp; exact (List.getElem?_eq_some_iff.1 hj).1)
  unfold okAt at h2
  rw [hj] at h2
  simp at h2
  exact h2.1
theorem sized_bd {s : Sched} (h : sizedB s = true) : 1 ≤ s.len ∧ s.len ≤ 512 ∧ 1 ≤ s.offs ∧ s.offs ≤ 16 := by simp [sizedB] at h; omega
mutual
theorem fz_okk : ∀ (e : AV) {e' : AV} {k m : Nat}, fz e = some e' → e'.okk k m
  | .int _ _, _, _, _, h => by simp [fz] at h; subst h; trivial
  | .bool _, _, _, _, h => by simp [fz] at h; subst h; trivial
  | .str _, _, _, _, h => by simp [fz] at h; subst h; trivial
  | .nils, _, _, _, h => by simp [fz] at h; subst h; trivial
  | .nilp, _, _, _, h => by simp [fz] at h; subst h; trivial
  | .nili, _, _, _, h => by simp [fz] at h; subst h; trivial
  | .nilm, _, _, _, h => by simp [fz] at h; subst h; trivial
  | .sl _ _, _, _, _, h => by simp [fz] at h; subst h; trivial
  | .own _ _, _, _, _, h => by simp [fz] at h; subst h; trivial
  | .cptr _ _, _, _, _, h => by simp [fz] at h; subst h; trivial
  | .cmp _ _ _, _, _, _, h => by simp [fz] at h; subst h; trivial
  | .fn f caps, e', k, m, h => by
    simp only [fz, Option.map_eq_some_iff] at h
    obtain ⟨x, h1, rfl⟩ := h
    exact fzs_okk' caps h1
  | .agg cs, e', k, m, h => by
    simp only [fz, Option.map_eq_some_iff] at h
    obtain ⟨x, h1, rfl⟩ := h
    exact fzs_okk' cs h1
  | .tup cs, e', k, m, h => by
    simp only [fz, Option.map_eq_some_iff] at h
    obtain ⟨x, h1, rfl⟩ := h
    exact fzs_okk' cs h1
  | .undef, _, _, _, h => by simp [fz] at h
  | .bsl _ _ _ _, _, _, _, h => by simp [fz] at h
  | .vsl _ _ _ _, _, _, _, h => by simp [fz] at h
  | .ptr _ _, _, _, _, h => by simp [fz] at h
  | .yld _, _, _, _, h => by simp [fz] at h
  | .mp _, _, _, _, h => by simp [fz] at h
theorem fzs_okk' : ∀ (es : List AV) {es' : List AV} {k m : Nat}, fzs es = some es' → okks k m es'
  | [], _, _, _, h => by simp [fzs] at h; subst h; trivial
  | e :: es, es', k, m, h => by
    simp only [fzs] at h
    split at h
    · rename_i a b h1 h2
      simp at h; subst h
      exact ⟨fz_okk e h1, fzs_okk' es h2⟩
    · cases h
end
theorem fzs_okk {es : List AV} {k m : Nat} (h : fzs es = some es) : okks k m es := fzs_okk' es h
def idxF {α : Type} (p : α → Bool) (l : List α) : Int := if l.any p then (l.findIdx p : Int) else -1
theorem idxF_some {α : Type} {p : α → Bool} {l : List α} {k : Nat} {x : α} (hlt : k < l.length) (hinv : ∀ j y, j < k → l[j]? = some y → p y = false) (hx : l[k]? = some x) (hp : p x = true) : idxF p l = (k : Int) := by
  have hany : l.any p = true := List.any_eq_true.2 ⟨x, List.mem_of_getElem? hx, hp⟩
  have hidx : l.findIdx p = k := by
    rw [List.findIdx_eq hlt]
    obtain ⟨_, rfl⟩ := List.getElem?_eq_some_iff.1 hx
    exact ⟨hp, fun j hj => hinv j _ hj (List.getElem?_eq_getElem (by omega))⟩
  simp [idxF, hany, hidx]
theorem idxF_none {α : Type} {p : α → Bool} {l : List α} (hinv : ∀ j y, j < l.length → l[j]? = some y → p y = false) : idxF p l = -1 := by
  have hany : l.any p = false := by
    rw [List.any_eq_false]
    intro x hx
    obtain ⟨j, hj⟩ := List.getElem?_of_mem hx
    simp [hinv j x (List.getElem?_eq_some_iff.1 hj).1 hj]
  simp [idxF, hany]
theorem idxF_any {α : Type} (p : α → Bool) (l : List α) : decide (0 ≤ idxF p l) = l.any p := by
  unfold idxF
  cases h : l.any p <;> simp
def elsB (sz : Nat) : List AV → Bool
  | [] => true
  | e :: es => Nat.beq e.ncells sz && e.cells.all AV.isCell && elsB sz es
theorem Els.of_b {sz : Nat} : ∀ {es : List AV}, elsB sz es = true → Els sz es
  | [], _ => Els.nil _
  | e :: es, h => by
    simp only [elsB, Bool.and_eq_true] at h
    exact Els.cons (Nat.eq_of_beq_eq_true h.1.1) h.1.2 (Els.of_b h.2)
theorem sI {a b : Prop} (hb : b) (ha : a := by first | rfl | exact ⟨rfl, rfl⟩ | exact Or.inl ⟨_, rfl⟩ | exact Or.inr rfl | exact le_b rfl | exact Els.of_b rfl | exact Els.map (fun _ => ⟨rfl, rfl⟩) | kernel_rfl) : a ∧ b := ⟨ha, hb⟩
theorem sJ {a b : Prop} (hb : b) (ha : a := by first | rfl | exact ⟨rfl, rfl⟩ | exact Or.inl ⟨_, rfl⟩ | exact Or.inr rfl | exact le_b rfl | exact Els.of_b rfl | exact Els.map (fun _ => ⟨rfl, rfl⟩)) : a ∧ b := ⟨ha, hb⟩
theorem Wk {p q : Prop} (hq : q) (h : q → p := by intro h; (repeat ((conv => whnf); refine sI ?_)); (try (conv => whnf)); exact h) : p := h hq
end HM
namespace HM
open Go Go.RowKit
theorem take_succ {α : Type} {l : List α} {k : Nat} {x : α} (h : l[k]? = some x) : l.take (k + 1) = l.take k ++ [x] := by
  rw [List.take_add_one, h]; rfl
end HM
namespace HM
open Go Go.RowKit
end HM
namespace HM
open Go Go.RowKit
def Cell.zero : Cell := ⟨0, 0, 0, 0, 0⟩
end HM
namespace HM
open Go Go.RowKit
def tI : Ty := .int .i64
def tCell : Ty := .st [tI, tI, tI, tI, tI]
def tSched : Ty := .st [tI, tI, .sl tCell]
def I64b (n : Int) : Prop := -9223372036854775808 ≤ n ∧ n ≤ 9223372036854775807
theorem sh_int {l : List AV} (h : tI.sh l) : ∃ n, l = [.int .i64 n] ∧ I64b n := by
  obtain ⟨n, rfl, hw⟩ := h
  refine ⟨n, rfl, ?_⟩
  simp only [Lit.wf, Bool.and_eq_true, decide_eq_true_eq] at hw
  exact hw
theorem sh_cell {l : List AV} (h : tCell.sh l) : ∃ c : Cell, l = [.int .i64 c.slot, .int .i64 c.off, .int .i64 c.src, .int .i64 c.dst, .int .i64 c.flow] := by
  obtain ⟨_, _, rfl, _, h1, _, _, rfl, _, h2, _, _, rfl, _, h3, _, _, rfl, _, h4, _, _, rfl, _, h5, h6⟩ := h
  obtain ⟨a, rfl, _⟩ := sh_int h1
  obtain ⟨b, rfl, _⟩ := sh_int h2
  obtain ⟨c, rfl, _⟩ := sh_int h3
  obtain ⟨d, rfl, _⟩ := sh_int h4
  obtain ⟨e, rfl, _⟩ := sh_int h5
  obtain rfl := h6
  exact ⟨⟨a, b, c, d, e⟩, rfl⟩
theorem list_of {α : Type} {d : Ty} {f : α → AV} (h : ∀ l, d.sh l → ∃ x, d.mk l = f x) : ∀ els : List (List AV), (∀ c ∈ els, d.sh c ∧ c.length = d.n) → ∃ xs : List α, els.map d.mk = xs.map f ∧ xs.length = els.length
  | [], _ => ⟨[], rfl, rfl⟩
  | c :: els, hc => by
    obtain ⟨x, hx⟩ := h c (hc c (by simp)).1
    obtain ⟨xs, h1, h2⟩ := list_of h els (fun c hm => hc c (by simp [hm]))
    exact ⟨x :: xs, by simp [hx, h1], by simp [h2]⟩
theorem sh_cells {l : List AV} (h : (Ty.sl tCell).sh l) : ∃ cs : List Cell, l = [encCells cs] ∧ cs.length ≤ 140737488355328 := by
  obtain ⟨els, rfl, h1, h2⟩ := h
  obtain ⟨cs, h3, h4⟩ := list_of (f := Cell.av) (fun l hl => by
    obtain ⟨c, rfl⟩ := sh_cell hl
    exact ⟨c, rfl⟩) els h1
  exact ⟨cs, by rw [h3]; rfl, by omega⟩
theorem sh_ints {l : List AV} (h : (Ty.sl tI).sh l) : ∃ f : List Int, l = [encIs f] ∧ f.length ≤ 140737488355328 := by
  obtain ⟨els, rfl, h1, h2⟩ := h
  obtain ⟨cs, h3, h4⟩ := list_of (f := encI) (fun l hl => by
    obtain ⟨c, rfl, _⟩ := sh_int hl
    exact ⟨c, rfl⟩) els h1
  exact ⟨cs, by rw [h3]; rfl, by omega⟩
theorem sh4 {d1 d2 d3 d4 : Ty} : ∀ {es : List AV}, shArgs [d1, d2, d3, d4] es → ∃ l1 l2 l3 l4, es = [d1.mk l1, d2.mk l2, d3.mk l3, d4.mk l4] ∧ d1.sh l1 ∧ d2.sh l2 ∧ d3.sh l3 ∧ d4.sh l4
  | [e1, e2, e3, e4], h => by
    obtain ⟨⟨l1, h1, rfl⟩, ⟨l2, h2, rfl⟩, ⟨l3, h3, rfl⟩, ⟨l4, h4, rfl⟩, _⟩ := h
    exact ⟨l1, l2, l3, l4, rfl, h1, h2, h3, h4⟩
  | [], h => by simp [shArgs] at h
  | [_], h => by simp [shArgs] at h
  | [_, _], h => by simp [shArgs] at h
  | [_, _, _], h => by simp [shArgs] at h
  | _ :: _ :: _ :: _ :: _ :: _, h => by simp [shArgs] at h
end HM
namespace HM
open Go Go.RowKit
structure Link where
  src : Int
  dst : Int
  loss : Int
  deriving DecidableEq
def Link.av (l : Link) : AV := .agg [.int .i64 l.src, .int .i64 l.dst, .int .i64 l.loss]
def encLinks (l : List Link) : AV := .sl false (l.map Link.av)
structure Net where
  nodes : Int
  power : List (List Int)
  noise : Int
  thr : Int
  links : List Link
  margin : List Int
def encRows (l : List (List Int)) : AV := .sl false (l.map encIs)
def Net.cs (n : Net) : List AV := [.int .i64 n.nodes, encRows n.power, .int .i64 n.noise, .int .i64 n.thr, encLinks n.links, encIs n.margin]
def Net.av (n : Net) : AV := .agg [.int .i64 n.nodes, encRows n.power, .int .i64 n.noise, .int .i64 n.thr, encLinks n.links, encIs n.margin]
structure Flow where
  id : Int
  src : Int
  dst : Int
  period : Int
  phase : Int
  dead : Int
  deriving DecidableEq
def Flow.av (f : Flow) : AV := .agg [.int .i64 f.id, .int .i64 f.src, .int .i64 f.dst, .int .i64 f.period, .int .i64 f.phase, .int .i64 f.dead]
def encFlows (l : List Flow) : AV := .sl false (l.map Flow.av)
def firstE (f : Nat → Int) : Nat → Int
  | 0 => 0
  | k + 1 => if firstE f k = 0 then f k else firstE f k
theorem firstE_zero {f : Nat → Int} : ∀ {n : Nat}, (∀ j, j < n → f j = 0) → firstE f n = 0
  | 0, _ => rfl
  | n + 1, h => by rw [firstE, firstE_zero fun j hj => h j (by omega), if_pos rfl]; exact h n (by omega)
theorem firstE_hit {f : Nat → Int} {k : Nat} (h0 : ∀ j, j < k → f j = 0) (he : f k ≠ 0) : ∀ {n : Nat}, k < n → firstE f n = f k
  | 0, h => by omega
  | n + 1, h => by
    rw [firstE]
    by_cases e : k = n
    · subst e; rw [firstE_zero h0, if_pos rfl]
    · rw [firstE_hit h0 he (n := n) (by omega), if_neg he]
theorem firstE_spec {f : Nat → Int} : ∀ {n : Nat}, firstE f n = 0 ↔ ∀ j, j < n → f j = 0
  | 0 => by simp [firstE]
  | n + 1 => by
    rw [firstE]
    constructor
    · intro h j hj
      by_cases h0 : firstE f n = 0
      · rw [if_pos h0] at h
        rcases Nat.lt_succ_iff_lt_or_eq.1 hj with hl | rfl
        · exact firstE_spec.1 h0 j hl
        · exact h
      · rw [if_neg h0] at h; exact absurd h h0
    · intro h
      rw [if_pos (firstE_spec.2 fun j hj => h j (by omega))]
      exact h n (by omega)
def Link.key (l : Link) : List Int := [l.src, l.dst]
def Link.cmp (a b : Link) : Int := cmpL a.key b.key
def powAt (n : Net) (a b : Int) : Int := (n.power.getD a.toNat []).getD b.toNat 0
def badP (x : Int) : Bool := decide (x < 0) || decide (68719476736 < x)
def powerE (n : Net) : Int :=
  if (n.power.length : Int) ≠ n.nodes ∨ n.power.any (fun r => (r.length : Int) != n.nodes) then 1
  else if n.power.any (fun r => r.any badP) then 2 else 0
def linkR (n : Net) (l : Link) : Bool := insB l.src n.nodes && insB l.dst n.nodes && decide (l.src ≠ l.dst) && decide (0 ≤ l.loss) && decide (l.loss ≤ 7)
def linkO (n : Net) (i : Nat) (l : Link) : Bool := match i with
  | 0 => true
  | j + 1 => match n.links[j]? with
    | some p => decide (p.cmp l < 0)
    | none => true
def linkE (n : Net) (i : Nat) : Int := match n.links[i]? with
  | none => 0
  | some l => if linkR n l = false then 2 else if linkO n i l = false then 5
    else if n.margin.getD i 0 < 0 ∨ powAt n l.src l.dst < n.margin.getD i 0 then 2 else 0
def netE (n : Net) : Int :=
  if n.nodes < 2 ∨ 32 < n.nodes then 2
  else if powerE n ≠ 0 then powerE n
  else if n.noise < 0 ∨ 68719476736 < n.noise ∨ n.thr < 1000 ∨ 100000 < n.thr then 2
  else if 128 < n.links.length then 8
  else if n.margin.length ≠ n.links.length then 11
  else firstE (linkE n) n.links.length
structure NetOk (n : Net) : Prop where
  nodes : 2 ≤ n.nodes ∧ n.nodes ≤ 32
  rows : (n.power.length : Int) = n.nodes
  row : ∀ r ∈ n.power, (r.length : Int) = n.nodes
  pow : ∀ r ∈ n.power, ∀ x ∈ r, 0 ≤ x ∧ x ≤ 68719476736
  noise : 0 ≤ n.noise ∧ n.noise ≤ 68719476736
  thr : 1000 ≤ n.thr ∧ n.thr ≤ 100000
  many : n.links.length ≤ 128
  mar : n.margin.length = n.links.length
  link : ∀ i l, n.links[i]? = some l → linkR n l = true ∧ linkO n i l = true ∧ 0 ≤ n.margin.getD i 0 ∧ n.margin.getD i 0 ≤ powAt n l.src l.dst
theorem powerE_ok {n : Net} (h : powerE n = 0) : (n.power.length : Int) = n.nodes ∧ (∀ r ∈ n.power, (r.length : Int) = n.nodes) ∧ ∀ r ∈ n.power, ∀ x ∈ r, 0 ≤ x ∧ x ≤ 68719476736 := by
  unfold powerE at h
  split at h
  · cases h
  · rename_i h1
    split at h
    · cases h
    · rename_i h2
      simp only [not_or, ne_eq, Decidable.not_not, Bool.not_eq_true, List.any_eq_false, bne_iff_ne] at h1 h2
      refine ⟨h1.1, h1.2, fun r hr x hx => ?_⟩
      have := h2 r hr x hx
      simp [badP] at this
      omega
theorem powAt_bd {n : Net} (h : ∀ r ∈ n.power, ∀ x ∈ r, 0 ≤ x ∧ x ≤ 68719476736) (a b : Int) : 0 ≤ powAt n a b ∧ powAt n a b ≤ 68719476736 := by
  unfold powAt
  rw [List.getD_eq_getElem?_getD, List.getD_eq_getElem?_getD]
  cases h1 : n.power[a.toNat]? with
  | none => simp
  | some r =>
    simp only [Option.getD_some]
    cases h2 : r[b.toNat]? with
    | none => simp
    | some x => exact h r (List.mem_of_getElem? h1) x (List.mem_of_getElem? h2)
theorem netE_ok {n : Net} (h : netE n = 0) : NetOk n := by
  unfold netE at h
  split at h
  · cases h
  split at h
  · contradiction
  split at h
  · cases h
  split at h
  · cases h
  split at h
  · cases h
  rename_i h1 h2 h3 h4 h5
  obtain ⟨p1, p2, p3⟩ := powerE_ok (Decidable.not_not.1 h2)
  refine ⟨by omega, p1, p2, p3, by omega, by omega, by omega, by omega, fun i l hl => ?_⟩
  have hi := (List.getElem?_eq_some_iff.1 hl).1
  have := firstE_spec.1 h i hi
  unfold linkE at this
  rw [hl] at this
  simp only at this
  split at this
  · cases this
  split at this
  · cases this
  split at this
  · cases this
  rename_i g1 g2 g3
  exact ⟨by simpa using g1, by simpa using g2, by omega, by omega⟩
theorem linkR_bd {n : Net} {l : Link} (h : linkR n l = true) : 0 ≤ l.src ∧ l.src < n.nodes ∧ 0 ≤ l.dst ∧ l.dst < n.nodes ∧ l.src ≠ l.dst ∧ 0 ≤ l.loss ∧ l.loss ≤ 7 := by
  simp [linkR, insB] at h; omega
theorem cmpI_lt {x y : Int} : cmpI x y < 0 ↔ x < y := by
  unfold cmpI
  by_cases h : x < y
  · simp [h]
  · by_cases h2 : y < x <;> simp [h, h2]
theorem cmpI_eq {x y : Int} : cmpI x y = 0 ↔ x = y := by
  unfold cmpI
  by_cases h : x < y
  · simp [h]; omega
  · by_cases h2 : y < x
    · simp [h, h2]; omega
    · simp [h, h2]; omega
theorem cmpI_bd (x y : Int) : -1 ≤ cmpI x y ∧ cmpI x y ≤ 1 := by
  unfold cmpI
  by_cases h : x < y
  · simp [h]
  · by_cases h2 : y < x <;> simp [h, h2]
theorem cmpL_bd : ∀ (xs ys : List Int), -1 ≤ cmpL xs ys ∧ cmpL xs ys ≤ 1
  | [], [] => by simp [cmpL]
  | [], _ :: _ => by simp [cmpL]
  | _ :: _, [] => by simp [cmpL]
  | x :: xs, y :: ys => by
    unfold cmpL
    split
    · exact cmpL_bd xs ys
    · exact cmpI_bd x y
theorem cmpL_eq : ∀ {xs ys : List Int}, cmpL xs ys = 0 ↔ xs = ys
  | [], [] => by simp [cmpL]
  | [], _ :: _ => by simp [cmpL]
  | _ :: _, [] => by simp [cmpL]
  | x :: xs, y :: ys => by
    unfold cmpL
    split
    · rename_i h
      rw [cmpI_eq] at h
      simp [h, cmpL_eq (xs := xs) (ys := ys)]
    · rename_i h
      have h2 : x ≠ y := fun e => h (cmpI_eq.2 e)
      simp [h, h2]
theorem cmpL_trans : ∀ {xs ys zs : List Int}, cmpL xs ys < 0 → cmpL ys zs < 0 → cmpL xs zs < 0
  | [], [], _, h, _ => by simp [cmpL] at h
  | [], _ :: _, [], _, h => by simp [cmpL] at h
  | [], _ :: _, _ :: _, _, _ => by simp [cmpL]
  | _ :: _, [], _, h, _ => by simp [cmpL] at h
  | _ :: _, _ :: _, [], _, h => by simp [cmpL] at h
  | x :: xs, y :: ys, z :: zs, h1, h2 => by
    unfold cmpL at h1 h2 ⊢
    split at h1
    · rename_i e1
      rw [cmpI_eq] at e1; subst e1
      split at h2
      · rename_i e2
        rw [if_pos e2]; exact cmpL_trans h1 h2
      · rename_i e2
        rw [if_neg e2]; exact h2
    · rename_i e1
      rw [cmpI_lt] at h1
      split at h2
      · rename_i e2
        rw [cmpI_eq] at e2; subst e2
        rw [if_neg (fun e => by rw [cmpI_eq] at e; omega), cmpI_lt]; exact h1
      · rename_i e2
        rw [cmpI_lt] at h2
        rw [if_neg (fun e => by rw [cmpI_eq] at e; omega), cmpI_lt]; omega
theorem cmpL_anti : ∀ {xs ys : List Int}, cmpL xs ys < 0 ↔ 0 < cmpL ys xs
  | [], [] => by simp [cmpL]
  | [], _ :: _ => by simp [cmpL]
  | _ :: _, [] => by simp [cmpL]
  | x :: xs, y :: ys => by
    unfold cmpL
    by_cases e : x = y
    · subst e
      rw [if_pos (cmpI_eq.2 rfl), if_pos (cmpI_eq.2 rfl)]; exact cmpL_anti
    · rw [if_neg (fun h => e (cmpI_eq.1 h)), if_neg (fun h => e (cmpI_eq.1 h).symm)]
      unfold cmpI
      by_cases h1 : x < y
      · have h2 : ¬ y < x := by omega
        simp [h1, h2]
      · have h2 : y < x := by omega
        simp [h1, h2]
def Sorted {α : Type} (c : α → α → Int) (l : List α) : Prop := ∀ (i j : Nat) (x y : α), i < j → l[i]? = some x → l[j]? = some y → c x y < 0
theorem sorted_of_next {α : Type} {key : α → List Int} {l : List α} (h : ∀ (j : Nat) (p x : α), l[j]? = some p → l[j + 1]? = some x → cmpL (key p) (key x) < 0) : Sorted (fun a b => cmpL (key a) (key b)) l := by
  intro i j x y hij hx hy
  induction j generalizing y with
  | zero => omega
  | succ j ih =>
    have hlt := (List.getElem?_eq_some_iff.1 hy).1
    have hj : l[j]? = some l[j] := List.getElem?_eq_getElem (by omega)
    rcases Nat.lt_succ_iff_lt_or_eq.1 hij with h1 | rfl
    · exact cmpL_trans (ih _ h1 hj) (h j _ y hj hy)
    · rw [hx] at hj; injection hj with hj
      exact h i x y hx hy
def posB {α : Type} (c : α → Int) (l : List α) : Nat := (l.takeWhile fun x => decide (c x < 0)).length
def hasB {α : Type} (c : α → Int) (l : List α) : Bool := match l[posB c l]? with
  | some x => c x == 0
  | none => false
def Mono {α : Type} (c : α → Int) (l : List α) : Prop := ∀ (i j : Nat) (x y : α), i < j → l[i]? = some x → l[j]? = some y → c y < 0 → c x < 0
theorem posB_lt {α : Type} {c : α → Int} : ∀ {l : List α} {i : Nat} {x : α}, i < posB c l → l[i]? = some x → c x < 0
  | [], _, _, h, _ => by simp [posB] at h
  | a :: l, i, x, h, hx => by
    unfold posB at h
    rw [List.takeWhile_cons] at h
    split at h
    · rename_i ha
      cases i with
      | zero => simp at hx; subst hx; simpa using ha
      | succ i => exact posB_lt (l := l) (by simpa [posB] using h) (by simpa using hx)
    · simp at h
theorem posB_ge {α : Type} {c : α → Int} : ∀ {l : List α} {x : α}, l[posB c l]? = some x → ¬ c x < 0
  | [], _, h => by simp [posB] at h
  | a :: l, x, h => by
    unfold posB at h
    rw [List.takeWhile_cons] at h
    split at h
    · exact posB_ge (l := l) (by simpa [posB] using h)
    · rename_i ha
      simp at h; subst h
      simpa using ha
theorem posB_le {α : Type} (c : α → Int) : ∀ l : List α, posB c l ≤ l.length
  | [] => by simp [posB]
  | a :: l => by
    unfold posB
    rw [List.takeWhile_cons]
    split
    · simpa [posB] using posB_le c l
    · simp
theorem posB_uniq {α : Type} {c : α → Int} {l : List α} {p : Nat} (hp : p ≤ l.length) (h1 : ∀ i x, i < p → l[i]? = some x → c x < 0) (h2 : ∀ x, l[p]? = some x → ¬ c x < 0) : posB c l = p := by
  rcases Nat.lt_trichotomy (posB c l) p with h | h | h
  · have hlt : posB c l < l.length := by omega
    exact absurd (h1 _ _ h (List.getElem?_eq_getElem hlt)) (posB_ge (List.getElem?_eq_getElem hlt))
  · exact h
  · have hlt : p < l.length := by have := posB_le c l; omega
    exact absurd (posB_lt h (List.getElem?_eq_getElem hlt)) (h2 _ (List.getElem?_eq_getElem hlt))
def isL (a b : Int) (l : Link) : Bool := l.src == a && l.dst == b
def findL (n : Net) (a b : Int) : Int := idxF (isL a b) n.links
def lossL (n : Net) (a b : Int) : Int := match n.links[(findL n a b).toNat]? with
  | some l => l.loss
  | none => 0
def cmpTo (a b : Int) (l : Link) : Int := cmpL l.key [a, b]
theorem cmpTo_eq {a b : Int} {l : Link} : cmpTo a b l = 0 ↔ isL a b l = true := by
  unfold cmpTo Link.key isL
  rw [cmpL_eq]; simp
theorem NetOk.sorted {n : Net} (h : NetOk n) : Sorted Link.cmp n.links := by
  refine sorted_of_next (key := Link.key) fun j p x hp hx => ?_
  have := (h.link (j + 1) x hx).2.1
  unfold linkO at this
  simp only [hp] at this
  exact of_decide_eq_true this
theorem NetOk.mono {n : Net} (h : NetOk n) (a b : Int) : Mono (cmpTo a b) n.links := fun i j x y hij hx hy hc => cmpL_trans (h.sorted i j x y hij hx hy) hc
theorem idxF_at {α : Type} {p : α → Bool} {l : List α} (h : idxF p l ≠ -1) : ∃ (k : Nat) (x : α), idxF p l = k ∧ l[k]? = some x ∧ p x = true := by
  unfold idxF at h ⊢
  cases ha : l.any p with
  | false => simp [ha] at h
  | true =>
    simp only [if_true]
    have hlt : l.findIdx p < l.length := List.findIdx_lt_length_of_exists (by simpa [List.any_eq_true] using ha)
    exact ⟨_, l[l.findIdx p], rfl, List.getElem?_eq_getElem hlt, List.findIdx_getElem⟩
theorem find_half {n : Net} (h : NetOk n) (a b : Int) : (if hasB (cmpTo a b) n.links then (posB (cmpTo a b) n.links : Int) else -1) = findL n a b := by
  have hs := h.mono a b
  unfold findL hasB
  cases hp : n.links[posB (cmpTo a b) n.links]? with
  | none =>
    simp only [Bool.false_eq_true, if_false]
    symm
    refine idxF_none fun j y hj hy => ?_
    have : ¬ posB (cmpTo a b) n.links < n.links.length := fun hh => by rw [List.getElem?_eq_getElem hh] at hp; cases hp
    have h1 := posB_lt (c := cmpTo a b) (l := n.links) (i := j) (by omega) hy
    cases e : isL a b y with
    | false => rfl
    | true => rw [cmpTo_eq.2 e] at h1; omega
  | some x =>
    simp only
    by_cases e : cmpTo a b x = 0
    · rw [if_pos (by simpa using e)]
      symm
      have hlt := (List.getElem?_eq_some_iff.1 hp).1
      refine idxF_some hlt (fun j y hj hy => ?_) hp (cmpTo_eq.1 e)
      have h1 := posB_lt hj hy
      cases e2 : isL a b y with
      | false => rfl
      | true => rw [cmpTo_eq.2 e2] at h1; omega
    · rw [if_neg (by simpa using e)]
      symm
      refine idxF_none fun j y hj hy => ?_
      cases e2 : isL a b y with
      | false => rfl
      | true =>
        have h0 := cmpTo_eq.2 e2
        have hx := posB_ge hp
        rcases Nat.lt_trichotomy j (posB (cmpTo a b) n.links) with hlt | rfl | hgt
        · have := posB_lt hlt hy; omega
        · rw [hp] at hy; injection hy with hy; subst hy; exact absurd h0 e
        · have h2 := h.sorted _ _ x y hgt hp hy
          have h3 : y.key = [a, b] := cmpL_eq.1 h0
          unfold Link.cmp at h2
          rw [h3] at h2
          exact absurd h2 hx
def heardB (n : Net) (s d : Int) : Bool := decide (n.thr * (n.noise + d) ≤ s * 1000)
def heardAt (n : Net) (i : Int) : Bool := heardB n (n.margin.getD i.toNat 0) 0
def goodL (n : Net) (a b : Int) : Bool := decide (0 ≤ findL n a b) && decide (0 ≤ findL n b a) && heardAt n (findL n a b) && heardAt n (findL n b a)
def usableL (n : Net) (i : Int) : Bool := match n.links[i.toNat]? with
  | some l => decide (0 ≤ findL n l.dst l.src) && heardAt n i && heardAt n (findL n l.dst l.src)
  | none => false
def usableN (n : Net) (i : Int) : Bool := decide (netE n = 0) && insB i n.links.length && usableL n i
def indexN (n : Net) (a b : Int) : Int := if netE n = 0 then findL n a b else -1
theorem findL_at {n : Net} {a b : Int} (h : 0 ≤ findL n a b) : ∃ (k : Nat) (l : Link), findL n a b = k ∧ n.links[k]? = some l ∧ l.src = a ∧ l.dst = b := by
  obtain ⟨k, l, h1, h2, h3⟩ := idxF_at (p := isL a b) (l := n.links) (by unfold findL at h; omega)
  simp [isL] at h3
  exact ⟨k, l, h1, h2, h3.1, h3.2⟩
theorem findL_bd (n : Net) (a b : Int) : -1 ≤ findL n a b ∧ findL n a b < n.links.length := by
  unfold findL idxF
  split
  · rename_i h
    have : n.links.findIdx (isL a b) < n.links.length := List.findIdx_lt_length_of_exists (by simpa [List.any_eq_true] using h)
    omega
  · omega
theorem usable_index {n : Net} (h : netE n = 0) (a b : Int) : usableN n (indexN n a b) = goodL n a b := by
  unfold usableN indexN goodL
  rw [if_pos h]
  have hb := findL_bd n a b
  by_cases h0 : 0 ≤ findL n a b
  · obtain ⟨k, l, h1, h2, h3, h4⟩ := findL_at h0
    have hins : insB (findL n a b) n.links.length = true := by simp [insB]; omega
    rw [hins]
    unfold usableL
    rw [h1, Int.toNat_natCast, h2]
    simp only [h3, h4, h, decide_true, Bool.true_and]
    simp [Bool.and_comm]
  · have : insB (findL n a b) n.links.length = false := by simp [insB, h0]
    simp [this, h0]
def flowE (nodes : Int) (f : Flow) : Int :=
  if f.id < 0 ∨ 255 < f.id ∨ insB f.src nodes = false ∨ insB f.dst nodes = false then 2
  else if f.period < 1 ∨ 512 < f.period ∨ f.phase < 0 ∨ f.period ≤ f.phase ∨ f.dead < 1 ∨ f.period < f.dead then 2
  else if f.src = f.dst then 1 else 0
def flowO (l : List Flow) (i : Nat) (f : Flow) : Bool := match i with
  | 0 => true
  | j + 1 => match l[j]? with
    | some p => decide (p.id < f.id)
    | none => true
def flowAt (nodes : Int) (l : List Flow) (i : Nat) : Int := match l[i]? with
  | none => 0
  | some f => if flowE nodes f ≠ 0 then flowE nodes f else if flowO l i f = false then 5 else 0
def firstAt (f : Nat → Int) (n : Nat) : Int × Int := match (List.range n).find? (fun i => f i != 0) with
  | some i => (i, f i)
  | none => (-1, 0)
theorem firstAt_hit {f : Nat → Int} {n k : Nat} (h0 : ∀ j, j < k → f j = 0) (he : f k ≠ 0) (hk : k < n) : firstAt f n = ((k : Int), f k) := by
  unfold firstAt
  have : (List.range n).find? (fun i => f i != 0) = some k := by
    rw [List.find?_range_eq_some]
    exact ⟨by simpa using he, by simpa using hk, fun j hj => by simp [h0 j hj]⟩
  rw [this]
theorem firstAt_zero {f : Nat → Int} {n : Nat} (h0 : ∀ j, j < n → f j = 0) : firstAt f n = (-1, 0) := by
  unfold firstAt
  have : (List.range n).find? (fun i => f i != 0) = none := by
    rw [List.find?_eq_none]
    intro j hj
    simp [h0 j (by simpa using hj)]
  rw [this]
theorem firstAt_ok {f : Nat → Int} {n : Nat} : (firstAt f n).2 = 0 ↔ ∀ j, j < n → f j = 0 := by
  unfold firstAt
  cases h : (List.range n).find? (fun i => f i != 0) with
  | none =>
    simp only [true_iff]
    rw [List.find?_eq_none] at h
    intro j hj
    simpa using h j (by simpa using hj)
  | some i =>
    rw [List.find?_range_eq_some] at h
    simp only
    constructor
    · intro h2; simp [h2] at h
    · intro h2; exact h2 i (by simpa using h.2.1)
def flowsE (nodes : Int) (l : List Flow) : Int × Int :=
  if nodes < 2 ∨ 32 < nodes then (-1, 2) else if 16 < l.length then (-1, 8) else firstAt (flowAt nodes l) l.length
theorem flowE_ok {nodes : Int} {f : Flow} (h : flowE nodes f = 0) : 0 ≤ f.id ∧ f.id ≤ 255 ∧ 0 ≤ f.src ∧ f.src < nodes ∧ 0 ≤ f.dst ∧ f.dst < nodes ∧ 1 ≤ f.period ∧ f.period ≤ 512 ∧ 0 ≤ f.phase ∧ f.phase < f.period ∧ 1 ≤ f.dead ∧ f.dead ≤ f.period ∧ f.src ≠ f.dst := by
  unfold flowE at h
  split at h
  · cases h
  split at h
  · cases h
  split at h
  · cases h
  rename_i h1 h2 h3
  simp [insB] at h1 h2
  omega
def endsE (n : Net) (a b : Int) : Int := if netE n ≠ 0 then 1 else if insB a n.nodes = false ∨ insB b n.nodes = false ∨ a = b then 2 else 0
def dupAt (r : List Int) (i : Nat) : Bool := match r[i]? with
  | some a => (r.take i).any (· == a)
  | none => false
def hopOk (n : Net) (r : List Int) (i : Nat) : Bool := goodL n (r.getD i 0) (r.getD (i + 1) 0)
def routeF (n : Net) (a b : Int) (r : List Int) : Int :=
  if r.length < 2 then 9 else if 9 < r.length then 8
  else if r.any (fun x => !insB x n.nodes) then 2
  else if r.getD 0 0 ≠ a ∨ r.getD (r.length - 1) 0 ≠ b then 11
  else if (List.range r.length).any (dupAt r) then 6
  else if (List.range (r.length - 1)).all (hopOk n r) then 0 else 17
def routeE (n : Net) (a b : Int) (r : List Int) : Int := if endsE n a b ≠ 0 then endsE n a b else routeF n a b r
end HM
namespace HM
open Go Go.RowKit
structure EncOk {α : Type} (enc : α → AV) (sz : Nat) : Prop where
  agg : ∀ x, enc x = .agg (enc x).cells
  len : ∀ x, (enc x).cells.length = sz
  fz : ∀ x, fzs (enc x).cells = some (enc x).cells
  cell : ∀ x, (enc x).cells.all AV.isCell = true
  two : 2 ≤ sz
theorem scalars_append : ∀ a b : List AV, scalars (a ++ b) = (scalars a && scalars b)
  | [], b => by simp [scalars]
  | x :: a, b => by simp [scalars, scalars_append a b, Bool.and_assoc]
section
variable {α : Type} {enc : α → AV} {sz : Nat}
theorem EncOk.els (h : EncOk enc sz) (l : List α) : Els sz (l.map enc) := Els.map fun x => ⟨h.len x, h.cell x⟩
theorem EncOk.scal (h : EncOk enc sz) (hs : ∀ x, scalars (enc x).cells = true) : ∀ l : List α, scalars (flatE (l.map enc)) = true
  | [] => rfl
  | x :: l => by
    have := EncOk.scal h hs l
    simp only [flatE, List.map_cons, List.flatMap_cons, scalars_append] at this ⊢
    rw [hs x, this]; rfl
theorem EncOk.flen (h : EncOk enc sz) (l : List α) : (flatE (l.map enc)).length = l.length * sz := by
  have := flatE_len (sz := sz) (es := l.map enc) (by
    intro e he
    obtain ⟨x, _, rfl⟩ := List.mem_map.1 he
    exact h.len x)
  simpa using this
theorem EncOk.ld (h : EncOk enc sz) : ∀ {l : List α} {k : Nat} {x : α} (ex : List AV), l[k]? = some x → ((flatE (l.map enc) ++ ex).drop (k * sz)).take sz = (enc x).cells
  | [], _, _, _, hk => by simp at hk
  | y :: l, 0, x, ex, hk => by
    simp at hk; subst hk
    simp only [flatE, List.map_cons, List.flatMap_cons, Nat.zero_mul, List.drop_zero, List.append_assoc]
    rw [← h.len y]; simp
  | y :: l, k + 1, x, ex, hk => by
    have := EncOk.ld h (l := l) ex (by simpa using hk)
    simp only [flatE, List.map_cons, List.flatMap_cons, List.append_assoc] at this ⊢
    rw [Nat.add_mul, Nat.one_mul, Nat.add_comm, ← List.drop_drop]
    have e : ((enc y).cells ++ (List.flatMap AV.cells (l.map enc) ++ ex)).drop sz = List.flatMap AV.cells (l.map enc) ++ ex := by
      rw [← h.len y]; simp
    rw [e]; exact this
theorem EncOk.ldr (h : EncOk enc sz) {l : List α} {k : Nat} {x : α} (ex : List AV) (hk : l[k]? = some x) (n n' : Nat) (hn : n = sz) (hn' : n' = sz) : ((flatE (l.map enc) ++ ex).drop (0 + (k : Int).toNat * n)).take n' = (enc x).cells := by
  subst hn; subst hn'; rw [Nat.zero_add, Int.toNat_natCast]; exact h.ld ex hk
theorem splice_append_left : ∀ (a b c : List AV) (n : Nat), splice (a ++ b) (a.length + n) c = a ++ splice b n c
  | [], b, c, n => by simp
  | x :: a, b, c, n => by
    rw [List.cons_append, List.length_cons, show a.length + 1 + n = (a.length + n) + 1 by omega, splice, splice_append_left a b c n, List.cons_append]
theorem splice_head : ∀ (a b c : List AV), c.length = a.length → splice (a ++ b) 0 c = c ++ b
  | [], b, [], _ => by simp [splice_nil]
  | [], _, _ :: _, h => by simp at h
  | _ :: _, _, [], h => by simp at h
  | x :: a, b, y :: c, h => by
    have := splice_head a b c (by simpa using h)
    simp only [List.cons_append, splice, this]
theorem EncOk.st (h : EncOk enc sz) (v : α) (ex : List AV) : ∀ {l : List α} {k : Nat}, k < l.length → splice (flatE (l.map enc) ++ ex) (k * sz) (enc v).cells = flatE ((l.set k v).map enc) ++ ex
  | [], _, hk => by simp at hk
  | y :: l, 0, _ => by
    simp only [flatE, List.map_cons, List.flatMap_cons, Nat.zero_mul, List.set_cons_zero, List.append_assoc]
    exact splice_head _ _ _ (by rw [h.len, h.len])
  | y :: l, k + 1, hk => by
    have := EncOk.st h v ex (l := l) (k := k) (by simpa using hk)
    simp only [flatE, List.map_cons, List.flatMap_cons, List.set_cons_succ, List.append_assoc] at this ⊢
    rw [Nat.add_mul, Nat.one_mul, Nat.add_comm]
    have e := splice_append_left (enc y).cells (List.flatMap AV.cells (l.map enc) ++ ex) (enc v).cells (k * sz)
    rw [h.len y] at e
    rw [e, this]
theorem fzs_append : ∀ {a b a' b' : List AV}, fzs a = some a' → fzs b = some b' → fzs (a ++ b) = some (a' ++ b')
  | [], _, a', _, h, hb => by simp [fzs] at h; subst h; simpa using hb
  | x :: a, b, a', b', h, hb => by
    simp only [fzs] at h
    split at h
    · rename_i y ys h1 h2
      simp at h; subst h
      simp only [List.cons_append, fzs, h1, fzs_append h2 hb]
    · cases h
theorem EncOk.fzf (h : EncOk enc sz) : ∀ l : List α, fzs (flatE (l.map enc)) = some (flatE (l.map enc))
  | [] => rfl
  | x :: l => by
    have := EncOk.fzf h l
    simp only [flatE, List.map_cons, List.flatMap_cons] at this ⊢
    exact fzs_append (h.fz x) this
theorem EncOk.chunk (h : EncOk enc sz) : ∀ l : List α, chunkA sz l.length (flatE (l.map enc)) = l.map enc
  | [] => rfl
  | x :: l => by
    have := EncOk.chunk h l
    simp only [flatE, List.map_cons, List.flatMap_cons, List.length_cons, chunkA] at this ⊢
    rw [show ((enc x).cells ++ List.flatMap AV.cells (l.map enc)).take sz = (enc x).cells from by rw [← h.len x]; simp, show ((enc x).cells ++ List.flatMap AV.cells (l.map enc)).drop sz = List.flatMap AV.cells (l.map enc) from by rw [← h.len x]; simp, this, ← h.agg x]
theorem EncOk.fzb (h : EncOk enc sz) {S : St} {id n : Nat} {l : List α} {ex : List AV} {t : TypeId} (hb : S.bx[id]? = some (.cells (flatE (l.map enc) ++ ex) t)) (hn : l.length = n) : HM.fzb S (.vsl id 0 n sz) = some (.sl false (l.map enc)) := by
  subst hn
  have h2 := h.two
  have hfl := h.flen l
  have htake : ((flatE (l.map enc) ++ ex).drop 0).take (l.length * sz) = flatE (l.map enc) := by rw [List.drop_zero, ← hfl]; exact List.take_left
  simp only [HM.fzb, hb]
  rw [if_pos ⟨by rw [List.length_append, hfl, Nat.zero_add]; exact Nat.le_add_right _ _, by omega⟩, htake, h.fzf l]
  simp only [Option.bind_some]
  have hne : ¬ sz = 1 := by omega
  rw [if_pos (flatE_cell (h.els l)), if_neg hne, h.chunk l]
theorem EncOk.fit (h : EncOk enc sz) {l : List α} (ex : List AV) {k : Nat} (hk : k < l.length) : k * sz + sz ≤ (flatE (l.map enc) ++ ex).length := by
  rw [List.length_append, h.flen, ← Nat.succ_mul]
  exact Nat.le_trans (Nat.mul_le_mul_right _ hk) (Nat.le_add_right _ _)
theorem EncOk.okk (h : EncOk enc sz) (k m : Nat) (l : List α) : okks k m (flatE (l.map enc)) := fzs_okk (h.fzf l)
theorem okks_append {k m : Nat} : ∀ {a b : List AV}, okks k m a → okks k m b → okks k m (a ++ b)
  | [], _, _, h => h
  | _ :: _, _, h, h' => ⟨h.1, okks_append h.2 h'⟩
theorem okks_undef (k m : Nat) : ∀ n, okks k m (List.replicate n .undef)
  | 0 => trivial
  | n + 1 => ⟨trivial, okks_undef k m n⟩
theorem EncOk.clr (h : EncOk enc sz) (l : List α) {k : Nat} (ex : List AV) (zs : List AV) (hk : k ≤ l.length) (hz : zs.length = sz) : splice (flatE (l.map enc) ++ ex) (k * sz) (repL (l.length - k) zs) = flatE ((l.take k).map enc) ++ (repL (l.length - k) zs ++ ex) := by
  have e1 : flatE (l.map enc) = flatE ((l.take k).map enc) ++ flatE ((l.drop k).map enc) := by
    conv => lhs; rw [← List.take_append_drop k l]
    simp only [flatE, List.map_append, List.flatMap_append]
  have e2 : (flatE ((l.take k).map enc)).length = k * sz := by rw [h.flen, List.length_take, Nat.min_eq_left hk]
  have e3 := splice_append_left (flatE ((l.take k).map enc)) (flatE ((l.drop k).map enc) ++ ex) (repL (l.length - k) zs) 0
  rw [e2, Nat.add_zero] at e3
  rw [e1, List.append_assoc, e3, splice_head _ _ _ (by rw [repL_len, h.flen, hz, List.length_drop])]
theorem EncOk.clr' (h : EncOk enc sz) {l : List α} {k : Nat} (ex zs : List AV) (n m : Nat) (hn : n = sz) (hm : m = l.length - k) (hk : k ≤ l.length) (hz : zs.length = sz) : splice (flatE (l.map enc) ++ ex) (0 + (k : Int).toNat * n) (repL m zs) = flatE ((l.take k).map enc) ++ (repL m zs ++ ex) := by
  subst hn; subst hm; rw [Nat.zero_add, Int.toNat_natCast]; exact h.clr l ex zs hk hz
theorem EncOk.headLe (h : EncOk enc sz) {l : List α} {k : Nat} (ex : List AV) (n : Nat) (hn : n = sz) (hk : k ≤ l.length) : 0 + (k : Int).toNat * n ≤ (flatE ((l.take k).map enc) ++ ex).length := by
  subst hn
  rw [List.length_append, h.flen, Int.toNat_natCast, Nat.zero_add, List.length_take, Nat.min_eq_left hk]
  exact Nat.le_add_right _ _
end
theorem cellOk : EncOk Cell.av 5 := ⟨fun _ => rfl, fun _ => rfl, fun _ => rfl, fun _ => rfl, by decide⟩
theorem fz2 {S : St} {a a' : AV} {b b' : List AV} (h : fzb S a = some a') (h2 : fzbs S b = some b') : fzbs S (a :: b) = some (a' :: b') := by simp only [fzbs, h, h2]
theorem fzf1 {S : St} {g : Nat} {c c' : List AV} (h : fzbs S c = some c') : fzbs S [.fn g c] = some [.fn g c'] := by simp only [fzbs, fzb, h, Option.map_some]
structure Kept {α : Type} (p : α → Bool) (l a : List α) (i j : Nat) : Prop where
  len : a.length = l.length
  ij : i ≤ j ∧ j ≤ l.length
  hd : a.take i = (l.take j).filter fun x => !p x
  tl : a.drop j = l.drop j
theorem Kept.skip {α : Type} {p : α → Bool} {l a : List α} {i j : Nat} {x : α} (h : Kept p l a i j) (hx : l[j]? = some x) (hp : p x = true) : Kept p l a i (j + 1) := by
  have hlt := (List.getElem?_eq_some_iff.1 hx).1
  refine ⟨h.len, ⟨by have := h.ij; omega, by omega⟩, ?_, ?_⟩
  · rw [h.hd, take_succ hx, List.filter_append]; simp [hp]
  · have := congrArg (List.drop 1) h.tl
    simpa [List.drop_drop] using this
theorem Kept.keep {α : Type} {p : α → Bool} {l a : List α} {i j : Nat} {x : α} (h : Kept p l a i j) (hx : l[j]? = some x) (hp : p x = false) : Kept p l (a.set i x) (i + 1) (j + 1) := by
  have hlt := (List.getElem?_eq_some_iff.1 hx).1
  have h1 := h.len
  have h2 := h.ij
  refine ⟨by simpa using h.len, ⟨by omega, by omega⟩, ?_, ?_⟩
  · have e : (a.set i x)[i]? = some x := by rw [List.getElem?_set, if_pos rfl, if_pos (by omega)]
    rw [take_succ e, List.take_set_of_le (Nat.le_refl _), h.hd, take_succ hx, List.filter_append]; simp [hp]
  · rw [List.drop_set_of_lt (by omega)]
    have := congrArg (List.drop 1) h.tl
    simpa [List.drop_drop] using this
theorem Kept.get {α : Type} {p : α → Bool} {l a : List α} {i j : Nat} {x : α} (h : Kept p l a i j) (hx : l[j]? = some x) : a[j]? = some x := by
  have := congrArg (·[0]?) h.tl
  simp only [List.getElem?_drop, Nat.add_zero] at this
  rw [this, hx]
theorem Kept.start {α : Type} {p : α → Bool} {l : List α} {k : Nat} {x : α} (hk : l[k]? = some x) (hp : p x = true) (hb : ∀ (j : Nat) (y : α), j < k → l[j]? = some y → p y = false) : Kept p l l k (k + 1) := by
  have hlt := (List.getElem?_eq_some_iff.1 hk).1
  refine ⟨rfl, ⟨by omega, by omega⟩, ?_, rfl⟩
  rw [take_succ hk, List.filter_append]
  have e : (l.take k).filter (fun x => !p x) = l.take k := by
    rw [List.filter_eq_self]
    intro y hy
    obtain ⟨j, hj⟩ := List.getElem?_of_mem hy
    rw [List.getElem?_take] at hj
    split at hj
    · rename_i hlt2; simp [hb j y hlt2 hj]
    · cases hj
  rw [e]; simp [hp]
theorem Kept.fin {α : Type} {p : α → Bool} {l a : List α} {i : Nat} (h : Kept p l a i l.length) : a.take i = l.filter fun x => !p x := by
  have := h.hd
  rwa [List.take_length] at this
theorem idxF_none_iff {α : Type} {p : α → Bool} {l : List α} (h : idxF p l = -1) : ∀ (j : Nat) (y : α), l[j]? = some y → p y = false := by
  intro j y hy
  unfold idxF at h
  cases ha : l.any p with
  | true => simp [ha] at h <;> omega
  | false =>
    rw [List.any_eq_false] at ha
    simpa using ha y (List.mem_of_getElem? hy)
theorem idxF_first {α : Type} {p : α → Bool} {l : List α} {k : Nat} (h : idxF p l = (k : Int)) : ∃ x, l[k]? = some x ∧ p x = true ∧ ∀ (j : Nat) (y : α), j < k → l[j]? = some y → p y = false := by
  unfold idxF at h
  cases ha : l.any p with
  | false => simp [ha] at h <;> omega
  | true =>
    simp only [ha, if_true] at h
    have hk : l.findIdx p = k := by omega
    have hlt : l.findIdx p < l.length := List.findIdx_lt_length_of_exists (by simpa [List.any_eq_true] using ha)
    subst hk
    refine ⟨l[l.findIdx p], List.getElem?_eq_getElem hlt, List.findIdx_getElem, fun j y hj hy => ?_⟩
    have := List.not_of_lt_findIdx hj
    obtain ⟨hjl, rfl⟩ := List.getElem?_eq_some_iff.1 hy
    simpa using this
theorem EncOk.push {α : Type} {enc : α → AV} {sz : Nat} (h : EncOk enc sz) (l : List α) (x : α) (d : Nat) (hr : (l.length + 1) * sz ≤ (flatE (l.map enc) ++ List.replicate (d * sz) AV.undef).length) : splice (flatE (l.map enc) ++ List.replicate (d * sz) .undef) (l.length * sz) (enc x).cells = flatE ((l ++ [x]).map enc) ++ List.replicate ((d - 1) * sz) .undef := by
  have hfl := h.flen l
  have hx := h.len x
  rw [List.length_append, hfl, List.length_replicate, Nat.add_mul] at hr
  rw [splice_eq _ _ _ (by rw [List.length_append, hfl, List.length_replicate, hx]; omega), ← hfl, List.take_left, List.drop_append, hfl, hx, List.drop_eq_nil_of_le (by rw [hfl]; omega), List.nil_append, List.map_append, List.drop_replicate]
  congr 1
  · simp [flatE]
  · congr 1
    rw [Nat.sub_mul]; omega
theorem EncOk.cut {α : Type} {enc : α → AV} {sz : Nat} (h : EncOk enc sz) (l : List α) (ex : List AV) : (flatE (l.map enc) ++ ex).take (l.length * sz) = flatE (l.map enc) := by
  rw [← h.flen l, List.take_left]
end HM
namespace HM
open Go Go.RowKit
structure Way where
  n : Net
  s : Sched
  f : Flow
  r : List Int
  more : Int
def Way.cs (w : Way) : List AV := [.int .i64 w.n.nodes, encRows w.n.power, .int .i64 w.n.noise, .int .i64 w.n.thr, encLinks w.n.links, encIs w.n.margin, .int .i64 w.s.len, .int .i64 w.s.offs, encCells w.s.cells, .int .i64 w.f.id, .int .i64 w.f.src, .int .i64 w.f.dst, .int .i64 w.f.period, .int .i64 w.f.phase, .int .i64 w.f.dead, encIs w.r, .int .i64 w.more]
def Way.av (w : Way) : AV := .agg [.int .i64 w.n.nodes, encRows w.n.power, .int .i64 w.n.noise, .int .i64 w.n.thr, encLinks w.n.links, encIs w.n.margin, .int .i64 w.s.len, .int .i64 w.s.offs, encCells w.s.cells, .int .i64 w.f.id, .int .i64 w.f.src, .int .i64 w.f.dst, .int .i64 w.f.period, .int .i64 w.f.phase, .int .i64 w.f.dead, encIs w.r, .int .i64 w.more]
def wayE (n : Net) (s : Sched) (f : Flow) (r : List Int) : Int :=
  if netE n ≠ 0 ∨ formB s = false ∨ flowE n.nodes f ≠ 0 then 1
  else if s.len % f.period ≠ 0 then 11
  else routeE n f.src f.dst r
def offL (id a b : Int) (c : Cell) : Bool := (c.flow != id) || (c.src != a) || (c.dst != b)
def cellsL (s : Sched) (f : Flow) (a b : Int) : List Cell := s.cells.filter fun c => !offL f.id a b c
def allS (cs : List Cell) (len a : Int) : Nat → List Int
  | 0 => []
  | d + 1 => allS cs len a d ++ ((cs.filter fun c => c.slot == (a + d) % len).map fun _ => a + (d : Int))
def partS (cs : List Cell) (len a : Int) (d j : Nat) : List Int := allS cs len a d ++ (((cs.take j).filter fun c => c.slot == (a + d) % len).map fun _ => a + (d : Int))
theorem partS_zero (cs : List Cell) (len a : Int) (d : Nat) : partS cs len a d 0 = allS cs len a d := by simp [partS]
theorem partS_all (cs : List Cell) (len a : Int) (d : Nat) : partS cs len a d cs.length = allS cs len a (d + 1) := by simp [partS, allS]
theorem partS_hit {cs : List Cell} {len a : Int} {d j : Nat} {c : Cell} (h : cs[j]? = some c) (hm : c.slot = (a + d) % len) : partS cs len a d (j + 1) = partS cs len a d j ++ [a + (d : Int)] := by
  unfold partS
  rw [take_succ h, List.filter_append, List.map_append, List.append_assoc]
  simp [hm]
theorem partS_miss {cs : List Cell} {len a : Int} {d j : Nat} {c : Cell} (h : cs[j]? = some c) (hm : c.slot ≠ (a + d) % len) : partS cs len a d (j + 1) = partS cs len a d j := by
  unfold partS
  rw [take_succ h, List.filter_append]
  simp [hm]
theorem allS_mem {cs : List Cell} {len a : Int} : ∀ {d : Nat} {x : Int}, x ∈ allS cs len a d → a ≤ x ∧ x < a + d
  | 0, _, h => by simp [allS] at h
  | d + 1, x, h => by
    simp only [allS, List.mem_append, List.mem_map] at h
    rcases h with h | ⟨_, _, rfl⟩
    · have := allS_mem h; omega
    · omega
theorem allS_prefix (cs : List Cell) (len a : Int) {d e : Nat} (h : d ≤ e) : ∃ t, allS cs len a e = allS cs len a d ++ t := by
  induction e with
  | zero => exact ⟨[], by have : d = 0 := by omega
                          subst this; simp⟩
  | succ e ih =>
    rcases Nat.lt_or_ge d (e + 1) with hlt | hge
    · obtain ⟨t, ht⟩ := ih (by omega)
      exact ⟨t ++ _, by rw [allS, ht, List.append_assoc]⟩
    · have : d = e + 1 := by omega
      subst this; exact ⟨[], by simp⟩
theorem take_prefix {α : Type} {l t : List α} {n : Nat} (h : n ≤ l.length) : (l ++ t).take n = l.take n := by
  rw [List.take_append_of_le_length h]
def slotsOn (s : Sched) (f : Flow) (a b : Int) (need : Nat) (at_ stop : Int) : List Int := (allS (cellsL s f a b) s.len at_ (stop - at_).toNat).take need
def nextA (at_ : Int) (l : List Int) : Int := match l.getLast? with
  | some x => x + 1
  | none => at_
def linkAt (n : Net) (r : List Int) (i : Nat) : Link := (n.links[(findL n (r.getD i 0) (r.getD (i + 1) 0)).toNat]?).getD ⟨0, 0, 0⟩
def needAt (n : Net) (r : List Int) (more : Int) (i : Nat) : Nat := ((linkAt n r i).loss + 1 + more).toNat
def slotsUp (n : Net) (s : Sched) (f : Flow) (r : List Int) (rel more : Int) : Nat → Option (List Int × Int)
  | 0 => some ([], rel)
  | k + 1 => match slotsUp n s f r rel more k with
    | none => none
    | some (o, a) =>
      let h := slotsOn s f (r.getD k 0) (r.getD (k + 1) 0) (needAt n r more k) a (rel + f.period)
      if h.length < needAt n r more k then none else some (o ++ h, nextA a h)
def slotsW (n : Net) (s : Sched) (f : Flow) (r : List Int) (rel more : Int) : Option (List Int) := (slotsUp n s f r rel more (r.length - 1)).map (·.1)
def needUp (n : Net) (r : List Int) (more : Int) : Nat → Nat
  | 0 => 0
  | k + 1 => needUp n r more k + needAt n r more k
theorem slotsOn_le (s : Sched) (f : Flow) (a b : Int) (need : Nat) (at_ stop : Int) : (slotsOn s f a b need at_ stop).length ≤ need := by
  unfold slotsOn; rw [List.length_take]; omega
theorem slotsOn_mem {s : Sched} {f : Flow} {a b : Int} {need : Nat} {at_ stop : Int} {x : Int} (h : x ∈ slotsOn s f a b need at_ stop) : at_ ≤ x ∧ x < stop := by
  have := allS_mem (List.mem_of_mem_take h)
  omega
theorem slotsUp_ok {n : Net} {s : Sched} {f : Flow} {r : List Int} {rel more : Int} (hp : 0 ≤ f.period) : ∀ {k : Nat} {o : List Int} {a : Int}, slotsUp n s f r rel more k = some (o, a) → o.length = needUp n r more k ∧ rel ≤ a ∧ a ≤ rel + f.period ∧ ∀ x ∈ o, rel ≤ x ∧ x < rel + f.period
  | 0, o, a, h => by simp [slotsUp] at h; obtain ⟨rfl, rfl⟩ := h; simp [needUp]; omega
  | k + 1, o, a, h => by
    unfold slotsUp at h
    split at h
    · cases h
    · rename_i o' a' h'
      obtain ⟨h1, h2, h3, h4⟩ := slotsUp_ok hp h'
      simp only at h
      split at h
      · cases h
      · rename_i hlen
        injection h with h; injection h with e1 e2
        subst e1; subst e2
        have hle := slotsOn_le s f (r.getD k 0) (r.getD (k + 1) 0) (needAt n r more k) a' (rel + f.period)
        have hm : ∀ x ∈ slotsOn s f (r.getD k 0) (r.getD (k + 1) 0) (needAt n r more k) a' (rel + f.period), a' ≤ x ∧ x < rel + f.period := fun x hx => slotsOn_mem hx
        refine ⟨by rw [List.length_append, h1, needUp]; omega, ?_, ?_, fun x hx => ?_⟩
        · unfold nextA; split
          · rename_i y hy
            have := hm y (List.mem_of_getLast? hy); omega
          · omega
        · unfold nextA; split
          · rename_i y hy
            have := hm y (List.mem_of_getLast? hy); omega
          · omega
        · rcases List.mem_append.1 hx with hx | hx
          · exact h4 x hx
          · have := hm x hx; omega
theorem slotsUp_none {n : Net} {s : Sched} {f : Flow} {r : List Int} {rel more : Int} {k : Nat} (h : slotsUp n s f r rel more k = none) : ∀ {m : Nat}, k ≤ m → slotsUp n s f r rel more m = none
  | 0, hm => by have : k = 0 := by omega
                subst this; exact h
  | m + 1, hm => by
    rcases Nat.lt_or_ge m k with hlt | hge
    · have : k = m + 1 := by omega
      subst this; exact h
    · unfold slotsUp; rw [slotsUp_none h hge]
theorem needUp_mono {n : Net} {r : List Int} {more : Int} {k m : Nat} (h : k ≤ m) : needUp n r more k ≤ needUp n r more m := by
  induction m with
  | zero => have : k = 0 := by omega
            subst this; exact Nat.le_refl _
  | succ m ih =>
    rcases Nat.lt_or_ge m k with hlt | hge
    · have : k = m + 1 := by omega
      subst this; exact Nat.le_refl _
    · have := ih hge
      rw [needUp]; omega
structure WayOk (n : Net) (s : Sched) (f : Flow) (r : List Int) : Prop where
  net : NetOk n
  form : formB s = true
  flow : 0 ≤ f.id ∧ f.id ≤ 255 ∧ 1 ≤ f.period ∧ f.period ≤ 512 ∧ 0 ≤ f.phase ∧ f.phase < f.period ∧ 1 ≤ f.dead ∧ f.dead ≤ f.period ∧ f.src ≠ f.dst
  per : s.len % f.period = 0
  len : 2 ≤ r.length ∧ r.length ≤ 9
  hop : ∀ i, i + 1 < r.length → goodL n (r.getD i 0) (r.getD (i + 1) 0) = true
  dup : ∀ i, i < r.length → dupAt r i = false
  ends : r.getD 0 0 = f.src ∧ r.getD (r.length - 1) 0 = f.dst
theorem routeF_ok {n : Net} {a b : Int} {r : List Int} (h : routeF n a b r = 0) : (2 ≤ r.length ∧ r.length ≤ 9) ∧ (∀ i, i + 1 < r.length → goodL n (r.getD i 0) (r.getD (i + 1) 0) = true) ∧ (∀ i, i < r.length → dupAt r i = false) ∧ (r.getD 0 0 = a ∧ r.getD (r.length - 1) 0 = b) ∧ ∀ x ∈ r, insB x n.nodes = true := by
  unfold routeF at h
  split at h
  · cases h
  split at h
  · cases h
  split at h
  · cases h
  split at h
  · cases h
  split at h
  · cases h
  split at h
  · rename_i h1 h2 h3 h4 h5 h6
    refine ⟨by omega, fun i hi => ?_, fun i hi => ?_, by simpa using h4, fun x hx => ?_⟩
    · exact List.all_eq_true.1 h6 i (by simp; omega)
    · simp only [Bool.not_eq_true, List.any_eq_false] at h5
      simpa using h5 i (by simpa using hi)
    · simp only [Bool.not_eq_true, List.any_eq_false] at h3
      simpa using h3 x hx
  · cases h
theorem wayE_ok {n : Net} {s : Sched} {f : Flow} {r : List Int} (h : wayE n s f r = 0) : WayOk n s f r := by
  unfold wayE at h
  split at h
  · cases h
  split at h
  · cases h
  rename_i h1 h2
  simp only [not_or, ne_eq, Decidable.not_not, Bool.not_eq_false] at h1 h2
  have hf := flowE_ok h1.2.2
  unfold routeE at h
  split at h
  · contradiction
  obtain ⟨g1, g2, g3, g4, _⟩ := routeF_ok h
  exact ⟨netE_ok h1.1, h1.2.1, by omega, h2, g1, g2, g3, g4⟩
theorem WayOk.at {n : Net} {s : Sched} {f : Flow} {r : List Int} (h : WayOk n s f r) {i : Nat} (hi : i + 1 < r.length) : ∃ (k : Nat) (l : Link), findL n (r.getD i 0) (r.getD (i + 1) 0) = k ∧ n.links[k]? = some l ∧ l.src = r.getD i 0 ∧ l.dst = r.getD (i + 1) 0 ∧ 0 ≤ l.loss ∧ l.loss ≤ 7 ∧ linkAt n r i = l := by
  have hg := h.hop i hi
  unfold goodL at hg
  simp only [Bool.and_eq_true, decide_eq_true_eq] at hg
  obtain ⟨k, l, e1, e2, e3, e4⟩ := findL_at hg.1.1.1
  have hb := linkR_bd (h.net.link k l e2).1
  refine ⟨k, l, e1, e2, e3, e4, by omega, by omega, ?_⟩
  unfold linkAt
  rw [e1, Int.toNat_natCast, e2]; rfl
theorem WayOk.need {n : Net} {s : Sched} {f : Flow} {r : List Int} (h : WayOk n s f r) {more : Int} (h0 : 0 ≤ more) (h1 : more ≤ 8) : ∀ {k : Nat}, k ≤ r.length - 1 → needUp n r more k ≤ 16 * k
  | 0, _ => by simp [needUp]
  | k + 1, hk => by
    have := h.need h0 h1 (k := k) (by omega)
    obtain ⟨_, l, _, _, _, _, g1, g2, g3⟩ := h.at (i := k) (by omega)
    have : needAt n r more k ≤ 16 := by unfold needAt; rw [g3]; omega
    rw [needUp]; omega
def relR (n : Net) (s : Sched) (f : Flow) (r : List Int) (more rel : Int) : Option (Int × List Int) :=
  (slotsW n s f r rel more).map fun l => (l.getLastD 0 - rel + 1, l.map (· - rel))
structure Bnd where
  b : Int
  w : Int
  l : List Int
def boundUp (n : Net) (s : Sched) (f : Flow) (r : List Int) (more : Int) : Nat → Option Bnd
  | 0 => some ⟨0, 0, []⟩
  | k + 1 => match boundUp n s f r more k, relR n s f r more (f.phase + k * f.period) with
    | some x, some (b, l) => if b > x.b then some ⟨b, f.phase + k * f.period, l⟩ else some x
    | _, _ => none
def relsN (s : Sched) (f : Flow) : Nat := ((s.len - f.phase + f.period - 1) / f.period).toNat
def boundR (n : Net) (s : Sched) (f : Flow) (r : List Int) (more : Int) : Option Bnd := boundUp n s f r more (relsN s f)
theorem relsN_lt {s : Sched} {f : Flow} (hp : 1 ≤ f.period) {k : Nat} : k < relsN s f ↔ f.phase + k * f.period < s.len := by
  unfold relsN
  have h0 : 0 < f.period := by omega
  constructor
  · intro h
    have h1 : (k : Int) + 1 ≤ (s.len - f.phase + f.period - 1) / f.period := by omega
    have h2 := Int.mul_le_of_le_ediv h0 h1
    rw [Int.add_mul] at h2
    omega
  · intro h
    have h1 : ((k : Int) + 1) ≤ (s.len - f.phase + f.period - 1) / f.period := by
      apply Int.le_ediv_of_mul_le h0
      rw [Int.add_mul]; omega
    omega
end HM
namespace HM
open Go Go.RowKit
def hS (s : Sched) (f : Flow) (a b at_ : Int) (need d j : Nat) : List Int :=
  (allS (cellsL s f a b) s.len at_ d ++ ((((s.cells.take j).filter fun c => !offL f.id a b c).filter fun c => c.slot == (at_ + d) % s.len).map fun _ => at_ + (d : Int))).take need
end HM
namespace HM
open Go Go.RowKit
def bndAV : Option Bnd → AV
  | none => .tup [.int .i64 0, .int .i64 0, .sl false [], .bool false]
  | some x => .tup [.int .i64 x.b, .int .i64 x.w, encIs x.l, .bool true]
theorem boundUp_none {n : Net} {s : Sched} {f : Flow} {r : List Int} {more : Int} {k : Nat} (h : boundUp n s f r more k = none) : ∀ {m : Nat}, k ≤ m → boundUp n s f r more m = none
  | 0, hm => by have : k = 0 := by omega
                subst this; exact h
  | m + 1, hm => by
    rcases Nat.lt_or_ge m k with hlt | hge
    · have : k = m + 1 := by omega
      subst this; exact h
    · unfold boundUp; rw [boundUp_none h hge]
theorem boundUp_some {n : Net} {s : Sched} {f : Flow} {r : List Int} {more : Int} {k : Nat} {x : Bnd} {b : Int} {l : List Int} (h : boundUp n s f r more k = some x) (hr : relR n s f r more (f.phase + k * f.period) = some (b, l)) :
    boundUp n s f r more (k + 1) = some (if b > x.b then ⟨b, f.phase + k * f.period, l⟩ else x) := by
  simp only [boundUp, h, hr]
  split <;> rfl
theorem boundUp_stop {n : Net} {s : Sched} {f : Flow} {r : List Int} {more : Int} {k : Nat} (hr : relR n s f r more (f.phase + k * f.period) = none) :
    boundUp n s f r more (k + 1) = none := by
  simp only [boundUp, hr]
  cases boundUp n s f r more k <;> rfl
def routeM (n : Net) (s : Sched) (f : Flow) (r : List Int) : Int × Int × List Int × Int :=
  if wayE n s f r ≠ 0 then (0, 0, [], wayE n s f r)
  else match boundR n s f r 0 with
    | none => (0, 0, [], 15)
    | some x => (x.b, x.w, x.l, 0)
theorem wayE_net {n : Net} {s : Sched} {f : Flow} {r : List Int} (h : wayE n s f r = 0) : netE n = 0 := by
  unfold wayE at h
  split at h
  · cases h
  · rename_i hh
    simp only [not_or, ne_eq, Decidable.not_not] at hh
    exact hh.1
end HM
namespace HM
open Go Go.RowKit
def tLink : Ty := .st [tI, tI, tI]
def tRows : Ty := .sl (.sl tI)
def tNet : Ty := .st [tI, .sl (.sl tI), tI, tI, .sl tLink, .sl tI]
def tFlow : Ty := .st [tI, tI, tI, tI, tI, tI]
theorem list_ofP {α : Type} {d : Ty} {f : α → AV} {Q : α → Prop} (h : ∀ l, d.sh l → ∃ x, d.mk l = f x ∧ Q x) : ∀ els : List (List AV), (∀ c ∈ els, d.sh c ∧ c.length = d.n) → ∃ xs : List α, els.map d.mk = xs.map f ∧ xs.length = els.length ∧ ∀ x ∈ xs, Q x
  | [], _ => ⟨[], rfl, rfl, by simp⟩
  | c :: els, hc => by
    obtain ⟨x, hx, hq⟩ := h c (hc c (by simp)).1
    obtain ⟨xs, h1, h2, h3⟩ := list_ofP h els (fun c hm => hc c (by simp [hm]))
    exact ⟨x :: xs, by simp [hx, h1], by simp [h2], by simpa using ⟨hq, h3⟩⟩
theorem sh_link {l : List AV} (h : tLink.sh l) : ∃ c : Link, l = [.int .i64 c.src, .int .i64 c.dst, .int .i64 c.loss] := by
  obtain ⟨_, _, rfl, _, h1, _, _, rfl, _, h2, _, _, rfl, _, h3, h6⟩ := h
  obtain ⟨a, rfl, _⟩ := sh_int h1
  obtain ⟨b, rfl, _⟩ := sh_int h2
  obtain ⟨c, rfl, _⟩ := sh_int h3
  obtain rfl := h6
  exact ⟨⟨a, b, c⟩, rfl⟩
theorem sh_links {l : List AV} (h : (Ty.sl tLink).sh l) : ∃ cs : List Link, l = [encLinks cs] ∧ cs.length ≤ 140737488355328 := by
  obtain ⟨els, rfl, h1, h2⟩ := h
  obtain ⟨cs, h3, h4⟩ := list_of (f := Link.av) (fun l hl => by
    obtain ⟨c, rfl⟩ := sh_link hl
    exact ⟨c, rfl⟩) els h1
  exact ⟨cs, by rw [h3]; rfl, by omega⟩
theorem sh_rows {l : List AV} (h : tRows.sh l) : ∃ cs : List (List Int), l = [encRows cs] ∧ cs.length ≤ 140737488355328 ∧ ∀ r ∈ cs, r.length ≤ 140737488355328 := by
  obtain ⟨els, rfl, h1, h2⟩ := h
  obtain ⟨cs, h3, h4, h5⟩ := list_ofP (f := encIs) (Q := fun r : List Int => r.length ≤ 140737488355328) (fun l hl => by
    obtain ⟨c, rfl, hc⟩ := sh_ints hl
    exact ⟨c, rfl, hc⟩) els h1
  exact ⟨cs, by rw [h3]; rfl, by omega, h5⟩
theorem sh_flow {l : List AV} (h : tFlow.sh l) : ∃ c : Flow, l = [.int .i64 c.id, .int .i64 c.src, .int .i64 c.dst, .int .i64 c.period, .int .i64 c.phase, .int .i64 c.dead] := by
  obtain ⟨_, _, rfl, _, h1, _, _, rfl, _, h2, _, _, rfl, _, h3, _, _, rfl, _, h4, _, _, rfl, _, h5, _, _, rfl, _, h5', h6⟩ := h
  obtain ⟨a, rfl, _⟩ := sh_int h1
  obtain ⟨b, rfl, _⟩ := sh_int h2
  obtain ⟨c, rfl, _⟩ := sh_int h3
  obtain ⟨d, rfl, _⟩ := sh_int h4
  obtain ⟨e, rfl, _⟩ := sh_int h5
  obtain ⟨f, rfl, _⟩ := sh_int h5'
  obtain rfl := h6
  exact ⟨⟨a, b, c, d, e, f⟩, rfl⟩
theorem sh_net {l : List AV} (h : tNet.sh l) : ∃ n : Net, l = n.cs ∧ n.power.length ≤ 140737488355328 ∧ (∀ r ∈ n.power, r.length ≤ 140737488355328) ∧ n.links.length ≤ 140737488355328 ∧ n.margin.length ≤ 140737488355328 := by
  obtain ⟨_, _, rfl, _, h1, _, _, rfl, _, h2, _, _, rfl, _, h3, _, _, rfl, _, h4, _, _, rfl, _, h5, _, _, rfl, _, h5', h6⟩ := h
  obtain ⟨a, rfl, _⟩ := sh_int h1
  obtain ⟨b, rfl, b1, b2⟩ := sh_rows h2
  obtain ⟨c, rfl, _⟩ := sh_int h3
  obtain ⟨d, rfl, _⟩ := sh_int h4
  obtain ⟨e, rfl, e1⟩ := sh_links h5
  obtain ⟨f, rfl, f1⟩ := sh_ints h5'
  obtain rfl := h6
  exact ⟨⟨a, b, c, d, e, f⟩, rfl, b1, b2, e1, f1⟩
theorem sh_sched' {l : List AV} (h : tSched.sh l) : ∃ s : Sched, l = [.int .i64 s.len, .int .i64 s.offs, encCells s.cells] ∧ s.cells.length ≤ 140737488355328 := by
  obtain ⟨_, _, rfl, _, h1, _, _, rfl, _, h2, _, _, rfl, _, h3, h6⟩ := h
  obtain ⟨a, rfl, _⟩ := sh_int h1
  obtain ⟨b, rfl, _⟩ := sh_int h2
  obtain ⟨c, rfl, hc⟩ := sh_cells h3
  obtain rfl := h6
  exact ⟨⟨a, b, c⟩, rfl, hc⟩
end HM
namespace HM
open Go Go.RowKit
structure Rule where
  flow : Int
  src : Int
  dst : Int
  frame : Int
  outs : List Int
  deriving DecidableEq
def Rule.av (r : Rule) : AV := .agg [.int .i64 r.flow, .int .i64 r.src, .int .i64 r.dst, .int .i64 r.frame, encIs r.outs]
def encScript (x : List Rule) : AV := .sl false (x.map Rule.av)
def Rule.key (r : Rule) : List Int := [r.flow, r.frame, r.src, r.dst]
def Rule.cmp (a b : Rule) : Int := cmpL a.key b.key
def outcomeM (x : List Rule) (flow frame src dst : Int) (k : Nat) : Int :=
  match x.find? fun r => r.flow == flow && r.frame == frame && r.src == src && r.dst == dst with
  | some r => (r.outs[k]?).getD 1
  | none => 1
end HM
namespace HM
open Go Go.RowKit
end HM
namespace HM
open Go Go.RowKit
def slotN (cs : List Cell) (len x : Int) : Nat := (cs.filter fun c => c.slot == x % len).length
theorem allS_len (cs : List Cell) (len a : Int) : ∀ d, (allS cs len a (d + 1)).length = (allS cs len a d).length + slotN cs len (a + d) := fun d => by
  rw [allS, List.length_append, List.length_map]; rfl
theorem allS_front (cs : List Cell) (len a : Int) : ∀ d, (allS cs len a (d + 1)).length = slotN cs len a + (allS cs len (a + 1) d).length
  | 0 => by rw [allS_len]; simp [allS]
  | d + 1 => by
    rw [allS_len, allS_front cs len a d, allS_len, show a + ((d + 1 : Nat) : Int) = a + 1 + (d : Int) by omega]; omega
theorem allS_shift (cs : List Cell) (len a : Int) (d : Nat) : ∀ e : Nat, (allS cs len (a + e) d).length ≤ (allS cs len a (e + d)).length
  | 0 => by simp
  | e + 1 => by
    have h1 := allS_shift cs len a (d + 1) e
    rw [allS_front, show a + (e : Int) + 1 = a + ((e + 1 : Nat) : Int) by omega, show e + (d + 1) = e + 1 + d by omega] at h1
    omega
theorem slotN_mono {cs cs' : List Cell} (h : ∀ p : Cell → Bool, (cs.filter p).length ≤ (cs'.filter p).length) (len x : Int) : slotN cs len x ≤ slotN cs' len x := h _
theorem next_le {cs : List Cell} {len a : Int} {need d D : Nat} (hn : 1 ≤ need) (hd : d ≤ D) (hl : need ≤ (allS cs len a d).length) : ((allS cs len a D).take need).length = need ∧ nextA a ((allS cs len a D).take need) ≤ a + d ∧ a ≤ nextA a ((allS cs len a D).take need) := by
  obtain ⟨t, ht⟩ := allS_prefix cs len a hd
  rw [ht, take_prefix hl]
  have h1 : ((allS cs len a d).take need).length = need := by rw [List.length_take]; omega
  refine ⟨h1, ?_⟩
  obtain ⟨z, hz⟩ := Option.isSome_iff_exists.1 (List.getLast?_isSome.2 (show (allS cs len a d).take need ≠ [] by intro hh; rw [hh] at h1; simp at h1; omega))
  have hb := allS_mem (List.mem_of_mem_take (List.mem_of_getLast? hz))
  rw [nextA, hz]
  simp only
  omega
structure MoreS (s t : Sched) : Prop where
  len : t.len = s.len
  cells : ∀ p : Cell → Bool, (s.cells.filter p).length ≤ (t.cells.filter p).length
theorem slotsUp_last {n : Net} {s : Sched} {f : Flow} {r : List Int} {rel more : Int} {k : Nat} {o : List Int} {a : Int} (hn : 1 ≤ needAt n r more k) (h : slotsUp n s f r rel more (k + 1) = some (o, a)) : o.getLast? = some (a - 1) := by
  unfold slotsUp at h
  split at h
  · cases h
  · rename_i o' a' h'
    simp only at h
    split at h
    · cases h
    · rename_i hlen
      injection h with h; injection h with e1 e2
      subst e1; subst e2
      obtain ⟨z, hz⟩ := Option.isSome_iff_exists.1 (List.getLast?_isSome.2 (show slotsOn s f (r.getD k 0) (r.getD (k + 1) 0) (needAt n r more k) a' (rel + f.period) ≠ [] by intro hh; rw [hh] at hlen; simp at hlen; omega))
      rw [List.getLast?_append, hz, nextA, hz]
      simp
end HM
namespace HM
open Go Go.RowKit
def insAt {α : Type} (l : List α) (p : Nat) (x : α) : List α := l.take p ++ x :: l.drop p
theorem insAt_len {α : Type} (l : List α) (p : Nat) (x : α) : (insAt l p x).length = l.length + 1 := by
  simp [insAt]; omega
theorem insAt_mem {α : Type} {l : List α} {p : Nat} {x y : α} : y ∈ insAt l p x ↔ y = x ∨ y ∈ l := by
  unfold insAt
  rw [List.mem_append, List.mem_cons]
  constructor
  · rintro (h | rfl | h)
    · exact .inr (List.mem_of_mem_take h)
    · exact .inl rfl
    · exact .inr (List.mem_of_mem_drop h)
  · rintro (rfl | h)
    · exact .inr (.inl rfl)
    · rw [← List.take_append_drop p l, List.mem_append] at h
      rcases h with h | h
      · exact .inl h
      · exact .inr (.inr h)
theorem insAt_filter {α : Type} (l : List α) (p : Nat) (x : α) (q : α → Bool) : (l.filter q).length ≤ ((insAt l p x).filter q).length := by
  unfold insAt
  have h := congrArg (fun l => (List.filter q l).length) (List.take_append_drop p l)
  simp only [List.filter_append, List.length_append] at h ⊢
  have : (List.filter q (l.drop p)).length ≤ (List.filter q (x :: l.drop p)).length := by
    rw [List.filter_cons]; split <;> simp
  omega
theorem insAt_get {α : Type} {l : List α} {p : Nat} {x : α} (hp : p ≤ l.length) (j : Nat) : (insAt l p x)[j]? = if j < p then l[j]? else if j = p then some x else l[j - 1]? := by
  unfold insAt
  by_cases h1 : j < p
  · rw [if_pos h1, List.getElem?_append_left (by simp; omega), List.getElem?_take, if_pos h1]
  · rw [if_neg h1, List.getElem?_append_right (by simp; omega), List.length_take, Nat.min_eq_left hp]
    by_cases h2 : j = p
    · subst h2; simp
    · rw [if_neg h2, show j - p = (j - 1 - p) + 1 by omega, List.getElem?_cons_succ, List.getElem?_drop]
      congr 1; omega
def cellTo (c x : Cell) : Int := x.cmp c
def posC (s : Sched) (c : Cell) : Nat := posB (cellTo c) s.cells
def hasC (s : Sched) (c : Cell) : Bool := hasB (cellTo c) s.cells
def addM (s : Sched) (c : Cell) : Sched × Int :=
  if formB s = false then (⟨0, 0, []⟩, 1)
  else if formedB s c = false then (⟨0, 0, []⟩, 2)
  else if hasC s c = true then (⟨0, 0, []⟩, 6)
  else if s.cells.length = 512 then (⟨0, 0, []⟩, 8)
  else (⟨s.len, s.offs, insAt s.cells (posC s c) c⟩, 0)
theorem ins_room {A B U X : List AV} (h : X.length ≤ U.length) : splice (splice (A ++ B ++ U) (A.length + X.length) B) A.length X = A ++ X ++ B ++ U.drop X.length := by
  have e1 : splice (A ++ B ++ U) (A.length + X.length) B = (A ++ B ++ U).take (A.length + X.length) ++ B ++ U.drop X.length := by
    rw [splice_eq _ _ _ (by simp; omega)]
    congr 1
    rw [show A.length + X.length + B.length = (A ++ B).length + X.length by simp; omega, List.drop_append]
    simp
  rw [e1, splice_eq _ _ _ (by simp; omega)]
  rw [List.append_assoc ((A ++ B ++ U).take _), List.take_append_of_le_length (by simp <;> omega), List.take_take, Nat.min_eq_left (by omega), List.append_assoc A, List.take_left]
  rw [List.drop_append, List.drop_eq_nil_of_le (by simp; omega)]
  rw [show A.length + X.length - (List.take (A.length + X.length) (A ++ (B ++ U))).length = 0 by simp; omega]
  simp
theorem ins_grow {A B Z U X : List AV} (h : Z.length = X.length + B.length) : splice (splice (A ++ Z ++ U) A.length X) (A.length + X.length) B = A ++ X ++ B ++ U := by
  have e1 : splice (A ++ Z ++ U) A.length X = A ++ X ++ (Z.drop X.length ++ U) := by
    rw [splice_eq _ _ _ (by simp; omega), List.append_assoc A, List.take_left, List.drop_append, List.drop_eq_nil_of_le (by omega)]
    rw [show A.length + X.length - A.length = X.length by omega, List.drop_append, show X.length - Z.length = 0 by omega]
    rfl
  rw [e1, splice_eq _ _ _ (by simp; omega)]
  rw [show A.length + X.length = (A ++ X).length by simp, List.take_left, List.drop_append, List.drop_eq_nil_of_le (by omega)]
  rw [show (A ++ X).length + B.length - (A ++ X).length = B.length by omega, List.drop_append, List.drop_eq_nil_of_le (by simp; omega)]
  rw [show B.length - (Z.drop X.length).length = 0 by simp; omega]
  simp
end HM
namespace HM
open Go Go.RowKit
def curM (f : Flow) (slot : Int) : Int × Bool := if flowE 32 f ≠ 0 ∨ slot < f.phase ∨ 1099511627776 < slot then (0, false) else ((slot - f.phase) / f.period, true)
def findF (l : List Flow) (id : Int) : Int := idxF (fun f : Flow => f.id == id) l
structure Att where
  slot : Int
  frame : Int
  cell : Cell
  out : Int
  deriving DecidableEq
def Att.av (a : Att) : AV := .agg [.int .i64 a.slot, .int .i64 a.frame, .int .i64 a.cell.slot, .int .i64 a.cell.off, .int .i64 a.cell.src, .int .i64 a.cell.dst, .int .i64 a.cell.flow, .int .i64 a.out]
structure Del where
  flow : Int
  frame : Int
  slot : Int
  deriving DecidableEq
def Del.av (d : Del) : AV := .agg [.int .i64 d.flow, .int .i64 d.frame, .int .i64 d.slot]
structure RunL where
  atts : List Att
  dels : List Del
def encAtts (l : List Att) : AV := .sl false (l.map Att.av)
def encDels (l : List Del) : AV := .sl false (l.map Del.av)
def RunL.av (r : RunL) : AV := .agg [encAtts r.atts, encDels r.dels]
end HM
namespace HM
def atM (s : Sched) (slot : Int) : List Cell := if formB s = false ∨ slot < 0 then [] else s.cells.filter fun c => c.slot == slot % s.len
end HM
namespace HM
open Go Go.RowKit
end HM
namespace HM
open Go Go.RowKit
end HM
namespace HM
open Go Go.RowKit
end HM
namespace HM
open Go Go.RowKit
structure IM where
  ks : List (List Int)
  vs : List Int
def IM.none : IM := ⟨[], []⟩
def IM.get (m : IM) (x : List Int) : Option Int := (posOf m.ks x).bind fun i => m.vs[i]?
def IM.set (m : IM) (x : List Int) (v : Int) : IM := ⟨setKs m.ks x, match posOf m.ks x with
  | some i => m.vs.set i v
  | _ => m.vs ++ [v]⟩
def IM.ob (sh : Option Nat) (m : IM) : Ob := .map sh m.ks (m.vs.map encI)
def IM.ok (m : IM) : Prop := m.ks.length = m.vs.length
theorem IM.assoc (m : IM) (x : List Int) : assoc m.ks (m.vs.map encI) x = (m.get x).map encI := by
  unfold HM.assoc IM.get
  cases posOf m.ks x with
  | none => rfl
  | some i => simp
theorem IM.setVs (m : IM) (x : List Int) (v : Int) : setVs m.ks (m.vs.map encI) x (encI v) = (m.set x v).vs.map encI := by
  unfold HM.setVs IM.set
  cases posOf m.ks x with
  | none => simp
  | some i => simp [List.map_set]
theorem IM.none_ok : IM.none.ok := rfl
theorem IM.set_ok {m : IM} (h : m.ok) (x : List Int) (v : Int) : (m.set x v).ok := by
  unfold IM.ok IM.set setKs at *
  cases posOf m.ks x with
  | none => simp [h]
  | some i => simp [h]
theorem posOf_snoc {ks : List (List Int)} {x y : List Int} (h : posOf ks x = none) : posOf (ks ++ [x]) y = if y = x then some ks.length else posOf ks y := by
  induction ks with
  | nil =>
    simp only [List.nil_append, posOf]
    by_cases e : y = x
    · subst e; simp
    · rw [if_neg (fun h => e h.symm), if_neg e]; rfl
  | cons k ks ih =>
    have h0 : k ≠ x ∧ posOf ks x = none := by
      unfold posOf at h
      split at h
      · cases h
      · rename_i hne
        exact ⟨hne, by simpa using h⟩
    rw [List.cons_append, posOf, ih h0.2]
    by_cases e : k = y
    · subst e
      rw [if_pos rfl, if_neg h0.1, posOf, if_pos rfl]
    · rw [if_neg e]
      by_cases e2 : y = x
      · subst e2; simp
      · rw [if_neg e2, if_neg e2, posOf, if_neg e]
theorem posOf_inj {ks : List (List Int)} {x y : List Int} {i : Nat} (h : posOf ks x = some i) (h' : posOf ks y = some i) : x = y := by
  have := posOf_some h
  rw [posOf_some h'] at this
  exact (Option.some.inj this).symm
theorem IM.get_set {m : IM} (h : m.ok) (x y : List Int) (v : Int) : (m.set x v).get y = if y = x then some v else m.get y := by
  unfold IM.get IM.set setKs
  unfold IM.ok at h
  cases hx : posOf m.ks x with
  | none =>
    simp only [posOf_snoc hx]
    by_cases e : y = x
    · rw [if_pos e, if_pos e]; simp [h]
    · rw [if_neg e, if_neg e]
      cases hy : posOf m.ks y with
      | none => rfl
      | some j =>
        have := (List.getElem?_eq_some_iff.1 (posOf_some hy)).1
        simp only [Option.bind_some]
        rw [List.getElem?_append_left (by omega)]
  | some i =>
    have hi := (List.getElem?_eq_some_iff.1 (posOf_some hx)).1
    simp only
    by_cases e : y = x
    · subst e
      rw [if_pos rfl, hx]
      simp [← h, hi]
    · rw [if_neg e]
      cases hy : posOf m.ks y with
      | none => rfl
      | some j =>
        have hne : i ≠ j := fun hh => e (by subst hh; exact posOf_inj hy hx)
        simp [hne]
theorem IM.get_none (y : List Int) : IM.none.get y = Option.none := rfl
structure PS where
  frame : Int
  since : IM
  tries : IM
  acked : IM
  done : Bool
structure PL where
  sts : List PS
  atts : List Att
  dels : List Del
def PS.first : PS := ⟨-1, .none, .none, .none, false⟩
def PS.ok (p : PS) : Prop := p.since.ok ∧ p.tries.ok ∧ p.acked.ok
def relS (f : Flow) (slot : Int) (p : PS) : PS := if (curM f slot).2 = true ∧ (curM f slot).1 ≠ p.frame then ⟨(curM f slot).1, IM.none.set [f.src] slot, .none, .none, false⟩ else p
def releaseS (l : List Flow) (slot : Int) (q : List PS) : List PS := l.zipWith (fun f p => relS f slot p) q
def idleB (f : Flow) (p : PS) (c : Cell) (slot : Int) : Bool :=
  (match p.since.get [c.src] with | some a => decide (slot < a) | Option.none => true) || c.src == f.dst || (match p.acked.get [c.src, c.dst] with | some a => decide (a < slot) | Option.none => false)
def outP (x : List Rule) (f : Flow) (p : PS) (c : Cell) : Int := outcomeM x f.id p.frame c.src c.dst ((p.tries.get [c.src, c.dst]).getD 0).toNat
def usedP (f : Flow) (p : PS) (c : Cell) (slot o : Int) : PS :=
  let a : IM := if o = 1 ∧ p.acked.get [c.src, c.dst] = Option.none then p.acked.set [c.src, c.dst] slot else p.acked
  let s : IM := if o ≠ 3 ∧ p.since.get [c.dst] = Option.none then p.since.set [c.dst] (slot + 1) else p.since
  ⟨p.frame, s, p.tries.set [c.src, c.dst] ((p.tries.get [c.src, c.dst]).getD 0 + 1), a, p.done || (decide (o ≠ 3) && c.dst == f.dst)⟩
def attemptS (l : List Flow) (x : List Rule) (slot : Int) (q : PL) (c : Cell) : PL :=
  if findF l c.flow < 0 then q else
  match l[(findF l c.flow).toNat]?, q.sts[(findF l c.flow).toNat]? with
  | some f, some p =>
    if p.frame < 0 ∨ idleB f p c slot = true then q else
    ⟨q.sts.set (findF l c.flow).toNat (usedP f p c slot (outP x f p c)), q.atts ++ [⟨slot, p.frame, c, outP x f p c⟩],
      q.dels ++ (if outP x f p c ≠ 3 ∧ c.dst = f.dst ∧ p.done = false then [⟨f.id, p.frame, slot⟩] else [])⟩
  | _, _ => q
def slotS (l : List Flow) (s : Sched) (x : List Rule) (q : PL) (slot : Int) : PL :=
  let r := (atM s slot).foldl (attemptS l x slot) ⟨releaseS l slot q.sts, q.atts, q.dels⟩
  ⟨r.sts, r.atts, r.dels.take q.dels.length ++ (r.dels.drop q.dels.length).mergeSort fun a b => decide (a.flow ≤ b.flow)⟩
end HM
namespace HM
open Go Go.RowKit
def onA (c : Cell) (frame : Int) (a : Att) : Bool := a.cell.flow == c.flow && a.frame == frame && a.cell.src == c.src && a.cell.dst == c.dst
def gotA (id frame node : Int) (a : Att) : Bool := a.cell.flow == id && a.frame == frame && a.cell.dst == node && a.out != 3
def holdsR (f : Flow) (ats : List Att) (node frame slot : Int) : Bool := node == f.src || ats.any fun a => gotA f.id frame node a && decide (a.slot < slot)
def ackedR (ats : List Att) (c : Cell) (frame slot : Int) : Bool := ats.any fun a => onA c frame a && decide (a.slot < slot) && a.out == 1
def countR (ats : List Att) (c : Cell) (frame : Int) : Nat := ats.countP (onA c frame)
def hadR (ds : List Del) (id frame : Int) : Bool := ds.any fun d => d.flow == id && d.frame == frame
def laterD (d x : Del) : Bool := x.slot == d.slot && decide (d.flow < x.flow)
def insD (d : Del) (ds : List Del) : List Del := (ds.reverse.dropWhile (laterD d)).reverse ++ d :: (ds.reverse.takeWhile (laterD d)).reverse
def attemptR (l : List Flow) (x : List Rule) (slot : Int) (r : RunL) (c : Cell) : RunL :=
  if findF l c.flow < 0 then r else
  match l[(findF l c.flow).toNat]? with
  | some f =>
    if (curM f slot).2 = false ∨ c.src = f.dst ∨ holdsR f r.atts c.src (curM f slot).1 slot = false ∨ ackedR r.atts c (curM f slot).1 slot = true then r else
    let o := outcomeM x c.flow (curM f slot).1 c.src c.dst (countR r.atts c (curM f slot).1)
    ⟨r.atts ++ [⟨slot, (curM f slot).1, c, o⟩], if c.dst = f.dst ∧ o ≠ 3 ∧ hadR r.dels c.flow (curM f slot).1 = false then insD ⟨c.flow, (curM f slot).1, slot⟩ r.dels else r.dels⟩
  | none => r
def slotR (l : List Flow) (s : Sched) (x : List Rule) (r : RunL) (slot : Int) : RunL := (atM s slot).foldl (attemptR l x slot) r
structure FlowsOk (l : List Flow) : Prop where
  len : l.length ≤ 16
  ok : ∀ (k : Nat) f, l[k]? = some f → flowE 32 f = 0
  lt : ∀ (i j : Nat) f g, i < j → l[i]? = some f → l[j]? = some g → f.id < g.id
theorem FlowsOk.find {l : List Flow} (h : FlowsOk l) {i : Nat} {f : Flow} (hf : l[i]? = some f) : findF l f.id = (i : Int) := by
  refine idxF_some (List.getElem?_eq_some_iff.1 hf).1 (fun j y hj hy => ?_) hf (by simp)
  have := h.lt j i y f hj hy hf
  simp; omega
theorem findF_at {l : List Flow} {id : Int} (h : ¬ findF l id < 0) : ∃ (i : Nat) (f : Flow), findF l id = i ∧ l[i]? = some f ∧ f.id = id := by
  obtain ⟨i, f, h1, h2, h3⟩ := idxF_at (p := fun f : Flow => f.id == id) (l := l) (fun hh => h (by unfold findF; rw [hh]; decide))
  exact ⟨i, f, h1, h2, by simpa using h3⟩
theorem cur_mono {f : Flow} (h : flowE 32 f = 0) {a b : Int} (hab : a ≤ b) (hb : b ≤ 1099511627776) (ha : (curM f a).2 = true) : (curM f b).2 = true ∧ (curM f a).1 ≤ (curM f b).1 := by
  obtain ⟨q1, q2, q3, q4, q5, q6, q7, q8, q9, q10, q11, q12, q13⟩ := flowE_ok h
  unfold curM at ha ⊢
  split at ha
  · cases ha
  rename_i h1
  rw [if_neg h1, if_neg (by omega)]
  exact ⟨rfl, Int.ediv_le_ediv (by omega) (by omega)⟩
theorem cur_nn {f : Flow} (h : flowE 32 f = 0) {a : Int} (ha : (curM f a).2 = true) : 0 ≤ (curM f a).1 := by
  obtain ⟨q1, q2, q3, q4, q5, q6, q7, q8, q9, q10, q11, q12, q13⟩ := flowE_ok h
  unfold curM at ha ⊢
  split at ha
  · cases ha
  rename_i h1
  rw [if_neg h1]
  exact Int.ediv_nonneg (by omega) (by omega)
theorem cur_neg {f : Flow} (h : flowE 32 f = 0) : (curM f (-1)).2 = false := by
  obtain ⟨q1, q2, q3, q4, q5, q6, q7, q8, q9, q10, q11, q12, q13⟩ := flowE_ok h
  unfold curM
  rw [if_pos (by omega)]
structure FlowI (f : Flow) (t : Int) (p : PS) (ats : List Att) (ds : List Del) : Prop where
  ok : p.ok
  off : (curM f t).2 = false → p.frame = -1
  on : (curM f t).2 = true → p.frame = (curM f t).1
  s1 : 0 ≤ p.frame → ∀ node a, p.since.get [node] = some a → node = f.src ∨ ∃ b ∈ ats, gotA f.id p.frame node b = true ∧ a = b.slot + 1
  s2 : 0 ≤ p.frame → ∀ node b, b ∈ ats → gotA f.id p.frame node b = true → ∃ a, p.since.get [node] = some a ∧ a ≤ b.slot + 1
  s3 : 0 ≤ p.frame → ∃ a, p.since.get [f.src] = some a ∧ a ≤ t
  a1 : 0 ≤ p.frame → ∀ c : Cell, c.flow = f.id → ∀ a, p.acked.get [c.src, c.dst] = some a → ∃ b ∈ ats, onA c p.frame b = true ∧ b.out = 1 ∧ b.slot = a
  a2 : 0 ≤ p.frame → ∀ c : Cell, c.flow = f.id → ∀ b ∈ ats, onA c p.frame b = true → b.out = 1 → ∃ a, p.acked.get [c.src, c.dst] = some a ∧ a ≤ b.slot
  tr : 0 ≤ p.frame → ∀ c : Cell, c.flow = f.id → (p.tries.get [c.src, c.dst]).getD 0 = (countR ats c p.frame : Int)
  dn : 0 ≤ p.frame → p.done = hadR ds f.id p.frame
structure RunI (l : List Flow) (t : Int) (ats : List Att) (ds : List Del) : Prop where
  at_ : ∀ b ∈ ats, 0 ≤ b.slot ∧ b.slot ≤ t ∧ ∃ (i : Nat) (f : Flow), l[i]? = some f ∧ f.id = b.cell.flow ∧ curM f b.slot = (b.frame, true)
  dl : ∀ d ∈ ds, ∃ b ∈ ats, b.slot = d.slot ∧ b.frame = d.frame ∧ b.cell.flow = d.flow
theorem FlowI.start {f : Flow} (h : flowE 32 f = 0) : FlowI f (-1) PS.first [] [] := by
  have hc := cur_neg h
  have hn : ¬ (0 : Int) ≤ PS.first.frame := by simp [PS.first]
  exact ⟨⟨IM.none_ok, IM.none_ok, IM.none_ok⟩, fun _ => rfl, fun h1 => by rw [hc] at h1; (cases h1), fun h => (hn h).elim, fun h => (hn h).elim, fun h => (hn h).elim, fun h => (hn h).elim, fun h => (hn h).elim, fun h => (hn h).elim, fun h => (hn h).elim⟩
theorem same_flow {l : List Flow} (h : FlowsOk l) {i j : Nat} {f g : Flow} (hf : l[i]? = some f) (hg : l[j]? = some g) (he : f.id = g.id) : i = j ∧ f = g := by
  have h1 := h.find hf
  have h2 := h.find hg
  rw [he] at h1
  have : i = j := by omega
  subst this
  rw [hf] at hg; injection hg with hg
  exact ⟨rfl, hg⟩
theorem RunI.frame {l : List Flow} (hl : FlowsOk l) {t : Int} {ats : List Att} {ds : List Del} (h : RunI l t ats ds) (ht : t ≤ 1099511627776) {i : Nat} {f : Flow} (hf : l[i]? = some f) {b : Att} (hb : b ∈ ats) (hid : b.cell.flow = f.id) :
    (curM f t).2 = true ∧ b.frame ≤ (curM f t).1 ∧ curM f b.slot = (b.frame, true) := by
  obtain ⟨h0, h1, j, g, hg, h2, h3⟩ := h.at_ b hb
  obtain ⟨rfl, rfl⟩ := same_flow hl hf hg (by rw [h2, hid])
  have := cur_mono (hl.ok _ _ hf) h1 ht (by rw [h3])
  rw [h3] at this
  exact ⟨this.1, this.2, h3⟩
theorem FlowI.release {l : List Flow} (hl : FlowsOk l) {t : Int} (ht : t + 1 ≤ 1099511627776) {ats : List Att} {ds : List Del} (hr : RunI l t ats ds) {i : Nat} {f : Flow} (hf : l[i]? = some f) {p : PS} (h : FlowI f t p ats ds) : FlowI f (t + 1) (relS f (t + 1) p) ats ds := by
  have hfe := hl.ok _ _ hf
  unfold relS
  by_cases hc : (curM f (t + 1)).2 = true ∧ (curM f (t + 1)).1 ≠ p.frame
  · rw [if_pos hc]
    obtain ⟨hc1, hc2⟩ := hc
    have hnone : ∀ b ∈ ats, b.cell.flow = f.id → b.frame ≠ (curM f (t + 1)).1 := by
      intro b hb hid he
      obtain ⟨h1, h2, h3⟩ := hr.frame hl (by omega) hf hb hid
      have h4 := (cur_mono hfe (show t ≤ t + 1 by omega) ht h1).2
      exact hc2 (by rw [h.on h1]; omega)
    have hg : ∀ node b, b ∈ ats → gotA f.id (curM f (t + 1)).1 node b = true → False := by
      intro node b hb hh
      simp only [gotA, Bool.and_eq_true, beq_iff_eq] at hh
      exact hnone b hb hh.1.1.1 hh.1.1.2
    have ho : ∀ c : Cell, c.flow = f.id → ∀ b ∈ ats, onA c (curM f (t + 1)).1 b = true → False := by
      intro c hcf b hb hh
      simp only [onA, Bool.and_eq_true, beq_iff_eq] at hh
      exact hnone b hb (hh.1.1.1.trans hcf) hh.1.1.2
    refine ⟨⟨IM.set_ok IM.none_ok _ _, IM.none_ok, IM.none_ok⟩, fun h1 => by rw [hc1] at h1; (cases h1), fun _ => rfl, fun _ node a ha => ?_, fun _ node b hb hh => (hg node b hb hh).elim, fun _ => ⟨t + 1, ?_, Int.le_refl _⟩, fun _ c _ a ha => by simp [IM.get_none] at ha, fun _ c hcf b hb hh => (ho c hcf b hb hh).elim, fun _ c hcf => ?_, fun _ => ?_⟩
    · simp only [IM.get_set IM.none_ok, IM.get_none] at ha
      split at ha
      · rename_i he; injection he with he; exact .inl he
      · cases ha
    · simp [IM.get_set IM.none_ok]
    · have : countR ats c (curM f (t + 1)).1 = 0 := List.countP_eq_zero.2 fun b hb hh => ho c hcf b hb hh
      simp [this, IM.get_none]
    · symm
      rw [Bool.eq_false_iff]
      intro hh
      simp only [hadR, List.any_eq_true, Bool.and_eq_true, beq_iff_eq] at hh
      obtain ⟨d, hd, h1, h2⟩ := hh
      obtain ⟨b, hb, _, h3, h4⟩ := hr.dl d hd
      exact hnone b hb (h4.trans h1) (h3.trans h2)
  · rw [if_neg hc]
    have hcur : (curM f (t + 1)).2 = true → p.frame = (curM f (t + 1)).1 := fun h1 => Classical.byContradiction fun h2 => hc ⟨h1, fun h3 => h2 h3.symm⟩
    refine ⟨h.ok, fun h1 => h.off ?_, hcur, h.s1, h.s2, fun hp => ?_, h.a1, h.a2, h.tr, h.dn⟩
    · rw [Bool.eq_false_iff]
      intro h2
      have := (cur_mono hfe (show t ≤ t + 1 by omega) ht h2).1
      rw [h1] at this; cases this
    · obtain ⟨a, h1, h2⟩ := h.s3 hp
      exact ⟨a, h1, by omega⟩
theorem FlowI.other {f : Flow} {t : Int} {p : PS} {ats : List Att} {ds ds' : List Del} (h : FlowI f t p ats ds) {b : Att} (hb : b.cell.flow ≠ f.id) (hd : ∀ n, hadR ds' f.id n = hadR ds f.id n) : FlowI f t p (ats ++ [b]) ds' := by
  have hon : ∀ c : Cell, c.flow = f.id → ∀ n, onA c n b = false := by
    intro c hc n
    rw [Bool.eq_false_iff]
    intro hh
    simp only [onA, Bool.and_eq_true, beq_iff_eq] at hh
    exact hb (hh.1.1.1.trans hc)
  have hgt : ∀ n node, gotA f.id n node b = false := by
    intro n node
    rw [Bool.eq_false_iff]
    intro hh
    simp only [gotA, Bool.and_eq_true, beq_iff_eq] at hh
    exact hb hh.1.1.1
  refine ⟨h.ok, h.off, h.on, fun hp node a ha => ?_, fun hp node b' hb' hh => ?_, h.s3, fun hp c hc a ha => ?_, fun hp c hc b' hb' hh ho => ?_, fun hp c hc => ?_, fun hp => by rw [hd]; exact h.dn hp⟩
  · rcases h.s1 hp node a ha with h1 | ⟨b', h1, h2⟩
    · exact .inl h1
    · exact .inr ⟨b', by simp [h1], h2⟩
  · rcases List.mem_append.1 hb' with h1 | h1
    · exact h.s2 hp node b' h1 hh
    · simp at h1; subst h1; rw [hgt] at hh; cases hh
  · obtain ⟨b', h1, h2⟩ := h.a1 hp c hc a ha
    exact ⟨b', by simp [h1], h2⟩
  · rcases List.mem_append.1 hb' with h1 | h1
    · exact h.a2 hp c hc b' h1 hh ho
    · simp at h1; subst h1; rw [hon c hc] at hh; cases hh
  · rw [h.tr hp c hc]
    simp [countR, List.countP_append, hon c hc]
theorem idle_iff {f : Flow} {t : Int} {p : PS} {ats : List Att} {ds : List Del} (h : FlowI f t p ats ds) (hp : 0 ≤ p.frame) {c : Cell} (hc : c.flow = f.id) :
    idleB f p c t = true ↔ (c.src = f.dst ∨ holdsR f ats c.src p.frame t = false ∨ ackedR ats c p.frame t = true) := by
  have e1 : (match p.since.get [c.src] with | some a => decide (t < a) | Option.none => true) = !holdsR f ats c.src p.frame t := by
    rw [Bool.eq_iff_iff, Bool.not_eq_true']
    cases hs : p.since.get [c.src] with
    | none =>
      simp only [true_iff]
      rw [Bool.eq_false_iff]
      intro hh
      simp only [holdsR, Bool.or_eq_true, beq_iff_eq, List.any_eq_true, Bool.and_eq_true, decide_eq_true_eq] at hh
      rcases hh with hh | ⟨b, hb, h1, h2⟩
      · obtain ⟨a, h1, _⟩ := h.s3 hp
        rw [← hh, hs] at h1; cases h1
      · obtain ⟨a, h3, _⟩ := h.s2 hp _ b hb h1
        rw [hs] at h3; cases h3
    | some a =>
      simp only [decide_eq_true_eq]
      constructor
      · intro hlt
        rw [Bool.eq_false_iff]
        intro hh
        simp only [holdsR, Bool.or_eq_true, beq_iff_eq, List.any_eq_true, Bool.and_eq_true, decide_eq_true_eq] at hh
        rcases hh with hh | ⟨b, hb, h1, h2⟩
        · obtain ⟨a', h1, h2⟩ := h.s3 hp
          rw [← hh, hs] at h1; injection h1 with h1; omega
        · obtain ⟨a', h3, h4⟩ := h.s2 hp _ b hb h1
          rw [hs] at h3; injection h3 with h3; omega
      · intro hh
        rw [Bool.eq_false_iff] at hh
        apply Classical.byContradiction
        intro hge
        apply hh
        simp only [holdsR, Bool.or_eq_true, beq_iff_eq, List.any_eq_true, Bool.and_eq_true, decide_eq_true_eq]
        rcases h.s1 hp _ a hs with h1 | ⟨b, h1, h2, h3⟩
        · exact .inl h1
        · exact .inr ⟨b, h1, h2, by omega⟩
  have e2 : (match p.acked.get [c.src, c.dst] with | some a => decide (a < t) | Option.none => false) = ackedR ats c p.frame t := by
    rw [Bool.eq_iff_iff]
    cases hs : p.acked.get [c.src, c.dst] with
    | none =>
      simp only [Bool.false_eq_true, false_iff]
      intro hh
      simp only [ackedR, List.any_eq_true, Bool.and_eq_true, decide_eq_true_eq, beq_iff_eq] at hh
      obtain ⟨b, hb, ⟨h1, h2⟩, h3⟩ := hh
      obtain ⟨a, h4, _⟩ := h.a2 hp c hc b hb h1 h3
      rw [hs] at h4; cases h4
    | some a =>
      simp only [decide_eq_true_eq, ackedR, List.any_eq_true, Bool.and_eq_true, beq_iff_eq]
      constructor
      · intro hlt
        obtain ⟨b, hb, h1, h2, h3⟩ := h.a1 hp c hc a hs
        exact ⟨b, hb, ⟨h1, by omega⟩, h2⟩
      · rintro ⟨b, hb, ⟨h1, h2⟩, h3⟩
        obtain ⟨a', h4, h5⟩ := h.a2 hp c hc b hb h1 h3
        rw [hs] at h4; injection h4 with h4; omega
  have hi : idleB f p c t = (!holdsR f ats c.src p.frame t || c.src == f.dst || ackedR ats c p.frame t) := by
    unfold idleB
    exact congr (congrArg or (congrArg (fun z => or z (c.src == f.dst)) e1)) e2
  rw [hi]
  simp only [Bool.or_eq_true, Bool.not_eq_true', beq_iff_eq]
  constructor
  · rintro ((h1 | h1) | h1)
    · exact .inr (.inl h1)
    · exact .inl h1
    · exact .inr (.inr h1)
  · rintro (h1 | h1 | h1)
    · exact .inl (.inr h1)
    · exact .inl (.inl h1)
    · exact .inr h1
end HM
namespace HM
open Go Go.RowKit
def genB (l : List Flow) (R : List Att) (t : Int) (c : Cell) : Option (Int × Int × Cell) :=
  if findF l c.flow < 0 then none else
  match l[(findF l c.flow).toNat]? with
  | some f => if (curM f t).2 = false ∨ c.src = f.dst ∨ holdsR f R c.src (curM f t).1 t = false ∨ ackedR R c (curM f t).1 t = true then none else some (t, (curM f t).1, c)
  | none => none
def keyA (a : Att) : Int × Int × Cell := (a.slot, a.frame, a.cell)
theorem any_late {p : Att → Bool} {r late : List Att} {t : Int} (h : ∀ b ∈ late, t ≤ b.slot) (hp : ∀ b, p b = true → b.slot < t) : (r ++ late).any p = r.any p := by
  rw [List.any_append]
  have : late.any p = false := by
    rw [List.any_eq_false]
    intro b hb hpb
    have := h b hb
    have := hp b hpb
    omega
  rw [this, Bool.or_false]
theorem genB_late (l : List Flow) {r late : List Att} {t : Int} (h : ∀ b ∈ late, t ≤ b.slot) (c : Cell) : genB l (r ++ late) t c = genB l r t c := by
  unfold genB holdsR ackedR
  have e1 : ∀ id n node, ((r ++ late).any fun a => gotA id n node a && decide (a.slot < t)) = r.any fun a => gotA id n node a && decide (a.slot < t) := fun id n node => any_late h fun b hb => by
    simp only [Bool.and_eq_true, decide_eq_true_eq] at hb; exact hb.2
  have e2 : ∀ n, ((r ++ late).any fun a => onA c n a && decide (a.slot < t) && a.out == 1) = r.any fun a => onA c n a && decide (a.slot < t) && a.out == 1 := fun n => any_late h fun b hb => by
    simp only [Bool.and_eq_true, decide_eq_true_eq] at hb; exact hb.1.2
  simp only [e1, e2]
theorem attemptR_gen (l : List Flow) (x : List Rule) (t : Int) (r : RunL) (c : Cell) : ∃ late, (attemptR l x t r c).atts = r.atts ++ late ∧ (∀ b ∈ late, b.slot = t) ∧ late.map keyA = (genB l r.atts t c).toList := by
  unfold attemptR genB
  by_cases h1 : findF l c.flow < 0
  · rw [if_pos h1, if_pos h1]; exact ⟨[], by simp, by simp, rfl⟩
  rw [if_neg h1, if_neg h1]
  cases hf : l[(findF l c.flow).toNat]? with
  | none => exact ⟨[], by simp, by simp, rfl⟩
  | some f =>
    simp only
    by_cases h2 : (curM f t).2 = false ∨ c.src = f.dst ∨ holdsR f r.atts c.src (curM f t).1 t = false ∨ ackedR r.atts c (curM f t).1 t = true
    · rw [if_pos h2, if_pos h2]; exact ⟨[], by simp, by simp, rfl⟩
    · rw [if_neg h2, if_neg h2]; exact ⟨[_], rfl, by simp, rfl⟩
theorem fold_gen (l : List Flow) (x : List Rule) (t : Int) : ∀ (cs : List Cell) (r : RunL) (r0 : List Att) (late0 : List Att), r.atts = r0 ++ late0 → (∀ b ∈ late0, b.slot = t) → ∃ late, (cs.foldl (attemptR l x t) r).atts = r.atts ++ late ∧ (∀ b ∈ late, b.slot = t) ∧ late.map keyA = cs.filterMap (genB l r0 t)
  | [], r, r0, late0, _, _ => ⟨[], by simp, by simp, rfl⟩
  | c :: cs, r, r0, late0, h0, hl0 => by
    obtain ⟨l1, h1, h2, h3⟩ := attemptR_gen l x t r c
    obtain ⟨l2, h4, h5, h6⟩ := fold_gen l x t cs (attemptR l x t r c) r0 (late0 ++ l1) (by rw [h1, h0, List.append_assoc]) (fun b hb => by
      rcases List.mem_append.1 hb with hb | hb
      · exact hl0 b hb
      · exact h2 b hb)
    refine ⟨l1 ++ l2, by rw [List.foldl_cons, h4, h1, List.append_assoc], fun b hb => ?_, ?_⟩
    · rcases List.mem_append.1 hb with hb | hb
      · exact h2 b hb
      · exact h5 b hb
    · rw [List.map_append, h3, h6, h0, genB_late l (fun b hb => by rw [hl0 b hb]; exact Int.le_refl _), List.filterMap_cons]
      cases genB l r0 t c <;> rfl
theorem slotR_gen (l : List Flow) (s : Sched) (x : List Rule) (r : RunL) (t : Int) : ∃ late, (slotR l s x r t).atts = r.atts ++ late ∧ (∀ b ∈ late, b.slot = t) ∧ late.map keyA = (atM s t).filterMap (genB l r.atts t) :=
  fold_gen l x t (atM s t) r r.atts [] (by simp) (by simp)
end HM
namespace HM
open Go Go.RowKit
end HM
namespace HM
open Go Go.RowKit
theorem key_eq {a b c d : Int} : ([a, b] : List Int) = [c, d] ↔ a = c ∧ b = d := by simp
theorem onA_at {c' : Cell} {t n o : Int} {c : Cell} (h : c.flow = c'.flow) (m : Int) : onA c' m ⟨t, n, c, o⟩ = (decide (n = m) && decide ([c'.src, c'.dst] = [c.src, c.dst])) := by
  rw [Bool.eq_iff_iff]
  simp only [onA, Bool.and_eq_true, beq_iff_eq, decide_eq_true_eq, key_eq, h]
  constructor
  · rintro ⟨⟨⟨_, h1⟩, h2⟩, h3⟩
    exact ⟨h1, h2.symm, h3.symm⟩
  · rintro ⟨h1, h2, h3⟩
    exact ⟨⟨⟨trivial, h1⟩, h2.symm⟩, h3.symm⟩
theorem FlowI.used {f : Flow} {t : Int} {p : PS} {ats : List Att} {ds ds' : List Del} (h : FlowI f t p ats ds) (hp : 0 ≤ p.frame) {c : Cell} (hc : c.flow = f.id) (o : Int) (ht : ∀ b ∈ ats, b.slot ≤ t)
    (hd : hadR ds' f.id p.frame = (hadR ds f.id p.frame || (decide (o ≠ 3) && c.dst == f.dst))) : FlowI f t (usedP f p c t o) (ats ++ [⟨t, p.frame, c, o⟩]) ds' := by
  obtain ⟨k1, k2, k3⟩ := h.ok
  have hbound : ∀ node a, p.since.get [node] = some a → a ≤ t + 1 := by
    intro node a ha
    rcases h.s1 hp node a ha with rfl | ⟨b, hb, _, rfl⟩
    · obtain ⟨a', h1, h2⟩ := h.s3 hp
      rw [ha] at h1; injection h1 with h1; omega
    · have := ht b hb; omega
  have hbound2 : ∀ c' : Cell, c'.flow = f.id → ∀ a, p.acked.get [c'.src, c'.dst] = some a → a ≤ t := by
    intro c' hc' a ha
    obtain ⟨b, hb, _, _, rfl⟩ := h.a1 hp c' hc' a ha
    exact ht b hb
  have hgb : ∀ node, gotA f.id p.frame node ⟨t, p.frame, c, o⟩ = true ↔ node = c.dst ∧ o ≠ 3 := by
    intro node
    simp only [gotA, hc, Bool.and_eq_true, beq_iff_eq, bne_iff_ne, true_and]
    constructor
    · rintro ⟨h1, h2⟩; exact ⟨h1.symm, h2⟩
    · rintro ⟨h1, h2⟩; exact ⟨h1.symm, h2⟩
  refine ⟨⟨?_, IM.set_ok k2 _ _, ?_⟩, h.off, h.on, fun _ node a ha => ?_, fun _ node b hb hh => ?_, fun _ => ?_, fun _ c' hc' a ha => ?_, fun _ c' hc' b hb hh ho => ?_, fun _ c' hc' => ?_, fun _ => ?_⟩
  · show IM.ok (if o ≠ 3 ∧ p.since.get [c.dst] = Option.none then p.since.set [c.dst] (t + 1) else p.since)
    split
    · exact IM.set_ok k1 _ _
    · exact k1
  · show IM.ok (if o = 1 ∧ p.acked.get [c.src, c.dst] = Option.none then p.acked.set [c.src, c.dst] t else p.acked)
    split
    · exact IM.set_ok k3 _ _
    · exact k3
  · replace ha : (if o ≠ 3 ∧ p.since.get [c.dst] = Option.none then p.since.set [c.dst] (t + 1) else p.since).get [node] = some a := ha
    have old : p.since.get [node] = some a → node = f.src ∨ ∃ b ∈ ats ++ [⟨t, p.frame, c, o⟩], gotA f.id p.frame node b = true ∧ a = b.slot + 1 := by
      intro ha
      rcases h.s1 hp node a ha with h1 | ⟨b, hb, h2⟩
      · exact .inl h1
      · exact .inr ⟨b, by simp [hb], h2⟩
    split at ha
    · rename_i hh
      rw [IM.get_set k1] at ha
      split at ha
      · rename_i he
        injection he with he
        injection ha with ha
        exact .inr ⟨_, by simp, (hgb node).2 ⟨he, hh.1⟩, ha.symm⟩
      · exact old ha
    · exact old ha
  · show ∃ a, (if o ≠ 3 ∧ p.since.get [c.dst] = Option.none then p.since.set [c.dst] (t + 1) else p.since).get [node] = some a ∧ a ≤ b.slot + 1
    have hb' : b ∈ ats ∨ b = ⟨t, p.frame, c, o⟩ := by simpa using hb
    rcases hb' with hb' | rfl
    · obtain ⟨a, h1, h2⟩ := h.s2 hp node b hb' hh
      refine ⟨a, ?_, h2⟩
      split
      · rename_i hx
        rw [IM.get_set k1, if_neg ?_]
        · exact h1
        · intro he; rw [he, hx.2] at h1; cases h1
      · exact h1
    · obtain ⟨rfl, ho⟩ := (hgb node).1 hh
      cases hs : p.since.get [c.dst] with
      | none => rw [if_pos ⟨ho, rfl⟩]; exact ⟨t + 1, by simp [IM.get_set k1], Int.le_refl _⟩
      | some a => rw [if_neg (fun hh => by cases hh.2)]; exact ⟨a, hs, hbound _ a hs⟩
  · show ∃ a, (if o ≠ 3 ∧ p.since.get [c.dst] = Option.none then p.since.set [c.dst] (t + 1) else p.since).get [f.src] = some a ∧ a ≤ t
    obtain ⟨a, h1, h2⟩ := h.s3 hp
    refine ⟨a, ?_, h2⟩
    split
    · rename_i hx
      rw [IM.get_set k1, if_neg ?_]
      · exact h1
      · intro he; rw [he, hx.2] at h1; cases h1
    · exact h1
  · replace ha : (if o = 1 ∧ p.acked.get [c.src, c.dst] = Option.none then p.acked.set [c.src, c.dst] t else p.acked).get [c'.src, c'.dst] = some a := ha
    have old : p.acked.get [c'.src, c'.dst] = some a → ∃ b ∈ ats ++ [⟨t, p.frame, c, o⟩], onA c' p.frame b = true ∧ b.out = 1 ∧ b.slot = a := by
      intro ha
      obtain ⟨b, hb, h2⟩ := h.a1 hp c' hc' a ha
      exact ⟨b, by simp [hb], h2⟩
    split at ha
    · rename_i hh
      rw [IM.get_set k3] at ha
      split at ha
      · rename_i he
        injection ha with ha
        exact ⟨_, List.mem_append_right _ (List.mem_singleton.2 rfl), by rw [onA_at (hc.trans hc'.symm)]; simp [he]; rfl, hh.1, ha⟩
      · exact old ha
    · exact old ha
  · show ∃ a, (if o = 1 ∧ p.acked.get [c.src, c.dst] = Option.none then p.acked.set [c.src, c.dst] t else p.acked).get [c'.src, c'.dst] = some a ∧ a ≤ b.slot
    have hb' : b ∈ ats ∨ b = ⟨t, p.frame, c, o⟩ := by simpa using hb
    rcases hb' with hb' | rfl
    · obtain ⟨a, h1, h2⟩ := h.a2 hp c' hc' b hb' hh ho
      refine ⟨a, ?_, h2⟩
      split
      · rename_i hx
        rw [IM.get_set k3, if_neg ?_]
        · exact h1
        · intro he; rw [he, hx.2] at h1; cases h1
      · exact h1
    · have hh : onA c' p.frame ⟨t, p.frame, c, o⟩ = true := hh
      rw [onA_at (hc.trans hc'.symm)] at hh
      simp only [decide_true, Bool.true_and, decide_eq_true_eq] at hh
      rw [hh]
      cases hs : p.acked.get [c.src, c.dst] with
      | none => rw [if_pos ⟨ho, rfl⟩]; exact ⟨t, by simp [IM.get_set k3], Int.le_refl _⟩
      | some a => rw [if_neg (fun hh => by cases hh.2)]; exact ⟨a, hs, hbound2 c hc a hs⟩
  · show ((p.tries.set [c.src, c.dst] ((p.tries.get [c.src, c.dst]).getD 0 + 1)).get [c'.src, c'.dst]).getD 0 = (countR (ats ++ [⟨t, p.frame, c, o⟩]) c' p.frame : Int)
    rw [IM.get_set k2]
    have e1 := h.tr hp c' hc'
    have e2 := h.tr hp c hc
    unfold countR at e1 e2 ⊢
    rw [List.countP_append, List.countP_singleton, onA_at (hc.trans hc'.symm)]
    by_cases he : [c'.src, c'.dst] = [c.src, c.dst]
    · have e3 : List.countP (onA c' p.frame) ats = List.countP (onA c p.frame) ats := by
        congr 1
        funext b
        obtain ⟨h1, h2⟩ := key_eq.1 he
        simp only [onA, h1, h2, hc, hc']
      rw [if_pos he, e3]
      simp [he, e2]
    · rw [if_neg he, e1]
      simp [he]
  · show (p.done || (decide (o ≠ 3) && c.dst == f.dst)) = _
    rw [h.dn hp]; exact hd.symm
theorem takeWhile_none {α : Type} {q : α → Bool} {l : List α} (h : ∀ x ∈ l, q x = false) : l.takeWhile q = [] := by
  cases l with
  | nil => rfl
  | cons x l => rw [List.takeWhile_cons, h x (by simp)]; rfl
theorem dropWhile_none {α : Type} {q : α → Bool} {l : List α} (h : ∀ x ∈ l, q x = false) : l.dropWhile q = l := by
  cases l with
  | nil => rfl
  | cons x l => rw [List.dropWhile_cons, h x (by simp)]; rfl
theorem insD_app {d : Del} {base old : List Del} (h : ∀ x ∈ base, x.slot ≠ d.slot) : insD d (base ++ old) = base ++ insD d old := by
  have hb : ∀ x ∈ base.reverse, laterD d x = false := by
    intro x hx
    have := h x (by simpa using hx)
    simp [laterD, this]
  unfold insD
  rw [List.reverse_append, List.takeWhile_append, List.dropWhile_append, takeWhile_none hb, dropWhile_none hb]
  split
  · rename_i he
    have e2 := List.takeWhile_append_dropWhile (p := laterD d) (l := old.reverse)
    have e4 : List.dropWhile (laterD d) old.reverse = [] := List.isEmpty_iff.1 he
    have e1 : List.takeWhile (laterD d) old.reverse = old.reverse := by
      rw [e4, List.append_nil] at e2
      exact e2
    rw [e4, e1]
    simp
  · rename_i he
    have e2 := List.takeWhile_append_dropWhile (p := laterD d) (l := old.reverse)
    rw [if_neg ?_]
    · simp
    · intro hl
      apply he
      have e3 := congrArg List.length e2
      rw [List.length_append] at e3
      rw [List.isEmpty_iff]
      exact List.length_eq_zero_iff.1 (by omega)
theorem insD_perm (d : Del) (l : List Del) : (insD d l).Perm (l ++ [d]) := by
  have e2 := List.takeWhile_append_dropWhile (p := laterD d) (l := l.reverse)
  have e3 : l = (l.reverse.dropWhile (laterD d)).reverse ++ (l.reverse.takeWhile (laterD d)).reverse := by
    rw [← List.reverse_append, e2, List.reverse_reverse]
  unfold insD
  refine List.Perm.trans (List.perm_middle) ?_
  refine List.Perm.trans ?_ (List.perm_append_singleton d l).symm
  rw [← e3]
theorem insD_sorted {d : Del} {l : List Del} (h : l.Pairwise fun a b => a.flow < b.flow) (hs : ∀ x ∈ l, x.slot = d.slot) (hn : ∀ x ∈ l, x.flow ≠ d.flow) : (insD d l).Pairwise fun a b => a.flow < b.flow := by
  have e2 := List.takeWhile_append_dropWhile (p := laterD d) (l := l.reverse)
  have hr : l.reverse.Pairwise fun a b => b.flow < a.flow := List.pairwise_reverse.2 h
  have hmem : ∀ x, x ∈ l.reverse.takeWhile (laterD d) ++ l.reverse.dropWhile (laterD d) → x ∈ l := fun x hx => by rw [e2] at hx; simpa using hx
  have h1 : ∀ x ∈ l.reverse.takeWhile (laterD d), d.flow < x.flow := by
    intro x hx
    have := List.all_eq_true.1 (List.all_takeWhile (p := laterD d) (l := l.reverse)) x hx
    simp only [laterD, Bool.and_eq_true, decide_eq_true_eq] at this
    exact this.2
  have h2 : ∀ x ∈ l.reverse.dropWhile (laterD d), x.flow < d.flow := by
    rw [← e2] at hr
    have hr2 := (List.pairwise_append.1 hr).2.1
    cases hd : l.reverse.dropWhile (laterD d) with
    | nil => intro x hx; cases hx
    | cons y ys =>
      rw [hd] at hr2
      have hy : laterD d y = false := by
        have := List.head_dropWhile_not (laterD d) (l := l.reverse) (by rw [hd]; simp)
        simpa [hd] using this
      have hyl : y ∈ l := hmem y (by rw [hd]; simp)
      have hy2 : y.flow < d.flow := by
        simp only [laterD, hs y hyl, beq_self_eq_true, Bool.true_and, decide_eq_false_iff_not] at hy
        have := hn y hyl
        omega
      intro x hx
      rcases List.mem_cons.1 hx with rfl | hx
      · exact hy2
      · have := (List.pairwise_cons.1 hr2).1 x hx
        omega
  rw [← e2] at hr
  obtain ⟨r1, r2, r3⟩ := List.pairwise_append.1 hr
  unfold insD
  refine List.pairwise_append.2 ⟨List.pairwise_reverse.2 r2, List.pairwise_cons.2 ⟨fun x hx => h1 x (by simpa using hx), List.pairwise_reverse.2 r1⟩, fun a ha b hb => ?_⟩
  have ha' := h2 a (by simpa using ha)
  rcases List.mem_cons.1 hb with rfl | hb
  · exact ha'
  · have := h1 b (by simpa using hb)
    omega
theorem sort_eq {l l' : List Del} (hp : l'.Perm l) (h : l'.Pairwise fun a b => a.flow < b.flow) : l.mergeSort (fun a b => decide (a.flow ≤ b.flow)) = l' := by
  refine List.Perm.eq_of_pairwise (le := fun a b : Del => a.flow ≤ b.flow) (fun a b ha hb h1 h2 => ?_) ?_ (h.imp fun h => Int.le_of_lt h) ((List.mergeSort_perm _ _).trans hp.symm)
  · have ha' : a ∈ l' := hp.symm.subset ((List.mergeSort_perm _ _).subset ha)
    obtain ⟨i, hi⟩ := List.getElem?_of_mem ha'
    obtain ⟨j, hj⟩ := List.getElem?_of_mem hb
    obtain ⟨hi1, hi2⟩ := List.getElem?_eq_some_iff.1 hi
    obtain ⟨hj1, hj2⟩ := List.getElem?_eq_some_iff.1 hj
    rcases Nat.lt_trichotomy i j with hij | rfl | hij
    · have := List.pairwise_iff_getElem.1 h i j hi1 hj1 hij
      rw [hi2, hj2] at this; omega
    · rw [hi] at hj; injection hj
    · have := List.pairwise_iff_getElem.1 h j i hj1 hi1 hij
      rw [hi2, hj2] at this; omega
  · have := List.pairwise_mergeSort (le := fun a b : Del => decide (a.flow ≤ b.flow)) (fun a b c h1 h2 => by simp at *; omega) (fun a b => by simp; omega) l
    exact this.imp fun h => by simpa using h
structure Sim (l : List Flow) (t : Int) (base : List Del) (q : PL) (r : RunL) : Prop where
  len : q.sts.length = l.length
  fl : ∀ (i : Nat) (f : Flow) (p : PS), l[i]? = some f → q.sts[i]? = some p → FlowI f t p q.atts q.dels
  run : RunI l t q.atts q.dels
  at_ : r.atts = q.atts
  dl : ∃ new old, q.dels = base ++ new ∧ r.dels = base ++ old ∧ old.Perm new ∧ (old.Pairwise fun a b => a.flow < b.flow) ∧ ∀ d ∈ new, d.slot = t
  bs : ∀ d ∈ base, d.slot < t
theorem hadR_append (a b : List Del) (id n : Int) : hadR (a ++ b) id n = (hadR a id n || hadR b id n) := by simp [hadR]
theorem hadR_perm {a b : List Del} (h : a.Perm b) (id n : Int) : hadR a id n = hadR b id n := by
  rw [Bool.eq_iff_iff]
  simp only [hadR, List.any_eq_true]
  constructor
  · rintro ⟨d, hd, h1⟩; exact ⟨d, h.subset hd, h1⟩
  · rintro ⟨d, hd, h1⟩; exact ⟨d, h.symm.subset hd, h1⟩
theorem Sim.attempt {l : List Flow} (hl : FlowsOk l) {t : Int} (ht : t ≤ 1099511627776) (ht0 : 0 ≤ t) {base : List Del} {q : PL} {r : RunL} (x : List Rule) (h : Sim l t base q r) (c : Cell) : Sim l t base (attemptS l x t q c) (attemptR l x t r c) := by
  unfold attemptS attemptR
  by_cases h1 : findF l c.flow < 0
  · rw [if_pos h1, if_pos h1]; exact h
  rw [if_neg h1, if_neg h1]
  obtain ⟨i, f, e1, hf, hid⟩ := findF_at h1
  have hil := (List.getElem?_eq_some_iff.1 hf).1
  obtain ⟨p, hp⟩ : ∃ p, q.sts[i]? = some p := ⟨_, List.getElem?_eq_getElem (by rw [h.len]; exact hil)⟩
  have hF := h.fl i f p hf hp
  have hfe := hl.ok i f hf
  rw [e1, Int.toNat_natCast, hf, hp]
  simp only
  by_cases hcur : (curM f t).2 = false
  · rw [if_pos (.inl (by rw [hF.off hcur]; decide)), if_pos (.inl hcur)]; exact h
  have hcur : (curM f t).2 = true := by simpa using hcur
  have hfr := hF.on hcur
  have hp0 : 0 ≤ p.frame := by rw [hfr]; exact cur_nn hfe hcur
  have hidle := idle_iff hF hp0 hid.symm
  by_cases hid2 : idleB f p c t = true
  · rw [if_pos (.inr hid2), if_pos]
    · exact h
    · rw [← hfr, h.at_]
      exact .inr (hidle.1 hid2)
  have n1 : ¬ (p.frame < 0 ∨ idleB f p c t = true) := by
    rintro (hh | hh)
    · omega
    · exact hid2 hh
  have n2 : ¬ ((curM f t).2 = false ∨ c.src = f.dst ∨ holdsR f r.atts c.src (curM f t).1 t = false ∨ ackedR r.atts c (curM f t).1 t = true) := by
    rintro (hh | hh)
    · rw [hcur] at hh; cases hh
    · rw [← hfr, h.at_] at hh
      exact hid2 (hidle.2 hh)
  rw [if_neg n1, if_neg n2]
  have ho : outP x f p c = outcomeM x c.flow (curM f t).1 c.src c.dst (countR r.atts c (curM f t).1) := by
    unfold outP
    rw [hF.tr hp0 c hid.symm, ← hfr, h.at_, hid, Int.toNat_natCast]
  rw [← ho, ← hfr]
  obtain ⟨o, hoe⟩ : ∃ o, o = outP x f p c := ⟨_, rfl⟩
  rw [← hoe]
  obtain ⟨new, old, d1, d2, d3, d4, d5⟩ := h.dl
  have hperm : r.dels.Perm q.dels := by rw [d1, d2]; exact List.Perm.append_left base d3
  have hdn : p.done = hadR r.dels c.flow p.frame := by rw [hadR_perm hperm, ← hid]; exact hF.dn hp0
  obtain ⟨b, hb⟩ : ∃ b : Att, b = ⟨t, p.frame, c, o⟩ := ⟨_, rfl⟩
  rw [← hb]
  obtain ⟨d, hd⟩ : ∃ d : Del, d = ⟨f.id, p.frame, t⟩ := ⟨_, rfl⟩
  rw [show (⟨c.flow, p.frame, t⟩ : Del) = d from by rw [hd, hid], ← hd]
  have hcond : (o ≠ 3 ∧ c.dst = f.dst ∧ p.done = false) ↔ (c.dst = f.dst ∧ o ≠ 3 ∧ hadR r.dels c.flow p.frame = false) := by
    rw [hdn]
    constructor
    · rintro ⟨g1, g2, g3⟩; exact ⟨g2, g1, g3⟩
    · rintro ⟨g1, g2, g3⟩; exact ⟨g2, g1, g3⟩
  have hslots : ∀ b ∈ q.atts, b.slot ≤ t := fun b hb => (h.run.at_ b hb).2.1
  have hrun : RunI l t (q.atts ++ [b]) q.dels := by
    refine ⟨fun b' hb' => ?_, fun d' hd' => ?_⟩
    · rcases List.mem_append.1 hb' with hb' | hb'
      · exact h.run.at_ b' hb'
      · have hb' : b' = b := by simpa using hb'
        subst hb'; subst hb
        refine ⟨ht0, Int.le_refl _, i, f, hf, hid, ?_⟩
        show curM f t = (p.frame, true)
        rw [hfr, ← hcur]
    · obtain ⟨b', g1, g2⟩ := h.run.dl d' hd'
      exact ⟨b', by simp [g1], g2⟩
  by_cases hdel : o ≠ 3 ∧ c.dst = f.dst ∧ p.done = false
  · rw [if_pos hdel, if_pos (hcond.1 hdel)]
    obtain ⟨g1, g2, g3⟩ := hdel
    have hfresh : ∀ d' ∈ new, d'.flow ≠ f.id := by
      intro d' hd' he
      have hmem : d' ∈ q.dels := by rw [d1]; simp [hd']
      obtain ⟨b', f1, f2, f3, f4⟩ := h.run.dl d' hmem
      have h5 := (h.run.frame hl ht hf f1 (f4.trans he)).2.2
      rw [f2, d5 d' hd'] at h5
      have h6 : hadR q.dels f.id p.frame = true := by
        simp only [hadR, List.any_eq_true, Bool.and_eq_true, beq_iff_eq]
        exact ⟨d', hmem, he, by rw [← f3, hfr, h5]⟩
      rw [hF.dn hp0, h6] at g3
      cases g3
    have hbase : ∀ y ∈ base, y.slot ≠ d.slot := fun y hy => by
      have := h.bs y hy
      rw [hd]; simp only; omega
    have hold : ∀ y ∈ old, y ∈ new := fun y hy => d3.subset hy
    have hhad : hadR (q.dels ++ [d]) f.id p.frame = (hadR q.dels f.id p.frame || (decide (o ≠ 3) && c.dst == f.dst)) := by
      rw [hadR_append]
      congr 1
      rw [hd]; simp [hadR, g1, g2]
    refine ⟨by simp [h.len], fun j f' p' hf' hp' => ?_, ⟨hrun.at_, fun d' hd' => ?_⟩, by rw [h.at_], ⟨new ++ [d], insD d old, by simp [d1], ?_, ?_, ?_, ?_⟩, h.bs⟩
    · by_cases hj : i = j
      · subst hj
        rw [hf] at hf'; injection hf' with hf'; subst hf'
        have hpe : p' = usedP f p c t o := by
          simp only [List.getElem?_set_self (show i < q.sts.length by rw [h.len]; exact hil), Option.some.injEq] at hp'
          exact hp'.symm
        subst hpe
        rw [hb]
        exact hF.used hp0 hid.symm o hslots hhad
      · simp only [List.getElem?_set_ne hj] at hp'
        have hne : f'.id ≠ f.id := fun he => hj (same_flow hl hf hf' he.symm).1
        refine (h.fl j f' p' hf' hp').other (by rw [hb]; show c.flow ≠ f'.id; rw [← hid]; exact fun he => hne he.symm) fun n => ?_
        rw [hadR_append]
        have : hadR [d] f'.id n = false := by
          have hne' : ¬ f.id = f'.id := fun he => hne he.symm
          rw [hd]; simp [hadR, hne']
        rw [this, Bool.or_false]
    · rcases List.mem_append.1 hd' with hd' | hd'
      · exact hrun.dl d' hd'
      · have hd' : d' = d := by simpa using hd'
        subst hd'
        exact ⟨b, by simp, by rw [hb, hd], by rw [hb, hd], by rw [hb, hd]; exact hid.symm⟩
    · rw [d2, insD_app hbase]
    · exact (insD_perm d old).trans (List.Perm.append_right _ d3)
    · exact insD_sorted d4 (fun y hy => by rw [d5 y (hold y hy), hd]) (fun y hy => by rw [hd]; exact hfresh y (hold y hy))
    · intro d' hd'
      rcases List.mem_append.1 hd' with hd' | hd'
      · exact d5 d' hd'
      · have hd' : d' = d := by simpa using hd'
        rw [hd', hd]
  · rw [if_neg hdel, if_neg (fun hh => hdel (hcond.2 hh))]
    have hhad : hadR q.dels f.id p.frame = (hadR q.dels f.id p.frame || (decide (o ≠ 3) && c.dst == f.dst)) := by
      rw [← hF.dn hp0]
      cases hpd : p.done with
      | true => rfl
      | false =>
        symm
        simp only [Bool.false_or]
        rw [Bool.eq_false_iff]
        intro hh
        simp only [Bool.and_eq_true, decide_eq_true_eq, beq_iff_eq] at hh
        exact hdel ⟨hh.1, hh.2, hpd⟩
    refine ⟨by simp [h.len], fun j f' p' hf' hp' => ?_, by simp only [List.append_nil]; exact hrun, by rw [h.at_], ⟨new, old, by simp [d1], d2, d3, d4, d5⟩, h.bs⟩
    simp only [List.append_nil]
    by_cases hj : i = j
    · subst hj
      rw [hf] at hf'; injection hf' with hf'; subst hf'
      have hpe : p' = usedP f p c t o := by
        simp only [List.getElem?_set_self (show i < q.sts.length by rw [h.len]; exact hil), Option.some.injEq] at hp'
        exact hp'.symm
      subst hpe
      rw [hb]
      exact hF.used hp0 hid.symm o hslots hhad
    · simp only [List.getElem?_set_ne hj] at hp'
      have hne : f'.id ≠ f.id := fun he => hj (same_flow hl hf hf' he.symm).1
      exact (h.fl j f' p' hf' hp').other (by rw [hb]; show c.flow ≠ f'.id; rw [← hid]; exact fun he => hne he.symm) fun n => rfl
theorem Sim.fold {l : List Flow} (hl : FlowsOk l) {t : Int} (ht : t ≤ 1099511627776) (ht0 : 0 ≤ t) {base : List Del} (x : List Rule) : ∀ (cs : List Cell) {q : PL} {r : RunL}, Sim l t base q r → Sim l t base (cs.foldl (attemptS l x t) q) (cs.foldl (attemptR l x t) r)
  | [], _, _, h => h
  | c :: cs, _, _, h => Sim.fold hl ht ht0 x cs (h.attempt hl ht ht0 x c)
structure SimE (l : List Flow) (t : Int) (q : PL) (r : RunL) : Prop where
  len : q.sts.length = l.length
  fl : ∀ (i : Nat) (f : Flow) (p : PS), l[i]? = some f → q.sts[i]? = some p → FlowI f t p q.atts q.dels
  run : RunI l t q.atts q.dels
  at_ : r.atts = q.atts
  dl : r.dels = q.dels
theorem SimE.slot {l : List Flow} (hl : FlowsOk l) {t : Int} (ht : t + 1 ≤ 1099511627776) (ht0 : -1 ≤ t) {q : PL} {r : RunL} (s : Sched) (x : List Rule) (h : SimE l t q r) : SimE l (t + 1) (slotS l s x q (t + 1)) (slotR l s x r (t + 1)) := by
  have hslot : ∀ d ∈ q.dels, d.slot < t + 1 := fun d hd => by
    obtain ⟨b, hb, h1, _⟩ := h.run.dl d hd
    have := (h.run.at_ b hb).2.1
    omega
  have h0 : Sim l (t + 1) q.dels ⟨releaseS l (t + 1) q.sts, q.atts, q.dels⟩ r := by
    refine ⟨by simp [releaseS, h.len], fun i f p hf hp => ?_, ⟨fun b hb => ?_, h.run.dl⟩, h.at_, ⟨[], [], by simp, by simp [h.dl], .refl _, .nil, by simp⟩, hslot⟩
    · simp only [releaseS, List.getElem?_zipWith, hf] at hp
      cases hq : q.sts[i]? with
      | none => rw [hq] at hp; cases hp
      | some p0 =>
        rw [hq] at hp
        simp only [Option.some.injEq] at hp
        subst hp
        exact (h.fl i f p0 hf hq).release hl ht h.run hf
    · obtain ⟨g1, g2, g3⟩ := h.run.at_ b hb
      exact ⟨g1, by omega, g3⟩
  have h1 := h0.fold hl ht (by omega) x (atM s (t + 1))
  unfold slotS slotR
  obtain ⟨q1, hq1⟩ : ∃ q1, q1 = (atM s (t + 1)).foldl (attemptS l x (t + 1)) ⟨releaseS l (t + 1) q.sts, q.atts, q.dels⟩ := ⟨_, rfl⟩
  obtain ⟨r1, hr1⟩ : ∃ r1, r1 = (atM s (t + 1)).foldl (attemptR l x (t + 1)) r := ⟨_, rfl⟩
  rw [← hq1, ← hr1] at h1
  simp only
  rw [← hq1, ← hr1]
  obtain ⟨new, old, d1, d2, d3, d4, d5⟩ := h1.dl
  have e1 : q1.dels.take q.dels.length = q.dels := by rw [d1]; simp
  have e2 : q1.dels.drop q.dels.length = new := by rw [d1]; simp
  rw [e1, e2, sort_eq d3 d4]
  have hperm : (q.dels ++ old).Perm q1.dels := by rw [d1]; exact List.Perm.append_left _ d3
  refine ⟨h1.len, fun i f p hf hp => ?_, ⟨h1.run.at_, fun d hd => h1.run.dl d (hperm.subset hd)⟩, h1.at_, d2⟩
  obtain ⟨k1, k2, k3, k4, k5, k6, k7, k8, k9, k10⟩ := h1.fl i f p hf hp
  exact ⟨k1, k2, k3, k4, k5, k6, k7, k8, k9, fun hp => by rw [hadR_perm hperm]; exact k10 hp⟩
end HM
namespace HM
open Go Go.RowKit
def endA (l : List Flow) (a : Att) : Prop := ∃ (i : Nat) (f : Flow), l[i]? = some f ∧ f.id = a.cell.flow ∧ a.cell.dst = f.dst ∧ a.out ≠ 3
structure DelI (l : List Flow) (r : RunL) : Prop where
  fm : ∀ d ∈ r.dels, ∃ a ∈ r.atts, a.slot = d.slot ∧ a.frame = d.frame ∧ a.cell.flow = d.flow ∧ endA l a
  to : ∀ a ∈ r.atts, endA l a → ∃ d ∈ r.dels, d.flow = a.cell.flow ∧ d.frame = a.frame ∧ d.slot ≤ a.slot
  un : r.dels.Pairwise fun d e => ¬ (d.flow = e.flow ∧ d.frame = e.frame)
theorem insD_mem {d e : Del} {ds : List Del} : e ∈ insD d ds ↔ e ∈ ds ∨ e = d := by
  rw [(insD_perm d ds).mem_iff]; simp
theorem insD_un {d : Del} {ds : List Del} (h : ds.Pairwise fun d e => ¬ (d.flow = e.flow ∧ d.frame = e.frame)) (hn : ∀ e ∈ ds, ¬ (e.flow = d.flow ∧ e.frame = d.frame)) : (insD d ds).Pairwise fun d e => ¬ (d.flow = e.flow ∧ d.frame = e.frame) := by
  refine List.Pairwise.perm (l := ds ++ [d]) ?_ (insD_perm d ds).symm (fun {x y} hxy hyx => hxy ⟨hyx.1.symm, hyx.2.symm⟩)
  exact List.pairwise_append.2 ⟨h, by simp, fun a ha b hb => by
    have : b = d := by simpa using hb
    subst this
    exact hn a ha⟩
theorem DelI.attempt {l : List Flow} (hl : FlowsOk l) {x : List Rule} {t : Int} {r : RunL} (h : DelI l r) (hs : ∀ d ∈ r.dels, d.slot ≤ t) (c : Cell) : DelI l (attemptR l x t r c) ∧ ∀ d ∈ (attemptR l x t r c).dels, d.slot ≤ t := by
  unfold attemptR
  by_cases h1 : findF l c.flow < 0
  · rw [if_pos h1]; exact ⟨h, hs⟩
  rw [if_neg h1]
  obtain ⟨i, f, e1, hf, hid⟩ := findF_at h1
  rw [e1, Int.toNat_natCast, hf]
  simp only
  by_cases h2 : (curM f t).2 = false ∨ c.src = f.dst ∨ holdsR f r.atts c.src (curM f t).1 t = false ∨ ackedR r.atts c (curM f t).1 t = true
  · rw [if_pos h2]; exact ⟨h, hs⟩
  rw [if_neg h2]
  obtain ⟨o, ho⟩ : ∃ o, o = outcomeM x c.flow (curM f t).1 c.src c.dst (countR r.atts c (curM f t).1) := ⟨_, rfl⟩
  rw [← ho]
  have hend : endA l ⟨t, (curM f t).1, c, o⟩ ↔ c.dst = f.dst ∧ o ≠ 3 := by
    constructor
    · rintro ⟨j, g, hg, h3, h4, h5⟩
      obtain ⟨_, rfl⟩ := same_flow hl hf hg (by rw [hid, h3])
      exact ⟨h4, h5⟩
    · rintro ⟨h4, h5⟩
      exact ⟨i, f, hf, hid, h4, h5⟩
  by_cases h3 : c.dst = f.dst ∧ o ≠ 3 ∧ hadR r.dels c.flow (curM f t).1 = false
  · rw [if_pos h3]
    obtain ⟨g1, g2, g3⟩ := h3
    have hno : ∀ e ∈ r.dels, ¬ (e.flow = c.flow ∧ e.frame = (curM f t).1) := by
      intro e he hh
      have : hadR r.dels c.flow (curM f t).1 = true := by
        simp only [hadR, List.any_eq_true, Bool.and_eq_true, beq_iff_eq]
        exact ⟨e, he, hh⟩
      rw [g3] at this; cases this
    refine ⟨⟨fun d hd => ?_, fun a ha hae => ?_, insD_un h.un hno⟩, fun d hd => ?_⟩
    · rcases insD_mem.1 hd with hd | rfl
      · obtain ⟨a, ha, hh⟩ := h.fm d hd
        exact ⟨a, by simp [ha], hh⟩
      · exact ⟨⟨t, (curM f t).1, c, o⟩, by simp, rfl, rfl, rfl, hend.2 ⟨g1, g2⟩⟩
    · rcases List.mem_append.1 ha with ha | ha
      · obtain ⟨d, hd, hh⟩ := h.to a ha hae
        exact ⟨d, insD_mem.2 (.inl hd), hh⟩
      · have : a = ⟨t, (curM f t).1, c, o⟩ := by simpa using ha
        subst this
        exact ⟨_, insD_mem.2 (.inr rfl), rfl, rfl, Int.le_refl _⟩
    · rcases insD_mem.1 hd with hd | rfl
      · exact hs d hd
      · exact Int.le_refl _
  · rw [if_neg h3]
    refine ⟨⟨fun d hd => ?_, fun a ha hae => ?_, h.un⟩, hs⟩
    · obtain ⟨a, ha, hh⟩ := h.fm d hd
      exact ⟨a, by simp [ha], hh⟩
    · rcases List.mem_append.1 ha with ha | ha
      · exact h.to a ha hae
      · have : a = ⟨t, (curM f t).1, c, o⟩ := by simpa using ha
        subst this
        obtain ⟨g1, g2⟩ := hend.1 hae
        have hhad : hadR r.dels c.flow (curM f t).1 = true := by
          cases hh : hadR r.dels c.flow (curM f t).1 with
          | true => rfl
          | false => exact absurd ⟨g1, g2, hh⟩ h3
        simp only [hadR, List.any_eq_true, Bool.and_eq_true, beq_iff_eq] at hhad
        obtain ⟨d, hd, k1, k2⟩ := hhad
        exact ⟨d, hd, k1, k2, hs d hd⟩
theorem DelI.fold {l : List Flow} (hl : FlowsOk l) {x : List Rule} {t : Int} : ∀ (cs : List Cell) {r : RunL}, DelI l r → (∀ d ∈ r.dels, d.slot ≤ t) → DelI l (cs.foldl (attemptR l x t) r) ∧ ∀ d ∈ (cs.foldl (attemptR l x t) r).dels, d.slot ≤ t
  | [], _, h, hs => ⟨h, hs⟩
  | c :: cs, _, h, hs => by
    obtain ⟨h1, h2⟩ := h.attempt hl (x := x) hs c
    exact DelI.fold hl cs h1 h2
end HM
namespace HM
open Go Go.RowKit
def OutI (x : List Rule) (r : List Att) : Prop := ∀ (c : Cell) (fr : Int), (r.filter (onA c fr)).map (·.out) = (List.range (countR r c fr)).map fun j => outcomeM x c.flow fr c.src c.dst j
def DomI (A B : List Att) : Prop := ∀ (c : Cell) (fr : Int), countR A c fr ≤ countR B c fr ∨ ∃ b ∈ B, onA c fr b = true ∧ b.out = 1
theorem onA_same {c c0 : Cell} {fr t n o : Int} (h : onA c fr ⟨t, n, c0, o⟩ = true) : c0.flow = c.flow ∧ n = fr ∧ c0.src = c.src ∧ c0.dst = c.dst := by
  simp only [onA, Bool.and_eq_true, beq_iff_eq] at h
  exact ⟨h.1.1.1, h.1.1.2, h.1.2, h.2⟩
theorem OutI.attempt {l : List Flow} {x : List Rule} {t : Int} {r : RunL} (h : OutI x r.atts) (c : Cell) : OutI x (attemptR l x t r c).atts := by
  unfold attemptR
  by_cases h1 : findF l c.flow < 0
  · rw [if_pos h1]; exact h
  rw [if_neg h1]
  cases hf : l[(findF l c.flow).toNat]? with
  | none => exact h
  | some f =>
    simp only
    by_cases h2 : (curM f t).2 = false ∨ c.src = f.dst ∨ holdsR f r.atts c.src (curM f t).1 t = false ∨ ackedR r.atts c (curM f t).1 t = true
    · rw [if_pos h2]; exact h
    rw [if_neg h2]
    intro c' fr
    simp only
    by_cases hon : onA c' fr ⟨t, (curM f t).1, c, outcomeM x c.flow (curM f t).1 c.src c.dst (countR r.atts c (curM f t).1)⟩ = true
    · obtain ⟨e1, e2, e3, e4⟩ := onA_same hon
      have hp : onA c (curM f t).1 = onA c' fr := by funext a; simp only [onA, e1, e2, e3, e4]
      have hc : countR r.atts c (curM f t).1 = countR r.atts c' fr := by unfold countR; rw [hp]
      rw [List.filter_append, List.map_append, h c' fr]
      have h3 : countR (r.atts ++ [⟨t, (curM f t).1, c, outcomeM x c.flow (curM f t).1 c.src c.dst (countR r.atts c (curM f t).1)⟩]) c' fr = countR r.atts c' fr + 1 := by
        unfold countR at hon ⊢
        rw [List.countP_append, List.countP_singleton, if_pos hon]
      rw [h3, List.range_succ, List.map_append, List.filter_cons, if_pos hon]
      rw [hc, e1, e2, e3, e4]
      rfl
    · have hon' := Bool.eq_false_iff.2 hon
      have h3 : countR (r.atts ++ [⟨t, (curM f t).1, c, outcomeM x c.flow (curM f t).1 c.src c.dst (countR r.atts c (curM f t).1)⟩]) c' fr = countR r.atts c' fr := by
        unfold countR at hon' ⊢
        rw [List.countP_append, List.countP_singleton, hon']
        simp
      rw [h3, List.filter_append, List.filter_cons, hon']
      simpa using h c' fr
theorem OutI.fold {l : List Flow} {x : List Rule} {t : Int} : ∀ (cs : List Cell) {r : RunL}, OutI x r.atts → OutI x (cs.foldl (attemptR l x t) r).atts
  | [], _, h => h
  | c :: cs, _, h => OutI.fold cs (h.attempt c)
theorem dom_recv {x : List Rule} {A B : List Att} (hA : OutI x A) (hB : OutI x B) (hD : DomI A B) {id fr node : Int} {a : Att} (ha : a ∈ A) (hg : gotA id fr node a = true) : ∃ b ∈ B, gotA id fr node b = true := by
  simp only [gotA, Bool.and_eq_true, beq_iff_eq, bne_iff_ne] at hg
  obtain ⟨⟨⟨g1, g2⟩, g3⟩, g4⟩ := hg
  have hon : onA a.cell fr a = true := by simp [onA, g2]
  have mk : ∀ b ∈ B, onA a.cell fr b = true → b.out ≠ 3 → ∃ b ∈ B, gotA id fr node b = true := by
    intro b hb hb2 hb3
    simp only [onA, Bool.and_eq_true, beq_iff_eq] at hb2
    refine ⟨b, hb, ?_⟩
    simp only [gotA, Bool.and_eq_true, beq_iff_eq, bne_iff_ne]
    exact ⟨⟨⟨hb2.1.1.1.trans g1, hb2.1.1.2⟩, hb2.2.trans g3⟩, hb3⟩
  rcases hD a.cell fr with hle | ⟨b, hb, hb2, hb3⟩
  · have hmem : a.out ∈ (A.filter (onA a.cell fr)).map (·.out) := List.mem_map.2 ⟨a, List.mem_filter.2 ⟨ha, hon⟩, rfl⟩
    rw [hA a.cell fr] at hmem
    obtain ⟨j, hj, hj2⟩ := List.mem_map.1 hmem
    have hjl : j < countR A a.cell fr := List.mem_range.1 hj
    have hmem2 : a.out ∈ (B.filter (onA a.cell fr)).map (·.out) := by
      rw [hB a.cell fr]
      exact List.mem_map.2 ⟨j, List.mem_range.2 (by omega), hj2⟩
    obtain ⟨b, hb, hb2⟩ := List.mem_map.1 hmem2
    obtain ⟨hb3, hb4⟩ := List.mem_filter.1 hb
    exact mk b hb3 hb4 (by rw [hb2]; exact g4)
  · exact mk b hb hb2 (by rw [hb3]; decide)
def linkB (c c' : Cell) : Bool := c'.flow == c.flow && c'.src == c.src && c'.dst == c.dst
theorem genB_link (l : List Flow) (R : List Att) (t : Int) {c c' : Cell} (h : linkB c c' = true) : (genB l R t c').map (·.2.1) = (genB l R t c).map (·.2.1) := by
  simp only [linkB, Bool.and_eq_true, beq_iff_eq] at h
  obtain ⟨⟨h1, h2⟩, h3⟩ := h
  unfold genB ackedR onA
  rw [h1, h2, h3]
  split
  · rfl
  split
  · split <;> rfl
  · rfl
theorem genB_cell {l : List Flow} {R : List Att} {t : Int} {c : Cell} {k : Int × Int × Cell} (h : genB l R t c = some k) : k.1 = t ∧ k.2.2 = c := by
  unfold genB at h
  split at h
  · cases h
  split at h
  · split at h
    · cases h
    · injection h with h; subst h; exact ⟨rfl, rfl⟩
  · cases h
def keyB (c : Cell) (fr : Int) (k : Int × Int × Cell) : Bool := k.2.2.flow == c.flow && k.2.1 == fr && k.2.2.src == c.src && k.2.2.dst == c.dst
theorem gen_count (l : List Flow) (R : List Att) (t : Int) (c : Cell) (fr : Int) : ∀ cs : List Cell, (cs.filterMap (genB l R t)).countP (keyB c fr) = if (genB l R t c).map (·.2.1) = some fr then cs.countP (linkB c) else 0
  | [] => by simp
  | c' :: cs => by
    have ih := gen_count l R t c fr cs
    have key : ((genB l R t c').toList).countP (keyB c fr) = if (genB l R t c).map (·.2.1) = some fr then (if linkB c c' = true then 1 else 0) else 0 := by
      cases hg : genB l R t c' with
      | none =>
        by_cases hl : linkB c c' = true
        · have := genB_link l R t hl
          rw [hg] at this
          simp [← this]
        · simp [hl]
      | some k =>
        obtain ⟨_, hk⟩ := genB_cell hg
        by_cases hl : linkB c c' = true
        · have h2 := genB_link l R t hl
          rw [hg] at h2
          simp only [linkB, Bool.and_eq_true, beq_iff_eq] at hl
          rw [← h2]
          simp [keyB, hk, hl, linkB]
        · have : keyB c fr k = false := by
            rw [Bool.eq_false_iff]
            intro hh
            apply hl
            simp only [keyB, hk, Bool.and_eq_true, beq_iff_eq] at hh
            simp [linkB, hh]
          simp [this, hl]
    rw [show (c' :: cs).filterMap (genB l R t) = (genB l R t c').toList ++ cs.filterMap (genB l R t) from by rw [List.filterMap_cons]; cases genB l R t c' <;> rfl, List.countP_append, key, ih, List.countP_cons]
    by_cases g : (genB l R t c).map (·.2.1) = some fr
    · rw [if_pos g, if_pos g, if_pos g]; omega
    · rw [if_neg g, if_neg g, if_neg g]
theorem count_key {late : List Att} (c : Cell) (fr : Int) : late.countP (onA c fr) = (late.map keyA).countP (keyB c fr) := by
  rw [List.countP_map]
  congr 1
end HM
namespace HM
open Go Go.RowKit
theorem genB_dom {l : List Flow} {x : List Rule} {A B : List Att} {t : Int} (hA : OutI x A) (hB : OutI x B) (hD : DomI A B) (hsB : ∀ b ∈ B, b.slot < t) {c : Cell} {fr : Int} (hk : ¬ ∃ b ∈ B, onA c fr b = true ∧ b.out = 1) (g : (genB l A t c).map (·.2.1) = some fr) : (genB l B t c).map (·.2.1) = some fr := by
  unfold genB at g ⊢
  by_cases h1 : findF l c.flow < 0
  · rw [if_pos h1] at g; cases g
  rw [if_neg h1] at g ⊢
  cases hf : l[(findF l c.flow).toNat]? with
  | none => rw [hf] at g; cases g
  | some f =>
    rw [hf] at g
    simp only at g ⊢
    by_cases h2 : (curM f t).2 = false ∨ c.src = f.dst ∨ holdsR f A c.src (curM f t).1 t = false ∨ ackedR A c (curM f t).1 t = true
    · rw [if_pos h2] at g; cases g
    rw [if_neg h2] at g
    simp only [Option.map_some, Option.some.injEq] at g
    subst g
    rw [if_neg ?_]
    · rfl
    rintro (h3 | h3 | h3 | h3)
    · exact h2 (.inl h3)
    · exact h2 (.inr (.inl h3))
    · apply h2
      refine .inr (.inr (.inl ?_))
      rw [Bool.eq_false_iff] at h3 ⊢
      intro h4
      apply h3
      simp only [holdsR, Bool.or_eq_true, beq_iff_eq, List.any_eq_true, Bool.and_eq_true, decide_eq_true_eq] at h4 ⊢
      rcases h4 with h4 | ⟨a, ha, hg, _⟩
      · exact .inl h4
      · obtain ⟨b, hb, hg2⟩ := dom_recv hA hB hD ha hg
        exact .inr ⟨b, hb, hg2, hsB b hb⟩
    · simp only [ackedR, List.any_eq_true, Bool.and_eq_true, decide_eq_true_eq, beq_iff_eq] at h3
      obtain ⟨b, hb, ⟨k1, _⟩, k3⟩ := h3
      exact hk ⟨b, hb, k1, k3⟩
theorem DomI.slot {l : List Flow} {x : List Rule} {s s' : Sched} {t : Int} {rA rB : RunL} (hA : OutI x rA.atts) (hB : OutI x rB.atts) (hD : DomI rA.atts rB.atts) (hsB : ∀ b ∈ rB.atts, b.slot < t) (hsub : (atM s t).Sublist (atM s' t)) : DomI (slotR l s x rA t).atts (slotR l s' x rB t).atts := by
  intro c fr
  obtain ⟨lA, a1, _, a3⟩ := slotR_gen l s x rA t
  obtain ⟨lB, b1, _, b3⟩ := slotR_gen l s' x rB t
  rw [a1, b1]
  by_cases hk : ∃ b ∈ rB.atts, onA c fr b = true ∧ b.out = 1
  · obtain ⟨b, hb, k⟩ := hk
    exact .inr ⟨b, by simp [hb], k⟩
  have hle := (hD c fr).resolve_right hk
  refine .inl ?_
  unfold countR at hle ⊢
  rw [List.countP_append, List.countP_append, count_key (late := lA), count_key (late := lB), a3, b3, gen_count, gen_count]
  by_cases g : (genB l rA.atts t c).map (·.2.1) = some fr
  · rw [if_pos g, if_pos (genB_dom hA hB hD hsB hk g)]
    have := hsub.countP_le (p := linkB c)
    omega
  · rw [if_neg g]; omega
end HM
