/- Runs and changes in plain words. -/
import Derived.Test.YtcbpgfmedemibaaGreatDoorDa
import Derived.Test.YtcbpgfmedemibaaGreatDoorFh
import Derived.Test.YtcbpgfmedemibaaGreatDoorFc
/- What the laws on runs ask of a run. -/
namespace HM
open Go Go.RowKit

end HM

/- The law on one more cell. -/
namespace HM
open Go Go.RowKit

end HM

/- Schedules that are changed: removal of a cell; the schedules behind changes; the one of a slot. -/
namespace HM
open Go Go.RowKit

structure Chg where
  slot : Int
  add : Bool
  cell : Cell
def Chg.av (c : Chg) : AV := .agg [.int .i64 c.slot, .bool c.add, .int .i64 c.cell.slot, .int .i64 c.cell.off, .int .i64 c.cell.src, .int .i64 c.cell.dst, .int .i64 c.cell.flow]
def delAt {α : Type} (l : List α) (p : Nat) : List α := l.take p ++ l.drop (p + 1)
def remM (s : Sched) (c : Cell) : Sched × Int :=
  if formB s = false then (⟨0, 0, []⟩, 1)
  else if hasC s c = false then (⟨0, 0, []⟩, 7)
  else (⟨s.len, s.offs, delAt s.cells (posC s c)⟩, 0)
def chgM (s : Sched) (c : Chg) : Sched × Int := if c.add = true then addM s c.cell else remM s c.cell
/-- the fault of a change behind one in a slot -/
def chgE (p : Option Int) (c : Chg) : Int := if c.slot < 0 then 2 else match p with
  | some q => if c.slot < q then 5 else 0
  | none => 0
def behM : Option Int → Sched → List Chg → List Sched × Int
  | _, _, [] => ([], 0)
  | p, s, c :: cs => if chgE p c ≠ 0 then ([], chgE p c) else if (chgM s c).2 ≠ 0 then ([], (chgM s c).2) else ((chgM s c).1 :: (behM (some c.slot) (chgM s c).1 cs).1, (behM (some c.slot) (chgM s c).1 cs).2)
def appM : Option Int → Sched → Sched → List Chg → Int → Sched × Int
  | _, _, out, [], _ => (out, 0)
  | p, s, out, c :: cs, t => if chgE p c ≠ 0 then (out, chgE p c) else if (chgM s c).2 ≠ 0 then (out, (chgM s c).2) else appM (some c.slot) (chgM s c).1 (if c.slot ≤ t then (chgM s c).1 else out) cs t
end HM

/- What the law asks of deliveries, out of the run. -/
namespace HM
open Go Go.RowKit

def winM (f : Flow) (frame : Int) : (Int × Int) × Int := if (relF f frame).2 ≠ 0 then ((0, 0), (relF f frame).2) else (((relF f frame).1, (relF f frame).1 + f.period - 1), 0)
/-- what the law asks of a delivery -/
structure OnceD (l : List Flow) (R : List Att) (d : Del) (k : Nat) (f : Flow) : Prop where
  at_ : findF l d.flow = (k : Int)
  get : l[k]? = some f
  win : (winM f d.frame).2 = 0 ∧ (winM f d.frame).1.1 ≤ d.slot ∧ d.slot ≤ (winM f d.frame).1.2
  by_ : (R.any fun a => a.slot == d.slot && (a.frame == d.frame && (a.cell.flow == d.flow && (a.cell.dst == f.dst && a.out != 3)))) = true
end HM

/- A flow on its own; a run without a script. -/
namespace HM
open Go Go.RowKit

theorem findF_one (f : Flow) (id : Int) : findF [f] id = if f.id = id then 0 else -1 := by
  by_cases h : f.id = id
  · rw [if_pos h]
    exact idxF_some (k := 0) (by simp) (fun j y hj => by omega) rfl (by simpa using h)
  · rw [if_neg h]
    refine idxF_none (fun j y hj hy => ?_)
    cases j with
    | zero => simp at hy; subst hy; simpa using h
    | succ j => simp at hy
-- without a script
end HM

/- The schedules behind changes, one by one; runs that are changed. -/
namespace HM
open Go Go.RowKit

def prevS (cs : List Chg) (k : Nat) : Option Int := match k with
  | 0 => none
  | j + 1 => (cs[j]?).map (·.slot)
structure BehI (s : Sched) (cs : List Chg) (k : Nat) (bs : List Sched) : Prop where
  le : k ≤ cs.length
  len : bs.length = k
  eq : behM none s cs = (bs ++ (behM (prevS cs k) (bs.getLastD s) (cs.drop k)).1, (behM (prevS cs k) (bs.getLastD s) (cs.drop k)).2)
theorem BehI.zero (s : Sched) (cs : List Chg) : BehI s cs 0 [] := ⟨Nat.zero_le _, rfl, rfl⟩
theorem BehI.step {s : Sched} {cs : List Chg} {k : Nat} {bs : List Sched} (h : BehI s cs k bs) {c : Chg} (hc : cs[k]? = some c) (he : chgE (prevS cs k) c = 0) (h2 : (chgM (bs.getLastD s) c).2 = 0) : BehI s cs (k + 1) (bs ++ [(chgM (bs.getLastD s) c).1]) := by
  refine ⟨(List.getElem?_eq_some_iff.1 hc).1, by rw [List.length_append, h.len]; rfl, ?_⟩
  have hl : (bs ++ [(chgM (bs.getLastD s) c).1]).getLastD s = (chgM (bs.getLastD s) c).1 := by simp
  have e1 : behM (prevS cs k) (bs.getLastD s) (c :: cs.drop (k + 1)) = ((chgM (bs.getLastD s) c).1 :: (behM (some c.slot) (chgM (bs.getLastD s) c).1 (cs.drop (k + 1))).1, (behM (some c.slot) (chgM (bs.getLastD s) c).1 (cs.drop (k + 1))).2) := by
    rw [behM, if_neg (by simp [he]), if_neg (fun hh => hh h2)]
  have hp : prevS cs (k + 1) = some c.slot := by simp [prevS, hc]
  rw [h.eq, dropGet hc, e1, hl, hp]
  simp
theorem BehI.fin {s : Sched} {cs : List Chg} {bs : List Sched} (h : BehI s cs cs.length bs) : behM none s cs = (bs, 0) := by
  rw [h.eq, List.drop_length]
  simp [behM]
end HM

/- Where two runs differ. -/
namespace HM
open Go Go.RowKit

end HM
namespace HM
end HM

/- Arguments: changes, runs. -/
namespace HM
open Go Go.RowKit

end HM

/- Six and seven arguments. -/
namespace HM
open Go Go.RowKit
theorem len6 {α : Type} : ∀ {l : List α}, l.length = 6 → ∃ a1 a2 a3 a4 a5 a6, l = [a1, a2, a3, a4, a5, a6]
  | [a1, a2, a3, a4, a5, a6], _ => ⟨a1, a2, a3, a4, a5, a6, rfl⟩
  | [], h => by simp at h
  | [_], h => by simp at h
  | [_, _], h => by simp at h
  | [_, _, _], h => by simp at h
  | [_, _, _, _], h => by simp at h
  | [_, _, _, _, _], h => by simp at h
  | _ :: _ :: _ :: _ :: _ :: _ :: _ :: _, h => by simp at h
theorem sh6 {d1 d2 d3 d4 d5 d6 : Ty} : ∀ {es : List AV}, shArgs [d1, d2, d3, d4, d5, d6] es → ∃ l1 l2 l3 l4 l5 l6, es = [d1.mk l1, d2.mk l2, d3.mk l3, d4.mk l4, d5.mk l5, d6.mk l6] ∧ d1.sh l1 ∧ d2.sh l2 ∧ d3.sh l3 ∧ d4.sh l4 ∧ d5.sh l5 ∧ d6.sh l6
  | [e1, e2, e3, e4, e5, e6], h => by
    obtain ⟨⟨l1, h1, rfl⟩, ⟨l2, h2, rfl⟩, ⟨l3, h3, rfl⟩, ⟨l4, h4, rfl⟩, ⟨l5, h5, rfl⟩, ⟨l6, h6, rfl⟩, _⟩ := h
    exact ⟨l1, l2, l3, l4, l5, l6, rfl, h1, h2, h3, h4, h5, h6⟩
  | [], h => by simp [shArgs] at h
  | [_], h => by simp [shArgs] at h
  | [_, _], h => by simp [shArgs] at h
  | [_, _, _], h => by simp [shArgs] at h
  | [_, _, _, _], h => by simp [shArgs] at h
  | [_, _, _, _, _], h => by simp [shArgs] at h
  | _ :: _ :: _ :: _ :: _ :: _ :: _ :: _, h => by simp [shArgs] at h
end HM

/- The cells that are needed: their own slots are the same. -/
namespace HM
open Go Go.RowKit

/-- the cells that come by, with their slots -/
def evC (cs : List Cell) (len a : Int) : Nat → List (Cell × Int)
  | 0 => []
  | d + 1 => evC cs len a d ++ ((cs.filter fun c => c.slot == (a + d) % len).map fun c => (c, a + (d : Int)))
theorem evC_snd (cs : List Cell) (len a : Int) : ∀ d, (evC cs len a d).map (·.2) = allS cs len a d
  | 0 => rfl
  | d + 1 => by simp [evC, allS, evC_snd cs len a d, Function.comp_def]
theorem evC_filter (cs : List Cell) (len a : Int) (p : Cell → Bool) : ∀ d, evC (cs.filter p) len a d = (evC cs len a d).filter fun x => p x.1
  | 0 => rfl
  | d + 1 => by
    simp only [evC, List.filter_append, evC_filter cs len a p d, List.filter_map, Function.comp_def]
    rw [List.filter_filter, List.filter_filter]
    congr 3
    funext c
    simp [Bool.and_comm]
theorem evC_mem {cs : List Cell} {len a : Int} : ∀ {d : Nat} {x : Cell × Int}, x ∈ evC cs len a d → x.1 ∈ cs
  | 0, _, h => by simp [evC] at h
  | d + 1, x, h => by
    simp only [evC, List.mem_append, List.mem_map, List.mem_filter] at h
    rcases h with h | ⟨c, ⟨hc, _⟩, rfl⟩
    · exact evC_mem h
    · exact hc
theorem take_filter {α : Type} {p : α → Bool} : ∀ {l : List α} {n : Nat}, (l.take n).length = n → (∀ x ∈ l.take n, p x = true) → (l.filter p).take n = l.take n
  | _, 0, _, _ => by simp
  | [], n + 1, h, _ => by simp at h
  | x :: l, n + 1, h, hp => by
    have hx := hp x (by simp)
    rw [List.filter_cons, if_pos hx, List.take_succ_cons, List.take_succ_cons, take_filter (by simpa using h) fun y hy => hp y (by simp [hy])]

/-- the cells that count on the first links -/
def onC (s : Sched) (f : Flow) (a b : Int) (need : Nat) (at_ stop : Int) : List Cell := ((evC (cellsL s f a b) s.len at_ (stop - at_).toNat).take need).map (·.1)
def cellsUp (n : Net) (s : Sched) (f : Flow) (r : List Int) (rel : Int) : Nat → List Cell
  | 0 => []
  | k + 1 => match slotsUp n s f r rel 0 k with
    | none => cellsUp n s f r rel k
    | some (_, a) => cellsUp n s f r rel k ++ onC s f (r.getD k 0) (r.getD (k + 1) 0) (needAt n r 0 k) a (rel + f.period)
def relC (n : Net) (s : Sched) (f : Flow) (r : List Int) (rel : Int) : List Cell := cellsUp n s f r rel (r.length - 1)
def relsC (n : Net) (s : Sched) (f : Flow) (r : List Int) : Nat → List Cell
  | 0 => []
  | k + 1 => relsC n s f r k ++ relC n s f r (f.phase + k * f.period)
def allC (n : Net) (s : Sched) (f : Flow) (l : List (List Int)) : List Cell := l.flatMap fun r => relsC n s f r (relsN s f)
def needL (n : Net) (s : Sched) (f : Flow) (l : List (List Int)) : List Cell := s.cells.filter fun c => decide (c ∈ allC n s f l)
def badR (n : Net) (s : Sched) (f : Flow) : List (List Int) → Int
  | [] => 0
  | r :: l => if (routeM n s f r).2.2.2 ≠ 0 then (routeM n s f r).2.2.2 else badR n s f l
def needM (n : Net) (s : Sched) (f : Flow) (l : List (List Int)) : List Cell × Int :=
  if l.length = 0 then ([], 14) else if badR n s f l ≠ 0 then ([], badR n s f l) else (needL n s f l, 0)

theorem onC_mem {s : Sched} {f : Flow} {a b : Int} {need : Nat} {x y : Int} {c : Cell} (h : c ∈ onC s f a b need x y) : c ∈ s.cells ∧ c.flow = f.id := by
  unfold onC at h
  obtain ⟨e, he, rfl⟩ := List.mem_map.1 h
  have := evC_mem (List.mem_of_mem_take he)
  unfold cellsL at this
  rw [List.mem_filter] at this
  refine ⟨this.1, ?_⟩
  have h2 := this.2
  simp [offL] at h2
  exact h2.1.1
theorem cellsUp_mem {n : Net} {s : Sched} {f : Flow} {r : List Int} {rel : Int} {c : Cell} : ∀ {k : Nat}, c ∈ cellsUp n s f r rel k → c ∈ s.cells ∧ c.flow = f.id
  | 0, h => by simp [cellsUp] at h
  | k + 1, h => by
    unfold cellsUp at h
    split at h
    · exact cellsUp_mem h
    · rcases List.mem_append.1 h with h | h
      · exact cellsUp_mem h
      · exact onC_mem h
theorem allC_mem {n : Net} {s : Sched} {f : Flow} {l : List (List Int)} {c : Cell} (h : c ∈ allC n s f l) : c ∈ s.cells ∧ c.flow = f.id := by
  unfold allC at h
  rw [List.mem_flatMap] at h
  obtain ⟨r, _, h⟩ := h
  have : ∀ k, c ∈ relsC n s f r k → c ∈ s.cells ∧ c.flow = f.id := by
    intro k
    induction k with
    | zero => intro h; simp [relsC] at h
    | succ k ih =>
      intro h
      rcases List.mem_append.1 h with h | h
      · exact ih h
      · exact cellsUp_mem h
  exact this _ h
theorem onC_len (s : Sched) (f : Flow) (a b : Int) (need : Nat) (x y : Int) : (onC s f a b need x y).length = (slotsOn s f a b need x y).length := by
  unfold onC slotsOn
  rw [← evC_snd]
  simp

/-- fewer cells, with all that count -/
theorem slots_part {s t : Sched} {f : Flow} {a b x y : Int} {need : Nat} {p : Cell → Bool} (hl : t.len = s.len) (ht : t.cells = s.cells.filter p) (hn : (slotsOn s f a b need x y).length = need) (hp : ∀ c ∈ onC s f a b need x y, p c = true) : slotsOn t f a b need x y = slotsOn s f a b need x y := by
  have hc : cellsL t f a b = (cellsL s f a b).filter p := by
    unfold cellsL
    rw [ht, List.filter_filter, List.filter_filter]
    congr 1
    funext c
    simp [Bool.and_comm]
  unfold slotsOn at hn ⊢
  rw [hc, hl, ← evC_snd, ← evC_snd, evC_filter, ← List.map_take, ← List.map_take]
  rw [← evC_snd, ← List.map_take, List.length_map] at hn
  rw [take_filter hn fun e he => hp e.1 (List.mem_map.2 ⟨e, he, rfl⟩)]
theorem slotsUp_part {n : Net} {s t : Sched} {f : Flow} {r : List Int} {rel : Int} {p : Cell → Bool} (hl : t.len = s.len) (ht : t.cells = s.cells.filter p) : ∀ {k : Nat} {o : List Int} {a : Int}, slotsUp n s f r rel 0 k = some (o, a) → (∀ c ∈ cellsUp n s f r rel k, p c = true) → slotsUp n t f r rel 0 k = some (o, a)
  | 0, _, _, h, _ => h
  | k + 1, o, a, h, hp => by
    have h' := h
    unfold slotsUp at h
    split at h
    · cases h
    · rename_i o1 a1 h1
      simp only at h
      split at h
      · cases h
      · rename_i hlen
        have hle := slotsOn_le s f (r.getD k 0) (r.getD (k + 1) 0) (needAt n r 0 k) a1 (rel + f.period)
        unfold cellsUp at hp
        rw [h1] at hp
        simp only at hp
        have ih := slotsUp_part (n := n) (s := s) (t := t) hl ht h1 fun c hc => hp c (List.mem_append_left _ hc)
        have e := slots_part (s := s) (t := t) hl ht (by omega) fun c hc => hp c (List.mem_append_right _ hc)
        unfold slotsUp
        rw [ih]
        simp only
        rw [e, if_neg hlen]
        exact h
theorem boundUp_part {n : Net} {s t : Sched} {f : Flow} {r : List Int} {p : Cell → Bool} (hl : t.len = s.len) (ht : t.cells = s.cells.filter p) : ∀ {k : Nat} {x : Bnd}, boundUp n s f r 0 k = some x → (∀ c ∈ relsC n s f r k, p c = true) → boundUp n t f r 0 k = some x
  | 0, _, h, _ => h
  | k + 1, x, h, hp => by
    cases hb : boundUp n s f r 0 k with
    | none => simp only [boundUp, hb] at h; cases h
    | some y =>
      cases hr : relR n s f r 0 (f.phase + k * f.period) with
      | none => rw [boundUp_stop hr] at h; cases h
      | some bl =>
        have ih := boundUp_part hl ht hb fun c hc => hp c (List.mem_append_left _ hc)
        have hrt : relR n t f r 0 (f.phase + k * f.period) = some bl := by
          unfold relR slotsW at hr ⊢
          cases hu : slotsUp n s f r (f.phase + k * f.period) 0 (r.length - 1) with
          | none => rw [hu] at hr; cases hr
          | some oa =>
            obtain ⟨o, a⟩ := oa
            rw [hu] at hr
            rw [slotsUp_part hl ht hu fun c hc => hp c (List.mem_append_right _ hc)]
            exact hr
        obtain ⟨b, l⟩ := bl
        rw [boundUp_some hb hr] at h
        rw [boundUp_some ih hrt]
        exact h
theorem sorted_filter {α : Type} {c : α → α → Int} {l : List α} (p : α → Bool) (h : Sorted c l) : Sorted c (l.filter p) := by
  have h1 : l.Pairwise (fun x y => c x y < 0) := by
    rw [List.pairwise_iff_getElem]
    intro i j hi hj hij
    exact h i j _ _ hij (List.getElem?_eq_getElem hi) (List.getElem?_eq_getElem hj)
  have h2 := h1.filter p
  rw [List.pairwise_iff_getElem] at h2
  intro i j x y hij hx hy
  obtain ⟨hi, rfl⟩ := List.getElem?_eq_some_iff.1 hx
  obtain ⟨hj, rfl⟩ := List.getElem?_eq_some_iff.1 hy
  exact h2 i j hi hj hij
theorem formB_filter {s : Sched} (h : formB s = true) (p : Cell → Bool) : formB ⟨s.len, s.offs, s.cells.filter p⟩ = true := by
  obtain ⟨f1, f2, f3⟩ := form_all h
  refine formB_mk f1 (Nat.le_trans (List.length_filter_le _ _) f2) (fun c hc => ?_) (sorted_filter p (formB_sorted h))
  have e := formedB_len (s := s) (t := ⟨s.len, s.offs, s.cells.filter p⟩) rfl rfl c
  rw [e]
  exact f3 c (List.mem_filter.1 hc).1
theorem badR_all {n : Net} {s : Sched} {f : Flow} : ∀ {l : List (List Int)}, badR n s f l = 0 → ∀ r ∈ l, (routeM n s f r).2.2.2 = 0
  | [], _, r, h => by cases h
  | a :: l, h, r, hr => by
    unfold badR at h
    split at h
    · contradiction
    · rename_i h1
      rcases List.mem_cons.1 hr with rfl | hr
      · simpa using h1
      · exact badR_all h r hr
theorem routeM_ok {n : Net} {s : Sched} {f : Flow} {r : List Int} (h : (routeM n s f r).2.2.2 = 0) : wayE n s f r = 0 ∧ ∃ x, boundR n s f r 0 = some x ∧ routeM n s f r = (x.b, x.w, x.l, 0) := by
  unfold routeM at h ⊢
  split at h
  · contradiction
  rename_i hw
  rw [if_neg hw]
  cases hb : boundR n s f r 0 with
  | none => rw [hb] at h; cases h
  | some x => exact ⟨by simpa using hw, x, rfl, rfl⟩
theorem needs_law {n : Net} {s : Sched} {f : Flow} {l : List (List Int)} {c : List Cell} (h : needM n s f l = (c, 0)) :
    (∀ r ∈ l, (routeM n s f r).2.2.2 = 0 ∧ routeM n ⟨s.len, s.offs, c⟩ f r = routeM n s f r) ∧ c ≠ [] ∧ ∀ x ∈ c, x.flow = f.id ∧ x ∈ s.cells := by
  unfold needM at h
  split at h
  · simp at h
  split at h
  · rename_i h1
    simp only [Prod.mk.injEq] at h
    exact absurd h.2 h1
  rename_i h0 h1
  simp only [Prod.mk.injEq, and_true] at h
  have hall := badR_all (by simpa using h1 : badR n s f l = 0)
  subst h
  refine ⟨fun r hr => ⟨hall r hr, ?_⟩, ?_, fun x hx => ?_⟩
  · obtain ⟨hw, x, hb, hR⟩ := routeM_ok (hall r hr)
    have hok := wayE_ok hw
    have hway : wayE n ⟨s.len, s.offs, needL n s f l⟩ f r = 0 := by
      have hf := formB_filter hok.form fun c => decide (c ∈ allC n s f l)
      unfold wayE at hw ⊢
      unfold needL
      rw [hf]
      rw [hok.form] at hw
      exact hw
    have hbt : boundR n ⟨s.len, s.offs, needL n s f l⟩ f r 0 = some x := by
      unfold boundR at hb ⊢
      rw [show relsN ⟨s.len, s.offs, needL n s f l⟩ f = relsN s f from rfl]
      refine boundUp_part (s := s) (t := ⟨s.len, s.offs, needL n s f l⟩) (p := fun c => decide (c ∈ allC n s f l)) rfl rfl hb fun c hc => ?_
      refine decide_eq_true ?_
      unfold allC
      rw [List.mem_flatMap]
      exact ⟨r, hr, hc⟩
    rw [hR]
    unfold routeM
    rw [if_neg (by simp [hway]), hbt]
  · obtain ⟨r, hr⟩ : ∃ r, r ∈ l := by
      cases l with
      | nil => simp at h0
      | cons a l => exact ⟨a, by simp⟩
    obtain ⟨hw, x, hb, hR⟩ := routeM_ok (hall r hr)
    have hok := wayE_ok hw
    have hfl := hok.flow
    have hlen := hok.len
    obtain ⟨hz, _, _⟩ := form_all hok.form
    have hsb := sized_bd hz
    have hper := hok.per
    have h1 : 0 < relsN s f := (relsN_lt (by omega)).2 (by
      have : f.period ≤ s.len := by
        rcases Int.lt_or_le s.len f.period with hh | hh
        · rw [Int.emod_eq_of_lt (by omega) hh] at hper; omega
        · exact hh
      simp; omega)
    -- the first release has a cell on the first link
    have hc : ∃ c, c ∈ relC n s f r (f.phase + (0 : Nat) * f.period) := by
      have hu1 : ∃ o a, slotsUp n s f r (f.phase + (0 : Nat) * f.period) 0 1 = some (o, a) := by
        have hb1 : ∀ k x, boundUp n s f r 0 (k + 1) = some x → relR n s f r 0 (f.phase + (0 : Nat) * f.period) ≠ none := by
          intro k
          induction k with
          | zero =>
            intro x hx hh
            rw [boundUp_stop hh] at hx; cases hx
          | succ k ih =>
            intro x hx
            cases hb' : boundUp n s f r 0 (k + 1) with
            | none => simp only [boundUp] at hx hb'; rw [hb'] at hx; cases hx
            | some y => exact ih y hb'
        obtain ⟨k, hk⟩ : ∃ k, relsN s f = k + 1 := ⟨relsN s f - 1, by omega⟩
        have hb2 := hb
        unfold boundR at hb2
        rw [hk] at hb2
        have hr1 := hb1 k x hb2
        unfold relR slotsW at hr1
        cases hu : slotsUp n s f r (f.phase + (0 : Nat) * f.period) 0 1 with
        | some oa => exact ⟨oa.1, oa.2, rfl⟩
        | none =>
          rw [slotsUp_none hu (by omega : 1 ≤ r.length - 1)] at hr1
          exact absurd rfl hr1
      obtain ⟨o, a, hu⟩ := hu1
      have hn1 := hok.need1 (Int.le_refl 0) (k := 0) (by omega)
      unfold slotsUp at hu
      simp only [slotsUp] at hu
      split at hu
      · cases hu
      rename_i hlen1
      have hl := onC_len s f (r.getD 0 0) (r.getD (0 + 1) 0) (needAt n r 0 0) (f.phase + (0 : Nat) * f.period) (f.phase + (0 : Nat) * f.period + f.period)
      have hpos : 0 < (onC s f (r.getD 0 0) (r.getD (0 + 1) 0) (needAt n r 0 0) (f.phase + (0 : Nat) * f.period) (f.phase + (0 : Nat) * f.period + f.period)).length := by rw [hl]; omega
      obtain ⟨c, hc⟩ := List.exists_mem_of_length_pos hpos
      have hmono : ∀ k, 1 ≤ k → c ∈ cellsUp n s f r (f.phase + (0 : Nat) * f.period) k := by
        intro k
        induction k with
        | zero => intro hh; omega
        | succ k ih =>
          intro _
          by_cases hk : k = 0
          · subst hk
            unfold cellsUp
            simp only [slotsUp]
            exact List.mem_append_right _ hc
          · unfold cellsUp
            split
            · exact ih (by omega)
            · exact List.mem_append_left _ (ih (by omega))
      exact ⟨c, hmono _ (by omega)⟩
    obtain ⟨c, hc⟩ := hc
    have hmem : c ∈ allC n s f l := by
      unfold allC
      rw [List.mem_flatMap]
      refine ⟨r, hr, ?_⟩
      have : ∀ k, 0 < k → c ∈ relsC n s f r k := by
        intro k
        induction k with
        | zero => intro hh; omega
        | succ k ih =>
          intro _
          by_cases hk : k = 0
          · subst hk
            exact List.mem_append_right _ hc
          · exact List.mem_append_left _ (ih (by omega))
      exact this _ h1
    intro hnil
    have hcs := (allC_mem hmem).1
    have : c ∈ needL n s f l := by
      unfold needL
      rw [List.mem_filter]
      exact ⟨hcs, decide_eq_true hmem⟩
    rw [hnil] at this
    cases this
  · unfold needL at hx
    rw [List.mem_filter] at hx
    have := allC_mem (of_decide_eq_true hx.2)
    exact ⟨this.2, hx.1⟩
end HM

/- A store with a player: what lies where. -/
namespace HM
open Go Go.RowKit

def mpv (p : PS) (id : Nat) : AV := if p.frame < 0 then .nilm else .mp id
def mapsOf (p : PS) : Nat → Ob
  | 0 => p.since.ob none
  | 1 => p.tries.ob (some 2)
  | _ => p.acked.ob (some 2)
def stAV (g : Nat → Nat) (p : PS) : AV := .agg [.int .i64 p.frame, mpv p (g 0), mpv p (g 1), mpv p (g 2), .bool p.done]
def statesE (g : Nat → Nat → Nat) (q : List PS) : List AV := q.mapIdx fun i p => stAV (g i) p
def plC (l : List Flow) (s : Sched) (x : List Rule) (sv av dv : AV) : List AV := [encFlows l, .int .i64 s.len, .int .i64 s.offs, encCells s.cells, encScript x, sv, av, dv]

/-- the types of a player, of a state, of a delivery -/
structure PTys where
  p : TypeId
  q : TypeId
  d : TypeId
  a : TypeId
  hpq : p ≠ q
  hpd : p ≠ d
  hqd : q ≠ d
  ks : List (Nat × List AV × TypeId)
  hk : ∀ e ∈ ks, e.2.2 ≠ p ∧ e.2.2 ≠ q ∧ e.2.2 ≠ d

def StV (T : PTys) (S : St) (sv : AV) (g : Nat → Nat → Nat) (sts : List PS) : Prop := (sts = [] ∧ sv = .grown .nils 0) ∨ ∃ qb ex, sv = .vsl qb 0 sts.length 5 ∧ S.bx[qb]? = some (.cells (flatE (statesE g sts) ++ ex) T.q)
def DelV (T : PTys) (S : St) (dv : AV) (ds : List Del) : Prop := (ds = [] ∧ dv = .grown .nils 0) ∨ ∃ db ex, dv = .vsl db 0 ds.length 3 ∧ S.bx[db]? = some (.cells (flatE (ds.map Del.av) ++ ex) T.d)

/-- what is known of a store with a player -/
structure PInv (T : PTys) (S : St) (pb ch : Nat) (l : List Flow) (s : Sched) (x : List Rule) (Q : PL) (g : Nat → Nat → Nat) (sv dv : AV) : Prop where
  p : S.bx[pb]? = some (.cells (plC l s x sv (.own (Q.atts.map Att.av) ch) dv) T.p)
  q : StV T S sv g Q.sts
  m : ∀ (i : Nat) (p : PS), Q.sts[i]? = some p → 0 ≤ p.frame → ∀ j, j < 3 → S.bx[g i j]? = some (mapsOf p j)
  inj : ∀ (i : Nat) (p : PS) (i' : Nat) (p' : PS), Q.sts[i]? = some p → Q.sts[i']? = some p' → 0 ≤ p.frame → 0 ≤ p'.frame → ∀ j j', j < 3 → j' < 3 → g i j = g i' j' → i = i' ∧ j = j'
  a : S.fr[ch]? = some (Q.atts.length, 8)
  ty : S.ty ch = T.a
  k : ∀ e ∈ T.ks, S.bx[e.1]? = some (.cells e.2.1 e.2.2)
  d : DelV T S dv Q.dels
def PIn (T : PTys) (S : St) (pb ch : Nat) (l : List Flow) (s : Sched) (x : List Rule) (Q : PL) : Prop := ∃ g sv dv, PInv T S pb ch l s x Q g sv dv

theorem ne_cm {S : St} {a b : Nat} {cs : List AV} {t : TypeId} {sh : Option Nat} {ks : List (List Int)} {vs : List AV} (h : S.bx[a]? = some (.cells cs t)) (h' : S.bx[b]? = some (.map sh ks vs)) : a ≠ b := by
  rintro rfl
  rw [h] at h'
  injection h' with h'
  cases h'
theorem ne_cc {S : St} {a b : Nat} {cs cs' : List AV} {t t' : TypeId} (h : S.bx[a]? = some (.cells cs t)) (h' : S.bx[b]? = some (.cells cs' t')) (ht : t ≠ t') : a ≠ b := by
  rintro rfl
  rw [h] at h'
  injection h' with h'
  injection h' with _ h'
  exact ht h'
theorem mapsOf_map (p : PS) (j : Nat) : ∃ sh ks vs, mapsOf p j = .map sh ks vs := by
  unfold mapsOf
  split <;> exact ⟨_, _, _, rfl⟩
theorem ne_cM {S : St} {a b : Nat} {cs : List AV} {t : TypeId} {p : PS} {j : Nat} (h : S.bx[a]? = some (.cells cs t)) (h' : S.bx[b]? = some (mapsOf p j)) : a ≠ b := by
  obtain ⟨sh, ks, vs, e⟩ := mapsOf_map p j
  rw [e] at h'
  exact ne_cm h h'

section
variable {T : PTys} {S S' : St} {pb ch : Nat} {l : List Flow} {s : Sched} {x : List Rule} {Q : PL} {g : Nat → Nat → Nat} {sv dv : AV}

/-- other objects more -/
theorem PInv.more (h : PInv T S pb ch l s x Q g sv dv) (hx : ∀ (id : Nat) (o : Ob), S.bx[id]? = some o → S'.bx[id]? = some o) (hf : S'.fr[ch]? = S.fr[ch]?) (ht : S'.ty ch = S.ty ch) : PInv T S' pb ch l s x Q g sv dv := by
  refine ⟨hx _ _ h.p, ?_, fun i p hp h0 j hj => hx _ _ (h.m i p hp h0 j hj), h.inj, hf.trans h.a, ht.trans h.ty, fun e he => hx _ _ (h.k e he), ?_⟩
  · rcases h.q with hq | ⟨qb, ex, h1, h2⟩
    · exact .inl hq
    · exact .inr ⟨qb, ex, h1, hx _ _ h2⟩
  · rcases h.d with hq | ⟨qb, ex, h1, h2⟩
    · exact .inl hq
    · exact .inr ⟨qb, ex, h1, hx _ _ h2⟩
end
end HM

/- A store with a player: a delivery is noted. -/
namespace HM
open Go Go.RowKit

section
variable {T : PTys} {S : St} {pb ch : Nat} {l : List Flow} {s : Sched} {x : List Rule} {Q : PL} {g : Nat → Nat → Nat} {sv dv : AV}
end
/-- what lies in boxes stays, but the player and the deliveries -/
def InvY (T : PTys) (S S' : St) : Prop := ∀ (id : Nat) (cs : List AV) (t : TypeId), t ≠ T.p → t ≠ T.d → S.bx[id]? = some (.cells cs t) → S'.bx[id]? = some (.cells cs t)
theorem InvY.refl (T : PTys) (S : St) : InvY T S S := fun _ _ _ _ _ h => h
theorem InvY.addB {T : PTys} {S S' : St} {o : Ob} (h : InvY T S S') : InvY T S (S'.addB o) := fun id' cs' t h1 h2 hc => St.addB_old (h id' cs' t h1 h2 hc)
theorem InvY.addF {T : PTys} {S S' : St} {y : Nat × Nat} {e : TypeId} (h : InvY T S S') : InvY T S (S'.addF y e) := h
end HM

/- A store with a player: new frames. -/
namespace HM
open Go Go.RowKit

def gset (g : Nat → Nat → Nat) (i a b c : Nat) : Nat → Nat → Nat := fun i' j => if i' = i then (match j with | 0 => a | 1 => b | _ => c) else g i' j
section
variable {T : PTys} {S S' : St} {pb ch : Nat} {l : List Flow} {s : Sched} {x : List Rule} {Q : PL} {g : Nat → Nat → Nat} {sv dv : AV}
/-- a state begins anew -/
theorem PInv.fresh (h : PInv T S pb ch l s x Q g sv dv) (hx : ∀ (id : Nat) (o : Ob), S.bx[id]? = some o → S'.bx[id]? = some o) (hf : S'.fr = S.fr) (ht : S'.ty = S.ty) {qb : Nat} {ex : List AV} (hsv : sv = .vsl qb 0 Q.sts.length 5) (hq : S.bx[qb]? = some (.cells (flatE (statesE g Q.sts) ++ ex) T.q))
    {i : Nat} {p p' : PS} (hp : Q.sts[i]? = some p) (h0 : ¬ p'.frame < 0) {a b c : Nat} (ha : S'.bx[a]? = some (mapsOf p' 0)) (hb : S'.bx[b]? = some (mapsOf p' 1)) (hc : S'.bx[c]? = some (mapsOf p' 2)) (ga : S.bx.length ≤ a) (gb : S.bx.length ≤ b) (gc : S.bx.length ≤ c) (hab : a ≠ b) (hac : a ≠ c) (hbc : b ≠ c) :
    PInv T (S'.setB qb (.cells (flatE (statesE (gset g i a b c) (Q.sts.set i p')) ++ ex) T.q)) pb ch l s x ⟨Q.sts.set i p', Q.atts, Q.dels⟩ (gset g i a b c) sv dv := by
  have hil := (List.getElem?_eq_some_iff.1 hp).1
  have hself : ∀ k (q : PS), (Q.sts.set i p')[k]? = some q → i = k → q = p' := by
    intro k q hq e
    subst e
    rw [List.getElem?_set_self hil] at hq
    injection hq with hq; exact hq.symm
  have hoth : ∀ k (q : PS), (Q.sts.set i p')[k]? = some q → i ≠ k → Q.sts[k]? = some q := by
    intro k q hq e
    rwa [List.getElem?_set_ne e] at hq
  have hlt : ∀ k q, Q.sts[k]? = some q → 0 ≤ q.frame → ∀ j, j < 3 → g k j < S.bx.length := fun k q hq hq0 j hj => (List.getElem?_eq_some_iff.1 (h.m k q hq hq0 j hj)).1
  have hg : ∀ k j, i ≠ k → gset g i a b c k j = g k j := fun k j e => by unfold gset; rw [if_neg (fun hh => e hh.symm)]
  have hgi : ∀ j, gset g i a b c i j = (match j with | 0 => a | 1 => b | _ => c) := fun j => by unfold gset; rw [if_pos rfl]
  have hge : ∀ j, S.bx.length ≤ gset g i a b c i j := fun j => by
    rw [hgi]
    split <;> assumption
  have hq' := hx _ _ hq
  refine ⟨by rw [St.setB_ne (ne_cc h.p hq T.hpq).symm]; exact hx _ _ h.p, .inr ⟨qb, ex, by simpa using hsv, St.setB_get hq'⟩, fun k q hq1 hq0 j hj => ?_, fun k q k' q' hq1 hq1' hq0 hq0' j1 j2 hj1 hj2 he => ?_, by rw [St.setB_fr, hf]; exact h.a, by show S'.ty ch = _; rw [ht]; exact h.ty, fun e he => by rw [St.setB_ne (ne_cc hq (h.k e he) (T.hk e he).2.1.symm)]; exact hx _ _ (h.k e he), ?_⟩
  · have hm : S'.bx[gset g i a b c k j]? = some (mapsOf q j) := by
      by_cases e : i = k
      · subst e
        obtain rfl := hself i q hq1 rfl
        rw [hgi]
        rcases j with _ | _ | _ | j
        · exact ha
        · exact hb
        · exact hc
        · omega
      · rw [hg k j e]
        exact hx _ _ (h.m k q (hoth k q hq1 e) hq0 j hj)
    rw [St.setB_ne (ne_cM hq' hm)]
    exact hm
  · by_cases e : i = k
    · by_cases e' : i = k'
      · subst e; subst e'
        refine ⟨rfl, ?_⟩
        rw [hgi, hgi] at he
        rcases j1 with _ | _ | _ | j1 <;> rcases j2 with _ | _ | _ | j2 <;> first | rfl | omega | exact absurd he hab | exact absurd he hac | exact absurd he hbc | exact absurd he.symm hab | exact absurd he.symm hac | exact absurd he.symm hbc
      · subst e
        have h1 := hge j1
        have h2 := hlt k' q' (hoth k' q' hq1' e') hq0' j2 hj2
        rw [hg k' j2 e'] at he
        omega
    · by_cases e' : i = k'
      · subst e'
        have h1 := hge j2
        have h2 := hlt k q (hoth k q hq1 e) hq0 j1 hj1
        rw [hg k j1 e] at he
        omega
      · rw [hg k j1 e, hg k' j2 e'] at he
        exact h.inj _ _ _ _ (hoth k q hq1 e) (hoth k' q' hq1' e') hq0 hq0' j1 j2 hj1 hj2 he
  · rcases h.d with hd | ⟨db, ex2, h1, h2⟩
    · exact .inl hd
    · exact .inr ⟨db, ex2, h1, by rw [St.setB_ne (ne_cc hq h2 T.hqd)]; exact hx _ _ h2⟩
end
/-- what lies in boxes stays, but the states -/
def InvZ (T : PTys) (S S' : St) : Prop := ∀ (id : Nat) (cs : List AV) (t : TypeId), t ≠ T.q → S.bx[id]? = some (.cells cs t) → S'.bx[id]? = some (.cells cs t)
theorem InvZ.refl (T : PTys) (S : St) : InvZ T S S := fun _ _ _ _ h => h
theorem InvZ.addB {T : PTys} {S S' : St} {o : Ob} (h : InvZ T S S') : InvZ T S (S'.addB o) := fun id' cs' t h1 hc => St.addB_old (h id' cs' t h1 hc)
end HM

/- A slot of a run: how much there can be. -/
namespace HM
open Go Go.RowKit
theorem PInv.frames {T : PTys} {S S' : St} {pb ch : Nat} {l : List Flow} {s : Sched} {x : List Rule} {Q : PL} (h : PIn T S pb ch l s x Q) (hx : S'.bx = S.bx) (hf : S'.fr = S.fr) (ht : S'.ty = S.ty) : PIn T S' pb ch l s x Q := by
  obtain ⟨g, sv, dv, h⟩ := h
  exact ⟨g, sv, dv, h.more (fun _ _ ho => by rw [hx]; exact ho) (by rw [hf]) (by rw [ht])⟩
end HM

/- The law on a flow on its own. -/
namespace HM
open Go Go.RowKit

end HM
namespace HM
end HM

/- A cell put in and taken out, as the reference does it. -/
namespace HM
open Go Go.RowKit

end HM
namespace HM
open Go Go.RowKit
structure AppI (s : Sched) (cs : List Chg) (t : Int) (k : Nat) (u o : Sched) : Prop where
  le : k ≤ cs.length
  eq : appM none s s cs t = appM (prevS cs k) u o (cs.drop k) t
theorem AppI.zero (s : Sched) (cs : List Chg) (t : Int) : AppI s cs t 0 s s := ⟨Nat.zero_le _, rfl⟩
theorem AppI.step {s u o : Sched} {cs : List Chg} {t : Int} {k : Nat} (h : AppI s cs t k u o) {c : Chg} (hc : cs[k]? = some c) (he : chgE (prevS cs k) c = 0) (h2 : (chgM u c).2 = 0) : AppI s cs t (k + 1) (chgM u c).1 (if c.slot ≤ t then (chgM u c).1 else o) := by
  refine ⟨(List.getElem?_eq_some_iff.1 hc).1, ?_⟩
  have hp : prevS cs (k + 1) = some c.slot := by simp [prevS, hc]
  rw [h.eq, dropGet hc, appM, if_neg (by simp [he]), if_neg (fun hh => hh h2), hp]
theorem AppI.fin {s u o : Sched} {cs : List Chg} {t : Int} (h : AppI s cs t cs.length u o) : appM none s s cs t = (o, 0) := by
  rw [h.eq, List.drop_length]; rfl
end HM

/- Looking through attempts and rules one by one. -/
namespace HM
open Go Go.RowKit

end HM

/- Deliveries put in, from the end; attempts of the reference. -/
namespace HM
open Go Go.RowKit

end HM

/- How long the reference's runs are. -/
namespace HM
open Go Go.RowKit

end HM
namespace HM
end HM

/- Breaches of a run. -/
namespace HM
open Go Go.RowKit

-- maps with any values
def getK {α : Type} (ks : List (List Int)) (vs : List α) (x : List Int) : Option α := (posOf ks x).bind fun i => vs[i]?
def putV {α : Type} (ks : List (List Int)) (vs : List α) (x : List Int) (v : α) : List α := match posOf ks x with
  | some i => vs.set i v
  | none => vs ++ [v]
theorem posOf_lt {ks : List (List Int)} {x : List Int} {i : Nat} (h : posOf ks x = some i) : i < ks.length := (List.getElem?_eq_some_iff.1 (posOf_some h)).1
theorem posOf_app {ks : List (List Int)} {x y : List Int} : posOf (ks ++ [x]) y = match posOf ks y with
    | some i => some i
    | none => if x = y then some ks.length else none := by
  induction ks with
  | nil => simp [posOf]
  | cons k ks ih =>
    simp only [List.cons_append, posOf, ih]
    split
    · rfl
    · cases posOf ks y with
      | some i => rfl
      | none =>
        simp only [Option.map_none]
        split
        · simp
        · rfl
theorem put_len {α : Type} {ks : List (List Int)} {vs : List α} (h : ks.length = vs.length) (x : List Int) (v : α) : (setKs ks x).length = (putV ks vs x v).length := by
  unfold setKs putV
  cases posOf ks x <;> simp [h]
theorem get_put {α : Type} {ks : List (List Int)} {vs : List α} (h : ks.length = vs.length) (x y : List Int) (v : α) : getK (setKs ks x) (putV ks vs x v) y = if x = y then some v else getK ks vs y := by
  unfold getK setKs putV
  cases hx : posOf ks x with
  | some i =>
    have hi := posOf_lt hx
    simp only
    by_cases e : x = y
    · subst e
      rw [if_pos rfl, hx]
      simp [h ▸ hi]
    · rw [if_neg e]
      cases hy : posOf ks y with
      | none => rfl
      | some j =>
        have : i ≠ j := fun hij => by
          subst hij
          have h1 := posOf_some hx
          rw [posOf_some hy] at h1
          injection h1 with h1
          exact e h1.symm
        simp only [Option.bind_some]
        rw [List.getElem?_set_ne this]
  | none =>
    simp only [posOf_app]
    by_cases e : x = y
    · subst e
      rw [if_pos rfl, hx, if_pos rfl]
      simp [h]
    · rw [if_neg e]
      cases hy : posOf ks y with
      | none => simp [e]
      | some j => simp [e, List.getElem?_append_left (h ▸ posOf_lt hy)]
theorem setKs_nodup {ks : List (List Int)} (h : ks.Nodup) (x : List Int) : (setKs ks x).Nodup := by
  unfold setKs
  cases hx : posOf ks x with
  | some i => exact h
  | none =>
    have := posOf_none.1 hx
    rw [List.nodup_append]
    exact ⟨h, by simp, fun a ha b hb => by simp at hb; subst hb; exact fun e => this (e ▸ ha)⟩
theorem mem_setK {ks : List (List Int)} {x y : List Int} : y ∈ setKs ks x ↔ y ∈ ks ∨ y = x := by
  unfold setKs
  cases h : posOf ks x with
  | none => simp
  | some i =>
    refine ⟨.inl, fun h1 => h1.elim id fun e => ?_⟩
    rw [e]
    exact List.mem_of_getElem? (posOf_some h)
-- breaches
structure Brc where
  flow : Int
  frame : Int
  src : Int
  dst : Int
  slots : List Int
  deriving DecidableEq
def Brc.av (b : Brc) : AV := .agg [.int .i64 b.flow, .int .i64 b.frame, .int .i64 b.src, .int .i64 b.dst, encIs b.slots]
def Brc.key (b : Brc) : List Int := [b.flow, b.frame, b.src, b.dst]
def Brc.of (k : List Int) (s : List Int) : Brc := ⟨k.getD 0 0, k.getD 1 0, k.getD 2 0, k.getD 3 0, s⟩
def Att.key (a : Att) : List Int := [a.cell.flow, a.frame, a.cell.src, a.cell.dst]
theorem of_key (a : Att) (s : List Int) : (Brc.of a.key s).key = a.key := rfl
theorem of_self (b : Brc) : Brc.of b.key b.slots = b := rfl

theorem FitF.nil (l : Frs) : FitF l [] := by unfold FitF; trivial
theorem FitF.app : ∀ (l m : Frs), FitF (l ++ m) l
  | [], _ => by unfold FitF; trivial
  | _ :: l, m => ⟨rfl, FitF.app l m⟩
/-- what an attempt does to the row of its frame on its link -/
def brS (k : List Int) (loss : Int) (st : List Int × Option (List Int)) (a : Att) : List Int × Option (List Int) :=
  if a.key = k ∧ st.2 = none then (if a.out = 1 then ([], none) else (st.1 ++ [a.slot], if loss < (st.1.length + 1 : Nat) then some (st.1 ++ [a.slot]) else none)) else st
/-- the row of a frame on a link, and what broke the promise -/
def brk (k : List Int) (loss : Int) (ats : List Att) : List Int × Option (List Int) := ats.foldl (brS k loss) ([], none)
theorem brk_snoc (k : List Int) (loss : Int) (ats : List Att) (a : Att) : brk k loss (ats ++ [a]) = brS k loss (brk k loss ats) a := by simp [brk]
def linkK (n : Net) (k : List Int) : Int := findL n (k.getD 2 0) (k.getD 3 0)
def lossK (n : Net) (k : List Int) : Int := lossL n (k.getD 2 0) (k.getD 3 0)

/-- what the program has of the attempts so far -/
structure BS where
  ks : List (List Int)
  vs : List (Option (List Int × Nat))
  fk : List (List Int)
  fv : List (List Int × Nat)
  fr : Frs
def BS.row (b : BS) (k : List Int) : Option (List Int × Nat) := (getK b.ks b.vs k).getD none
def appO (fr : Frs) (v : Option (List Int × Nat)) (x : Int) : List Int × Nat := match v with
  | none => ([x], (fr ++ [(1, 1)]).length)
  | some p => (p.1 ++ [x], p.2)
def frO (fr : Frs) (v : Option (List Int × Nat)) : Frs := match v with
  | none => (fr ++ [(1, 1)]) ++ [(1, 1)]
  | some p => fr.set p.2 (p.1.length + 1, 1)
def stepB (n : Net) (b : BS) (a : Att) : BS :=
  if linkK n a.key < 0 ∨ (getK b.fk b.fv a.key).isSome = true then b
  else if a.out = 1 then { b with ks := setKs b.ks a.key, vs := putV b.ks b.vs a.key none }
  else
    let p := appO b.fr (b.row a.key) a.slot
    if lossK n a.key < (p.1.length : Nat) then ⟨setKs b.ks a.key, putV b.ks b.vs a.key (some p), setKs b.fk a.key, putV b.fk b.fv a.key p, frO b.fr (b.row a.key)⟩
    else ⟨setKs b.ks a.key, putV b.ks b.vs a.key (some p), b.fk, b.fv, frO b.fr (b.row a.key)⟩
structure BOk (n : Net) (ats : List Att) (b : BS) : Prop where
  l1 : b.ks.length = b.vs.length
  l2 : b.fk.length = b.fv.length
  nd : b.fk.Nodup
  from_ : ∀ k ∈ b.fk, ∃ a ∈ ats, a.key = k ∧ 0 ≤ linkK n k
  fo : ∀ k, 0 ≤ linkK n k → (getK b.fk b.fv k).map (·.1) = (brk k (lossK n k) ats).2
  ne : ∀ p ∈ b.fv, p.1 ≠ [] ∧ p.2 < b.fr.length
  rw_ : ∀ k, 0 ≤ linkK n k → (brk k (lossK n k) ats).2 = none → match b.row k with
    | none => (brk k (lossK n k) ats).1 = []
    | some p => (brk k (lossK n k) ats).1 = p.1 ∧ b.fr[p.2]? = some (p.1.length, 1)
  lt : ∀ k p, b.row k = some p → p.1 ≠ [] ∧ p.2 < b.fr.length
  un : ∀ k k' p p', b.row k = some p → b.row k' = some p' → p.2 = p'.2 → k = k'
  al : ∀ v ∈ b.vs, ∀ p, v = some p → p.2 < b.fr.length
  fl : b.fk.length ≤ ats.length
  rl : ∀ k p, b.row k = some p → p.1.length ≤ ats.length
theorem mem_putV {α : Type} {ks : List (List Int)} {vs : List α} {x : List Int} {v u : α} (h : u ∈ putV ks vs x v) : u ∈ vs ∨ u = v := by
  unfold putV at h
  split at h
  · exact List.mem_or_eq_of_mem_set h
  · simpa using h
theorem setKs_len_le (ks : List (List Int)) (x : List Int) : (setKs ks x).length ≤ ks.length + 1 := by
  unfold setKs
  split <;> simp
theorem BOk.start (n : Net) : BOk n [] ⟨[], [], [], [], []⟩ where
  l1 := rfl
  l2 := rfl
  nd := .nil
  from_ := by simp
  fo := fun k _ => rfl
  ne := by simp
  rw_ := fun k _ _ => rfl
  lt := fun k p h => by cases h
  un := fun k k' p p' h => by cases h
  al := by simp
  fl := by simp
  rl := fun k p h => by cases h
theorem row_put {b : BS} (h : b.ks.length = b.vs.length) (x y : List Int) (v : Option (List Int × Nat)) (fk : List (List Int)) (fv : List (List Int × Nat)) (fr : Frs) : BS.row ⟨setKs b.ks x, putV b.ks b.vs x v, fk, fv, fr⟩ y = if x = y then v else b.row y := by
  unfold BS.row
  simp only [get_put h]
  split <;> rfl
theorem frO_len (fr : Frs) (v : Option (List Int × Nat)) : fr.length ≤ (frO fr v).length := by
  cases v <;> simp [frO]
theorem brS_ne {k : List Int} {loss : Int} {st : List Int × Option (List Int)} {a : Att} (h : a.key ≠ k) : brS k loss st a = st := by rw [brS, if_neg (fun hh => h hh.1)]
theorem brS_done {k : List Int} {loss : Int} {st : List Int × Option (List Int)} {a : Att} (h : st.2 ≠ none) : brS k loss st a = st := by rw [brS, if_neg (fun hh => h hh.2)]
theorem frO_old {fr : Frs} {v : Option (List Int × Nat)} {c : Nat} {x : Nat × Nat} (h : fr[c]? = some x) (hn : ∀ p, v = some p → p.2 ≠ c) : (frO fr v)[c]? = some x := by
  cases v with
  | none => rw [frO, List.append_assoc, List.getElem?_append_left (List.getElem?_eq_some_iff.1 h).1]; exact h
  | some p => rw [frO, List.getElem?_set_ne (hn p rfl)]; exact h
theorem appO_chain {fr : Frs} {v : Option (List Int × Nat)} (x : Int) (hv : ∀ p, v = some p → p.2 < fr.length) : (appO fr v x).1 ≠ [] ∧ (appO fr v x).2 < (frO fr v).length ∧ (frO fr v)[(appO fr v x).2]? = some ((appO fr v x).1.length, 1) := by
  cases v with
  | none => exact ⟨by simp [appO], by simp [appO, frO], by simp [appO, frO]⟩
  | some p =>
    have := hv p rfl
    exact ⟨by simp [appO], by simpa [appO, frO] using this, by simp [appO, frO, this]⟩
theorem BOk.step {n : Net} {ats : List Att} {b : BS} (h : BOk n ats b) (a : Att) : BOk n (ats ++ [a]) (stepB n b a) := by
  have same : ∀ k, a.key ≠ k → brk k (lossK n k) (ats ++ [a]) = brk k (lossK n k) ats := fun k hk => by rw [brk_snoc, brS_ne hk]
  have keep : (∀ k, 0 ≤ linkK n k → brk k (lossK n k) (ats ++ [a]) = brk k (lossK n k) ats) → BOk n (ats ++ [a]) b := fun hh =>
    ⟨h.l1, h.l2, h.nd, fun k hk => let ⟨x, hx, e⟩ := h.from_ k hk; ⟨x, by simp [hx], e⟩, fun k hk => by rw [hh k hk]; exact h.fo k hk, h.ne, fun k hk => by rw [hh k hk]; exact h.rw_ k hk, h.lt, h.un, h.al, by have := h.fl; simp; omega, fun k p hp => by have := h.rl k p hp; simp; omega⟩
  unfold stepB
  by_cases h1 : linkK n a.key < 0 ∨ (getK b.fk b.fv a.key).isSome = true
  · rw [if_pos h1]
    refine keep fun k hk => ?_
    by_cases e : a.key = k
    · subst e
      rcases h1 with h1 | h1
      · omega
      · rw [brk_snoc, brS_done]
        rw [← h.fo _ hk]
        cases hg : getK b.fk b.fv a.key with
        | none => rw [hg] at h1; cases h1
        | some p => simp
    · exact same k e
  rw [if_neg h1]
  have hlk : 0 ≤ linkK n a.key := by
    rcases Int.lt_or_le (linkK n a.key) 0 with hh | hh
    · exact absurd (.inl hh) h1
    · exact hh
  have hnf : getK b.fk b.fv a.key = none := by
    cases hg : getK b.fk b.fv a.key with
    | none => rfl
    | some p => exact absurd (.inr (by rw [hg]; rfl)) h1
  have hb2 : (brk a.key (lossK n a.key) ats).2 = none := by rw [← h.fo _ hlk, hnf]; rfl
  have hrow := h.rw_ _ hlk hb2
  have hfrom : ∀ k ∈ setKs b.fk a.key, ∃ x ∈ ats ++ [a], x.key = k ∧ 0 ≤ linkK n k := fun k hk => by
    rcases mem_setK.1 hk with hk | rfl
    · obtain ⟨x, hx, e⟩ := h.from_ k hk
      exact ⟨x, by simp [hx], e⟩
    · exact ⟨a, by simp, rfl, hlk⟩
  by_cases ho : a.out = 1
  · rw [if_pos ho]
    have hnew : brk a.key (lossK n a.key) (ats ++ [a]) = ([], none) := by rw [brk_snoc, brS, if_pos ⟨rfl, hb2⟩, if_pos ho]
    refine ⟨put_len h.l1 _ _, h.l2, h.nd, fun k hk => let ⟨x, hx, e⟩ := h.from_ k hk; ⟨x, by simp [hx], e⟩, fun k hk => ?_, h.ne, fun k hk hk2 => ?_, fun k p hp => ?_, fun k k' p p' hp hp' he => ?_, fun v hv p hvp => ?_, by have := h.fl; simp; omega, fun k p hp => ?_⟩
    · by_cases e : a.key = k
      · subst e; rw [hnew]; simp only; rw [hnf]; rfl
      · rw [same k e]; exact h.fo k hk
    · rw [row_put h.l1]
      by_cases e : a.key = k
      · subst e; rw [if_pos rfl, hnew]
      · rw [if_neg e, same k e]; rw [same k e] at hk2; exact h.rw_ k hk hk2
    · rw [row_put h.l1] at hp
      split at hp
      · cases hp
      · exact h.lt k p hp
    · rw [row_put h.l1] at hp hp'
      split at hp
      · cases hp
      split at hp'
      · cases hp'
      exact h.un k k' p p' hp hp' he
    · rcases mem_putV hv with hv | hv
      · exact h.al v hv p hvp
      · rw [hv] at hvp; cases hvp
    · rw [row_put h.l1] at hp
      split at hp
      · cases hp
      · have := h.rl k p hp; simp; omega
  rw [if_neg ho]
  simp only
  obtain ⟨p, hp⟩ : ∃ p, p = appO b.fr (b.row a.key) a.slot := ⟨_, rfl⟩
  rw [← hp]
  have hv : ∀ q, b.row a.key = some q → q.2 < b.fr.length := fun q hq => (h.lt _ q hq).2
  obtain ⟨c1, c2, c3⟩ := appO_chain (fr := b.fr) a.slot hv
  rw [← hp] at c1 c2 c3
  have hfl := frO_len b.fr (b.row a.key)
  have hpr : (brk a.key (lossK n a.key) ats).1 ++ [a.slot] = p.1 := by
    rw [hp]
    cases hr : b.row a.key with
    | none => rw [hr] at hrow; simp only at hrow; rw [hrow]; rfl
    | some q => rw [hr] at hrow; simp only at hrow; rw [hrow.1]; rfl
  have hlen : ((brk a.key (lossK n a.key) ats).1.length + 1) = p.1.length := by rw [← hpr]; simp
  have hnew : brk a.key (lossK n a.key) (ats ++ [a]) = (p.1, if lossK n a.key < (p.1.length : Nat) then some p.1 else none) := by rw [brk_snoc, brS, if_pos ⟨rfl, hb2⟩, if_neg ho, hpr, hlen]
  -- what holds of the rows in both cases
  have hold : ∀ k q, a.key ≠ k → b.row k = some q → ∀ x, b.fr[q.2]? = some x → (frO b.fr (b.row a.key))[q.2]? = some x := fun k q hk hq x hx => frO_old hx fun r hr he => hk (h.un _ _ _ _ hr hq he)
  have rows : ∀ (fk : List (List Int)) (fv : List (List Int × Nat)), (∀ k, 0 ≤ linkK n k → (brk k (lossK n k) (ats ++ [a])).2 = none → match BS.row ⟨setKs b.ks a.key, putV b.ks b.vs a.key (some p), fk, fv, frO b.fr (b.row a.key)⟩ k with
      | none => (brk k (lossK n k) (ats ++ [a])).1 = []
      | some q => (brk k (lossK n k) (ats ++ [a])).1 = q.1 ∧ (frO b.fr (b.row a.key))[q.2]? = some (q.1.length, 1)) ∧
      (∀ k q, BS.row ⟨setKs b.ks a.key, putV b.ks b.vs a.key (some p), fk, fv, frO b.fr (b.row a.key)⟩ k = some q → q.1 ≠ [] ∧ q.2 < (frO b.fr (b.row a.key)).length) ∧
      (∀ k k' q q', BS.row ⟨setKs b.ks a.key, putV b.ks b.vs a.key (some p), fk, fv, frO b.fr (b.row a.key)⟩ k = some q → BS.row ⟨setKs b.ks a.key, putV b.ks b.vs a.key (some p), fk, fv, frO b.fr (b.row a.key)⟩ k' = some q' → q.2 = q'.2 → k = k') ∧
      (∀ v ∈ putV b.ks b.vs a.key (some p), ∀ q, v = some q → q.2 < (frO b.fr (b.row a.key)).length) ∧
      (∀ k q, BS.row ⟨setKs b.ks a.key, putV b.ks b.vs a.key (some p), fk, fv, frO b.fr (b.row a.key)⟩ k = some q → q.1.length ≤ (ats ++ [a]).length) := by
    intro fk fv
    have hpn : ∀ k q, a.key ≠ k → b.row k = some q → p.2 ≠ q.2 := fun k q hk hq he => by
      cases hr : b.row a.key with
      | none =>
        have : p.2 = b.fr.length + 1 := by rw [hp, hr]; simp [appO]
        have := (h.lt k q hq).2
        omega
      | some r =>
        have : p.2 = r.2 := by rw [hp, hr]; rfl
        exact hk (h.un _ _ _ _ hr hq (by omega))
    refine ⟨fun k hk hk2 => ?_, fun k q hq => ?_, fun k k' q q' hq hq' he => ?_, fun v hv q hvq => ?_, fun k q hq => ?_⟩
    · rw [row_put h.l1]
      by_cases e : a.key = k
      · subst e; rw [if_pos rfl, hnew]; exact ⟨rfl, c3⟩
      · rw [if_neg e, same k e]
        rw [same k e] at hk2
        have := h.rw_ k hk hk2
        cases hr : b.row k with
        | none => rw [hr] at this; exact this
        | some q => rw [hr] at this; exact ⟨this.1, hold k q e hr _ this.2⟩
    · rw [row_put h.l1] at hq
      split at hq
      · injection hq with hq; subst hq; exact ⟨c1, c2⟩
      · have := h.lt k q hq; exact ⟨this.1, by omega⟩
    · rw [row_put h.l1] at hq hq'
      split at hq
      · rename_i e
        split at hq'
        · rename_i e'; exact e.symm.trans e'
        · rename_i e'
          injection hq with hq
          exact absurd (by rw [hq]; exact he) (hpn k' q' e' hq')
      · rename_i e
        split at hq'
        · injection hq' with hq'
          exact absurd (by rw [hq']; exact he.symm) (hpn k q e hq)
        · exact h.un k k' q q' hq hq' he
    · rcases mem_putV hv with hv | hv
      · have := h.al v hv q hvq; omega
      · rw [hv] at hvq; injection hvq with hvq; subst hvq; exact c2
    · rw [row_put h.l1] at hq
      split at hq
      · injection hq with hq
        rw [← hq, hp]
        cases hr : b.row a.key with
        | none => simp [appO]
        | some r => have := h.rl _ r hr; simp [appO]; omega
      · have := h.rl k q hq; simp; omega
  by_cases hl : lossK n a.key < (p.1.length : Nat)
  · rw [if_pos hl]
    rw [if_pos hl] at hnew
    obtain ⟨r1, r2, r3, r4, r5⟩ := rows (setKs b.fk a.key) (putV b.fk b.fv a.key p)
    refine ⟨put_len h.l1 _ _, put_len h.l2 _ _, setKs_nodup h.nd _, hfrom, fun k hk => ?_, fun q hq => ?_, r1, r2, r3, r4, by have h1 := h.fl; have h2 := setKs_len_le b.fk a.key; simp; omega, r5⟩
    · simp only [get_put h.l2]
      by_cases e : a.key = k
      · subst e; rw [if_pos rfl, hnew]; rfl
      · rw [if_neg e, same k e]; exact h.fo k hk
    · simp only [putV] at hq
      split at hq
      · rcases List.mem_or_eq_of_mem_set hq with hq | rfl
        · have := h.ne q hq; exact ⟨this.1, Nat.lt_of_lt_of_le this.2 hfl⟩
        · exact ⟨c1, c2⟩
      · rcases List.mem_append.1 hq with hq | hq
        · have := h.ne q hq; exact ⟨this.1, Nat.lt_of_lt_of_le this.2 hfl⟩
        · simp at hq; subst hq; exact ⟨c1, c2⟩
  · rw [if_neg hl]
    rw [if_neg hl] at hnew
    obtain ⟨r1, r2, r3, r4, r5⟩ := rows b.fk b.fv
    refine ⟨put_len h.l1 _ _, h.l2, h.nd, fun k hk => hfrom k (mem_setK.2 (.inl hk)), fun k hk => ?_, fun q hq => ?_, r1, r2, r3, r4, by have := h.fl; simp; omega, r5⟩
    · by_cases e : a.key = k
      · subst e; rw [hnew]; simp only; rw [hnf]; rfl
      · rw [same k e]; exact h.fo k hk
    · have := h.ne q hq; exact ⟨this.1, Nat.lt_of_lt_of_le this.2 hfl⟩
-- the list of the reference
def laterB (b x : Brc) : Bool := decide (cmpL b.key x.key < 0)
def insBr (b : Brc) (l : List Brc) : List Brc := (l.reverse.dropWhile (laterB b)).reverse ++ b :: (l.reverse.takeWhile (laterB b)).reverse
def brcOf (n : Net) (ats : List Att) (i : Nat) (a : Att) : Option (List Int) := if ((ats.take i).any fun b => b.key == a.key) = true ∨ linkK n a.key < 0 then none else (brk a.key (lossK n a.key) ats).2
def refB (n : Net) (ats : List Att) : Nat → List Brc
  | 0 => []
  | i + 1 => match ats[i]? with
    | none => refB n ats i
    | some a => match brcOf n ats i a with
      | none => refB n ats i
      | some s => insBr (Brc.of a.key s) (refB n ats i)
theorem insBr_mem {b : Brc} {l : List Brc} {x : Brc} : x ∈ insBr b l ↔ x ∈ l ∨ x = b := by
  have e2 := List.takeWhile_append_dropWhile (p := laterB b) (l := l.reverse)
  have e3 : x ∈ l ↔ x ∈ l.reverse.takeWhile (laterB b) ∨ x ∈ l.reverse.dropWhile (laterB b) := by rw [← List.mem_append, e2, List.mem_reverse]
  unfold insBr
  rw [e3]
  simp only [List.mem_append, List.mem_reverse, List.mem_cons]
  constructor
  · rintro (h | h | h)
    · exact .inl (.inr h)
    · exact .inr h
    · exact .inl (.inl h)
  · rintro ((h | h) | h)
    · exact .inr (.inr h)
    · exact .inl h
    · exact .inr (.inl h)
/-- a breach: of an attempt's frame on a link of the network -/
def IsB (n : Net) (ats : List Att) (m : List Att) (x : Brc) : Prop := (∃ a ∈ m, a.key = x.key) ∧ 0 ≤ linkK n x.key ∧ (brk x.key (lossK n x.key) ats).2 = some x.slots
theorem refB_mem {n : Net} {ats : List Att} : ∀ {i : Nat}, i ≤ ats.length → ∀ {x : Brc}, x ∈ refB n ats i ↔ IsB n ats (ats.take i) x
  | 0, _, x => by simp [refB, IsB]
  | i + 1, hi, x => by
    have ih := fun x => refB_mem (n := n) (ats := ats) (i := i) (by omega) (x := x)
    obtain ⟨a, ha⟩ : ∃ a, ats[i]? = some a := ⟨_, List.getElem?_eq_getElem (by omega)⟩
    have ht := take_succ ha
    simp only [refB, ha]
    have hold : IsB n ats (ats.take i) x → IsB n ats (ats.take (i + 1)) x := fun ⟨⟨y, hy, e⟩, h2, h3⟩ => ⟨⟨y, by rw [ht]; simp [hy], e⟩, h2, h3⟩
    unfold brcOf
    by_cases hc : ((ats.take i).any fun b => b.key == a.key) = true ∨ linkK n a.key < 0
    · rw [if_pos hc]
      simp only
      rw [ih x]
      refine ⟨hold, fun ⟨⟨y, hy, e⟩, h2, h3⟩ => ⟨?_, h2, h3⟩⟩
      rw [ht] at hy
      rcases List.mem_append.1 hy with hy | hy
      · exact ⟨y, hy, e⟩
      · simp at hy; subst hy
        rcases hc with hc | hc
        · obtain ⟨z, hz, ez⟩ := List.any_eq_true.1 hc
          exact ⟨z, hz, by rw [← e]; simpa using ez⟩
        · rw [e] at hc; omega
    · rw [if_neg hc]
      cases hb : (brk a.key (lossK n a.key) ats).2 with
      | none =>
        simp only
        rw [ih x]
        refine ⟨hold, fun ⟨⟨y, hy, e⟩, h2, h3⟩ => ⟨?_, h2, h3⟩⟩
        rw [ht] at hy
        rcases List.mem_append.1 hy with hy | hy
        · exact ⟨y, hy, e⟩
        · simp at hy; subst hy
          rw [← e, hb] at h3; cases h3
      | some s =>
        simp only
        rw [insBr_mem, ih x]
        constructor
        · rintro (h | rfl)
          · exact hold h
          · refine ⟨⟨a, by rw [ht]; simp, rfl⟩, ?_, hb⟩
            rw [of_key]
            rcases Int.lt_or_le (linkK n a.key) 0 with hh | hh
            · exact absurd (.inr hh) hc
            · exact hh
        · rintro ⟨⟨y, hy, e⟩, h2, h3⟩
          rw [ht] at hy
          rcases List.mem_append.1 hy with hy | hy
          · exact .inl ⟨⟨y, hy, e⟩, h2, h3⟩
          · simp at hy; subst hy
            right
            rw [← e, hb] at h3
            injection h3 with h3
            rw [h3, e, of_self]
def BS.out (b : BS) : List Brc := (b.fk.zip b.fv).map fun p => Brc.of p.1 p.2.1
-- in the order of a range
-- data knows no objects
mutual
theorem AV.ren_fz (π : Nat → Nat) : ∀ (e : AV) {e' : AV}, fz e = some e' → e.ren π = e
  | .fn f caps, _, h => by
    simp only [fz, Option.map_eq_some_iff] at h
    obtain ⟨cs, h, _⟩ := h
    simp only [AV.ren, rens_fz π caps h]
  | .agg cs, _, h => by
    simp only [fz, Option.map_eq_some_iff] at h
    obtain ⟨cs', h, _⟩ := h
    simp only [AV.ren, rens_fz π cs h]
  | .tup cs, _, h => by
    simp only [fz, Option.map_eq_some_iff] at h
    obtain ⟨cs', h, _⟩ := h
    simp only [AV.ren, rens_fz π cs h]
  | .int _ _, _, _ => rfl
  | .bool _, _, _ => rfl
  | .str _, _, _ => rfl
  | .nils, _, _ => rfl
  | .nilp, _, _ => rfl
  | .nili, _, _ => rfl
  | .nilm, _, _ => rfl
  | .sl _ _, _, _ => rfl
  | .own _ _, _, _ => rfl
  | .cptr _ _, _, _ => rfl
  | .cmp _ _ _, _, _ => rfl
  | .undef, _, _ => rfl
  | .grown _ _, _, h => by simp [fz] at h
  | .bsl _ _ _ _, _, h => by simp [fz] at h
  | .vsl _ _ _ _, _, h => by simp [fz] at h
  | .ptr _ _, _, h => by simp [fz] at h
  | .yld _, _, h => by simp [fz] at h
  | .mp _, _, h => by simp [fz] at h
theorem rens_fz (π : Nat → Nat) : ∀ (es : List AV) {es' : List AV}, fzs es = some es' → rens π es = es
  | [], _, _ => rfl
  | e :: es, _, h => by
    simp only [fzs] at h
    split at h
    · rename_i a b h1 h2
      simp only [rens, AV.ren_fz π e h1, rens_fz π es h2]
    · cases h
end
theorem rens_app (π : Nat → Nat) : ∀ a b : List AV, rens π (a ++ b) = rens π a ++ rens π b
  | [], _ => rfl
  | x :: a, b => by simp [rens, rens_app π a b]
theorem rens_undef (π : Nat → Nat) : ∀ n, rens π (List.replicate n .undef) = List.replicate n .undef
  | 0 => rfl
  | n + 1 => by simp [List.replicate_succ, rens, AV.ren, rens_undef π n]
theorem EncOk.ren {α : Type} {enc : α → AV} {sz : Nat} (h : EncOk enc sz) (π : Nat → Nat) (l : List α) (n : Nat) : rens π (flatE (l.map enc) ++ List.replicate n .undef) = flatE (l.map enc) ++ List.replicate n .undef := by
  rw [rens_app, rens_fz π _ (h.fzf l), rens_undef]
-- a row of structs that grows
def brcsM (n : Net) (r : RunL) : List Brc := if netE n = 0 then refB n r.atts r.atts.length else []
theorem brk_stop {k : List Int} {loss : Int} {pre post : List Att} : ∀ s, (brk k loss pre).2 = some s → (brk k loss (pre ++ post)).2 = some s := by
  induction post generalizing pre with
  | nil => intro s h; simpa using h
  | cons a l ih =>
    intro s h
    have := ih (pre := pre ++ [a]) s (by rw [brk_snoc, brS_done (by rw [h]; simp)]; exact h)
    simpa using this
end HM

/- Breaches, as the law looks for them. -/
namespace HM
open Go Go.RowKit

def rowS (k : List Int) (row : List Int) (a : Att) : List Int := if a.key = k then (if a.out = 1 then [] else row ++ [a.slot]) else row
/-- the row that goes on behind a breach, too -/
def rowF (k : List Int) (ats : List Att) : List Int := ats.foldl (rowS k) []
theorem brk_row {k : List Int} {loss : Int} : ∀ {ats : List Att}, (brk k loss ats).2 = none → (brk k loss ats).1 = rowF k ats := by
  intro ats
  suffices ∀ (l : List Att) (st : List Int × Option (List Int)) (row : List Int), (st.2 = none → st.1 = row) → (l.foldl (brS k loss) st).2 = none → (l.foldl (brS k loss) st).1 = l.foldl (rowS k) row from this ats ([], none) [] (fun _ => rfl)
  intro l
  induction l with
  | nil => intro st row h h2; exact h h2
  | cons a l ih =>
    intro st row h h2
    rw [List.foldl_cons] at h2 ⊢
    rw [List.foldl_cons]
    refine ih _ _ (fun h3 => ?_) h2
    unfold brS at h3 ⊢
    unfold rowS
    split at h3
    · rename_i hc
      rw [if_pos hc, if_pos hc.1]
      split at h3
      · rename_i ho; rw [if_pos ho, if_pos ho]
      · rename_i ho; rw [if_neg ho, if_neg ho, h hc.2]
    · rename_i hc
      rw [if_neg hc]
      by_cases e : a.key = k
      · exact absurd ⟨e, h3⟩ hc
      · rw [if_neg e]; exact h h3
end HM

/- In a run without a breach a frame is there within the bound of its route. -/
namespace HM
open Go Go.RowKit

-- slots of later rounds of the schedule
end HM

/- A run without a breach of a frame brings it within its latency. -/
namespace HM
open Go Go.RowKit

theorem allS_plus (cs : List Cell) (len a : Int) (d : Nat) : ∀ e : Nat, allS cs len a (d + e) = allS cs len a d ++ allS cs len (a + d) e
  | 0 => by simp [allS]
  | e + 1 => by
    rw [show d + (e + 1) = d + e + 1 from rfl]
    simp only [allS]
    rw [allS_plus cs len a d e, List.append_assoc, show a + ((d + e : Nat) : Int) = a + (d : Int) + (e : Int) by omega]
theorem fm_count {α β : Type} {g : α → Option β} {p : β → Bool} {q : α → Bool} : ∀ {l : List α}, (∀ c ∈ l, q c = true → ∃ y, g c = some y ∧ p y = true) → (l.filter q).length ≤ (l.filterMap g).countP p
  | [], _ => by simp
  | c :: l, h => by
    have ih := fm_count (l := l) (g := g) (p := p) (q := q) fun c hc => h c (List.mem_cons_of_mem _ hc)
    rw [List.filterMap_cons]
    by_cases hq : q c = true
    · obtain ⟨y, h1, h2⟩ := h c (List.mem_cons_self ..) hq
      rw [List.filter_cons, if_pos hq, h1]
      simp only [List.length_cons, List.countP_cons, h2, if_true]
      omega
    · rw [List.filter_cons, if_neg hq]
      cases hg : g c with
      | none => exact ih
      | some y => simp only [List.countP_cons]; omega
def keyK (K : List Int) (a : Att) : Bool := a.key == K
/-- cells that must attempt do attempt -/
theorem gens_count {s : Sched} {f : Flow} (hfm : formB s = true) (x : List Rule) {N k A : Nat} {a b : Int} : ∀ d : Nat, A + d ≤ N →
    (∀ t : Nat, A ≤ t → t < A + d → ∀ c ∈ cellsL s f a b, genB [f] (playR [f] (fun _ => s) x N).atts (t : Nat) c = some (((t : Nat) : Int), ((k : Nat) : Int), c)) →
    (allS (cellsL s f a b) s.len A d).length ≤ (playR [f] (fun _ => s) x (A + d)).atts.countP (keyK [f.id, (k : Nat), a, b])
  | 0, _, _ => by simp [allS]
  | d + 1, hN, hg => by
    have ih := gens_count hfm x (N := N) (k := k) (A := A) (a := a) (b := b) d (by omega) fun t h1 h2 => hg t h1 (by omega)
    obtain ⟨late, e1, _, e3⟩ := slotR_gen [f] s x (playR [f] (fun _ => s) x (A + d)) ((A + d : Nat) : Int)
    obtain ⟨l6, h6, h7⟩ := playR_late [f] (fun _ => s) x (A + d) (N - (A + d))
    rw [show A + d + (N - (A + d)) = N by omega] at h6
    have e4 : (playR [f] (fun _ => s) x (A + (d + 1))).atts = (playR [f] (fun _ => s) x (A + d)).atts ++ late := e1
    rw [e4, List.countP_append, allS, List.length_append, List.length_map]
    have h8 : late.countP (keyK [f.id, (k : Nat), a, b]) = (late.map keyA).countP (fun p : Int × Int × Cell => [p.2.2.flow, p.2.1, p.2.2.src, p.2.2.dst] == [f.id, (k : Nat), a, b]) := by rw [List.countP_map]; rfl
    rw [h8, e3]
    have h9 : ((cellsL s f a b).filter fun c => c.slot == ((A : Int) + (d : Nat)) % s.len).length = ((atM s ((A + d : Nat) : Int)).filter fun c => !offL f.id a b c).length := by
      unfold atM cellsL
      rw [if_neg (by rw [hfm]; intro h; rcases h with h | h <;> first | cases h | omega), List.filter_filter, List.filter_filter, Int.natCast_add]
      congr 1
      refine List.filter_congr fun c _ => ?_
      rw [Bool.and_comm]
    rw [h9]
    refine Nat.add_le_add ih (fm_count fun c hc hq => ?_)
    have hc1 : c ∈ cellsL s f a b := by
      unfold atM at hc
      split at hc
      · cases hc
      · exact List.mem_filter.2 ⟨(List.mem_filter.1 hc).1, hq⟩
    have h10 := hg (A + d) (by omega) (by omega) c hc1
    rw [h6, genB_late [f] h7] at h10
    refine ⟨_, h10, ?_⟩
    unfold offL at hq
    simp only [Bool.not_or, Bool.and_eq_true, Bool.not_eq_true', bne_eq_false_iff_eq] at hq
    simp only [beq_iff_eq, List.cons.injEq, and_true, true_and]
    exact ⟨hq.1.1, hq.1.2, hq.2⟩
theorem rowF_count {K : List Int} {ats : List Att} (h : ∀ a ∈ ats, a.key = K → a.out ≠ 1) : (rowF K ats).length = ats.countP (keyK K) := by
  suffices ∀ (l : List Att) (row : List Int), (∀ a ∈ l, a.key = K → a.out ≠ 1) → (l.foldl (rowS K) row).length = row.length + l.countP (keyK K) by simpa [rowF] using this ats [] h
  intro l
  induction l with
  | nil => intro row _; simp
  | cons a l ih =>
    intro row h
    rw [List.foldl_cons, ih _ fun b hb => h b (List.mem_cons_of_mem _ hb), List.countP_cons]
    unfold rowS
    by_cases e : a.key = K
    · have e2 : keyK K a = true := by unfold keyK; rw [e]; exact beq_self_eq_true K
      rw [if_pos e, if_neg (h a (List.mem_cons_self ..) e), List.length_append, List.length_singleton, if_pos e2]; omega
    · have e2 : ¬ keyK K a = true := by unfold keyK; simpa using e
      rw [if_neg e, if_neg e2]; omega
theorem brk_none_len {K : List Int} {loss : Int} (h0 : 0 ≤ loss) {ats : List Att} (h : (brk K loss ats).2 = none) : ((brk K loss ats).1.length : Int) ≤ loss := by
  suffices ∀ (l : List Att) (st : List Int × Option (List Int)), (st.2 = none → (st.1.length : Int) ≤ loss) → (l.foldl (brS K loss) st).2 = none → ((l.foldl (brS K loss) st).1.length : Int) ≤ loss from this ats ([], none) (fun _ => by simpa using h0) h
  intro l
  induction l with
  | nil => intro st h1 h2; exact h1 h2
  | cons a l ih =>
    intro st h1 h2
    rw [List.foldl_cons] at h2 ⊢
    refine ih _ (fun h3 => ?_) h2
    unfold brS at h3 ⊢
    split at h3
    · rename_i hc
      rw [if_pos hc]
      split at h3
      · rename_i ho; rw [if_pos ho]; simpa using h0
      · rename_i ho
        rw [if_neg ho]
        simp only at h3 ⊢
        split at h3
        · cases h3
        · rename_i hl; rw [List.length_append, List.length_singleton]; omega
    · rename_i hc
      rw [if_neg hc]; exact h1 h3
theorem curM_of {f : Flow} {k t : Int} (hfl : flowE 32 f = 0) (hk : 0 ≤ k) (h1 : f.phase + k * f.period ≤ t) (h2 : t < f.phase + k * f.period + f.period) (h3 : t ≤ 1099511627776) : curM f t = (k, true) := by
  have hf := flowE_ok hfl
  have h4 : 0 ≤ k * f.period := Int.mul_nonneg hk (by omega)
  unfold curM
  rw [if_neg (by intro h; rcases h with h | h | h <;> first | exact h hfl | omega)]
  have e : t - f.phase = (t - f.phase - k * f.period) + k * f.period := by omega
  rw [e, Int.add_mul_ediv_right _ _ (by omega), Int.ediv_eq_zero_of_lt (by omega) (by omega), Int.zero_add]
/-- so many cells up to the last slot that counts -/
theorem slotsOn_count {s : Sched} {f : Flow} {a b : Int} {need : Nat} {at_ stop L : Int} (h : (slotsOn s f a b need at_ stop).getLast? = some L) (hl : need ≤ (slotsOn s f a b need at_ stop).length) : need ≤ (allS (cellsL s f a b) s.len at_ (L + 1 - at_).toNat).length := by
  have hL := slotsOn_mem (List.mem_of_getLast? h)
  obtain ⟨e, he⟩ : ∃ e, (stop - at_).toNat = (L + 1 - at_).toNat + e := ⟨(stop - at_).toNat - (L + 1 - at_).toNat, by omega⟩
  unfold slotsOn at h hl
  rw [he, allS_plus] at h hl
  apply Decidable.byContradiction
  intro hn
  rw [List.take_append] at h hl
  rw [List.take_of_length_le (by omega)] at h hl
  rw [List.length_append] at hl
  rw [List.getLast?_append] at h
  have hne : (List.take (need - (allS (cellsL s f a b) s.len at_ (L + 1 - at_).toNat).length) (allS (cellsL s f a b) s.len (at_ + ((L + 1 - at_).toNat : Nat)) e)) ≠ [] := by
    intro h0; rw [h0] at hl; simp at hl; omega
  obtain ⟨y, hy⟩ : ∃ y, (List.take (need - (allS (cellsL s f a b) s.len at_ (L + 1 - at_).toNat).length) (allS (cellsL s f a b) s.len (at_ + ((L + 1 - at_).toNat : Nat)) e)).getLast? = some y := ⟨_, List.getLast?_eq_some_getLast hne⟩
  rw [hy] at h
  simp only [Option.or_some, Option.getD_some, Option.some_or, Option.some.injEq] at h
  have := allS_mem (List.mem_of_mem_take (List.mem_of_getLast? hy))
  omega
end HM

/- A frame that no link of its route breaks is there within the bound. -/
namespace HM
open Go Go.RowKit

theorem dup_ne {r : List Int} (hd : ∀ i, i < r.length → dupAt r i = false) {i j : Nat} (hij : i < j) (hj : j < r.length) : r.getD i 0 ≠ r.getD j 0 := by
  intro e
  have h := hd j hj
  have hi : i < r.length := by omega
  rw [List.getD_eq_getElem?_getD, List.getD_eq_getElem?_getD, List.getElem?_eq_getElem hi, List.getElem?_eq_getElem hj] at e
  simp only [Option.getD_some] at e
  unfold dupAt at h
  rw [List.getElem?_eq_getElem hj] at h
  simp only at h
  rw [List.any_eq_false] at h
  exact h (r[i]) (List.mem_take_iff_getElem.2 ⟨i, by omega, rfl⟩) (by simpa using e)
/-- the frame is not broken -/
def unbroken (n : Net) (f : Flow) (r : List Int) (R : RunL) (k : Int) : Prop := ∀ i, i + 1 < r.length → ∀ b ∈ brcsM n R, b.key ≠ [f.id, k, r.getD i 0, r.getD (i + 1) 0]
theorem holdsR_mono {f : Flow} {R : List Att} {a k t u : Int} (h : holdsR f R a k t = true) (htu : t ≤ u) : holdsR f R a k u = true := by
  unfold holdsR at h ⊢
  simp only [Bool.or_eq_true, List.any_eq_true, Bool.and_eq_true, decide_eq_true_eq] at h ⊢
  rcases h with h | ⟨b, h1, h2, h3⟩
  · exact .inl h
  · exact .inr ⟨b, h1, h2, by omega⟩
theorem hop {n : Net} {s : Sched} {f : Flow} {r : List Int} (h0 : netE n = 0) (hw : WayOk n s f r) (hfl : flowE 32 f = 0) (x : List Rule) {N k : Nat} (hbig : f.phase + (k : Nat) * f.period + f.period ≤ 1099511627776)
    (hnb : unbroken n f r (playR [f] (fun _ => s) x N) (k : Nat)) : ∀ (i : Nat) (o : List Int) (a : Int), i + 1 ≤ r.length → slotsUp n s f r (f.phase + (k : Nat) * f.period) 0 i = some (o, a) → (∀ y ∈ o, y < (N : Nat)) → holdsR f (playR [f] (fun _ => s) x N).atts (r.getD i 0) (k : Nat) a = true
  | 0, o, a, _, _, _ => by unfold holdsR; rw [hw.ends.1]; simp
  | i + 1, o, a, hi, hs, hN => by
    have hf := hw.flow
    have hk0 : 0 ≤ ((k : Nat) : Int) * f.period := Int.mul_nonneg (by omega) (by omega)
    unfold slotsUp at hs
    split at hs
    · cases hs
    rename_i o' a' h'
    simp only at hs
    split at hs
    · cases hs
    rename_i hlen
    injection hs with hs; injection hs with e1 e2
    subst e1
    have ih := hop h0 hw hfl x hbig hnb i o' a' (by omega) h' fun y hy => hN y (List.mem_append_left _ hy)
    obtain ⟨m, l, g1, g2, g3, g4, g5, g6, g7⟩ := hw.at (i := i) (by omega)
    have hneed : ((needAt n r 0 i : Nat) : Int) = l.loss + 1 := by unfold needAt; rw [g7]; omega
    obtain ⟨h, hh⟩ : ∃ h, h = slotsOn s f (r.getD i 0) (r.getD (i + 1) 0) (needAt n r 0 i) a' (f.phase + (k : Nat) * f.period + f.period) := ⟨_, rfl⟩
    rw [← hh] at e2 hlen hN
    have hne : h ≠ [] := by intro e; rw [e] at hlen; simp at hlen; omega
    obtain ⟨L, hL⟩ : ∃ L, h.getLast? = some L := ⟨_, List.getLast?_eq_some_getLast hne⟩
    have hLN := hN L (List.mem_append_right _ (List.mem_of_getLast? hL))
    have ha : a = L + 1 := by rw [← e2]; unfold nextA; rw [hL]
    obtain ⟨_, ha', _, _⟩ := slotsUp_ok (by omega) h'
    have hLm := slotsOn_mem (hh ▸ List.mem_of_getLast? hL)
    have hcnt := slotsOn_count (hh ▸ hL) (by rw [← hh]; omega)
    apply Decidable.byContradiction
    intro hno
    have hno2 : ∀ b ∈ (playR [f] (fun _ => s) x N).atts, gotA f.id (k : Nat) (r.getD (i + 1) 0) b = true → ¬ b.slot < a := fun b hb hg hs => hno (by
      unfold holdsR
      simp only [Bool.or_eq_true, List.any_eq_true, Bool.and_eq_true, decide_eq_true_eq]
      exact .inr ⟨b, hb, hg, hs⟩)
    obtain ⟨A, rfl⟩ : ∃ A : Nat, a' = A := ⟨a'.toNat, by omega⟩
    obtain ⟨d, hd⟩ : ∃ d, d = (L + 1 - (A : Nat)).toNat := ⟨_, rfl⟩
    rw [← hd] at hcnt
    have hAd : ((A + d : Nat) : Int) = L + 1 := by omega
    have hgen := gens_count hw.form x (N := N) (k := k) (A := A) (a := r.getD i 0) (b := r.getD (i + 1) 0) d (by omega) fun t h1 h2 c hc => by
      have hc2 := (List.mem_filter.1 hc).2
      unfold offL at hc2
      simp only [Bool.not_or, Bool.and_eq_true, Bool.not_eq_true', bne_eq_false_iff_eq] at hc2
      have hcm := curM_of (k := (k : Nat)) (t := (t : Nat)) hfl (by omega) (by omega) (by omega) (by omega)
      unfold genB
      have hff : findF [f] c.flow = 0 := by rw [findF_one, if_pos hc2.1.1.symm]
      rw [hff, if_neg (by omega)]
      simp only [Int.toNat_zero, List.getElem?_cons_zero, hcm]
      rw [if_neg ?_]
      intro hor
      rcases hor with hor | hor | hor | hor
      · cases hor
      · rw [hc2.1.2, ← hw.ends.2] at hor
        exact dup_ne hw.dup (by omega) (by omega) hor
      · rw [hc2.1.2, holdsR_mono ih (by omega)] at hor; cases hor
      · unfold ackedR at hor
        simp only [List.any_eq_true, Bool.and_eq_true, decide_eq_true_eq, beq_iff_eq] at hor
        obtain ⟨b, hb, ⟨hb1, hb2⟩, hb3⟩ := hor
        refine hno2 b hb ?_ (by omega)
        unfold onA at hb1
        simp only [Bool.and_eq_true, beq_iff_eq] at hb1
        unfold gotA
        simp only [Bool.and_eq_true, beq_iff_eq, bne_iff_ne]
        exact ⟨⟨⟨hb1.1.1.1.trans hc2.1.1, hb1.1.1.2⟩, hb1.2.trans hc2.2⟩, by omega⟩
    obtain ⟨K, hK⟩ : ∃ K : List Int, K = [f.id, (k : Nat), r.getD i 0, r.getD (i + 1) 0] := ⟨_, rfl⟩
    rw [← hK] at hgen
    obtain ⟨l6, h6, h7⟩ := playR_late [f] (fun _ => s) x (A + d) (N - (A + d))
    rw [show A + d + (N - (A + d)) = N by omega] at h6
    have hnack : ∀ b ∈ (playR [f] (fun _ => s) x (A + d)).atts, b.key = K → b.out ≠ 1 := fun b hb hbk ho => by
      have hs := playR_slots [f] (fun _ => s) x (A + d) b hb
      refine hno2 b (h6 ▸ List.mem_append_left _ hb) ?_ (by omega)
      rw [hK] at hbk
      unfold Att.key at hbk
      injection hbk with q1 hbk; injection hbk with q2 hbk; injection hbk with q3 hbk; injection hbk with q4 hbk
      unfold gotA
      simp only [Bool.and_eq_true, beq_iff_eq, bne_iff_ne]
      exact ⟨⟨⟨q1, q2⟩, q4⟩, by omega⟩
    have hrow := rowF_count hnack
    cases hbk : (brk K l.loss (playR [f] (fun _ => s) x (A + d)).atts).2 with
    | none =>
      have q1 := brk_none_len g5 hbk
      rw [brk_row hbk] at q1
      omega
    | some sl =>
      have q1 := brk_stop (post := l6) sl hbk
      rw [← h6] at q1
      have hpos : 0 < (playR [f] (fun _ => s) x (A + d)).atts.countP (keyK K) := by omega
      obtain ⟨b, hb, hbk2⟩ := List.countP_pos_iff.1 hpos
      have hmem : (Brc.of K sl) ∈ brcsM n (playR [f] (fun _ => s) x N) := by
        unfold brcsM
        rw [if_pos h0, refB_mem (Nat.le_refl _), List.take_length]
        have hkk : (Brc.of K sl).key = K := by rw [hK]; rfl
        refine ⟨⟨b, h6 ▸ List.mem_append_left _ hb, by rw [hkk]; exact eq_of_beq hbk2⟩, ?_, ?_⟩
        · rw [hkk, hK]
          show 0 ≤ findL n (r.getD i 0) (r.getD (i + 1) 0)
          omega
        · rw [hkk]
          have hls : lossK n K = l.loss := by
            rw [hK]
            show lossL n (r.getD i 0) (r.getD (i + 1) 0) = l.loss
            rw [← g3, ← g4, link_loss hw.net g2]
          rw [hls]
          exact q1
      exact hnb i (by omega) _ hmem (by rw [hK]; rfl)
end HM

/- BoundHolds: what its law asks. -/
namespace HM
open Go Go.RowKit

end HM

/- With the worst script a frame is there at its latency, without a breach. -/
namespace HM
open Go Go.RowKit

end HM
