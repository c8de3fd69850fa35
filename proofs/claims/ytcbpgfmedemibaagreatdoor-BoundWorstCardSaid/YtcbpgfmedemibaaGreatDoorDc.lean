/- Further plain words. -/
import Derived.Test.YtcbpgfmedemibaaGreatDoorDb
/- With the worst script: not earlier than the latency, and no breach. -/
namespace HM
open Go Go.RowKit

/-- all outcomes are those of the worst script of frame k -/
structure WorstX (n : Net) (f : Flow) (r : List Int) (k : Nat) (x : List Rule) : Prop where
  on : ∀ i, i + 1 < r.length → ∀ j : Nat, outcomeM x f.id (k : Nat) (r.getD i 0) (r.getD (i + 1) 0) j = if (j : Int) < (linkAt n r i).loss then 3 else 1
  off : ∀ fr : Int, fr ≠ (k : Nat) → ∀ (a b : Int) (j : Nat), outcomeM x f.id fr a b j = 1
end HM

/- BoundReached: the part of a schedule that serves a route, and the worst script. -/
namespace HM
open Go Go.RowKit

/-- the rule of a link in the worst script -/
def lostR (n : Net) (f : Flow) (r : List Int) (k : Int) (i : Nat) : Rule := ⟨f.id, r.getD i 0, r.getD (i + 1) 0, k, List.replicate (linkAt n r i).loss.toNat 3⟩
def lostO (n : Net) (f : Flow) (r : List Int) (k : Int) (i : Nat) : Option Rule := if 0 < (linkAt n r i).loss then some (lostR n f r k i) else none
/-- the rules of the worst script, in the order of the route -/
def worstU (n : Net) (f : Flow) (r : List Int) (k : Int) (m : Nat) : List Rule := (List.range m).filterMap (lostO n f r k)
theorem worstU_mem {n : Net} {f : Flow} {r : List Int} {k : Int} {m : Nat} {x : Rule} : x ∈ worstU n f r k m ↔ ∃ i, i < m ∧ 0 < (linkAt n r i).loss ∧ x = lostR n f r k i := by
  unfold worstU
  rw [List.mem_filterMap]
  constructor
  · rintro ⟨i, hi, h⟩
    unfold lostO at h
    split at h
    · rename_i hl; injection h with h; exact ⟨i, List.mem_range.1 hi, hl, h.symm⟩
    · cases h
  · rintro ⟨i, hi, hl, rfl⟩
    exact ⟨i, List.mem_range.2 hi, by unfold lostO; rw [if_pos hl]⟩
end HM

/- BoundWorst, BoundReached: what their laws ask. -/
namespace HM
open Go Go.RowKit

/-- the worst script, in order -/
def worstM (n : Net) (f : Flow) (r : List Int) (k : Int) : List Rule := (List.range n.nodes.toNat).flatMap fun a : Nat => (worstU n f r k (r.length - 1)).filter fun y => y.src == (a : Int)
theorem worstU_src {n : Net} {f : Flow} {r : List Int} (hd : ∀ i, i < r.length → dupAt r i = false) {k : Int} : ∀ m : Nat, m + 1 ≤ r.length → (worstU n f r k m).Pairwise fun a b => a.src ≠ b.src
  | 0, _ => by simp [worstU]
  | m + 1, hm => by
    have ih := worstU_src (n := n) (f := f) hd (k := k) m (by omega)
    unfold worstU at ih ⊢
    rw [List.range_succ, List.filterMap_append]
    refine List.pairwise_append.2 ⟨ih, ?_, fun a ha b hb => ?_⟩
    · simp only [List.filterMap_cons, List.filterMap_nil]
      cases lostO n f r k m <;> simp
    · obtain ⟨i, hi, hl, rfl⟩ := worstU_mem.1 (show a ∈ worstU n f r k m from ha)
      simp only [List.filterMap_cons, List.filterMap_nil] at hb
      have hb2 : b = lostR n f r k m := by
        unfold lostO at hb
        split at hb
        · rename_i x hx; split at hx
          · cases hx
          · cases hb
        · rename_i x hx; split at hx
          · injection hx with hx; subst hx; simpa using hb
          · cases hx
      subst hb2
      exact dup_ne hd hi (by omega)
theorem worstM_mem {n : Net} {f : Flow} {r : List Int} {k : Int} (hr : ∀ a ∈ r, 0 ≤ a ∧ a < n.nodes) {y : Rule} : y ∈ worstM n f r k ↔ y ∈ worstU n f r k (r.length - 1) := by
  unfold worstM
  rw [List.mem_flatMap]
  constructor
  · rintro ⟨a, _, h⟩; exact (List.mem_filter.1 h).1
  · intro h
    obtain ⟨i, hi, hl, rfl⟩ := worstU_mem.1 h
    have := hr (r.getD i 0) (by rw [List.getD_eq_getElem?_getD, List.getElem?_eq_getElem (by omega)]; exact List.getElem_mem _)
    refine ⟨(r.getD i 0).toNat, List.mem_range.2 (by omega), List.mem_filter.2 ⟨h, ?_⟩⟩
    show (r.getD i 0 == _) = true
    rw [beq_iff_eq]; omega
theorem filter_le_one {α : Type} {p : α → Bool} {g : α → Int} {v : Int} (hp : ∀ x, p x = true → g x = v) : ∀ {l : List α}, l.Pairwise (fun a b => g a ≠ g b) → (l.filter p).Pairwise fun a b => g a < g b
  | [], _ => by simp
  | x :: l, h => by
    have h2 := List.pairwise_cons.1 h
    rw [List.filter_cons]
    split
    · rename_i hx
      refine List.pairwise_cons.2 ⟨fun y hy => ?_, filter_le_one hp h2.2⟩
      have hy2 := List.mem_filter.1 hy
      exact absurd ((hp x hx).trans (hp y hy2.2).symm) (h2.1 y hy2.1)
    · exact filter_le_one hp h2.2
theorem worstM_sorted {n : Net} {f : Flow} {r : List Int} (hd : ∀ i, i < r.length → dupAt r i = false) (hl : 1 ≤ r.length) {k : Int} : (worstM n f r k).Pairwise fun a b => a.src < b.src := by
  unfold worstM
  generalize n.nodes.toNat = m
  induction m with
  | zero => simp
  | succ m ih =>
    rw [List.range_succ, List.flatMap_append]
    refine List.pairwise_append.2 ⟨ih, ?_, fun a ha b hb => ?_⟩
    · simp only [List.flatMap_cons, List.flatMap_nil, List.append_nil]
      exact filter_le_one (g := Rule.src) (v := (m : Int)) (fun x hx => by simpa using hx) (worstU_src hd _ (by omega))
    · obtain ⟨j, hj, ha⟩ := List.mem_flatMap.1 ha
      simp only [List.flatMap_cons, List.flatMap_nil, List.append_nil] at hb
      have h1 := (List.mem_filter.1 ha).2
      have h2 := (List.mem_filter.1 hb).2
      rw [beq_iff_eq] at h1 h2
      rw [List.mem_range] at hj
      omega
/-- sorting the rules of the route's order gives the worst script -/
theorem worst_sort {n : Net} {f : Flow} {r : List Int} (hd : ∀ i, i < r.length → dupAt r i = false) (hl : 1 ≤ r.length) (hr : ∀ a ∈ r, 0 ≤ a ∧ a < n.nodes) {k : Int} {ds : List Rule} (hp : ds.Perm (worstU n f r k (r.length - 1))) (hs : ds.Pairwise fun a b => ¬ cmpL [b.src, b.dst] [a.src, a.dst] < 0) : ds = worstM n f r k := by
  have h1 : ds.Pairwise fun a b => a.src ≠ b.src := List.Pairwise.perm (worstU_src hd _ (by omega)) hp.symm (fun h => h.symm)
  have h2 : ds.Pairwise fun a b => a.src < b.src := (List.Pairwise.and hs h1).imp fun {a b} h => by
    apply Decidable.byContradiction
    intro hn
    have h3 : b.src < a.src := by have := h.2; omega
    refine h.1 ?_
    have e3 : cmpI b.src a.src = -1 := by unfold cmpI; rw [if_pos h3]
    simp only [cmpL, e3]
    rw [if_neg (by decide)]
    decide
  refine strict_ext (lt := fun a b : Rule => a.src < b.src) (fun a => Int.lt_irrefl _) (fun a b h h' => by omega) h2 (worstM_sorted hd hl) fun x => ?_
  rw [hp.mem_iff, worstM_mem hr]
theorem worstM_len {n : Net} {s : Sched} {f : Flow} {r : List Int} (hw : WayOk n s f r) (hr : ∀ a ∈ r, 0 ≤ a ∧ a < n.nodes) {k : Int} : (worstM n f r k).length ≤ r.length - 1 := by
  have hp : (worstM n f r k).Perm (worstU n f r k (r.length - 1)) := by
    refine (List.perm_ext_iff_of_nodup ?_ ?_).2 fun y => worstM_mem hr
    · exact (worstM_sorted hw.dup (by have := hw.len; omega)).imp fun h e => by subst e; exact Int.lt_irrefl _ h
    · exact (worstU_src hw.dup _ (by have := hw.len; omega)).imp fun h e => h (by rw [e])
  rw [hp.length_eq]
  unfold worstU
  exact Nat.le_trans (List.length_filterMap_le _ _) (by rw [List.length_range]; exact Nat.le_refl _)
end HM

/- Worst: the answer in plain words; the loops of the reference. -/
namespace HM
open Go Go.RowKit

/-- the answer of Worst -/
def wrstM (n : Net) (s : Sched) (f : Flow) (r : List Int) (frame : Int) : List Rule × Int :=
  if wayE n s f r ≠ 0 then ([], wayE n s f r)
  else if frame < 0 ∨ 1048576 < frame ∨ 1048576 < f.phase + frame * f.period then ([], 2)
  else match relR n s f r 0 (f.phase + frame * f.period) with
    | none => ([], 15)
    | some _ => (worstM n f r frame, 0)
/-- the rules of the first nodes -/
def worstA (n : Net) (f : Flow) (r : List Int) (k : Int) (m : Nat) : List Rule := (List.range m).flatMap fun a : Nat => (worstU n f r k (r.length - 1)).filter fun y => y.src == (a : Int)
theorem worstA_all (n : Net) (f : Flow) (r : List Int) (k : Int) : worstA n f r k n.nodes.toNat = worstM n f r k := rfl
theorem worstA_succ (n : Net) (f : Flow) (r : List Int) (k : Int) (m : Nat) : worstA n f r k (m + 1) = worstA n f r k m ++ (worstU n f r k (r.length - 1)).filter fun y => y.src == (m : Int) := by
  simp [worstA, List.range_succ]
theorem worstU_succ (n : Net) (f : Flow) (r : List Int) (k : Int) (m : Nat) : worstU n f r k (m + 1) = worstU n f r k m ++ (lostO n f r k m).toList := by
  unfold worstU
  rw [List.range_succ, List.filterMap_append]
  cases h : lostO n f r k m <;> simp [h]
/-- one step of the reference's inner loop -/
theorem worst_step (n : Net) (f : Flow) (r : List Int) (k : Int) (m : Nat) (a : Int) : (worstU n f r k (m + 1)).filter (fun y => y.src == a) = (worstU n f r k m).filter (fun y => y.src == a) ++ if r.getD m 0 = a ∧ 0 < (linkAt n r m).loss then [lostR n f r k m] else [] := by
  rw [worstU_succ, List.filter_append]
  congr 1
  unfold lostO
  by_cases hl : 0 < (linkAt n r m).loss
  · rw [if_pos hl]
    by_cases ha : r.getD m 0 = a
    · rw [if_pos ⟨ha, hl⟩]
      simp [lostR]
      rw [← List.getD_eq_getElem?_getD]; exact ha
    · rw [if_neg fun h => ha h.1]
      simp [lostR]
      rw [← List.getD_eq_getElem?_getD]; exact ha
  · rw [if_neg hl, if_neg fun h => hl h.2]; rfl
theorem worstU_len (n : Net) (f : Flow) (r : List Int) (k : Int) (m : Nat) : (worstU n f r k m).length ≤ m := by
  unfold worstU
  exact Nat.le_trans (List.length_filterMap_le _ _) (by rw [List.length_range]; exact Nat.le_refl _)
end HM

/- The cells that count, as the reference finds them. -/
namespace HM
open Go Go.RowKit

/-- the cells that come by: those of the slots before, and of the first cells in this one -/
def partC (cs : List Cell) (f : Flow) (a b len at_ : Int) (d j : Nat) : List (Cell × Int) :=
  evC (cs.filter fun c => !offL f.id a b c) len at_ d ++ (((cs.take j).filter fun c => !offL f.id a b c && c.slot == (at_ + d) % len).map fun c => (c, at_ + (d : Int)))
theorem partC_zero (cs : List Cell) (f : Flow) (a b len at_ : Int) (d : Nat) : partC cs f a b len at_ d 0 = evC (cs.filter fun c => !offL f.id a b c) len at_ d := by simp [partC]
theorem partC_all (cs : List Cell) (f : Flow) (a b len at_ : Int) (d : Nat) : partC cs f a b len at_ d cs.length = partC cs f a b len at_ (d + 1) 0 := by
  rw [partC_zero]
  unfold partC
  rw [List.take_length, evC, List.filter_filter]
  congr 3
  funext c
  rw [Bool.and_comm]
theorem partC_hit {cs : List Cell} {f : Flow} {a b len at_ : Int} {d j : Nat} {c : Cell} (h : cs[j]? = some c) (h1 : offL f.id a b c = false) (h2 : c.slot = (at_ + d) % len) : partC cs f a b len at_ d (j + 1) = partC cs f a b len at_ d j ++ [(c, at_ + (d : Int))] := by
  unfold partC
  rw [take_succ h, List.filter_append]
  simp [h1, h2]
theorem partC_miss {cs : List Cell} {f : Flow} {a b len at_ : Int} {d j : Nat} {c : Cell} (h : cs[j]? = some c) (h1 : offL f.id a b c = true ∨ c.slot ≠ (at_ + d) % len) : partC cs f a b len at_ d (j + 1) = partC cs f a b len at_ d j := by
  unfold partC
  rw [take_succ h, List.filter_append]
  have : (!offL f.id a b c && c.slot == (at_ + d) % len) = false := by
    rcases h1 with h1 | h1
    · simp [h1]
    · simp [h1]
  simp [this]
/-- is this cell among the first ones -/
def hitC (need : Nat) (l : List (Cell × Int)) (c : Cell) : Prop := c ∈ (l.take need).map (·.1)
theorem hitC_snoc {need : Nat} {l : List (Cell × Int)} {c d : Cell} {x : Int} : hitC need (l ++ [(d, x)]) c ↔ hitC need l c ∨ (l.length < need ∧ d = c) := by
  unfold hitC
  rw [List.take_append, List.map_append, List.mem_append]
  by_cases h : l.length < need
  · obtain ⟨e, he⟩ : ∃ e, need - l.length = e + 1 := ⟨need - l.length - 1, by omega⟩
    rw [he]
    simp [h, eq_comm]
  · rw [show need - l.length = 0 by omega]
    simp [h]
theorem evC_prefix (cs : List Cell) (len a : Int) {d e : Nat} (h : d ≤ e) : ∃ t, evC cs len a e = evC cs len a d ++ t := by
  induction e with
  | zero => exact ⟨[], by rw [show d = 0 by omega]; simp⟩
  | succ e ih =>
    rcases Nat.lt_or_ge d (e + 1) with hd | hd
    · obtain ⟨t, ht⟩ := ih (by omega)
      exact ⟨t ++ _, by rw [evC, ht, List.append_assoc]⟩
    · exact ⟨[], by rw [show d = e + 1 by omega]; simp⟩
theorem evC_len (cs : List Cell) (len a : Int) (d : Nat) : (evC cs len a d).length = (allS cs len a d).length := by rw [← evC_snd, List.length_map]
/-- up to the last slot that counts they are the same -/
theorem onC_stop {s : Sched} {f : Flow} {a b : Int} {need : Nat} {at_ stop L : Int} (h : (slotsOn s f a b need at_ stop).getLast? = some L) (hl : need ≤ (slotsOn s f a b need at_ stop).length) (c : Cell) : hitC need (partC s.cells f a b s.len at_ (L + 1 - at_).toNat 0) c ↔ c ∈ onC s f a b need at_ stop := by
  have hL := slotsOn_mem (List.mem_of_getLast? h)
  have hc := slotsOn_count h hl
  rw [partC_zero]
  unfold hitC onC
  obtain ⟨t, ht⟩ := evC_prefix (cellsL s f a b) s.len at_ (show (L + 1 - at_).toNat ≤ (stop - at_).toNat by omega)
  rw [ht, List.take_append_of_le_length (by rw [evC_len]; exact hc)]
  exact Iff.rfl
theorem cellsUp_next {n : Net} {s : Sched} {f : Flow} {r : List Int} {rel : Int} {k : Nat} {o : List Int} {a : Int} (h : slotsUp n s f r rel 0 k = some (o, a)) (c : Cell) : c ∈ cellsUp n s f r rel (k + 1) ↔ c ∈ cellsUp n s f r rel k ∨ c ∈ onC s f (r.getD k 0) (r.getD (k + 1) 0) (needAt n r 0 k) a (rel + f.period) := by
  conv => lhs; unfold cellsUp
  rw [h]
  simp only [List.mem_append]
theorem onC_link {s : Sched} {f : Flow} {a b : Int} {need : Nat} {x y : Int} {c : Cell} (h : c ∈ onC s f a b need x y) : offL f.id a b c = false := by
  unfold onC at h
  obtain ⟨e, he, rfl⟩ := List.mem_map.1 h
  have := evC_mem (List.mem_of_mem_take he)
  unfold cellsL at this
  rw [List.mem_filter] at this
  simpa using this.2
/-- a route with a bound has slots for each release -/
theorem slotsUp_all {n : Net} {s : Sched} {f : Flow} {r : List Int} (h : (routeM n s f r).2.2.2 = 0) {k : Nat} (hk : k < relsN s f) : ∀ i, i + 1 ≤ r.length → ∃ o a, slotsUp n s f r (f.phase + k * f.period) 0 i = some (o, a) := by
  intro i hi
  obtain ⟨_, x, hb, _⟩ := routeM_ok h
  cases hr : relR n s f r 0 (f.phase + k * f.period) with
  | none => unfold boundR at hb; rw [boundUp_none (boundUp_stop hr) (by omega)] at hb; cases hb
  | some p =>
    unfold relR slotsW at hr
    cases hs : slotsUp n s f r (f.phase + k * f.period) 0 (r.length - 1) with
    | none => rw [hs] at hr; cases hr
    | some q =>
      cases hs2 : slotsUp n s f r (f.phase + k * f.period) 0 i with
      | none => rw [slotsUp_none hs2 (by omega)] at hs; cases hs
      | some q2 => exact ⟨q2.1, q2.2, rfl⟩
/-- which cells of the schedule the reference takes -/
theorem needL_any (n : Net) (s : Sched) (f : Flow) (l : List (List Int)) : needL n s f l = s.cells.filter fun c => l.any fun r => decide (c ∈ relsC n s f r (relsN s f)) := by
  unfold needL allC
  congr 1
  funext c
  rw [Bool.eq_iff_iff]
  simp [List.mem_flatMap]
theorem partC_prefix {cs : List Cell} {f : Flow} {a b len at_ : Int} {d j e : Nat} (hd : d + 1 ≤ e) : ∃ t, partC cs f a b len at_ e 0 = partC cs f a b len at_ d j ++ t := by
  obtain ⟨t, ht⟩ := evC_prefix (cs.filter fun c => !offL f.id a b c) len at_ hd
  rw [partC_zero, ht, ← partC_zero, ← partC_all]
  refine ⟨(((cs.drop j).filter fun c => !offL f.id a b c && c.slot == (at_ + d) % len).map fun c => (c, at_ + (d : Int))) ++ t, ?_⟩
  unfold partC
  rw [List.take_length]
  conv => lhs; rw [← List.take_append_drop j cs]
  rw [List.take_append_drop]
  have : (cs.filter fun c => !offL f.id a b c && c.slot == (at_ + d) % len) = ((cs.take j).filter fun c => !offL f.id a b c && c.slot == (at_ + d) % len) ++ ((cs.drop j).filter fun c => !offL f.id a b c && c.slot == (at_ + d) % len) := by
    rw [← List.filter_append, List.take_append_drop]
  rw [this]
  simp only [List.map_append, List.append_assoc]
theorem hitC_mono {need : Nat} {l t : List (Cell × Int)} {c : Cell} (h : hitC need l c) : hitC need (l ++ t) c := by
  unfold hitC at h ⊢
  rw [List.take_append, List.map_append, List.mem_append]
  exact .inl h
theorem evC_le (cs : List Cell) (len a : Int) : ∀ d : Nat, (evC cs len a d).length ≤ d * cs.length
  | 0 => by simp [evC]
  | d + 1 => by
    have := evC_le cs len a d
    rw [evC, List.length_append, List.length_map, Nat.add_mul]
    have := List.length_filter_le (fun c : Cell => c.slot == (a + d) % len) cs
    omega
theorem partC_le (cs : List Cell) (f : Flow) (a b len at_ : Int) (d j : Nat) : (partC cs f a b len at_ d j).length ≤ (d + 1) * cs.length := by
  have h1 := evC_le (cs.filter fun c => !offL f.id a b c) len at_ d
  have h2 := List.length_filter_le (fun c => !offL f.id a b c) cs
  have h3 : d * (cs.filter fun c => !offL f.id a b c).length ≤ d * cs.length := Nat.mul_le_mul_left _ h2
  unfold partC
  rw [List.length_append, List.length_map, Nat.add_mul]
  have h4 := List.length_filter_le (fun c => !offL f.id a b c && c.slot == (at_ + d) % len) (cs.take j)
  have h5 : (cs.take j).length ≤ cs.length := by rw [List.length_take]; omega
  omega
theorem cellsUp_mono {n : Net} {s : Sched} {f : Flow} {r : List Int} {rel : Int} {c : Cell} {k : Nat} (h : c ∈ cellsUp n s f r rel k) : ∀ {m : Nat}, k ≤ m → c ∈ cellsUp n s f r rel m
  | 0, hm => by rw [show k = 0 by omega] at h; exact h
  | m + 1, hm => by
    rcases Nat.lt_or_ge k (m + 1) with hk | hk
    · have ih := cellsUp_mono h (m := m) (by omega)
      conv => unfold cellsUp
      split
      · exact ih
      · exact List.mem_append.2 (.inl ih)
    · rw [show m + 1 = k by omega]; exact h
theorem relsC_mono {n : Net} {s : Sched} {f : Flow} {r : List Int} {c : Cell} {k : Nat} (h : c ∈ relsC n s f r k) : ∀ {m : Nat}, k ≤ m → c ∈ relsC n s f r m
  | 0, hm => by rw [show k = 0 by omega] at h; exact h
  | m + 1, hm => by
    rcases Nat.lt_or_ge k (m + 1) with hk | hk
    · exact List.mem_append.2 (.inl (relsC_mono h (m := m) (by omega)))
    · rw [show m + 1 = k by omega]; exact h
/-- a cell that counts on a link is one of the route's -/
theorem relsC_of {n : Net} {s : Sched} {f : Flow} {r : List Int} {c : Cell} {k i : Nat} (hk : k < relsN s f) (hi : i + 1 < r.length) {o : List Int} {a : Int} (h : slotsUp n s f r (f.phase + k * f.period) 0 i = some (o, a)) (hc : c ∈ onC s f (r.getD i 0) (r.getD (i + 1) 0) (needAt n r 0 i) a (f.phase + k * f.period + f.period)) : c ∈ relsC n s f r (relsN s f) := by
  have h1 := (cellsUp_next h c).2 (.inr hc)
  refine relsC_mono (k := k + 1) ?_ hk
  exact List.mem_append.2 (.inr (cellsUp_mono h1 (m := r.length - 1) (by omega)))
/-- the nodes of a route are the network's -/
theorem way_nodes {n : Net} {s : Sched} {f : Flow} {r : List Int} (h : wayE n s f r = 0) : ∀ a ∈ r, 0 ≤ a ∧ a < n.nodes := by
  unfold wayE at h
  split at h
  · cases h
  split at h
  · cases h
  unfold routeE at h
  split at h
  · contradiction
  obtain ⟨_, _, _, _, h5⟩ := routeF_ok h
  intro a ha
  have := h5 a ha
  simpa [insB] using this
end HM

/- BoundWorst, BoundReached: sizes. -/
namespace HM
open Go Go.RowKit
theorem wrst_small (n : Net) (s : Sched) (f : Flow) (r : List Int) (k : Int) : (wrstM n s f r k).1.length ≤ 9 ∧ ∀ x ∈ (wrstM n s f r k).1, x.outs.length ≤ 7 := by
  unfold wrstM
  split
  · exact ⟨by simp, by simp⟩
  · rename_i h
    have h0 : wayE n s f r = 0 := by simpa using h
    have hw := wayE_ok h0
    have hr := way_nodes h0
    have hl := hw.len
    split
    · exact ⟨by simp, by simp⟩
    · split
      · exact ⟨by simp, by simp⟩
      · refine ⟨Nat.le_trans (worstM_len hw hr) (by omega), fun x hx => ?_⟩
        obtain ⟨i, hi, hp, rfl⟩ := worstU_mem.1 ((worstM_mem hr).1 hx)
        obtain ⟨m, l, g1, g2, g3, g4, g5, g6, g7⟩ := hw.at (i := i) (by omega)
        show (List.replicate _ _).length ≤ 7
        rw [List.length_replicate, g7]
        omega
theorem needM_len (n : Net) (s : Sched) (f : Flow) (l : List (List Int)) : (needM n s f l).1.length ≤ s.cells.length := by
  unfold needM
  split
  · simp
  split
  · simp
  · exact List.length_filter_le _ _
end HM
