/- Runs and changes in plain words. -/
import Derived.Test.YtnklfdnccomndaaGreatDoorDa
import Derived.Test.YtnklfdnccomndaaGreatDoorFh
/- With one more cell no frame is delivered later: the whole of it. -/
namespace HM
open Go Go.RowKit

theorem genB_dom {l : List Flow} {x : List Rule} {A B : List Att} {t : Int} (hA : OutI x A) (hB : OutI x B) (hD : DomI A B) (hsB : ∀ b ∈ B, b.slot < t) {c : Cell} {fr : Int} (hk : ¬ ∃ b ∈ B, onA c fr b = true ∧ b.out = 1) (g : (genB l A t c).map (·.2.1) = some fr) : (genB l B t c).map (·.2.1) = some fr := by
  unfold genB at g ⊢
  by_cases h1 : findF l c.flow < 0
  · rw [if_pos h1] at g; cases g
  rw [if_neg h1] at g ⊢
  cases hf : l[(findF l c.flow).toNat]? with
  | none => rw [hf] at g; cases g
  | some f =>
    rw [hf] at g
    simp only at g ⊢
    by_cases h2 : (curM f t).2 = false ∨ c.src = f.dst ∨ holdsR f A c.src (curM f t).1 t = false ∨ ackedR A c (curM f t).1 t = true
    · rw [if_pos h2] at g; cases g
    rw [if_neg h2] at g
    simp only [Option.map_some, Option.some.injEq] at g
    subst g
    rw [if_neg ?_]
    · rfl
    rintro (h3 | h3 | h3 | h3)
    · exact h2 (.inl h3)
    · exact h2 (.inr (.inl h3))
    · apply h2
      refine .inr (.inr (.inl ?_))
      rw [Bool.eq_false_iff] at h3 ⊢
      intro h4
      apply h3
      simp only [holdsR, Bool.or_eq_true, beq_iff_eq, List.any_eq_true, Bool.and_eq_true, decide_eq_true_eq] at h4 ⊢
      rcases h4 with h4 | ⟨a, ha, hg, _⟩
      · exact .inl h4
      · obtain ⟨b, hb, hg2⟩ := dom_recv hA hB hD ha hg
        exact .inr ⟨b, hb, hg2, hsB b hb⟩
    · simp only [ackedR, List.any_eq_true, Bool.and_eq_true, decide_eq_true_eq, beq_iff_eq] at h3
      obtain ⟨b, hb, ⟨k1, _⟩, k3⟩ := h3
      exact hk ⟨b, hb, k1, k3⟩
theorem DomI.slot {l : List Flow} {x : List Rule} {s s' : Sched} {t : Int} {rA rB : RunL} (hA : OutI x rA.atts) (hB : OutI x rB.atts) (hD : DomI rA.atts rB.atts) (hsB : ∀ b ∈ rB.atts, b.slot < t) (hsub : (atM s t).Sublist (atM s' t)) : DomI (slotR l s x rA t).atts (slotR l s' x rB t).atts := by
  intro c fr
  obtain ⟨lA, a1, _, a3⟩ := slotR_gen l s x rA t
  obtain ⟨lB, b1, _, b3⟩ := slotR_gen l s' x rB t
  rw [a1, b1]
  by_cases hk : ∃ b ∈ rB.atts, onA c fr b = true ∧ b.out = 1
  · obtain ⟨b, hb, k⟩ := hk
    exact .inr ⟨b, by simp [hb], k⟩
  have hle := (hD c fr).resolve_right hk
  refine .inl ?_
  unfold countR at hle ⊢
  rw [List.countP_append, List.countP_append, count_key (late := lA), count_key (late := lB), a3, b3, gen_count, gen_count]
  by_cases g : (genB l rA.atts t c).map (·.2.1) = some fr
  · rw [if_pos g, if_pos (genB_dom hA hB hD hsB hk g)]
    have := hsub.countP_le (p := linkB c)
    omega
  · rw [if_neg g]; omega
end HM

/- What the laws on runs ask of a run. -/
namespace HM
open Go Go.RowKit

theorem ready_all {l : List Flow} {s : Sched} {x : List Rule} {slots : Int} (h : readyM l s x slots = 0) : (flowsE 32 l).2 = 0 ∧ formB s = true ∧ (scriptM x).2 = 0 ∧ 0 ≤ slots ∧ slots ≤ 4096 := by
  unfold readyM at h
  split at h
  · cases h
  rename_i hn
  split at h
  · cases h
  rename_i hn2
  refine ⟨?_, ?_, ?_, by omega, by omega⟩
  · exact Classical.byContradiction fun hh => hn (.inl hh)
  · cases hf : formB s with
    | true => rfl
    | false => exact absurd (.inr (.inl hf)) hn
  · exact Classical.byContradiction fun hh => hn (.inr (.inr hh))
end HM

/- The law on one more cell. -/
namespace HM
open Go Go.RowKit

end HM

/- Schedules that are changed: removal of a cell; the schedules behind changes; the one of a slot. -/
namespace HM
open Go Go.RowKit

structure Chg where
  slot : Int
  add : Bool
  cell : Cell
def Chg.av (c : Chg) : AV := .agg [.int .i64 c.slot, .bool c.add, .int .i64 c.cell.slot, .int .i64 c.cell.off, .int .i64 c.cell.src, .int .i64 c.cell.dst, .int .i64 c.cell.flow]
def encChgs (l : List Chg) : AV := .sl false (l.map Chg.av)

def delAt {α : Type} (l : List α) (p : Nat) : List α := l.take p ++ l.drop (p + 1)
theorem delAt_len {α : Type} {l : List α} {p : Nat} (h : p < l.length) : (delAt l p).length = l.length - 1 := by
  unfold delAt
  rw [List.length_append, List.length_take, List.length_drop]; omega
theorem delAt_sub {α : Type} (l : List α) (p : Nat) : (delAt l p).Sublist l := by
  unfold delAt
  have h := List.Sublist.append (List.Sublist.refl (l.take p)) (List.drop_sublist_drop_left l (Nat.le_succ p))
  rwa [List.take_append_drop] at h
theorem sub_sorted {α : Type} {cmp : α → α → Int} {l m : List α} (h : m.Sublist l) (hs : Sorted cmp l) : Sorted cmp m := by
  have h1 : l.Pairwise fun a b => cmp a b < 0 := List.pairwise_iff_getElem.2 fun i j hi hj hij => hs i j _ _ hij (List.getElem?_eq_getElem hi) (List.getElem?_eq_getElem hj)
  have h2 := List.pairwise_iff_getElem.1 (h1.sublist h)
  intro i j x y hij hx hy
  obtain ⟨hi, rfl⟩ := List.getElem?_eq_some_iff.1 hx
  obtain ⟨hj, rfl⟩ := List.getElem?_eq_some_iff.1 hy
  exact h2 i j hi hj hij
def remM (s : Sched) (c : Cell) : Sched × Int :=
  if formB s = false then (⟨0, 0, []⟩, 1)
  else if hasC s c = false then (⟨0, 0, []⟩, 7)
  else (⟨s.len, s.offs, delAt s.cells (posC s c)⟩, 0)
theorem hasC_at {s : Sched} {c : Cell} (h : hasC s c = true) : s.cells[posC s c]? = some c := by
  unfold hasC hasB at h
  unfold posC
  split at h
  · rename_i x hx
    have h0 : x.cmp c = 0 := by simpa [cellTo] using h
    have h1 := cmpL_eq.1 h0
    have h2 : x = c := by
      obtain ⟨a1, a2, a3, a4, a5⟩ := x
      obtain ⟨b1, b2, b3, b4, b5⟩ := c
      simpa [Cell.nums] using h1
    rw [hx, h2]
  · cases h
theorem remM_form {s : Sched} {c : Cell} (h : (remM s c).2 = 0) : formB (remM s c).1 = true := by
  unfold remM at h ⊢
  split at h
  · cases h
  split at h
  · cases h
  rename_i h1 h2
  rw [if_neg h1, if_neg h2]
  have hf : formB s = true := by simpa using h1
  obtain ⟨f1, f2, f3⟩ := form_all hf
  have hsub := delAt_sub s.cells (posC s c)
  refine formB_mk f1 (Nat.le_trans hsub.length_le f2) (fun x hx => ?_) (sub_sorted hsub (formB_sorted hf))
  exact (formedB_len (s := s) (t := ⟨s.len, s.offs, delAt s.cells (posC s c)⟩) rfl rfl x).trans (f3 x (hsub.mem hx))
def chgM (s : Sched) (c : Chg) : Sched × Int := if c.add = true then addM s c.cell else remM s c.cell
theorem chgM_form {s : Sched} {c : Chg} (h : (chgM s c).2 = 0) : formB (chgM s c).1 = true := by
  unfold chgM at h ⊢
  split
  · rename_i ha
    rw [if_pos ha] at h
    obtain ⟨t, ht⟩ : ∃ t, t = (addM s c.cell).1 := ⟨_, rfl⟩
    rw [← ht]
    exact (addM_more (show addM s c.cell = (t, 0) by rw [ht, ← h])).2.2
  · rename_i ha
    rw [if_neg ha] at h
    exact remM_form h
/-- the fault of a change behind one in a slot -/
def chgE (p : Option Int) (c : Chg) : Int := if c.slot < 0 then 2 else match p with
  | some q => if c.slot < q then 5 else 0
  | none => 0
def behM : Option Int → Sched → List Chg → List Sched × Int
  | _, _, [] => ([], 0)
  | p, s, c :: cs => if chgE p c ≠ 0 then ([], chgE p c) else if (chgM s c).2 ≠ 0 then ([], (chgM s c).2) else ((chgM s c).1 :: (behM (some c.slot) (chgM s c).1 cs).1, (behM (some c.slot) (chgM s c).1 cs).2)
def appM : Option Int → Sched → Sched → List Chg → Int → Sched × Int
  | _, _, out, [], _ => (out, 0)
  | p, s, out, c :: cs, t => if chgE p c ≠ 0 then (out, chgE p c) else if (chgM s c).2 ≠ 0 then (out, (chgM s c).2) else appM (some c.slot) (chgM s c).1 (if c.slot ≤ t then (chgM s c).1 else out) cs t
theorem app_err : ∀ (p : Option Int) (s out : Sched) (cs : List Chg) (t : Int), (appM p s out cs t).2 = (behM p s cs).2
  | _, _, _, [], _ => rfl
  | p, s, out, c :: cs, t => by
    unfold appM behM
    split
    · rfl
    split
    · rfl
    exact app_err _ _ _ cs t
/-- how many changes there are up to a slot -/
def uptoC (cs : List Chg) (t : Int) : Nat := cs.countP fun c => decide (c.slot ≤ t)
theorem beh_len : ∀ {p : Option Int} {s : Sched} {cs : List Chg}, (behM p s cs).2 = 0 → (behM p s cs).1.length = cs.length
  | _, _, [], _ => rfl
  | p, s, c :: cs, h => by
    unfold behM at h ⊢
    split at h
    · rename_i h1; exact absurd h h1
    split at h
    · rename_i h1; exact absurd h h1
    rename_i h1 h2
    rw [if_neg h1, if_neg h2, List.length_cons, List.length_cons, beh_len h]
theorem beh_form : ∀ {p : Option Int} {s : Sched} {cs : List Chg}, ∀ t ∈ (behM p s cs).1, formB t = true
  | _, _, [], t, h => by simp [behM] at h
  | p, s, c :: cs, t, h => by
    unfold behM at h
    split at h
    · simp at h
    split at h
    · simp at h
    rename_i h1 h2
    simp only [List.mem_cons] at h
    rcases h with rfl | h
    · exact chgM_form (by simpa using h2)
    · exact beh_form t h
/-- the schedule of a slot -/
def nowM (s : Sched) (cs : List Chg) (t : Int) : Sched := ((s :: (behM none s cs).1)[uptoC cs t]?).getD s
theorem now_form {s : Sched} (hs : formB s = true) (cs : List Chg) (t : Int) : formB (nowM s cs t) = true := by
  unfold nowM
  cases h : (s :: (behM none s cs).1)[uptoC cs t]? with
  | none => exact hs
  | some z =>
    rcases List.mem_cons.1 (List.mem_of_getElem? h) with rfl | h
    · exact hs
    · exact beh_form _ h
theorem now_at {s : Sched} {cs : List Chg} (t : Int) (h : (behM none s cs).2 = 0) : (s :: (behM none s cs).1)[uptoC cs t]? = some (nowM s cs t) := by
  have hl := beh_len h
  have hle := List.countP_le_length (p := fun c : Chg => decide (c.slot ≤ t)) (l := cs)
  unfold nowM
  cases hk : (s :: (behM none s cs).1)[uptoC cs t]? with
  | some z => rfl
  | none => rw [List.getElem?_eq_none_iff] at hk; simp only [List.length_cons, uptoC] at hk; omega
/-- what Change returns -/
def changeM (l : List Flow) (s : Sched) (cs : List Chg) (x : List Rule) (slots : Int) : RunL × Int :=
  if readyM l s x slots ≠ 0 then (⟨[], []⟩, readyM l s x slots)
  else if 1024 < cs.length then (⟨[], []⟩, 8)
  else if (behM none s cs).2 ≠ 0 then (⟨[], []⟩, (behM none s cs).2)
  else (⟨(playR l (fun n => nowM s cs n) x slots.toNat).atts, (playR l (fun n => nowM s cs n) x slots.toNat).dels⟩, 0)
end HM

/- What the law asks of deliveries, out of the run. -/
namespace HM
open Go Go.RowKit

def winM (f : Flow) (frame : Int) : (Int × Int) × Int := if (relF f frame).2 ≠ 0 then ((0, 0), (relF f frame).2) else (((relF f frame).1, (relF f frame).1 + f.period - 1), 0)
/-- what the law asks of a delivery -/
structure OnceD (l : List Flow) (R : List Att) (d : Del) (k : Nat) (f : Flow) : Prop where
  at_ : findF l d.flow = (k : Int)
  get : l[k]? = some f
  win : (winM f d.frame).2 = 0 ∧ (winM f d.frame).1.1 ≤ d.slot ∧ d.slot ≤ (winM f d.frame).1.2
  by_ : (R.any fun a => a.slot == d.slot && (a.frame == d.frame && (a.cell.flow == d.flow && (a.cell.dst == f.dst && a.out != 3)))) = true
end HM

/- A flow on its own; a run without a script. -/
namespace HM
open Go Go.RowKit

-- without a script
end HM

/- The schedules behind changes, one by one; runs that are changed. -/
namespace HM
open Go Go.RowKit

def prevS (cs : List Chg) (k : Nat) : Option Int := match k with
  | 0 => none
  | j + 1 => (cs[j]?).map (·.slot)
structure BehI (s : Sched) (cs : List Chg) (k : Nat) (bs : List Sched) : Prop where
  le : k ≤ cs.length
  len : bs.length = k
  eq : behM none s cs = (bs ++ (behM (prevS cs k) (bs.getLastD s) (cs.drop k)).1, (behM (prevS cs k) (bs.getLastD s) (cs.drop k)).2)
theorem BehI.zero (s : Sched) (cs : List Chg) : BehI s cs 0 [] := ⟨Nat.zero_le _, rfl, rfl⟩
theorem BehI.last {s : Sched} {cs : List Chg} {k : Nat} {bs : List Sched} (h : BehI s cs k bs) : (s :: bs)[k]? = some (bs.getLastD s) := by
  have hl := h.len
  subst hl
  cases bs with
  | nil => rfl
  | cons b bs => simp [List.getLastD_cons, List.getLast_eq_getElem, List.getLastD_eq_getLast?, List.getLast?_eq_getElem?]
theorem BehI.err1 {s : Sched} {cs : List Chg} {k : Nat} {bs : List Sched} (h : BehI s cs k bs) {c : Chg} (hc : cs[k]? = some c) (he : chgE (prevS cs k) c ≠ 0) : (behM none s cs).2 = chgE (prevS cs k) c := by
  rw [h.eq, dropGet hc]
  simp only [behM]
  rw [if_pos he]
theorem BehI.err2 {s : Sched} {cs : List Chg} {k : Nat} {bs : List Sched} (h : BehI s cs k bs) {c : Chg} (hc : cs[k]? = some c) (he : chgE (prevS cs k) c = 0) (h2 : (chgM (bs.getLastD s) c).2 ≠ 0) : (behM none s cs).2 = (chgM (bs.getLastD s) c).2 := by
  rw [h.eq, dropGet hc]
  simp only [behM]
  rw [if_neg (by simp [he]), if_pos h2]
theorem BehI.step {s : Sched} {cs : List Chg} {k : Nat} {bs : List Sched} (h : BehI s cs k bs) {c : Chg} (hc : cs[k]? = some c) (he : chgE (prevS cs k) c = 0) (h2 : (chgM (bs.getLastD s) c).2 = 0) : BehI s cs (k + 1) (bs ++ [(chgM (bs.getLastD s) c).1]) := by
  refine ⟨(List.getElem?_eq_some_iff.1 hc).1, by rw [List.length_append, h.len]; rfl, ?_⟩
  have hl : (bs ++ [(chgM (bs.getLastD s) c).1]).getLastD s = (chgM (bs.getLastD s) c).1 := by simp
  have e1 : behM (prevS cs k) (bs.getLastD s) (c :: cs.drop (k + 1)) = ((chgM (bs.getLastD s) c).1 :: (behM (some c.slot) (chgM (bs.getLastD s) c).1 (cs.drop (k + 1))).1, (behM (some c.slot) (chgM (bs.getLastD s) c).1 (cs.drop (k + 1))).2) := by
    rw [behM, if_neg (by simp [he]), if_neg (fun hh => hh h2)]
  have hp : prevS cs (k + 1) = some c.slot := by simp [prevS, hc]
  rw [h.eq, dropGet hc, e1, hl, hp]
  simp
theorem BehI.fin {s : Sched} {cs : List Chg} {bs : List Sched} (h : BehI s cs cs.length bs) : behM none s cs = (bs, 0) := by
  rw [h.eq, List.drop_length]
  simp [behM]
theorem chgE_neg {p : Option Int} {c : Chg} (h : c.slot < 0) : chgE p c = 2 := by unfold chgE; rw [if_pos h]
theorem chgE_first {cs : List Chg} {c : Chg} (h : ¬ c.slot < 0) : chgE (prevS cs 0) c = 0 := by unfold chgE prevS; rw [if_neg h]
theorem chgE_next {cs : List Chg} {c d : Chg} {j : Nat} (h : ¬ c.slot < 0) (hd : cs[j]? = some d) : chgE (prevS cs (j + 1)) c = if c.slot < d.slot then 5 else 0 := by
  have hp : prevS cs (j + 1) = some d.slot := by simp [prevS, hd]
  rw [hp]; unfold chgE; rw [if_neg h]
theorem uptoC_filter (cs : List Chg) (n : Int) : (cs.filter fun x => !decide (n < x.slot)).length = uptoC cs n := by
  unfold uptoC
  rw [List.countP_eq_length_filter]
  congr 1
  refine List.filter_congr fun x _ => ?_
  rw [Bool.eq_iff_iff]; simp
theorem change_V {l : List Flow} {s : Sched} {cs : List Chg} {x : List Rule} {slots : Int} (h : readyM l s x slots = 0) (h2 : ¬ 1024 < cs.length) (h3 : (behM none s cs).2 = 0) : changeM l s cs x slots = (⟨(playV l (fun n => nowM s cs n) x slots.toNat).atts, (playV l (fun n => nowM s cs n) x slots.toNat).dels⟩, 0) := by
  obtain ⟨r1, r2, r3, r4, r5⟩ := ready_all h
  have hs := playV_R (flowsOk_of r1) (fun n => nowM s cs n) x slots.toNat (by omega)
  unfold changeM
  rw [if_neg (by simp [h]), if_neg h2, if_neg (by simp [h3]), hs.at_, hs.dl]
end HM

/- Where two runs differ. -/
namespace HM
open Go Go.RowKit

end HM
namespace HM
end HM

/- Arguments: changes, runs. -/
namespace HM
open Go Go.RowKit

def tChg : Ty := .st [tI, .bool, tCell]
theorem sh_chg {l : List AV} (h : tChg.sh l) : ∃ c : Chg, l = c.av.cells := by
  obtain ⟨_, _, rfl, _, h1, _, _, rfl, _, h2, _, _, rfl, _, h3, h6⟩ := h
  obtain ⟨a, rfl, _⟩ := sh_int h1
  obtain ⟨b, rfl⟩ := h2
  obtain ⟨c, rfl⟩ := sh_cell h3
  obtain rfl := h6
  exact ⟨⟨a, b, c⟩, rfl⟩
theorem sh_chgs {l : List AV} (h : (Ty.sl tChg).sh l) : ∃ cs : List Chg, l = [encChgs cs] ∧ cs.length ≤ 140737488355328 := by
  obtain ⟨els, rfl, h1, h2⟩ := h
  obtain ⟨cs, h3, h4⟩ := list_of (f := Chg.av) (fun l hl => by
    obtain ⟨c, rfl⟩ := sh_chg hl
    exact ⟨c, rfl⟩) els h1
  exact ⟨cs, by rw [h3]; rfl, by omega⟩
end HM

/- A store with a player: what lies where. -/
namespace HM
open Go Go.RowKit

def mpv (p : PS) (id : Nat) : AV := if p.frame < 0 then .nilm else .mp id
def mapsOf (p : PS) : Nat → Ob
  | 0 => p.since.ob none
  | 1 => p.tries.ob (some 2)
  | _ => p.acked.ob (some 2)
def stAV (g : Nat → Nat) (p : PS) : AV := .agg [.int .i64 p.frame, mpv p (g 0), mpv p (g 1), mpv p (g 2), .bool p.done]
def statesE (g : Nat → Nat → Nat) (q : List PS) : List AV := q.mapIdx fun i p => stAV (g i) p
theorem statesE_get {g : Nat → Nat → Nat} {q : List PS} {i : Nat} {p : PS} (h : q[i]? = some p) : (statesE g q)[i]? = some (stAV (g i) p) := by simp [statesE, h]
theorem statesE_len (g : Nat → Nat → Nat) (q : List PS) : (statesE g q).length = q.length := by simp [statesE]
theorem statesE_set (g : Nat → Nat → Nat) (q : List PS) (i : Nat) (p : PS) : (statesE g q).set i (stAV (g i) p) = statesE g (q.set i p) := by
  apply List.ext_getElem?
  intro j
  simp only [statesE, List.getElem?_set, List.getElem?_mapIdx, List.length_mapIdx]
  by_cases e : i = j
  · subst e; simp only [if_true]
    split <;> simp_all
  · simp [e]
theorem statesE_wide (g : Nat → Nat → Nat) (q : List PS) : Wide 5 (statesE g q) := by
  intro e he
  obtain ⟨i, hi⟩ := List.getElem?_of_mem he
  simp only [statesE, List.getElem?_mapIdx, Option.map_eq_some_iff] at hi
  obtain ⟨p, _, rfl⟩ := hi
  rfl
def plC (l : List Flow) (s : Sched) (x : List Rule) (sv av dv : AV) : List AV := [encFlows l, .int .i64 s.len, .int .i64 s.offs, encCells s.cells, encScript x, sv, av, dv]

/-- the types of a player, of a state, of a delivery -/
structure PTys where
  p : TypeId
  q : TypeId
  d : TypeId
  a : TypeId
  hpq : p ≠ q
  hpd : p ≠ d
  hqd : q ≠ d
  ks : List (Nat × List AV × TypeId)
  hk : ∀ e ∈ ks, e.2.2 ≠ p ∧ e.2.2 ≠ q ∧ e.2.2 ≠ d

def StV (T : PTys) (S : St) (sv : AV) (g : Nat → Nat → Nat) (sts : List PS) : Prop := (sts = [] ∧ sv = .grown .nils 0) ∨ ∃ qb ex, sv = .vsl qb 0 sts.length 5 ∧ S.bx[qb]? = some (.cells (flatE (statesE g sts) ++ ex) T.q)
def DelV (T : PTys) (S : St) (dv : AV) (ds : List Del) : Prop := (ds = [] ∧ dv = .grown .nils 0) ∨ ∃ db ex, dv = .vsl db 0 ds.length 3 ∧ S.bx[db]? = some (.cells (flatE (ds.map Del.av) ++ ex) T.d)

/-- what is known of a store with a player -/
structure PInv (T : PTys) (S : St) (pb ch : Nat) (l : List Flow) (s : Sched) (x : List Rule) (Q : PL) (g : Nat → Nat → Nat) (sv dv : AV) : Prop where
  p : S.bx[pb]? = some (.cells (plC l s x sv (.own (Q.atts.map Att.av) ch) dv) T.p)
  q : StV T S sv g Q.sts
  m : ∀ (i : Nat) (p : PS), Q.sts[i]? = some p → 0 ≤ p.frame → ∀ j, j < 3 → S.bx[g i j]? = some (mapsOf p j)
  inj : ∀ (i : Nat) (p : PS) (i' : Nat) (p' : PS), Q.sts[i]? = some p → Q.sts[i']? = some p' → 0 ≤ p.frame → 0 ≤ p'.frame → ∀ j j', j < 3 → j' < 3 → g i j = g i' j' → i = i' ∧ j = j'
  a : S.fr[ch]? = some (Q.atts.length, 8)
  ty : S.ty ch = T.a
  k : ∀ e ∈ T.ks, S.bx[e.1]? = some (.cells e.2.1 e.2.2)
  d : DelV T S dv Q.dels
def PIn (T : PTys) (S : St) (pb ch : Nat) (l : List Flow) (s : Sched) (x : List Rule) (Q : PL) : Prop := ∃ g sv dv, PInv T S pb ch l s x Q g sv dv

theorem ne_cm {S : St} {a b : Nat} {cs : List AV} {t : TypeId} {sh : Option Nat} {ks : List (List Int)} {vs : List AV} (h : S.bx[a]? = some (.cells cs t)) (h' : S.bx[b]? = some (.map sh ks vs)) : a ≠ b := by
  rintro rfl
  rw [h] at h'
  injection h' with h'
  cases h'
theorem ne_cc {S : St} {a b : Nat} {cs cs' : List AV} {t t' : TypeId} (h : S.bx[a]? = some (.cells cs t)) (h' : S.bx[b]? = some (.cells cs' t')) (ht : t ≠ t') : a ≠ b := by
  rintro rfl
  rw [h] at h'
  injection h' with h'
  injection h' with _ h'
  exact ht h'
theorem mapsOf_map (p : PS) (j : Nat) : ∃ sh ks vs, mapsOf p j = .map sh ks vs := by
  unfold mapsOf
  split <;> exact ⟨_, _, _, rfl⟩
theorem ne_cM {S : St} {a b : Nat} {cs : List AV} {t : TypeId} {p : PS} {j : Nat} (h : S.bx[a]? = some (.cells cs t)) (h' : S.bx[b]? = some (mapsOf p j)) : a ≠ b := by
  obtain ⟨sh, ks, vs, e⟩ := mapsOf_map p j
  rw [e] at h'
  exact ne_cm h h'

section
variable {T : PTys} {S S' : St} {pb ch : Nat} {l : List Flow} {s : Sched} {x : List Rule} {Q : PL} {g : Nat → Nat → Nat} {sv dv : AV}

/-- other objects more -/
theorem PInv.more (h : PInv T S pb ch l s x Q g sv dv) (hx : ∀ (id : Nat) (o : Ob), S.bx[id]? = some o → S'.bx[id]? = some o) (hf : S'.fr[ch]? = S.fr[ch]?) (ht : S'.ty ch = S.ty ch) : PInv T S' pb ch l s x Q g sv dv := by
  refine ⟨hx _ _ h.p, ?_, fun i p hp h0 j hj => hx _ _ (h.m i p hp h0 j hj), h.inj, hf.trans h.a, ht.trans h.ty, fun e he => hx _ _ (h.k e he), ?_⟩
  · rcases h.q with hq | ⟨qb, ex, h1, h2⟩
    · exact .inl hq
    · exact .inr ⟨qb, ex, h1, hx _ _ h2⟩
  · rcases h.d with hq | ⟨qb, ex, h1, h2⟩
    · exact .inl hq
    · exact .inr ⟨qb, ex, h1, hx _ _ h2⟩
/-- a map of a state -/
theorem PInv.setM (h : PInv T S pb ch l s x Q g sv dv) {i : Nat} {p p' : PS} (hp : Q.sts[i]? = some p) (h0 : 0 ≤ p.frame) (hfr : p'.frame = p.frame) (hdn : p'.done = p.done) {j : Nat} (hj : j < 3) (ho : ∀ k, k < 3 → k ≠ j → mapsOf p' k = mapsOf p k) :
    PInv T (S.setB (g i j) (mapsOf p' j)) pb ch l s x ⟨Q.sts.set i p', Q.atts, Q.dels⟩ g sv dv := by
  have hm := h.m i p hp h0 j hj
  have hil := (List.getElem?_eq_some_iff.1 hp).1
  have est : statesE g (Q.sts.set i p') = statesE g Q.sts := by
    apply List.ext_getElem?
    intro k
    simp only [statesE, List.getElem?_mapIdx, List.getElem?_set]
    by_cases e : i = k
    · subst e
      have e2 : Q.sts[i]? = some Q.sts[i] := List.getElem?_eq_getElem hil
      rw [e2] at hp; injection hp with hp
      simp only [hil, if_true, Option.map_some, e2, hp]
      simp [stAV, mpv, hfr, hdn]
    · simp [e]
  have hlive : ∀ (k : Nat) (q : PS), (Q.sts.set i p')[k]? = some q → 0 ≤ q.frame → ∃ q0, Q.sts[k]? = some q0 ∧ 0 ≤ q0.frame ∧ (i ≠ k → q = q0) ∧ (i = k → q = p' ∧ q0 = p) := by
    intro k q hq hq0
    by_cases e : i = k
    · subst e
      rw [List.getElem?_set_self hil] at hq
      injection hq with hq
      exact ⟨p, hp, h0, fun hh => absurd rfl hh, fun _ => ⟨hq.symm, rfl⟩⟩
    · rw [List.getElem?_set_ne e] at hq
      exact ⟨q, hq, hq0, fun _ => rfl, fun hh => absurd hh e⟩
  refine ⟨by rw [St.setB_ne (ne_cM h.p hm).symm]; exact h.p, ?_, fun k q hq hq0 j' hj' => ?_, fun k q k' q' hq hq' hq0 hq0' j1 j2 hj1 hj2 he => ?_, h.a, h.ty, fun e he => by rw [St.setB_ne (ne_cM (h.k e he) hm).symm]; exact h.k e he, ?_⟩
  · rcases h.q with ⟨hq, _⟩ | ⟨qb, ex, h1, h2⟩
    · rw [hq] at hil; simp at hil
    · exact .inr ⟨qb, ex, by simpa using h1, by rw [St.setB_ne (ne_cM h2 hm).symm, est]; exact h2⟩
  · obtain ⟨q0, g1, g2, g3, g4⟩ := hlive k q hq hq0
    by_cases e : i = k
    · obtain ⟨rfl, rfl⟩ := g4 e
      subst e
      by_cases ej : j = j'
      · subst ej; exact St.setB_get hm
      · rw [St.setB_ne (fun hh => ej (h.inj _ _ _ _ hp hp h0 h0 j j' hj hj' hh).2), ho j' hj' (fun hh => ej hh.symm)]
        exact h.m i _ hp h0 j' hj'
    · obtain rfl := g3 e
      rw [St.setB_ne (fun hh => e (h.inj _ _ _ _ hp g1 h0 g2 j j' hj hj' hh).1)]
      exact h.m k _ g1 g2 j' hj'
  · obtain ⟨q0, g1, g2, _⟩ := hlive k q hq hq0
    obtain ⟨q0', g1', g2', _⟩ := hlive k' q' hq' hq0'
    exact h.inj _ _ _ _ g1 g1' g2 g2' j1 j2 hj1 hj2 he
  · rcases h.d with hq | ⟨db, ex, h1, h2⟩
    · exact .inl hq
    · exact .inr ⟨db, ex, h1, by rw [St.setB_ne (ne_cM h2 hm).symm]; exact h2⟩
/-- a state's cells are written; its maps are as they were -/
theorem PInv.setQ (h : PInv T S pb ch l s x Q g sv dv) {qb : Nat} {ex : List AV} (hsv : sv = .vsl qb 0 Q.sts.length 5) (hq : S.bx[qb]? = some (.cells (flatE (statesE g Q.sts) ++ ex) T.q)) {i : Nat} {p p' : PS} (hp : Q.sts[i]? = some p) (hfr : p'.frame = p.frame) (ho : ∀ k, k < 3 → mapsOf p' k = mapsOf p k) :
    PInv T (S.setB qb (.cells (flatE (statesE g (Q.sts.set i p')) ++ ex) T.q)) pb ch l s x ⟨Q.sts.set i p', Q.atts, Q.dels⟩ g sv dv := by
  have hil := (List.getElem?_eq_some_iff.1 hp).1
  have hlive : ∀ (k : Nat) (q : PS), (Q.sts.set i p')[k]? = some q → 0 ≤ q.frame → ∃ q0, Q.sts[k]? = some q0 ∧ 0 ≤ q0.frame ∧ ∀ j, j < 3 → mapsOf q j = mapsOf q0 j := by
    intro k q hq hq0
    by_cases e : i = k
    · subst e
      rw [List.getElem?_set_self hil] at hq
      injection hq with hq
      subst hq
      exact ⟨p, hp, by omega, ho⟩
    · rw [List.getElem?_set_ne e] at hq
      exact ⟨q, hq, hq0, fun _ _ => rfl⟩
  refine ⟨by rw [St.setB_ne (ne_cc h.p hq T.hpq).symm]; exact h.p, .inr ⟨qb, ex, by simpa using hsv, St.setB_get hq⟩, fun k q hq' hq0 j' hj' => ?_, fun k q k' q' hq hq' hq0 hq0' j1 j2 hj1 hj2 he => ?_, h.a, h.ty, fun e he => by rw [St.setB_ne (ne_cc hq (h.k e he) (T.hk e he).2.1.symm)]; exact h.k e he, ?_⟩
  · obtain ⟨q0, g1, g2, g3⟩ := hlive k q hq' hq0
    have := h.m k _ g1 g2 j' hj'
    rw [St.setB_ne (ne_cM hq this), g3 j' hj']
    exact this
  · obtain ⟨q0, g1, g2, _⟩ := hlive k q hq hq0
    obtain ⟨q0', g1', g2', _⟩ := hlive k' q' hq' hq0'
    exact h.inj _ _ _ _ g1 g1' g2 g2' j1 j2 hj1 hj2 he
  · rcases h.d with hd | ⟨db, ex2, h1, h2⟩
    · exact .inl hd
    · exact .inr ⟨db, ex2, h1, by rw [St.setB_ne (ne_cc hq h2 T.hqd)]; exact h2⟩
/-- the player's own cells are written -/
theorem PInv.setP (h : PInv T S pb ch l s x Q g sv dv) (s' : Sched) (ats : List Att) (hf : S'.fr[ch]? = some (ats.length, 8)) (ht : S'.ty ch = S.ty ch) (hb : S'.bx = S.bx) : PInv T (S'.setB pb (.cells (plC l s' x sv (.own (ats.map Att.av) ch) dv) T.p)) pb ch l s' x ⟨Q.sts, ats, Q.dels⟩ g sv dv := by
  have hp' : S'.bx[pb]? = some (.cells (plC l s x sv (.own (Q.atts.map Att.av) ch) dv) T.p) := by rw [hb]; exact h.p
  refine ⟨St.setB_get hp', ?_, fun k q hq hq0 j hj => ?_, h.inj, hf, ht.trans h.ty, fun e he => by rw [St.setB_ne (ne_cc h.p (h.k e he) (T.hk e he).1.symm), hb]; exact h.k e he, ?_⟩
  · rcases h.q with hq | ⟨qb, ex, h1, h2⟩
    · exact .inl hq
    · exact .inr ⟨qb, ex, h1, by rw [St.setB_ne (ne_cc h.p h2 T.hpq), hb]; exact h2⟩
  · have := h.m k q hq hq0 j hj
    rw [St.setB_ne (ne_cM h.p this), hb]
    exact this
  · rcases h.d with hq | ⟨qb, ex, h1, h2⟩
    · exact .inl hq
    · exact .inr ⟨qb, ex, h1, by rw [St.setB_ne (ne_cc h.p h2 T.hpd), hb]; exact h2⟩
/-- the deliveries are others -/
theorem PInv.setD (h : PInv T S pb ch l s x Q g sv dv) (ds : List Del) (dv' : AV) (hx : ∀ (id : Nat) (o : Ob), S.bx[id]? = some o → (∀ ex, dv ≠ .vsl id 0 Q.dels.length ex) → S'.bx[id]? = some o) (hf : S'.fr[ch]? = S.fr[ch]?) (ht : S'.ty ch = S.ty ch) (hd : DelV T (S'.setB pb (.cells (plC l s x sv (.own (Q.atts.map Att.av) ch) dv') T.p)) dv' ds) :
    PInv T (S'.setB pb (.cells (plC l s x sv (.own (Q.atts.map Att.av) ch) dv') T.p)) pb ch l s x ⟨Q.sts, Q.atts, ds⟩ g sv dv' := by
  have hne : ∀ id, (∀ cs, S.bx[id]? ≠ some (.cells cs T.d)) → ∀ ex, dv ≠ .vsl id 0 Q.dels.length ex := by
    intro id hid ex he
    rcases h.d with ⟨_, h2⟩ | ⟨db, ex2, h1, h2⟩
    · rw [h2] at he; cases he
    · rw [h1] at he
      injection he with he
      subst he
      exact hid _ h2
  have hp' := hx pb _ h.p (hne pb fun cs hc => by
    rw [h.p] at hc; injection hc with hc; injection hc with _ hc; exact T.hpd hc)
  refine ⟨St.setB_get hp', ?_, fun k q hq hq0 j hj => ?_, h.inj, by rw [St.setB_fr, hf]; exact h.a, ht.trans h.ty, fun e he => by
    rw [St.setB_ne (ne_cc h.p (h.k e he) (T.hk e he).1.symm)]
    refine hx _ _ (h.k e he) (hne _ fun cs hc => ?_)
    rw [h.k e he] at hc; injection hc with hc; injection hc with _ hc; exact (T.hk e he).2.2 hc, hd⟩
  · rcases h.q with hq | ⟨qb, ex, h1, h2⟩
    · exact .inl hq
    · refine .inr ⟨qb, ex, h1, ?_⟩
      rw [St.setB_ne (ne_cc h.p h2 T.hpq)]
      exact hx _ _ h2 (hne qb fun cs hc => by
        rw [h2] at hc; injection hc with hc; injection hc with _ hc; exact T.hqd hc)
  · have := h.m k q hq hq0 j hj
    rw [St.setB_ne (ne_cM h.p this)]
    refine hx _ _ this (hne _ fun cs hc => ?_)
    obtain ⟨sh, ks, vs, e⟩ := mapsOf_map q j
    rw [this, e] at hc
    injection hc with hc
    cases hc
end
theorem St.addF_fr {S : St} {ch : Nat} {y y' : Nat × Nat} {e : TypeId} (h : S.fr[ch]? = some y') : (S.addF y e).fr[ch]? = some y' := by
  unfold St.addF
  rw [List.getElem?_append_left (List.getElem?_eq_some_iff.1 h).1]; exact h
theorem St.addF_ty {S : St} {ch : Nat} {y y' : Nat × Nat} {e : TypeId} (h : S.fr[ch]? = some y') : (S.addF y e).ty ch = S.ty ch := by
  have := (List.getElem?_eq_some_iff.1 h).1
  simp only [St.addF, updT]
  rw [if_neg (by omega)]
theorem setB_setB (S : St) (id : Nat) (o o' : Ob) : (S.setB id o).setB id o' = S.setB id o' := by simp [St.setB]
theorem St.setF_fr {S : St} {ch : Nat} {y y' : Nat × Nat} (h : S.fr[ch]? = some y') : (S.setF ch y).fr[ch]? = some y := by
  unfold St.setF
  have := (List.getElem?_eq_some_iff.1 h).1
  simp [this]
end HM

/- A store with a player: a delivery is noted. -/
namespace HM
open Go Go.RowKit

theorem delWide (ds : List Del) : Wide 3 (ds.map Del.av) := by
  intro e he
  obtain ⟨d, _, rfl⟩ := List.mem_map.1 he
  rfl
section
variable {T : PTys} {S : St} {pb ch : Nat} {l : List Flow} {s : Sched} {x : List Rule} {Q : PL} {g : Nat → Nat → Nat} {sv dv : AV}
theorem PInv.delNew (h : PInv T S pb ch l s x Q g sv dv) (hq : Q.dels = []) (d : Del) (z : AV) (hz : z = d.av) (y1 : Nat × Nat) (e : TypeId) (k : Nat) (n m : Nat) (hn : n = S.bx.length) (hm : m = 1) :
    PInv T (((S.addF y1 e).addB (.cells (flatE [z] ++ List.replicate k .undef) T.d)).setB pb (.cells (plC l s x sv (.own (Q.atts.map Att.av) ch) (.vsl n 0 m 3)) T.p)) pb ch l s x ⟨Q.sts, Q.atts, Q.dels ++ [d]⟩ g sv (.vsl n 0 m 3) := by
  subst hz; subst hn; subst hm
  have hf := h.a
  have hne : S.bx.length ≠ pb := by have := (List.getElem?_eq_some_iff.1 h.p).1; omega
  refine h.setD _ _ (fun id o ho _ => ?_) ?_ ?_ (.inr ⟨S.bx.length, List.replicate k .undef, by rw [hq]; rfl, ?_⟩)
  · exact St.addB_old (S := S.addF y1 e) ho
  · rw [St.addB_fr]; exact (St.addF_fr hf).trans hf.symm
  · exact St.addF_ty (y := y1) hf
  · rw [St.setB_ne hne.symm, hq]
    exact St.addB_get (S.addF y1 e) _
theorem PInv.delRoom (h : PInv T S pb ch l s x Q g sv dv) {db : Nat} {ex : List AV} (hdv : dv = .vsl db 0 Q.dels.length 3) (hdb : S.bx[db]? = some (.cells (flatE (Q.dels.map Del.av) ++ ex) T.d)) (d : Del) (z : AV) (hz : z = d.av) (y1 : Nat × Nat) (e : TypeId)
    (hr : (Q.dels.length + 1) * 3 ≤ (flatE (Q.dels.map Del.av) ++ ex).length) :
    PInv T (((S.addF y1 e).setB db (.cells (splice (flatE (Q.dels.map Del.av) ++ ex) (Q.dels.length * 3) (flatE [z])) T.d)).setB pb (.cells (plC l s x sv (.own (Q.atts.map Att.av) ch) (.vsl db 0 (Q.dels.length + 1) 3)) T.p)) pb ch l s x ⟨Q.sts, Q.atts, Q.dels ++ [d]⟩ g sv (.vsl db 0 (Q.dels.length + 1) 3) := by
  subst hz
  have hf := h.a
  have hne : db ≠ pb := (ne_cc h.p hdb T.hpd).symm
  have hfl := (delWide Q.dels).flen
  rw [List.length_map] at hfl
  rw [List.length_append] at hr
  refine h.setD _ _ (fun id o ho hh => ?_) ?_ ?_ (.inr ⟨db, ex.drop 3, by simp, ?_⟩)
  · have hid : db ≠ id := by rintro rfl; exact hh 3 hdv
    rw [St.setB_ne hid]; exact ho
  · rw [St.setB_fr]; exact (St.addF_fr hf).trans hf.symm
  · exact St.addF_ty (y := y1) hf
  · rw [St.setB_ne hne.symm, St.setB_get (S := S.addF y1 e) hdb]
    have e1 : splice (flatE (Q.dels.map Del.av) ++ ex) (Q.dels.length * 3) (flatE [d.av]) = flatE ((Q.dels ++ [d]).map Del.av) ++ ex.drop 3 := by
      have hz : (flatE [d.av]).length = 3 := rfl
      rw [splice_eq _ _ _ (by rw [List.length_append, hz]; omega), hz, ← hfl, List.take_left, List.map_append, flatE_app]
      rw [List.drop_append]
      have : List.drop ((flatE (Q.dels.map Del.av)).length + 3) (flatE (Q.dels.map Del.av)) = [] := List.drop_eq_nil_of_le (by omega)
      rw [this, List.nil_append, show (flatE (Q.dels.map Del.av)).length + 3 - (flatE (Q.dels.map Del.av)).length = 3 from by omega]
      rfl
    rw [e1]
theorem PInv.delGrow (h : PInv T S pb ch l s x Q g sv dv) {db : Nat} {ex : List AV} (_hdv : dv = .vsl db 0 Q.dels.length 3) (_hdb : S.bx[db]? = some (.cells (flatE (Q.dels.map Del.av) ++ ex) T.d)) (d : Del) (z : AV) (hz : z = d.av) (y1 : Nat × Nat) (e : TypeId) (k n : Nat) (hn : n = S.bx.length) :
    PInv T (((S.addF y1 e).addB (.cells ((flatE (Q.dels.map Del.av) ++ ex).take (Q.dels.length * 3) ++ flatE [z] ++ List.replicate k .undef) T.d)).setB pb (.cells (plC l s x sv (.own (Q.atts.map Att.av) ch) (.vsl n 0 (Q.dels.length + 1) 3)) T.p)) pb ch l s x ⟨Q.sts, Q.atts, Q.dels ++ [d]⟩ g sv (.vsl n 0 (Q.dels.length + 1) 3) := by
  subst hz; subst hn
  have hf := h.a
  have hne : S.bx.length ≠ pb := by have := (List.getElem?_eq_some_iff.1 h.p).1; omega
  have hfl := (delWide Q.dels).flen
  rw [List.length_map] at hfl
  refine h.setD _ _ (fun id o ho _ => ?_) ?_ ?_ (.inr ⟨S.bx.length, List.replicate k .undef, by simp, ?_⟩)
  · exact St.addB_old (S := S.addF y1 e) ho
  · rw [St.addB_fr]; exact (St.addF_fr hf).trans hf.symm
  · exact St.addF_ty (y := y1) hf
  · rw [St.setB_ne hne.symm, ← hfl, List.take_left, List.map_append, flatE_app]
    exact St.addB_get (S.addF y1 e) _
end
/-- what lies in boxes stays, but the player and the deliveries -/
def InvY (T : PTys) (S S' : St) : Prop := ∀ (id : Nat) (cs : List AV) (t : TypeId), t ≠ T.p → t ≠ T.d → S.bx[id]? = some (.cells cs t) → S'.bx[id]? = some (.cells cs t)
theorem InvY.refl (T : PTys) (S : St) : InvY T S S := fun _ _ _ _ _ h => h
theorem InvY.setP {T : PTys} {S S' : St} {id : Nat} {cs : List AV} {o : Ob} (h : InvY T S S') (hb : S.bx[id]? = some (.cells cs T.p)) : InvY T S (S'.setB id o) := fun id' cs' t h1 h2 hc => by
  rw [St.setB_ne (ne_cc hb hc fun he => h1 he.symm)]; exact h id' cs' t h1 h2 hc
theorem InvY.setD {T : PTys} {S S' : St} {id : Nat} {cs : List AV} {o : Ob} (h : InvY T S S') (hb : S.bx[id]? = some (.cells cs T.d)) : InvY T S (S'.setB id o) := fun id' cs' t h1 h2 hc => by
  rw [St.setB_ne (ne_cc hb hc fun he => h2 he.symm)]; exact h id' cs' t h1 h2 hc
theorem InvY.addB {T : PTys} {S S' : St} {o : Ob} (h : InvY T S S') : InvY T S (S'.addB o) := fun id' cs' t h1 h2 hc => St.addB_old (h id' cs' t h1 h2 hc)
theorem InvY.addF {T : PTys} {S S' : St} {y : Nat × Nat} {e : TypeId} (h : InvY T S S') : InvY T S (S'.addF y e) := h
end HM

/- A store with a player: new frames. -/
namespace HM
open Go Go.RowKit

/-- the first k flows have looked for a new frame -/
def relK (l : List Flow) (slot : Int) (sts : List PS) : Nat → List PS
  | 0 => sts
  | k + 1 => match l[k]?, (relK l slot sts k)[k]? with
    | some f, some p => (relK l slot sts k).set k (relS f slot p)
    | _, _ => relK l slot sts k
theorem relK_len (l : List Flow) (slot : Int) (sts : List PS) : ∀ k, (relK l slot sts k).length = sts.length
  | 0 => rfl
  | k + 1 => by
    unfold relK
    split
    · rw [List.length_set, relK_len l slot sts k]
    · exact relK_len l slot sts k
theorem relK_get (l : List Flow) (slot : Int) (sts : List PS) (hl : sts.length = l.length) : ∀ (k i : Nat), (relK l slot sts k)[i]? = if i < k then (l.zipWith (fun f p => relS f slot p) sts)[i]? else sts[i]?
  | 0, i => by simp [relK]
  | k + 1, i => by
    have ih := relK_get l slot sts hl k
    unfold relK
    rcases Nat.lt_or_ge k l.length with hk | hk
    · have hk2 : k < sts.length := by omega
      have e1 : l[k]? = some l[k] := List.getElem?_eq_getElem hk
      have e2 : (relK l slot sts k)[k]? = some sts[k] := by rw [ih, if_neg (by omega)]; exact List.getElem?_eq_getElem hk2
      rw [e1, e2]
      simp only
      by_cases e : k = i
      · subst e
        rw [List.getElem?_set_self (by rw [relK_len]; exact hk2), if_pos (by omega)]
        simp [List.getElem?_zipWith, e1, List.getElem?_eq_getElem hk2]
      · rw [List.getElem?_set_ne e, ih]
        by_cases h1 : i < k
        · rw [if_pos h1, if_pos (by omega)]
        · rw [if_neg h1, if_neg (by omega)]
    · have e1 : l[k]? = none := List.getElem?_eq_none hk
      rw [e1]
      show (relK l slot sts k)[i]? = _
      rw [ih]
      by_cases h1 : i < k
      · rw [if_pos h1, if_pos (by omega)]
      · rw [if_neg h1]
        by_cases h2 : i < k + 1
        · rw [if_pos h2]
          have : l[i]? = none := List.getElem?_eq_none (by omega)
          have h3 : sts[i]? = none := List.getElem?_eq_none (by omega)
          simp [List.getElem?_zipWith, this, h3]
        · rw [if_neg h2]
theorem relK_all (l : List Flow) (slot : Int) (sts : List PS) (hl : sts.length = l.length) : relK l slot sts l.length = releaseS l slot sts := by
  apply List.ext_getElem?
  intro i
  rw [relK_get l slot sts hl]
  unfold releaseS
  by_cases h : i < l.length
  · rw [if_pos h]
  · rw [if_neg h]
    have h1 : sts[i]? = none := List.getElem?_eq_none (by omega)
    have h2 : l[i]? = none := List.getElem?_eq_none (by omega)
    simp [List.getElem?_zipWith, h1, h2]
theorem relK_step {l : List Flow} {slot : Int} {sts : List PS} {k : Nat} {f : Flow} {p : PS} (hf : l[k]? = some f) (hp : (relK l slot sts k)[k]? = some p) : relK l slot sts (k + 1) = (relK l slot sts k).set k (relS f slot p) := by
  rw [relK, hf, hp]

def gset (g : Nat → Nat → Nat) (i a b c : Nat) : Nat → Nat → Nat := fun i' j => if i' = i then (match j with | 0 => a | 1 => b | _ => c) else g i' j
section
variable {T : PTys} {S S' : St} {pb ch : Nat} {l : List Flow} {s : Sched} {x : List Rule} {Q : PL} {g : Nat → Nat → Nat} {sv dv : AV}
/-- a state begins anew -/
theorem PInv.fresh (h : PInv T S pb ch l s x Q g sv dv) (hx : ∀ (id : Nat) (o : Ob), S.bx[id]? = some o → S'.bx[id]? = some o) (hf : S'.fr = S.fr) (ht : S'.ty = S.ty) {qb : Nat} {ex : List AV} (hsv : sv = .vsl qb 0 Q.sts.length 5) (hq : S.bx[qb]? = some (.cells (flatE (statesE g Q.sts) ++ ex) T.q))
    {i : Nat} {p p' : PS} (hp : Q.sts[i]? = some p) (h0 : ¬ p'.frame < 0) {a b c : Nat} (ha : S'.bx[a]? = some (mapsOf p' 0)) (hb : S'.bx[b]? = some (mapsOf p' 1)) (hc : S'.bx[c]? = some (mapsOf p' 2)) (ga : S.bx.length ≤ a) (gb : S.bx.length ≤ b) (gc : S.bx.length ≤ c) (hab : a ≠ b) (hac : a ≠ c) (hbc : b ≠ c) :
    PInv T (S'.setB qb (.cells (flatE (statesE (gset g i a b c) (Q.sts.set i p')) ++ ex) T.q)) pb ch l s x ⟨Q.sts.set i p', Q.atts, Q.dels⟩ (gset g i a b c) sv dv := by
  have hil := (List.getElem?_eq_some_iff.1 hp).1
  have hself : ∀ k (q : PS), (Q.sts.set i p')[k]? = some q → i = k → q = p' := by
    intro k q hq e
    subst e
    rw [List.getElem?_set_self hil] at hq
    injection hq with hq; exact hq.symm
  have hoth : ∀ k (q : PS), (Q.sts.set i p')[k]? = some q → i ≠ k → Q.sts[k]? = some q := by
    intro k q hq e
    rwa [List.getElem?_set_ne e] at hq
  have hlt : ∀ k q, Q.sts[k]? = some q → 0 ≤ q.frame → ∀ j, j < 3 → g k j < S.bx.length := fun k q hq hq0 j hj => (List.getElem?_eq_some_iff.1 (h.m k q hq hq0 j hj)).1
  have hg : ∀ k j, i ≠ k → gset g i a b c k j = g k j := fun k j e => by unfold gset; rw [if_neg (fun hh => e hh.symm)]
  have hgi : ∀ j, gset g i a b c i j = (match j with | 0 => a | 1 => b | _ => c) := fun j => by unfold gset; rw [if_pos rfl]
  have hge : ∀ j, S.bx.length ≤ gset g i a b c i j := fun j => by
    rw [hgi]
    split <;> assumption
  have hq' := hx _ _ hq
  refine ⟨by rw [St.setB_ne (ne_cc h.p hq T.hpq).symm]; exact hx _ _ h.p, .inr ⟨qb, ex, by simpa using hsv, St.setB_get hq'⟩, fun k q hq1 hq0 j hj => ?_, fun k q k' q' hq1 hq1' hq0 hq0' j1 j2 hj1 hj2 he => ?_, by rw [St.setB_fr, hf]; exact h.a, by show S'.ty ch = _; rw [ht]; exact h.ty, fun e he => by rw [St.setB_ne (ne_cc hq (h.k e he) (T.hk e he).2.1.symm)]; exact hx _ _ (h.k e he), ?_⟩
  · have hm : S'.bx[gset g i a b c k j]? = some (mapsOf q j) := by
      by_cases e : i = k
      · subst e
        obtain rfl := hself i q hq1 rfl
        rw [hgi]
        rcases j with _ | _ | _ | j
        · exact ha
        · exact hb
        · exact hc
        · omega
      · rw [hg k j e]
        exact hx _ _ (h.m k q (hoth k q hq1 e) hq0 j hj)
    rw [St.setB_ne (ne_cM hq' hm)]
    exact hm
  · by_cases e : i = k
    · by_cases e' : i = k'
      · subst e; subst e'
        refine ⟨rfl, ?_⟩
        rw [hgi, hgi] at he
        rcases j1 with _ | _ | _ | j1 <;> rcases j2 with _ | _ | _ | j2 <;> first | rfl | omega | exact absurd he hab | exact absurd he hac | exact absurd he hbc | exact absurd he.symm hab | exact absurd he.symm hac | exact absurd he.symm hbc
      · subst e
        have h1 := hge j1
        have h2 := hlt k' q' (hoth k' q' hq1' e') hq0' j2 hj2
        rw [hg k' j2 e'] at he
        omega
    · by_cases e' : i = k'
      · subst e'
        have h1 := hge j2
        have h2 := hlt k q (hoth k q hq1 e) hq0 j1 hj1
        rw [hg k j1 e] at he
        omega
      · rw [hg k j1 e, hg k' j2 e'] at he
        exact h.inj _ _ _ _ (hoth k q hq1 e) (hoth k' q' hq1' e') hq0 hq0' j1 j2 hj1 hj2 he
  · rcases h.d with hd | ⟨db, ex2, h1, h2⟩
    · exact .inl hd
    · exact .inr ⟨db, ex2, h1, by rw [St.setB_ne (ne_cc hq h2 T.hqd)]; exact hx _ _ h2⟩
end
theorem statesE_gset (g : Nat → Nat → Nat) (q : List PS) (i a b c : Nat) (p : PS) (h0 : ¬ p.frame < 0) : (statesE g q).set i (.agg [.int .i64 p.frame, .mp a, .mp b, .mp c, .bool p.done]) = statesE (gset g i a b c) (q.set i p) := by
  apply List.ext_getElem?
  intro j
  simp only [statesE, List.getElem?_set, List.getElem?_mapIdx, List.length_mapIdx]
  by_cases e : i = j
  · subst e
    simp only [if_true]
    split
    · simp [stAV, mpv, h0, gset]
    · simp
  · simp only [e, if_false]
    cases hq : q[j]? with
    | none => rfl
    | some y =>
      simp only [Option.map_some, Option.some.injEq]
      have : gset g i a b c j = g j := by funext k; unfold gset; rw [if_neg (fun hh => e hh.symm)]
      rw [this]
/-- what lies in boxes stays, but the states -/
def InvZ (T : PTys) (S S' : St) : Prop := ∀ (id : Nat) (cs : List AV) (t : TypeId), t ≠ T.q → S.bx[id]? = some (.cells cs t) → S'.bx[id]? = some (.cells cs t)
theorem InvZ.refl (T : PTys) (S : St) : InvZ T S S := fun _ _ _ _ h => h
theorem InvZ.addB {T : PTys} {S S' : St} {o : Ob} (h : InvZ T S S') : InvZ T S (S'.addB o) := fun id' cs' t h1 hc => St.addB_old (h id' cs' t h1 hc)
theorem InvZ.setN {T : PTys} {S S' : St} {id : Nat} {o : Ob} (h : InvZ T S S') (hi : S.bx.length ≤ id) : InvZ T S (S'.setB id o) := fun id' cs' t h1 hc => by
  have := (List.getElem?_eq_some_iff.1 hc).1
  rw [St.setB_ne (by omega)]; exact h id' cs' t h1 hc
theorem InvZ.setQ {T : PTys} {S S' : St} {id : Nat} {cs : List AV} {o : Ob} (h : InvZ T S S') (hb : S.bx[id]? = some (.cells cs T.q)) : InvZ T S (S'.setB id o) := fun id' cs' t h1 hc => by
  rw [St.setB_ne (ne_cc hb hc fun he => h1 he.symm)]; exact h id' cs' t h1 hc
theorem St.len2 (S : St) (o o' : Ob) : S.bx.length ≤ ((S.addB o).addB o').bx.length := by rw [St.addB_len, St.addB_len]; omega
theorem mo0 {S : St} {sh : Option Nat} {ks : List (List Int)} {vs : List AV} : (S.addB (.map sh ks vs)).bx[S.bx.length]? = some (.map sh ks vs) := St.addB_get _ _
theorem mo1 {S : St} {sh : Option Nat} {ks : List (List Int)} {vs : List AV} {o : Ob} : ((S.addB (.map sh ks vs)).addB o).bx[S.bx.length]? = some (.map sh ks vs) := St.addB_old (St.addB_get _ _)
theorem mo2 {S : St} {sh : Option Nat} {ks : List (List Int)} {vs : List AV} {o o' : Ob} : (((S.addB (.map sh ks vs)).addB o).addB o').bx[S.bx.length]? = some (.map sh ks vs) := St.addB_old (St.addB_old (St.addB_get _ _))
theorem PInv.leaf {T : PTys} {S : St} {pb ch : Nat} {l : List Flow} {s : Sched} {x : List Rule} {Q : PL} {g : Nat → Nat → Nat} {sv dv : AV} (h : PInv T S pb ch l s x Q g sv dv) {qb : Nat} {ex : List AV} (hsv : sv = .vsl qb 0 Q.sts.length 5) (hq : S.bx[qb]? = some (.cells (flatE (statesE g Q.sts) ++ ex) T.q))
    {i : Nat} {p p' : PS} (hp : Q.sts[i]? = some p) (h0 : ¬ p'.frame < 0) {X : St} (tl : List Ob) (hX : X = ⟨S.bx ++ tl, S.fr, S.n0, S.m0, S.ty⟩) (ia ib ic : Nat) (ha : tl[ia]? = some (mapsOf p' 0)) (hb : tl[ib]? = some (mapsOf p' 1)) (hc : tl[ic]? = some (mapsOf p' 2)) (hab : ia ≠ ib) (hac : ia ≠ ic) (hbc : ib ≠ ic)
    {a b c off : Nat} (ea : a = S.bx.length + ia) (eb : b = S.bx.length + ib) (ec : c = S.bx.length + ic) (eo : off = i * 5) :
    PIn T (X.setB qb (.cells (splice (flatE (statesE g Q.sts) ++ ex) off [.int .i64 p'.frame, .mp a, .mp b, .mp c, .bool p'.done]) T.q)) pb ch l s x ⟨Q.sts.set i p', Q.atts, Q.dels⟩ := by
  subst hX; subst eo
  have hget : ∀ k o, tl[k]? = some o → (S.bx ++ tl)[S.bx.length + k]? = some o := fun k o hk => by
    rw [List.getElem?_append_right (by omega)]
    rw [show S.bx.length + k - S.bx.length = k from by omega]; exact hk
  have hF := h.fresh (S' := ⟨S.bx ++ tl, S.fr, S.n0, S.m0, S.ty⟩) (fun id o ho => (List.getElem?_append_left (List.getElem?_eq_some_iff.1 ho).1).trans ho) rfl rfl hsv hq hp h0 (a := a) (b := b) (c := c) (by subst ea; exact hget _ _ ha) (by subst eb; exact hget _ _ hb) (by subst ec; exact hget _ _ hc) (by omega) (by omega) (by omega) (by omega) (by omega) (by omega)
  have hil := (List.getElem?_eq_some_iff.1 hp).1
  have e1 : splice (flatE (statesE g Q.sts) ++ ex) (i * 5) [.int .i64 p'.frame, .mp a, .mp b, .mp c, .bool p'.done] = flatE (statesE (gset g i a b c) (Q.sts.set i p')) ++ ex := by
    have := Wide.sto (.agg [.int .i64 p'.frame, .mp a, .mp b, .mp c, .bool p'.done]) rfl ex (statesE_wide g Q.sts) (k := i) (by rw [statesE_len]; exact hil)
    rw [statesE_gset g Q.sts i a b c p' h0] at this
    exact this
  rw [e1]
  exact ⟨_, _, _, hF⟩
end HM

/- A slot of a run: how much there can be. -/
namespace HM
open Go Go.RowKit
theorem att_len (l : List Flow) (x : List Rule) (t : Int) (q : PL) (c : Cell) : (attemptS l x t q c).atts.length ≤ q.atts.length + 1 ∧ (attemptS l x t q c).dels.length ≤ q.dels.length + 1 ∧ (attemptS l x t q c).sts.length = q.sts.length := by
  unfold attemptS
  split
  · omega
  split
  · split
    · omega
    · refine ⟨by simp, ?_, by simp⟩
      simp only [List.length_append]
      split <;> simp
  · omega
theorem fold_len (l : List Flow) (x : List Rule) (t : Int) : ∀ (cs : List Cell) (q : PL), (cs.foldl (attemptS l x t) q).atts.length ≤ q.atts.length + cs.length ∧ (cs.foldl (attemptS l x t) q).dels.length ≤ q.dels.length + cs.length ∧ (cs.foldl (attemptS l x t) q).sts.length = q.sts.length
  | [], q => by simp
  | c :: cs, q => by
    have h1 := att_len l x t q c
    have h2 := fold_len l x t cs (attemptS l x t q c)
    simp only [List.foldl_cons, List.length_cons]
    omega
theorem fold_step (l : List Flow) (x : List Rule) (t : Int) {cs : List Cell} {k : Nat} {c : Cell} (h : cs[k]? = some c) (q : PL) : (cs.take (k + 1)).foldl (attemptS l x t) q = attemptS l x t ((cs.take k).foldl (attemptS l x t) q) c := by
  rw [take_succ h, List.foldl_append]
  rfl
theorem at_len (s : Sched) (t : Int) : (atM s t).length ≤ s.cells.length := by
  unfold atM
  split
  · simp
  · exact List.length_filter_le _ _
theorem slot_len (l : List Flow) (s : Sched) (x : List Rule) (q : PL) (t : Int) (hq : q.sts.length = l.length) : (slotS l s x q t).atts.length ≤ q.atts.length + s.cells.length ∧ (slotS l s x q t).dels.length ≤ q.dels.length + s.cells.length ∧ (slotS l s x q t).sts.length = l.length := by
  have h1 := fold_len l x t (atM s t) ⟨releaseS l t q.sts, q.atts, q.dels⟩
  have h2 := at_len s t
  have h3 : (releaseS l t q.sts).length = l.length := by simp [releaseS, hq]
  unfold slotS
  simp only at h1 ⊢
  refine ⟨by omega, ?_, by rw [h1.2.2, h3]⟩
  rw [List.length_append, List.length_mergeSort, ← List.length_append, List.take_append_drop]
  omega
theorem play_len {l : List Flow} (sc : Nat → Sched) (x : List Rule) {m : Nat} (hm : ∀ i, (sc i).cells.length ≤ m) : ∀ n, (playV l sc x n).atts.length ≤ n * m ∧ (playV l sc x n).dels.length ≤ n * m ∧ (playV l sc x n).sts.length = l.length
  | 0 => by simp [playV]
  | n + 1 => by
    obtain ⟨h1, h2, h3⟩ := play_len sc x hm n
    have h4 := slot_len l (sc n) x (playV l sc x n) n h3
    have h5 := hm n
    rw [playV, Nat.add_mul]
    omega
theorem PInv.frames {T : PTys} {S S' : St} {pb ch : Nat} {l : List Flow} {s : Sched} {x : List Rule} {Q : PL} (h : PIn T S pb ch l s x Q) (hx : S'.bx = S.bx) (hf : S'.fr = S.fr) (ht : S'.ty = S.ty) : PIn T S' pb ch l s x Q := by
  obtain ⟨g, sv, dv, h⟩ := h
  exact ⟨g, sv, dv, h.more (fun _ _ ho => by rw [hx]; exact ho) (by rw [hf]) (by rw [ht])⟩
/-- the deliveries of a slot sorted in place -/
theorem PInv.sortD {T : PTys} {S : St} {pb ch : Nat} {l : List Flow} {s : Sched} {x : List Rule} {Q : PL} {g : Nat → Nat → Nat} {sv dv : AV} (h : PInv T S pb ch l s x Q g sv dv) {db : Nat} {ex : List AV} (hdv : dv = .vsl db 0 Q.dels.length 3) (hdb : S.bx[db]? = some (.cells (flatE (Q.dels.map Del.av) ++ ex) T.d)) {ds : List Del} (hl : ds.length = Q.dels.length) :
    PIn T (S.setB db (.cells (flatE (ds.map Del.av) ++ ex) T.d)) pb ch l s x ⟨Q.sts, Q.atts, ds⟩ := by
  refine ⟨g, sv, dv, ?_, ?_, fun k q hq hq0 j hj => ?_, h.inj, h.a, h.ty, fun e he => by rw [St.setB_ne (ne_cc hdb (h.k e he) (T.hk e he).2.2.symm)]; exact h.k e he, .inr ⟨db, ex, by rw [hl]; exact hdv, St.setB_get hdb⟩⟩
  · rw [St.setB_ne (ne_cc h.p hdb T.hpd).symm]; exact h.p
  · rcases h.q with hq | ⟨qb, ex2, h1, h2⟩
    · exact .inl hq
    · exact .inr ⟨qb, ex2, h1, by rw [St.setB_ne (ne_cc h2 hdb T.hqd).symm]; exact h2⟩
  · have := h.m k q hq hq0 j hj
    rw [St.setB_ne (ne_cM hdb this)]; exact this
end HM

/- The law on a flow on its own. -/
namespace HM
open Go Go.RowKit

end HM
namespace HM
end HM

/- A cell put in and taken out, as the reference does it. -/
namespace HM
open Go Go.RowKit

def withL (c : Cell) : List Cell → List Cell
  | [] => [c]
  | x :: l => if c.cmp x < 0 then c :: x :: l else x :: withL c l
def putB (c : Cell) (l : List Cell) : Bool := l.any fun x => decide (c.cmp x < 0)
theorem with_none {c : Cell} : ∀ {l : List Cell}, putB c l = false → withL c l = l ++ [c]
  | [], _ => rfl
  | x :: l, h => by
    simp only [putB, List.any_cons, Bool.or_eq_false_iff, decide_eq_false_iff_not] at h
    rw [withL, if_neg h.1, with_none (l := l) h.2]; rfl
theorem with_put {c x : Cell} : ∀ {l : List Cell}, putB c l = true → withL c (l ++ [x]) = withL c l ++ [x]
  | [], h => by simp [putB] at h
  | y :: l, h => by
    rw [List.cons_append, withL, withL]
    by_cases hy : c.cmp y < 0
    · rw [if_pos hy, if_pos hy]; rfl
    · rw [if_neg hy, if_neg hy]
      have h2 : putB c l = true := by simpa [putB, hy] using h
      rw [with_put h2]; rfl
theorem with_now {c x : Cell} (hx : c.cmp x < 0) : ∀ {l : List Cell}, putB c l = false → withL c (l ++ [x]) = l ++ [c] ++ [x]
  | [], _ => by simp [withL, hx]
  | y :: l, h => by
    simp only [putB, List.any_cons, Bool.or_eq_false_iff, decide_eq_false_iff_not] at h
    rw [List.cons_append, withL, if_neg h.1, with_now hx (l := l) h.2]; rfl
theorem putB_snoc (c x : Cell) (l : List Cell) : putB c (l ++ [x]) = (putB c l || decide (c.cmp x < 0)) := by simp [putB]
/-- what lies there behind the first cells -/
def withK (c : Cell) (l : List Cell) : List Cell := if putB c l = true then withL c l else l
theorem withK_len (c : Cell) (l : List Cell) : (withK c l).length ≤ l.length + 1 := by
  have : ∀ l : List Cell, (withL c l).length = l.length + 1 := by
    intro l
    induction l with
    | nil => rfl
    | cons x l ih => rw [withL]; split <;> simp [ih]
  unfold withK
  split
  · rw [this]; exact Nat.le_refl _
  · omega
theorem withK_put {c x : Cell} {l : List Cell} (h : putB c l = true) : withK c (l ++ [x]) = withK c l ++ [x] := by
  unfold withK
  rw [putB_snoc, h, if_pos (by simp), if_pos rfl, with_put h]
theorem withK_now {c x : Cell} {l : List Cell} (h : putB c l = false) (hx : c.cmp x < 0) : withK c (l ++ [x]) = withK c l ++ [c] ++ [x] := by
  unfold withK
  rw [putB_snoc, h, if_pos (by simpa using hx), if_neg (by simp), with_now hx h]
theorem withK_not {c x : Cell} {l : List Cell} (h : putB c l = false) (hx : ¬ c.cmp x < 0) : withK c (l ++ [x]) = withK c l ++ [x] := by
  unfold withK
  rw [putB_snoc, h, if_neg (by simpa using hx), if_neg (by simp)]
theorem with_ins {c : Cell} : ∀ {l : List Cell}, hasB (cellTo c) l = false → withL c l = insAt l (posB (cellTo c) l) c
  | [], _ => rfl
  | x :: l, h => by
    by_cases hx : x.cmp c < 0
    · have hp : posB (cellTo c) (x :: l) = posB (cellTo c) l + 1 := by
        unfold posB
        rw [List.takeWhile_cons, if_pos (show decide (cellTo c x < 0) = true from decide_eq_true hx)]; rfl
      have hh : hasB (cellTo c) l = false := by
        unfold hasB at h ⊢
        rw [hp, List.getElem?_cons_succ] at h
        exact h
      have hn : ¬ c.cmp x < 0 := fun hc => by have := cmpL_anti.1 hc; unfold Cell.cmp at hx; omega
      rw [hp, withL, if_neg hn, with_ins hh]; rfl
    · have hp : posB (cellTo c) (x :: l) = 0 := by
        unfold posB
        rw [List.takeWhile_cons, if_neg (show ¬ decide (cellTo c x < 0) = true from fun h => hx (of_decide_eq_true h))]; rfl
      have h0 : x.cmp c ≠ 0 := by
        unfold hasB at h
        rw [hp] at h
        simpa [cellTo] using h
      have hn : c.cmp x < 0 := cmpL_anti.2 (show 0 < cmpL x.nums c.nums by unfold Cell.cmp at hx h0; omega)
      rw [hp, withL, if_pos hn]; rfl
theorem cell_cmp0 {x c : Cell} (h : x.cmp c = 0) : x = c := by
  have h1 := cmpL_eq.1 h
  obtain ⟨a1, a2, a3, a4, a5⟩ := x
  obtain ⟨b1, b2, b3, b4, b5⟩ := c
  simpa [Cell.nums] using h1
theorem has_mem {c : Cell} : ∀ {l : List Cell}, l.Pairwise (fun a b => a.cmp b < 0) → hasB (cellTo c) l = decide (c ∈ l)
  | [], _ => by simp [hasB]
  | x :: l, h => by
    have hc0 : c.cmp c = 0 := cmpL_eq.2 rfl
    obtain ⟨h1, h2⟩ := List.pairwise_cons.1 h
    by_cases hx : x.cmp c < 0
    · have hp : posB (cellTo c) (x :: l) = posB (cellTo c) l + 1 := by
        unfold posB
        rw [List.takeWhile_cons, if_pos (show decide (cellTo c x < 0) = true from decide_eq_true hx)]; rfl
      have hh : hasB (cellTo c) (x :: l) = hasB (cellTo c) l := by
        unfold hasB
        rw [hp, List.getElem?_cons_succ]
      have hne : c ≠ x := by rintro rfl; omega
      rw [hh, has_mem h2]
      simp [hne]
    · have hp : posB (cellTo c) (x :: l) = 0 := by
        unfold posB
        rw [List.takeWhile_cons, if_neg (show ¬ decide (cellTo c x < 0) = true from fun h => hx (of_decide_eq_true h))]; rfl
      have hh : hasB (cellTo c) (x :: l) = (x.cmp c == 0) := by
        unfold hasB
        rw [hp]; rfl
      rw [hh, Bool.eq_iff_iff]
      simp only [beq_iff_eq, decide_eq_true_eq, List.mem_cons]
      constructor
      · intro h; exact .inl (cell_cmp0 h).symm
      · rintro (rfl | hm)
        · exact hc0
        · exact absurd (h1 c hm) hx
theorem del_filter {c : Cell} : ∀ {l : List Cell}, l.Pairwise (fun a b => a.cmp b < 0) → hasB (cellTo c) l = true → delAt l (posB (cellTo c) l) = l.filter fun x => decide (x ≠ c)
  | [], _, h => by simp [hasB] at h
  | x :: l, hs, h => by
    have hc0 : c.cmp c = 0 := cmpL_eq.2 rfl
    obtain ⟨h1, h2⟩ := List.pairwise_cons.1 hs
    by_cases hx : x.cmp c < 0
    · have hp : posB (cellTo c) (x :: l) = posB (cellTo c) l + 1 := by
        unfold posB
        rw [List.takeWhile_cons, if_pos (show decide (cellTo c x < 0) = true from decide_eq_true hx)]; rfl
      have hh : hasB (cellTo c) l = true := by
        unfold hasB at h ⊢
        rw [hp, List.getElem?_cons_succ] at h
        exact h
      have hne : x ≠ c := by rintro rfl; omega
      rw [hp, List.filter_cons, if_pos (by simpa using hne), ← del_filter h2 hh]
      simp [delAt]
    · have hp : posB (cellTo c) (x :: l) = 0 := by
        unfold posB
        rw [List.takeWhile_cons, if_neg (show ¬ decide (cellTo c x < 0) = true from fun h => hx (of_decide_eq_true h))]; rfl
      have hxc : x = c := by
        unfold hasB at h
        rw [hp] at h
        exact cell_cmp0 (by simpa [cellTo] using h)
      subst hxc
      rw [hp, List.filter_cons, if_neg (by simp)]
      have : (l.filter fun y => decide (y ≠ x)) = l := List.filter_eq_self.2 fun y hy => by
        have := h1 y hy
        have : y ≠ x := by rintro rfl; omega
        simpa using this
      rw [this]; simp [delAt]
theorem sorted_pw {s : Sched} (h : formB s = true) : s.cells.Pairwise fun a b => a.cmp b < 0 :=
  List.pairwise_iff_getElem.2 fun i j hi hj hij => formB_sorted h i j _ _ hij (List.getElem?_eq_getElem hi) (List.getElem?_eq_getElem hj)
end HM
namespace HM
open Go Go.RowKit
def cellEqB (a b : Cell) : Bool := a.slot == b.slot && (a.off == b.off && (a.src == b.src && (a.dst == b.dst && (a.flow == b.flow && true))))
theorem cellEqB_iff {a b : Cell} : cellEqB a b = true ↔ a = b := by
  obtain ⟨c1, c2, c3, c4, c5⟩ := a
  obtain ⟨d1, d2, d3, d4, d5⟩ := b
  simp [cellEqB]
theorem addM_with {s : Sched} {c : Cell} (h : formB s = true) (h2 : hasC s c = false) : insAt s.cells (posC s c) c = withL c s.cells := (with_ins h2).symm
theorem remM_filter {s : Sched} {c : Cell} (h : formB s = true) (h2 : hasC s c = true) : delAt s.cells (posC s c) = s.cells.filter fun x => decide (x ≠ c) := del_filter (sorted_pw h) h2
theorem hasC_mem {s : Sched} {c : Cell} (h : formB s = true) : hasC s c = decide (c ∈ s.cells) := has_mem (sorted_pw h)
theorem filter_hit {c : Cell} {l : List Cell} {k : Nat} {x : Cell} (h : l[k]? = some x) (hx : x ≠ c) : (l.take (k + 1)).filter (fun x => decide (x ≠ c)) = (l.take k).filter (fun x => decide (x ≠ c)) ++ [x] := by
  rw [take_succ h, List.filter_append, List.filter_cons, if_pos (by simpa using hx)]; rfl
theorem filter_miss {c : Cell} {l : List Cell} {k : Nat} {x : Cell} (h : l[k]? = some x) (hx : x = c) : (l.take (k + 1)).filter (fun x => decide (x ≠ c)) = (l.take k).filter (fun x => decide (x ≠ c)) := by
  rw [take_succ h, List.filter_append, List.filter_cons, if_neg (by simpa using hx)]; simp
/-- what the reference's Apply returns -/
def applyM (s : Sched) (cs : List Chg) (t : Int) : Sched × Int := if 1024 < cs.length then (s, 8) else appM none s s cs t
structure AppI (s : Sched) (cs : List Chg) (t : Int) (k : Nat) (u o : Sched) : Prop where
  le : k ≤ cs.length
  eq : appM none s s cs t = appM (prevS cs k) u o (cs.drop k) t
theorem AppI.zero (s : Sched) (cs : List Chg) (t : Int) : AppI s cs t 0 s s := ⟨Nat.zero_le _, rfl⟩
theorem AppI.err1 {s u o : Sched} {cs : List Chg} {t : Int} {k : Nat} (h : AppI s cs t k u o) {c : Chg} (hc : cs[k]? = some c) {e : Int} (he : chgE (prevS cs k) c = e) (h0 : e ≠ 0) : appM none s s cs t = (o, e) := by
  rw [h.eq, dropGet hc, appM, if_pos (by rw [he]; exact h0), he]
theorem AppI.err2 {s u o : Sched} {cs : List Chg} {t : Int} {k : Nat} (h : AppI s cs t k u o) {c : Chg} (hc : cs[k]? = some c) (he : chgE (prevS cs k) c = 0) (h2 : (chgM u c).2 ≠ 0) : appM none s s cs t = (o, (chgM u c).2) := by
  rw [h.eq, dropGet hc, appM, if_neg (by simp [he]), if_pos h2]
theorem AppI.step {s u o : Sched} {cs : List Chg} {t : Int} {k : Nat} (h : AppI s cs t k u o) {c : Chg} (hc : cs[k]? = some c) (he : chgE (prevS cs k) c = 0) (h2 : (chgM u c).2 = 0) : AppI s cs t (k + 1) (chgM u c).1 (if c.slot ≤ t then (chgM u c).1 else o) := by
  refine ⟨(List.getElem?_eq_some_iff.1 hc).1, ?_⟩
  have hp : prevS cs (k + 1) = some c.slot := by simp [prevS, hc]
  rw [h.eq, dropGet hc, appM, if_neg (by simp [he]), if_neg (fun hh => hh h2), hp]
theorem AppI.fin {s u o : Sched} {cs : List Chg} {t : Int} (h : AppI s cs t cs.length u o) : appM none s s cs t = (o, 0) := by
  rw [h.eq, List.drop_length]; rfl
end HM

/- Looking through attempts and rules one by one. -/
namespace HM
open Go Go.RowKit

end HM

/- Deliveries put in, from the end; attempts of the reference. -/
namespace HM
open Go Go.RowKit

end HM

/- How long the reference's runs are. -/
namespace HM
open Go Go.RowKit

end HM
namespace HM
theorem change_app {l : List Flow} {s : Sched} {cs : List Chg} {x : List Rule} {slots : Int} (h : readyM l s x slots = 0) : changeM l s cs x slots = if (applyM s cs 0).2 ≠ 0 then (⟨[], []⟩, (applyM s cs 0).2) else (⟨(playR l (fun n => nowM s cs n) x slots.toNat).atts, (playR l (fun n => nowM s cs n) x slots.toNat).dels⟩, 0) := by
  unfold changeM applyM
  rw [if_neg (by simp [h])]
  by_cases h1 : 1024 < cs.length
  · rw [if_pos h1, if_pos h1, if_pos (show (8 : Int) ≠ 0 by decide)]
  · rw [if_neg h1, if_neg h1, app_err]
end HM

/- Masks: which bits are set, and how many. -/
namespace HM
open Go Go.RowKit

theorem bitI_nat (M j : Nat) : bitI (M : Int) j = if M.testBit j then 1 else 0 := by
  have h : bitI (M : Int) j = ((M / 2 ^ j % 2 : Nat) : Int) := by simp [bitI]
  rw [h, Nat.testBit_eq_decide_div_mod_eq]
  by_cases h2 : M / 2 ^ j % 2 = 1
  · simp [h2]
  · have : M / 2 ^ j % 2 = 0 := by omega
    simp [this]

theorem testBit_sub {M k : Nat} (hM : M < 2 ^ 64) (hb : M.testBit k = true) (j : Nat) (hj : j < 64) : (M - 2 ^ k).testBit j = (M.testBit j && !(k == j)) := by
  have hk : k < 64 := by
    rcases Nat.lt_or_ge k 64 with h | h
    · exact h
    · rw [Nat.testBit_lt_two_pow (Nat.lt_of_lt_of_le hM (Nat.pow_le_pow_right (by omega) h))] at hb; cases hb
  have hp : 2 ^ k < 2 ^ 64 := Nat.pow_lt_pow_right (by omega) hk
  have h1 := bv_andNot (BitVec.ofNat 64 M) (BitVec.ofNat 64 (2 ^ k))
  rw [BitVec.toNat_ofNat, BitVec.toNat_ofNat, Nat.mod_eq_of_lt hM, Nat.mod_eq_of_lt hp, and_pow, if_pos (by rw [Nat.testBit_eq_decide_div_mod_eq] at hb; simpa using hb)] at h1
  rw [← h1, BitVec.testBit_toNat]
  rw [BitVec.getLsbD_and, BitVec.getLsbD_not, BitVec.getLsbD_ofNat, BitVec.getLsbD_ofNat, Nat.testBit_two_pow]
  simp only [hj, decide_true, Bool.true_and]
  cases M.testBit j <;> by_cases e : k = j <;> simp [e]

theorem bitI_clr {m : Int} {k j : Nat} (h0 : 0 ≤ m) (h1 : m < 18446744073709551616) (hj : j < 64) : bitI (clrI m k) j = if k = j then 0 else bitI m j := by
  obtain ⟨M, rfl⟩ : ∃ M : Nat, m = M := ⟨m.toNat, by omega⟩
  have hM : M < 2 ^ 64 := by simpa using (by omega : M < 18446744073709551616)
  unfold clrI
  by_cases hb : M.testBit k = true
  · have e1 : bitI (M : Int) k = 1 := by rw [bitI_nat, if_pos hb]
    rw [if_pos e1]
    have hge : 2 ^ k ≤ M := Nat.ge_two_pow_of_testBit hb
    have e2 : (M : Int) - 2 ^ k = ((M - 2 ^ k : Nat) : Int) := by rw [Int.ofNat_sub hge]; simp
    rw [e2, bitI_nat, bitI_nat, testBit_sub hM hb j hj]
    by_cases e : k = j
    · simp [e]
    · simp [e]
  · have e1 : bitI (M : Int) k = 0 := by rw [bitI_nat, if_neg hb]
    rw [if_neg (by omega)]
    by_cases e : k = j
    · subst e; rw [if_pos rfl, e1]
    · rw [if_neg e]

-- how many

end HM

/- SpareMasks: a cell that is removed is not free anyway. -/
namespace HM
open Go Go.RowKit

/-- the place of a cell is not free -/
def takenF (F : List Int) (c : Cell) : Prop := bitI (F.getD c.slot.toNat 0) c.off.toNat = 0
def sizeF (F : List Int) : Prop := ∀ x ∈ F, 0 ≤ x ∧ x ≤ 65535
theorem sizeF_getD {F : List Int} (h : sizeF F) (i : Nat) : 0 ≤ F.getD i 0 ∧ F.getD i 0 ≤ 65535 := by
  rw [List.getD_eq_getElem?_getD]
  by_cases hi : i < F.length
  · rw [List.getElem?_eq_getElem hi]; exact h _ (List.getElem_mem hi)
  · rw [List.getElem?_eq_none (by omega)]; simp
theorem sizeF_step {F : List Int} (h : sizeF F) (c : Cell) : sizeF (maskStep F c) := fun x hx => by
  rcases List.mem_or_eq_of_mem_set hx with hx | rfl
  · exact h x hx
  · exact clrI_bd (sizeF_getD h _)
theorem step_taken {F : List Int} {c : Cell} (h : takenF F c) : maskStep F c = F := by
  unfold maskStep
  unfold takenF at h
  unfold clrI
  rw [h, if_neg (by decide)]
  apply List.ext_getElem?
  intro i
  rw [List.getElem?_set]
  split
  · rename_i e
    subst e
    split
    · rename_i hl; rw [List.getD_eq_getElem?_getD, List.getElem?_eq_getElem hl]; rfl
    · rename_i hl; rw [List.getElem?_eq_none (by omega)]
  · rfl
theorem taken_step {F : List Int} (hF : sizeF F) (c d : Cell) (hd : d.off.toNat < 64) (h : takenF F d) : takenF (maskStep F c) d := by
  unfold takenF maskStep at *
  rw [List.getD_eq_getElem?_getD, List.getElem?_set]
  split
  · rename_i e
    split
    · simp only [Option.getD_some]
      have := sizeF_getD hF c.slot.toNat
      rw [bitI_clr this.1 (by omega) hd]
      split
      · rfl
      · rw [e]; exact h
    · simp [bitI]
  · rw [← List.getD_eq_getElem?_getD]; exact h
theorem taken_self {F : List Int} (hF : sizeF F) (c : Cell) (hc : c.off.toNat < 64) : takenF (maskStep F c) c := by
  unfold takenF maskStep
  rw [List.getD_eq_getElem?_getD, List.getElem?_set, if_pos rfl]
  split
  · simp only [Option.getD_some]
    have := sizeF_getD hF c.slot.toNat
    rw [bitI_clr this.1 (by omega) hc, if_pos rfl]
  · simp [bitI]
theorem fold_taken {l : List Cell} (hl : ∀ c ∈ l, c.off.toNat < 64) : ∀ {F : List Int}, sizeF F → sizeF (l.foldl maskStep F) ∧ (∀ d : Cell, d.off.toNat < 64 → takenF F d → takenF (l.foldl maskStep F) d) ∧ ∀ c ∈ l, takenF (l.foldl maskStep F) c := by
  induction l with
  | nil => intro F h; exact ⟨h, fun _ _ h => h, fun c hc => by cases hc⟩
  | cons x l ih =>
    intro F h
    obtain ⟨h1, h2, h3⟩ := ih (fun c hc => hl c (List.mem_cons_of_mem _ hc)) (sizeF_step h x)
    rw [List.foldl_cons]
    refine ⟨h1, fun d hd ht => h2 d hd (taken_step h x d hd ht), fun c hc => ?_⟩
    rcases List.mem_cons.1 hc with rfl | hc
    · exact h2 _ (hl _ (List.mem_cons_self ..)) (taken_self h _ (hl _ (List.mem_cons_self ..)))
    · exact h3 c hc
def addsC (cs : List Chg) : List Cell := (cs.filter fun c => c.add).map (·.cell)
theorem form_off {s : Sched} (h : formB s = true) : ∀ c ∈ s.cells, c.off.toNat < 64 := fun c hc => by
  obtain ⟨h1, _, h3⟩ := form_all h
  have := sized_bd h1
  have h4 := h3 c hc
  unfold formedB placedB insB at h4
  simp only [Bool.and_eq_true, decide_eq_true_eq] at h4
  omega
/-- THE LAW: the cells that are removed change no mask -/
theorem during_same : ∀ (cs : List Chg) (p : Option Int) (s : Sched) (F : List Int), formB s = true → sizeF F → (∀ c ∈ s.cells, takenF F c) → (behM p s cs).2 = 0 → (cs.map (·.cell)).foldl maskStep F = (addsC cs).foldl maskStep F
  | [], _, _, _, _, _, _, _ => rfl
  | c :: cs, p, s, F, hs, hF, ht, h => by
    unfold behM at h
    split at h
    · rename_i hc; exact absurd h hc
    split at h
    · rename_i hc; exact absurd h hc
    rename_i h1 h2
    have h2 : (chgM s c).2 = 0 := by omega
    have hform := chgM_form h2
    have hoff : c.cell.off.toNat < 64 := by
      unfold chgM at h2
      split at h2
      · obtain ⟨_, q2, _⟩ := addM_ok (s := s) (c := c.cell) (t := (addM s c.cell).1) (Prod.ext rfl h2)
        unfold formedB placedB insB at q2
        simp only [Bool.and_eq_true, decide_eq_true_eq] at q2
        have := sized_bd (form_all hs).1
        omega
      · unfold remM at h2
        rw [if_neg (by rw [hs]; simp)] at h2
        split at h2
        · cases h2
        · rename_i hh
          exact form_off hs _ (List.mem_of_getElem? (hasC_at (by simpa using hh)))
    rw [List.map_cons, List.foldl_cons]
    unfold addsC
    rw [List.filter_cons]
    by_cases ha : c.add = true
    · rw [if_pos ha, List.map_cons, List.foldl_cons]
      refine during_same cs _ _ _ hform (sizeF_step hF _) (fun d hd => ?_) h
      have hd2 : d = c.cell ∨ d ∈ s.cells := by
        unfold chgM at hd h2
        rw [if_pos ha] at hd h2
        obtain ⟨_, _, _, _, e⟩ := addM_ok (s := s) (c := c.cell) (t := (addM s c.cell).1) (Prod.ext rfl h2)
        rw [e] at hd
        exact insAt_mem.1 hd
      rcases hd2 with rfl | hd2
      · exact taken_self hF _ hoff
      · exact taken_step hF _ _ (form_off hs d hd2) (ht d hd2)
    · rw [if_neg ha]
      have h3 : hasC s c.cell = true ∧ (chgM s c).1 = ⟨s.len, s.offs, delAt s.cells (posC s c.cell)⟩ := by
        unfold chgM at h2 ⊢
        rw [if_neg ha] at h2 ⊢
        unfold remM at h2 ⊢
        rw [if_neg (by rw [hs]; simp)] at h2 ⊢
        split at h2
        · cases h2
        · rename_i hh
          rw [if_neg hh]
          exact ⟨by simpa using hh, rfl⟩
      rw [step_taken (ht _ (List.mem_of_getElem? (hasC_at h3.1)))]
      refine during_same cs _ _ _ hform hF (fun d hd => ht d ?_) h
      rw [h3.2] at hd
      unfold delAt at hd
      rcases List.mem_append.1 hd with hd | hd
      · exact List.mem_of_mem_take hd
      · exact List.mem_of_mem_drop hd
theorem during_law {s : Sched} {cs : List Chg} (hs : formB s = true) (h : (behM none s cs).2 = 0) : (cs.map (·.cell)).foldl maskStep (maskM s s.cells) = (addsC cs).foldl maskStep (maskM s s.cells) := by
  have hsb := sized_bd (form_all hs).1
  have hfull : sizeF (List.replicate s.len.toNat (fullI s)) := fun x hx => by
    rw [List.eq_of_mem_replicate hx]
    have h1 : (2 : Nat) ^ s.offs.toNat ≤ 2 ^ 16 := Nat.pow_le_pow_right (by decide) (by omega)
    have h2 : (0 : Nat) < 2 ^ s.offs.toNat := Nat.pow_pos (by decide)
    have h3 : ((2 ^ s.offs.toNat : Nat) : Int) = (2 : Int) ^ s.offs.toNat := by simp
    unfold fullI
    rw [← h3]
    omega
  obtain ⟨h1, _, h3⟩ := fold_taken (form_off hs) hfull
  exact during_same cs none s _ hs h1 h3 h
end HM

/- SpareMasks: the answers; rows of numbers with a tail. -/
namespace HM
open Go Go.RowKit

/-- the answer of During -/
def duringM (s : Sched) (cs : List Chg) : List Int × Int := if formB s = false then ([], 1) else if (applyM s cs 0).2 ≠ 0 then ([], (applyM s cs 0).2) else ((addsC cs).foldl maskStep (maskM s s.cells), 0)
theorem ready0 (s : Sched) : readyM [] s [] 0 = if formB s = false then 1 else 0 := by
  have e1 : (flowsE 32 []).2 = 0 := by decide
  have e2 : (scriptM []).2 = 0 := by decide
  unfold readyM
  rw [e1, e2]
  cases formB s <;> simp
theorem during_err (s : Sched) (cs : List Chg) : (changeM [] s cs [] 0).2 = (duringM s cs).2 := by
  unfold duringM
  by_cases h : formB s = false
  · rw [if_pos h]
    unfold changeM
    rw [ready0, if_pos h]
    rfl
  · have hr : readyM [] s [] 0 = 0 := by rw [ready0, if_neg h]
    rw [if_neg h, change_app hr]
    split <;> rfl
theorem chg_shape {s : Sched} {c : Chg} (hs : formB s = true) (h : (chgM s c).2 = 0) : formedB s c.cell = true ∧ (chgM s c).1.len = s.len ∧ (chgM s c).1.offs = s.offs := by
  unfold chgM at h ⊢
  by_cases ha : c.add = true
  · rw [if_pos ha] at h ⊢
    obtain ⟨_, q2, _, _, e⟩ := addM_ok (s := s) (c := c.cell) (t := (addM s c.cell).1) (Prod.ext rfl h)
    rw [e]
    exact ⟨q2, rfl, rfl⟩
  · rw [if_neg ha] at h ⊢
    unfold remM at h ⊢
    rw [if_neg (by rw [hs]; simp)] at h ⊢
    split at h
    · cases h
    · rename_i hh
      rw [if_neg hh]
      exact ⟨(form_all hs).2.2 _ (List.mem_of_getElem? (hasC_at (by simpa using hh))), rfl, rfl⟩
theorem beh_formed : ∀ (cs : List Chg) (p : Option Int) (s : Sched), formB s = true → (behM p s cs).2 = 0 → ∀ c ∈ cs, formedB s c.cell = true
  | [], _, _, _, _, c, hc => by cases hc
  | c :: cs, p, s, hs, h, d, hd => by
    unfold behM at h
    split at h
    · rename_i hc; exact absurd h hc
    split at h
    · rename_i hc; exact absurd h hc
    rename_i h1 h2
    have h2 : (chgM s c).2 = 0 := by omega
    obtain ⟨q1, q2, q3⟩ := chg_shape hs h2
    rcases List.mem_cons.1 hd with rfl | hd
    · exact q1
    · rw [← formedB_len q2 q3]
      exact beh_formed cs _ _ (chgM_form h2) h d hd
theorem during_ok {s : Sched} {cs : List Chg} (h : (duringM s cs).2 = 0) : formB s = true ∧ (cs.map (·.cell)).foldl maskStep (maskM s s.cells) = (duringM s cs).1 ∧ ∀ c ∈ cs, formedB s c.cell = true := by
  unfold duringM at h ⊢
  split at h
  · cases h
  rename_i hf
  rw [if_neg hf]
  have hf : formB s = true := by simpa using hf
  split at h
  · rename_i hh; exact absurd h hh
  rename_i ha
  rw [if_neg ha]
  have hb : (behM none s cs).2 = 0 := by
    have ha : (applyM s cs 0).2 = 0 := by omega
    unfold applyM at ha
    split at ha
    · cases ha
    · rwa [app_err] at ha
  exact ⟨hf, during_law hf hb, beh_formed cs none s hf hb⟩
theorem rowX_ld {l : List Int} {ex : List AV} {i : Int} {x : Int} (h : l[i.toNat]? = some x) (n : Nat) (hn : n = 1) : (l.map encI ++ ex)[0 + i.toNat * n]? = some (encI x) := by
  have hl := (List.getElem?_eq_some_iff.1 h).1
  rw [List.getElem?_append_left (by subst hn; rw [List.length_map]; omega)]
  exact rowI_ld h n hn
theorem rowX_st {l : List Int} {ex : List AV} {i : Int} (v : Int) (h : i.toNat < l.length) (n : Nat) (hn : n = 1) : splice (l.map encI ++ ex) (0 + i.toNat * n) [encI v] = (l.set i.toNat v).map encI ++ ex := by
  subst hn
  rw [Nat.zero_add, Nat.mul_one, splice_one, List.set_append_left _ _ (by simpa using h), List.map_set]
theorem rowX_fit {i : Int} {l : List Int} {ex : List AV} (h0 : 0 ≤ i) (h : i < l.length) (n : Nat) (hn : n = 1) (m : Nat) (hm : m = 1) : 0 + i.toNat * n + m ≤ (l.map encI ++ ex).length := by
  subst hn; subst hm; rw [List.length_append, List.length_map]; omega
theorem mask_size {s : Sched} (hs : formB s = true) : sizeF (maskM s s.cells) := by
  have hsb := sized_bd (form_all hs).1
  have hfull : sizeF (List.replicate s.len.toNat (fullI s)) := fun x hx => by
    rw [List.eq_of_mem_replicate hx]
    have h1 : (2 : Nat) ^ s.offs.toNat ≤ 2 ^ 16 := Nat.pow_le_pow_right (by decide) (by omega)
    have h2 : (0 : Nat) < 2 ^ s.offs.toNat := Nat.pow_pos (by decide)
    have h3 : ((2 ^ s.offs.toNat : Nat) : Int) = (2 : Int) ^ s.offs.toNat := by simp
    unfold fullI
    rw [← h3]
    omega
  exact (fold_taken (form_off hs) hfull).1
theorem fold_mlen (l : List Cell) : ∀ f : List Int, (l.foldl maskStep f).length = f.length := by
  induction l with
  | nil => intro f; rfl
  | cons c l ih => intro f; rw [List.foldl_cons, ih]; unfold maskStep; rw [List.length_set]
theorem fold_mtake {l : List Cell} {k : Nat} {c : Cell} (h : l[k]? = some c) (f : List Int) : (l.take (k + 1)).foldl maskStep f = maskStep ((l.take k).foldl maskStep f) c := by
  rw [take_succ h, List.foldl_append]; rfl
theorem addsC_take {cs : List Chg} {k : Nat} {c : Chg} (h : cs[k]? = some c) : addsC (cs.take (k + 1)) = addsC (cs.take k) ++ if c.add = true then [c.cell] else [] := by
  unfold addsC
  rw [take_succ h, List.filter_append, List.map_append]
  congr 1
  rw [List.filter_cons, List.filter_nil]
  split <;> rfl
theorem undefs_okk (k m : Nat) : ∀ n : Nat, okks k m (List.replicate n AV.undef)
  | 0 => trivial
  | n + 1 => ⟨trivial, undefs_okk k m n⟩
theorem okks_app {k m : Nat} : ∀ {a b : List AV}, okks k m a → okks k m b → okks k m (a ++ b)
  | [], _, _, hb => hb
  | _ :: _, _, ha, hb => ⟨ha.1, okks_app ha.2 hb⟩
theorem rowX_okk (k m : Nat) (l : List Int) (n : Nat) : okks k m (l.map encI ++ List.replicate n AV.undef) := okks_app (rowI_okk k m l) (undefs_okk k m n)
theorem rowX_fzb {S : St} {id n : Nat} {l : List Int} {ex : List AV} {t : TypeId} (h : S.bx[id]? = some (.cells (l.map encI ++ ex) t)) (hn : l.length = n) : fzb S (.vsl id 0 n 1) = some (encIs l) := by
  subst hn
  unfold fzb
  rw [h]
  simp only
  rw [if_pos ⟨by simp, Nat.le_refl _⟩, List.drop_zero, Nat.mul_one, List.take_left' (by simp), fzs_rowI]
  simp only [Option.bind_some]
  rw [if_pos (by simp [encI, AV.isCell])]
  rfl
end HM

/- A slot of a run: its beginning and its end. -/
namespace HM
open Go Go.RowKit
theorem SimE.start {l : List Flow} (hl : FlowsOk l) {t : Int} (ht : t + 1 ≤ 1099511627776) {q : PL} {r : RunL} (h : SimE l t q r) : Sim l (t + 1) q.dels ⟨releaseS l (t + 1) q.sts, q.atts, q.dels⟩ r := by
  have hslot : ∀ d ∈ q.dels, d.slot < t + 1 := fun d hd => by
    obtain ⟨b, hb, h1, _⟩ := h.run.dl d hd
    have := (h.run.at_ b hb).2.1
    omega
  refine ⟨by simp [releaseS, h.len], fun i f p hf hp => ?_, ⟨fun b hb => ?_, h.run.dl⟩, h.at_, ⟨[], [], by simp, by simp [h.dl], .refl _, .nil, by simp⟩, hslot⟩
  · simp only [releaseS, List.getElem?_zipWith, hf] at hp
    cases hq : q.sts[i]? with
    | none => rw [hq] at hp; cases hp
    | some p0 =>
      rw [hq] at hp
      simp only [Option.some.injEq] at hp
      subst hp
      exact (h.fl i f p0 hf hq).release hl ht h.run hf
  · obtain ⟨g1, g2, g3⟩ := h.run.at_ b hb
    exact ⟨g1, by omega, g3⟩
theorem sorted_eq {l l' ds : List Del} (hp : l'.Perm l) (h : l'.Pairwise fun a b => a.flow < b.flow) (hd : ds.Perm l) (hs : ds.Pairwise fun a b => a.flow ≤ b.flow) : ds = l' := by
  refine List.Perm.eq_of_pairwise (le := fun a b : Del => a.flow ≤ b.flow) (fun a b ha hb h1 h2 => ?_) hs (h.imp fun h => Int.le_of_lt h) (hd.trans hp.symm)
  have ha' : a ∈ l' := hp.symm.subset (hd.subset ha)
  obtain ⟨i, hi⟩ := List.getElem?_of_mem ha'
  obtain ⟨j, hj⟩ := List.getElem?_of_mem hb
  obtain ⟨hi1, hi2⟩ := List.getElem?_eq_some_iff.1 hi
  obtain ⟨hj1, hj2⟩ := List.getElem?_eq_some_iff.1 hj
  rcases Nat.lt_trichotomy i j with hij | rfl | hij
  · have := List.pairwise_iff_getElem.1 h i j hi1 hj1 hij
    rw [hi2, hj2] at this; omega
  · rw [hi] at hj; injection hj
  · have := List.pairwise_iff_getElem.1 h j i hj1 hi1 hij
    rw [hi2, hj2] at this; omega
/-- what an attempt asks of a state -/
theorem Sim.ask {l : List Flow} {t : Int} {base : List Del} {q : PL} {r : RunL} (h : Sim l t base q r) : (∀ (i : Nat) (p : PS), q.sts[i]? = some p → p.ok) ∧ (∀ (i : Nat) (p : PS), q.sts[i]? = some p → ¬ p.frame < 0 → ∀ a b, 0 ≤ (p.tries.get [a, b]).getD 0 ∧ (p.tries.get [a, b]).getD 0 ≤ (q.atts.length : Int)) := by
  have hf : ∀ (i : Nat) (p : PS), q.sts[i]? = some p → ∃ f, l[i]? = some f := fun i p hp => by
    have h1 := (List.getElem?_eq_some_iff.1 hp).1
    exact ⟨_, List.getElem?_eq_getElem (by rw [← h.len]; exact h1)⟩
  refine ⟨fun i p hp => ?_, fun i p hp h0 a b => ?_⟩
  · obtain ⟨f, hf⟩ := hf i p hp
    exact (h.fl i f p hf hp).ok
  · obtain ⟨f, hf⟩ := hf i p hp
    have := (h.fl i f p hf hp).tr (by omega) ⟨0, 0, a, b, f.id⟩ rfl
    simp only at this
    rw [this]
    have h2 : countR q.atts ⟨0, 0, a, b, f.id⟩ p.frame ≤ q.atts.length := List.countP_le_length
    omega
/-- behind a slot's attempts -/
theorem Sim.slotEnd {l : List Flow} {t : Int} {q q1 : PL} {r1 : RunL} (h : Sim l t q.dels q1 r1) : ∃ new, q1.dels = q.dels ++ new ∧ ∀ ds, ds.Perm new → (ds.Pairwise fun a b => a.flow ≤ b.flow) → q1.dels.take q.dels.length ++ (q1.dels.drop q.dels.length).mergeSort (fun a b => decide (a.flow ≤ b.flow)) = q.dels ++ ds := by
  obtain ⟨new, old, d1, d2, d3, d4, d5⟩ := h.dl
  refine ⟨new, d1, fun ds hp hs => ?_⟩
  have e1 : q1.dels.take q.dels.length = q.dels := by rw [d1]; simp
  have e2 : q1.dels.drop q.dels.length = new := by rw [d1]; simp
  rw [e1, e2, sort_eq d3 d4, sorted_eq d3 d4 hp hs]
end HM

/- A run's beginning in a store. -/
namespace HM
open Go Go.RowKit
theorem delOk : EncOk Del.av 3 := ⟨fun _ => rfl, fun _ => rfl, fun _ => rfl, fun _ => rfl, by decide⟩
theorem states0 (l : List Flow) (g : Nat → Nat → Nat) (z : AV) (hz : ∀ h : Nat → Nat, stAV h PS.first = z) : statesE g (l.map fun _ => PS.first) = List.replicate l.length z := by
  apply List.ext_getElem?
  intro i
  simp only [statesE, List.getElem?_mapIdx, List.getElem?_map, List.getElem?_replicate]
  cases hi : l[i]? with
  | none =>
    have := List.getElem?_eq_none_iff.1 hi
    rw [if_neg (by omega)]; rfl
  | some f =>
    have := (List.getElem?_eq_some_iff.1 hi).1
    rw [if_pos this]
    simp [hz]
end HM
