/- Runs and changes in plain words. -/
import Derived.Test.YtnhelkbmeggpkaaGreatDoorDa
import Derived.Test.YtnhelkbmeggpkaaGreatDoorFh
import Derived.Test.YtnhelkbmeggpkaaGreatDoorFg
/- A flow on its own; a run without a script. -/
namespace HM
open Go Go.RowKit

def partA (id : Int) (r : RunL) : RunL := ⟨r.atts.filter fun a => a.cell.flow == id, r.dels.filter fun d => d.flow == id⟩
theorem findF_one (f : Flow) (id : Int) : findF [f] id = if f.id = id then 0 else -1 := by
  by_cases h : f.id = id
  · rw [if_pos h]
    exact idxF_some (k := 0) (by simp) (fun j y hj => by omega) rfl (by simpa using h)
  · rw [if_neg h]
    refine idxF_none (fun j y hj hy => ?_)
    cases j with
    | zero => simp at hy; subst hy; simpa using h
    | succ j => simp at hy
theorem any_part {id : Int} {p : Att → Bool} {l : List Att} (h : ∀ a, p a = true → a.cell.flow = id) : (l.filter fun a => a.cell.flow == id).any p = l.any p := by
  rw [Bool.eq_iff_iff, List.any_eq_true, List.any_eq_true]
  constructor
  · rintro ⟨a, ha, hp⟩
    exact ⟨a, (List.mem_filter.1 ha).1, hp⟩
  · rintro ⟨a, ha, hp⟩
    exact ⟨a, List.mem_filter.2 ⟨ha, by simpa using h a hp⟩, hp⟩
theorem count_part {id : Int} {p : Att → Bool} {l : List Att} (h : ∀ a, p a = true → a.cell.flow = id) : (l.filter fun a => a.cell.flow == id).countP p = l.countP p := by
  rw [List.countP_filter]
  refine List.countP_congr fun a _ => ?_
  simp only [Bool.and_eq_true, beq_iff_eq]
  exact ⟨fun hh => hh.1, fun hh => ⟨hh, h a hh⟩⟩
theorem tw_all {α : Type} {p : α → Bool} : ∀ {l : List α} {x : α}, x ∈ l.takeWhile p → p x = true
  | [], _, h => by simp at h
  | a :: l, x, h => by
    rw [List.takeWhile_cons] at h
    split at h
    · rename_i ha
      rcases List.mem_cons.1 h with rfl | h
      · exact ha
      · exact tw_all h
    · simp at h
theorem insD_part (d : Del) (ds : List Del) : (insD d ds).filter (fun e => e.flow == d.flow) = insD d (ds.filter fun e => e.flow == d.flow) := by
  have h1 : ∀ e ∈ (ds.reverse.takeWhile (laterD d)).reverse, (e.flow == d.flow) = false := by
    intro e he
    have := tw_all (List.mem_reverse.1 he)
    simp only [laterD, Bool.and_eq_true, decide_eq_true_eq] at this
    simp; omega
  have h2 : ((ds.reverse.takeWhile (laterD d)).reverse).filter (fun e => e.flow == d.flow) = [] := by
    rw [List.filter_eq_nil_iff]
    intro e he
    simp [h1 e he]
  have h3 : ds = (ds.reverse.dropWhile (laterD d)).reverse ++ (ds.reverse.takeWhile (laterD d)).reverse := by
    rw [← List.reverse_append, List.takeWhile_append_dropWhile, List.reverse_reverse]
  have h4 : ds.filter (fun e => e.flow == d.flow) = ((ds.reverse.dropWhile (laterD d)).reverse).filter (fun e => e.flow == d.flow) := by
    conv => lhs; rw [h3]
    rw [List.filter_append, h2, List.append_nil]
  have h5 : ∀ e ∈ (ds.filter fun e => e.flow == d.flow).reverse, laterD d e = false := by
    intro e he
    have := (List.mem_filter.1 (List.mem_reverse.1 he)).2
    simp only [beq_iff_eq] at this
    simp [laterD, this]
  have h6 : (ds.filter fun e => e.flow == d.flow).reverse.takeWhile (laterD d) = [] ∧ (ds.filter fun e => e.flow == d.flow).reverse.dropWhile (laterD d) = (ds.filter fun e => e.flow == d.flow).reverse := by
    cases hc : (ds.filter fun e => e.flow == d.flow).reverse with
    | nil => exact ⟨rfl, rfl⟩
    | cons e es =>
      have := h5 e (by rw [hc]; simp)
      rw [List.takeWhile_cons, List.dropWhile_cons, this]
      exact ⟨rfl, rfl⟩
  have e1 : insD d (ds.filter fun e => e.flow == d.flow) = (ds.filter fun e => e.flow == d.flow) ++ [d] := by
    rw [insD, h6.1, h6.2, List.reverse_reverse]; rfl
  rw [e1, insD, List.filter_append, List.filter_cons, if_pos (by simp), h2, ← h4]
theorem insD_other {id : Int} (d : Del) (ds : List Del) (h : d.flow ≠ id) : (insD d ds).filter (fun e => e.flow == id) = ds.filter fun e => e.flow == id := by
  have h3 : ds = (ds.reverse.dropWhile (laterD d)).reverse ++ (ds.reverse.takeWhile (laterD d)).reverse := by
    rw [← List.reverse_append, List.takeWhile_append_dropWhile, List.reverse_reverse]
  rw [insD, List.filter_append, List.filter_cons, if_neg (by simpa using h)]
  conv => rhs; rw [h3]
  rw [List.filter_append]
theorem attempt_part {l : List Flow} (hl : FlowsOk l) {i : Nat} {f : Flow} (hf : l[i]? = some f) (x : List Rule) (t : Int) (r : RunL) (c : Cell) : partA f.id (attemptR l x t r c) = attemptR [f] x t (partA f.id r) c := by
  by_cases hc : f.id = c.flow
  · have h1 : findF l c.flow = (i : Int) := by rw [← hc]; exact hl.find hf
    have h2 : findF [f] c.flow = 0 := by rw [findF_one, if_pos hc]
    unfold attemptR
    rw [h1, h2, if_neg (by omega), if_neg (by omega), Int.toNat_natCast, hf]
    simp only [Int.toNat_zero, List.getElem?_cons_zero]
    have e1 : ∀ n, holdsR f (partA f.id r).atts c.src n t = holdsR f r.atts c.src n t := fun n => by
      unfold holdsR partA
      rw [any_part]
      intro a ha
      simp only [gotA, Bool.and_eq_true, beq_iff_eq] at ha
      exact ha.1.1.1.1
    have e2 : ∀ n, ackedR (partA f.id r).atts c n t = ackedR r.atts c n t := fun n => by
      unfold ackedR partA
      rw [any_part]
      intro a ha
      simp only [onA, Bool.and_eq_true, beq_iff_eq] at ha
      rw [hc]; exact ha.1.1.1.1.1
    have e3 : ∀ n, countR (partA f.id r).atts c n = countR r.atts c n := fun n => by
      unfold countR partA
      rw [count_part]
      intro a ha
      simp only [onA, Bool.and_eq_true, beq_iff_eq] at ha
      rw [hc]; exact ha.1.1.1
    have e4 : ∀ n, hadR (partA f.id r).dels c.flow n = hadR r.dels c.flow n := fun n => by
      unfold hadR partA
      rw [Bool.eq_iff_iff, List.any_eq_true, List.any_eq_true]
      constructor
      · rintro ⟨a, ha, hp⟩
        exact ⟨a, (List.mem_filter.1 ha).1, hp⟩
      · rintro ⟨a, ha, hp⟩
        refine ⟨a, List.mem_filter.2 ⟨ha, ?_⟩, hp⟩
        simp only [Bool.and_eq_true, beq_iff_eq] at hp
        rw [beq_iff_eq, hc]; exact hp.1
    rw [e1, e2, e3, e4]
    split
    · rfl
    · unfold partA
      simp only
      congr 1
      · rw [List.filter_append, List.filter_cons, if_pos (by simp [hc])]; rfl
      · split
        · have := insD_part ⟨c.flow, (curM f t).1, t⟩ r.dels
          simp only [← hc] at this ⊢
          exact this
        · rfl
  · have h2 : findF [f] c.flow = -1 := by rw [findF_one, if_neg hc]
    have e0 : attemptR [f] x t (partA f.id r) c = partA f.id r := by
      unfold attemptR
      rw [h2, if_pos (by omega)]
    rw [e0]
    unfold attemptR
    split
    · rfl
    split
    · split
      · rfl
      · unfold partA
        simp only
        congr 1
        · rw [List.filter_append, List.filter_cons, if_neg (by simpa using fun h => hc h.symm)]; simp
        · split
          · exact insD_other _ _ (fun h => hc h.symm)
          · rfl
    · rfl
theorem fold_part {l : List Flow} (hl : FlowsOk l) {i : Nat} {f : Flow} (hf : l[i]? = some f) (x : List Rule) (t : Int) : ∀ (cs : List Cell) (r : RunL), partA f.id (cs.foldl (attemptR l x t) r) = cs.foldl (attemptR [f] x t) (partA f.id r)
  | [], _ => rfl
  | c :: cs, r => by
    rw [List.foldl_cons, List.foldl_cons, fold_part hl hf x t cs, attempt_part hl hf]
/-- A FLOW ON ITS OWN has the same attempts and deliveries. -/
theorem playR_part {l : List Flow} (hl : FlowsOk l) {i : Nat} {f : Flow} (hf : l[i]? = some f) (sc : Nat → Sched) (x : List Rule) : ∀ n, partA f.id (playR l sc x n) = playR [f] sc x n
  | 0 => rfl
  | n + 1 => by
    show partA f.id (slotR l (sc n) x (playR l sc x n) n) = slotR [f] (sc n) x (playR [f] sc x n) n
    rw [← playR_part hl hf sc x n]
    exact fold_part hl hf x n _ _
theorem ready_one {l : List Flow} {s : Sched} {x : List Rule} {slots : Int} (h : readyM l s x slots = 0) {i : Nat} {f : Flow} (hf : l[i]? = some f) : readyM [f] s x slots = 0 := by
  obtain ⟨h1, h2, h3, h4, h5⟩ := ready_all h
  have hF := flowsOk_of h1
  have hone : (flowsE 32 [f]).2 = 0 := by
    rw [flowsE, if_neg (by omega), if_neg (by simp), firstAt_ok]
    intro k hk
    have : k = 0 := by simpa using hk
    subst this
    unfold flowAt
    simp [hF.ok i f hf, flowO]
  unfold readyM
  rw [if_neg (by simp [hone, h2, h3]), if_neg (by omega)]
theorem ready_quiet {l : List Flow} {s : Sched} {x : List Rule} {slots : Int} (h : readyM l s x slots = 0) : readyM l s [] slots = 0 := by
  obtain ⟨h1, h2, h3, h4, h5⟩ := ready_all h
  unfold readyM
  rw [if_neg (by simp [h1, h2, show (scriptM []).2 = 0 from rfl]), if_neg (by omega)]

-- without a script
theorem attempt_quiet {l : List Flow} {t : Int} {r : RunL} (h : ∀ a ∈ r.atts, a.out = 1) (c : Cell) : ∀ a ∈ (attemptR l [] t r c).atts, a.out = 1 := by
  unfold attemptR
  split
  · exact h
  split
  · split
    · exact h
    · intro a ha
      rcases List.mem_append.1 ha with ha | ha
      · exact h a ha
      · rw [List.mem_singleton] at ha
        rw [ha]
        rfl
  · exact h
theorem fold_quiet {l : List Flow} {t : Int} : ∀ (cs : List Cell) {r : RunL}, (∀ a ∈ r.atts, a.out = 1) → ∀ a ∈ (cs.foldl (attemptR l [] t) r).atts, a.out = 1
  | [], _, h => h
  | c :: cs, _, h => fold_quiet cs (attempt_quiet h c)
theorem playR_quiet (l : List Flow) (sc : Nat → Sched) : ∀ n, ∀ a ∈ (playR l sc [] n).atts, a.out = 1
  | 0 => by simp [playR]
  | n + 1 => fold_quiet _ (playR_quiet l sc n)
theorem gen_acked {l : List Flow} {R : List Att} {t : Int} {c : Cell} {k : Int × Int × Cell} (h : genB l R t c = some k) : ackedR R c k.2.1 t = false := by
  unfold genB at h
  split at h
  · cases h
  split at h
  · split at h
    · cases h
    · rename_i hn
      injection h with h
      subst h
      simp only
      cases hk : ackedR R c (curM _ t).1 t with
      | false => rfl
      | true => exact absurd (.inr (.inr (.inr hk))) hn
  · cases h
/-- Without a script a frame is sent once on a link. -/
theorem quiet_once (l : List Flow) (sc : Nat → Sched) (N : Nat) {y z : Att} (hy : y ∈ (playR l sc [] N).atts) (hz : z ∈ (playR l sc [] N).atts) : (decide (z.slot < y.slot) && (z.frame == y.frame && (z.cell.flow == y.cell.flow && (z.cell.src == y.cell.src && z.cell.dst == y.cell.dst)))) = false := by
  have hgen := playR_gen l sc [] N N (Nat.le_refl _)
  have hm : keyA y ∈ (playR l sc [] N).atts.map keyA := List.mem_map_of_mem hy
  rw [hgen, List.mem_flatMap] at hm
  obtain ⟨t, _, ht⟩ := hm
  obtain ⟨c, hc, hg⟩ := List.mem_filterMap.1 ht
  obtain ⟨h1, h2⟩ := genB_cell hg
  have hk := gen_acked hg
  simp only [keyA] at h1 h2 hk
  subst h2
  rw [← h1] at hk
  have hout := playR_quiet l sc N z hz
  cases hb : (decide (z.slot < y.slot) && (z.frame == y.frame && (z.cell.flow == y.cell.flow && (z.cell.src == y.cell.src && z.cell.dst == y.cell.dst)))) with
  | false => rfl
  | true =>
    exfalso
    simp only [Bool.and_eq_true, decide_eq_true_eq, beq_iff_eq] at hb
    unfold ackedR at hk
    rw [List.any_eq_false] at hk
    exact hk z hz (by simp [onA, hb, hout])
end HM

/- The schedules behind changes, one by one; runs that are changed. -/
namespace HM
open Go Go.RowKit

def prevS (cs : List Chg) (k : Nat) : Option Int := match k with
  | 0 => none
  | j + 1 => (cs[j]?).map (·.slot)
structure BehI (s : Sched) (cs : List Chg) (k : Nat) (bs : List Sched) : Prop where
  le : k ≤ cs.length
  len : bs.length = k
  eq : behM none s cs = (bs ++ (behM (prevS cs k) (bs.getLastD s) (cs.drop k)).1, (behM (prevS cs k) (bs.getLastD s) (cs.drop k)).2)
theorem BehI.zero (s : Sched) (cs : List Chg) : BehI s cs 0 [] := ⟨Nat.zero_le _, rfl, rfl⟩
theorem BehI.last {s : Sched} {cs : List Chg} {k : Nat} {bs : List Sched} (h : BehI s cs k bs) : (s :: bs)[k]? = some (bs.getLastD s) := by
  have hl := h.len
  subst hl
  cases bs with
  | nil => rfl
  | cons b bs => simp [List.getLastD_cons, List.getLast_eq_getElem, List.getLastD_eq_getLast?, List.getLast?_eq_getElem?]
theorem BehI.err1 {s : Sched} {cs : List Chg} {k : Nat} {bs : List Sched} (h : BehI s cs k bs) {c : Chg} (hc : cs[k]? = some c) (he : chgE (prevS cs k) c ≠ 0) : (behM none s cs).2 = chgE (prevS cs k) c := by
  rw [h.eq, dropGet hc]
  simp only [behM]
  rw [if_pos he]
theorem BehI.err2 {s : Sched} {cs : List Chg} {k : Nat} {bs : List Sched} (h : BehI s cs k bs) {c : Chg} (hc : cs[k]? = some c) (he : chgE (prevS cs k) c = 0) (h2 : (chgM (bs.getLastD s) c).2 ≠ 0) : (behM none s cs).2 = (chgM (bs.getLastD s) c).2 := by
  rw [h.eq, dropGet hc]
  simp only [behM]
  rw [if_neg (by simp [he]), if_pos h2]
theorem BehI.step {s : Sched} {cs : List Chg} {k : Nat} {bs : List Sched} (h : BehI s cs k bs) {c : Chg} (hc : cs[k]? = some c) (he : chgE (prevS cs k) c = 0) (h2 : (chgM (bs.getLastD s) c).2 = 0) : BehI s cs (k + 1) (bs ++ [(chgM (bs.getLastD s) c).1]) := by
  refine ⟨(List.getElem?_eq_some_iff.1 hc).1, by rw [List.length_append, h.len]; rfl, ?_⟩
  have hl : (bs ++ [(chgM (bs.getLastD s) c).1]).getLastD s = (chgM (bs.getLastD s) c).1 := by simp
  have e1 : behM (prevS cs k) (bs.getLastD s) (c :: cs.drop (k + 1)) = ((chgM (bs.getLastD s) c).1 :: (behM (some c.slot) (chgM (bs.getLastD s) c).1 (cs.drop (k + 1))).1, (behM (some c.slot) (chgM (bs.getLastD s) c).1 (cs.drop (k + 1))).2) := by
    rw [behM, if_neg (by simp [he]), if_neg (fun hh => hh h2)]
  have hp : prevS cs (k + 1) = some c.slot := by simp [prevS, hc]
  rw [h.eq, dropGet hc, e1, hl, hp]
  simp
theorem BehI.fin {s : Sched} {cs : List Chg} {bs : List Sched} (h : BehI s cs cs.length bs) : behM none s cs = (bs, 0) := by
  rw [h.eq, List.drop_length]
  simp [behM]
theorem chgE_neg {p : Option Int} {c : Chg} (h : c.slot < 0) : chgE p c = 2 := by unfold chgE; rw [if_pos h]
theorem chgE_first {cs : List Chg} {c : Chg} (h : ¬ c.slot < 0) : chgE (prevS cs 0) c = 0 := by unfold chgE prevS; rw [if_neg h]
theorem chgE_next {cs : List Chg} {c d : Chg} {j : Nat} (h : ¬ c.slot < 0) (hd : cs[j]? = some d) : chgE (prevS cs (j + 1)) c = if c.slot < d.slot then 5 else 0 := by
  have hp : prevS cs (j + 1) = some d.slot := by simp [prevS, hd]
  rw [hp]; unfold chgE; rw [if_neg h]
theorem uptoC_filter (cs : List Chg) (n : Int) : (cs.filter fun x => !decide (n < x.slot)).length = uptoC cs n := by
  unfold uptoC
  rw [List.countP_eq_length_filter]
  congr 1
  refine List.filter_congr fun x _ => ?_
  rw [Bool.eq_iff_iff]; simp
theorem change_V {l : List Flow} {s : Sched} {cs : List Chg} {x : List Rule} {slots : Int} (h : readyM l s x slots = 0) (h2 : ¬ 1024 < cs.length) (h3 : (behM none s cs).2 = 0) : changeM l s cs x slots = (⟨(playV l (fun n => nowM s cs n) x slots.toNat).atts, (playV l (fun n => nowM s cs n) x slots.toNat).dels⟩, 0) := by
  obtain ⟨r1, r2, r3, r4, r5⟩ := ready_all h
  have hs := playV_R (flowsOk_of r1) (fun n => nowM s cs n) x slots.toNat (by omega)
  unfold changeM
  rw [if_neg (by simp [h]), if_neg h2, if_neg (by simp [h3]), hs.at_, hs.dl]
end HM

/- Where two runs differ. -/
namespace HM
open Go Go.RowKit

def attEqB (a b : Att) : Bool := a.slot == b.slot && (a.frame == b.frame && ((a.cell.slot == b.cell.slot && (a.cell.off == b.cell.off && (a.cell.src == b.cell.src && (a.cell.dst == b.cell.dst && (a.cell.flow == b.cell.flow && true))))) && (a.out == b.out && true)))
theorem attEqB_iff {a b : Att} : attEqB a b = true ↔ a = b := by
  obtain ⟨a1, a2, ⟨c1, c2, c3, c4, c5⟩, a4⟩ := a
  obtain ⟨b1, b2, ⟨d1, d2, d3, d4, d5⟩, b4⟩ := b
  simp [attEqB, and_assoc]
def delEqB (a b : Del) : Bool := a.flow == b.flow && (a.frame == b.frame && (a.slot == b.slot && true))
theorem delEqB_iff {a b : Del} : delEqB a b = true ↔ a = b := by
  obtain ⟨a1, a2, a3⟩ := a
  obtain ⟨b1, b2, b3⟩ := b
  simp [delEqB]
def diffAt (a b : List Att) (i : Nat) : Bool := match a[i]?, b[i]? with
  | some x, some y => !attEqB x y
  | _, _ => true
def sameM (a b : RunL) : Int := match (List.range (max a.atts.length b.atts.length)).find? (diffAt a.atts b.atts) with
  | some i => i
  | none => if a.dels = b.dels then -1 else a.atts.length
theorem sameM_hit {a b : RunL} {k : Nat} (hk : k < max a.atts.length b.atts.length) (hinv : ∀ j, j < k → diffAt a.atts b.atts j = false) (h : diffAt a.atts b.atts k = true) : sameM a b = k := by
  have : (List.range (max a.atts.length b.atts.length)).find? (diffAt a.atts b.atts) = some k := by
    refine find_hit (k := k) (fun j y hj hy => ?_) (by rw [List.getElem?_range hk]) h
    have : y = j := by
      rw [List.getElem?_range (by omega)] at hy; injection hy with hy; exact hy.symm
    subst this
    exact hinv _ hj
  unfold sameM
  rw [this]
theorem sameM_miss {a b : RunL} (hinv : ∀ j, j < max a.atts.length b.atts.length → diffAt a.atts b.atts j = false) : sameM a b = if a.dels = b.dels then -1 else (a.atts.length : Int) := by
  have : (List.range (max a.atts.length b.atts.length)).find? (diffAt a.atts b.atts) = none := by
    refine find_miss fun j y hy => ?_
    have hj := (List.getElem?_eq_some_iff.1 hy).1
    rw [List.length_range] at hj
    have : y = j := by
      rw [List.getElem?_range hj] at hy; injection hy with hy; exact hy.symm
    subst this
    exact hinv _ hj
  unfold sameM
  rw [this]
theorem sameM_refl (a : RunL) : sameM a a = -1 := by
  rw [sameM_miss, if_pos rfl]
  intro j hj
  have hj' : j < a.atts.length := by omega
  unfold diffAt
  rw [List.getElem?_eq_getElem hj']
  simp [attEqB_iff.2]
theorem diffAt_at {a b : List Att} {k : Nat} {x y : Att} (hx : a[k]? = some x) (hy : b[k]? = some y) : diffAt a b k = !attEqB x y := by unfold diffAt; rw [hx, hy]
theorem diffAt_left {a b : List Att} {k : Nat} (h : a.length ≤ k) : diffAt a b k = true := by unfold diffAt; rw [List.getElem?_eq_none h]
theorem diffAt_right {a b : List Att} {k : Nat} (h : b.length ≤ k) : diffAt a b k = true := by
  unfold diffAt
  rw [List.getElem?_eq_none h]
  cases a[k]? <;> rfl
theorem eq_of_at {α : Type} {a b : List α} (hl : a.length = b.length) (h : ∀ (j : Nat) x y, j < a.length → a[j]? = some x → b[j]? = some y → x = y) : a = b := by
  apply List.ext_getElem? 
  intro j
  by_cases hj : j < a.length
  · have e1 : a[j]? = some a[j] := List.getElem?_eq_getElem hj
    have e2 : b[j]? = some (b[j]'(by omega)) := List.getElem?_eq_getElem (by omega)
    rw [e1, e2, h j _ _ hj e1 e2]
  · rw [List.getElem?_eq_none (by omega), List.getElem?_eq_none (by omega)]
end HM
namespace HM
theorem change_bad {l : List Flow} {s : Sched} {cs : List Chg} {x : List Rule} {slots : Int} (h : (changeM l s cs x slots).2 ≠ 0) : (changeM l s cs x slots).1 = ⟨[], []⟩ := by
  unfold changeM at h ⊢
  split
  · rfl
  rename_i h1
  rw [if_neg h1] at h
  split
  · rfl
  rename_i h2
  rw [if_neg h2] at h
  split
  · rfl
  rename_i h3
  rw [if_neg h3] at h
  exact absurd rfl h
theorem change_ok {l : List Flow} {s : Sched} {cs : List Chg} {x : List Rule} {slots : Int} (h : (changeM l s cs x slots).2 = 0) : readyM l s x slots = 0 ∧ (behM none s cs).2 = 0 ∧ (changeM l s cs x slots).1 = ⟨(playR l (fun n => nowM s cs n) x slots.toNat).atts, (playR l (fun n => nowM s cs n) x slots.toNat).dels⟩ := by
  unfold changeM at h ⊢
  split
  · rename_i h1; rw [if_pos h1] at h; exact absurd h h1
  rename_i h1
  rw [if_neg h1] at h
  split
  · rename_i h2; rw [if_pos h2] at h; cases h
  rename_i h2
  rw [if_neg h2] at h
  split
  · rename_i h3; rw [if_pos h3] at h; exact absurd h h3
  rename_i h3
  exact ⟨by simpa using h1, by simpa using h3, rfl⟩
end HM

/- A store with a player: what lies where. -/
namespace HM
open Go Go.RowKit

def mpv (p : PS) (id : Nat) : AV := if p.frame < 0 then .nilm else .mp id
def mapsOf (p : PS) : Nat → Ob
  | 0 => p.since.ob none
  | 1 => p.tries.ob (some 2)
  | _ => p.acked.ob (some 2)
def stAV (g : Nat → Nat) (p : PS) : AV := .agg [.int .i64 p.frame, mpv p (g 0), mpv p (g 1), mpv p (g 2), .bool p.done]
def statesE (g : Nat → Nat → Nat) (q : List PS) : List AV := q.mapIdx fun i p => stAV (g i) p
theorem statesE_get {g : Nat → Nat → Nat} {q : List PS} {i : Nat} {p : PS} (h : q[i]? = some p) : (statesE g q)[i]? = some (stAV (g i) p) := by simp [statesE, h]
theorem statesE_len (g : Nat → Nat → Nat) (q : List PS) : (statesE g q).length = q.length := by simp [statesE]
theorem statesE_set (g : Nat → Nat → Nat) (q : List PS) (i : Nat) (p : PS) : (statesE g q).set i (stAV (g i) p) = statesE g (q.set i p) := by
  apply List.ext_getElem?
  intro j
  simp only [statesE, List.getElem?_set, List.getElem?_mapIdx, List.length_mapIdx]
  by_cases e : i = j
  · subst e; simp only [if_true]
    split <;> simp_all
  · simp [e]
theorem statesE_wide (g : Nat → Nat → Nat) (q : List PS) : Wide 5 (statesE g q) := by
  intro e he
  obtain ⟨i, hi⟩ := List.getElem?_of_mem he
  simp only [statesE, List.getElem?_mapIdx, Option.map_eq_some_iff] at hi
  obtain ⟨p, _, rfl⟩ := hi
  rfl
def plC (l : List Flow) (s : Sched) (x : List Rule) (sv av dv : AV) : List AV := [encFlows l, .int .i64 s.len, .int .i64 s.offs, encCells s.cells, encScript x, sv, av, dv]

/-- the types of a player, of a state, of a delivery -/
structure PTys where
  p : TypeId
  q : TypeId
  d : TypeId
  a : TypeId
  hpq : p ≠ q
  hpd : p ≠ d
  hqd : q ≠ d
  ks : List (Nat × List AV × TypeId)
  hk : ∀ e ∈ ks, e.2.2 ≠ p ∧ e.2.2 ≠ q ∧ e.2.2 ≠ d

def StV (T : PTys) (S : St) (sv : AV) (g : Nat → Nat → Nat) (sts : List PS) : Prop := (sts = [] ∧ sv = .grown .nils 0) ∨ ∃ qb ex, sv = .vsl qb 0 sts.length 5 ∧ S.bx[qb]? = some (.cells (flatE (statesE g sts) ++ ex) T.q)
def DelV (T : PTys) (S : St) (dv : AV) (ds : List Del) : Prop := (ds = [] ∧ dv = .grown .nils 0) ∨ ∃ db ex, dv = .vsl db 0 ds.length 3 ∧ S.bx[db]? = some (.cells (flatE (ds.map Del.av) ++ ex) T.d)

/-- what is known of a store with a player -/
structure PInv (T : PTys) (S : St) (pb ch : Nat) (l : List Flow) (s : Sched) (x : List Rule) (Q : PL) (g : Nat → Nat → Nat) (sv dv : AV) : Prop where
  p : S.bx[pb]? = some (.cells (plC l s x sv (.own (Q.atts.map Att.av) ch) dv) T.p)
  q : StV T S sv g Q.sts
  m : ∀ (i : Nat) (p : PS), Q.sts[i]? = some p → 0 ≤ p.frame → ∀ j, j < 3 → S.bx[g i j]? = some (mapsOf p j)
  inj : ∀ (i : Nat) (p : PS) (i' : Nat) (p' : PS), Q.sts[i]? = some p → Q.sts[i']? = some p' → 0 ≤ p.frame → 0 ≤ p'.frame → ∀ j j', j < 3 → j' < 3 → g i j = g i' j' → i = i' ∧ j = j'
  a : S.fr[ch]? = some (Q.atts.length, 8)
  ty : S.ty ch = T.a
  k : ∀ e ∈ T.ks, S.bx[e.1]? = some (.cells e.2.1 e.2.2)
  d : DelV T S dv Q.dels
def PIn (T : PTys) (S : St) (pb ch : Nat) (l : List Flow) (s : Sched) (x : List Rule) (Q : PL) : Prop := ∃ g sv dv, PInv T S pb ch l s x Q g sv dv

theorem ne_cm {S : St} {a b : Nat} {cs : List AV} {t : TypeId} {sh : Option Nat} {ks : List (List Int)} {vs : List AV} (h : S.bx[a]? = some (.cells cs t)) (h' : S.bx[b]? = some (.map sh ks vs)) : a ≠ b := by
  rintro rfl
  rw [h] at h'
  injection h' with h'
  cases h'
theorem ne_cc {S : St} {a b : Nat} {cs cs' : List AV} {t t' : TypeId} (h : S.bx[a]? = some (.cells cs t)) (h' : S.bx[b]? = some (.cells cs' t')) (ht : t ≠ t') : a ≠ b := by
  rintro rfl
  rw [h] at h'
  injection h' with h'
  injection h' with _ h'
  exact ht h'
theorem mapsOf_map (p : PS) (j : Nat) : ∃ sh ks vs, mapsOf p j = .map sh ks vs := by
  unfold mapsOf
  split <;> exact ⟨_, _, _, rfl⟩
theorem ne_cM {S : St} {a b : Nat} {cs : List AV} {t : TypeId} {p : PS} {j : Nat} (h : S.bx[a]? = some (.cells cs t)) (h' : S.bx[b]? = some (mapsOf p j)) : a ≠ b := by
  obtain ⟨sh, ks, vs, e⟩ := mapsOf_map p j
  rw [e] at h'
  exact ne_cm h h'

section
variable {T : PTys} {S S' : St} {pb ch : Nat} {l : List Flow} {s : Sched} {x : List Rule} {Q : PL} {g : Nat → Nat → Nat} {sv dv : AV}

/-- other objects more -/
theorem PInv.more (h : PInv T S pb ch l s x Q g sv dv) (hx : ∀ (id : Nat) (o : Ob), S.bx[id]? = some o → S'.bx[id]? = some o) (hf : S'.fr[ch]? = S.fr[ch]?) (ht : S'.ty ch = S.ty ch) : PInv T S' pb ch l s x Q g sv dv := by
  refine ⟨hx _ _ h.p, ?_, fun i p hp h0 j hj => hx _ _ (h.m i p hp h0 j hj), h.inj, hf.trans h.a, ht.trans h.ty, fun e he => hx _ _ (h.k e he), ?_⟩
  · rcases h.q with hq | ⟨qb, ex, h1, h2⟩
    · exact .inl hq
    · exact .inr ⟨qb, ex, h1, hx _ _ h2⟩
  · rcases h.d with hq | ⟨qb, ex, h1, h2⟩
    · exact .inl hq
    · exact .inr ⟨qb, ex, h1, hx _ _ h2⟩
/-- a map of a state -/
theorem PInv.setM (h : PInv T S pb ch l s x Q g sv dv) {i : Nat} {p p' : PS} (hp : Q.sts[i]? = some p) (h0 : 0 ≤ p.frame) (hfr : p'.frame = p.frame) (hdn : p'.done = p.done) {j : Nat} (hj : j < 3) (ho : ∀ k, k < 3 → k ≠ j → mapsOf p' k = mapsOf p k) :
    PInv T (S.setB (g i j) (mapsOf p' j)) pb ch l s x ⟨Q.sts.set i p', Q.atts, Q.dels⟩ g sv dv := by
  have hm := h.m i p hp h0 j hj
  have hil := (List.getElem?_eq_some_iff.1 hp).1
  have est : statesE g (Q.sts.set i p') = statesE g Q.sts := by
    apply List.ext_getElem?
    intro k
    simp only [statesE, List.getElem?_mapIdx, List.getElem?_set]
    by_cases e : i = k
    · subst e
      have e2 : Q.sts[i]? = some Q.sts[i] := List.getElem?_eq_getElem hil
      rw [e2] at hp; injection hp with hp
      simp only [hil, if_true, Option.map_some, e2, hp]
      simp [stAV, mpv, hfr, hdn]
    · simp [e]
  have hlive : ∀ (k : Nat) (q : PS), (Q.sts.set i p')[k]? = some q → 0 ≤ q.frame → ∃ q0, Q.sts[k]? = some q0 ∧ 0 ≤ q0.frame ∧ (i ≠ k → q = q0) ∧ (i = k → q = p' ∧ q0 = p) := by
    intro k q hq hq0
    by_cases e : i = k
    · subst e
      rw [List.getElem?_set_self hil] at hq
      injection hq with hq
      exact ⟨p, hp, h0, fun hh => absurd rfl hh, fun _ => ⟨hq.symm, rfl⟩⟩
    · rw [List.getElem?_set_ne e] at hq
      exact ⟨q, hq, hq0, fun _ => rfl, fun hh => absurd hh e⟩
  refine ⟨by rw [St.setB_ne (ne_cM h.p hm).symm]; exact h.p, ?_, fun k q hq hq0 j' hj' => ?_, fun k q k' q' hq hq' hq0 hq0' j1 j2 hj1 hj2 he => ?_, h.a, h.ty, fun e he => by rw [St.setB_ne (ne_cM (h.k e he) hm).symm]; exact h.k e he, ?_⟩
  · rcases h.q with ⟨hq, _⟩ | ⟨qb, ex, h1, h2⟩
    · rw [hq] at hil; simp at hil
    · exact .inr ⟨qb, ex, by simpa using h1, by rw [St.setB_ne (ne_cM h2 hm).symm, est]; exact h2⟩
  · obtain ⟨q0, g1, g2, g3, g4⟩ := hlive k q hq hq0
    by_cases e : i = k
    · obtain ⟨rfl, rfl⟩ := g4 e
      subst e
      by_cases ej : j = j'
      · subst ej; exact St.setB_get hm
      · rw [St.setB_ne (fun hh => ej (h.inj _ _ _ _ hp hp h0 h0 j j' hj hj' hh).2), ho j' hj' (fun hh => ej hh.symm)]
        exact h.m i _ hp h0 j' hj'
    · obtain rfl := g3 e
      rw [St.setB_ne (fun hh => e (h.inj _ _ _ _ hp g1 h0 g2 j j' hj hj' hh).1)]
      exact h.m k _ g1 g2 j' hj'
  · obtain ⟨q0, g1, g2, _⟩ := hlive k q hq hq0
    obtain ⟨q0', g1', g2', _⟩ := hlive k' q' hq' hq0'
    exact h.inj _ _ _ _ g1 g1' g2 g2' j1 j2 hj1 hj2 he
  · rcases h.d with hq | ⟨db, ex, h1, h2⟩
    · exact .inl hq
    · exact .inr ⟨db, ex, h1, by rw [St.setB_ne (ne_cM h2 hm).symm]; exact h2⟩
/-- a state's cells are written; its maps are as they were -/
theorem PInv.setQ (h : PInv T S pb ch l s x Q g sv dv) {qb : Nat} {ex : List AV} (hsv : sv = .vsl qb 0 Q.sts.length 5) (hq : S.bx[qb]? = some (.cells (flatE (statesE g Q.sts) ++ ex) T.q)) {i : Nat} {p p' : PS} (hp : Q.sts[i]? = some p) (hfr : p'.frame = p.frame) (ho : ∀ k, k < 3 → mapsOf p' k = mapsOf p k) :
    PInv T (S.setB qb (.cells (flatE (statesE g (Q.sts.set i p')) ++ ex) T.q)) pb ch l s x ⟨Q.sts.set i p', Q.atts, Q.dels⟩ g sv dv := by
  have hil := (List.getElem?_eq_some_iff.1 hp).1
  have hlive : ∀ (k : Nat) (q : PS), (Q.sts.set i p')[k]? = some q → 0 ≤ q.frame → ∃ q0, Q.sts[k]? = some q0 ∧ 0 ≤ q0.frame ∧ ∀ j, j < 3 → mapsOf q j = mapsOf q0 j := by
    intro k q hq hq0
    by_cases e : i = k
    · subst e
      rw [List.getElem?_set_self hil] at hq
      injection hq with hq
      subst hq
      exact ⟨p, hp, by omega, ho⟩
    · rw [List.getElem?_set_ne e] at hq
      exact ⟨q, hq, hq0, fun _ _ => rfl⟩
  refine ⟨by rw [St.setB_ne (ne_cc h.p hq T.hpq).symm]; exact h.p, .inr ⟨qb, ex, by simpa using hsv, St.setB_get hq⟩, fun k q hq' hq0 j' hj' => ?_, fun k q k' q' hq hq' hq0 hq0' j1 j2 hj1 hj2 he => ?_, h.a, h.ty, fun e he => by rw [St.setB_ne (ne_cc hq (h.k e he) (T.hk e he).2.1.symm)]; exact h.k e he, ?_⟩
  · obtain ⟨q0, g1, g2, g3⟩ := hlive k q hq' hq0
    have := h.m k _ g1 g2 j' hj'
    rw [St.setB_ne (ne_cM hq this), g3 j' hj']
    exact this
  · obtain ⟨q0, g1, g2, _⟩ := hlive k q hq hq0
    obtain ⟨q0', g1', g2', _⟩ := hlive k' q' hq' hq0'
    exact h.inj _ _ _ _ g1 g1' g2 g2' j1 j2 hj1 hj2 he
  · rcases h.d with hd | ⟨db, ex2, h1, h2⟩
    · exact .inl hd
    · exact .inr ⟨db, ex2, h1, by rw [St.setB_ne (ne_cc hq h2 T.hqd)]; exact h2⟩
/-- the player's own cells are written -/
theorem PInv.setP (h : PInv T S pb ch l s x Q g sv dv) (s' : Sched) (ats : List Att) (hf : S'.fr[ch]? = some (ats.length, 8)) (ht : S'.ty ch = S.ty ch) (hb : S'.bx = S.bx) : PInv T (S'.setB pb (.cells (plC l s' x sv (.own (ats.map Att.av) ch) dv) T.p)) pb ch l s' x ⟨Q.sts, ats, Q.dels⟩ g sv dv := by
  have hp' : S'.bx[pb]? = some (.cells (plC l s x sv (.own (Q.atts.map Att.av) ch) dv) T.p) := by rw [hb]; exact h.p
  refine ⟨St.setB_get hp', ?_, fun k q hq hq0 j hj => ?_, h.inj, hf, ht.trans h.ty, fun e he => by rw [St.setB_ne (ne_cc h.p (h.k e he) (T.hk e he).1.symm), hb]; exact h.k e he, ?_⟩
  · rcases h.q with hq | ⟨qb, ex, h1, h2⟩
    · exact .inl hq
    · exact .inr ⟨qb, ex, h1, by rw [St.setB_ne (ne_cc h.p h2 T.hpq), hb]; exact h2⟩
  · have := h.m k q hq hq0 j hj
    rw [St.setB_ne (ne_cM h.p this), hb]
    exact this
  · rcases h.d with hq | ⟨qb, ex, h1, h2⟩
    · exact .inl hq
    · exact .inr ⟨qb, ex, h1, by rw [St.setB_ne (ne_cc h.p h2 T.hpd), hb]; exact h2⟩
/-- the deliveries are others -/
theorem PInv.setD (h : PInv T S pb ch l s x Q g sv dv) (ds : List Del) (dv' : AV) (hx : ∀ (id : Nat) (o : Ob), S.bx[id]? = some o → (∀ ex, dv ≠ .vsl id 0 Q.dels.length ex) → S'.bx[id]? = some o) (hf : S'.fr[ch]? = S.fr[ch]?) (ht : S'.ty ch = S.ty ch) (hd : DelV T (S'.setB pb (.cells (plC l s x sv (.own (Q.atts.map Att.av) ch) dv') T.p)) dv' ds) :
    PInv T (S'.setB pb (.cells (plC l s x sv (.own (Q.atts.map Att.av) ch) dv') T.p)) pb ch l s x ⟨Q.sts, Q.atts, ds⟩ g sv dv' := by
  have hne : ∀ id, (∀ cs, S.bx[id]? ≠ some (.cells cs T.d)) → ∀ ex, dv ≠ .vsl id 0 Q.dels.length ex := by
    intro id hid ex he
    rcases h.d with ⟨_, h2⟩ | ⟨db, ex2, h1, h2⟩
    · rw [h2] at he; cases he
    · rw [h1] at he
      injection he with he
      subst he
      exact hid _ h2
  have hp' := hx pb _ h.p (hne pb fun cs hc => by
    rw [h.p] at hc; injection hc with hc; injection hc with _ hc; exact T.hpd hc)
  refine ⟨St.setB_get hp', ?_, fun k q hq hq0 j hj => ?_, h.inj, by rw [St.setB_fr, hf]; exact h.a, ht.trans h.ty, fun e he => by
    rw [St.setB_ne (ne_cc h.p (h.k e he) (T.hk e he).1.symm)]
    refine hx _ _ (h.k e he) (hne _ fun cs hc => ?_)
    rw [h.k e he] at hc; injection hc with hc; injection hc with _ hc; exact (T.hk e he).2.2 hc, hd⟩
  · rcases h.q with hq | ⟨qb, ex, h1, h2⟩
    · exact .inl hq
    · refine .inr ⟨qb, ex, h1, ?_⟩
      rw [St.setB_ne (ne_cc h.p h2 T.hpq)]
      exact hx _ _ h2 (hne qb fun cs hc => by
        rw [h2] at hc; injection hc with hc; injection hc with _ hc; exact T.hqd hc)
  · have := h.m k q hq hq0 j hj
    rw [St.setB_ne (ne_cM h.p this)]
    refine hx _ _ this (hne _ fun cs hc => ?_)
    obtain ⟨sh, ks, vs, e⟩ := mapsOf_map q j
    rw [this, e] at hc
    injection hc with hc
    cases hc
end
theorem St.addF_fr {S : St} {ch : Nat} {y y' : Nat × Nat} {e : TypeId} (h : S.fr[ch]? = some y') : (S.addF y e).fr[ch]? = some y' := by
  unfold St.addF
  rw [List.getElem?_append_left (List.getElem?_eq_some_iff.1 h).1]; exact h
theorem St.addF_ty {S : St} {ch : Nat} {y y' : Nat × Nat} {e : TypeId} (h : S.fr[ch]? = some y') : (S.addF y e).ty ch = S.ty ch := by
  have := (List.getElem?_eq_some_iff.1 h).1
  simp only [St.addF, updT]
  rw [if_neg (by omega)]
theorem setB_setB (S : St) (id : Nat) (o o' : Ob) : (S.setB id o).setB id o' = S.setB id o' := by simp [St.setB]
theorem St.setF_fr {S : St} {ch : Nat} {y y' : Nat × Nat} (h : S.fr[ch]? = some y') : (S.setF ch y).fr[ch]? = some y := by
  unfold St.setF
  have := (List.getElem?_eq_some_iff.1 h).1
  simp [this]
end HM

/- A store with a player: a delivery is noted. -/
namespace HM
open Go Go.RowKit

theorem delWide (ds : List Del) : Wide 3 (ds.map Del.av) := by
  intro e he
  obtain ⟨d, _, rfl⟩ := List.mem_map.1 he
  rfl
section
variable {T : PTys} {S : St} {pb ch : Nat} {l : List Flow} {s : Sched} {x : List Rule} {Q : PL} {g : Nat → Nat → Nat} {sv dv : AV}
theorem PInv.delNew (h : PInv T S pb ch l s x Q g sv dv) (hq : Q.dels = []) (d : Del) (z : AV) (hz : z = d.av) (y1 : Nat × Nat) (e : TypeId) (k : Nat) (n m : Nat) (hn : n = S.bx.length) (hm : m = 1) :
    PInv T (((S.addF y1 e).addB (.cells (flatE [z] ++ List.replicate k .undef) T.d)).setB pb (.cells (plC l s x sv (.own (Q.atts.map Att.av) ch) (.vsl n 0 m 3)) T.p)) pb ch l s x ⟨Q.sts, Q.atts, Q.dels ++ [d]⟩ g sv (.vsl n 0 m 3) := by
  subst hz; subst hn; subst hm
  have hf := h.a
  have hne : S.bx.length ≠ pb := by have := (List.getElem?_eq_some_iff.1 h.p).1; omega
  refine h.setD _ _ (fun id o ho _ => ?_) ?_ ?_ (.inr ⟨S.bx.length, List.replicate k .undef, by rw [hq]; rfl, ?_⟩)
  · exact St.addB_old (S := S.addF y1 e) ho
  · rw [St.addB_fr]; exact (St.addF_fr hf).trans hf.symm
  · exact St.addF_ty (y := y1) hf
  · rw [St.setB_ne hne.symm, hq]
    exact St.addB_get (S.addF y1 e) _
theorem PInv.delRoom (h : PInv T S pb ch l s x Q g sv dv) {db : Nat} {ex : List AV} (hdv : dv = .vsl db 0 Q.dels.length 3) (hdb : S.bx[db]? = some (.cells (flatE (Q.dels.map Del.av) ++ ex) T.d)) (d : Del) (z : AV) (hz : z = d.av) (y1 : Nat × Nat) (e : TypeId)
    (hr : (Q.dels.length + 1) * 3 ≤ (flatE (Q.dels.map Del.av) ++ ex).length) :
    PInv T (((S.addF y1 e).setB db (.cells (splice (flatE (Q.dels.map Del.av) ++ ex) (Q.dels.length * 3) (flatE [z])) T.d)).setB pb (.cells (plC l s x sv (.own (Q.atts.map Att.av) ch) (.vsl db 0 (Q.dels.length + 1) 3)) T.p)) pb ch l s x ⟨Q.sts, Q.atts, Q.dels ++ [d]⟩ g sv (.vsl db 0 (Q.dels.length + 1) 3) := by
  subst hz
  have hf := h.a
  have hne : db ≠ pb := (ne_cc h.p hdb T.hpd).symm
  have hfl := (delWide Q.dels).flen
  rw [List.length_map] at hfl
  rw [List.length_append] at hr
  refine h.setD _ _ (fun id o ho hh => ?_) ?_ ?_ (.inr ⟨db, ex.drop 3, by simp, ?_⟩)
  · have hid : db ≠ id := by rintro rfl; exact hh 3 hdv
    rw [St.setB_ne hid]; exact ho
  · rw [St.setB_fr]; exact (St.addF_fr hf).trans hf.symm
  · exact St.addF_ty (y := y1) hf
  · rw [St.setB_ne hne.symm, St.setB_get (S := S.addF y1 e) hdb]
    have e1 : splice (flatE (Q.dels.map Del.av) ++ ex) (Q.dels.length * 3) (flatE [d.av]) = flatE ((Q.dels ++ [d]).map Del.av) ++ ex.drop 3 := by
      have hz : (flatE [d.av]).length = 3 := rfl
      rw [splice_eq _ _ _ (by rw [List.length_append, hz]; omega), hz, ← hfl, List.take_left, List.map_append, flatE_app]
      rw [List.drop_append]
      have : List.drop ((flatE (Q.dels.map Del.av)).length + 3) (flatE (Q.dels.map Del.av)) = [] := List.drop_eq_nil_of_le (by omega)
      rw [this, List.nil_append, show (flatE (Q.dels.map Del.av)).length + 3 - (flatE (Q.dels.map Del.av)).length = 3 from by omega]
      rfl
    rw [e1]
theorem PInv.delGrow (h : PInv T S pb ch l s x Q g sv dv) {db : Nat} {ex : List AV} (_hdv : dv = .vsl db 0 Q.dels.length 3) (_hdb : S.bx[db]? = some (.cells (flatE (Q.dels.map Del.av) ++ ex) T.d)) (d : Del) (z : AV) (hz : z = d.av) (y1 : Nat × Nat) (e : TypeId) (k n : Nat) (hn : n = S.bx.length) :
    PInv T (((S.addF y1 e).addB (.cells ((flatE (Q.dels.map Del.av) ++ ex).take (Q.dels.length * 3) ++ flatE [z] ++ List.replicate k .undef) T.d)).setB pb (.cells (plC l s x sv (.own (Q.atts.map Att.av) ch) (.vsl n 0 (Q.dels.length + 1) 3)) T.p)) pb ch l s x ⟨Q.sts, Q.atts, Q.dels ++ [d]⟩ g sv (.vsl n 0 (Q.dels.length + 1) 3) := by
  subst hz; subst hn
  have hf := h.a
  have hne : S.bx.length ≠ pb := by have := (List.getElem?_eq_some_iff.1 h.p).1; omega
  have hfl := (delWide Q.dels).flen
  rw [List.length_map] at hfl
  refine h.setD _ _ (fun id o ho _ => ?_) ?_ ?_ (.inr ⟨S.bx.length, List.replicate k .undef, by simp, ?_⟩)
  · exact St.addB_old (S := S.addF y1 e) ho
  · rw [St.addB_fr]; exact (St.addF_fr hf).trans hf.symm
  · exact St.addF_ty (y := y1) hf
  · rw [St.setB_ne hne.symm, ← hfl, List.take_left, List.map_append, flatE_app]
    exact St.addB_get (S.addF y1 e) _
end
/-- what lies in boxes stays, but the player and the deliveries -/
def InvY (T : PTys) (S S' : St) : Prop := ∀ (id : Nat) (cs : List AV) (t : TypeId), t ≠ T.p → t ≠ T.d → S.bx[id]? = some (.cells cs t) → S'.bx[id]? = some (.cells cs t)
theorem InvY.refl (T : PTys) (S : St) : InvY T S S := fun _ _ _ _ _ h => h
theorem InvY.setP {T : PTys} {S S' : St} {id : Nat} {cs : List AV} {o : Ob} (h : InvY T S S') (hb : S.bx[id]? = some (.cells cs T.p)) : InvY T S (S'.setB id o) := fun id' cs' t h1 h2 hc => by
  rw [St.setB_ne (ne_cc hb hc fun he => h1 he.symm)]; exact h id' cs' t h1 h2 hc
theorem InvY.setD {T : PTys} {S S' : St} {id : Nat} {cs : List AV} {o : Ob} (h : InvY T S S') (hb : S.bx[id]? = some (.cells cs T.d)) : InvY T S (S'.setB id o) := fun id' cs' t h1 h2 hc => by
  rw [St.setB_ne (ne_cc hb hc fun he => h2 he.symm)]; exact h id' cs' t h1 h2 hc
theorem InvY.addB {T : PTys} {S S' : St} {o : Ob} (h : InvY T S S') : InvY T S (S'.addB o) := fun id' cs' t h1 h2 hc => St.addB_old (h id' cs' t h1 h2 hc)
theorem InvY.addF {T : PTys} {S S' : St} {y : Nat × Nat} {e : TypeId} (h : InvY T S S') : InvY T S (S'.addF y e) := h
end HM

/- A store with a player: new frames. -/
namespace HM
open Go Go.RowKit

/-- the first k flows have looked for a new frame -/
def relK (l : List Flow) (slot : Int) (sts : List PS) : Nat → List PS
  | 0 => sts
  | k + 1 => match l[k]?, (relK l slot sts k)[k]? with
    | some f, some p => (relK l slot sts k).set k (relS f slot p)
    | _, _ => relK l slot sts k
theorem relK_len (l : List Flow) (slot : Int) (sts : List PS) : ∀ k, (relK l slot sts k).length = sts.length
  | 0 => rfl
  | k + 1 => by
    unfold relK
    split
    · rw [List.length_set, relK_len l slot sts k]
    · exact relK_len l slot sts k
theorem relK_get (l : List Flow) (slot : Int) (sts : List PS) (hl : sts.length = l.length) : ∀ (k i : Nat), (relK l slot sts k)[i]? = if i < k then (l.zipWith (fun f p => relS f slot p) sts)[i]? else sts[i]?
  | 0, i => by simp [relK]
  | k + 1, i => by
    have ih := relK_get l slot sts hl k
    unfold relK
    rcases Nat.lt_or_ge k l.length with hk | hk
    · have hk2 : k < sts.length := by omega
      have e1 : l[k]? = some l[k] := List.getElem?_eq_getElem hk
      have e2 : (relK l slot sts k)[k]? = some sts[k] := by rw [ih, if_neg (by omega)]; exact List.getElem?_eq_getElem hk2
      rw [e1, e2]
      simp only
      by_cases e : k = i
      · subst e
        rw [List.getElem?_set_self (by rw [relK_len]; exact hk2), if_pos (by omega)]
        simp [List.getElem?_zipWith, e1, List.getElem?_eq_getElem hk2]
      · rw [List.getElem?_set_ne e, ih]
        by_cases h1 : i < k
        · rw [if_pos h1, if_pos (by omega)]
        · rw [if_neg h1, if_neg (by omega)]
    · have e1 : l[k]? = none := List.getElem?_eq_none hk
      rw [e1]
      show (relK l slot sts k)[i]? = _
      rw [ih]
      by_cases h1 : i < k
      · rw [if_pos h1, if_pos (by omega)]
      · rw [if_neg h1]
        by_cases h2 : i < k + 1
        · rw [if_pos h2]
          have : l[i]? = none := List.getElem?_eq_none (by omega)
          have h3 : sts[i]? = none := List.getElem?_eq_none (by omega)
          simp [List.getElem?_zipWith, this, h3]
        · rw [if_neg h2]
theorem relK_all (l : List Flow) (slot : Int) (sts : List PS) (hl : sts.length = l.length) : relK l slot sts l.length = releaseS l slot sts := by
  apply List.ext_getElem?
  intro i
  rw [relK_get l slot sts hl]
  unfold releaseS
  by_cases h : i < l.length
  · rw [if_pos h]
  · rw [if_neg h]
    have h1 : sts[i]? = none := List.getElem?_eq_none (by omega)
    have h2 : l[i]? = none := List.getElem?_eq_none (by omega)
    simp [List.getElem?_zipWith, h1, h2]
theorem relK_step {l : List Flow} {slot : Int} {sts : List PS} {k : Nat} {f : Flow} {p : PS} (hf : l[k]? = some f) (hp : (relK l slot sts k)[k]? = some p) : relK l slot sts (k + 1) = (relK l slot sts k).set k (relS f slot p) := by
  rw [relK, hf, hp]

def gset (g : Nat → Nat → Nat) (i a b c : Nat) : Nat → Nat → Nat := fun i' j => if i' = i then (match j with | 0 => a | 1 => b | _ => c) else g i' j
section
variable {T : PTys} {S S' : St} {pb ch : Nat} {l : List Flow} {s : Sched} {x : List Rule} {Q : PL} {g : Nat → Nat → Nat} {sv dv : AV}
/-- a state begins anew -/
theorem PInv.fresh (h : PInv T S pb ch l s x Q g sv dv) (hx : ∀ (id : Nat) (o : Ob), S.bx[id]? = some o → S'.bx[id]? = some o) (hf : S'.fr = S.fr) (ht : S'.ty = S.ty) {qb : Nat} {ex : List AV} (hsv : sv = .vsl qb 0 Q.sts.length 5) (hq : S.bx[qb]? = some (.cells (flatE (statesE g Q.sts) ++ ex) T.q))
    {i : Nat} {p p' : PS} (hp : Q.sts[i]? = some p) (h0 : ¬ p'.frame < 0) {a b c : Nat} (ha : S'.bx[a]? = some (mapsOf p' 0)) (hb : S'.bx[b]? = some (mapsOf p' 1)) (hc : S'.bx[c]? = some (mapsOf p' 2)) (ga : S.bx.length ≤ a) (gb : S.bx.length ≤ b) (gc : S.bx.length ≤ c) (hab : a ≠ b) (hac : a ≠ c) (hbc : b ≠ c) :
    PInv T (S'.setB qb (.cells (flatE (statesE (gset g i a b c) (Q.sts.set i p')) ++ ex) T.q)) pb ch l s x ⟨Q.sts.set i p', Q.atts, Q.dels⟩ (gset g i a b c) sv dv := by
  have hil := (List.getElem?_eq_some_iff.1 hp).1
  have hself : ∀ k (q : PS), (Q.sts.set i p')[k]? = some q → i = k → q = p' := by
    intro k q hq e
    subst e
    rw [List.getElem?_set_self hil] at hq
    injection hq with hq; exact hq.symm
  have hoth : ∀ k (q : PS), (Q.sts.set i p')[k]? = some q → i ≠ k → Q.sts[k]? = some q := by
    intro k q hq e
    rwa [List.getElem?_set_ne e] at hq
  have hlt : ∀ k q, Q.sts[k]? = some q → 0 ≤ q.frame → ∀ j, j < 3 → g k j < S.bx.length := fun k q hq hq0 j hj => (List.getElem?_eq_some_iff.1 (h.m k q hq hq0 j hj)).1
  have hg : ∀ k j, i ≠ k → gset g i a b c k j = g k j := fun k j e => by unfold gset; rw [if_neg (fun hh => e hh.symm)]
  have hgi : ∀ j, gset g i a b c i j = (match j with | 0 => a | 1 => b | _ => c) := fun j => by unfold gset; rw [if_pos rfl]
  have hge : ∀ j, S.bx.length ≤ gset g i a b c i j := fun j => by
    rw [hgi]
    split <;> assumption
  have hq' := hx _ _ hq
  refine ⟨by rw [St.setB_ne (ne_cc h.p hq T.hpq).symm]; exact hx _ _ h.p, .inr ⟨qb, ex, by simpa using hsv, St.setB_get hq'⟩, fun k q hq1 hq0 j hj => ?_, fun k q k' q' hq1 hq1' hq0 hq0' j1 j2 hj1 hj2 he => ?_, by rw [St.setB_fr, hf]; exact h.a, by show S'.ty ch = _; rw [ht]; exact h.ty, fun e he => by rw [St.setB_ne (ne_cc hq (h.k e he) (T.hk e he).2.1.symm)]; exact hx _ _ (h.k e he), ?_⟩
  · have hm : S'.bx[gset g i a b c k j]? = some (mapsOf q j) := by
      by_cases e : i = k
      · subst e
        obtain rfl := hself i q hq1 rfl
        rw [hgi]
        rcases j with _ | _ | _ | j
        · exact ha
        · exact hb
        · exact hc
        · omega
      · rw [hg k j e]
        exact hx _ _ (h.m k q (hoth k q hq1 e) hq0 j hj)
    rw [St.setB_ne (ne_cM hq' hm)]
    exact hm
  · by_cases e : i = k
    · by_cases e' : i = k'
      · subst e; subst e'
        refine ⟨rfl, ?_⟩
        rw [hgi, hgi] at he
        rcases j1 with _ | _ | _ | j1 <;> rcases j2 with _ | _ | _ | j2 <;> first | rfl | omega | exact absurd he hab | exact absurd he hac | exact absurd he hbc | exact absurd he.symm hab | exact absurd he.symm hac | exact absurd he.symm hbc
      · subst e
        have h1 := hge j1
        have h2 := hlt k' q' (hoth k' q' hq1' e') hq0' j2 hj2
        rw [hg k' j2 e'] at he
        omega
    · by_cases e' : i = k'
      · subst e'
        have h1 := hge j2
        have h2 := hlt k q (hoth k q hq1 e) hq0 j1 hj1
        rw [hg k j1 e] at he
        omega
      · rw [hg k j1 e, hg k' j2 e'] at he
        exact h.inj _ _ _ _ (hoth k q hq1 e) (hoth k' q' hq1' e') hq0 hq0' j1 j2 hj1 hj2 he
  · rcases h.d with hd | ⟨db, ex2, h1, h2⟩
    · exact .inl hd
    · exact .inr ⟨db, ex2, h1, by rw [St.setB_ne (ne_cc hq h2 T.hqd)]; exact hx _ _ h2⟩
end
theorem statesE_gset (g : Nat → Nat → Nat) (q : List PS) (i a b c : Nat) (p : PS) (h0 : ¬ p.frame < 0) : (statesE g q).set i (.agg [.int .i64 p.frame, .mp a, .mp b, .mp c, .bool p.done]) = statesE (gset g i a b c) (q.set i p) := by
  apply List.ext_getElem?
  intro j
  simp only [statesE, List.getElem?_set, List.getElem?_mapIdx, List.length_mapIdx]
  by_cases e : i = j
  · subst e
    simp only [if_true]
    split
    · simp [stAV, mpv, h0, gset]
    · simp
  · simp only [e, if_false]
    cases hq : q[j]? with
    | none => rfl
    | some y =>
      simp only [Option.map_some, Option.some.injEq]
      have : gset g i a b c j = g j := by funext k; unfold gset; rw [if_neg (fun hh => e hh.symm)]
      rw [this]
/-- what lies in boxes stays, but the states -/
def InvZ (T : PTys) (S S' : St) : Prop := ∀ (id : Nat) (cs : List AV) (t : TypeId), t ≠ T.q → S.bx[id]? = some (.cells cs t) → S'.bx[id]? = some (.cells cs t)
theorem InvZ.refl (T : PTys) (S : St) : InvZ T S S := fun _ _ _ _ h => h
theorem InvZ.addB {T : PTys} {S S' : St} {o : Ob} (h : InvZ T S S') : InvZ T S (S'.addB o) := fun id' cs' t h1 hc => St.addB_old (h id' cs' t h1 hc)
theorem InvZ.setN {T : PTys} {S S' : St} {id : Nat} {o : Ob} (h : InvZ T S S') (hi : S.bx.length ≤ id) : InvZ T S (S'.setB id o) := fun id' cs' t h1 hc => by
  have := (List.getElem?_eq_some_iff.1 hc).1
  rw [St.setB_ne (by omega)]; exact h id' cs' t h1 hc
theorem InvZ.setQ {T : PTys} {S S' : St} {id : Nat} {cs : List AV} {o : Ob} (h : InvZ T S S') (hb : S.bx[id]? = some (.cells cs T.q)) : InvZ T S (S'.setB id o) := fun id' cs' t h1 hc => by
  rw [St.setB_ne (ne_cc hb hc fun he => h1 he.symm)]; exact h id' cs' t h1 hc
theorem St.len2 (S : St) (o o' : Ob) : S.bx.length ≤ ((S.addB o).addB o').bx.length := by rw [St.addB_len, St.addB_len]; omega
theorem mo0 {S : St} {sh : Option Nat} {ks : List (List Int)} {vs : List AV} : (S.addB (.map sh ks vs)).bx[S.bx.length]? = some (.map sh ks vs) := St.addB_get _ _
theorem mo1 {S : St} {sh : Option Nat} {ks : List (List Int)} {vs : List AV} {o : Ob} : ((S.addB (.map sh ks vs)).addB o).bx[S.bx.length]? = some (.map sh ks vs) := St.addB_old (St.addB_get _ _)
theorem mo2 {S : St} {sh : Option Nat} {ks : List (List Int)} {vs : List AV} {o o' : Ob} : (((S.addB (.map sh ks vs)).addB o).addB o').bx[S.bx.length]? = some (.map sh ks vs) := St.addB_old (St.addB_old (St.addB_get _ _))
theorem PInv.leaf {T : PTys} {S : St} {pb ch : Nat} {l : List Flow} {s : Sched} {x : List Rule} {Q : PL} {g : Nat → Nat → Nat} {sv dv : AV} (h : PInv T S pb ch l s x Q g sv dv) {qb : Nat} {ex : List AV} (hsv : sv = .vsl qb 0 Q.sts.length 5) (hq : S.bx[qb]? = some (.cells (flatE (statesE g Q.sts) ++ ex) T.q))
    {i : Nat} {p p' : PS} (hp : Q.sts[i]? = some p) (h0 : ¬ p'.frame < 0) {X : St} (tl : List Ob) (hX : X = ⟨S.bx ++ tl, S.fr, S.n0, S.m0, S.ty⟩) (ia ib ic : Nat) (ha : tl[ia]? = some (mapsOf p' 0)) (hb : tl[ib]? = some (mapsOf p' 1)) (hc : tl[ic]? = some (mapsOf p' 2)) (hab : ia ≠ ib) (hac : ia ≠ ic) (hbc : ib ≠ ic)
    {a b c off : Nat} (ea : a = S.bx.length + ia) (eb : b = S.bx.length + ib) (ec : c = S.bx.length + ic) (eo : off = i * 5) :
    PIn T (X.setB qb (.cells (splice (flatE (statesE g Q.sts) ++ ex) off [.int .i64 p'.frame, .mp a, .mp b, .mp c, .bool p'.done]) T.q)) pb ch l s x ⟨Q.sts.set i p', Q.atts, Q.dels⟩ := by
  subst hX; subst eo
  have hget : ∀ k o, tl[k]? = some o → (S.bx ++ tl)[S.bx.length + k]? = some o := fun k o hk => by
    rw [List.getElem?_append_right (by omega)]
    rw [show S.bx.length + k - S.bx.length = k from by omega]; exact hk
  have hF := h.fresh (S' := ⟨S.bx ++ tl, S.fr, S.n0, S.m0, S.ty⟩) (fun id o ho => (List.getElem?_append_left (List.getElem?_eq_some_iff.1 ho).1).trans ho) rfl rfl hsv hq hp h0 (a := a) (b := b) (c := c) (by subst ea; exact hget _ _ ha) (by subst eb; exact hget _ _ hb) (by subst ec; exact hget _ _ hc) (by omega) (by omega) (by omega) (by omega) (by omega) (by omega)
  have hil := (List.getElem?_eq_some_iff.1 hp).1
  have e1 : splice (flatE (statesE g Q.sts) ++ ex) (i * 5) [.int .i64 p'.frame, .mp a, .mp b, .mp c, .bool p'.done] = flatE (statesE (gset g i a b c) (Q.sts.set i p')) ++ ex := by
    have := Wide.sto (.agg [.int .i64 p'.frame, .mp a, .mp b, .mp c, .bool p'.done]) rfl ex (statesE_wide g Q.sts) (k := i) (by rw [statesE_len]; exact hil)
    rw [statesE_gset g Q.sts i a b c p' h0] at this
    exact this
  rw [e1]
  exact ⟨_, _, _, hF⟩
end HM

/- A slot of a run: how much there can be. -/
namespace HM
open Go Go.RowKit
theorem att_len (l : List Flow) (x : List Rule) (t : Int) (q : PL) (c : Cell) : (attemptS l x t q c).atts.length ≤ q.atts.length + 1 ∧ (attemptS l x t q c).dels.length ≤ q.dels.length + 1 ∧ (attemptS l x t q c).sts.length = q.sts.length := by
  unfold attemptS
  split
  · omega
  split
  · split
    · omega
    · refine ⟨by simp, ?_, by simp⟩
      simp only [List.length_append]
      split <;> simp
  · omega
theorem fold_len (l : List Flow) (x : List Rule) (t : Int) : ∀ (cs : List Cell) (q : PL), (cs.foldl (attemptS l x t) q).atts.length ≤ q.atts.length + cs.length ∧ (cs.foldl (attemptS l x t) q).dels.length ≤ q.dels.length + cs.length ∧ (cs.foldl (attemptS l x t) q).sts.length = q.sts.length
  | [], q => by simp
  | c :: cs, q => by
    have h1 := att_len l x t q c
    have h2 := fold_len l x t cs (attemptS l x t q c)
    simp only [List.foldl_cons, List.length_cons]
    omega
theorem fold_step (l : List Flow) (x : List Rule) (t : Int) {cs : List Cell} {k : Nat} {c : Cell} (h : cs[k]? = some c) (q : PL) : (cs.take (k + 1)).foldl (attemptS l x t) q = attemptS l x t ((cs.take k).foldl (attemptS l x t) q) c := by
  rw [take_succ h, List.foldl_append]
  rfl
theorem at_len (s : Sched) (t : Int) : (atM s t).length ≤ s.cells.length := by
  unfold atM
  split
  · simp
  · exact List.length_filter_le _ _
theorem slot_len (l : List Flow) (s : Sched) (x : List Rule) (q : PL) (t : Int) (hq : q.sts.length = l.length) : (slotS l s x q t).atts.length ≤ q.atts.length + s.cells.length ∧ (slotS l s x q t).dels.length ≤ q.dels.length + s.cells.length ∧ (slotS l s x q t).sts.length = l.length := by
  have h1 := fold_len l x t (atM s t) ⟨releaseS l t q.sts, q.atts, q.dels⟩
  have h2 := at_len s t
  have h3 : (releaseS l t q.sts).length = l.length := by simp [releaseS, hq]
  unfold slotS
  simp only at h1 ⊢
  refine ⟨by omega, ?_, by rw [h1.2.2, h3]⟩
  rw [List.length_append, List.length_mergeSort, ← List.length_append, List.take_append_drop]
  omega
theorem play_len {l : List Flow} (sc : Nat → Sched) (x : List Rule) {m : Nat} (hm : ∀ i, (sc i).cells.length ≤ m) : ∀ n, (playV l sc x n).atts.length ≤ n * m ∧ (playV l sc x n).dels.length ≤ n * m ∧ (playV l sc x n).sts.length = l.length
  | 0 => by simp [playV]
  | n + 1 => by
    obtain ⟨h1, h2, h3⟩ := play_len sc x hm n
    have h4 := slot_len l (sc n) x (playV l sc x n) n h3
    have h5 := hm n
    rw [playV, Nat.add_mul]
    omega
theorem PInv.frames {T : PTys} {S S' : St} {pb ch : Nat} {l : List Flow} {s : Sched} {x : List Rule} {Q : PL} (h : PIn T S pb ch l s x Q) (hx : S'.bx = S.bx) (hf : S'.fr = S.fr) (ht : S'.ty = S.ty) : PIn T S' pb ch l s x Q := by
  obtain ⟨g, sv, dv, h⟩ := h
  exact ⟨g, sv, dv, h.more (fun _ _ ho => by rw [hx]; exact ho) (by rw [hf]) (by rw [ht])⟩
/-- the deliveries of a slot sorted in place -/
theorem PInv.sortD {T : PTys} {S : St} {pb ch : Nat} {l : List Flow} {s : Sched} {x : List Rule} {Q : PL} {g : Nat → Nat → Nat} {sv dv : AV} (h : PInv T S pb ch l s x Q g sv dv) {db : Nat} {ex : List AV} (hdv : dv = .vsl db 0 Q.dels.length 3) (hdb : S.bx[db]? = some (.cells (flatE (Q.dels.map Del.av) ++ ex) T.d)) {ds : List Del} (hl : ds.length = Q.dels.length) :
    PIn T (S.setB db (.cells (flatE (ds.map Del.av) ++ ex) T.d)) pb ch l s x ⟨Q.sts, Q.atts, ds⟩ := by
  refine ⟨g, sv, dv, ?_, ?_, fun k q hq hq0 j hj => ?_, h.inj, h.a, h.ty, fun e he => by rw [St.setB_ne (ne_cc hdb (h.k e he) (T.hk e he).2.2.symm)]; exact h.k e he, .inr ⟨db, ex, by rw [hl]; exact hdv, St.setB_get hdb⟩⟩
  · rw [St.setB_ne (ne_cc h.p hdb T.hpd).symm]; exact h.p
  · rcases h.q with hq | ⟨qb, ex2, h1, h2⟩
    · exact .inl hq
    · exact .inr ⟨qb, ex2, h1, by rw [St.setB_ne (ne_cc h2 hdb T.hqd).symm]; exact h2⟩
  · have := h.m k q hq hq0 j hj
    rw [St.setB_ne (ne_cM hdb this)]; exact this
end HM

/- A slot of a run: its beginning and its end. -/
namespace HM
open Go Go.RowKit
theorem SimE.start {l : List Flow} (hl : FlowsOk l) {t : Int} (ht : t + 1 ≤ 1099511627776) {q : PL} {r : RunL} (h : SimE l t q r) : Sim l (t + 1) q.dels ⟨releaseS l (t + 1) q.sts, q.atts, q.dels⟩ r := by
  have hslot : ∀ d ∈ q.dels, d.slot < t + 1 := fun d hd => by
    obtain ⟨b, hb, h1, _⟩ := h.run.dl d hd
    have := (h.run.at_ b hb).2.1
    omega
  refine ⟨by simp [releaseS, h.len], fun i f p hf hp => ?_, ⟨fun b hb => ?_, h.run.dl⟩, h.at_, ⟨[], [], by simp, by simp [h.dl], .refl _, .nil, by simp⟩, hslot⟩
  · simp only [releaseS, List.getElem?_zipWith, hf] at hp
    cases hq : q.sts[i]? with
    | none => rw [hq] at hp; cases hp
    | some p0 =>
      rw [hq] at hp
      simp only [Option.some.injEq] at hp
      subst hp
      exact (h.fl i f p0 hf hq).release hl ht h.run hf
  · obtain ⟨g1, g2, g3⟩ := h.run.at_ b hb
    exact ⟨g1, by omega, g3⟩
theorem sorted_eq {l l' ds : List Del} (hp : l'.Perm l) (h : l'.Pairwise fun a b => a.flow < b.flow) (hd : ds.Perm l) (hs : ds.Pairwise fun a b => a.flow ≤ b.flow) : ds = l' := by
  refine List.Perm.eq_of_pairwise (le := fun a b : Del => a.flow ≤ b.flow) (fun a b ha hb h1 h2 => ?_) hs (h.imp fun h => Int.le_of_lt h) (hd.trans hp.symm)
  have ha' : a ∈ l' := hp.symm.subset (hd.subset ha)
  obtain ⟨i, hi⟩ := List.getElem?_of_mem ha'
  obtain ⟨j, hj⟩ := List.getElem?_of_mem hb
  obtain ⟨hi1, hi2⟩ := List.getElem?_eq_some_iff.1 hi
  obtain ⟨hj1, hj2⟩ := List.getElem?_eq_some_iff.1 hj
  rcases Nat.lt_trichotomy i j with hij | rfl | hij
  · have := List.pairwise_iff_getElem.1 h i j hi1 hj1 hij
    rw [hi2, hj2] at this; omega
  · rw [hi] at hj; injection hj
  · have := List.pairwise_iff_getElem.1 h j i hj1 hi1 hij
    rw [hi2, hj2] at this; omega
/-- what an attempt asks of a state -/
theorem Sim.ask {l : List Flow} {t : Int} {base : List Del} {q : PL} {r : RunL} (h : Sim l t base q r) : (∀ (i : Nat) (p : PS), q.sts[i]? = some p → p.ok) ∧ (∀ (i : Nat) (p : PS), q.sts[i]? = some p → ¬ p.frame < 0 → ∀ a b, 0 ≤ (p.tries.get [a, b]).getD 0 ∧ (p.tries.get [a, b]).getD 0 ≤ (q.atts.length : Int)) := by
  have hf : ∀ (i : Nat) (p : PS), q.sts[i]? = some p → ∃ f, l[i]? = some f := fun i p hp => by
    have h1 := (List.getElem?_eq_some_iff.1 hp).1
    exact ⟨_, List.getElem?_eq_getElem (by rw [← h.len]; exact h1)⟩
  refine ⟨fun i p hp => ?_, fun i p hp h0 a b => ?_⟩
  · obtain ⟨f, hf⟩ := hf i p hp
    exact (h.fl i f p hf hp).ok
  · obtain ⟨f, hf⟩ := hf i p hp
    have := (h.fl i f p hf hp).tr (by omega) ⟨0, 0, a, b, f.id⟩ rfl
    simp only at this
    rw [this]
    have h2 : countR q.atts ⟨0, 0, a, b, f.id⟩ p.frame ≤ q.atts.length := List.countP_le_length
    omega
/-- behind a slot's attempts -/
theorem Sim.slotEnd {l : List Flow} {t : Int} {q q1 : PL} {r1 : RunL} (h : Sim l t q.dels q1 r1) : ∃ new, q1.dels = q.dels ++ new ∧ ∀ ds, ds.Perm new → (ds.Pairwise fun a b => a.flow ≤ b.flow) → q1.dels.take q.dels.length ++ (q1.dels.drop q.dels.length).mergeSort (fun a b => decide (a.flow ≤ b.flow)) = q.dels ++ ds := by
  obtain ⟨new, old, d1, d2, d3, d4, d5⟩ := h.dl
  refine ⟨new, d1, fun ds hp hs => ?_⟩
  have e1 : q1.dels.take q.dels.length = q.dels := by rw [d1]; simp
  have e2 : q1.dels.drop q.dels.length = new := by rw [d1]; simp
  rw [e1, e2, sort_eq d3 d4, sorted_eq d3 d4 hp hs]
end HM

/- A run's beginning in a store. -/
namespace HM
open Go Go.RowKit
theorem delOk : EncOk Del.av 3 := ⟨fun _ => rfl, fun _ => rfl, fun _ => rfl, fun _ => rfl, fun _ => rfl, by decide⟩
theorem states0 (l : List Flow) (g : Nat → Nat → Nat) (z : AV) (hz : ∀ h : Nat → Nat, stAV h PS.first = z) : statesE g (l.map fun _ => PS.first) = List.replicate l.length z := by
  apply List.ext_getElem?
  intro i
  simp only [statesE, List.getElem?_mapIdx, List.getElem?_map, List.getElem?_replicate]
  cases hi : l[i]? with
  | none =>
    have := List.getElem?_eq_none_iff.1 hi
    rw [if_neg (by omega)]; rfl
  | some f =>
    have := (List.getElem?_eq_some_iff.1 hi).1
    rw [if_pos this]
    simp [hz]
end HM

/- Rows of numbers that are written; bits cleared. -/
namespace HM
open Go Go.RowKit

end HM

/- Places, in plain words. -/
namespace HM
open Go Go.RowKit

def Cell.zero : Cell := ⟨0, 0, 0, 0, 0⟩
end HM

/- Arguments as schedules, masks, cells. -/
namespace HM
open Go Go.RowKit

def tI : Ty := .int .i64
def tCell : Ty := .st [tI, tI, tI, tI, tI]
def tSched : Ty := .st [tI, tI, .sl tCell]
def I64b (n : Int) : Prop := -9223372036854775808 ≤ n ∧ n ≤ 9223372036854775807

theorem sh_int {l : List AV} (h : tI.sh l) : ∃ n, l = [.int .i64 n] ∧ I64b n := by
  obtain ⟨n, rfl, hw⟩ := h
  refine ⟨n, rfl, ?_⟩
  simp only [Lit.wf, Bool.and_eq_true, decide_eq_true_eq] at hw
  exact hw
theorem sh_cell {l : List AV} (h : tCell.sh l) : ∃ c : Cell, l = [.int .i64 c.slot, .int .i64 c.off, .int .i64 c.src, .int .i64 c.dst, .int .i64 c.flow] := by
  obtain ⟨_, _, rfl, _, h1, _, _, rfl, _, h2, _, _, rfl, _, h3, _, _, rfl, _, h4, _, _, rfl, _, h5, h6⟩ := h
  obtain ⟨a, rfl, _⟩ := sh_int h1
  obtain ⟨b, rfl, _⟩ := sh_int h2
  obtain ⟨c, rfl, _⟩ := sh_int h3
  obtain ⟨d, rfl, _⟩ := sh_int h4
  obtain ⟨e, rfl, _⟩ := sh_int h5
  obtain rfl := h6
  exact ⟨⟨a, b, c, d, e⟩, rfl⟩
theorem list_of {α : Type} {d : Ty} {f : α → AV} (h : ∀ l, d.sh l → ∃ x, d.mk l = f x) : ∀ els : List (List AV), (∀ c ∈ els, d.sh c ∧ c.length = d.n) → ∃ xs : List α, els.map d.mk = xs.map f ∧ xs.length = els.length
  | [], _ => ⟨[], rfl, rfl⟩
  | c :: els, hc => by
    obtain ⟨x, hx⟩ := h c (hc c (by simp)).1
    obtain ⟨xs, h1, h2⟩ := list_of h els (fun c hm => hc c (by simp [hm]))
    exact ⟨x :: xs, by simp [hx, h1], by simp [h2]⟩
theorem sh_cells {l : List AV} (h : (Ty.sl tCell).sh l) : ∃ cs : List Cell, l = [encCells cs] ∧ cs.length ≤ 140737488355328 := by
  obtain ⟨els, rfl, h1, h2⟩ := h
  obtain ⟨cs, h3, h4⟩ := list_of (f := Cell.av) (fun l hl => by
    obtain ⟨c, rfl⟩ := sh_cell hl
    exact ⟨c, rfl⟩) els h1
  exact ⟨cs, by rw [h3]; rfl, by omega⟩
theorem sh_ints {l : List AV} (h : (Ty.sl tI).sh l) : ∃ f : List Int, l = [encIs f] ∧ f.length ≤ 140737488355328 := by
  obtain ⟨els, rfl, h1, h2⟩ := h
  obtain ⟨cs, h3, h4⟩ := list_of (f := encI) (fun l hl => by
    obtain ⟨c, rfl, _⟩ := sh_int hl
    exact ⟨c, rfl⟩) els h1
  exact ⟨cs, by rw [h3]; rfl, by omega⟩
theorem sh5 {d1 d2 d3 d4 d5 : Ty} : ∀ {es : List AV}, shArgs [d1, d2, d3, d4, d5] es → ∃ l1 l2 l3 l4 l5, es = [d1.mk l1, d2.mk l2, d3.mk l3, d4.mk l4, d5.mk l5] ∧ d1.sh l1 ∧ d2.sh l2 ∧ d3.sh l3 ∧ d4.sh l4 ∧ d5.sh l5
  | [e1, e2, e3, e4, e5], h => by
    obtain ⟨⟨l1, h1, rfl⟩, ⟨l2, h2, rfl⟩, ⟨l3, h3, rfl⟩, ⟨l4, h4, rfl⟩, ⟨l5, h5, rfl⟩, _⟩ := h
    exact ⟨l1, l2, l3, l4, l5, rfl, h1, h2, h3, h4, h5⟩
  | [], h => by simp [shArgs] at h
  | [_], h => by simp [shArgs] at h
  | [_, _], h => by simp [shArgs] at h
  | [_, _, _], h => by simp [shArgs] at h
  | [_, _, _, _], h => by simp [shArgs] at h
  | _ :: _ :: _ :: _ :: _ :: _ :: _, h => by simp [shArgs] at h
end HM

/- Arguments as networks, flows, routes. -/
namespace HM
open Go Go.RowKit

def tFlow : Ty := .st [tI, tI, tI, tI, tI, tI]

theorem list_ofP {α : Type} {d : Ty} {f : α → AV} {Q : α → Prop} (h : ∀ l, d.sh l → ∃ x, d.mk l = f x ∧ Q x) : ∀ els : List (List AV), (∀ c ∈ els, d.sh c ∧ c.length = d.n) → ∃ xs : List α, els.map d.mk = xs.map f ∧ xs.length = els.length ∧ ∀ x ∈ xs, Q x
  | [], _ => ⟨[], rfl, rfl, by simp⟩
  | c :: els, hc => by
    obtain ⟨x, hx, hq⟩ := h c (hc c (by simp)).1
    obtain ⟨xs, h1, h2, h3⟩ := list_ofP h els (fun c hm => hc c (by simp [hm]))
    exact ⟨x :: xs, by simp [hx, h1], by simp [h2], by simpa using ⟨hq, h3⟩⟩
theorem sh_flow {l : List AV} (h : tFlow.sh l) : ∃ c : Flow, l = [.int .i64 c.id, .int .i64 c.src, .int .i64 c.dst, .int .i64 c.period, .int .i64 c.phase, .int .i64 c.dead] := by
  obtain ⟨_, _, rfl, _, h1, _, _, rfl, _, h2, _, _, rfl, _, h3, _, _, rfl, _, h4, _, _, rfl, _, h5, _, _, rfl, _, h5', h6⟩ := h
  obtain ⟨a, rfl, _⟩ := sh_int h1
  obtain ⟨b, rfl, _⟩ := sh_int h2
  obtain ⟨c, rfl, _⟩ := sh_int h3
  obtain ⟨d, rfl, _⟩ := sh_int h4
  obtain ⟨e, rfl, _⟩ := sh_int h5
  obtain ⟨f, rfl, _⟩ := sh_int h5'
  obtain rfl := h6
  exact ⟨⟨a, b, c, d, e, f⟩, rfl⟩
/-- the cells of a schedule are few enough -/
theorem sh_sched' {l : List AV} (h : tSched.sh l) : ∃ s : Sched, l = [.int .i64 s.len, .int .i64 s.offs, encCells s.cells] ∧ s.cells.length ≤ 140737488355328 := by
  obtain ⟨_, _, rfl, _, h1, _, _, rfl, _, h2, _, _, rfl, _, h3, h6⟩ := h
  obtain ⟨a, rfl, _⟩ := sh_int h1
  obtain ⟨b, rfl, _⟩ := sh_int h2
  obtain ⟨c, rfl, hc⟩ := sh_cells h3
  obtain rfl := h6
  exact ⟨⟨a, b, c⟩, rfl, hc⟩
end HM

/- Arguments as scripts and lists of flows. -/
namespace HM
open Go Go.RowKit

def tRule : Ty := .st [tI, tI, tI, tI, .sl tI]
theorem sh_rule {l : List AV} (h : tRule.sh l) : ∃ r : Rule, l = [.int .i64 r.flow, .int .i64 r.src, .int .i64 r.dst, .int .i64 r.frame, encIs r.outs] ∧ r.outs.length ≤ 140737488355328 := by
  obtain ⟨_, _, rfl, _, h1, _, _, rfl, _, h2, _, _, rfl, _, h3, _, _, rfl, _, h4, _, _, rfl, _, h5, h6⟩ := h
  obtain ⟨a, rfl, _⟩ := sh_int h1
  obtain ⟨b, rfl, _⟩ := sh_int h2
  obtain ⟨c, rfl, _⟩ := sh_int h3
  obtain ⟨d, rfl, _⟩ := sh_int h4
  obtain ⟨e, rfl, e1⟩ := sh_ints h5
  obtain rfl := h6
  exact ⟨⟨a, b, c, d, e⟩, rfl, e1⟩
theorem sh_script {l : List AV} (h : (Ty.sl tRule).sh l) : ∃ x : List Rule, l = [encScript x] ∧ x.length ≤ 140737488355328 ∧ ∀ r ∈ x, r.outs.length ≤ 140737488355328 := by
  obtain ⟨els, rfl, h1, h2⟩ := h
  obtain ⟨cs, h3, h4, h5⟩ := list_ofP (f := Rule.av) (Q := fun r : Rule => r.outs.length ≤ 140737488355328) (fun l hl => by
    obtain ⟨c, rfl, hc⟩ := sh_rule hl
    exact ⟨c, rfl, hc⟩) els h1
  exact ⟨cs, by rw [h3]; rfl, by omega, h5⟩
theorem sh_flows {l : List AV} (h : (Ty.sl tFlow).sh l) : ∃ fs : List Flow, l = [encFlows fs] ∧ fs.length ≤ 140737488355328 := by
  obtain ⟨els, rfl, h1, h2⟩ := h
  obtain ⟨cs, h3, h4⟩ := list_of (f := Flow.av) (fun l hl => by
    obtain ⟨c, rfl⟩ := sh_flow hl
    exact ⟨c, rfl⟩) els h1
  exact ⟨cs, by rw [h3]; rfl, by omega⟩
theorem len1 {α : Type} {l : List α} (h : l.length = 1) : ∃ a, l = [a] := List.length_eq_one_iff.1 h
theorem len2 {α : Type} {l : List α} (h : l.length = 2) : ∃ a b, l = [a, b] := by
  obtain ⟨a, l1, rfl⟩ := List.exists_cons_of_length_eq_add_one h
  obtain ⟨b, rfl⟩ := len1 (l := l1) (by simpa using h)
  exact ⟨a, b, rfl⟩
end HM

/- Arguments: changes, runs. -/
namespace HM
open Go Go.RowKit

def tChg : Ty := .st [tI, .bool, tCell]
theorem sh_chg {l : List AV} (h : tChg.sh l) : ∃ c : Chg, l = c.av.cells := by
  obtain ⟨_, _, rfl, _, h1, _, _, rfl, _, h2, _, _, rfl, _, h3, h6⟩ := h
  obtain ⟨a, rfl, _⟩ := sh_int h1
  obtain ⟨b, rfl⟩ := h2
  obtain ⟨c, rfl⟩ := sh_cell h3
  obtain rfl := h6
  exact ⟨⟨a, b, c⟩, rfl⟩
theorem sh_chgs {l : List AV} (h : (Ty.sl tChg).sh l) : ∃ cs : List Chg, l = [encChgs cs] ∧ cs.length ≤ 140737488355328 := by
  obtain ⟨els, rfl, h1, h2⟩ := h
  obtain ⟨cs, h3, h4⟩ := list_of (f := Chg.av) (fun l hl => by
    obtain ⟨c, rfl⟩ := sh_chg hl
    exact ⟨c, rfl⟩) els h1
  exact ⟨cs, by rw [h3]; rfl, by omega⟩
def tU8 : Ty := .int .u8
theorem sh_u8 {l : List AV} (h : tU8.sh l) : ∃ n, l = [.int .u8 n] ∧ 0 ≤ n ∧ n ≤ 255 := by
  obtain ⟨n, rfl, hw⟩ := h
  refine ⟨n, rfl, ?_⟩
  simp only [Lit.wf, Bool.and_eq_true, decide_eq_true_eq] at hw
  exact hw
end HM

/- The law on a flow on its own. -/
namespace HM
open Go Go.RowKit

theorem alone_law {l : List Flow} {s : Sched} {x : List Rule} {slots : Int} (h : (playM l s x slots).2 = 0) {i : Nat} {f : Flow} (hf : l[i]? = some f) :
    playM [f] s x slots = (partA f.id (playM l s x slots).1, 0) ∧ (playM l s [] slots).2 = 0 ∧ ∀ y ∈ (playM l s [] slots).1.atts, ∀ z ∈ (playM l s [] slots).1.atts, (decide (z.slot < y.slot) && (z.frame == y.frame && (z.cell.flow == y.cell.flow && (z.cell.src == y.cell.src && z.cell.dst == y.cell.dst)))) = false := by
  have hready : readyM l s x slots = 0 := Classical.byContradiction fun hh => by rw [playM_bad hh] at h; exact hh h
  have hF := flowsOk_of (ready_all hready).1
  have h1 := ready_one hready hf
  have h2 := ready_quiet hready
  refine ⟨?_, by rw [playM_R h2], fun y hy z hz => ?_⟩
  · rw [playM_R h1, playM_R hready, ← playR_part hF hf (fun _ => s) x slots.toNat]
  · rw [playM_R h2] at hy hz
    exact quiet_once l (fun _ => s) slots.toNat hy hz
theorem part_hit {id : Int} {R : List Att} {k : Nat} {a : Att} (h : R[k]? = some a) (ha : a.cell.flow = id) : (R.take (k + 1)).filter (fun a => a.cell.flow == id) = (R.take k).filter (fun a => a.cell.flow == id) ++ [a] := by
  rw [take_succ h, List.filter_append, List.filter_cons, if_pos (by simpa using ha)]; rfl
theorem part_miss {id : Int} {R : List Att} {k : Nat} {a : Att} (h : R[k]? = some a) (ha : ¬ a.cell.flow = id) : (R.take (k + 1)).filter (fun a => a.cell.flow == id) = (R.take k).filter (fun a => a.cell.flow == id) := by
  rw [take_succ h, List.filter_append, List.filter_cons, if_neg (by simpa using ha)]; simp
theorem partd_hit {id : Int} {R : List Del} {k : Nat} {a : Del} (h : R[k]? = some a) (ha : a.flow = id) : (R.take (k + 1)).filter (fun a => a.flow == id) = (R.take k).filter (fun a => a.flow == id) ++ [a] := by
  rw [take_succ h, List.filter_append, List.filter_cons, if_pos (by simpa using ha)]; rfl
theorem partd_miss {id : Int} {R : List Del} {k : Nat} {a : Del} (h : R[k]? = some a) (ha : ¬ a.flow = id) : (R.take (k + 1)).filter (fun a => a.flow == id) = (R.take k).filter (fun a => a.flow == id) := by
  rw [take_succ h, List.filter_append, List.filter_cons, if_neg (by simpa using ha)]; simp
end HM
namespace HM
theorem playM_len {l : List Flow} {s : Sched} {x : List Rule} {slots : Int} : (playM l s x slots).1.atts.length ≤ 2097152 ∧ (playM l s x slots).1.dels.length ≤ 2097152 := by
  by_cases hready : readyM l s x slots = 0
  · obtain ⟨r1, r2, r3, r4, r5⟩ := ready_all hready
    have hcl := (form_all r2).2.1
    have := play_len (l := l) (fun _ => s) x (m := 512) (fun _ => hcl) slots.toNat
    have hs := playV_R (flowsOk_of r1) (fun _ => s) x slots.toNat (by omega)
    rw [playM_R hready]
    simp only
    rw [hs.dl, hs.at_]
    omega
  · rw [playM_bad hready]; simp
end HM
