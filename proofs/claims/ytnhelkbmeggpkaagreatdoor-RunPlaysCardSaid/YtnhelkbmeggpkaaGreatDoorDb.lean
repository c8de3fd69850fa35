/- Runs and changes in plain words. -/
import Derived.Test.YtnhelkbmeggpkaaGreatDoorDa
import Derived.Test.YtnhelkbmeggpkaaGreatDoorFh
/- The player plays the run of the reference. -/
namespace HM
open Go Go.RowKit

theorem key_eq {a b c d : Int} : ([a, b] : List Int) = [c, d] ↔ a = c ∧ b = d := by simp
theorem onA_at {c' : Cell} {t n o : Int} {c : Cell} (h : c.flow = c'.flow) (m : Int) : onA c' m ⟨t, n, c, o⟩ = (decide (n = m) && decide ([c'.src, c'.dst] = [c.src, c.dst])) := by
  rw [Bool.eq_iff_iff]
  simp only [onA, Bool.and_eq_true, beq_iff_eq, decide_eq_true_eq, key_eq, h]
  constructor
  · rintro ⟨⟨⟨_, h1⟩, h2⟩, h3⟩
    exact ⟨h1, h2.symm, h3.symm⟩
  · rintro ⟨h1, h2, h3⟩
    exact ⟨⟨⟨trivial, h1⟩, h2.symm⟩, h3.symm⟩

/-- an attempt of this flow -/
theorem FlowI.used {f : Flow} {t : Int} {p : PS} {ats : List Att} {ds ds' : List Del} (h : FlowI f t p ats ds) (hp : 0 ≤ p.frame) {c : Cell} (hc : c.flow = f.id) (o : Int) (ht : ∀ b ∈ ats, b.slot ≤ t)
    (hd : hadR ds' f.id p.frame = (hadR ds f.id p.frame || (decide (o ≠ 3) && c.dst == f.dst))) : FlowI f t (usedP f p c t o) (ats ++ [⟨t, p.frame, c, o⟩]) ds' := by
  obtain ⟨k1, k2, k3⟩ := h.ok
  have hbound : ∀ node a, p.since.get [node] = some a → a ≤ t + 1 := by
    intro node a ha
    rcases h.s1 hp node a ha with rfl | ⟨b, hb, _, rfl⟩
    · obtain ⟨a', h1, h2⟩ := h.s3 hp
      rw [ha] at h1; injection h1 with h1; omega
    · have := ht b hb; omega
  have hbound2 : ∀ c' : Cell, c'.flow = f.id → ∀ a, p.acked.get [c'.src, c'.dst] = some a → a ≤ t := by
    intro c' hc' a ha
    obtain ⟨b, hb, _, _, rfl⟩ := h.a1 hp c' hc' a ha
    exact ht b hb
  have hgb : ∀ node, gotA f.id p.frame node ⟨t, p.frame, c, o⟩ = true ↔ node = c.dst ∧ o ≠ 3 := by
    intro node
    simp only [gotA, hc, Bool.and_eq_true, beq_iff_eq, bne_iff_ne, true_and]
    constructor
    · rintro ⟨h1, h2⟩; exact ⟨h1.symm, h2⟩
    · rintro ⟨h1, h2⟩; exact ⟨h1.symm, h2⟩
  refine ⟨⟨?_, IM.set_ok k2 _ _, ?_⟩, h.off, h.on, fun _ node a ha => ?_, fun _ node b hb hh => ?_, fun _ => ?_, fun _ c' hc' a ha => ?_, fun _ c' hc' b hb hh ho => ?_, fun _ c' hc' => ?_, fun _ => ?_⟩
  · show IM.ok (if o ≠ 3 ∧ p.since.get [c.dst] = Option.none then p.since.set [c.dst] (t + 1) else p.since)
    split
    · exact IM.set_ok k1 _ _
    · exact k1
  · show IM.ok (if o = 1 ∧ p.acked.get [c.src, c.dst] = Option.none then p.acked.set [c.src, c.dst] t else p.acked)
    split
    · exact IM.set_ok k3 _ _
    · exact k3
  · replace ha : (if o ≠ 3 ∧ p.since.get [c.dst] = Option.none then p.since.set [c.dst] (t + 1) else p.since).get [node] = some a := ha
    have old : p.since.get [node] = some a → node = f.src ∨ ∃ b ∈ ats ++ [⟨t, p.frame, c, o⟩], gotA f.id p.frame node b = true ∧ a = b.slot + 1 := by
      intro ha
      rcases h.s1 hp node a ha with h1 | ⟨b, hb, h2⟩
      · exact .inl h1
      · exact .inr ⟨b, by simp [hb], h2⟩
    split at ha
    · rename_i hh
      rw [IM.get_set k1] at ha
      split at ha
      · rename_i he
        injection he with he
        injection ha with ha
        exact .inr ⟨_, by simp, (hgb node).2 ⟨he, hh.1⟩, ha.symm⟩
      · exact old ha
    · exact old ha
  · show ∃ a, (if o ≠ 3 ∧ p.since.get [c.dst] = Option.none then p.since.set [c.dst] (t + 1) else p.since).get [node] = some a ∧ a ≤ b.slot + 1
    have hb' : b ∈ ats ∨ b = ⟨t, p.frame, c, o⟩ := by simpa using hb
    rcases hb' with hb' | rfl
    · obtain ⟨a, h1, h2⟩ := h.s2 hp node b hb' hh
      refine ⟨a, ?_, h2⟩
      split
      · rename_i hx
        rw [IM.get_set k1, if_neg ?_]
        · exact h1
        · intro he; rw [he, hx.2] at h1; cases h1
      · exact h1
    · obtain ⟨rfl, ho⟩ := (hgb node).1 hh
      cases hs : p.since.get [c.dst] with
      | none => rw [if_pos ⟨ho, rfl⟩]; exact ⟨t + 1, by simp [IM.get_set k1], Int.le_refl _⟩
      | some a => rw [if_neg (fun hh => by cases hh.2)]; exact ⟨a, hs, hbound _ a hs⟩
  · show ∃ a, (if o ≠ 3 ∧ p.since.get [c.dst] = Option.none then p.since.set [c.dst] (t + 1) else p.since).get [f.src] = some a ∧ a ≤ t
    obtain ⟨a, h1, h2⟩ := h.s3 hp
    refine ⟨a, ?_, h2⟩
    split
    · rename_i hx
      rw [IM.get_set k1, if_neg ?_]
      · exact h1
      · intro he; rw [he, hx.2] at h1; cases h1
    · exact h1
  · replace ha : (if o = 1 ∧ p.acked.get [c.src, c.dst] = Option.none then p.acked.set [c.src, c.dst] t else p.acked).get [c'.src, c'.dst] = some a := ha
    have old : p.acked.get [c'.src, c'.dst] = some a → ∃ b ∈ ats ++ [⟨t, p.frame, c, o⟩], onA c' p.frame b = true ∧ b.out = 1 ∧ b.slot = a := by
      intro ha
      obtain ⟨b, hb, h2⟩ := h.a1 hp c' hc' a ha
      exact ⟨b, by simp [hb], h2⟩
    split at ha
    · rename_i hh
      rw [IM.get_set k3] at ha
      split at ha
      · rename_i he
        injection ha with ha
        exact ⟨_, List.mem_append_right _ (List.mem_singleton.2 rfl), by rw [onA_at (hc.trans hc'.symm)]; simp [he]; rfl, hh.1, ha⟩
      · exact old ha
    · exact old ha
  · show ∃ a, (if o = 1 ∧ p.acked.get [c.src, c.dst] = Option.none then p.acked.set [c.src, c.dst] t else p.acked).get [c'.src, c'.dst] = some a ∧ a ≤ b.slot
    have hb' : b ∈ ats ∨ b = ⟨t, p.frame, c, o⟩ := by simpa using hb
    rcases hb' with hb' | rfl
    · obtain ⟨a, h1, h2⟩ := h.a2 hp c' hc' b hb' hh ho
      refine ⟨a, ?_, h2⟩
      split
      · rename_i hx
        rw [IM.get_set k3, if_neg ?_]
        · exact h1
        · intro he; rw [he, hx.2] at h1; cases h1
      · exact h1
    · have hh : onA c' p.frame ⟨t, p.frame, c, o⟩ = true := hh
      rw [onA_at (hc.trans hc'.symm)] at hh
      simp only [decide_true, Bool.true_and, decide_eq_true_eq] at hh
      rw [hh]
      cases hs : p.acked.get [c.src, c.dst] with
      | none => rw [if_pos ⟨ho, rfl⟩]; exact ⟨t, by simp [IM.get_set k3], Int.le_refl _⟩
      | some a => rw [if_neg (fun hh => by cases hh.2)]; exact ⟨a, hs, hbound2 c hc a hs⟩
  · show ((p.tries.set [c.src, c.dst] ((p.tries.get [c.src, c.dst]).getD 0 + 1)).get [c'.src, c'.dst]).getD 0 = (countR (ats ++ [⟨t, p.frame, c, o⟩]) c' p.frame : Int)
    rw [IM.get_set k2]
    have e1 := h.tr hp c' hc'
    have e2 := h.tr hp c hc
    unfold countR at e1 e2 ⊢
    rw [List.countP_append, List.countP_singleton, onA_at (hc.trans hc'.symm)]
    by_cases he : [c'.src, c'.dst] = [c.src, c.dst]
    · have e3 : List.countP (onA c' p.frame) ats = List.countP (onA c p.frame) ats := by
        congr 1
        funext b
        obtain ⟨h1, h2⟩ := key_eq.1 he
        simp only [onA, h1, h2, hc, hc']
      rw [if_pos he, e3]
      simp [he, e2]
    · rw [if_neg he, e1]
      simp [he]
  · show (p.done || (decide (o ≠ 3) && c.dst == f.dst)) = _
    rw [h.dn hp]; exact hd.symm

-- deliveries of a slot
theorem takeWhile_none {α : Type} {q : α → Bool} {l : List α} (h : ∀ x ∈ l, q x = false) : l.takeWhile q = [] := by
  cases l with
  | nil => rfl
  | cons x l => rw [List.takeWhile_cons, h x (by simp)]; rfl
theorem dropWhile_none {α : Type} {q : α → Bool} {l : List α} (h : ∀ x ∈ l, q x = false) : l.dropWhile q = l := by
  cases l with
  | nil => rfl
  | cons x l => rw [List.dropWhile_cons, h x (by simp)]; rfl
theorem insD_app {d : Del} {base old : List Del} (h : ∀ x ∈ base, x.slot ≠ d.slot) : insD d (base ++ old) = base ++ insD d old := by
  have hb : ∀ x ∈ base.reverse, laterD d x = false := by
    intro x hx
    have := h x (by simpa using hx)
    simp [laterD, this]
  unfold insD
  rw [List.reverse_append, List.takeWhile_append, List.dropWhile_append, takeWhile_none hb, dropWhile_none hb]
  split
  · rename_i he
    have e2 := List.takeWhile_append_dropWhile (p := laterD d) (l := old.reverse)
    have e4 : List.dropWhile (laterD d) old.reverse = [] := List.isEmpty_iff.1 he
    have e1 : List.takeWhile (laterD d) old.reverse = old.reverse := by
      rw [e4, List.append_nil] at e2
      exact e2
    rw [e4, e1]
    simp
  · rename_i he
    have e2 := List.takeWhile_append_dropWhile (p := laterD d) (l := old.reverse)
    rw [if_neg ?_]
    · simp
    · intro hl
      apply he
      have e3 := congrArg List.length e2
      rw [List.length_append] at e3
      rw [List.isEmpty_iff]
      exact List.length_eq_zero_iff.1 (by omega)
theorem insD_perm (d : Del) (l : List Del) : (insD d l).Perm (l ++ [d]) := by
  have e2 := List.takeWhile_append_dropWhile (p := laterD d) (l := l.reverse)
  have e3 : l = (l.reverse.dropWhile (laterD d)).reverse ++ (l.reverse.takeWhile (laterD d)).reverse := by
    rw [← List.reverse_append, e2, List.reverse_reverse]
  unfold insD
  refine List.Perm.trans (List.perm_middle) ?_
  refine List.Perm.trans ?_ (List.perm_append_singleton d l).symm
  rw [← e3]
theorem insD_sorted {d : Del} {l : List Del} (h : l.Pairwise fun a b => a.flow < b.flow) (hs : ∀ x ∈ l, x.slot = d.slot) (hn : ∀ x ∈ l, x.flow ≠ d.flow) : (insD d l).Pairwise fun a b => a.flow < b.flow := by
  have e2 := List.takeWhile_append_dropWhile (p := laterD d) (l := l.reverse)
  have hr : l.reverse.Pairwise fun a b => b.flow < a.flow := List.pairwise_reverse.2 h
  have hmem : ∀ x, x ∈ l.reverse.takeWhile (laterD d) ++ l.reverse.dropWhile (laterD d) → x ∈ l := fun x hx => by rw [e2] at hx; simpa using hx
  have h1 : ∀ x ∈ l.reverse.takeWhile (laterD d), d.flow < x.flow := by
    intro x hx
    have := List.all_eq_true.1 (List.all_takeWhile (p := laterD d) (l := l.reverse)) x hx
    simp only [laterD, Bool.and_eq_true, decide_eq_true_eq] at this
    exact this.2
  have h2 : ∀ x ∈ l.reverse.dropWhile (laterD d), x.flow < d.flow := by
    rw [← e2] at hr
    have hr2 := (List.pairwise_append.1 hr).2.1
    cases hd : l.reverse.dropWhile (laterD d) with
    | nil => intro x hx; cases hx
    | cons y ys =>
      rw [hd] at hr2
      have hy : laterD d y = false := by
        have := List.head_dropWhile_not (laterD d) (l := l.reverse) (by rw [hd]; simp)
        simpa [hd] using this
      have hyl : y ∈ l := hmem y (by rw [hd]; simp)
      have hy2 : y.flow < d.flow := by
        simp only [laterD, hs y hyl, beq_self_eq_true, Bool.true_and, decide_eq_false_iff_not] at hy
        have := hn y hyl
        omega
      intro x hx
      rcases List.mem_cons.1 hx with rfl | hx
      · exact hy2
      · have := (List.pairwise_cons.1 hr2).1 x hx
        omega
  rw [← e2] at hr
  obtain ⟨r1, r2, r3⟩ := List.pairwise_append.1 hr
  unfold insD
  refine List.pairwise_append.2 ⟨List.pairwise_reverse.2 r2, List.pairwise_cons.2 ⟨fun x hx => h1 x (by simpa using hx), List.pairwise_reverse.2 r1⟩, fun a ha b hb => ?_⟩
  have ha' := h2 a (by simpa using ha)
  rcases List.mem_cons.1 hb with rfl | hb
  · exact ha'
  · have := h1 b (by simpa using hb)
    omega
theorem sort_eq {l l' : List Del} (hp : l'.Perm l) (h : l'.Pairwise fun a b => a.flow < b.flow) : l.mergeSort (fun a b => decide (a.flow ≤ b.flow)) = l' := by
  refine List.Perm.eq_of_pairwise (le := fun a b : Del => a.flow ≤ b.flow) (fun a b ha hb h1 h2 => ?_) ?_ (h.imp fun h => Int.le_of_lt h) ((List.mergeSort_perm _ _).trans hp.symm)
  · have ha' : a ∈ l' := hp.symm.subset ((List.mergeSort_perm _ _).subset ha)
    obtain ⟨i, hi⟩ := List.getElem?_of_mem ha'
    obtain ⟨j, hj⟩ := List.getElem?_of_mem hb
    obtain ⟨hi1, hi2⟩ := List.getElem?_eq_some_iff.1 hi
    obtain ⟨hj1, hj2⟩ := List.getElem?_eq_some_iff.1 hj
    rcases Nat.lt_trichotomy i j with hij | rfl | hij
    · have := List.pairwise_iff_getElem.1 h i j hi1 hj1 hij
      rw [hi2, hj2] at this; omega
    · rw [hi] at hj; injection hj
    · have := List.pairwise_iff_getElem.1 h j i hj1 hi1 hij
      rw [hi2, hj2] at this; omega
  · have := List.pairwise_mergeSort (le := fun a b : Del => decide (a.flow ≤ b.flow)) (fun a b c h1 h2 => by simp at *; omega) (fun a b => by simp; omega) l
    exact this.imp fun h => by simpa using h

structure Sim (l : List Flow) (t : Int) (base : List Del) (q : PL) (r : RunL) : Prop where
  len : q.sts.length = l.length
  fl : ∀ (i : Nat) (f : Flow) (p : PS), l[i]? = some f → q.sts[i]? = some p → FlowI f t p q.atts q.dels
  run : RunI l t q.atts q.dels
  at_ : r.atts = q.atts
  dl : ∃ new old, q.dels = base ++ new ∧ r.dels = base ++ old ∧ old.Perm new ∧ (old.Pairwise fun a b => a.flow < b.flow) ∧ ∀ d ∈ new, d.slot = t
  bs : ∀ d ∈ base, d.slot < t

theorem hadR_append (a b : List Del) (id n : Int) : hadR (a ++ b) id n = (hadR a id n || hadR b id n) := by simp [hadR]
theorem hadR_perm {a b : List Del} (h : a.Perm b) (id n : Int) : hadR a id n = hadR b id n := by
  rw [Bool.eq_iff_iff]
  simp only [hadR, List.any_eq_true]
  constructor
  · rintro ⟨d, hd, h1⟩; exact ⟨d, h.subset hd, h1⟩
  · rintro ⟨d, hd, h1⟩; exact ⟨d, h.symm.subset hd, h1⟩

theorem Sim.attempt {l : List Flow} (hl : FlowsOk l) {t : Int} (ht : t ≤ 1099511627776) (ht0 : 0 ≤ t) {base : List Del} {q : PL} {r : RunL} (x : List Rule) (h : Sim l t base q r) (c : Cell) : Sim l t base (attemptS l x t q c) (attemptR l x t r c) := by
  unfold attemptS attemptR
  by_cases h1 : findF l c.flow < 0
  · rw [if_pos h1, if_pos h1]; exact h
  rw [if_neg h1, if_neg h1]
  obtain ⟨i, f, e1, hf, hid⟩ := findF_at h1
  have hil := (List.getElem?_eq_some_iff.1 hf).1
  obtain ⟨p, hp⟩ : ∃ p, q.sts[i]? = some p := ⟨_, List.getElem?_eq_getElem (by rw [h.len]; exact hil)⟩
  have hF := h.fl i f p hf hp
  have hfe := hl.ok i f hf
  rw [e1, Int.toNat_natCast, hf, hp]
  simp only
  by_cases hcur : (curM f t).2 = false
  · rw [if_pos (.inl (by rw [hF.off hcur]; decide)), if_pos (.inl hcur)]; exact h
  have hcur : (curM f t).2 = true := by simpa using hcur
  have hfr := hF.on hcur
  have hp0 : 0 ≤ p.frame := by rw [hfr]; exact cur_nn hfe hcur
  have hidle := idle_iff hF hp0 hid.symm
  by_cases hid2 : idleB f p c t = true
  · rw [if_pos (.inr hid2), if_pos]
    · exact h
    · rw [← hfr, h.at_]
      exact .inr (hidle.1 hid2)
  have n1 : ¬ (p.frame < 0 ∨ idleB f p c t = true) := by
    rintro (hh | hh)
    · omega
    · exact hid2 hh
  have n2 : ¬ ((curM f t).2 = false ∨ c.src = f.dst ∨ holdsR f r.atts c.src (curM f t).1 t = false ∨ ackedR r.atts c (curM f t).1 t = true) := by
    rintro (hh | hh)
    · rw [hcur] at hh; cases hh
    · rw [← hfr, h.at_] at hh
      exact hid2 (hidle.2 hh)
  rw [if_neg n1, if_neg n2]
  have ho : outP x f p c = outcomeM x c.flow (curM f t).1 c.src c.dst (countR r.atts c (curM f t).1) := by
    unfold outP
    rw [hF.tr hp0 c hid.symm, ← hfr, h.at_, hid, Int.toNat_natCast]
  rw [← ho, ← hfr]
  obtain ⟨o, hoe⟩ : ∃ o, o = outP x f p c := ⟨_, rfl⟩
  rw [← hoe]
  obtain ⟨new, old, d1, d2, d3, d4, d5⟩ := h.dl
  have hperm : r.dels.Perm q.dels := by rw [d1, d2]; exact List.Perm.append_left base d3
  have hdn : p.done = hadR r.dels c.flow p.frame := by rw [hadR_perm hperm, ← hid]; exact hF.dn hp0
  obtain ⟨b, hb⟩ : ∃ b : Att, b = ⟨t, p.frame, c, o⟩ := ⟨_, rfl⟩
  rw [← hb]
  obtain ⟨d, hd⟩ : ∃ d : Del, d = ⟨f.id, p.frame, t⟩ := ⟨_, rfl⟩
  rw [show (⟨c.flow, p.frame, t⟩ : Del) = d from by rw [hd, hid], ← hd]
  have hcond : (o ≠ 3 ∧ c.dst = f.dst ∧ p.done = false) ↔ (c.dst = f.dst ∧ o ≠ 3 ∧ hadR r.dels c.flow p.frame = false) := by
    rw [hdn]
    constructor
    · rintro ⟨g1, g2, g3⟩; exact ⟨g2, g1, g3⟩
    · rintro ⟨g1, g2, g3⟩; exact ⟨g2, g1, g3⟩
  have hslots : ∀ b ∈ q.atts, b.slot ≤ t := fun b hb => (h.run.at_ b hb).2.1
  have hrun : RunI l t (q.atts ++ [b]) q.dels := by
    refine ⟨fun b' hb' => ?_, fun d' hd' => ?_⟩
    · rcases List.mem_append.1 hb' with hb' | hb'
      · exact h.run.at_ b' hb'
      · have hb' : b' = b := by simpa using hb'
        subst hb'; subst hb
        refine ⟨ht0, Int.le_refl _, i, f, hf, hid, ?_⟩
        show curM f t = (p.frame, true)
        rw [hfr, ← hcur]
    · obtain ⟨b', g1, g2⟩ := h.run.dl d' hd'
      exact ⟨b', by simp [g1], g2⟩
  by_cases hdel : o ≠ 3 ∧ c.dst = f.dst ∧ p.done = false
  · rw [if_pos hdel, if_pos (hcond.1 hdel)]
    obtain ⟨g1, g2, g3⟩ := hdel
    have hfresh : ∀ d' ∈ new, d'.flow ≠ f.id := by
      intro d' hd' he
      have hmem : d' ∈ q.dels := by rw [d1]; simp [hd']
      obtain ⟨b', f1, f2, f3, f4⟩ := h.run.dl d' hmem
      have h5 := (h.run.frame hl ht hf f1 (f4.trans he)).2.2
      rw [f2, d5 d' hd'] at h5
      have h6 : hadR q.dels f.id p.frame = true := by
        simp only [hadR, List.any_eq_true, Bool.and_eq_true, beq_iff_eq]
        exact ⟨d', hmem, he, by rw [← f3, hfr, h5]⟩
      rw [hF.dn hp0, h6] at g3
      cases g3
    have hbase : ∀ y ∈ base, y.slot ≠ d.slot := fun y hy => by
      have := h.bs y hy
      rw [hd]; simp only; omega
    have hold : ∀ y ∈ old, y ∈ new := fun y hy => d3.subset hy
    have hhad : hadR (q.dels ++ [d]) f.id p.frame = (hadR q.dels f.id p.frame || (decide (o ≠ 3) && c.dst == f.dst)) := by
      rw [hadR_append]
      congr 1
      rw [hd]; simp [hadR, g1, g2]
    refine ⟨by simp [h.len], fun j f' p' hf' hp' => ?_, ⟨hrun.at_, fun d' hd' => ?_⟩, by rw [h.at_], ⟨new ++ [d], insD d old, by simp [d1], ?_, ?_, ?_, ?_⟩, h.bs⟩
    · by_cases hj : i = j
      · subst hj
        rw [hf] at hf'; injection hf' with hf'; subst hf'
        have hpe : p' = usedP f p c t o := by
          simp only [List.getElem?_set_self (show i < q.sts.length by rw [h.len]; exact hil), Option.some.injEq] at hp'
          exact hp'.symm
        subst hpe
        rw [hb]
        exact hF.used hp0 hid.symm o hslots hhad
      · simp only [List.getElem?_set_ne hj] at hp'
        have hne : f'.id ≠ f.id := fun he => hj (same_flow hl hf hf' he.symm).1
        refine (h.fl j f' p' hf' hp').other (by rw [hb]; show c.flow ≠ f'.id; rw [← hid]; exact fun he => hne he.symm) fun n => ?_
        rw [hadR_append]
        have : hadR [d] f'.id n = false := by
          have hne' : ¬ f.id = f'.id := fun he => hne he.symm
          rw [hd]; simp [hadR, hne']
        rw [this, Bool.or_false]
    · rcases List.mem_append.1 hd' with hd' | hd'
      · exact hrun.dl d' hd'
      · have hd' : d' = d := by simpa using hd'
        subst hd'
        exact ⟨b, by simp, by rw [hb, hd], by rw [hb, hd], by rw [hb, hd]; exact hid.symm⟩
    · rw [d2, insD_app hbase]
    · exact (insD_perm d old).trans (List.Perm.append_right _ d3)
    · exact insD_sorted d4 (fun y hy => by rw [d5 y (hold y hy), hd]) (fun y hy => by rw [hd]; exact hfresh y (hold y hy))
    · intro d' hd'
      rcases List.mem_append.1 hd' with hd' | hd'
      · exact d5 d' hd'
      · have hd' : d' = d := by simpa using hd'
        rw [hd', hd]
  · rw [if_neg hdel, if_neg (fun hh => hdel (hcond.2 hh))]
    have hhad : hadR q.dels f.id p.frame = (hadR q.dels f.id p.frame || (decide (o ≠ 3) && c.dst == f.dst)) := by
      rw [← hF.dn hp0]
      cases hpd : p.done with
      | true => rfl
      | false =>
        symm
        simp only [Bool.false_or]
        rw [Bool.eq_false_iff]
        intro hh
        simp only [Bool.and_eq_true, decide_eq_true_eq, beq_iff_eq] at hh
        exact hdel ⟨hh.1, hh.2, hpd⟩
    refine ⟨by simp [h.len], fun j f' p' hf' hp' => ?_, by simp only [List.append_nil]; exact hrun, by rw [h.at_], ⟨new, old, by simp [d1], d2, d3, d4, d5⟩, h.bs⟩
    simp only [List.append_nil]
    by_cases hj : i = j
    · subst hj
      rw [hf] at hf'; injection hf' with hf'; subst hf'
      have hpe : p' = usedP f p c t o := by
        simp only [List.getElem?_set_self (show i < q.sts.length by rw [h.len]; exact hil), Option.some.injEq] at hp'
        exact hp'.symm
      subst hpe
      rw [hb]
      exact hF.used hp0 hid.symm o hslots hhad
    · simp only [List.getElem?_set_ne hj] at hp'
      have hne : f'.id ≠ f.id := fun he => hj (same_flow hl hf hf' he.symm).1
      exact (h.fl j f' p' hf' hp').other (by rw [hb]; show c.flow ≠ f'.id; rw [← hid]; exact fun he => hne he.symm) fun n => rfl

theorem Sim.fold {l : List Flow} (hl : FlowsOk l) {t : Int} (ht : t ≤ 1099511627776) (ht0 : 0 ≤ t) {base : List Del} (x : List Rule) : ∀ (cs : List Cell) {q : PL} {r : RunL}, Sim l t base q r → Sim l t base (cs.foldl (attemptS l x t) q) (cs.foldl (attemptR l x t) r)
  | [], _, _, h => h
  | c :: cs, _, _, h => Sim.fold hl ht ht0 x cs (h.attempt hl ht ht0 x c)

/-- between slots -/
structure SimE (l : List Flow) (t : Int) (q : PL) (r : RunL) : Prop where
  len : q.sts.length = l.length
  fl : ∀ (i : Nat) (f : Flow) (p : PS), l[i]? = some f → q.sts[i]? = some p → FlowI f t p q.atts q.dels
  run : RunI l t q.atts q.dels
  at_ : r.atts = q.atts
  dl : r.dels = q.dels

theorem SimE.slot {l : List Flow} (hl : FlowsOk l) {t : Int} (ht : t + 1 ≤ 1099511627776) (ht0 : -1 ≤ t) {q : PL} {r : RunL} (s : Sched) (x : List Rule) (h : SimE l t q r) : SimE l (t + 1) (slotS l s x q (t + 1)) (slotR l s x r (t + 1)) := by
  have hslot : ∀ d ∈ q.dels, d.slot < t + 1 := fun d hd => by
    obtain ⟨b, hb, h1, _⟩ := h.run.dl d hd
    have := (h.run.at_ b hb).2.1
    omega
  have h0 : Sim l (t + 1) q.dels ⟨releaseS l (t + 1) q.sts, q.atts, q.dels⟩ r := by
    refine ⟨by simp [releaseS, h.len], fun i f p hf hp => ?_, ⟨fun b hb => ?_, h.run.dl⟩, h.at_, ⟨[], [], by simp, by simp [h.dl], .refl _, .nil, by simp⟩, hslot⟩
    · simp only [releaseS, List.getElem?_zipWith, hf] at hp
      cases hq : q.sts[i]? with
      | none => rw [hq] at hp; cases hp
      | some p0 =>
        rw [hq] at hp
        simp only [Option.some.injEq] at hp
        subst hp
        exact (h.fl i f p0 hf hq).release hl ht h.run hf
    · obtain ⟨g1, g2, g3⟩ := h.run.at_ b hb
      exact ⟨g1, by omega, g3⟩
  have h1 := h0.fold hl ht (by omega) x (atM s (t + 1))
  unfold slotS slotR
  obtain ⟨q1, hq1⟩ : ∃ q1, q1 = (atM s (t + 1)).foldl (attemptS l x (t + 1)) ⟨releaseS l (t + 1) q.sts, q.atts, q.dels⟩ := ⟨_, rfl⟩
  obtain ⟨r1, hr1⟩ : ∃ r1, r1 = (atM s (t + 1)).foldl (attemptR l x (t + 1)) r := ⟨_, rfl⟩
  rw [← hq1, ← hr1] at h1
  simp only
  rw [← hq1, ← hr1]
  obtain ⟨new, old, d1, d2, d3, d4, d5⟩ := h1.dl
  have e1 : q1.dels.take q.dels.length = q.dels := by rw [d1]; simp
  have e2 : q1.dels.drop q.dels.length = new := by rw [d1]; simp
  rw [e1, e2, sort_eq d3 d4]
  have hperm : (q.dels ++ old).Perm q1.dels := by rw [d1]; exact List.Perm.append_left _ d3
  refine ⟨h1.len, fun i f p hf hp => ?_, ⟨h1.run.at_, fun d hd => h1.run.dl d (hperm.subset hd)⟩, h1.at_, d2⟩
  obtain ⟨k1, k2, k3, k4, k5, k6, k7, k8, k9, k10⟩ := h1.fl i f p hf hp
  exact ⟨k1, k2, k3, k4, k5, k6, k7, k8, k9, fun hp => by rw [hadR_perm hperm]; exact k10 hp⟩

/-- THE PLAYER PLAYS THE REFERENCE's RUN. -/
theorem playV_R {l : List Flow} (hl : FlowsOk l) (sc : Nat → Sched) (x : List Rule) : ∀ n : Nat, n ≤ 1099511627776 → SimE l ((n : Int) - 1) (playV l sc x n) (playR l sc x n)
  | 0, _ => by
    refine ⟨by simp [playV], fun i f p hf hp => ?_, ⟨by simp [playV], by simp [playV]⟩, rfl, rfl⟩
    have : p = PS.first := by
      simp only [playV, List.getElem?_map, hf, Option.map_some, Option.some.injEq] at hp
      exact hp.symm
    subst this
    exact FlowI.start (hl.ok i f hf)
  | n + 1, hn => by
    have := (playV_R hl sc x n (by omega)).slot hl (t := (n : Int) - 1) (by omega) (by omega) (sc n) x
    rw [show ((n : Int) - 1 + 1) = n from by omega] at this
    rw [show ((n + 1 : Nat) : Int) - 1 = n from by omega]
    exact this
end HM

/- A store with a player: what lies where. -/
namespace HM
open Go Go.RowKit

def mpv (p : PS) (id : Nat) : AV := if p.frame < 0 then .nilm else .mp id
def mapsOf (p : PS) : Nat → Ob
  | 0 => p.since.ob none
  | 1 => p.tries.ob (some 2)
  | _ => p.acked.ob (some 2)
def stAV (g : Nat → Nat) (p : PS) : AV := .agg [.int .i64 p.frame, mpv p (g 0), mpv p (g 1), mpv p (g 2), .bool p.done]
def statesE (g : Nat → Nat → Nat) (q : List PS) : List AV := q.mapIdx fun i p => stAV (g i) p
theorem statesE_get {g : Nat → Nat → Nat} {q : List PS} {i : Nat} {p : PS} (h : q[i]? = some p) : (statesE g q)[i]? = some (stAV (g i) p) := by simp [statesE, h]
theorem statesE_len (g : Nat → Nat → Nat) (q : List PS) : (statesE g q).length = q.length := by simp [statesE]
theorem statesE_set (g : Nat → Nat → Nat) (q : List PS) (i : Nat) (p : PS) : (statesE g q).set i (stAV (g i) p) = statesE g (q.set i p) := by
  apply List.ext_getElem?
  intro j
  simp only [statesE, List.getElem?_set, List.getElem?_mapIdx, List.length_mapIdx]
  by_cases e : i = j
  · subst e; simp only [if_true]
    split <;> simp_all
  · simp [e]
theorem statesE_wide (g : Nat → Nat → Nat) (q : List PS) : Wide 5 (statesE g q) := by
  intro e he
  obtain ⟨i, hi⟩ := List.getElem?_of_mem he
  simp only [statesE, List.getElem?_mapIdx, Option.map_eq_some_iff] at hi
  obtain ⟨p, _, rfl⟩ := hi
  rfl
def plC (l : List Flow) (s : Sched) (x : List Rule) (sv av dv : AV) : List AV := [encFlows l, .int .i64 s.len, .int .i64 s.offs, encCells s.cells, encScript x, sv, av, dv]

/-- the types of a player, of a state, of a delivery -/
structure PTys where
  p : TypeId
  q : TypeId
  d : TypeId
  a : TypeId
  hpq : p ≠ q
  hpd : p ≠ d
  hqd : q ≠ d
  ks : List (Nat × List AV × TypeId)
  hk : ∀ e ∈ ks, e.2.2 ≠ p ∧ e.2.2 ≠ q ∧ e.2.2 ≠ d

def StV (T : PTys) (S : St) (sv : AV) (g : Nat → Nat → Nat) (sts : List PS) : Prop := (sts = [] ∧ sv = .grown .nils 0) ∨ ∃ qb ex, sv = .vsl qb 0 sts.length 5 ∧ S.bx[qb]? = some (.cells (flatE (statesE g sts) ++ ex) T.q)
def DelV (T : PTys) (S : St) (dv : AV) (ds : List Del) : Prop := (ds = [] ∧ dv = .grown .nils 0) ∨ ∃ db ex, dv = .vsl db 0 ds.length 3 ∧ S.bx[db]? = some (.cells (flatE (ds.map Del.av) ++ ex) T.d)

/-- what is known of a store with a player -/
structure PInv (T : PTys) (S : St) (pb ch : Nat) (l : List Flow) (s : Sched) (x : List Rule) (Q : PL) (g : Nat → Nat → Nat) (sv dv : AV) : Prop where
  p : S.bx[pb]? = some (.cells (plC l s x sv (.own (Q.atts.map Att.av) ch) dv) T.p)
  q : StV T S sv g Q.sts
  m : ∀ (i : Nat) (p : PS), Q.sts[i]? = some p → 0 ≤ p.frame → ∀ j, j < 3 → S.bx[g i j]? = some (mapsOf p j)
  inj : ∀ (i : Nat) (p : PS) (i' : Nat) (p' : PS), Q.sts[i]? = some p → Q.sts[i']? = some p' → 0 ≤ p.frame → 0 ≤ p'.frame → ∀ j j', j < 3 → j' < 3 → g i j = g i' j' → i = i' ∧ j = j'
  a : S.fr[ch]? = some (Q.atts.length, 8)
  ty : S.ty ch = T.a
  k : ∀ e ∈ T.ks, S.bx[e.1]? = some (.cells e.2.1 e.2.2)
  d : DelV T S dv Q.dels
def PIn (T : PTys) (S : St) (pb ch : Nat) (l : List Flow) (s : Sched) (x : List Rule) (Q : PL) : Prop := ∃ g sv dv, PInv T S pb ch l s x Q g sv dv

theorem ne_cm {S : St} {a b : Nat} {cs : List AV} {t : TypeId} {sh : Option Nat} {ks : List (List Int)} {vs : List AV} (h : S.bx[a]? = some (.cells cs t)) (h' : S.bx[b]? = some (.map sh ks vs)) : a ≠ b := by
  rintro rfl
  rw [h] at h'
  injection h' with h'
  cases h'
theorem ne_cc {S : St} {a b : Nat} {cs cs' : List AV} {t t' : TypeId} (h : S.bx[a]? = some (.cells cs t)) (h' : S.bx[b]? = some (.cells cs' t')) (ht : t ≠ t') : a ≠ b := by
  rintro rfl
  rw [h] at h'
  injection h' with h'
  injection h' with _ h'
  exact ht h'
theorem mapsOf_map (p : PS) (j : Nat) : ∃ sh ks vs, mapsOf p j = .map sh ks vs := by
  unfold mapsOf
  split <;> exact ⟨_, _, _, rfl⟩
theorem ne_cM {S : St} {a b : Nat} {cs : List AV} {t : TypeId} {p : PS} {j : Nat} (h : S.bx[a]? = some (.cells cs t)) (h' : S.bx[b]? = some (mapsOf p j)) : a ≠ b := by
  obtain ⟨sh, ks, vs, e⟩ := mapsOf_map p j
  rw [e] at h'
  exact ne_cm h h'

section
variable {T : PTys} {S S' : St} {pb ch : Nat} {l : List Flow} {s : Sched} {x : List Rule} {Q : PL} {g : Nat → Nat → Nat} {sv dv : AV}

/-- other objects more -/
theorem PInv.more (h : PInv T S pb ch l s x Q g sv dv) (hx : ∀ (id : Nat) (o : Ob), S.bx[id]? = some o → S'.bx[id]? = some o) (hf : S'.fr[ch]? = S.fr[ch]?) (ht : S'.ty ch = S.ty ch) : PInv T S' pb ch l s x Q g sv dv := by
  refine ⟨hx _ _ h.p, ?_, fun i p hp h0 j hj => hx _ _ (h.m i p hp h0 j hj), h.inj, hf.trans h.a, ht.trans h.ty, fun e he => hx _ _ (h.k e he), ?_⟩
  · rcases h.q with hq | ⟨qb, ex, h1, h2⟩
    · exact .inl hq
    · exact .inr ⟨qb, ex, h1, hx _ _ h2⟩
  · rcases h.d with hq | ⟨qb, ex, h1, h2⟩
    · exact .inl hq
    · exact .inr ⟨qb, ex, h1, hx _ _ h2⟩
/-- a map of a state -/
theorem PInv.setM (h : PInv T S pb ch l s x Q g sv dv) {i : Nat} {p p' : PS} (hp : Q.sts[i]? = some p) (h0 : 0 ≤ p.frame) (hfr : p'.frame = p.frame) (hdn : p'.done = p.done) {j : Nat} (hj : j < 3) (ho : ∀ k, k < 3 → k ≠ j → mapsOf p' k = mapsOf p k) :
    PInv T (S.setB (g i j) (mapsOf p' j)) pb ch l s x ⟨Q.sts.set i p', Q.atts, Q.dels⟩ g sv dv := by
  have hm := h.m i p hp h0 j hj
  have hil := (List.getElem?_eq_some_iff.1 hp).1
  have est : statesE g (Q.sts.set i p') = statesE g Q.sts := by
    apply List.ext_getElem?
    intro k
    simp only [statesE, List.getElem?_mapIdx, List.getElem?_set]
    by_cases e : i = k
    · subst e
      have e2 : Q.sts[i]? = some Q.sts[i] := List.getElem?_eq_getElem hil
      rw [e2] at hp; injection hp with hp
      simp only [hil, if_true, Option.map_some, e2, hp]
      simp [stAV, mpv, hfr, hdn]
    · simp [e]
  have hlive : ∀ (k : Nat) (q : PS), (Q.sts.set i p')[k]? = some q → 0 ≤ q.frame → ∃ q0, Q.sts[k]? = some q0 ∧ 0 ≤ q0.frame ∧ (i ≠ k → q = q0) ∧ (i = k → q = p' ∧ q0 = p) := by
    intro k q hq hq0
    by_cases e : i = k
    · subst e
      rw [List.getElem?_set_self hil] at hq
      injection hq with hq
      exact ⟨p, hp, h0, fun hh => absurd rfl hh, fun _ => ⟨hq.symm, rfl⟩⟩
    · rw [List.getElem?_set_ne e] at hq
      exact ⟨q, hq, hq0, fun _ => rfl, fun hh => absurd hh e⟩
  refine ⟨by rw [St.setB_ne (ne_cM h.p hm).symm]; exact h.p, ?_, fun k q hq hq0 j' hj' => ?_, fun k q k' q' hq hq' hq0 hq0' j1 j2 hj1 hj2 he => ?_, h.a, h.ty, fun e he => by rw [St.setB_ne (ne_cM (h.k e he) hm).symm]; exact h.k e he, ?_⟩
  · rcases h.q with ⟨hq, _⟩ | ⟨qb, ex, h1, h2⟩
    · rw [hq] at hil; simp at hil
    · exact .inr ⟨qb, ex, by simpa using h1, by rw [St.setB_ne (ne_cM h2 hm).symm, est]; exact h2⟩
  · obtain ⟨q0, g1, g2, g3, g4⟩ := hlive k q hq hq0
    by_cases e : i = k
    · obtain ⟨rfl, rfl⟩ := g4 e
      subst e
      by_cases ej : j = j'
      · subst ej; exact St.setB_get hm
      · rw [St.setB_ne (fun hh => ej (h.inj _ _ _ _ hp hp h0 h0 j j' hj hj' hh).2), ho j' hj' (fun hh => ej hh.symm)]
        exact h.m i _ hp h0 j' hj'
    · obtain rfl := g3 e
      rw [St.setB_ne (fun hh => e (h.inj _ _ _ _ hp g1 h0 g2 j j' hj hj' hh).1)]
      exact h.m k _ g1 g2 j' hj'
  · obtain ⟨q0, g1, g2, _⟩ := hlive k q hq hq0
    obtain ⟨q0', g1', g2', _⟩ := hlive k' q' hq' hq0'
    exact h.inj _ _ _ _ g1 g1' g2 g2' j1 j2 hj1 hj2 he
  · rcases h.d with hq | ⟨db, ex, h1, h2⟩
    · exact .inl hq
    · exact .inr ⟨db, ex, h1, by rw [St.setB_ne (ne_cM h2 hm).symm]; exact h2⟩
/-- a state's cells are written; its maps are as they were -/
theorem PInv.setQ (h : PInv T S pb ch l s x Q g sv dv) {qb : Nat} {ex : List AV} (hsv : sv = .vsl qb 0 Q.sts.length 5) (hq : S.bx[qb]? = some (.cells (flatE (statesE g Q.sts) ++ ex) T.q)) {i : Nat} {p p' : PS} (hp : Q.sts[i]? = some p) (hfr : p'.frame = p.frame) (ho : ∀ k, k < 3 → mapsOf p' k = mapsOf p k) :
    PInv T (S.setB qb (.cells (flatE (statesE g (Q.sts.set i p')) ++ ex) T.q)) pb ch l s x ⟨Q.sts.set i p', Q.atts, Q.dels⟩ g sv dv := by
  have hil := (List.getElem?_eq_some_iff.1 hp).1
  have hlive : ∀ (k : Nat) (q : PS), (Q.sts.set i p')[k]? = some q → 0 ≤ q.frame → ∃ q0, Q.sts[k]? = some q0 ∧ 0 ≤ q0.frame ∧ ∀ j, j < 3 → mapsOf q j = mapsOf q0 j := by
    intro k q hq hq0
    by_cases e : i = k
    · subst e
      rw [List.getElem?_set_self hil] at hq
      injection hq with hq
      subst hq
      exact ⟨p, hp, by omega, ho⟩
    · rw [List.getElem?_set_ne e] at hq
      exact ⟨q, hq, hq0, fun _ _ => rfl⟩
  refine ⟨by rw [St.setB_ne (ne_cc h.p hq T.hpq).symm]; exact h.p, .inr ⟨qb, ex, by simpa using hsv, St.setB_get hq⟩, fun k q hq' hq0 j' hj' => ?_, fun k q k' q' hq hq' hq0 hq0' j1 j2 hj1 hj2 he => ?_, h.a, h.ty, fun e he => by rw [St.setB_ne (ne_cc hq (h.k e he) (T.hk e he).2.1.symm)]; exact h.k e he, ?_⟩
  · obtain ⟨q0, g1, g2, g3⟩ := hlive k q hq' hq0
    have := h.m k _ g1 g2 j' hj'
    rw [St.setB_ne (ne_cM hq this), g3 j' hj']
    exact this
  · obtain ⟨q0, g1, g2, _⟩ := hlive k q hq hq0
    obtain ⟨q0', g1', g2', _⟩ := hlive k' q' hq' hq0'
    exact h.inj _ _ _ _ g1 g1' g2 g2' j1 j2 hj1 hj2 he
  · rcases h.d with hd | ⟨db, ex2, h1, h2⟩
    · exact .inl hd
    · exact .inr ⟨db, ex2, h1, by rw [St.setB_ne (ne_cc hq h2 T.hqd)]; exact h2⟩
/-- the player's own cells are written -/
theorem PInv.setP (h : PInv T S pb ch l s x Q g sv dv) (s' : Sched) (ats : List Att) (hf : S'.fr[ch]? = some (ats.length, 8)) (ht : S'.ty ch = S.ty ch) (hb : S'.bx = S.bx) : PInv T (S'.setB pb (.cells (plC l s' x sv (.own (ats.map Att.av) ch) dv) T.p)) pb ch l s' x ⟨Q.sts, ats, Q.dels⟩ g sv dv := by
  have hp' : S'.bx[pb]? = some (.cells (plC l s x sv (.own (Q.atts.map Att.av) ch) dv) T.p) := by rw [hb]; exact h.p
  refine ⟨St.setB_get hp', ?_, fun k q hq hq0 j hj => ?_, h.inj, hf, ht.trans h.ty, fun e he => by rw [St.setB_ne (ne_cc h.p (h.k e he) (T.hk e he).1.symm), hb]; exact h.k e he, ?_⟩
  · rcases h.q with hq | ⟨qb, ex, h1, h2⟩
    · exact .inl hq
    · exact .inr ⟨qb, ex, h1, by rw [St.setB_ne (ne_cc h.p h2 T.hpq), hb]; exact h2⟩
  · have := h.m k q hq hq0 j hj
    rw [St.setB_ne (ne_cM h.p this), hb]
    exact this
  · rcases h.d with hq | ⟨qb, ex, h1, h2⟩
    · exact .inl hq
    · exact .inr ⟨qb, ex, h1, by rw [St.setB_ne (ne_cc h.p h2 T.hpd), hb]; exact h2⟩
/-- the deliveries are others -/
theorem PInv.setD (h : PInv T S pb ch l s x Q g sv dv) (ds : List Del) (dv' : AV) (hx : ∀ (id : Nat) (o : Ob), S.bx[id]? = some o → (∀ ex, dv ≠ .vsl id 0 Q.dels.length ex) → S'.bx[id]? = some o) (hf : S'.fr[ch]? = S.fr[ch]?) (ht : S'.ty ch = S.ty ch) (hd : DelV T (S'.setB pb (.cells (plC l s x sv (.own (Q.atts.map Att.av) ch) dv') T.p)) dv' ds) :
    PInv T (S'.setB pb (.cells (plC l s x sv (.own (Q.atts.map Att.av) ch) dv') T.p)) pb ch l s x ⟨Q.sts, Q.atts, ds⟩ g sv dv' := by
  have hne : ∀ id, (∀ cs, S.bx[id]? ≠ some (.cells cs T.d)) → ∀ ex, dv ≠ .vsl id 0 Q.dels.length ex := by
    intro id hid ex he
    rcases h.d with ⟨_, h2⟩ | ⟨db, ex2, h1, h2⟩
    · rw [h2] at he; cases he
    · rw [h1] at he
      injection he with he
      subst he
      exact hid _ h2
  have hp' := hx pb _ h.p (hne pb fun cs hc => by
    rw [h.p] at hc; injection hc with hc; injection hc with _ hc; exact T.hpd hc)
  refine ⟨St.setB_get hp', ?_, fun k q hq hq0 j hj => ?_, h.inj, by rw [St.setB_fr, hf]; exact h.a, ht.trans h.ty, fun e he => by
    rw [St.setB_ne (ne_cc h.p (h.k e he) (T.hk e he).1.symm)]
    refine hx _ _ (h.k e he) (hne _ fun cs hc => ?_)
    rw [h.k e he] at hc; injection hc with hc; injection hc with _ hc; exact (T.hk e he).2.2 hc, hd⟩
  · rcases h.q with hq | ⟨qb, ex, h1, h2⟩
    · exact .inl hq
    · refine .inr ⟨qb, ex, h1, ?_⟩
      rw [St.setB_ne (ne_cc h.p h2 T.hpq)]
      exact hx _ _ h2 (hne qb fun cs hc => by
        rw [h2] at hc; injection hc with hc; injection hc with _ hc; exact T.hqd hc)
  · have := h.m k q hq hq0 j hj
    rw [St.setB_ne (ne_cM h.p this)]
    refine hx _ _ this (hne _ fun cs hc => ?_)
    obtain ⟨sh, ks, vs, e⟩ := mapsOf_map q j
    rw [this, e] at hc
    injection hc with hc
    cases hc
end
theorem St.addF_fr {S : St} {ch : Nat} {y y' : Nat × Nat} {e : TypeId} (h : S.fr[ch]? = some y') : (S.addF y e).fr[ch]? = some y' := by
  unfold St.addF
  rw [List.getElem?_append_left (List.getElem?_eq_some_iff.1 h).1]; exact h
theorem St.addF_ty {S : St} {ch : Nat} {y y' : Nat × Nat} {e : TypeId} (h : S.fr[ch]? = some y') : (S.addF y e).ty ch = S.ty ch := by
  have := (List.getElem?_eq_some_iff.1 h).1
  simp only [St.addF, updT]
  rw [if_neg (by omega)]
theorem setB_setB (S : St) (id : Nat) (o o' : Ob) : (S.setB id o).setB id o' = S.setB id o' := by simp [St.setB]
theorem St.setF_bx (S : St) (ch : Nat) (y : Nat × Nat) : (S.setF ch y).bx = S.bx := rfl
theorem St.setF_fr {S : St} {ch : Nat} {y y' : Nat × Nat} (h : S.fr[ch]? = some y') : (S.setF ch y).fr[ch]? = some y := by
  unfold St.setF
  have := (List.getElem?_eq_some_iff.1 h).1
  simp [this]
end HM

/- A store with a player: a delivery is noted. -/
namespace HM
open Go Go.RowKit

theorem delWide (ds : List Del) : Wide 3 (ds.map Del.av) := by
  intro e he
  obtain ⟨d, _, rfl⟩ := List.mem_map.1 he
  rfl
section
variable {T : PTys} {S : St} {pb ch : Nat} {l : List Flow} {s : Sched} {x : List Rule} {Q : PL} {g : Nat → Nat → Nat} {sv dv : AV}
theorem PInv.delNew (h : PInv T S pb ch l s x Q g sv dv) (hq : Q.dels = []) (d : Del) (z : AV) (hz : z = d.av) (y1 : Nat × Nat) (e : TypeId) (k : Nat) (n m : Nat) (hn : n = S.bx.length) (hm : m = 1) :
    PInv T (((S.addF y1 e).addB (.cells (flatE [z] ++ List.replicate k .undef) T.d)).setB pb (.cells (plC l s x sv (.own (Q.atts.map Att.av) ch) (.vsl n 0 m 3)) T.p)) pb ch l s x ⟨Q.sts, Q.atts, Q.dels ++ [d]⟩ g sv (.vsl n 0 m 3) := by
  subst hz; subst hn; subst hm
  have hf := h.a
  have hne : S.bx.length ≠ pb := by have := (List.getElem?_eq_some_iff.1 h.p).1; omega
  refine h.setD _ _ (fun id o ho _ => ?_) ?_ ?_ (.inr ⟨S.bx.length, List.replicate k .undef, by rw [hq]; rfl, ?_⟩)
  · exact St.addB_old (S := S.addF y1 e) ho
  · rw [St.addB_fr]; exact (St.addF_fr hf).trans hf.symm
  · exact St.addF_ty (y := y1) hf
  · rw [St.setB_ne hne.symm, hq]
    exact St.addB_get (S.addF y1 e) _
theorem PInv.delRoom (h : PInv T S pb ch l s x Q g sv dv) {db : Nat} {ex : List AV} (hdv : dv = .vsl db 0 Q.dels.length 3) (hdb : S.bx[db]? = some (.cells (flatE (Q.dels.map Del.av) ++ ex) T.d)) (d : Del) (z : AV) (hz : z = d.av) (y1 : Nat × Nat) (e : TypeId)
    (hr : (Q.dels.length + 1) * 3 ≤ (flatE (Q.dels.map Del.av) ++ ex).length) :
    PInv T (((S.addF y1 e).setB db (.cells (splice (flatE (Q.dels.map Del.av) ++ ex) (Q.dels.length * 3) (flatE [z])) T.d)).setB pb (.cells (plC l s x sv (.own (Q.atts.map Att.av) ch) (.vsl db 0 (Q.dels.length + 1) 3)) T.p)) pb ch l s x ⟨Q.sts, Q.atts, Q.dels ++ [d]⟩ g sv (.vsl db 0 (Q.dels.length + 1) 3) := by
  subst hz
  have hf := h.a
  have hne : db ≠ pb := (ne_cc h.p hdb T.hpd).symm
  have hfl := (delWide Q.dels).flen
  rw [List.length_map] at hfl
  rw [List.length_append] at hr
  refine h.setD _ _ (fun id o ho hh => ?_) ?_ ?_ (.inr ⟨db, ex.drop 3, by simp, ?_⟩)
  · have hid : db ≠ id := by rintro rfl; exact hh 3 hdv
    rw [St.setB_ne hid]; exact ho
  · rw [St.setB_fr]; exact (St.addF_fr hf).trans hf.symm
  · exact St.addF_ty (y := y1) hf
  · rw [St.setB_ne hne.symm, St.setB_get (S := S.addF y1 e) hdb]
    have e1 : splice (flatE (Q.dels.map Del.av) ++ ex) (Q.dels.length * 3) (flatE [d.av]) = flatE ((Q.dels ++ [d]).map Del.av) ++ ex.drop 3 := by
      have hz : (flatE [d.av]).length = 3 := rfl
      rw [splice_eq _ _ _ (by rw [List.length_append, hz]; omega), hz, ← hfl, List.take_left, List.map_append, flatE_app]
      rw [List.drop_append]
      have : List.drop ((flatE (Q.dels.map Del.av)).length + 3) (flatE (Q.dels.map Del.av)) = [] := List.drop_eq_nil_of_le (by omega)
      rw [this, List.nil_append, show (flatE (Q.dels.map Del.av)).length + 3 - (flatE (Q.dels.map Del.av)).length = 3 from by omega]
      rfl
    rw [e1]
theorem PInv.delGrow (h : PInv T S pb ch l s x Q g sv dv) {db : Nat} {ex : List AV} (_hdv : dv = .vsl db 0 Q.dels.length 3) (_hdb : S.bx[db]? = some (.cells (flatE (Q.dels.map Del.av) ++ ex) T.d)) (d : Del) (z : AV) (hz : z = d.av) (y1 : Nat × Nat) (e : TypeId) (k n : Nat) (hn : n = S.bx.length) :
    PInv T (((S.addF y1 e).addB (.cells ((flatE (Q.dels.map Del.av) ++ ex).take (Q.dels.length * 3) ++ flatE [z] ++ List.replicate k .undef) T.d)).setB pb (.cells (plC l s x sv (.own (Q.atts.map Att.av) ch) (.vsl n 0 (Q.dels.length + 1) 3)) T.p)) pb ch l s x ⟨Q.sts, Q.atts, Q.dels ++ [d]⟩ g sv (.vsl n 0 (Q.dels.length + 1) 3) := by
  subst hz; subst hn
  have hf := h.a
  have hne : S.bx.length ≠ pb := by have := (List.getElem?_eq_some_iff.1 h.p).1; omega
  have hfl := (delWide Q.dels).flen
  rw [List.length_map] at hfl
  refine h.setD _ _ (fun id o ho _ => ?_) ?_ ?_ (.inr ⟨S.bx.length, List.replicate k .undef, by simp, ?_⟩)
  · exact St.addB_old (S := S.addF y1 e) ho
  · rw [St.addB_fr]; exact (St.addF_fr hf).trans hf.symm
  · exact St.addF_ty (y := y1) hf
  · rw [St.setB_ne hne.symm, ← hfl, List.take_left, List.map_append, flatE_app]
    exact St.addB_get (S.addF y1 e) _
end
/-- what lies in boxes stays, but the player and the deliveries -/
def InvY (T : PTys) (S S' : St) : Prop := ∀ (id : Nat) (cs : List AV) (t : TypeId), t ≠ T.p → t ≠ T.d → S.bx[id]? = some (.cells cs t) → S'.bx[id]? = some (.cells cs t)
theorem InvY.refl (T : PTys) (S : St) : InvY T S S := fun _ _ _ _ _ h => h
theorem InvY.setP {T : PTys} {S S' : St} {id : Nat} {cs : List AV} {o : Ob} (h : InvY T S S') (hb : S.bx[id]? = some (.cells cs T.p)) : InvY T S (S'.setB id o) := fun id' cs' t h1 h2 hc => by
  rw [St.setB_ne (ne_cc hb hc fun he => h1 he.symm)]; exact h id' cs' t h1 h2 hc
theorem InvY.setD {T : PTys} {S S' : St} {id : Nat} {cs : List AV} {o : Ob} (h : InvY T S S') (hb : S.bx[id]? = some (.cells cs T.d)) : InvY T S (S'.setB id o) := fun id' cs' t h1 h2 hc => by
  rw [St.setB_ne (ne_cc hb hc fun he => h2 he.symm)]; exact h id' cs' t h1 h2 hc
theorem InvY.addB {T : PTys} {S S' : St} {o : Ob} (h : InvY T S S') : InvY T S (S'.addB o) := fun id' cs' t h1 h2 hc => St.addB_old (h id' cs' t h1 h2 hc)
theorem InvY.addF {T : PTys} {S S' : St} {y : Nat × Nat} {e : TypeId} (h : InvY T S S') : InvY T S (S'.addF y e) := h
end HM

/- A store with a player: new frames. -/
namespace HM
open Go Go.RowKit

/-- the first k flows have looked for a new frame -/
def relK (l : List Flow) (slot : Int) (sts : List PS) : Nat → List PS
  | 0 => sts
  | k + 1 => match l[k]?, (relK l slot sts k)[k]? with
    | some f, some p => (relK l slot sts k).set k (relS f slot p)
    | _, _ => relK l slot sts k
theorem relK_len (l : List Flow) (slot : Int) (sts : List PS) : ∀ k, (relK l slot sts k).length = sts.length
  | 0 => rfl
  | k + 1 => by
    unfold relK
    split
    · rw [List.length_set, relK_len l slot sts k]
    · exact relK_len l slot sts k
theorem relK_get (l : List Flow) (slot : Int) (sts : List PS) (hl : sts.length = l.length) : ∀ (k i : Nat), (relK l slot sts k)[i]? = if i < k then (l.zipWith (fun f p => relS f slot p) sts)[i]? else sts[i]?
  | 0, i => by simp [relK]
  | k + 1, i => by
    have ih := relK_get l slot sts hl k
    unfold relK
    rcases Nat.lt_or_ge k l.length with hk | hk
    · have hk2 : k < sts.length := by omega
      have e1 : l[k]? = some l[k] := List.getElem?_eq_getElem hk
      have e2 : (relK l slot sts k)[k]? = some sts[k] := by rw [ih, if_neg (by omega)]; exact List.getElem?_eq_getElem hk2
      rw [e1, e2]
      simp only
      by_cases e : k = i
      · subst e
        rw [List.getElem?_set_self (by rw [relK_len]; exact hk2), if_pos (by omega)]
        simp [List.getElem?_zipWith, e1, List.getElem?_eq_getElem hk2]
      · rw [List.getElem?_set_ne e, ih]
        by_cases h1 : i < k
        · rw [if_pos h1, if_pos (by omega)]
        · rw [if_neg h1, if_neg (by omega)]
    · have e1 : l[k]? = none := List.getElem?_eq_none hk
      rw [e1]
      show (relK l slot sts k)[i]? = _
      rw [ih]
      by_cases h1 : i < k
      · rw [if_pos h1, if_pos (by omega)]
      · rw [if_neg h1]
        by_cases h2 : i < k + 1
        · rw [if_pos h2]
          have : l[i]? = none := List.getElem?_eq_none (by omega)
          have h3 : sts[i]? = none := List.getElem?_eq_none (by omega)
          simp [List.getElem?_zipWith, this, h3]
        · rw [if_neg h2]
theorem relK_all (l : List Flow) (slot : Int) (sts : List PS) (hl : sts.length = l.length) : relK l slot sts l.length = releaseS l slot sts := by
  apply List.ext_getElem?
  intro i
  rw [relK_get l slot sts hl]
  unfold releaseS
  by_cases h : i < l.length
  · rw [if_pos h]
  · rw [if_neg h]
    have h1 : sts[i]? = none := List.getElem?_eq_none (by omega)
    have h2 : l[i]? = none := List.getElem?_eq_none (by omega)
    simp [List.getElem?_zipWith, h1, h2]
theorem relK_step {l : List Flow} {slot : Int} {sts : List PS} {k : Nat} {f : Flow} {p : PS} (hf : l[k]? = some f) (hp : (relK l slot sts k)[k]? = some p) : relK l slot sts (k + 1) = (relK l slot sts k).set k (relS f slot p) := by
  rw [relK, hf, hp]

def gset (g : Nat → Nat → Nat) (i a b c : Nat) : Nat → Nat → Nat := fun i' j => if i' = i then (match j with | 0 => a | 1 => b | _ => c) else g i' j
section
variable {T : PTys} {S S' : St} {pb ch : Nat} {l : List Flow} {s : Sched} {x : List Rule} {Q : PL} {g : Nat → Nat → Nat} {sv dv : AV}
/-- a state begins anew -/
theorem PInv.fresh (h : PInv T S pb ch l s x Q g sv dv) (hx : ∀ (id : Nat) (o : Ob), S.bx[id]? = some o → S'.bx[id]? = some o) (hf : S'.fr = S.fr) (ht : S'.ty = S.ty) {qb : Nat} {ex : List AV} (hsv : sv = .vsl qb 0 Q.sts.length 5) (hq : S.bx[qb]? = some (.cells (flatE (statesE g Q.sts) ++ ex) T.q))
    {i : Nat} {p p' : PS} (hp : Q.sts[i]? = some p) (h0 : ¬ p'.frame < 0) {a b c : Nat} (ha : S'.bx[a]? = some (mapsOf p' 0)) (hb : S'.bx[b]? = some (mapsOf p' 1)) (hc : S'.bx[c]? = some (mapsOf p' 2)) (ga : S.bx.length ≤ a) (gb : S.bx.length ≤ b) (gc : S.bx.length ≤ c) (hab : a ≠ b) (hac : a ≠ c) (hbc : b ≠ c) :
    PInv T (S'.setB qb (.cells (flatE (statesE (gset g i a b c) (Q.sts.set i p')) ++ ex) T.q)) pb ch l s x ⟨Q.sts.set i p', Q.atts, Q.dels⟩ (gset g i a b c) sv dv := by
  have hil := (List.getElem?_eq_some_iff.1 hp).1
  have hself : ∀ k (q : PS), (Q.sts.set i p')[k]? = some q → i = k → q = p' := by
    intro k q hq e
    subst e
    rw [List.getElem?_set_self hil] at hq
    injection hq with hq; exact hq.symm
  have hoth : ∀ k (q : PS), (Q.sts.set i p')[k]? = some q → i ≠ k → Q.sts[k]? = some q := by
    intro k q hq e
    rwa [List.getElem?_set_ne e] at hq
  have hlt : ∀ k q, Q.sts[k]? = some q → 0 ≤ q.frame → ∀ j, j < 3 → g k j < S.bx.length := fun k q hq hq0 j hj => (List.getElem?_eq_some_iff.1 (h.m k q hq hq0 j hj)).1
  have hg : ∀ k j, i ≠ k → gset g i a b c k j = g k j := fun k j e => by unfold gset; rw [if_neg (fun hh => e hh.symm)]
  have hgi : ∀ j, gset g i a b c i j = (match j with | 0 => a | 1 => b | _ => c) := fun j => by unfold gset; rw [if_pos rfl]
  have hge : ∀ j, S.bx.length ≤ gset g i a b c i j := fun j => by
    rw [hgi]
    split <;> assumption
  have hq' := hx _ _ hq
  refine ⟨by rw [St.setB_ne (ne_cc h.p hq T.hpq).symm]; exact hx _ _ h.p, .inr ⟨qb, ex, by simpa using hsv, St.setB_get hq'⟩, fun k q hq1 hq0 j hj => ?_, fun k q k' q' hq1 hq1' hq0 hq0' j1 j2 hj1 hj2 he => ?_, by rw [St.setB_fr, hf]; exact h.a, by show S'.ty ch = _; rw [ht]; exact h.ty, fun e he => by rw [St.setB_ne (ne_cc hq (h.k e he) (T.hk e he).2.1.symm)]; exact hx _ _ (h.k e he), ?_⟩
  · have hm : S'.bx[gset g i a b c k j]? = some (mapsOf q j) := by
      by_cases e : i = k
      · subst e
        obtain rfl := hself i q hq1 rfl
        rw [hgi]
        rcases j with _ | _ | _ | j
        · exact ha
        · exact hb
        · exact hc
        · omega
      · rw [hg k j e]
        exact hx _ _ (h.m k q (hoth k q hq1 e) hq0 j hj)
    rw [St.setB_ne (ne_cM hq' hm)]
    exact hm
  · by_cases e : i = k
    · by_cases e' : i = k'
      · subst e; subst e'
        refine ⟨rfl, ?_⟩
        rw [hgi, hgi] at he
        rcases j1 with _ | _ | _ | j1 <;> rcases j2 with _ | _ | _ | j2 <;> first | rfl | omega | exact absurd he hab | exact absurd he hac | exact absurd he hbc | exact absurd he.symm hab | exact absurd he.symm hac | exact absurd he.symm hbc
      · subst e
        have h1 := hge j1
        have h2 := hlt k' q' (hoth k' q' hq1' e') hq0' j2 hj2
        rw [hg k' j2 e'] at he
        omega
    · by_cases e' : i = k'
      · subst e'
        have h1 := hge j2
        have h2 := hlt k q (hoth k q hq1 e) hq0 j1 hj1
        rw [hg k j1 e] at he
        omega
      · rw [hg k j1 e, hg k' j2 e'] at he
        exact h.inj _ _ _ _ (hoth k q hq1 e) (hoth k' q' hq1' e') hq0 hq0' j1 j2 hj1 hj2 he
  · rcases h.d with hd | ⟨db, ex2, h1, h2⟩
    · exact .inl hd
    · exact .inr ⟨db, ex2, h1, by rw [St.setB_ne (ne_cc hq h2 T.hqd)]; exact hx _ _ h2⟩
end
theorem statesE_gset (g : Nat → Nat → Nat) (q : List PS) (i a b c : Nat) (p : PS) (h0 : ¬ p.frame < 0) : (statesE g q).set i (.agg [.int .i64 p.frame, .mp a, .mp b, .mp c, .bool p.done]) = statesE (gset g i a b c) (q.set i p) := by
  apply List.ext_getElem?
  intro j
  simp only [statesE, List.getElem?_set, List.getElem?_mapIdx, List.length_mapIdx]
  by_cases e : i = j
  · subst e
    simp only [if_true]
    split
    · simp [stAV, mpv, h0, gset]
    · simp
  · simp only [e, if_false]
    cases hq : q[j]? with
    | none => rfl
    | some y =>
      simp only [Option.map_some, Option.some.injEq]
      have : gset g i a b c j = g j := by funext k; unfold gset; rw [if_neg (fun hh => e hh.symm)]
      rw [this]
/-- what lies in boxes stays, but the states -/
def InvZ (T : PTys) (S S' : St) : Prop := ∀ (id : Nat) (cs : List AV) (t : TypeId), t ≠ T.q → S.bx[id]? = some (.cells cs t) → S'.bx[id]? = some (.cells cs t)
theorem InvZ.refl (T : PTys) (S : St) : InvZ T S S := fun _ _ _ _ h => h
theorem InvZ.addB {T : PTys} {S S' : St} {o : Ob} (h : InvZ T S S') : InvZ T S (S'.addB o) := fun id' cs' t h1 hc => St.addB_old (h id' cs' t h1 hc)
theorem InvZ.setN {T : PTys} {S S' : St} {id : Nat} {o : Ob} (h : InvZ T S S') (hi : S.bx.length ≤ id) : InvZ T S (S'.setB id o) := fun id' cs' t h1 hc => by
  have := (List.getElem?_eq_some_iff.1 hc).1
  rw [St.setB_ne (by omega)]; exact h id' cs' t h1 hc
theorem InvZ.setQ {T : PTys} {S S' : St} {id : Nat} {cs : List AV} {o : Ob} (h : InvZ T S S') (hb : S.bx[id]? = some (.cells cs T.q)) : InvZ T S (S'.setB id o) := fun id' cs' t h1 hc => by
  rw [St.setB_ne (ne_cc hb hc fun he => h1 he.symm)]; exact h id' cs' t h1 hc
theorem St.len2 (S : St) (o o' : Ob) : S.bx.length ≤ ((S.addB o).addB o').bx.length := by rw [St.addB_len, St.addB_len]; omega
theorem mo0 {S : St} {sh : Option Nat} {ks : List (List Int)} {vs : List AV} : (S.addB (.map sh ks vs)).bx[S.bx.length]? = some (.map sh ks vs) := St.addB_get _ _
theorem mo1 {S : St} {sh : Option Nat} {ks : List (List Int)} {vs : List AV} {o : Ob} : ((S.addB (.map sh ks vs)).addB o).bx[S.bx.length]? = some (.map sh ks vs) := St.addB_old (St.addB_get _ _)
theorem mo2 {S : St} {sh : Option Nat} {ks : List (List Int)} {vs : List AV} {o o' : Ob} : (((S.addB (.map sh ks vs)).addB o).addB o').bx[S.bx.length]? = some (.map sh ks vs) := St.addB_old (St.addB_old (St.addB_get _ _))
theorem PInv.leaf {T : PTys} {S : St} {pb ch : Nat} {l : List Flow} {s : Sched} {x : List Rule} {Q : PL} {g : Nat → Nat → Nat} {sv dv : AV} (h : PInv T S pb ch l s x Q g sv dv) {qb : Nat} {ex : List AV} (hsv : sv = .vsl qb 0 Q.sts.length 5) (hq : S.bx[qb]? = some (.cells (flatE (statesE g Q.sts) ++ ex) T.q))
    {i : Nat} {p p' : PS} (hp : Q.sts[i]? = some p) (h0 : ¬ p'.frame < 0) {X : St} (tl : List Ob) (hX : X = ⟨S.bx ++ tl, S.fr, S.n0, S.m0, S.ty⟩) (ia ib ic : Nat) (ha : tl[ia]? = some (mapsOf p' 0)) (hb : tl[ib]? = some (mapsOf p' 1)) (hc : tl[ic]? = some (mapsOf p' 2)) (hab : ia ≠ ib) (hac : ia ≠ ic) (hbc : ib ≠ ic)
    {a b c off : Nat} (ea : a = S.bx.length + ia) (eb : b = S.bx.length + ib) (ec : c = S.bx.length + ic) (eo : off = i * 5) :
    PIn T (X.setB qb (.cells (splice (flatE (statesE g Q.sts) ++ ex) off [.int .i64 p'.frame, .mp a, .mp b, .mp c, .bool p'.done]) T.q)) pb ch l s x ⟨Q.sts.set i p', Q.atts, Q.dels⟩ := by
  subst hX; subst eo
  have hget : ∀ k o, tl[k]? = some o → (S.bx ++ tl)[S.bx.length + k]? = some o := fun k o hk => by
    rw [List.getElem?_append_right (by omega)]
    rw [show S.bx.length + k - S.bx.length = k from by omega]; exact hk
  have hF := h.fresh (S' := ⟨S.bx ++ tl, S.fr, S.n0, S.m0, S.ty⟩) (fun id o ho => (List.getElem?_append_left (List.getElem?_eq_some_iff.1 ho).1).trans ho) rfl rfl hsv hq hp h0 (a := a) (b := b) (c := c) (by subst ea; exact hget _ _ ha) (by subst eb; exact hget _ _ hb) (by subst ec; exact hget _ _ hc) (by omega) (by omega) (by omega) (by omega) (by omega) (by omega)
  have hil := (List.getElem?_eq_some_iff.1 hp).1
  have e1 : splice (flatE (statesE g Q.sts) ++ ex) (i * 5) [.int .i64 p'.frame, .mp a, .mp b, .mp c, .bool p'.done] = flatE (statesE (gset g i a b c) (Q.sts.set i p')) ++ ex := by
    have := Wide.sto (.agg [.int .i64 p'.frame, .mp a, .mp b, .mp c, .bool p'.done]) rfl ex (statesE_wide g Q.sts) (k := i) (by rw [statesE_len]; exact hil)
    rw [statesE_gset g Q.sts i a b c p' h0] at this
    exact this
  rw [e1]
  exact ⟨_, _, _, hF⟩
end HM

/- A slot of a run: how much there can be. -/
namespace HM
open Go Go.RowKit
theorem att_len (l : List Flow) (x : List Rule) (t : Int) (q : PL) (c : Cell) : (attemptS l x t q c).atts.length ≤ q.atts.length + 1 ∧ (attemptS l x t q c).dels.length ≤ q.dels.length + 1 ∧ (attemptS l x t q c).sts.length = q.sts.length := by
  unfold attemptS
  split
  · omega
  split
  · split
    · omega
    · refine ⟨by simp, ?_, by simp⟩
      simp only [List.length_append]
      split <;> simp
  · omega
theorem fold_len (l : List Flow) (x : List Rule) (t : Int) : ∀ (cs : List Cell) (q : PL), (cs.foldl (attemptS l x t) q).atts.length ≤ q.atts.length + cs.length ∧ (cs.foldl (attemptS l x t) q).dels.length ≤ q.dels.length + cs.length ∧ (cs.foldl (attemptS l x t) q).sts.length = q.sts.length
  | [], q => by simp
  | c :: cs, q => by
    have h1 := att_len l x t q c
    have h2 := fold_len l x t cs (attemptS l x t q c)
    simp only [List.foldl_cons, List.length_cons]
    omega
theorem fold_step (l : List Flow) (x : List Rule) (t : Int) {cs : List Cell} {k : Nat} {c : Cell} (h : cs[k]? = some c) (q : PL) : (cs.take (k + 1)).foldl (attemptS l x t) q = attemptS l x t ((cs.take k).foldl (attemptS l x t) q) c := by
  rw [take_succ h, List.foldl_append]
  rfl
theorem at_len (s : Sched) (t : Int) : (atM s t).length ≤ s.cells.length := by
  unfold atM
  split
  · simp
  · exact List.length_filter_le _ _
theorem slot_len (l : List Flow) (s : Sched) (x : List Rule) (q : PL) (t : Int) (hq : q.sts.length = l.length) : (slotS l s x q t).atts.length ≤ q.atts.length + s.cells.length ∧ (slotS l s x q t).dels.length ≤ q.dels.length + s.cells.length ∧ (slotS l s x q t).sts.length = l.length := by
  have h1 := fold_len l x t (atM s t) ⟨releaseS l t q.sts, q.atts, q.dels⟩
  have h2 := at_len s t
  have h3 : (releaseS l t q.sts).length = l.length := by simp [releaseS, hq]
  unfold slotS
  simp only at h1 ⊢
  refine ⟨by omega, ?_, by rw [h1.2.2, h3]⟩
  rw [List.length_append, List.length_mergeSort, ← List.length_append, List.take_append_drop]
  omega
theorem play_len {l : List Flow} (sc : Nat → Sched) (x : List Rule) {m : Nat} (hm : ∀ i, (sc i).cells.length ≤ m) : ∀ n, (playV l sc x n).atts.length ≤ n * m ∧ (playV l sc x n).dels.length ≤ n * m ∧ (playV l sc x n).sts.length = l.length
  | 0 => by simp [playV]
  | n + 1 => by
    obtain ⟨h1, h2, h3⟩ := play_len sc x hm n
    have h4 := slot_len l (sc n) x (playV l sc x n) n h3
    have h5 := hm n
    rw [playV, Nat.add_mul]
    omega
theorem PInv.frames {T : PTys} {S S' : St} {pb ch : Nat} {l : List Flow} {s : Sched} {x : List Rule} {Q : PL} (h : PIn T S pb ch l s x Q) (hx : S'.bx = S.bx) (hf : S'.fr = S.fr) (ht : S'.ty = S.ty) : PIn T S' pb ch l s x Q := by
  obtain ⟨g, sv, dv, h⟩ := h
  exact ⟨g, sv, dv, h.more (fun _ _ ho => by rw [hx]; exact ho) (by rw [hf]) (by rw [ht])⟩
/-- the deliveries of a slot sorted in place -/
theorem PInv.sortD {T : PTys} {S : St} {pb ch : Nat} {l : List Flow} {s : Sched} {x : List Rule} {Q : PL} {g : Nat → Nat → Nat} {sv dv : AV} (h : PInv T S pb ch l s x Q g sv dv) {db : Nat} {ex : List AV} (hdv : dv = .vsl db 0 Q.dels.length 3) (hdb : S.bx[db]? = some (.cells (flatE (Q.dels.map Del.av) ++ ex) T.d)) {ds : List Del} (hl : ds.length = Q.dels.length) :
    PIn T (S.setB db (.cells (flatE (ds.map Del.av) ++ ex) T.d)) pb ch l s x ⟨Q.sts, Q.atts, ds⟩ := by
  refine ⟨g, sv, dv, ?_, ?_, fun k q hq hq0 j hj => ?_, h.inj, h.a, h.ty, fun e he => by rw [St.setB_ne (ne_cc hdb (h.k e he) (T.hk e he).2.2.symm)]; exact h.k e he, .inr ⟨db, ex, by rw [hl]; exact hdv, St.setB_get hdb⟩⟩
  · rw [St.setB_ne (ne_cc h.p hdb T.hpd).symm]; exact h.p
  · rcases h.q with hq | ⟨qb, ex2, h1, h2⟩
    · exact .inl hq
    · exact .inr ⟨qb, ex2, h1, by rw [St.setB_ne (ne_cc h2 hdb T.hqd).symm]; exact h2⟩
  · have := h.m k q hq hq0 j hj
    rw [St.setB_ne (ne_cM hdb this)]; exact this
end HM

/- A slot of a run: its beginning and its end. -/
namespace HM
open Go Go.RowKit
theorem SimE.start {l : List Flow} (hl : FlowsOk l) {t : Int} (ht : t + 1 ≤ 1099511627776) {q : PL} {r : RunL} (h : SimE l t q r) : Sim l (t + 1) q.dels ⟨releaseS l (t + 1) q.sts, q.atts, q.dels⟩ r := by
  have hslot : ∀ d ∈ q.dels, d.slot < t + 1 := fun d hd => by
    obtain ⟨b, hb, h1, _⟩ := h.run.dl d hd
    have := (h.run.at_ b hb).2.1
    omega
  refine ⟨by simp [releaseS, h.len], fun i f p hf hp => ?_, ⟨fun b hb => ?_, h.run.dl⟩, h.at_, ⟨[], [], by simp, by simp [h.dl], .refl _, .nil, by simp⟩, hslot⟩
  · simp only [releaseS, List.getElem?_zipWith, hf] at hp
    cases hq : q.sts[i]? with
    | none => rw [hq] at hp; cases hp
    | some p0 =>
      rw [hq] at hp
      simp only [Option.some.injEq] at hp
      subst hp
      exact (h.fl i f p0 hf hq).release hl ht h.run hf
  · obtain ⟨g1, g2, g3⟩ := h.run.at_ b hb
    exact ⟨g1, by omega, g3⟩
theorem sorted_eq {l l' ds : List Del} (hp : l'.Perm l) (h : l'.Pairwise fun a b => a.flow < b.flow) (hd : ds.Perm l) (hs : ds.Pairwise fun a b => a.flow ≤ b.flow) : ds = l' := by
  refine List.Perm.eq_of_pairwise (le := fun a b : Del => a.flow ≤ b.flow) (fun a b ha hb h1 h2 => ?_) hs (h.imp fun h => Int.le_of_lt h) (hd.trans hp.symm)
  have ha' : a ∈ l' := hp.symm.subset (hd.subset ha)
  obtain ⟨i, hi⟩ := List.getElem?_of_mem ha'
  obtain ⟨j, hj⟩ := List.getElem?_of_mem hb
  obtain ⟨hi1, hi2⟩ := List.getElem?_eq_some_iff.1 hi
  obtain ⟨hj1, hj2⟩ := List.getElem?_eq_some_iff.1 hj
  rcases Nat.lt_trichotomy i j with hij | rfl | hij
  · have := List.pairwise_iff_getElem.1 h i j hi1 hj1 hij
    rw [hi2, hj2] at this; omega
  · rw [hi] at hj; injection hj
  · have := List.pairwise_iff_getElem.1 h j i hj1 hi1 hij
    rw [hi2, hj2] at this; omega
/-- what an attempt asks of a state -/
theorem Sim.ask {l : List Flow} {t : Int} {base : List Del} {q : PL} {r : RunL} (h : Sim l t base q r) : (∀ (i : Nat) (p : PS), q.sts[i]? = some p → p.ok) ∧ (∀ (i : Nat) (p : PS), q.sts[i]? = some p → ¬ p.frame < 0 → ∀ a b, 0 ≤ (p.tries.get [a, b]).getD 0 ∧ (p.tries.get [a, b]).getD 0 ≤ (q.atts.length : Int)) := by
  have hf : ∀ (i : Nat) (p : PS), q.sts[i]? = some p → ∃ f, l[i]? = some f := fun i p hp => by
    have h1 := (List.getElem?_eq_some_iff.1 hp).1
    exact ⟨_, List.getElem?_eq_getElem (by rw [← h.len]; exact h1)⟩
  refine ⟨fun i p hp => ?_, fun i p hp h0 a b => ?_⟩
  · obtain ⟨f, hf⟩ := hf i p hp
    exact (h.fl i f p hf hp).ok
  · obtain ⟨f, hf⟩ := hf i p hp
    have := (h.fl i f p hf hp).tr (by omega) ⟨0, 0, a, b, f.id⟩ rfl
    simp only at this
    rw [this]
    have h2 : countR q.atts ⟨0, 0, a, b, f.id⟩ p.frame ≤ q.atts.length := List.countP_le_length
    omega
/-- behind a slot's attempts -/
theorem Sim.slotEnd {l : List Flow} {t : Int} {q q1 : PL} {r1 : RunL} (h : Sim l t q.dels q1 r1) : ∃ new, q1.dels = q.dels ++ new ∧ ∀ ds, ds.Perm new → (ds.Pairwise fun a b => a.flow ≤ b.flow) → q1.dels.take q.dels.length ++ (q1.dels.drop q.dels.length).mergeSort (fun a b => decide (a.flow ≤ b.flow)) = q.dels ++ ds := by
  obtain ⟨new, old, d1, d2, d3, d4, d5⟩ := h.dl
  refine ⟨new, d1, fun ds hp hs => ?_⟩
  have e1 : q1.dels.take q.dels.length = q.dels := by rw [d1]; simp
  have e2 : q1.dels.drop q.dels.length = new := by rw [d1]; simp
  rw [e1, e2, sort_eq d3 d4, sorted_eq d3 d4 hp hs]
end HM

/- A run's beginning in a store. -/
namespace HM
open Go Go.RowKit
theorem delOk : EncOk Del.av 3 := ⟨fun _ => rfl, fun _ => rfl, fun _ => rfl, fun _ => rfl, fun _ => rfl, by decide⟩
theorem states0 (l : List Flow) (g : Nat → Nat → Nat) (z : AV) (hz : ∀ h : Nat → Nat, stAV h PS.first = z) : statesE g (l.map fun _ => PS.first) = List.replicate l.length z := by
  apply List.ext_getElem?
  intro i
  simp only [statesE, List.getElem?_mapIdx, List.getElem?_map, List.getElem?_replicate]
  cases hi : l[i]? with
  | none =>
    have := List.getElem?_eq_none_iff.1 hi
    rw [if_neg (by omega)]; rfl
  | some f =>
    have := (List.getElem?_eq_some_iff.1 hi).1
    rw [if_pos this]
    simp [hz]
end HM

/- Arguments as scripts and lists of flows. -/
namespace HM
open Go Go.RowKit

def tRule : Ty := .st [tI, tI, tI, tI, .sl tI]
theorem sh_rule {l : List AV} (h : tRule.sh l) : ∃ r : Rule, l = [.int .i64 r.flow, .int .i64 r.src, .int .i64 r.dst, .int .i64 r.frame, encIs r.outs] ∧ r.outs.length ≤ 140737488355328 := by
  obtain ⟨_, _, rfl, _, h1, _, _, rfl, _, h2, _, _, rfl, _, h3, _, _, rfl, _, h4, _, _, rfl, _, h5, h6⟩ := h
  obtain ⟨a, rfl, _⟩ := sh_int h1
  obtain ⟨b, rfl, _⟩ := sh_int h2
  obtain ⟨c, rfl, _⟩ := sh_int h3
  obtain ⟨d, rfl, _⟩ := sh_int h4
  obtain ⟨e, rfl, e1⟩ := sh_ints h5
  obtain rfl := h6
  exact ⟨⟨a, b, c, d, e⟩, rfl, e1⟩
theorem sh_script {l : List AV} (h : (Ty.sl tRule).sh l) : ∃ x : List Rule, l = [encScript x] ∧ x.length ≤ 140737488355328 ∧ ∀ r ∈ x, r.outs.length ≤ 140737488355328 := by
  obtain ⟨els, rfl, h1, h2⟩ := h
  obtain ⟨cs, h3, h4, h5⟩ := list_ofP (f := Rule.av) (Q := fun r : Rule => r.outs.length ≤ 140737488355328) (fun l hl => by
    obtain ⟨c, rfl, hc⟩ := sh_rule hl
    exact ⟨c, rfl, hc⟩) els h1
  exact ⟨cs, by rw [h3]; rfl, by omega, h5⟩
theorem sh_flows {l : List AV} (h : (Ty.sl tFlow).sh l) : ∃ fs : List Flow, l = [encFlows fs] ∧ fs.length ≤ 140737488355328 := by
  obtain ⟨els, rfl, h1, h2⟩ := h
  obtain ⟨cs, h3, h4⟩ := list_of (f := Flow.av) (fun l hl => by
    obtain ⟨c, rfl⟩ := sh_flow hl
    exact ⟨c, rfl⟩) els h1
  exact ⟨cs, by rw [h3]; rfl, by omega⟩
theorem len1 {α : Type} {l : List α} (h : l.length = 1) : ∃ a, l = [a] := List.length_eq_one_iff.1 h
theorem len2 {α : Type} {l : List α} (h : l.length = 2) : ∃ a b, l = [a, b] := by
  obtain ⟨a, l1, rfl⟩ := List.exists_cons_of_length_eq_add_one h
  obtain ⟨b, rfl⟩ := len1 (l := l1) (by simpa using h)
  exact ⟨a, b, rfl⟩
end HM

/- Who makes an attempt, said of a whole run. -/
namespace HM
open Go Go.RowKit

/-- the attempt that a cell is to make in a slot, as far as the attempts R of earlier slots tell -/
def genB (l : List Flow) (R : List Att) (t : Int) (c : Cell) : Option (Int × Int × Cell) :=
  if findF l c.flow < 0 then none else
  match l[(findF l c.flow).toNat]? with
  | some f => if (curM f t).2 = false ∨ c.src = f.dst ∨ holdsR f R c.src (curM f t).1 t = false ∨ ackedR R c (curM f t).1 t = true then none else some (t, (curM f t).1, c)
  | none => none
def keyA (a : Att) : Int × Int × Cell := (a.slot, a.frame, a.cell)
theorem any_late {p : Att → Bool} {r late : List Att} {t : Int} (h : ∀ b ∈ late, t ≤ b.slot) (hp : ∀ b, p b = true → b.slot < t) : (r ++ late).any p = r.any p := by
  rw [List.any_append]
  have : late.any p = false := by
    rw [List.any_eq_false]
    intro b hb hpb
    have := h b hb
    have := hp b hpb
    omega
  rw [this, Bool.or_false]
theorem genB_late (l : List Flow) {r late : List Att} {t : Int} (h : ∀ b ∈ late, t ≤ b.slot) (c : Cell) : genB l (r ++ late) t c = genB l r t c := by
  unfold genB holdsR ackedR
  have e1 : ∀ id n node, ((r ++ late).any fun a => gotA id n node a && decide (a.slot < t)) = r.any fun a => gotA id n node a && decide (a.slot < t) := fun id n node => any_late h fun b hb => by
    simp only [Bool.and_eq_true, decide_eq_true_eq] at hb; exact hb.2
  have e2 : ∀ n, ((r ++ late).any fun a => onA c n a && decide (a.slot < t) && a.out == 1) = r.any fun a => onA c n a && decide (a.slot < t) && a.out == 1 := fun n => any_late h fun b hb => by
    simp only [Bool.and_eq_true, decide_eq_true_eq] at hb; exact hb.1.2
  simp only [e1, e2]
theorem attemptR_gen (l : List Flow) (x : List Rule) (t : Int) (r : RunL) (c : Cell) : ∃ late, (attemptR l x t r c).atts = r.atts ++ late ∧ (∀ b ∈ late, b.slot = t) ∧ late.map keyA = (genB l r.atts t c).toList := by
  unfold attemptR genB
  by_cases h1 : findF l c.flow < 0
  · rw [if_pos h1, if_pos h1]; exact ⟨[], by simp, by simp, rfl⟩
  rw [if_neg h1, if_neg h1]
  cases hf : l[(findF l c.flow).toNat]? with
  | none => exact ⟨[], by simp, by simp, rfl⟩
  | some f =>
    simp only
    by_cases h2 : (curM f t).2 = false ∨ c.src = f.dst ∨ holdsR f r.atts c.src (curM f t).1 t = false ∨ ackedR r.atts c (curM f t).1 t = true
    · rw [if_pos h2, if_pos h2]; exact ⟨[], by simp, by simp, rfl⟩
    · rw [if_neg h2, if_neg h2]; exact ⟨[_], rfl, by simp, rfl⟩
theorem fold_gen (l : List Flow) (x : List Rule) (t : Int) : ∀ (cs : List Cell) (r : RunL) (r0 : List Att) (late0 : List Att), r.atts = r0 ++ late0 → (∀ b ∈ late0, b.slot = t) → ∃ late, (cs.foldl (attemptR l x t) r).atts = r.atts ++ late ∧ (∀ b ∈ late, b.slot = t) ∧ late.map keyA = cs.filterMap (genB l r0 t)
  | [], r, r0, late0, _, _ => ⟨[], by simp, by simp, rfl⟩
  | c :: cs, r, r0, late0, h0, hl0 => by
    obtain ⟨l1, h1, h2, h3⟩ := attemptR_gen l x t r c
    obtain ⟨l2, h4, h5, h6⟩ := fold_gen l x t cs (attemptR l x t r c) r0 (late0 ++ l1) (by rw [h1, h0, List.append_assoc]) (fun b hb => by
      rcases List.mem_append.1 hb with hb | hb
      · exact hl0 b hb
      · exact h2 b hb)
    refine ⟨l1 ++ l2, by rw [List.foldl_cons, h4, h1, List.append_assoc], fun b hb => ?_, ?_⟩
    · rcases List.mem_append.1 hb with hb | hb
      · exact h2 b hb
      · exact h5 b hb
    · rw [List.map_append, h3, h6, h0, genB_late l (fun b hb => by rw [hl0 b hb]; exact Int.le_refl _), List.filterMap_cons]
      cases genB l r0 t c <;> rfl
theorem slotR_gen (l : List Flow) (s : Sched) (x : List Rule) (r : RunL) (t : Int) : ∃ late, (slotR l s x r t).atts = r.atts ++ late ∧ (∀ b ∈ late, b.slot = t) ∧ late.map keyA = (atM s t).filterMap (genB l r.atts t) :=
  fold_gen l x t (atM s t) r r.atts [] (by simp) (by simp)
end HM

/- Going through the attempts that are to be made. -/
namespace HM
open Go Go.RowKit

end HM

/- Deliveries of a run, out of its attempts. -/
namespace HM
open Go Go.RowKit

/-- an attempt that brings its frame to the end of its flow -/
def endA (l : List Flow) (a : Att) : Prop := ∃ (i : Nat) (f : Flow), l[i]? = some f ∧ f.id = a.cell.flow ∧ a.cell.dst = f.dst ∧ a.out ≠ 3
structure DelI (l : List Flow) (r : RunL) : Prop where
  fm : ∀ d ∈ r.dels, ∃ a ∈ r.atts, a.slot = d.slot ∧ a.frame = d.frame ∧ a.cell.flow = d.flow ∧ endA l a
  to : ∀ a ∈ r.atts, endA l a → ∃ d ∈ r.dels, d.flow = a.cell.flow ∧ d.frame = a.frame ∧ d.slot ≤ a.slot
  un : r.dels.Pairwise fun d e => ¬ (d.flow = e.flow ∧ d.frame = e.frame)
theorem insD_mem {d e : Del} {ds : List Del} : e ∈ insD d ds ↔ e ∈ ds ∨ e = d := by
  rw [(insD_perm d ds).mem_iff]; simp
theorem insD_un {d : Del} {ds : List Del} (h : ds.Pairwise fun d e => ¬ (d.flow = e.flow ∧ d.frame = e.frame)) (hn : ∀ e ∈ ds, ¬ (e.flow = d.flow ∧ e.frame = d.frame)) : (insD d ds).Pairwise fun d e => ¬ (d.flow = e.flow ∧ d.frame = e.frame) := by
  refine List.Pairwise.perm (l := ds ++ [d]) ?_ (insD_perm d ds).symm (fun {x y} hxy hyx => hxy ⟨hyx.1.symm, hyx.2.symm⟩)
  exact List.pairwise_append.2 ⟨h, by simp, fun a ha b hb => by
    have : b = d := by simpa using hb
    subst this
    exact hn a ha⟩
theorem DelI.attempt {l : List Flow} (hl : FlowsOk l) {x : List Rule} {t : Int} {r : RunL} (h : DelI l r) (hs : ∀ d ∈ r.dels, d.slot ≤ t) (c : Cell) : DelI l (attemptR l x t r c) ∧ ∀ d ∈ (attemptR l x t r c).dels, d.slot ≤ t := by
  unfold attemptR
  by_cases h1 : findF l c.flow < 0
  · rw [if_pos h1]; exact ⟨h, hs⟩
  rw [if_neg h1]
  obtain ⟨i, f, e1, hf, hid⟩ := findF_at h1
  rw [e1, Int.toNat_natCast, hf]
  simp only
  by_cases h2 : (curM f t).2 = false ∨ c.src = f.dst ∨ holdsR f r.atts c.src (curM f t).1 t = false ∨ ackedR r.atts c (curM f t).1 t = true
  · rw [if_pos h2]; exact ⟨h, hs⟩
  rw [if_neg h2]
  obtain ⟨o, ho⟩ : ∃ o, o = outcomeM x c.flow (curM f t).1 c.src c.dst (countR r.atts c (curM f t).1) := ⟨_, rfl⟩
  rw [← ho]
  have hend : endA l ⟨t, (curM f t).1, c, o⟩ ↔ c.dst = f.dst ∧ o ≠ 3 := by
    constructor
    · rintro ⟨j, g, hg, h3, h4, h5⟩
      obtain ⟨_, rfl⟩ := same_flow hl hf hg (by rw [hid, h3])
      exact ⟨h4, h5⟩
    · rintro ⟨h4, h5⟩
      exact ⟨i, f, hf, hid, h4, h5⟩
  by_cases h3 : c.dst = f.dst ∧ o ≠ 3 ∧ hadR r.dels c.flow (curM f t).1 = false
  · rw [if_pos h3]
    obtain ⟨g1, g2, g3⟩ := h3
    have hno : ∀ e ∈ r.dels, ¬ (e.flow = c.flow ∧ e.frame = (curM f t).1) := by
      intro e he hh
      have : hadR r.dels c.flow (curM f t).1 = true := by
        simp only [hadR, List.any_eq_true, Bool.and_eq_true, beq_iff_eq]
        exact ⟨e, he, hh⟩
      rw [g3] at this; cases this
    refine ⟨⟨fun d hd => ?_, fun a ha hae => ?_, insD_un h.un hno⟩, fun d hd => ?_⟩
    · rcases insD_mem.1 hd with hd | rfl
      · obtain ⟨a, ha, hh⟩ := h.fm d hd
        exact ⟨a, by simp [ha], hh⟩
      · exact ⟨⟨t, (curM f t).1, c, o⟩, by simp, rfl, rfl, rfl, hend.2 ⟨g1, g2⟩⟩
    · rcases List.mem_append.1 ha with ha | ha
      · obtain ⟨d, hd, hh⟩ := h.to a ha hae
        exact ⟨d, insD_mem.2 (.inl hd), hh⟩
      · have : a = ⟨t, (curM f t).1, c, o⟩ := by simpa using ha
        subst this
        exact ⟨_, insD_mem.2 (.inr rfl), rfl, rfl, Int.le_refl _⟩
    · rcases insD_mem.1 hd with hd | rfl
      · exact hs d hd
      · exact Int.le_refl _
  · rw [if_neg h3]
    refine ⟨⟨fun d hd => ?_, fun a ha hae => ?_, h.un⟩, hs⟩
    · obtain ⟨a, ha, hh⟩ := h.fm d hd
      exact ⟨a, by simp [ha], hh⟩
    · rcases List.mem_append.1 ha with ha | ha
      · exact h.to a ha hae
      · have : a = ⟨t, (curM f t).1, c, o⟩ := by simpa using ha
        subst this
        obtain ⟨g1, g2⟩ := hend.1 hae
        have hhad : hadR r.dels c.flow (curM f t).1 = true := by
          cases hh : hadR r.dels c.flow (curM f t).1 with
          | true => rfl
          | false => exact absurd ⟨g1, g2, hh⟩ h3
        simp only [hadR, List.any_eq_true, Bool.and_eq_true, beq_iff_eq] at hhad
        obtain ⟨d, hd, k1, k2⟩ := hhad
        exact ⟨d, hd, k1, k2, hs d hd⟩
theorem DelI.fold {l : List Flow} (hl : FlowsOk l) {x : List Rule} {t : Int} : ∀ (cs : List Cell) {r : RunL}, DelI l r → (∀ d ∈ r.dels, d.slot ≤ t) → DelI l (cs.foldl (attemptR l x t) r) ∧ ∀ d ∈ (cs.foldl (attemptR l x t) r).dels, d.slot ≤ t
  | [], _, h, hs => ⟨h, hs⟩
  | c :: cs, _, h, hs => by
    obtain ⟨h1, h2⟩ := h.attempt hl (x := x) hs c
    exact DelI.fold hl cs h1 h2
end HM

/- With one more cell no frame is delivered later. -/
namespace HM
open Go Go.RowKit

/-- the outcomes of the attempts of a frame on a link are those of the script, one after the other -/
def OutI (x : List Rule) (r : List Att) : Prop := ∀ (c : Cell) (fr : Int), (r.filter (onA c fr)).map (·.out) = (List.range (countR r c fr)).map fun j => outcomeM x c.flow fr c.src c.dst j
def DomI (A B : List Att) : Prop := ∀ (c : Cell) (fr : Int), countR A c fr ≤ countR B c fr ∨ ∃ b ∈ B, onA c fr b = true ∧ b.out = 1
theorem onA_same {c c0 : Cell} {fr t n o : Int} (h : onA c fr ⟨t, n, c0, o⟩ = true) : c0.flow = c.flow ∧ n = fr ∧ c0.src = c.src ∧ c0.dst = c.dst := by
  simp only [onA, Bool.and_eq_true, beq_iff_eq] at h
  exact ⟨h.1.1.1, h.1.1.2, h.1.2, h.2⟩
theorem OutI.attempt {l : List Flow} {x : List Rule} {t : Int} {r : RunL} (h : OutI x r.atts) (c : Cell) : OutI x (attemptR l x t r c).atts := by
  unfold attemptR
  by_cases h1 : findF l c.flow < 0
  · rw [if_pos h1]; exact h
  rw [if_neg h1]
  cases hf : l[(findF l c.flow).toNat]? with
  | none => exact h
  | some f =>
    simp only
    by_cases h2 : (curM f t).2 = false ∨ c.src = f.dst ∨ holdsR f r.atts c.src (curM f t).1 t = false ∨ ackedR r.atts c (curM f t).1 t = true
    · rw [if_pos h2]; exact h
    rw [if_neg h2]
    intro c' fr
    simp only
    by_cases hon : onA c' fr ⟨t, (curM f t).1, c, outcomeM x c.flow (curM f t).1 c.src c.dst (countR r.atts c (curM f t).1)⟩ = true
    · obtain ⟨e1, e2, e3, e4⟩ := onA_same hon
      have hp : onA c (curM f t).1 = onA c' fr := by funext a; simp only [onA, e1, e2, e3, e4]
      have hc : countR r.atts c (curM f t).1 = countR r.atts c' fr := by unfold countR; rw [hp]
      rw [List.filter_append, List.map_append, h c' fr]
      have h3 : countR (r.atts ++ [⟨t, (curM f t).1, c, outcomeM x c.flow (curM f t).1 c.src c.dst (countR r.atts c (curM f t).1)⟩]) c' fr = countR r.atts c' fr + 1 := by
        unfold countR at hon ⊢
        rw [List.countP_append, List.countP_singleton, if_pos hon]
      rw [h3, List.range_succ, List.map_append, List.filter_cons, if_pos hon]
      rw [hc, e1, e2, e3, e4]
      rfl
    · have hon' := Bool.eq_false_iff.2 hon
      have h3 : countR (r.atts ++ [⟨t, (curM f t).1, c, outcomeM x c.flow (curM f t).1 c.src c.dst (countR r.atts c (curM f t).1)⟩]) c' fr = countR r.atts c' fr := by
        unfold countR at hon' ⊢
        rw [List.countP_append, List.countP_singleton, hon']
        simp
      rw [h3, List.filter_append, List.filter_cons, hon']
      simpa using h c' fr
theorem OutI.fold {l : List Flow} {x : List Rule} {t : Int} : ∀ (cs : List Cell) {r : RunL}, OutI x r.atts → OutI x (cs.foldl (attemptR l x t) r).atts
  | [], _, h => h
  | c :: cs, _, h => OutI.fold cs (h.attempt c)
/-- what is received there is received here -/
theorem dom_recv {x : List Rule} {A B : List Att} (hA : OutI x A) (hB : OutI x B) (hD : DomI A B) {id fr node : Int} {a : Att} (ha : a ∈ A) (hg : gotA id fr node a = true) : ∃ b ∈ B, gotA id fr node b = true := by
  simp only [gotA, Bool.and_eq_true, beq_iff_eq, bne_iff_ne] at hg
  obtain ⟨⟨⟨g1, g2⟩, g3⟩, g4⟩ := hg
  have hon : onA a.cell fr a = true := by simp [onA, g2]
  have mk : ∀ b ∈ B, onA a.cell fr b = true → b.out ≠ 3 → ∃ b ∈ B, gotA id fr node b = true := by
    intro b hb hb2 hb3
    simp only [onA, Bool.and_eq_true, beq_iff_eq] at hb2
    refine ⟨b, hb, ?_⟩
    simp only [gotA, Bool.and_eq_true, beq_iff_eq, bne_iff_ne]
    exact ⟨⟨⟨hb2.1.1.1.trans g1, hb2.1.1.2⟩, hb2.2.trans g3⟩, hb3⟩
  rcases hD a.cell fr with hle | ⟨b, hb, hb2, hb3⟩
  · have hmem : a.out ∈ (A.filter (onA a.cell fr)).map (·.out) := List.mem_map.2 ⟨a, List.mem_filter.2 ⟨ha, hon⟩, rfl⟩
    rw [hA a.cell fr] at hmem
    obtain ⟨j, hj, hj2⟩ := List.mem_map.1 hmem
    have hjl : j < countR A a.cell fr := List.mem_range.1 hj
    have hmem2 : a.out ∈ (B.filter (onA a.cell fr)).map (·.out) := by
      rw [hB a.cell fr]
      exact List.mem_map.2 ⟨j, List.mem_range.2 (by omega), hj2⟩
    obtain ⟨b, hb, hb2⟩ := List.mem_map.1 hmem2
    obtain ⟨hb3, hb4⟩ := List.mem_filter.1 hb
    exact mk b hb3 hb4 (by rw [hb2]; exact g4)
  · exact mk b hb hb2 (by rw [hb3]; decide)
def linkB (c c' : Cell) : Bool := c'.flow == c.flow && c'.src == c.src && c'.dst == c.dst
theorem genB_link (l : List Flow) (R : List Att) (t : Int) {c c' : Cell} (h : linkB c c' = true) : (genB l R t c').map (·.2.1) = (genB l R t c).map (·.2.1) := by
  simp only [linkB, Bool.and_eq_true, beq_iff_eq] at h
  obtain ⟨⟨h1, h2⟩, h3⟩ := h
  unfold genB ackedR onA
  rw [h1, h2, h3]
  split
  · rfl
  split
  · split <;> rfl
  · rfl
theorem genB_cell {l : List Flow} {R : List Att} {t : Int} {c : Cell} {k : Int × Int × Cell} (h : genB l R t c = some k) : k.1 = t ∧ k.2.2 = c := by
  unfold genB at h
  split at h
  · cases h
  split at h
  · split at h
    · cases h
    · injection h with h; subst h; exact ⟨rfl, rfl⟩
  · cases h
def keyB (c : Cell) (fr : Int) (k : Int × Int × Cell) : Bool := k.2.2.flow == c.flow && k.2.1 == fr && k.2.2.src == c.src && k.2.2.dst == c.dst
theorem gen_count (l : List Flow) (R : List Att) (t : Int) (c : Cell) (fr : Int) : ∀ cs : List Cell, (cs.filterMap (genB l R t)).countP (keyB c fr) = if (genB l R t c).map (·.2.1) = some fr then cs.countP (linkB c) else 0
  | [] => by simp
  | c' :: cs => by
    have ih := gen_count l R t c fr cs
    have key : ((genB l R t c').toList).countP (keyB c fr) = if (genB l R t c).map (·.2.1) = some fr then (if linkB c c' = true then 1 else 0) else 0 := by
      cases hg : genB l R t c' with
      | none =>
        by_cases hl : linkB c c' = true
        · have := genB_link l R t hl
          rw [hg] at this
          simp [← this]
        · simp [hl]
      | some k =>
        obtain ⟨_, hk⟩ := genB_cell hg
        by_cases hl : linkB c c' = true
        · have h2 := genB_link l R t hl
          rw [hg] at h2
          simp only [linkB, Bool.and_eq_true, beq_iff_eq] at hl
          rw [← h2]
          simp [keyB, hk, hl, linkB]
        · have : keyB c fr k = false := by
            rw [Bool.eq_false_iff]
            intro hh
            apply hl
            simp only [keyB, hk, Bool.and_eq_true, beq_iff_eq] at hh
            simp [linkB, hh]
          simp [this, hl]
    rw [show (c' :: cs).filterMap (genB l R t) = (genB l R t c').toList ++ cs.filterMap (genB l R t) from by rw [List.filterMap_cons]; cases genB l R t c' <;> rfl, List.countP_append, key, ih, List.countP_cons]
    by_cases g : (genB l R t c).map (·.2.1) = some fr
    · rw [if_pos g, if_pos g, if_pos g]; omega
    · rw [if_neg g, if_neg g, if_neg g]
theorem count_key {late : List Att} (c : Cell) (fr : Int) : late.countP (onA c fr) = (late.map keyA).countP (keyB c fr) := by
  rw [List.countP_map]
  congr 1
end HM

/- With one more cell no frame is delivered later: the whole of it. -/
namespace HM
open Go Go.RowKit

theorem genB_dom {l : List Flow} {x : List Rule} {A B : List Att} {t : Int} (hA : OutI x A) (hB : OutI x B) (hD : DomI A B) (hsB : ∀ b ∈ B, b.slot < t) {c : Cell} {fr : Int} (hk : ¬ ∃ b ∈ B, onA c fr b = true ∧ b.out = 1) (g : (genB l A t c).map (·.2.1) = some fr) : (genB l B t c).map (·.2.1) = some fr := by
  unfold genB at g ⊢
  by_cases h1 : findF l c.flow < 0
  · rw [if_pos h1] at g; cases g
  rw [if_neg h1] at g ⊢
  cases hf : l[(findF l c.flow).toNat]? with
  | none => rw [hf] at g; cases g
  | some f =>
    rw [hf] at g
    simp only at g ⊢
    by_cases h2 : (curM f t).2 = false ∨ c.src = f.dst ∨ holdsR f A c.src (curM f t).1 t = false ∨ ackedR A c (curM f t).1 t = true
    · rw [if_pos h2] at g; cases g
    rw [if_neg h2] at g
    simp only [Option.map_some, Option.some.injEq] at g
    subst g
    rw [if_neg ?_]
    · rfl
    rintro (h3 | h3 | h3 | h3)
    · exact h2 (.inl h3)
    · exact h2 (.inr (.inl h3))
    · apply h2
      refine .inr (.inr (.inl ?_))
      rw [Bool.eq_false_iff] at h3 ⊢
      intro h4
      apply h3
      simp only [holdsR, Bool.or_eq_true, beq_iff_eq, List.any_eq_true, Bool.and_eq_true, decide_eq_true_eq] at h4 ⊢
      rcases h4 with h4 | ⟨a, ha, hg, _⟩
      · exact .inl h4
      · obtain ⟨b, hb, hg2⟩ := dom_recv hA hB hD ha hg
        exact .inr ⟨b, hb, hg2, hsB b hb⟩
    · simp only [ackedR, List.any_eq_true, Bool.and_eq_true, decide_eq_true_eq, beq_iff_eq] at h3
      obtain ⟨b, hb, ⟨k1, _⟩, k3⟩ := h3
      exact hk ⟨b, hb, k1, k3⟩
theorem DomI.slot {l : List Flow} {x : List Rule} {s s' : Sched} {t : Int} {rA rB : RunL} (hA : OutI x rA.atts) (hB : OutI x rB.atts) (hD : DomI rA.atts rB.atts) (hsB : ∀ b ∈ rB.atts, b.slot < t) (hsub : (atM s t).Sublist (atM s' t)) : DomI (slotR l s x rA t).atts (slotR l s' x rB t).atts := by
  intro c fr
  obtain ⟨lA, a1, _, a3⟩ := slotR_gen l s x rA t
  obtain ⟨lB, b1, _, b3⟩ := slotR_gen l s' x rB t
  rw [a1, b1]
  by_cases hk : ∃ b ∈ rB.atts, onA c fr b = true ∧ b.out = 1
  · obtain ⟨b, hb, k⟩ := hk
    exact .inr ⟨b, by simp [hb], k⟩
  have hle := (hD c fr).resolve_right hk
  refine .inl ?_
  unfold countR at hle ⊢
  rw [List.countP_append, List.countP_append, count_key (late := lA), count_key (late := lB), a3, b3, gen_count, gen_count]
  by_cases g : (genB l rA.atts t c).map (·.2.1) = some fr
  · rw [if_pos g, if_pos (genB_dom hA hB hD hsB hk g)]
    have := hsub.countP_le (p := linkB c)
    omega
  · rw [if_neg g]; omega
end HM

/- What the laws on runs ask of a run. -/
namespace HM
open Go Go.RowKit

theorem ready_all {l : List Flow} {s : Sched} {x : List Rule} {slots : Int} (h : readyM l s x slots = 0) : (flowsE 32 l).2 = 0 ∧ formB s = true ∧ (scriptM x).2 = 0 ∧ 0 ≤ slots ∧ slots ≤ 4096 := by
  unfold readyM at h
  split at h
  · cases h
  rename_i hn
  split at h
  · cases h
  rename_i hn2
  refine ⟨?_, ?_, ?_, by omega, by omega⟩
  · exact Classical.byContradiction fun hh => hn (.inl hh)
  · cases hf : formB s with
    | true => rfl
    | false => exact absurd (.inr (.inl hf)) hn
  · exact Classical.byContradiction fun hh => hn (.inr (.inr hh))
theorem playM_R {l : List Flow} {s : Sched} {x : List Rule} {slots : Int} (h : readyM l s x slots = 0) : playM l s x slots = (⟨(playR l (fun _ => s) x slots.toNat).atts, (playR l (fun _ => s) x slots.toNat).dels⟩, 0) := by
  obtain ⟨h1, h2, h3, h4, h5⟩ := ready_all h
  have hs := playV_R (flowsOk_of h1) (fun _ => s) x slots.toNat (by omega)
  rw [playV_S] at hs
  rw [playM, if_neg (by simp [h]), ← hs.at_, ← hs.dl]
theorem playM_bad {l : List Flow} {s : Sched} {x : List Rule} {slots : Int} (h : readyM l s x slots ≠ 0) : playM l s x slots = (⟨[], []⟩, readyM l s x slots) := by rw [playM, if_pos h]

end HM

/- The law on one more cell. -/
namespace HM
open Go Go.RowKit

end HM

/- Schedules that are changed: removal of a cell; the schedules behind changes; the one of a slot. -/
namespace HM
open Go Go.RowKit

structure Chg where
  slot : Int
  add : Bool
  cell : Cell
def Chg.av (c : Chg) : AV := .agg [.int .i64 c.slot, .bool c.add, .int .i64 c.cell.slot, .int .i64 c.cell.off, .int .i64 c.cell.src, .int .i64 c.cell.dst, .int .i64 c.cell.flow]
def encChgs (l : List Chg) : AV := .sl false (l.map Chg.av)

def delAt {α : Type} (l : List α) (p : Nat) : List α := l.take p ++ l.drop (p + 1)
theorem delAt_len {α : Type} {l : List α} {p : Nat} (h : p < l.length) : (delAt l p).length = l.length - 1 := by
  unfold delAt
  rw [List.length_append, List.length_take, List.length_drop]; omega
theorem delAt_sub {α : Type} (l : List α) (p : Nat) : (delAt l p).Sublist l := by
  unfold delAt
  have h := List.Sublist.append (List.Sublist.refl (l.take p)) (List.drop_sublist_drop_left l (Nat.le_succ p))
  rwa [List.take_append_drop] at h
theorem sub_sorted {α : Type} {cmp : α → α → Int} {l m : List α} (h : m.Sublist l) (hs : Sorted cmp l) : Sorted cmp m := by
  have h1 : l.Pairwise fun a b => cmp a b < 0 := List.pairwise_iff_getElem.2 fun i j hi hj hij => hs i j _ _ hij (List.getElem?_eq_getElem hi) (List.getElem?_eq_getElem hj)
  have h2 := List.pairwise_iff_getElem.1 (h1.sublist h)
  intro i j x y hij hx hy
  obtain ⟨hi, rfl⟩ := List.getElem?_eq_some_iff.1 hx
  obtain ⟨hj, rfl⟩ := List.getElem?_eq_some_iff.1 hy
  exact h2 i j hi hj hij
def remM (s : Sched) (c : Cell) : Sched × Int :=
  if formB s = false then (⟨0, 0, []⟩, 1)
  else if hasC s c = false then (⟨0, 0, []⟩, 7)
  else (⟨s.len, s.offs, delAt s.cells (posC s c)⟩, 0)
theorem hasC_at {s : Sched} {c : Cell} (h : hasC s c = true) : s.cells[posC s c]? = some c := by
  unfold hasC hasB at h
  unfold posC
  split at h
  · rename_i x hx
    have h0 : x.cmp c = 0 := by simpa [cellTo] using h
    have h1 := cmpL_eq.1 h0
    have h2 : x = c := by
      obtain ⟨a1, a2, a3, a4, a5⟩ := x
      obtain ⟨b1, b2, b3, b4, b5⟩ := c
      simpa [Cell.nums] using h1
    rw [hx, h2]
  · cases h
theorem remM_form {s : Sched} {c : Cell} (h : (remM s c).2 = 0) : formB (remM s c).1 = true := by
  unfold remM at h ⊢
  split at h
  · cases h
  split at h
  · cases h
  rename_i h1 h2
  rw [if_neg h1, if_neg h2]
  have hf : formB s = true := by simpa using h1
  obtain ⟨f1, f2, f3⟩ := form_all hf
  have hsub := delAt_sub s.cells (posC s c)
  refine formB_mk f1 (Nat.le_trans hsub.length_le f2) (fun x hx => ?_) (sub_sorted hsub (formB_sorted hf))
  exact (formedB_len (s := s) (t := ⟨s.len, s.offs, delAt s.cells (posC s c)⟩) rfl rfl x).trans (f3 x (hsub.mem hx))
def chgM (s : Sched) (c : Chg) : Sched × Int := if c.add = true then addM s c.cell else remM s c.cell
theorem chgM_form {s : Sched} {c : Chg} (h : (chgM s c).2 = 0) : formB (chgM s c).1 = true := by
  unfold chgM at h ⊢
  split
  · rename_i ha
    rw [if_pos ha] at h
    obtain ⟨t, ht⟩ : ∃ t, t = (addM s c.cell).1 := ⟨_, rfl⟩
    rw [← ht]
    exact (addM_more (show addM s c.cell = (t, 0) by rw [ht, ← h])).2.2
  · rename_i ha
    rw [if_neg ha] at h
    exact remM_form h
/-- the fault of a change behind one in a slot -/
def chgE (p : Option Int) (c : Chg) : Int := if c.slot < 0 then 2 else match p with
  | some q => if c.slot < q then 5 else 0
  | none => 0
def behM : Option Int → Sched → List Chg → List Sched × Int
  | _, _, [] => ([], 0)
  | p, s, c :: cs => if chgE p c ≠ 0 then ([], chgE p c) else if (chgM s c).2 ≠ 0 then ([], (chgM s c).2) else ((chgM s c).1 :: (behM (some c.slot) (chgM s c).1 cs).1, (behM (some c.slot) (chgM s c).1 cs).2)
def appM : Option Int → Sched → Sched → List Chg → Int → Sched × Int
  | _, _, out, [], _ => (out, 0)
  | p, s, out, c :: cs, t => if chgE p c ≠ 0 then (out, chgE p c) else if (chgM s c).2 ≠ 0 then (out, (chgM s c).2) else appM (some c.slot) (chgM s c).1 (if c.slot ≤ t then (chgM s c).1 else out) cs t
theorem app_err : ∀ (p : Option Int) (s out : Sched) (cs : List Chg) (t : Int), (appM p s out cs t).2 = (behM p s cs).2
  | _, _, _, [], _ => rfl
  | p, s, out, c :: cs, t => by
    unfold appM behM
    split
    · rfl
    split
    · rfl
    exact app_err _ _ _ cs t
/-- how many changes there are up to a slot -/
def uptoC (cs : List Chg) (t : Int) : Nat := cs.countP fun c => decide (c.slot ≤ t)
theorem beh_after {q : Int} : ∀ {s : Sched} {cs : List Chg}, (behM (some q) s cs).2 = 0 → ∀ c ∈ cs, q ≤ c.slot
  | s, [], _ => by simp
  | s, c :: cs, h => by
    unfold behM at h
    split at h
    · rename_i h1; exact absurd h h1
    split at h
    · rename_i h1; exact absurd h h1
    rename_i h1 h2
    have hq : q ≤ c.slot := by
      simp only [Decidable.not_not] at h1
      unfold chgE at h1
      simp only at h1
      split at h1
      · cases h1
      split at h1
      · cases h1
      omega
    intro d hd
    rcases List.mem_cons.1 hd with rfl | hd
    · exact hq
    · have := beh_after h d hd
      omega
theorem beh_len : ∀ {p : Option Int} {s : Sched} {cs : List Chg}, (behM p s cs).2 = 0 → (behM p s cs).1.length = cs.length
  | _, _, [], _ => rfl
  | p, s, c :: cs, h => by
    unfold behM at h ⊢
    split at h
    · rename_i h1; exact absurd h h1
    split at h
    · rename_i h1; exact absurd h h1
    rename_i h1 h2
    rw [if_neg h1, if_neg h2, List.length_cons, List.length_cons, beh_len h]
theorem beh_form : ∀ {p : Option Int} {s : Sched} {cs : List Chg}, ∀ t ∈ (behM p s cs).1, formB t = true
  | _, _, [], t, h => by simp [behM] at h
  | p, s, c :: cs, t, h => by
    unfold behM at h
    split at h
    · simp at h
    split at h
    · simp at h
    rename_i h1 h2
    simp only [List.mem_cons] at h
    rcases h with rfl | h
    · exact chgM_form (by simpa using h2)
    · exact beh_form t h
/-- the schedule of a slot -/
def nowM (s : Sched) (cs : List Chg) (t : Int) : Sched := ((s :: (behM none s cs).1)[uptoC cs t]?).getD s
theorem app_now_g : ∀ {p : Option Int} {s out : Sched} {cs : List Chg} (t : Int), (behM p s cs).2 = 0 → (appM p s out cs t).1 = ((out :: (behM p s cs).1)[uptoC cs t]?).getD out
  | _, _, _, [], _, _ => rfl
  | p, s, out, c :: cs, t, h => by
    unfold behM at h
    split at h
    · rename_i h1; exact absurd h h1
    split at h
    · rename_i h1; exact absurd h h1
    rename_i h1 h2
    unfold appM behM
    rw [if_neg h1, if_neg h2, if_neg h1, if_neg h2]
    simp only
    rw [app_now_g t h]
    unfold uptoC
    rw [List.countP_cons]
    by_cases hc : c.slot ≤ t
    · rw [if_pos hc, if_pos (by simpa using hc), List.getElem?_cons_succ]
      have hl := beh_len h
      have hle := List.countP_le_length (p := fun c : Chg => decide (c.slot ≤ t)) (l := cs)
      cases hk : (( (chgM s c).1 :: (behM (some c.slot) (chgM s c).1 cs).1)[List.countP (fun c : Chg => decide (c.slot ≤ t)) cs]?) with
      | some z => rfl
      | none => rw [List.getElem?_eq_none_iff] at hk; simp only [List.length_cons] at hk; omega
    · rw [if_neg hc, if_neg (by simpa using hc)]
      have h0 : List.countP (fun c : Chg => decide (c.slot ≤ t)) cs = 0 := by
        rw [List.countP_eq_zero]
        intro d hd
        have := beh_after h d hd
        simp; omega
      rw [h0]; rfl
theorem app_now {s : Sched} {cs : List Chg} (t : Int) (h : (behM none s cs).2 = 0) : (appM none s s cs t).1 = nowM s cs t := app_now_g t h
theorem now_form {s : Sched} (hs : formB s = true) (cs : List Chg) (t : Int) : formB (nowM s cs t) = true := by
  unfold nowM
  cases h : (s :: (behM none s cs).1)[uptoC cs t]? with
  | none => exact hs
  | some z =>
    rcases List.mem_cons.1 (List.mem_of_getElem? h) with rfl | h
    · exact hs
    · exact beh_form _ h
theorem now_at {s : Sched} {cs : List Chg} (t : Int) (h : (behM none s cs).2 = 0) : (s :: (behM none s cs).1)[uptoC cs t]? = some (nowM s cs t) := by
  have hl := beh_len h
  have hle := List.countP_le_length (p := fun c : Chg => decide (c.slot ≤ t)) (l := cs)
  unfold nowM
  cases hk : (s :: (behM none s cs).1)[uptoC cs t]? with
  | some z => rfl
  | none => rw [List.getElem?_eq_none_iff] at hk; simp only [List.length_cons, uptoC] at hk; omega
/-- what Change returns -/
def changeM (l : List Flow) (s : Sched) (cs : List Chg) (x : List Rule) (slots : Int) : RunL × Int :=
  if readyM l s x slots ≠ 0 then (⟨[], []⟩, readyM l s x slots)
  else if 1024 < cs.length then (⟨[], []⟩, 8)
  else if (behM none s cs).2 ≠ 0 then (⟨[], []⟩, (behM none s cs).2)
  else (⟨(playR l (fun n => nowM s cs n) x slots.toNat).atts, (playR l (fun n => nowM s cs n) x slots.toNat).dels⟩, 0)
theorem change_none (l : List Flow) (s : Sched) (x : List Rule) (slots : Int) : changeM l s [] x slots = playM l s x slots := by
  unfold changeM
  by_cases h : readyM l s x slots ≠ 0
  · rw [if_pos h, playM_bad h]
  · rw [if_neg h, if_neg (by simp), if_neg (by simp [behM]), playM_R (by simpa using h)]
    rfl
end HM

/- What the law asks of deliveries, out of the run. -/
namespace HM
open Go Go.RowKit

def winM (f : Flow) (frame : Int) : (Int × Int) × Int := if (relF f frame).2 ≠ 0 then ((0, 0), (relF f frame).2) else (((relF f frame).1, (relF f frame).1 + f.period - 1), 0)
/-- what the law asks of a delivery -/
structure OnceD (l : List Flow) (R : List Att) (d : Del) (k : Nat) (f : Flow) : Prop where
  at_ : findF l d.flow = (k : Int)
  get : l[k]? = some f
  win : (winM f d.frame).2 = 0 ∧ (winM f d.frame).1.1 ≤ d.slot ∧ d.slot ≤ (winM f d.frame).1.2
  by_ : (R.any fun a => a.slot == d.slot && (a.frame == d.frame && (a.cell.flow == d.flow && (a.cell.dst == f.dst && a.out != 3)))) = true
end HM

/- A flow on its own; a run without a script. -/
namespace HM
open Go Go.RowKit

-- without a script
end HM

/- The schedules behind changes, one by one; runs that are changed. -/
namespace HM
open Go Go.RowKit

def prevS (cs : List Chg) (k : Nat) : Option Int := match k with
  | 0 => none
  | j + 1 => (cs[j]?).map (·.slot)
structure BehI (s : Sched) (cs : List Chg) (k : Nat) (bs : List Sched) : Prop where
  le : k ≤ cs.length
  len : bs.length = k
  eq : behM none s cs = (bs ++ (behM (prevS cs k) (bs.getLastD s) (cs.drop k)).1, (behM (prevS cs k) (bs.getLastD s) (cs.drop k)).2)
theorem BehI.zero (s : Sched) (cs : List Chg) : BehI s cs 0 [] := ⟨Nat.zero_le _, rfl, rfl⟩
theorem BehI.last {s : Sched} {cs : List Chg} {k : Nat} {bs : List Sched} (h : BehI s cs k bs) : (s :: bs)[k]? = some (bs.getLastD s) := by
  have hl := h.len
  subst hl
  cases bs with
  | nil => rfl
  | cons b bs => simp [List.getLastD_cons, List.getLast_eq_getElem, List.getLastD_eq_getLast?, List.getLast?_eq_getElem?]
theorem BehI.err1 {s : Sched} {cs : List Chg} {k : Nat} {bs : List Sched} (h : BehI s cs k bs) {c : Chg} (hc : cs[k]? = some c) (he : chgE (prevS cs k) c ≠ 0) : (behM none s cs).2 = chgE (prevS cs k) c := by
  rw [h.eq, dropGet hc]
  simp only [behM]
  rw [if_pos he]
theorem BehI.err2 {s : Sched} {cs : List Chg} {k : Nat} {bs : List Sched} (h : BehI s cs k bs) {c : Chg} (hc : cs[k]? = some c) (he : chgE (prevS cs k) c = 0) (h2 : (chgM (bs.getLastD s) c).2 ≠ 0) : (behM none s cs).2 = (chgM (bs.getLastD s) c).2 := by
  rw [h.eq, dropGet hc]
  simp only [behM]
  rw [if_neg (by simp [he]), if_pos h2]
theorem BehI.step {s : Sched} {cs : List Chg} {k : Nat} {bs : List Sched} (h : BehI s cs k bs) {c : Chg} (hc : cs[k]? = some c) (he : chgE (prevS cs k) c = 0) (h2 : (chgM (bs.getLastD s) c).2 = 0) : BehI s cs (k + 1) (bs ++ [(chgM (bs.getLastD s) c).1]) := by
  refine ⟨(List.getElem?_eq_some_iff.1 hc).1, by rw [List.length_append, h.len]; rfl, ?_⟩
  have hl : (bs ++ [(chgM (bs.getLastD s) c).1]).getLastD s = (chgM (bs.getLastD s) c).1 := by simp
  have e1 : behM (prevS cs k) (bs.getLastD s) (c :: cs.drop (k + 1)) = ((chgM (bs.getLastD s) c).1 :: (behM (some c.slot) (chgM (bs.getLastD s) c).1 (cs.drop (k + 1))).1, (behM (some c.slot) (chgM (bs.getLastD s) c).1 (cs.drop (k + 1))).2) := by
    rw [behM, if_neg (by simp [he]), if_neg (fun hh => hh h2)]
  have hp : prevS cs (k + 1) = some c.slot := by simp [prevS, hc]
  rw [h.eq, dropGet hc, e1, hl, hp]
  simp
theorem BehI.fin {s : Sched} {cs : List Chg} {bs : List Sched} (h : BehI s cs cs.length bs) : behM none s cs = (bs, 0) := by
  rw [h.eq, List.drop_length]
  simp [behM]
theorem chgE_neg {p : Option Int} {c : Chg} (h : c.slot < 0) : chgE p c = 2 := by unfold chgE; rw [if_pos h]
theorem chgE_first {cs : List Chg} {c : Chg} (h : ¬ c.slot < 0) : chgE (prevS cs 0) c = 0 := by unfold chgE prevS; rw [if_neg h]
theorem chgE_next {cs : List Chg} {c d : Chg} {j : Nat} (h : ¬ c.slot < 0) (hd : cs[j]? = some d) : chgE (prevS cs (j + 1)) c = if c.slot < d.slot then 5 else 0 := by
  have hp : prevS cs (j + 1) = some d.slot := by simp [prevS, hd]
  rw [hp]; unfold chgE; rw [if_neg h]
theorem uptoC_filter (cs : List Chg) (n : Int) : (cs.filter fun x => !decide (n < x.slot)).length = uptoC cs n := by
  unfold uptoC
  rw [List.countP_eq_length_filter]
  congr 1
  refine List.filter_congr fun x _ => ?_
  rw [Bool.eq_iff_iff]; simp
theorem change_V {l : List Flow} {s : Sched} {cs : List Chg} {x : List Rule} {slots : Int} (h : readyM l s x slots = 0) (h2 : ¬ 1024 < cs.length) (h3 : (behM none s cs).2 = 0) : changeM l s cs x slots = (⟨(playV l (fun n => nowM s cs n) x slots.toNat).atts, (playV l (fun n => nowM s cs n) x slots.toNat).dels⟩, 0) := by
  obtain ⟨r1, r2, r3, r4, r5⟩ := ready_all h
  have hs := playV_R (flowsOk_of r1) (fun n => nowM s cs n) x slots.toNat (by omega)
  unfold changeM
  rw [if_neg (by simp [h]), if_neg h2, if_neg (by simp [h3]), hs.at_, hs.dl]
end HM

/- Where two runs differ. -/
namespace HM
open Go Go.RowKit

def attEqB (a b : Att) : Bool := a.slot == b.slot && (a.frame == b.frame && ((a.cell.slot == b.cell.slot && (a.cell.off == b.cell.off && (a.cell.src == b.cell.src && (a.cell.dst == b.cell.dst && (a.cell.flow == b.cell.flow && true))))) && (a.out == b.out && true)))
theorem attEqB_iff {a b : Att} : attEqB a b = true ↔ a = b := by
  obtain ⟨a1, a2, ⟨c1, c2, c3, c4, c5⟩, a4⟩ := a
  obtain ⟨b1, b2, ⟨d1, d2, d3, d4, d5⟩, b4⟩ := b
  simp [attEqB, and_assoc]
def delEqB (a b : Del) : Bool := a.flow == b.flow && (a.frame == b.frame && (a.slot == b.slot && true))
theorem delEqB_iff {a b : Del} : delEqB a b = true ↔ a = b := by
  obtain ⟨a1, a2, a3⟩ := a
  obtain ⟨b1, b2, b3⟩ := b
  simp [delEqB]
def diffAt (a b : List Att) (i : Nat) : Bool := match a[i]?, b[i]? with
  | some x, some y => !attEqB x y
  | _, _ => true
def sameM (a b : RunL) : Int := match (List.range (max a.atts.length b.atts.length)).find? (diffAt a.atts b.atts) with
  | some i => i
  | none => if a.dels = b.dels then -1 else a.atts.length
theorem sameM_hit {a b : RunL} {k : Nat} (hk : k < max a.atts.length b.atts.length) (hinv : ∀ j, j < k → diffAt a.atts b.atts j = false) (h : diffAt a.atts b.atts k = true) : sameM a b = k := by
  have : (List.range (max a.atts.length b.atts.length)).find? (diffAt a.atts b.atts) = some k := by
    refine find_hit (k := k) (fun j y hj hy => ?_) (by rw [List.getElem?_range hk]) h
    have : y = j := by
      rw [List.getElem?_range (by omega)] at hy; injection hy with hy; exact hy.symm
    subst this
    exact hinv _ hj
  unfold sameM
  rw [this]
theorem sameM_miss {a b : RunL} (hinv : ∀ j, j < max a.atts.length b.atts.length → diffAt a.atts b.atts j = false) : sameM a b = if a.dels = b.dels then -1 else (a.atts.length : Int) := by
  have : (List.range (max a.atts.length b.atts.length)).find? (diffAt a.atts b.atts) = none := by
    refine find_miss fun j y hy => ?_
    have hj := (List.getElem?_eq_some_iff.1 hy).1
    rw [List.length_range] at hj
    have : y = j := by
      rw [List.getElem?_range hj] at hy; injection hy with hy; exact hy.symm
    subst this
    exact hinv _ hj
  unfold sameM
  rw [this]
theorem sameM_refl (a : RunL) : sameM a a = -1 := by
  rw [sameM_miss, if_pos rfl]
  intro j hj
  have hj' : j < a.atts.length := by omega
  unfold diffAt
  rw [List.getElem?_eq_getElem hj']
  simp [attEqB_iff.2]
theorem diffAt_at {a b : List Att} {k : Nat} {x y : Att} (hx : a[k]? = some x) (hy : b[k]? = some y) : diffAt a b k = !attEqB x y := by unfold diffAt; rw [hx, hy]
theorem diffAt_left {a b : List Att} {k : Nat} (h : a.length ≤ k) : diffAt a b k = true := by unfold diffAt; rw [List.getElem?_eq_none h]
theorem diffAt_right {a b : List Att} {k : Nat} (h : b.length ≤ k) : diffAt a b k = true := by
  unfold diffAt
  rw [List.getElem?_eq_none h]
  cases a[k]? <;> rfl
theorem eq_of_at {α : Type} {a b : List α} (hl : a.length = b.length) (h : ∀ (j : Nat) x y, j < a.length → a[j]? = some x → b[j]? = some y → x = y) : a = b := by
  apply List.ext_getElem? 
  intro j
  by_cases hj : j < a.length
  · have e1 : a[j]? = some a[j] := List.getElem?_eq_getElem hj
    have e2 : b[j]? = some (b[j]'(by omega)) := List.getElem?_eq_getElem (by omega)
    rw [e1, e2, h j _ _ hj e1 e2]
  · rw [List.getElem?_eq_none (by omega), List.getElem?_eq_none (by omega)]
end HM
namespace HM
theorem change_bad {l : List Flow} {s : Sched} {cs : List Chg} {x : List Rule} {slots : Int} (h : (changeM l s cs x slots).2 ≠ 0) : (changeM l s cs x slots).1 = ⟨[], []⟩ := by
  unfold changeM at h ⊢
  split
  · rfl
  rename_i h1
  rw [if_neg h1] at h
  split
  · rfl
  rename_i h2
  rw [if_neg h2] at h
  split
  · rfl
  rename_i h3
  rw [if_neg h3] at h
  exact absurd rfl h
theorem change_ok {l : List Flow} {s : Sched} {cs : List Chg} {x : List Rule} {slots : Int} (h : (changeM l s cs x slots).2 = 0) : readyM l s x slots = 0 ∧ (behM none s cs).2 = 0 ∧ (changeM l s cs x slots).1 = ⟨(playR l (fun n => nowM s cs n) x slots.toNat).atts, (playR l (fun n => nowM s cs n) x slots.toNat).dels⟩ := by
  unfold changeM at h ⊢
  split
  · rename_i h1; rw [if_pos h1] at h; exact absurd h h1
  rename_i h1
  rw [if_neg h1] at h
  split
  · rename_i h2; rw [if_pos h2] at h; cases h
  rename_i h2
  rw [if_neg h2] at h
  split
  · rename_i h3; rw [if_pos h3] at h; exact absurd h h3
  rename_i h3
  exact ⟨by simpa using h1, by simpa using h3, rfl⟩
end HM

/- Arguments: changes, runs. -/
namespace HM
open Go Go.RowKit

def tChg : Ty := .st [tI, .bool, tCell]
theorem sh_chg {l : List AV} (h : tChg.sh l) : ∃ c : Chg, l = c.av.cells := by
  obtain ⟨_, _, rfl, _, h1, _, _, rfl, _, h2, _, _, rfl, _, h3, h6⟩ := h
  obtain ⟨a, rfl, _⟩ := sh_int h1
  obtain ⟨b, rfl⟩ := h2
  obtain ⟨c, rfl⟩ := sh_cell h3
  obtain rfl := h6
  exact ⟨⟨a, b, c⟩, rfl⟩
theorem sh_chgs {l : List AV} (h : (Ty.sl tChg).sh l) : ∃ cs : List Chg, l = [encChgs cs] ∧ cs.length ≤ 140737488355328 := by
  obtain ⟨els, rfl, h1, h2⟩ := h
  obtain ⟨cs, h3, h4⟩ := list_of (f := Chg.av) (fun l hl => by
    obtain ⟨c, rfl⟩ := sh_chg hl
    exact ⟨c, rfl⟩) els h1
  exact ⟨cs, by rw [h3]; rfl, by omega⟩
end HM

/- The law on a flow on its own. -/
namespace HM
open Go Go.RowKit

end HM
namespace HM
theorem playM_len {l : List Flow} {s : Sched} {x : List Rule} {slots : Int} : (playM l s x slots).1.atts.length ≤ 2097152 ∧ (playM l s x slots).1.dels.length ≤ 2097152 := by
  by_cases hready : readyM l s x slots = 0
  · obtain ⟨r1, r2, r3, r4, r5⟩ := ready_all hready
    have hcl := (form_all r2).2.1
    have := play_len (l := l) (fun _ => s) x (m := 512) (fun _ => hcl) slots.toNat
    have hs := playV_R (flowsOk_of r1) (fun _ => s) x slots.toNat (by omega)
    rw [playM_R hready]
    simp only
    rw [hs.dl, hs.at_]
    omega
  · rw [playM_bad hready]; simp
end HM

/- A cell put in and taken out, as the reference does it. -/
namespace HM
open Go Go.RowKit

def withL (c : Cell) : List Cell → List Cell
  | [] => [c]
  | x :: l => if c.cmp x < 0 then c :: x :: l else x :: withL c l
def putB (c : Cell) (l : List Cell) : Bool := l.any fun x => decide (c.cmp x < 0)
theorem with_none {c : Cell} : ∀ {l : List Cell}, putB c l = false → withL c l = l ++ [c]
  | [], _ => rfl
  | x :: l, h => by
    simp only [putB, List.any_cons, Bool.or_eq_false_iff, decide_eq_false_iff_not] at h
    rw [withL, if_neg h.1, with_none (l := l) h.2]; rfl
theorem with_put {c x : Cell} : ∀ {l : List Cell}, putB c l = true → withL c (l ++ [x]) = withL c l ++ [x]
  | [], h => by simp [putB] at h
  | y :: l, h => by
    rw [List.cons_append, withL, withL]
    by_cases hy : c.cmp y < 0
    · rw [if_pos hy, if_pos hy]; rfl
    · rw [if_neg hy, if_neg hy]
      have h2 : putB c l = true := by simpa [putB, hy] using h
      rw [with_put h2]; rfl
theorem with_now {c x : Cell} (hx : c.cmp x < 0) : ∀ {l : List Cell}, putB c l = false → withL c (l ++ [x]) = l ++ [c] ++ [x]
  | [], _ => by simp [withL, hx]
  | y :: l, h => by
    simp only [putB, List.any_cons, Bool.or_eq_false_iff, decide_eq_false_iff_not] at h
    rw [List.cons_append, withL, if_neg h.1, with_now hx (l := l) h.2]; rfl
theorem putB_snoc (c x : Cell) (l : List Cell) : putB c (l ++ [x]) = (putB c l || decide (c.cmp x < 0)) := by simp [putB]
/-- what lies there behind the first cells -/
def withK (c : Cell) (l : List Cell) : List Cell := if putB c l = true then withL c l else l
theorem withK_len (c : Cell) (l : List Cell) : (withK c l).length ≤ l.length + 1 := by
  have : ∀ l : List Cell, (withL c l).length = l.length + 1 := by
    intro l
    induction l with
    | nil => rfl
    | cons x l ih => rw [withL]; split <;> simp [ih]
  unfold withK
  split
  · rw [this]; exact Nat.le_refl _
  · omega
theorem withK_put {c x : Cell} {l : List Cell} (h : putB c l = true) : withK c (l ++ [x]) = withK c l ++ [x] := by
  unfold withK
  rw [putB_snoc, h, if_pos (by simp), if_pos rfl, with_put h]
theorem withK_now {c x : Cell} {l : List Cell} (h : putB c l = false) (hx : c.cmp x < 0) : withK c (l ++ [x]) = withK c l ++ [c] ++ [x] := by
  unfold withK
  rw [putB_snoc, h, if_pos (by simpa using hx), if_neg (by simp), with_now hx h]
theorem withK_not {c x : Cell} {l : List Cell} (h : putB c l = false) (hx : ¬ c.cmp x < 0) : withK c (l ++ [x]) = withK c l ++ [x] := by
  unfold withK
  rw [putB_snoc, h, if_neg (by simpa using hx), if_neg (by simp)]
theorem with_ins {c : Cell} : ∀ {l : List Cell}, hasB (cellTo c) l = false → withL c l = insAt l (posB (cellTo c) l) c
  | [], _ => rfl
  | x :: l, h => by
    by_cases hx : x.cmp c < 0
    · have hp : posB (cellTo c) (x :: l) = posB (cellTo c) l + 1 := by
        unfold posB
        rw [List.takeWhile_cons, if_pos (show decide (cellTo c x < 0) = true from decide_eq_true hx)]; rfl
      have hh : hasB (cellTo c) l = false := by
        unfold hasB at h ⊢
        rw [hp, List.getElem?_cons_succ] at h
        exact h
      have hn : ¬ c.cmp x < 0 := fun hc => by have := cmpL_anti.1 hc; unfold Cell.cmp at hx; omega
      rw [hp, withL, if_neg hn, with_ins hh]; rfl
    · have hp : posB (cellTo c) (x :: l) = 0 := by
        unfold posB
        rw [List.takeWhile_cons, if_neg (show ¬ decide (cellTo c x < 0) = true from fun h => hx (of_decide_eq_true h))]; rfl
      have h0 : x.cmp c ≠ 0 := by
        unfold hasB at h
        rw [hp] at h
        simpa [cellTo] using h
      have hn : c.cmp x < 0 := cmpL_anti.2 (show 0 < cmpL x.nums c.nums by unfold Cell.cmp at hx h0; omega)
      rw [hp, withL, if_pos hn]; rfl
theorem cell_cmp0 {x c : Cell} (h : x.cmp c = 0) : x = c := by
  have h1 := cmpL_eq.1 h
  obtain ⟨a1, a2, a3, a4, a5⟩ := x
  obtain ⟨b1, b2, b3, b4, b5⟩ := c
  simpa [Cell.nums] using h1
theorem has_mem {c : Cell} : ∀ {l : List Cell}, l.Pairwise (fun a b => a.cmp b < 0) → hasB (cellTo c) l = decide (c ∈ l)
  | [], _ => by simp [hasB]
  | x :: l, h => by
    have hc0 : c.cmp c = 0 := cmpL_eq.2 rfl
    obtain ⟨h1, h2⟩ := List.pairwise_cons.1 h
    by_cases hx : x.cmp c < 0
    · have hp : posB (cellTo c) (x :: l) = posB (cellTo c) l + 1 := by
        unfold posB
        rw [List.takeWhile_cons, if_pos (show decide (cellTo c x < 0) = true from decide_eq_true hx)]; rfl
      have hh : hasB (cellTo c) (x :: l) = hasB (cellTo c) l := by
        unfold hasB
        rw [hp, List.getElem?_cons_succ]
      have hne : c ≠ x := by rintro rfl; omega
      rw [hh, has_mem h2]
      simp [hne]
    · have hp : posB (cellTo c) (x :: l) = 0 := by
        unfold posB
        rw [List.takeWhile_cons, if_neg (show ¬ decide (cellTo c x < 0) = true from fun h => hx (of_decide_eq_true h))]; rfl
      have hh : hasB (cellTo c) (x :: l) = (x.cmp c == 0) := by
        unfold hasB
        rw [hp]; rfl
      rw [hh, Bool.eq_iff_iff]
      simp only [beq_iff_eq, decide_eq_true_eq, List.mem_cons]
      constructor
      · intro h; exact .inl (cell_cmp0 h).symm
      · rintro (rfl | hm)
        · exact hc0
        · exact absurd (h1 c hm) hx
theorem del_filter {c : Cell} : ∀ {l : List Cell}, l.Pairwise (fun a b => a.cmp b < 0) → hasB (cellTo c) l = true → delAt l (posB (cellTo c) l) = l.filter fun x => decide (x ≠ c)
  | [], _, h => by simp [hasB] at h
  | x :: l, hs, h => by
    have hc0 : c.cmp c = 0 := cmpL_eq.2 rfl
    obtain ⟨h1, h2⟩ := List.pairwise_cons.1 hs
    by_cases hx : x.cmp c < 0
    · have hp : posB (cellTo c) (x :: l) = posB (cellTo c) l + 1 := by
        unfold posB
        rw [List.takeWhile_cons, if_pos (show decide (cellTo c x < 0) = true from decide_eq_true hx)]; rfl
      have hh : hasB (cellTo c) l = true := by
        unfold hasB at h ⊢
        rw [hp, List.getElem?_cons_succ] at h
        exact h
      have hne : x ≠ c := by rintro rfl; omega
      rw [hp, List.filter_cons, if_pos (by simpa using hne), ← del_filter h2 hh]
      simp [delAt]
    · have hp : posB (cellTo c) (x :: l) = 0 := by
        unfold posB
        rw [List.takeWhile_cons, if_neg (show ¬ decide (cellTo c x < 0) = true from fun h => hx (of_decide_eq_true h))]; rfl
      have hxc : x = c := by
        unfold hasB at h
        rw [hp] at h
        exact cell_cmp0 (by simpa [cellTo] using h)
      subst hxc
      rw [hp, List.filter_cons, if_neg (by simp)]
      have : (l.filter fun y => decide (y ≠ x)) = l := List.filter_eq_self.2 fun y hy => by
        have := h1 y hy
        have : y ≠ x := by rintro rfl; omega
        simpa using this
      rw [this]; simp [delAt]
theorem sorted_pw {s : Sched} (h : formB s = true) : s.cells.Pairwise fun a b => a.cmp b < 0 :=
  List.pairwise_iff_getElem.2 fun i j hi hj hij => formB_sorted h i j _ _ hij (List.getElem?_eq_getElem hi) (List.getElem?_eq_getElem hj)
end HM
namespace HM
open Go Go.RowKit
def cellEqB (a b : Cell) : Bool := a.slot == b.slot && (a.off == b.off && (a.src == b.src && (a.dst == b.dst && (a.flow == b.flow && true))))
theorem cellEqB_iff {a b : Cell} : cellEqB a b = true ↔ a = b := by
  obtain ⟨c1, c2, c3, c4, c5⟩ := a
  obtain ⟨d1, d2, d3, d4, d5⟩ := b
  simp [cellEqB]
theorem addM_with {s : Sched} {c : Cell} (h : formB s = true) (h2 : hasC s c = false) : insAt s.cells (posC s c) c = withL c s.cells := (with_ins h2).symm
theorem remM_filter {s : Sched} {c : Cell} (h : formB s = true) (h2 : hasC s c = true) : delAt s.cells (posC s c) = s.cells.filter fun x => decide (x ≠ c) := del_filter (sorted_pw h) h2
theorem hasC_mem {s : Sched} {c : Cell} (h : formB s = true) : hasC s c = decide (c ∈ s.cells) := has_mem (sorted_pw h)
theorem filter_hit {c : Cell} {l : List Cell} {k : Nat} {x : Cell} (h : l[k]? = some x) (hx : x ≠ c) : (l.take (k + 1)).filter (fun x => decide (x ≠ c)) = (l.take k).filter (fun x => decide (x ≠ c)) ++ [x] := by
  rw [take_succ h, List.filter_append, List.filter_cons, if_pos (by simpa using hx)]; rfl
theorem filter_miss {c : Cell} {l : List Cell} {k : Nat} {x : Cell} (h : l[k]? = some x) (hx : x = c) : (l.take (k + 1)).filter (fun x => decide (x ≠ c)) = (l.take k).filter (fun x => decide (x ≠ c)) := by
  rw [take_succ h, List.filter_append, List.filter_cons, if_neg (by simpa using hx)]; simp
/-- what the reference's Apply returns -/
def applyM (s : Sched) (cs : List Chg) (t : Int) : Sched × Int := if 1024 < cs.length then (s, 8) else appM none s s cs t
structure AppI (s : Sched) (cs : List Chg) (t : Int) (k : Nat) (u o : Sched) : Prop where
  le : k ≤ cs.length
  eq : appM none s s cs t = appM (prevS cs k) u o (cs.drop k) t
theorem AppI.zero (s : Sched) (cs : List Chg) (t : Int) : AppI s cs t 0 s s := ⟨Nat.zero_le _, rfl⟩
theorem AppI.err1 {s u o : Sched} {cs : List Chg} {t : Int} {k : Nat} (h : AppI s cs t k u o) {c : Chg} (hc : cs[k]? = some c) {e : Int} (he : chgE (prevS cs k) c = e) (h0 : e ≠ 0) : appM none s s cs t = (o, e) := by
  rw [h.eq, dropGet hc, appM, if_pos (by rw [he]; exact h0), he]
theorem AppI.err2 {s u o : Sched} {cs : List Chg} {t : Int} {k : Nat} (h : AppI s cs t k u o) {c : Chg} (hc : cs[k]? = some c) (he : chgE (prevS cs k) c = 0) (h2 : (chgM u c).2 ≠ 0) : appM none s s cs t = (o, (chgM u c).2) := by
  rw [h.eq, dropGet hc, appM, if_neg (by simp [he]), if_pos h2]
theorem AppI.step {s u o : Sched} {cs : List Chg} {t : Int} {k : Nat} (h : AppI s cs t k u o) {c : Chg} (hc : cs[k]? = some c) (he : chgE (prevS cs k) c = 0) (h2 : (chgM u c).2 = 0) : AppI s cs t (k + 1) (chgM u c).1 (if c.slot ≤ t then (chgM u c).1 else o) := by
  refine ⟨(List.getElem?_eq_some_iff.1 hc).1, ?_⟩
  have hp : prevS cs (k + 1) = some c.slot := by simp [prevS, hc]
  rw [h.eq, dropGet hc, appM, if_neg (by simp [he]), if_neg (fun hh => hh h2), hp]
theorem AppI.fin {s u o : Sched} {cs : List Chg} {t : Int} (h : AppI s cs t cs.length u o) : appM none s s cs t = (o, 0) := by
  rw [h.eq, List.drop_length]; rfl
end HM

/- Looking through attempts and rules one by one. -/
namespace HM
open Go Go.RowKit

theorem any_at {α : Type} {p : α → Bool} {l : List α} {k : Nat} {a : α} (h : l[k]? = some a) (ha : p a = true) : l.any p = true := by
  rw [List.any_eq_true]; exact ⟨a, List.mem_of_getElem? h, ha⟩
theorem any_no {α : Type} {p : α → Bool} {l : List α} (h : ∀ (j : Nat) a, l[j]? = some a → p a = false) : l.any p = false := by
  rw [List.any_eq_false]
  intro a ha
  obtain ⟨j, hj⟩ := List.getElem?_of_mem ha
  simp [h j a hj]
theorem inv_snoc {α : Type} {p : α → Bool} {l : List α} {k : Nat} {a : α} (h : ∀ (j : Nat) y, j < k → l[j]? = some y → p y = false) (hk : l[k]? = some a) (ha : p a = false) : ∀ (j : Nat) y, j < k + 1 → l[j]? = some y → p y = false := by
  intro j y hj hy
  rcases Nat.lt_succ_iff_lt_or_eq.1 hj with hl | rfl
  · exact h j y hl hy
  · rw [hk] at hy; injection hy with hy; rw [← hy]; exact ha
theorem count_hit {α : Type} {p : α → Bool} {l : List α} {k : Nat} {a : α} (h : l[k]? = some a) (ha : p a = true) : (l.take (k + 1)).countP p = (l.take k).countP p + 1 := by
  rw [take_succ h, List.countP_append]; simp [ha]
theorem count_miss {α : Type} {p : α → Bool} {l : List α} {k : Nat} {a : α} (h : l[k]? = some a) (ha : p a = false) : (l.take (k + 1)).countP p = (l.take k).countP p := by
  rw [take_succ h, List.countP_append]; simp [ha]
/-- the rule that the reference takes -/
def takesR (flow frame src dst : Int) (k : Nat) (r : Rule) : Bool := isFor flow frame src dst r && decide (k < r.outs.length)
theorem rule_uniq {x : List Rule} (h : (scriptM x).2 = 0) {flow frame src dst : Int} {i j : Nat} {r y : Rule} (hr : x[i]? = some r) (hi : isFor flow frame src dst r = true) (hj : j < i) (hy : x[j]? = some y) : isFor flow frame src dst y = false := by
  cases hb : isFor flow frame src dst y with
  | false => rfl
  | true =>
    exfalso
    have hlt := script_sorted h j i y r hj hy hr
    have hkey : y.key = r.key := by
      simp only [isFor, Bool.and_eq_true, beq_iff_eq] at hi hb
      simp [Rule.key, hi, hb]
    have : y.cmp r = 0 := cmpL_eq.2 hkey
    omega
theorem takes_some {x : List Rule} (h : (scriptM x).2 = 0) {flow frame src dst : Int} {k i : Nat} {r : Rule} (hr : x[i]? = some r) (ht : takesR flow frame src dst k r = true) {o : Int} (ho : r.outs[k]? = some o) : outcomeM x flow frame src dst k = o := by
  simp only [takesR, Bool.and_eq_true] at ht
  have : x.find? (isFor flow frame src dst) = some r := find_hit (fun j y hj hy => rule_uniq h hr ht.1 hj hy) hr ht.1
  rw [outcomeM_eq, this]
  simp only [ho]
  rfl
theorem takes_none {x : List Rule} {flow frame src dst : Int} {k : Nat} (hn : ∀ (j : Nat) r, x[j]? = some r → takesR flow frame src dst k r = false) : outcomeM x flow frame src dst k = 1 := by
  rw [outcomeM_eq]
  cases hf : x.find? (isFor flow frame src dst) with
  | none => rfl
  | some r =>
    obtain ⟨j, hj⟩ := List.getElem?_of_mem (List.mem_of_find?_eq_some hf)
    have h1 := List.find?_some hf
    have h2 := hn j r hj
    rw [takesR, h1] at h2
    have : ¬ k < r.outs.length := by simpa using h2
    simp only
    rw [List.getElem?_eq_none (by omega)]; rfl
end HM

/- Deliveries put in, from the end; attempts of the reference. -/
namespace HM
open Go Go.RowKit

theorem dropWhile_at {α : Type} {p : α → Bool} : ∀ {l : List α} {k : Nat}, (∀ (j : Nat) a, j < k → l[j]? = some a → p a = true) → k ≤ l.length → (∀ a, l[k]? = some a → p a = false) → l.dropWhile p = l.drop k ∧ l.takeWhile p = l.take k
  | [], k, _, hk, _ => by simp
  | x :: l, 0, _, _, h => by
    have := h x rfl
    rw [List.dropWhile_cons, List.takeWhile_cons, this]
    simp
  | x :: l, k + 1, h1, hk, h2 => by
    have hx := h1 0 x (by omega) rfl
    obtain ⟨e1, e2⟩ := dropWhile_at (l := l) (k := k) (fun j a hj ha => h1 (j + 1) a (by omega) (by simpa using ha)) (by simpa using hk) (fun a ha => h2 a (by simpa using ha))
    rw [List.dropWhile_cons, List.takeWhile_cons, hx]
    simp [e1, e2]
/-- the place that the reference finds -/
theorem insD_at {d : Del} {ds : List Del} {n : Nat} (hn : n ≤ ds.length) (h1 : ∀ (j : Nat) e, n ≤ j → ds[j]? = some e → laterD d e = true) (h2 : ∀ e, 0 < n → ds[n - 1]? = some e → laterD d e = false) : insD d ds = ds.take n ++ d :: ds.drop n := by
  have hr : ∀ (j : Nat), j < ds.length → ds.reverse[j]? = ds[ds.length - 1 - j]? := fun j hj => by rw [List.getElem?_reverse hj]
  obtain ⟨e1, e2⟩ := dropWhile_at (p := laterD d) (l := ds.reverse) (k := ds.length - n) (fun j a hj ha => by
    rw [hr j (by omega)] at ha
    exact h1 _ a (by omega) ha) (by simp) (fun a ha => by
    have hlt := (List.getElem?_eq_some_iff.1 ha).1
    rw [List.length_reverse] at hlt
    rw [hr _ hlt] at ha
    exact h2 a (by omega) (by rw [← ha]; congr 1; omega))
  unfold insD
  rw [e1, e2]
  have e3 : (ds.reverse.drop (ds.length - n)).reverse = ds.take n := by
    rw [List.drop_reverse, List.reverse_reverse, show ds.length - (ds.length - n) = n from by omega]
  have e4 : (ds.reverse.take (ds.length - n)).reverse = ds.drop n := by
    rw [List.take_reverse, List.reverse_reverse, show ds.length - (ds.length - n) = n from by omega]
  rw [e3, e4]
theorem slotR_fold (l : List Flow) (s : Sched) (x : List Rule) (r : RunL) {t : Int} (hs : formB s = true) (ht : 0 ≤ t) : slotR l s x r t = (s.cells.filter fun c => c.slot == t % s.len).foldl (attemptR l x t) r := by
  unfold slotR atM
  rw [if_neg (by simp [hs]; omega)]
theorem fold_hit {α β : Type} {f : β → α → β} {p : α → Bool} {l : List α} {k : Nat} {a : α} {r : β} (h : l[k]? = some a) (ha : p a = true) : ((l.take (k + 1)).filter p).foldl f r = f (((l.take k).filter p).foldl f r) a := by
  rw [take_succ h, List.filter_append, List.foldl_append, List.filter_cons, if_pos ha]; rfl
theorem fold_miss {α β : Type} {f : β → α → β} {p : α → Bool} {l : List α} {k : Nat} {a : α} {r : β} (h : l[k]? = some a) (ha : p a = false) : ((l.take (k + 1)).filter p).foldl f r = ((l.take k).filter p).foldl f r := by
  rw [take_succ h, List.filter_append, List.foldl_append, List.filter_cons, if_neg (by simp [ha])]; rfl
end HM

/- How long the reference's runs are. -/
namespace HM
open Go Go.RowKit

theorem attemptR_len (l : List Flow) (x : List Rule) (t : Int) (r : RunL) (c : Cell) : (attemptR l x t r c).atts.length ≤ r.atts.length + 1 ∧ (attemptR l x t r c).dels.length ≤ r.dels.length + 1 := by
  unfold attemptR
  split
  · omega
  split
  · split
    · omega
    · refine ⟨by simp, ?_⟩
      simp only
      split
      · rw [(insD_perm _ _).length_eq]; simp
      · omega
  · omega
theorem foldR_len (l : List Flow) (x : List Rule) (t : Int) : ∀ (cs : List Cell) (r : RunL), (cs.foldl (attemptR l x t) r).atts.length ≤ r.atts.length + cs.length ∧ (cs.foldl (attemptR l x t) r).dels.length ≤ r.dels.length + cs.length
  | [], r => by simp
  | c :: cs, r => by
    have h1 := attemptR_len l x t r c
    have h2 := foldR_len l x t cs (attemptR l x t r c)
    rw [List.foldl_cons, List.length_cons]
    omega
theorem playR_len (l : List Flow) (sc : Nat → Sched) (x : List Rule) {m : Nat} (hm : ∀ i, (sc i).cells.length ≤ m) : ∀ n, (playR l sc x n).atts.length ≤ n * m ∧ (playR l sc x n).dels.length ≤ n * m
  | 0 => by simp [playR]
  | n + 1 => by
    obtain ⟨h1, h2⟩ := playR_len l sc x hm n
    have h3 := foldR_len l x n (atM (sc n) (n : Nat)) (playR l sc x n)
    have h4 := at_len (sc n) (n : Nat)
    have h5 := hm n
    have e : (n + 1) * m = n * m + m := Nat.succ_mul n m
    show (slotR l (sc n) x (playR l sc x n) (n : Nat)).atts.length ≤ _ ∧ (slotR l (sc n) x (playR l sc x n) (n : Nat)).dels.length ≤ _
    unfold slotR
    omega
end HM
namespace HM
theorem change_app {l : List Flow} {s : Sched} {cs : List Chg} {x : List Rule} {slots : Int} (h : readyM l s x slots = 0) : changeM l s cs x slots = if (applyM s cs 0).2 ≠ 0 then (⟨[], []⟩, (applyM s cs 0).2) else (⟨(playR l (fun n => nowM s cs n) x slots.toNat).atts, (playR l (fun n => nowM s cs n) x slots.toNat).dels⟩, 0) := by
  unfold changeM applyM
  rw [if_neg (by simp [h])]
  by_cases h1 : 1024 < cs.length
  · rw [if_pos h1, if_pos h1, if_pos (show (8 : Int) ≠ 0 by decide)]
  · rw [if_neg h1, if_neg h1, app_err]
theorem apply_now {s : Sched} {cs : List Chg} (h : (applyM s cs 0).2 = 0) (t : Int) : applyM s cs t = (nowM s cs t, 0) := by
  unfold applyM at h ⊢
  by_cases h1 : 1024 < cs.length
  · rw [if_pos h1] at h; cases h
  · rw [if_neg h1] at h ⊢
    rw [app_err] at h
    have e1 := app_now (s := s) (cs := cs) t h
    have e2 := app_err none s s cs t
    rw [h] at e2
    rw [← e1, ← e2]
end HM
