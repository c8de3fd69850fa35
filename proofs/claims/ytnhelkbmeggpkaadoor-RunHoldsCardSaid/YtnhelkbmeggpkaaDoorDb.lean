/- Runs and changes in plain words. -/
import Derived.Test.YtnhelkbmeggpkaaDoorDa
import Derived.Test.YtnhelkbmeggpkaaDoorFh
/- What the laws on runs ask of a run. -/
namespace HM
open Go Go.RowKit

theorem ready_all {l : List Flow} {s : Sched} {x : List Rule} {slots : Int} (h : readyM l s x slots = 0) : (flowsE 32 l).2 = 0 ∧ formB s = true ∧ (scriptM x).2 = 0 ∧ 0 ≤ slots ∧ slots ≤ 4096 := by
  unfold readyM at h
  split at h
  · cases h
  rename_i hn
  split at h
  · cases h
  rename_i hn2
  refine ⟨?_, ?_, ?_, by omega, by omega⟩
  · exact Classical.byContradiction fun hh => hn (.inl hh)
  · cases hf : formB s with
    | true => rfl
    | false => exact absurd (.inr (.inl hf)) hn
  · exact Classical.byContradiction fun hh => hn (.inr (.inr hh))
theorem playM_R {l : List Flow} {s : Sched} {x : List Rule} {slots : Int} (h : readyM l s x slots = 0) : playM l s x slots = (⟨(playR l (fun _ => s) x slots.toNat).atts, (playR l (fun _ => s) x slots.toNat).dels⟩, 0) := by
  obtain ⟨h1, h2, h3, h4, h5⟩ := ready_all h
  have hs := playV_R (flowsOk_of h1) (fun _ => s) x slots.toNat (by omega)
  rw [playV_S] at hs
  rw [playM, if_neg (by simp [h]), ← hs.at_, ← hs.dl]
theorem playM_bad {l : List Flow} {s : Sched} {x : List Rule} {slots : Int} (h : readyM l s x slots ≠ 0) : playM l s x slots = (⟨[], []⟩, readyM l s x slots) := by rw [playM, if_pos h]

/-- what the first attempts tell: who has it, where it is acknowledged -/
def hasK (f : Flow) (R : List Att) (c : Cell) (fr t : Int) (k : Nat) : Bool := c.src == f.src || (R.take k).any fun a => gotA c.flow fr c.src a && decide (a.slot < t)
def doneK (R : List Att) (c : Cell) (fr t : Int) (k : Nat) : Bool := (R.take k).any fun a => onA c fr a && decide (a.slot < t) && a.out == 1
def lookA (c : Cell) (fr t : Int) (a : Att) : Bool := decide (a.slot < t) && a.frame == fr && a.cell.flow == c.flow
theorem hasK_zero (f : Flow) (R : List Att) (c : Cell) (fr t : Int) : hasK f R c fr t 0 = (c.src == f.src) := by simp [hasK]
theorem doneK_zero (R : List Att) (c : Cell) (fr t : Int) : doneK R c fr t 0 = false := rfl
theorem hasK_step {f : Flow} {R : List Att} {c : Cell} {fr t : Int} {k : Nat} {a : Att} (h : R[k]? = some a) : hasK f R c fr t (k + 1) = (hasK f R c fr t k || (lookA c fr t a && (a.cell.dst == c.src && a.out != 3))) := by
  unfold hasK
  rw [take_succ h, List.any_append]
  have : ([a].any fun a => gotA c.flow fr c.src a && decide (a.slot < t)) = (lookA c fr t a && (a.cell.dst == c.src && a.out != 3)) := by
    rw [Bool.eq_iff_iff]
    simp only [List.any_cons, List.any_nil, Bool.or_false, gotA, lookA, Bool.and_eq_true]
    constructor
    · rintro ⟨⟨⟨⟨h1, h2⟩, h3⟩, h4⟩, h5⟩; exact ⟨⟨⟨h5, h2⟩, h1⟩, h3, h4⟩
    · rintro ⟨⟨⟨h5, h2⟩, h1⟩, h3, h4⟩; exact ⟨⟨⟨⟨h1, h2⟩, h3⟩, h4⟩, h5⟩
  rw [this, Bool.or_assoc]
theorem doneK_step {R : List Att} {c : Cell} {fr t : Int} {k : Nat} {a : Att} (h : R[k]? = some a) : doneK R c fr t (k + 1) = (doneK R c fr t k || (lookA c fr t a && (a.cell.src == c.src && a.cell.dst == c.dst && a.out == 1))) := by
  unfold doneK
  rw [take_succ h, List.any_append]
  have : ([a].any fun a => onA c fr a && decide (a.slot < t) && a.out == 1) = (lookA c fr t a && (a.cell.src == c.src && a.cell.dst == c.dst && a.out == 1)) := by
    rw [Bool.eq_iff_iff]
    simp only [List.any_cons, List.any_nil, Bool.or_false, onA, lookA, Bool.and_eq_true]
    constructor
    · rintro ⟨⟨⟨⟨⟨h1, h2⟩, h3⟩, h4⟩, h5⟩, h6⟩; exact ⟨⟨⟨h5, h2⟩, h1⟩, ⟨h3, h4⟩, h6⟩
    · rintro ⟨⟨⟨h5, h2⟩, h1⟩, ⟨h3, h4⟩, h6⟩; exact ⟨⟨⟨⟨⟨h1, h2⟩, h3⟩, h4⟩, h5⟩, h6⟩
  rw [this]
theorem genB_K {l : List Flow} {R : List Att} {t : Int} {c : Cell} {i : Nat} {f : Flow} (hi : findF l c.flow = (i : Int)) (hf : l[i]? = some f) (hid : f.id = c.flow) :
    genB l R t c = if (curM f t).2 = false ∨ c.src = f.dst ∨ hasK f R c (curM f t).1 t R.length = false ∨ doneK R c (curM f t).1 t R.length = true then none else some (t, (curM f t).1, c) := by
  unfold genB hasK doneK holdsR ackedR
  rw [if_neg (by omega), hi, Int.toNat_natCast, hf, List.take_length]
  simp only [hid]
/-- a schedule with a cell more -/
theorem insAt_sub {α : Type} (l : List α) (p : Nat) (x : α) : l.Sublist (insAt l p x) := by
  unfold insAt
  have h := List.Sublist.append (List.Sublist.refl (l.take p)) (List.sublist_cons_self x (l.drop p))
  rwa [List.take_append_drop] at h
theorem at_more {s t : Sched} {c : Cell} (h : addM s c = (t, 0)) (ht : formB t = true) (n : Int) : (atM s n).Sublist (atM t n) := by
  obtain ⟨h1, _, _, _, rfl⟩ := addM_ok h
  unfold atM
  by_cases hn : n < 0
  · rw [if_pos (.inr hn), if_pos (.inr hn)]
    exact .refl _
  rw [if_neg (by simp [h1, hn]), if_neg (by simp [ht, hn])]
  exact (insAt_sub s.cells (posC s c) c).filter _
end HM

/- A store with a player: what lies where. -/
namespace HM
open Go Go.RowKit

def mpv (p : PS) (id : Nat) : AV := if p.frame < 0 then .nilm else .mp id
def mapsOf (p : PS) : Nat → Ob
  | 0 => p.since.ob none
  | 1 => p.tries.ob (some 2)
  | _ => p.acked.ob (some 2)
def stAV (g : Nat → Nat) (p : PS) : AV := .agg [.int .i64 p.frame, mpv p (g 0), mpv p (g 1), mpv p (g 2), .bool p.done]
def statesE (g : Nat → Nat → Nat) (q : List PS) : List AV := q.mapIdx fun i p => stAV (g i) p
theorem statesE_get {g : Nat → Nat → Nat} {q : List PS} {i : Nat} {p : PS} (h : q[i]? = some p) : (statesE g q)[i]? = some (stAV (g i) p) := by simp [statesE, h]
theorem statesE_len (g : Nat → Nat → Nat) (q : List PS) : (statesE g q).length = q.length := by simp [statesE]
theorem statesE_set (g : Nat → Nat → Nat) (q : List PS) (i : Nat) (p : PS) : (statesE g q).set i (stAV (g i) p) = statesE g (q.set i p) := by
  apply List.ext_getElem?
  intro j
  simp only [statesE, List.getElem?_set, List.getElem?_mapIdx, List.length_mapIdx]
  by_cases e : i = j
  · subst e; simp only [if_true]
    split <;> simp_all
  · simp [e]
theorem statesE_wide (g : Nat → Nat → Nat) (q : List PS) : Wide 5 (statesE g q) := by
  intro e he
  obtain ⟨i, hi⟩ := List.getElem?_of_mem he
  simp only [statesE, List.getElem?_mapIdx, Option.map_eq_some_iff] at hi
  obtain ⟨p, _, rfl⟩ := hi
  rfl
theorem statesE_congr {g g' : Nat → Nat → Nat} {q : List PS} (h : ∀ (i : Nat) (p : PS), q[i]? = some p → 0 ≤ p.frame → ∀ j, j < 3 → g i j = g' i j) : statesE g q = statesE g' q := by
  apply List.ext_getElem?
  intro i
  simp only [statesE, List.getElem?_mapIdx]
  cases hq : q[i]? with
  | none => rfl
  | some p =>
    simp only [Option.map_some, Option.some.injEq, stAV, AV.agg.injEq, List.cons.injEq, true_and, and_true]
    by_cases h0 : p.frame < 0
    · simp [mpv, h0]
    · have hh := h i p hq (by omega)
      simp [mpv, h0, hh 0 (by omega), hh 1 (by omega), hh 2 (by omega)]

def plC (l : List Flow) (s : Sched) (x : List Rule) (sv av dv : AV) : List AV := [encFlows l, .int .i64 s.len, .int .i64 s.offs, encCells s.cells, encScript x, sv, av, dv]

/-- the types of a player, of a state, of a delivery -/
structure PTys where
  p : TypeId
  q : TypeId
  d : TypeId
  a : TypeId
  hpq : p ≠ q
  hpd : p ≠ d
  hqd : q ≠ d
  ks : List (Nat × List AV × TypeId)
  hk : ∀ e ∈ ks, e.2.2 ≠ p ∧ e.2.2 ≠ q ∧ e.2.2 ≠ d

def StV (T : PTys) (S : St) (sv : AV) (g : Nat → Nat → Nat) (sts : List PS) : Prop := (sts = [] ∧ sv = .grown .nils 0) ∨ ∃ qb ex, sv = .vsl qb 0 sts.length 5 ∧ S.bx[qb]? = some (.cells (flatE (statesE g sts) ++ ex) T.q)
def DelV (T : PTys) (S : St) (dv : AV) (ds : List Del) : Prop := (ds = [] ∧ dv = .grown .nils 0) ∨ ∃ db ex, dv = .vsl db 0 ds.length 3 ∧ S.bx[db]? = some (.cells (flatE (ds.map Del.av) ++ ex) T.d)

/-- what is known of a store with a player -/
structure PInv (T : PTys) (S : St) (pb ch : Nat) (l : List Flow) (s : Sched) (x : List Rule) (Q : PL) (g : Nat → Nat → Nat) (sv dv : AV) : Prop where
  p : S.bx[pb]? = some (.cells (plC l s x sv (.own (Q.atts.map Att.av) ch) dv) T.p)
  q : StV T S sv g Q.sts
  m : ∀ (i : Nat) (p : PS), Q.sts[i]? = some p → 0 ≤ p.frame → ∀ j, j < 3 → S.bx[g i j]? = some (mapsOf p j)
  inj : ∀ (i : Nat) (p : PS) (i' : Nat) (p' : PS), Q.sts[i]? = some p → Q.sts[i']? = some p' → 0 ≤ p.frame → 0 ≤ p'.frame → ∀ j j', j < 3 → j' < 3 → g i j = g i' j' → i = i' ∧ j = j'
  a : S.fr[ch]? = some (Q.atts.length, 8)
  ty : S.ty ch = T.a
  k : ∀ e ∈ T.ks, S.bx[e.1]? = some (.cells e.2.1 e.2.2)
  d : DelV T S dv Q.dels
def PIn (T : PTys) (S : St) (pb ch : Nat) (l : List Flow) (s : Sched) (x : List Rule) (Q : PL) : Prop := ∃ g sv dv, PInv T S pb ch l s x Q g sv dv

theorem ne_cm {S : St} {a b : Nat} {cs : List AV} {t : TypeId} {sh : Option Nat} {ks : List (List Int)} {vs : List AV} (h : S.bx[a]? = some (.cells cs t)) (h' : S.bx[b]? = some (.map sh ks vs)) : a ≠ b := by
  rintro rfl
  rw [h] at h'
  injection h' with h'
  cases h'
theorem ne_cc {S : St} {a b : Nat} {cs cs' : List AV} {t t' : TypeId} (h : S.bx[a]? = some (.cells cs t)) (h' : S.bx[b]? = some (.cells cs' t')) (ht : t ≠ t') : a ≠ b := by
  rintro rfl
  rw [h] at h'
  injection h' with h'
  injection h' with _ h'
  exact ht h'
theorem mapsOf_map (p : PS) (j : Nat) : ∃ sh ks vs, mapsOf p j = .map sh ks vs := by
  unfold mapsOf
  split <;> exact ⟨_, _, _, rfl⟩
theorem ne_cM {S : St} {a b : Nat} {cs : List AV} {t : TypeId} {p : PS} {j : Nat} (h : S.bx[a]? = some (.cells cs t)) (h' : S.bx[b]? = some (mapsOf p j)) : a ≠ b := by
  obtain ⟨sh, ks, vs, e⟩ := mapsOf_map p j
  rw [e] at h'
  exact ne_cm h h'

section
variable {T : PTys} {S S' : St} {pb ch : Nat} {l : List Flow} {s : Sched} {x : List Rule} {Q : PL} {g : Nat → Nat → Nat} {sv dv : AV}

/-- other objects more -/
theorem PInv.more (h : PInv T S pb ch l s x Q g sv dv) (hx : ∀ (id : Nat) (o : Ob), S.bx[id]? = some o → S'.bx[id]? = some o) (hf : S'.fr[ch]? = S.fr[ch]?) (ht : S'.ty ch = S.ty ch) : PInv T S' pb ch l s x Q g sv dv := by
  refine ⟨hx _ _ h.p, ?_, fun i p hp h0 j hj => hx _ _ (h.m i p hp h0 j hj), h.inj, hf.trans h.a, ht.trans h.ty, fun e he => hx _ _ (h.k e he), ?_⟩
  · rcases h.q with hq | ⟨qb, ex, h1, h2⟩
    · exact .inl hq
    · exact .inr ⟨qb, ex, h1, hx _ _ h2⟩
  · rcases h.d with hq | ⟨qb, ex, h1, h2⟩
    · exact .inl hq
    · exact .inr ⟨qb, ex, h1, hx _ _ h2⟩
/-- a map of a state -/
theorem PInv.setM (h : PInv T S pb ch l s x Q g sv dv) {i : Nat} {p p' : PS} (hp : Q.sts[i]? = some p) (h0 : 0 ≤ p.frame) (hfr : p'.frame = p.frame) (hdn : p'.done = p.done) {j : Nat} (hj : j < 3) (ho : ∀ k, k < 3 → k ≠ j → mapsOf p' k = mapsOf p k) :
    PInv T (S.setB (g i j) (mapsOf p' j)) pb ch l s x ⟨Q.sts.set i p', Q.atts, Q.dels⟩ g sv dv := by
  have hm := h.m i p hp h0 j hj
  have hil := (List.getElem?_eq_some_iff.1 hp).1
  have est : statesE g (Q.sts.set i p') = statesE g Q.sts := by
    apply List.ext_getElem?
    intro k
    simp only [statesE, List.getElem?_mapIdx, List.getElem?_set]
    by_cases e : i = k
    · subst e
      have e2 : Q.sts[i]? = some Q.sts[i] := List.getElem?_eq_getElem hil
      rw [e2] at hp; injection hp with hp
      simp only [hil, if_true, Option.map_some, e2, hp]
      simp [stAV, mpv, hfr, hdn]
    · simp [e]
  have hlive : ∀ (k : Nat) (q : PS), (Q.sts.set i p')[k]? = some q → 0 ≤ q.frame → ∃ q0, Q.sts[k]? = some q0 ∧ 0 ≤ q0.frame ∧ (i ≠ k → q = q0) ∧ (i = k → q = p' ∧ q0 = p) := by
    intro k q hq hq0
    by_cases e : i = k
    · subst e
      rw [List.getElem?_set_self hil] at hq
      injection hq with hq
      exact ⟨p, hp, h0, fun hh => absurd rfl hh, fun _ => ⟨hq.symm, rfl⟩⟩
    · rw [List.getElem?_set_ne e] at hq
      exact ⟨q, hq, hq0, fun _ => rfl, fun hh => absurd hh e⟩
  refine ⟨by rw [St.setB_ne (ne_cM h.p hm).symm]; exact h.p, ?_, fun k q hq hq0 j' hj' => ?_, fun k q k' q' hq hq' hq0 hq0' j1 j2 hj1 hj2 he => ?_, h.a, h.ty, fun e he => by rw [St.setB_ne (ne_cM (h.k e he) hm).symm]; exact h.k e he, ?_⟩
  · rcases h.q with ⟨hq, _⟩ | ⟨qb, ex, h1, h2⟩
    · rw [hq] at hil; simp at hil
    · exact .inr ⟨qb, ex, by simpa using h1, by rw [St.setB_ne (ne_cM h2 hm).symm, est]; exact h2⟩
  · obtain ⟨q0, g1, g2, g3, g4⟩ := hlive k q hq hq0
    by_cases e : i = k
    · obtain ⟨rfl, rfl⟩ := g4 e
      subst e
      by_cases ej : j = j'
      · subst ej; exact St.setB_get hm
      · rw [St.setB_ne (fun hh => ej (h.inj _ _ _ _ hp hp h0 h0 j j' hj hj' hh).2), ho j' hj' (fun hh => ej hh.symm)]
        exact h.m i _ hp h0 j' hj'
    · obtain rfl := g3 e
      rw [St.setB_ne (fun hh => e (h.inj _ _ _ _ hp g1 h0 g2 j j' hj hj' hh).1)]
      exact h.m k _ g1 g2 j' hj'
  · obtain ⟨q0, g1, g2, _⟩ := hlive k q hq hq0
    obtain ⟨q0', g1', g2', _⟩ := hlive k' q' hq' hq0'
    exact h.inj _ _ _ _ g1 g1' g2 g2' j1 j2 hj1 hj2 he
  · rcases h.d with hq | ⟨db, ex, h1, h2⟩
    · exact .inl hq
    · exact .inr ⟨db, ex, h1, by rw [St.setB_ne (ne_cM h2 hm).symm]; exact h2⟩
/-- a state's cells are written; its maps are as they were -/
theorem PInv.setQ (h : PInv T S pb ch l s x Q g sv dv) {qb : Nat} {ex : List AV} (hsv : sv = .vsl qb 0 Q.sts.length 5) (hq : S.bx[qb]? = some (.cells (flatE (statesE g Q.sts) ++ ex) T.q)) {i : Nat} {p p' : PS} (hp : Q.sts[i]? = some p) (hfr : p'.frame = p.frame) (ho : ∀ k, k < 3 → mapsOf p' k = mapsOf p k) :
    PInv T (S.setB qb (.cells (flatE (statesE g (Q.sts.set i p')) ++ ex) T.q)) pb ch l s x ⟨Q.sts.set i p', Q.atts, Q.dels⟩ g sv dv := by
  have hil := (List.getElem?_eq_some_iff.1 hp).1
  have hlive : ∀ (k : Nat) (q : PS), (Q.sts.set i p')[k]? = some q → 0 ≤ q.frame → ∃ q0, Q.sts[k]? = some q0 ∧ 0 ≤ q0.frame ∧ ∀ j, j < 3 → mapsOf q j = mapsOf q0 j := by
    intro k q hq hq0
    by_cases e : i = k
    · subst e
      rw [List.getElem?_set_self hil] at hq
      injection hq with hq
      subst hq
      exact ⟨p, hp, by omega, ho⟩
    · rw [List.getElem?_set_ne e] at hq
      exact ⟨q, hq, hq0, fun _ _ => rfl⟩
  refine ⟨by rw [St.setB_ne (ne_cc h.p hq T.hpq).symm]; exact h.p, .inr ⟨qb, ex, by simpa using hsv, St.setB_get hq⟩, fun k q hq' hq0 j' hj' => ?_, fun k q k' q' hq hq' hq0 hq0' j1 j2 hj1 hj2 he => ?_, h.a, h.ty, fun e he => by rw [St.setB_ne (ne_cc hq (h.k e he) (T.hk e he).2.1.symm)]; exact h.k e he, ?_⟩
  · obtain ⟨q0, g1, g2, g3⟩ := hlive k q hq' hq0
    have := h.m k _ g1 g2 j' hj'
    rw [St.setB_ne (ne_cM hq this), g3 j' hj']
    exact this
  · obtain ⟨q0, g1, g2, _⟩ := hlive k q hq hq0
    obtain ⟨q0', g1', g2', _⟩ := hlive k' q' hq' hq0'
    exact h.inj _ _ _ _ g1 g1' g2 g2' j1 j2 hj1 hj2 he
  · rcases h.d with hd | ⟨db, ex2, h1, h2⟩
    · exact .inl hd
    · exact .inr ⟨db, ex2, h1, by rw [St.setB_ne (ne_cc hq h2 T.hqd)]; exact h2⟩
/-- the player's own cells are written -/
theorem PInv.setP (h : PInv T S pb ch l s x Q g sv dv) (s' : Sched) (ats : List Att) (hf : S'.fr[ch]? = some (ats.length, 8)) (ht : S'.ty ch = S.ty ch) (hb : S'.bx = S.bx) : PInv T (S'.setB pb (.cells (plC l s' x sv (.own (ats.map Att.av) ch) dv) T.p)) pb ch l s' x ⟨Q.sts, ats, Q.dels⟩ g sv dv := by
  have hp' : S'.bx[pb]? = some (.cells (plC l s x sv (.own (Q.atts.map Att.av) ch) dv) T.p) := by rw [hb]; exact h.p
  refine ⟨St.setB_get hp', ?_, fun k q hq hq0 j hj => ?_, h.inj, hf, ht.trans h.ty, fun e he => by rw [St.setB_ne (ne_cc h.p (h.k e he) (T.hk e he).1.symm), hb]; exact h.k e he, ?_⟩
  · rcases h.q with hq | ⟨qb, ex, h1, h2⟩
    · exact .inl hq
    · exact .inr ⟨qb, ex, h1, by rw [St.setB_ne (ne_cc h.p h2 T.hpq), hb]; exact h2⟩
  · have := h.m k q hq hq0 j hj
    rw [St.setB_ne (ne_cM h.p this), hb]
    exact this
  · rcases h.d with hq | ⟨qb, ex, h1, h2⟩
    · exact .inl hq
    · exact .inr ⟨qb, ex, h1, by rw [St.setB_ne (ne_cc h.p h2 T.hpd), hb]; exact h2⟩
/-- the deliveries are others -/
theorem PInv.setD (h : PInv T S pb ch l s x Q g sv dv) (ds : List Del) (dv' : AV) (hx : ∀ (id : Nat) (o : Ob), S.bx[id]? = some o → (∀ ex, dv ≠ .vsl id 0 Q.dels.length ex) → S'.bx[id]? = some o) (hf : S'.fr[ch]? = S.fr[ch]?) (ht : S'.ty ch = S.ty ch) (hd : DelV T (S'.setB pb (.cells (plC l s x sv (.own (Q.atts.map Att.av) ch) dv') T.p)) dv' ds) :
    PInv T (S'.setB pb (.cells (plC l s x sv (.own (Q.atts.map Att.av) ch) dv') T.p)) pb ch l s x ⟨Q.sts, Q.atts, ds⟩ g sv dv' := by
  have hne : ∀ id, (∀ cs, S.bx[id]? ≠ some (.cells cs T.d)) → ∀ ex, dv ≠ .vsl id 0 Q.dels.length ex := by
    intro id hid ex he
    rcases h.d with ⟨_, h2⟩ | ⟨db, ex2, h1, h2⟩
    · rw [h2] at he; cases he
    · rw [h1] at he
      injection he with he
      subst he
      exact hid _ h2
  have hp' := hx pb _ h.p (hne pb fun cs hc => by
    rw [h.p] at hc; injection hc with hc; injection hc with _ hc; exact T.hpd hc)
  refine ⟨St.setB_get hp', ?_, fun k q hq hq0 j hj => ?_, h.inj, by rw [St.setB_fr, hf]; exact h.a, ht.trans h.ty, fun e he => by
    rw [St.setB_ne (ne_cc h.p (h.k e he) (T.hk e he).1.symm)]
    refine hx _ _ (h.k e he) (hne _ fun cs hc => ?_)
    rw [h.k e he] at hc; injection hc with hc; injection hc with _ hc; exact (T.hk e he).2.2 hc, hd⟩
  · rcases h.q with hq | ⟨qb, ex, h1, h2⟩
    · exact .inl hq
    · refine .inr ⟨qb, ex, h1, ?_⟩
      rw [St.setB_ne (ne_cc h.p h2 T.hpq)]
      exact hx _ _ h2 (hne qb fun cs hc => by
        rw [h2] at hc; injection hc with hc; injection hc with _ hc; exact T.hqd hc)
  · have := h.m k q hq hq0 j hj
    rw [St.setB_ne (ne_cM h.p this)]
    refine hx _ _ this (hne _ fun cs hc => ?_)
    obtain ⟨sh, ks, vs, e⟩ := mapsOf_map q j
    rw [this, e] at hc
    injection hc with hc
    cases hc
end
theorem St.addF_fr {S : St} {ch : Nat} {y y' : Nat × Nat} {e : TypeId} (h : S.fr[ch]? = some y') : (S.addF y e).fr[ch]? = some y' := by
  unfold St.addF
  rw [List.getElem?_append_left (List.getElem?_eq_some_iff.1 h).1]; exact h
theorem St.addF_ty {S : St} {ch : Nat} {y y' : Nat × Nat} {e : TypeId} (h : S.fr[ch]? = some y') : (S.addF y e).ty ch = S.ty ch := by
  have := (List.getElem?_eq_some_iff.1 h).1
  simp only [St.addF, updT]
  rw [if_neg (by omega)]
theorem setB_setB (S : St) (id : Nat) (o o' : Ob) : (S.setB id o).setB id o' = S.setB id o' := by simp [St.setB]
theorem St.setF_bx (S : St) (ch : Nat) (y : Nat × Nat) : (S.setF ch y).bx = S.bx := rfl
theorem St.setF_fr {S : St} {ch : Nat} {y y' : Nat × Nat} (h : S.fr[ch]? = some y') : (S.setF ch y).fr[ch]? = some y := by
  unfold St.setF
  have := (List.getElem?_eq_some_iff.1 h).1
  simp [this]
end HM

/- A store with a player: a delivery is noted. -/
namespace HM
open Go Go.RowKit

theorem delWide (ds : List Del) : Wide 3 (ds.map Del.av) := by
  intro e he
  obtain ⟨d, _, rfl⟩ := List.mem_map.1 he
  rfl
section
variable {T : PTys} {S : St} {pb ch : Nat} {l : List Flow} {s : Sched} {x : List Rule} {Q : PL} {g : Nat → Nat → Nat} {sv dv : AV}
theorem PInv.delNew (h : PInv T S pb ch l s x Q g sv dv) (hq : Q.dels = []) (d : Del) (z : AV) (hz : z = d.av) (y1 : Nat × Nat) (e : TypeId) (k : Nat) (n m : Nat) (hn : n = S.bx.length) (hm : m = 1) :
    PInv T (((S.addF y1 e).addB (.cells (flatE [z] ++ List.replicate k .undef) T.d)).setB pb (.cells (plC l s x sv (.own (Q.atts.map Att.av) ch) (.vsl n 0 m 3)) T.p)) pb ch l s x ⟨Q.sts, Q.atts, Q.dels ++ [d]⟩ g sv (.vsl n 0 m 3) := by
  subst hz; subst hn; subst hm
  have hf := h.a
  have hne : S.bx.length ≠ pb := by have := (List.getElem?_eq_some_iff.1 h.p).1; omega
  refine h.setD _ _ (fun id o ho _ => ?_) ?_ ?_ (.inr ⟨S.bx.length, List.replicate k .undef, by rw [hq]; rfl, ?_⟩)
  · exact St.addB_old (S := S.addF y1 e) ho
  · rw [St.addB_fr]; exact (St.addF_fr hf).trans hf.symm
  · exact St.addF_ty (y := y1) hf
  · rw [St.setB_ne hne.symm, hq]
    exact St.addB_get (S.addF y1 e) _
theorem PInv.delRoom (h : PInv T S pb ch l s x Q g sv dv) {db : Nat} {ex : List AV} (hdv : dv = .vsl db 0 Q.dels.length 3) (hdb : S.bx[db]? = some (.cells (flatE (Q.dels.map Del.av) ++ ex) T.d)) (d : Del) (z : AV) (hz : z = d.av) (y1 : Nat × Nat) (e : TypeId)
    (hr : (Q.dels.length + 1) * 3 ≤ (flatE (Q.dels.map Del.av) ++ ex).length) :
    PInv T (((S.addF y1 e).setB db (.cells (splice (flatE (Q.dels.map Del.av) ++ ex) (Q.dels.length * 3) (flatE [z])) T.d)).setB pb (.cells (plC l s x sv (.own (Q.atts.map Att.av) ch) (.vsl db 0 (Q.dels.length + 1) 3)) T.p)) pb ch l s x ⟨Q.sts, Q.atts, Q.dels ++ [d]⟩ g sv (.vsl db 0 (Q.dels.length + 1) 3) := by
  subst hz
  have hf := h.a
  have hne : db ≠ pb := (ne_cc h.p hdb T.hpd).symm
  have hfl := (delWide Q.dels).flen
  rw [List.length_map] at hfl
  rw [List.length_append] at hr
  refine h.setD _ _ (fun id o ho hh => ?_) ?_ ?_ (.inr ⟨db, ex.drop 3, by simp, ?_⟩)
  · have hid : db ≠ id := by rintro rfl; exact hh 3 hdv
    rw [St.setB_ne hid]; exact ho
  · rw [St.setB_fr]; exact (St.addF_fr hf).trans hf.symm
  · exact St.addF_ty (y := y1) hf
  · rw [St.setB_ne hne.symm, St.setB_get (S := S.addF y1 e) hdb]
    have e1 : splice (flatE (Q.dels.map Del.av) ++ ex) (Q.dels.length * 3) (flatE [d.av]) = flatE ((Q.dels ++ [d]).map Del.av) ++ ex.drop 3 := by
      have hz : (flatE [d.av]).length = 3 := rfl
      rw [splice_eq _ _ _ (by rw [List.length_append, hz]; omega), hz, ← hfl, List.take_left, List.map_append, flatE_app]
      rw [List.drop_append]
      have : List.drop ((flatE (Q.dels.map Del.av)).length + 3) (flatE (Q.dels.map Del.av)) = [] := List.drop_eq_nil_of_le (by omega)
      rw [this, List.nil_append, show (flatE (Q.dels.map Del.av)).length + 3 - (flatE (Q.dels.map Del.av)).length = 3 from by omega]
      rfl
    rw [e1]
theorem PInv.delGrow (h : PInv T S pb ch l s x Q g sv dv) {db : Nat} {ex : List AV} (_hdv : dv = .vsl db 0 Q.dels.length 3) (_hdb : S.bx[db]? = some (.cells (flatE (Q.dels.map Del.av) ++ ex) T.d)) (d : Del) (z : AV) (hz : z = d.av) (y1 : Nat × Nat) (e : TypeId) (k n : Nat) (hn : n = S.bx.length) :
    PInv T (((S.addF y1 e).addB (.cells ((flatE (Q.dels.map Del.av) ++ ex).take (Q.dels.length * 3) ++ flatE [z] ++ List.replicate k .undef) T.d)).setB pb (.cells (plC l s x sv (.own (Q.atts.map Att.av) ch) (.vsl n 0 (Q.dels.length + 1) 3)) T.p)) pb ch l s x ⟨Q.sts, Q.atts, Q.dels ++ [d]⟩ g sv (.vsl n 0 (Q.dels.length + 1) 3) := by
  subst hz; subst hn
  have hf := h.a
  have hne : S.bx.length ≠ pb := by have := (List.getElem?_eq_some_iff.1 h.p).1; omega
  have hfl := (delWide Q.dels).flen
  rw [List.length_map] at hfl
  refine h.setD _ _ (fun id o ho _ => ?_) ?_ ?_ (.inr ⟨S.bx.length, List.replicate k .undef, by simp, ?_⟩)
  · exact St.addB_old (S := S.addF y1 e) ho
  · rw [St.addB_fr]; exact (St.addF_fr hf).trans hf.symm
  · exact St.addF_ty (y := y1) hf
  · rw [St.setB_ne hne.symm, ← hfl, List.take_left, List.map_append, flatE_app]
    exact St.addB_get (S.addF y1 e) _
end
/-- what lies in boxes stays, but the player and the deliveries -/
def InvY (T : PTys) (S S' : St) : Prop := ∀ (id : Nat) (cs : List AV) (t : TypeId), t ≠ T.p → t ≠ T.d → S.bx[id]? = some (.cells cs t) → S'.bx[id]? = some (.cells cs t)
theorem InvY.refl (T : PTys) (S : St) : InvY T S S := fun _ _ _ _ _ h => h
theorem InvY.setP {T : PTys} {S S' : St} {id : Nat} {cs : List AV} {o : Ob} (h : InvY T S S') (hb : S.bx[id]? = some (.cells cs T.p)) : InvY T S (S'.setB id o) := fun id' cs' t h1 h2 hc => by
  rw [St.setB_ne (ne_cc hb hc fun he => h1 he.symm)]; exact h id' cs' t h1 h2 hc
theorem InvY.setD {T : PTys} {S S' : St} {id : Nat} {cs : List AV} {o : Ob} (h : InvY T S S') (hb : S.bx[id]? = some (.cells cs T.d)) : InvY T S (S'.setB id o) := fun id' cs' t h1 h2 hc => by
  rw [St.setB_ne (ne_cc hb hc fun he => h2 he.symm)]; exact h id' cs' t h1 h2 hc
theorem InvY.addB {T : PTys} {S S' : St} {o : Ob} (h : InvY T S S') : InvY T S (S'.addB o) := fun id' cs' t h1 h2 hc => St.addB_old (h id' cs' t h1 h2 hc)
theorem InvY.addF {T : PTys} {S S' : St} {y : Nat × Nat} {e : TypeId} (h : InvY T S S') : InvY T S (S'.addF y e) := h
end HM

/- A store with a player: new frames. -/
namespace HM
open Go Go.RowKit

/-- the first k flows have looked for a new frame -/
def relK (l : List Flow) (slot : Int) (sts : List PS) : Nat → List PS
  | 0 => sts
  | k + 1 => match l[k]?, (relK l slot sts k)[k]? with
    | some f, some p => (relK l slot sts k).set k (relS f slot p)
    | _, _ => relK l slot sts k
theorem relK_len (l : List Flow) (slot : Int) (sts : List PS) : ∀ k, (relK l slot sts k).length = sts.length
  | 0 => rfl
  | k + 1 => by
    unfold relK
    split
    · rw [List.length_set, relK_len l slot sts k]
    · exact relK_len l slot sts k
theorem relK_get (l : List Flow) (slot : Int) (sts : List PS) (hl : sts.length = l.length) : ∀ (k i : Nat), (relK l slot sts k)[i]? = if i < k then (l.zipWith (fun f p => relS f slot p) sts)[i]? else sts[i]?
  | 0, i => by simp [relK]
  | k + 1, i => by
    have ih := relK_get l slot sts hl k
    unfold relK
    rcases Nat.lt_or_ge k l.length with hk | hk
    · have hk2 : k < sts.length := by omega
      have e1 : l[k]? = some l[k] := List.getElem?_eq_getElem hk
      have e2 : (relK l slot sts k)[k]? = some sts[k] := by rw [ih, if_neg (by omega)]; exact List.getElem?_eq_getElem hk2
      rw [e1, e2]
      simp only
      by_cases e : k = i
      · subst e
        rw [List.getElem?_set_self (by rw [relK_len]; exact hk2), if_pos (by omega)]
        simp [List.getElem?_zipWith, e1, List.getElem?_eq_getElem hk2]
      · rw [List.getElem?_set_ne e, ih]
        by_cases h1 : i < k
        · rw [if_pos h1, if_pos (by omega)]
        · rw [if_neg h1, if_neg (by omega)]
    · have e1 : l[k]? = none := List.getElem?_eq_none hk
      rw [e1]
      show (relK l slot sts k)[i]? = _
      rw [ih]
      by_cases h1 : i < k
      · rw [if_pos h1, if_pos (by omega)]
      · rw [if_neg h1]
        by_cases h2 : i < k + 1
        · rw [if_pos h2]
          have : l[i]? = none := List.getElem?_eq_none (by omega)
          have h3 : sts[i]? = none := List.getElem?_eq_none (by omega)
          simp [List.getElem?_zipWith, this, h3]
        · rw [if_neg h2]
theorem relK_all (l : List Flow) (slot : Int) (sts : List PS) (hl : sts.length = l.length) : relK l slot sts l.length = releaseS l slot sts := by
  apply List.ext_getElem?
  intro i
  rw [relK_get l slot sts hl]
  unfold releaseS
  by_cases h : i < l.length
  · rw [if_pos h]
  · rw [if_neg h]
    have h1 : sts[i]? = none := List.getElem?_eq_none (by omega)
    have h2 : l[i]? = none := List.getElem?_eq_none (by omega)
    simp [List.getElem?_zipWith, h1, h2]
theorem relK_step {l : List Flow} {slot : Int} {sts : List PS} {k : Nat} {f : Flow} {p : PS} (hf : l[k]? = some f) (hp : (relK l slot sts k)[k]? = some p) : relK l slot sts (k + 1) = (relK l slot sts k).set k (relS f slot p) := by
  rw [relK, hf, hp]

def gset (g : Nat → Nat → Nat) (i a b c : Nat) : Nat → Nat → Nat := fun i' j => if i' = i then (match j with | 0 => a | 1 => b | _ => c) else g i' j
section
variable {T : PTys} {S S' : St} {pb ch : Nat} {l : List Flow} {s : Sched} {x : List Rule} {Q : PL} {g : Nat → Nat → Nat} {sv dv : AV}
/-- a state begins anew -/
theorem PInv.fresh (h : PInv T S pb ch l s x Q g sv dv) (hx : ∀ (id : Nat) (o : Ob), S.bx[id]? = some o → S'.bx[id]? = some o) (hf : S'.fr = S.fr) (ht : S'.ty = S.ty) {qb : Nat} {ex : List AV} (hsv : sv = .vsl qb 0 Q.sts.length 5) (hq : S.bx[qb]? = some (.cells (flatE (statesE g Q.sts) ++ ex) T.q))
    {i : Nat} {p p' : PS} (hp : Q.sts[i]? = some p) (h0 : ¬ p'.frame < 0) {a b c : Nat} (ha : S'.bx[a]? = some (mapsOf p' 0)) (hb : S'.bx[b]? = some (mapsOf p' 1)) (hc : S'.bx[c]? = some (mapsOf p' 2)) (ga : S.bx.length ≤ a) (gb : S.bx.length ≤ b) (gc : S.bx.length ≤ c) (hab : a ≠ b) (hac : a ≠ c) (hbc : b ≠ c) :
    PInv T (S'.setB qb (.cells (flatE (statesE (gset g i a b c) (Q.sts.set i p')) ++ ex) T.q)) pb ch l s x ⟨Q.sts.set i p', Q.atts, Q.dels⟩ (gset g i a b c) sv dv := by
  have hil := (List.getElem?_eq_some_iff.1 hp).1
  have hself : ∀ k (q : PS), (Q.sts.set i p')[k]? = some q → i = k → q = p' := by
    intro k q hq e
    subst e
    rw [List.getElem?_set_self hil] at hq
    injection hq with hq; exact hq.symm
  have hoth : ∀ k (q : PS), (Q.sts.set i p')[k]? = some q → i ≠ k → Q.sts[k]? = some q := by
    intro k q hq e
    rwa [List.getElem?_set_ne e] at hq
  have hlt : ∀ k q, Q.sts[k]? = some q → 0 ≤ q.frame → ∀ j, j < 3 → g k j < S.bx.length := fun k q hq hq0 j hj => (List.getElem?_eq_some_iff.1 (h.m k q hq hq0 j hj)).1
  have hg : ∀ k j, i ≠ k → gset g i a b c k j = g k j := fun k j e => by unfold gset; rw [if_neg (fun hh => e hh.symm)]
  have hgi : ∀ j, gset g i a b c i j = (match j with | 0 => a | 1 => b | _ => c) := fun j => by unfold gset; rw [if_pos rfl]
  have hge : ∀ j, S.bx.length ≤ gset g i a b c i j := fun j => by
    rw [hgi]
    split <;> assumption
  have hq' := hx _ _ hq
  refine ⟨by rw [St.setB_ne (ne_cc h.p hq T.hpq).symm]; exact hx _ _ h.p, .inr ⟨qb, ex, by simpa using hsv, St.setB_get hq'⟩, fun k q hq1 hq0 j hj => ?_, fun k q k' q' hq1 hq1' hq0 hq0' j1 j2 hj1 hj2 he => ?_, by rw [St.setB_fr, hf]; exact h.a, by show S'.ty ch = _; rw [ht]; exact h.ty, fun e he => by rw [St.setB_ne (ne_cc hq (h.k e he) (T.hk e he).2.1.symm)]; exact hx _ _ (h.k e he), ?_⟩
  · have hm : S'.bx[gset g i a b c k j]? = some (mapsOf q j) := by
      by_cases e : i = k
      · subst e
        obtain rfl := hself i q hq1 rfl
        rw [hgi]
        rcases j with _ | _ | _ | j
        · exact ha
        · exact hb
        · exact hc
        · omega
      · rw [hg k j e]
        exact hx _ _ (h.m k q (hoth k q hq1 e) hq0 j hj)
    rw [St.setB_ne (ne_cM hq' hm)]
    exact hm
  · by_cases e : i = k
    · by_cases e' : i = k'
      · subst e; subst e'
        refine ⟨rfl, ?_⟩
        rw [hgi, hgi] at he
        rcases j1 with _ | _ | _ | j1 <;> rcases j2 with _ | _ | _ | j2 <;> first | rfl | omega | exact absurd he hab | exact absurd he hac | exact absurd he hbc | exact absurd he.symm hab | exact absurd he.symm hac | exact absurd he.symm hbc
      · subst e
        have h1 := hge j1
        have h2 := hlt k' q' (hoth k' q' hq1' e') hq0' j2 hj2
        rw [hg k' j2 e'] at he
        omega
    · by_cases e' : i = k'
      · subst e'
        have h1 := hge j2
        have h2 := hlt k q (hoth k q hq1 e) hq0 j1 hj1
        rw [hg k j1 e] at he
        omega
      · rw [hg k j1 e, hg k' j2 e'] at he
        exact h.inj _ _ _ _ (hoth k q hq1 e) (hoth k' q' hq1' e') hq0 hq0' j1 j2 hj1 hj2 he
  · rcases h.d with hd | ⟨db, ex2, h1, h2⟩
    · exact .inl hd
    · exact .inr ⟨db, ex2, h1, by rw [St.setB_ne (ne_cc hq h2 T.hqd)]; exact hx _ _ h2⟩
end
theorem statesE_gset (g : Nat → Nat → Nat) (q : List PS) (i a b c : Nat) (p : PS) (h0 : ¬ p.frame < 0) : (statesE g q).set i (.agg [.int .i64 p.frame, .mp a, .mp b, .mp c, .bool p.done]) = statesE (gset g i a b c) (q.set i p) := by
  apply List.ext_getElem?
  intro j
  simp only [statesE, List.getElem?_set, List.getElem?_mapIdx, List.length_mapIdx]
  by_cases e : i = j
  · subst e
    simp only [if_true]
    split
    · simp [stAV, mpv, h0, gset]
    · simp
  · simp only [e, if_false]
    cases hq : q[j]? with
    | none => rfl
    | some y =>
      simp only [Option.map_some, Option.some.injEq]
      have : gset g i a b c j = g j := by funext k; unfold gset; rw [if_neg (fun hh => e hh.symm)]
      rw [this]
/-- what lies in boxes stays, but the states -/
def InvZ (T : PTys) (S S' : St) : Prop := ∀ (id : Nat) (cs : List AV) (t : TypeId), t ≠ T.q → S.bx[id]? = some (.cells cs t) → S'.bx[id]? = some (.cells cs t)
theorem InvZ.refl (T : PTys) (S : St) : InvZ T S S := fun _ _ _ _ h => h
theorem InvZ.addB {T : PTys} {S S' : St} {o : Ob} (h : InvZ T S S') : InvZ T S (S'.addB o) := fun id' cs' t h1 hc => St.addB_old (h id' cs' t h1 hc)
theorem InvZ.setN {T : PTys} {S S' : St} {id : Nat} {o : Ob} (h : InvZ T S S') (hi : S.bx.length ≤ id) : InvZ T S (S'.setB id o) := fun id' cs' t h1 hc => by
  have := (List.getElem?_eq_some_iff.1 hc).1
  rw [St.setB_ne (by omega)]; exact h id' cs' t h1 hc
theorem InvZ.setQ {T : PTys} {S S' : St} {id : Nat} {cs : List AV} {o : Ob} (h : InvZ T S S') (hb : S.bx[id]? = some (.cells cs T.q)) : InvZ T S (S'.setB id o) := fun id' cs' t h1 hc => by
  rw [St.setB_ne (ne_cc hb hc fun he => h1 he.symm)]; exact h id' cs' t h1 hc
theorem St.len2 (S : St) (o o' : Ob) : S.bx.length ≤ ((S.addB o).addB o').bx.length := by rw [St.addB_len, St.addB_len]; omega
theorem mo0 {S : St} {sh : Option Nat} {ks : List (List Int)} {vs : List AV} : (S.addB (.map sh ks vs)).bx[S.bx.length]? = some (.map sh ks vs) := St.addB_get _ _
theorem mo1 {S : St} {sh : Option Nat} {ks : List (List Int)} {vs : List AV} {o : Ob} : ((S.addB (.map sh ks vs)).addB o).bx[S.bx.length]? = some (.map sh ks vs) := St.addB_old (St.addB_get _ _)
theorem mo2 {S : St} {sh : Option Nat} {ks : List (List Int)} {vs : List AV} {o o' : Ob} : (((S.addB (.map sh ks vs)).addB o).addB o').bx[S.bx.length]? = some (.map sh ks vs) := St.addB_old (St.addB_old (St.addB_get _ _))
theorem PInv.leaf {T : PTys} {S : St} {pb ch : Nat} {l : List Flow} {s : Sched} {x : List Rule} {Q : PL} {g : Nat → Nat → Nat} {sv dv : AV} (h : PInv T S pb ch l s x Q g sv dv) {qb : Nat} {ex : List AV} (hsv : sv = .vsl qb 0 Q.sts.length 5) (hq : S.bx[qb]? = some (.cells (flatE (statesE g Q.sts) ++ ex) T.q))
    {i : Nat} {p p' : PS} (hp : Q.sts[i]? = some p) (h0 : ¬ p'.frame < 0) {X : St} (tl : List Ob) (hX : X = ⟨S.bx ++ tl, S.fr, S.n0, S.m0, S.ty⟩) (ia ib ic : Nat) (ha : tl[ia]? = some (mapsOf p' 0)) (hb : tl[ib]? = some (mapsOf p' 1)) (hc : tl[ic]? = some (mapsOf p' 2)) (hab : ia ≠ ib) (hac : ia ≠ ic) (hbc : ib ≠ ic)
    {a b c off : Nat} (ea : a = S.bx.length + ia) (eb : b = S.bx.length + ib) (ec : c = S.bx.length + ic) (eo : off = i * 5) :
    PIn T (X.setB qb (.cells (splice (flatE (statesE g Q.sts) ++ ex) off [.int .i64 p'.frame, .mp a, .mp b, .mp c, .bool p'.done]) T.q)) pb ch l s x ⟨Q.sts.set i p', Q.atts, Q.dels⟩ := by
  subst hX; subst eo
  have hget : ∀ k o, tl[k]? = some o → (S.bx ++ tl)[S.bx.length + k]? = some o := fun k o hk => by
    rw [List.getElem?_append_right (by omega)]
    rw [show S.bx.length + k - S.bx.length = k from by omega]; exact hk
  have hF := h.fresh (S' := ⟨S.bx ++ tl, S.fr, S.n0, S.m0, S.ty⟩) (fun id o ho => (List.getElem?_append_left (List.getElem?_eq_some_iff.1 ho).1).trans ho) rfl rfl hsv hq hp h0 (a := a) (b := b) (c := c) (by subst ea; exact hget _ _ ha) (by subst eb; exact hget _ _ hb) (by subst ec; exact hget _ _ hc) (by omega) (by omega) (by omega) (by omega) (by omega) (by omega)
  have hil := (List.getElem?_eq_some_iff.1 hp).1
  have e1 : splice (flatE (statesE g Q.sts) ++ ex) (i * 5) [.int .i64 p'.frame, .mp a, .mp b, .mp c, .bool p'.done] = flatE (statesE (gset g i a b c) (Q.sts.set i p')) ++ ex := by
    have := Wide.sto (.agg [.int .i64 p'.frame, .mp a, .mp b, .mp c, .bool p'.done]) rfl ex (statesE_wide g Q.sts) (k := i) (by rw [statesE_len]; exact hil)
    rw [statesE_gset g Q.sts i a b c p' h0] at this
    exact this
  rw [e1]
  exact ⟨_, _, _, hF⟩
end HM

/- A slot of a run: how much there can be. -/
namespace HM
open Go Go.RowKit
theorem att_len (l : List Flow) (x : List Rule) (t : Int) (q : PL) (c : Cell) : (attemptS l x t q c).atts.length ≤ q.atts.length + 1 ∧ (attemptS l x t q c).dels.length ≤ q.dels.length + 1 ∧ (attemptS l x t q c).sts.length = q.sts.length := by
  unfold attemptS
  split
  · omega
  split
  · split
    · omega
    · refine ⟨by simp, ?_, by simp⟩
      simp only [List.length_append]
      split <;> simp
  · omega
theorem fold_len (l : List Flow) (x : List Rule) (t : Int) : ∀ (cs : List Cell) (q : PL), (cs.foldl (attemptS l x t) q).atts.length ≤ q.atts.length + cs.length ∧ (cs.foldl (attemptS l x t) q).dels.length ≤ q.dels.length + cs.length ∧ (cs.foldl (attemptS l x t) q).sts.length = q.sts.length
  | [], q => by simp
  | c :: cs, q => by
    have h1 := att_len l x t q c
    have h2 := fold_len l x t cs (attemptS l x t q c)
    simp only [List.foldl_cons, List.length_cons]
    omega
theorem fold_step (l : List Flow) (x : List Rule) (t : Int) {cs : List Cell} {k : Nat} {c : Cell} (h : cs[k]? = some c) (q : PL) : (cs.take (k + 1)).foldl (attemptS l x t) q = attemptS l x t ((cs.take k).foldl (attemptS l x t) q) c := by
  rw [take_succ h, List.foldl_append]
  rfl
theorem at_len (s : Sched) (t : Int) : (atM s t).length ≤ s.cells.length := by
  unfold atM
  split
  · simp
  · exact List.length_filter_le _ _
theorem slot_len (l : List Flow) (s : Sched) (x : List Rule) (q : PL) (t : Int) (hq : q.sts.length = l.length) : (slotS l s x q t).atts.length ≤ q.atts.length + s.cells.length ∧ (slotS l s x q t).dels.length ≤ q.dels.length + s.cells.length ∧ (slotS l s x q t).sts.length = l.length := by
  have h1 := fold_len l x t (atM s t) ⟨releaseS l t q.sts, q.atts, q.dels⟩
  have h2 := at_len s t
  have h3 : (releaseS l t q.sts).length = l.length := by simp [releaseS, hq]
  unfold slotS
  simp only at h1 ⊢
  refine ⟨by omega, ?_, by rw [h1.2.2, h3]⟩
  rw [List.length_append, List.length_mergeSort, ← List.length_append, List.take_append_drop]
  omega
theorem play_len {l : List Flow} (sc : Nat → Sched) (x : List Rule) {m : Nat} (hm : ∀ i, (sc i).cells.length ≤ m) : ∀ n, (playV l sc x n).atts.length ≤ n * m ∧ (playV l sc x n).dels.length ≤ n * m ∧ (playV l sc x n).sts.length = l.length
  | 0 => by simp [playV]
  | n + 1 => by
    obtain ⟨h1, h2, h3⟩ := play_len sc x hm n
    have h4 := slot_len l (sc n) x (playV l sc x n) n h3
    have h5 := hm n
    rw [playV, Nat.add_mul]
    omega
theorem PInv.frames {T : PTys} {S S' : St} {pb ch : Nat} {l : List Flow} {s : Sched} {x : List Rule} {Q : PL} (h : PIn T S pb ch l s x Q) (hx : S'.bx = S.bx) (hf : S'.fr = S.fr) (ht : S'.ty = S.ty) : PIn T S' pb ch l s x Q := by
  obtain ⟨g, sv, dv, h⟩ := h
  exact ⟨g, sv, dv, h.more (fun _ _ ho => by rw [hx]; exact ho) (by rw [hf]) (by rw [ht])⟩
/-- the deliveries of a slot sorted in place -/
theorem PInv.sortD {T : PTys} {S : St} {pb ch : Nat} {l : List Flow} {s : Sched} {x : List Rule} {Q : PL} {g : Nat → Nat → Nat} {sv dv : AV} (h : PInv T S pb ch l s x Q g sv dv) {db : Nat} {ex : List AV} (hdv : dv = .vsl db 0 Q.dels.length 3) (hdb : S.bx[db]? = some (.cells (flatE (Q.dels.map Del.av) ++ ex) T.d)) {ds : List Del} (hl : ds.length = Q.dels.length) :
    PIn T (S.setB db (.cells (flatE (ds.map Del.av) ++ ex) T.d)) pb ch l s x ⟨Q.sts, Q.atts, ds⟩ := by
  refine ⟨g, sv, dv, ?_, ?_, fun k q hq hq0 j hj => ?_, h.inj, h.a, h.ty, fun e he => by rw [St.setB_ne (ne_cc hdb (h.k e he) (T.hk e he).2.2.symm)]; exact h.k e he, .inr ⟨db, ex, by rw [hl]; exact hdv, St.setB_get hdb⟩⟩
  · rw [St.setB_ne (ne_cc h.p hdb T.hpd).symm]; exact h.p
  · rcases h.q with hq | ⟨qb, ex2, h1, h2⟩
    · exact .inl hq
    · exact .inr ⟨qb, ex2, h1, by rw [St.setB_ne (ne_cc h2 hdb T.hqd).symm]; exact h2⟩
  · have := h.m k q hq hq0 j hj
    rw [St.setB_ne (ne_cM hdb this)]; exact this
end HM

/- A slot of a run: its beginning and its end. -/
namespace HM
open Go Go.RowKit
theorem SimE.start {l : List Flow} (hl : FlowsOk l) {t : Int} (ht : t + 1 ≤ 1099511627776) {q : PL} {r : RunL} (h : SimE l t q r) : Sim l (t + 1) q.dels ⟨releaseS l (t + 1) q.sts, q.atts, q.dels⟩ r := by
  have hslot : ∀ d ∈ q.dels, d.slot < t + 1 := fun d hd => by
    obtain ⟨b, hb, h1, _⟩ := h.run.dl d hd
    have := (h.run.at_ b hb).2.1
    omega
  refine ⟨by simp [releaseS, h.len], fun i f p hf hp => ?_, ⟨fun b hb => ?_, h.run.dl⟩, h.at_, ⟨[], [], by simp, by simp [h.dl], .refl _, .nil, by simp⟩, hslot⟩
  · simp only [releaseS, List.getElem?_zipWith, hf] at hp
    cases hq : q.sts[i]? with
    | none => rw [hq] at hp; cases hp
    | some p0 =>
      rw [hq] at hp
      simp only [Option.some.injEq] at hp
      subst hp
      exact (h.fl i f p0 hf hq).release hl ht h.run hf
  · obtain ⟨g1, g2, g3⟩ := h.run.at_ b hb
    exact ⟨g1, by omega, g3⟩
theorem sorted_eq {l l' ds : List Del} (hp : l'.Perm l) (h : l'.Pairwise fun a b => a.flow < b.flow) (hd : ds.Perm l) (hs : ds.Pairwise fun a b => a.flow ≤ b.flow) : ds = l' := by
  refine List.Perm.eq_of_pairwise (le := fun a b : Del => a.flow ≤ b.flow) (fun a b ha hb h1 h2 => ?_) hs (h.imp fun h => Int.le_of_lt h) (hd.trans hp.symm)
  have ha' : a ∈ l' := hp.symm.subset (hd.subset ha)
  obtain ⟨i, hi⟩ := List.getElem?_of_mem ha'
  obtain ⟨j, hj⟩ := List.getElem?_of_mem hb
  obtain ⟨hi1, hi2⟩ := List.getElem?_eq_some_iff.1 hi
  obtain ⟨hj1, hj2⟩ := List.getElem?_eq_some_iff.1 hj
  rcases Nat.lt_trichotomy i j with hij | rfl | hij
  · have := List.pairwise_iff_getElem.1 h i j hi1 hj1 hij
    rw [hi2, hj2] at this; omega
  · rw [hi] at hj; injection hj
  · have := List.pairwise_iff_getElem.1 h j i hj1 hi1 hij
    rw [hi2, hj2] at this; omega
/-- what an attempt asks of a state -/
theorem Sim.ask {l : List Flow} {t : Int} {base : List Del} {q : PL} {r : RunL} (h : Sim l t base q r) : (∀ (i : Nat) (p : PS), q.sts[i]? = some p → p.ok) ∧ (∀ (i : Nat) (p : PS), q.sts[i]? = some p → ¬ p.frame < 0 → ∀ a b, 0 ≤ (p.tries.get [a, b]).getD 0 ∧ (p.tries.get [a, b]).getD 0 ≤ (q.atts.length : Int)) := by
  have hf : ∀ (i : Nat) (p : PS), q.sts[i]? = some p → ∃ f, l[i]? = some f := fun i p hp => by
    have h1 := (List.getElem?_eq_some_iff.1 hp).1
    exact ⟨_, List.getElem?_eq_getElem (by rw [← h.len]; exact h1)⟩
  refine ⟨fun i p hp => ?_, fun i p hp h0 a b => ?_⟩
  · obtain ⟨f, hf⟩ := hf i p hp
    exact (h.fl i f p hf hp).ok
  · obtain ⟨f, hf⟩ := hf i p hp
    have := (h.fl i f p hf hp).tr (by omega) ⟨0, 0, a, b, f.id⟩ rfl
    simp only at this
    rw [this]
    have h2 : countR q.atts ⟨0, 0, a, b, f.id⟩ p.frame ≤ q.atts.length := List.countP_le_length
    omega
/-- behind a slot's attempts -/
theorem Sim.slotEnd {l : List Flow} {t : Int} {q q1 : PL} {r1 : RunL} (h : Sim l t q.dels q1 r1) : ∃ new, q1.dels = q.dels ++ new ∧ ∀ ds, ds.Perm new → (ds.Pairwise fun a b => a.flow ≤ b.flow) → q1.dels.take q.dels.length ++ (q1.dels.drop q.dels.length).mergeSort (fun a b => decide (a.flow ≤ b.flow)) = q.dels ++ ds := by
  obtain ⟨new, old, d1, d2, d3, d4, d5⟩ := h.dl
  refine ⟨new, d1, fun ds hp hs => ?_⟩
  have e1 : q1.dels.take q.dels.length = q.dels := by rw [d1]; simp
  have e2 : q1.dels.drop q.dels.length = new := by rw [d1]; simp
  rw [e1, e2, sort_eq d3 d4, sorted_eq d3 d4 hp hs]
end HM

/- A run's beginning in a store. -/
namespace HM
open Go Go.RowKit
theorem delOk : EncOk Del.av 3 := ⟨fun _ => rfl, fun _ => rfl, fun _ => rfl, fun _ => rfl, fun _ => rfl, by decide⟩
theorem states0 (l : List Flow) (g : Nat → Nat → Nat) (z : AV) (hz : ∀ h : Nat → Nat, stAV h PS.first = z) : statesE g (l.map fun _ => PS.first) = List.replicate l.length z := by
  apply List.ext_getElem?
  intro i
  simp only [statesE, List.getElem?_mapIdx, List.getElem?_map, List.getElem?_replicate]
  cases hi : l[i]? with
  | none =>
    have := List.getElem?_eq_none_iff.1 hi
    rw [if_neg (by omega)]; rfl
  | some f =>
    have := (List.getElem?_eq_some_iff.1 hi).1
    rw [if_pos this]
    simp [hz]
end HM

/- The law on one more cell. -/
namespace HM
open Go Go.RowKit

theorem ready_more {l : List Flow} {s t : Sched} {x : List Rule} {slots : Int} (h : readyM l s x slots = 0) (ht : formB t = true) : readyM l t x slots = 0 := by
  obtain ⟨h1, _, h3, h4, h5⟩ := ready_all h
  unfold readyM
  rw [if_neg (by simp [h1, ht, h3]), if_neg (by omega)]
theorem more_law {l : List Flow} {s : Sched} {x : List Rule} {c : Cell} {slots : Int} (he : (addM s c).2 = 0) (hf : (playM l s x slots).2 = 0) :
    (playM l (addM s c).1 x slots).2 = 0 ∧ ∀ d ∈ (playM l s x slots).1.dels, (delivM (playM l (addM s c).1 x slots).1 d.flow d.frame).2 = true ∧ (delivM (playM l (addM s c).1 x slots).1 d.flow d.frame).1 ≤ d.slot := by
  have hready : readyM l s x slots = 0 := Classical.byContradiction fun hh => by rw [playM_bad hh] at hf; exact hh hf
  obtain ⟨t, ht⟩ : ∃ t, t = (addM s c).1 := ⟨_, rfl⟩
  have ha : addM s c = (t, 0) := by rw [ht, ← he]
  rw [← ht]
  have hform := (addM_more ha).2.2
  have hready2 := ready_more hready hform
  rw [playM_R hready, playM_R hready2]
  refine ⟨rfl, fun d hd => ?_⟩
  have hF := flowsOk_of (ready_all hready).1
  obtain ⟨d', hd', k1, k2, k3⟩ := more_deliv hF (sc := fun _ => s) (sc' := fun _ => t) x (fun n => at_more ha hform n) slots.toNat d hd
  have hu := find_un (playR_del hF (fun _ => t) x slots.toNat).1.un hd'
  rw [k1, k2] at hu
  have e : delivM ⟨(playR l (fun _ => t) x slots.toNat).atts, (playR l (fun _ => t) x slots.toNat).dels⟩ d.flow d.frame = (d'.slot, true) := by
    unfold delivM
    simp only [hu]
  rw [e]
  exact ⟨rfl, k3⟩
end HM
