/- Runs and changes in plain words. -/
import Derived.Test.YtcbpgfmedemibaaGreatDoorDa
import Derived.Test.YtcbpgfmedemibaaGreatDoorFh
import Derived.Test.YtcbpgfmedemibaaGreatDoorFc
/- What the laws on runs ask of a run. -/
namespace HM
open Go Go.RowKit

theorem ready_all {l : List Flow} {s : Sched} {x : List Rule} {slots : Int} (h : readyM l s x slots = 0) : (flowsE 32 l).2 = 0 ∧ formB s = true ∧ (scriptM x).2 = 0 ∧ 0 ≤ slots ∧ slots ≤ 4096 := by
  unfold readyM at h
  split at h
  · cases h
  rename_i hn
  split at h
  · cases h
  rename_i hn2
  refine ⟨?_, ?_, ?_, by omega, by omega⟩
  · exact Classical.byContradiction fun hh => hn (.inl hh)
  · cases hf : formB s with
    | true => rfl
    | false => exact absurd (.inr (.inl hf)) hn
  · exact Classical.byContradiction fun hh => hn (.inr (.inr hh))
theorem playM_R {l : List Flow} {s : Sched} {x : List Rule} {slots : Int} (h : readyM l s x slots = 0) : playM l s x slots = (⟨(playR l (fun _ => s) x slots.toNat).atts, (playR l (fun _ => s) x slots.toNat).dels⟩, 0) := by
  obtain ⟨h1, h2, h3, h4, h5⟩ := ready_all h
  have hs := playV_R (flowsOk_of h1) (fun _ => s) x slots.toNat (by omega)
  rw [playV_S] at hs
  rw [playM, if_neg (by simp [h]), ← hs.at_, ← hs.dl]
theorem playM_bad {l : List Flow} {s : Sched} {x : List Rule} {slots : Int} (h : readyM l s x slots ≠ 0) : playM l s x slots = (⟨[], []⟩, readyM l s x slots) := by rw [playM, if_pos h]

end HM

/- The law on one more cell. -/
namespace HM
open Go Go.RowKit

end HM

/- Schedules that are changed: removal of a cell; the schedules behind changes; the one of a slot. -/
namespace HM
open Go Go.RowKit

structure Chg where
  slot : Int
  add : Bool
  cell : Cell
def Chg.av (c : Chg) : AV := .agg [.int .i64 c.slot, .bool c.add, .int .i64 c.cell.slot, .int .i64 c.cell.off, .int .i64 c.cell.src, .int .i64 c.cell.dst, .int .i64 c.cell.flow]
def delAt {α : Type} (l : List α) (p : Nat) : List α := l.take p ++ l.drop (p + 1)
def remM (s : Sched) (c : Cell) : Sched × Int :=
  if formB s = false then (⟨0, 0, []⟩, 1)
  else if hasC s c = false then (⟨0, 0, []⟩, 7)
  else (⟨s.len, s.offs, delAt s.cells (posC s c)⟩, 0)
def chgM (s : Sched) (c : Chg) : Sched × Int := if c.add = true then addM s c.cell else remM s c.cell
/-- the fault of a change behind one in a slot -/
def chgE (p : Option Int) (c : Chg) : Int := if c.slot < 0 then 2 else match p with
  | some q => if c.slot < q then 5 else 0
  | none => 0
def behM : Option Int → Sched → List Chg → List Sched × Int
  | _, _, [] => ([], 0)
  | p, s, c :: cs => if chgE p c ≠ 0 then ([], chgE p c) else if (chgM s c).2 ≠ 0 then ([], (chgM s c).2) else ((chgM s c).1 :: (behM (some c.slot) (chgM s c).1 cs).1, (behM (some c.slot) (chgM s c).1 cs).2)
def appM : Option Int → Sched → Sched → List Chg → Int → Sched × Int
  | _, _, out, [], _ => (out, 0)
  | p, s, out, c :: cs, t => if chgE p c ≠ 0 then (out, chgE p c) else if (chgM s c).2 ≠ 0 then (out, (chgM s c).2) else appM (some c.slot) (chgM s c).1 (if c.slot ≤ t then (chgM s c).1 else out) cs t
end HM

/- What the law asks of deliveries, out of the run. -/
namespace HM
open Go Go.RowKit

def winM (f : Flow) (frame : Int) : (Int × Int) × Int := if (relF f frame).2 ≠ 0 then ((0, 0), (relF f frame).2) else (((relF f frame).1, (relF f frame).1 + f.period - 1), 0)
/-- what the law asks of a delivery -/
structure OnceD (l : List Flow) (R : List Att) (d : Del) (k : Nat) (f : Flow) : Prop where
  at_ : findF l d.flow = (k : Int)
  get : l[k]? = some f
  win : (winM f d.frame).2 = 0 ∧ (winM f d.frame).1.1 ≤ d.slot ∧ d.slot ≤ (winM f d.frame).1.2
  by_ : (R.any fun a => a.slot == d.slot && (a.frame == d.frame && (a.cell.flow == d.flow && (a.cell.dst == f.dst && a.out != 3)))) = true
end HM

/- A flow on its own; a run without a script. -/
namespace HM
open Go Go.RowKit

theorem findF_one (f : Flow) (id : Int) : findF [f] id = if f.id = id then 0 else -1 := by
  by_cases h : f.id = id
  · rw [if_pos h]
    exact idxF_some (k := 0) (by simp) (fun j y hj => by omega) rfl (by simpa using h)
  · rw [if_neg h]
    refine idxF_none (fun j y hj hy => ?_)
    cases j with
    | zero => simp at hy; subst hy; simpa using h
    | succ j => simp at hy
-- without a script
end HM

/- The schedules behind changes, one by one; runs that are changed. -/
namespace HM
open Go Go.RowKit

def prevS (cs : List Chg) (k : Nat) : Option Int := match k with
  | 0 => none
  | j + 1 => (cs[j]?).map (·.slot)
structure BehI (s : Sched) (cs : List Chg) (k : Nat) (bs : List Sched) : Prop where
  le : k ≤ cs.length
  len : bs.length = k
  eq : behM none s cs = (bs ++ (behM (prevS cs k) (bs.getLastD s) (cs.drop k)).1, (behM (prevS cs k) (bs.getLastD s) (cs.drop k)).2)
theorem BehI.zero (s : Sched) (cs : List Chg) : BehI s cs 0 [] := ⟨Nat.zero_le _, rfl, rfl⟩
theorem BehI.step {s : Sched} {cs : List Chg} {k : Nat} {bs : List Sched} (h : BehI s cs k bs) {c : Chg} (hc : cs[k]? = some c) (he : chgE (prevS cs k) c = 0) (h2 : (chgM (bs.getLastD s) c).2 = 0) : BehI s cs (k + 1) (bs ++ [(chgM (bs.getLastD s) c).1]) := by
  refine ⟨(List.getElem?_eq_some_iff.1 hc).1, by rw [List.length_append, h.len]; rfl, ?_⟩
  have hl : (bs ++ [(chgM (bs.getLastD s) c).1]).getLastD s = (chgM (bs.getLastD s) c).1 := by simp
  have e1 : behM (prevS cs k) (bs.getLastD s) (c :: cs.drop (k + 1)) = ((chgM (bs.getLastD s) c).1 :: (behM (some c.slot) (chgM (bs.getLastD s) c).1 (cs.drop (k + 1))).1, (behM (some c.slot) (chgM (bs.getLastD s) c).1 (cs.drop (k + 1))).2) := by
    rw [behM, if_neg (by simp [he]), if_neg (fun hh => hh h2)]
  have hp : prevS cs (k + 1) = some c.slot := by simp [prevS, hc]
  rw [h.eq, dropGet hc, e1, hl, hp]
  simp
theorem BehI.fin {s : Sched} {cs : List Chg} {bs : List Sched} (h : BehI s cs cs.length bs) : behM none s cs = (bs, 0) := by
  rw [h.eq, List.drop_length]
  simp [behM]
end HM

/- Where two runs differ. -/
namespace HM
open Go Go.RowKit

end HM
namespace HM
end HM

/- Arguments: changes, runs. -/
namespace HM
open Go Go.RowKit

def tU8 : Ty := .int .u8
theorem sh_u8 {l : List AV} (h : tU8.sh l) : ∃ n, l = [.int .u8 n] ∧ 0 ≤ n ∧ n ≤ 255 := by
  obtain ⟨n, rfl, hw⟩ := h
  refine ⟨n, rfl, ?_⟩
  simp only [Lit.wf, Bool.and_eq_true, decide_eq_true_eq] at hw
  exact hw
end HM

/- Six and seven arguments. -/
namespace HM
open Go Go.RowKit
end HM

/- A store with a player: what lies where. -/
namespace HM
open Go Go.RowKit

def mpv (p : PS) (id : Nat) : AV := if p.frame < 0 then .nilm else .mp id
def mapsOf (p : PS) : Nat → Ob
  | 0 => p.since.ob none
  | 1 => p.tries.ob (some 2)
  | _ => p.acked.ob (some 2)
def stAV (g : Nat → Nat) (p : PS) : AV := .agg [.int .i64 p.frame, mpv p (g 0), mpv p (g 1), mpv p (g 2), .bool p.done]
def statesE (g : Nat → Nat → Nat) (q : List PS) : List AV := q.mapIdx fun i p => stAV (g i) p
theorem statesE_get {g : Nat → Nat → Nat} {q : List PS} {i : Nat} {p : PS} (h : q[i]? = some p) : (statesE g q)[i]? = some (stAV (g i) p) := by simp [statesE, h]
theorem statesE_len (g : Nat → Nat → Nat) (q : List PS) : (statesE g q).length = q.length := by simp [statesE]
theorem statesE_set (g : Nat → Nat → Nat) (q : List PS) (i : Nat) (p : PS) : (statesE g q).set i (stAV (g i) p) = statesE g (q.set i p) := by
  apply List.ext_getElem?
  intro j
  simp only [statesE, List.getElem?_set, List.getElem?_mapIdx, List.length_mapIdx]
  by_cases e : i = j
  · subst e; simp only [if_true]
    split <;> simp_all
  · simp [e]
theorem statesE_wide (g : Nat → Nat → Nat) (q : List PS) : Wide 5 (statesE g q) := by
  intro e he
  obtain ⟨i, hi⟩ := List.getElem?_of_mem he
  simp only [statesE, List.getElem?_mapIdx, Option.map_eq_some_iff] at hi
  obtain ⟨p, _, rfl⟩ := hi
  rfl
def plC (l : List Flow) (s : Sched) (x : List Rule) (sv av dv : AV) : List AV := [encFlows l, .int .i64 s.len, .int .i64 s.offs, encCells s.cells, encScript x, sv, av, dv]

/-- the types of a player, of a state, of a delivery -/
structure PTys where
  p : TypeId
  q : TypeId
  d : TypeId
  a : TypeId
  hpq : p ≠ q
  hpd : p ≠ d
  hqd : q ≠ d
  ks : List (Nat × List AV × TypeId)
  hk : ∀ e ∈ ks, e.2.2 ≠ p ∧ e.2.2 ≠ q ∧ e.2.2 ≠ d

def StV (T : PTys) (S : St) (sv : AV) (g : Nat → Nat → Nat) (sts : List PS) : Prop := (sts = [] ∧ sv = .grown .nils 0) ∨ ∃ qb ex, sv = .vsl qb 0 sts.length 5 ∧ S.bx[qb]? = some (.cells (flatE (statesE g sts) ++ ex) T.q)
def DelV (T : PTys) (S : St) (dv : AV) (ds : List Del) : Prop := (ds = [] ∧ dv = .grown .nils 0) ∨ ∃ db ex, dv = .vsl db 0 ds.length 3 ∧ S.bx[db]? = some (.cells (flatE (ds.map Del.av) ++ ex) T.d)

/-- what is known of a store with a player -/
structure PInv (T : PTys) (S : St) (pb ch : Nat) (l : List Flow) (s : Sched) (x : List Rule) (Q : PL) (g : Nat → Nat → Nat) (sv dv : AV) : Prop where
  p : S.bx[pb]? = some (.cells (plC l s x sv (.own (Q.atts.map Att.av) ch) dv) T.p)
  q : StV T S sv g Q.sts
  m : ∀ (i : Nat) (p : PS), Q.sts[i]? = some p → 0 ≤ p.frame → ∀ j, j < 3 → S.bx[g i j]? = some (mapsOf p j)
  inj : ∀ (i : Nat) (p : PS) (i' : Nat) (p' : PS), Q.sts[i]? = some p → Q.sts[i']? = some p' → 0 ≤ p.frame → 0 ≤ p'.frame → ∀ j j', j < 3 → j' < 3 → g i j = g i' j' → i = i' ∧ j = j'
  a : S.fr[ch]? = some (Q.atts.length, 8)
  ty : S.ty ch = T.a
  k : ∀ e ∈ T.ks, S.bx[e.1]? = some (.cells e.2.1 e.2.2)
  d : DelV T S dv Q.dels
def PIn (T : PTys) (S : St) (pb ch : Nat) (l : List Flow) (s : Sched) (x : List Rule) (Q : PL) : Prop := ∃ g sv dv, PInv T S pb ch l s x Q g sv dv

theorem ne_cm {S : St} {a b : Nat} {cs : List AV} {t : TypeId} {sh : Option Nat} {ks : List (List Int)} {vs : List AV} (h : S.bx[a]? = some (.cells cs t)) (h' : S.bx[b]? = some (.map sh ks vs)) : a ≠ b := by
  rintro rfl
  rw [h] at h'
  injection h' with h'
  cases h'
theorem ne_cc {S : St} {a b : Nat} {cs cs' : List AV} {t t' : TypeId} (h : S.bx[a]? = some (.cells cs t)) (h' : S.bx[b]? = some (.cells cs' t')) (ht : t ≠ t') : a ≠ b := by
  rintro rfl
  rw [h] at h'
  injection h' with h'
  injection h' with _ h'
  exact ht h'
theorem mapsOf_map (p : PS) (j : Nat) : ∃ sh ks vs, mapsOf p j = .map sh ks vs := by
  unfold mapsOf
  split <;> exact ⟨_, _, _, rfl⟩
theorem ne_cM {S : St} {a b : Nat} {cs : List AV} {t : TypeId} {p : PS} {j : Nat} (h : S.bx[a]? = some (.cells cs t)) (h' : S.bx[b]? = some (mapsOf p j)) : a ≠ b := by
  obtain ⟨sh, ks, vs, e⟩ := mapsOf_map p j
  rw [e] at h'
  exact ne_cm h h'

section
variable {T : PTys} {S S' : St} {pb ch : Nat} {l : List Flow} {s : Sched} {x : List Rule} {Q : PL} {g : Nat → Nat → Nat} {sv dv : AV}

/-- other objects more -/
theorem PInv.more (h : PInv T S pb ch l s x Q g sv dv) (hx : ∀ (id : Nat) (o : Ob), S.bx[id]? = some o → S'.bx[id]? = some o) (hf : S'.fr[ch]? = S.fr[ch]?) (ht : S'.ty ch = S.ty ch) : PInv T S' pb ch l s x Q g sv dv := by
  refine ⟨hx _ _ h.p, ?_, fun i p hp h0 j hj => hx _ _ (h.m i p hp h0 j hj), h.inj, hf.trans h.a, ht.trans h.ty, fun e he => hx _ _ (h.k e he), ?_⟩
  · rcases h.q with hq | ⟨qb, ex, h1, h2⟩
    · exact .inl hq
    · exact .inr ⟨qb, ex, h1, hx _ _ h2⟩
  · rcases h.d with hq | ⟨qb, ex, h1, h2⟩
    · exact .inl hq
    · exact .inr ⟨qb, ex, h1, hx _ _ h2⟩
/-- a map of a state -/
theorem PInv.setM (h : PInv T S pb ch l s x Q g sv dv) {i : Nat} {p p' : PS} (hp : Q.sts[i]? = some p) (h0 : 0 ≤ p.frame) (hfr : p'.frame = p.frame) (hdn : p'.done = p.done) {j : Nat} (hj : j < 3) (ho : ∀ k, k < 3 → k ≠ j → mapsOf p' k = mapsOf p k) :
    PInv T (S.setB (g i j) (mapsOf p' j)) pb ch l s x ⟨Q.sts.set i p', Q.atts, Q.dels⟩ g sv dv := by
  have hm := h.m i p hp h0 j hj
  have hil := (List.getElem?_eq_some_iff.1 hp).1
  have est : statesE g (Q.sts.set i p') = statesE g Q.sts := by
    apply List.ext_getElem?
    intro k
    simp only [statesE, List.getElem?_mapIdx, List.getElem?_set]
    by_cases e : i = k
    · subst e
      have e2 : Q.sts[i]? = some Q.sts[i] := List.getElem?_eq_getElem hil
      rw [e2] at hp; injection hp with hp
      simp only [hil, if_true, Option.map_some, e2, hp]
      simp [stAV, mpv, hfr, hdn]
    · simp [e]
  have hlive : ∀ (k : Nat) (q : PS), (Q.sts.set i p')[k]? = some q → 0 ≤ q.frame → ∃ q0, Q.sts[k]? = some q0 ∧ 0 ≤ q0.frame ∧ (i ≠ k → q = q0) ∧ (i = k → q = p' ∧ q0 = p) := by
    intro k q hq hq0
    by_cases e : i = k
    · subst e
      rw [List.getElem?_set_self hil] at hq
      injection hq with hq
      exact ⟨p, hp, h0, fun hh => absurd rfl hh, fun _ => ⟨hq.symm, rfl⟩⟩
    · rw [List.getElem?_set_ne e] at hq
      exact ⟨q, hq, hq0, fun _ => rfl, fun hh => absurd hh e⟩
  refine ⟨by rw [St.setB_ne (ne_cM h.p hm).symm]; exact h.p, ?_, fun k q hq hq0 j' hj' => ?_, fun k q k' q' hq hq' hq0 hq0' j1 j2 hj1 hj2 he => ?_, h.a, h.ty, fun e he => by rw [St.setB_ne (ne_cM (h.k e he) hm).symm]; exact h.k e he, ?_⟩
  · rcases h.q with ⟨hq, _⟩ | ⟨qb, ex, h1, h2⟩
    · rw [hq] at hil; simp at hil
    · exact .inr ⟨qb, ex, by simpa using h1, by rw [St.setB_ne (ne_cM h2 hm).symm, est]; exact h2⟩
  · obtain ⟨q0, g1, g2, g3, g4⟩ := hlive k q hq hq0
    by_cases e : i = k
    · obtain ⟨rfl, rfl⟩ := g4 e
      subst e
      by_cases ej : j = j'
      · subst ej; exact St.setB_get hm
      · rw [St.setB_ne (fun hh => ej (h.inj _ _ _ _ hp hp h0 h0 j j' hj hj' hh).2), ho j' hj' (fun hh => ej hh.symm)]
        exact h.m i _ hp h0 j' hj'
    · obtain rfl := g3 e
      rw [St.setB_ne (fun hh => e (h.inj _ _ _ _ hp g1 h0 g2 j j' hj hj' hh).1)]
      exact h.m k _ g1 g2 j' hj'
  · obtain ⟨q0, g1, g2, _⟩ := hlive k q hq hq0
    obtain ⟨q0', g1', g2', _⟩ := hlive k' q' hq' hq0'
    exact h.inj _ _ _ _ g1 g1' g2 g2' j1 j2 hj1 hj2 he
  · rcases h.d with hq | ⟨db, ex, h1, h2⟩
    · exact .inl hq
    · exact .inr ⟨db, ex, h1, by rw [St.setB_ne (ne_cM h2 hm).symm]; exact h2⟩
/-- a state's cells are written; its maps are as they were -/
theorem PInv.setQ (h : PInv T S pb ch l s x Q g sv dv) {qb : Nat} {ex : List AV} (hsv : sv = .vsl qb 0 Q.sts.length 5) (hq : S.bx[qb]? = some (.cells (flatE (statesE g Q.sts) ++ ex) T.q)) {i : Nat} {p p' : PS} (hp : Q.sts[i]? = some p) (hfr : p'.frame = p.frame) (ho : ∀ k, k < 3 → mapsOf p' k = mapsOf p k) :
    PInv T (S.setB qb (.cells (flatE (statesE g (Q.sts.set i p')) ++ ex) T.q)) pb ch l s x ⟨Q.sts.set i p', Q.atts, Q.dels⟩ g sv dv := by
  have hil := (List.getElem?_eq_some_iff.1 hp).1
  have hlive : ∀ (k : Nat) (q : PS), (Q.sts.set i p')[k]? = some q → 0 ≤ q.frame → ∃ q0, Q.sts[k]? = some q0 ∧ 0 ≤ q0.frame ∧ ∀ j, j < 3 → mapsOf q j = mapsOf q0 j := by
    intro k q hq hq0
    by_cases e : i = k
    · subst e
      rw [List.getElem?_set_self hil] at hq
      injection hq with hq
      subst hq
      exact ⟨p, hp, by omega, ho⟩
    · rw [List.getElem?_set_ne e] at hq
      exact ⟨q, hq, hq0, fun _ _ => rfl⟩
  refine ⟨by rw [St.setB_ne (ne_cc h.p hq T.hpq).symm]; exact h.p, .inr ⟨qb, ex, by simpa using hsv, St.setB_get hq⟩, fun k q hq' hq0 j' hj' => ?_, fun k q k' q' hq hq' hq0 hq0' j1 j2 hj1 hj2 he => ?_, h.a, h.ty, fun e he => by rw [St.setB_ne (ne_cc hq (h.k e he) (T.hk e he).2.1.symm)]; exact h.k e he, ?_⟩
  · obtain ⟨q0, g1, g2, g3⟩ := hlive k q hq' hq0
    have := h.m k _ g1 g2 j' hj'
    rw [St.setB_ne (ne_cM hq this), g3 j' hj']
    exact this
  · obtain ⟨q0, g1, g2, _⟩ := hlive k q hq hq0
    obtain ⟨q0', g1', g2', _⟩ := hlive k' q' hq' hq0'
    exact h.inj _ _ _ _ g1 g1' g2 g2' j1 j2 hj1 hj2 he
  · rcases h.d with hd | ⟨db, ex2, h1, h2⟩
    · exact .inl hd
    · exact .inr ⟨db, ex2, h1, by rw [St.setB_ne (ne_cc hq h2 T.hqd)]; exact h2⟩
/-- the player's own cells are written -/
theorem PInv.setP (h : PInv T S pb ch l s x Q g sv dv) (s' : Sched) (ats : List Att) (hf : S'.fr[ch]? = some (ats.length, 8)) (ht : S'.ty ch = S.ty ch) (hb : S'.bx = S.bx) : PInv T (S'.setB pb (.cells (plC l s' x sv (.own (ats.map Att.av) ch) dv) T.p)) pb ch l s' x ⟨Q.sts, ats, Q.dels⟩ g sv dv := by
  have hp' : S'.bx[pb]? = some (.cells (plC l s x sv (.own (Q.atts.map Att.av) ch) dv) T.p) := by rw [hb]; exact h.p
  refine ⟨St.setB_get hp', ?_, fun k q hq hq0 j hj => ?_, h.inj, hf, ht.trans h.ty, fun e he => by rw [St.setB_ne (ne_cc h.p (h.k e he) (T.hk e he).1.symm), hb]; exact h.k e he, ?_⟩
  · rcases h.q with hq | ⟨qb, ex, h1, h2⟩
    · exact .inl hq
    · exact .inr ⟨qb, ex, h1, by rw [St.setB_ne (ne_cc h.p h2 T.hpq), hb]; exact h2⟩
  · have := h.m k q hq hq0 j hj
    rw [St.setB_ne (ne_cM h.p this), hb]
    exact this
  · rcases h.d with hq | ⟨qb, ex, h1, h2⟩
    · exact .inl hq
    · exact .inr ⟨qb, ex, h1, by rw [St.setB_ne (ne_cc h.p h2 T.hpd), hb]; exact h2⟩
/-- the deliveries are others -/
theorem PInv.setD (h : PInv T S pb ch l s x Q g sv dv) (ds : List Del) (dv' : AV) (hx : ∀ (id : Nat) (o : Ob), S.bx[id]? = some o → (∀ ex, dv ≠ .vsl id 0 Q.dels.length ex) → S'.bx[id]? = some o) (hf : S'.fr[ch]? = S.fr[ch]?) (ht : S'.ty ch = S.ty ch) (hd : DelV T (S'.setB pb (.cells (plC l s x sv (.own (Q.atts.map Att.av) ch) dv') T.p)) dv' ds) :
    PInv T (S'.setB pb (.cells (plC l s x sv (.own (Q.atts.map Att.av) ch) dv') T.p)) pb ch l s x ⟨Q.sts, Q.atts, ds⟩ g sv dv' := by
  have hne : ∀ id, (∀ cs, S.bx[id]? ≠ some (.cells cs T.d)) → ∀ ex, dv ≠ .vsl id 0 Q.dels.length ex := by
    intro id hid ex he
    rcases h.d with ⟨_, h2⟩ | ⟨db, ex2, h1, h2⟩
    · rw [h2] at he; cases he
    · rw [h1] at he
      injection he with he
      subst he
      exact hid _ h2
  have hp' := hx pb _ h.p (hne pb fun cs hc => by
    rw [h.p] at hc; injection hc with hc; injection hc with _ hc; exact T.hpd hc)
  refine ⟨St.setB_get hp', ?_, fun k q hq hq0 j hj => ?_, h.inj, by rw [St.setB_fr, hf]; exact h.a, ht.trans h.ty, fun e he => by
    rw [St.setB_ne (ne_cc h.p (h.k e he) (T.hk e he).1.symm)]
    refine hx _ _ (h.k e he) (hne _ fun cs hc => ?_)
    rw [h.k e he] at hc; injection hc with hc; injection hc with _ hc; exact (T.hk e he).2.2 hc, hd⟩
  · rcases h.q with hq | ⟨qb, ex, h1, h2⟩
    · exact .inl hq
    · refine .inr ⟨qb, ex, h1, ?_⟩
      rw [St.setB_ne (ne_cc h.p h2 T.hpq)]
      exact hx _ _ h2 (hne qb fun cs hc => by
        rw [h2] at hc; injection hc with hc; injection hc with _ hc; exact T.hqd hc)
  · have := h.m k q hq hq0 j hj
    rw [St.setB_ne (ne_cM h.p this)]
    refine hx _ _ this (hne _ fun cs hc => ?_)
    obtain ⟨sh, ks, vs, e⟩ := mapsOf_map q j
    rw [this, e] at hc
    injection hc with hc
    cases hc
end
theorem St.addF_fr {S : St} {ch : Nat} {y y' : Nat × Nat} {e : TypeId} (h : S.fr[ch]? = some y') : (S.addF y e).fr[ch]? = some y' := by
  unfold St.addF
  rw [List.getElem?_append_left (List.getElem?_eq_some_iff.1 h).1]; exact h
theorem St.addF_ty {S : St} {ch : Nat} {y y' : Nat × Nat} {e : TypeId} (h : S.fr[ch]? = some y') : (S.addF y e).ty ch = S.ty ch := by
  have := (List.getElem?_eq_some_iff.1 h).1
  simp only [St.addF, updT]
  rw [if_neg (by omega)]
theorem setB_setB (S : St) (id : Nat) (o o' : Ob) : (S.setB id o).setB id o' = S.setB id o' := by simp [St.setB]
theorem St.setF_fr {S : St} {ch : Nat} {y y' : Nat × Nat} (h : S.fr[ch]? = some y') : (S.setF ch y).fr[ch]? = some y := by
  unfold St.setF
  have := (List.getElem?_eq_some_iff.1 h).1
  simp [this]
end HM

/- A store with a player: a delivery is noted. -/
namespace HM
open Go Go.RowKit

theorem delWide (ds : List Del) : Wide 3 (ds.map Del.av) := by
  intro e he
  obtain ⟨d, _, rfl⟩ := List.mem_map.1 he
  rfl
section
variable {T : PTys} {S : St} {pb ch : Nat} {l : List Flow} {s : Sched} {x : List Rule} {Q : PL} {g : Nat → Nat → Nat} {sv dv : AV}
theorem PInv.delNew (h : PInv T S pb ch l s x Q g sv dv) (hq : Q.dels = []) (d : Del) (z : AV) (hz : z = d.av) (y1 : Nat × Nat) (e : TypeId) (k : Nat) (n m : Nat) (hn : n = S.bx.length) (hm : m = 1) :
    PInv T (((S.addF y1 e).addB (.cells (flatE [z] ++ List.replicate k .undef) T.d)).setB pb (.cells (plC l s x sv (.own (Q.atts.map Att.av) ch) (.vsl n 0 m 3)) T.p)) pb ch l s x ⟨Q.sts, Q.atts, Q.dels ++ [d]⟩ g sv (.vsl n 0 m 3) := by
  subst hz; subst hn; subst hm
  have hf := h.a
  have hne : S.bx.length ≠ pb := by have := (List.getElem?_eq_some_iff.1 h.p).1; omega
  refine h.setD _ _ (fun id o ho _ => ?_) ?_ ?_ (.inr ⟨S.bx.length, List.replicate k .undef, by rw [hq]; rfl, ?_⟩)
  · exact St.addB_old (S := S.addF y1 e) ho
  · rw [St.addB_fr]; exact (St.addF_fr hf).trans hf.symm
  · exact St.addF_ty (y := y1) hf
  · rw [St.setB_ne hne.symm, hq]
    exact St.addB_get (S.addF y1 e) _
theorem PInv.delRoom (h : PInv T S pb ch l s x Q g sv dv) {db : Nat} {ex : List AV} (hdv : dv = .vsl db 0 Q.dels.length 3) (hdb : S.bx[db]? = some (.cells (flatE (Q.dels.map Del.av) ++ ex) T.d)) (d : Del) (z : AV) (hz : z = d.av) (y1 : Nat × Nat) (e : TypeId)
    (hr : (Q.dels.length + 1) * 3 ≤ (flatE (Q.dels.map Del.av) ++ ex).length) :
    PInv T (((S.addF y1 e).setB db (.cells (splice (flatE (Q.dels.map Del.av) ++ ex) (Q.dels.length * 3) (flatE [z])) T.d)).setB pb (.cells (plC l s x sv (.own (Q.atts.map Att.av) ch) (.vsl db 0 (Q.dels.length + 1) 3)) T.p)) pb ch l s x ⟨Q.sts, Q.atts, Q.dels ++ [d]⟩ g sv (.vsl db 0 (Q.dels.length + 1) 3) := by
  subst hz
  have hf := h.a
  have hne : db ≠ pb := (ne_cc h.p hdb T.hpd).symm
  have hfl := (delWide Q.dels).flen
  rw [List.length_map] at hfl
  rw [List.length_append] at hr
  refine h.setD _ _ (fun id o ho hh => ?_) ?_ ?_ (.inr ⟨db, ex.drop 3, by simp, ?_⟩)
  · have hid : db ≠ id := by rintro rfl; exact hh 3 hdv
    rw [St.setB_ne hid]; exact ho
  · rw [St.setB_fr]; exact (St.addF_fr hf).trans hf.symm
  · exact St.addF_ty (y := y1) hf
  · rw [St.setB_ne hne.symm, St.setB_get (S := S.addF y1 e) hdb]
    have e1 : splice (flatE (Q.dels.map Del.av) ++ ex) (Q.dels.length * 3) (flatE [d.av]) = flatE ((Q.dels ++ [d]).map Del.av) ++ ex.drop 3 := by
      have hz : (flatE [d.av]).length = 3 := rfl
      rw [splice_eq _ _ _ (by rw [List.length_append, hz]; omega), hz, ← hfl, List.take_left, List.map_append, flatE_app]
      rw [List.drop_append]
      have : List.drop ((flatE (Q.dels.map Del.av)).length + 3) (flatE (Q.dels.map Del.av)) = [] := List.drop_eq_nil_of_le (by omega)
      rw [this, List.nil_append, show (flatE (Q.dels.map Del.av)).length + 3 - (flatE (Q.dels.map Del.av)).length = 3 from by omega]
      rfl
    rw [e1]
theorem PInv.delGrow (h : PInv T S pb ch l s x Q g sv dv) {db : Nat} {ex : List AV} (_hdv : dv = .vsl db 0 Q.dels.length 3) (_hdb : S.bx[db]? = some (.cells (flatE (Q.dels.map Del.av) ++ ex) T.d)) (d : Del) (z : AV) (hz : z = d.av) (y1 : Nat × Nat) (e : TypeId) (k n : Nat) (hn : n = S.bx.length) :
    PInv T (((S.addF y1 e).addB (.cells ((flatE (Q.dels.map Del.av) ++ ex).take (Q.dels.length * 3) ++ flatE [z] ++ List.replicate k .undef) T.d)).setB pb (.cells (plC l s x sv (.own (Q.atts.map Att.av) ch) (.vsl n 0 (Q.dels.length + 1) 3)) T.p)) pb ch l s x ⟨Q.sts, Q.atts, Q.dels ++ [d]⟩ g sv (.vsl n 0 (Q.dels.length + 1) 3) := by
  subst hz; subst hn
  have hf := h.a
  have hne : S.bx.length ≠ pb := by have := (List.getElem?_eq_some_iff.1 h.p).1; omega
  have hfl := (delWide Q.dels).flen
  rw [List.length_map] at hfl
  refine h.setD _ _ (fun id o ho _ => ?_) ?_ ?_ (.inr ⟨S.bx.length, List.replicate k .undef, by simp, ?_⟩)
  · exact St.addB_old (S := S.addF y1 e) ho
  · rw [St.addB_fr]; exact (St.addF_fr hf).trans hf.symm
  · exact St.addF_ty (y := y1) hf
  · rw [St.setB_ne hne.symm, ← hfl, List.take_left, List.map_append, flatE_app]
    exact St.addB_get (S.addF y1 e) _
end
/-- what lies in boxes stays, but the player and the deliveries -/
def InvY (T : PTys) (S S' : St) : Prop := ∀ (id : Nat) (cs : List AV) (t : TypeId), t ≠ T.p → t ≠ T.d → S.bx[id]? = some (.cells cs t) → S'.bx[id]? = some (.cells cs t)
theorem InvY.refl (T : PTys) (S : St) : InvY T S S := fun _ _ _ _ _ h => h
theorem InvY.setP {T : PTys} {S S' : St} {id : Nat} {cs : List AV} {o : Ob} (h : InvY T S S') (hb : S.bx[id]? = some (.cells cs T.p)) : InvY T S (S'.setB id o) := fun id' cs' t h1 h2 hc => by
  rw [St.setB_ne (ne_cc hb hc fun he => h1 he.symm)]; exact h id' cs' t h1 h2 hc
theorem InvY.setD {T : PTys} {S S' : St} {id : Nat} {cs : List AV} {o : Ob} (h : InvY T S S') (hb : S.bx[id]? = some (.cells cs T.d)) : InvY T S (S'.setB id o) := fun id' cs' t h1 h2 hc => by
  rw [St.setB_ne (ne_cc hb hc fun he => h2 he.symm)]; exact h id' cs' t h1 h2 hc
theorem InvY.addB {T : PTys} {S S' : St} {o : Ob} (h : InvY T S S') : InvY T S (S'.addB o) := fun id' cs' t h1 h2 hc => St.addB_old (h id' cs' t h1 h2 hc)
theorem InvY.addF {T : PTys} {S S' : St} {y : Nat × Nat} {e : TypeId} (h : InvY T S S') : InvY T S (S'.addF y e) := h
end HM

/- A store with a player: new frames. -/
namespace HM
open Go Go.RowKit

/-- the first k flows have looked for a new frame -/
def relK (l : List Flow) (slot : Int) (sts : List PS) : Nat → List PS
  | 0 => sts
  | k + 1 => match l[k]?, (relK l slot sts k)[k]? with
    | some f, some p => (relK l slot sts k).set k (relS f slot p)
    | _, _ => relK l slot sts k
theorem relK_len (l : List Flow) (slot : Int) (sts : List PS) : ∀ k, (relK l slot sts k).length = sts.length
  | 0 => rfl
  | k + 1 => by
    unfold relK
    split
    · rw [List.length_set, relK_len l slot sts k]
    · exact relK_len l slot sts k
theorem relK_get (l : List Flow) (slot : Int) (sts : List PS) (hl : sts.length = l.length) : ∀ (k i : Nat), (relK l slot sts k)[i]? = if i < k then (l.zipWith (fun f p => relS f slot p) sts)[i]? else sts[i]?
  | 0, i => by simp [relK]
  | k + 1, i => by
    have ih := relK_get l slot sts hl k
    unfold relK
    rcases Nat.lt_or_ge k l.length with hk | hk
    · have hk2 : k < sts.length := by omega
      have e1 : l[k]? = some l[k] := List.getElem?_eq_getElem hk
      have e2 : (relK l slot sts k)[k]? = some sts[k] := by rw [ih, if_neg (by omega)]; exact List.getElem?_eq_getElem hk2
      rw [e1, e2]
      simp only
      by_cases e : k = i
      · subst e
        rw [List.getElem?_set_self (by rw [relK_len]; exact hk2), if_pos (by omega)]
        simp [List.getElem?_zipWith, e1, List.getElem?_eq_getElem hk2]
      · rw [List.getElem?_set_ne e, ih]
        by_cases h1 : i < k
        · rw [if_pos h1, if_pos (by omega)]
        · rw [if_neg h1, if_neg (by omega)]
    · have e1 : l[k]? = none := List.getElem?_eq_none hk
      rw [e1]
      show (relK l slot sts k)[i]? = _
      rw [ih]
      by_cases h1 : i < k
      · rw [if_pos h1, if_pos (by omega)]
      · rw [if_neg h1]
        by_cases h2 : i < k + 1
        · rw [if_pos h2]
          have : l[i]? = none := List.getElem?_eq_none (by omega)
          have h3 : sts[i]? = none := List.getElem?_eq_none (by omega)
          simp [List.getElem?_zipWith, this, h3]
        · rw [if_neg h2]
theorem relK_all (l : List Flow) (slot : Int) (sts : List PS) (hl : sts.length = l.length) : relK l slot sts l.length = releaseS l slot sts := by
  apply List.ext_getElem?
  intro i
  rw [relK_get l slot sts hl]
  unfold releaseS
  by_cases h : i < l.length
  · rw [if_pos h]
  · rw [if_neg h]
    have h1 : sts[i]? = none := List.getElem?_eq_none (by omega)
    have h2 : l[i]? = none := List.getElem?_eq_none (by omega)
    simp [List.getElem?_zipWith, h1, h2]
theorem relK_step {l : List Flow} {slot : Int} {sts : List PS} {k : Nat} {f : Flow} {p : PS} (hf : l[k]? = some f) (hp : (relK l slot sts k)[k]? = some p) : relK l slot sts (k + 1) = (relK l slot sts k).set k (relS f slot p) := by
  rw [relK, hf, hp]

def gset (g : Nat → Nat → Nat) (i a b c : Nat) : Nat → Nat → Nat := fun i' j => if i' = i then (match j with | 0 => a | 1 => b | _ => c) else g i' j
section
variable {T : PTys} {S S' : St} {pb ch : Nat} {l : List Flow} {s : Sched} {x : List Rule} {Q : PL} {g : Nat → Nat → Nat} {sv dv : AV}
/-- a state begins anew -/
theorem PInv.fresh (h : PInv T S pb ch l s x Q g sv dv) (hx : ∀ (id : Nat) (o : Ob), S.bx[id]? = some o → S'.bx[id]? = some o) (hf : S'.fr = S.fr) (ht : S'.ty = S.ty) {qb : Nat} {ex : List AV} (hsv : sv = .vsl qb 0 Q.sts.length 5) (hq : S.bx[qb]? = some (.cells (flatE (statesE g Q.sts) ++ ex) T.q))
    {i : Nat} {p p' : PS} (hp : Q.sts[i]? = some p) (h0 : ¬ p'.frame < 0) {a b c : Nat} (ha : S'.bx[a]? = some (mapsOf p' 0)) (hb : S'.bx[b]? = some (mapsOf p' 1)) (hc : S'.bx[c]? = some (mapsOf p' 2)) (ga : S.bx.length ≤ a) (gb : S.bx.length ≤ b) (gc : S.bx.length ≤ c) (hab : a ≠ b) (hac : a ≠ c) (hbc : b ≠ c) :
    PInv T (S'.setB qb (.cells (flatE (statesE (gset g i a b c) (Q.sts.set i p')) ++ ex) T.q)) pb ch l s x ⟨Q.sts.set i p', Q.atts, Q.dels⟩ (gset g i a b c) sv dv := by
  have hil := (List.getElem?_eq_some_iff.1 hp).1
  have hself : ∀ k (q : PS), (Q.sts.set i p')[k]? = some q → i = k → q = p' := by
    intro k q hq e
    subst e
    rw [List.getElem?_set_self hil] at hq
    injection hq with hq; exact hq.symm
  have hoth : ∀ k (q : PS), (Q.sts.set i p')[k]? = some q → i ≠ k → Q.sts[k]? = some q := by
    intro k q hq e
    rwa [List.getElem?_set_ne e] at hq
  have hlt : ∀ k q, Q.sts[k]? = some q → 0 ≤ q.frame → ∀ j, j < 3 → g k j < S.bx.length := fun k q hq hq0 j hj => (List.getElem?_eq_some_iff.1 (h.m k q hq hq0 j hj)).1
  have hg : ∀ k j, i ≠ k → gset g i a b c k j = g k j := fun k j e => by unfold gset; rw [if_neg (fun hh => e hh.symm)]
  have hgi : ∀ j, gset g i a b c i j = (match j with | 0 => a | 1 => b | _ => c) := fun j => by unfold gset; rw [if_pos rfl]
  have hge : ∀ j, S.bx.length ≤ gset g i a b c i j := fun j => by
    rw [hgi]
    split <;> assumption
  have hq' := hx _ _ hq
  refine ⟨by rw [St.setB_ne (ne_cc h.p hq T.hpq).symm]; exact hx _ _ h.p, .inr ⟨qb, ex, by simpa using hsv, St.setB_get hq'⟩, fun k q hq1 hq0 j hj => ?_, fun k q k' q' hq1 hq1' hq0 hq0' j1 j2 hj1 hj2 he => ?_, by rw [St.setB_fr, hf]; exact h.a, by show S'.ty ch = _; rw [ht]; exact h.ty, fun e he => by rw [St.setB_ne (ne_cc hq (h.k e he) (T.hk e he).2.1.symm)]; exact hx _ _ (h.k e he), ?_⟩
  · have hm : S'.bx[gset g i a b c k j]? = some (mapsOf q j) := by
      by_cases e : i = k
      · subst e
        obtain rfl := hself i q hq1 rfl
        rw [hgi]
        rcases j with _ | _ | _ | j
        · exact ha
        · exact hb
        · exact hc
        · omega
      · rw [hg k j e]
        exact hx _ _ (h.m k q (hoth k q hq1 e) hq0 j hj)
    rw [St.setB_ne (ne_cM hq' hm)]
    exact hm
  · by_cases e : i = k
    · by_cases e' : i = k'
      · subst e; subst e'
        refine ⟨rfl, ?_⟩
        rw [hgi, hgi] at he
        rcases j1 with _ | _ | _ | j1 <;> rcases j2 with _ | _ | _ | j2 <;> first | rfl | omega | exact absurd he hab | exact absurd he hac | exact absurd he hbc | exact absurd he.symm hab | exact absurd he.symm hac | exact absurd he.symm hbc
      · subst e
        have h1 := hge j1
        have h2 := hlt k' q' (hoth k' q' hq1' e') hq0' j2 hj2
        rw [hg k' j2 e'] at he
        omega
    · by_cases e' : i = k'
      · subst e'
        have h1 := hge j2
        have h2 := hlt k q (hoth k q hq1 e) hq0 j1 hj1
        rw [hg k j1 e] at he
        omega
      · rw [hg k j1 e, hg k' j2 e'] at he
        exact h.inj _ _ _ _ (hoth k q hq1 e) (hoth k' q' hq1' e') hq0 hq0' j1 j2 hj1 hj2 he
  · rcases h.d with hd | ⟨db, ex2, h1, h2⟩
    · exact .inl hd
    · exact .inr ⟨db, ex2, h1, by rw [St.setB_ne (ne_cc hq h2 T.hqd)]; exact hx _ _ h2⟩
end
theorem statesE_gset (g : Nat → Nat → Nat) (q : List PS) (i a b c : Nat) (p : PS) (h0 : ¬ p.frame < 0) : (statesE g q).set i (.agg [.int .i64 p.frame, .mp a, .mp b, .mp c, .bool p.done]) = statesE (gset g i a b c) (q.set i p) := by
  apply List.ext_getElem?
  intro j
  simp only [statesE, List.getElem?_set, List.getElem?_mapIdx, List.length_mapIdx]
  by_cases e : i = j
  · subst e
    simp only [if_true]
    split
    · simp [stAV, mpv, h0, gset]
    · simp
  · simp only [e, if_false]
    cases hq : q[j]? with
    | none => rfl
    | some y =>
      simp only [Option.map_some, Option.some.injEq]
      have : gset g i a b c j = g j := by funext k; unfold gset; rw [if_neg (fun hh => e hh.symm)]
      rw [this]
/-- what lies in boxes stays, but the states -/
def InvZ (T : PTys) (S S' : St) : Prop := ∀ (id : Nat) (cs : List AV) (t : TypeId), t ≠ T.q → S.bx[id]? = some (.cells cs t) → S'.bx[id]? = some (.cells cs t)
theorem InvZ.refl (T : PTys) (S : St) : InvZ T S S := fun _ _ _ _ h => h
theorem InvZ.addB {T : PTys} {S S' : St} {o : Ob} (h : InvZ T S S') : InvZ T S (S'.addB o) := fun id' cs' t h1 hc => St.addB_old (h id' cs' t h1 hc)
theorem InvZ.setN {T : PTys} {S S' : St} {id : Nat} {o : Ob} (h : InvZ T S S') (hi : S.bx.length ≤ id) : InvZ T S (S'.setB id o) := fun id' cs' t h1 hc => by
  have := (List.getElem?_eq_some_iff.1 hc).1
  rw [St.setB_ne (by omega)]; exact h id' cs' t h1 hc
theorem InvZ.setQ {T : PTys} {S S' : St} {id : Nat} {cs : List AV} {o : Ob} (h : InvZ T S S') (hb : S.bx[id]? = some (.cells cs T.q)) : InvZ T S (S'.setB id o) := fun id' cs' t h1 hc => by
  rw [St.setB_ne (ne_cc hb hc fun he => h1 he.symm)]; exact h id' cs' t h1 hc
theorem St.len2 (S : St) (o o' : Ob) : S.bx.length ≤ ((S.addB o).addB o').bx.length := by rw [St.addB_len, St.addB_len]; omega
theorem mo0 {S : St} {sh : Option Nat} {ks : List (List Int)} {vs : List AV} : (S.addB (.map sh ks vs)).bx[S.bx.length]? = some (.map sh ks vs) := St.addB_get _ _
theorem mo1 {S : St} {sh : Option Nat} {ks : List (List Int)} {vs : List AV} {o : Ob} : ((S.addB (.map sh ks vs)).addB o).bx[S.bx.length]? = some (.map sh ks vs) := St.addB_old (St.addB_get _ _)
theorem mo2 {S : St} {sh : Option Nat} {ks : List (List Int)} {vs : List AV} {o o' : Ob} : (((S.addB (.map sh ks vs)).addB o).addB o').bx[S.bx.length]? = some (.map sh ks vs) := St.addB_old (St.addB_old (St.addB_get _ _))
theorem PInv.leaf {T : PTys} {S : St} {pb ch : Nat} {l : List Flow} {s : Sched} {x : List Rule} {Q : PL} {g : Nat → Nat → Nat} {sv dv : AV} (h : PInv T S pb ch l s x Q g sv dv) {qb : Nat} {ex : List AV} (hsv : sv = .vsl qb 0 Q.sts.length 5) (hq : S.bx[qb]? = some (.cells (flatE (statesE g Q.sts) ++ ex) T.q))
    {i : Nat} {p p' : PS} (hp : Q.sts[i]? = some p) (h0 : ¬ p'.frame < 0) {X : St} (tl : List Ob) (hX : X = ⟨S.bx ++ tl, S.fr, S.n0, S.m0, S.ty⟩) (ia ib ic : Nat) (ha : tl[ia]? = some (mapsOf p' 0)) (hb : tl[ib]? = some (mapsOf p' 1)) (hc : tl[ic]? = some (mapsOf p' 2)) (hab : ia ≠ ib) (hac : ia ≠ ic) (hbc : ib ≠ ic)
    {a b c off : Nat} (ea : a = S.bx.length + ia) (eb : b = S.bx.length + ib) (ec : c = S.bx.length + ic) (eo : off = i * 5) :
    PIn T (X.setB qb (.cells (splice (flatE (statesE g Q.sts) ++ ex) off [.int .i64 p'.frame, .mp a, .mp b, .mp c, .bool p'.done]) T.q)) pb ch l s x ⟨Q.sts.set i p', Q.atts, Q.dels⟩ := by
  subst hX; subst eo
  have hget : ∀ k o, tl[k]? = some o → (S.bx ++ tl)[S.bx.length + k]? = some o := fun k o hk => by
    rw [List.getElem?_append_right (by omega)]
    rw [show S.bx.length + k - S.bx.length = k from by omega]; exact hk
  have hF := h.fresh (S' := ⟨S.bx ++ tl, S.fr, S.n0, S.m0, S.ty⟩) (fun id o ho => (List.getElem?_append_left (List.getElem?_eq_some_iff.1 ho).1).trans ho) rfl rfl hsv hq hp h0 (a := a) (b := b) (c := c) (by subst ea; exact hget _ _ ha) (by subst eb; exact hget _ _ hb) (by subst ec; exact hget _ _ hc) (by omega) (by omega) (by omega) (by omega) (by omega) (by omega)
  have hil := (List.getElem?_eq_some_iff.1 hp).1
  have e1 : splice (flatE (statesE g Q.sts) ++ ex) (i * 5) [.int .i64 p'.frame, .mp a, .mp b, .mp c, .bool p'.done] = flatE (statesE (gset g i a b c) (Q.sts.set i p')) ++ ex := by
    have := Wide.sto (.agg [.int .i64 p'.frame, .mp a, .mp b, .mp c, .bool p'.done]) rfl ex (statesE_wide g Q.sts) (k := i) (by rw [statesE_len]; exact hil)
    rw [statesE_gset g Q.sts i a b c p' h0] at this
    exact this
  rw [e1]
  exact ⟨_, _, _, hF⟩
end HM

/- A slot of a run: how much there can be. -/
namespace HM
open Go Go.RowKit
theorem att_len (l : List Flow) (x : List Rule) (t : Int) (q : PL) (c : Cell) : (attemptS l x t q c).atts.length ≤ q.atts.length + 1 ∧ (attemptS l x t q c).dels.length ≤ q.dels.length + 1 ∧ (attemptS l x t q c).sts.length = q.sts.length := by
  unfold attemptS
  split
  · omega
  split
  · split
    · omega
    · refine ⟨by simp, ?_, by simp⟩
      simp only [List.length_append]
      split <;> simp
  · omega
theorem fold_len (l : List Flow) (x : List Rule) (t : Int) : ∀ (cs : List Cell) (q : PL), (cs.foldl (attemptS l x t) q).atts.length ≤ q.atts.length + cs.length ∧ (cs.foldl (attemptS l x t) q).dels.length ≤ q.dels.length + cs.length ∧ (cs.foldl (attemptS l x t) q).sts.length = q.sts.length
  | [], q => by simp
  | c :: cs, q => by
    have h1 := att_len l x t q c
    have h2 := fold_len l x t cs (attemptS l x t q c)
    simp only [List.foldl_cons, List.length_cons]
    omega
theorem fold_step (l : List Flow) (x : List Rule) (t : Int) {cs : List Cell} {k : Nat} {c : Cell} (h : cs[k]? = some c) (q : PL) : (cs.take (k + 1)).foldl (attemptS l x t) q = attemptS l x t ((cs.take k).foldl (attemptS l x t) q) c := by
  rw [take_succ h, List.foldl_append]
  rfl
theorem at_len (s : Sched) (t : Int) : (atM s t).length ≤ s.cells.length := by
  unfold atM
  split
  · simp
  · exact List.length_filter_le _ _
theorem slot_len (l : List Flow) (s : Sched) (x : List Rule) (q : PL) (t : Int) (hq : q.sts.length = l.length) : (slotS l s x q t).atts.length ≤ q.atts.length + s.cells.length ∧ (slotS l s x q t).dels.length ≤ q.dels.length + s.cells.length ∧ (slotS l s x q t).sts.length = l.length := by
  have h1 := fold_len l x t (atM s t) ⟨releaseS l t q.sts, q.atts, q.dels⟩
  have h2 := at_len s t
  have h3 : (releaseS l t q.sts).length = l.length := by simp [releaseS, hq]
  unfold slotS
  simp only at h1 ⊢
  refine ⟨by omega, ?_, by rw [h1.2.2, h3]⟩
  rw [List.length_append, List.length_mergeSort, ← List.length_append, List.take_append_drop]
  omega
theorem play_len {l : List Flow} (sc : Nat → Sched) (x : List Rule) {m : Nat} (hm : ∀ i, (sc i).cells.length ≤ m) : ∀ n, (playV l sc x n).atts.length ≤ n * m ∧ (playV l sc x n).dels.length ≤ n * m ∧ (playV l sc x n).sts.length = l.length
  | 0 => by simp [playV]
  | n + 1 => by
    obtain ⟨h1, h2, h3⟩ := play_len sc x hm n
    have h4 := slot_len l (sc n) x (playV l sc x n) n h3
    have h5 := hm n
    rw [playV, Nat.add_mul]
    omega
theorem PInv.frames {T : PTys} {S S' : St} {pb ch : Nat} {l : List Flow} {s : Sched} {x : List Rule} {Q : PL} (h : PIn T S pb ch l s x Q) (hx : S'.bx = S.bx) (hf : S'.fr = S.fr) (ht : S'.ty = S.ty) : PIn T S' pb ch l s x Q := by
  obtain ⟨g, sv, dv, h⟩ := h
  exact ⟨g, sv, dv, h.more (fun _ _ ho => by rw [hx]; exact ho) (by rw [hf]) (by rw [ht])⟩
/-- the deliveries of a slot sorted in place -/
theorem PInv.sortD {T : PTys} {S : St} {pb ch : Nat} {l : List Flow} {s : Sched} {x : List Rule} {Q : PL} {g : Nat → Nat → Nat} {sv dv : AV} (h : PInv T S pb ch l s x Q g sv dv) {db : Nat} {ex : List AV} (hdv : dv = .vsl db 0 Q.dels.length 3) (hdb : S.bx[db]? = some (.cells (flatE (Q.dels.map Del.av) ++ ex) T.d)) {ds : List Del} (hl : ds.length = Q.dels.length) :
    PIn T (S.setB db (.cells (flatE (ds.map Del.av) ++ ex) T.d)) pb ch l s x ⟨Q.sts, Q.atts, ds⟩ := by
  refine ⟨g, sv, dv, ?_, ?_, fun k q hq hq0 j hj => ?_, h.inj, h.a, h.ty, fun e he => by rw [St.setB_ne (ne_cc hdb (h.k e he) (T.hk e he).2.2.symm)]; exact h.k e he, .inr ⟨db, ex, by rw [hl]; exact hdv, St.setB_get hdb⟩⟩
  · rw [St.setB_ne (ne_cc h.p hdb T.hpd).symm]; exact h.p
  · rcases h.q with hq | ⟨qb, ex2, h1, h2⟩
    · exact .inl hq
    · exact .inr ⟨qb, ex2, h1, by rw [St.setB_ne (ne_cc h2 hdb T.hqd).symm]; exact h2⟩
  · have := h.m k q hq hq0 j hj
    rw [St.setB_ne (ne_cM hdb this)]; exact this
end HM

/- The law on a flow on its own. -/
namespace HM
open Go Go.RowKit

end HM
namespace HM
theorem playM_len {l : List Flow} {s : Sched} {x : List Rule} {slots : Int} : (playM l s x slots).1.atts.length ≤ 2097152 ∧ (playM l s x slots).1.dels.length ≤ 2097152 := by
  by_cases hready : readyM l s x slots = 0
  · obtain ⟨r1, r2, r3, r4, r5⟩ := ready_all hready
    have hcl := (form_all r2).2.1
    have := play_len (l := l) (fun _ => s) x (m := 512) (fun _ => hcl) slots.toNat
    have hs := playV_R (flowsOk_of r1) (fun _ => s) x slots.toNat (by omega)
    rw [playM_R hready]
    simp only
    rw [hs.dl, hs.at_]
    omega
  · rw [playM_bad hready]; simp
end HM

/- The cells that are needed: their own slots are the same. -/
namespace HM
open Go Go.RowKit

theorem sorted_filter {α : Type} {c : α → α → Int} {l : List α} (p : α → Bool) (h : Sorted c l) : Sorted c (l.filter p) := by
  have h1 : l.Pairwise (fun x y => c x y < 0) := by
    rw [List.pairwise_iff_getElem]
    intro i j hi hj hij
    exact h i j _ _ hij (List.getElem?_eq_getElem hi) (List.getElem?_eq_getElem hj)
  have h2 := h1.filter p
  rw [List.pairwise_iff_getElem] at h2
  intro i j x y hij hx hy
  obtain ⟨hi, rfl⟩ := List.getElem?_eq_some_iff.1 hx
  obtain ⟨hj, rfl⟩ := List.getElem?_eq_some_iff.1 hy
  exact h2 i j hi hj hij
theorem formB_filter {s : Sched} (h : formB s = true) (p : Cell → Bool) : formB ⟨s.len, s.offs, s.cells.filter p⟩ = true := by
  obtain ⟨f1, f2, f3⟩ := form_all h
  refine formB_mk f1 (Nat.le_trans (List.length_filter_le _ _) f2) (fun c hc => ?_) (sorted_filter p (formB_sorted h))
  have e := formedB_len (s := s) (t := ⟨s.len, s.offs, s.cells.filter p⟩) rfl rfl c
  rw [e]
  exact f3 c (List.mem_filter.1 hc).1
end HM

/- A cell put in and taken out, as the reference does it. -/
namespace HM
open Go Go.RowKit

end HM
namespace HM
open Go Go.RowKit
structure AppI (s : Sched) (cs : List Chg) (t : Int) (k : Nat) (u o : Sched) : Prop where
  le : k ≤ cs.length
  eq : appM none s s cs t = appM (prevS cs k) u o (cs.drop k) t
theorem AppI.zero (s : Sched) (cs : List Chg) (t : Int) : AppI s cs t 0 s s := ⟨Nat.zero_le _, rfl⟩
theorem AppI.step {s u o : Sched} {cs : List Chg} {t : Int} {k : Nat} (h : AppI s cs t k u o) {c : Chg} (hc : cs[k]? = some c) (he : chgE (prevS cs k) c = 0) (h2 : (chgM u c).2 = 0) : AppI s cs t (k + 1) (chgM u c).1 (if c.slot ≤ t then (chgM u c).1 else o) := by
  refine ⟨(List.getElem?_eq_some_iff.1 hc).1, ?_⟩
  have hp : prevS cs (k + 1) = some c.slot := by simp [prevS, hc]
  rw [h.eq, dropGet hc, appM, if_neg (by simp [he]), if_neg (fun hh => hh h2), hp]
theorem AppI.fin {s u o : Sched} {cs : List Chg} {t : Int} (h : AppI s cs t cs.length u o) : appM none s s cs t = (o, 0) := by
  rw [h.eq, List.drop_length]; rfl
end HM

/- Looking through attempts and rules one by one. -/
namespace HM
open Go Go.RowKit

end HM

/- Deliveries put in, from the end; attempts of the reference. -/
namespace HM
open Go Go.RowKit

end HM

/- How long the reference's runs are. -/
namespace HM
open Go Go.RowKit

end HM
namespace HM
end HM

/- Breaches of a run. -/
namespace HM
open Go Go.RowKit

-- maps with any values
def getK {α : Type} (ks : List (List Int)) (vs : List α) (x : List Int) : Option α := (posOf ks x).bind fun i => vs[i]?
def putV {α : Type} (ks : List (List Int)) (vs : List α) (x : List Int) (v : α) : List α := match posOf ks x with
  | some i => vs.set i v
  | none => vs ++ [v]
theorem assoc_map {α : Type} (f : α → AV) (ks : List (List Int)) (vs : List α) (x : List Int) : assoc ks (vs.map f) x = (getK ks vs x).map f := by
  unfold assoc getK
  cases posOf ks x with
  | none => rfl
  | some i => simp
theorem setVs_map {α : Type} (f : α → AV) (ks : List (List Int)) (vs : List α) (x : List Int) (v : α) : setVs ks (vs.map f) x (f v) = (putV ks vs x v).map f := by
  unfold setVs putV
  cases posOf ks x with
  | none => simp
  | some i => simp [List.map_set]
theorem posOf_lt {ks : List (List Int)} {x : List Int} {i : Nat} (h : posOf ks x = some i) : i < ks.length := (List.getElem?_eq_some_iff.1 (posOf_some h)).1
theorem posOf_app {ks : List (List Int)} {x y : List Int} : posOf (ks ++ [x]) y = match posOf ks y with
    | some i => some i
    | none => if x = y then some ks.length else none := by
  induction ks with
  | nil => simp [posOf]
  | cons k ks ih =>
    simp only [List.cons_append, posOf, ih]
    split
    · rfl
    · cases posOf ks y with
      | some i => rfl
      | none =>
        simp only [Option.map_none]
        split
        · simp
        · rfl
theorem put_len {α : Type} {ks : List (List Int)} {vs : List α} (h : ks.length = vs.length) (x : List Int) (v : α) : (setKs ks x).length = (putV ks vs x v).length := by
  unfold setKs putV
  cases posOf ks x <;> simp [h]
theorem get_put {α : Type} {ks : List (List Int)} {vs : List α} (h : ks.length = vs.length) (x y : List Int) (v : α) : getK (setKs ks x) (putV ks vs x v) y = if x = y then some v else getK ks vs y := by
  unfold getK setKs putV
  cases hx : posOf ks x with
  | some i =>
    have hi := posOf_lt hx
    simp only
    by_cases e : x = y
    · subst e
      rw [if_pos rfl, hx]
      simp [h ▸ hi]
    · rw [if_neg e]
      cases hy : posOf ks y with
      | none => rfl
      | some j =>
        have : i ≠ j := fun hij => by
          subst hij
          have h1 := posOf_some hx
          rw [posOf_some hy] at h1
          injection h1 with h1
          exact e h1.symm
        simp only [Option.bind_some]
        rw [List.getElem?_set_ne this]
  | none =>
    simp only [posOf_app]
    by_cases e : x = y
    · subst e
      rw [if_pos rfl, hx, if_pos rfl]
      simp [h]
    · rw [if_neg e]
      cases hy : posOf ks y with
      | none => simp [e]
      | some j => simp [e, List.getElem?_append_left (h ▸ posOf_lt hy)]
theorem setKs_nodup {ks : List (List Int)} (h : ks.Nodup) (x : List Int) : (setKs ks x).Nodup := by
  unfold setKs
  cases hx : posOf ks x with
  | some i => exact h
  | none =>
    have := posOf_none.1 hx
    rw [List.nodup_append]
    exact ⟨h, by simp, fun a ha b hb => by simp at hb; subst hb; exact fun e => this (e ▸ ha)⟩
theorem mem_setK {ks : List (List Int)} {x y : List Int} : y ∈ setKs ks x ↔ y ∈ ks ∨ y = x := by
  unfold setKs
  cases h : posOf ks x with
  | none => simp
  | some i =>
    refine ⟨.inl, fun h1 => h1.elim id fun e => ?_⟩
    rw [e]
    exact List.mem_of_getElem? (posOf_some h)
theorem get_mem {α : Type} {ks : List (List Int)} {vs : List α} (hn : ks.Nodup) {i : Nat} {k : List Int} (hk : ks[i]? = some k) : getK ks vs k = vs[i]? := by
  unfold getK
  cases h : posOf ks k with
  | none => exact absurd (List.mem_of_getElem? hk) (posOf_none.1 h)
  | some j =>
    have h1 := posOf_some h
    obtain ⟨hi, hi'⟩ := List.getElem?_eq_some_iff.1 hk
    obtain ⟨hj, hj'⟩ := List.getElem?_eq_some_iff.1 h1
    have hp := List.pairwise_iff_getElem.1 hn
    rcases Nat.lt_trichotomy j i with h2 | rfl | h2
    · exact absurd (hj'.trans hi'.symm) (hp j i hj hi h2)
    · rfl
    · exact absurd (hi'.trans hj'.symm) (hp i j hi hj h2)
-- breaches
structure Brc where
  flow : Int
  frame : Int
  src : Int
  dst : Int
  slots : List Int
  deriving DecidableEq
def Brc.av (b : Brc) : AV := .agg [.int .i64 b.flow, .int .i64 b.frame, .int .i64 b.src, .int .i64 b.dst, encIs b.slots]
def Brc.key (b : Brc) : List Int := [b.flow, b.frame, b.src, b.dst]
def Brc.of (k : List Int) (s : List Int) : Brc := ⟨k.getD 0 0, k.getD 1 0, k.getD 2 0, k.getD 3 0, s⟩
def encBrcs (l : List Brc) : AV := .sl false (l.map Brc.av)
def Att.key (a : Att) : List Int := [a.cell.flow, a.frame, a.cell.src, a.cell.dst]
theorem brcOk : EncOk Brc.av 5 := ⟨fun _ => rfl, fun _ => rfl, fun _ => rfl, fun _ => rfl, by decide⟩
theorem of_key (a : Att) (s : List Int) : (Brc.of a.key s).key = a.key := rfl
theorem of_self (b : Brc) : Brc.of b.key b.slots = b := rfl

theorem assoc_at {ks : List (List Int)} {vs : List AV} {x y : List Int} {o : Option AV} (h : assoc ks vs y = o) (hx : x = y) : assoc ks vs x = o := hx ▸ h
theorem updT_same {ty : Nat → TypeId} {i : Nat} {e : TypeId} (h : ∀ c, ty c = e) (c : Nat) : updT ty i e c = e := by
  unfold updT
  split
  · rfl
  · exact h c
theorem FitF.nil (l : Frs) : FitF l [] := by unfold FitF; trivial
theorem FitF.app : ∀ (l m : Frs), FitF (l ++ m) l
  | [], _ => by unfold FitF; trivial
  | _ :: l, m => ⟨rfl, FitF.app l m⟩
theorem FitF.setApp {l m : Frs} {i : Nat} (x : Nat × Nat) (h : i < l.length) : FitF ((l ++ m).set i x) (l.set i x) := by
  rw [List.set_append_left _ _ h]
  exact FitF.app _ _
theorem FitT.of_all {ty ty' : Nat → TypeId} (h : ∀ c, ty' c = ty c) : ∀ n, FitT ty ty' n
  | 0 => trivial
  | n + 1 => ⟨h n, FitT.of_all h n⟩
/-- what an attempt does to the row of its frame on its link -/
def brS (k : List Int) (loss : Int) (st : List Int × Option (List Int)) (a : Att) : List Int × Option (List Int) :=
  if a.key = k ∧ st.2 = none then (if a.out = 1 then ([], none) else (st.1 ++ [a.slot], if loss < (st.1.length + 1 : Nat) then some (st.1 ++ [a.slot]) else none)) else st
/-- the row of a frame on a link, and what broke the promise -/
def brk (k : List Int) (loss : Int) (ats : List Att) : List Int × Option (List Int) := ats.foldl (brS k loss) ([], none)
theorem brk_snoc (k : List Int) (loss : Int) (ats : List Att) (a : Att) : brk k loss (ats ++ [a]) = brS k loss (brk k loss ats) a := by simp [brk]
def linkK (n : Net) (k : List Int) : Int := findL n (k.getD 2 0) (k.getD 3 0)
def lossK (n : Net) (k : List Int) : Int := lossL n (k.getD 2 0) (k.getD 3 0)

/-- what the program has of the attempts so far -/
structure BS where
  ks : List (List Int)
  vs : List (Option (List Int × Nat))
  fk : List (List Int)
  fv : List (List Int × Nat)
  fr : Frs
def encO : Option (List Int × Nat) → AV
  | none => .nils
  | some p => .own (p.1.map encI) p.2
def encP (p : List Int × Nat) : AV := .own (p.1.map encI) p.2
def BS.row (b : BS) (k : List Int) : Option (List Int × Nat) := (getK b.ks b.vs k).getD none
def appO (fr : Frs) (v : Option (List Int × Nat)) (x : Int) : List Int × Nat := match v with
  | none => ([x], (fr ++ [(1, 1)]).length)
  | some p => (p.1 ++ [x], p.2)
def frO (fr : Frs) (v : Option (List Int × Nat)) : Frs := match v with
  | none => (fr ++ [(1, 1)]) ++ [(1, 1)]
  | some p => fr.set p.2 (p.1.length + 1, 1)
def stepB (n : Net) (b : BS) (a : Att) : BS :=
  if linkK n a.key < 0 ∨ (getK b.fk b.fv a.key).isSome = true then b
  else if a.out = 1 then { b with ks := setKs b.ks a.key, vs := putV b.ks b.vs a.key none }
  else
    let p := appO b.fr (b.row a.key) a.slot
    if lossK n a.key < (p.1.length : Nat) then ⟨setKs b.ks a.key, putV b.ks b.vs a.key (some p), setKs b.fk a.key, putV b.fk b.fv a.key p, frO b.fr (b.row a.key)⟩
    else ⟨setKs b.ks a.key, putV b.ks b.vs a.key (some p), b.fk, b.fv, frO b.fr (b.row a.key)⟩
def runB (n : Net) (ats : List Att) : BS := ats.foldl (stepB n) ⟨[], [], [], [], []⟩
theorem runB_snoc (n : Net) (ats : List Att) (a : Att) : runB n (ats ++ [a]) = stepB n (runB n ats) a := by simp [runB]

structure BOk (n : Net) (ats : List Att) (b : BS) : Prop where
  l1 : b.ks.length = b.vs.length
  l2 : b.fk.length = b.fv.length
  nd : b.fk.Nodup
  from_ : ∀ k ∈ b.fk, ∃ a ∈ ats, a.key = k ∧ 0 ≤ linkK n k
  fo : ∀ k, 0 ≤ linkK n k → (getK b.fk b.fv k).map (·.1) = (brk k (lossK n k) ats).2
  ne : ∀ p ∈ b.fv, p.1 ≠ [] ∧ p.2 < b.fr.length
  rw_ : ∀ k, 0 ≤ linkK n k → (brk k (lossK n k) ats).2 = none → match b.row k with
    | none => (brk k (lossK n k) ats).1 = []
    | some p => (brk k (lossK n k) ats).1 = p.1 ∧ b.fr[p.2]? = some (p.1.length, 1)
  lt : ∀ k p, b.row k = some p → p.1 ≠ [] ∧ p.2 < b.fr.length
  un : ∀ k k' p p', b.row k = some p → b.row k' = some p' → p.2 = p'.2 → k = k'
  al : ∀ v ∈ b.vs, ∀ p, v = some p → p.2 < b.fr.length
  fl : b.fk.length ≤ ats.length
  rl : ∀ k p, b.row k = some p → p.1.length ≤ ats.length
theorem mem_putV {α : Type} {ks : List (List Int)} {vs : List α} {x : List Int} {v u : α} (h : u ∈ putV ks vs x v) : u ∈ vs ∨ u = v := by
  unfold putV at h
  split at h
  · exact List.mem_or_eq_of_mem_set h
  · simpa using h
theorem setKs_len_le (ks : List (List Int)) (x : List Int) : (setKs ks x).length ≤ ks.length + 1 := by
  unfold setKs
  split <;> simp
theorem BOk.start (n : Net) : BOk n [] ⟨[], [], [], [], []⟩ where
  l1 := rfl
  l2 := rfl
  nd := .nil
  from_ := by simp
  fo := fun k _ => rfl
  ne := by simp
  rw_ := fun k _ _ => rfl
  lt := fun k p h => by cases h
  un := fun k k' p p' h => by cases h
  al := by simp
  fl := by simp
  rl := fun k p h => by cases h
theorem row_put {b : BS} (h : b.ks.length = b.vs.length) (x y : List Int) (v : Option (List Int × Nat)) (fk : List (List Int)) (fv : List (List Int × Nat)) (fr : Frs) : BS.row ⟨setKs b.ks x, putV b.ks b.vs x v, fk, fv, fr⟩ y = if x = y then v else b.row y := by
  unfold BS.row
  simp only [get_put h]
  split <;> rfl
theorem okk_encO {b : BS} {n : Net} {ats : List Att} (h : BOk n ats b) (k : Nat) : okks k b.fr.length (b.vs.map encO) := okks_mem.2 fun e he => by
  obtain ⟨v, hv, rfl⟩ := List.mem_map.1 he
  cases v with
  | none => trivial
  | some p => exact h.al _ hv p rfl
theorem okk_encP {b : BS} {n : Net} {ats : List Att} (h : BOk n ats b) (k : Nat) : okks k b.fr.length (b.fv.map encP) := okks_mem.2 fun e he => by
  obtain ⟨p, hp, rfl⟩ := List.mem_map.1 he
  exact (h.ne p hp).2
theorem frO_len (fr : Frs) (v : Option (List Int × Nat)) : fr.length ≤ (frO fr v).length := by
  cases v <;> simp [frO]
theorem brS_ne {k : List Int} {loss : Int} {st : List Int × Option (List Int)} {a : Att} (h : a.key ≠ k) : brS k loss st a = st := by rw [brS, if_neg (fun hh => h hh.1)]
theorem brS_done {k : List Int} {loss : Int} {st : List Int × Option (List Int)} {a : Att} (h : st.2 ≠ none) : brS k loss st a = st := by rw [brS, if_neg (fun hh => h hh.2)]
theorem frO_old {fr : Frs} {v : Option (List Int × Nat)} {c : Nat} {x : Nat × Nat} (h : fr[c]? = some x) (hn : ∀ p, v = some p → p.2 ≠ c) : (frO fr v)[c]? = some x := by
  cases v with
  | none => rw [frO, List.append_assoc, List.getElem?_append_left (List.getElem?_eq_some_iff.1 h).1]; exact h
  | some p => rw [frO, List.getElem?_set_ne (hn p rfl)]; exact h
theorem appO_chain {fr : Frs} {v : Option (List Int × Nat)} (x : Int) (hv : ∀ p, v = some p → p.2 < fr.length) : (appO fr v x).1 ≠ [] ∧ (appO fr v x).2 < (frO fr v).length ∧ (frO fr v)[(appO fr v x).2]? = some ((appO fr v x).1.length, 1) := by
  cases v with
  | none => exact ⟨by simp [appO], by simp [appO, frO], by simp [appO, frO]⟩
  | some p =>
    have := hv p rfl
    exact ⟨by simp [appO], by simpa [appO, frO] using this, by simp [appO, frO, this]⟩
theorem okk_step1 {b : BS} {n : Net} {ats : List Att} (h : BOk n ats b) (k : Nat) (key : List Int) (x : Int) : okks k (frO b.fr (b.row key)).length ((putV b.ks b.vs key (some (appO b.fr (b.row key) x))).map encO) := okks_mem.2 fun e he => by
  obtain ⟨v, hv, rfl⟩ := List.mem_map.1 he
  have hl := frO_len b.fr (b.row key)
  rcases mem_putV hv with hv | rfl
  · cases v with
    | none => trivial
    | some p => exact Nat.lt_of_lt_of_le (h.al _ hv p rfl) hl
  · exact (appO_chain (fr := b.fr) x fun q hq => (h.lt _ q hq).2).2.1
theorem okk_step2 {b : BS} {n : Net} {ats : List Att} (h : BOk n ats b) (k : Nat) (key : List Int) : okks k (frO b.fr (b.row key)).length (b.fv.map encP) := okks_mem.2 fun e he => by
  obtain ⟨p, hp, rfl⟩ := List.mem_map.1 he
  exact Nat.lt_of_lt_of_le (h.ne p hp).2 (frO_len _ _)
theorem BOk.step {n : Net} {ats : List Att} {b : BS} (h : BOk n ats b) (a : Att) : BOk n (ats ++ [a]) (stepB n b a) := by
  have same : ∀ k, a.key ≠ k → brk k (lossK n k) (ats ++ [a]) = brk k (lossK n k) ats := fun k hk => by rw [brk_snoc, brS_ne hk]
  have keep : (∀ k, 0 ≤ linkK n k → brk k (lossK n k) (ats ++ [a]) = brk k (lossK n k) ats) → BOk n (ats ++ [a]) b := fun hh =>
    ⟨h.l1, h.l2, h.nd, fun k hk => let ⟨x, hx, e⟩ := h.from_ k hk; ⟨x, by simp [hx], e⟩, fun k hk => by rw [hh k hk]; exact h.fo k hk, h.ne, fun k hk => by rw [hh k hk]; exact h.rw_ k hk, h.lt, h.un, h.al, by have := h.fl; simp; omega, fun k p hp => by have := h.rl k p hp; simp; omega⟩
  unfold stepB
  by_cases h1 : linkK n a.key < 0 ∨ (getK b.fk b.fv a.key).isSome = true
  · rw [if_pos h1]
    refine keep fun k hk => ?_
    by_cases e : a.key = k
    · subst e
      rcases h1 with h1 | h1
      · omega
      · rw [brk_snoc, brS_done]
        rw [← h.fo _ hk]
        cases hg : getK b.fk b.fv a.key with
        | none => rw [hg] at h1; cases h1
        | some p => simp
    · exact same k e
  rw [if_neg h1]
  have hlk : 0 ≤ linkK n a.key := by
    rcases Int.lt_or_le (linkK n a.key) 0 with hh | hh
    · exact absurd (.inl hh) h1
    · exact hh
  have hnf : getK b.fk b.fv a.key = none := by
    cases hg : getK b.fk b.fv a.key with
    | none => rfl
    | some p => exact absurd (.inr (by rw [hg]; rfl)) h1
  have hb2 : (brk a.key (lossK n a.key) ats).2 = none := by rw [← h.fo _ hlk, hnf]; rfl
  have hrow := h.rw_ _ hlk hb2
  have hfrom : ∀ k ∈ setKs b.fk a.key, ∃ x ∈ ats ++ [a], x.key = k ∧ 0 ≤ linkK n k := fun k hk => by
    rcases mem_setK.1 hk with hk | rfl
    · obtain ⟨x, hx, e⟩ := h.from_ k hk
      exact ⟨x, by simp [hx], e⟩
    · exact ⟨a, by simp, rfl, hlk⟩
  by_cases ho : a.out = 1
  · rw [if_pos ho]
    have hnew : brk a.key (lossK n a.key) (ats ++ [a]) = ([], none) := by rw [brk_snoc, brS, if_pos ⟨rfl, hb2⟩, if_pos ho]
    refine ⟨put_len h.l1 _ _, h.l2, h.nd, fun k hk => let ⟨x, hx, e⟩ := h.from_ k hk; ⟨x, by simp [hx], e⟩, fun k hk => ?_, h.ne, fun k hk hk2 => ?_, fun k p hp => ?_, fun k k' p p' hp hp' he => ?_, fun v hv p hvp => ?_, by have := h.fl; simp; omega, fun k p hp => ?_⟩
    · by_cases e : a.key = k
      · subst e; rw [hnew]; simp only; rw [hnf]; rfl
      · rw [same k e]; exact h.fo k hk
    · rw [row_put h.l1]
      by_cases e : a.key = k
      · subst e; rw [if_pos rfl, hnew]
      · rw [if_neg e, same k e]; rw [same k e] at hk2; exact h.rw_ k hk hk2
    · rw [row_put h.l1] at hp
      split at hp
      · cases hp
      · exact h.lt k p hp
    · rw [row_put h.l1] at hp hp'
      split at hp
      · cases hp
      split at hp'
      · cases hp'
      exact h.un k k' p p' hp hp' he
    · rcases mem_putV hv with hv | hv
      · exact h.al v hv p hvp
      · rw [hv] at hvp; cases hvp
    · rw [row_put h.l1] at hp
      split at hp
      · cases hp
      · have := h.rl k p hp; simp; omega
  rw [if_neg ho]
  simp only
  obtain ⟨p, hp⟩ : ∃ p, p = appO b.fr (b.row a.key) a.slot := ⟨_, rfl⟩
  rw [← hp]
  have hv : ∀ q, b.row a.key = some q → q.2 < b.fr.length := fun q hq => (h.lt _ q hq).2
  obtain ⟨c1, c2, c3⟩ := appO_chain (fr := b.fr) a.slot hv
  rw [← hp] at c1 c2 c3
  have hfl := frO_len b.fr (b.row a.key)
  have hpr : (brk a.key (lossK n a.key) ats).1 ++ [a.slot] = p.1 := by
    rw [hp]
    cases hr : b.row a.key with
    | none => rw [hr] at hrow; simp only at hrow; rw [hrow]; rfl
    | some q => rw [hr] at hrow; simp only at hrow; rw [hrow.1]; rfl
  have hlen : ((brk a.key (lossK n a.key) ats).1.length + 1) = p.1.length := by rw [← hpr]; simp
  have hnew : brk a.key (lossK n a.key) (ats ++ [a]) = (p.1, if lossK n a.key < (p.1.length : Nat) then some p.1 else none) := by rw [brk_snoc, brS, if_pos ⟨rfl, hb2⟩, if_neg ho, hpr, hlen]
  -- what holds of the rows in both cases
  have hold : ∀ k q, a.key ≠ k → b.row k = some q → ∀ x, b.fr[q.2]? = some x → (frO b.fr (b.row a.key))[q.2]? = some x := fun k q hk hq x hx => frO_old hx fun r hr he => hk (h.un _ _ _ _ hr hq he)
  have rows : ∀ (fk : List (List Int)) (fv : List (List Int × Nat)), (∀ k, 0 ≤ linkK n k → (brk k (lossK n k) (ats ++ [a])).2 = none → match BS.row ⟨setKs b.ks a.key, putV b.ks b.vs a.key (some p), fk, fv, frO b.fr (b.row a.key)⟩ k with
      | none => (brk k (lossK n k) (ats ++ [a])).1 = []
      | some q => (brk k (lossK n k) (ats ++ [a])).1 = q.1 ∧ (frO b.fr (b.row a.key))[q.2]? = some (q.1.length, 1)) ∧
      (∀ k q, BS.row ⟨setKs b.ks a.key, putV b.ks b.vs a.key (some p), fk, fv, frO b.fr (b.row a.key)⟩ k = some q → q.1 ≠ [] ∧ q.2 < (frO b.fr (b.row a.key)).length) ∧
      (∀ k k' q q', BS.row ⟨setKs b.ks a.key, putV b.ks b.vs a.key (some p), fk, fv, frO b.fr (b.row a.key)⟩ k = some q → BS.row ⟨setKs b.ks a.key, putV b.ks b.vs a.key (some p), fk, fv, frO b.fr (b.row a.key)⟩ k' = some q' → q.2 = q'.2 → k = k') ∧
      (∀ v ∈ putV b.ks b.vs a.key (some p), ∀ q, v = some q → q.2 < (frO b.fr (b.row a.key)).length) ∧
      (∀ k q, BS.row ⟨setKs b.ks a.key, putV b.ks b.vs a.key (some p), fk, fv, frO b.fr (b.row a.key)⟩ k = some q → q.1.length ≤ (ats ++ [a]).length) := by
    intro fk fv
    have hpn : ∀ k q, a.key ≠ k → b.row k = some q → p.2 ≠ q.2 := fun k q hk hq he => by
      cases hr : b.row a.key with
      | none =>
        have : p.2 = b.fr.length + 1 := by rw [hp, hr]; simp [appO]
        have := (h.lt k q hq).2
        omega
      | some r =>
        have : p.2 = r.2 := by rw [hp, hr]; rfl
        exact hk (h.un _ _ _ _ hr hq (by omega))
    refine ⟨fun k hk hk2 => ?_, fun k q hq => ?_, fun k k' q q' hq hq' he => ?_, fun v hv q hvq => ?_, fun k q hq => ?_⟩
    · rw [row_put h.l1]
      by_cases e : a.key = k
      · subst e; rw [if_pos rfl, hnew]; exact ⟨rfl, c3⟩
      · rw [if_neg e, same k e]
        rw [same k e] at hk2
        have := h.rw_ k hk hk2
        cases hr : b.row k with
        | none => rw [hr] at this; exact this
        | some q => rw [hr] at this; exact ⟨this.1, hold k q e hr _ this.2⟩
    · rw [row_put h.l1] at hq
      split at hq
      · injection hq with hq; subst hq; exact ⟨c1, c2⟩
      · have := h.lt k q hq; exact ⟨this.1, by omega⟩
    · rw [row_put h.l1] at hq hq'
      split at hq
      · rename_i e
        split at hq'
        · rename_i e'; exact e.symm.trans e'
        · rename_i e'
          injection hq with hq
          exact absurd (by rw [hq]; exact he) (hpn k' q' e' hq')
      · rename_i e
        split at hq'
        · injection hq' with hq'
          exact absurd (by rw [hq']; exact he.symm) (hpn k q e hq)
        · exact h.un k k' q q' hq hq' he
    · rcases mem_putV hv with hv | hv
      · have := h.al v hv q hvq; omega
      · rw [hv] at hvq; injection hvq with hvq; subst hvq; exact c2
    · rw [row_put h.l1] at hq
      split at hq
      · injection hq with hq
        rw [← hq, hp]
        cases hr : b.row a.key with
        | none => simp [appO]
        | some r => have := h.rl _ r hr; simp [appO]; omega
      · have := h.rl k q hq; simp; omega
  by_cases hl : lossK n a.key < (p.1.length : Nat)
  · rw [if_pos hl]
    rw [if_pos hl] at hnew
    obtain ⟨r1, r2, r3, r4, r5⟩ := rows (setKs b.fk a.key) (putV b.fk b.fv a.key p)
    refine ⟨put_len h.l1 _ _, put_len h.l2 _ _, setKs_nodup h.nd _, hfrom, fun k hk => ?_, fun q hq => ?_, r1, r2, r3, r4, by have h1 := h.fl; have h2 := setKs_len_le b.fk a.key; simp; omega, r5⟩
    · simp only [get_put h.l2]
      by_cases e : a.key = k
      · subst e; rw [if_pos rfl, hnew]; rfl
      · rw [if_neg e, same k e]; exact h.fo k hk
    · simp only [putV] at hq
      split at hq
      · rcases List.mem_or_eq_of_mem_set hq with hq | rfl
        · have := h.ne q hq; exact ⟨this.1, Nat.lt_of_lt_of_le this.2 hfl⟩
        · exact ⟨c1, c2⟩
      · rcases List.mem_append.1 hq with hq | hq
        · have := h.ne q hq; exact ⟨this.1, Nat.lt_of_lt_of_le this.2 hfl⟩
        · simp at hq; subst hq; exact ⟨c1, c2⟩
  · rw [if_neg hl]
    rw [if_neg hl] at hnew
    obtain ⟨r1, r2, r3, r4, r5⟩ := rows b.fk b.fv
    refine ⟨put_len h.l1 _ _, h.l2, h.nd, fun k hk => hfrom k (mem_setK.2 (.inl hk)), fun k hk => ?_, fun q hq => ?_, r1, r2, r3, r4, by have := h.fl; simp; omega, r5⟩
    · by_cases e : a.key = k
      · subst e; rw [hnew]; simp only; rw [hnf]; rfl
      · rw [same k e]; exact h.fo k hk
    · have := h.ne q hq; exact ⟨this.1, Nat.lt_of_lt_of_le this.2 hfl⟩
theorem runB_ok (n : Net) : ∀ ats : List Att, BOk n ats (runB n ats) := by
  intro ats
  suffices ∀ l pre, BOk n pre (runB n pre) → BOk n (pre ++ l) (runB n (pre ++ l)) by simpa using this ats [] (BOk.start n)
  intro l
  induction l with
  | nil => intro pre h; simpa using h
  | cons a l ih =>
    intro pre h
    have := ih (pre ++ [a]) (by rw [runB_snoc]; exact h.step a)
    simpa using this

-- the list of the reference
def laterB (b x : Brc) : Bool := decide (cmpL b.key x.key < 0)
def insBr (b : Brc) (l : List Brc) : List Brc := (l.reverse.dropWhile (laterB b)).reverse ++ b :: (l.reverse.takeWhile (laterB b)).reverse
def brcOf (n : Net) (ats : List Att) (i : Nat) (a : Att) : Option (List Int) := if ((ats.take i).any fun b => b.key == a.key) = true ∨ linkK n a.key < 0 then none else (brk a.key (lossK n a.key) ats).2
def refB (n : Net) (ats : List Att) : Nat → List Brc
  | 0 => []
  | i + 1 => match ats[i]? with
    | none => refB n ats i
    | some a => match brcOf n ats i a with
      | none => refB n ats i
      | some s => insBr (Brc.of a.key s) (refB n ats i)
theorem insBr_mem {b : Brc} {l : List Brc} {x : Brc} : x ∈ insBr b l ↔ x ∈ l ∨ x = b := by
  have e2 := List.takeWhile_append_dropWhile (p := laterB b) (l := l.reverse)
  have e3 : x ∈ l ↔ x ∈ l.reverse.takeWhile (laterB b) ∨ x ∈ l.reverse.dropWhile (laterB b) := by rw [← List.mem_append, e2, List.mem_reverse]
  unfold insBr
  rw [e3]
  simp only [List.mem_append, List.mem_reverse, List.mem_cons]
  constructor
  · rintro (h | h | h)
    · exact .inl (.inr h)
    · exact .inr h
    · exact .inl (.inl h)
  · rintro ((h | h) | h)
    · exact .inr (.inr h)
    · exact .inl h
    · exact .inr (.inl h)
def ltB (a b : Brc) : Prop := cmpL a.key b.key < 0
theorem ltB_irr (a : Brc) : ¬ ltB a a := by
  unfold ltB
  rw [cmpL_eq.2 rfl]; decide
theorem ltB_asy (a b : Brc) (h : ltB a b) : ¬ ltB b a := fun h' => ltB_irr a (cmpL_trans h h')
theorem ltB_conn {a b : Brc} (h : ¬ ltB b a) (hn : a.key ≠ b.key) : ltB a b := by
  unfold ltB at *
  rcases Int.lt_trichotomy (cmpL a.key b.key) 0 with h1 | h1 | h1
  · exact h1
  · exact absurd (cmpL_eq.1 h1) hn
  · exact absurd (cmpL_anti.2 h1) h
theorem insBr_sorted {b : Brc} {l : List Brc} (h : l.Pairwise ltB) (hn : ∀ x ∈ l, x.key ≠ b.key) : (insBr b l).Pairwise ltB := by
  have e2 := List.takeWhile_append_dropWhile (p := laterB b) (l := l.reverse)
  have hr : l.reverse.Pairwise fun a c => ltB c a := List.pairwise_reverse.2 h
  have hmem : ∀ x, x ∈ l.reverse.takeWhile (laterB b) ++ l.reverse.dropWhile (laterB b) → x ∈ l := fun x hx => by rw [e2] at hx; simpa using hx
  have h1 : ∀ x ∈ l.reverse.takeWhile (laterB b), ltB b x := fun x hx => by
    have := List.all_eq_true.1 (List.all_takeWhile (p := laterB b) (l := l.reverse)) x hx
    simpa [laterB, ltB] using this
  have h2 : ∀ x ∈ l.reverse.dropWhile (laterB b), ltB x b := by
    rw [← e2] at hr
    have hr2 := (List.pairwise_append.1 hr).2.1
    cases hd : l.reverse.dropWhile (laterB b) with
    | nil => intro x hx; cases hx
    | cons y ys =>
      rw [hd] at hr2
      have hy : laterB b y = false := by
        have := List.head_dropWhile_not (laterB b) (l := l.reverse) (by rw [hd]; simp)
        simpa [hd] using this
      have hy2 : ltB y b := ltB_conn (by simpa [laterB, ltB] using hy) (hn y (hmem y (by rw [hd]; simp)))
      intro x hx
      rcases List.mem_cons.1 hx with rfl | hx
      · exact hy2
      · exact cmpL_trans ((List.pairwise_cons.1 hr2).1 x hx) hy2
  rw [← e2] at hr
  obtain ⟨r1, r2, r3⟩ := List.pairwise_append.1 hr
  unfold insBr
  refine List.pairwise_append.2 ⟨List.pairwise_reverse.2 r2, List.pairwise_cons.2 ⟨fun x hx => h1 x (by simpa using hx), List.pairwise_reverse.2 r1⟩, fun x hx y hy => ?_⟩
  have hx' := h2 x (by simpa using hx)
  rcases List.mem_cons.1 hy with rfl | hy
  · exact hx'
  · exact cmpL_trans hx' (h1 y (by simpa using hy))
/-- a breach: of an attempt's frame on a link of the network -/
def IsB (n : Net) (ats : List Att) (m : List Att) (x : Brc) : Prop := (∃ a ∈ m, a.key = x.key) ∧ 0 ≤ linkK n x.key ∧ (brk x.key (lossK n x.key) ats).2 = some x.slots
theorem of_key4 {k : List Int} (a : Att) (h : a.key = k) (s : List Int) : (Brc.of k s).key = k := by subst h; rfl
theorem refB_mem {n : Net} {ats : List Att} : ∀ {i : Nat}, i ≤ ats.length → ∀ {x : Brc}, x ∈ refB n ats i ↔ IsB n ats (ats.take i) x
  | 0, _, x => by simp [refB, IsB]
  | i + 1, hi, x => by
    have ih := fun x => refB_mem (n := n) (ats := ats) (i := i) (by omega) (x := x)
    obtain ⟨a, ha⟩ : ∃ a, ats[i]? = some a := ⟨_, List.getElem?_eq_getElem (by omega)⟩
    have ht := take_succ ha
    simp only [refB, ha]
    have hold : IsB n ats (ats.take i) x → IsB n ats (ats.take (i + 1)) x := fun ⟨⟨y, hy, e⟩, h2, h3⟩ => ⟨⟨y, by rw [ht]; simp [hy], e⟩, h2, h3⟩
    unfold brcOf
    by_cases hc : ((ats.take i).any fun b => b.key == a.key) = true ∨ linkK n a.key < 0
    · rw [if_pos hc]
      simp only
      rw [ih x]
      refine ⟨hold, fun ⟨⟨y, hy, e⟩, h2, h3⟩ => ⟨?_, h2, h3⟩⟩
      rw [ht] at hy
      rcases List.mem_append.1 hy with hy | hy
      · exact ⟨y, hy, e⟩
      · simp at hy; subst hy
        rcases hc with hc | hc
        · obtain ⟨z, hz, ez⟩ := List.any_eq_true.1 hc
          exact ⟨z, hz, by rw [← e]; simpa using ez⟩
        · rw [e] at hc; omega
    · rw [if_neg hc]
      cases hb : (brk a.key (lossK n a.key) ats).2 with
      | none =>
        simp only
        rw [ih x]
        refine ⟨hold, fun ⟨⟨y, hy, e⟩, h2, h3⟩ => ⟨?_, h2, h3⟩⟩
        rw [ht] at hy
        rcases List.mem_append.1 hy with hy | hy
        · exact ⟨y, hy, e⟩
        · simp at hy; subst hy
          rw [← e, hb] at h3; cases h3
      | some s =>
        simp only
        rw [insBr_mem, ih x]
        constructor
        · rintro (h | rfl)
          · exact hold h
          · refine ⟨⟨a, by rw [ht]; simp, rfl⟩, ?_, hb⟩
            rw [of_key]
            rcases Int.lt_or_le (linkK n a.key) 0 with hh | hh
            · exact absurd (.inr hh) hc
            · exact hh
        · rintro ⟨⟨y, hy, e⟩, h2, h3⟩
          rw [ht] at hy
          rcases List.mem_append.1 hy with hy | hy
          · exact .inl ⟨⟨y, hy, e⟩, h2, h3⟩
          · simp at hy; subst hy
            right
            rw [← e, hb] at h3
            injection h3 with h3
            rw [h3, e, of_self]
theorem refB_sorted {n : Net} {ats : List Att} : ∀ {i : Nat}, i ≤ ats.length → (refB n ats i).Pairwise ltB
  | 0, _ => .nil
  | i + 1, hi => by
    have ih := refB_sorted (n := n) (ats := ats) (i := i) (by omega)
    obtain ⟨a, ha⟩ : ∃ a, ats[i]? = some a := ⟨_, List.getElem?_eq_getElem (by omega)⟩
    simp only [refB, ha]
    cases hb : brcOf n ats i a with
    | none => exact ih
    | some s =>
      refine insBr_sorted ih fun x hx e => ?_
      obtain ⟨⟨y, hy, e1⟩, _, _⟩ := (refB_mem (by omega)).1 hx
      unfold brcOf at hb
      rw [if_pos (.inl (List.any_eq_true.2 ⟨y, hy, by rw [e1, e, of_key]; simp⟩))] at hb
      cases hb
def BS.out (b : BS) : List Brc := (b.fk.zip b.fv).map fun p => Brc.of p.1 p.2.1
/-- what the program sorts is the reference's list -/
theorem brcs_eq {n : Net} {ats : List Att} {ds : List Brc} (hp : ds.Perm (runB n ats).out) (hs : ds.Pairwise fun a b => ¬ ltB b a) : ds = refB n ats ats.length := by
  have h := runB_ok n ats
  generalize runB n ats = b at hp h
  have hget : ∀ (i : Nat) k p, b.fk[i]? = some k → b.fv[i]? = some p → IsB n ats ats (Brc.of k p.1) := fun i k p hk hpv => by
    obtain ⟨a, ha, e, hl⟩ := h.from_ k (List.mem_of_getElem? hk)
    have hkey := of_key4 a e p.1
    unfold IsB
    rw [hkey]
    refine ⟨⟨a, ha, e⟩, hl, ?_⟩
    rw [← h.fo k hl, get_mem h.nd hk, hpv]; rfl
  have hmem : ∀ x, x ∈ b.out ↔ IsB n ats ats x := fun x => by
    unfold BS.out
    rw [List.mem_map]
    constructor
    · rintro ⟨⟨k, p⟩, hkp, rfl⟩
      obtain ⟨i, hi⟩ := List.getElem?_of_mem hkp
      rw [List.getElem?_zip_eq_some] at hi
      exact hget i k p hi.1 hi.2
    · rintro ⟨⟨a, ha, e⟩, hl, hb⟩
      have hf := h.fo x.key hl
      rw [hb] at hf
      cases hg : getK b.fk b.fv x.key with
      | none => rw [hg] at hf; cases hf
      | some p =>
        rw [hg] at hf
        unfold getK at hg
        cases hi : posOf b.fk x.key with
        | none => rw [hi] at hg; cases hg
        | some i =>
          rw [hi] at hg
          refine ⟨(x.key, p), List.mem_of_getElem? (List.getElem?_zip_eq_some.2 ⟨posOf_some hi, hg⟩), ?_⟩
          simp at hf
          simp only
          rw [hf, of_self]
  have hdist : b.out.Pairwise fun x y => x.key ≠ y.key := by
    rw [List.pairwise_iff_getElem]
    intro i j hi hj hij
    have hi' := hi; have hj' := hj
    simp only [BS.out, List.length_map, List.length_zip] at hi' hj'
    have e : ∀ (i : Nat) (hi : i < b.out.length) (h1 : i < b.fk.length), (b.out[i]).key = b.fk[i] := fun i hi h1 => by
      obtain ⟨a, _, e, _⟩ := h.from_ _ (List.getElem_mem h1)
      simp only [BS.out, List.getElem_map, List.getElem_zip]
      exact of_key4 a e _
    rw [e i hi (by omega), e j hj (by omega)]
    exact List.pairwise_iff_getElem.1 h.nd i j _ _ hij
  have hd2 : ds.Pairwise fun x y => x.key ≠ y.key := List.Pairwise.perm hdist hp.symm (fun h => h.symm)
  have hs2 : ds.Pairwise ltB := (List.Pairwise.and hs hd2).imp fun h => ltB_conn h.1 h.2
  refine strict_ext ltB_irr ltB_asy hs2 (refB_sorted (Nat.le_refl _)) fun x => ?_
  rw [hp.mem_iff, hmem, refB_mem (Nat.le_refl _), List.take_length]
-- in the order of a range
def outS (b : BS) (seen : List Nat) : List Brc := seen.map fun i => Brc.of (b.fk.getD i []) (b.fv.getD i ([], 0)).1
theorem outS_snoc (b : BS) (seen : List Nat) {i : Nat} {k : List Int} {p : List Int × Nat} (hk : b.fk[i]? = some k) (hp : b.fv[i]? = some p) : outS b (seen ++ [i]) = outS b seen ++ [Brc.of k p.1] := by
  simp [outS, List.getD_eq_getElem?_getD, hk, hp]
theorem nodup_len {l : List Nat} {n : Nat} (h : l.Nodup) (hl : ∀ i ∈ l, i < n) : l.length ≤ n := by
  have hp : l.Perm ((List.range n).filter fun i => decide (i ∈ l)) := (List.perm_ext_iff_of_nodup h (List.nodup_range.filter _)).2 fun i => by
    simp only [List.mem_filter, List.mem_range, decide_eq_true_eq]
    exact ⟨fun hi => ⟨hl i hi, hi⟩, fun hi => hi.2⟩
  rw [hp.length_eq]
  exact Nat.le_trans (List.length_filter_le _ _) (by simp)
theorem outS_all {b : BS} (hl : b.fk.length = b.fv.length) {seen : List Nat} (h : seen.Nodup) (h1 : ∀ i ∈ seen, i < b.fk.length) (h2 : ∀ i, i < b.fk.length → i ∈ seen) : (outS b seen).Perm b.out := by
  have hp : seen.Perm (List.range b.fk.length) := (List.perm_ext_iff_of_nodup h List.nodup_range).2 fun i => by
    rw [List.mem_range]
    exact ⟨h1 i, h2 i⟩
  have e : b.out = outS b (List.range b.fk.length) := by
    apply List.ext_getElem?
    intro i
    unfold BS.out outS
    rcases Nat.lt_or_ge i b.fk.length with hi | hi
    · have hi2 : i < b.fv.length := by omega
      have hz : (b.fk.zip b.fv)[i]? = some (b.fk[i], b.fv[i]) := List.getElem?_zip_eq_some.2 ⟨List.getElem?_eq_getElem hi, List.getElem?_eq_getElem hi2⟩
      rw [List.getElem?_map, List.getElem?_map, List.getElem?_range hi, hz]
      simp [List.getD_eq_getElem?_getD, hi, hi2]
    · rw [List.getElem?_eq_none (by simp; omega), List.getElem?_eq_none (by simp; omega)]
  rw [e]
  exact hp.map _
def encF (p : List Int × Nat) : AV := .sl false (p.1.map encI)
theorem fzs_encP : ∀ l : List (List Int × Nat), fzs (l.map encP) = some (l.map encF)
  | [] => rfl
  | p :: l => by simp [fzs, fz, fzs_encP l, encP, encF]
-- data knows no objects
mutual
theorem AV.ren_fz (π : Nat → Nat) : ∀ (e : AV) {e' : AV}, fz e = some e' → e.ren π = e
  | .fn f caps, _, h => by
    simp only [fz, Option.map_eq_some_iff] at h
    obtain ⟨cs, h, _⟩ := h
    simp only [AV.ren, rens_fz π caps h]
  | .agg cs, _, h => by
    simp only [fz, Option.map_eq_some_iff] at h
    obtain ⟨cs', h, _⟩ := h
    simp only [AV.ren, rens_fz π cs h]
  | .tup cs, _, h => by
    simp only [fz, Option.map_eq_some_iff] at h
    obtain ⟨cs', h, _⟩ := h
    simp only [AV.ren, rens_fz π cs h]
  | .int _ _, _, _ => rfl
  | .bool _, _, _ => rfl
  | .str _, _, _ => rfl
  | .nils, _, _ => rfl
  | .nilp, _, _ => rfl
  | .nili, _, _ => rfl
  | .nilm, _, _ => rfl
  | .sl _ _, _, _ => rfl
  | .own _ _, _, _ => rfl
  | .cptr _ _, _, _ => rfl
  | .cmp _ _ _, _, _ => rfl
  | .undef, _, _ => rfl
  | .grown _ _, _, h => by simp [fz] at h
  | .bsl _ _ _ _, _, h => by simp [fz] at h
  | .vsl _ _ _ _, _, h => by simp [fz] at h
  | .ptr _ _, _, h => by simp [fz] at h
  | .yld _, _, h => by simp [fz] at h
  | .mp _, _, h => by simp [fz] at h
theorem rens_fz (π : Nat → Nat) : ∀ (es : List AV) {es' : List AV}, fzs es = some es' → rens π es = es
  | [], _, _ => rfl
  | e :: es, _, h => by
    simp only [fzs] at h
    split at h
    · rename_i a b h1 h2
      simp only [rens, AV.ren_fz π e h1, rens_fz π es h2]
    · cases h
end
theorem rens_app (π : Nat → Nat) : ∀ a b : List AV, rens π (a ++ b) = rens π a ++ rens π b
  | [], _ => rfl
  | x :: a, b => by simp [rens, rens_app π a b]
theorem rens_undef (π : Nat → Nat) : ∀ n, rens π (List.replicate n .undef) = List.replicate n .undef
  | 0 => rfl
  | n + 1 => by simp [List.replicate_succ, rens, AV.ren, rens_undef π n]
theorem EncOk.ren {α : Type} {enc : α → AV} {sz : Nat} (h : EncOk enc sz) (π : Nat → Nat) (l : List α) (n : Nat) : rens π (flatE (l.map enc) ++ List.replicate n .undef) = flatE (l.map enc) ++ List.replicate n .undef := by
  rw [rens_app, rens_fz π _ (h.fzf l), rens_undef]
-- a row of structs that grows
theorem outS_len (b : BS) (seen : List Nat) : (outS b seen).length = seen.length := by simp [outS]
def brcsM (n : Net) (r : RunL) : List Brc := if netE n = 0 then refB n r.atts r.atts.length else []
theorem brk_stop {k : List Int} {loss : Int} {pre post : List Att} : ∀ s, (brk k loss pre).2 = some s → (brk k loss (pre ++ post)).2 = some s := by
  induction post generalizing pre with
  | nil => intro s h; simpa using h
  | cons a l ih =>
    intro s h
    have := ih (pre := pre ++ [a]) s (by rw [brk_snoc, brS_done (by rw [h]; simp)]; exact h)
    simpa using this
end HM

/- Breaches, as the law looks for them. -/
namespace HM
open Go Go.RowKit

def rowS (k : List Int) (row : List Int) (a : Att) : List Int := if a.key = k then (if a.out = 1 then [] else row ++ [a.slot]) else row
/-- the row that goes on behind a breach, too -/
def rowF (k : List Int) (ats : List Att) : List Int := ats.foldl (rowS k) []
theorem brk_row {k : List Int} {loss : Int} : ∀ {ats : List Att}, (brk k loss ats).2 = none → (brk k loss ats).1 = rowF k ats := by
  intro ats
  suffices ∀ (l : List Att) (st : List Int × Option (List Int)) (row : List Int), (st.2 = none → st.1 = row) → (l.foldl (brS k loss) st).2 = none → (l.foldl (brS k loss) st).1 = l.foldl (rowS k) row from this ats ([], none) [] (fun _ => rfl)
  intro l
  induction l with
  | nil => intro st row h h2; exact h h2
  | cons a l ih =>
    intro st row h h2
    rw [List.foldl_cons] at h2 ⊢
    rw [List.foldl_cons]
    refine ih _ _ (fun h3 => ?_) h2
    unfold brS at h3 ⊢
    unfold rowS
    split at h3
    · rename_i hc
      rw [if_pos hc, if_pos hc.1]
      split at h3
      · rename_i ho; rw [if_pos ho, if_pos ho]
      · rename_i ho; rw [if_neg ho, if_neg ho, h hc.2]
    · rename_i hc
      rw [if_neg hc]
      by_cases e : a.key = k
      · exact absurd ⟨e, h3⟩ hc
      · rw [if_neg e]; exact h h3
end HM

/- In a run without a breach a frame is there within the bound of its route. -/
namespace HM
open Go Go.RowKit

-- slots of later rounds of the schedule
end HM

/- A run without a breach of a frame brings it within its latency. -/
namespace HM
open Go Go.RowKit

theorem allS_plus (cs : List Cell) (len a : Int) (d : Nat) : ∀ e : Nat, allS cs len a (d + e) = allS cs len a d ++ allS cs len (a + d) e
  | 0 => by simp [allS]
  | e + 1 => by
    rw [show d + (e + 1) = d + e + 1 from rfl]
    simp only [allS]
    rw [allS_plus cs len a d e, List.append_assoc, show a + ((d + e : Nat) : Int) = a + (d : Int) + (e : Int) by omega]
theorem fm_count {α β : Type} {g : α → Option β} {p : β → Bool} {q : α → Bool} : ∀ {l : List α}, (∀ c ∈ l, q c = true → ∃ y, g c = some y ∧ p y = true) → (l.filter q).length ≤ (l.filterMap g).countP p
  | [], _ => by simp
  | c :: l, h => by
    have ih := fm_count (l := l) (g := g) (p := p) (q := q) fun c hc => h c (List.mem_cons_of_mem _ hc)
    rw [List.filterMap_cons]
    by_cases hq : q c = true
    · obtain ⟨y, h1, h2⟩ := h c (List.mem_cons_self ..) hq
      rw [List.filter_cons, if_pos hq, h1]
      simp only [List.length_cons, List.countP_cons, h2, if_true]
      omega
    · rw [List.filter_cons, if_neg hq]
      cases hg : g c with
      | none => exact ih
      | some y => simp only [List.countP_cons]; omega
def keyK (K : List Int) (a : Att) : Bool := a.key == K
/-- cells that must attempt do attempt -/
theorem gens_count {s : Sched} {f : Flow} (hfm : formB s = true) (x : List Rule) {N k A : Nat} {a b : Int} : ∀ d : Nat, A + d ≤ N →
    (∀ t : Nat, A ≤ t → t < A + d → ∀ c ∈ cellsL s f a b, genB [f] (playR [f] (fun _ => s) x N).atts (t : Nat) c = some (((t : Nat) : Int), ((k : Nat) : Int), c)) →
    (allS (cellsL s f a b) s.len A d).length ≤ (playR [f] (fun _ => s) x (A + d)).atts.countP (keyK [f.id, (k : Nat), a, b])
  | 0, _, _ => by simp [allS]
  | d + 1, hN, hg => by
    have ih := gens_count hfm x (N := N) (k := k) (A := A) (a := a) (b := b) d (by omega) fun t h1 h2 => hg t h1 (by omega)
    obtain ⟨late, e1, _, e3⟩ := slotR_gen [f] s x (playR [f] (fun _ => s) x (A + d)) ((A + d : Nat) : Int)
    obtain ⟨l6, h6, h7⟩ := playR_late [f] (fun _ => s) x (A + d) (N - (A + d))
    rw [show A + d + (N - (A + d)) = N by omega] at h6
    have e4 : (playR [f] (fun _ => s) x (A + (d + 1))).atts = (playR [f] (fun _ => s) x (A + d)).atts ++ late := e1
    rw [e4, List.countP_append, allS, List.length_append, List.length_map]
    have h8 : late.countP (keyK [f.id, (k : Nat), a, b]) = (late.map keyA).countP (fun p : Int × Int × Cell => [p.2.2.flow, p.2.1, p.2.2.src, p.2.2.dst] == [f.id, (k : Nat), a, b]) := by rw [List.countP_map]; rfl
    rw [h8, e3]
    have h9 : ((cellsL s f a b).filter fun c => c.slot == ((A : Int) + (d : Nat)) % s.len).length = ((atM s ((A + d : Nat) : Int)).filter fun c => !offL f.id a b c).length := by
      unfold atM cellsL
      rw [if_neg (by rw [hfm]; intro h; rcases h with h | h <;> first | cases h | omega), List.filter_filter, List.filter_filter, Int.natCast_add]
      congr 1
      refine List.filter_congr fun c _ => ?_
      rw [Bool.and_comm]
    rw [h9]
    refine Nat.add_le_add ih (fm_count fun c hc hq => ?_)
    have hc1 : c ∈ cellsL s f a b := by
      unfold atM at hc
      split at hc
      · cases hc
      · exact List.mem_filter.2 ⟨(List.mem_filter.1 hc).1, hq⟩
    have h10 := hg (A + d) (by omega) (by omega) c hc1
    rw [h6, genB_late [f] h7] at h10
    refine ⟨_, h10, ?_⟩
    unfold offL at hq
    simp only [Bool.not_or, Bool.and_eq_true, Bool.not_eq_true', bne_eq_false_iff_eq] at hq
    simp only [beq_iff_eq, List.cons.injEq, and_true, true_and]
    exact ⟨hq.1.1, hq.1.2, hq.2⟩
theorem rowF_count {K : List Int} {ats : List Att} (h : ∀ a ∈ ats, a.key = K → a.out ≠ 1) : (rowF K ats).length = ats.countP (keyK K) := by
  suffices ∀ (l : List Att) (row : List Int), (∀ a ∈ l, a.key = K → a.out ≠ 1) → (l.foldl (rowS K) row).length = row.length + l.countP (keyK K) by simpa [rowF] using this ats [] h
  intro l
  induction l with
  | nil => intro row _; simp
  | cons a l ih =>
    intro row h
    rw [List.foldl_cons, ih _ fun b hb => h b (List.mem_cons_of_mem _ hb), List.countP_cons]
    unfold rowS
    by_cases e : a.key = K
    · have e2 : keyK K a = true := by unfold keyK; rw [e]; exact beq_self_eq_true K
      rw [if_pos e, if_neg (h a (List.mem_cons_self ..) e), List.length_append, List.length_singleton, if_pos e2]; omega
    · have e2 : ¬ keyK K a = true := by unfold keyK; simpa using e
      rw [if_neg e, if_neg e2]; omega
theorem brk_none_len {K : List Int} {loss : Int} (h0 : 0 ≤ loss) {ats : List Att} (h : (brk K loss ats).2 = none) : ((brk K loss ats).1.length : Int) ≤ loss := by
  suffices ∀ (l : List Att) (st : List Int × Option (List Int)), (st.2 = none → (st.1.length : Int) ≤ loss) → (l.foldl (brS K loss) st).2 = none → ((l.foldl (brS K loss) st).1.length : Int) ≤ loss from this ats ([], none) (fun _ => by simpa using h0) h
  intro l
  induction l with
  | nil => intro st h1 h2; exact h1 h2
  | cons a l ih =>
    intro st h1 h2
    rw [List.foldl_cons] at h2 ⊢
    refine ih _ (fun h3 => ?_) h2
    unfold brS at h3 ⊢
    split at h3
    · rename_i hc
      rw [if_pos hc]
      split at h3
      · rename_i ho; rw [if_pos ho]; simpa using h0
      · rename_i ho
        rw [if_neg ho]
        simp only at h3 ⊢
        split at h3
        · cases h3
        · rename_i hl; rw [List.length_append, List.length_singleton]; omega
    · rename_i hc
      rw [if_neg hc]; exact h1 h3
theorem curM_of {f : Flow} {k t : Int} (hfl : flowE 32 f = 0) (hk : 0 ≤ k) (h1 : f.phase + k * f.period ≤ t) (h2 : t < f.phase + k * f.period + f.period) (h3 : t ≤ 1099511627776) : curM f t = (k, true) := by
  have hf := flowE_ok hfl
  have h4 : 0 ≤ k * f.period := Int.mul_nonneg hk (by omega)
  unfold curM
  rw [if_neg (by intro h; rcases h with h | h | h <;> first | exact h hfl | omega)]
  have e : t - f.phase = (t - f.phase - k * f.period) + k * f.period := by omega
  rw [e, Int.add_mul_ediv_right _ _ (by omega), Int.ediv_eq_zero_of_lt (by omega) (by omega), Int.zero_add]
/-- so many cells up to the last slot that counts -/
theorem slotsOn_count {s : Sched} {f : Flow} {a b : Int} {need : Nat} {at_ stop L : Int} (h : (slotsOn s f a b need at_ stop).getLast? = some L) (hl : need ≤ (slotsOn s f a b need at_ stop).length) : need ≤ (allS (cellsL s f a b) s.len at_ (L + 1 - at_).toNat).length := by
  have hL := slotsOn_mem (List.mem_of_getLast? h)
  obtain ⟨e, he⟩ : ∃ e, (stop - at_).toNat = (L + 1 - at_).toNat + e := ⟨(stop - at_).toNat - (L + 1 - at_).toNat, by omega⟩
  unfold slotsOn at h hl
  rw [he, allS_plus] at h hl
  apply Decidable.byContradiction
  intro hn
  rw [List.take_append] at h hl
  rw [List.take_of_length_le (by omega)] at h hl
  rw [List.length_append] at hl
  rw [List.getLast?_append] at h
  have hne : (List.take (need - (allS (cellsL s f a b) s.len at_ (L + 1 - at_).toNat).length) (allS (cellsL s f a b) s.len (at_ + ((L + 1 - at_).toNat : Nat)) e)) ≠ [] := by
    intro h0; rw [h0] at hl; simp at hl; omega
  obtain ⟨y, hy⟩ : ∃ y, (List.take (need - (allS (cellsL s f a b) s.len at_ (L + 1 - at_).toNat).length) (allS (cellsL s f a b) s.len (at_ + ((L + 1 - at_).toNat : Nat)) e)).getLast? = some y := ⟨_, List.getLast?_eq_some_getLast hne⟩
  rw [hy] at h
  simp only [Option.or_some, Option.getD_some, Option.some_or, Option.some.injEq] at h
  have := allS_mem (List.mem_of_mem_take (List.mem_of_getLast? hy))
  omega
end HM

/- A frame that no link of its route breaks is there within the bound. -/
namespace HM
open Go Go.RowKit

theorem flowsOk1 {f : Flow} (h : flowE 32 f = 0) : FlowsOk [f] where
  len := by simp
  ok := fun k g hg => by
    cases k with
    | zero => simp at hg; subst hg; exact h
    | succ k => simp at hg
  lt := fun i j g g' hij hi hj => by
    have h1 := (List.getElem?_eq_some_iff.1 hj).1
    simp at h1; omega
theorem dup_ne {r : List Int} (hd : ∀ i, i < r.length → dupAt r i = false) {i j : Nat} (hij : i < j) (hj : j < r.length) : r.getD i 0 ≠ r.getD j 0 := by
  intro e
  have h := hd j hj
  have hi : i < r.length := by omega
  rw [List.getD_eq_getElem?_getD, List.getD_eq_getElem?_getD, List.getElem?_eq_getElem hi, List.getElem?_eq_getElem hj] at e
  simp only [Option.getD_some] at e
  unfold dupAt at h
  rw [List.getElem?_eq_getElem hj] at h
  simp only at h
  rw [List.any_eq_false] at h
  exact h (r[i]) (List.mem_take_iff_getElem.2 ⟨i, by omega, rfl⟩) (by simpa using e)
/-- the frame is not broken -/
def unbroken (n : Net) (f : Flow) (r : List Int) (R : RunL) (k : Int) : Prop := ∀ i, i + 1 < r.length → ∀ b ∈ brcsM n R, b.key ≠ [f.id, k, r.getD i 0, r.getD (i + 1) 0]
theorem holdsR_mono {f : Flow} {R : List Att} {a k t u : Int} (h : holdsR f R a k t = true) (htu : t ≤ u) : holdsR f R a k u = true := by
  unfold holdsR at h ⊢
  simp only [Bool.or_eq_true, List.any_eq_true, Bool.and_eq_true, decide_eq_true_eq] at h ⊢
  rcases h with h | ⟨b, h1, h2, h3⟩
  · exact .inl h
  · exact .inr ⟨b, h1, h2, by omega⟩
theorem hop {n : Net} {s : Sched} {f : Flow} {r : List Int} (h0 : netE n = 0) (hw : WayOk n s f r) (hfl : flowE 32 f = 0) (x : List Rule) {N k : Nat} (hbig : f.phase + (k : Nat) * f.period + f.period ≤ 1099511627776)
    (hnb : unbroken n f r (playR [f] (fun _ => s) x N) (k : Nat)) : ∀ (i : Nat) (o : List Int) (a : Int), i + 1 ≤ r.length → slotsUp n s f r (f.phase + (k : Nat) * f.period) 0 i = some (o, a) → (∀ y ∈ o, y < (N : Nat)) → holdsR f (playR [f] (fun _ => s) x N).atts (r.getD i 0) (k : Nat) a = true
  | 0, o, a, _, _, _ => by unfold holdsR; rw [hw.ends.1]; simp
  | i + 1, o, a, hi, hs, hN => by
    have hf := hw.flow
    have hk0 : 0 ≤ ((k : Nat) : Int) * f.period := Int.mul_nonneg (by omega) (by omega)
    unfold slotsUp at hs
    split at hs
    · cases hs
    rename_i o' a' h'
    simp only at hs
    split at hs
    · cases hs
    rename_i hlen
    injection hs with hs; injection hs with e1 e2
    subst e1
    have ih := hop h0 hw hfl x hbig hnb i o' a' (by omega) h' fun y hy => hN y (List.mem_append_left _ hy)
    obtain ⟨m, l, g1, g2, g3, g4, g5, g6, g7⟩ := hw.at (i := i) (by omega)
    have hneed : ((needAt n r 0 i : Nat) : Int) = l.loss + 1 := by unfold needAt; rw [g7]; omega
    obtain ⟨h, hh⟩ : ∃ h, h = slotsOn s f (r.getD i 0) (r.getD (i + 1) 0) (needAt n r 0 i) a' (f.phase + (k : Nat) * f.period + f.period) := ⟨_, rfl⟩
    rw [← hh] at e2 hlen hN
    have hne : h ≠ [] := by intro e; rw [e] at hlen; simp at hlen; omega
    obtain ⟨L, hL⟩ : ∃ L, h.getLast? = some L := ⟨_, List.getLast?_eq_some_getLast hne⟩
    have hLN := hN L (List.mem_append_right _ (List.mem_of_getLast? hL))
    have ha : a = L + 1 := by rw [← e2]; unfold nextA; rw [hL]
    obtain ⟨_, ha', _, _⟩ := slotsUp_ok (by omega) h'
    have hLm := slotsOn_mem (hh ▸ List.mem_of_getLast? hL)
    have hcnt := slotsOn_count (hh ▸ hL) (by rw [← hh]; omega)
    apply Decidable.byContradiction
    intro hno
    have hno2 : ∀ b ∈ (playR [f] (fun _ => s) x N).atts, gotA f.id (k : Nat) (r.getD (i + 1) 0) b = true → ¬ b.slot < a := fun b hb hg hs => hno (by
      unfold holdsR
      simp only [Bool.or_eq_true, List.any_eq_true, Bool.and_eq_true, decide_eq_true_eq]
      exact .inr ⟨b, hb, hg, hs⟩)
    obtain ⟨A, rfl⟩ : ∃ A : Nat, a' = A := ⟨a'.toNat, by omega⟩
    obtain ⟨d, hd⟩ : ∃ d, d = (L + 1 - (A : Nat)).toNat := ⟨_, rfl⟩
    rw [← hd] at hcnt
    have hAd : ((A + d : Nat) : Int) = L + 1 := by omega
    have hgen := gens_count hw.form x (N := N) (k := k) (A := A) (a := r.getD i 0) (b := r.getD (i + 1) 0) d (by omega) fun t h1 h2 c hc => by
      have hc2 := (List.mem_filter.1 hc).2
      unfold offL at hc2
      simp only [Bool.not_or, Bool.and_eq_true, Bool.not_eq_true', bne_eq_false_iff_eq] at hc2
      have hcm := curM_of (k := (k : Nat)) (t := (t : Nat)) hfl (by omega) (by omega) (by omega) (by omega)
      unfold genB
      have hff : findF [f] c.flow = 0 := by rw [findF_one, if_pos hc2.1.1.symm]
      rw [hff, if_neg (by omega)]
      simp only [Int.toNat_zero, List.getElem?_cons_zero, hcm]
      rw [if_neg ?_]
      intro hor
      rcases hor with hor | hor | hor | hor
      · cases hor
      · rw [hc2.1.2, ← hw.ends.2] at hor
        exact dup_ne hw.dup (by omega) (by omega) hor
      · rw [hc2.1.2, holdsR_mono ih (by omega)] at hor; cases hor
      · unfold ackedR at hor
        simp only [List.any_eq_true, Bool.and_eq_true, decide_eq_true_eq, beq_iff_eq] at hor
        obtain ⟨b, hb, ⟨hb1, hb2⟩, hb3⟩ := hor
        refine hno2 b hb ?_ (by omega)
        unfold onA at hb1
        simp only [Bool.and_eq_true, beq_iff_eq] at hb1
        unfold gotA
        simp only [Bool.and_eq_true, beq_iff_eq, bne_iff_ne]
        exact ⟨⟨⟨hb1.1.1.1.trans hc2.1.1, hb1.1.1.2⟩, hb1.2.trans hc2.2⟩, by omega⟩
    obtain ⟨K, hK⟩ : ∃ K : List Int, K = [f.id, (k : Nat), r.getD i 0, r.getD (i + 1) 0] := ⟨_, rfl⟩
    rw [← hK] at hgen
    obtain ⟨l6, h6, h7⟩ := playR_late [f] (fun _ => s) x (A + d) (N - (A + d))
    rw [show A + d + (N - (A + d)) = N by omega] at h6
    have hnack : ∀ b ∈ (playR [f] (fun _ => s) x (A + d)).atts, b.key = K → b.out ≠ 1 := fun b hb hbk ho => by
      have hs := playR_slots [f] (fun _ => s) x (A + d) b hb
      refine hno2 b (h6 ▸ List.mem_append_left _ hb) ?_ (by omega)
      rw [hK] at hbk
      unfold Att.key at hbk
      injection hbk with q1 hbk; injection hbk with q2 hbk; injection hbk with q3 hbk; injection hbk with q4 hbk
      unfold gotA
      simp only [Bool.and_eq_true, beq_iff_eq, bne_iff_ne]
      exact ⟨⟨⟨q1, q2⟩, q4⟩, by omega⟩
    have hrow := rowF_count hnack
    cases hbk : (brk K l.loss (playR [f] (fun _ => s) x (A + d)).atts).2 with
    | none =>
      have q1 := brk_none_len g5 hbk
      rw [brk_row hbk] at q1
      omega
    | some sl =>
      have q1 := brk_stop (post := l6) sl hbk
      rw [← h6] at q1
      have hpos : 0 < (playR [f] (fun _ => s) x (A + d)).atts.countP (keyK K) := by omega
      obtain ⟨b, hb, hbk2⟩ := List.countP_pos_iff.1 hpos
      have hmem : (Brc.of K sl) ∈ brcsM n (playR [f] (fun _ => s) x N) := by
        unfold brcsM
        rw [if_pos h0, refB_mem (Nat.le_refl _), List.take_length]
        have hkk : (Brc.of K sl).key = K := by rw [hK]; rfl
        refine ⟨⟨b, h6 ▸ List.mem_append_left _ hb, by rw [hkk]; exact eq_of_beq hbk2⟩, ?_, ?_⟩
        · rw [hkk, hK]
          show 0 ≤ findL n (r.getD i 0) (r.getD (i + 1) 0)
          omega
        · rw [hkk]
          have hls : lossK n K = l.loss := by
            rw [hK]
            show lossL n (r.getD i 0) (r.getD (i + 1) 0) = l.loss
            rw [← g3, ← g4, link_loss hw.net g2]
          rw [hls]
          exact q1
      exact hnb i (by omega) _ hmem (by rw [hK]; rfl)
theorem allS_le (cs : List Cell) (len a : Int) : ∀ d : Nat, (allS cs len a d).Pairwise (· ≤ ·)
  | 0 => by simp [allS]
  | d + 1 => by
    rw [allS]
    refine List.pairwise_append.2 ⟨allS_le cs len a d, ?_, fun x hx y hy => ?_⟩
    · refine List.pairwise_of_forall_mem_list fun x hx y hy => ?_
      obtain ⟨_, _, rfl⟩ := List.mem_map.1 hx
      obtain ⟨_, _, rfl⟩ := List.mem_map.1 hy
      exact Int.le_refl _
    · obtain ⟨_, _, rfl⟩ := List.mem_map.1 hy
      have := allS_mem hx
      omega
theorem le_last {l : List Int} (h : l.Pairwise (· ≤ ·)) {L : Int} (hL : l.getLast? = some L) {y : Int} (hy : y ∈ l) : y ≤ L := by
  rcases List.eq_nil_or_concat l with rfl | ⟨l', z, rfl⟩
  · cases hy
  · rw [List.concat_eq_append] at h hL hy
    simp at hL
    subst hL
    rcases List.mem_append.1 hy with hy | hy
    · exact (List.pairwise_append.1 h).2.2 y hy z (by simp)
    · have : y = z := by simpa using hy
      omega
theorem slotsUp_lt {n : Net} {s : Sched} {f : Flow} {r : List Int} {rel : Int} (hw : WayOk n s f r) : ∀ {i : Nat} {o : List Int} {a : Int}, i + 1 ≤ r.length → slotsUp n s f r rel 0 i = some (o, a) → ∀ y ∈ o, y < a
  | 0, o, a, _, h => by simp [slotsUp] at h; obtain ⟨rfl, rfl⟩ := h; intro y hy; cases hy
  | i + 1, o, a, hi, h => by
    unfold slotsUp at h
    split at h
    · cases h
    rename_i o' a' h'
    simp only at h
    split at h
    · cases h
    rename_i hlen
    injection h with h; injection h with e1 e2
    subst e1
    have ih := slotsUp_lt hw (by omega) h'
    obtain ⟨m, l, g1, g2, g3, g4, g5, g6, g7⟩ := hw.at (i := i) (by omega)
    have hneed : ((needAt n r 0 i : Nat) : Int) = l.loss + 1 := by unfold needAt; rw [g7]; omega
    obtain ⟨h, hh⟩ : ∃ h, h = slotsOn s f (r.getD i 0) (r.getD (i + 1) 0) (needAt n r 0 i) a' (rel + f.period) := ⟨_, rfl⟩
    rw [← hh] at e2 hlen
    rw [← hh]
    have hne : h ≠ [] := by intro e; rw [e] at hlen; simp at hlen; omega
    obtain ⟨L, hL⟩ : ∃ L, h.getLast? = some L := ⟨_, List.getLast?_eq_some_getLast hne⟩
    have ha : a = L + 1 := by rw [← e2]; unfold nextA; rw [hL]
    have hLm := slotsOn_mem (hh ▸ List.mem_of_getLast? hL)
    intro y hy
    rcases List.mem_append.1 hy with hy | hy
    · have := ih y hy; omega
    · have hp : h.Pairwise (· ≤ ·) := by rw [hh]; exact (allS_le _ _ _ _).sublist (List.take_sublist _ _)
      have := le_last hp hL hy
      omega
end HM

/- BoundHolds: what its law asks. -/
namespace HM
open Go Go.RowKit

theorem relR_range {n : Net} {s : Sched} {f : Flow} {r : List Int} (hw : WayOk n s f r) {rel b : Int} {l : List Int} (h : relR n s f r 0 rel = some (b, l)) : 1 ≤ b ∧ b ≤ f.period := by
  have hf := hw.flow
  have hl := hw.len
  unfold relR slotsW at h
  cases hs : slotsUp n s f r rel 0 (r.length - 1) with
  | none => rw [hs] at h; cases h
  | some p =>
    obtain ⟨o, a⟩ := p
    rw [hs] at h
    simp only [Option.map_some, Option.some.injEq, Prod.mk.injEq] at h
    obtain ⟨_, h2, h3, h4⟩ := slotsUp_ok (by omega) hs
    obtain ⟨e, he⟩ : ∃ e, r.length - 1 = e + 1 := ⟨r.length - 2, by omega⟩
    have hlast : o.getLast? = some (a - 1) := by
      obtain ⟨m, l, g1, g2, g3, g4, g5, g6, g7⟩ := hw.at (i := e) (by omega)
      rw [he] at hs
      exact slotsUp_last (by unfold needAt; rw [g7]; omega) hs
    have hld : o.getLastD 0 = a - 1 := by rw [List.getLastD_eq_getLast?, hlast]; rfl
    rw [hld] at h
    have := h4 _ (List.mem_of_getLast? hlast)
    omega
/-- a breach on a link of the route -/
def idxI (r : List Int) (x : Int) : Int := idxF (fun y => decide (x = y)) r
theorem idxI_at {r : List Int} (hd : ∀ i, i < r.length → dupAt r i = false) {i : Nat} (hi : i < r.length) : idxI r (r.getD i 0) = (i : Nat) := by
  refine idxF_some hi (fun j y hj hy => ?_) (List.getElem?_eq_getElem hi) (by simp [List.getD_eq_getElem?_getD, List.getElem?_eq_getElem hi])
  have := dup_ne hd hj hi
  rw [List.getD_eq_getElem?_getD, hy] at this
  simp only [Option.getD_some] at this
  exact decide_eq_false fun e => this e.symm
end HM

/- With the worst script a frame is there at its latency, without a breach. -/
namespace HM
open Go Go.RowKit

theorem fm_count_le {α β : Type} {g : α → Option β} {p : β → Bool} {q : α → Bool} : ∀ {l : List α}, (∀ c ∈ l, ∀ y, g c = some y → p y = true → q c = true) → (l.filterMap g).countP p ≤ (l.filter q).length
  | [], _ => by simp
  | c :: l, h => by
    have ih := fm_count_le (l := l) (g := g) (p := p) (q := q) fun d hd => h d (List.mem_cons_of_mem _ hd)
    rw [List.filterMap_cons, List.filter_cons]
    cases hg : g c with
    | none =>
      simp only
      split
      · rw [List.length_cons]; omega
      · exact ih
    | some y =>
      simp only [List.countP_cons]
      by_cases hp : p y = true
      · rw [if_pos hp, if_pos (h c (List.mem_cons_self ..) y hg hp), List.length_cons]; omega
      · rw [if_neg hp]
        split
        · rw [List.length_cons]; omega
        · omega
theorem genB_some {f : Flow} {R : List Att} {t : Int} {c : Cell} {y : Int × Int × Cell} (h : genB [f] R t c = some y) : y = (t, (curM f t).1, c) ∧ c.flow = f.id ∧ (curM f t).2 = true ∧ c.src ≠ f.dst ∧ holdsR f R c.src (curM f t).1 t = true ∧ ackedR R c (curM f t).1 t = false := by
  unfold genB at h
  rw [findF_one] at h
  by_cases hi : f.id = c.flow
  · rw [if_pos hi, if_neg (by omega)] at h
    simp only [Int.toNat_zero, List.getElem?_cons_zero] at h
    split at h
    · cases h
    · rename_i g
      injection h with h
      simp only [not_or, Bool.not_eq_false, Bool.not_eq_true] at g
      exact ⟨h.symm, hi.symm, g.1, g.2.1, g.2.2.1, g.2.2.2⟩
  · rw [if_neg hi, if_pos (by omega)] at h; cases h
/-- what makes an attempt -/
theorem att_from {f : Flow} {s : Sched} {x : List Rule} {N : Nat} {b : Att} (hb : b ∈ (playR [f] (fun _ => s) x N).atts) : b.cell ∈ s.cells ∧ b.cell.flow = f.id ∧ curM f b.slot = (b.frame, true) ∧ b.cell.src ≠ f.dst ∧ holdsR f (playR [f] (fun _ => s) x N).atts b.cell.src b.frame b.slot = true := by
  have hg := playR_gen [f] (fun _ => s) x N N (Nat.le_refl _)
  have h1 : keyA b ∈ (playR [f] (fun _ => s) x N).atts.map keyA := List.mem_map.2 ⟨b, hb, rfl⟩
  rw [hg] at h1
  obtain ⟨t, _, h2⟩ := List.mem_flatMap.1 h1
  obtain ⟨c, hc, h3⟩ := List.mem_filterMap.1 h2
  obtain ⟨e, g1, g2, g3, g4, g5⟩ := genB_some h3
  unfold keyA at e
  injection e with e1 e; injection e with e2 e3
  rw [← e1] at g2 g4 e2
  rw [← e2] at g4
  rw [e3]
  refine ⟨?_, g1, by rw [e2]; exact Prod.ext rfl g2, g3, g4⟩
  unfold atM at hc
  split at hc
  · cases hc
  · exact (List.mem_filter.1 hc).1
theorem keyK_onA {c : Cell} {fr : Int} {a : Att} : keyK [c.flow, fr, c.src, c.dst] a = onA c fr a := by
  unfold keyK Att.key onA
  rw [Bool.eq_iff_iff]
  simp [and_assoc]
/-- no more attempts than cells -/
theorem gens_most {s : Sched} {f : Flow} (hfm : formB s = true) (x : List Rule) {N k A : Nat} {a b : Int} (hA : ∀ z ∈ (playR [f] (fun _ => s) x N).atts, z.key = [f.id, (k : Nat), a, b] → (A : Int) ≤ z.slot) : ∀ d : Nat, A + d ≤ N →
    (playR [f] (fun _ => s) x (A + d)).atts.countP (keyK [f.id, (k : Nat), a, b]) ≤ (allS (cellsL s f a b) s.len A d).length
  | 0, hN => by
    obtain ⟨l6, h6, h7⟩ := playR_late [f] (fun _ => s) x A (N - A)
    rw [show A + (N - A) = N by omega] at h6
    have : (playR [f] (fun _ => s) x (A + 0)).atts.countP (keyK [f.id, (k : Nat), a, b]) = 0 := by
      rw [List.countP_eq_zero]
      intro z hz hk
      have h1 := hA z (h6 ▸ List.mem_append_left _ hz) (eq_of_beq hk)
      have h2 := playR_slots [f] (fun _ => s) x A z hz
      omega
    omega
  | d + 1, hN => by
    have ih := gens_most hfm x (N := N) (k := k) (A := A) (a := a) (b := b) hA d (by omega)
    obtain ⟨late, e1, _, e3⟩ := slotR_gen [f] s x (playR [f] (fun _ => s) x (A + d)) ((A + d : Nat) : Int)
    have e4 : (playR [f] (fun _ => s) x (A + (d + 1))).atts = (playR [f] (fun _ => s) x (A + d)).atts ++ late := e1
    rw [e4, List.countP_append, allS, List.length_append, List.length_map]
    have h8 : late.countP (keyK [f.id, (k : Nat), a, b]) = (late.map keyA).countP (fun p : Int × Int × Cell => [p.2.2.flow, p.2.1, p.2.2.src, p.2.2.dst] == [f.id, (k : Nat), a, b]) := by rw [List.countP_map]; rfl
    rw [h8, e3]
    have h9 : ((cellsL s f a b).filter fun c => c.slot == ((A : Int) + (d : Nat)) % s.len).length = ((atM s ((A + d : Nat) : Int)).filter fun c => !offL f.id a b c).length := by
      unfold atM cellsL
      rw [if_neg (by rw [hfm]; intro h; rcases h with h | h <;> first | cases h | omega), List.filter_filter, List.filter_filter, Int.natCast_add]
      congr 1
      refine List.filter_congr fun c _ => ?_
      rw [Bool.and_comm]
    rw [h9]
    refine Nat.add_le_add ih (fm_count_le fun c hc y hy hp => ?_)
    obtain ⟨e, g1, _⟩ := genB_some hy
    subst e
    simp only [beq_iff_eq, List.cons.injEq, and_true] at hp
    unfold offL
    simp only [Bool.not_or, Bool.and_eq_true, Bool.not_eq_true', bne_eq_false_iff_eq]
    exact ⟨⟨hp.1, hp.2.2.1⟩, hp.2.2.2⟩
/-- the last slot that counts is the first one with so many cells -/
theorem slotsOn_least {s : Sched} {f : Flow} {a b : Int} {need : Nat} {at_ stop L y : Int} (h : (slotsOn s f a b need at_ stop).getLast? = some L) (hy : need ≤ (allS (cellsL s f a b) s.len at_ (y + 1 - at_).toNat).length) (hay : at_ ≤ y + 1) : L ≤ y := by
  have hL := slotsOn_mem (List.mem_of_getLast? h)
  rcases Int.lt_or_le y (stop - 1) with hlt | hge
  · obtain ⟨e, he⟩ : ∃ e, (stop - at_).toNat = (y + 1 - at_).toNat + e := ⟨(stop - at_).toNat - (y + 1 - at_).toNat, by omega⟩
    have hm := List.mem_of_getLast? h
    unfold slotsOn at hm
    rw [he, allS_plus, List.take_append_of_le_length hy] at hm
    have := allS_mem (List.mem_of_mem_take hm)
    omega
  · omega
theorem snoc_ind {α : Type} {P : List α → Prop} (h0 : P []) (hs : ∀ l a, P l → P (l ++ [a])) : ∀ l, P l := by
  intro l
  have h : ∀ m : List α, P m.reverse := by
    intro m
    induction m with
    | nil => exact h0
    | cons a m ih => rw [List.reverse_cons]; exact hs _ a ih
  have := h l.reverse
  rwa [List.reverse_reverse] at this
/-- what the outcomes of a row of attempts do to its breach -/
theorem brk_outs {c : Cell} {fr loss : Int} {g : Nat → Int} (hg : ∀ j : Nat, loss ≤ j → g j = 1) : ∀ {ats : List Att}, (ats.filter (onA c fr)).map (·.out) = (List.range (countR ats c fr)).map g → (brk [c.flow, fr, c.src, c.dst] loss ats).2 = none ∧ (brk [c.flow, fr, c.src, c.dst] loss ats).1.length ≤ countR ats c fr := by
  intro ats
  refine snoc_ind (P := fun ats => (ats.filter (onA c fr)).map (·.out) = (List.range (countR ats c fr)).map g → (brk [c.flow, fr, c.src, c.dst] loss ats).2 = none ∧ (brk [c.flow, fr, c.src, c.dst] loss ats).1.length ≤ countR ats c fr) (fun _ => ⟨rfl, by simp [brk]⟩) (fun l a ih => ?_) ats
  · intro h
    have hc : countR (l ++ [a]) c fr = countR l c fr + (if onA c fr a = true then 1 else 0) := by
      unfold countR; rw [List.countP_append, List.countP_cons, List.countP_nil]; omega
    rw [brk_snoc]
    by_cases ho : onA c fr a = true
    · rw [if_pos ho] at hc
      rw [hc, List.range_succ, List.map_append, List.filter_append, List.map_append] at h
      simp only [List.filter_cons, ho, if_true, List.filter_nil, List.map_cons, List.map_nil] at h
      obtain ⟨h1, h2⟩ := List.append_inj' h (by simp)
      obtain ⟨i1, i2⟩ := ih h1
      have hout : a.out = g (countR l c fr) := by simpa using h2
      have hk : a.key = [c.flow, fr, c.src, c.dst] := by
        have := keyK_onA (c := c) (fr := fr) (a := a)
        rw [ho] at this
        exact eq_of_beq this
      unfold brS
      rw [if_pos ⟨hk, i1⟩, hc]
      by_cases h3 : a.out = 1
      · rw [if_pos h3]; exact ⟨rfl, by simp⟩
      · rw [if_neg h3]
        have h4 : ¬ loss ≤ ((countR l c fr : Nat) : Int) := fun h5 => h3 (by rw [hout, hg _ h5])
        simp only
        rw [if_neg (by omega)]
        exact ⟨rfl, by rw [List.length_append, List.length_singleton]; omega⟩
    · rw [if_neg ho] at hc
      have hk : a.key ≠ [c.flow, fr, c.src, c.dst] := fun e => ho (by rw [← keyK_onA, keyK, e]; exact beq_self_eq_true _)
      rw [brS_ne hk, hc]
      rw [hc, List.filter_append] at h
      simp only [List.filter_cons, ho, List.filter_nil, if_false, List.append_nil] at h
      exact ih (by simpa using h)
end HM
