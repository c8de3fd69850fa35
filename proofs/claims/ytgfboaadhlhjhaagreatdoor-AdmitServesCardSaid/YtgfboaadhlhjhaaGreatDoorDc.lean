/- Further plain words. -/
import Derived.Test.YtgfboaadhlhjhaaGreatDoorDb
import Derived.Test.YtgfboaadhlhjhaaGreatDoorDa
import Derived.Test.YtgfboaadhlhjhaaGreatDoorFh
import Derived.Test.YtgfboaadhlhjhaaGreatDoorFc
namespace HM
open Go Go.RowKit
structure Srv (n : Net) (q : List Req) (s : Sched) : Prop where
  ok : VOk n (flowsQ q) s
  req : (reqE n q).2 = 0
  srv : ∀ x ∈ q, servedB n s x
section
variable {n : Net} {q : List Req} {s : Sched}
theorem Srv.per (h : Srv n q s) : ∀ x ∈ q, s.len % x.flow.period = 0 := fun x hx => h.ok.per x.flow (List.mem_map.2 ⟨x, hx, rfl⟩)
theorem Srv.len (h : Srv n q s) : 1 ≤ s.len ∧ s.len ≤ 512 ∧ 1 ≤ s.offs ∧ s.offs ≤ 16 := sized_bd h.ok.size
theorem VOk.pairs {l : List Flow} (h : VOk n l s) : s.cells.Pairwise fun c d => c.slot = d.slot → touchB c d = false :=
  List.pairwise_iff_getElem.2 fun i j hi hj hij hs => h.apart (List.getElem?_eq_getElem hi) (List.getElem?_eq_getElem hj) (by omega) hs
end
end HM
namespace HM
open Go Go.RowKit
structure Claim where
  flow : Int
  routes : List (List Int)
  bounds : List Int
  worst : List Int
  slots : List (List Int)
  deriving DecidableEq
def Claim.cs (c : Claim) : List AV := [.int .i64 c.flow, encRows c.routes, encIs c.bounds, encIs c.worst, encRows c.slots]
def Claim.av (c : Claim) : AV := .agg [.int .i64 c.flow, encRows c.routes, encIs c.bounds, encIs c.worst, encRows c.slots]
def encClaims (l : List Claim) : AV := .sl false (l.map Claim.av)
def claim0 : Claim := ⟨0, [], [], [], []⟩
def srvB (n : Net) (s : Sched) (x : Req) (r : List Int) : Bool := decide ((routeM n s x.flow r).2.2.2 = 0) && decide ((routeM n s x.flow r).1 ≤ x.flow.dead)
def claimT (n : Net) (s : Sched) (x : Req) (l : List (List Int)) : Claim := ⟨x.flow.id, l, l.map fun r => (routeM n s x.flow r).1, l.map fun r => (routeM n s x.flow r).2.1, l.map fun r => (routeM n s x.flow r).2.2.1⟩
def claimB (n : Net) (s : Sched) (x : Req) : Bool := x.routes.all (srvB n s x)
def claimM (n : Net) (s : Sched) (x : Req) : Claim := if claimB n s x then claimT n s x x.routes else claim0
def lateAt (n : Net) (s : Sched) (q : List Req) (i : Nat) : Int := match q[i]? with
  | some x => if claimB n s x then 0 else 15
  | none => 0
def makeM (n : Net) (q : List Req) (s : Sched) : List Claim × Int × Int :=
  if (reqE n q).2 ≠ 0 then ([], (reqE n q).1, (reqE n q).2) else if (schedE n (flowsQ q) s).2 ≠ 0 then ([], -1, 1)
  else if (firstAt (lateAt n s q) q.length).2 ≠ 0 then ([], firstAt (lateAt n s q) q.length) else (q.map (claimM n s), -1, 0)
theorem VOk.form {n : Net} {l : List Flow} {s : Sched} (h : VOk n l s) : formB s = true := by
  unfold formB
  rw [h.size, decide_eq_true h.many, Bool.true_and, Bool.true_and]
  refine range_all fun i hi => ?_
  obtain ⟨c, hc⟩ := getLt hi
  obtain ⟨h1, h2, h3, h4⟩ := h.cell i c hc
  obtain ⟨p, l', e1, e2, e3, e4⟩ := findL_at (good_find h2)
  have hb := linkR_bd (h.net.link p l' e2).1
  have hn := h.net.nodes
  obtain ⟨f, hf, hid⟩ := List.any_eq_true.1 h3
  have hff : 0 ≤ f.id ∧ f.id ≤ 255 := by
    obtain ⟨k, hk⟩ := List.getElem?_of_mem hf
    have hkl := (List.getElem?_eq_some_iff.1 hk).1
    have hfl := h.flows
    unfold flowsE at hfl
    split at hfl
    · cases hfl
    split at hfl
    · cases hfl
    have g := firstAt_ok.1 hfl k hkl
    unfold flowAt at g
    rw [hk] at g
    simp only at g
    have hfx : flowE n.nodes f = 0 := by
      split at g
      · rename_i hh; exact absurd g hh
      · omega
    have := flowE_ok hfx
    omega
  simp only [beq_iff_eq] at hid
  unfold okAt
  rw [hc]
  simp only
  have hfm : formedB s c = true := by
    unfold formedB
    rw [h1]
    simp only [insB, Bool.true_and, Bool.and_eq_true, decide_eq_true_eq]
    omega
  rw [hfm, Bool.true_and]
  unfold ordC at h4
  cases i with
  | zero => rfl
  | succ j => exact h4
end HM
namespace HM
open Go Go.RowKit
def mpv (p : PS) (id : Nat) : AV := if p.frame < 0 then .nilm else .mp id
def mapsOf (p : PS) : Nat → Ob
  | 0 => p.since.ob none
  | 1 => p.tries.ob (some 2)
  | _ => p.acked.ob (some 2)
def stAV (g : Nat → Nat) (p : PS) : AV := .agg [.int .i64 p.frame, mpv p (g 0), mpv p (g 1), mpv p (g 2), .bool p.done]
def statesE (g : Nat → Nat → Nat) (q : List PS) : List AV := q.mapIdx fun i p => stAV (g i) p
def plC (l : List Flow) (s : Sched) (x : List Rule) (sv av dv : AV) : List AV := [encFlows l, .int .i64 s.len, .int .i64 s.offs, encCells s.cells, encScript x, sv, av, dv]
structure PTys where
  p : TypeId
  q : TypeId
  d : TypeId
  a : TypeId
  hpq : p ≠ q
  hpd : p ≠ d
  hqd : q ≠ d
  ks : List (Nat × List AV × TypeId)
  hk : ∀ e ∈ ks, e.2.2 ≠ p ∧ e.2.2 ≠ q ∧ e.2.2 ≠ d
def StV (T : PTys) (S : St) (sv : AV) (g : Nat → Nat → Nat) (sts : List PS) : Prop := (sts = [] ∧ sv = .grown .nils 0) ∨ ∃ qb ex, sv = .vsl qb 0 sts.length 5 ∧ S.bx[qb]? = some (.cells (flatE (statesE g sts) ++ ex) T.q)
def DelV (T : PTys) (S : St) (dv : AV) (ds : List Del) : Prop := (ds = [] ∧ dv = .grown .nils 0) ∨ ∃ db ex, dv = .vsl db 0 ds.length 3 ∧ S.bx[db]? = some (.cells (flatE (ds.map Del.av) ++ ex) T.d)
structure PInv (T : PTys) (S : St) (pb ch : Nat) (l : List Flow) (s : Sched) (x : List Rule) (Q : PL) (g : Nat → Nat → Nat) (sv dv : AV) : Prop where
  p : S.bx[pb]? = some (.cells (plC l s x sv (.own (Q.atts.map Att.av) ch) dv) T.p)
  q : StV T S sv g Q.sts
  m : ∀ (i : Nat) (p : PS), Q.sts[i]? = some p → 0 ≤ p.frame → ∀ j, j < 3 → S.bx[g i j]? = some (mapsOf p j)
  inj : ∀ (i : Nat) (p : PS) (i' : Nat) (p' : PS), Q.sts[i]? = some p → Q.sts[i']? = some p' → 0 ≤ p.frame → 0 ≤ p'.frame → ∀ j j', j < 3 → j' < 3 → g i j = g i' j' → i = i' ∧ j = j'
  a : S.fr[ch]? = some (Q.atts.length, 8)
  ty : S.ty ch = T.a
  k : ∀ e ∈ T.ks, S.bx[e.1]? = some (.cells e.2.1 e.2.2)
  d : DelV T S dv Q.dels
theorem ne_cm {S : St} {a b : Nat} {cs : List AV} {t : TypeId} {sh : Option Nat} {ks : List (List Int)} {vs : List AV} (h : S.bx[a]? = some (.cells cs t)) (h' : S.bx[b]? = some (.map sh ks vs)) : a ≠ b := by
  rintro rfl
  rw [h] at h'
  injection h' with h'
  cases h'
theorem ne_cc {S : St} {a b : Nat} {cs cs' : List AV} {t t' : TypeId} (h : S.bx[a]? = some (.cells cs t)) (h' : S.bx[b]? = some (.cells cs' t')) (ht : t ≠ t') : a ≠ b := by
  rintro rfl
  rw [h] at h'
  injection h' with h'
  injection h' with _ h'
  exact ht h'
theorem mapsOf_map (p : PS) (j : Nat) : ∃ sh ks vs, mapsOf p j = .map sh ks vs := by
  unfold mapsOf
  split <;> exact ⟨_, _, _, rfl⟩
theorem ne_cM {S : St} {a b : Nat} {cs : List AV} {t : TypeId} {p : PS} {j : Nat} (h : S.bx[a]? = some (.cells cs t)) (h' : S.bx[b]? = some (mapsOf p j)) : a ≠ b := by
  obtain ⟨sh, ks, vs, e⟩ := mapsOf_map p j
  rw [e] at h'
  exact ne_cm h h'
section
variable {T : PTys} {S S' : St} {pb ch : Nat} {l : List Flow} {s : Sched} {x : List Rule} {Q : PL} {g : Nat → Nat → Nat} {sv dv : AV}
theorem PInv.more (h : PInv T S pb ch l s x Q g sv dv) (hx : ∀ (id : Nat) (o : Ob), S.bx[id]? = some o → S'.bx[id]? = some o) (hf : S'.fr[ch]? = S.fr[ch]?) (ht : S'.ty ch = S.ty ch) : PInv T S' pb ch l s x Q g sv dv := by
  refine ⟨hx _ _ h.p, ?_, fun i p hp h0 j hj => hx _ _ (h.m i p hp h0 j hj), h.inj, hf.trans h.a, ht.trans h.ty, fun e he => hx _ _ (h.k e he), ?_⟩
  · rcases h.q with hq | ⟨qb, ex, h1, h2⟩
    · exact .inl hq
    · exact .inr ⟨qb, ex, h1, hx _ _ h2⟩
  · rcases h.d with hq | ⟨qb, ex, h1, h2⟩
    · exact .inl hq
    · exact .inr ⟨qb, ex, h1, hx _ _ h2⟩
end
end HM
namespace HM
open Go Go.RowKit
section
variable {T : PTys} {S : St} {pb ch : Nat} {l : List Flow} {s : Sched} {x : List Rule} {Q : PL} {g : Nat → Nat → Nat} {sv dv : AV}
end
def InvY (T : PTys) (S S' : St) : Prop := ∀ (id : Nat) (cs : List AV) (t : TypeId), t ≠ T.p → t ≠ T.d → S.bx[id]? = some (.cells cs t) → S'.bx[id]? = some (.cells cs t)
theorem InvY.refl (T : PTys) (S : St) : InvY T S S := fun _ _ _ _ _ h => h
theorem InvY.addB {T : PTys} {S S' : St} {o : Ob} (h : InvY T S S') : InvY T S (S'.addB o) := fun id' cs' t h1 h2 hc => St.addB_old (h id' cs' t h1 h2 hc)
theorem InvY.addF {T : PTys} {S S' : St} {y : Nat × Nat} {e : TypeId} (h : InvY T S S') : InvY T S (S'.addF y e) := h
end HM
namespace HM
open Go Go.RowKit
def gset (g : Nat → Nat → Nat) (i a b c : Nat) : Nat → Nat → Nat := fun i' j => if i' = i then (match j with | 0 => a | 1 => b | _ => c) else g i' j
section
variable {T : PTys} {S S' : St} {pb ch : Nat} {l : List Flow} {s : Sched} {x : List Rule} {Q : PL} {g : Nat → Nat → Nat} {sv dv : AV}
theorem PInv.fresh (h : PInv T S pb ch l s x Q g sv dv) (hx : ∀ (id : Nat) (o : Ob), S.bx[id]? = some o → S'.bx[id]? = some o) (hf : S'.fr = S.fr) (ht : S'.ty = S.ty) {qb : Nat} {ex : List AV} (hsv : sv = .vsl qb 0 Q.sts.length 5) (hq : S.bx[qb]? = some (.cells (flatE (statesE g Q.sts) ++ ex) T.q))
    {i : Nat} {p p' : PS} (hp : Q.sts[i]? = some p) (h0 : ¬ p'.frame < 0) {a b c : Nat} (ha : S'.bx[a]? = some (mapsOf p' 0)) (hb : S'.bx[b]? = some (mapsOf p' 1)) (hc : S'.bx[c]? = some (mapsOf p' 2)) (ga : S.bx.length ≤ a) (gb : S.bx.length ≤ b) (gc : S.bx.length ≤ c) (hab : a ≠ b) (hac : a ≠ c) (hbc : b ≠ c) :
    PInv T (S'.setB qb (.cells (flatE (statesE (gset g i a b c) (Q.sts.set i p')) ++ ex) T.q)) pb ch l s x ⟨Q.sts.set i p', Q.atts, Q.dels⟩ (gset g i a b c) sv dv := by
  have hil := (List.getElem?_eq_some_iff.1 hp).1
  have hself : ∀ k (q : PS), (Q.sts.set i p')[k]? = some q → i = k → q = p' := by
    intro k q hq e
    subst e
    rw [List.getElem?_set_self hil] at hq
    injection hq with hq; exact hq.symm
  have hoth : ∀ k (q : PS), (Q.sts.set i p')[k]? = some q → i ≠ k → Q.sts[k]? = some q := by
    intro k q hq e
    rwa [List.getElem?_set_ne e] at hq
  have hlt : ∀ k q, Q.sts[k]? = some q → 0 ≤ q.frame → ∀ j, j < 3 → g k j < S.bx.length := fun k q hq hq0 j hj => (List.getElem?_eq_some_iff.1 (h.m k q hq hq0 j hj)).1
  have hg : ∀ k j, i ≠ k → gset g i a b c k j = g k j := fun k j e => by unfold gset; rw [if_neg (fun hh => e hh.symm)]
  have hgi : ∀ j, gset g i a b c i j = (match j with | 0 => a | 1 => b | _ => c) := fun j => by unfold gset; rw [if_pos rfl]
  have hge : ∀ j, S.bx.length ≤ gset g i a b c i j := fun j => by
    rw [hgi]
    split <;> assumption
  have hq' := hx _ _ hq
  refine ⟨by rw [St.setB_ne (ne_cc h.p hq T.hpq).symm]; exact hx _ _ h.p, .inr ⟨qb, ex, by simpa using hsv, St.setB_get hq'⟩, fun k q hq1 hq0 j hj => ?_, fun k q k' q' hq1 hq1' hq0 hq0' j1 j2 hj1 hj2 he => ?_, by rw [St.setB_fr, hf]; exact h.a, by show S'.ty ch = _; rw [ht]; exact h.ty, fun e he => by rw [St.setB_ne (ne_cc hq (h.k e he) (T.hk e he).2.1.symm)]; exact hx _ _ (h.k e he), ?_⟩
  · have hm : S'.bx[gset g i a b c k j]? = some (mapsOf q j) := by
      by_cases e : i = k
      · subst e
        obtain rfl := hself i q hq1 rfl
        rw [hgi]
        rcases j with _ | _ | _ | j
        · exact ha
        · exact hb
        · exact hc
        · omega
      · rw [hg k j e]
        exact hx _ _ (h.m k q (hoth k q hq1 e) hq0 j hj)
    rw [St.setB_ne (ne_cM hq' hm)]
    exact hm
  · by_cases e : i = k
    · by_cases e' : i = k'
      · subst e; subst e'
        refine ⟨rfl, ?_⟩
        rw [hgi, hgi] at he
        rcases j1 with _ | _ | _ | j1 <;> rcases j2 with _ | _ | _ | j2 <;> first | rfl | omega | exact absurd he hab | exact absurd he hac | exact absurd he hbc | exact absurd he.symm hab | exact absurd he.symm hac | exact absurd he.symm hbc
      · subst e
        have h1 := hge j1
        have h2 := hlt k' q' (hoth k' q' hq1' e') hq0' j2 hj2
        rw [hg k' j2 e'] at he
        omega
    · by_cases e' : i = k'
      · subst e'
        have h1 := hge j2
        have h2 := hlt k q (hoth k q hq1 e) hq0 j1 hj1
        rw [hg k j1 e] at he
        omega
      · rw [hg k j1 e, hg k' j2 e'] at he
        exact h.inj _ _ _ _ (hoth k q hq1 e) (hoth k' q' hq1' e') hq0 hq0' j1 j2 hj1 hj2 he
  · rcases h.d with hd | ⟨db, ex2, h1, h2⟩
    · exact .inl hd
    · exact .inr ⟨db, ex2, h1, by rw [St.setB_ne (ne_cc hq h2 T.hqd)]; exact hx _ _ h2⟩
end
def InvZ (T : PTys) (S S' : St) : Prop := ∀ (id : Nat) (cs : List AV) (t : TypeId), t ≠ T.q → S.bx[id]? = some (.cells cs t) → S'.bx[id]? = some (.cells cs t)
theorem InvZ.refl (T : PTys) (S : St) : InvZ T S S := fun _ _ _ _ h => h
theorem InvZ.addB {T : PTys} {S S' : St} {o : Ob} (h : InvZ T S S') : InvZ T S (S'.addB o) := fun id' cs' t h1 hc => St.addB_old (h id' cs' t h1 hc)
end HM
namespace HM
open Go Go.RowKit
end HM
namespace HM
open Go Go.RowKit
end HM
namespace HM
end HM
namespace HM
open Go Go.RowKit
theorem cell_cmp0 {x c : Cell} (h : x.cmp c = 0) : x = c := by
  have h1 := cmpL_eq.1 h
  obtain ⟨a1, a2, a3, a4, a5⟩ := x
  obtain ⟨b1, b2, b3, b4, b5⟩ := c
  simpa [Cell.nums] using h1
theorem has_mem {c : Cell} : ∀ {l : List Cell}, l.Pairwise (fun a b => a.cmp b < 0) → hasB (cellTo c) l = decide (c ∈ l)
  | [], _ => by simp [hasB]
  | x :: l, h => by
    have hc0 : c.cmp c = 0 := cmpL_eq.2 rfl
    obtain ⟨h1, h2⟩ := List.pairwise_cons.1 h
    by_cases hx : x.cmp c < 0
    · have hp : posB (cellTo c) (x :: l) = posB (cellTo c) l + 1 := by
        unfold posB
        rw [List.takeWhile_cons, if_pos (show decide (cellTo c x < 0) = true from decide_eq_true hx)]; rfl
      have hh : hasB (cellTo c) (x :: l) = hasB (cellTo c) l := by
        unfold hasB
        rw [hp, List.getElem?_cons_succ]
      have hne : c ≠ x := by rintro rfl; omega
      rw [hh, has_mem h2]
      simp [hne]
    · have hp : posB (cellTo c) (x :: l) = 0 := by
        unfold posB
        rw [List.takeWhile_cons, if_neg (show ¬ decide (cellTo c x < 0) = true from fun h => hx (of_decide_eq_true h))]; rfl
      have hh : hasB (cellTo c) (x :: l) = (x.cmp c == 0) := by
        unfold hasB
        rw [hp]; rfl
      rw [hh, Bool.eq_iff_iff]
      simp only [beq_iff_eq, decide_eq_true_eq, List.mem_cons]
      constructor
      · intro h; exact .inl (cell_cmp0 h).symm
      · rintro (rfl | hm)
        · exact hc0
        · exact absurd (h1 c hm) hx
end HM
namespace HM
open Go Go.RowKit
structure AppI (s : Sched) (cs : List Chg) (t : Int) (k : Nat) (u o : Sched) : Prop where
  le : k ≤ cs.length
  eq : appM none s s cs t = appM (prevS cs k) u o (cs.drop k) t
theorem AppI.zero (s : Sched) (cs : List Chg) (t : Int) : AppI s cs t 0 s s := ⟨Nat.zero_le _, rfl⟩
theorem AppI.step {s u o : Sched} {cs : List Chg} {t : Int} {k : Nat} (h : AppI s cs t k u o) {c : Chg} (hc : cs[k]? = some c) (he : chgE (prevS cs k) c = 0) (h2 : (chgM u c).2 = 0) : AppI s cs t (k + 1) (chgM u c).1 (if c.slot ≤ t then (chgM u c).1 else o) := by
  refine ⟨(List.getElem?_eq_some_iff.1 hc).1, ?_⟩
  have hp : prevS cs (k + 1) = some c.slot := by simp [prevS, hc]
  rw [h.eq, dropGet hc, appM, if_neg (by simp [he]), if_neg (fun hh => hh h2), hp]
theorem AppI.fin {s u o : Sched} {cs : List Chg} {t : Int} (h : AppI s cs t cs.length u o) : appM none s s cs t = (o, 0) := by
  rw [h.eq, List.drop_length]; rfl
end HM
namespace HM
open Go Go.RowKit
end HM
namespace HM
open Go Go.RowKit
end HM
namespace HM
open Go Go.RowKit
end HM
namespace HM
end HM
namespace HM
open Go Go.RowKit
def getK {α : Type} (ks : List (List Int)) (vs : List α) (x : List Int) : Option α := (posOf ks x).bind fun i => vs[i]?
def putV {α : Type} (ks : List (List Int)) (vs : List α) (x : List Int) (v : α) : List α := match posOf ks x with
  | some i => vs.set i v
  | none => vs ++ [v]
theorem posOf_lt {ks : List (List Int)} {x : List Int} {i : Nat} (h : posOf ks x = some i) : i < ks.length := (List.getElem?_eq_some_iff.1 (posOf_some h)).1
theorem posOf_app {ks : List (List Int)} {x y : List Int} : posOf (ks ++ [x]) y = match posOf ks y with
    | some i => some i
    | none => if x = y then some ks.length else none := by
  induction ks with
  | nil => simp [posOf]
  | cons k ks ih =>
    simp only [List.cons_append, posOf, ih]
    split
    · rfl
    · cases posOf ks y with
      | some i => rfl
      | none =>
        simp only [Option.map_none]
        split
        · simp
        · rfl
theorem put_len {α : Type} {ks : List (List Int)} {vs : List α} (h : ks.length = vs.length) (x : List Int) (v : α) : (setKs ks x).length = (putV ks vs x v).length := by
  unfold setKs putV
  cases posOf ks x <;> simp [h]
theorem get_put {α : Type} {ks : List (List Int)} {vs : List α} (h : ks.length = vs.length) (x y : List Int) (v : α) : getK (setKs ks x) (putV ks vs x v) y = if x = y then some v else getK ks vs y := by
  unfold getK setKs putV
  cases hx : posOf ks x with
  | some i =>
    have hi := posOf_lt hx
    simp only
    by_cases e : x = y
    · subst e
      rw [if_pos rfl, hx]
      simp [h ▸ hi]
    · rw [if_neg e]
      cases hy : posOf ks y with
      | none => rfl
      | some j =>
        have : i ≠ j := fun hij => by
          subst hij
          have h1 := posOf_some hx
          rw [posOf_some hy] at h1
          injection h1 with h1
          exact e h1.symm
        simp only [Option.bind_some]
        rw [List.getElem?_set_ne this]
  | none =>
    simp only [posOf_app]
    by_cases e : x = y
    · subst e
      rw [if_pos rfl, hx, if_pos rfl]
      simp [h]
    · rw [if_neg e]
      cases hy : posOf ks y with
      | none => simp [e]
      | some j => simp [e, List.getElem?_append_left (h ▸ posOf_lt hy)]
theorem setKs_nodup {ks : List (List Int)} (h : ks.Nodup) (x : List Int) : (setKs ks x).Nodup := by
  unfold setKs
  cases hx : posOf ks x with
  | some i => exact h
  | none =>
    have := posOf_none.1 hx
    rw [List.nodup_append]
    exact ⟨h, by simp, fun a ha b hb => by simp at hb; subst hb; exact fun e => this (e ▸ ha)⟩
theorem mem_setK {ks : List (List Int)} {x y : List Int} : y ∈ setKs ks x ↔ y ∈ ks ∨ y = x := by
  unfold setKs
  cases h : posOf ks x with
  | none => simp
  | some i =>
    refine ⟨.inl, fun h1 => h1.elim id fun e => ?_⟩
    rw [e]
    exact List.mem_of_getElem? (posOf_some h)
structure Brc where
  flow : Int
  frame : Int
  src : Int
  dst : Int
  slots : List Int
  deriving DecidableEq
def Brc.av (b : Brc) : AV := .agg [.int .i64 b.flow, .int .i64 b.frame, .int .i64 b.src, .int .i64 b.dst, encIs b.slots]
def Brc.key (b : Brc) : List Int := [b.flow, b.frame, b.src, b.dst]
def Brc.of (k : List Int) (s : List Int) : Brc := ⟨k.getD 0 0, k.getD 1 0, k.getD 2 0, k.getD 3 0, s⟩
def Att.key (a : Att) : List Int := [a.cell.flow, a.frame, a.cell.src, a.cell.dst]
theorem FitF.nil (l : Frs) : FitF l [] := by unfold FitF; trivial
theorem FitF.app : ∀ (l m : Frs), FitF (l ++ m) l
  | [], _ => by unfold FitF; trivial
  | _ :: l, m => ⟨rfl, FitF.app l m⟩
def brS (k : List Int) (loss : Int) (st : List Int × Option (List Int)) (a : Att) : List Int × Option (List Int) :=
  if a.key = k ∧ st.2 = none then (if a.out = 1 then ([], none) else (st.1 ++ [a.slot], if loss < (st.1.length + 1 : Nat) then some (st.1 ++ [a.slot]) else none)) else st
def brk (k : List Int) (loss : Int) (ats : List Att) : List Int × Option (List Int) := ats.foldl (brS k loss) ([], none)
theorem brk_snoc (k : List Int) (loss : Int) (ats : List Att) (a : Att) : brk k loss (ats ++ [a]) = brS k loss (brk k loss ats) a := by simp [brk]
def linkK (n : Net) (k : List Int) : Int := findL n (k.getD 2 0) (k.getD 3 0)
def lossK (n : Net) (k : List Int) : Int := lossL n (k.getD 2 0) (k.getD 3 0)
structure BS where
  ks : List (List Int)
  vs : List (Option (List Int × Nat))
  fk : List (List Int)
  fv : List (List Int × Nat)
  fr : Frs
def BS.row (b : BS) (k : List Int) : Option (List Int × Nat) := (getK b.ks b.vs k).getD none
def appO (fr : Frs) (v : Option (List Int × Nat)) (x : Int) : List Int × Nat := match v with
  | none => ([x], (fr ++ [(1, 1)]).length)
  | some p => (p.1 ++ [x], p.2)
def frO (fr : Frs) (v : Option (List Int × Nat)) : Frs := match v with
  | none => (fr ++ [(1, 1)]) ++ [(1, 1)]
  | some p => fr.set p.2 (p.1.length + 1, 1)
def stepB (n : Net) (b : BS) (a : Att) : BS :=
  if linkK n a.key < 0 ∨ (getK b.fk b.fv a.key).isSome = true then b
  else if a.out = 1 then { b with ks := setKs b.ks a.key, vs := putV b.ks b.vs a.key none }
  else
    let p := appO b.fr (b.row a.key) a.slot
    if lossK n a.key < (p.1.length : Nat) then ⟨setKs b.ks a.key, putV b.ks b.vs a.key (some p), setKs b.fk a.key, putV b.fk b.fv a.key p, frO b.fr (b.row a.key)⟩
    else ⟨setKs b.ks a.key, putV b.ks b.vs a.key (some p), b.fk, b.fv, frO b.fr (b.row a.key)⟩
structure BOk (n : Net) (ats : List Att) (b : BS) : Prop where
  l1 : b.ks.length = b.vs.length
  l2 : b.fk.length = b.fv.length
  nd : b.fk.Nodup
  from_ : ∀ k ∈ b.fk, ∃ a ∈ ats, a.key = k ∧ 0 ≤ linkK n k
  fo : ∀ k, 0 ≤ linkK n k → (getK b.fk b.fv k).map (·.1) = (brk k (lossK n k) ats).2
  ne : ∀ p ∈ b.fv, p.1 ≠ [] ∧ p.2 < b.fr.length
  rw_ : ∀ k, 0 ≤ linkK n k → (brk k (lossK n k) ats).2 = none → match b.row k with
    | none => (brk k (lossK n k) ats).1 = []
    | some p => (brk k (lossK n k) ats).1 = p.1 ∧ b.fr[p.2]? = some (p.1.length, 1)
  lt : ∀ k p, b.row k = some p → p.1 ≠ [] ∧ p.2 < b.fr.length
  un : ∀ k k' p p', b.row k = some p → b.row k' = some p' → p.2 = p'.2 → k = k'
  al : ∀ v ∈ b.vs, ∀ p, v = some p → p.2 < b.fr.length
  fl : b.fk.length ≤ ats.length
  rl : ∀ k p, b.row k = some p → p.1.length ≤ ats.length
theorem mem_putV {α : Type} {ks : List (List Int)} {vs : List α} {x : List Int} {v u : α} (h : u ∈ putV ks vs x v) : u ∈ vs ∨ u = v := by
  unfold putV at h
  split at h
  · exact List.mem_or_eq_of_mem_set h
  · simpa using h
theorem setKs_len_le (ks : List (List Int)) (x : List Int) : (setKs ks x).length ≤ ks.length + 1 := by
  unfold setKs
  split <;> simp
theorem BOk.start (n : Net) : BOk n [] ⟨[], [], [], [], []⟩ where
  l1 := rfl
  l2 := rfl
  nd := .nil
  from_ := by simp
  fo := fun k _ => rfl
  ne := by simp
  rw_ := fun k _ _ => rfl
  lt := fun k p h => by cases h
  un := fun k k' p p' h => by cases h
  al := by simp
  fl := by simp
  rl := fun k p h => by cases h
theorem row_put {b : BS} (h : b.ks.length = b.vs.length) (x y : List Int) (v : Option (List Int × Nat)) (fk : List (List Int)) (fv : List (List Int × Nat)) (fr : Frs) : BS.row ⟨setKs b.ks x, putV b.ks b.vs x v, fk, fv, fr⟩ y = if x = y then v else b.row y := by
  unfold BS.row
  simp only [get_put h]
  split <;> rfl
theorem frO_len (fr : Frs) (v : Option (List Int × Nat)) : fr.length ≤ (frO fr v).length := by
  cases v <;> simp [frO]
theorem brS_ne {k : List Int} {loss : Int} {st : List Int × Option (List Int)} {a : Att} (h : a.key ≠ k) : brS k loss st a = st := by rw [brS, if_neg (fun hh => h hh.1)]
theorem brS_done {k : List Int} {loss : Int} {st : List Int × Option (List Int)} {a : Att} (h : st.2 ≠ none) : brS k loss st a = st := by rw [brS, if_neg (fun hh => h hh.2)]
theorem frO_old {fr : Frs} {v : Option (List Int × Nat)} {c : Nat} {x : Nat × Nat} (h : fr[c]? = some x) (hn : ∀ p, v = some p → p.2 ≠ c) : (frO fr v)[c]? = some x := by
  cases v with
  | none => rw [frO, List.append_assoc, List.getElem?_append_left (List.getElem?_eq_some_iff.1 h).1]; exact h
  | some p => rw [frO, List.getElem?_set_ne (hn p rfl)]; exact h
theorem appO_chain {fr : Frs} {v : Option (List Int × Nat)} (x : Int) (hv : ∀ p, v = some p → p.2 < fr.length) : (appO fr v x).1 ≠ [] ∧ (appO fr v x).2 < (frO fr v).length ∧ (frO fr v)[(appO fr v x).2]? = some ((appO fr v x).1.length, 1) := by
  cases v with
  | none => exact ⟨by simp [appO], by simp [appO, frO], by simp [appO, frO]⟩
  | some p =>
    have := hv p rfl
    exact ⟨by simp [appO], by simpa [appO, frO] using this, by simp [appO, frO, this]⟩
theorem BOk.step {n : Net} {ats : List Att} {b : BS} (h : BOk n ats b) (a : Att) : BOk n (ats ++ [a]) (stepB n b a) := by
  have same : ∀ k, a.key ≠ k → brk k (lossK n k) (ats ++ [a]) = brk k (lossK n k) ats := fun k hk => by rw [brk_snoc, brS_ne hk]
  have keep : (∀ k, 0 ≤ linkK n k → brk k (lossK n k) (ats ++ [a]) = brk k (lossK n k) ats) → BOk n (ats ++ [a]) b := fun hh =>
    ⟨h.l1, h.l2, h.nd, fun k hk => let ⟨x, hx, e⟩ := h.from_ k hk; ⟨x, by simp [hx], e⟩, fun k hk => by rw [hh k hk]; exact h.fo k hk, h.ne, fun k hk => by rw [hh k hk]; exact h.rw_ k hk, h.lt, h.un, h.al, by have := h.fl; simp; omega, fun k p hp => by have := h.rl k p hp; simp; omega⟩
  unfold stepB
  by_cases h1 : linkK n a.key < 0 ∨ (getK b.fk b.fv a.key).isSome = true
  · rw [if_pos h1]
    refine keep fun k hk => ?_
    by_cases e : a.key = k
    · subst e
      rcases h1 with h1 | h1
      · omega
      · rw [brk_snoc, brS_done]
        rw [← h.fo _ hk]
        cases hg : getK b.fk b.fv a.key with
        | none => rw [hg] at h1; cases h1
        | some p => simp
    · exact same k e
  rw [if_neg h1]
  have hlk : 0 ≤ linkK n a.key := by
    rcases Int.lt_or_le (linkK n a.key) 0 with hh | hh
    · exact absurd (.inl hh) h1
    · exact hh
  have hnf : getK b.fk b.fv a.key = none := by
    cases hg : getK b.fk b.fv a.key with
    | none => rfl
    | some p => exact absurd (.inr (by rw [hg]; rfl)) h1
  have hb2 : (brk a.key (lossK n a.key) ats).2 = none := by rw [← h.fo _ hlk, hnf]; rfl
  have hrow := h.rw_ _ hlk hb2
  have hfrom : ∀ k ∈ setKs b.fk a.key, ∃ x ∈ ats ++ [a], x.key = k ∧ 0 ≤ linkK n k := fun k hk => by
    rcases mem_setK.1 hk with hk | rfl
    · obtain ⟨x, hx, e⟩ := h.from_ k hk
      exact ⟨x, by simp [hx], e⟩
    · exact ⟨a, by simp, rfl, hlk⟩
  by_cases ho : a.out = 1
  · rw [if_pos ho]
    have hnew : brk a.key (lossK n a.key) (ats ++ [a]) = ([], none) := by rw [brk_snoc, brS, if_pos ⟨rfl, hb2⟩, if_pos ho]
    refine ⟨put_len h.l1 _ _, h.l2, h.nd, fun k hk => let ⟨x, hx, e⟩ := h.from_ k hk; ⟨x, by simp [hx], e⟩, fun k hk => ?_, h.ne, fun k hk hk2 => ?_, fun k p hp => ?_, fun k k' p p' hp hp' he => ?_, fun v hv p hvp => ?_, by have := h.fl; simp; omega, fun k p hp => ?_⟩
    · by_cases e : a.key = k
      · subst e; rw [hnew]; simp only; rw [hnf]; rfl
      · rw [same k e]; exact h.fo k hk
    · rw [row_put h.l1]
      by_cases e : a.key = k
      · subst e; rw [if_pos rfl, hnew]
      · rw [if_neg e, same k e]; rw [same k e] at hk2; exact h.rw_ k hk hk2
    · rw [row_put h.l1] at hp
      split at hp
      · cases hp
      · exact h.lt k p hp
    · rw [row_put h.l1] at hp hp'
      split at hp
      · cases hp
      split at hp'
      · cases hp'
      exact h.un k k' p p' hp hp' he
    · rcases mem_putV hv with hv | hv
      · exact h.al v hv p hvp
      · rw [hv] at hvp; cases hvp
    · rw [row_put h.l1] at hp
      split at hp
      · cases hp
      · have := h.rl k p hp; simp; omega
  rw [if_neg ho]
  simp only
  obtain ⟨p, hp⟩ : ∃ p, p = appO b.fr (b.row a.key) a.slot := ⟨_, rfl⟩
  rw [← hp]
  have hv : ∀ q, b.row a.key = some q → q.2 < b.fr.length := fun q hq => (h.lt _ q hq).2
  obtain ⟨c1, c2, c3⟩ := appO_chain (fr := b.fr) a.slot hv
  rw [← hp] at c1 c2 c3
  have hfl := frO_len b.fr (b.row a.key)
  have hpr : (brk a.key (lossK n a.key) ats).1 ++ [a.slot] = p.1 := by
    rw [hp]
    cases hr : b.row a.key with
    | none => rw [hr] at hrow; simp only at hrow; rw [hrow]; rfl
    | some q => rw [hr] at hrow; simp only at hrow; rw [hrow.1]; rfl
  have hlen : ((brk a.key (lossK n a.key) ats).1.length + 1) = p.1.length := by rw [← hpr]; simp
  have hnew : brk a.key (lossK n a.key) (ats ++ [a]) = (p.1, if lossK n a.key < (p.1.length : Nat) then some p.1 else none) := by rw [brk_snoc, brS, if_pos ⟨rfl, hb2⟩, if_neg ho, hpr, hlen]
  have hold : ∀ k q, a.key ≠ k → b.row k = some q → ∀ x, b.fr[q.2]? = some x → (frO b.fr (b.row a.key))[q.2]? = some x := fun k q hk hq x hx => frO_old hx fun r hr he => hk (h.un _ _ _ _ hr hq he)
  have rows : ∀ (fk : List (List Int)) (fv : List (List Int × Nat)), (∀ k, 0 ≤ linkK n k → (brk k (lossK n k) (ats ++ [a])).2 = none → match BS.row ⟨setKs b.ks a.key, putV b.ks b.vs a.key (some p), fk, fv, frO b.fr (b.row a.key)⟩ k with
      | none => (brk k (lossK n k) (ats ++ [a])).1 = []
      | some q => (brk k (lossK n k) (ats ++ [a])).1 = q.1 ∧ (frO b.fr (b.row a.key))[q.2]? = some (q.1.length, 1)) ∧
      (∀ k q, BS.row ⟨setKs b.ks a.key, putV b.ks b.vs a.key (some p), fk, fv, frO b.fr (b.row a.key)⟩ k = some q → q.1 ≠ [] ∧ q.2 < (frO b.fr (b.row a.key)).length) ∧
      (∀ k k' q q', BS.row ⟨setKs b.ks a.key, putV b.ks b.vs a.key (some p), fk, fv, frO b.fr (b.row a.key)⟩ k = some q → BS.row ⟨setKs b.ks a.key, putV b.ks b.vs a.key (some p), fk, fv, frO b.fr (b.row a.key)⟩ k' = some q' → q.2 = q'.2 → k = k') ∧
      (∀ v ∈ putV b.ks b.vs a.key (some p), ∀ q, v = some q → q.2 < (frO b.fr (b.row a.key)).length) ∧
      (∀ k q, BS.row ⟨setKs b.ks a.key, putV b.ks b.vs a.key (some p), fk, fv, frO b.fr (b.row a.key)⟩ k = some q → q.1.length ≤ (ats ++ [a]).length) := by
    intro fk fv
    have hpn : ∀ k q, a.key ≠ k → b.row k = some q → p.2 ≠ q.2 := fun k q hk hq he => by
      cases hr : b.row a.key with
      | none =>
        have : p.2 = b.fr.length + 1 := by rw [hp, hr]; simp [appO]
        have := (h.lt k q hq).2
        omega
      | some r =>
        have : p.2 = r.2 := by rw [hp, hr]; rfl
        exact hk (h.un _ _ _ _ hr hq (by omega))
    refine ⟨fun k hk hk2 => ?_, fun k q hq => ?_, fun k k' q q' hq hq' he => ?_, fun v hv q hvq => ?_, fun k q hq => ?_⟩
    · rw [row_put h.l1]
      by_cases e : a.key = k
      · subst e; rw [if_pos rfl, hnew]; exact ⟨rfl, c3⟩
      · rw [if_neg e, same k e]
        rw [same k e] at hk2
        have := h.rw_ k hk hk2
        cases hr : b.row k with
        | none => rw [hr] at this; exact this
        | some q => rw [hr] at this; exact ⟨this.1, hold k q e hr _ this.2⟩
    · rw [row_put h.l1] at hq
      split at hq
      · injection hq with hq; subst hq; exact ⟨c1, c2⟩
      · have := h.lt k q hq; exact ⟨this.1, by omega⟩
    · rw [row_put h.l1] at hq hq'
      split at hq
      · rename_i e
        split at hq'
        · rename_i e'; exact e.symm.trans e'
        · rename_i e'
          injection hq with hq
          exact absurd (by rw [hq]; exact he) (hpn k' q' e' hq')
      · rename_i e
        split at hq'
        · injection hq' with hq'
          exact absurd (by rw [hq']; exact he.symm) (hpn k q e hq)
        · exact h.un k k' q q' hq hq' he
    · rcases mem_putV hv with hv | hv
      · have := h.al v hv q hvq; omega
      · rw [hv] at hvq; injection hvq with hvq; subst hvq; exact c2
    · rw [row_put h.l1] at hq
      split at hq
      · injection hq with hq
        rw [← hq, hp]
        cases hr : b.row a.key with
        | none => simp [appO]
        | some r => have := h.rl _ r hr; simp [appO]; omega
      · have := h.rl k q hq; simp; omega
  by_cases hl : lossK n a.key < (p.1.length : Nat)
  · rw [if_pos hl]
    rw [if_pos hl] at hnew
    obtain ⟨r1, r2, r3, r4, r5⟩ := rows (setKs b.fk a.key) (putV b.fk b.fv a.key p)
    refine ⟨put_len h.l1 _ _, put_len h.l2 _ _, setKs_nodup h.nd _, hfrom, fun k hk => ?_, fun q hq => ?_, r1, r2, r3, r4, by have h1 := h.fl; have h2 := setKs_len_le b.fk a.key; simp; omega, r5⟩
    · simp only [get_put h.l2]
      by_cases e : a.key = k
      · subst e; rw [if_pos rfl, hnew]; rfl
      · rw [if_neg e, same k e]; exact h.fo k hk
    · simp only [putV] at hq
      split at hq
      · rcases List.mem_or_eq_of_mem_set hq with hq | rfl
        · have := h.ne q hq; exact ⟨this.1, Nat.lt_of_lt_of_le this.2 hfl⟩
        · exact ⟨c1, c2⟩
      · rcases List.mem_append.1 hq with hq | hq
        · have := h.ne q hq; exact ⟨this.1, Nat.lt_of_lt_of_le this.2 hfl⟩
        · simp at hq; subst hq; exact ⟨c1, c2⟩
  · rw [if_neg hl]
    rw [if_neg hl] at hnew
    obtain ⟨r1, r2, r3, r4, r5⟩ := rows b.fk b.fv
    refine ⟨put_len h.l1 _ _, h.l2, h.nd, fun k hk => hfrom k (mem_setK.2 (.inl hk)), fun k hk => ?_, fun q hq => ?_, r1, r2, r3, r4, by have := h.fl; simp; omega, r5⟩
    · by_cases e : a.key = k
      · subst e; rw [hnew]; simp only; rw [hnf]; rfl
      · rw [same k e]; exact h.fo k hk
    · have := h.ne q hq; exact ⟨this.1, Nat.lt_of_lt_of_le this.2 hfl⟩
def BS.out (b : BS) : List Brc := (b.fk.zip b.fv).map fun p => Brc.of p.1 p.2.1
theorem nodup_len {l : List Nat} {n : Nat} (h : l.Nodup) (hl : ∀ i ∈ l, i < n) : l.length ≤ n := by
  have hp : l.Perm ((List.range n).filter fun i => decide (i ∈ l)) := (List.perm_ext_iff_of_nodup h (List.nodup_range.filter _)).2 fun i => by
    simp only [List.mem_filter, List.mem_range, decide_eq_true_eq]
    exact ⟨fun hi => ⟨hl i hi, hi⟩, fun hi => hi.2⟩
  rw [hp.length_eq]
  exact Nat.le_trans (List.length_filter_le _ _) (by simp)
mutual
theorem AV.ren_fz (π : Nat → Nat) : ∀ (e : AV) {e' : AV}, fz e = some e' → e.ren π = e
  | .fn f caps, _, h => by
    simp only [fz, Option.map_eq_some_iff] at h
    obtain ⟨cs, h, _⟩ := h
    simp only [AV.ren, rens_fz π caps h]
  | .agg cs, _, h => by
    simp only [fz, Option.map_eq_some_iff] at h
    obtain ⟨cs', h, _⟩ := h
    simp only [AV.ren, rens_fz π cs h]
  | .tup cs, _, h => by
    simp only [fz, Option.map_eq_some_iff] at h
    obtain ⟨cs', h, _⟩ := h
    simp only [AV.ren, rens_fz π cs h]
  | .int _ _, _, _ => rfl
  | .bool _, _, _ => rfl
  | .str _, _, _ => rfl
  | .nils, _, _ => rfl
  | .nilp, _, _ => rfl
  | .nili, _, _ => rfl
  | .nilm, _, _ => rfl
  | .sl _ _, _, _ => rfl
  | .own _ _, _, _ => rfl
  | .cptr _ _, _, _ => rfl
  | .cmp _ _ _, _, _ => rfl
  | .undef, _, _ => rfl
  | .grown _ _, _, h => by simp [fz] at h
  | .bsl _ _ _ _, _, h => by simp [fz] at h
  | .vsl _ _ _ _, _, h => by simp [fz] at h
  | .ptr _ _, _, h => by simp [fz] at h
  | .yld _, _, h => by simp [fz] at h
  | .mp _, _, h => by simp [fz] at h
theorem rens_fz (π : Nat → Nat) : ∀ (es : List AV) {es' : List AV}, fzs es = some es' → rens π es = es
  | [], _, _ => rfl
  | e :: es, _, h => by
    simp only [fzs] at h
    split at h
    · rename_i a b h1 h2
      simp only [rens, AV.ren_fz π e h1, rens_fz π es h2]
    · cases h
end
theorem rens_app (π : Nat → Nat) : ∀ a b : List AV, rens π (a ++ b) = rens π a ++ rens π b
  | [], _ => rfl
  | x :: a, b => by simp [rens, rens_app π a b]
theorem rens_undef (π : Nat → Nat) : ∀ n, rens π (List.replicate n .undef) = List.replicate n .undef
  | 0 => rfl
  | n + 1 => by simp [List.replicate_succ, rens, AV.ren, rens_undef π n]
theorem EncOk.ren {α : Type} {enc : α → AV} {sz : Nat} (h : EncOk enc sz) (π : Nat → Nat) (l : List α) (n : Nat) : rens π (flatE (l.map enc) ++ List.replicate n .undef) = flatE (l.map enc) ++ List.replicate n .undef := by
  rw [rens_app, rens_fz π _ (h.fzf l), rens_undef]
end HM
namespace HM
open Go Go.RowKit
def distC (n : Net) (rest : List Cell) (node : Int) : Int := sumW (fun d : Cell => powN n d.src node + powN n d.dst node) rest
def faultyC (n : Net) (c : Cell) (rest : List Cell) : Bool :=
  if goodL n c.src c.dst = false then true else if rest.any (touchB c) then true
    else if heardB n (marginAt n c.src c.dst) (distC n rest c.dst) = false then true else !heardB n (marginAt n c.dst c.src) (distC n rest c.src)
theorem erase_take {α : Type} {l : List α} {k i : Nat} {x : α} (h : l[k]? = some x) : (l.take (k + 1)).eraseIdx i = (l.take k).eraseIdx i ++ if k = i then [] else [x] := by
  rw [take_succ h]
  have hk : k < l.length := (List.getElem?_eq_some_iff.1 h).1
  have hl : (l.take k).length = k := by rw [List.length_take]; omega
  rcases Nat.lt_trichotomy k i with hlt | rfl | hgt
  · rw [List.eraseIdx_of_length_le (by rw [List.length_append, hl]; simp; omega), List.eraseIdx_of_length_le (by omega), if_neg (by omega)]
  · rw [List.eraseIdx_append_of_length_le (by omega), hl, List.eraseIdx_of_length_le (l := l.take k) (by omega), if_pos rfl]; simp
  · rw [List.eraseIdx_append_of_lt_length (by omega), if_neg (by omega)]
theorem distU_rest (n : Net) (cs : List Cell) (i : Nat) (node : Int) : ∀ k : Nat, k ≤ cs.length → distU n cs i node k = distC n ((cs.take k).eraseIdx i) node
  | 0, _ => by simp [distU, distC, sumW]
  | k + 1, hk => by
    obtain ⟨x, hx⟩ := getLt (l := cs) (k := k) (by omega)
    rw [distU_succ, distU_rest n cs i node k (by omega), erase_take hx]
    unfold distC distAt
    rw [sumW_app, hx]
    simp only
    congr 1
    split
    · rfl
    · simp [sumW]
theorem distM_rest (n : Net) (cs : List Cell) (i : Nat) (node : Int) : distM n cs i node = distC n (cs.eraseIdx i) node := by
  unfold distM
  rw [distU_rest n cs i node _ (Nat.le_refl _), List.take_length]
theorem touch_rest (cs : List Cell) (c : Cell) (i : Nat) : ∀ k : Nat, k ≤ cs.length → (List.range k).any (touchAt cs c i) = ((cs.take k).eraseIdx i).any (touchB c)
  | 0, _ => by simp
  | k + 1, hk => by
    obtain ⟨x, hx⟩ := getLt (l := cs) (k := k) (by omega)
    rw [List.range_succ, List.any_append, touch_rest cs c i k (by omega), erase_take hx, List.any_append]
    congr 1
    simp only [List.any_cons, List.any_nil, Bool.or_false]
    unfold touchAt
    rw [hx]
    simp only
    by_cases h : k = i
    · subst h; simp
    · rw [if_neg h]; simp [h]
theorem faultyM_rest {n : Net} {cs : List Cell} {i : Nat} {c : Cell} (h : cs[i]? = some c) : faultyM n cs i = faultyC n c (cs.eraseIdx i) := by
  unfold faultyM faultyC
  rw [h]
  simp only
  have := touch_rest cs c i _ (Nat.le_refl _)
  rw [List.take_length] at this
  rw [this, distM_rest, distM_rest]
theorem goodM_iff {n : Net} {cs : List Cell} : goodM n cs = true ↔ netE n = 0 ∧ ∀ (i : Nat) (c : Cell), cs[i]? = some c → faultyC n c (cs.eraseIdx i) = false := by
  unfold goodM
  rw [Bool.and_eq_true, decide_eq_true_eq, Bool.not_eq_true', List.any_eq_false]
  refine and_congr_right fun _ => ⟨fun h i c hc => ?_, fun h i hi => ?_⟩
  · have := h i (List.mem_range.2 (List.getElem?_eq_some_iff.1 hc).1)
    rw [faultyM_rest hc] at this
    simpa using this
  · obtain ⟨c, hc⟩ := getLt (List.mem_range.1 hi)
    rw [faultyM_rest hc, h i c hc]; simp
theorem sum_permI {a b : List Int} (h : a.Perm b) : a.sum = b.sum := by
  induction h with
  | nil => rfl
  | cons x _ ih => simp only [List.sum_cons, ih]
  | swap x y l => simp only [List.sum_cons]; omega
  | trans _ _ h1 h2 => exact h1.trans h2
theorem faultyC_perm {n : Net} {c c' : Cell} (hs : c.src = c'.src) (hd : c.dst = c'.dst) {r r' : List Cell} (h : (r.map fun d => (d.src, d.dst)).Perm (r'.map fun d => (d.src, d.dst))) : faultyC n c r = faultyC n c' r' := by
  have e1 : ∀ node, distC n r node = distC n r' node := fun node => by
    have g : ∀ l : List Cell, distC n l node = ((l.map fun d => (d.src, d.dst)).map fun p : Int × Int => powN n p.1 node + powN n p.2 node).sum := fun l => by
      unfold distC
      induction l with
      | nil => rfl
      | cons x l ih => simp only [List.map_cons, List.sum_cons, ← ih]; rfl
    rw [g, g]; exact sum_permI (h.map _)
  have e2 : r.any (touchB c) = r'.any (touchB c') := by
    have g : ∀ (l : List Cell) (x : Cell), l.any (touchB x) = (l.map fun d => (d.src, d.dst)).any fun p : Int × Int => x.src == p.1 || x.src == p.2 || x.dst == p.1 || x.dst == p.2 := fun l x => by
      rw [List.any_map]; rfl
    rw [g, g, hs, hd]
    exact h.any_eq
  unfold faultyC
  rw [hs, hd, e2, e1, e1]
theorem goodM_rot {n : Net} {l : List Cell} {c c' : Cell} (hs : c.src = c'.src) (hd : c.dst = c'.dst) : goodM n (l ++ [c]) = goodM n (c' :: l) := by
  rw [Bool.eq_iff_iff, goodM_iff, goodM_iff]
  refine and_congr_right fun _ => ⟨fun h i x hx => ?_, fun h i x hx => ?_⟩
  · cases i with
    | zero =>
      simp at hx
      subst hx
      have := h l.length c (by simp)
      rw [List.eraseIdx_append_of_length_le (Nat.le_refl _)] at this
      simp at this
      rw [← this]
      exact (faultyC_perm hs hd (by simp)).symm
    | succ i =>
      have hx2 : l[i]? = some x := by simpa using hx
      have hi := (List.getElem?_eq_some_iff.1 hx2).1
      have := h i x (by rw [List.getElem?_append_left hi]; exact hx2)
      rw [List.eraseIdx_append_of_lt_length hi] at this
      rw [← this]
      refine faultyC_perm rfl rfl ?_
      simp only [List.eraseIdx_cons_succ, List.map_cons, List.map_append, List.map_nil]
      rw [hs, hd]
      exact (List.perm_append_singleton _ _).symm
  · rcases Nat.lt_or_ge i l.length with hi | hi
    · have hx2 : l[i]? = some x := by rw [List.getElem?_append_left hi] at hx; exact hx
      have := h (i + 1) x (by simpa using hx2)
      rw [← this]
      refine faultyC_perm rfl rfl ?_
      rw [List.eraseIdx_append_of_lt_length hi]
      simp only [List.eraseIdx_cons_succ, List.map_cons, List.map_append, List.map_nil]
      rw [hs, hd]
      exact List.perm_append_singleton _ _
    · have hi2 : i = l.length := by
        have := (List.getElem?_eq_some_iff.1 hx).1
        simp at this; omega
      subst hi2
      have hxc : x = c := by simpa using hx.symm
      subst hxc
      have := h 0 c' rfl
      rw [List.eraseIdx_append_of_length_le (Nat.le_refl _)]
      simp only [Nat.sub_self, List.eraseIdx_cons_zero, List.append_nil]
      rw [← this]
      exact faultyC_perm hs hd (by simp)
end HM
namespace HM
open Go Go.RowKit
def touL (a b : Int) (c : Cell) : Bool := c.src == a || c.src == b || c.dst == a || c.dst == b
def freeS (s : Sched) (a b slot : Int) : Bool := !(s.cells.any fun c => c.slot == slot && touL a b c)
def ownS (s : Sched) (slot off : Int) : List Cell := s.cells.filter fun c => c.slot == slot && c.off == off
def fitsM (n : Net) (s : Sched) (c : Cell) : Bool := freeS s c.src c.dst c.slot && goodM n (c :: ownS s c.slot c.off)
theorem fits_prog {n : Net} {s : Sched} {a b slot off fl : Int} : fitsM n s ⟨slot, off, a, b, fl⟩ = (freeS s a b slot && goodM n (((s.cells.filter fun c => c.slot == slot).filter fun c => !(c.off != off)) ++ [⟨0, 0, a, b, 0⟩])) := by
  unfold fitsM ownS
  rw [goodM_rot (c := ⟨0, 0, a, b, 0⟩) (c' := ⟨slot, off, a, b, fl⟩) rfl rfl, List.filter_filter]
  simp only
  congr 3
  refine List.filter_congr fun c _ => ?_
  rw [bne, Bool.not_not, Bool.and_comm]
def cellR (a b : Int) (slot off : Nat) : Cell := ⟨slot, off, a, b, 0⟩
def roomO (n : Net) (s : Sched) (a b : Int) (slot j : Nat) : List Cell := ((List.range j).filter fun o => fitsM n s (cellR a b slot o)).map (cellR a b slot)
def roomS (n : Net) (s : Sched) (a b : Int) (k : Nat) : List Cell := (List.range k).flatMap fun slot => roomO n s a b slot s.offs.toNat
theorem roomO_succ (n : Net) (s : Sched) (a b : Int) (slot j : Nat) : roomO n s a b slot (j + 1) = roomO n s a b slot j ++ if fitsM n s (cellR a b slot j) = true then [cellR a b slot j] else [] := by
  unfold roomO
  rw [List.range_succ, List.filter_append, List.map_append]
  congr 1
  simp only [List.filter_cons, List.filter_nil]
  split <;> rfl
theorem roomS_succ (n : Net) (s : Sched) (a b : Int) (k : Nat) : roomS n s a b (k + 1) = roomS n s a b k ++ roomO n s a b k s.offs.toNat := by
  simp [roomS, List.range_succ]
theorem roomO_len (n : Net) (s : Sched) (a b : Int) (slot j : Nat) : (roomO n s a b slot j).length ≤ j := by
  unfold roomO
  rw [List.length_map]
  exact Nat.le_trans (List.length_filter_le _ _) (by rw [List.length_range]; exact Nat.le_refl _)
theorem roomO_none {n : Net} {s : Sched} {a b : Int} {slot j : Nat} (h : freeS s a b slot = false) : roomO n s a b slot j = [] := by
  unfold roomO
  rw [List.filter_eq_nil_iff.2 fun o _ => ?_]; rfl
  unfold fitsM cellR
  simp [h]
theorem roomS_len (n : Net) (s : Sched) (a b : Int) : ∀ k : Nat, (roomS n s a b k).length ≤ k * s.offs.toNat
  | 0 => by simp [roomS]
  | k + 1 => by
    have := roomS_len n s a b k
    have := roomO_len n s a b k s.offs.toNat
    rw [roomS_succ, List.length_append, Nat.add_mul]; omega
def roomM (n : Net) (s : Sched) (l : Link) : List Cell × Int :=
  if netE n ≠ 0 ∨ formB s = false then ([], 1) else if goodL n l.src l.dst = false then ([], 7)
  else if 1024 < (roomS n s l.src l.dst s.len.toNat).length then ([], 8) else (roomS n s l.src l.dst s.len.toNat, 0)
def dropM (s : Sched) (id : Int) : Sched × Int := if formB s = false then (⟨0, 0, []⟩, 1) else (⟨s.len, s.offs, s.cells.filter fun c => c.flow != id⟩, 0)
end HM
namespace HM
open Go Go.RowKit
def AllRest {α : Type} (P : α → List α → Prop) (cs : List α) : Prop := ∀ (i : Nat) c, cs[i]? = some c → P c (cs.eraseIdx i)
theorem erase_perm {α : Type} {cs : List α} {i : Nat} {c : α} (h : cs[i]? = some c) : cs.Perm (c :: cs.eraseIdx i) := by
  obtain ⟨hi, rfl⟩ := List.getElem?_eq_some_iff.1 h
  rw [List.eraseIdx_eq_take_drop_succ]
  have e : cs = cs.take i ++ cs[i] :: cs.drop (i + 1) := by rw [← List.drop_eq_getElem_cons hi, List.take_append_drop]
  exact (List.Perm.of_eq e).trans List.perm_middle
theorem AllRest.perm {α : Type} {P : α → List α → Prop} (hP : ∀ c r r', r.Perm r' → P c r → P c r') {cs cs' : List α} (h : AllRest P cs) (hp : cs.Perm cs') : AllRest P cs' := fun j c hj => by
  obtain ⟨i, hi⟩ := List.getElem?_of_mem (hp.mem_iff.2 (List.mem_of_getElem? hj))
  refine hP c _ _ ?_ (h i c hi)
  exact List.Perm.cons_inv ((erase_perm hi).symm.trans (hp.trans (erase_perm hj)))
def heardC (n : Net) (c : Cell) (rest : List Cell) : Prop := heardB n (marginAt n c.src c.dst) (distC n rest c.dst) = true ∧ heardB n (marginAt n c.dst c.src) (distC n rest c.src) = true
theorem distC_perm {n : Net} {r r' : List Cell} (h : r.Perm r') (node : Int) : distC n r node = distC n r' node := by
  have g : ∀ l : List Cell, distC n l node = (l.map fun d => powN n d.src node + powN n d.dst node).sum := fun l => by
    unfold distC
    induction l with
    | nil => rfl
    | cons x l ih => simp only [List.map_cons, List.sum_cons, ← ih]; rfl
  rw [g, g]
  exact sum_permI (h.map _)
theorem heardC_perm {n : Net} {c : Cell} {r r' : List Cell} (h : r.Perm r') (hc : heardC n c r) : heardC n c r' := by
  unfold heardC at hc ⊢
  rw [← distC_perm h, ← distC_perm h]; exact hc
theorem faultyC_iff {n : Net} {c : Cell} {r : List Cell} : faultyC n c r = false ↔ goodL n c.src c.dst = true ∧ (∀ d ∈ r, touchB c d = false) ∧ heardC n c r := by
  unfold faultyC heardC
  constructor
  · intro h
    split at h
    · cases h
    rename_i h1
    split at h
    · cases h
    rename_i h2
    split at h
    · cases h
    rename_i h3
    exact ⟨by simpa using h1, fun d hd => by simpa using List.any_eq_false.1 (Bool.eq_false_iff.2 h2) d hd, by simpa using h3, by simpa using h⟩
  · rintro ⟨h1, h2, h3, h4⟩
    have h5 : r.any (touchB c) = false := List.any_eq_false.2 fun d hd => by rw [h2 d hd]; simp
    rw [h1, h5, h3, h4]; simp
theorem goodM_all {n : Net} {cs : List Cell} : goodM n cs = true ↔ netE n = 0 ∧ AllRest (fun c r => faultyC n c r = false) cs := goodM_iff
theorem filter_erase {α : Type} {p : α → Bool} {cs : List α} {i : Nat} {c : α} (h : cs[i]? = some c) (hp : p c = true) : (cs.filter p).eraseIdx ((cs.take i).filter p).length = (cs.eraseIdx i).filter p ∧ (cs.filter p)[((cs.take i).filter p).length]? = some c := by
  obtain ⟨hi, rfl⟩ := List.getElem?_eq_some_iff.1 h
  have e : cs.filter p = (cs.take i).filter p ++ cs[i] :: (cs.drop (i + 1)).filter p := by
    have e0 : cs = cs.take i ++ cs[i] :: cs.drop (i + 1) := by rw [← List.drop_eq_getElem_cons hi, List.take_append_drop]
    conv => lhs; rw [e0]
    rw [List.filter_append, List.filter_cons, if_pos hp]
  rw [e]
  refine ⟨?_, by simp⟩
  rw [List.eraseIdx_append_of_length_le (Nat.le_refl _), Nat.sub_self, List.eraseIdx_cons_zero, List.eraseIdx_eq_take_drop_succ, List.filter_append]
theorem disturb_iff {n : Net} {cs : List Cell} {i : Nat} {c : Cell} (h : cs[i]? = some c) : disturbB n cs i = false ↔ heardC n c ((cs.eraseIdx i).filter (shareB c)) := by
  have hs : shareB c c = true := by unfold shareB; simp
  have := (filter_erase (p := shareB c) h hs).1
  unfold disturbB heardC
  rw [h]
  simp only [distM_rest, shareL, shareAt]
  rw [this]
  simp
def cellR2 (n : Net) (c : Cell) (rest : List Cell) : Prop := (∀ d ∈ rest, d.slot = c.slot → touchB c d = false) ∧ heardC n c (rest.filter (shareB c))
theorem cellR2_perm {n : Net} (c : Cell) (r r' : List Cell) (h : r.Perm r') (hc : cellR2 n c r) : cellR2 n c r' := ⟨fun d hd => hc.1 d (h.mem_iff.2 hd), heardC_perm (h.filter _) hc.2⟩
theorem VOk.rest {n : Net} {l : List Flow} {s : Sched} (h : VOk n l s) : AllRest (cellR2 n) s.cells := fun i c hc => by
  refine ⟨fun d hd hs => ?_, (disturb_iff hc).1 (h.heard i (List.getElem?_eq_some_iff.1 hc).1)⟩
  obtain ⟨j, hj⟩ := List.getElem?_of_mem hd
  rw [List.getElem?_eraseIdx] at hj
  split at hj
  · exact h.apart hc hj (by omega) hs.symm
  · exact h.apart hc hj (by omega) hs.symm
theorem schedE_of {n : Net} {l : List Flow} {s : Sched} (hn : netE n = 0) (hf : (flowsE n.nodes l).2 = 0) (hz : sizedB s = true) (hp : ∀ f ∈ l, s.len % f.period = 0) (hm : s.cells.length ≤ 512) (hc : ∀ (i : Nat) c, s.cells[i]? = some c → placedB s c = true ∧ goodL n c.src c.dst = true ∧ idsB l c.flow = true ∧ ordC s.cells i c = true) (hr : AllRest (cellR2 n) s.cells) : (schedE n l s).2 = 0 := by
  have h5 : (firstAt (cellF n l s) s.cells.length).2 = 0 := by
    rw [firstAt_ok]
    intro i hi
    obtain ⟨c, hg⟩ := getLt hi
    obtain ⟨q1, q2, q3, q4⟩ := hc i c hg
    unfold cellF
    rw [hg]
    simp [q1, q2, q3, q4]
  have h6 : (firstAt (twI s.cells) s.cells.length).2 = 0 := by
    rw [firstAt_ok]
    intro i hi
    obtain ⟨c, hg⟩ := getLt hi
    unfold twI
    have : twiceM s.cells i = false := by
      unfold twiceM
      rw [hg]
      refine List.any_eq_false.2 fun j hj => ?_
      have hj := List.mem_range.1 hj
      obtain ⟨d, hd⟩ := getLt (l := s.cells) (k := j) (by omega)
      unfold twAt
      rw [hd]
      have hmem : d ∈ s.cells.eraseIdx i := List.mem_of_getElem? (i := j) (by rw [List.getElem?_eraseIdx, if_pos hj]; exact hd)
      have := (hr i c hg).1 d hmem
      by_cases e : d.slot = c.slot
      · simp [this e]
      · simp [e]
    rw [this]; rfl
  have h7 : (firstAt (dsI n s.cells) s.cells.length).2 = 0 := by
    rw [firstAt_ok]
    intro i hi
    obtain ⟨c, hg⟩ := getLt hi
    unfold dsI
    rw [(disturb_iff hg).2 (hr i c hg).2]; rfl
  unfold schedE
  rw [if_neg (by omega), if_neg (by rw [hz]; simp), if_neg (by
    intro h
    obtain ⟨f, hf1, hf2⟩ := List.any_eq_true.1 h
    unfold mism at hf2
    rw [hp f hf1] at hf2
    simp at hf2), if_neg (by omega), if_neg (by omega), if_neg (by omega)]
  exact h7
end HM
namespace HM
open Go Go.RowKit
theorem touL_touch {a : Cell} {c : Cell} : touL c.src c.dst a = touchB c a := by
  unfold touL touchB
  rw [Bool.eq_iff_iff]
  simp only [Bool.or_eq_true, beq_iff_eq]
  constructor
  · rintro (((h | h) | h) | h) <;> simp [h]
  · rintro (((h | h) | h) | h) <;> simp [h]
theorem insAt_perm {α : Type} (l : List α) (p : Nat) (x : α) : (insAt l p x).Perm (x :: l) := by
  unfold insAt
  have : (x :: l).Perm (x :: (l.take p ++ l.drop p)) := by rw [List.take_append_drop]
  exact List.perm_middle.trans this.symm
theorem own_share {s : Sched} {c : Cell} : ownS s c.slot c.off = s.cells.filter (shareB c) := rfl
theorem freeS_iff {s : Sched} {c : Cell} : freeS s c.src c.dst c.slot = true ↔ ∀ d ∈ s.cells, d.slot = c.slot → touchB c d = false := by
  unfold freeS
  rw [Bool.not_eq_true', List.any_eq_false]
  constructor
  · intro h d hd hs
    have := h d hd
    rw [touL_touch] at this
    cases ht : touchB c d with
    | false => rfl
    | true => simp [hs, ht] at this
  · intro h d hd
    rw [touL_touch]
    by_cases hs : d.slot = c.slot
    · simp [h d hd hs]
    · simp [hs]
theorem fits_rest {n : Net} {s : Sched} {c : Cell} (hn : netE n = 0) (hg : ∀ d ∈ c :: s.cells, goodL n d.src d.dst = true) (hs : AllRest (cellR2 n) s.cells) : fitsM n s c = true ↔ AllRest (cellR2 n) (c :: s.cells) := by
  unfold fitsM
  rw [Bool.and_eq_true, freeS_iff, goodM_all, own_share]
  have grp : ∀ (i j : Nat) (d : Cell), s.cells[i]? = some d → (s.cells.filter (shareB c))[j]? = some d → shareB c d = true → ((s.cells.eraseIdx i).filter (shareB c)).Perm ((s.cells.filter (shareB c)).eraseIdx j) := fun i j d hi hj hd => by
    have h1 := (erase_perm hi).filter (shareB c)
    rw [List.filter_cons, if_pos hd] at h1
    exact List.Perm.cons_inv (h1.symm.trans (erase_perm hj))
  have same : ∀ d : Cell, shareB c d = true → ∀ x : Cell, shareB d x = shareB c x := fun d hd x => by
    unfold shareB at hd ⊢
    simp only [Bool.and_eq_true, beq_iff_eq] at hd
    rw [hd.1, hd.2]
  constructor
  · rintro ⟨h1, _, h2⟩ i d hd
    cases i with
    | zero =>
      simp at hd
      subst hd
      have := faultyC_iff.1 (h2 0 _ rfl)
      exact ⟨fun x hx => h1 x hx, this.2.2⟩
    | succ i =>
      have hi : s.cells[i]? = some d := by simpa using hd
      have hm := List.mem_of_getElem? hi
      have ho := hs i d hi
      rw [List.eraseIdx_cons_succ]
      refine ⟨fun x hx hxs => ?_, ?_⟩
      · rcases List.mem_cons.1 hx with rfl | hx
        · rw [touchB_comm]; exact h1 d hm hxs.symm
        · exact ho.1 x hx hxs
      · rw [List.filter_cons]
        by_cases hsh : shareB c d = true
        · have hsc : shareB d c = true := by rw [same d hsh]; unfold shareB; simp
          rw [if_pos hsc]
          have e : shareB d = shareB c := funext (same d hsh)
          rw [e]
          obtain ⟨j, hj⟩ := List.getElem?_of_mem (List.mem_filter.2 ⟨hm, hsh⟩)
          have h3 := (faultyC_iff.1 (h2 (j + 1) d (by simpa using hj))).2.2
          rw [List.eraseIdx_cons_succ] at h3
          exact heardC_perm ((grp i j d hi hj hsh).symm.cons c) h3
        · have hsc : ¬ shareB d c = true := fun h => hsh (by
            unfold shareB at h ⊢
            simp only [Bool.and_eq_true, beq_iff_eq] at h ⊢
            exact ⟨h.1.symm, h.2.symm⟩)
          rw [if_neg hsc]
          exact ho.2
  · intro h
    have h0 := h 0 c rfl
    rw [List.eraseIdx_cons_zero] at h0
    refine ⟨fun d hd hds => h0.1 d hd hds, hn, fun i d hd => ?_⟩
    cases i with
    | zero =>
      simp at hd
      subst hd
      rw [List.eraseIdx_cons_zero]
      refine faultyC_iff.2 ⟨hg _ (List.mem_cons_self ..), fun x hx => ?_, h0.2⟩
      have hx2 := List.mem_filter.1 hx
      have hx3 := hx2.2
      unfold shareB at hx3
      simp only [Bool.and_eq_true, beq_iff_eq] at hx3
      exact h0.1 x hx2.1 hx3.1
    | succ j =>
      have hj : (s.cells.filter (shareB c))[j]? = some d := by simpa using hd
      have hm := List.mem_filter.1 (List.mem_of_getElem? hj)
      obtain ⟨i, hi⟩ := List.getElem?_of_mem hm.1
      have h1 := h (i + 1) d (by simpa using hi)
      rw [List.eraseIdx_cons_succ] at h1 ⊢
      have hsc : shareB d c = true := by rw [same d hm.2]; unfold shareB; simp
      have e : shareB d = shareB c := funext (same d hm.2)
      have hp := grp i j d hi hj hm.2
      refine faultyC_iff.2 ⟨hg d (List.mem_cons_of_mem _ hm.1), fun x hx => ?_, ?_⟩
      · rcases List.mem_cons.1 hx with rfl | hx
        · refine h1.1 x (List.mem_cons_self ..) ?_
          have := hsc
          unfold shareB at this
          simp only [Bool.and_eq_true, beq_iff_eq] at this
          exact this.1
        · have hx2 := List.mem_filter.1 (hp.mem_iff.2 hx)
          refine h1.1 x (List.mem_cons_of_mem _ hx2.1) ?_
          have := (same d hm.2 x).trans hx2.2
          unfold shareB at this
          simp only [Bool.and_eq_true, beq_iff_eq] at this
          exact this.1
      · have h2 := h1.2
        rw [List.filter_cons, if_pos hsc, e] at h2
        exact heardC_perm (hp.cons c) h2
end HM
namespace HM
open Go Go.RowKit
theorem fits_flow {n : Net} {s : Sched} {a b slot off fl fm : Int} : fitsM n s ⟨slot, off, a, b, fl⟩ = fitsM n s ⟨slot, off, a, b, fm⟩ := by rw [fits_prog, fits_prog]
theorem fits_new {n : Net} {s : Sched} {c : Cell} (h : fitsM n s c = true) : ∀ d ∈ s.cells, ¬ (d.slot = c.slot ∧ touchB c d = true) := by
  unfold fitsM at h
  rw [Bool.and_eq_true, freeS_iff] at h
  rintro d hd ⟨h1, h2⟩
  rw [h.1 d hd h1] at h2
  cases h2
end HM
namespace HM
open Go Go.RowKit
def hasF (s : Sched) (a b id slot : Int) : Bool := s.cells.any fun c => c.slot == slot && (c.src == a && (c.dst == b && c.flow == id))
def roomF (n : Net) (s : Sched) (a b slot : Int) : Option Nat := (List.range s.offs.toNat).find? fun o => fitsM n s ⟨slot, o, a, b, 0⟩
def putM (s : Sched) (c : Cell) : Sched := ⟨s.len, s.offs, insAt s.cells (posC s c) c⟩
def slotM (n : Net) (s : Sched) (a b id slot : Int) : Sched × Bool :=
  if hasF s a b id slot then (s, true) else match roomF n s a b slot with
    | some o => (putM s ⟨slot, o, a, b, id⟩, true)
    | none => (s, false)
def fillM (n : Net) (a b id : Int) : Nat → Sched → Nat → Int → Sched × Nat × Int
  | 0, s, left, t => (s, left, t)
  | d + 1, s, left, t => if left = 0 then (s, left, t) else fillM n a b id d (slotM n s a b id (t % s.len)).1 (if (slotM n s a b id (t % s.len)).2 = true then left - 1 else left) (t + 1)
theorem fillM_stop (n : Net) (a b id : Int) : ∀ (d : Nat) (s : Sched) (t : Int), fillM n a b id d s 0 t = (s, 0, t)
  | 0, _, _ => rfl
  | _ + 1, _, _ => by rw [fillM, if_pos rfl]
theorem slotM_len (n : Net) (s : Sched) (a b id slot : Int) : (slotM n s a b id slot).1.len = s.len ∧ (slotM n s a b id slot).1.offs = s.offs := by
  unfold slotM putM
  split
  · exact ⟨rfl, rfl⟩
  · split <;> exact ⟨rfl, rfl⟩
theorem insAt_len1 {α : Type} (l : List α) (p : Nat) (x : α) : (insAt l p x).length = l.length + 1 := by
  unfold insAt
  simp only [List.length_append, List.length_take, List.length_cons, List.length_drop]
  omega
theorem fillM_len (n : Net) (a b id : Int) : ∀ (d : Nat) (s : Sched) (left : Nat) (t : Int), (fillM n a b id d s left t).1.len = s.len ∧ (fillM n a b id d s left t).1.offs = s.offs
  | 0, _, _, _ => ⟨rfl, rfl⟩
  | d + 1, s, left, t => by
    rw [fillM]
    split
    · exact ⟨rfl, rfl⟩
    · have h1 := fillM_len n a b id d (slotM n s a b id (t % s.len)).1 (if (slotM n s a b id (t % s.len)).2 = true then left - 1 else left) (t + 1)
      have h2 := slotM_len n s a b id (t % s.len)
      exact ⟨h1.1.trans h2.1, h1.2.trans h2.2⟩
theorem slotM_cells2 (n : Net) (s : Sched) (a b id slot : Int) : (slotM n s a b id slot).1.cells.length ≤ s.cells.length + (if (slotM n s a b id slot).2 = true then 1 else 0) := by
  unfold slotM putM
  split
  · simp
  · split
    · simp only [insAt_len1]; simp
    · simp
theorem fillM_cells (n : Net) (a b id : Int) : ∀ (d : Nat) (s : Sched) (left : Nat) (t : Int), (fillM n a b id d s left t).1.cells.length + (fillM n a b id d s left t).2.1 ≤ s.cells.length + left
  | 0, _, _, _ => Nat.le_refl _
  | d + 1, s, left, t => by
    rw [fillM]
    split
    · exact Nat.le_refl _
    · rename_i h0
      have h1 := fillM_cells n a b id d (slotM n s a b id (t % s.len)).1 (if (slotM n s a b id (t % s.len)).2 = true then left - 1 else left) (t + 1)
      have h2 := slotM_cells2 n s a b id (t % s.len)
      refine Nat.le_trans h1 ?_
      by_cases h : (slotM n s a b id (t % s.len)).2 = true
      · rw [if_pos h] at h2 ⊢; omega
      · rw [if_neg h] at h2 ⊢; omega
def relA (n : Net) (f : Flow) (r : List Int) (stop : Int) : Nat → Sched → Int → Option (Sched × Int)
  | 0, s, t => some (s, t)
  | k + 1, s, t => match relA n f r stop k s t with
    | none => none
    | some (s1, t1) => if (fillM n (r.getD k 0) (r.getD (k + 1) 0) f.id (stop - t1).toNat s1 (needAt n r 0 k) t1).2.1 ≠ 0 then none
      else some ((fillM n (r.getD k 0) (r.getD (k + 1) 0) f.id (stop - t1).toNat s1 (needAt n r 0 k) t1).1, (fillM n (r.getD k 0) (r.getD (k + 1) 0) f.id (stop - t1).toNat s1 (needAt n r 0 k) t1).2.2)
theorem relA_none {n : Net} {f : Flow} {r : List Int} {stop : Int} {k : Nat} {s : Sched} {t : Int} (h : relA n f r stop k s t = none) : ∀ {m : Nat}, k ≤ m → relA n f r stop m s t = none
  | 0, hm => by rw [show k = 0 by omega] at h; exact h
  | m + 1, hm => by
    rcases Nat.lt_or_ge k (m + 1) with hk | hk
    · rw [relA, relA_none h (m := m) (by omega)]
    · rw [show m + 1 = k by omega]; exact h
def atA (f : Flow) (k : Nat) : Int := f.phase + k * f.period
def relsA (n : Net) (f : Flow) (r : List Int) : Nat → Sched → Option Sched
  | 0, s => some s
  | k + 1, s => match relsA n f r k s with
    | none => none
    | some s1 => (relA n f r (atA f k + f.dead) (r.length - 1) s1 (atA f k)).map (·.1)
theorem relsA_none {n : Net} {f : Flow} {r : List Int} {k : Nat} {s : Sched} (h : relsA n f r k s = none) : ∀ {m : Nat}, k ≤ m → relsA n f r m s = none
  | 0, hm => by rw [show k = 0 by omega] at h; exact h
  | m + 1, hm => by
    rcases Nat.lt_or_ge k (m + 1) with hk | hk
    · rw [relsA, relsA_none h (m := m) (by omega)]
    · rw [show m + 1 = k by omega]; exact h
def placeA (n : Net) (f : Flow) (N : Nat) : List (List Int) → Sched → Option Sched
  | [], s => some s
  | r :: l, s => match relsA n f r N s with
    | none => none
    | some s1 => placeA n f N l s1
theorem placeA_append (n : Net) (f : Flow) (N : Nat) (r : List Int) : ∀ (l : List (List Int)) (s : Sched), placeA n f N (l ++ [r]) s = (placeA n f N l s).bind fun s1 => relsA n f r N s1
  | [], s => by
    show (match relsA n f r N s with | none => none | some s1 => some s1) = relsA n f r N s
    cases relsA n f r N s <;> rfl
  | x :: l, s => by
    show (match relsA n f x N s with | none => none | some s1 => placeA n f N (l ++ [r]) s1) = (match relsA n f x N s with | none => none | some s1 => placeA n f N l s1).bind _
    cases relsA n f x N s with
    | none => rfl
    | some s1 => exact placeA_append n f N r l s1
end HM
namespace HM
open Go Go.RowKit
theorem apart_nodup : ∀ {l : List Cell}, l.Pairwise (fun a b => touchB a b = false) → (∀ c ∈ l, 0 ≤ c.src ∧ 0 ≤ c.dst ∧ c.src ≠ c.dst) → (l.flatMap fun c => [c.src.toNat, c.dst.toNat]).Nodup
  | [], _, _ => by simp
  | c :: l, h, hn => by
    obtain ⟨h1, h2⟩ := List.pairwise_cons.1 h
    have ih := apart_nodup h2 fun d hd => hn d (List.mem_cons_of_mem _ hd)
    have hc := hn c (List.mem_cons_self ..)
    have key : ∀ x ∈ (l.flatMap fun c => [c.src.toNat, c.dst.toNat]), c.src.toNat ≠ x ∧ c.dst.toNat ≠ x := fun x hx => by
      obtain ⟨d, hd, hxd⟩ := List.mem_flatMap.1 hx
      have ht := h1 d hd
      have hdn := hn d (List.mem_cons_of_mem _ hd)
      simp only [touchB, Bool.or_eq_false_iff, beq_eq_false_iff_ne] at ht
      simp only [List.mem_cons, List.not_mem_nil, or_false] at hxd
      rcases hxd with rfl | rfl <;> omega
    rw [List.flatMap_cons]
    refine List.nodup_append.2 ⟨?_, ih, fun a ha b hb => ?_⟩
    · simp; omega
    · simp only [List.mem_cons, List.not_mem_nil, or_false] at ha
      rcases ha with rfl | rfl
      · exact (key b hb).1
      · exact (key b hb).2
theorem pairs_len (l : List Cell) : (l.flatMap fun c => [c.src.toNat, c.dst.toNat]).length = 2 * l.length := by
  induction l with
  | nil => rfl
  | cons c l ih => rw [List.flatMap_cons, List.length_append, ih]; simp; omega
theorem apart_len {l : List Cell} {m : Nat} (h : l.Pairwise fun a b => touchB a b = false) (hn : ∀ c ∈ l, 0 ≤ c.src ∧ c.src < m ∧ 0 ≤ c.dst ∧ c.dst < m ∧ c.src ≠ c.dst) : 2 * l.length ≤ m := by
  have h1 := apart_nodup h fun c hc => ⟨(hn c hc).1, (hn c hc).2.2.1, (hn c hc).2.2.2.2⟩
  rw [← pairs_len]
  refine nodup_len h1 fun x hx => ?_
  obtain ⟨c, hc, hx⟩ := List.mem_flatMap.1 hx
  have := hn c hc
  simp only [List.mem_cons, List.not_mem_nil, or_false] at hx
  rcases hx with rfl | rfl <;> omega
def ApartS (cs : List Cell) : Prop := cs.Pairwise fun a b => a.slot = b.slot → touchB a b = false
theorem slotA_len {cs : List Cell} (h : ApartS cs) (hn : ∀ c ∈ cs, 0 ≤ c.src ∧ c.src < 32 ∧ 0 ≤ c.dst ∧ c.dst < 32 ∧ c.src ≠ c.dst) (k : Int) : (cs.filter fun c => c.slot == k).length ≤ 16 := by
  have h1 : (cs.filter fun c => c.slot == k).Pairwise fun a b => touchB a b = false := by
    rw [List.pairwise_filter]
    refine h.imp fun {a b} hab ha hb => hab ?_
    rw [beq_iff_eq] at ha hb
    rw [ha, hb]
  have := apart_len (m := 32) h1 fun c hc => hn c (List.mem_filter.1 hc).1
  omega
theorem apart_put {cs : List Cell} {p : Nat} {c : Cell} (h : ApartS cs) (hf : ∀ d ∈ cs, d.slot = c.slot → touchB c d = false) : ApartS (insAt cs p c) := by
  unfold ApartS insAt
  have hcut := h
  unfold ApartS at hcut
  rw [← List.take_append_drop p cs] at hcut
  obtain ⟨h1, h2, h3⟩ := List.pairwise_append.1 hcut
  refine List.pairwise_append.2 ⟨h1, List.pairwise_cons.2 ⟨fun d hd hs => hf d (List.mem_of_mem_drop hd) hs.symm, h2⟩, fun a ha b hb hs => ?_⟩
  rcases List.mem_cons.1 hb with rfl | hb
  · rw [touchB_comm]; exact hf a (List.mem_of_mem_take ha) hs
  · exact h3 a ha b hb hs
end HM
namespace HM
open Go Go.RowKit
theorem add_sorted0 {s : Sched} {c : Cell} (hs : Sorted Cell.cmp s.cells) (hc : hasC s c = false) : Sorted Cell.cmp (insAt s.cells (posC s c) c) := by
  have hp : posC s c ≤ s.cells.length := posB_le _ _
  have hlt : ∀ (i : Nat) (x : Cell), i < posC s c → s.cells[i]? = some x → x.cmp c < 0 := fun i x hi hx => posB_lt (c := cellTo c) hi hx
  have hge : ∀ (j : Nat) (y : Cell), posC s c ≤ j → s.cells[j]? = some y → c.cmp y < 0 := by
    have h0 : ∀ y, s.cells[posC s c]? = some y → c.cmp y < 0 := fun y hy => by
      have h1 : ¬ y.cmp c < 0 := posB_ge (c := cellTo c) hy
      have h2 : y.cmp c ≠ 0 := by
        unfold hasC hasB at hc
        unfold posC at hy
        rw [hy] at hc
        simpa [cellTo] using hc
      have h3 : 0 < y.cmp c := by omega
      exact cmpL_anti.2 h3
    intro j y hj hy
    rcases Nat.lt_or_eq_of_le hj with hj | rfl
    · have hjl := (List.getElem?_eq_some_iff.1 hy).1
      obtain ⟨z, hz⟩ := getLt (l := s.cells) (k := posC s c) (by omega)
      exact cmpL_trans (h0 z hz) (hs _ _ z y hj hz hy)
    · exact h0 y hy
  intro i j x y hij hx hy
  rw [insAt_get hp] at hx hy
  by_cases h1 : j < posC s c
  · rw [if_pos h1] at hy
    rw [if_pos (by omega)] at hx
    exact hs i j x y hij hx hy
  rw [if_neg h1] at hy
  by_cases h2 : j = posC s c
  · rw [if_pos h2] at hy
    injection hy with hy; subst hy
    rw [if_pos (by omega)] at hx
    exact hlt i x (by omega) hx
  rw [if_neg h2] at hy
  by_cases h3 : i < posC s c
  · rw [if_pos h3] at hx
    exact hs i (j - 1) x y (by omega) hx hy
  rw [if_neg h3] at hx
  by_cases h4 : i = posC s c
  · rw [if_pos h4] at hx
    injection hx with hx; subst hx
    exact hge (j - 1) y (by omega) hy
  · rw [if_neg h4] at hx
    exact hs (i - 1) (j - 1) x y (by omega) hx hy
structure GridOk (s : Sched) : Prop where
  sorted : s.cells.Pairwise fun a b => a.cmp b < 0
  apart : ApartS s.cells
  nodes : ∀ c ∈ s.cells, 0 ≤ c.src ∧ c.src < 32 ∧ 0 ≤ c.dst ∧ c.dst < 32 ∧ c.src ≠ c.dst
theorem sorted_of {l : List Cell} (h : l.Pairwise fun a b => a.cmp b < 0) : Sorted Cell.cmp l := fun i j x y hij hx hy => by
  have h1 := List.pairwise_iff_getElem.1 h i j (List.getElem?_eq_some_iff.1 hx).1 (List.getElem?_eq_some_iff.1 hy).1 hij
  rwa [(List.getElem?_eq_some_iff.1 hx).2, (List.getElem?_eq_some_iff.1 hy).2] at h1
theorem of_sorted {l : List Cell} (h : Sorted Cell.cmp l) : l.Pairwise fun a b => a.cmp b < 0 :=
  List.pairwise_iff_getElem.2 fun i j hi hj hij => h i j _ _ hij (List.getElem?_eq_getElem hi) (List.getElem?_eq_getElem hj)
theorem hasF_not {s : Sched} {a b id slot : Int} (h : hasF s a b id slot = false) (o : Nat) : (⟨slot, o, a, b, id⟩ : Cell) ∉ s.cells := fun hm => by
  have := List.any_eq_false.1 h _ hm
  simp at this
theorem gridOk_slot {n : Net} {s : Sched} (hg : GridOk s) {a b : Int} (hab : 0 ≤ a ∧ a < 32 ∧ 0 ≤ b ∧ b < 32 ∧ a ≠ b) (id slot : Int) : GridOk (slotM n s a b id slot).1 := by
  unfold slotM
  split
  · exact hg
  · rename_i hno
    have hno' : hasF s a b id slot = false := by simpa using hno
    split
    · rename_i o ho
      have hfit : fitsM n s ⟨slot, o, a, b, id⟩ = true := by
        unfold roomF at ho
        have := List.find?_some ho
        rwa [fits_flow (fm := id)] at this
      have hcm := hasF_not hno' o
      have hnew := fits_new hfit
      have hhb : hasC s ⟨slot, o, a, b, id⟩ = false := by
        unfold hasC
        rw [has_mem hg.sorted]; simpa using hcm
      refine ⟨of_sorted (add_sorted0 (sorted_of hg.sorted) hhb), apart_put hg.apart fun d hd hs => ?_, fun c hc => ?_⟩
      · cases ht : touchB ⟨slot, o, a, b, id⟩ d with
        | false => rfl
        | true => exact absurd ⟨hs, ht⟩ (hnew d hd)
      · rcases insAt_mem.1 hc with rfl | hc
        · exact hab
        · exact hg.nodes c hc
    · exact hg
theorem gridOk_fill {n : Net} {a b : Int} (hab : 0 ≤ a ∧ a < 32 ∧ 0 ≤ b ∧ b < 32 ∧ a ≠ b) (id : Int) : ∀ (d : Nat) {s : Sched} (_ : GridOk s) (left : Nat) (t : Int), GridOk (fillM n a b id d s left t).1
  | 0, _, hg, _, _ => hg
  | d + 1, s, hg, left, t => by
    rw [fillM]
    split
    · exact hg
    · exact gridOk_fill hab id d (gridOk_slot hg hab id _) _ _
theorem VOk.grid {n : Net} {l : List Flow} {s : Sched} (h : VOk n l s) : GridOk s where
  sorted := h.sorted
  apart := List.pairwise_iff_getElem.2 fun i j hi hj hij hs => h.apart (List.getElem?_eq_getElem hi) (List.getElem?_eq_getElem hj) (by omega) hs
  nodes := fun c hc => by
    have hg := (h.at hc).2.2.2.2.1
    unfold goodL at hg
    simp only [Bool.and_eq_true, decide_eq_true_eq] at hg
    obtain ⟨k, l, e1, e2, e3, e4⟩ := findL_at hg.1.1.1
    have hb := linkR_bd (h.net.link k l e2).1
    have hn := h.net.nodes
    rw [← e3, ← e4]
    omega
end HM
namespace HM
open Go Go.RowKit
theorem slotM_same {n : Net} {s : Sched} {a b id k : Int} (h : (slotM n s a b id k).2 = false) : (slotM n s a b id k).1 = s := by
  unfold slotM at h ⊢
  split
  · rfl
  · rename_i hh
    rw [if_neg hh] at h
    split
    · rename_i o ho; rw [ho] at h; cases h
    · rfl
theorem roomF_none {n : Net} {s : Sched} {a b slot : Int} (h : freeS s a b slot = false) : roomF n s a b slot = none := by
  unfold roomF
  rw [List.find?_eq_none]
  intro o _
  unfold fitsM
  simp [h]
theorem roomF_step (n : Net) (s : Sched) (a b slot : Int) (j : Nat) : (List.range (j + 1)).find? (fun o => fitsM n s ⟨slot, (o : Nat), a, b, 0⟩) = (((List.range j).find? fun o => fitsM n s ⟨slot, (o : Nat), a, b, 0⟩).or (if fitsM n s ⟨slot, (j : Nat), a, b, 0⟩ then some j else none)) := by
  rw [List.range_succ, List.find?_append]
  congr 1
  simp only [List.find?_cons, List.find?_nil]
  split <;> simp_all
structure Hop (n : Net) (r : List Int) (i : Nat) (l : Link) : Prop where
  at_ : ∃ q : Nat, findL n (r.getD i 0) (r.getD (i + 1) 0) = q ∧ n.links[q]? = some l
  src : l.src = r.getD i 0
  dst : l.dst = r.getD (i + 1) 0
  ends : 0 ≤ r.getD i 0 ∧ r.getD i 0 < 32 ∧ 0 ≤ r.getD (i + 1) 0 ∧ r.getD (i + 1) 0 < 32 ∧ r.getD i 0 ≠ r.getD (i + 1) 0
  loss : 0 ≤ l.loss ∧ l.loss ≤ 7
  need : (needAt n r 0 i : Int) = l.loss + 1
theorem hop_at {n : Net} (hok : NetOk n) {r : List Int} {i : Nat} (h : goodL n (r.getD i 0) (r.getD (i + 1) 0) = true) : ∃ l, Hop n r i l := by
  obtain ⟨q, l, e1, e2, e3, e4⟩ := findL_at (n := n) (a := r.getD i 0) (b := r.getD (i + 1) 0) (by unfold goodL at h; simp only [Bool.and_eq_true, decide_eq_true_eq] at h; exact h.1.1.1)
  have hb := linkR_bd (hok.link q l e2).1
  have hnd := hok.nodes
  have hla : linkAt n r i = l := by unfold linkAt; rw [e1, Int.toNat_natCast, e2]; rfl
  exact ⟨l, ⟨q, e1, e2⟩, e3, e4, by rw [← e3, ← e4]; omega, by omega, by unfold needAt; rw [hla]; omega⟩
def HopsOk (n : Net) (r : List Int) : Prop := ∀ i, i + 1 < r.length → goodL n (r.getD i 0) (r.getD (i + 1) 0) = true
theorem relA_ok {n : Net} (hok : NetOk n) {f : Flow} {r : List Int} {stop : Int} (hop : HopsOk n r) : ∀ {k : Nat} {s s1 : Sched} {t t1 : Int}, k + 1 ≤ r.length → relA n f r stop k s t = some (s1, t1) → GridOk s → GridOk s1 ∧ s1.len = s.len ∧ s1.offs = s.offs ∧ s1.cells.length ≤ s.cells.length + 16 * k
  | 0, s, s1, t, t1, _, h, hg => by
    simp only [relA, Option.some.injEq, Prod.mk.injEq] at h
    obtain ⟨rfl, rfl⟩ := h
    exact ⟨hg, rfl, rfl, by omega⟩
  | k + 1, s, s1, t, t1, hk, h, hg => by
    rw [relA] at h
    split at h
    · cases h
    · rename_i s0 t0 h0
      obtain ⟨g1, g2, g3, g4⟩ := relA_ok hok hop (k := k) (by omega) h0 hg
      obtain ⟨l, hl⟩ := hop_at hok (hop k (by omega))
      have f1 := gridOk_fill (n := n) hl.ends f.id (stop - t0).toNat g1 (needAt n r 0 k) t0
      have f2 := fillM_len n (r.getD k 0) (r.getD (k + 1) 0) f.id (stop - t0).toNat s0 (needAt n r 0 k) t0
      have f3 := fillM_cells n (r.getD k 0) (r.getD (k + 1) 0) f.id (stop - t0).toNat s0 (needAt n r 0 k) t0
      have hn := hl.need
      have hl2 := hl.loss
      split at h
      · cases h
      · injection h with h
        injection h with h1 h2
        subst h1
        exact ⟨f1, f2.1.trans g2, f2.2.trans g3, by omega⟩
theorem relsA_ok {n : Net} (hok : NetOk n) {f : Flow} {r : List Int} (hr : 1 ≤ r.length ∧ r.length ≤ 9) (hop : HopsOk n r) : ∀ {k : Nat} {s s1 : Sched}, relsA n f r k s = some s1 → GridOk s → GridOk s1 ∧ s1.len = s.len ∧ s1.offs = s.offs ∧ s1.cells.length ≤ s.cells.length + 128 * k
  | 0, s, s1, h, hg => by
    simp only [relsA, Option.some.injEq] at h
    subst h
    exact ⟨hg, rfl, rfl, by omega⟩
  | k + 1, s, s1, h, hg => by
    rw [relsA] at h
    split at h
    · cases h
    · rename_i s0 h0
      obtain ⟨g1, g2, g3, g4⟩ := relsA_ok hok hr hop (k := k) h0 hg
      cases hx : relA n f r (atA f k + f.dead) (r.length - 1) s0 (atA f k) with
      | none => rw [hx] at h; cases h
      | some p =>
        rw [hx] at h
        simp only [Option.map_some, Option.some.injEq] at h
        subst h
        obtain ⟨f1, f2, f3, f4⟩ := relA_ok hok hop (by omega) hx g1
        exact ⟨f1, f2.trans g2, f3.trans g3, by omega⟩
theorem placeA_ok {n : Net} (hok : NetOk n) {f : Flow} {N : Nat} : ∀ {l : List (List Int)} {s s1 : Sched}, (∀ r ∈ l, (1 ≤ r.length ∧ r.length ≤ 9) ∧ HopsOk n r) → placeA n f N l s = some s1 → GridOk s → GridOk s1 ∧ s1.len = s.len ∧ s1.offs = s.offs ∧ s1.cells.length ≤ s.cells.length + 128 * N * l.length
  | [], s, s1, _, h, hg => by
    simp only [placeA, Option.some.injEq] at h
    subst h
    exact ⟨hg, rfl, rfl, by simp⟩
  | r :: l, s, s1, hl, h, hg => by
    rw [placeA] at h
    split at h
    · cases h
    · rename_i s0 h0
      obtain ⟨h1, h2⟩ := hl r (List.mem_cons_self ..)
      obtain ⟨g1, g2, g3, g4⟩ := relsA_ok hok h1 h2 h0 hg
      obtain ⟨f1, f2, f3, f4⟩ := placeA_ok hok (fun x hx => hl x (List.mem_cons_of_mem _ hx)) h g1
      exact ⟨f1, f2.trans g2, f3.trans g3, by rw [List.length_cons, Nat.mul_add]; omega⟩
def relN (s : Sched) (f : Flow) : Nat := (s.len / f.period).toNat
theorem relN_lt {s : Sched} {f : Flow} (hl : 1 ≤ s.len) (hp : 1 ≤ f.period) (h0 : 0 ≤ f.phase ∧ f.phase < f.period) (hd : s.len % f.period = 0) (k : Nat) : atA f k < s.len ↔ k < relN s f := by
  obtain ⟨m, hm⟩ : ∃ m : Int, s.len / f.period = m := ⟨_, rfl⟩
  have h1 : s.len = m * f.period := by rw [← hm]; exact (Int.ediv_mul_cancel (Int.dvd_of_emod_eq_zero hd)).symm
  have hm0 : 0 ≤ m := by rw [← hm]; exact Int.ediv_nonneg (by omega) (by omega)
  unfold relN atA
  rw [hm, h1]
  constructor
  · intro h
    rcases Int.lt_or_le (k : Int) m with h2 | h2
    · omega
    · have := Int.mul_le_mul_of_nonneg_right h2 (show (0 : Int) ≤ f.period by omega)
      omega
  · intro h
    have h2 : ((k : Int) + 1) * f.period ≤ m * f.period := Int.mul_le_mul_of_nonneg_right (by omega) (by omega)
    rw [Int.add_mul, Int.one_mul] at h2
    omega
theorem relN_le {s : Sched} {f : Flow} (hl : s.len ≤ 512) (hp : 1 ≤ f.period) : relN s f ≤ 512 := by
  unfold relN
  rcases Int.lt_or_le s.len 0 with h | h
  · have := Int.ediv_le_ediv (show (0:Int) < f.period by omega) (show s.len ≤ 0 by omega)
    rw [Int.zero_ediv] at this
    omega
  · have := Int.ediv_le_self f.period h
    omega
def posQ (x : Req) (q : List Req) : Nat := posB (fun y : Req => cmpI y.flow.id x.flow.id) q
def insQ (q : List Req) (x : Req) : List Req := insAt q (posQ x q) x
def hasQ (q : List Req) (id : Int) : Bool := q.any fun y => y.flow.id == id
def admM (n : Net) (q : List Req) (s : Sched) (x : Req) : Sched × Int :=
  if (makeM n q s).2.2 ≠ 0 then (⟨0, 0, []⟩, 1) else if hasQ q x.flow.id = true then (⟨0, 0, []⟩, 6)
  else if (reqE n (insQ q x)).2 ≠ 0 then (⟨0, 0, []⟩, 1) else if s.len % x.flow.period ≠ 0 then (⟨0, 0, []⟩, 11)
  else match placeA n x.flow (relN s x.flow) x.routes s with
    | none => (⟨0, 0, []⟩, 18)
    | some t => if 512 < t.cells.length then (⟨0, 0, []⟩, 8) else (t, 0)
theorem faulty_iff {n : Net} (hn : netE n = 0) (q : List Req) : ((makeM n q ⟨0, 0, []⟩).2.2 != 1 || decide (0 ≤ (makeM n q ⟨0, 0, []⟩).2.1)) = decide ((reqE n q).2 ≠ 0) := by
  have hok := netE_ok hn
  have hnd := hok.nodes
  by_cases h : (reqE n q).2 = 0
  · have hs : (schedE n (flowsQ q) ⟨0, 0, []⟩).2 ≠ 0 := fun h0 => by
      have := (schedE_ok h0).size
      revert this; decide
    have hM : makeM n q ⟨0, 0, []⟩ = ([], -1, 1) := by unfold makeM; rw [if_neg (by omega), if_pos hs]
    rw [hM, decide_eq_false (by omega : ¬ (reqE n q).2 ≠ 0)]; rfl
  · have hM : makeM n q ⟨0, 0, []⟩ = ([], (reqE n q).1, (reqE n q).2) := by unfold makeM; rw [if_pos h]
    rw [hM, decide_eq_true h]
    simp only
    have key : (reqE n q).2 ≠ 1 ∨ 0 ≤ (reqE n q).1 := by
      unfold reqE at h ⊢
      rw [if_neg (by omega)] at h ⊢
      split
      · rename_i h1
        unfold flowsE at h1 ⊢
        rw [if_neg (by omega)] at h1 ⊢
        split
        · left; simp
        · rename_i h2
          rw [if_neg h2] at h1
          exact .inr (firstAt_lo h1)
      · rename_i h1
        rw [if_neg h1] at h
        exact .inr (firstAt_lo h)
    rcases key with h1 | h1
    · rw [bne_iff_ne.2 h1]; rfl
    · rw [decide_eq_true h1, Bool.or_true]
theorem mono_req {q : List Req} (h : q.Pairwise fun a b => a.flow.id < b.flow.id) (x : Req) : Mono (fun y : Req => cmpI y.flow.id x.flow.id) q := fun i j a b hij ha hb hlt => by
  have h1 := List.pairwise_iff_getElem.1 h i j (List.getElem?_eq_some_iff.1 ha).1 (List.getElem?_eq_some_iff.1 hb).1 hij
  rw [(List.getElem?_eq_some_iff.1 ha).2, (List.getElem?_eq_some_iff.1 hb).2] at h1
  show cmpI a.flow.id x.flow.id < 0
  have hlt : cmpI b.flow.id x.flow.id < 0 := hlt
  unfold cmpI at hlt ⊢
  split at hlt
  · rw [if_pos (by omega)]; omega
  · split at hlt <;> omega
end HM
namespace HM
open Go Go.RowKit
theorem posQ_at {q : List Req} {x : Req} (hs : q.Pairwise fun a b => a.flow.id < b.flow.id) (hno : hasQ q x.flow.id = false) {k : Nat} {y : Req} (hk : q[k]? = some y) : x.flow.id < y.flow.id ↔ posQ x q ≤ k := by
  constructor
  · intro h
    rcases Nat.lt_or_ge k (posQ x q) with h1 | h1
    · have this : cmpI y.flow.id x.flow.id < 0 := posB_lt (c := fun y : Req => cmpI y.flow.id x.flow.id) h1 hk
      unfold cmpI at this
      rw [if_neg (by omega), if_pos h] at this
      omega
    · exact h1
  · intro h
    have hkl := (List.getElem?_eq_some_iff.1 hk).1
    obtain ⟨z, hz⟩ := getLt (l := q) (k := posQ x q) (by omega)
    have h1 : ¬ cmpI z.flow.id x.flow.id < 0 := posB_ge (c := fun y : Req => cmpI y.flow.id x.flow.id) hz
    have h2 : z.flow.id ≠ x.flow.id := fun he => by
      have := List.any_eq_false.1 hno z (List.mem_of_getElem? hz)
      simp [he] at this
    have h3 : x.flow.id < z.flow.id := by
      unfold cmpI at h1
      split at h1
      · omega
      · split at h1 <;> omega
    rcases Nat.lt_or_eq_of_le h with h4 | h4
    · have h5 := List.pairwise_iff_getElem.1 hs (posQ x q) k (List.getElem?_eq_some_iff.1 hz).1 hkl h4
      rw [(List.getElem?_eq_some_iff.1 hz).2, (List.getElem?_eq_some_iff.1 hk).2] at h5
      omega
    · subst h4
      rw [hz] at hk; injection hk with hk; subst hk
      exact h3
def withQ (q : List Req) (x : Req) (k : Nat) : List Req := if k ≤ posQ x q then q.take k else insAt (q.take k) (posQ x q) x
theorem withQ_succ {q : List Req} {x : Req} {k : Nat} {y : Req} (hk : q[k]? = some y) : withQ q x (k + 1) = withQ q x k ++ if k = posQ x q then [x, y] else [y] := by
  unfold withQ
  have hkl := (List.getElem?_eq_some_iff.1 hk).1
  have ht := take_succ hk
  have hl : (q.take k).length = k := by rw [List.length_take]; omega
  rcases Nat.lt_trichotomy k (posQ x q) with h | h | h
  · rw [if_pos (by omega), if_pos (by omega), if_neg (by omega), ht]
  · rw [if_neg (by omega), if_pos (by omega), if_pos h, ht, ← h]
    unfold insAt
    rw [List.take_append_of_le_length (by omega), List.take_of_length_le (by omega), List.drop_append_of_le_length (by omega), List.drop_of_length_le (by omega)]
    rfl
  · rw [if_neg (by omega), if_neg (by omega), if_neg (by omega), ht]
    unfold insAt
    rw [List.take_append_of_le_length (by omega), List.drop_append_of_le_length (by omega), List.append_assoc]
    rfl
theorem withQ_end {q : List Req} {x : Req} : insQ q x = if posQ x q < q.length then withQ q x q.length else withQ q x q.length ++ [x] := by
  have hp : posQ x q ≤ q.length := posB_le _ _
  unfold withQ insQ
  rw [List.take_length]
  split
  · rw [if_neg (by omega)]
  · rw [if_pos (by omega)]
    have : posQ x q = q.length := by omega
    unfold insAt
    rw [this, List.take_length, List.drop_length]
theorem withQ_len (q : List Req) (x : Req) (k : Nat) : (withQ q x k).length ≤ q.length + 1 := by
  unfold withQ
  split
  · rw [List.length_take]; omega
  · rw [insAt_len, List.length_take]; omega
theorem withQ_zero (q : List Req) (x : Req) : withQ q x 0 = [] := by
  unfold withQ
  rw [if_pos (by omega)]; simp
end HM
namespace HM
open Go Go.RowKit
def relL (n : Net) (f : Flow) (r : List Int) (stop : Int) : Nat → Sched → Int → Sched
  | 0, s, _ => s
  | k + 1, s, t => match relA n f r stop k s t with
    | none => relL n f r stop k s t
    | some (s1, t1) => (fillM n (r.getD k 0) (r.getD (k + 1) 0) f.id (stop - t1).toNat s1 (needAt n r 0 k) t1).1
theorem relA_len {n : Net} {f : Flow} {r : List Int} {stop : Int} : ∀ {k : Nat} {s s1 : Sched} {t t1 : Int}, relA n f r stop k s t = some (s1, t1) → s1.len = s.len
  | 0, s, s1, t, t1, h => by
    simp only [relA, Option.some.injEq, Prod.mk.injEq] at h
    rw [h.1]
  | k + 1, s, s1, t, t1, h => by
    rw [relA] at h
    split at h
    · cases h
    · rename_i s0 t0 h0
      split at h
      · cases h
      · injection h with h
        injection h with h1 h2
        rw [← h1]
        exact (fillM_len ..).1.trans (relA_len h0)
theorem relL_some {n : Net} {f : Flow} {r : List Int} {stop : Int} : ∀ {k : Nat} {s s1 : Sched} {t t1 : Int}, relA n f r stop k s t = some (s1, t1) → relL n f r stop k s t = s1
  | 0, s, s1, t, t1, h => by
    simp only [relA, Option.some.injEq, Prod.mk.injEq] at h
    exact h.1
  | k + 1, s, s1, t, t1, h => by
    rw [relA] at h
    rw [relL]
    split at h
    · cases h
    · rename_i s0 t0 h0
      try rw [h0]
      split at h
      · cases h
      · injection h with h
        injection h with h1 h2
theorem relL_none {n : Net} {f : Flow} {r : List Int} {stop : Int} {k : Nat} {s : Sched} {t : Int} (h : relA n f r stop k s t = none) : ∀ {m : Nat}, k ≤ m → relL n f r stop m s t = relL n f r stop k s t
  | 0, hm => by rw [show k = 0 by omega]
  | m + 1, hm => by
    rcases Nat.lt_or_ge k (m + 1) with hk | hk
    · rw [relL, relA_none h (m := m) (by omega)]
      exact relL_none h (m := m) (by omega)
    · rw [show m + 1 = k by omega]
theorem relL_stop {n : Net} {f : Flow} {r : List Int} {stop : Int} {k : Nat} {s s1 s2 : Sched} {t t1 : Int} {c : Nat} {t2 : Int} (h : relA n f r stop k s t = some (s1, t1)) (hf : fillM n (r.getD k 0) (r.getD (k + 1) 0) f.id (stop - t1).toNat s1 (needAt n r 0 k) t1 = (s2, c, t2)) (hc : c ≠ 0) {m : Nat} (hm : k + 1 ≤ m) :
    relA n f r stop m s t = none ∧ relL n f r stop m s t = s2 := by
  have h1 : relA n f r stop (k + 1) s t = none := by
    rw [relA, h]
    simp only [hf]
    rw [if_pos hc]
  refine ⟨relA_none h1 hm, ?_⟩
  rw [relL_none h1 hm, relL, h]
  simp only [hf]
def relsL (n : Net) (f : Flow) (r : List Int) : Nat → Sched → Sched
  | 0, s => s
  | k + 1, s => match relsA n f r k s with
    | none => relsL n f r k s
    | some s1 => relL n f r (atA f k + f.dead) (r.length - 1) s1 (atA f k)
def placeL (n : Net) (f : Flow) (N : Nat) : List (List Int) → Sched → Sched
  | [], s => s
  | r :: l, s => match relsA n f r N s with
    | none => relsL n f r N s
    | some s1 => placeL n f N l s1
theorem placeA_none {n : Net} {f : Flow} {N : Nat} : ∀ {l m : List (List Int)} {s : Sched}, placeA n f N l s = none → placeA n f N (l ++ m) s = none ∧ placeL n f N (l ++ m) s = placeL n f N l s
  | [], _, _, h => by simp [placeA] at h
  | r :: l, m, s, h => by
    rw [placeA] at h
    rw [List.cons_append, placeA, placeL, placeL]
    split at h
    · rename_i h0
      try rw [h0]
      exact ⟨rfl, rfl⟩
    · rename_i s0 h0
      try rw [h0]
      exact placeA_none h
theorem atA_succ (f : Flow) (k : Nat) : atA f (k + 1) = atA f k + f.period := by
  unfold atA
  rw [Int.natCast_add, Int.natCast_one, Int.add_mul, Int.one_mul]
  omega
theorem atA_le {s : Sched} {f : Flow} (hl : s.len ≤ 512) (hp : 1 ≤ f.period ∧ f.period ≤ 512) (h0 : 0 ≤ f.phase ∧ f.phase < f.period) : ∀ k : Nat, 0 ≤ atA f k ∧ (k = 0 ∨ atA f (k - 1) < s.len → atA f k ≤ 1024)
  | 0 => by unfold atA; simp; omega
  | k + 1 => by
    obtain ⟨h1, h2⟩ := atA_le hl hp h0 k
    rw [atA_succ, Nat.add_sub_cancel]
    omega
end HM
namespace HM
open Go Go.RowKit
theorem MoreS.refl (s : Sched) : MoreS s s := ⟨rfl, fun _ => Nat.le_refl _⟩
theorem MoreS.trans {s t u : Sched} (h : MoreS s t) (h' : MoreS t u) : MoreS s u := ⟨h'.len.trans h.len, fun p => Nat.le_trans (h.cells p) (h'.cells p)⟩
theorem slotM_more (n : Net) (s : Sched) (a b id k : Int) : MoreS s (slotM n s a b id k).1 := by
  unfold slotM putM
  split
  · exact MoreS.refl s
  · split
    · exact ⟨rfl, fun p => insAt_filter _ _ _ _⟩
    · exact MoreS.refl s
theorem fillM_more (n : Net) (a b id : Int) : ∀ (d : Nat) (s : Sched) (left : Nat) (t : Int), MoreS s (fillM n a b id d s left t).1
  | 0, s, _, _ => MoreS.refl s
  | d + 1, s, left, t => by
    rw [fillM]
    split
    · exact MoreS.refl s
    · exact (slotM_more n s a b id (t % s.len)).trans (fillM_more n a b id d _ _ _)
theorem relA_more {n : Net} {f : Flow} {r : List Int} {stop : Int} : ∀ {k : Nat} {s s1 : Sched} {t t1 : Int}, relA n f r stop k s t = some (s1, t1) → MoreS s s1
  | 0, s, s1, t, t1, h => by
    simp only [relA, Option.some.injEq, Prod.mk.injEq] at h
    rw [← h.1]; exact MoreS.refl s
  | k + 1, s, s1, t, t1, h => by
    rw [relA] at h
    split at h
    · cases h
    · rename_i s0 t0 h0
      split at h
      · cases h
      · injection h with h
        injection h with h1 h2
        rw [← h1]
        exact (relA_more h0).trans (fillM_more ..)
theorem relsA_more {n : Net} {f : Flow} {r : List Int} : ∀ {k : Nat} {s s1 : Sched}, relsA n f r k s = some s1 → MoreS s s1
  | 0, s, s1, h => by
    have : s = s1 := by simpa [relsA] using h
    rw [this]; exact MoreS.refl s1
  | k + 1, s, s1, h => by
    rw [relsA] at h
    split at h
    · cases h
    · rename_i s0 h0
      cases hx : relA n f r (atA f k + f.dead) (r.length - 1) s0 (atA f k) with
      | none => rw [hx] at h; cases h
      | some p =>
        rw [hx] at h
        simp only [Option.map_some, Option.some.injEq] at h
        subst h
        exact (relsA_more h0).trans (relA_more (t1 := p.2) hx)
theorem placeA_more {n : Net} {f : Flow} {N : Nat} : ∀ {l : List (List Int)} {s s1 : Sched}, placeA n f N l s = some s1 → MoreS s s1
  | [], s, s1, h => by
    have : s = s1 := by simpa [placeA] using h
    rw [this]; exact MoreS.refl s1
  | r :: l, s, s1, h => by
    rw [placeA] at h
    split at h
    · cases h
    · rename_i s0 h0
      exact (relsA_more h0).trans (placeA_more h)
theorem slotM_has {n : Net} {s : Sched} {f : Flow} {a b t : Int} (h : (slotM n s a b f.id (t % s.len)).2 = true) : 1 ≤ slotN (cellsL (slotM n s a b f.id (t % s.len)).1 f a b) s.len t := by
  have key : ∃ c ∈ (slotM n s a b f.id (t % s.len)).1.cells, c.slot = t % s.len ∧ c.flow = f.id ∧ c.src = a ∧ c.dst = b := by
    unfold slotM at h ⊢
    split
    · rename_i hh
      obtain ⟨c, hc, h1⟩ := List.any_eq_true.1 hh
      simp only [Bool.and_eq_true, beq_iff_eq] at h1
      exact ⟨c, hc, h1.1, h1.2.2.2, h1.2.1, h1.2.2.1⟩
    · rename_i hh
      rw [if_neg hh] at h
      split
      · rename_i o ho
        exact ⟨⟨t % s.len, o, a, b, f.id⟩, insAt_mem.2 (.inl rfl), rfl, rfl, rfl, rfl⟩
      · rename_i ho
        rw [ho] at h; cases h
  obtain ⟨c, hc, h1, h2, h3, h4⟩ := key
  unfold slotN cellsL
  refine List.length_pos_iff.2 (List.ne_nil_of_mem (a := c) ?_)
  rw [List.mem_filter, List.mem_filter]
  exact ⟨⟨hc, by simp [offL, h2, h3, h4]⟩, by simp [h1]⟩
theorem fillM_slots {n : Net} {f : Flow} {a b : Int} {u : Sched} : ∀ {d : Nat} {s s1 : Sched} {left : Nat} {t t1 : Int}, fillM n a b f.id d s left t = (s1, 0, t1) → MoreS s1 u → t ≤ t1 ∧ t1 ≤ t + d ∧ left ≤ (allS (cellsL u f a b) s.len t (t1 - t).toNat).length
  | 0, s, s1, left, t, t1, h, _ => by
    simp only [fillM, Prod.mk.injEq] at h
    obtain ⟨rfl, rfl, rfl⟩ := h
    simp
  | d + 1, s, s1, left, t, t1, h, hu => by
    rw [fillM] at h
    split at h
    · rename_i h0
      simp only [Prod.mk.injEq] at h
      obtain ⟨rfl, rfl, rfl⟩ := h
      simp only [Nat.zero_le, and_true]; omega
    · rename_i h0
      have hl := (slotM_len n s a b f.id (t % s.len)).1
      obtain ⟨g1, g2, g3⟩ := fillM_slots h hu
      have hm : MoreS (slotM n s a b f.id (t % s.len)).1 u := by
        have := fillM_more n a b f.id d (slotM n s a b f.id (t % s.len)).1 (if (slotM n s a b f.id (t % s.len)).2 = true then left - 1 else left) (t + 1)
        rw [h] at this
        exact this.trans hu
      refine ⟨by omega, by omega, ?_⟩
      obtain ⟨D, hD⟩ : ∃ D, (t1 - (t + 1)).toNat = D := ⟨_, rfl⟩
      rw [hl, hD] at g3
      rw [show (t1 - t).toNat = D + 1 by omega, allS_front]
      by_cases hs : (slotM n s a b f.id (t % s.len)).2 = true
      · rw [if_pos hs] at g3
        have h1 := slotM_has (f := f) hs
        have h2 : slotN (cellsL (slotM n s a b f.id (t % s.len)).1 f a b) s.len t ≤ slotN (cellsL u f a b) s.len t := slotN_mono (fun p => by
          unfold cellsL
          rw [List.filter_filter, List.filter_filter]
          exact hm.cells _) _ _
        omega
      · rw [if_neg hs] at g3
        omega
theorem slotsUp_placed {n : Net} (hok : NetOk n) {f : Flow} {r : List Int} {stop : Int} {u : Sched} (hop : HopsOk n r) {rel : Int} (hst : stop ≤ rel + f.period) (h0 : rel ≤ stop) : ∀ {k : Nat} {s s1 : Sched} {t1 : Int}, k + 1 ≤ r.length → relA n f r stop k s rel = some (s1, t1) → MoreS s1 u →
    (rel ≤ t1 ∧ t1 ≤ stop) ∧ ∃ o a, slotsUp n u f r rel 0 k = some (o, a) ∧ a ≤ t1 ∧ rel ≤ a
  | 0, s, s1, t1, _, h, _ => by
    simp only [relA, Option.some.injEq, Prod.mk.injEq] at h
    obtain ⟨rfl, rfl⟩ := h
    exact ⟨⟨Int.le_refl _, h0⟩, [], rel, rfl, Int.le_refl _, Int.le_refl _⟩
  | k + 1, s, s1, t1, hk, h, hu => by
    rw [relA] at h
    split at h
    · cases h
    · rename_i s0 t0 hr0
      split at h
      · cases h
      · rename_i hz
        obtain ⟨l, hl⟩ := hop_at hok (hop k (by omega))
        have hnd := hl.need
        have hll := hl.loss
        injection h with h
        injection h with h1 h2
        have hz : (fillM n (r.getD k 0) (r.getD (k + 1) 0) f.id (stop - t0).toNat s0 (needAt n r 0 k) t0).2.1 = 0 := by simpa using hz
        have hf : fillM n (r.getD k 0) (r.getD (k + 1) 0) f.id (stop - t0).toNat s0 (needAt n r 0 k) t0 = (s1, 0, t1) := by
          rw [← h1, ← h2, ← hz]
        have hu0 : MoreS s0 u := by
          have := fillM_more n (r.getD k 0) (r.getD (k + 1) 0) f.id (stop - t0).toNat s0 (needAt n r 0 k) t0
          rw [hf] at this
          exact this.trans hu
        obtain ⟨⟨e1, e2⟩, o, a, e3, e4, e5⟩ := slotsUp_placed hok hop hst h0 (by omega) hr0 hu0
        obtain ⟨g1, g2, g3⟩ := fillM_slots hf hu
        have hlen : u.len = s0.len := hu0.len
        have hsh := allS_shift (cellsL u f (r.getD k 0) (r.getD (k + 1) 0)) s0.len a (t1 - t0).toNat (t0 - a).toNat
        rw [show a + ((t0 - a).toNat : Int) = t0 by omega] at hsh
        obtain ⟨k1, k2, k3⟩ := next_le (cs := cellsL u f (r.getD k 0) (r.getD (k + 1) 0)) (len := s0.len) (a := a) (need := needAt n r 0 k) (d := (t0 - a).toNat + (t1 - t0).toNat) (D := (rel + f.period - a).toNat) (by omega) (by omega) (by omega)
        refine ⟨⟨by omega, by omega⟩, ?_⟩
        rw [slotsUp, e3]
        simp only
        have hso : slotsOn u f (r.getD k 0) (r.getD (k + 1) 0) (needAt n r 0 k) a (rel + f.period) = (allS (cellsL u f (r.getD k 0) (r.getD (k + 1) 0)) s0.len a (rel + f.period - a).toNat).take (needAt n r 0 k) := by
          unfold slotsOn; rw [hlen]
        rw [hso, if_neg (by omega)]
        exact ⟨_, _, rfl, by omega, by omega⟩
theorem relR_placed {n : Net} (hok : NetOk n) {f : Flow} {r : List Int} {u : Sched} (hr : 2 ≤ r.length) (hop : HopsOk n r) {rel : Int} (hd : 1 ≤ f.dead ∧ f.dead ≤ f.period) {s s1 : Sched} {t1 : Int} (h : relA n f r (rel + f.dead) (r.length - 1) s rel = some (s1, t1)) (hu : MoreS s1 u) : ∃ b l, relR n u f r 0 rel = some (b, l) ∧ b ≤ f.dead := by
  obtain ⟨⟨e1, e2⟩, o, a, e3, e4, e5⟩ := slotsUp_placed hok hop (by omega) (by omega) (by omega) h hu
  obtain ⟨l, hl⟩ := hop_at hok (hop (r.length - 2) (by omega))
  have hnd := hl.need
  have hll := hl.loss
  have hlast := slotsUp_last (n := n) (s := u) (f := f) (r := r) (rel := rel) (more := 0) (k := r.length - 2) (o := o) (a := a) (by omega) (by rw [show r.length - 2 + 1 = r.length - 1 by omega]; exact e3)
  refine ⟨o.getLastD 0 - rel + 1, o.map (· - rel), ?_, ?_⟩
  · rw [relR, slotsW, e3]; rfl
  · rw [List.getLastD_eq_getLast?, hlast]
    simp only [Option.getD_some]
    omega
theorem relsA_at {n : Net} {f : Flow} {r : List Int} : ∀ {N : Nat} {s s1 : Sched}, relsA n f r N s = some s1 → ∀ k, k < N → ∃ s0 s2 t2, relA n f r (atA f k + f.dead) (r.length - 1) s0 (atA f k) = some (s2, t2) ∧ MoreS s2 s1
  | 0, _, _, _, k, hk => by omega
  | N + 1, s, s1, h, k, hk => by
    rw [relsA] at h
    split at h
    · cases h
    · rename_i s0 h0
      cases hx : relA n f r (atA f N + f.dead) (r.length - 1) s0 (atA f N) with
      | none => rw [hx] at h; cases h
      | some p =>
        rw [hx] at h
        simp only [Option.map_some, Option.some.injEq] at h
        subst h
        by_cases hkN : k < N
        · obtain ⟨s2, s3, t3, g1, g2⟩ := relsA_at h0 k hkN
          exact ⟨s2, s3, t3, g1, g2.trans (relA_more (t1 := p.2) hx)⟩
        · have : k = N := by omega
          subst this
          exact ⟨s0, p.1, p.2, hx, MoreS.refl _⟩
theorem placeA_at {n : Net} {f : Flow} {N : Nat} : ∀ {l : List (List Int)} {s s1 : Sched}, placeA n f N l s = some s1 → ∀ r ∈ l, ∃ s0 s2, relsA n f r N s0 = some s2 ∧ MoreS s2 s1
  | [], _, _, _, r, hr => by simp at hr
  | x :: l, s, s1, h, r, hr => by
    rw [placeA] at h
    split at h
    · cases h
    · rename_i s0 h0
      rcases List.mem_cons.1 hr with rfl | hr
      · exact ⟨s, s0, h0, placeA_more h⟩
      · exact placeA_at h r hr
theorem bound_of {n : Net} {u : Sched} {f : Flow} {r : List Int} {D : Int} (hD : 0 ≤ D) : ∀ {K : Nat}, (∀ k, k < K → ∃ b l, relR n u f r 0 (f.phase + k * f.period) = some (b, l) ∧ b ≤ D) → ∃ x, boundUp n u f r 0 K = some x ∧ x.b ≤ D
  | 0, _ => ⟨⟨0, 0, []⟩, rfl, hD⟩
  | K + 1, h => by
    obtain ⟨x, h1, h2⟩ := bound_of hD (K := K) fun k hk => h k (by omega)
    obtain ⟨b, l, h3, h4⟩ := h K (by omega)
    rw [boundUp, h1, h3]
    simp only
    split
    · exact ⟨_, rfl, h4⟩
    · exact ⟨x, rfl, h2⟩
theorem placed_srv {n : Net} (hok : NetOk n) {x : Req} {s u : Sched} (hl : 1 ≤ s.len) (hp : 1 ≤ x.flow.period) (hph : 0 ≤ x.flow.phase ∧ x.flow.phase < x.flow.period) (hd : 1 ≤ x.flow.dead ∧ x.flow.dead ≤ x.flow.period) (hdv : s.len % x.flow.period = 0) (hrt : ∀ r ∈ x.routes, 2 ≤ r.length ∧ HopsOk n r) (h : placeA n x.flow (relN s x.flow) x.routes s = some u) (hw : ∀ r ∈ x.routes, wayE n u x.flow r = 0) : claimB n u x = true := by
  have hul : u.len = s.len := (placeA_more h).len
  refine List.all_eq_true.2 fun r hr => ?_
  obtain ⟨s0, s2, g1, g2⟩ := placeA_at h r hr
  obtain ⟨h2, hop⟩ := hrt r hr
  have hall : ∀ k, k < relsN u x.flow → ∃ b l, relR n u x.flow r 0 (x.flow.phase + k * x.flow.period) = some (b, l) ∧ b ≤ x.flow.dead := fun k hk => by
    have hk2 : k < relN s x.flow := (relN_lt hl hp hph hdv k).1 (by have := (relsN_lt hp).1 hk; unfold atA; omega)
    obtain ⟨s3, s4, t4, g3, g4⟩ := relsA_at g1 k hk2
    exact relR_placed hok h2 hop (rel := atA x.flow k) hd g3 (g4.trans g2)
  obtain ⟨b, hb1, hb2⟩ := bound_of (D := x.flow.dead) (by omega) hall
  have hbr : boundR n u x.flow r 0 = some b := hb1
  unfold srvB routeM
  rw [if_neg (by rw [hw r hr]; simp), hbr]
  simp only [decide_true, Bool.true_and, decide_eq_true_eq]
  exact hb2
end HM
