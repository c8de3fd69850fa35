/- Runs and changes in plain words. -/
import Derived.Test.YtgfboaadhlhjhaaGreatDoorDa
import Derived.Test.YtgfboaadhlhjhaaGreatDoorFh
namespace HM
open Go Go.RowKit
end HM
namespace HM
open Go Go.RowKit
end HM
namespace HM
open Go Go.RowKit
structure Chg where
  slot : Int
  add : Bool
  cell : Cell
def Chg.av (c : Chg) : AV := .agg [.int .i64 c.slot, .bool c.add, .int .i64 c.cell.slot, .int .i64 c.cell.off, .int .i64 c.cell.src, .int .i64 c.cell.dst, .int .i64 c.cell.flow]
def delAt {α : Type} (l : List α) (p : Nat) : List α := l.take p ++ l.drop (p + 1)
def remM (s : Sched) (c : Cell) : Sched × Int :=
  if formB s = false then (⟨0, 0, []⟩, 1)
  else if hasC s c = false then (⟨0, 0, []⟩, 7)
  else (⟨s.len, s.offs, delAt s.cells (posC s c)⟩, 0)
def chgM (s : Sched) (c : Chg) : Sched × Int := if c.add = true then addM s c.cell else remM s c.cell
def chgE (p : Option Int) (c : Chg) : Int := if c.slot < 0 then 2 else match p with
  | some q => if c.slot < q then 5 else 0
  | none => 0
def behM : Option Int → Sched → List Chg → List Sched × Int
  | _, _, [] => ([], 0)
  | p, s, c :: cs => if chgE p c ≠ 0 then ([], chgE p c) else if (chgM s c).2 ≠ 0 then ([], (chgM s c).2) else ((chgM s c).1 :: (behM (some c.slot) (chgM s c).1 cs).1, (behM (some c.slot) (chgM s c).1 cs).2)
def appM : Option Int → Sched → Sched → List Chg → Int → Sched × Int
  | _, _, out, [], _ => (out, 0)
  | p, s, out, c :: cs, t => if chgE p c ≠ 0 then (out, chgE p c) else if (chgM s c).2 ≠ 0 then (out, (chgM s c).2) else appM (some c.slot) (chgM s c).1 (if c.slot ≤ t then (chgM s c).1 else out) cs t
end HM
namespace HM
open Go Go.RowKit
def winM (f : Flow) (frame : Int) : (Int × Int) × Int := if (relF f frame).2 ≠ 0 then ((0, 0), (relF f frame).2) else (((relF f frame).1, (relF f frame).1 + f.period - 1), 0)
structure OnceD (l : List Flow) (R : List Att) (d : Del) (k : Nat) (f : Flow) : Prop where
  at_ : findF l d.flow = (k : Int)
  get : l[k]? = some f
  win : (winM f d.frame).2 = 0 ∧ (winM f d.frame).1.1 ≤ d.slot ∧ d.slot ≤ (winM f d.frame).1.2
  by_ : (R.any fun a => a.slot == d.slot && (a.frame == d.frame && (a.cell.flow == d.flow && (a.cell.dst == f.dst && a.out != 3)))) = true
end HM
namespace HM
open Go Go.RowKit
end HM
namespace HM
open Go Go.RowKit
def prevS (cs : List Chg) (k : Nat) : Option Int := match k with
  | 0 => none
  | j + 1 => (cs[j]?).map (·.slot)
structure BehI (s : Sched) (cs : List Chg) (k : Nat) (bs : List Sched) : Prop where
  le : k ≤ cs.length
  len : bs.length = k
  eq : behM none s cs = (bs ++ (behM (prevS cs k) (bs.getLastD s) (cs.drop k)).1, (behM (prevS cs k) (bs.getLastD s) (cs.drop k)).2)
theorem BehI.zero (s : Sched) (cs : List Chg) : BehI s cs 0 [] := ⟨Nat.zero_le _, rfl, rfl⟩
theorem BehI.step {s : Sched} {cs : List Chg} {k : Nat} {bs : List Sched} (h : BehI s cs k bs) {c : Chg} (hc : cs[k]? = some c) (he : chgE (prevS cs k) c = 0) (h2 : (chgM (bs.getLastD s) c).2 = 0) : BehI s cs (k + 1) (bs ++ [(chgM (bs.getLastD s) c).1]) := by
  refine ⟨(List.getElem?_eq_some_iff.1 hc).1, by rw [List.length_append, h.len]; rfl, ?_⟩
  have hl : (bs ++ [(chgM (bs.getLastD s) c).1]).getLastD s = (chgM (bs.getLastD s) c).1 := by simp
  have e1 : behM (prevS cs k) (bs.getLastD s) (c :: cs.drop (k + 1)) = ((chgM (bs.getLastD s) c).1 :: (behM (some c.slot) (chgM (bs.getLastD s) c).1 (cs.drop (k + 1))).1, (behM (some c.slot) (chgM (bs.getLastD s) c).1 (cs.drop (k + 1))).2) := by
    rw [behM, if_neg (by simp [he]), if_neg (fun hh => hh h2)]
  have hp : prevS cs (k + 1) = some c.slot := by simp [prevS, hc]
  rw [h.eq, dropGet hc, e1, hl, hp]
  simp
theorem BehI.fin {s : Sched} {cs : List Chg} {bs : List Sched} (h : BehI s cs cs.length bs) : behM none s cs = (bs, 0) := by
  rw [h.eq, List.drop_length]
  simp [behM]
end HM
namespace HM
open Go Go.RowKit
end HM
namespace HM
end HM
namespace HM
open Go Go.RowKit
end HM
namespace HM
open Go Go.RowKit
end HM
namespace HM
open Go Go.RowKit
structure Req where
  flow : Flow
  routes : List (List Int)
def Req.cs (x : Req) : List AV := [.int .i64 x.flow.id, .int .i64 x.flow.src, .int .i64 x.flow.dst, .int .i64 x.flow.period, .int .i64 x.flow.phase, .int .i64 x.flow.dead, encRows x.routes]
def Req.av (x : Req) : AV := .agg [.int .i64 x.flow.id, .int .i64 x.flow.src, .int .i64 x.flow.dst, .int .i64 x.flow.period, .int .i64 x.flow.phase, .int .i64 x.flow.dead, encRows x.routes]
def encReqs (l : List Req) : AV := .sl false (l.map Req.av)
def flowsQ (q : List Req) : List Flow := q.map Req.flow
def routesAt (n : Net) (x : Req) (k : Nat) : Int := match x.routes[k]? with
  | some r => routeE n x.flow.src x.flow.dst r
  | none => 0
def twoSame : List (List Int) → Bool
  | [a, b] => decide (a = b)
  | _ => false
def routesE (n : Net) (x : Req) : Int :=
  if x.routes.length = 0 then 14 else if 2 < x.routes.length then 8
  else if (firstAt (routesAt n x) x.routes.length).2 ≠ 0 then (firstAt (routesAt n x) x.routes.length).2
  else if twoSame x.routes = true then 6 else 0
def reqAt (n : Net) (q : List Req) (k : Nat) : Int := match q[k]? with
  | some x => routesE n x
  | none => 0
def reqE (n : Net) (q : List Req) : Int × Int :=
  if netE n ≠ 0 then (-1, 1) else if (flowsE n.nodes (flowsQ q)).2 ≠ 0 then flowsE n.nodes (flowsQ q) else firstAt (reqAt n q) q.length
theorem firstAt_lo {f : Nat → Int} {n : Nat} (h : (firstAt f n).2 ≠ 0) : 0 ≤ (firstAt f n).1 := by
  unfold firstAt at h ⊢
  split
  · simp
  · rename_i hh; rw [hh] at h; exact absurd rfl h
structure ReqOk (n : Net) (x : Req) : Prop where
  flow : flowE n.nodes x.flow = 0
  len : 1 ≤ x.routes.length ∧ x.routes.length ≤ 2
  route : ∀ r ∈ x.routes, routeF n x.flow.src x.flow.dst r = 0
  two : twoSame x.routes = false
theorem reqE_ok {n : Net} {q : List Req} (h : (reqE n q).2 = 0) : NetOk n ∧ q.length ≤ 16 ∧ (∀ x ∈ q, ReqOk n x) ∧ (flowsE n.nodes (flowsQ q)).2 = 0 := by
  unfold reqE at h
  split at h
  · cases h
  rename_i h0
  split at h
  · rename_i h1; exact absurd h h1
  rename_i h1
  have h1 : (flowsE n.nodes (flowsQ q)).2 = 0 := by omega
  have hok := netE_ok (by omega : netE n = 0)
  have hfl := h1
  unfold flowsE at hfl
  rw [if_neg (by have := hok.nodes; omega)] at hfl
  split at hfl
  · cases hfl
  rename_i h16
  refine ⟨hok, by simp [flowsQ] at h16; omega, fun x hx => ?_, h1⟩
  obtain ⟨k, hk⟩ := List.getElem?_of_mem hx
  have hkl := (List.getElem?_eq_some_iff.1 hk).1
  have h2 := firstAt_ok.1 h k hkl
  have h3 := firstAt_ok.1 hfl k (by simpa [flowsQ] using hkl)
  have hkf : (flowsQ q)[k]? = some x.flow := by simp [flowsQ, hk]
  unfold flowAt at h3
  rw [hkf] at h3
  simp only at h3
  have hfx : flowE n.nodes x.flow = 0 := by
    split at h3
    · rename_i hh; exact absurd h3 hh
    · omega
  unfold reqAt at h2
  rw [hk] at h2
  simp only [routesE] at h2
  split at h2
  · cases h2
  split at h2
  · cases h2
  split at h2
  · rename_i hh; exact absurd h2 hh
  rename_i hr
  split at h2
  · cases h2
  rename_i ht
  refine ⟨hfx, by omega, fun r hr2 => ?_, by simpa using ht⟩
  obtain ⟨j, hj⟩ := List.getElem?_of_mem hr2
  have h4 := firstAt_ok.1 (by omega : (firstAt (routesAt n x) x.routes.length).2 = 0) j (List.getElem?_eq_some_iff.1 hj).1
  unfold routesAt at h4
  rw [hj] at h4
  simp only [routeE] at h4
  split at h4
  · rename_i hh; exact absurd h4 hh
  · exact h4
theorem good_find {n : Net} {a b : Int} (h : goodL n a b = true) : 0 ≤ findL n a b := by
  rcases Int.lt_or_le (findL n a b) 0 with hh | hh
  · unfold goodL at h
    simp at h
    omega
  · exact hh
def pushN {α : Type} [DecidableEq α] (acc : List α) (x : α) : List α := if acc.getLast? = some x then acc else acc ++ [x]
def compact {α : Type} [DecidableEq α] (l : List α) : List α := l.foldl pushN []
theorem compact_snoc {α : Type} [DecidableEq α] (l : List α) (x : α) : compact (l ++ [x]) = pushN (compact l) x := by simp [compact]
end HM
namespace HM
open Go Go.RowKit
def sumW {α : Type} (f : α → Int) : List α → Int
  | [] => 0
  | x :: l => f x + sumW f l
theorem sumW_app {α : Type} (f : α → Int) (a b : List α) : sumW f (a ++ b) = sumW f a + sumW f b := by
  induction a with
  | nil => simp [sumW]
  | cons x a ih => simp only [List.cons_append, sumW, ih]; omega
theorem sumW_take {α : Type} (f : α → Int) {l : List α} {k : Nat} {x : α} (h : l[k]? = some x) : sumW f (l.take (k + 1)) = sumW f (l.take k) + f x := by rw [take_succ h, sumW_app]; simp [sumW]
theorem sumW_bd {α : Type} {f : α → Int} {m : Int} (hm : 0 ≤ m) : ∀ {l : List α}, (∀ x ∈ l, 0 ≤ f x ∧ f x ≤ m) → 0 ≤ sumW f l ∧ sumW f l ≤ l.length * m
  | [], _ => by simp [sumW]
  | x :: l, h => by
    have h1 := h x (by simp)
    have h2 := sumW_bd hm fun y hy => h y (List.mem_cons_of_mem x hy)
    simp only [sumW, List.length_cons]
    have h3 : ((l.length + 1 : Nat) : Int) * m = l.length * m + m := by rw [Int.natCast_add, Int.add_mul]; simp
    omega
def mismB (len : Int) (x : Req) : Bool := len % x.flow.period != 0
def sizedQ (n : Net) (q : List Req) (len : Int) : Int :=
  if (reqE n q).2 ≠ 0 then 1 else if len < 1 ∨ 512 < len then 2 else if q.any (mismB len) then 11 else 0
structure SzOk (n : Net) (q : List Req) (len : Int) : Prop where
  req : (reqE n q).2 = 0
  l1 : 1 ≤ len
  l2 : len ≤ 512
  mis : ∀ x ∈ q, len % x.flow.period = 0
theorem SzOk.mk' {n : Net} {q : List Req} {len : Int} (h : SzOk n q len) : sizedQ n q len = 0 := by
  unfold sizedQ
  rw [if_neg (by have := h.req; omega), if_neg (by have := h.l1; have := h.l2; omega), if_neg]
  simp only [List.any_eq_true, not_exists, not_and]
  intro x hx
  simp [mismB, h.mis x hx]
section
variable {α : Type} [DecidableEq α]
theorem pushN_last (acc : List α) (x : α) : (pushN acc x).getLast? = some x := by
  unfold pushN
  split
  · rename_i h; exact h
  · simp
theorem compact_last {l : List α} {k : Nat} {x : α} (h : l[k]? = some x) : (compact (l.take (k + 1))).getLast? = some x := by
  rw [take_succ h, compact_snoc]; exact pushN_last _ _
theorem compact_eqv {l : List α} {k : Nat} {x y : α} (hx : l[k]? = some x) (hy : l[k + 1]? = some y) (e : y = x) : compact (l.take (k + 2)) = compact (l.take (k + 1)) := by
  rw [take_succ hy, compact_snoc]; unfold pushN; rw [if_pos (by rw [compact_last hx, e])]
theorem compact_new {l : List α} {k : Nat} {x y : α} (hx : l[k]? = some x) (hy : l[k + 1]? = some y) (e : y ≠ x) : compact (l.take (k + 2)) = compact (l.take (k + 1)) ++ [y] := by
  rw [take_succ hy, compact_snoc]; unfold pushN; rw [if_neg (by rw [compact_last hx]; simpa using fun h => e h.symm)]
structure Cpt (l a : List α) (i j : Nat) : Prop where
  len : a.length = l.length
  ij : i + 1 ≤ j
  jl : j ≤ l.length
  pre : a.take i = compact (l.take j)
  post : a.drop (j - 1) = l.drop (j - 1)
theorem Cpt.start {l : List α} {k : Nat} {x y : α} (hx : l[k]? = some x) (hy : l[k + 1]? = some y) (e : y = x) (hc : compact (l.take (k + 1)) = l.take (k + 1)) : Cpt l l (k + 1) (k + 2) :=
  ⟨rfl, by omega, by have := (List.getElem?_eq_some_iff.1 hy).1; omega, by rw [compact_eqv hx hy e, hc], rfl⟩
theorem Cpt.get {l a : List α} {i j m : Nat} (h : Cpt l a i j) (hm : j - 1 ≤ m) : a[m]? = l[m]? := by
  have := congrArg (fun t : List α => t[m - (j - 1)]?) h.post
  simp only [List.getElem?_drop] at this
  rwa [show j - 1 + (m - (j - 1)) = m by omega] at this
theorem Cpt.drop {l a : List α} {i j : Nat} (h : Cpt l a i j) {x y : α} (hx : l[j - 1]? = some x) (hy : l[j]? = some y) (e : y = x) : Cpt l a i (j + 1) := by
  obtain ⟨k, rfl⟩ : ∃ k, j = k + 1 := ⟨j - 1, by have := h.ij; omega⟩
  refine ⟨h.len, by have := h.ij; omega, by have := (List.getElem?_eq_some_iff.1 hy).1; omega, by rw [show k + 1 + 1 = k + 2 from rfl, compact_eqv (k := k) hx hy e]; exact h.pre, ?_⟩
  have := congrArg (List.drop 1) h.post
  simpa [List.drop_drop] using this
theorem Cpt.keep {l a : List α} {i j : Nat} (h : Cpt l a i j) {x y : α} (hx : l[j - 1]? = some x) (hy : l[j]? = some y) (e : y ≠ x) : Cpt l (a.set i y) (i + 1) (j + 1) := by
  obtain ⟨k, rfl⟩ : ∃ k, j = k + 1 := ⟨j - 1, by have := h.ij; omega⟩
  have h1 := h.ij
  have h2 := (List.getElem?_eq_some_iff.1 hy).1
  have h3 := h.len
  refine ⟨by simp [h.len], by omega, by omega, ?_, ?_⟩
  · rw [show k + 1 + 1 = k + 2 from rfl, compact_new (k := k) hx hy e, ← h.pre, List.take_add_one, List.getElem?_set_self (by omega), List.take_set_of_le (by omega)]; rfl
  · have := congrArg (List.drop 1) h.post
    rw [List.drop_drop, List.drop_drop] at this
    show (a.set i y).drop (k + 1) = _
    rw [List.drop_set_of_lt (by omega)]
    simpa using this
theorem Cpt.fin {l a : List α} {i : Nat} (h : Cpt l a i l.length) : a.take i = compact l := by rw [h.pre, List.take_length]
end
end HM
namespace HM
open Go Go.RowKit
structure Rsn where
  kind : Int
  node : Int
  idx : Int
  route : Int
  links : List Link
  need : Int
  have_ : Int
  deriving DecidableEq
def Rsn.cs (r : Rsn) : List AV := [.int .i64 r.kind, .int .i64 r.node, .int .i64 r.idx, .int .i64 r.route, encLinks r.links, .int .i64 r.need, .int .i64 r.have_]
def Rsn.av (r : Rsn) : AV := .agg [.int .i64 r.kind, .int .i64 r.node, .int .i64 r.idx, .int .i64 r.route, encLinks r.links, .int .i64 r.need, .int .i64 r.have_]
end HM
namespace HM
open Go Go.RowKit
end HM
namespace HM
open Go Go.RowKit
def mpv (p : PS) (id : Nat) : AV := if p.frame < 0 then .nilm else .mp id
def mapsOf (p : PS) : Nat → Ob
  | 0 => p.since.ob none
  | 1 => p.tries.ob (some 2)
  | _ => p.acked.ob (some 2)
def stAV (g : Nat → Nat) (p : PS) : AV := .agg [.int .i64 p.frame, mpv p (g 0), mpv p (g 1), mpv p (g 2), .bool p.done]
def statesE (g : Nat → Nat → Nat) (q : List PS) : List AV := q.mapIdx fun i p => stAV (g i) p
def plC (l : List Flow) (s : Sched) (x : List Rule) (sv av dv : AV) : List AV := [encFlows l, .int .i64 s.len, .int .i64 s.offs, encCells s.cells, encScript x, sv, av, dv]
structure PTys where
  p : TypeId
  q : TypeId
  d : TypeId
  a : TypeId
  hpq : p ≠ q
  hpd : p ≠ d
  hqd : q ≠ d
  ks : List (Nat × List AV × TypeId)
  hk : ∀ e ∈ ks, e.2.2 ≠ p ∧ e.2.2 ≠ q ∧ e.2.2 ≠ d
def StV (T : PTys) (S : St) (sv : AV) (g : Nat → Nat → Nat) (sts : List PS) : Prop := (sts = [] ∧ sv = .grown .nils 0) ∨ ∃ qb ex, sv = .vsl qb 0 sts.length 5 ∧ S.bx[qb]? = some (.cells (flatE (statesE g sts) ++ ex) T.q)
def DelV (T : PTys) (S : St) (dv : AV) (ds : List Del) : Prop := (ds = [] ∧ dv = .grown .nils 0) ∨ ∃ db ex, dv = .vsl db 0 ds.length 3 ∧ S.bx[db]? = some (.cells (flatE (ds.map Del.av) ++ ex) T.d)
structure PInv (T : PTys) (S : St) (pb ch : Nat) (l : List Flow) (s : Sched) (x : List Rule) (Q : PL) (g : Nat → Nat → Nat) (sv dv : AV) : Prop where
  p : S.bx[pb]? = some (.cells (plC l s x sv (.own (Q.atts.map Att.av) ch) dv) T.p)
  q : StV T S sv g Q.sts
  m : ∀ (i : Nat) (p : PS), Q.sts[i]? = some p → 0 ≤ p.frame → ∀ j, j < 3 → S.bx[g i j]? = some (mapsOf p j)
  inj : ∀ (i : Nat) (p : PS) (i' : Nat) (p' : PS), Q.sts[i]? = some p → Q.sts[i']? = some p' → 0 ≤ p.frame → 0 ≤ p'.frame → ∀ j j', j < 3 → j' < 3 → g i j = g i' j' → i = i' ∧ j = j'
  a : S.fr[ch]? = some (Q.atts.length, 8)
  ty : S.ty ch = T.a
  k : ∀ e ∈ T.ks, S.bx[e.1]? = some (.cells e.2.1 e.2.2)
  d : DelV T S dv Q.dels
def PIn (T : PTys) (S : St) (pb ch : Nat) (l : List Flow) (s : Sched) (x : List Rule) (Q : PL) : Prop := ∃ g sv dv, PInv T S pb ch l s x Q g sv dv
theorem ne_cm {S : St} {a b : Nat} {cs : List AV} {t : TypeId} {sh : Option Nat} {ks : List (List Int)} {vs : List AV} (h : S.bx[a]? = some (.cells cs t)) (h' : S.bx[b]? = some (.map sh ks vs)) : a ≠ b := by
  rintro rfl
  rw [h] at h'
  injection h' with h'
  cases h'
theorem ne_cc {S : St} {a b : Nat} {cs cs' : List AV} {t t' : TypeId} (h : S.bx[a]? = some (.cells cs t)) (h' : S.bx[b]? = some (.cells cs' t')) (ht : t ≠ t') : a ≠ b := by
  rintro rfl
  rw [h] at h'
  injection h' with h'
  injection h' with _ h'
  exact ht h'
theorem mapsOf_map (p : PS) (j : Nat) : ∃ sh ks vs, mapsOf p j = .map sh ks vs := by
  unfold mapsOf
  split <;> exact ⟨_, _, _, rfl⟩
theorem ne_cM {S : St} {a b : Nat} {cs : List AV} {t : TypeId} {p : PS} {j : Nat} (h : S.bx[a]? = some (.cells cs t)) (h' : S.bx[b]? = some (mapsOf p j)) : a ≠ b := by
  obtain ⟨sh, ks, vs, e⟩ := mapsOf_map p j
  rw [e] at h'
  exact ne_cm h h'
section
variable {T : PTys} {S S' : St} {pb ch : Nat} {l : List Flow} {s : Sched} {x : List Rule} {Q : PL} {g : Nat → Nat → Nat} {sv dv : AV}
theorem PInv.more (h : PInv T S pb ch l s x Q g sv dv) (hx : ∀ (id : Nat) (o : Ob), S.bx[id]? = some o → S'.bx[id]? = some o) (hf : S'.fr[ch]? = S.fr[ch]?) (ht : S'.ty ch = S.ty ch) : PInv T S' pb ch l s x Q g sv dv := by
  refine ⟨hx _ _ h.p, ?_, fun i p hp h0 j hj => hx _ _ (h.m i p hp h0 j hj), h.inj, hf.trans h.a, ht.trans h.ty, fun e he => hx _ _ (h.k e he), ?_⟩
  · rcases h.q with hq | ⟨qb, ex, h1, h2⟩
    · exact .inl hq
    · exact .inr ⟨qb, ex, h1, hx _ _ h2⟩
  · rcases h.d with hq | ⟨qb, ex, h1, h2⟩
    · exact .inl hq
    · exact .inr ⟨qb, ex, h1, hx _ _ h2⟩
end
end HM
namespace HM
open Go Go.RowKit
section
variable {T : PTys} {S : St} {pb ch : Nat} {l : List Flow} {s : Sched} {x : List Rule} {Q : PL} {g : Nat → Nat → Nat} {sv dv : AV}
end
def InvY (T : PTys) (S S' : St) : Prop := ∀ (id : Nat) (cs : List AV) (t : TypeId), t ≠ T.p → t ≠ T.d → S.bx[id]? = some (.cells cs t) → S'.bx[id]? = some (.cells cs t)
theorem InvY.refl (T : PTys) (S : St) : InvY T S S := fun _ _ _ _ _ h => h
theorem InvY.addB {T : PTys} {S S' : St} {o : Ob} (h : InvY T S S') : InvY T S (S'.addB o) := fun id' cs' t h1 h2 hc => St.addB_old (h id' cs' t h1 h2 hc)
theorem InvY.addF {T : PTys} {S S' : St} {y : Nat × Nat} {e : TypeId} (h : InvY T S S') : InvY T S (S'.addF y e) := h
end HM
namespace HM
open Go Go.RowKit
def gset (g : Nat → Nat → Nat) (i a b c : Nat) : Nat → Nat → Nat := fun i' j => if i' = i then (match j with | 0 => a | 1 => b | _ => c) else g i' j
section
variable {T : PTys} {S S' : St} {pb ch : Nat} {l : List Flow} {s : Sched} {x : List Rule} {Q : PL} {g : Nat → Nat → Nat} {sv dv : AV}
theorem PInv.fresh (h : PInv T S pb ch l s x Q g sv dv) (hx : ∀ (id : Nat) (o : Ob), S.bx[id]? = some o → S'.bx[id]? = some o) (hf : S'.fr = S.fr) (ht : S'.ty = S.ty) {qb : Nat} {ex : List AV} (hsv : sv = .vsl qb 0 Q.sts.length 5) (hq : S.bx[qb]? = some (.cells (flatE (statesE g Q.sts) ++ ex) T.q))
    {i : Nat} {p p' : PS} (hp : Q.sts[i]? = some p) (h0 : ¬ p'.frame < 0) {a b c : Nat} (ha : S'.bx[a]? = some (mapsOf p' 0)) (hb : S'.bx[b]? = some (mapsOf p' 1)) (hc : S'.bx[c]? = some (mapsOf p' 2)) (ga : S.bx.length ≤ a) (gb : S.bx.length ≤ b) (gc : S.bx.length ≤ c) (hab : a ≠ b) (hac : a ≠ c) (hbc : b ≠ c) :
    PInv T (S'.setB qb (.cells (flatE (statesE (gset g i a b c) (Q.sts.set i p')) ++ ex) T.q)) pb ch l s x ⟨Q.sts.set i p', Q.atts, Q.dels⟩ (gset g i a b c) sv dv := by
  have hil := (List.getElem?_eq_some_iff.1 hp).1
  have hself : ∀ k (q : PS), (Q.sts.set i p')[k]? = some q → i = k → q = p' := by
    intro k q hq e
    subst e
    rw [List.getElem?_set_self hil] at hq
    injection hq with hq; exact hq.symm
  have hoth : ∀ k (q : PS), (Q.sts.set i p')[k]? = some q → i ≠ k → Q.sts[k]? = some q := by
    intro k q hq e
    rwa [List.getElem?_set_ne e] at hq
  have hlt : ∀ k q, Q.sts[k]? = some q → 0 ≤ q.frame → ∀ j, j < 3 → g k j < S.bx.length := fun k q hq hq0 j hj => (List.getElem?_eq_some_iff.1 (h.m k q hq hq0 j hj)).1
  have hg : ∀ k j, i ≠ k → gset g i a b c k j = g k j := fun k j e => by unfold gset; rw [if_neg (fun hh => e hh.symm)]
  have hgi : ∀ j, gset g i a b c i j = (match j with | 0 => a | 1 => b | _ => c) := fun j => by unfold gset; rw [if_pos rfl]
  have hge : ∀ j, S.bx.length ≤ gset g i a b c i j := fun j => by
    rw [hgi]
    split <;> assumption
  have hq' := hx _ _ hq
  refine ⟨by rw [St.setB_ne (ne_cc h.p hq T.hpq).symm]; exact hx _ _ h.p, .inr ⟨qb, ex, by simpa using hsv, St.setB_get hq'⟩, fun k q hq1 hq0 j hj => ?_, fun k q k' q' hq1 hq1' hq0 hq0' j1 j2 hj1 hj2 he => ?_, by rw [St.setB_fr, hf]; exact h.a, by show S'.ty ch = _; rw [ht]; exact h.ty, fun e he => by rw [St.setB_ne (ne_cc hq (h.k e he) (T.hk e he).2.1.symm)]; exact hx _ _ (h.k e he), ?_⟩
  · have hm : S'.bx[gset g i a b c k j]? = some (mapsOf q j) := by
      by_cases e : i = k
      · subst e
        obtain rfl := hself i q hq1 rfl
        rw [hgi]
        rcases j with _ | _ | _ | j
        · exact ha
        · exact hb
        · exact hc
        · omega
      · rw [hg k j e]
        exact hx _ _ (h.m k q (hoth k q hq1 e) hq0 j hj)
    rw [St.setB_ne (ne_cM hq' hm)]
    exact hm
  · by_cases e : i = k
    · by_cases e' : i = k'
      · subst e; subst e'
        refine ⟨rfl, ?_⟩
        rw [hgi, hgi] at he
        rcases j1 with _ | _ | _ | j1 <;> rcases j2 with _ | _ | _ | j2 <;> first | rfl | omega | exact absurd he hab | exact absurd he hac | exact absurd he hbc | exact absurd he.symm hab | exact absurd he.symm hac | exact absurd he.symm hbc
      · subst e
        have h1 := hge j1
        have h2 := hlt k' q' (hoth k' q' hq1' e') hq0' j2 hj2
        rw [hg k' j2 e'] at he
        omega
    · by_cases e' : i = k'
      · subst e'
        have h1 := hge j2
        have h2 := hlt k q (hoth k q hq1 e) hq0 j1 hj1
        rw [hg k j1 e] at he
        omega
      · rw [hg k j1 e, hg k' j2 e'] at he
        exact h.inj _ _ _ _ (hoth k q hq1 e) (hoth k' q' hq1' e') hq0 hq0' j1 j2 hj1 hj2 he
  · rcases h.d with hd | ⟨db, ex2, h1, h2⟩
    · exact .inl hd
    · exact .inr ⟨db, ex2, h1, by rw [St.setB_ne (ne_cc hq h2 T.hqd)]; exact hx _ _ h2⟩
end
def InvZ (T : PTys) (S S' : St) : Prop := ∀ (id : Nat) (cs : List AV) (t : TypeId), t ≠ T.q → S.bx[id]? = some (.cells cs t) → S'.bx[id]? = some (.cells cs t)
theorem InvZ.refl (T : PTys) (S : St) : InvZ T S S := fun _ _ _ _ h => h
theorem InvZ.addB {T : PTys} {S S' : St} {o : Ob} (h : InvZ T S S') : InvZ T S (S'.addB o) := fun id' cs' t h1 hc => St.addB_old (h id' cs' t h1 hc)
end HM
namespace HM
open Go Go.RowKit
theorem PInv.frames {T : PTys} {S S' : St} {pb ch : Nat} {l : List Flow} {s : Sched} {x : List Rule} {Q : PL} (h : PIn T S pb ch l s x Q) (hx : S'.bx = S.bx) (hf : S'.fr = S.fr) (ht : S'.ty = S.ty) : PIn T S' pb ch l s x Q := by
  obtain ⟨g, sv, dv, h⟩ := h
  exact ⟨g, sv, dv, h.more (fun _ _ ho => by rw [hx]; exact ho) (by rw [hf]) (by rw [ht])⟩
end HM
namespace HM
open Go Go.RowKit
end HM
namespace HM
end HM
namespace HM
open Go Go.RowKit
theorem cell_cmp0 {x c : Cell} (h : x.cmp c = 0) : x = c := by
  have h1 := cmpL_eq.1 h
  obtain ⟨a1, a2, a3, a4, a5⟩ := x
  obtain ⟨b1, b2, b3, b4, b5⟩ := c
  simpa [Cell.nums] using h1
theorem has_mem {c : Cell} : ∀ {l : List Cell}, l.Pairwise (fun a b => a.cmp b < 0) → hasB (cellTo c) l = decide (c ∈ l)
  | [], _ => by simp [hasB]
  | x :: l, h => by
    have hc0 : c.cmp c = 0 := cmpL_eq.2 rfl
    obtain ⟨h1, h2⟩ := List.pairwise_cons.1 h
    by_cases hx : x.cmp c < 0
    · have hp : posB (cellTo c) (x :: l) = posB (cellTo c) l + 1 := by
        unfold posB
        rw [List.takeWhile_cons, if_pos (show decide (cellTo c x < 0) = true from decide_eq_true hx)]; rfl
      have hh : hasB (cellTo c) (x :: l) = hasB (cellTo c) l := by
        unfold hasB
        rw [hp, List.getElem?_cons_succ]
      have hne : c ≠ x := by rintro rfl; omega
      rw [hh, has_mem h2]
      simp [hne]
    · have hp : posB (cellTo c) (x :: l) = 0 := by
        unfold posB
        rw [List.takeWhile_cons, if_neg (show ¬ decide (cellTo c x < 0) = true from fun h => hx (of_decide_eq_true h))]; rfl
      have hh : hasB (cellTo c) (x :: l) = (x.cmp c == 0) := by
        unfold hasB
        rw [hp]; rfl
      rw [hh, Bool.eq_iff_iff]
      simp only [beq_iff_eq, decide_eq_true_eq, List.mem_cons]
      constructor
      · intro h; exact .inl (cell_cmp0 h).symm
      · rintro (rfl | hm)
        · exact hc0
        · exact absurd (h1 c hm) hx
end HM
namespace HM
open Go Go.RowKit
structure AppI (s : Sched) (cs : List Chg) (t : Int) (k : Nat) (u o : Sched) : Prop where
  le : k ≤ cs.length
  eq : appM none s s cs t = appM (prevS cs k) u o (cs.drop k) t
theorem AppI.zero (s : Sched) (cs : List Chg) (t : Int) : AppI s cs t 0 s s := ⟨Nat.zero_le _, rfl⟩
theorem AppI.step {s u o : Sched} {cs : List Chg} {t : Int} {k : Nat} (h : AppI s cs t k u o) {c : Chg} (hc : cs[k]? = some c) (he : chgE (prevS cs k) c = 0) (h2 : (chgM u c).2 = 0) : AppI s cs t (k + 1) (chgM u c).1 (if c.slot ≤ t then (chgM u c).1 else o) := by
  refine ⟨(List.getElem?_eq_some_iff.1 hc).1, ?_⟩
  have hp : prevS cs (k + 1) = some c.slot := by simp [prevS, hc]
  rw [h.eq, dropGet hc, appM, if_neg (by simp [he]), if_neg (fun hh => hh h2), hp]
theorem AppI.fin {s u o : Sched} {cs : List Chg} {t : Int} (h : AppI s cs t cs.length u o) : appM none s s cs t = (o, 0) := by
  rw [h.eq, List.drop_length]; rfl
end HM
namespace HM
open Go Go.RowKit
theorem SzOk.two {n : Net} {q : List Req} {len : Int} (h : SzOk n q len) (h2 : len ≤ 256) : SzOk n q (2 * len) :=
  ⟨h.req, by have := h.l1; omega, by omega, fun x hx => by
    obtain ⟨k, hk⟩ := Int.dvd_of_emod_eq_zero (h.mis x hx)
    rw [hk, show 2 * (x.flow.period * k) = x.flow.period * (2 * k) by ac_rfl]
    exact Int.mul_emod_right _ _⟩
end HM
namespace HM
open Go Go.RowKit
end HM
namespace HM
open Go Go.RowKit
def marginAt (n : Net) (a b : Int) : Int := n.margin.getD (findL n a b).toNat 0
def powN (n : Net) (a b : Int) : Int := if insB a n.nodes then powAt n a b else 0
def distAt (n : Net) (cs : List Cell) (i : Nat) (node : Int) (k : Nat) : Int := match cs[k]? with
  | some c => if k = i then 0 else powN n c.src node + powN n c.dst node
  | none => 0
def distU (n : Net) (cs : List Cell) (i : Nat) (node : Int) (k : Nat) : Int := sumW (distAt n cs i node) (List.range k)
def distM (n : Net) (cs : List Cell) (i : Nat) (node : Int) : Int := distU n cs i node cs.length
def touchB (a b : Cell) : Bool := a.src == b.src || a.src == b.dst || a.dst == b.src || a.dst == b.dst
def touchAt (cs : List Cell) (c : Cell) (i k : Nat) : Bool := match cs[k]? with
  | some d => k != i && touchB c d
  | none => false
def faultyM (n : Net) (cs : List Cell) (i : Nat) : Bool := match cs[i]? with
  | none => false
  | some c => if goodL n c.src c.dst = false then true else if (List.range cs.length).any (touchAt cs c i) then true
    else if heardB n (marginAt n c.src c.dst) (distM n cs i c.dst) = false then true else !heardB n (marginAt n c.dst c.src) (distM n cs i c.src)
def goodM (n : Net) (cs : List Cell) : Bool := decide (netE n = 0) && !(List.range cs.length).any (faultyM n cs)
theorem distU_succ (n : Net) (cs : List Cell) (i : Nat) (node : Int) (k : Nat) : distU n cs i node (k + 1) = distU n cs i node k + distAt n cs i node k := by
  unfold distU
  rw [List.range_succ, sumW_app]
  simp [sumW]
theorem powN_bd {n : Net} (h : NetOk n) (a b : Int) : 0 ≤ powN n a b ∧ powN n a b ≤ 68719476736 := by
  unfold powN
  have := powAt_bd h.pow a b
  split <;> omega
theorem distAt_bd {n : Net} (h : NetOk n) (cs : List Cell) (i : Nat) (node : Int) (k : Nat) : 0 ≤ distAt n cs i node k ∧ distAt n cs i node k ≤ 137438953472 := by
  unfold distAt
  split
  · rename_i c _
    have h1 := powN_bd h c.src node
    have h2 := powN_bd h c.dst node
    split <;> omega
  · omega
theorem distU_bd {n : Net} (h : NetOk n) (cs : List Cell) (i : Nat) (node : Int) (k : Nat) : 0 ≤ distU n cs i node k ∧ distU n cs i node k ≤ k * 137438953472 := by
  have := sumW_bd (f := distAt n cs i node) (m := 137438953472) (by omega) (l := List.range k) fun j _ => distAt_bd h cs i node j
  rw [List.length_range] at this
  exact this
theorem pow_at {n : Net} (h : NetOk n) {a b : Int} (ha : insB a n.nodes = true) (hb : insB b n.nodes = true) : ∃ (i j : Nat) (r : List Int) (x : Int), a = i ∧ b = j ∧ n.power[i]? = some r ∧ r[j]? = some x ∧ powAt n a b = x := by
  simp only [insB, Bool.and_eq_true, decide_eq_true_eq] at ha hb
  obtain ⟨i, rfl⟩ : ∃ i : Nat, a = i := ⟨a.toNat, by omega⟩
  obtain ⟨j, rfl⟩ : ∃ j : Nat, b = j := ⟨b.toNat, by omega⟩
  have h1 := h.rows
  obtain ⟨r, hr⟩ : ∃ r, n.power[i]? = some r := ⟨_, List.getElem?_eq_getElem (by omega)⟩
  have h2 := h.row r (List.mem_of_getElem? hr)
  obtain ⟨x, hx⟩ : ∃ x, r[j]? = some x := ⟨_, List.getElem?_eq_getElem (by omega)⟩
  refine ⟨i, j, r, x, rfl, rfl, hr, hx, ?_⟩
  unfold powAt
  rw [Int.toNat_natCast, Int.toNat_natCast, List.getD_eq_getElem?_getD, List.getD_eq_getElem?_getD, hr, Option.getD_some, hx]; rfl
theorem good_at {n : Net} (h : NetOk n) {a b : Int} (hg : goodL n a b = true) : ∃ (p : Nat) (m : Int), findL n a b = p ∧ n.margin[p]? = some m ∧ marginAt n a b = m ∧ 0 ≤ m ∧ m ≤ 68719476736 ∧ insB a n.nodes = true ∧ insB b n.nodes = true ∧ goodL n b a = true := by
  have h0 := good_find hg
  obtain ⟨p, l, e1, e2, e3, e4⟩ := findL_at h0
  have hp := (List.getElem?_eq_some_iff.1 e2).1
  obtain ⟨m, hm⟩ : ∃ m, n.margin[p]? = some m := ⟨_, List.getElem?_eq_getElem (by rw [h.mar]; exact hp)⟩
  have hk := h.link p l e2
  have hb := linkR_bd hk.1
  have hpw := powAt_bd h.pow l.src l.dst
  rw [List.getD_eq_getElem?_getD, hm, Option.getD_some] at hk
  refine ⟨p, m, e1, hm, ?_, by omega, by omega, by rw [← e3]; simp [insB]; omega, by rw [← e4]; simp [insB]; omega, ?_⟩
  · unfold marginAt; rw [e1, Int.toNat_natCast, List.getD_eq_getElem?_getD, hm]; rfl
  · unfold goodL at hg ⊢
    simp only [Bool.and_eq_true] at hg ⊢
    exact ⟨⟨⟨hg.1.1.2, hg.1.1.1⟩, hg.2⟩, hg.1.2⟩
end HM
namespace HM
open Go Go.RowKit
end HM
namespace HM
def lexB : List Nat → List Nat → Bool
  | [], [] => false
  | [], _ :: _ => true
  | _ :: _, [] => false
  | a :: s, b :: t => if a = b then lexB s t else decide (a < b)
structure BestG (w : List Nat → Int) (E : List (List Nat)) (b : List Nat) : Prop where
  mem : b ∈ E
  best : ∀ a ∈ E, w a < w b ∨ (w a = w b ∧ (a = b ∨ lexB b a = true))
section
variable (tg : Nat → Nat → Bool)
end
end HM
namespace HM
open Go Go.RowKit
end HM
namespace HM
open Go Go.RowKit
structure LessOk (n : Net) (q : List Req) (len : Int) : Prop where
  net : NetOk n
  l1 : 1 ≤ len
  per : ∀ x ∈ q, 1 ≤ x.flow.period
end HM
namespace HM
open Go Go.RowKit
theorem filter_succ {α : Type} (p : α → Bool) {l : List α} {k : Nat} {x : α} (h : l[k]? = some x) : (l.take (k + 1)).filter p = if p x then (l.take k).filter p ++ [x] else (l.take k).filter p := by
  rw [take_succ h, List.filter_append]
  split
  · rename_i hp; rw [List.filter_cons_of_pos hp]; rfl
  · rename_i hp; rw [List.filter_cons_of_neg hp, List.filter_nil, List.append_nil]
end HM
