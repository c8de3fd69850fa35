/- Runs and changes in plain words. -/
import Derived.Test.YtgfboaadhlhjhaaGreatDoorDa
namespace HM
open Go Go.RowKit
end HM
namespace HM
open Go Go.RowKit
end HM
namespace HM
open Go Go.RowKit
end HM
namespace HM
open Go Go.RowKit
end HM
namespace HM
open Go Go.RowKit
end HM
namespace HM
open Go Go.RowKit
end HM
namespace HM
open Go Go.RowKit
end HM
namespace HM
open Go Go.RowKit
end HM
namespace HM
end HM
namespace HM
open Go Go.RowKit
end HM
namespace HM
open Go Go.RowKit
end HM
namespace HM
open Go Go.RowKit
structure Req where
  flow : Flow
  routes : List (List Int)
def Req.cs (x : Req) : List AV := [.int .i64 x.flow.id, .int .i64 x.flow.src, .int .i64 x.flow.dst, .int .i64 x.flow.period, .int .i64 x.flow.phase, .int .i64 x.flow.dead, encRows x.routes]
def Req.av (x : Req) : AV := .agg [.int .i64 x.flow.id, .int .i64 x.flow.src, .int .i64 x.flow.dst, .int .i64 x.flow.period, .int .i64 x.flow.phase, .int .i64 x.flow.dead, encRows x.routes]
def encReqs (l : List Req) : AV := .sl false (l.map Req.av)
def flowsQ (q : List Req) : List Flow := q.map Req.flow
def routesAt (n : Net) (x : Req) (k : Nat) : Int := match x.routes[k]? with
  | some r => routeE n x.flow.src x.flow.dst r
  | none => 0
def twoSame : List (List Int) → Bool
  | [a, b] => decide (a = b)
  | _ => false
def routesE (n : Net) (x : Req) : Int :=
  if x.routes.length = 0 then 14 else if 2 < x.routes.length then 8
  else if (firstAt (routesAt n x) x.routes.length).2 ≠ 0 then (firstAt (routesAt n x) x.routes.length).2
  else if twoSame x.routes = true then 6 else 0
def reqAt (n : Net) (q : List Req) (k : Nat) : Int := match q[k]? with
  | some x => routesE n x
  | none => 0
def reqE (n : Net) (q : List Req) : Int × Int :=
  if netE n ≠ 0 then (-1, 1) else if (flowsE n.nodes (flowsQ q)).2 ≠ 0 then flowsE n.nodes (flowsQ q) else firstAt (reqAt n q) q.length
theorem firstAt_lo {f : Nat → Int} {n : Nat} (h : (firstAt f n).2 ≠ 0) : 0 ≤ (firstAt f n).1 := by
  unfold firstAt at h ⊢
  split
  · simp
  · rename_i hh; rw [hh] at h; exact absurd rfl h
structure ReqOk (n : Net) (x : Req) : Prop where
  flow : flowE n.nodes x.flow = 0
  len : 1 ≤ x.routes.length ∧ x.routes.length ≤ 2
  route : ∀ r ∈ x.routes, routeF n x.flow.src x.flow.dst r = 0
  two : twoSame x.routes = false
theorem reqE_ok {n : Net} {q : List Req} (h : (reqE n q).2 = 0) : NetOk n ∧ q.length ≤ 16 ∧ (∀ x ∈ q, ReqOk n x) ∧ (flowsE n.nodes (flowsQ q)).2 = 0 := by
  unfold reqE at h
  split at h
  · cases h
  rename_i h0
  split at h
  · rename_i h1; exact absurd h h1
  rename_i h1
  have h1 : (flowsE n.nodes (flowsQ q)).2 = 0 := by omega
  have hok := netE_ok (by omega : netE n = 0)
  have hfl := h1
  unfold flowsE at hfl
  rw [if_neg (by have := hok.nodes; omega)] at hfl
  split at hfl
  · cases hfl
  rename_i h16
  refine ⟨hok, by simp [flowsQ] at h16; omega, fun x hx => ?_, h1⟩
  obtain ⟨k, hk⟩ := List.getElem?_of_mem hx
  have hkl := (List.getElem?_eq_some_iff.1 hk).1
  have h2 := firstAt_ok.1 h k hkl
  have h3 := firstAt_ok.1 hfl k (by simpa [flowsQ] using hkl)
  have hkf : (flowsQ q)[k]? = some x.flow := by simp [flowsQ, hk]
  unfold flowAt at h3
  rw [hkf] at h3
  simp only at h3
  have hfx : flowE n.nodes x.flow = 0 := by
    split at h3
    · rename_i hh; exact absurd h3 hh
    · omega
  unfold reqAt at h2
  rw [hk] at h2
  simp only [routesE] at h2
  split at h2
  · cases h2
  split at h2
  · cases h2
  split at h2
  · rename_i hh; exact absurd h2 hh
  rename_i hr
  split at h2
  · cases h2
  rename_i ht
  refine ⟨hfx, by omega, fun r hr2 => ?_, by simpa using ht⟩
  obtain ⟨j, hj⟩ := List.getElem?_of_mem hr2
  have h4 := firstAt_ok.1 (by omega : (firstAt (routesAt n x) x.routes.length).2 = 0) j (List.getElem?_eq_some_iff.1 hj).1
  unfold routesAt at h4
  rw [hj] at h4
  simp only [routeE] at h4
  split at h4
  · rename_i hh; exact absurd h4 hh
  · exact h4
theorem good_find {n : Net} {a b : Int} (h : goodL n a b = true) : 0 ≤ findL n a b := by
  rcases Int.lt_or_le (findL n a b) 0 with hh | hh
  · unfold goodL at h
    simp at h
    omega
  · exact hh
end HM
namespace HM
open Go Go.RowKit
def sumW {α : Type} (f : α → Int) : List α → Int
  | [] => 0
  | x :: l => f x + sumW f l
theorem sumW_app {α : Type} (f : α → Int) (a b : List α) : sumW f (a ++ b) = sumW f a + sumW f b := by
  induction a with
  | nil => simp [sumW]
  | cons x a ih => simp only [List.cons_append, sumW, ih]; omega
theorem sumW_take {α : Type} (f : α → Int) {l : List α} {k : Nat} {x : α} (h : l[k]? = some x) : sumW f (l.take (k + 1)) = sumW f (l.take k) + f x := by rw [take_succ h, sumW_app]; simp [sumW]
theorem sumW_bd {α : Type} {f : α → Int} {m : Int} (hm : 0 ≤ m) : ∀ {l : List α}, (∀ x ∈ l, 0 ≤ f x ∧ f x ≤ m) → 0 ≤ sumW f l ∧ sumW f l ≤ l.length * m
  | [], _ => by simp [sumW]
  | x :: l, h => by
    have h1 := h x (by simp)
    have h2 := sumW_bd hm fun y hy => h y (List.mem_cons_of_mem x hy)
    simp only [sumW, List.length_cons]
    have h3 : ((l.length + 1 : Nat) : Int) * m = l.length * m + m := by rw [Int.natCast_add, Int.add_mul]; simp
    omega
section
variable {α : Type} [DecidableEq α]
end
end HM
namespace HM
open Go Go.RowKit
end HM
namespace HM
open Go Go.RowKit
def tReq : Ty := .st [tFlow, tRows]
theorem sh_req {l : List AV} (h : tReq.sh l) : ∃ x : Req, l = x.cs ∧ x.routes.length ≤ 140737488355328 ∧ ∀ r ∈ x.routes, r.length ≤ 140737488355328 := by
  obtain ⟨_, _, rfl, _, h1, _, _, rfl, _, h2, h6⟩ := h
  obtain ⟨f, rfl⟩ := sh_flow h1
  obtain ⟨rs, rfl, r1, r2⟩ := sh_rows h2
  obtain rfl := h6
  exact ⟨⟨f, rs⟩, rfl, r1, r2⟩
theorem sh_reqs {l : List AV} (h : (Ty.sl tReq).sh l) : ∃ q : List Req, l = [encReqs q] ∧ q.length ≤ 140737488355328 ∧ ∀ x ∈ q, x.routes.length ≤ 281474976710656 ∧ ∀ r ∈ x.routes, r.length ≤ 281474976710656 := by
  obtain ⟨els, rfl, h1, h2⟩ := h
  obtain ⟨cs, h3, h4, h5⟩ := list_ofP (f := Req.av) (Q := fun x : Req => x.routes.length ≤ 281474976710656 ∧ ∀ r ∈ x.routes, r.length ≤ 281474976710656) (fun l hl => by
    obtain ⟨c, rfl, c1, c2⟩ := sh_req hl
    exact ⟨c, rfl, by omega, fun r hr => by have := c2 r hr; omega⟩) els h1
  exact ⟨cs, by rw [h3]; rfl, by omega, h5⟩
end HM
namespace HM
open Go Go.RowKit
end HM
namespace HM
open Go Go.RowKit
end HM
namespace HM
open Go Go.RowKit
def marginAt (n : Net) (a b : Int) : Int := n.margin.getD (findL n a b).toNat 0
def powN (n : Net) (a b : Int) : Int := if insB a n.nodes then powAt n a b else 0
def distAt (n : Net) (cs : List Cell) (i : Nat) (node : Int) (k : Nat) : Int := match cs[k]? with
  | some c => if k = i then 0 else powN n c.src node + powN n c.dst node
  | none => 0
def distU (n : Net) (cs : List Cell) (i : Nat) (node : Int) (k : Nat) : Int := sumW (distAt n cs i node) (List.range k)
def distM (n : Net) (cs : List Cell) (i : Nat) (node : Int) : Int := distU n cs i node cs.length
def touchB (a b : Cell) : Bool := a.src == b.src || a.src == b.dst || a.dst == b.src || a.dst == b.dst
def touchAt (cs : List Cell) (c : Cell) (i k : Nat) : Bool := match cs[k]? with
  | some d => k != i && touchB c d
  | none => false
def faultyM (n : Net) (cs : List Cell) (i : Nat) : Bool := match cs[i]? with
  | none => false
  | some c => if goodL n c.src c.dst = false then true else if (List.range cs.length).any (touchAt cs c i) then true
    else if heardB n (marginAt n c.src c.dst) (distM n cs i c.dst) = false then true else !heardB n (marginAt n c.dst c.src) (distM n cs i c.src)
def goodM (n : Net) (cs : List Cell) : Bool := decide (netE n = 0) && !(List.range cs.length).any (faultyM n cs)
theorem distU_succ (n : Net) (cs : List Cell) (i : Nat) (node : Int) (k : Nat) : distU n cs i node (k + 1) = distU n cs i node k + distAt n cs i node k := by
  unfold distU
  rw [List.range_succ, sumW_app]
  simp [sumW]
theorem powN_bd {n : Net} (h : NetOk n) (a b : Int) : 0 ≤ powN n a b ∧ powN n a b ≤ 68719476736 := by
  unfold powN
  have := powAt_bd h.pow a b
  split <;> omega
theorem distAt_bd {n : Net} (h : NetOk n) (cs : List Cell) (i : Nat) (node : Int) (k : Nat) : 0 ≤ distAt n cs i node k ∧ distAt n cs i node k ≤ 137438953472 := by
  unfold distAt
  split
  · rename_i c _
    have h1 := powN_bd h c.src node
    have h2 := powN_bd h c.dst node
    split <;> omega
  · omega
theorem distU_bd {n : Net} (h : NetOk n) (cs : List Cell) (i : Nat) (node : Int) (k : Nat) : 0 ≤ distU n cs i node k ∧ distU n cs i node k ≤ k * 137438953472 := by
  have := sumW_bd (f := distAt n cs i node) (m := 137438953472) (by omega) (l := List.range k) fun j _ => distAt_bd h cs i node j
  rw [List.length_range] at this
  exact this
theorem pow_at {n : Net} (h : NetOk n) {a b : Int} (ha : insB a n.nodes = true) (hb : insB b n.nodes = true) : ∃ (i j : Nat) (r : List Int) (x : Int), a = i ∧ b = j ∧ n.power[i]? = some r ∧ r[j]? = some x ∧ powAt n a b = x := by
  simp only [insB, Bool.and_eq_true, decide_eq_true_eq] at ha hb
  obtain ⟨i, rfl⟩ : ∃ i : Nat, a = i := ⟨a.toNat, by omega⟩
  obtain ⟨j, rfl⟩ : ∃ j : Nat, b = j := ⟨b.toNat, by omega⟩
  have h1 := h.rows
  obtain ⟨r, hr⟩ : ∃ r, n.power[i]? = some r := ⟨_, List.getElem?_eq_getElem (by omega)⟩
  have h2 := h.row r (List.mem_of_getElem? hr)
  obtain ⟨x, hx⟩ : ∃ x, r[j]? = some x := ⟨_, List.getElem?_eq_getElem (by omega)⟩
  refine ⟨i, j, r, x, rfl, rfl, hr, hx, ?_⟩
  unfold powAt
  rw [Int.toNat_natCast, Int.toNat_natCast, List.getD_eq_getElem?_getD, List.getD_eq_getElem?_getD, hr, Option.getD_some, hx]; rfl
theorem good_at {n : Net} (h : NetOk n) {a b : Int} (hg : goodL n a b = true) : ∃ (p : Nat) (m : Int), findL n a b = p ∧ n.margin[p]? = some m ∧ marginAt n a b = m ∧ 0 ≤ m ∧ m ≤ 68719476736 ∧ insB a n.nodes = true ∧ insB b n.nodes = true ∧ goodL n b a = true := by
  have h0 := good_find hg
  obtain ⟨p, l, e1, e2, e3, e4⟩ := findL_at h0
  have hp := (List.getElem?_eq_some_iff.1 e2).1
  obtain ⟨m, hm⟩ : ∃ m, n.margin[p]? = some m := ⟨_, List.getElem?_eq_getElem (by rw [h.mar]; exact hp)⟩
  have hk := h.link p l e2
  have hb := linkR_bd hk.1
  have hpw := powAt_bd h.pow l.src l.dst
  rw [List.getD_eq_getElem?_getD, hm, Option.getD_some] at hk
  refine ⟨p, m, e1, hm, ?_, by omega, by omega, by rw [← e3]; simp [insB]; omega, by rw [← e4]; simp [insB]; omega, ?_⟩
  · unfold marginAt; rw [e1, Int.toNat_natCast, List.getD_eq_getElem?_getD, hm]; rfl
  · unfold goodL at hg ⊢
    simp only [Bool.and_eq_true] at hg ⊢
    exact ⟨⟨⟨hg.1.1.2, hg.1.1.1⟩, hg.2⟩, hg.1.2⟩
end HM
namespace HM
open Go Go.RowKit
end HM
namespace HM
section
variable (tg : Nat → Nat → Bool)
end
end HM
namespace HM
open Go Go.RowKit
end HM
namespace HM
open Go Go.RowKit
end HM
namespace HM
open Go Go.RowKit
theorem filter_succ {α : Type} (p : α → Bool) {l : List α} {k : Nat} {x : α} (h : l[k]? = some x) : (l.take (k + 1)).filter p = if p x then (l.take k).filter p ++ [x] else (l.take k).filter p := by
  rw [take_succ h, List.filter_append]
  split
  · rename_i hp; rw [List.filter_cons_of_pos hp]; rfl
  · rename_i hp; rw [List.filter_cons_of_neg hp, List.filter_nil, List.append_nil]
end HM
namespace HM
open Go Go.RowKit
theorem flowsE_per {nodes : Int} {l : List Flow} (h : (flowsE nodes l).2 = 0) : ∀ f ∈ l, 1 ≤ f.period ∧ f.period ≤ 512 := by
  intro f hf
  obtain ⟨k, hk⟩ := List.getElem?_of_mem hf
  have hkl := (List.getElem?_eq_some_iff.1 hk).1
  unfold flowsE at h
  split at h
  · cases h
  split at h
  · cases h
  have h3 := firstAt_ok.1 h k hkl
  unfold flowAt at h3
  rw [hk] at h3
  simp only at h3
  have hfx : flowE nodes f = 0 := by
    split at h3
    · rename_i hh; exact absurd h3 hh
    · omega
  have := flowE_ok hfx
  omega
end HM
namespace HM
open Go Go.RowKit
def idsB (l : List Flow) (id : Int) : Bool := l.any fun f => f.id == id
def ordC (cs : List Cell) (i : Nat) (c : Cell) : Bool := match i with
  | 0 => true
  | j + 1 => match cs[j]? with
    | some p => decide (p.cmp c < 0)
    | none => true
def cellF (n : Net) (l : List Flow) (s : Sched) (i : Nat) : Int := match s.cells[i]? with
  | none => 0
  | some c => if placedB s c = false then 2 else if goodL n c.src c.dst = false ∨ idsB l c.flow = false then 7 else if ordC s.cells i c = false then 5 else 0
def twAt (cs : List Cell) (c : Cell) (k : Nat) : Bool := match cs[k]? with
  | some d => d.slot == c.slot && touchB c d
  | none => false
def twiceM (cs : List Cell) (i : Nat) : Bool := match cs[i]? with
  | none => false
  | some c => (List.range i).any (twAt cs c)
def shareB (c d : Cell) : Bool := d.slot == c.slot && d.off == c.off
def shareL (cs : List Cell) (c : Cell) : List Cell := cs.filter (shareB c)
def shareAt (cs : List Cell) (c : Cell) (i : Nat) : Nat := ((cs.take i).filter (shareB c)).length
def disturbB (n : Net) (cs : List Cell) (i : Nat) : Bool := match cs[i]? with
  | none => false
  | some c => !heardB n (marginAt n c.src c.dst) (distM n (shareL cs c) (shareAt cs c i) c.dst) || !heardB n (marginAt n c.dst c.src) (distM n (shareL cs c) (shareAt cs c i) c.src)
def twI (cs : List Cell) (i : Nat) : Int := if twiceM cs i then 6 else 0
def dsI (n : Net) (cs : List Cell) (i : Nat) : Int := if disturbB n cs i then 16 else 0
def mism (s : Sched) (f : Flow) : Bool := s.len % f.period != 0
def schedE (n : Net) (l : List Flow) (s : Sched) : Int × Int :=
  if netE n ≠ 0 ∨ (flowsE n.nodes l).2 ≠ 0 then (-1, 1) else if sizedB s = false then (-1, 2) else if l.any (mism s) then (-1, 11) else if 512 < s.cells.length then (-1, 8)
  else if (firstAt (cellF n l s) s.cells.length).2 ≠ 0 then firstAt (cellF n l s) s.cells.length
  else if (firstAt (twI s.cells) s.cells.length).2 ≠ 0 then firstAt (twI s.cells) s.cells.length
  else firstAt (dsI n s.cells) s.cells.length
structure VOk (n : Net) (l : List Flow) (s : Sched) : Prop where
  net : NetOk n
  n0 : netE n = 0
  flows : (flowsE n.nodes l).2 = 0
  size : sizedB s = true
  per : ∀ f ∈ l, s.len % f.period = 0
  many : s.cells.length ≤ 512
  cell : ∀ (i : Nat) c, s.cells[i]? = some c → placedB s c = true ∧ goodL n c.src c.dst = true ∧ idsB l c.flow = true ∧ ordC s.cells i c = true
  once : ∀ (i j : Nat) c d, j < i → s.cells[i]? = some c → s.cells[j]? = some d → d.slot = c.slot → touchB c d = false
  heard : ∀ (i : Nat), i < s.cells.length → disturbB n s.cells i = false
theorem schedE_ok {n : Net} {l : List Flow} {s : Sched} (h : (schedE n l s).2 = 0) : VOk n l s := by
  unfold schedE at h
  split at h
  · cases h
  rename_i h1
  split at h
  · cases h
  rename_i h2
  split at h
  · cases h
  rename_i h3
  split at h
  · cases h
  rename_i h4
  split at h
  · rename_i hh; exact absurd h hh
  rename_i h5
  split at h
  · rename_i hh; exact absurd h hh
  rename_i h6
  have h5 : (firstAt (cellF n l s) s.cells.length).2 = 0 := by omega
  have h6 : (firstAt (twI s.cells) s.cells.length).2 = 0 := by omega
  rw [firstAt_ok] at h5 h6 h
  refine ⟨netE_ok (by omega), by omega, by omega, by simpa using h2, fun f hf => ?_, by omega, fun i c hc => ?_, fun i j c d hji hc hd hs => ?_, fun i hi => ?_⟩
  · have := List.any_eq_false.1 (by simpa using h3) f hf
    simpa [mism] using this
  · have := h5 i (List.getElem?_eq_some_iff.1 hc).1
    unfold cellF at this
    rw [hc] at this
    simp only at this
    split at this
    · cases this
    rename_i g1
    split at this
    · cases this
    rename_i g2
    split at this
    · cases this
    rename_i g3
    simp only [not_or, Bool.not_eq_false] at g1 g2 g3
    exact ⟨g1, g2.1, g2.2, g3⟩
  · have := h6 i (List.getElem?_eq_some_iff.1 hc).1
    unfold twI twiceM at this
    rw [hc] at this
    simp only at this
    split at this
    · cases this
    rename_i g
    have g2 := List.any_eq_false.1 (Bool.eq_false_iff.2 g) j (by simpa using hji)
    unfold twAt at g2
    rw [hd] at g2
    cases ht : touchB c d with
    | false => rfl
    | true => simp [hs, ht] at g2
  · have := h i hi
    unfold dsI at this
    split at this
    · cases this
    · rename_i g; simpa using g
theorem touchB_comm (a b : Cell) : touchB a b = touchB b a := by
  unfold touchB
  rw [Bool.eq_iff_iff]
  simp only [Bool.or_eq_true, beq_iff_eq]
  constructor
  · rintro (((h | h) | h) | h) <;> simp [h]
  · rintro (((h | h) | h) | h) <;> simp [h]
theorem VOk.apart {n : Net} {l : List Flow} {s : Sched} (h : VOk n l s) {i j : Nat} {c d : Cell} (hc : s.cells[i]? = some c) (hd : s.cells[j]? = some d) (hij : i ≠ j) (hs : c.slot = d.slot) : touchB c d = false := by
  rcases Nat.lt_or_gt_of_ne hij with h1 | h1
  · rw [touchB_comm]; exact h.once j i d c h1 hd hc hs
  · exact h.once i j c d h1 hc hd hs.symm
theorem VOk.sorted {n : Net} {l : List Flow} {s : Sched} (h : VOk n l s) : s.cells.Pairwise fun a b => a.cmp b < 0 := by
  refine List.pairwise_iff_getElem.2 fun i j hi hj hij => ?_
  obtain ⟨e, rfl⟩ : ∃ e, j = i + e + 1 := ⟨j - i - 1, by omega⟩
  induction e with
  | zero =>
    have := (h.cell (i + 0 + 1) _ (List.getElem?_eq_getElem hj)).2.2.2
    unfold ordC at this
    simp only [Nat.add_zero] at this
    rw [List.getElem?_eq_getElem hi] at this
    simpa using this
  | succ e ih =>
    have h1 := ih (by omega) (by omega)
    have := (h.cell (i + (e + 1) + 1) _ (List.getElem?_eq_getElem hj)).2.2.2
    unfold ordC at this
    simp only at this
    rw [List.getElem?_eq_getElem (by omega : i + (e + 1) < s.cells.length)] at this
    exact cmpL_trans h1 (of_decide_eq_true this)
theorem VOk.at {n : Net} {l : List Flow} {s : Sched} (h : VOk n l s) {c : Cell} (hc : c ∈ s.cells) : 0 ≤ c.slot ∧ c.slot < s.len ∧ 0 ≤ c.off ∧ c.off < s.offs ∧ goodL n c.src c.dst = true ∧ idsB l c.flow = true := by
  obtain ⟨i, hi⟩ := List.getElem?_of_mem hc
  obtain ⟨h1, h2, h3, _⟩ := h.cell i c hi
  simp only [placedB, insB, Bool.and_eq_true, decide_eq_true_eq] at h1
  exact ⟨h1.1.1, h1.1.2, h1.2.1, h1.2.2, h2, h3⟩
end HM
namespace HM
open Go Go.RowKit
theorem flows_sorted {nodes : Int} {l : List Flow} (h : (flowsE nodes l).2 = 0) : l.Pairwise fun a b => a.id < b.id := by
  unfold flowsE at h
  split at h
  · cases h
  split at h
  · cases h
  rw [firstAt_ok] at h
  refine List.pairwise_iff_getElem.2 fun i j hi hj hij => ?_
  have step : ∀ k, (hk : k + 1 < l.length) → (l[k]'(by omega)).id < (l[k + 1]).id := fun k hk => by
    have := h (k + 1) hk
    unfold flowAt at this
    rw [List.getElem?_eq_getElem hk] at this
    simp only at this
    split at this
    · rename_i hh; exact absurd this hh
    split at this
    · cases this
    rename_i g
    unfold flowO at g
    simp only at g
    rw [List.getElem?_eq_getElem (by omega : k < l.length)] at g
    simpa using g
  obtain ⟨e, rfl⟩ : ∃ e, j = i + e + 1 := ⟨j - i - 1, by omega⟩
  clear hij
  induction e with
  | zero => exact step i hj
  | succ e ih => exact Int.lt_trans (ih (by omega) step) (step (i + (e + 1)) hj)
end HM
