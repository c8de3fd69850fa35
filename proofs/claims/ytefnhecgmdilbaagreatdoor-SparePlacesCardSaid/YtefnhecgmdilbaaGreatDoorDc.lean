/- Further plain words. -/
import Derived.Test.YtefnhecgmdilbaaGreatDoorDb
import Derived.Test.YtefnhecgmdilbaaGreatDoorDa
/- Hyperperiods; the least length without a reason. -/
namespace HM
open Go Go.RowKit

theorem flowsE_per {nodes : Int} {l : List Flow} (h : (flowsE nodes l).2 = 0) : ∀ f ∈ l, 1 ≤ f.period ∧ f.period ≤ 512 := by
  intro f hf
  obtain ⟨k, hk⟩ := List.getElem?_of_mem hf
  have hkl := (List.getElem?_eq_some_iff.1 hk).1
  unfold flowsE at h
  split at h
  · cases h
  split at h
  · cases h
  have h3 := firstAt_ok.1 h k hkl
  unfold flowAt at h3
  rw [hk] at h3
  simp only at h3
  have hfx : flowE nodes f = 0 := by
    split at h3
    · rename_i hh; exact absurd h3 hh
    · omega
  have := flowE_ok hfx
  omega
-- the least length
end HM

/- Whether a schedule is valid. -/
namespace HM
open Go Go.RowKit

def idsB (l : List Flow) (id : Int) : Bool := l.any fun f => f.id == id
def ordC (cs : List Cell) (i : Nat) (c : Cell) : Bool := match i with
  | 0 => true
  | j + 1 => match cs[j]? with
    | some p => decide (p.cmp c < 0)
    | none => true
/-- the fault of a cell on its own -/
def cellF (n : Net) (l : List Flow) (s : Sched) (i : Nat) : Int := match s.cells[i]? with
  | none => 0
  | some c => if placedB s c = false then 2 else if goodL n c.src c.dst = false ∨ idsB l c.flow = false then 7 else if ordC s.cells i c = false then 5 else 0
def twAt (cs : List Cell) (c : Cell) (k : Nat) : Bool := match cs[k]? with
  | some d => d.slot == c.slot && touchB c d
  | none => false
def twiceM (cs : List Cell) (i : Nat) : Bool := match cs[i]? with
  | none => false
  | some c => (List.range i).any (twAt cs c)
def shareB (c d : Cell) : Bool := d.slot == c.slot && d.off == c.off
def shareL (cs : List Cell) (c : Cell) : List Cell := cs.filter (shareB c)
def shareAt (cs : List Cell) (c : Cell) (i : Nat) : Nat := ((cs.take i).filter (shareB c)).length
def disturbB (n : Net) (cs : List Cell) (i : Nat) : Bool := match cs[i]? with
  | none => false
  | some c => !heardB n (marginAt n c.src c.dst) (distM n (shareL cs c) (shareAt cs c i) c.dst) || !heardB n (marginAt n c.dst c.src) (distM n (shareL cs c) (shareAt cs c i) c.src)
def twI (cs : List Cell) (i : Nat) : Int := if twiceM cs i then 6 else 0
def dsI (n : Net) (cs : List Cell) (i : Nat) : Int := if disturbB n cs i then 16 else 0
def mism (s : Sched) (f : Flow) : Bool := s.len % f.period != 0
def schedE (n : Net) (l : List Flow) (s : Sched) : Int × Int :=
  if netE n ≠ 0 ∨ (flowsE n.nodes l).2 ≠ 0 then (-1, 1) else if sizedB s = false then (-1, 2) else if l.any (mism s) then (-1, 11) else if 512 < s.cells.length then (-1, 8)
  else if (firstAt (cellF n l s) s.cells.length).2 ≠ 0 then firstAt (cellF n l s) s.cells.length
  else if (firstAt (twI s.cells) s.cells.length).2 ≠ 0 then firstAt (twI s.cells) s.cells.length
  else firstAt (dsI n s.cells) s.cells.length
/-- valid -/
structure VOk (n : Net) (l : List Flow) (s : Sched) : Prop where
  net : NetOk n
  n0 : netE n = 0
  flows : (flowsE n.nodes l).2 = 0
  size : sizedB s = true
  per : ∀ f ∈ l, s.len % f.period = 0
  many : s.cells.length ≤ 512
  cell : ∀ (i : Nat) c, s.cells[i]? = some c → placedB s c = true ∧ goodL n c.src c.dst = true ∧ idsB l c.flow = true ∧ ordC s.cells i c = true
  once : ∀ (i j : Nat) c d, j < i → s.cells[i]? = some c → s.cells[j]? = some d → d.slot = c.slot → touchB c d = false
  heard : ∀ (i : Nat), i < s.cells.length → disturbB n s.cells i = false
theorem schedE_ok {n : Net} {l : List Flow} {s : Sched} (h : (schedE n l s).2 = 0) : VOk n l s := by
  unfold schedE at h
  split at h
  · cases h
  rename_i h1
  split at h
  · cases h
  rename_i h2
  split at h
  · cases h
  rename_i h3
  split at h
  · cases h
  rename_i h4
  split at h
  · rename_i hh; exact absurd h hh
  rename_i h5
  split at h
  · rename_i hh; exact absurd h hh
  rename_i h6
  have h5 : (firstAt (cellF n l s) s.cells.length).2 = 0 := by omega
  have h6 : (firstAt (twI s.cells) s.cells.length).2 = 0 := by omega
  rw [firstAt_ok] at h5 h6 h
  refine ⟨netE_ok (by omega), by omega, by omega, by simpa using h2, fun f hf => ?_, by omega, fun i c hc => ?_, fun i j c d hji hc hd hs => ?_, fun i hi => ?_⟩
  · have := List.any_eq_false.1 (by simpa using h3) f hf
    simpa [mism] using this
  · have := h5 i (List.getElem?_eq_some_iff.1 hc).1
    unfold cellF at this
    rw [hc] at this
    simp only at this
    split at this
    · cases this
    rename_i g1
    split at this
    · cases this
    rename_i g2
    split at this
    · cases this
    rename_i g3
    simp only [not_or, Bool.not_eq_false] at g1 g2 g3
    exact ⟨g1, g2.1, g2.2, g3⟩
  · have := h6 i (List.getElem?_eq_some_iff.1 hc).1
    unfold twI twiceM at this
    rw [hc] at this
    simp only at this
    split at this
    · cases this
    rename_i g
    have g2 := List.any_eq_false.1 (Bool.eq_false_iff.2 g) j (by simpa using hji)
    unfold twAt at g2
    rw [hd] at g2
    cases ht : touchB c d with
    | false => rfl
    | true => simp [hs, ht] at g2
  · have := h i hi
    unfold dsI at this
    split at this
    · cases this
    · rename_i g; simpa using g
theorem touchB_comm (a b : Cell) : touchB a b = touchB b a := by
  unfold touchB
  rw [Bool.eq_iff_iff]
  simp only [Bool.or_eq_true, beq_iff_eq]
  constructor
  · rintro (((h | h) | h) | h) <;> simp [h]
  · rintro (((h | h) | h) | h) <;> simp [h]
theorem VOk.apart {n : Net} {l : List Flow} {s : Sched} (h : VOk n l s) {i j : Nat} {c d : Cell} (hc : s.cells[i]? = some c) (hd : s.cells[j]? = some d) (hij : i ≠ j) (hs : c.slot = d.slot) : touchB c d = false := by
  rcases Nat.lt_or_gt_of_ne hij with h1 | h1
  · rw [touchB_comm]; exact h.once j i d c h1 hd hc hs
  · exact h.once i j c d h1 hc hd hs.symm
theorem VOk.sorted {n : Net} {l : List Flow} {s : Sched} (h : VOk n l s) : s.cells.Pairwise fun a b => a.cmp b < 0 := by
  refine List.pairwise_iff_getElem.2 fun i j hi hj hij => ?_
  obtain ⟨e, rfl⟩ : ∃ e, j = i + e + 1 := ⟨j - i - 1, by omega⟩
  induction e with
  | zero =>
    have := (h.cell (i + 0 + 1) _ (List.getElem?_eq_getElem hj)).2.2.2
    unfold ordC at this
    simp only [Nat.add_zero] at this
    rw [List.getElem?_eq_getElem hi] at this
    simpa using this
  | succ e ih =>
    have h1 := ih (by omega) (by omega)
    have := (h.cell (i + (e + 1) + 1) _ (List.getElem?_eq_getElem hj)).2.2.2
    unfold ordC at this
    simp only at this
    rw [List.getElem?_eq_getElem (by omega : i + (e + 1) < s.cells.length)] at this
    exact cmpL_trans h1 (of_decide_eq_true this)
theorem VOk.at {n : Net} {l : List Flow} {s : Sched} (h : VOk n l s) {c : Cell} (hc : c ∈ s.cells) : 0 ≤ c.slot ∧ c.slot < s.len ∧ 0 ≤ c.off ∧ c.off < s.offs ∧ goodL n c.src c.dst = true ∧ idsB l c.flow = true := by
  obtain ⟨i, hi⟩ := List.getElem?_of_mem hc
  obtain ⟨h1, h2, h3, _⟩ := h.cell i c hi
  simp only [placedB, insB, Bool.and_eq_true, decide_eq_true_eq] at h1
  exact ⟨h1.1.1, h1.1.2, h1.2.1, h1.2.2, h2, h3⟩
end HM

/- A valid schedule that serves requests has room for what they need: counting cells. -/
namespace HM
open Go Go.RowKit

-- windows
-- what is served
/-- served -/
def servedB (n : Net) (s : Sched) (x : Req) : Prop := ∀ r ∈ x.routes, ∃ b, boundR n s x.flow r 0 = some b ∧ b.b ≤ x.flow.dead
-- disjoint conditions
end HM

/- A valid schedule that serves requests: there is no reason against its size. -/
namespace HM
open Go Go.RowKit

structure Srv (n : Net) (q : List Req) (s : Sched) : Prop where
  ok : VOk n (flowsQ q) s
  req : (reqE n q).2 = 0
  srv : ∀ x ∈ q, servedB n s x
section
variable {n : Net} {q : List Req} {s : Sched}
theorem Srv.per (h : Srv n q s) : ∀ x ∈ q, s.len % x.flow.period = 0 := fun x hx => h.ok.per x.flow (List.mem_map.2 ⟨x, hx, rfl⟩)
theorem Srv.len (h : Srv n q s) : 1 ≤ s.len ∧ s.len ≤ 512 ∧ 1 ≤ s.offs ∧ s.offs ≤ 16 := sized_bd h.ok.size
-- each node once in a slot
theorem VOk.pairs {l : List Flow} (h : VOk n l s) : s.cells.Pairwise fun c d => c.slot = d.slot → touchB c d = false :=
  List.pairwise_iff_getElem.2 fun i j hi hj hij hs => h.apart (List.getElem?_eq_getElem hi) (List.getElem?_eq_getElem hj) (by omega) hs
-- a group
-- routes
end
end HM

/- Certificates: what a schedule does for requests. -/
namespace HM
open Go Go.RowKit

structure Claim where
  flow : Int
  routes : List (List Int)
  bounds : List Int
  worst : List Int
  slots : List (List Int)
  deriving DecidableEq
def Claim.cs (c : Claim) : List AV := [.int .i64 c.flow, encRows c.routes, encIs c.bounds, encIs c.worst, encRows c.slots]
def Claim.av (c : Claim) : AV := .agg [.int .i64 c.flow, encRows c.routes, encIs c.bounds, encIs c.worst, encRows c.slots]
def encClaims (l : List Claim) : AV := .sl false (l.map Claim.av)
def claim0 : Claim := ⟨0, [], [], [], []⟩
/-- whether a route is served -/
def srvB (n : Net) (s : Sched) (x : Req) (r : List Int) : Bool := decide ((routeM n s x.flow r).2.2.2 = 0) && decide ((routeM n s x.flow r).1 ≤ x.flow.dead)
/-- what is claimed of the first routes -/
def claimT (n : Net) (s : Sched) (x : Req) (l : List (List Int)) : Claim := ⟨x.flow.id, l, l.map fun r => (routeM n s x.flow r).1, l.map fun r => (routeM n s x.flow r).2.1, l.map fun r => (routeM n s x.flow r).2.2.1⟩
def claimB (n : Net) (s : Sched) (x : Req) : Bool := x.routes.all (srvB n s x)
def claimM (n : Net) (s : Sched) (x : Req) : Claim := if claimB n s x then claimT n s x x.routes else claim0
def lateAt (n : Net) (s : Sched) (q : List Req) (i : Nat) : Int := match q[i]? with
  | some x => if claimB n s x then 0 else 15
  | none => 0
def makeM (n : Net) (q : List Req) (s : Sched) : List Claim × Int × Int :=
  if (reqE n q).2 ≠ 0 then ([], (reqE n q).1, (reqE n q).2) else if (schedE n (flowsQ q) s).2 ≠ 0 then ([], -1, 1)
  else if (firstAt (lateAt n s q) q.length).2 ≠ 0 then ([], firstAt (lateAt n s q) q.length) else (q.map (claimM n s), -1, 0)
/-- valid schedules have their form -/
theorem VOk.form {n : Net} {l : List Flow} {s : Sched} (h : VOk n l s) : formB s = true := by
  unfold formB
  rw [h.size, decide_eq_true h.many, Bool.true_and, Bool.true_and]
  refine range_all fun i hi => ?_
  obtain ⟨c, hc⟩ := getLt hi
  obtain ⟨h1, h2, h3, h4⟩ := h.cell i c hc
  obtain ⟨p, l', e1, e2, e3, e4⟩ := findL_at (good_find h2)
  have hb := linkR_bd (h.net.link p l' e2).1
  have hn := h.net.nodes
  obtain ⟨f, hf, hid⟩ := List.any_eq_true.1 h3
  have hff : 0 ≤ f.id ∧ f.id ≤ 255 := by
    obtain ⟨k, hk⟩ := List.getElem?_of_mem hf
    have hkl := (List.getElem?_eq_some_iff.1 hk).1
    have hfl := h.flows
    unfold flowsE at hfl
    split at hfl
    · cases hfl
    split at hfl
    · cases hfl
    have g := firstAt_ok.1 hfl k hkl
    unfold flowAt at g
    rw [hk] at g
    simp only at g
    have hfx : flowE n.nodes f = 0 := by
      split at g
      · rename_i hh; exact absurd g hh
      · omega
    have := flowE_ok hfx
    omega
  simp only [beq_iff_eq] at hid
  unfold okAt
  rw [hc]
  simp only
  have hfm : formedB s c = true := by
    unfold formedB
    rw [h1]
    simp only [insB, Bool.true_and, Bool.and_eq_true, decide_eq_true_eq]
    omega
  rw [hfm, Bool.true_and]
  unfold ordC at h4
  cases i with
  | zero => rfl
  | succ j => exact h4
theorem claim_served {n : Net} {s : Sched} {x : Req} (h : claimB n s x = true) : servedB n s x := by
  intro r hr
  have h1 := List.all_eq_true.1 h r hr
  unfold srvB at h1
  simp only [Bool.and_eq_true, decide_eq_true_eq] at h1
  obtain ⟨h1, h2⟩ := h1
  unfold routeM at h1 h2
  split at h1
  · rename_i hh; exact absurd h1 hh
  rename_i hw
  rw [if_neg hw] at h2
  cases hb : boundR n s x.flow r 0 with
  | none => rw [hb] at h1; cases h1
  | some b => rw [hb] at h2; exact ⟨b, rfl, h2⟩
theorem make_srv {n : Net} {q : List Req} {s : Sched} (h : (makeM n q s).2.2 = 0) : Srv n q s := by
  unfold makeM at h
  split at h
  · rename_i hh; exact absurd h hh
  rename_i h1
  split at h
  · cases h
  rename_i h2
  split at h
  · rename_i hh; exact absurd h hh
  rename_i h3
  have h3 : (firstAt (lateAt n s q) q.length).2 = 0 := by omega
  refine ⟨schedE_ok (by omega), by omega, fun x hx => ?_⟩
  obtain ⟨k, hk⟩ := List.getElem?_of_mem hx
  have := firstAt_ok.1 h3 k (List.getElem?_eq_some_iff.1 hk).1
  unfold lateAt at this
  rw [hk] at this
  simp only at this
  split at this
  · rename_i hc; exact claim_served hc
  · cases this
end HM

/- SpareBack: the places to which a cell can be moved, and back. -/
namespace HM
open Go Go.RowKit

def placeX (c : Cell) (i j : Nat) : Cell := ⟨i, j, c.src, c.dst, c.flow⟩
/-- a place to which a cell can be moved -/
def canP (n : Net) (q : List Req) (rest : Sched) (c : Cell) (i j : Nat) : Bool := !(cellEqB (placeX c i j) c) && (((addM rest (placeX c i j)).2 == 0) && ((makeM n q (addM rest (placeX c i j)).1).2.2 == 0))
def plO (n : Net) (q : List Req) (rest : Sched) (c : Cell) (i j : Nat) : List Cell := ((List.range j).filter (canP n q rest c i)).map (placeX c i)
def plS (n : Net) (q : List Req) (rest : Sched) (c : Cell) (o k : Nat) : List Cell := (List.range k).flatMap fun i => plO n q rest c i o
def plcM (n : Net) (q : List Req) (s : Sched) (c : Cell) : List Cell × Int :=
  if (makeM n q s).2.2 ≠ 0 then ([], 1) else if (remM s c).2 ≠ 0 then ([], 7)
  else if 1024 < (plS n q (remM s c).1 c s.offs.toNat s.len.toNat).length then ([], 8) else (plS n q (remM s c).1 c s.offs.toNat s.len.toNat, 0)
theorem plO_succ (n : Net) (q : List Req) (rest : Sched) (c : Cell) (i j : Nat) : plO n q rest c i (j + 1) = plO n q rest c i j ++ if canP n q rest c i j = true then [placeX c i j] else [] := by
  unfold plO
  rw [List.range_succ, List.filter_append, List.map_append]
  congr 1
  simp only [List.filter_cons, List.filter_nil]
  split <;> rfl
theorem plS_succ (n : Net) (q : List Req) (rest : Sched) (c : Cell) (o k : Nat) : plS n q rest c o (k + 1) = plS n q rest c o k ++ plO n q rest c k o := by
  simp [plS, List.range_succ]
theorem plO_len (n : Net) (q : List Req) (rest : Sched) (c : Cell) (i j : Nat) : (plO n q rest c i j).length ≤ j := by
  unfold plO
  rw [List.length_map]
  exact Nat.le_trans (List.length_filter_le _ _) (by rw [List.length_range]; exact Nat.le_refl _)
theorem plS_len (n : Net) (q : List Req) (rest : Sched) (c : Cell) (o : Nat) : ∀ k : Nat, (plS n q rest c o k).length ≤ k * o
  | 0 => by simp [plS]
  | k + 1 => by
    have := plS_len n q rest c o k
    have := plO_len n q rest c k o
    rw [plS_succ, List.length_append, Nat.add_mul]; omega
theorem remM_ok {s t : Sched} {c : Cell} (h : remM s c = (t, 0)) : formB s = true ∧ c ∈ s.cells ∧ t = ⟨s.len, s.offs, s.cells.filter fun x => decide (x ≠ c)⟩ := by
  unfold remM at h
  split at h
  · simp at h
  split at h
  · simp at h
  rename_i h1 h2
  have h1' : formB s = true := by simpa using h1
  have h2' : hasC s c = true := by simpa using h2
  injection h with h5 h6
  rw [remM_filter h1' h2'] at h5
  refine ⟨h1', ?_, h5.symm⟩
  rw [hasC_mem h1'] at h2'
  simpa using h2'
theorem plcM_len (n : Net) (q : List Req) (s : Sched) (c : Cell) : (plcM n q s c).1.length ≤ 1024 := by
  unfold plcM
  split
  · simp
  split
  · simp
  split
  · simp
  · simp only; omega
end HM

/- Cells of a slot together: the order does not matter (AdmitRoom). -/
namespace HM
open Go Go.RowKit

def distC (n : Net) (rest : List Cell) (node : Int) : Int := sumW (fun d : Cell => powN n d.src node + powN n d.dst node) rest
/-- a cell is disturbed by the others -/
def faultyC (n : Net) (c : Cell) (rest : List Cell) : Bool :=
  if goodL n c.src c.dst = false then true else if rest.any (touchB c) then true
    else if heardB n (marginAt n c.src c.dst) (distC n rest c.dst) = false then true else !heardB n (marginAt n c.dst c.src) (distC n rest c.src)
theorem erase_take {α : Type} {l : List α} {k i : Nat} {x : α} (h : l[k]? = some x) : (l.take (k + 1)).eraseIdx i = (l.take k).eraseIdx i ++ if k = i then [] else [x] := by
  rw [take_succ h]
  have hk : k < l.length := (List.getElem?_eq_some_iff.1 h).1
  have hl : (l.take k).length = k := by rw [List.length_take]; omega
  rcases Nat.lt_trichotomy k i with hlt | rfl | hgt
  · rw [List.eraseIdx_of_length_le (by rw [List.length_append, hl]; simp; omega), List.eraseIdx_of_length_le (by omega), if_neg (by omega)]
  · rw [List.eraseIdx_append_of_length_le (by omega), hl, List.eraseIdx_of_length_le (l := l.take k) (by omega), if_pos rfl]; simp
  · rw [List.eraseIdx_append_of_lt_length (by omega), if_neg (by omega)]
theorem distU_rest (n : Net) (cs : List Cell) (i : Nat) (node : Int) : ∀ k : Nat, k ≤ cs.length → distU n cs i node k = distC n ((cs.take k).eraseIdx i) node
  | 0, _ => by simp [distU, distC, sumW]
  | k + 1, hk => by
    obtain ⟨x, hx⟩ := getLt (l := cs) (k := k) (by omega)
    rw [distU_succ, distU_rest n cs i node k (by omega), erase_take hx]
    unfold distC distAt
    rw [sumW_app, hx]
    simp only
    congr 1
    split
    · rfl
    · simp [sumW]
theorem distM_rest (n : Net) (cs : List Cell) (i : Nat) (node : Int) : distM n cs i node = distC n (cs.eraseIdx i) node := by
  unfold distM
  rw [distU_rest n cs i node _ (Nat.le_refl _), List.take_length]
theorem touch_rest (cs : List Cell) (c : Cell) (i : Nat) : ∀ k : Nat, k ≤ cs.length → (List.range k).any (touchAt cs c i) = ((cs.take k).eraseIdx i).any (touchB c)
  | 0, _ => by simp
  | k + 1, hk => by
    obtain ⟨x, hx⟩ := getLt (l := cs) (k := k) (by omega)
    rw [List.range_succ, List.any_append, touch_rest cs c i k (by omega), erase_take hx, List.any_append]
    congr 1
    simp only [List.any_cons, List.any_nil, Bool.or_false]
    unfold touchAt
    rw [hx]
    simp only
    by_cases h : k = i
    · subst h; simp
    · rw [if_neg h]; simp [h]
theorem faultyM_rest {n : Net} {cs : List Cell} {i : Nat} {c : Cell} (h : cs[i]? = some c) : faultyM n cs i = faultyC n c (cs.eraseIdx i) := by
  unfold faultyM faultyC
  rw [h]
  simp only
  have := touch_rest cs c i _ (Nat.le_refl _)
  rw [List.take_length] at this
  rw [this, distM_rest, distM_rest]
end HM

/- AdmitRoom: where there is room; dropping a flow. -/
namespace HM
open Go Go.RowKit

end HM

/- A valid schedule with one cell more is valid where there is room (AdmitFills). -/
namespace HM
open Go Go.RowKit

def AllRest {α : Type} (P : α → List α → Prop) (cs : List α) : Prop := ∀ (i : Nat) c, cs[i]? = some c → P c (cs.eraseIdx i)
theorem erase_perm {α : Type} {cs : List α} {i : Nat} {c : α} (h : cs[i]? = some c) : cs.Perm (c :: cs.eraseIdx i) := by
  obtain ⟨hi, rfl⟩ := List.getElem?_eq_some_iff.1 h
  rw [List.eraseIdx_eq_take_drop_succ]
  have e : cs = cs.take i ++ cs[i] :: cs.drop (i + 1) := by rw [← List.drop_eq_getElem_cons hi, List.take_append_drop]
  exact (List.Perm.of_eq e).trans List.perm_middle
theorem AllRest.perm {α : Type} {P : α → List α → Prop} (hP : ∀ c r r', r.Perm r' → P c r → P c r') {cs cs' : List α} (h : AllRest P cs) (hp : cs.Perm cs') : AllRest P cs' := fun j c hj => by
  obtain ⟨i, hi⟩ := List.getElem?_of_mem (hp.mem_iff.2 (List.mem_of_getElem? hj))
  refine hP c _ _ ?_ (h i c hi)
  exact List.Perm.cons_inv ((erase_perm hi).symm.trans (hp.trans (erase_perm hj)))
/-- a cell is heard, by both, among others -/
def heardC (n : Net) (c : Cell) (rest : List Cell) : Prop := heardB n (marginAt n c.src c.dst) (distC n rest c.dst) = true ∧ heardB n (marginAt n c.dst c.src) (distC n rest c.src) = true
theorem faultyC_iff {n : Net} {c : Cell} {r : List Cell} : faultyC n c r = false ↔ goodL n c.src c.dst = true ∧ (∀ d ∈ r, touchB c d = false) ∧ heardC n c r := by
  unfold faultyC heardC
  constructor
  · intro h
    split at h
    · cases h
    rename_i h1
    split at h
    · cases h
    rename_i h2
    split at h
    · cases h
    rename_i h3
    exact ⟨by simpa using h1, fun d hd => by simpa using List.any_eq_false.1 (Bool.eq_false_iff.2 h2) d hd, by simpa using h3, by simpa using h⟩
  · rintro ⟨h1, h2, h3, h4⟩
    have h5 : r.any (touchB c) = false := List.any_eq_false.2 fun d hd => by rw [h2 d hd]; simp
    rw [h1, h5, h3, h4]; simp
theorem filter_erase {α : Type} {p : α → Bool} {cs : List α} {i : Nat} {c : α} (h : cs[i]? = some c) (hp : p c = true) : (cs.filter p).eraseIdx ((cs.take i).filter p).length = (cs.eraseIdx i).filter p ∧ (cs.filter p)[((cs.take i).filter p).length]? = some c := by
  obtain ⟨hi, rfl⟩ := List.getElem?_eq_some_iff.1 h
  have e : cs.filter p = (cs.take i).filter p ++ cs[i] :: (cs.drop (i + 1)).filter p := by
    have e0 : cs = cs.take i ++ cs[i] :: cs.drop (i + 1) := by rw [← List.drop_eq_getElem_cons hi, List.take_append_drop]
    conv => lhs; rw [e0]
    rw [List.filter_append, List.filter_cons, if_pos hp]
  rw [e]
  refine ⟨?_, by simp⟩
  rw [List.eraseIdx_append_of_length_le (Nat.le_refl _), Nat.sub_self, List.eraseIdx_cons_zero, List.eraseIdx_eq_take_drop_succ, List.filter_append]
theorem disturb_iff {n : Net} {cs : List Cell} {i : Nat} {c : Cell} (h : cs[i]? = some c) : disturbB n cs i = false ↔ heardC n c ((cs.eraseIdx i).filter (shareB c)) := by
  have hs : shareB c c = true := by unfold shareB; simp
  have := (filter_erase (p := shareB c) h hs).1
  unfold disturbB heardC
  rw [h]
  simp only [distM_rest, shareL, shareAt]
  rw [this]
  simp
/-- what a cell of a valid schedule is to the others -/
def cellR2 (n : Net) (c : Cell) (rest : List Cell) : Prop := (∀ d ∈ rest, d.slot = c.slot → touchB c d = false) ∧ heardC n c (rest.filter (shareB c))
theorem VOk.rest {n : Net} {l : List Flow} {s : Sched} (h : VOk n l s) : AllRest (cellR2 n) s.cells := fun i c hc => by
  refine ⟨fun d hd hs => ?_, (disturb_iff hc).1 (h.heard i (List.getElem?_eq_some_iff.1 hc).1)⟩
  obtain ⟨j, hj⟩ := List.getElem?_of_mem hd
  rw [List.getElem?_eraseIdx] at hj
  split at hj
  · exact h.apart hc hj (by omega) hs.symm
  · exact h.apart hc hj (by omega) hs.symm
end HM

/- The places of a cell, as the reference asks for them. -/
namespace HM
open Go Go.RowKit
theorem canP_ref {n : Net} {q : List Req} {s t : Sched} {c : Cell} (h : remM s c = (t, 0)) (hl : s.cells.length ≤ 30) {i j : Nat} (hi : (i : Int) < s.len) (hj : (j : Int) < s.offs) :
    canP n q t c i j = (!(cellEqB (placeX c i j) c) && (!(decide (placeX c i j ∈ t.cells)) && ((makeM n q ⟨t.len, t.offs, withL (placeX c i j) t.cells⟩).2.2 == 0))) := by
  obtain ⟨h1, h2, h3⟩ := remM_ok h
  obtain ⟨f1, f2, f3⟩ := form_all h1
  have hf : formB t = true := by have := remM_form (s := s) (c := c) (by rw [h]); rw [h] at this; exact this
  have htl : t.cells.length ≤ 30 := by rw [h3]; exact Nat.le_trans (List.length_filter_le _ _) hl
  have hc := f3 c h2
  have hx : formedB t (placeX c i j) = true := by
    rw [formedB_len (s := s) (t := t) (by rw [h3]) (by rw [h3])]
    have e1 : formedB s (placeX c i j) = (insB i s.len && insB j s.offs && insB c.src 32 && insB c.dst 32 && insB c.flow 256) := rfl
    have e2 : formedB s c = (insB c.slot s.len && insB c.off s.offs && insB c.src 32 && insB c.dst 32 && insB c.flow 256) := rfl
    rw [e2] at hc
    rw [e1]
    simp only [Bool.and_eq_true] at hc ⊢
    exact ⟨⟨⟨⟨by simp [insB]; omega, by simp [insB]; omega⟩, hc.1.1.2⟩, hc.1.2⟩, hc.2⟩
  unfold canP
  congr 1
  have hh := hasC_mem (c := placeX c i j) hf
  by_cases hm : placeX c i j ∈ t.cells
  · have ha : addM t (placeX c i j) = (⟨0, 0, []⟩, 6) := by
      unfold addM
      rw [if_neg (by simp [hf]), if_neg (by simp [hx]), if_pos (by rw [hh]; simpa using hm)]
    rw [ha, decide_eq_true hm]; rfl
  · have hn : hasC t (placeX c i j) = false := by rw [hh]; simpa using hm
    have ha : addM t (placeX c i j) = (⟨t.len, t.offs, withL (placeX c i j) t.cells⟩, 0) := by
      unfold addM
      rw [if_neg (by simp [hf]), if_neg (by simp [hx]), if_neg (by simp [hn]), if_neg (by omega), addM_with hf hn]
    rw [ha, decide_eq_false hm]; rfl
theorem plcM_ref {n : Net} {q : List Req} {s : Sched} {c : Cell} (h : (makeM n q s).2.2 = 0) : formB s = true ∧ ((remM s c).2 = 0 ↔ c ∈ s.cells) ∧ ((remM s c).2 ≠ 0 → plcM n q s c = ([], 7)) := by
  have hs := (make_srv h).ok
  have hf : formB s = true := hs.form
  refine ⟨hf, ?_, fun hr => by unfold plcM; rw [if_neg (by simpa using h), if_pos hr]⟩
  unfold remM
  rw [if_neg (by simp [hf])]
  have hh := hasC_mem (c := c) hf
  by_cases hm : c ∈ s.cells
  · rw [if_neg (by rw [hh]; simpa using hm)]; simp [hm]
  · rw [if_pos (by rw [hh]; simpa using hm)]; simp [hm]
theorem withL_len (c : Cell) (l : List Cell) (h : hasB (cellTo c) l = false) : (withL c l).length = l.length + 1 := by rw [with_ins h, insAt_len]
end HM

/- Whether a schedule is valid, as the reference asks it. -/
namespace HM
open Go Go.RowKit

/-- the fault of a schedule as a whole -/
def wholeM (n : Net) (l : List Flow) (s : Sched) : Int :=
  if netE n ≠ 0 ∨ (flowsE n.nodes l).2 ≠ 0 then 1 else if sizedB s = false then 2 else if l.any (mism s) then 11 else if 512 < s.cells.length then 8 else 0
theorem schedE_whole {n : Net} {l : List Flow} {s : Sched} (h : wholeM n l s ≠ 0) : schedE n l s = (-1, wholeM n l s) := by
  unfold wholeM at h ⊢
  unfold schedE
  split
  · rfl
  rename_i h1; rw [if_neg h1] at h
  split
  · rfl
  rename_i h2; rw [if_neg h2] at h
  split
  · rfl
  rename_i h3; rw [if_neg h3] at h
  split
  · rfl
  rename_i h4; rw [if_neg h4] at h
  exact absurd rfl h
theorem schedE_parts {n : Net} {l : List Flow} {s : Sched} (h : wholeM n l s = 0) : netE n = 0 ∧ (flowsE n.nodes l).2 = 0 ∧ sizedB s = true ∧ s.cells.length ≤ 512 ∧ schedE n l s = if (firstAt (cellF n l s) s.cells.length).2 ≠ 0 then firstAt (cellF n l s) s.cells.length
  else if (firstAt (twI s.cells) s.cells.length).2 ≠ 0 then firstAt (twI s.cells) s.cells.length
  else firstAt (dsI n s.cells) s.cells.length := by
  unfold wholeM at h
  split at h
  · cases h
  rename_i h1
  split at h
  · cases h
  rename_i h2
  split at h
  · cases h
  rename_i h3
  split at h
  · cases h
  rename_i h4
  exact ⟨by omega, by omega, by simpa using h2, by omega, by unfold schedE; rw [if_neg h1, if_neg h2, if_neg h3, if_neg h4]⟩
theorem once_rest {cs : List Cell} (h : ∀ j, j < cs.length → twI cs j = 0) {i : Nat} {c : Cell} (hc : cs[i]? = some c) : ∀ d ∈ cs.eraseIdx i, d.slot = c.slot → touchB c d = false := by
  intro d hd hs
  obtain ⟨j, hne, hj⟩ := List.mem_eraseIdx_iff_getElem?.1 hd
  have key : ∀ {a b : Nat} {x y : Cell}, a < b → cs[a]? = some x → cs[b]? = some y → x.slot = y.slot → touchB y x = false := fun {a b x y} hab hx hy hxy => by
    have h1 := h b (List.getElem?_eq_some_iff.1 hy).1
    have h2 : twiceM cs b = false := by
      unfold twI at h1
      cases ht : twiceM cs b with
      | false => rfl
      | true => rw [ht] at h1; simp at h1
    unfold twiceM at h2
    rw [hy] at h2
    simp only at h2
    have h3 := List.any_eq_false.1 h2 a (List.mem_range.2 hab)
    unfold twAt at h3
    rw [hx] at h3
    simpa [hxy] using h3
  rcases Nat.lt_or_gt_of_ne hne with hlt | hgt
  · exact key hlt hj hc hs
  · rw [touchB_comm]; exact key hgt hc hj hs.symm
/-- a cell that is good on its own has a fault among those at its place exactly if it is disturbed -/
theorem share_fault {n : Net} {cs : List Cell} {c : Cell} {i : Nat} (h : cs[i]? = some c) (hg : goodL n c.src c.dst = true) (ht : ∀ d ∈ cs.eraseIdx i, d.slot = c.slot → touchB c d = false) : faultyM n (shareL cs c) (shareAt cs c i) = disturbB n cs i := by
  have hp : shareB c c = true := by simp [shareB]
  obtain ⟨e1, e2⟩ := filter_erase (p := shareB c) h hp
  have hf : faultyM n (shareL cs c) (shareAt cs c i) = faultyC n c ((cs.eraseIdx i).filter (shareB c)) := by
    unfold shareL shareAt
    rw [faultyM_rest e2, e1]
  rw [hf]
  have h1 : faultyC n c ((cs.eraseIdx i).filter (shareB c)) = false ↔ disturbB n cs i = false := by
    rw [faultyC_iff, disturb_iff h]
    constructor
    · exact fun hh => hh.2.2
    · exact fun hh => ⟨hg, fun d hd => ht d (List.mem_filter.1 hd).1 (by have := (List.mem_filter.1 hd).2; simp [shareB] at this; exact this.1), hh⟩
  cases ha : faultyC n c ((cs.eraseIdx i).filter (shareB c)) <;> cases hb : disturbB n cs i <;> simp_all
theorem findF_ids (l : List Flow) (id : Int) : decide (findF l id < 0) = !idsB l id := by
  unfold idsB
  cases h : l.any fun f => f.id == id with
  | false =>
    have h1 : findF l id = -1 := idxF_none fun j y hj hy => by
      have := List.any_eq_false.1 h y (List.mem_of_getElem? hy)
      simpa using this
    rw [h1]; rfl
  | true =>
    have h1 : ¬ findF l id < 0 := fun hneg => by
      obtain ⟨f, hf, he⟩ := List.any_eq_true.1 h
      exact findF_neg hneg f hf (by simpa using he)
    rw [decide_eq_false h1]; rfl
/-- the cells at the place of one, of the first ones -/
def shareT (cs : List Cell) (c : Cell) (k : Nat) : List Cell := (cs.take k).filter (shareB c)
theorem shareT_succ {cs : List Cell} {c d : Cell} {k : Nat} (h : cs[k]? = some d) : shareT cs c (k + 1) = shareT cs c k ++ if shareB c d = true then [d] else [] := by
  unfold shareT
  rw [take_succ h, List.filter_append]
  congr 1
  simp only [List.filter_cons, List.filter_nil]
theorem shareT_len (cs : List Cell) (c : Cell) (k : Nat) : (shareT cs c k).length ≤ cs.length := Nat.le_trans (List.length_filter_le _ _) (by rw [List.length_take]; omega)
end HM

/- Looking through attempts and rules one by one. -/
namespace HM
open Go Go.RowKit

theorem inv_snoc {α : Type} {p : α → Bool} {l : List α} {k : Nat} {a : α} (h : ∀ (j : Nat) y, j < k → l[j]? = some y → p y = false) (hk : l[k]? = some a) (ha : p a = false) : ∀ (j : Nat) y, j < k + 1 → l[j]? = some y → p y = false := by
  intro j y hj hy
  rcases Nat.lt_succ_iff_lt_or_eq.1 hj with hl | rfl
  · exact h j y hl hy
  · rw [hk] at hy; injection hy with hy; rw [← hy]; exact ha
end HM
