/- Further plain words. -/
import Derived.Test.YtmbbmcoeedoafaaGreatDoorDb
import Derived.Test.YtmbbmcoeedoafaaGreatDoorDa
/- Hyperperiods; the least length without a reason. -/
namespace HM
open Go Go.RowKit

theorem flowsE_per {nodes : Int} {l : List Flow} (h : (flowsE nodes l).2 = 0) : ∀ f ∈ l, 1 ≤ f.period ∧ f.period ≤ 512 := by
  intro f hf
  obtain ⟨k, hk⟩ := List.getElem?_of_mem hf
  have hkl := (List.getElem?_eq_some_iff.1 hk).1
  unfold flowsE at h
  split at h
  · cases h
  split at h
  · cases h
  have h3 := firstAt_ok.1 h k hkl
  unfold flowAt at h3
  rw [hk] at h3
  simp only at h3
  have hfx : flowE nodes f = 0 := by
    split at h3
    · rename_i hh; exact absurd h3 hh
    · omega
  have := flowE_ok hfx
  omega
-- the least length
end HM

/- Whether a schedule is valid. -/
namespace HM
open Go Go.RowKit

def idsB (l : List Flow) (id : Int) : Bool := l.any fun f => f.id == id
def ordC (cs : List Cell) (i : Nat) (c : Cell) : Bool := match i with
  | 0 => true
  | j + 1 => match cs[j]? with
    | some p => decide (p.cmp c < 0)
    | none => true
/-- the fault of a cell on its own -/
def cellF (n : Net) (l : List Flow) (s : Sched) (i : Nat) : Int := match s.cells[i]? with
  | none => 0
  | some c => if placedB s c = false then 2 else if goodL n c.src c.dst = false ∨ idsB l c.flow = false then 7 else if ordC s.cells i c = false then 5 else 0
def twAt (cs : List Cell) (c : Cell) (k : Nat) : Bool := match cs[k]? with
  | some d => d.slot == c.slot && touchB c d
  | none => false
def twiceM (cs : List Cell) (i : Nat) : Bool := match cs[i]? with
  | none => false
  | some c => (List.range i).any (twAt cs c)
def shareB (c d : Cell) : Bool := d.slot == c.slot && d.off == c.off
def shareL (cs : List Cell) (c : Cell) : List Cell := cs.filter (shareB c)
def shareAt (cs : List Cell) (c : Cell) (i : Nat) : Nat := ((cs.take i).filter (shareB c)).length
def disturbB (n : Net) (cs : List Cell) (i : Nat) : Bool := match cs[i]? with
  | none => false
  | some c => !heardB n (marginAt n c.src c.dst) (distM n (shareL cs c) (shareAt cs c i) c.dst) || !heardB n (marginAt n c.dst c.src) (distM n (shareL cs c) (shareAt cs c i) c.src)
def twI (cs : List Cell) (i : Nat) : Int := if twiceM cs i then 6 else 0
def dsI (n : Net) (cs : List Cell) (i : Nat) : Int := if disturbB n cs i then 16 else 0
def mism (s : Sched) (f : Flow) : Bool := s.len % f.period != 0
def schedE (n : Net) (l : List Flow) (s : Sched) : Int × Int :=
  if netE n ≠ 0 ∨ (flowsE n.nodes l).2 ≠ 0 then (-1, 1) else if sizedB s = false then (-1, 2) else if l.any (mism s) then (-1, 11) else if 512 < s.cells.length then (-1, 8)
  else if (firstAt (cellF n l s) s.cells.length).2 ≠ 0 then firstAt (cellF n l s) s.cells.length
  else if (firstAt (twI s.cells) s.cells.length).2 ≠ 0 then firstAt (twI s.cells) s.cells.length
  else firstAt (dsI n s.cells) s.cells.length
/-- valid -/
structure VOk (n : Net) (l : List Flow) (s : Sched) : Prop where
  net : NetOk n
  n0 : netE n = 0
  flows : (flowsE n.nodes l).2 = 0
  size : sizedB s = true
  per : ∀ f ∈ l, s.len % f.period = 0
  many : s.cells.length ≤ 512
  cell : ∀ (i : Nat) c, s.cells[i]? = some c → placedB s c = true ∧ goodL n c.src c.dst = true ∧ idsB l c.flow = true ∧ ordC s.cells i c = true
  once : ∀ (i j : Nat) c d, j < i → s.cells[i]? = some c → s.cells[j]? = some d → d.slot = c.slot → touchB c d = false
  heard : ∀ (i : Nat), i < s.cells.length → disturbB n s.cells i = false
theorem touchB_comm (a b : Cell) : touchB a b = touchB b a := by
  unfold touchB
  rw [Bool.eq_iff_iff]
  simp only [Bool.or_eq_true, beq_iff_eq]
  constructor
  · rintro (((h | h) | h) | h) <;> simp [h]
  · rintro (((h | h) | h) | h) <;> simp [h]
theorem VOk.apart {n : Net} {l : List Flow} {s : Sched} (h : VOk n l s) {i j : Nat} {c d : Cell} (hc : s.cells[i]? = some c) (hd : s.cells[j]? = some d) (hij : i ≠ j) (hs : c.slot = d.slot) : touchB c d = false := by
  rcases Nat.lt_or_gt_of_ne hij with h1 | h1
  · rw [touchB_comm]; exact h.once j i d c h1 hd hc hs
  · exact h.once i j c d h1 hc hd hs.symm
theorem VOk.sorted {n : Net} {l : List Flow} {s : Sched} (h : VOk n l s) : s.cells.Pairwise fun a b => a.cmp b < 0 := by
  refine List.pairwise_iff_getElem.2 fun i j hi hj hij => ?_
  obtain ⟨e, rfl⟩ : ∃ e, j = i + e + 1 := ⟨j - i - 1, by omega⟩
  induction e with
  | zero =>
    have := (h.cell (i + 0 + 1) _ (List.getElem?_eq_getElem hj)).2.2.2
    unfold ordC at this
    simp only [Nat.add_zero] at this
    rw [List.getElem?_eq_getElem hi] at this
    simpa using this
  | succ e ih =>
    have h1 := ih (by omega) (by omega)
    have := (h.cell (i + (e + 1) + 1) _ (List.getElem?_eq_getElem hj)).2.2.2
    unfold ordC at this
    simp only at this
    rw [List.getElem?_eq_getElem (by omega : i + (e + 1) < s.cells.length)] at this
    exact cmpL_trans h1 (of_decide_eq_true this)
theorem VOk.at {n : Net} {l : List Flow} {s : Sched} (h : VOk n l s) {c : Cell} (hc : c ∈ s.cells) : 0 ≤ c.slot ∧ c.slot < s.len ∧ 0 ≤ c.off ∧ c.off < s.offs ∧ goodL n c.src c.dst = true ∧ idsB l c.flow = true := by
  obtain ⟨i, hi⟩ := List.getElem?_of_mem hc
  obtain ⟨h1, h2, h3, _⟩ := h.cell i c hi
  simp only [placedB, insB, Bool.and_eq_true, decide_eq_true_eq] at h1
  exact ⟨h1.1.1, h1.1.2, h1.2.1, h1.2.2, h2, h3⟩
end HM

/- A valid schedule that serves requests has room for what they need: counting cells. -/
namespace HM
open Go Go.RowKit

-- windows
-- what is served
/-- served -/
def servedB (n : Net) (s : Sched) (x : Req) : Prop := ∀ r ∈ x.routes, ∃ b, boundR n s x.flow r 0 = some b ∧ b.b ≤ x.flow.dead
-- disjoint conditions
end HM

/- A valid schedule that serves requests: there is no reason against its size. -/
namespace HM
open Go Go.RowKit

structure Srv (n : Net) (q : List Req) (s : Sched) : Prop where
  ok : VOk n (flowsQ q) s
  req : (reqE n q).2 = 0
  srv : ∀ x ∈ q, servedB n s x
section
variable {n : Net} {q : List Req} {s : Sched}
theorem Srv.per (h : Srv n q s) : ∀ x ∈ q, s.len % x.flow.period = 0 := fun x hx => h.ok.per x.flow (List.mem_map.2 ⟨x, hx, rfl⟩)
theorem Srv.len (h : Srv n q s) : 1 ≤ s.len ∧ s.len ≤ 512 ∧ 1 ≤ s.offs ∧ s.offs ≤ 16 := sized_bd h.ok.size
-- each node once in a slot
theorem VOk.pairs {l : List Flow} (h : VOk n l s) : s.cells.Pairwise fun c d => c.slot = d.slot → touchB c d = false :=
  List.pairwise_iff_getElem.2 fun i j hi hj hij hs => h.apart (List.getElem?_eq_getElem hi) (List.getElem?_eq_getElem hj) (by omega) hs
-- a group
-- routes
end
end HM

/- Certificates: what a schedule does for requests. -/
namespace HM
open Go Go.RowKit

structure Claim where
  flow : Int
  routes : List (List Int)
  bounds : List Int
  worst : List Int
  slots : List (List Int)
  deriving DecidableEq
def Claim.cs (c : Claim) : List AV := [.int .i64 c.flow, encRows c.routes, encIs c.bounds, encIs c.worst, encRows c.slots]
def Claim.av (c : Claim) : AV := .agg [.int .i64 c.flow, encRows c.routes, encIs c.bounds, encIs c.worst, encRows c.slots]
def encClaims (l : List Claim) : AV := .sl false (l.map Claim.av)
def claim0 : Claim := ⟨0, [], [], [], []⟩
/-- whether a route is served -/
def srvB (n : Net) (s : Sched) (x : Req) (r : List Int) : Bool := decide ((routeM n s x.flow r).2.2.2 = 0) && decide ((routeM n s x.flow r).1 ≤ x.flow.dead)
/-- what is claimed of the first routes -/
def claimT (n : Net) (s : Sched) (x : Req) (l : List (List Int)) : Claim := ⟨x.flow.id, l, l.map fun r => (routeM n s x.flow r).1, l.map fun r => (routeM n s x.flow r).2.1, l.map fun r => (routeM n s x.flow r).2.2.1⟩
def claimB (n : Net) (s : Sched) (x : Req) : Bool := x.routes.all (srvB n s x)
def claimM (n : Net) (s : Sched) (x : Req) : Claim := if claimB n s x then claimT n s x x.routes else claim0
def lateAt (n : Net) (s : Sched) (q : List Req) (i : Nat) : Int := match q[i]? with
  | some x => if claimB n s x then 0 else 15
  | none => 0
def makeM (n : Net) (q : List Req) (s : Sched) : List Claim × Int × Int :=
  if (reqE n q).2 ≠ 0 then ([], (reqE n q).1, (reqE n q).2) else if (schedE n (flowsQ q) s).2 ≠ 0 then ([], -1, 1)
  else if (firstAt (lateAt n s q) q.length).2 ≠ 0 then ([], firstAt (lateAt n s q) q.length) else (q.map (claimM n s), -1, 0)
/-- valid schedules have their form -/
theorem VOk.form {n : Net} {l : List Flow} {s : Sched} (h : VOk n l s) : formB s = true := by
  unfold formB
  rw [h.size, decide_eq_true h.many, Bool.true_and, Bool.true_and]
  refine range_all fun i hi => ?_
  obtain ⟨c, hc⟩ := getLt hi
  obtain ⟨h1, h2, h3, h4⟩ := h.cell i c hc
  obtain ⟨p, l', e1, e2, e3, e4⟩ := findL_at (good_find h2)
  have hb := linkR_bd (h.net.link p l' e2).1
  have hn := h.net.nodes
  obtain ⟨f, hf, hid⟩ := List.any_eq_true.1 h3
  have hff : 0 ≤ f.id ∧ f.id ≤ 255 := by
    obtain ⟨k, hk⟩ := List.getElem?_of_mem hf
    have hkl := (List.getElem?_eq_some_iff.1 hk).1
    have hfl := h.flows
    unfold flowsE at hfl
    split at hfl
    · cases hfl
    split at hfl
    · cases hfl
    have g := firstAt_ok.1 hfl k hkl
    unfold flowAt at g
    rw [hk] at g
    simp only at g
    have hfx : flowE n.nodes f = 0 := by
      split at g
      · rename_i hh; exact absurd g hh
      · omega
    have := flowE_ok hfx
    omega
  simp only [beq_iff_eq] at hid
  unfold okAt
  rw [hc]
  simp only
  have hfm : formedB s c = true := by
    unfold formedB
    rw [h1]
    simp only [insB, Bool.true_and, Bool.and_eq_true, decide_eq_true_eq]
    omega
  rw [hfm, Bool.true_and]
  unfold ordC at h4
  cases i with
  | zero => rfl
  | succ j => exact h4
end HM

/- SpareBack: the places to which a cell can be moved, and back. -/
namespace HM
open Go Go.RowKit

def placeX (c : Cell) (i j : Nat) : Cell := ⟨i, j, c.src, c.dst, c.flow⟩
/-- a place to which a cell can be moved -/
def canP (n : Net) (q : List Req) (rest : Sched) (c : Cell) (i j : Nat) : Bool := !(cellEqB (placeX c i j) c) && (((addM rest (placeX c i j)).2 == 0) && ((makeM n q (addM rest (placeX c i j)).1).2.2 == 0))
def plO (n : Net) (q : List Req) (rest : Sched) (c : Cell) (i j : Nat) : List Cell := ((List.range j).filter (canP n q rest c i)).map (placeX c i)
def plS (n : Net) (q : List Req) (rest : Sched) (c : Cell) (o k : Nat) : List Cell := (List.range k).flatMap fun i => plO n q rest c i o
def plcM (n : Net) (q : List Req) (s : Sched) (c : Cell) : List Cell × Int :=
  if (makeM n q s).2.2 ≠ 0 then ([], 1) else if (remM s c).2 ≠ 0 then ([], 7)
  else if 1024 < (plS n q (remM s c).1 c s.offs.toNat s.len.toNat).length then ([], 8) else (plS n q (remM s c).1 c s.offs.toNat s.len.toNat, 0)
theorem plO_succ (n : Net) (q : List Req) (rest : Sched) (c : Cell) (i j : Nat) : plO n q rest c i (j + 1) = plO n q rest c i j ++ if canP n q rest c i j = true then [placeX c i j] else [] := by
  unfold plO
  rw [List.range_succ, List.filter_append, List.map_append]
  congr 1
  simp only [List.filter_cons, List.filter_nil]
  split <;> rfl
theorem plS_succ (n : Net) (q : List Req) (rest : Sched) (c : Cell) (o k : Nat) : plS n q rest c o (k + 1) = plS n q rest c o k ++ plO n q rest c k o := by
  simp [plS, List.range_succ]
theorem plO_len (n : Net) (q : List Req) (rest : Sched) (c : Cell) (i j : Nat) : (plO n q rest c i j).length ≤ j := by
  unfold plO
  rw [List.length_map]
  exact Nat.le_trans (List.length_filter_le _ _) (by rw [List.length_range]; exact Nat.le_refl _)
theorem plS_len (n : Net) (q : List Req) (rest : Sched) (c : Cell) (o : Nat) : ∀ k : Nat, (plS n q rest c o k).length ≤ k * o
  | 0 => by simp [plS]
  | k + 1 => by
    have := plS_len n q rest c o k
    have := plO_len n q rest c k o
    rw [plS_succ, List.length_append, Nat.add_mul]; omega
theorem plS_mem {n : Net} {q : List Req} {rest : Sched} {c x : Cell} {o k : Nat} : x ∈ plS n q rest c o k ↔ ∃ i j, i < k ∧ j < o ∧ x = placeX c i j ∧ canP n q rest c i j = true := by
  unfold plS plO
  simp only [List.mem_flatMap, List.mem_range, List.mem_map, List.mem_filter]
  constructor
  · rintro ⟨i, hi, j, ⟨hj, h⟩, rfl⟩; exact ⟨i, j, hi, hj, rfl, h⟩
  · rintro ⟨i, j, hi, hj, rfl, h⟩; exact ⟨i, hi, j, ⟨hj, h⟩, rfl⟩
theorem remM_ok {s t : Sched} {c : Cell} (h : remM s c = (t, 0)) : formB s = true ∧ c ∈ s.cells ∧ t = ⟨s.len, s.offs, s.cells.filter fun x => decide (x ≠ c)⟩ := by
  unfold remM at h
  split at h
  · simp at h
  split at h
  · simp at h
  rename_i h1 h2
  have h1' : formB s = true := by simpa using h1
  have h2' : hasC s c = true := by simpa using h2
  injection h with h5 h6
  rw [remM_filter h1' h2'] at h5
  refine ⟨h1', ?_, h5.symm⟩
  rw [hasC_mem h1'] at h2'
  simpa using h2'
theorem sorted_ext {a b : List Cell} (ha : a.Pairwise fun x y => x.cmp y < 0) (hb : b.Pairwise fun x y => x.cmp y < 0) (h : ∀ x, x ∈ a ↔ x ∈ b) : a = b :=
  strict_ext (lt := fun x y : Cell => x.cmp y < 0) (fun x hx => by have h1 : cmpL x.nums x.nums < 0 := hx; rw [cmpL_eq.2 rfl] at h1; omega) (fun x y h h' => by have h1 : cmpL x.nums y.nums < 0 := h; have h2 : cmpL y.nums x.nums < 0 := h'; have := cmpL_anti.1 h1; omega) ha hb h
/-- taking out what was put in -/
theorem rem_add {t u : Sched} {d : Cell} (h : addM t d = (u, 0)) : remM u d = (t, 0) := by
  obtain ⟨h1, h2, h3, h4, rfl⟩ := addM_ok h
  have hf := (addM_more h).2.2
  have hd : d ∉ t.cells := by rw [hasC_mem h1] at h3; simpa using h3
  have hm : d ∈ insAt t.cells (posC t d) d := insAt_mem.2 (.inl rfl)
  have hh : hasC ⟨t.len, t.offs, insAt t.cells (posC t d) d⟩ d = true := by rw [hasC_mem hf]; simpa using hm
  unfold remM
  rw [if_neg (by simp [hf]), if_neg (by simp [hh]), remM_filter hf hh]
  have : (insAt t.cells (posC t d) d).filter (fun x => decide (x ≠ d)) = t.cells := by
    refine sorted_ext ((sorted_pw hf).filter _) (sorted_pw h1) fun x => ?_
    rw [List.mem_filter, insAt_mem]
    constructor
    · rintro ⟨rfl | hx, hne⟩
      · simp at hne
      · exact hx
    · intro hx
      exact ⟨.inr hx, by rw [decide_eq_true_eq]; rintro rfl; exact hd hx⟩
  rw [this]
/-- putting in what was taken out -/
theorem add_rem {s t : Sched} {c : Cell} (h : remM s c = (t, 0)) : addM t c = (s, 0) := by
  obtain ⟨h1, h2, rfl⟩ := remM_ok h
  have hf : formB (remM s c).1 = true := remM_form (by rw [h])
  rw [h] at hf
  simp only at hf
  obtain ⟨f1, f2, f3⟩ := form_all h1
  have hn : hasC ⟨s.len, s.offs, s.cells.filter fun x => decide (x ≠ c)⟩ c = false := by
    rw [hasC_mem hf]
    simp
  have hfc := f3 c h2
  have hlen : (s.cells.filter fun x => decide (x ≠ c)).length < 512 := by
    have : (s.cells.filter fun x => decide (x ≠ c)).length < s.cells.length := by
      refine List.length_filter_lt_length_iff_exists.2 ⟨c, h2, by simp⟩
    omega
  have hins : addM ⟨s.len, s.offs, s.cells.filter fun x => decide (x ≠ c)⟩ c = (⟨s.len, s.offs, insAt (s.cells.filter fun x => decide (x ≠ c)) (posC ⟨s.len, s.offs, s.cells.filter fun x => decide (x ≠ c)⟩ c) c⟩, 0) := by
    unfold addM
    rw [if_neg (by rw [hf]; simp), if_neg (by rw [formedB_len (s := s) (t := ⟨s.len, s.offs, s.cells.filter fun x => decide (x ≠ c)⟩) rfl rfl]; simp [hfc]), if_neg (by rw [hn]; simp), if_neg (by simp only; omega)]
  have hsf := (addM_more hins).2.2
  rw [hins]
  have : insAt (s.cells.filter fun x => decide (x ≠ c)) (posC ⟨s.len, s.offs, s.cells.filter fun x => decide (x ≠ c)⟩ c) c = s.cells := by
    refine sorted_ext (sorted_pw hsf) (sorted_pw h1) fun x => ?_
    rw [insAt_mem, List.mem_filter]
    constructor
    · rintro (rfl | ⟨hx, _⟩)
      · exact h2
      · exact hx
    · intro hx
      by_cases hxc : x = c
      · exact .inl hxc
      · exact .inr ⟨hx, by simpa using hxc⟩
  rw [this]
/-- THE LAW -/
theorem back_law {n : Net} {q : List Req} {s : Sched} {c d : Cell} (hl : s.len ≤ 24) (h0 : (plcM n q s c).2 = 0) (hd : d ∈ (plcM n q s c).1) :
    (remM s c).2 = 0 ∧ (addM (remM s c).1 d).2 = 0 ∧ (makeM n q (addM (remM s c).1 d).1).2.2 = 0 ∧ (plcM n q (addM (remM s c).1 d).1 d).2 = 0 ∧ c ∈ (plcM n q (addM (remM s c).1 d).1 d).1 ∧ d.src = c.src ∧ d.dst = c.dst ∧ d.flow = c.flow ∧ d ≠ c := by
  unfold plcM at h0 hd
  split at h0
  · cases h0
  rename_i hm
  rw [if_neg hm] at hd
  split at h0
  · cases h0
  rename_i hr
  rw [if_neg hr] at hd
  split at h0
  · cases h0
  rename_i hb
  rw [if_neg hb] at hd
  have hm' : (makeM n q s).2.2 = 0 := by simpa using hm
  have hr' : (remM s c).2 = 0 := by simpa using hr
  obtain ⟨t, ht⟩ : ∃ t, t = (remM s c).1 := ⟨_, rfl⟩
  have hrt : remM s c = (t, 0) := Prod.ext ht.symm hr'
  rw [hrt] at hd ⊢
  simp only at hd ⊢
  obtain ⟨i, j, hi, hj, rfl, hc⟩ := plS_mem.1 hd
  simp only [canP, Bool.and_eq_true, Bool.not_eq_true', beq_iff_eq] at hc
  obtain ⟨hne, ha, hmk⟩ := hc
  have hne' : placeX c i j ≠ c := fun e => by rw [cellEqB_iff.2 e] at hne; cases hne
  obtain ⟨u, hu⟩ : ∃ u, u = (addM t (placeX c i j)).1 := ⟨_, rfl⟩
  have hat : addM t (placeX c i j) = (u, 0) := Prod.ext hu.symm ha
  rw [hat] at hmk ⊢
  simp only at hmk ⊢
  obtain ⟨g1, g2, g3⟩ := remM_ok hrt
  obtain ⟨f1, f2, f3⟩ := form_all g1
  obtain ⟨k1, k2, k3, k4, k5⟩ := addM_ok hat
  have hul : u.len = s.len ∧ u.offs = s.offs := by rw [k5, g3]; exact ⟨rfl, rfl⟩
  have hsb := sized_bd f1
  have hcf := f3 c g2
  have hin : 0 ≤ c.slot ∧ c.slot < s.len ∧ 0 ≤ c.off ∧ c.off < s.offs := by
    simp only [formedB, placedB, insB, Bool.and_eq_true, decide_eq_true_eq] at hcf
    omega
  have hmem : c ∈ plS n q t (placeX c i j) u.offs.toNat u.len.toNat := by
    refine plS_mem.2 ⟨c.slot.toNat, c.off.toNat, by rw [hul.1]; omega, by rw [hul.2]; omega, ?_, ?_⟩
    · cases c
      simp only [placeX, Cell.mk.injEq, and_true]
      simp only at hin
      omega
    · have hx : placeX (placeX c i j) c.slot.toNat c.off.toNat = c := by
        cases c
        simp only [placeX, Cell.mk.injEq, and_true]
        simp only at hin
        omega
      simp only [canP, Bool.and_eq_true, Bool.not_eq_true', beq_iff_eq]
      rw [hx, add_rem hrt]
      refine ⟨?_, rfl, hm'⟩
      cases hce : cellEqB c (placeX c i j) with
      | false => rfl
      | true => exact absurd (cellEqB_iff.1 hce).symm hne'
  have hlen := plS_len n q t (placeX c i j) u.offs.toNat u.len.toNat
  have hlen2 : u.len.toNat * u.offs.toNat ≤ 24 * 16 := Nat.mul_le_mul (by rw [hul.1]; omega) (by rw [hul.2]; omega)
  have hP : plcM n q u (placeX c i j) = (plS n q t (placeX c i j) u.offs.toNat u.len.toNat, 0) := by
    unfold plcM
    rw [if_neg (by simpa using hmk), rem_add hat, if_neg (by simp), if_neg (by simp only; omega)]
  rw [hP]
  exact ⟨trivial, trivial, hmk, rfl, hmem, rfl, rfl, rfl, hne'⟩
theorem plcM_bad {n : Net} {q : List Req} {s : Sched} {c : Cell} (h : (plcM n q s c).2 ≠ 0) : (plcM n q s c).1 = [] := by
  unfold plcM at h ⊢
  split
  · rfl
  · rename_i g
    rw [if_neg g] at h
    split
    · rfl
    · rename_i g2
      rw [if_neg g2] at h
      split
      · rfl
      · rename_i g3
        rw [if_neg g3] at h
        exact absurd rfl h
theorem plcM_len (n : Net) (q : List Req) (s : Sched) (c : Cell) : (plcM n q s c).1.length ≤ 1024 := by
  unfold plcM
  split
  · simp
  split
  · simp
  split
  · simp
  · simp only; omega
end HM

/- Cells of a slot together: the order does not matter (AdmitRoom). -/
namespace HM
open Go Go.RowKit

def distC (n : Net) (rest : List Cell) (node : Int) : Int := sumW (fun d : Cell => powN n d.src node + powN n d.dst node) rest
theorem erase_take {α : Type} {l : List α} {k i : Nat} {x : α} (h : l[k]? = some x) : (l.take (k + 1)).eraseIdx i = (l.take k).eraseIdx i ++ if k = i then [] else [x] := by
  rw [take_succ h]
  have hk : k < l.length := (List.getElem?_eq_some_iff.1 h).1
  have hl : (l.take k).length = k := by rw [List.length_take]; omega
  rcases Nat.lt_trichotomy k i with hlt | rfl | hgt
  · rw [List.eraseIdx_of_length_le (by rw [List.length_append, hl]; simp; omega), List.eraseIdx_of_length_le (by omega), if_neg (by omega)]
  · rw [List.eraseIdx_append_of_length_le (by omega), hl, List.eraseIdx_of_length_le (l := l.take k) (by omega), if_pos rfl]; simp
  · rw [List.eraseIdx_append_of_lt_length (by omega), if_neg (by omega)]
theorem distU_rest (n : Net) (cs : List Cell) (i : Nat) (node : Int) : ∀ k : Nat, k ≤ cs.length → distU n cs i node k = distC n ((cs.take k).eraseIdx i) node
  | 0, _ => by simp [distU, distC, sumW]
  | k + 1, hk => by
    obtain ⟨x, hx⟩ := getLt (l := cs) (k := k) (by omega)
    rw [distU_succ, distU_rest n cs i node k (by omega), erase_take hx]
    unfold distC distAt
    rw [sumW_app, hx]
    simp only
    congr 1
    split
    · rfl
    · simp [sumW]
theorem distM_rest (n : Net) (cs : List Cell) (i : Nat) (node : Int) : distM n cs i node = distC n (cs.eraseIdx i) node := by
  unfold distM
  rw [distU_rest n cs i node _ (Nat.le_refl _), List.take_length]
end HM

/- AdmitRoom: where there is room; dropping a flow. -/
namespace HM
open Go Go.RowKit

end HM

/- A valid schedule with one cell more is valid where there is room (AdmitFills). -/
namespace HM
open Go Go.RowKit

def AllRest {α : Type} (P : α → List α → Prop) (cs : List α) : Prop := ∀ (i : Nat) c, cs[i]? = some c → P c (cs.eraseIdx i)
theorem erase_perm {α : Type} {cs : List α} {i : Nat} {c : α} (h : cs[i]? = some c) : cs.Perm (c :: cs.eraseIdx i) := by
  obtain ⟨hi, rfl⟩ := List.getElem?_eq_some_iff.1 h
  rw [List.eraseIdx_eq_take_drop_succ]
  have e : cs = cs.take i ++ cs[i] :: cs.drop (i + 1) := by rw [← List.drop_eq_getElem_cons hi, List.take_append_drop]
  exact (List.Perm.of_eq e).trans List.perm_middle
theorem AllRest.perm {α : Type} {P : α → List α → Prop} (hP : ∀ c r r', r.Perm r' → P c r → P c r') {cs cs' : List α} (h : AllRest P cs) (hp : cs.Perm cs') : AllRest P cs' := fun j c hj => by
  obtain ⟨i, hi⟩ := List.getElem?_of_mem (hp.mem_iff.2 (List.mem_of_getElem? hj))
  refine hP c _ _ ?_ (h i c hi)
  exact List.Perm.cons_inv ((erase_perm hi).symm.trans (hp.trans (erase_perm hj)))
/-- a cell is heard, by both, among others -/
def heardC (n : Net) (c : Cell) (rest : List Cell) : Prop := heardB n (marginAt n c.src c.dst) (distC n rest c.dst) = true ∧ heardB n (marginAt n c.dst c.src) (distC n rest c.src) = true
theorem filter_erase {α : Type} {p : α → Bool} {cs : List α} {i : Nat} {c : α} (h : cs[i]? = some c) (hp : p c = true) : (cs.filter p).eraseIdx ((cs.take i).filter p).length = (cs.eraseIdx i).filter p ∧ (cs.filter p)[((cs.take i).filter p).length]? = some c := by
  obtain ⟨hi, rfl⟩ := List.getElem?_eq_some_iff.1 h
  have e : cs.filter p = (cs.take i).filter p ++ cs[i] :: (cs.drop (i + 1)).filter p := by
    have e0 : cs = cs.take i ++ cs[i] :: cs.drop (i + 1) := by rw [← List.drop_eq_getElem_cons hi, List.take_append_drop]
    conv => lhs; rw [e0]
    rw [List.filter_append, List.filter_cons, if_pos hp]
  rw [e]
  refine ⟨?_, by simp⟩
  rw [List.eraseIdx_append_of_length_le (Nat.le_refl _), Nat.sub_self, List.eraseIdx_cons_zero, List.eraseIdx_eq_take_drop_succ, List.filter_append]
theorem disturb_iff {n : Net} {cs : List Cell} {i : Nat} {c : Cell} (h : cs[i]? = some c) : disturbB n cs i = false ↔ heardC n c ((cs.eraseIdx i).filter (shareB c)) := by
  have hs : shareB c c = true := by unfold shareB; simp
  have := (filter_erase (p := shareB c) h hs).1
  unfold disturbB heardC
  rw [h]
  simp only [distM_rest, shareL, shareAt]
  rw [this]
  simp
/-- what a cell of a valid schedule is to the others -/
def cellR2 (n : Net) (c : Cell) (rest : List Cell) : Prop := (∀ d ∈ rest, d.slot = c.slot → touchB c d = false) ∧ heardC n c (rest.filter (shareB c))
theorem VOk.rest {n : Net} {l : List Flow} {s : Sched} (h : VOk n l s) : AllRest (cellR2 n) s.cells := fun i c hc => by
  refine ⟨fun d hd hs => ?_, (disturb_iff hc).1 (h.heard i (List.getElem?_eq_some_iff.1 hc).1)⟩
  obtain ⟨j, hj⟩ := List.getElem?_of_mem hd
  rw [List.getElem?_eraseIdx] at hj
  split at hj
  · exact h.apart hc hj (by omega) hs.symm
  · exact h.apart hc hj (by omega) hs.symm
end HM
