/- Runs and changes in plain words. -/
import Derived.Test.YtnckbcjkmbhgbaaGreatDoorDa
import Derived.Test.YtnckbcjkmbhgbaaGreatDoorFh
/- Steps of lists that are run through: pairs, words, parts. -/
namespace HM
open Go Go.RowKit
theorem gL_len (al : List Link) (g : List Nat) : (gL al g).length = g.length := by simp [gL]
theorem range_sub {k m : Nat} (h : k ≤ m) : List.Sublist (List.range k) (List.range m) := by
  obtain ⟨d, rfl⟩ := Nat.exists_eq_add_of_le h
  rw [List.range_add]
  exact List.sublist_append_left _ _
theorem range_cat {g s : List Nat} {k r : Nat} (hg : List.Sublist g (List.range k)) (hs : List.Sublist s (List.range' k r)) : List.Sublist (g ++ s) (List.range (k + r)) := by
  have e : List.range (k + r) = List.range k ++ List.range' k r := by
    rw [List.range_add]
    congr 1
    rw [List.range'_eq_map_range]
  rw [e]
  exact hg.append hs
theorem loopG_keep (tg : Nat → Nat → Bool) (w : List Nat → Int) (P : List Nat → Prop) : ∀ (r g b : List Nat), P b → (∀ s, List.Sublist s r → P (g ++ s)) → P (loopG tg w r g b)
  | [], _, _, h, _ => h
  | x :: r, g, b, h, hs => by
    unfold loopG
    refine loopG_keep tg w P r g _ ?_ fun s h1 => hs s (h1.cons x)
    split
    · exact h
    · refine loopG_keep tg w P r (g ++ [x]) _ ?_ fun s h1 => ?_
      · unfold pickF
        split
        · exact hs [x] (by simp)
        · exact h
      · have := hs (x :: s) (h1.cons_cons x)
        rw [List.append_assoc]; exact this
theorem loopG_subs {tg : Nat → Nat → Bool} {w : List Nat → Int} {g b : List Nat} {k r : Nat} (hg : List.Sublist g (List.range k)) (hb : List.Sublist b (List.range (k + r))) : List.Sublist (loopG tg w (List.range' k r) g b) (List.range (k + r)) :=
  loopG_keep tg w (fun l => List.Sublist l (List.range (k + r))) _ _ _ hb fun _ hs => range_cat hg hs
theorem sub_snoc {g : List Nat} {i : Nat} (h : List.Sublist g (List.range i)) : List.Sublist (g ++ [i]) (List.range (i + 1)) := by
  rw [List.range_succ]
  exact h.append (List.Sublist.refl _)
theorem filter_succ {α : Type} (p : α → Bool) {l : List α} {k : Nat} {x : α} (h : l[k]? = some x) : (l.take (k + 1)).filter p = if p x then (l.take k).filter p ++ [x] else (l.take k).filter p := by
  rw [take_succ h, List.filter_append]
  split
  · rename_i hp; rw [List.filter_cons_of_pos hp]; rfl
  · rename_i hp; rw [List.filter_cons_of_neg hp, List.filter_nil, List.append_nil]
end HM

/- Hyperperiods; the least length without a reason. -/
namespace HM
open Go Go.RowKit

theorem flowsE_per {nodes : Int} {l : List Flow} (h : (flowsE nodes l).2 = 0) : ∀ f ∈ l, 1 ≤ f.period ∧ f.period ≤ 512 := by
  intro f hf
  obtain ⟨k, hk⟩ := List.getElem?_of_mem hf
  have hkl := (List.getElem?_eq_some_iff.1 hk).1
  unfold flowsE at h
  split at h
  · cases h
  split at h
  · cases h
  have h3 := firstAt_ok.1 h k hkl
  unfold flowAt at h3
  rw [hk] at h3
  simp only at h3
  have hfx : flowE nodes f = 0 := by
    split at h3
    · rename_i hh; exact absurd h3 hh
    · omega
  have := flowE_ok hfx
  omega
-- the least length
def reasonG (n : Net) (q : List Req) (len offs : Int) : Rsn × Bool × Int := reasonM n q len offs (grpO n q len offs)
end HM

/- What a reason that was found is like. -/
namespace HM
open Go Go.RowKit
end HM

/- What the reference's check of a reason says. -/
namespace HM
open Go Go.RowKit
end HM

/- The group that the reference finds. -/
namespace HM
open Go Go.RowKit
end HM

/- Whether a schedule is valid. -/
namespace HM
open Go Go.RowKit

def idsB (l : List Flow) (id : Int) : Bool := l.any fun f => f.id == id
def ordC (cs : List Cell) (i : Nat) (c : Cell) : Bool := match i with
  | 0 => true
  | j + 1 => match cs[j]? with
    | some p => decide (p.cmp c < 0)
    | none => true
/-- the fault of a cell on its own -/
def cellF (n : Net) (l : List Flow) (s : Sched) (i : Nat) : Int := match s.cells[i]? with
  | none => 0
  | some c => if placedB s c = false then 2 else if goodL n c.src c.dst = false ∨ idsB l c.flow = false then 7 else if ordC s.cells i c = false then 5 else 0
def twAt (cs : List Cell) (c : Cell) (k : Nat) : Bool := match cs[k]? with
  | some d => d.slot == c.slot && touchB c d
  | none => false
def twiceM (cs : List Cell) (i : Nat) : Bool := match cs[i]? with
  | none => false
  | some c => (List.range i).any (twAt cs c)
def shareB (c d : Cell) : Bool := d.slot == c.slot && d.off == c.off
def shareL (cs : List Cell) (c : Cell) : List Cell := cs.filter (shareB c)
def shareAt (cs : List Cell) (c : Cell) (i : Nat) : Nat := ((cs.take i).filter (shareB c)).length
def disturbB (n : Net) (cs : List Cell) (i : Nat) : Bool := match cs[i]? with
  | none => false
  | some c => !heardB n (marginAt n c.src c.dst) (distM n (shareL cs c) (shareAt cs c i) c.dst) || !heardB n (marginAt n c.dst c.src) (distM n (shareL cs c) (shareAt cs c i) c.src)
def twI (cs : List Cell) (i : Nat) : Int := if twiceM cs i then 6 else 0
def dsI (n : Net) (cs : List Cell) (i : Nat) : Int := if disturbB n cs i then 16 else 0
def mism (s : Sched) (f : Flow) : Bool := s.len % f.period != 0
def schedE (n : Net) (l : List Flow) (s : Sched) : Int × Int :=
  if netE n ≠ 0 ∨ (flowsE n.nodes l).2 ≠ 0 then (-1, 1) else if sizedB s = false then (-1, 2) else if l.any (mism s) then (-1, 11) else if 512 < s.cells.length then (-1, 8)
  else if (firstAt (cellF n l s) s.cells.length).2 ≠ 0 then firstAt (cellF n l s) s.cells.length
  else if (firstAt (twI s.cells) s.cells.length).2 ≠ 0 then firstAt (twI s.cells) s.cells.length
  else firstAt (dsI n s.cells) s.cells.length
/-- valid -/
structure VOk (n : Net) (l : List Flow) (s : Sched) : Prop where
  net : NetOk n
  n0 : netE n = 0
  flows : (flowsE n.nodes l).2 = 0
  size : sizedB s = true
  per : ∀ f ∈ l, s.len % f.period = 0
  many : s.cells.length ≤ 512
  cell : ∀ (i : Nat) c, s.cells[i]? = some c → placedB s c = true ∧ goodL n c.src c.dst = true ∧ idsB l c.flow = true ∧ ordC s.cells i c = true
  once : ∀ (i j : Nat) c d, j < i → s.cells[i]? = some c → s.cells[j]? = some d → d.slot = c.slot → touchB c d = false
  heard : ∀ (i : Nat), i < s.cells.length → disturbB n s.cells i = false
theorem schedE_ok {n : Net} {l : List Flow} {s : Sched} (h : (schedE n l s).2 = 0) : VOk n l s := by
  unfold schedE at h
  split at h
  · cases h
  rename_i h1
  split at h
  · cases h
  rename_i h2
  split at h
  · cases h
  rename_i h3
  split at h
  · cases h
  rename_i h4
  split at h
  · rename_i hh; exact absurd h hh
  rename_i h5
  split at h
  · rename_i hh; exact absurd h hh
  rename_i h6
  have h5 : (firstAt (cellF n l s) s.cells.length).2 = 0 := by omega
  have h6 : (firstAt (twI s.cells) s.cells.length).2 = 0 := by omega
  rw [firstAt_ok] at h5 h6 h
  refine ⟨netE_ok (by omega), by omega, by omega, by simpa using h2, fun f hf => ?_, by omega, fun i c hc => ?_, fun i j c d hji hc hd hs => ?_, fun i hi => ?_⟩
  · have := List.any_eq_false.1 (by simpa using h3) f hf
    simpa [mism] using this
  · have := h5 i (List.getElem?_eq_some_iff.1 hc).1
    unfold cellF at this
    rw [hc] at this
    simp only at this
    split at this
    · cases this
    rename_i g1
    split at this
    · cases this
    rename_i g2
    split at this
    · cases this
    rename_i g3
    simp only [not_or, Bool.not_eq_false] at g1 g2 g3
    exact ⟨g1, g2.1, g2.2, g3⟩
  · have := h6 i (List.getElem?_eq_some_iff.1 hc).1
    unfold twI twiceM at this
    rw [hc] at this
    simp only at this
    split at this
    · cases this
    rename_i g
    have g2 := List.any_eq_false.1 (Bool.eq_false_iff.2 g) j (by simpa using hji)
    unfold twAt at g2
    rw [hd] at g2
    cases ht : touchB c d with
    | false => rfl
    | true => simp [hs, ht] at g2
  · have := h i hi
    unfold dsI at this
    split at this
    · cases this
    · rename_i g; simpa using g
theorem touchB_comm (a b : Cell) : touchB a b = touchB b a := by
  unfold touchB
  rw [Bool.eq_iff_iff]
  simp only [Bool.or_eq_true, beq_iff_eq]
  constructor
  · rintro (((h | h) | h) | h) <;> simp [h]
  · rintro (((h | h) | h) | h) <;> simp [h]
theorem VOk.apart {n : Net} {l : List Flow} {s : Sched} (h : VOk n l s) {i j : Nat} {c d : Cell} (hc : s.cells[i]? = some c) (hd : s.cells[j]? = some d) (hij : i ≠ j) (hs : c.slot = d.slot) : touchB c d = false := by
  rcases Nat.lt_or_gt_of_ne hij with h1 | h1
  · rw [touchB_comm]; exact h.once j i d c h1 hd hc hs
  · exact h.once i j c d h1 hc hd hs.symm
theorem VOk.sorted {n : Net} {l : List Flow} {s : Sched} (h : VOk n l s) : s.cells.Pairwise fun a b => a.cmp b < 0 := by
  refine List.pairwise_iff_getElem.2 fun i j hi hj hij => ?_
  obtain ⟨e, rfl⟩ : ∃ e, j = i + e + 1 := ⟨j - i - 1, by omega⟩
  induction e with
  | zero =>
    have := (h.cell (i + 0 + 1) _ (List.getElem?_eq_getElem hj)).2.2.2
    unfold ordC at this
    simp only [Nat.add_zero] at this
    rw [List.getElem?_eq_getElem hi] at this
    simpa using this
  | succ e ih =>
    have h1 := ih (by omega) (by omega)
    have := (h.cell (i + (e + 1) + 1) _ (List.getElem?_eq_getElem hj)).2.2.2
    unfold ordC at this
    simp only at this
    rw [List.getElem?_eq_getElem (by omega : i + (e + 1) < s.cells.length)] at this
    exact cmpL_trans h1 (of_decide_eq_true this)
theorem VOk.at {n : Net} {l : List Flow} {s : Sched} (h : VOk n l s) {c : Cell} (hc : c ∈ s.cells) : 0 ≤ c.slot ∧ c.slot < s.len ∧ 0 ≤ c.off ∧ c.off < s.offs ∧ goodL n c.src c.dst = true ∧ idsB l c.flow = true := by
  obtain ⟨i, hi⟩ := List.getElem?_of_mem hc
  obtain ⟨h1, h2, h3, _⟩ := h.cell i c hi
  simp only [placedB, insB, Bool.and_eq_true, decide_eq_true_eq] at h1
  exact ⟨h1.1.1, h1.1.2, h1.2.1, h1.2.2, h2, h3⟩
end HM

/- A valid schedule that serves requests has room for what they need: counting cells. -/
namespace HM
open Go Go.RowKit

-- windows
theorem allS_add (cs : List Cell) (len a : Int) (d : Nat) : ∀ e : Nat, allS cs len a (d + e) = allS cs len a d ++ allS cs len (a + d) e
  | 0 => by simp [allS]
  | e + 1 => by
    rw [show d + (e + 1) = d + e + 1 from rfl]
    simp only [allS]
    rw [allS_add cs len a d e, List.append_assoc, show a + ((d + e : Nat) : Int) = a + (d : Int) + (e : Int) by omega]
theorem allS_cons (c : Cell) (cs : List Cell) (len a : Int) : ∀ d : Nat, (allS (c :: cs) len a d).length = (allS [c] len a d).length + (allS cs len a d).length
  | 0 => rfl
  | d + 1 => by
    simp only [allS, List.length_append, List.length_map]
    rw [allS_cons c cs len a d]
    simp only [List.filter_cons]
    cases h : (c.slot == (a + d) % len)
    · simp; omega
    · simp; omega
theorem slot_when {s a len : Int} {e : Nat} (h0 : 0 ≤ s) (h1 : s < len) (he : (e : Int) < len) : s = (a + e) % len ↔ (e : Int) = (s - a) % len := by
  constructor
  · intro h
    rw [Int.emod_def] at h
    have : s - a = e + len * (-((a + e) / len)) := by rw [Int.mul_neg]; omega
    rw [this, Int.add_mul_emod_self_left, Int.emod_eq_of_lt (by omega) he]
  · intro h
    rw [Int.emod_def] at h
    have : a + e = s + len * (-((s - a) / len)) := by rw [Int.mul_neg]; omega
    rw [this, Int.add_mul_emod_self_left, Int.emod_eq_of_lt h0 h1]
theorem allS_one {c : Cell} {len a : Int} (h0 : 0 ≤ c.slot) (h1 : c.slot < len) : ∀ d : Nat, (d : Int) ≤ len → (allS [c] len a d).length = if (c.slot - a) % len < d then 1 else 0
  | 0, _ => by
    have := Int.emod_nonneg (c.slot - a) (show len ≠ 0 by omega)
    rw [if_neg (by omega)]; rfl
  | d + 1, h => by
    simp only [allS, List.length_append, List.length_map]
    rw [allS_one h0 h1 d (by omega)]
    have hw := slot_when (a := a) (e := d) h0 h1 (by omega)
    by_cases e : c.slot = (a + d) % len
    · rw [List.filter_cons_of_pos (by simpa using e)]
      have := hw.1 e
      rw [if_neg (by omega), if_pos (by omega)]; rfl
    · rw [List.filter_cons_of_neg (by simpa using e)]
      have : ¬ (d : Int) = (c.slot - a) % len := fun h => e (hw.2 h)
      simp only [List.filter_nil, List.length_nil]
      by_cases g : (c.slot - a) % len < d
      · rw [if_pos g, if_pos (by omega)]
      · rw [if_neg g, if_neg (by omega)]
theorem allS_full {len : Int} (a : Int) (hl : 0 ≤ len) : ∀ (cs : List Cell), (∀ c ∈ cs, 0 ≤ c.slot ∧ c.slot < len) → (allS cs len a len.toNat).length = cs.length
  | [], _ => by
    suffices ∀ d, (allS [] len a d).length = 0 from this _
    intro d
    induction d with
    | zero => rfl
    | succ d ih => simp only [allS, List.length_append, ih]; rfl
  | c :: cs, h => by
    obtain ⟨h1, h2⟩ := h c (by simp)
    have := Int.emod_lt_of_pos (c.slot - a) (show 0 < len by omega)
    rw [allS_cons, allS_one h1 h2 _ (by omega), if_pos (by omega), allS_full a hl cs fun d hd => h d (List.mem_cons_of_mem _ hd), List.length_cons]
    omega
theorem allS_wins {cs : List Cell} {len a : Int} {p m : Nat} : ∀ K : Nat, (∀ k, k < K → m ≤ (allS cs len (a + (k * p : Nat)) p).length) → K * m ≤ (allS cs len a (K * p)).length
  | 0, _ => by simp
  | K + 1, h => by
    have h1 := allS_wins K fun k hk => h k (by omega)
    have h2 := h K (by omega)
    rw [show (K + 1) * p = K * p + p from Nat.succ_mul K p, allS_add, List.length_append, Nat.succ_mul]
    omega
-- what is served
theorem bound_all {n : Net} {s : Sched} {f : Flow} {r : List Int} {more : Int} : ∀ {K : Nat} {x : Bnd}, boundUp n s f r more K = some x → ∀ k : Nat, k < K → ∃ b l, relR n s f r more (f.phase + k * f.period) = some (b, l) ∧ b ≤ x.b
  | 0, _, _, k, hk => by omega
  | K + 1, x, h, k, hk => by
    cases hb : boundUp n s f r more K with
    | none => rw [boundUp, hb] at h; cases h
    | some y =>
      cases hr : relR n s f r more (f.phase + K * f.period) with
      | none => rw [boundUp, hb, hr] at h; cases h
      | some z =>
        obtain ⟨b, l⟩ := z
        have h2 := boundUp_some hb hr
        rw [h2] at h
        injection h with h
        have hle : y.b ≤ x.b ∧ b ≤ x.b := by
          split at h
          · subst h; simp only; omega
          · subst h; omega
        rcases Nat.lt_succ_iff_lt_or_eq.1 hk with hlt | rfl
        · obtain ⟨b', l', h3, h4⟩ := bound_all hb k hlt
          exact ⟨b', l', h3, by omega⟩
        · exact ⟨b, l, hr, hle.2⟩
theorem slots_need {n : Net} {s : Sched} {f : Flow} {r : List Int} {rel : Int} (hp : 0 ≤ f.period) : ∀ {k : Nat} {o : List Int} {a : Int}, slotsUp n s f r rel 0 k = some (o, a) → ∀ i, i < k → needAt n r 0 i ≤ (allS (cellsL s f (r.getD i 0) (r.getD (i + 1) 0)) s.len rel f.period.toNat).length
  | 0, _, _, _, i, hi => by omega
  | k + 1, o, a, h, i, hi => by
    unfold slotsUp at h
    split at h
    · cases h
    · rename_i o' a' h'
      obtain ⟨_, h2, h3, _⟩ := slotsUp_ok hp h'
      simp only at h
      split at h
      · cases h
      · rename_i hlen
        rcases Nat.lt_succ_iff_lt_or_eq.1 hi with hlt | rfl
        · exact slots_need hp h' i hlt
        · unfold slotsOn at hlen
          rw [List.length_take] at hlen
          have e : allS (cellsL s f (r.getD i 0) (r.getD (i + 1) 0)) s.len rel f.period.toNat = allS (cellsL s f (r.getD i 0) (r.getD (i + 1) 0)) s.len rel (a' - rel).toNat ++ allS (cellsL s f (r.getD i 0) (r.getD (i + 1) 0)) s.len a' (rel + f.period - a').toNat := by
            have := allS_add (cellsL s f (r.getD i 0) (r.getD (i + 1) 0)) s.len rel (a' - rel).toNat (rel + f.period - a').toNat
            rw [show (a' - rel).toNat + (rel + f.period - a').toNat = f.period.toNat by omega, show rel + ((a' - rel).toNat : Int) = a' by omega] at this
            exact this
          rw [e, List.length_append]
          omega
theorem linkAt_lnk (n : Net) (r : List Int) (i : Nat) : linkAt n r i = lnkAt n (r.getD i 0) (r.getD (i + 1) 0) := by
  unfold linkAt lnkAt
  exact (List.getD_eq_getElem?_getD ..).symm
/-- served -/
def servedB (n : Net) (s : Sched) (x : Req) : Prop := ∀ r ∈ x.routes, ∃ b, boundR n s x.flow r 0 = some b ∧ b.b ≤ x.flow.dead
theorem rel_some {n : Net} {s : Sched} {x : Req} (hx : ReqOk n x) (hper : s.len % x.flow.period = 0) {r : List Int} {b : Bnd} (hb : boundR n s x.flow r 0 = some b) {k : Nat} (hk : ((k : Int) + 1) * x.flow.period ≤ s.len) : ∃ b' l, relR n s x.flow r 0 (x.flow.phase + k * x.flow.period) = some (b', l) ∧ b' ≤ b.b := by
  have hf := flowE_ok hx.flow
  refine bound_all hb k ((relsN_lt (by omega)).2 ?_)
  rw [Int.add_mul] at hk
  omega
theorem needC_cells {n : Net} {s : Sched} {x : Req} (hok : NetOk n) (hx : ReqOk n x) (hl : 0 ≤ s.len) (hper : s.len % x.flow.period = 0) (hs : servedB n s x) (hpl : ∀ c ∈ s.cells, 0 ≤ c.slot ∧ c.slot < s.len) {l : Link} (hln : l ∈ n.links) (hu : usesQ x l.src l.dst = true) : needC s.len x l ≤ (cellsL s x.flow l.src l.dst).length := by
  have hf := flowE_ok hx.flow
  unfold usesQ at hu
  obtain ⟨r, hr, hu⟩ := List.any_eq_true.1 hu
  unfold usesR at hu
  obtain ⟨i, hi, hu⟩ := List.any_eq_true.1 hu
  simp only [Bool.and_eq_true, beq_iff_eq] at hu
  obtain ⟨e1, e2⟩ := hu
  have hi : i < r.length - 1 := by simpa using hi
  obtain ⟨b, hb, _⟩ := hs r hr
  obtain ⟨m, hm⟩ := Int.dvd_of_emod_eq_zero hper
  obtain ⟨p, hp⟩ : ∃ p : Nat, x.flow.period = p := ⟨x.flow.period.toNat, by omega⟩
  have hm0 : 0 ≤ m := by
    rcases Int.lt_or_le m 0 with h | h
    · have := Int.mul_neg_of_pos_of_neg (show 0 < x.flow.period by omega) h
      omega
    · exact h
  obtain ⟨M, rfl⟩ : ∃ M : Nat, m = M := ⟨m.toNat, by omega⟩
  have hneed : needAt n r 0 i = (l.loss + 1).toNat := by
    unfold needAt
    rw [linkAt_lnk, e1, e2, lnkAt_self hok hln, Int.add_zero]
  have hb2 : 0 ≤ l.loss := by
    obtain ⟨j, hj⟩ := List.getElem?_of_mem hln
    have := linkR_bd (hok.link j l hj).1
    omega
  have hwin : ∀ k, k < M → (l.loss + 1).toNat ≤ (allS (cellsL s x.flow l.src l.dst) s.len (x.flow.phase + (k * p : Nat)) p).length := fun k hk => by
    obtain ⟨b', l', h1, _⟩ := rel_some hx hper hb (k := k) (by
      rw [hm, Int.mul_comm]
      exact Int.mul_le_mul_of_nonneg_left (by omega) (by omega))
    unfold relR slotsW at h1
    cases hsu : slotsUp n s x.flow r (x.flow.phase + k * x.flow.period) 0 (r.length - 1) with
    | none => rw [hsu] at h1; cases h1
    | some z =>
      obtain ⟨o, a⟩ := z
      have := slots_need (by omega) hsu i hi
      rw [hneed, e1, e2] at this
      rw [hp, Int.toNat_natCast] at this
      rw [show ((k * p : Nat) : Int) = (k : Int) * (p : Int) from Int.natCast_mul k p]
      exact this
  have h1 := allS_wins M hwin
  have h2 := allS_full x.flow.phase hl (cellsL s x.flow l.src l.dst) fun c hc => hpl c (List.mem_filter.1 hc).1
  have hlen : s.len.toNat = M * p := by rw [hm, hp, ← Int.natCast_mul, Int.toNat_natCast, Nat.mul_comm]
  rw [hlen] at h2
  rw [h2] at h1
  have h3 : needC s.len x l = (M * (l.loss + 1).toNat : Nat) := by
    unfold needC
    rw [hm, show (l.loss + 1) * (x.flow.period * (M : Int)) = x.flow.period * ((l.loss + 1) * M) by ac_rfl, Int.mul_ediv_cancel_left _ (by omega), Int.natCast_mul, Int.toNat_of_nonneg (by omega), Int.mul_comm]
  rw [h3]
  exact Int.ofNat_le.2 h1
-- disjoint conditions
theorem filt_or {α : Type} {p q : α → Bool} : ∀ {cs : List α}, (∀ c ∈ cs, p c = true → q c = false) → (cs.filter fun c => p c || q c).length = (cs.filter p).length + (cs.filter q).length
  | [], _ => rfl
  | c :: cs, h => by
    have ih := filt_or (p := p) (q := q) (cs := cs) fun d hd => h d (List.mem_cons_of_mem _ hd)
    have hc := h c (by simp)
    simp only [List.filter_cons]
    cases h1 : p c with
    | true => rw [hc h1]; simp only [Bool.true_or, if_true, List.length_cons, ih]; simp; omega
    | false =>
      cases h2 : q c with
      | true => simp only [Bool.or_true, if_true, List.length_cons, ih]; simp; omega
      | false => simpa using ih
theorem filt_mono {α : Type} {p q : α → Bool} : ∀ {cs : List α}, (∀ c ∈ cs, p c = true → q c = true) → (cs.filter p).length ≤ (cs.filter q).length
  | [], _ => Nat.le_refl _
  | c :: cs, h => by
    have ih := filt_mono (p := p) (q := q) (cs := cs) fun d hd => h d (List.mem_cons_of_mem _ hd)
    have hc := h c (by simp)
    simp only [List.filter_cons]
    cases h1 : p c with
    | true => rw [hc h1]; simpa using ih
    | false => cases h2 : q c <;> simp <;> omega
theorem filt_sum {α β : Type} {P : β → α → Bool} {cs : List α} : ∀ {ys : List β}, (ys.Pairwise fun y z => ∀ c ∈ cs, P y c = true → P z c = false) → sumW (fun y => ((cs.filter (P y)).length : Int)) ys = ((cs.filter fun c => ys.any fun y => P y c).length : Int)
  | [], _ => by
    have : (cs.filter fun c => ([] : List β).any fun y => P y c) = [] := by rw [List.filter_eq_nil_iff]; intro c _; simp
    rw [this]; rfl
  | y :: ys, h => by
    obtain ⟨h1, h2⟩ := List.pairwise_cons.1 h
    have ih := filt_sum (cs := cs) h2
    simp only [sumW, ih]
    have := filt_or (p := P y) (q := fun c => ys.any fun y => P y c) (cs := cs) fun c hc hp => by
      rw [List.any_eq_false]
      intro z hz
      simp [h1 z hz c hc hp]
    have e : (cs.filter fun c => (y :: ys).any fun y => P y c) = cs.filter fun c => P y c || ys.any fun y => P y c := rfl
    rw [e, this]; omega
def isOn (l : Link) (c : Cell) : Bool := c.src == l.src && c.dst == l.dst
theorem flows_sorted {nodes : Int} {l : List Flow} (h : (flowsE nodes l).2 = 0) : l.Pairwise fun a b => a.id < b.id := by
  unfold flowsE at h
  split at h
  · cases h
  split at h
  · cases h
  rw [firstAt_ok] at h
  refine List.pairwise_iff_getElem.2 fun i j hi hj hij => ?_
  have step : ∀ k, (hk : k + 1 < l.length) → (l[k]'(by omega)).id < (l[k + 1]).id := fun k hk => by
    have := h (k + 1) hk
    unfold flowAt at this
    rw [List.getElem?_eq_getElem hk] at this
    simp only at this
    split at this
    · rename_i hh; exact absurd this hh
    split at this
    · cases this
    rename_i g
    unfold flowO at g
    simp only at g
    rw [List.getElem?_eq_getElem (by omega : k < l.length)] at g
    simpa using g
  obtain ⟨e, rfl⟩ : ∃ e, j = i + e + 1 := ⟨j - i - 1, by omega⟩
  clear hij
  induction e with
  | zero => exact step i hj
  | succ e ih => exact Int.lt_trans (ih (by omega) step) (step (i + (e + 1)) hj)
end HM

/- A valid schedule that serves requests: there is no reason against its size. -/
namespace HM
open Go Go.RowKit

structure Srv (n : Net) (q : List Req) (s : Sched) : Prop where
  ok : VOk n (flowsQ q) s
  req : (reqE n q).2 = 0
  srv : ∀ x ∈ q, servedB n s x
section
variable {n : Net} {q : List Req} {s : Sched}
theorem Srv.reqs (h : Srv n q s) : ∀ x ∈ q, ReqOk n x := (reqE_ok h.req).2.2.1
theorem Srv.per (h : Srv n q s) : ∀ x ∈ q, s.len % x.flow.period = 0 := fun x hx => h.ok.per x.flow (List.mem_map.2 ⟨x, hx, rfl⟩)
theorem Srv.len (h : Srv n q s) : 1 ≤ s.len ∧ s.len ≤ 512 ∧ 1 ≤ s.offs ∧ s.offs ≤ 16 := sized_bd h.ok.size
theorem need_cells (h : Srv n q s) {l : Link} (hl : l ∈ n.links) : needM q s.len l ≤ ((s.cells.filter (isOn l)).length : Int) := by
  have hlen := h.len
  have h1 : needM q s.len l ≤ sumW (fun x : Req => ((s.cells.filter fun c => !offL x.flow.id l.src l.dst c).length : Int)) q := by
    refine sumW_mono fun x hx => ?_
    split
    · rename_i hu
      exact needC_cells h.ok.net (h.reqs x hx) (by omega) (h.per x hx) (h.srv x hx) (fun c hc => by have := h.ok.at hc; omega) hl hu
    · exact Int.natCast_nonneg _
  have hfs := flows_sorted h.ok.flows
  have h2 := filt_sum (P := fun (x : Req) c => !offL x.flow.id l.src l.dst c) (cs := s.cells) (ys := q) (by
    have : q.Pairwise fun x y => x.flow.id < y.flow.id := List.Pairwise.of_map Req.flow (fun a b h => h) hfs
    refine this.imp fun {x y} hxy c _ hp => ?_
    unfold offL at hp ⊢
    simp only [Bool.not_eq_true', Bool.or_eq_false_iff, bne_eq_false_iff_eq] at hp
    simp only [Bool.not_eq_false', Bool.or_eq_true, bne_iff_ne]
    left; left; omega)
  rw [h2] at h1
  have h3 : (s.cells.filter fun c => q.any fun x => !offL x.flow.id l.src l.dst c).length ≤ (s.cells.filter (isOn l)).length := filt_mono fun c _ hc => by
    obtain ⟨x, _, hx⟩ := List.any_eq_true.1 hc
    unfold offL at hx
    simp only [Bool.not_eq_true', Bool.or_eq_false_iff, bne_eq_false_iff_eq] at hx
    unfold isOn
    simp [hx.1.2, hx.2]
  omega
def onAny (ls : List Link) (c : Cell) : Bool := ls.any fun l => isOn l c
theorem needs_cells (h : Srv n q s) {ls : List Link} (hs : List.Sublist ls n.links) : sumW (needM q s.len) ls ≤ ((s.cells.filter (onAny ls)).length : Int) := by
  have h1 : sumW (needM q s.len) ls ≤ sumW (fun l : Link => ((s.cells.filter (isOn l)).length : Int)) ls := sumW_mono fun l hl => need_cells h (hs.subset hl)
  have h2 := filt_sum (P := isOn) (cs := s.cells) (ys := ls) (by
    have h0 : ls.Pairwise fun a b => a.cmp b < 0 := List.Pairwise.sublist hs (net_sorted h.ok.net)
    refine h0.imp fun {a b} hab c _ hc => ?_
    unfold isOn at hc ⊢
    simp only [Bool.and_eq_true, beq_iff_eq] at hc
    cases hd : (c.src == b.src && c.dst == b.dst) with
    | false => rfl
    | true =>
      simp only [Bool.and_eq_true, beq_iff_eq] at hd
      exfalso
      unfold Link.cmp at hab
      rw [cmpL_eq.2 (by unfold Link.key; rw [← hc.1, ← hc.2, hd.1, hd.2])] at hab
      exact absurd hab (by decide))
  rw [h2] at h1
  exact h1
-- each node once in a slot
theorem VOk.pairs {l : List Flow} (h : VOk n l s) : s.cells.Pairwise fun c d => c.slot = d.slot → touchB c d = false :=
  List.pairwise_iff_getElem.2 fun i j hi hj hij hs => h.apart (List.getElem?_eq_getElem hi) (List.getElem?_eq_getElem hj) (by omega) hs
theorem slots_nodup {p : Cell → Bool} (h : (s.cells.filter p).Pairwise fun c d => c.slot ≠ d.slot) (hb : ∀ c ∈ s.cells, 0 ≤ c.slot ∧ c.slot < s.len) (hl : 0 ≤ s.len) : ((s.cells.filter p).length : Int) ≤ s.len := by
  have h1 : ((s.cells.filter p).map Cell.slot).Nodup := List.pairwise_map.2 h
  have := nodup_le (m := (List.range s.len.toNat).map fun k : Nat => (k : Int)) h1 fun x hx => by
    obtain ⟨c, hc, rfl⟩ := List.mem_map.1 hx
    have := hb c (List.mem_filter.1 hc).1
    exact List.mem_map.2 ⟨c.slot.toNat, by simp; omega, by omega⟩
  simp only [List.length_map, List.length_range] at this
  omega
theorem node_ok (h : Srv n q s) (a : Int) : sumW (needM q s.len) (n.links.filter (atN a)) ≤ s.len := by
  have h1 := needs_cells h (ls := n.links.filter (atN a)) List.filter_sublist
  have hl := h.len
  have h2 : (s.cells.filter (onAny (n.links.filter (atN a)))).Pairwise fun c d => c.slot ≠ d.slot := by
    refine List.Pairwise.imp_of_mem ?_ (h.ok.pairs.filter _)
    intro c d hc hd hcd hs
    have hc := (List.mem_filter.1 hc).2
    have hd := (List.mem_filter.1 hd).2
    unfold onAny at hc hd
    obtain ⟨l, hl1, hl2⟩ := List.any_eq_true.1 hc
    obtain ⟨m, hm1, hm2⟩ := List.any_eq_true.1 hd
    have hl1 := (List.mem_filter.1 hl1).2
    have hm1 := (List.mem_filter.1 hm1).2
    have := hcd hs
    unfold atN at hl1 hm1
    unfold isOn at hl2 hm2
    unfold touchB at this
    simp only [Bool.or_eq_true, Bool.and_eq_true, beq_iff_eq, Bool.or_eq_false_iff, beq_eq_false_iff_ne] at hl1 hm1 hl2 hm2 this
    omega
  have := slots_nodup h2 (fun c hc => by have := h.ok.at hc; omega) (by omega)
  omega
-- a group
theorem heard_anti {m d d' : Int} (hok : NetOk n) (h : heardB n m d = true) (hd : d' ≤ d) : heardB n m d' = true := by
  unfold heardB at h ⊢
  simp only [decide_eq_true_eq] at h ⊢
  have := hok.thr
  have h2 : n.thr * (n.noise + d') ≤ n.thr * (n.noise + d) := Int.mul_le_mul_of_nonneg_left (by omega) (by omega)
  omega
theorem filter_at {α : Type} {p : α → Bool} {cs : List α} {j : Nat} {d : α} (hd : cs[j]? = some d) (hp : p d = true) : (cs.filter p)[((cs.take j).filter p).length]? = some d := by
  have hl := (List.getElem?_eq_some_iff.1 hd).1
  have e : cs.filter p = (cs.take j).filter p ++ d :: ((cs.drop (j + 1)).filter p) := by
    conv => lhs; rw [← List.take_append_drop j cs, dropGet hd]
    rw [List.filter_append, List.filter_cons_of_pos hp]
  rw [e, List.getElem?_append_right (Nat.le_refl _)]
  simp
theorem filter_lt {α : Type} {p : α → Bool} {cs : List α} {i j : Nat} {c : α} (hc : cs[i]? = some c) (hp : p c = true) (hij : i < j) : ((cs.take i).filter p).length < ((cs.take j).filter p).length := by
  have h1 : List.Sublist (cs.take (i + 1)) (cs.take j) := by
    rw [show cs.take (i + 1) = (cs.take j).take (i + 1) by rw [List.take_take, Nat.min_eq_left (by omega)]]
    exact List.take_sublist _ _
  have h2 := (h1.filter p).length_le
  rw [take_succ hc, List.filter_append, List.filter_cons_of_pos hp] at h2
  simp at h2; omega
theorem sumW_ge {α : Type} {f : α → Int} : ∀ {l : List α}, (∀ x ∈ l, 0 ≤ f x) → ∀ x ∈ l, f x ≤ sumW f l
  | [], _, x, hx => by cases hx
  | y :: l, h, x, hx => by
    have h1 := h y (by simp)
    have h2 : 0 ≤ sumW f l := by
      have := sumW_mono (f := fun _ => (0 : Int)) (g := f) (l := l) fun z hz => h z (List.mem_cons_of_mem _ hz)
      rwa [sumW_zero] at this
    simp only [sumW]
    rcases List.mem_cons.1 hx with rfl | hx
    · omega
    · have := sumW_ge (l := l) (fun z hz => h z (List.mem_cons_of_mem _ hz)) x hx
      omega
/-- two cells of one slot and offset: their links can be together -/
theorem half_good {l : List Flow} (h : VOk n l s) {i j : Nat} {c d : Cell} (hc : s.cells[i]? = some c) (hd : s.cells[j]? = some d) (hij : i ≠ j) (hs : c.slot = d.slot) (ho : c.off = d.off) {X : List Cell} {k : Nat} (hX : ∀ node, distM n X k node = powN n d.src node + powN n d.dst node) : heardB n (marginAt n c.src c.dst) (distM n X k c.dst) = true ∧ heardB n (marginAt n c.dst c.src) (distM n X k c.src) = true := by
  have hlt := (List.getElem?_eq_some_iff.1 hc).1
  have hb := h.heard i hlt
  unfold disturbB at hb
  rw [hc] at hb
  simp only [Bool.or_eq_false_iff, Bool.not_eq_false'] at hb
  have hsc : shareB c c = true := by simp [shareB]
  have hsd : shareB c d = true := by simp [shareB, hs, ho]
  have hat := filter_at hd hsd
  have hle := (List.getElem?_eq_some_iff.1 hat).1
  have hne : ((s.cells.take j).filter (shareB c)).length ≠ shareAt s.cells c i := by
    unfold shareAt
    rcases Nat.lt_or_gt_of_ne hij with h1 | h1
    · have := filter_lt (p := shareB c) hc hsc h1; omega
    · have := filter_lt (p := shareB c) hd hsd h1; omega
  have hd2 : ∀ node, powN n d.src node + powN n d.dst node ≤ distM n (shareL s.cells c) (shareAt s.cells c i) node := fun node => by
    have h1 := sumW_ge (f := distAt n (shareL s.cells c) (shareAt s.cells c i) node) (l := List.range (shareL s.cells c).length) (fun k _ => (distAt_bd h.net _ _ _ _).1) ((s.cells.take j).filter (shareB c)).length (by simpa [shareL] using hle)
    have e : distAt n (shareL s.cells c) (shareAt s.cells c i) node ((s.cells.take j).filter (shareB c)).length = powN n d.src node + powN n d.dst node := by
      unfold distAt shareL
      rw [hat]
      simp only
      rw [if_neg hne]
    rw [e] at h1
    exact h1
  rw [hX, hX]
  exact ⟨heard_anti h.net hb.1 (hd2 _), heard_anti h.net hb.2 (hd2 _)⟩
theorem tog_of {fl : List Flow} (h : VOk n fl s) {i j : Nat} {c d : Cell} {l m : Link} (hc : s.cells[i]? = some c) (hd : s.cells[j]? = some d) (hij : i ≠ j) (hs : c.slot = d.slot) (ho : c.off = d.off) (hl : isOn l c = true) (hm : isOn m d = true) : togB n l m = true := by
  unfold isOn at hl hm
  simp only [Bool.and_eq_true, beq_iff_eq] at hl hm
  have ht := h.apart hc hd hij hs
  have ht2 : touchB (cellL l) (cellL m) = false := by
    unfold touchB cellL at *
    simp only at *
    rw [← hl.1, ← hl.2, ← hm.1, ← hm.2]; exact ht
  have hg1 := (h.cell i c hc).2.1
  have hg2 := (h.cell j d hd).2.1
  have p1 := half_good h hc hd hij hs ho (X := [cellL l, cellL m]) (k := 0) fun node => by
    unfold distM distU distAt
    simp [sumW, List.range_succ, cellL, hm.1, hm.2]
  have p2 := half_good h hd hc (fun e => hij e.symm) hs.symm ho.symm (X := [cellL l, cellL m]) (k := 1) fun node => by
    unfold distM distU distAt
    simp [sumW, List.range_succ, cellL, hl.1, hl.2]
  have f0 : faultyM n [cellL l, cellL m] 0 = false := by
    unfold faultyM
    simp only [List.getElem?_cons_zero]
    rw [if_neg (by simp [cellL, ← hl.1, ← hl.2, hg1]), if_neg (by simp [List.range_succ, touchAt, ht2])]
    rw [hl.1, hl.2] at p1
    have q1 : heardB n (marginAt n (cellL l).src (cellL l).dst) (distM n [cellL l, cellL m] 0 (cellL l).dst) = true := p1.1
    have q2 : heardB n (marginAt n (cellL l).dst (cellL l).src) (distM n [cellL l, cellL m] 0 (cellL l).src) = true := p1.2
    rw [if_neg (by rw [q1]; decide), q2]; rfl
  have f1 : faultyM n [cellL l, cellL m] 1 = false := by
    unfold faultyM
    simp only [List.getElem?_cons_succ, List.getElem?_cons_zero]
    rw [if_neg (by simp [cellL, ← hm.1, ← hm.2, hg2]), if_neg (by simp [List.range_succ, touchAt, touchB_comm (cellL m) (cellL l), ht2])]
    rw [hm.1, hm.2] at p2
    have q1 : heardB n (marginAt n (cellL m).src (cellL m).dst) (distM n [cellL l, cellL m] 1 (cellL m).dst) = true := p2.1
    have q2 : heardB n (marginAt n (cellL m).dst (cellL m).src) (distM n [cellL l, cellL m] 1 (cellL m).src) = true := p2.2
    rw [if_neg (by rw [q1]; decide), q2]; rfl
  unfold togB goodM
  rw [decide_eq_true h.n0, Bool.true_and]
  simp [List.range_succ, f0, f1]
theorem group_ok (h : Srv n q s) {ls : List Link} (hs : List.Sublist ls n.links) (hp : ls.Pairwise fun a b => togB n a b = false) : sumW (needM q s.len) ls ≤ s.len * s.offs := by
  have h1 := needs_cells h hs
  have hl := h.len
  have hpw : (s.cells.filter (onAny ls)).Pairwise fun c d => (c.slot, c.off) ≠ (d.slot, d.off) := by
    have h0 : s.cells.Pairwise fun c d => onAny ls c = true → onAny ls d = true → (c.slot, c.off) ≠ (d.slot, d.off) := by
      refine List.pairwise_iff_getElem.2 fun i j hi hj hij hc hd e => ?_
      injection e with e1 e2
      unfold onAny at hc hd
      obtain ⟨l, hl1, hl2⟩ := List.any_eq_true.1 hc
      obtain ⟨m, hm1, hm2⟩ := List.any_eq_true.1 hd
      have t1 := tog_of h.ok (List.getElem?_eq_getElem hi) (List.getElem?_eq_getElem hj) (by omega) e1 e2 hl2 hm2
      have t2 := tog_of h.ok (List.getElem?_eq_getElem hj) (List.getElem?_eq_getElem hi) (by omega) e1.symm e2.symm hm2 hl2
      by_cases hlm : l = m
      · subst hlm
        have ht := h.ok.apart (List.getElem?_eq_getElem hi) (List.getElem?_eq_getElem hj) (by omega) e1
        unfold isOn at hl2 hm2
        unfold touchB at ht
        simp only [Bool.and_eq_true, beq_iff_eq, Bool.or_eq_false_iff, beq_eq_false_iff_ne] at hl2 hm2 ht
        omega
      · obtain ⟨x, hx⟩ := List.getElem?_of_mem hl1
        obtain ⟨y, hy⟩ := List.getElem?_of_mem hm1
        obtain ⟨x1, x2⟩ := List.getElem?_eq_some_iff.1 hx
        obtain ⟨y1, y2⟩ := List.getElem?_eq_some_iff.1 hy
        rw [List.pairwise_iff_getElem] at hp
        rcases Nat.lt_trichotomy x y with hh | hh | hh
        · have := hp x y x1 y1 hh
          rw [x2, y2, t1] at this; cases this
        · subst hh; rw [hx] at hy; injection hy with hy; exact hlm hy
        · have := hp y x y1 x1 hh
          rw [x2, y2, t2] at this; cases this
    refine List.Pairwise.imp_of_mem ?_ (h0.filter _)
    intro c d hc hd hcd
    exact hcd (List.mem_filter.1 hc).2 (List.mem_filter.1 hd).2
  have hnd : ((s.cells.filter (onAny ls)).map fun c => (c.slot, c.off)).Nodup := List.pairwise_map.2 hpw
  have := nodup_le (m := (List.range s.len.toNat).flatMap fun a : Nat => (List.range s.offs.toNat).map fun b : Nat => ((a : Int), (b : Int))) hnd fun x hx => by
    obtain ⟨c, hc, rfl⟩ := List.mem_map.1 hx
    have := h.ok.at (List.mem_filter.1 hc).1
    refine List.mem_flatMap.2 ⟨c.slot.toNat, by simp; omega, List.mem_map.2 ⟨c.off.toNat, by simp; omega, ?_⟩⟩
    rw [Int.toNat_of_nonneg this.1, Int.toNat_of_nonneg this.2.2.1]
  have e : ∀ (a b : Nat), ((List.range a).flatMap fun a : Nat => (List.range b).map fun b : Nat => ((a : Int), (b : Int))).length = a * b := fun a b => by
    induction a with
    | zero => simp
    | succ a ih => rw [List.range_succ, List.flatMap_append, List.length_append, ih, Nat.succ_mul]; simp
  rw [e, List.length_map] at this
  have h2 : ((s.len.toNat * s.offs.toNat : Nat) : Int) = s.len * s.offs := by rw [Int.natCast_mul, Int.toNat_of_nonneg (by omega), Int.toNat_of_nonneg (by omega)]
  omega
-- routes
theorem inc_len : ∀ {l : List Int} {a : Int}, l.Pairwise (· < ·) → (∀ x ∈ l, a ≤ x) → l ≠ [] → (l.length : Int) ≤ l.getLastD 0 - a + 1
  | [], _, _, _, h => absurd rfl h
  | [x], a, _, h, _ => by have := h x (by simp); simp; omega
  | x :: y :: l, a, hp, h, _ => by
    obtain ⟨h1, h2⟩ := List.pairwise_cons.1 hp
    have hx := h x (by simp)
    have := inc_len (l := y :: l) (a := x + 1) h2 (fun z hz => by have := h1 z hz; omega) (by simp)
    rw [List.length_cons, show (x :: y :: l).getLastD 0 = (y :: l).getLastD 0 by simp [List.getLastD]]
    omega
theorem allS_inc {cs : List Cell} (h : cs.Pairwise fun c d => c.slot ≠ d.slot) (len a : Int) : ∀ d, (allS cs len a d).Pairwise (· < ·)
  | 0 => List.Pairwise.nil
  | d + 1 => by
    simp only [allS]
    refine List.pairwise_append.2 ⟨allS_inc h len a d, ?_, fun x hx y hy => ?_⟩
    · obtain ⟨L, hL⟩ : ∃ L, L = cs.filter (fun c => c.slot == (a + d) % len) := ⟨_, rfl⟩
      have hf := h.filter (fun c => c.slot == (a + d) % len)
      have hm : ∀ c ∈ L, c.slot = (a + d) % len := fun c hc => by rw [hL] at hc; simpa using (List.mem_filter.1 hc).2
      rw [← hL] at hf ⊢
      match L, hf, hm with
      | [], _, _ => exact List.Pairwise.nil
      | [_], _, _ => exact List.pairwise_singleton _ _
      | c :: e :: t, hf, hm => exact absurd ((hm c (by simp)).trans (hm e (by simp)).symm) ((List.pairwise_cons.1 hf).1 e (by simp))
    · have := allS_mem hx
      obtain ⟨_, _, rfl⟩ := List.mem_map.1 hy
      omega
theorem cellsL_slots {fl : List Flow} (h : VOk n fl s) (f : Flow) (a b : Int) : (cellsL s f a b).Pairwise fun c d => c.slot ≠ d.slot := by
  unfold cellsL
  refine List.Pairwise.imp_of_mem ?_ (h.pairs.filter _)
  intro c d hc hd hcd hs
  have hc := (List.mem_filter.1 hc).2
  have hd := (List.mem_filter.1 hd).2
  have := hcd hs
  unfold offL at hc hd
  unfold touchB at this
  simp only [Bool.not_eq_true', Bool.or_eq_false_iff, bne_eq_false_iff_eq, beq_eq_false_iff_ne] at hc hd this
  omega
theorem nextA_gt {l : List Int} {a : Int} (h : l.Pairwise (· < ·)) (ha : ∀ x ∈ l, a ≤ x) : a ≤ nextA a l ∧ ∀ x ∈ l, x < nextA a l := by
  unfold nextA
  cases hl : l.getLast? with
  | none => rw [List.getLast?_eq_none_iff] at hl; subst hl; simp
  | some z =>
    obtain ⟨pre, hpre⟩ := List.getLast?_eq_some_iff.1 hl
    subst hpre
    show a ≤ z + 1 ∧ ∀ x ∈ pre ++ [z], x < z + 1
    refine ⟨by have := ha z (by simp); omega, fun x hx => ?_⟩
    rcases List.mem_append.1 hx with hx | hx
    · have := (List.pairwise_append.1 h).2.2 x hx z (by simp); omega
    · simp at hx; omega
theorem slots_inc {fl : List Flow} (h : VOk n fl s) {f : Flow} {r : List Int} {rel more : Int} : ∀ {k : Nat} {o : List Int} {a : Int}, slotsUp n s f r rel more k = some (o, a) → o.Pairwise (· < ·) ∧ (∀ x ∈ o, rel ≤ x ∧ x < a) ∧ rel ≤ a
  | 0, o, a, hh => by simp [slotsUp] at hh; obtain ⟨rfl, rfl⟩ := hh; simp
  | k + 1, o, a, hh => by
    unfold slotsUp at hh
    split at hh
    · cases hh
    · rename_i o' a' h'
      obtain ⟨h1, h2, h3⟩ := slots_inc h h'
      simp only at hh
      split at hh
      · cases hh
      · injection hh with hh; injection hh with e1 e2
        subst e1; subst e2
        have hi : (slotsOn s f (r.getD k 0) (r.getD (k + 1) 0) (needAt n r more k) a' (rel + f.period)).Pairwise (· < ·) := List.Pairwise.sublist (List.take_sublist _ _) (allS_inc (cellsL_slots h f _ _) s.len a' _)
        have hm : ∀ x ∈ slotsOn s f (r.getD k 0) (r.getD (k + 1) 0) (needAt n r more k) a' (rel + f.period), a' ≤ x := fun x hx => (slotsOn_mem hx).1
        obtain ⟨g1, g2⟩ := nextA_gt hi hm
        refine ⟨List.pairwise_append.2 ⟨h1, hi, fun x hx y hy => ?_⟩, fun x hx => ?_, by omega⟩
        · have := (h2 x hx).2; have := hm y hy; omega
        · rcases List.mem_append.1 hx with hx | hx
          · have := h2 x hx; omega
          · have := hm x hx; have := g2 x hx; omega
theorem needUp_cost (hok : NetOk n) {r : List Int} : ∀ {k : Nat}, (∀ i, i < k → 0 ≤ findL n (r.getD i 0) (r.getD (i + 1) 0)) → ((needUp n r 0 k : Nat) : Int) = costR n r k
  | 0, _ => by simp [needUp, costR, linksR, sumW]
  | k + 1, h => by
    have hb := (lnkAt_mem (h k (by omega))).1
    obtain ⟨j, hj⟩ := List.getElem?_of_mem hb
    have := linkR_bd (hok.link j _ hj).1
    rw [costR_succ, ← needUp_cost hok fun i hi => h i (by omega)]
    show ((needUp n r 0 k + needAt n r 0 k : Nat) : Int) = _
    unfold needAt
    rw [linkAt_lnk]
    omega
theorem window_ok (h : Srv n q s) {x : Req} (hx : x ∈ q) {r : List Int} (hr : r ∈ x.routes) : costR n r (r.length - 1) ≤ x.flow.dead := by
  have hxo := h.reqs x hx
  have hf := flowE_ok hxo.flow
  obtain ⟨b, hb, hd⟩ := h.srv x hx r hr
  have hper := h.per x hx
  have hlen := h.len
  obtain ⟨m, hm⟩ := Int.dvd_of_emod_eq_zero hper
  have hm1 : 1 ≤ m := by
    rcases Int.lt_or_le m 1 with hlt | hge
    · have : x.flow.period * m ≤ x.flow.period * 0 := Int.mul_le_mul_of_nonneg_left (by omega) (by omega)
      omega
    · exact hge
  have hle : x.flow.period * 1 ≤ x.flow.period * m := Int.mul_le_mul_of_nonneg_left hm1 (by omega)
  obtain ⟨b', l', h1, h2⟩ := rel_some hxo hper hb (k := 0) (by simp; omega)
  unfold relR slotsW at h1
  cases hsu : slotsUp n s x.flow r (x.flow.phase + (0 : Nat) * x.flow.period) 0 (r.length - 1) with
  | none => rw [hsu] at h1; cases h1
  | some z =>
    obtain ⟨o, a⟩ := z
    rw [hsu] at h1
    simp only [Option.map_some, Option.some.injEq, Prod.mk.injEq] at h1
    obtain ⟨i1, i2, _⟩ := slots_inc h.ok hsu
    have hl := (slotsUp_ok (by omega) hsu).1
    have hhop := (routeF_ok (hxo.route r hr)).2.1
    have hc := needUp_cost h.ok.net (r := r) (k := r.length - 1) fun i hi => good_find (hhop i (by omega))
    by_cases ho : o = []
    · subst ho
      simp at hl
      omega
    · have := inc_len i1 (fun y hy => (i2 y hy).1) ho
      omega
/-- no reason, and enough cells -/
theorem served_none (h : Srv n q s) : sizedQ n q s.len = 0 ∧ reasonG n q s.len s.offs = (rsn0, false, 0) ∧ sumW (needM q s.len) n.links ≤ (s.cells.length : Int) := by
  have hl := h.len
  have hsz : sizedQ n q s.len = 0 := SzOk.mk' ⟨h.req, by omega, by omega, h.per⟩
  refine ⟨hsz, ?_, ?_⟩
  · unfold reasonG
    rw [reasonM_ok hsz (by omega)]
    have h1 : byNodeM n q s.len = none := firstO_none fun j _ => by
      rw [asR_none]
      unfold isR nodeR
      simp only [decide_eq_false_iff_not]
      rw [sumQ_need]
      have := node_ok h j
      omega
    have h2 : byWindowM n q = none := firstO_none fun j hj => by
      obtain ⟨x, hx⟩ := getLt hj
      unfold winQ
      rw [hx]
      refine firstO_none fun k hk => ?_
      obtain ⟨r, hr⟩ := getLt hk
      unfold winAt
      rw [hr]
      show asR _ = none
      rw [asR_none]
      unfold isR windowR
      simp only [decide_eq_false_iff_not]
      have := window_ok h (List.mem_of_getElem? hx) (List.mem_of_getElem? hr)
      omega
    have h3 : grpO n q s.len s.offs = none := by
      unfold grpO
      rw [if_neg]
      unfold grpM
      split
      · simp
      · have hpos : 0 ≤ s.len * s.offs := Int.mul_nonneg (by omega) (by omega)
        show ¬ isR _ = true
        rw [isR_best h.ok.net q _ _ hpos]
        have := group_ok h ((gL_sub (best_sub n q s.len)).trans (all_sub n q)) (best_apart n q s.len)
        have e : wI q s.len (allM n q) (bestI n q s.len) = sumW (needM q s.len) (gL (allM n q) (bestI n q s.len)) := rfl
        simp only [decide_eq_true_eq]
        omega
    rw [h1, h2, h3]
  · have h1 := needs_cells h (ls := n.links) (List.Sublist.refl _)
    have h2 := List.length_filter_le (onAny n.links) s.cells
    omega
end
end HM

/- Certificates: what a schedule does for requests. -/
namespace HM
open Go Go.RowKit

structure Claim where
  flow : Int
  routes : List (List Int)
  bounds : List Int
  worst : List Int
  slots : List (List Int)
  deriving DecidableEq
def Claim.cs (c : Claim) : List AV := [.int .i64 c.flow, encRows c.routes, encIs c.bounds, encIs c.worst, encRows c.slots]
def Claim.av (c : Claim) : AV := .agg [.int .i64 c.flow, encRows c.routes, encIs c.bounds, encIs c.worst, encRows c.slots]
def encClaims (l : List Claim) : AV := .sl false (l.map Claim.av)
def claim0 : Claim := ⟨0, [], [], [], []⟩
/-- whether a route is served -/
def srvB (n : Net) (s : Sched) (x : Req) (r : List Int) : Bool := decide ((routeM n s x.flow r).2.2.2 = 0) && decide ((routeM n s x.flow r).1 ≤ x.flow.dead)
/-- what is claimed of the first routes -/
def claimT (n : Net) (s : Sched) (x : Req) (l : List (List Int)) : Claim := ⟨x.flow.id, l, l.map fun r => (routeM n s x.flow r).1, l.map fun r => (routeM n s x.flow r).2.1, l.map fun r => (routeM n s x.flow r).2.2.1⟩
def claimB (n : Net) (s : Sched) (x : Req) : Bool := x.routes.all (srvB n s x)
def claimM (n : Net) (s : Sched) (x : Req) : Claim := if claimB n s x then claimT n s x x.routes else claim0
def lateAt (n : Net) (s : Sched) (q : List Req) (i : Nat) : Int := match q[i]? with
  | some x => if claimB n s x then 0 else 15
  | none => 0
def makeM (n : Net) (q : List Req) (s : Sched) : List Claim × Int × Int :=
  if (reqE n q).2 ≠ 0 then ([], (reqE n q).1, (reqE n q).2) else if (schedE n (flowsQ q) s).2 ≠ 0 then ([], -1, 1)
  else if (firstAt (lateAt n s q) q.length).2 ≠ 0 then ([], firstAt (lateAt n s q) q.length) else (q.map (claimM n s), -1, 0)
/-- valid schedules have their form -/
theorem VOk.form {n : Net} {l : List Flow} {s : Sched} (h : VOk n l s) : formB s = true := by
  unfold formB
  rw [h.size, decide_eq_true h.many, Bool.true_and, Bool.true_and]
  refine range_all fun i hi => ?_
  obtain ⟨c, hc⟩ := getLt hi
  obtain ⟨h1, h2, h3, h4⟩ := h.cell i c hc
  obtain ⟨p, l', e1, e2, e3, e4⟩ := findL_at (good_find h2)
  have hb := linkR_bd (h.net.link p l' e2).1
  have hn := h.net.nodes
  obtain ⟨f, hf, hid⟩ := List.any_eq_true.1 h3
  have hff : 0 ≤ f.id ∧ f.id ≤ 255 := by
    obtain ⟨k, hk⟩ := List.getElem?_of_mem hf
    have hkl := (List.getElem?_eq_some_iff.1 hk).1
    have hfl := h.flows
    unfold flowsE at hfl
    split at hfl
    · cases hfl
    split at hfl
    · cases hfl
    have g := firstAt_ok.1 hfl k hkl
    unfold flowAt at g
    rw [hk] at g
    simp only at g
    have hfx : flowE n.nodes f = 0 := by
      split at g
      · rename_i hh; exact absurd g hh
      · omega
    have := flowE_ok hfx
    omega
  simp only [beq_iff_eq] at hid
  unfold okAt
  rw [hc]
  simp only
  have hfm : formedB s c = true := by
    unfold formedB
    rw [h1]
    simp only [insB, Bool.true_and, Bool.and_eq_true, decide_eq_true_eq]
    omega
  rw [hfm, Bool.true_and]
  unfold ordC at h4
  cases i with
  | zero => rfl
  | succ j => exact h4
theorem claim_served {n : Net} {s : Sched} {x : Req} (h : claimB n s x = true) : servedB n s x := by
  intro r hr
  have h1 := List.all_eq_true.1 h r hr
  unfold srvB at h1
  simp only [Bool.and_eq_true, decide_eq_true_eq] at h1
  obtain ⟨h1, h2⟩ := h1
  unfold routeM at h1 h2
  split at h1
  · rename_i hh; exact absurd h1 hh
  rename_i hw
  rw [if_neg hw] at h2
  cases hb : boundR n s x.flow r 0 with
  | none => rw [hb] at h1; cases h1
  | some b => rw [hb] at h2; exact ⟨b, rfl, h2⟩
theorem make_srv {n : Net} {q : List Req} {s : Sched} (h : (makeM n q s).2.2 = 0) : Srv n q s := by
  unfold makeM at h
  split at h
  · rename_i hh; exact absurd h hh
  rename_i h1
  split at h
  · cases h
  rename_i h2
  split at h
  · rename_i hh; exact absurd h hh
  rename_i h3
  have h3 : (firstAt (lateAt n s q) q.length).2 = 0 := by omega
  refine ⟨schedE_ok (by omega), by omega, fun x hx => ?_⟩
  obtain ⟨k, hk⟩ := List.getElem?_of_mem hx
  have := firstAt_ok.1 h3 k (List.getElem?_eq_some_iff.1 hk).1
  unfold lateAt at this
  rw [hk] at this
  simp only at this
  split at this
  · rename_i hc; exact claim_served hc
  · cases this
end HM

/- One more cell: no bound is greater. -/
namespace HM
open Go Go.RowKit

/-- more cells -/
structure MoreS (s t : Sched) : Prop where
  len : t.len = s.len
  cells : ∀ p : Cell → Bool, (s.cells.filter p).length ≤ (t.cells.filter p).length

end HM

/- One more cell: where it comes to stand. -/
namespace HM
open Go Go.RowKit

-- what the writing of the cells comes to
end HM

/- Cells of a slot together: the order does not matter (AdmitRoom). -/
namespace HM
open Go Go.RowKit

def distC (n : Net) (rest : List Cell) (node : Int) : Int := sumW (fun d : Cell => powN n d.src node + powN n d.dst node) rest
theorem erase_take {α : Type} {l : List α} {k i : Nat} {x : α} (h : l[k]? = some x) : (l.take (k + 1)).eraseIdx i = (l.take k).eraseIdx i ++ if k = i then [] else [x] := by
  rw [take_succ h]
  have hk : k < l.length := (List.getElem?_eq_some_iff.1 h).1
  have hl : (l.take k).length = k := by rw [List.length_take]; omega
  rcases Nat.lt_trichotomy k i with hlt | rfl | hgt
  · rw [List.eraseIdx_of_length_le (by rw [List.length_append, hl]; simp; omega), List.eraseIdx_of_length_le (by omega), if_neg (by omega)]
  · rw [List.eraseIdx_append_of_length_le (by omega), hl, List.eraseIdx_of_length_le (l := l.take k) (by omega), if_pos rfl]; simp
  · rw [List.eraseIdx_append_of_lt_length (by omega), if_neg (by omega)]
theorem distU_rest (n : Net) (cs : List Cell) (i : Nat) (node : Int) : ∀ k : Nat, k ≤ cs.length → distU n cs i node k = distC n ((cs.take k).eraseIdx i) node
  | 0, _ => by simp [distU, distC, sumW]
  | k + 1, hk => by
    obtain ⟨x, hx⟩ := getLt (l := cs) (k := k) (by omega)
    rw [distU_succ, distU_rest n cs i node k (by omega), erase_take hx]
    unfold distC distAt
    rw [sumW_app, hx]
    simp only
    congr 1
    split
    · rfl
    · simp [sumW]
theorem distM_rest (n : Net) (cs : List Cell) (i : Nat) (node : Int) : distM n cs i node = distC n (cs.eraseIdx i) node := by
  unfold distM
  rw [distU_rest n cs i node _ (Nat.le_refl _), List.take_length]
end HM

/- AdmitRoom: where there is room; dropping a flow. -/
namespace HM
open Go Go.RowKit

end HM

/- A valid schedule with one cell more is valid where there is room (AdmitFills). -/
namespace HM
open Go Go.RowKit

def AllRest {α : Type} (P : α → List α → Prop) (cs : List α) : Prop := ∀ (i : Nat) c, cs[i]? = some c → P c (cs.eraseIdx i)
/-- a cell is heard, by both, among others -/
def heardC (n : Net) (c : Cell) (rest : List Cell) : Prop := heardB n (marginAt n c.src c.dst) (distC n rest c.dst) = true ∧ heardB n (marginAt n c.dst c.src) (distC n rest c.src) = true
theorem filter_erase {α : Type} {p : α → Bool} {cs : List α} {i : Nat} {c : α} (h : cs[i]? = some c) (hp : p c = true) : (cs.filter p).eraseIdx ((cs.take i).filter p).length = (cs.eraseIdx i).filter p ∧ (cs.filter p)[((cs.take i).filter p).length]? = some c := by
  obtain ⟨hi, rfl⟩ := List.getElem?_eq_some_iff.1 h
  have e : cs.filter p = (cs.take i).filter p ++ cs[i] :: (cs.drop (i + 1)).filter p := by
    have e0 : cs = cs.take i ++ cs[i] :: cs.drop (i + 1) := by rw [← List.drop_eq_getElem_cons hi, List.take_append_drop]
    conv => lhs; rw [e0]
    rw [List.filter_append, List.filter_cons, if_pos hp]
  rw [e]
  refine ⟨?_, by simp⟩
  rw [List.eraseIdx_append_of_length_le (Nat.le_refl _), Nat.sub_self, List.eraseIdx_cons_zero, List.eraseIdx_eq_take_drop_succ, List.filter_append]
theorem disturb_iff {n : Net} {cs : List Cell} {i : Nat} {c : Cell} (h : cs[i]? = some c) : disturbB n cs i = false ↔ heardC n c ((cs.eraseIdx i).filter (shareB c)) := by
  have hs : shareB c c = true := by unfold shareB; simp
  have := (filter_erase (p := shareB c) h hs).1
  unfold disturbB heardC
  rw [h]
  simp only [distM_rest, shareL, shareAt]
  rw [this]
  simp
/-- what a cell of a valid schedule is to the others -/
def cellR2 (n : Net) (c : Cell) (rest : List Cell) : Prop := (∀ d ∈ rest, d.slot = c.slot → touchB c d = false) ∧ heardC n c (rest.filter (shareB c))
theorem VOk.rest {n : Net} {l : List Flow} {s : Sched} (h : VOk n l s) : AllRest (cellR2 n) s.cells := fun i c hc => by
  refine ⟨fun d hd hs => ?_, (disturb_iff hc).1 (h.heard i (List.getElem?_eq_some_iff.1 hc).1)⟩
  obtain ⟨j, hj⟩ := List.getElem?_of_mem hd
  rw [List.getElem?_eraseIdx] at hj
  split at hj
  · exact h.apart hc hj (by omega) hs.symm
  · exact h.apart hc hj (by omega) hs.symm
end HM

/- Frames of flows, attempts and deliveries. -/
namespace HM
open Go Go.RowKit

-- frames
def findF (l : List Flow) (id : Int) : Int := idxF (fun f : Flow => f.id == id) l

-- attempts and deliveries
structure Att where
  slot : Int
  frame : Int
  cell : Cell
  out : Int
  deriving DecidableEq
def Att.av (a : Att) : AV := .agg [.int .i64 a.slot, .int .i64 a.frame, .int .i64 a.cell.slot, .int .i64 a.cell.off, .int .i64 a.cell.src, .int .i64 a.cell.dst, .int .i64 a.cell.flow, .int .i64 a.out]
structure Del where
  flow : Int
  frame : Int
  slot : Int
  deriving DecidableEq
def Del.av (d : Del) : AV := .agg [.int .i64 d.flow, .int .i64 d.frame, .int .i64 d.slot]
structure RunL where
  atts : List Att
  dels : List Del
def encAtts (l : List Att) : AV := .sl false (l.map Att.av)
def encDels (l : List Del) : AV := .sl false (l.map Del.av)
def RunL.av (r : RunL) : AV := .agg [encAtts r.atts, encDels r.dels]
end HM
namespace HM
end HM
namespace HM
open Go Go.RowKit
end HM
namespace HM
open Go Go.RowKit
end HM
namespace HM
open Go Go.RowKit
end HM
