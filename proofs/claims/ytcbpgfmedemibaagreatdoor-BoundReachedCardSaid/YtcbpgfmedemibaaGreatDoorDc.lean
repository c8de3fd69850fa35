/- Further plain words. -/
import Derived.Test.YtcbpgfmedemibaaGreatDoorDb
import Derived.Test.YtcbpgfmedemibaaGreatDoorDa
/- With the worst script: not earlier than the latency, and no breach. -/
namespace HM
open Go Go.RowKit

/-- all outcomes are those of the worst script of frame k -/
structure WorstX (n : Net) (f : Flow) (r : List Int) (k : Nat) (x : List Rule) : Prop where
  on : ∀ i, i + 1 < r.length → ∀ j : Nat, outcomeM x f.id (k : Nat) (r.getD i 0) (r.getD (i + 1) 0) j = if (j : Int) < (linkAt n r i).loss then 3 else 1
  off : ∀ fr : Int, fr ≠ (k : Nat) → ∀ (a b : Int) (j : Nat), outcomeM x f.id fr a b j = 1
/-- all cells are cells of the route -/
def onRoute (r : List Int) (s : Sched) : Prop := ∀ c ∈ s.cells, ∃ i, i + 1 < r.length ∧ c.src = r.getD i 0 ∧ c.dst = r.getD (i + 1) 0
theorem dup_eq {r : List Int} (hd : ∀ i, i < r.length → dupAt r i = false) {i j : Nat} (hi : i < r.length) (hj : j < r.length) (e : r.getD i 0 = r.getD j 0) : i = j := by
  rcases Nat.lt_trichotomy i j with h | h | h
  · exact absurd e (dup_ne hd h hj)
  · exact h
  · exact absurd e.symm (dup_ne hd h hi)
theorem late_at {n : Net} {s : Sched} {f : Flow} {r : List Int} (hw : WayOk n s f r) (hr : onRoute r s) {x : List Rule} {k N : Nat} (hx : WorstX n f r k x) : ∀ (i : Nat) (o : List Int) (a : Int), i + 1 ≤ r.length → slotsUp n s f r (f.phase + (k : Nat) * f.period) 0 i = some (o, a) →
    (∀ b ∈ (playR [f] (fun _ => s) x N).atts, b.frame = (k : Nat) → b.cell.src = r.getD i 0 → a ≤ b.slot) ∧ (0 < i → ∀ b ∈ (playR [f] (fun _ => s) x N).atts, b.frame = (k : Nat) → b.cell.dst = r.getD i 0 → b.out ≠ 3 → a - 1 ≤ b.slot)
  | 0, o, a, _, hs => by
    refine ⟨fun b hb hf _ => ?_, fun h => by omega⟩
    obtain ⟨_, _, h3, _, _⟩ := att_from hb
    have ha : a = f.phase + (k : Nat) * f.period := by simp [slotsUp] at hs; exact hs.2.symm
    have hfl := hw.flow
    unfold curM at h3
    split at h3
    · exact absurd (congrArg Prod.snd h3) (by simp)
    · have h3 := congrArg Prod.fst h3
      simp only at h3
      rw [hf] at h3
      have h4 := Int.ediv_mul_le (b.slot - f.phase) (show f.period ≠ 0 by omega)
      rw [h3] at h4
      omega
  | i + 1, o, a, hi, hs => by
    have hfl := hw.flow
    unfold slotsUp at hs
    split at hs
    · cases hs
    rename_i o' a' h'
    simp only at hs
    split at hs
    · cases hs
    rename_i hlen
    injection hs with hs; injection hs with e1 e2
    obtain ⟨ih1, _⟩ := late_at hw hr hx (N := N) i o' a' (by omega) h'
    obtain ⟨m, l, g1, g2, g3, g4, g5, g6, g7⟩ := hw.at (i := i) (by omega)
    have hneed : ((needAt n r 0 i : Nat) : Int) = l.loss + 1 := by unfold needAt; rw [g7]; omega
    obtain ⟨h, hh⟩ : ∃ h, h = slotsOn s f (r.getD i 0) (r.getD (i + 1) 0) (needAt n r 0 i) a' (f.phase + (k : Nat) * f.period + f.period) := ⟨_, rfl⟩
    rw [← hh] at e2 hlen
    have hne : h ≠ [] := by intro e; rw [e] at hlen; simp at hlen; omega
    obtain ⟨L, hL⟩ : ∃ L, h.getLast? = some L := ⟨_, List.getLast?_eq_some_getLast hne⟩
    have ha : a = L + 1 := by rw [← e2]; unfold nextA; rw [hL]
    obtain ⟨_, ha', _, _⟩ := slotsUp_ok (by omega) h'
    have hk0 : 0 ≤ ((k : Nat) : Int) * f.period := Int.mul_nonneg (by omega) (by omega)
    obtain ⟨A, rfl⟩ : ∃ A : Nat, a' = A := ⟨a'.toNat, by omega⟩
    have two : ∀ b ∈ (playR [f] (fun _ => s) x N).atts, b.frame = (k : Nat) → b.cell.dst = r.getD (i + 1) 0 → b.out ≠ 3 → a - 1 ≤ b.slot := fun b hb hbf hbd hbo => by
      obtain ⟨q1, q2, q3, q4, q5⟩ := att_from hb
      obtain ⟨i2, q6, q7, q8⟩ := hr _ q1
      have hi2 : i2 = i := by
        have := dup_eq hw.dup (by omega) (by omega) (q8.symm.trans hbd)
        omega
      subst hi2
      have hAb := ih1 b hb hbf q7
      have hbN := playR_slots [f] (fun _ => s) x N b hb
      obtain ⟨y, hy⟩ : ∃ y : Nat, b.slot = y := ⟨b.slot.toNat, by omega⟩
      obtain ⟨d, hd⟩ : ∃ d : Nat, A + d = y + 1 := ⟨y + 1 - A, by omega⟩
      have hmost := gens_most hw.form x (N := N) (k := k) (A := A) (a := r.getD i2 0) (b := r.getD (i2 + 1) 0) (fun z hz hzk => by
        unfold Att.key at hzk
        injection hzk with _ hzk; injection hzk with z2 hzk; injection hzk with z3 _
        exact ih1 z hz z2 z3) d (by omega)
      rw [hd] at hmost
      obtain ⟨l6, h6, h7⟩ := playR_late [f] (fun _ => s) x (y + 1) (N - (y + 1))
      rw [show y + 1 + (N - (y + 1)) = N by omega] at h6
      have hbP : b ∈ (playR [f] (fun _ => s) x (y + 1)).atts := by
        rw [h6] at hb
        rcases List.mem_append.1 hb with hb | hb
        · exact hb
        · have := h7 b hb; omega
      have hout := playR_out [f] (fun _ => s) x (y + 1) b.cell (k : Nat)
      have hon : onA b.cell (k : Nat) b = true := by unfold onA; simp [hbf]
      have hmem : b.out ∈ ((playR [f] (fun _ => s) x (y + 1)).atts.filter (onA b.cell (k : Nat))).map (·.out) := List.mem_map.2 ⟨b, List.mem_filter.2 ⟨hbP, hon⟩, rfl⟩
      rw [hout] at hmem
      obtain ⟨j, hj, hjo⟩ := List.mem_map.1 hmem
      rw [List.mem_range] at hj
      rw [q2, q7, q8, hx.on i2 (by omega) j, g7] at hjo
      have hjl : ¬ (j : Int) < l.loss := fun hh2 => by rw [if_pos hh2] at hjo; exact hbo hjo.symm
      have hcount : countR (playR [f] (fun _ => s) x (y + 1)).atts b.cell (k : Nat) = (playR [f] (fun _ => s) x (y + 1)).atts.countP (keyK [f.id, (k : Nat), r.getD i2 0, r.getD (i2 + 1) 0]) := by
        unfold countR
        refine List.countP_congr fun z _ => ?_
        rw [← keyK_onA, q2, q7, q8]
      have hall : needAt n r 0 i2 ≤ (allS (cellsL s f (r.getD i2 0) (r.getD (i2 + 1) 0)) s.len (A : Int) ((y : Int) + 1 - (A : Int)).toNat).length := by
        rw [show ((y : Int) + 1 - (A : Int)).toNat = d by omega]
        omega
      have := slotsOn_least (hh ▸ hL) hall (by omega)
      omega
    refine ⟨fun b hb hbf hbs => ?_, fun _ => two⟩
    obtain ⟨q1, q2, q3, q4, q5⟩ := att_from hb
    unfold holdsR at q5
    simp only [Bool.or_eq_true, beq_iff_eq, List.any_eq_true, Bool.and_eq_true, decide_eq_true_eq] at q5
    rcases q5 with q5 | ⟨c, hc, hg, hs2⟩
    · exfalso
      rw [hbs, ← hw.ends.1] at q5
      exact dup_ne hw.dup (show 0 < i + 1 by omega) (by omega) q5.symm
    · unfold gotA at hg
      simp only [Bool.and_eq_true, beq_iff_eq, bne_iff_ne] at hg
      have := two c hc (hg.1.1.2.trans hbf) (hg.1.2.trans hbs) hg.2
      omega
/-- no breach in such a run -/
theorem no_breach {n : Net} {s : Sched} {f : Flow} {r : List Int} (hw : WayOk n s f r) (hr : onRoute r s) {x : List Rule} {k N : Nat} (hx : WorstX n f r k x) : brcsM n (playR [f] (fun _ => s) x N) = [] := by
  rw [List.eq_nil_iff_forall_not_mem]
  intro b hb
  unfold brcsM at hb
  split at hb
  · rw [refB_mem (Nat.le_refl _), List.take_length] at hb
    obtain ⟨⟨a, ha, hk⟩, h2, h3⟩ := hb
    obtain ⟨q1, q2, q3, q4, q5⟩ := att_from ha
    obtain ⟨i, q6, q7, q8⟩ := hr _ q1
    obtain ⟨m, l, g1, g2, g3, g4, g5, g6, g7⟩ := hw.at (i := i) (by omega)
    have hkey : b.key = [a.cell.flow, a.frame, a.cell.src, a.cell.dst] := hk.symm
    have hloss : lossK n b.key = l.loss := by
      rw [hkey]
      show lossL n a.cell.src a.cell.dst = l.loss
      rw [q7, q8, ← g3, ← g4, link_loss hw.net g2]
    rw [hloss, hkey] at h3
    have hout := playR_out [f] (fun _ => s) x N a.cell a.frame
    have := (brk_outs (loss := l.loss) (fun j hj => by
      rw [q2, q7, q8]
      by_cases hfr : a.frame = (k : Nat)
      · rw [hfr, hx.on i (by omega) j, g7, if_neg (by omega)]
      · exact hx.off _ hfr _ _ j) hout).1
    rw [this] at h3
    cases h3
  · cases hb
/-- THE BOUND IS REACHED -/
theorem bound_reached {n : Net} {s : Sched} {f : Flow} {r : List Int} (h0 : netE n = 0) (hw : WayOk n s f r) (hfl : flowE 32 f = 0) (hr : onRoute r s) {x : List Rule} {k N : Nat} (hx : WorstX n f r k x) {b : Int} {l : List Int} (hrel : relR n s f r 0 (f.phase + (k : Nat) * f.period) = some (b, l)) (hN : f.phase + (k : Nat) * f.period + b ≤ (N : Nat)) (hbig : f.phase + (k : Nat) * f.period + f.period ≤ 1099511627776) :
    delivM (playR [f] (fun _ => s) x N) f.id (k : Nat) = (f.phase + (k : Nat) * f.period + b - 1, true) := by
  have hf := hw.flow
  have hl := hw.len
  unfold relR slotsW at hrel
  cases hs : slotsUp n s f r (f.phase + (k : Nat) * f.period) 0 (r.length - 1) with
  | none => rw [hs] at hrel; cases hrel
  | some p =>
    obtain ⟨o, a⟩ := p
    rw [hs] at hrel
    simp only [Option.map_some, Option.some.injEq, Prod.mk.injEq] at hrel
    have hlt := slotsUp_lt hw (by omega) hs
    obtain ⟨e, he⟩ : ∃ e, r.length - 1 = e + 1 := ⟨r.length - 2, by omega⟩
    have hlast : o.getLast? = some (a - 1) := by
      obtain ⟨m, l, g1, g2, g3, g4, g5, g6, g7⟩ := hw.at (i := e) (by omega)
      rw [he] at hs
      exact slotsUp_last (by unfold needAt; rw [g7]; omega) hs
    have hld : o.getLastD 0 = a - 1 := by rw [List.getLastD_eq_getLast?, hlast]; rfl
    rw [hld] at hrel
    have hnb : unbroken n f r (playR [f] (fun _ => s) x N) (k : Nat) := fun i _ b hb => by
      rw [no_breach hw hr hx] at hb; cases hb
    have hh := hop h0 hw hfl x hbig hnb (r.length - 1) o a (by omega) hs fun y hy => by have := hlt y hy; omega
    have hla := (late_at hw hr hx (N := N) (r.length - 1) o a (by omega) hs).2 (by omega)
    rw [hw.ends.2] at hh hla
    unfold holdsR at hh
    simp only [Bool.or_eq_true, beq_iff_eq, List.any_eq_true, Bool.and_eq_true, decide_eq_true_eq] at hh
    rcases hh with hh | ⟨c, hc, hg, hs2⟩
    · exact absurd hh.symm hf.2.2.2.2.2.2.2.2
    · unfold gotA at hg
      simp only [Bool.and_eq_true, beq_iff_eq, bne_iff_ne] at hg
      obtain ⟨hD, _⟩ := playR_del (flowsOk1 hfl) (fun _ => s) x N
      obtain ⟨d, hd, hd1, hd2, hd3⟩ := hD.to c hc ⟨0, f, rfl, hg.1.1.1.symm, hg.1.2, hg.2⟩
      obtain ⟨c2, hc2, z1, z2, z3, i2, f2, z4, z5, z6, z7⟩ := hD.fm d hd
      have hf2 : f2 = f := by
        cases i2 with
        | zero => simp at z4; exact z4.symm
        | succ i2 => simp at z4
      subst hf2
      have hz := hla c2 hc2 (by rw [z2, hd2, hg.1.1.2]) z6 z7
      unfold delivM
      have := find_un hD.un hd
      rw [hd1, hd2, hg.1.1.1, hg.1.1.2] at this
      rw [this]
      exact Prod.ext (by show d.slot = _; omega) rfl
end HM

/- BoundReached: the part of a schedule that serves a route, and the worst script. -/
namespace HM
open Go Go.RowKit

def onP (r : List Int) (f : Flow) (c : Cell) : Bool := c.flow == f.id && (decide (0 ≤ idxI r c.src) && (decide (idxI r c.src + 1 < (r.length : Int)) && (r.getD (idxI r c.src + 1).toNat 0 == c.dst)))
def partR (s : Sched) (r : List Int) (f : Flow) : Sched := ⟨s.len, s.offs, s.cells.filter (onP r f)⟩
theorem onP_route {r : List Int} {f : Flow} {c : Cell} (h : onP r f c = true) : ∃ i, i + 1 < r.length ∧ c.src = r.getD i 0 ∧ c.dst = r.getD (i + 1) 0 := by
  unfold onP at h
  simp only [Bool.and_eq_true, beq_iff_eq, decide_eq_true_eq] at h
  obtain ⟨_, h1, h2, h3⟩ := h
  obtain ⟨k, y, e1, e2, e3⟩ := idxF_at (p := fun y => decide (c.src = y)) (l := r) (show idxF (fun y => decide (c.src = y)) r ≠ -1 from fun e => by unfold idxI at h1; omega)
  have e4 : idxI r c.src = k := e1
  rw [e4] at h2 h3
  refine ⟨k, by omega, ?_, ?_⟩
  · rw [List.getD_eq_getElem?_getD, e2]; exact of_decide_eq_true e3
  · rw [← h3]; rfl
theorem onRoute_part {s : Sched} {r : List Int} {f : Flow} : onRoute r (partR s r f) := fun c hc => onP_route (List.mem_filter.1 hc).2
theorem cellsL_part {s : Sched} {r : List Int} {f : Flow} (hd : ∀ i, i < r.length → dupAt r i = false) {i : Nat} (hi : i + 1 < r.length) : cellsL (partR s r f) f (r.getD i 0) (r.getD (i + 1) 0) = cellsL s f (r.getD i 0) (r.getD (i + 1) 0) := by
  unfold cellsL partR
  simp only
  rw [List.filter_filter]
  refine List.filter_congr fun c _ => ?_
  cases hc : !offL f.id (r.getD i 0) (r.getD (i + 1) 0) c with
  | false => rfl
  | true =>
    unfold offL at hc
    simp only [Bool.not_or, Bool.and_eq_true, Bool.not_eq_true', bne_eq_false_iff_eq] at hc
    rw [Bool.true_and]
    unfold onP
    rw [hc.1.2, idxI_at hd (by omega)]
    simp only [Bool.and_eq_true, beq_iff_eq, decide_eq_true_eq]
    exact ⟨hc.1.1, by omega, by omega, by rw [hc.2, show ((i : Nat) + 1 : Int).toNat = i + 1 by omega]⟩
theorem slotsUp_route {n : Net} {s : Sched} {f : Flow} {r : List Int} (hd : ∀ i, i < r.length → dupAt r i = false) (rel : Int) : ∀ i : Nat, i + 1 ≤ r.length → slotsUp n (partR s r f) f r rel 0 i = slotsUp n s f r rel 0 i
  | 0, _ => rfl
  | i + 1, hi => by
    unfold slotsUp
    rw [slotsUp_route hd rel i (by omega)]
    have e : ∀ (need : Nat) (a b : Int), slotsOn (partR s r f) f (r.getD i 0) (r.getD (i + 1) 0) need a b = slotsOn s f (r.getD i 0) (r.getD (i + 1) 0) need a b := fun need a b => by
      unfold slotsOn; rw [cellsL_part hd (by omega)]; rfl
    simp only [e]
theorem relR_route {n : Net} {s : Sched} {f : Flow} {r : List Int} (hd : ∀ i, i < r.length → dupAt r i = false) (hl : 2 ≤ r.length) (rel : Int) : relR n (partR s r f) f r 0 rel = relR n s f r 0 rel := by
  unfold relR slotsW
  rw [slotsUp_route hd rel (r.length - 1) (by omega)]
theorem way_part {n : Net} {s : Sched} {f : Flow} {r : List Int} (hw : WayOk n s f r) : WayOk n (partR s r f) f r where
  net := hw.net
  form := formB_filter hw.form _
  flow := hw.flow
  per := hw.per
  len := hw.len
  hop := hw.hop
  dup := hw.dup
  ends := hw.ends

/-- the rule of a link in the worst script -/
def lostR (n : Net) (f : Flow) (r : List Int) (k : Int) (i : Nat) : Rule := ⟨f.id, r.getD i 0, r.getD (i + 1) 0, k, List.replicate (linkAt n r i).loss.toNat 3⟩
def lostO (n : Net) (f : Flow) (r : List Int) (k : Int) (i : Nat) : Option Rule := if 0 < (linkAt n r i).loss then some (lostR n f r k i) else none
/-- the rules of the worst script, in the order of the route -/
def worstU (n : Net) (f : Flow) (r : List Int) (k : Int) (m : Nat) : List Rule := (List.range m).filterMap (lostO n f r k)
theorem worstU_mem {n : Net} {f : Flow} {r : List Int} {k : Int} {m : Nat} {x : Rule} : x ∈ worstU n f r k m ↔ ∃ i, i < m ∧ 0 < (linkAt n r i).loss ∧ x = lostR n f r k i := by
  unfold worstU
  rw [List.mem_filterMap]
  constructor
  · rintro ⟨i, hi, h⟩
    unfold lostO at h
    split at h
    · rename_i hl; injection h with h; exact ⟨i, List.mem_range.1 hi, hl, h.symm⟩
    · cases h
  · rintro ⟨i, hi, hl, rfl⟩
    exact ⟨i, List.mem_range.2 hi, by unfold lostO; rw [if_pos hl]⟩
theorem worstX_of {n : Net} {s : Sched} {f : Flow} {r : List Int} (hw : WayOk n s f r) {k : Nat} {x : List Rule} (hx : ∀ y, y ∈ x ↔ y ∈ worstU n f r (k : Nat) (r.length - 1)) : WorstX n f r k x where
  on := fun i hi j => by
    unfold outcomeM
    cases hf : x.find? fun y => y.flow == f.id && y.frame == ((k : Nat) : Int) && y.src == r.getD i 0 && y.dst == r.getD (i + 1) 0 with
    | none =>
      simp only
      have h0 := List.find?_eq_none.1 hf
      have hl : ¬ 0 < (linkAt n r i).loss := fun hl => by
        have hm := (hx (lostR n f r (k : Nat) i)).2 (worstU_mem.2 ⟨i, by omega, hl, rfl⟩)
        exact h0 _ hm (by simp [lostR])
      rw [if_neg (by omega)]
    | some y =>
      simp only
      have h1 := List.find?_some hf
      simp only [Bool.and_eq_true, beq_iff_eq] at h1
      obtain ⟨i2, hi2, hl, rfl⟩ := worstU_mem.1 ((hx y).1 (List.mem_of_find?_eq_some hf))
      have e : i2 = i := dup_eq hw.dup (by omega) (by omega) h1.1.2
      subst e
      show ((List.replicate (linkAt n r i2).loss.toNat (3 : Int))[j]?).getD 1 = _
      rw [List.getElem?_replicate]
      by_cases hj : (j : Int) < (linkAt n r i2).loss
      · rw [if_pos hj, if_pos (by omega)]; rfl
      · rw [if_neg hj, if_neg (by omega)]; rfl
  off := fun fr hfr a b j => by
    unfold outcomeM
    have : (x.find? fun y => y.flow == f.id && y.frame == fr && y.src == a && y.dst == b) = none := by
      rw [List.find?_eq_none]
      intro y hy hp
      obtain ⟨i, _, _, rfl⟩ := worstU_mem.1 ((hx y).1 hy)
      simp only [Bool.and_eq_true, beq_iff_eq] at hp
      exact hfr hp.1.1.2.symm
    rw [this]
/-- the worst script is one that can be played -/
theorem worst_script {n : Net} {s : Sched} {f : Flow} {r : List Int} (hw : WayOk n s f r) (hn : n.nodes ≤ 32) (hr : ∀ a ∈ r, 0 ≤ a ∧ a < n.nodes) {k : Nat} (hk : k ≤ 1048576) {x : List Rule} (hx : ∀ y, y ∈ x ↔ y ∈ worstU n f r (k : Nat) (r.length - 1)) (hlen : x.length ≤ 1024) (hs : x.Pairwise fun a b => a.src < b.src) : scriptM x = (-1, 0) := by
  have hf := hw.flow
  have hb : ∀ y ∈ x, ruleB y = true ∧ y.flow = f.id ∧ y.frame = (k : Nat) := fun y hy => by
    obtain ⟨i, hi, hl, rfl⟩ := worstU_mem.1 ((hx y).1 hy)
    obtain ⟨m, l, g1, g2, g3, g4, g5, g6, g7⟩ := hw.at (i := i) (by omega)
    refine ⟨?_, rfl, rfl⟩
    have ha : ∀ j, j < r.length → 0 ≤ r.getD j 0 ∧ r.getD j 0 ≤ 31 := fun j hj => by
      have := hr (r.getD j 0) (by rw [List.getD_eq_getElem?_getD, List.getElem?_eq_getElem hj]; exact List.getElem_mem hj)
      omega
    have h1 := ha i (by omega)
    have h2 := ha (i + 1) (by omega)
    rw [g7] at hl
    simp only [ruleB, rangeB, lostR, g7, List.length_replicate, Bool.and_eq_true, decide_eq_true_eq, Bool.not_eq_true', List.any_eq_false, badO, Bool.or_eq_true, not_or, Int.not_lt]
    refine ⟨⟨⟨⟨⟨⟨⟨hf.1, hf.2.1⟩, by omega, by omega⟩, h1⟩, h2⟩, by omega⟩, by omega⟩, fun o ho => ?_⟩
    have := List.eq_of_mem_replicate ho
    omega
  refine scriptM_ok (by omega) fun j y hy => ?_
  have hym := List.mem_of_getElem? hy
  unfold ruleF
  rw [(hb y hym).1, if_neg (by simp)]
  cases j with
  | zero => simp [ruleO]
  | succ j =>
    have hj : j < x.length := by have := (List.getElem?_eq_some_iff.1 hy).1; omega
    have hp : x[j]? = some x[j] := List.getElem?_eq_getElem hj
    have hpm := List.mem_of_getElem? hp
    have hlt : x[j].src < y.src := by
      have h1 := List.pairwise_iff_getElem.1 hs j (j + 1) hj (List.getElem?_eq_some_iff.1 hy).1 (by omega)
      rwa [(List.getElem?_eq_some_iff.1 hy).2] at h1
    simp only [ruleO, hp]
    have hc : x[j].cmp y < 0 := by
      unfold Rule.cmp Rule.key
      rw [(hb _ hpm).2.1, (hb _ hpm).2.2, (hb y hym).2.1, (hb y hym).2.2]
      have e1 : ∀ z : Int, cmpI z z = 0 := fun z => by simp [cmpI]
      have e3 : cmpI x[j].src y.src = -1 := by unfold cmpI; rw [if_pos hlt]
      simp only [cmpL, e1, e3, if_true]
      rw [if_neg (by decide)]
      decide
    rw [decide_eq_true hc]
    simp
end HM

/- BoundWorst, BoundReached: what their laws ask. -/
namespace HM
open Go Go.RowKit

/-- the worst script, in order -/
def worstM (n : Net) (f : Flow) (r : List Int) (k : Int) : List Rule := (List.range n.nodes.toNat).flatMap fun a : Nat => (worstU n f r k (r.length - 1)).filter fun y => y.src == (a : Int)
theorem worstU_src {n : Net} {f : Flow} {r : List Int} (hd : ∀ i, i < r.length → dupAt r i = false) {k : Int} : ∀ m : Nat, m + 1 ≤ r.length → (worstU n f r k m).Pairwise fun a b => a.src ≠ b.src
  | 0, _ => by simp [worstU]
  | m + 1, hm => by
    have ih := worstU_src (n := n) (f := f) hd (k := k) m (by omega)
    unfold worstU at ih ⊢
    rw [List.range_succ, List.filterMap_append]
    refine List.pairwise_append.2 ⟨ih, ?_, fun a ha b hb => ?_⟩
    · simp only [List.filterMap_cons, List.filterMap_nil]
      cases lostO n f r k m <;> simp
    · obtain ⟨i, hi, hl, rfl⟩ := worstU_mem.1 (show a ∈ worstU n f r k m from ha)
      simp only [List.filterMap_cons, List.filterMap_nil] at hb
      have hb2 : b = lostR n f r k m := by
        unfold lostO at hb
        split at hb
        · rename_i x hx; split at hx
          · cases hx
          · cases hb
        · rename_i x hx; split at hx
          · injection hx with hx; subst hx; simpa using hb
          · cases hx
      subst hb2
      exact dup_ne hd hi (by omega)
theorem worstM_mem {n : Net} {f : Flow} {r : List Int} {k : Int} (hr : ∀ a ∈ r, 0 ≤ a ∧ a < n.nodes) {y : Rule} : y ∈ worstM n f r k ↔ y ∈ worstU n f r k (r.length - 1) := by
  unfold worstM
  rw [List.mem_flatMap]
  constructor
  · rintro ⟨a, _, h⟩; exact (List.mem_filter.1 h).1
  · intro h
    obtain ⟨i, hi, hl, rfl⟩ := worstU_mem.1 h
    have := hr (r.getD i 0) (by rw [List.getD_eq_getElem?_getD, List.getElem?_eq_getElem (by omega)]; exact List.getElem_mem _)
    refine ⟨(r.getD i 0).toNat, List.mem_range.2 (by omega), List.mem_filter.2 ⟨h, ?_⟩⟩
    show (r.getD i 0 == _) = true
    rw [beq_iff_eq]; omega
theorem filter_le_one {α : Type} {p : α → Bool} {g : α → Int} {v : Int} (hp : ∀ x, p x = true → g x = v) : ∀ {l : List α}, l.Pairwise (fun a b => g a ≠ g b) → (l.filter p).Pairwise fun a b => g a < g b
  | [], _ => by simp
  | x :: l, h => by
    have h2 := List.pairwise_cons.1 h
    rw [List.filter_cons]
    split
    · rename_i hx
      refine List.pairwise_cons.2 ⟨fun y hy => ?_, filter_le_one hp h2.2⟩
      have hy2 := List.mem_filter.1 hy
      exact absurd ((hp x hx).trans (hp y hy2.2).symm) (h2.1 y hy2.1)
    · exact filter_le_one hp h2.2
theorem worstM_sorted {n : Net} {f : Flow} {r : List Int} (hd : ∀ i, i < r.length → dupAt r i = false) (hl : 1 ≤ r.length) {k : Int} : (worstM n f r k).Pairwise fun a b => a.src < b.src := by
  unfold worstM
  generalize n.nodes.toNat = m
  induction m with
  | zero => simp
  | succ m ih =>
    rw [List.range_succ, List.flatMap_append]
    refine List.pairwise_append.2 ⟨ih, ?_, fun a ha b hb => ?_⟩
    · simp only [List.flatMap_cons, List.flatMap_nil, List.append_nil]
      exact filter_le_one (g := Rule.src) (v := (m : Int)) (fun x hx => by simpa using hx) (worstU_src hd _ (by omega))
    · obtain ⟨j, hj, ha⟩ := List.mem_flatMap.1 ha
      simp only [List.flatMap_cons, List.flatMap_nil, List.append_nil] at hb
      have h1 := (List.mem_filter.1 ha).2
      have h2 := (List.mem_filter.1 hb).2
      rw [beq_iff_eq] at h1 h2
      rw [List.mem_range] at hj
      omega
/-- sorting the rules of the route's order gives the worst script -/
theorem worst_sort {n : Net} {f : Flow} {r : List Int} (hd : ∀ i, i < r.length → dupAt r i = false) (hl : 1 ≤ r.length) (hr : ∀ a ∈ r, 0 ≤ a ∧ a < n.nodes) {k : Int} {ds : List Rule} (hp : ds.Perm (worstU n f r k (r.length - 1))) (hs : ds.Pairwise fun a b => ¬ cmpL [b.src, b.dst] [a.src, a.dst] < 0) : ds = worstM n f r k := by
  have h1 : ds.Pairwise fun a b => a.src ≠ b.src := List.Pairwise.perm (worstU_src hd _ (by omega)) hp.symm (fun h => h.symm)
  have h2 : ds.Pairwise fun a b => a.src < b.src := (List.Pairwise.and hs h1).imp fun {a b} h => by
    apply Decidable.byContradiction
    intro hn
    have h3 : b.src < a.src := by have := h.2; omega
    refine h.1 ?_
    have e3 : cmpI b.src a.src = -1 := by unfold cmpI; rw [if_pos h3]
    simp only [cmpL, e3]
    rw [if_neg (by decide)]
    decide
  refine strict_ext (lt := fun a b : Rule => a.src < b.src) (fun a => Int.lt_irrefl _) (fun a b h h' => by omega) h2 (worstM_sorted hd hl) fun x => ?_
  rw [hp.mem_iff, worstM_mem hr]
theorem worstM_len {n : Net} {s : Sched} {f : Flow} {r : List Int} (hw : WayOk n s f r) (hr : ∀ a ∈ r, 0 ≤ a ∧ a < n.nodes) {k : Int} : (worstM n f r k).length ≤ r.length - 1 := by
  have hp : (worstM n f r k).Perm (worstU n f r k (r.length - 1)) := by
    refine (List.perm_ext_iff_of_nodup ?_ ?_).2 fun y => worstM_mem hr
    · exact (worstM_sorted hw.dup (by have := hw.len; omega)).imp fun h e => by subst e; exact Int.lt_irrefl _ h
    · exact (worstU_src hw.dup _ (by have := hw.len; omega)).imp fun h e => h (by rw [e])
  rw [hp.length_eq]
  unfold worstU
  exact Nat.le_trans (List.length_filterMap_le _ _) (by rw [List.length_range]; exact Nat.le_refl _)
/-- THE LAW -/
theorem reached_law {n : Net} {s : Sched} {f : Flow} {r : List Int} (h0 : netE n = 0) (hw : WayOk n s f r) (hn : n.nodes ≤ 32) (hfl : flowE 32 f = 0) (hr : ∀ a ∈ r, 0 ≤ a ∧ a < n.nodes) {k : Nat} {slots : Int} (hs : slots = f.phase + (k : Nat) * f.period + f.period) (hs2 : slots ≤ 4096) {b : Int} {l : List Int} (hrel : relR n s f r 0 (f.phase + (k : Nat) * f.period) = some (b, l)) :
    (playM [f] (partR s r f) (worstM n f r (k : Nat)) slots).2 = 0 ∧ delivM (playM [f] (partR s r f) (worstM n f r (k : Nat)) slots).1 f.id (k : Nat) = (f.phase + (k : Nat) * f.period + b - 1, true) ∧ brcsM n (playM [f] (partR s r f) (worstM n f r (k : Nat)) slots).1 = [] := by
  have hf := hw.flow
  have hl := hw.len
  have hk0 : 0 ≤ (k : Int) * f.period := Int.mul_nonneg (by omega) (by omega)
  have hkk : (k : Int) * 1 ≤ (k : Int) * f.period := Int.mul_le_mul_of_nonneg_left (by omega) (by omega)
  have hmem : ∀ y, y ∈ worstM n f r (k : Nat) ↔ y ∈ worstU n f r (k : Nat) (r.length - 1) := fun y => worstM_mem hr
  have hlen := worstM_len hw hr (k := (k : Nat))
  have hsc := worst_script hw hn hr (k := k) (by omega) hmem (by omega) (worstM_sorted hw.dup (by omega))
  have hwx := worstX_of hw hmem
  have hwp := way_part hw
  have hrd : readyM [f] (partR s r f) (worstM n f r (k : Nat)) slots = 0 := by
    unfold readyM
    have hfs : (flowsE 32 [f]).2 = 0 := by
      have : flowAt 32 [f] 0 = 0 := by simp [flowAt, hfl, flowO]
      simp [flowsE, firstAt, this, List.range_succ]
    rw [if_neg (by rw [hfs, hwp.form, hsc]; simp), if_neg (by omega)]
  rw [playM_R hrd]
  have hrange := relR_range hw hrel
  have hrel2 : relR n (partR s r f) f r 0 (f.phase + (k : Nat) * f.period) = some (b, l) := by rw [relR_route hw.dup (by omega)]; exact hrel
  exact ⟨rfl, bound_reached h0 hwp hfl onRoute_part hwx hrel2 (by omega) (by omega), no_breach hwp onRoute_part hwx⟩
end HM

/- Worst: the answer in plain words; the loops of the reference. -/
namespace HM
open Go Go.RowKit

/-- the answer of Worst -/
def wrstM (n : Net) (s : Sched) (f : Flow) (r : List Int) (frame : Int) : List Rule × Int :=
  if wayE n s f r ≠ 0 then ([], wayE n s f r)
  else if frame < 0 ∨ 1048576 < frame ∨ 1048576 < f.phase + frame * f.period then ([], 2)
  else match relR n s f r 0 (f.phase + frame * f.period) with
    | none => ([], 15)
    | some _ => (worstM n f r frame, 0)
theorem worstU_succ (n : Net) (f : Flow) (r : List Int) (k : Int) (m : Nat) : worstU n f r k (m + 1) = worstU n f r k m ++ (lostO n f r k m).toList := by
  unfold worstU
  rw [List.range_succ, List.filterMap_append]
  cases h : lostO n f r k m <;> simp [h]
theorem worstU_len (n : Net) (f : Flow) (r : List Int) (k : Int) (m : Nat) : (worstU n f r k m).length ≤ m := by
  unfold worstU
  exact Nat.le_trans (List.length_filterMap_le _ _) (by rw [List.length_range]; exact Nat.le_refl _)
end HM

/- The cells that count, as the reference finds them. -/
namespace HM
open Go Go.RowKit

/-- the nodes of a route are the network's -/
theorem way_nodes {n : Net} {s : Sched} {f : Flow} {r : List Int} (h : wayE n s f r = 0) : ∀ a ∈ r, 0 ≤ a ∧ a < n.nodes := by
  unfold wayE at h
  split at h
  · cases h
  split at h
  · cases h
  unfold routeE at h
  split at h
  · contradiction
  obtain ⟨_, _, _, _, h5⟩ := routeF_ok h
  intro a ha
  have := h5 a ha
  simpa [insB] using this
theorem way_flow {n : Net} {s : Sched} {f : Flow} {r : List Int} (h : wayE n s f r = 0) : netE n = 0 ∧ flowE n.nodes f = 0 := by
  unfold wayE at h
  split at h
  · cases h
  rename_i h1
  simp only [not_or, ne_eq, Decidable.not_not, Bool.not_eq_false] at h1
  exact ⟨h1.1, h1.2.2⟩
end HM

/- BoundWorst, BoundReached: sizes. -/
namespace HM
open Go Go.RowKit
theorem flowE_more {n m : Int} {f : Flow} (h : flowE n f = 0) (hm : n ≤ m) : flowE m f = 0 := by
  obtain ⟨q1, q2, q3, q4, q5, q6, q7, q8, q9, q10, q11, q12, q13⟩ := flowE_ok h
  unfold flowE insB
  rw [if_neg (by simp; omega), if_neg (by omega), if_neg q13]
theorem wrst_small (n : Net) (s : Sched) (f : Flow) (r : List Int) (k : Int) : (wrstM n s f r k).1.length ≤ 9 ∧ ∀ x ∈ (wrstM n s f r k).1, x.outs.length ≤ 7 := by
  unfold wrstM
  split
  · exact ⟨by simp, by simp⟩
  · rename_i h
    have h0 : wayE n s f r = 0 := by simpa using h
    have hw := wayE_ok h0
    have hr := way_nodes h0
    have hl := hw.len
    split
    · exact ⟨by simp, by simp⟩
    · split
      · exact ⟨by simp, by simp⟩
      · refine ⟨Nat.le_trans (worstM_len hw hr) (by omega), fun x hx => ?_⟩
        obtain ⟨i, hi, hp, rfl⟩ := worstU_mem.1 ((worstM_mem hr).1 hx)
        obtain ⟨m, l, g1, g2, g3, g4, g5, g6, g7⟩ := hw.at (i := i) (by omega)
        show (List.replicate _ _).length ≤ 7
        rw [List.length_replicate, g7]
        omega
/-- an answer without a fault -/
theorem wrst_ok {n : Net} {s : Sched} {f : Flow} {r : List Int} {k : Int} (h : (wrstM n s f r k).2 = 0) : wayE n s f r = 0 ∧ 0 ≤ k ∧ k ≤ 1048576 ∧ f.phase + k * f.period ≤ 1048576 ∧ (∃ b l, relR n s f r 0 (f.phase + k * f.period) = some (b, l)) ∧ (wrstM n s f r k).1 = worstM n f r k := by
  unfold wrstM at h ⊢
  split at h
  · rename_i g; exact absurd h g
  · rename_i g
    rw [if_neg g]
    split at h
    · cases h
    · rename_i g2
      rw [if_neg g2]
      split at h
      · cases h
      · rename_i p g3
        rw [g3]
        exact ⟨by simpa using g, by omega, by omega, by omega, ⟨p.1, p.2, rfl⟩, rfl⟩
theorem wrst_bad {n : Net} {s : Sched} {f : Flow} {r : List Int} {k : Int} (h : (wrstM n s f r k).2 ≠ 0) : (wrstM n s f r k).1 = [] := by
  unfold wrstM at h ⊢
  split
  · rfl
  · rename_i g
    rw [if_neg g] at h
    split
    · rfl
    · rename_i g2
      rw [if_neg g2] at h
      split
      · rfl
      · rename_i p g3
        rw [g3] at h
        exact absurd rfl h
end HM

/- A slot of a run: its beginning and its end. -/
namespace HM
open Go Go.RowKit
theorem SimE.start {l : List Flow} (hl : FlowsOk l) {t : Int} (ht : t + 1 ≤ 1099511627776) {q : PL} {r : RunL} (h : SimE l t q r) : Sim l (t + 1) q.dels ⟨releaseS l (t + 1) q.sts, q.atts, q.dels⟩ r := by
  have hslot : ∀ d ∈ q.dels, d.slot < t + 1 := fun d hd => by
    obtain ⟨b, hb, h1, _⟩ := h.run.dl d hd
    have := (h.run.at_ b hb).2.1
    omega
  refine ⟨by simp [releaseS, h.len], fun i f p hf hp => ?_, ⟨fun b hb => ?_, h.run.dl⟩, h.at_, ⟨[], [], by simp, by simp [h.dl], .refl _, .nil, by simp⟩, hslot⟩
  · simp only [releaseS, List.getElem?_zipWith, hf] at hp
    cases hq : q.sts[i]? with
    | none => rw [hq] at hp; cases hp
    | some p0 =>
      rw [hq] at hp
      simp only [Option.some.injEq] at hp
      subst hp
      exact (h.fl i f p0 hf hq).release hl ht h.run hf
  · obtain ⟨g1, g2, g3⟩ := h.run.at_ b hb
    exact ⟨g1, by omega, g3⟩
theorem sorted_eq {l l' ds : List Del} (hp : l'.Perm l) (h : l'.Pairwise fun a b => a.flow < b.flow) (hd : ds.Perm l) (hs : ds.Pairwise fun a b => a.flow ≤ b.flow) : ds = l' := by
  refine List.Perm.eq_of_pairwise (le := fun a b : Del => a.flow ≤ b.flow) (fun a b ha hb h1 h2 => ?_) hs (h.imp fun h => Int.le_of_lt h) (hd.trans hp.symm)
  have ha' : a ∈ l' := hp.symm.subset (hd.subset ha)
  obtain ⟨i, hi⟩ := List.getElem?_of_mem ha'
  obtain ⟨j, hj⟩ := List.getElem?_of_mem hb
  obtain ⟨hi1, hi2⟩ := List.getElem?_eq_some_iff.1 hi
  obtain ⟨hj1, hj2⟩ := List.getElem?_eq_some_iff.1 hj
  rcases Nat.lt_trichotomy i j with hij | rfl | hij
  · have := List.pairwise_iff_getElem.1 h i j hi1 hj1 hij
    rw [hi2, hj2] at this; omega
  · rw [hi] at hj; injection hj
  · have := List.pairwise_iff_getElem.1 h j i hj1 hi1 hij
    rw [hi2, hj2] at this; omega
/-- what an attempt asks of a state -/
theorem Sim.ask {l : List Flow} {t : Int} {base : List Del} {q : PL} {r : RunL} (h : Sim l t base q r) : (∀ (i : Nat) (p : PS), q.sts[i]? = some p → p.ok) ∧ (∀ (i : Nat) (p : PS), q.sts[i]? = some p → ¬ p.frame < 0 → ∀ a b, 0 ≤ (p.tries.get [a, b]).getD 0 ∧ (p.tries.get [a, b]).getD 0 ≤ (q.atts.length : Int)) := by
  have hf : ∀ (i : Nat) (p : PS), q.sts[i]? = some p → ∃ f, l[i]? = some f := fun i p hp => by
    have h1 := (List.getElem?_eq_some_iff.1 hp).1
    exact ⟨_, List.getElem?_eq_getElem (by rw [← h.len]; exact h1)⟩
  refine ⟨fun i p hp => ?_, fun i p hp h0 a b => ?_⟩
  · obtain ⟨f, hf⟩ := hf i p hp
    exact (h.fl i f p hf hp).ok
  · obtain ⟨f, hf⟩ := hf i p hp
    have := (h.fl i f p hf hp).tr (by omega) ⟨0, 0, a, b, f.id⟩ rfl
    simp only at this
    rw [this]
    have h2 : countR q.atts ⟨0, 0, a, b, f.id⟩ p.frame ≤ q.atts.length := List.countP_le_length
    omega
/-- behind a slot's attempts -/
theorem Sim.slotEnd {l : List Flow} {t : Int} {q q1 : PL} {r1 : RunL} (h : Sim l t q.dels q1 r1) : ∃ new, q1.dels = q.dels ++ new ∧ ∀ ds, ds.Perm new → (ds.Pairwise fun a b => a.flow ≤ b.flow) → q1.dels.take q.dels.length ++ (q1.dels.drop q.dels.length).mergeSort (fun a b => decide (a.flow ≤ b.flow)) = q.dels ++ ds := by
  obtain ⟨new, old, d1, d2, d3, d4, d5⟩ := h.dl
  refine ⟨new, d1, fun ds hp hs => ?_⟩
  have e1 : q1.dels.take q.dels.length = q.dels := by rw [d1]; simp
  have e2 : q1.dels.drop q.dels.length = new := by rw [d1]; simp
  rw [e1, e2, sort_eq d3 d4, sorted_eq d3 d4 hp hs]
end HM

/- A run's beginning in a store. -/
namespace HM
open Go Go.RowKit
theorem delOk : EncOk Del.av 3 := ⟨fun _ => rfl, fun _ => rfl, fun _ => rfl, fun _ => rfl, by decide⟩
theorem states0 (l : List Flow) (g : Nat → Nat → Nat) (z : AV) (hz : ∀ h : Nat → Nat, stAV h PS.first = z) : statesE g (l.map fun _ => PS.first) = List.replicate l.length z := by
  apply List.ext_getElem?
  intro i
  simp only [statesE, List.getElem?_mapIdx, List.getElem?_map, List.getElem?_replicate]
  cases hi : l[i]? with
  | none =>
    have := List.getElem?_eq_none_iff.1 hi
    rw [if_neg (by omega)]; rfl
  | some f =>
    have := (List.getElem?_eq_some_iff.1 hi).1
    rw [if_pos this]
    simp [hz]
end HM
