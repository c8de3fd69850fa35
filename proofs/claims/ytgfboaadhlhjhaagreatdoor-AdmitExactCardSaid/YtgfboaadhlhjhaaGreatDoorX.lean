/- What the texts below also need. -/
import Derived.Test.YtgfboaadhlhjhaaGreatDoorFd
import Derived.ControlIn
import Derived.Test.YtgfboaadhlhjhaaGreatDoorFe
import Derived.RangeFuncLeaves
import Derived.RangeFuncRecord
import Derived.IntWalk
import Derived.Test.YtgfboaadhlhjhaaGreatDoorFf
import Derived.Laws.Externs
import Derived.ChangeSlices
import Derived.SizedLaws
import Derived.ChangeArms
import Derived.ProofKit
import Derived.Test.YtgfboaadhlhjhaaGreatDoorFg
import Derived.Lib.Overlaps
import Derived.Shelf.SlSortCmp.NoneTotal
import Derived.Test.YtgfboaadhlhjhaaGreatDoorFh
import Derived.Test.YtgfboaadhlhjhaaGreatDoorDa
import Derived.Test.YtgfboaadhlhjhaaGreatDoorDb
import Derived.Test.YtgfboaadhlhjhaaGreatDoorFc
import Derived.Test.YtgfboaadhlhjhaaGreatDoorDc
import Derived.Test.YtgfboaadhlhjhaaGreatDoorDd
namespace HM
open Go Go.RowKit
end HM
namespace HM
open Go Go.RowKit
end HM
namespace HM
open Go Go.RowKit
end HM
namespace HM
open Go Go.RowKit
theorem SeqK.cut {P : Program} {L : World → Prop} {nt : Nat} (hm : P.follows .mixedOrders = true) (ct ct' : List Nat) {c d : Code} {a : Nat → AV} {S : St} {Q : Exit → (Nat → AV) → St → Prop} {σ : Type} (I : σ → Prop) (sl : σ → List (Nat × AV)) (st : σ → St)
    (hc : twC P L nt ct c a S (seqQ (fun a' S' => ∃ s, I s ∧ Fits a' S' (sl s) (st s)) Q)) (hd : ∀ s, I s → twC P L nt ct' d (ofL (sl s)) (st s) Q) : SeqK P L nt c d a S Q := by
  refine ⟨⟨fun w0 G act w hR => ?_⟩⟩
  refine wpIn_seq (Go.wpIn_mono ((twC_sound hm c a S _ hc).out w0 G act w hR) fun e a' w' ⟨G', a1, S', hR', hq⟩ => ?_)
  cases e with
  | normal =>
    obtain ⟨s, hI, hfit⟩ := hq
    exact (twC_sound hm d _ _ _ (hd s hI)).out w0 _ a' w' (hR'.weak hfit)
  | _ => exact ⟨G', a1, S', hR', hq⟩
end HM
namespace HM
open Go Go.RowKit
end HM
namespace HM
open Go Go.RowKit
end HM
namespace HM
open Go Go.RowKit
end HM
namespace HM
open Go Go.RowKit
end HM
namespace HM
open Go Go.RowKit
end HM
namespace HM
open Go Go.RowKit
end HM
namespace HM
open Go Go.RowKit
end HM
namespace HM
open Go Go.RowKit
end HM
namespace HM
open Go Go.RowKit
end HM
namespace HM
open Go Go.RowKit
end HM
namespace HM
open Go Go.RowKit
section
variable {H : Type} {enc : TypeId × Value → H} {P : Program} {w : World} {base : Nat} {spare : Nat → Bool} {held : Bool}
end
end HM
namespace HM
open Go Go.RowKit Go.ChangeShapes Go.WideShapes
section
variable {H : Type} {enc : TypeId × Value → H} {P : Program} {w : World} {b : Nat} {sp : Nat → Bool} {hd : Bool}
end
theorem len5 {α : Type} {l : List α} (h : l.length = 5) : ∃ a b c d e, l = [a, b, c, d, e] := by
  match l, h with
  | [a, b, c, d, e], _ => exact ⟨a, b, c, d, e, rfl⟩
end HM
namespace HM
open Go Go.RowKit
end HM
namespace HM
open Go Go.RowKit
end HM
namespace HM
open Go Go.RowKit
end HM
namespace HM
open Go Go.RowKit
end HM
namespace HM
open Go Go.RowKit
end HM
namespace HM
open Go Go.RowKit
end HM
namespace HM
open Go Go.RowKit
end HM
namespace HM
open Go Go.RowKit
end HM
namespace HM
open Go Go.RowKit
end HM
namespace HM
open Go Go.RowKit
end HM
namespace HM
open Go Go.RowKit
end HM
namespace HM
open Go Go.RowKit Go.Proofs
section
variable {α : Type} {enc : α → List Value} {k : Nat}
end
end HM
namespace HM
open Go Go.RowKit
end HM
namespace HM
open Go Go.RowKit
end HM
namespace HM
open Go Go.RowKit
end HM
namespace HM
open Go Go.RowKit Go.ChangeShapes Go.WideShapes
section
variable {H : Type} {enc : TypeId × Value → H} {P : Program} {w : World} {b : Nat} {sp : Nat → Bool} {hd : Bool}
end
end HM
namespace HM
open Go Go.RowKit
end HM
namespace HM
open Go Go.RowKit
end HM
namespace HM
open Go Go.RowKit
end HM
namespace HM
open Go Go.RowKit
end HM
namespace HM
open Go Go.RowKit
theorem sh5 {d1 d2 d3 d4 d5 : Ty} : ∀ {es : List AV}, shArgs [d1, d2, d3, d4, d5] es → ∃ l1 l2 l3 l4 l5, es = [d1.mk l1, d2.mk l2, d3.mk l3, d4.mk l4, d5.mk l5] ∧ d1.sh l1 ∧ d2.sh l2 ∧ d3.sh l3 ∧ d4.sh l4 ∧ d5.sh l5
  | [e1, e2, e3, e4, e5], h => by
    obtain ⟨⟨l1, h1, rfl⟩, ⟨l2, h2, rfl⟩, ⟨l3, h3, rfl⟩, ⟨l4, h4, rfl⟩, ⟨l5, h5, rfl⟩, _⟩ := h
    exact ⟨l1, l2, l3, l4, l5, rfl, h1, h2, h3, h4, h5⟩
  | [], h => by simp [shArgs] at h
  | [_], h => by simp [shArgs] at h
  | [_, _], h => by simp [shArgs] at h
  | [_, _, _], h => by simp [shArgs] at h
  | [_, _, _, _], h => by simp [shArgs] at h
  | _ :: _ :: _ :: _ :: _ :: _ :: _, h => by simp [shArgs] at h
end HM
namespace HM
open Go Go.RowKit
theorem link_find {n : Net} (h : NetOk n) {i : Nat} {l : Link} (hl : n.links[i]? = some l) : findL n l.src l.dst = i := by
  refine idxF_some (List.getElem?_eq_some_iff.1 hl).1 (fun j y hj hy => ?_) hl (by simp [isL])
  have := h.sorted j i y l hj hy hl
  cases hc : isL l.src l.dst y with
  | false => rfl
  | true =>
    simp [isL] at hc
    have e : y.key = l.key := by simp [Link.key, hc.1, hc.2]
    unfold Link.cmp at this
    rw [e, cmpL_eq.2 rfl] at this
    exact absurd this (by decide)
end HM
namespace HM
open Go Go.RowKit
section
variable {α : Type} {enc : α → AV} {sz : Nat}
end
end HM
namespace HM
open Go Go.RowKit
end HM
namespace HM
open Go Go.RowKit
end HM
namespace HM
open Go Go.RowKit
end HM
namespace HM
open Go Go.RowKit
end HM
namespace HM
open Go Go.RowKit
end HM
namespace HM
open Go Go.RowKit
end HM
namespace HM
open Go Go.RowKit
def slotN (cs : List Cell) (len x : Int) : Nat := (cs.filter fun c => c.slot == x % len).length
theorem allS_len (cs : List Cell) (len a : Int) : ∀ d, (allS cs len a (d + 1)).length = (allS cs len a d).length + slotN cs len (a + d) := fun d => by
  rw [allS, List.length_append, List.length_map]; rfl
theorem allS_front (cs : List Cell) (len a : Int) : ∀ d, (allS cs len a (d + 1)).length = slotN cs len a + (allS cs len (a + 1) d).length
  | 0 => by rw [allS_len]; simp [allS]
  | d + 1 => by
    rw [allS_len, allS_front cs len a d, allS_len, show a + ((d + 1 : Nat) : Int) = a + 1 + (d : Int) by omega]; omega
theorem allS_shift (cs : List Cell) (len a : Int) (d : Nat) : ∀ e : Nat, (allS cs len (a + e) d).length ≤ (allS cs len a (e + d)).length
  | 0 => by simp
  | e + 1 => by
    have h1 := allS_shift cs len a (d + 1) e
    rw [allS_front, show a + (e : Int) + 1 = a + ((e + 1 : Nat) : Int) by omega, show e + (d + 1) = e + 1 + d by omega] at h1
    omega
theorem slotN_mono {cs cs' : List Cell} (h : ∀ p : Cell → Bool, (cs.filter p).length ≤ (cs'.filter p).length) (len x : Int) : slotN cs len x ≤ slotN cs' len x := h _
theorem next_reach {cs : List Cell} {len a : Int} {need D : Nat} (hn : 1 ≤ need) (hl : ((allS cs len a D).take need).length = need) :
    ∃ d : Nat, d ≤ D ∧ nextA a ((allS cs len a D).take need) = a + d ∧ need ≤ (allS cs len a d).length := by
  induction D with
  | zero => simp [allS] at hl; omega
  | succ D ih =>
    by_cases hd : need ≤ (allS cs len a D).length
    · rw [allS, take_prefix hd] at hl ⊢
      obtain ⟨d, h1, h2, h3⟩ := ih hl
      exact ⟨d, by omega, h2, h3⟩
    · refine ⟨D + 1, Nat.le_refl _, ?_, by rw [List.length_take] at hl; omega⟩
      rw [allS] at hl ⊢
      rw [List.take_append, List.take_of_length_le (by omega)] at hl ⊢
      have hne : List.take (need - (allS cs len a D).length) (List.map (fun _ => a + (D : Int)) (List.filter (fun c => c.slot == (a + D) % len) cs)) ≠ [] := by
        intro hh
        rw [hh, List.append_nil] at hl; omega
      obtain ⟨z, hz⟩ := Option.isSome_iff_exists.1 (List.getLast?_isSome.2 hne)
      have hzm := List.mem_of_mem_take (List.mem_of_getLast? hz)
      simp only [List.mem_map] at hzm
      obtain ⟨_, _, rfl⟩ := hzm
      rw [nextA, List.getLast?_append, hz]
      simp; omega
theorem next_le {cs : List Cell} {len a : Int} {need d D : Nat} (hn : 1 ≤ need) (hd : d ≤ D) (hl : need ≤ (allS cs len a d).length) : ((allS cs len a D).take need).length = need ∧ nextA a ((allS cs len a D).take need) ≤ a + d ∧ a ≤ nextA a ((allS cs len a D).take need) := by
  obtain ⟨t, ht⟩ := allS_prefix cs len a hd
  rw [ht, take_prefix hl]
  have h1 : ((allS cs len a d).take need).length = need := by rw [List.length_take]; omega
  refine ⟨h1, ?_⟩
  obtain ⟨z, hz⟩ := Option.isSome_iff_exists.1 (List.getLast?_isSome.2 (show (allS cs len a d).take need ≠ [] by intro hh; rw [hh] at h1; simp at h1; omega))
  have hb := allS_mem (List.mem_of_mem_take (List.mem_of_getLast? hz))
  rw [nextA, hz]
  simp only
  omega
structure MoreS (s t : Sched) : Prop where
  len : t.len = s.len
  cells : ∀ p : Cell → Bool, (s.cells.filter p).length ≤ (t.cells.filter p).length
theorem slotsUp_last {n : Net} {s : Sched} {f : Flow} {r : List Int} {rel more : Int} {k : Nat} {o : List Int} {a : Int} (hn : 1 ≤ needAt n r more k) (h : slotsUp n s f r rel more (k + 1) = some (o, a)) : o.getLast? = some (a - 1) := by
  unfold slotsUp at h
  split at h
  · cases h
  · rename_i o' a' h'
    simp only at h
    split at h
    · cases h
    · rename_i hlen
      injection h with h; injection h with e1 e2
      subst e1; subst e2
      obtain ⟨z, hz⟩ := Option.isSome_iff_exists.1 (List.getLast?_isSome.2 (show slotsOn s f (r.getD k 0) (r.getD (k + 1) 0) (needAt n r more k) a' (rel + f.period) ≠ [] by intro hh; rw [hh] at hlen; simp at hlen; omega))
      rw [List.getLast?_append, hz, nextA, hz]
      simp
end HM
namespace HM
open Go Go.RowKit
theorem insAt_filter {α : Type} (l : List α) (p : Nat) (x : α) (q : α → Bool) : (l.filter q).length ≤ ((insAt l p x).filter q).length := by
  unfold insAt
  have h := congrArg (fun l => (List.filter q l).length) (List.take_append_drop p l)
  simp only [List.filter_append, List.length_append] at h ⊢
  have : (List.filter q (l.drop p)).length ≤ (List.filter q (x :: l.drop p)).length := by
    rw [List.filter_cons]; split <;> simp
  omega
theorem formB_sorted {s : Sched} (h : formB s = true) : Sorted Cell.cmp s.cells := by
  refine sorted_of_next (key := Cell.nums) fun j p x hp hx => ?_
  simp only [formB, Bool.and_eq_true, List.all_eq_true] at h
  have hlt := (List.getElem?_eq_some_iff.1 hx).1
  have h2 := h.2 (j + 1) (by simpa using hlt)
  unfold okAt at h2
  rw [hx] at h2
  simp only [hp, Bool.and_eq_true, decide_eq_true_eq] at h2
  exact h2.2
theorem formB_mono {s : Sched} (h : formB s = true) (c : Cell) : Mono (cellTo c) s.cells := fun i j x y hij hx hy hc => cmpL_trans (formB_sorted h i j x y hij hx hy) hc
def addM (s : Sched) (c : Cell) : Sched × Int :=
  if formB s = false then (⟨0, 0, []⟩, 1)
  else if formedB s c = false then (⟨0, 0, []⟩, 2)
  else if hasC s c = true then (⟨0, 0, []⟩, 6)
  else if s.cells.length = 512 then (⟨0, 0, []⟩, 8)
  else (⟨s.len, s.offs, insAt s.cells (posC s c) c⟩, 0)
theorem addM_ok {s t : Sched} {c : Cell} (h : addM s c = (t, 0)) : formB s = true ∧ formedB s c = true ∧ hasC s c = false ∧ s.cells.length < 512 ∧ t = ⟨s.len, s.offs, insAt s.cells (posC s c) c⟩ := by
  unfold addM at h
  split at h
  · simp at h
  split at h
  · simp at h
  split at h
  · simp at h
  split at h
  · simp at h
  rename_i h1 h2 h3 h4
  have hb := (form_all (by simpa using h1 : formB s = true)).2.1
  injection h with h5 h6
  exact ⟨by simpa using h1, by simpa using h2, by simpa using h3, by omega, h5.symm⟩
end HM
namespace HM
open Go Go.RowKit
end HM
namespace HM
end HM
namespace HM
open Go Go.RowKit
end HM
namespace HM
open Go Go.RowKit
end HM
namespace HM
open Go Go.RowKit
end HM
namespace HM
open Go Go.RowKit
end HM
namespace HM
open Go Go.RowKit
end HM
namespace HM
open Go Go.RowKit
end HM
namespace HM
open Go Go.RowKit
end HM
namespace HM
open Go Go.RowKit
end HM
namespace HM
open Go Go.RowKit
end HM
namespace HM
open Go Go.RowKit
end HM
namespace HM
open Go Go.RowKit
end HM
namespace HM
open Go Go.RowKit
end HM
namespace HM
open Go Go.RowKit
end HM
namespace HM
open Go Go.RowKit
end HM
namespace HM
open Go Go.RowKit
end HM
namespace HM
open Go Go.RowKit
end HM
namespace HM
open Go Go.RowKit
end HM
namespace HM
open Go Go.RowKit
end HM
namespace HM
end HM
namespace HM
open Go Go.RowKit
end HM
namespace HM
open Go Go.RowKit
end HM
namespace HM
open Go Go.RowKit
def usesR (r : List Int) (a b : Int) : Bool := (List.range (r.length - 1)).any fun i => r.getD i 0 == a && r.getD (i + 1) 0 == b
def usesQ (x : Req) (a b : Int) : Bool := x.routes.any fun r => usesR r a b
def lnkAt (n : Net) (a b : Int) : Link := n.links.getD (findL n a b).toNat ⟨0, 0, 0⟩
theorem lnkAt_self {n : Net} (h : NetOk n) {l : Link} (hl : l ∈ n.links) : lnkAt n l.src l.dst = l := by
  obtain ⟨i, hi⟩ := List.getElem?_of_mem hl
  unfold lnkAt
  rw [link_find h hi, Int.toNat_natCast, List.getD_eq_getElem?_getD, hi]; rfl
end HM
namespace HM
open Go Go.RowKit
def needC (len : Int) (x : Req) (l : Link) : Int := (l.loss + 1) * len / x.flow.period
section
variable {α : Type} [DecidableEq α]
end
end HM
namespace HM
open Go Go.RowKit
end HM
namespace HM
open Go Go.RowKit
end HM
namespace HM
open Go Go.RowKit
end HM
namespace HM
open Go Go.RowKit
end HM
namespace HM
open Go Go.RowKit
end HM
namespace HM
open Go Go.RowKit
end HM
namespace HM
section
variable (tg : Nat → Nat → Bool)
end
end HM
namespace HM
open Go Go.RowKit
end HM
namespace HM
open Go Go.RowKit
end HM
namespace HM
open Go Go.RowKit
end HM
namespace HM
open Go Go.RowKit
end HM
namespace HM
open Go Go.RowKit
end HM
namespace HM
open Go Go.RowKit
theorem allS_add (cs : List Cell) (len a : Int) (d : Nat) : ∀ e : Nat, allS cs len a (d + e) = allS cs len a d ++ allS cs len (a + d) e
  | 0 => by simp [allS]
  | e + 1 => by
    rw [show d + (e + 1) = d + e + 1 from rfl]
    simp only [allS]
    rw [allS_add cs len a d e, List.append_assoc, show a + ((d + e : Nat) : Int) = a + (d : Int) + (e : Int) by omega]
theorem allS_cons (c : Cell) (cs : List Cell) (len a : Int) : ∀ d : Nat, (allS (c :: cs) len a d).length = (allS [c] len a d).length + (allS cs len a d).length
  | 0 => rfl
  | d + 1 => by
    simp only [allS, List.length_append, List.length_map]
    rw [allS_cons c cs len a d]
    simp only [List.filter_cons]
    cases h : (c.slot == (a + d) % len)
    · simp; omega
    · simp; omega
theorem slot_when {s a len : Int} {e : Nat} (h0 : 0 ≤ s) (h1 : s < len) (he : (e : Int) < len) : s = (a + e) % len ↔ (e : Int) = (s - a) % len := by
  constructor
  · intro h
    rw [Int.emod_def] at h
    have : s - a = e + len * (-((a + e) / len)) := by rw [Int.mul_neg]; omega
    rw [this, Int.add_mul_emod_self_left, Int.emod_eq_of_lt (by omega) he]
  · intro h
    rw [Int.emod_def] at h
    have : a + e = s + len * (-((s - a) / len)) := by rw [Int.mul_neg]; omega
    rw [this, Int.add_mul_emod_self_left, Int.emod_eq_of_lt h0 h1]
theorem allS_one {c : Cell} {len a : Int} (h0 : 0 ≤ c.slot) (h1 : c.slot < len) : ∀ d : Nat, (d : Int) ≤ len → (allS [c] len a d).length = if (c.slot - a) % len < d then 1 else 0
  | 0, _ => by
    have := Int.emod_nonneg (c.slot - a) (show len ≠ 0 by omega)
    rw [if_neg (by omega)]; rfl
  | d + 1, h => by
    simp only [allS, List.length_append, List.length_map]
    rw [allS_one h0 h1 d (by omega)]
    have hw := slot_when (a := a) (e := d) h0 h1 (by omega)
    by_cases e : c.slot = (a + d) % len
    · rw [List.filter_cons_of_pos (by simpa using e)]
      have := hw.1 e
      rw [if_neg (by omega), if_pos (by omega)]; rfl
    · rw [List.filter_cons_of_neg (by simpa using e)]
      have : ¬ (d : Int) = (c.slot - a) % len := fun h => e (hw.2 h)
      simp only [List.filter_nil, List.length_nil]
      by_cases g : (c.slot - a) % len < d
      · rw [if_pos g, if_pos (by omega)]
      · rw [if_neg g, if_neg (by omega)]
theorem allS_full {len : Int} (a : Int) (hl : 0 ≤ len) : ∀ (cs : List Cell), (∀ c ∈ cs, 0 ≤ c.slot ∧ c.slot < len) → (allS cs len a len.toNat).length = cs.length
  | [], _ => by
    suffices ∀ d, (allS [] len a d).length = 0 from this _
    intro d
    induction d with
    | zero => rfl
    | succ d ih => simp only [allS, List.length_append, ih]; rfl
  | c :: cs, h => by
    obtain ⟨h1, h2⟩ := h c (by simp)
    have := Int.emod_lt_of_pos (c.slot - a) (show 0 < len by omega)
    rw [allS_cons, allS_one h1 h2 _ (by omega), if_pos (by omega), allS_full a hl cs fun d hd => h d (List.mem_cons_of_mem _ hd), List.length_cons]
    omega
theorem allS_wins {cs : List Cell} {len a : Int} {p m : Nat} : ∀ K : Nat, (∀ k, k < K → m ≤ (allS cs len (a + (k * p : Nat)) p).length) → K * m ≤ (allS cs len a (K * p)).length
  | 0, _ => by simp
  | K + 1, h => by
    have h1 := allS_wins K fun k hk => h k (by omega)
    have h2 := h K (by omega)
    rw [show (K + 1) * p = K * p + p from Nat.succ_mul K p, allS_add, List.length_append, Nat.succ_mul]
    omega
theorem bound_all {n : Net} {s : Sched} {f : Flow} {r : List Int} {more : Int} : ∀ {K : Nat} {x : Bnd}, boundUp n s f r more K = some x → ∀ k : Nat, k < K → ∃ b l, relR n s f r more (f.phase + k * f.period) = some (b, l) ∧ b ≤ x.b
  | 0, _, _, k, hk => by omega
  | K + 1, x, h, k, hk => by
    cases hb : boundUp n s f r more K with
    | none => rw [boundUp, hb] at h; cases h
    | some y =>
      cases hr : relR n s f r more (f.phase + K * f.period) with
      | none => rw [boundUp, hb, hr] at h; cases h
      | some z =>
        obtain ⟨b, l⟩ := z
        have h2 := boundUp_some hb hr
        rw [h2] at h
        injection h with h
        have hle : y.b ≤ x.b ∧ b ≤ x.b := by
          split at h
          · subst h; simp only; omega
          · subst h; omega
        rcases Nat.lt_succ_iff_lt_or_eq.1 hk with hlt | rfl
        · obtain ⟨b', l', h3, h4⟩ := bound_all hb k hlt
          exact ⟨b', l', h3, by omega⟩
        · exact ⟨b, l, hr, hle.2⟩
theorem slots_need {n : Net} {s : Sched} {f : Flow} {r : List Int} {rel : Int} (hp : 0 ≤ f.period) : ∀ {k : Nat} {o : List Int} {a : Int}, slotsUp n s f r rel 0 k = some (o, a) → ∀ i, i < k → needAt n r 0 i ≤ (allS (cellsL s f (r.getD i 0) (r.getD (i + 1) 0)) s.len rel f.period.toNat).length
  | 0, _, _, _, i, hi => by omega
  | k + 1, o, a, h, i, hi => by
    unfold slotsUp at h
    split at h
    · cases h
    · rename_i o' a' h'
      obtain ⟨_, h2, h3, _⟩ := slotsUp_ok hp h'
      simp only at h
      split at h
      · cases h
      · rename_i hlen
        rcases Nat.lt_succ_iff_lt_or_eq.1 hi with hlt | rfl
        · exact slots_need hp h' i hlt
        · unfold slotsOn at hlen
          rw [List.length_take] at hlen
          have e : allS (cellsL s f (r.getD i 0) (r.getD (i + 1) 0)) s.len rel f.period.toNat = allS (cellsL s f (r.getD i 0) (r.getD (i + 1) 0)) s.len rel (a' - rel).toNat ++ allS (cellsL s f (r.getD i 0) (r.getD (i + 1) 0)) s.len a' (rel + f.period - a').toNat := by
            have := allS_add (cellsL s f (r.getD i 0) (r.getD (i + 1) 0)) s.len rel (a' - rel).toNat (rel + f.period - a').toNat
            rw [show (a' - rel).toNat + (rel + f.period - a').toNat = f.period.toNat by omega, show rel + ((a' - rel).toNat : Int) = a' by omega] at this
            exact this
          rw [e, List.length_append]
          omega
theorem linkAt_lnk (n : Net) (r : List Int) (i : Nat) : linkAt n r i = lnkAt n (r.getD i 0) (r.getD (i + 1) 0) := by
  unfold linkAt lnkAt
  exact (List.getD_eq_getElem?_getD ..).symm
def servedB (n : Net) (s : Sched) (x : Req) : Prop := ∀ r ∈ x.routes, ∃ b, boundR n s x.flow r 0 = some b ∧ b.b ≤ x.flow.dead
theorem rel_some {n : Net} {s : Sched} {x : Req} (hx : ReqOk n x) (_hper : s.len % x.flow.period = 0) {r : List Int} {b : Bnd} (hb : boundR n s x.flow r 0 = some b) {k : Nat} (hk : ((k : Int) + 1) * x.flow.period ≤ s.len) : ∃ b' l, relR n s x.flow r 0 (x.flow.phase + k * x.flow.period) = some (b', l) ∧ b' ≤ b.b := by
  have hf := flowE_ok hx.flow
  refine bound_all hb k ((relsN_lt (by omega)).2 ?_)
  rw [Int.add_mul] at hk
  omega
theorem needC_cells {n : Net} {s : Sched} {x : Req} (hok : NetOk n) (hx : ReqOk n x) (hl : 0 ≤ s.len) (hper : s.len % x.flow.period = 0) (hs : servedB n s x) (hpl : ∀ c ∈ s.cells, 0 ≤ c.slot ∧ c.slot < s.len) {l : Link} (hln : l ∈ n.links) (hu : usesQ x l.src l.dst = true) : needC s.len x l ≤ (cellsL s x.flow l.src l.dst).length := by
  have hf := flowE_ok hx.flow
  unfold usesQ at hu
  obtain ⟨r, hr, hu⟩ := List.any_eq_true.1 hu
  unfold usesR at hu
  obtain ⟨i, hi, hu⟩ := List.any_eq_true.1 hu
  simp only [Bool.and_eq_true, beq_iff_eq] at hu
  obtain ⟨e1, e2⟩ := hu
  have hi : i < r.length - 1 := by simpa using hi
  obtain ⟨b, hb, _⟩ := hs r hr
  obtain ⟨m, hm⟩ := Int.dvd_of_emod_eq_zero hper
  obtain ⟨p, hp⟩ : ∃ p : Nat, x.flow.period = p := ⟨x.flow.period.toNat, by omega⟩
  have hm0 : 0 ≤ m := by
    rcases Int.lt_or_le m 0 with h | h
    · have := Int.mul_neg_of_pos_of_neg (show 0 < x.flow.period by omega) h
      omega
    · exact h
  obtain ⟨M, rfl⟩ : ∃ M : Nat, m = M := ⟨m.toNat, by omega⟩
  have hneed : needAt n r 0 i = (l.loss + 1).toNat := by
    unfold needAt
    rw [linkAt_lnk, e1, e2, lnkAt_self hok hln, Int.add_zero]
  have hb2 : 0 ≤ l.loss := by
    obtain ⟨j, hj⟩ := List.getElem?_of_mem hln
    have := linkR_bd (hok.link j l hj).1
    omega
  have hwin : ∀ k, k < M → (l.loss + 1).toNat ≤ (allS (cellsL s x.flow l.src l.dst) s.len (x.flow.phase + (k * p : Nat)) p).length := fun k hk => by
    obtain ⟨b', l', h1, _⟩ := rel_some hx hper hb (k := k) (by
      rw [hm, Int.mul_comm]
      exact Int.mul_le_mul_of_nonneg_left (by omega) (by omega))
    unfold relR slotsW at h1
    cases hsu : slotsUp n s x.flow r (x.flow.phase + k * x.flow.period) 0 (r.length - 1) with
    | none => rw [hsu] at h1; cases h1
    | some z =>
      obtain ⟨o, a⟩ := z
      have := slots_need (by omega) hsu i hi
      rw [hneed, e1, e2] at this
      rw [hp, Int.toNat_natCast] at this
      rw [show ((k * p : Nat) : Int) = (k : Int) * (p : Int) from Int.natCast_mul k p]
      exact this
  have h1 := allS_wins M hwin
  have h2 := allS_full x.flow.phase hl (cellsL s x.flow l.src l.dst) fun c hc => hpl c (List.mem_filter.1 hc).1
  have hlen : s.len.toNat = M * p := by rw [hm, hp, ← Int.natCast_mul, Int.toNat_natCast, Nat.mul_comm]
  rw [hlen] at h2
  rw [h2] at h1
  have h3 : needC s.len x l = (M * (l.loss + 1).toNat : Nat) := by
    unfold needC
    rw [hm, show (l.loss + 1) * (x.flow.period * (M : Int)) = x.flow.period * ((l.loss + 1) * M) by ac_rfl, Int.mul_ediv_cancel_left _ (by omega), Int.natCast_mul, Int.toNat_of_nonneg (by omega), Int.mul_comm]
  rw [h3]
  exact Int.ofNat_le.2 h1
end HM
namespace HM
open Go Go.RowKit
section
variable {n : Net} {q : List Req} {s : Sched}
theorem VOk.pairs {l : List Flow} (h : VOk n l s) : s.cells.Pairwise fun c d => c.slot = d.slot → touchB c d = false :=
  List.pairwise_iff_getElem.2 fun i j hi hj hij hs => h.apart (List.getElem?_eq_getElem hi) (List.getElem?_eq_getElem hj) (by omega) hs
theorem heard_anti {m d d' : Int} (hok : NetOk n) (h : heardB n m d = true) (hd : d' ≤ d) : heardB n m d' = true := by
  unfold heardB at h ⊢
  simp only [decide_eq_true_eq] at h ⊢
  have := hok.thr
  have h2 : n.thr * (n.noise + d') ≤ n.thr * (n.noise + d) := Int.mul_le_mul_of_nonneg_left (by omega) (by omega)
  omega
theorem cellsL_slots {fl : List Flow} (h : VOk n fl s) (f : Flow) (a b : Int) : (cellsL s f a b).Pairwise fun c d => c.slot ≠ d.slot := by
  unfold cellsL
  refine List.Pairwise.imp_of_mem ?_ (h.pairs.filter _)
  intro c d hc hd hcd hs
  have hc := (List.mem_filter.1 hc).2
  have hd := (List.mem_filter.1 hd).2
  have := hcd hs
  unfold offL at hc hd
  unfold touchB at this
  simp only [Bool.not_eq_true', Bool.or_eq_false_iff, bne_eq_false_iff_eq, beq_eq_false_iff_ne] at hc hd this
  omega
end
end HM
namespace HM
open Go Go.RowKit
theorem VOk.form {n : Net} {l : List Flow} {s : Sched} (h : VOk n l s) : formB s = true := by
  unfold formB
  rw [h.size, decide_eq_true h.many, Bool.true_and, Bool.true_and]
  refine range_all fun i hi => ?_
  obtain ⟨c, hc⟩ := getLt hi
  obtain ⟨h1, h2, h3, h4⟩ := h.cell i c hc
  obtain ⟨p, l', e1, e2, e3, e4⟩ := findL_at (good_find h2)
  have hb := linkR_bd (h.net.link p l' e2).1
  have hn := h.net.nodes
  obtain ⟨f, hf, hid⟩ := List.any_eq_true.1 h3
  have hff : 0 ≤ f.id ∧ f.id ≤ 255 := by
    obtain ⟨k, hk⟩ := List.getElem?_of_mem hf
    have hkl := (List.getElem?_eq_some_iff.1 hk).1
    have hfl := h.flows
    unfold flowsE at hfl
    split at hfl
    · cases hfl
    split at hfl
    · cases hfl
    have g := firstAt_ok.1 hfl k hkl
    unfold flowAt at g
    rw [hk] at g
    simp only at g
    have hfx : flowE n.nodes f = 0 := by
      split at g
      · rename_i hh; exact absurd g hh
      · omega
    have := flowE_ok hfx
    omega
  simp only [beq_iff_eq] at hid
  unfold okAt
  rw [hc]
  simp only
  have hfm : formedB s c = true := by
    unfold formedB
    rw [h1]
    simp only [insB, Bool.true_and, Bool.and_eq_true, decide_eq_true_eq]
    omega
  rw [hfm, Bool.true_and]
  unfold ordC at h4
  cases i with
  | zero => rfl
  | succ j => exact h4
theorem claim_served {n : Net} {s : Sched} {x : Req} (h : claimB n s x = true) : servedB n s x := by
  intro r hr
  have h1 := List.all_eq_true.1 h r hr
  unfold srvB at h1
  simp only [Bool.and_eq_true, decide_eq_true_eq] at h1
  obtain ⟨h1, h2⟩ := h1
  unfold routeM at h1 h2
  split at h1
  · rename_i hh; exact absurd h1 hh
  rename_i hw
  rw [if_neg hw] at h2
  cases hb : boundR n s x.flow r 0 with
  | none => rw [hb] at h1; cases h1
  | some b => rw [hb] at h2; exact ⟨b, rfl, h2⟩
end HM
namespace HM
open Go Go.RowKit
section
variable {T : PTys} {S S' : St} {pb ch : Nat} {l : List Flow} {s : Sched} {x : List Rule} {Q : PL} {g : Nat → Nat → Nat} {sv dv : AV}
end
end HM
namespace HM
open Go Go.RowKit
section
variable {T : PTys} {S : St} {pb ch : Nat} {l : List Flow} {s : Sched} {x : List Rule} {Q : PL} {g : Nat → Nat → Nat} {sv dv : AV}
end
end HM
namespace HM
open Go Go.RowKit
section
variable {T : PTys} {S S' : St} {pb ch : Nat} {l : List Flow} {s : Sched} {x : List Rule} {Q : PL} {g : Nat → Nat → Nat} {sv dv : AV}
end
end HM
namespace HM
open Go Go.RowKit
end HM
namespace HM
open Go Go.RowKit
end HM
namespace HM
end HM
namespace HM
open Go Go.RowKit
end HM
namespace HM
open Go Go.RowKit
end HM
namespace HM
open Go Go.RowKit
end HM
namespace HM
open Go Go.RowKit
end HM
namespace HM
open Go Go.RowKit
end HM
namespace HM
end HM
namespace HM
open Go Go.RowKit
theorem FitF.nil (l : Frs) : FitF l [] := by unfold FitF; trivial
end HM
namespace HM
open Go Go.RowKit
end HM
namespace HM
open Go Go.RowKit
end HM
namespace HM
open Go Go.RowKit
def AllRest {α : Type} (P : α → List α → Prop) (cs : List α) : Prop := ∀ (i : Nat) c, cs[i]? = some c → P c (cs.eraseIdx i)
theorem erase_perm {α : Type} {cs : List α} {i : Nat} {c : α} (h : cs[i]? = some c) : cs.Perm (c :: cs.eraseIdx i) := by
  obtain ⟨hi, rfl⟩ := List.getElem?_eq_some_iff.1 h
  rw [List.eraseIdx_eq_take_drop_succ]
  have e : cs = cs.take i ++ cs[i] :: cs.drop (i + 1) := by rw [← List.drop_eq_getElem_cons hi, List.take_append_drop]
  exact (List.Perm.of_eq e).trans List.perm_middle
theorem AllRest.perm {α : Type} {P : α → List α → Prop} (hP : ∀ c r r', r.Perm r' → P c r → P c r') {cs cs' : List α} (h : AllRest P cs) (hp : cs.Perm cs') : AllRest P cs' := fun j c hj => by
  obtain ⟨i, hi⟩ := List.getElem?_of_mem (hp.mem_iff.2 (List.mem_of_getElem? hj))
  refine hP c _ _ ?_ (h i c hi)
  exact List.Perm.cons_inv ((erase_perm hi).symm.trans (hp.trans (erase_perm hj)))
theorem distC_perm {n : Net} {r r' : List Cell} (h : r.Perm r') (node : Int) : distC n r node = distC n r' node := by
  have g : ∀ l : List Cell, distC n l node = (l.map fun d => powN n d.src node + powN n d.dst node).sum := fun l => by
    unfold distC
    induction l with
    | nil => rfl
    | cons x l ih => simp only [List.map_cons, List.sum_cons, ← ih]; rfl
  rw [g, g]
  exact sum_permI (h.map _)
theorem heardC_perm {n : Net} {c : Cell} {r r' : List Cell} (h : r.Perm r') (hc : heardC n c r) : heardC n c r' := by
  unfold heardC at hc ⊢
  rw [← distC_perm h, ← distC_perm h]; exact hc
theorem goodM_all {n : Net} {cs : List Cell} : goodM n cs = true ↔ netE n = 0 ∧ AllRest (fun c r => faultyC n c r = false) cs := goodM_iff
def cellR2 (n : Net) (c : Cell) (rest : List Cell) : Prop := (∀ d ∈ rest, d.slot = c.slot → touchB c d = false) ∧ heardC n c (rest.filter (shareB c))
theorem cellR2_perm {n : Net} (c : Cell) (r r' : List Cell) (h : r.Perm r') (hc : cellR2 n c r) : cellR2 n c r' := ⟨fun d hd => hc.1 d (h.mem_iff.2 hd), heardC_perm (h.filter _) hc.2⟩
theorem VOk.rest {n : Net} {l : List Flow} {s : Sched} (h : VOk n l s) : AllRest (cellR2 n) s.cells := fun i c hc => by
  refine ⟨fun d hd hs => ?_, (disturb_iff hc).1 (h.heard i (List.getElem?_eq_some_iff.1 hc).1)⟩
  obtain ⟨j, hj⟩ := List.getElem?_of_mem hd
  rw [List.getElem?_eraseIdx] at hj
  split at hj
  · exact h.apart hc hj (by omega) hs.symm
  · exact h.apart hc hj (by omega) hs.symm
theorem schedE_of {n : Net} {l : List Flow} {s : Sched} (hn : netE n = 0) (hf : (flowsE n.nodes l).2 = 0) (hz : sizedB s = true) (hp : ∀ f ∈ l, s.len % f.period = 0) (hm : s.cells.length ≤ 512) (hc : ∀ (i : Nat) c, s.cells[i]? = some c → placedB s c = true ∧ goodL n c.src c.dst = true ∧ idsB l c.flow = true ∧ ordC s.cells i c = true) (hr : AllRest (cellR2 n) s.cells) : (schedE n l s).2 = 0 := by
  have h5 : (firstAt (cellF n l s) s.cells.length).2 = 0 := by
    rw [firstAt_ok]
    intro i hi
    obtain ⟨c, hg⟩ := getLt hi
    obtain ⟨q1, q2, q3, q4⟩ := hc i c hg
    unfold cellF
    rw [hg]
    simp [q1, q2, q3, q4]
  have h6 : (firstAt (twI s.cells) s.cells.length).2 = 0 := by
    rw [firstAt_ok]
    intro i hi
    obtain ⟨c, hg⟩ := getLt hi
    unfold twI
    have : twiceM s.cells i = false := by
      unfold twiceM
      rw [hg]
      refine List.any_eq_false.2 fun j hj => ?_
      have hj := List.mem_range.1 hj
      obtain ⟨d, hd⟩ := getLt (l := s.cells) (k := j) (by omega)
      unfold twAt
      rw [hd]
      have hmem : d ∈ s.cells.eraseIdx i := List.mem_of_getElem? (i := j) (by rw [List.getElem?_eraseIdx, if_pos hj]; exact hd)
      have := (hr i c hg).1 d hmem
      by_cases e : d.slot = c.slot
      · simp [this e]
      · simp [e]
    rw [this]; rfl
  have h7 : (firstAt (dsI n s.cells) s.cells.length).2 = 0 := by
    rw [firstAt_ok]
    intro i hi
    obtain ⟨c, hg⟩ := getLt hi
    unfold dsI
    rw [(disturb_iff hg).2 (hr i c hg).2]; rfl
  unfold schedE
  rw [if_neg (by omega), if_neg (by rw [hz]; simp), if_neg (by
    intro h
    obtain ⟨f, hf1, hf2⟩ := List.any_eq_true.1 h
    unfold mism at hf2
    rw [hp f hf1] at hf2
    simp at hf2), if_neg (by omega), if_neg (by omega), if_neg (by omega)]
  exact h7
end HM
namespace HM
open Go Go.RowKit
theorem insAt_perm {α : Type} (l : List α) (p : Nat) (x : α) : (insAt l p x).Perm (x :: l) := by
  unfold insAt
  have : (x :: l).Perm (x :: (l.take p ++ l.drop p)) := by rw [List.take_append_drop]
  exact List.perm_middle.trans this.symm
theorem own_share {s : Sched} {c : Cell} : ownS s c.slot c.off = s.cells.filter (shareB c) := rfl
theorem fits_rest {n : Net} {s : Sched} {c : Cell} (hn : netE n = 0) (hg : ∀ d ∈ c :: s.cells, goodL n d.src d.dst = true) (hs : AllRest (cellR2 n) s.cells) : fitsM n s c = true ↔ AllRest (cellR2 n) (c :: s.cells) := by
  unfold fitsM
  rw [Bool.and_eq_true, freeS_iff, goodM_all, own_share]
  have grp : ∀ (i j : Nat) (d : Cell), s.cells[i]? = some d → (s.cells.filter (shareB c))[j]? = some d → shareB c d = true → ((s.cells.eraseIdx i).filter (shareB c)).Perm ((s.cells.filter (shareB c)).eraseIdx j) := fun i j d hi hj hd => by
    have h1 := (erase_perm hi).filter (shareB c)
    rw [List.filter_cons, if_pos hd] at h1
    exact List.Perm.cons_inv (h1.symm.trans (erase_perm hj))
  have same : ∀ d : Cell, shareB c d = true → ∀ x : Cell, shareB d x = shareB c x := fun d hd x => by
    unfold shareB at hd ⊢
    simp only [Bool.and_eq_true, beq_iff_eq] at hd
    rw [hd.1, hd.2]
  constructor
  · rintro ⟨h1, _, h2⟩ i d hd
    cases i with
    | zero =>
      simp at hd
      subst hd
      have := faultyC_iff.1 (h2 0 _ rfl)
      exact ⟨fun x hx => h1 x hx, this.2.2⟩
    | succ i =>
      have hi : s.cells[i]? = some d := by simpa using hd
      have hm := List.mem_of_getElem? hi
      have ho := hs i d hi
      rw [List.eraseIdx_cons_succ]
      refine ⟨fun x hx hxs => ?_, ?_⟩
      · rcases List.mem_cons.1 hx with rfl | hx
        · rw [touchB_comm]; exact h1 d hm hxs.symm
        · exact ho.1 x hx hxs
      · rw [List.filter_cons]
        by_cases hsh : shareB c d = true
        · have hsc : shareB d c = true := by rw [same d hsh]; unfold shareB; simp
          rw [if_pos hsc]
          have e : shareB d = shareB c := funext (same d hsh)
          rw [e]
          obtain ⟨j, hj⟩ := List.getElem?_of_mem (List.mem_filter.2 ⟨hm, hsh⟩)
          have h3 := (faultyC_iff.1 (h2 (j + 1) d (by simpa using hj))).2.2
          rw [List.eraseIdx_cons_succ] at h3
          exact heardC_perm ((grp i j d hi hj hsh).symm.cons c) h3
        · have hsc : ¬ shareB d c = true := fun h => hsh (by
            unfold shareB at h ⊢
            simp only [Bool.and_eq_true, beq_iff_eq] at h ⊢
            exact ⟨h.1.symm, h.2.symm⟩)
          rw [if_neg hsc]
          exact ho.2
  · intro h
    have h0 := h 0 c rfl
    rw [List.eraseIdx_cons_zero] at h0
    refine ⟨fun d hd hds => h0.1 d hd hds, hn, fun i d hd => ?_⟩
    cases i with
    | zero =>
      simp at hd
      subst hd
      rw [List.eraseIdx_cons_zero]
      refine faultyC_iff.2 ⟨hg _ (List.mem_cons_self ..), fun x hx => ?_, h0.2⟩
      have hx2 := List.mem_filter.1 hx
      have hx3 := hx2.2
      unfold shareB at hx3
      simp only [Bool.and_eq_true, beq_iff_eq] at hx3
      exact h0.1 x hx2.1 hx3.1
    | succ j =>
      have hj : (s.cells.filter (shareB c))[j]? = some d := by simpa using hd
      have hm := List.mem_filter.1 (List.mem_of_getElem? hj)
      obtain ⟨i, hi⟩ := List.getElem?_of_mem hm.1
      have h1 := h (i + 1) d (by simpa using hi)
      rw [List.eraseIdx_cons_succ] at h1 ⊢
      have hsc : shareB d c = true := by rw [same d hm.2]; unfold shareB; simp
      have e : shareB d = shareB c := funext (same d hm.2)
      have hp := grp i j d hi hj hm.2
      refine faultyC_iff.2 ⟨hg d (List.mem_cons_of_mem _ hm.1), fun x hx => ?_, ?_⟩
      · rcases List.mem_cons.1 hx with rfl | hx
        · refine h1.1 x (List.mem_cons_self ..) ?_
          have := hsc
          unfold shareB at this
          simp only [Bool.and_eq_true, beq_iff_eq] at this
          exact this.1
        · have hx2 := List.mem_filter.1 (hp.mem_iff.2 hx)
          refine h1.1 x (List.mem_cons_of_mem _ hx2.1) ?_
          have := (same d hm.2 x).trans hx2.2
          unfold shareB at this
          simp only [Bool.and_eq_true, beq_iff_eq] at this
          exact this.1
      · have h2 := h1.2
        rw [List.filter_cons, if_pos hsc, e] at h2
        exact heardC_perm (hp.cons c) h2
end HM
namespace HM
open Go Go.RowKit
end HM
namespace HM
open Go Go.RowKit
end HM
namespace HM
open Go Go.RowKit
end HM
namespace HM
open Go Go.RowKit
end HM
namespace HM
open Go Go.RowKit
end HM
namespace HM
open Go Go.RowKit
end HM
namespace HM
open Go Go.RowKit
end HM
namespace HM
open Go Go.RowKit
theorem MoreS.refl (s : Sched) : MoreS s s := ⟨rfl, fun _ => Nat.le_refl _⟩
theorem MoreS.trans {s t u : Sched} (h : MoreS s t) (h' : MoreS t u) : MoreS s u := ⟨h'.len.trans h.len, fun p => Nat.le_trans (h.cells p) (h'.cells p)⟩
theorem slotM_more (n : Net) (s : Sched) (a b id k : Int) : MoreS s (slotM n s a b id k).1 := by
  unfold slotM putM
  split
  · exact MoreS.refl s
  · split
    · exact ⟨rfl, fun p => insAt_filter _ _ _ _⟩
    · exact MoreS.refl s
theorem fillM_more (n : Net) (a b id : Int) : ∀ (d : Nat) (s : Sched) (left : Nat) (t : Int), MoreS s (fillM n a b id d s left t).1
  | 0, s, _, _ => MoreS.refl s
  | d + 1, s, left, t => by
    rw [fillM]
    split
    · exact MoreS.refl s
    · exact (slotM_more n s a b id (t % s.len)).trans (fillM_more n a b id d _ _ _)
theorem relA_more {n : Net} {f : Flow} {r : List Int} {stop : Int} : ∀ {k : Nat} {s s1 : Sched} {t t1 : Int}, relA n f r stop k s t = some (s1, t1) → MoreS s s1
  | 0, s, s1, t, t1, h => by
    simp only [relA, Option.some.injEq, Prod.mk.injEq] at h
    rw [← h.1]; exact MoreS.refl s
  | k + 1, s, s1, t, t1, h => by
    rw [relA] at h
    split at h
    · cases h
    · rename_i s0 t0 h0
      split at h
      · cases h
      · injection h with h
        injection h with h1 h2
        rw [← h1]
        exact (relA_more h0).trans (fillM_more ..)
theorem relsA_more {n : Net} {f : Flow} {r : List Int} : ∀ {k : Nat} {s s1 : Sched}, relsA n f r k s = some s1 → MoreS s s1
  | 0, s, s1, h => by
    have : s = s1 := by simpa [relsA] using h
    rw [this]; exact MoreS.refl s1
  | k + 1, s, s1, h => by
    rw [relsA] at h
    split at h
    · cases h
    · rename_i s0 h0
      cases hx : relA n f r (atA f k + f.dead) (r.length - 1) s0 (atA f k) with
      | none => rw [hx] at h; cases h
      | some p =>
        rw [hx] at h
        simp only [Option.map_some, Option.some.injEq] at h
        subst h
        exact (relsA_more h0).trans (relA_more (t1 := p.2) hx)
theorem placeA_more {n : Net} {f : Flow} {N : Nat} : ∀ {l : List (List Int)} {s s1 : Sched}, placeA n f N l s = some s1 → MoreS s s1
  | [], s, s1, h => by
    have : s = s1 := by simpa [placeA] using h
    rw [this]; exact MoreS.refl s1
  | r :: l, s, s1, h => by
    rw [placeA] at h
    split at h
    · cases h
    · rename_i s0 h0
      exact (relsA_more h0).trans (placeA_more h)
theorem slotM_has {n : Net} {s : Sched} {f : Flow} {a b t : Int} (h : (slotM n s a b f.id (t % s.len)).2 = true) : 1 ≤ slotN (cellsL (slotM n s a b f.id (t % s.len)).1 f a b) s.len t := by
  have key : ∃ c ∈ (slotM n s a b f.id (t % s.len)).1.cells, c.slot = t % s.len ∧ c.flow = f.id ∧ c.src = a ∧ c.dst = b := by
    unfold slotM at h ⊢
    split
    · rename_i hh
      obtain ⟨c, hc, h1⟩ := List.any_eq_true.1 hh
      simp only [Bool.and_eq_true, beq_iff_eq] at h1
      exact ⟨c, hc, h1.1, h1.2.2.2, h1.2.1, h1.2.2.1⟩
    · rename_i hh
      rw [if_neg hh] at h
      split
      · rename_i o ho
        exact ⟨⟨t % s.len, o, a, b, f.id⟩, insAt_mem.2 (.inl rfl), rfl, rfl, rfl, rfl⟩
      · rename_i ho
        rw [ho] at h; cases h
  obtain ⟨c, hc, h1, h2, h3, h4⟩ := key
  unfold slotN cellsL
  refine List.length_pos_iff.2 (List.ne_nil_of_mem (a := c) ?_)
  rw [List.mem_filter, List.mem_filter]
  exact ⟨⟨hc, by simp [offL, h2, h3, h4]⟩, by simp [h1]⟩
theorem fillM_slots {n : Net} {f : Flow} {a b : Int} {u : Sched} : ∀ {d : Nat} {s s1 : Sched} {left : Nat} {t t1 : Int}, fillM n a b f.id d s left t = (s1, 0, t1) → MoreS s1 u → t ≤ t1 ∧ t1 ≤ t + d ∧ left ≤ (allS (cellsL u f a b) s.len t (t1 - t).toNat).length
  | 0, s, s1, left, t, t1, h, _ => by
    simp only [fillM, Prod.mk.injEq] at h
    obtain ⟨rfl, rfl, rfl⟩ := h
    simp
  | d + 1, s, s1, left, t, t1, h, hu => by
    rw [fillM] at h
    split at h
    · rename_i h0
      simp only [Prod.mk.injEq] at h
      obtain ⟨rfl, rfl, rfl⟩ := h
      simp only [Nat.zero_le, and_true]; omega
    · rename_i h0
      have hl := (slotM_len n s a b f.id (t % s.len)).1
      obtain ⟨g1, g2, g3⟩ := fillM_slots h hu
      have hm : MoreS (slotM n s a b f.id (t % s.len)).1 u := by
        have := fillM_more n a b f.id d (slotM n s a b f.id (t % s.len)).1 (if (slotM n s a b f.id (t % s.len)).2 = true then left - 1 else left) (t + 1)
        rw [h] at this
        exact this.trans hu
      refine ⟨by omega, by omega, ?_⟩
      obtain ⟨D, hD⟩ : ∃ D, (t1 - (t + 1)).toNat = D := ⟨_, rfl⟩
      rw [hl, hD] at g3
      rw [show (t1 - t).toNat = D + 1 by omega, allS_front]
      by_cases hs : (slotM n s a b f.id (t % s.len)).2 = true
      · rw [if_pos hs] at g3
        have h1 := slotM_has (f := f) hs
        have h2 : slotN (cellsL (slotM n s a b f.id (t % s.len)).1 f a b) s.len t ≤ slotN (cellsL u f a b) s.len t := slotN_mono (fun p => by
          unfold cellsL
          rw [List.filter_filter, List.filter_filter]
          exact hm.cells _) _ _
        omega
      · rw [if_neg hs] at g3
        omega
theorem slotsUp_placed {n : Net} (hok : NetOk n) {f : Flow} {r : List Int} {stop : Int} {u : Sched} (hop : HopsOk n r) {rel : Int} (hst : stop ≤ rel + f.period) (h0 : rel ≤ stop) : ∀ {k : Nat} {s s1 : Sched} {t1 : Int}, k + 1 ≤ r.length → relA n f r stop k s rel = some (s1, t1) → MoreS s1 u →
    (rel ≤ t1 ∧ t1 ≤ stop) ∧ ∃ o a, slotsUp n u f r rel 0 k = some (o, a) ∧ a ≤ t1 ∧ rel ≤ a
  | 0, s, s1, t1, _, h, _ => by
    simp only [relA, Option.some.injEq, Prod.mk.injEq] at h
    obtain ⟨rfl, rfl⟩ := h
    exact ⟨⟨Int.le_refl _, h0⟩, [], rel, rfl, Int.le_refl _, Int.le_refl _⟩
  | k + 1, s, s1, t1, hk, h, hu => by
    rw [relA] at h
    split at h
    · cases h
    · rename_i s0 t0 hr0
      split at h
      · cases h
      · rename_i hz
        obtain ⟨l, hl⟩ := hop_at hok (hop k (by omega))
        have hnd := hl.need
        have hll := hl.loss
        injection h with h
        injection h with h1 h2
        have hz : (fillM n (r.getD k 0) (r.getD (k + 1) 0) f.id (stop - t0).toNat s0 (needAt n r 0 k) t0).2.1 = 0 := by simpa using hz
        have hf : fillM n (r.getD k 0) (r.getD (k + 1) 0) f.id (stop - t0).toNat s0 (needAt n r 0 k) t0 = (s1, 0, t1) := by
          rw [← h1, ← h2, ← hz]
        have hu0 : MoreS s0 u := by
          have := fillM_more n (r.getD k 0) (r.getD (k + 1) 0) f.id (stop - t0).toNat s0 (needAt n r 0 k) t0
          rw [hf] at this
          exact this.trans hu
        obtain ⟨⟨e1, e2⟩, o, a, e3, e4, e5⟩ := slotsUp_placed hok hop hst h0 (by omega) hr0 hu0
        obtain ⟨g1, g2, g3⟩ := fillM_slots hf hu
        have hlen : u.len = s0.len := hu0.len
        have hsh := allS_shift (cellsL u f (r.getD k 0) (r.getD (k + 1) 0)) s0.len a (t1 - t0).toNat (t0 - a).toNat
        rw [show a + ((t0 - a).toNat : Int) = t0 by omega] at hsh
        obtain ⟨k1, k2, k3⟩ := next_le (cs := cellsL u f (r.getD k 0) (r.getD (k + 1) 0)) (len := s0.len) (a := a) (need := needAt n r 0 k) (d := (t0 - a).toNat + (t1 - t0).toNat) (D := (rel + f.period - a).toNat) (by omega) (by omega) (by omega)
        refine ⟨⟨by omega, by omega⟩, ?_⟩
        rw [slotsUp, e3]
        simp only
        have hso : slotsOn u f (r.getD k 0) (r.getD (k + 1) 0) (needAt n r 0 k) a (rel + f.period) = (allS (cellsL u f (r.getD k 0) (r.getD (k + 1) 0)) s0.len a (rel + f.period - a).toNat).take (needAt n r 0 k) := by
          unfold slotsOn; rw [hlen]
        rw [hso, if_neg (by omega)]
        exact ⟨_, _, rfl, by omega, by omega⟩
theorem relR_placed {n : Net} (hok : NetOk n) {f : Flow} {r : List Int} {u : Sched} (hr : 2 ≤ r.length) (hop : HopsOk n r) {rel : Int} (hd : 1 ≤ f.dead ∧ f.dead ≤ f.period) {s s1 : Sched} {t1 : Int} (h : relA n f r (rel + f.dead) (r.length - 1) s rel = some (s1, t1)) (hu : MoreS s1 u) : ∃ b l, relR n u f r 0 rel = some (b, l) ∧ b ≤ f.dead := by
  obtain ⟨⟨e1, e2⟩, o, a, e3, e4, e5⟩ := slotsUp_placed hok hop (by omega) (by omega) (by omega) h hu
  obtain ⟨l, hl⟩ := hop_at hok (hop (r.length - 2) (by omega))
  have hnd := hl.need
  have hll := hl.loss
  have hlast := slotsUp_last (n := n) (s := u) (f := f) (r := r) (rel := rel) (more := 0) (k := r.length - 2) (o := o) (a := a) (by omega) (by rw [show r.length - 2 + 1 = r.length - 1 by omega]; exact e3)
  refine ⟨o.getLastD 0 - rel + 1, o.map (· - rel), ?_, ?_⟩
  · rw [relR, slotsW, e3]; rfl
  · rw [List.getLastD_eq_getLast?, hlast]
    simp only [Option.getD_some]
    omega
theorem relsA_at {n : Net} {f : Flow} {r : List Int} : ∀ {N : Nat} {s s1 : Sched}, relsA n f r N s = some s1 → ∀ k, k < N → ∃ s0 s2 t2, relA n f r (atA f k + f.dead) (r.length - 1) s0 (atA f k) = some (s2, t2) ∧ MoreS s2 s1
  | 0, _, _, _, k, hk => by omega
  | N + 1, s, s1, h, k, hk => by
    rw [relsA] at h
    split at h
    · cases h
    · rename_i s0 h0
      cases hx : relA n f r (atA f N + f.dead) (r.length - 1) s0 (atA f N) with
      | none => rw [hx] at h; cases h
      | some p =>
        rw [hx] at h
        simp only [Option.map_some, Option.some.injEq] at h
        subst h
        by_cases hkN : k < N
        · obtain ⟨s2, s3, t3, g1, g2⟩ := relsA_at h0 k hkN
          exact ⟨s2, s3, t3, g1, g2.trans (relA_more (t1 := p.2) hx)⟩
        · have : k = N := by omega
          subst this
          exact ⟨s0, p.1, p.2, hx, MoreS.refl _⟩
theorem placeA_at {n : Net} {f : Flow} {N : Nat} : ∀ {l : List (List Int)} {s s1 : Sched}, placeA n f N l s = some s1 → ∀ r ∈ l, ∃ s0 s2, relsA n f r N s0 = some s2 ∧ MoreS s2 s1
  | [], _, _, _, r, hr => by simp at hr
  | x :: l, s, s1, h, r, hr => by
    rw [placeA] at h
    split at h
    · cases h
    · rename_i s0 h0
      rcases List.mem_cons.1 hr with rfl | hr
      · exact ⟨s, s0, h0, placeA_more h⟩
      · exact placeA_at h r hr
theorem bound_of {n : Net} {u : Sched} {f : Flow} {r : List Int} {D : Int} (hD : 0 ≤ D) : ∀ {K : Nat}, (∀ k, k < K → ∃ b l, relR n u f r 0 (f.phase + k * f.period) = some (b, l) ∧ b ≤ D) → ∃ x, boundUp n u f r 0 K = some x ∧ x.b ≤ D
  | 0, _ => ⟨⟨0, 0, []⟩, rfl, hD⟩
  | K + 1, h => by
    obtain ⟨x, h1, h2⟩ := bound_of hD (K := K) fun k hk => h k (by omega)
    obtain ⟨b, l, h3, h4⟩ := h K (by omega)
    rw [boundUp, h1, h3]
    simp only
    split
    · exact ⟨_, rfl, h4⟩
    · exact ⟨x, rfl, h2⟩
theorem placed_srv {n : Net} (hok : NetOk n) {x : Req} {s u : Sched} (hl : 1 ≤ s.len) (hp : 1 ≤ x.flow.period) (hph : 0 ≤ x.flow.phase ∧ x.flow.phase < x.flow.period) (hd : 1 ≤ x.flow.dead ∧ x.flow.dead ≤ x.flow.period) (hdv : s.len % x.flow.period = 0) (hrt : ∀ r ∈ x.routes, 2 ≤ r.length ∧ HopsOk n r) (h : placeA n x.flow (relN s x.flow) x.routes s = some u) (hw : ∀ r ∈ x.routes, wayE n u x.flow r = 0) : claimB n u x = true := by
  have hul : u.len = s.len := (placeA_more h).len
  refine List.all_eq_true.2 fun r hr => ?_
  obtain ⟨s0, s2, g1, g2⟩ := placeA_at h r hr
  obtain ⟨h2, hop⟩ := hrt r hr
  have hall : ∀ k, k < relsN u x.flow → ∃ b l, relR n u x.flow r 0 (x.flow.phase + k * x.flow.period) = some (b, l) ∧ b ≤ x.flow.dead := fun k hk => by
    have hk2 : k < relN s x.flow := (relN_lt hl hp hph hdv k).1 (by have := (relsN_lt hp).1 hk; unfold atA; omega)
    obtain ⟨s3, s4, t4, g3, g4⟩ := relsA_at g1 k hk2
    exact relR_placed hok h2 hop (rel := atA x.flow k) hd g3 (g4.trans g2)
  obtain ⟨b, hb1, hb2⟩ := bound_of (D := x.flow.dead) (by omega) hall
  have hbr : boundR n u x.flow r 0 = some b := hb1
  unfold srvB routeM
  rw [if_neg (by rw [hw r hr]; simp), hbr]
  simp only [decide_true, Bool.true_and, decide_eq_true_eq]
  exact hb2
end HM
namespace HM
open Go Go.RowKit
structure GVal (n : Net) (l : List Flow) (s : Sched) : Prop where
  grid : GridOk s
  cell : ∀ c ∈ s.cells, placedB s c = true ∧ goodL n c.src c.dst = true ∧ idsB l c.flow = true
  rest : AllRest (cellR2 n) s.cells
theorem VOk.gval {n : Net} {l l' : List Flow} {s : Sched} (h : VOk n l s) (hl : ∀ id, idsB l id = true → idsB l' id = true) : GVal n l' s where
  grid := h.grid
  cell := fun c hc => by
    obtain ⟨i, hi⟩ := List.getElem?_of_mem hc
    obtain ⟨h1, h2, h3, _⟩ := h.cell i c hi
    exact ⟨h1, h2, hl _ h3⟩
  rest := h.rest
theorem good_ends {n : Net} (hok : NetOk n) {a b : Int} (h : goodL n a b = true) : 0 ≤ a ∧ a < 32 ∧ 0 ≤ b ∧ b < 32 ∧ a ≠ b := by
  unfold goodL at h
  simp only [Bool.and_eq_true, decide_eq_true_eq] at h
  obtain ⟨k, l, e1, e2, e3, e4⟩ := findL_at h.1.1.1
  have hb := linkR_bd (hok.link k l e2).1
  have hn := hok.nodes
  rw [← e3, ← e4]
  omega
theorem GVal.slot {n : Net} {l : List Flow} {s : Sched} (h0 : netE n = 0) (h : GVal n l s) {a b id k : Int} (hg : goodL n a b = true) (hid : idsB l id = true) (hk : 0 ≤ k ∧ k < s.len) : GVal n l (slotM n s a b id k).1 := by
  have hgs := gridOk_slot (n := n) h.grid (good_ends (netE_ok h0) hg) id k
  unfold slotM at hgs ⊢
  split
  · exact h
  · rename_i hno
    rw [if_neg hno] at hgs
    split
    · rename_i o ho
      rw [ho] at hgs
      have hfit : fitsM n s ⟨k, o, a, b, id⟩ = true := by
        unfold roomF at ho
        have := List.find?_some ho
        rwa [fits_flow (fm := id)] at this
      have hol : o < s.offs.toNat := by
        unfold roomF at ho
        exact List.mem_range.1 (List.mem_of_find?_eq_some ho)
      have hall : ∀ d ∈ (⟨k, o, a, b, id⟩ : Cell) :: s.cells, goodL n d.src d.dst = true := fun d hd => by
        rcases List.mem_cons.1 hd with rfl | hd
        · exact hg
        · exact (h.cell d hd).2.1
      have hr := (fits_rest h0 hall h.rest).1 hfit
      refine ⟨hgs, fun c hc => ?_, AllRest.perm (fun c r r' => cellR2_perm c r r') hr (insAt_perm _ _ _).symm⟩
      rcases insAt_mem.1 hc with rfl | hc
      · refine ⟨?_, hg, hid⟩
        show (insB k s.len && insB (o : Int) s.offs) = true
        simp only [insB, Bool.and_eq_true, decide_eq_true_eq]
        omega
      · exact h.cell c hc
    · exact h
theorem GVal.fill {n : Net} {l : List Flow} (h0 : netE n = 0) {a b id : Int} (hg : goodL n a b = true) (hid : idsB l id = true) : ∀ (d : Nat) {s : Sched} (_ : GVal n l s) (_ : 1 ≤ s.len) (left : Nat) (t : Int), GVal n l (fillM n a b id d s left t).1
  | 0, _, h, _, _, _ => h
  | d + 1, s, h, hl, left, t => by
    rw [fillM]
    split
    · exact h
    · refine GVal.fill h0 hg hid d (h.slot h0 hg hid ⟨Int.emod_nonneg _ (by omega), Int.emod_lt_of_pos _ (by omega)⟩) ?_ _ _
      rw [(slotM_len ..).1]; exact hl
theorem GVal.rel {n : Net} {l : List Flow} (h0 : netE n = 0) {f : Flow} {r : List Int} {stop : Int} (hop : HopsOk n r) (hid : idsB l f.id = true) : ∀ {k : Nat} {s s1 : Sched} {t t1 : Int}, k + 1 ≤ r.length → relA n f r stop k s t = some (s1, t1) → GVal n l s → 1 ≤ s.len → GVal n l s1
  | 0, s, s1, t, t1, _, h, hg, _ => by
    simp only [relA, Option.some.injEq, Prod.mk.injEq] at h
    rw [← h.1]; exact hg
  | k + 1, s, s1, t, t1, hk, h, hg, hl => by
    rw [relA] at h
    split at h
    · cases h
    · rename_i s0 t0 hr0
      split at h
      · cases h
      · injection h with h
        injection h with h1 h2
        rw [← h1]
        exact GVal.fill h0 (hop k (by omega)) hid _ (GVal.rel h0 hop hid (by omega) hr0 hg hl) (by rw [relA_len hr0]; exact hl) _ _
theorem GVal.rels {n : Net} {l : List Flow} (h0 : netE n = 0) {f : Flow} {r : List Int} (hr : 1 ≤ r.length) (hop : HopsOk n r) (hid : idsB l f.id = true) : ∀ {k : Nat} {s s1 : Sched}, relsA n f r k s = some s1 → GVal n l s → 1 ≤ s.len → GVal n l s1
  | 0, s, s1, h, hg, _ => by
    have : s = s1 := by simpa [relsA] using h
    rw [← this]; exact hg
  | k + 1, s, s1, h, hg, hl => by
    rw [relsA] at h
    split at h
    · cases h
    · rename_i s0 hr0
      cases hx : relA n f r (atA f k + f.dead) (r.length - 1) s0 (atA f k) with
      | none => rw [hx] at h; cases h
      | some p =>
        rw [hx] at h
        simp only [Option.map_some, Option.some.injEq] at h
        subst h
        exact GVal.rel (t1 := p.2) h0 hop hid (by omega) hx (GVal.rels h0 hr hop hid hr0 hg hl) (by rw [(relsA_more hr0).len]; exact hl)
theorem GVal.place {n : Net} {l : List Flow} (h0 : netE n = 0) {f : Flow} {N : Nat} (hid : idsB l f.id = true) : ∀ {rs : List (List Int)} {s s1 : Sched}, (∀ r ∈ rs, 1 ≤ r.length ∧ HopsOk n r) → placeA n f N rs s = some s1 → GVal n l s → 1 ≤ s.len → GVal n l s1
  | [], s, s1, _, h, hg, _ => by
    have : s = s1 := by simpa [placeA] using h
    rw [← this]; exact hg
  | r :: rs, s, s1, hrs, h, hg, hl => by
    rw [placeA] at h
    split at h
    · cases h
    · rename_i s0 hr0
      obtain ⟨h1, h2⟩ := hrs r (List.mem_cons_self ..)
      exact GVal.place h0 hid (fun x hx => hrs x (List.mem_cons_of_mem _ hx)) h (GVal.rels h0 h1 h2 hid hr0 hg hl) (by rw [(relsA_more hr0).len]; exact hl)
theorem GVal.valid {n : Net} {l : List Flow} {s : Sched} (h : GVal n l s) (h0 : netE n = 0) (hf : (flowsE n.nodes l).2 = 0) (hz : sizedB s = true) (hp : ∀ f ∈ l, s.len % f.period = 0) (hm : s.cells.length ≤ 512) : (schedE n l s).2 = 0 :=
  schedE_of h0 hf hz hp hm (fun i c hc => by
    obtain ⟨h1, h2, h3⟩ := h.cell c (List.mem_of_getElem? hc)
    refine ⟨h1, h2, h3, ?_⟩
    unfold ordC
    cases i with
    | zero => rfl
    | succ j =>
      simp only
      cases hp : s.cells[j]? with
      | none => rfl
      | some p => exact decide_eq_true (sorted_of h.grid.sorted j (j + 1) p c (by omega) hp hc)) h.rest
theorem insAt_drop {α : Type} (l : List α) (p : Nat) (x : α) {q : α → Bool} (hx : q x = false) : (insAt l p x).filter q = l.filter q := by
  unfold insAt
  rw [List.filter_append, List.filter_cons, if_neg (by rw [hx]; decide), ← List.filter_append, List.take_append_drop]
def othF (id : Int) (s : Sched) : List Cell := s.cells.filter fun c => c.flow != id
theorem slotM_oth (n : Net) (s : Sched) (a b id k : Int) : othF id (slotM n s a b id k).1 = othF id s := by
  unfold slotM putM othF
  split
  · rfl
  · split
    · exact insAt_drop _ _ _ (by simp)
    · rfl
theorem fillM_oth (n : Net) (a b id : Int) : ∀ (d : Nat) (s : Sched) (left : Nat) (t : Int), othF id (fillM n a b id d s left t).1 = othF id s
  | 0, _, _, _ => rfl
  | d + 1, s, left, t => by
    rw [fillM]
    split
    · rfl
    · exact (fillM_oth n a b id d _ _ _).trans (slotM_oth ..)
theorem relA_oth {n : Net} {f : Flow} {r : List Int} {stop : Int} : ∀ {k : Nat} {s s1 : Sched} {t t1 : Int}, relA n f r stop k s t = some (s1, t1) → othF f.id s1 = othF f.id s
  | 0, s, s1, t, t1, h => by
    simp only [relA, Option.some.injEq, Prod.mk.injEq] at h
    rw [h.1]
  | k + 1, s, s1, t, t1, h => by
    rw [relA] at h
    split at h
    · cases h
    · rename_i s0 t0 h0
      split at h
      · cases h
      · injection h with h
        injection h with h1 h2
        rw [← h1]
        exact (fillM_oth ..).trans (relA_oth h0)
theorem relsA_oth {n : Net} {f : Flow} {r : List Int} : ∀ {k : Nat} {s s1 : Sched}, relsA n f r k s = some s1 → othF f.id s1 = othF f.id s
  | 0, s, s1, h => by
    have : s = s1 := by simpa [relsA] using h
    rw [this]
  | k + 1, s, s1, h => by
    rw [relsA] at h
    split at h
    · cases h
    · rename_i s0 h0
      cases hx : relA n f r (atA f k + f.dead) (r.length - 1) s0 (atA f k) with
      | none => rw [hx] at h; cases h
      | some p =>
        rw [hx] at h
        simp only [Option.map_some, Option.some.injEq] at h
        subst h
        exact (relA_oth (t1 := p.2) hx).trans (relsA_oth h0)
theorem placeA_oth {n : Net} {f : Flow} {N : Nat} : ∀ {l : List (List Int)} {s s1 : Sched}, placeA n f N l s = some s1 → othF f.id s1 = othF f.id s
  | [], s, s1, h => by
    have : s = s1 := by simpa [placeA] using h
    rw [this]
  | r :: l, s, s1, h => by
    rw [placeA] at h
    split at h
    · cases h
    · rename_i s0 h0
      exact (placeA_oth h).trans (relsA_oth h0)
theorem placeA_offs {n : Net} {f : Flow} {N : Nat} (hok : NetOk n) {l : List (List Int)} {s s1 : Sched} (hl : ∀ r ∈ l, (1 ≤ r.length ∧ r.length ≤ 9) ∧ HopsOk n r) (h : placeA n f N l s = some s1) (hg : GridOk s) : s1.len = s.len ∧ s1.offs = s.offs :=
  ⟨(placeA_ok hok hl h hg).2.1, (placeA_ok hok hl h hg).2.2.1⟩
theorem oth_all {n : Net} {l : List Flow} {s : Sched} (h : VOk n l s) {id : Int} (hid : idsB l id = false) : othF id s = s.cells := by
  unfold othF
  refine List.filter_eq_self.2 fun c hc => ?_
  obtain ⟨i, hi⟩ := List.getElem?_of_mem hc
  have h3 := (h.cell i c hi).2.2.1
  rw [bne_iff_ne]
  intro he
  rw [he, hid] at h3; cases h3
theorem cellsL_oth {s t : Sched} {id : Int} (h : othF id t = othF id s) {f : Flow} (hf : f.id ≠ id) (a b : Int) : cellsL t f a b = cellsL s f a b := by
  have key : ∀ u : Sched, cellsL u f a b = (othF id u).filter fun c => !offL f.id a b c := fun u => by
    unfold cellsL othF
    rw [List.filter_filter]
    refine List.filter_congr fun c _ => ?_
    cases ho : offL f.id a b c with
    | true => simp
    | false =>
      unfold offL at ho
      simp only [Bool.or_eq_false_iff, bne_eq_false_iff_eq] at ho
      simp [ho.1.1, hf]
  rw [key t, key s, h]
theorem slotsUp_eq {n : Net} {s t : Sched} {f : Flow} {r : List Int} {rel more : Int} (hl : t.len = s.len) (h : ∀ a b, cellsL t f a b = cellsL s f a b) : ∀ k : Nat, slotsUp n t f r rel more k = slotsUp n s f r rel more k
  | 0 => rfl
  | k + 1 => by
    rw [slotsUp, slotsUp, slotsUp_eq hl h k]
    unfold slotsOn
    rw [hl]
    simp only [h]
theorem boundUp_eq {n : Net} {s t : Sched} {f : Flow} {r : List Int} {more : Int} (hl : t.len = s.len) (h : ∀ a b, cellsL t f a b = cellsL s f a b) : ∀ k : Nat, boundUp n t f r more k = boundUp n s f r more k
  | 0 => rfl
  | k + 1 => by
    have hr : relR n t f r more (f.phase + k * f.period) = relR n s f r more (f.phase + k * f.period) := by
      unfold relR slotsW
      rw [slotsUp_eq hl h]
    rw [boundUp, boundUp, boundUp_eq hl h k, hr]
theorem boundR_eq {n : Net} {s t : Sched} {f : Flow} {r : List Int} {more : Int} (hl : t.len = s.len) (h : ∀ a b, cellsL t f a b = cellsL s f a b) : boundR n t f r more = boundR n s f r more := by
  unfold boundR relsN
  rw [hl]
  exact boundUp_eq hl h _
theorem routeM_eq {n : Net} {s t : Sched} {f : Flow} {r : List Int} (hl : t.len = s.len) (hs : formB s = true) (ht : formB t = true) (h : ∀ a b, cellsL t f a b = cellsL s f a b) : routeM n t f r = routeM n s f r := by
  have hw : wayE n t f r = wayE n s f r := by unfold wayE; rw [hs, ht, hl]
  unfold routeM
  rw [hw, boundR_eq hl h]
theorem claimM_eq {n : Net} {s t : Sched} {y : Req} (h : ∀ r, routeM n t y.flow r = routeM n s y.flow r) : claimM n t y = claimM n s y ∧ claimB n t y = claimB n s y := by
  have h1 : claimB n t y = claimB n s y := by
    unfold claimB
    congr 1
    funext r
    unfold srvB
    rw [h]
  refine ⟨?_, h1⟩
  unfold claimM claimT
  rw [h1]
  simp only [h]
end HM
namespace HM
open Go Go.RowKit
theorem ids_up {n : Net} {q : List Req} (h : (reqE n q).2 = 0) : q.Pairwise fun a b => a.flow.id < b.flow.id := by
  have h1 := flows_sorted (reqE_ok h).2.2.2
  unfold flowsQ at h1
  exact List.Pairwise.of_map Req.flow (fun a b h => h) h1
theorem make_parts {n : Net} {q : List Req} {s : Sched} (h : (makeM n q s).2.2 = 0) : (reqE n q).2 = 0 ∧ VOk n (flowsQ q) s ∧ (∀ y ∈ q, claimB n s y = true) ∧ makeM n q s = (q.map (claimM n s), -1, 0) := by
  unfold makeM at h ⊢
  split at h
  · rename_i hh; exact absurd h hh
  rename_i h1
  rw [if_neg h1]
  split at h
  · cases h
  rename_i h2
  rw [if_neg h2]
  split at h
  · rename_i hh; exact absurd h hh
  rename_i h3
  rw [if_neg h3]
  refine ⟨by omega, schedE_ok (by omega), fun y hy => ?_, rfl⟩
  obtain ⟨k, hk⟩ := List.getElem?_of_mem hy
  have h4 := firstAt_ok.1 (show (firstAt (lateAt n s q) q.length).2 = 0 by omega) k (List.getElem?_eq_some_iff.1 hk).1
  unfold lateAt at h4
  rw [hk] at h4
  simp only at h4
  split at h4
  · rename_i hh; exact hh
  · cases h4
theorem make_of {n : Net} {q : List Req} {s : Sched} (h1 : (reqE n q).2 = 0) (h2 : (schedE n (flowsQ q) s).2 = 0) (h3 : ∀ y ∈ q, claimB n s y = true) : makeM n q s = (q.map (claimM n s), -1, 0) := by
  have h4 : (firstAt (lateAt n s q) q.length).2 = 0 := firstAt_ok.2 fun k hk => by
    obtain ⟨y, hy⟩ := getLt hk
    unfold lateAt
    rw [hy]
    simp only
    rw [if_pos (h3 y (List.mem_of_getElem? hy))]
  unfold makeM
  rw [if_neg (by omega), if_neg (by omega), if_neg (by omega)]
theorem has_ids {q : List Req} {id : Int} (h : hasQ q id = false) : idsB (flowsQ q) id = false := by
  unfold idsB flowsQ
  rw [List.any_map]
  exact h
theorem ids_ins {q : List Req} {x : Req} {id : Int} (h : idsB (flowsQ q) id = true) : idsB (flowsQ (insQ q x)) id = true := by
  unfold idsB flowsQ at h ⊢
  rw [List.any_map] at h ⊢
  obtain ⟨y, hy, h1⟩ := List.any_eq_true.1 h
  exact List.any_eq_true.2 ⟨y, insAt_mem.2 (.inr hy), h1⟩
theorem adm_parts {n : Net} {q : List Req} {s t : Sched} {x : Req} (h : admM n q s x = (t, 0)) : (makeM n q s).2.2 = 0 ∧ hasQ q x.flow.id = false ∧ (reqE n (insQ q x)).2 = 0 ∧ s.len % x.flow.period = 0 ∧ placeA n x.flow (relN s x.flow) x.routes s = some t ∧ t.cells.length ≤ 512 := by
  unfold admM at h
  split at h
  · cases h
  rename_i h1
  split at h
  · cases h
  rename_i h2
  split at h
  · cases h
  rename_i h3
  split at h
  · cases h
  rename_i h4
  split at h
  · cases h
  · rename_i t' h5
    split at h
    · cases h
    · rename_i h6
      injection h with h
      subst h
      exact ⟨by omega, by simpa using h2, by omega, by omega, h5, by omega⟩
theorem ends_zero {n : Net} (h0 : netE n = 0) {a b : Int} (ha : 0 ≤ a ∧ a < n.nodes) (hb : 0 ≤ b ∧ b < n.nodes) (hab : a ≠ b) : endsE n a b = 0 := by
  unfold endsE insB
  simp [h0, ha, hb, hab]
theorem adm_serves {n : Net} {q : List Req} {s t : Sched} {x : Req} (h : admM n q s x = (t, 0)) :
    makeM n q s = (q.map (claimM n s), -1, 0) ∧ makeM n (insQ q x) t = ((insQ q x).map (claimM n t), -1, 0) ∧ (∀ y ∈ q, claimM n t y = claimM n s y) ∧ formB s = true ∧ formB t = true ∧ t.len = s.len ∧ t.offs = s.offs ∧ othF x.flow.id t = s.cells ∧ (∀ c ∈ s.cells, c ∈ t.cells) ∧ (∀ c ∈ t.cells, c ∉ s.cells → c.flow = x.flow.id) := by
  obtain ⟨h1, h2, h3, h4, h5, h6⟩ := adm_parts h
  obtain ⟨m1, m2, m3, m4⟩ := make_parts h1
  obtain ⟨hok, _, hreq, hfl⟩ := reqE_ok h3
  have hxo := hreq x (insAt_mem.2 (.inl rfl))
  have hfe := flowE_ok hxo.flow
  have hsz := sized_bd m2.size
  have hrt : ∀ r ∈ x.routes, (2 ≤ r.length ∧ r.length ≤ 9) ∧ HopsOk n r := fun r hr => by
    obtain ⟨k1, k2, _⟩ := routeF_ok (hxo.route r hr)
    exact ⟨k1, k2⟩
  obtain ⟨e1, e2⟩ := placeA_offs hok (fun r hr => ⟨⟨by have := (hrt r hr).1; omega, (hrt r hr).1.2⟩, (hrt r hr).2⟩) h5 m2.grid
  have hidx : idsB (flowsQ (insQ q x)) x.flow.id = true := by
    unfold idsB flowsQ
    rw [List.any_map]
    exact List.any_eq_true.2 ⟨x, insAt_mem.2 (.inl rfl), by simp⟩
  have hgv := GVal.place m2.n0 hidx (fun r hr => ⟨by have := (hrt r hr).1; omega, (hrt r hr).2⟩) h5 (m2.gval fun id hid => ids_ins hid) hsz.1
  have hzt : sizedB t = true := by
    have := m2.size
    unfold sizedB at this ⊢
    rw [e1, e2]; exact this
  have hper : ∀ f ∈ flowsQ (insQ q x), t.len % f.period = 0 := fun f hf => by
    unfold flowsQ at hf
    obtain ⟨y, hy, rfl⟩ := List.mem_map.1 hf
    rw [e1]
    rcases insAt_mem.1 hy with rfl | hy
    · exact h4
    · exact m2.per y.flow (List.mem_map.2 ⟨y, hy, rfl⟩)
  have hsv := hgv.valid m2.n0 hfl hzt hper h6
  have hvt := schedE_ok hsv
  have hoth := (placeA_oth h5).trans (oth_all m2 (has_ids h2))
  have hoth0 := oth_all m2 (has_ids h2)
  have hne : ∀ y ∈ q, y.flow.id ≠ x.flow.id := fun y hy he => by
    have := List.any_eq_false.1 h2 y hy
    simp [he] at this
  have hcl : ∀ y ∈ q, claimM n t y = claimM n s y ∧ claimB n t y = claimB n s y := fun y hy =>
    claimM_eq fun r => routeM_eq e1 m2.form hvt.form fun a b => cellsL_oth (id := x.flow.id) (by rw [hoth, hoth0]) (hne y hy) a b
  have hwx : ∀ r ∈ x.routes, wayE n t x.flow r = 0 := fun r hr => by
    unfold wayE
    rw [if_neg (by rw [m2.n0, hvt.form, hxo.flow]; simp), if_neg (by rw [e1]; omega)]
    unfold routeE
    rw [if_neg (by rw [ends_zero m2.n0 ⟨hfe.2.2.1, hfe.2.2.2.1⟩ ⟨hfe.2.2.2.2.1, hfe.2.2.2.2.2.1⟩ hfe.2.2.2.2.2.2.2.2.2.2.2.2]; simp)]
    exact hxo.route r hr
  have hsx := placed_srv hok hsz.1 hfe.2.2.2.2.2.2.1 ⟨hfe.2.2.2.2.2.2.2.2.1, hfe.2.2.2.2.2.2.2.2.2.1⟩ ⟨hfe.2.2.2.2.2.2.2.2.2.2.1, hfe.2.2.2.2.2.2.2.2.2.2.2.1⟩ h4 (fun r hr => ⟨(hrt r hr).1.1, (hrt r hr).2⟩) h5 hwx
  refine ⟨m4, make_of h3 hsv fun y hy => ?_, fun y hy => (hcl y hy).1, m2.form, hvt.form, e1, e2, hoth, fun c hc => ?_, fun c hc hn => ?_⟩
  · rcases insAt_mem.1 hy with rfl | hy
    · exact hsx
    · rw [(hcl y hy).2]; exact m3 y hy
  · rw [← hoth] at hc
    exact (List.mem_filter.1 hc).1
  · rw [← hoth] at hn
    unfold othF at hn
    rw [List.mem_filter] at hn
    by_cases he : c.flow = x.flow.id
    · exact he
    · exact absurd ⟨hc, by simpa using he⟩ hn
end HM
namespace HM
open Go Go.RowKit
end HM
namespace HM
open Go Go.RowKit
theorem distC_le {n : Net} (hok : NetOk n) {r r' : List Cell} (h : r'.Sublist r) (node : Int) : distC n r' node ≤ distC n r node := by
  unfold distC
  induction h with
  | slnil => exact Int.le_refl _
  | cons a _ ih =>
    have h1 := powN_bd hok a.src node
    have h2 := powN_bd hok a.dst node
    simp only [sumW]; omega
  | cons_cons a _ ih => simp only [sumW]; omega
theorem cellR2_sub {n : Net} (hok : NetOk n) {c : Cell} {r r' : List Cell} (h : r'.Sublist r) (hc : cellR2 n c r) : cellR2 n c r' := by
  obtain ⟨h1, h2, h3⟩ := hc
  exact ⟨fun d hd => h1 d (h.subset hd), heard_anti hok h2 (distC_le hok (h.filter _) _), heard_anti hok h3 (distC_le hok (h.filter _) _)⟩
theorem rest_left {n : Net} (hok : NetOk n) {A B : List Cell} (h : AllRest (cellR2 n) (A ++ B)) : AllRest (cellR2 n) A := fun i c hc => by
  have hi := (List.getElem?_eq_some_iff.1 hc).1
  have h1 := h i c (by rw [List.getElem?_append_left hi]; exact hc)
  rw [List.eraseIdx_append_of_lt_length hi] at h1
  exact cellR2_sub hok (List.sublist_append_left _ _) h1
def roomB (n : Net) (s : Sched) (a b t : Int) : Bool := (roomF n s a b (t % s.len)).isSome
theorem room_of {n : Net} {l l' : List Flow} {s t : Sched} (hs : VOk n l s) (ht : VOk n l' t) (_hl : t.len = s.len) (ho : t.offs = s.offs) {A : List Cell} (hp : t.cells.Perm (A ++ s.cells)) {c : Cell} (hc : c ∈ A) : (roomF n s c.src c.dst c.slot).isSome = true := by
  have hct : c ∈ t.cells := hp.mem_iff.2 (List.mem_append_left _ hc)
  have hat := ht.at hct
  obtain ⟨A1, A2, rfl⟩ := List.append_of_mem hc
  have hp2 : t.cells.Perm ((c :: s.cells) ++ (A1 ++ A2)) := by
    refine hp.trans ?_
    have e1 : (A1 ++ c :: A2 ++ s.cells).Perm (c :: ((A1 ++ A2) ++ s.cells)) := by
      rw [List.append_assoc, List.cons_append]
      exact List.perm_middle.trans (by rw [List.append_assoc])
    exact e1.trans (List.Perm.cons c List.perm_append_comm)
  have hr := AllRest.perm (fun c r r' => cellR2_perm c r r') ht.rest hp2
  have hr2 := rest_left ht.net hr
  have hall : ∀ d ∈ c :: s.cells, goodL n d.src d.dst = true := fun d hd => by
    have : d ∈ t.cells := hp2.mem_iff.2 (List.mem_append_left _ hd)
    exact (ht.at this).2.2.2.2.1
  have hfit := (fits_rest hs.n0 hall hs.rest).2 hr2
  unfold roomF
  rw [List.find?_isSome]
  refine ⟨c.off.toNat, List.mem_range.2 (by omega), ?_⟩
  have e : (⟨c.slot, (c.off.toNat : Int), c.src, c.dst, 0⟩ : Cell) = ⟨c.slot, c.off, c.src, c.dst, 0⟩ := by rw [Int.toNat_of_nonneg (by omega)]
  show fitsM n s ⟨c.slot, (c.off.toNat : Int), c.src, c.dst, 0⟩ = true
  rw [e, fits_flow (fm := c.flow)]
  exact hfit
def cntR (n : Net) (s : Sched) (a b : Int) : Nat → Int → Nat
  | 0, _ => 0
  | e + 1, t => (if roomB n s a b t = true then 1 else 0) + cntR n s a b e (t + 1)
theorem cntR_add {n : Net} {s : Sched} {a b : Int} : ∀ (d e : Nat) (t : Int), cntR n s a b (d + e) t = cntR n s a b d t + cntR n s a b e (t + d)
  | 0, e, t => by simp [cntR]
  | d + 1, e, t => by
    rw [show d + 1 + e = (d + e) + 1 by omega, cntR, cntR, cntR_add d e, show t + 1 + (d : Int) = t + ((d + 1 : Nat) : Int) by omega]; omega
structure Jn (s g : Sched) (t hi : Int) : Prop where
  len : g.len = s.len
  offs : g.offs = s.offs
  far : hi ≤ t + s.len
  same : ∀ u, t ≤ u → u < hi → g.cells.filter (fun c => c.slot == u % s.len) = s.cells.filter fun c => c.slot == u % s.len
theorem Jn.later {s g : Sched} {t u hi : Int} (h : Jn s g t hi) (hu : t ≤ u) : Jn s g u hi := ⟨h.len, h.offs, by have := h.far; omega, fun v h1 h2 => h.same v (by omega) h2⟩
theorem filt_any {l l' : List Cell} {k : Int} (h : l.filter (fun c => c.slot == k) = l'.filter fun c => c.slot == k) (p : Cell → Bool) : (l.any fun c => c.slot == k && p c) = l'.any fun c => c.slot == k && p c := by
  have key : ∀ l : List Cell, (l.any fun c => c.slot == k && p c) = (l.filter fun c => c.slot == k).any p := fun l => by
    rw [List.any_filter]
  rw [key, key, h]
theorem Jn.fits {n : Net} {s g : Sched} {t hi : Int} (h : Jn s g t hi) (hlt : t < hi) (a b : Int) (o : Int) : fitsM n g ⟨t % s.len, o, a, b, 0⟩ = fitsM n s ⟨t % s.len, o, a, b, 0⟩ := by
  have hs := h.same t (Int.le_refl _) hlt
  unfold fitsM freeS ownS
  simp only
  have e1 := filt_any hs (touL a b)
  have e2 : (g.cells.filter fun c => c.slot == t % s.len && c.off == o) = s.cells.filter fun c => c.slot == t % s.len && c.off == o := by
    have key : ∀ l : List Cell, (l.filter fun c => c.slot == t % s.len && c.off == o) = (l.filter fun c => c.slot == t % s.len).filter fun c => c.off == o := fun l => by
      rw [List.filter_filter]
      refine List.filter_congr fun c _ => ?_
      rw [Bool.and_comm]
    rw [key, key, hs]
  rw [e1, e2]
theorem Jn.slot {n : Net} {s g : Sched} {t hi : Int} (h : Jn s g t hi) (hlt : t < hi) (_hl : 1 ≤ s.len) {id : Int} (hno : ∀ c ∈ s.cells, c.flow ≠ id) (a b : Int) :
    (slotM n g a b id (t % g.len)).2 = roomB n s a b t ∧ Jn s (slotM n g a b id (t % g.len)).1 (t + 1) hi ∧ (slotM n g a b id (t % g.len)).1.cells.length = g.cells.length + if roomB n s a b t = true then 1 else 0 := by
  have hs := h.same t (Int.le_refl _) hlt
  have hh : hasF g a b id (t % s.len) = false := by
    unfold hasF
    rw [filt_any hs]
    rw [List.any_eq_false]
    intro c hc
    have := hno c hc
    simp [this]
  have hr : roomF n g a b (t % s.len) = roomF n s a b (t % s.len) := by
    unfold roomF
    rw [h.offs]
    congr 1
    funext o
    exact h.fits hlt a b o
  rw [h.len]
  unfold slotM
  rw [if_neg (by rw [hh]; decide), hr]
  unfold roomB
  cases hro : roomF n s a b (t % s.len) with
  | none => exact ⟨rfl, h.later (by omega), rfl⟩
  | some o =>
    refine ⟨rfl, ⟨h.len, h.offs, by have := h.far; omega, fun u h1 h2 => ?_⟩, insAt_len _ _ _⟩
    unfold putM
    simp only
    rw [insAt_drop _ _ _ ?_]
    · exact h.same u (by omega) h2
    · rw [beq_eq_false_iff_ne]
      intro he
      have he : t % s.len = u % s.len := he
      have hfar := h.far
      have e1 := Int.emod_emod_of_dvd (t - u) (Int.dvd_refl s.len)
      have h3 : (t - u) % s.len = 0 := by
        rw [Int.sub_emod, he]; simp
      have h4 : (u - t) % s.len = 0 := by
        have : u - t = -(t - u) := by omega
        rw [this, Int.emod_eq_zero_of_dvd ((Int.dvd_neg).2 (Int.dvd_of_emod_eq_zero h3))]
      rw [Int.emod_eq_of_lt (by omega) (by omega)] at h4
      omega
theorem fill_greedy {n : Net} {s : Sched} {hi : Int} (hl : 1 ≤ s.len) {id : Int} (hno : ∀ c ∈ s.cells, c.flow ≠ id) {a b : Int} : ∀ {d : Nat} {g : Sched} {left e : Nat} {t : Int}, Jn s g t hi → t + (d : Int) ≤ hi → e ≤ d → left ≤ cntR n s a b e t →
    ∃ g1 t1, fillM n a b id d g left t = (g1, 0, t1) ∧ t ≤ t1 ∧ t1 ≤ t + e ∧ Jn s g1 t1 hi ∧ g1.cells.length = g.cells.length + left
  | 0, g, left, e, t, hj, _, he, hc => by
    have : e = 0 := by omega
    subst this
    have : left = 0 := by simpa [cntR] using hc
    subst this
    exact ⟨g, t, rfl, Int.le_refl _, by omega, hj, rfl⟩
  | d + 1, g, left, e, t, hj, hd, he, hc => by
    by_cases h0 : left = 0
    · subst h0
      exact ⟨g, t, fillM_stop .., Int.le_refl _, by omega, hj, rfl⟩
    · cases e with
      | zero => simp only [cntR] at hc; omega
      | succ e =>
        obtain ⟨k1, k2, k3⟩ := hj.slot (n := n) (by omega) hl hno a b
        rw [fillM, if_neg h0, k1]
        rw [cntR] at hc
        have hc2 : (if roomB n s a b t = true then left - 1 else left) ≤ cntR n s a b e (t + 1) := by
          by_cases hb : roomB n s a b t = true
          · rw [if_pos hb] at hc ⊢; omega
          · rw [if_neg hb] at hc ⊢; omega
        obtain ⟨g1, t1, f1, f2, f3, f4, f5⟩ := fill_greedy hl hno (d := d) (e := e) (a := a) (b := b) k2 (by omega) (by omega) hc2
        refine ⟨g1, t1, f1, by omega, by omega, f4, ?_⟩
        rw [f5, k3]
        by_cases hb : roomB n s a b t = true
        · rw [if_pos hb, if_pos hb]; omega
        · rw [if_neg hb, if_neg hb]; omega
end HM
namespace HM
open Go Go.RowKit
structure Further (n : Net) (l l' : List Flow) (s t : Sched) (A : List Cell) (id : Int) : Prop where
  vs : VOk n l s
  vt : VOk n l' t
  len : t.len = s.len
  offs : t.offs = s.offs
  perm : t.cells.Perm (A ++ s.cells)
  no : ∀ c ∈ s.cells, c.flow ≠ id
section
variable {n : Net} {l l' : List Flow} {s t : Sched} {A : List Cell} {f : Flow}
theorem slotN_room (h : Further n l l' s t A f.id) (a b τ : Int) : slotN (cellsL t f a b) s.len τ ≤ if roomB n s a b τ = true then 1 else 0 := by
  have hpw := cellsL_slots h.vt f a b
  unfold slotN
  have h1 : ((cellsL t f a b).filter fun c => c.slot == τ % s.len).length ≤ 1 := by
    have hp2 := hpw.filter (fun c => c.slot == τ % s.len)
    have hall : ∀ c ∈ (cellsL t f a b).filter (fun c => c.slot == τ % s.len), c.slot = τ % s.len := fun c hc => by simpa using (List.mem_filter.1 hc).2
    generalize (cellsL t f a b).filter (fun c => c.slot == τ % s.len) = X at hp2 hall ⊢
    cases X with
    | nil => simp
    | cons c X =>
      cases X with
      | nil => simp
      | cons d X =>
        have e1 := hall c (by simp)
        have e2 := hall d (by simp)
        exact absurd (e1.trans e2.symm) ((List.pairwise_cons.1 hp2).1 d (by simp))
  split
  · exact h1
  · rename_i hb
    cases hX : (cellsL t f a b).filter (fun c => c.slot == τ % s.len) with
    | nil => simp
    | cons c X =>
      exfalso
      have hc : c ∈ (cellsL t f a b).filter (fun c => c.slot == τ % s.len) := by rw [hX]; simp
      obtain ⟨h2, h3⟩ := List.mem_filter.1 hc
      unfold cellsL at h2
      obtain ⟨h4, h5⟩ := List.mem_filter.1 h2
      unfold offL at h5
      simp only [Bool.not_eq_true', Bool.or_eq_false_iff, bne_eq_false_iff_eq, beq_iff_eq] at h5 h3
      have hA : c ∈ A := by
        rcases List.mem_append.1 (h.perm.mem_iff.1 h4) with hA | hs
        · exact hA
        · exact absurd h5.1.1 (h.no c hs)
      have hr := room_of h.vs h.vt h.len h.offs h.perm hA
      rw [h5.1.2, h5.2, h3] at hr
      exact hb hr
theorem allS_room (h : Further n l l' s t A f.id) (a b : Int) : ∀ (d : Nat) (x : Int), (allS (cellsL t f a b) s.len x d).length ≤ cntR n s a b d x
  | 0, _ => by simp [allS]
  | d + 1, x => by
    have h1 := allS_room h a b d x
    have h2 := slotN_room h a b (x + d)
    rw [allS_len, cntR_add d 1]
    simp only [cntR, Nat.add_zero]
    omega
theorem rel_greedy (h : Further n l l' s t A f.id) {r : List Int} (hop : HopsOk n r) {rel hi : Int} (hp : 0 ≤ f.period) {g : Sched} : ∀ {k : Nat} {o : List Int} {a : Int}, k + 1 ≤ r.length → slotsUp n t f r rel 0 k = some (o, a) → a ≤ rel + f.dead → Jn s g rel hi → rel + f.dead ≤ hi →
    ∃ g1 t1, relA n f r (rel + f.dead) k g rel = some (g1, t1) ∧ rel ≤ t1 ∧ t1 ≤ a ∧ Jn s g1 t1 hi ∧ g1.cells.length = g.cells.length + needUp n r 0 k
  | 0, o, a, _, hu, _, hj, _ => by
    simp only [slotsUp, Option.some.injEq, Prod.mk.injEq] at hu
    exact ⟨g, rel, rfl, Int.le_refl _, by omega, hj, rfl⟩
  | k + 1, o, a, hk, hu, ha, hj, hhi => by
    rw [slotsUp] at hu
    split at hu
    · cases hu
    · rename_i o' a' h'
      simp only at hu
      split at hu
      · cases hu
      · rename_i hlen
        injection hu with hu
        injection hu with e1 e2
        obtain ⟨lk, hl⟩ := hop_at h.vs.net (hop k (by omega))
        have hnd := hl.need
        have hll := hl.loss
        have hle := slotsOn_le t f (r.getD k 0) (r.getD (k + 1) 0) (needAt n r 0 k) a' (rel + f.period)
        obtain ⟨_, u2, u3, _⟩ := slotsUp_ok hp h'
        have hsl : slotsOn t f (r.getD k 0) (r.getD (k + 1) 0) (needAt n r 0 k) a' (rel + f.period) = (allS (cellsL t f (r.getD k 0) (r.getD (k + 1) 0)) s.len a' (rel + f.period - a').toNat).take (needAt n r 0 k) := by
          unfold slotsOn; rw [h.len]
        rw [hsl] at e2 hlen hle
        obtain ⟨d, d1, d2, d3⟩ := next_reach (need := needAt n r 0 k) (by omega) (show ((allS (cellsL t f (r.getD k 0) (r.getD (k + 1) 0)) s.len a' (rel + f.period - a').toNat).take (needAt n r 0 k)).length = needAt n r 0 k by omega)
        obtain ⟨g1, t1, f1, f2, f3, f4, f5⟩ := rel_greedy h hop hp (by omega) h' (by omega) hj hhi
        have hc := allS_room h (r.getD k 0) (r.getD (k + 1) 0) d a'
        have hc2 : needAt n r 0 k ≤ cntR n s (r.getD k 0) (r.getD (k + 1) 0) ((a' - t1).toNat + d) t1 := by
          rw [cntR_add, show t1 + ((a' - t1).toNat : Int) = a' by omega]; omega
        have hsz := sized_bd h.vs.size
        obtain ⟨g2, t2, q1, q2, q3, q4, q5⟩ := fill_greedy (n := n) (hi := hi) hsz.1 h.no (d := (rel + f.dead - t1).toNat) f4 (by omega) (by omega) hc2
        refine ⟨g2, t2, ?_, by omega, by omega, q4, ?_⟩
        · rw [relA, f1]
          simp only
          rw [q1, if_neg (by simp)]
        · rw [q5, f5, needUp]; omega
theorem rels_greedy (h : Further n l l' s t A f.id) {r : List Int} (hr : 1 ≤ r.length) (hop : HopsOk n r) (hp : 0 ≤ f.period) (hdp : 0 ≤ f.dead ∧ f.dead ≤ f.period) {N : Nat} {ak : Nat → Int} (hall : ∀ k, k < N → (∃ o, slotsUp n t f r (atA f k) 0 (r.length - 1) = some (o, ak k)) ∧ ak k ≤ atA f k + f.dead) {hi : Int} (hhi : atA f N ≤ hi) (hj : Jn s s f.phase hi) : ∀ {K : Nat}, K ≤ N →
    ∃ g tK, relsA n f r K s = some g ∧ Jn s g tK hi ∧ tK ≤ atA f K ∧ g.cells.length = s.cells.length + K * needUp n r 0 (r.length - 1) ∧ ∀ k, k < K → ∃ g0 g2 t2, relA n f r (atA f k + f.dead) (r.length - 1) g0 (atA f k) = some (g2, t2) ∧ t2 ≤ ak k ∧ MoreS g2 g
  | 0, _ => ⟨s, f.phase, rfl, hj, by unfold atA; simp, by simp, fun k hk => by omega⟩
  | K + 1, hK => by
    obtain ⟨g, tK, e1, e2, e3, e4, e5⟩ := rels_greedy h hr hop hp hdp hall hhi hj (K := K) (by omega)
    obtain ⟨⟨o, ho⟩, ha⟩ := hall K (by omega)
    have hat : atA f (K + 1) ≤ atA f N := by
      have hm : ((K + 1 : Nat) : Int) * f.period ≤ (N : Int) * f.period := Int.mul_le_mul_of_nonneg_right (by omega) hp
      unfold atA; omega
    rw [atA_succ] at hat
    obtain ⟨g1, t1, q1, q2, q3, q4, q5⟩ := rel_greedy h hop hp (k := r.length - 1) (by omega) ho ha (e2.later e3) (by omega)
    refine ⟨g1, t1, ?_, q4, by rw [atA_succ]; omega, ?_, fun k hk => ?_⟩
    · rw [relsA, e1]
      simp only
      rw [q1]; rfl
    · rw [q5, e4, Nat.add_mul]; omega
    · rcases Nat.lt_succ_iff_lt_or_eq.1 hk with hk | rfl
      · obtain ⟨g0, g2, t2, k1, k2, k3⟩ := e5 k hk
        exact ⟨g0, g2, t2, k1, k2, k3.trans (relA_more q1)⟩
      · exact ⟨g, g1, t1, q1, q3, MoreS.refl _⟩
theorem relR_at {u : Sched} {r : List Int} {rel : Int} (hn : 1 ≤ needAt n r 0 (r.length - 2)) (hr : 2 ≤ r.length) {o : List Int} {a : Int} (h : slotsUp n u f r rel 0 (r.length - 1) = some (o, a)) : relR n u f r 0 rel = some (a - rel, o.map (· - rel)) := by
  have hlast := slotsUp_last (n := n) (s := u) (f := f) (r := r) (rel := rel) (more := 0) (k := r.length - 2) (o := o) (a := a) hn (by rw [show r.length - 2 + 1 = r.length - 1 by omega]; exact h)
  rw [relR, slotsW, h]
  simp only [Option.map_some, Option.some.injEq, Prod.mk.injEq, and_true]
  rw [List.getLastD_eq_getLast?, hlast]
  simp only [Option.getD_some]
  omega
theorem boundUp_nn {u : Sched} {r : List Int} : ∀ {k : Nat} {x : Bnd}, boundUp n u f r 0 k = some x → 0 ≤ x.b
  | 0, x, h => by
    simp only [boundUp, Option.some.injEq] at h
    subst h; exact Int.le_refl _
  | k + 1, x, h => by
    rw [boundUp] at h
    split at h
    · rename_i y b l h1 h2
      have := boundUp_nn h1
      split at h
      · injection h with h
        subst h
        simp only; omega
      · injection h with h
        subst h; exact this
    · cases h
theorem exact_place (h : Further n l l' s t A f.id) {r : List Int} (hr : 2 ≤ r.length) (hop : HopsOk n r) (hp : 1 ≤ f.period) (hph : 0 ≤ f.phase ∧ f.phase < f.period) (hdp : 1 ≤ f.dead ∧ f.dead ≤ f.period) (hdv : s.len % f.period = 0) {B : Bnd} (hb : boundR n t f r 0 = some B) (hbd : B.b ≤ f.dead) :
    ∃ u, placeA n f (relN s f) [r] s = some u ∧ u.len = s.len ∧ u.cells.length = s.cells.length + relN s f * needUp n r 0 (r.length - 1) ∧ ∃ C, boundR n u f r 0 = some C ∧ C.b ≤ B.b := by
  have hsz := sized_bd h.vs.size
  have hlt := relN_lt hsz.1 hp hph hdv
  obtain ⟨N, hN⟩ : ∃ N, N = relN s f := ⟨_, rfl⟩
  have hlen : atA f N = f.phase + s.len := by
    have h1 : s.len / f.period * f.period = s.len := Int.ediv_mul_cancel (Int.dvd_of_emod_eq_zero hdv)
    have h2 : 0 ≤ s.len / f.period := Int.ediv_nonneg (by omega) (by omega)
    unfold atA
    rw [hN]
    unfold relN
    rw [Int.toNat_of_nonneg h2, h1]
  obtain ⟨lk, hl⟩ := hop_at h.vs.net (hop (r.length - 2) (by omega))
  have hn1 : 1 ≤ needAt n r 0 (r.length - 2) := by
    have h1 := hl.need
    have h2 := hl.loss
    omega
  have hba := bound_all (K := relsN t f) (x := B) hb
  have hper : ∀ k, k < N ↔ k < relsN t f := fun k => by
    rw [hN, ← hlt, relsN_lt hp, h.len]; rfl
  have hsl : ∀ k, k < N → ∃ oa : List Int × Int, slotsUp n t f r (atA f k) 0 (r.length - 1) = some oa ∧ oa.2 ≤ atA f k + B.b := fun k hk => by
    obtain ⟨b, l2, g1, g2⟩ := hba k ((hper k).1 hk)
    have g1' : relR n t f r 0 (atA f k) = some (b, l2) := g1
    cases hu : slotsUp n t f r (atA f k) 0 (r.length - 1) with
    | none => rw [relR, slotsW, hu] at g1'; cases g1'
    | some oa =>
      have := relR_at (o := oa.1) (a := oa.2) hn1 hr hu
      rw [g1'] at this
      injection this with this
      injection this with e1 e2
      exact ⟨oa, rfl, by omega⟩
  let ak : Nat → Int := fun k => match slotsUp n t f r (atA f k) 0 (r.length - 1) with
    | some oa => oa.2
    | none => 0
  have hak : ∀ k, k < N → (∃ o, slotsUp n t f r (atA f k) 0 (r.length - 1) = some (o, ak k)) ∧ ak k ≤ atA f k + B.b := fun k hk => by
    obtain ⟨oa, g1, g2⟩ := hsl k hk
    have : ak k = oa.2 := by show (match slotsUp n t f r (atA f k) 0 (r.length - 1) with | some oa => oa.2 | none => 0) = _; rw [g1]
    rw [this]
    exact ⟨⟨oa.1, g1⟩, g2⟩
  obtain ⟨u, tK, e1, e2, e3, e4, e5⟩ := rels_greedy h (by omega) hop (by omega) ⟨by omega, hdp.2⟩ (N := N) (ak := ak) (fun k hk => ⟨(hak k hk).1, by have := (hak k hk).2; omega⟩) (hi := f.phase + s.len) (by omega) ⟨rfl, rfl, by omega, fun _ _ _ => rfl⟩ (Nat.le_refl N)
  have hul := e2.len
  refine ⟨u, ?_, hul, by rw [e4, hN], ?_⟩
  · rw [← hN, placeA, e1]; rfl
  · refine bound_of (D := B.b) (boundUp_nn hb) fun k hk => ?_
    have hk2 : k < N := by
      rw [hN, ← hlt]
      have := (relsN_lt hp).1 hk
      rw [hul] at this
      exact this
    obtain ⟨g0, g2, t2, q1, q2, q3⟩ := e5 k hk2
    obtain ⟨_, o, a, w1, w2, w3⟩ := slotsUp_placed h.vs.net hop (stop := atA f k + f.dead) (rel := atA f k) (by omega) (by omega) (by omega) q1 q3
    have hak2 := (hak k hk2).2
    exact ⟨a - atA f k, _, relR_at hn1 hr w1, by omega⟩
end
end HM
namespace HM
open Go Go.RowKit
def addX (s : Sched) (id : Int) (c : Cell) : Sched := if (addM s ⟨c.slot, c.off, c.src, c.dst, id⟩).2 = 0 then (addM s ⟨c.slot, c.off, c.src, c.dst, id⟩).1 else s
def addsX (id : Int) : List Cell → Sched → Sched
  | [], s => s
  | c :: l, s => addsX id l (addX s id c)
theorem addsX_append (id : Int) (c : Cell) : ∀ (l : List Cell) (s : Sched), addsX id (l ++ [c]) s = addX (addsX id l s) id c
  | [], _ => rfl
  | d :: l, s => by
    rw [List.cons_append, addsX, addsX]
    exact addsX_append id c l _
theorem addX_at (s : Sched) (id : Int) (c : Cell) : (addX s id c).len = s.len ∧ (addX s id c).offs = s.offs ∧ ((addX s id c).cells = s.cells ∨ ∃ d : Cell, d.flow = id ∧ (addX s id c).cells.Perm (d :: s.cells)) := by
  unfold addX
  split
  · rename_i h
    obtain ⟨_, _, _, _, h5⟩ := addM_ok (s := s) (c := ⟨c.slot, c.off, c.src, c.dst, id⟩) (t := (addM s ⟨c.slot, c.off, c.src, c.dst, id⟩).1) (by rw [← h])
    rw [h5]
    exact ⟨rfl, rfl, .inr ⟨⟨c.slot, c.off, c.src, c.dst, id⟩, rfl, insAt_perm _ _ _⟩⟩
  · exact ⟨rfl, rfl, .inl rfl⟩
theorem addsX_at (id : Int) : ∀ (l : List Cell) (s : Sched), (addsX id l s).len = s.len ∧ (addsX id l s).offs = s.offs ∧ ∃ A : List Cell, A.length ≤ l.length ∧ (∀ c ∈ A, c.flow = id) ∧ (addsX id l s).cells.Perm (A ++ s.cells)
  | [], s => ⟨rfl, rfl, [], Nat.le_refl _, by simp, List.Perm.refl _⟩
  | c :: l, s => by
    obtain ⟨h1, h2, A, h3, h4, h5⟩ := addsX_at id l (addX s id c)
    obtain ⟨g1, g2, g3⟩ := addX_at s id c
    rw [addsX]
    refine ⟨h1.trans g1, h2.trans g2, ?_⟩
    rcases g3 with g3 | ⟨d, hd, g3⟩
    · exact ⟨A, by rw [List.length_cons]; omega, h4, by rw [← g3]; exact h5⟩
    · refine ⟨A ++ [d], by rw [List.length_append, List.length_cons]; simp; omega, fun c hc => ?_, ?_⟩
      · rcases List.mem_append.1 hc with hc | hc
        · exact h4 c hc
        · rw [List.mem_singleton.1 hc]; exact hd
      · refine h5.trans ?_
        rw [List.append_assoc]
        exact List.Perm.append_left A g3
theorem addsX_len (id : Int) (l : List Cell) (s : Sched) : (addsX id l s).cells.length ≤ l.length + s.cells.length := by
  obtain ⟨_, _, A, h1, _, h2⟩ := addsX_at id l s
  rw [h2.length_eq, List.length_append]; omega
theorem few_need {n : Net} {t : Sched} {x : Req} {r : List Int} (hok : NetOk n) (hx : ReqOk n x) (hl : 1 ≤ t.len) (hper : t.len % x.flow.period = 0) (hs : servedB n t x) (hpl : ∀ c ∈ t.cells, 0 ≤ c.slot ∧ c.slot < t.len) (hr : r ∈ x.routes) (hop : HopsOk n r) {M : Nat} (hM : ∀ a b, (cellsL t x.flow a b).length ≤ M) : ∀ k : Nat, k + 1 ≤ r.length → relN t x.flow * needUp n r 0 k ≤ k * M
  | 0, _ => by simp [needUp]
  | k + 1, hk => by
    have ih := few_need hok hx hl hper hs hpl hr hop hM k (by omega)
    obtain ⟨l, hl2⟩ := hop_at hok (hop k (by omega))
    obtain ⟨q, _, hq⟩ := hl2.at_
    have hu : usesQ x l.src l.dst = true := by
      unfold usesQ
      refine List.any_eq_true.2 ⟨r, hr, ?_⟩
      unfold usesR
      refine List.any_eq_true.2 ⟨k, List.mem_range.2 (by omega), ?_⟩
      rw [hl2.src, hl2.dst]
      simp
    have h1 := needC_cells hok hx (by omega) hper hs hpl (List.mem_of_getElem? hq) hu
    have h2 := hM l.src l.dst
    have hnd := hl2.need
    have hfe := flowE_ok hx.flow
    have h3 : needC t.len x l = (relN t x.flow : Int) * needAt n r 0 k := by
      unfold needC relN
      rw [Int.toNat_of_nonneg (Int.ediv_nonneg (by omega) (by omega)), hnd, Int.mul_comm (l.loss + 1), Int.mul_comm _ (l.loss + 1)]
      obtain ⟨m, hm⟩ := Int.dvd_of_emod_eq_zero hper
      rw [hm, Int.mul_left_comm (l.loss + 1), Int.mul_ediv_cancel_left _ (by omega), Int.mul_ediv_cancel_left _ (by omega), Int.mul_comm]
    rw [h3] at h1
    have h4 : relN t x.flow * needAt n r 0 k ≤ M := by
      have : ((relN t x.flow * needAt n r 0 k : Nat) : Int) ≤ M := by rw [Int.natCast_mul]; omega
      omega
    rw [needUp, Nat.mul_add, Nat.add_mul, Nat.one_mul]
    omega
theorem claim_at {n : Net} {s : Sched} {x : Req} (h : claimB n s x = true) {r : List Int} (hr : r ∈ x.routes) : ∃ B, wayE n s x.flow r = 0 ∧ boundR n s x.flow r 0 = some B ∧ B.b ≤ x.flow.dead ∧ routeM n s x.flow r = (B.b, B.w, B.l, 0) := by
  have h1 := List.all_eq_true.1 h r hr
  unfold srvB at h1
  simp only [Bool.and_eq_true, decide_eq_true_eq] at h1
  obtain ⟨h1, h2⟩ := h1
  unfold routeM at h1 h2 ⊢
  split at h1
  · rename_i hw; exact absurd h1 hw
  · rename_i hw
    rw [if_neg hw] at h2 ⊢
    cases hb : boundR n s x.flow r 0 with
    | none => rw [hb] at h1; cases h1
    | some B =>
      rw [hb] at h2
      exact ⟨B, by omega, rfl, h2, rfl⟩
theorem exact_adm {n : Net} {q : List Req} {s : Sched} {x : Req} {more : List Cell} {r : List Int} (hr : x.routes = [r]) (hm : more.length ≤ 20) (hs30 : s.cells.length ≤ 30) (h1 : (makeM n q s).2.2 = 0) (h2 : (makeM n (insQ q x) (addsX x.flow.id more s)).2.2 = 0) (h3 : hasQ q x.flow.id = false) :
    ∃ u, admM n q s x = (u, 0) ∧ (routeM n u x.flow r).2.2.2 = 0 ∧ (routeM n (addsX x.flow.id more s) x.flow r).2.2.2 = 0 ∧ (routeM n u x.flow r).1 ≤ (routeM n (addsX x.flow.id more s) x.flow r).1 := by
  obtain ⟨t, ht⟩ : ∃ t, t = addsX x.flow.id more s := ⟨_, rfl⟩
  obtain ⟨e1, e2, A, a1, a2, a3⟩ := addsX_at x.flow.id more s
  rw [← ht] at h2 e1 e2 a3 ⊢
  obtain ⟨m1, m2, m3, _⟩ := make_parts h1
  obtain ⟨p1, p2, p3, _⟩ := make_parts h2
  obtain ⟨hok, _, hreq, _⟩ := reqE_ok p1
  have hxi : x ∈ insQ q x := insAt_mem.2 (.inl rfl)
  have hxo := hreq x hxi
  have hfe := flowE_ok hxo.flow
  have hrm : r ∈ x.routes := by rw [hr]; simp
  obtain ⟨k1, k2, _⟩ := routeF_ok (hxo.route r hrm)
  have hper : t.len % x.flow.period = 0 := p2.per x.flow (List.mem_map.2 ⟨x, hxi, rfl⟩)
  have hoth := oth_all m2 (has_ids h3)
  have hno : ∀ c ∈ s.cells, c.flow ≠ x.flow.id := fun c hc => by
    rw [← hoth] at hc
    have := (List.mem_filter.1 hc).2
    simpa using this
  have hF : Further n (flowsQ q) (flowsQ (insQ q x)) s t A x.flow.id := ⟨m2, p2, e1, e2, a3, hno⟩
  obtain ⟨B, w1, w2, w3, w4⟩ := claim_at (p3 x hxi) hrm
  obtain ⟨u, u1, u2, u3, C, u4, u5⟩ := exact_place hF k1.1 k2 hfe.2.2.2.2.2.2.1 ⟨hfe.2.2.2.2.2.2.2.2.1, hfe.2.2.2.2.2.2.2.2.2.1⟩ ⟨hfe.2.2.2.2.2.2.2.2.2.2.1, hfe.2.2.2.2.2.2.2.2.2.2.2.1⟩ (by rw [← e1]; exact hper) w2 w3
  have hsz := sized_bd m2.size
  have hM : ∀ a b, (cellsL t x.flow a b).length ≤ 20 := fun a b => by
    have g1 : (cellsL t x.flow a b).length ≤ (t.cells.filter fun c => c.flow == x.flow.id).length := by
      unfold cellsL
      rw [← List.countP_eq_length_filter, ← List.countP_eq_length_filter]
      refine List.countP_mono_left fun c _ hc => ?_
      unfold offL at hc
      simp only [Bool.not_eq_true', Bool.or_eq_false_iff, bne_eq_false_iff_eq] at hc
      simp [hc.1.1]
    have g2 : (t.cells.filter fun c => c.flow == x.flow.id).length = (A.filter fun c => c.flow == x.flow.id).length := by
      have h5 := (a3.filter fun c => c.flow == x.flow.id).length_eq
      rw [List.filter_append, List.length_append] at h5
      have h6 : (s.cells.filter fun c => c.flow == x.flow.id) = [] := List.filter_eq_nil_iff.2 fun c hc => by simp [hno c hc]
      rw [h6] at h5
      simpa using h5
    have g3 := List.length_filter_le (fun c : Cell => c.flow == x.flow.id) A
    omega
  have hfew := few_need hok hxo (by omega) hper (claim_served (p3 x hxi)) (fun c hc => by have := p2.at hc; omega) hrm k2 hM (r.length - 1) (by omega)
  have hrl : relN t x.flow = relN s x.flow := by unfold relN; rw [e1]
  rw [hrl] at hfew
  have hlen : u.cells.length ≤ 512 := by
    have : (r.length - 1) * 20 ≤ 8 * 20 := Nat.mul_le_mul_right _ (by omega)
    omega
  have hadm : admM n q s x = (u, 0) := by
    unfold admM
    rw [if_neg (by omega), if_neg (by rw [h3]; decide), if_neg (by omega), if_neg (by rw [← e1]; omega), hr, u1]
    simp only
    rw [if_neg (by omega)]
  obtain ⟨_, _, _, _, f2, _⟩ := adm_serves hadm
  have hwu : wayE n u x.flow r = 0 := by
    have h5 := w1
    unfold wayE at h5 ⊢
    rw [p2.form, e1] at h5
    rw [f2, u2]
    exact h5
  have hru : routeM n u x.flow r = (C.b, C.w, C.l, 0) := by
    unfold routeM
    rw [if_neg (by omega), u4]
  exact ⟨u, hadm, by rw [hru], by rw [w4], by rw [hru, w4]; exact u5⟩
end HM
namespace HM
open Go Go.RowKit
deriving instance DecidableEq for Sched
deriving instance DecidableEq for Req
end HM
namespace HM
open Go Go.RowKit
def posW (x : Req) (q : List Req) : Nat := posB (fun y : Req => if y.flow.id ≤ x.flow.id then -1 else 0) q
theorem posW_at {q : List Req} {x : Req} (hs : q.Pairwise fun a b => a.flow.id < b.flow.id) {k : Nat} {y : Req} (hk : q[k]? = some y) : x.flow.id < y.flow.id ↔ posW x q ≤ k := by
  have hkl := (List.getElem?_eq_some_iff.1 hk).1
  constructor
  · intro h
    rcases Nat.lt_or_ge k (posW x q) with h1 | h1
    · have this : (if y.flow.id ≤ x.flow.id then (-1 : Int) else 0) < 0 := posB_lt (c := fun y : Req => if y.flow.id ≤ x.flow.id then -1 else 0) h1 hk
      rw [if_neg (by omega)] at this
      omega
    · exact h1
  · intro h
    obtain ⟨z, hz⟩ := getLt (l := q) (k := posW x q) (by omega)
    have h1 : ¬ (if z.flow.id ≤ x.flow.id then (-1 : Int) else 0) < 0 := posB_ge (c := fun y : Req => if y.flow.id ≤ x.flow.id then -1 else 0) hz
    have h3 : x.flow.id < z.flow.id := by
      by_cases hh : z.flow.id ≤ x.flow.id
      · rw [if_pos hh] at h1; omega
      · omega
    rcases Nat.lt_or_eq_of_le h with h4 | h4
    · have h5 := List.pairwise_iff_getElem.1 hs (posW x q) k (List.getElem?_eq_some_iff.1 hz).1 hkl h4
      rw [(List.getElem?_eq_some_iff.1 hz).2, (List.getElem?_eq_some_iff.1 hk).2] at h5
      omega
    · subst h4
      rw [hz] at hk; injection hk with hk; subst hk
      exact h3
theorem posW_le (x : Req) (q : List Req) : posW x q ≤ q.length := posB_le _ _
def withP (p : Nat) (q : List Req) (x : Req) (k : Nat) : List Req := if k ≤ p then q.take k else insAt (q.take k) p x
theorem withP_succ {p : Nat} {q : List Req} {x : Req} {k : Nat} {y : Req} (hk : q[k]? = some y) : withP p q x (k + 1) = withP p q x k ++ if k = p then [x, y] else [y] := by
  unfold withP
  have hkl := (List.getElem?_eq_some_iff.1 hk).1
  have ht := take_succ hk
  have hl : (q.take k).length = k := by rw [List.length_take]; omega
  rcases Nat.lt_trichotomy k p with h | h | h
  · rw [if_pos (by omega), if_pos (by omega), if_neg (by omega), ht]
  · rw [if_neg (by omega), if_pos (by omega), if_pos h, ht, ← h]
    unfold insAt
    rw [List.take_append_of_le_length (by omega), List.take_of_length_le (by omega), List.drop_append_of_le_length (by omega), List.drop_of_length_le (by omega)]
    rfl
  · rw [if_neg (by omega), if_neg (by omega), if_neg (by omega), ht]
    unfold insAt
    rw [List.take_append_of_le_length (by omega), List.drop_append_of_le_length (by omega), List.append_assoc]
    rfl
theorem withP_end {p : Nat} {q : List Req} {x : Req} (hp : p ≤ q.length) : insAt q p x = if p < q.length then withP p q x q.length else withP p q x q.length ++ [x] := by
  unfold withP
  rw [List.take_length]
  split
  · rw [if_neg (by omega)]
  · rw [if_pos (by omega)]
    have : p = q.length := by omega
    unfold insAt
    rw [this, List.take_length, List.drop_length]
theorem withP_len (p : Nat) (q : List Req) (x : Req) (k : Nat) : (withP p q x k).length ≤ q.length + 1 := by
  unfold withP
  split
  · rw [List.length_take]; omega
  · rw [insAt_len, List.length_take]; omega
theorem withP_zero (p : Nat) (q : List Req) (x : Req) : withP p q x 0 = [] := by
  unfold withP
  rw [if_pos (by omega)]; simp
theorem posW_eq {q : List Req} {x : Req} (hs : q.Pairwise fun a b => a.flow.id < b.flow.id) (hno : hasQ q x.flow.id = false) : posW x q = posQ x q := by
  have h1 := posW_le x q
  have h2 : posQ x q ≤ q.length := posB_le _ _
  rcases Nat.lt_trichotomy (posW x q) (posQ x q) with h | h | h
  · obtain ⟨y, hy⟩ := getLt (l := q) (k := posW x q) (by omega)
    have := (posQ_at hs hno hy).1 ((posW_at hs hy).2 (Nat.le_refl _))
    omega
  · exact h
  · obtain ⟨y, hy⟩ := getLt (l := q) (k := posQ x q) (by omega)
    have := (posW_at hs hy).1 ((posQ_at hs hno hy).2 (Nat.le_refl _))
    omega
end HM
