/- The reference's Release, Route, Least and Slack. -/
import Derived.Test.YtcmppdlaabbnlaaGreatDoorS39

set_option maxRecDepth 100000
namespace HM
open Go Go.RowKit Go.Proofs
section
variable (L : World → Prop)

theorem relR_none {n : Net} {s : Sched} {f : Flow} {r : List Int} {more rel : Int} (h : slotsW n s f r rel more = none) : relR n s f r more rel = none := by rw [relR, h]; rfl
theorem slotsW_some {n : Net} {s : Sched} {f : Flow} {r : List Int} {more rel : Int} {l : List Int} (hw : WayOk n s f r) (hm0 : 0 ≤ more) (hm1 : more ≤ 8) (h : slotsW n s f r rel more = some l) :
    ∃ z, l.getLast? = some z ∧ relR n s f r more rel = some (z - rel + 1, l.map (· - rel)) ∧ rel ≤ z ∧ z < rel + f.period ∧ l.length ≤ 144 ∧ l ≠ [] ∧ ∀ x ∈ l, rel ≤ x ∧ x < rel + f.period := by
  have hl := hw.len
  have hfl := hw.flow
  unfold slotsW at h
  cases hu : slotsUp n s f r rel more (r.length - 1) with
  | none => rw [hu] at h; cases h
  | some oa =>
    obtain ⟨o, a⟩ := oa
    rw [hu] at h
    injection h with h
    simp only at h
    subst h
    obtain ⟨u1, u2, u3, u4⟩ := slotsUp_ok (by omega) hu
    have hnu := hw.need hm0 hm1 (k := r.length - 1) (Nat.le_refl _)
    obtain ⟨_, l, _, _, _, _, g1, g2, g3⟩ := hw.at (i := 0) (by omega)
    have h1 : needUp n r more 1 ≤ needUp n r more (r.length - 1) := needUp_mono (by omega)
    have h2 : 0 < needAt n r more 0 := by unfold needAt; rw [g3]; omega
    have h3 : needUp n r more 1 = needAt n r more 0 := by simp [needUp]
    have hne : o ≠ [] := by rintro rfl; simp at u1; omega
    obtain ⟨z, hz⟩ := Option.isSome_iff_exists.1 (List.getLast?_isSome.2 hne)
    have hzb := u4 z (List.mem_of_getLast? hz)
    exact ⟨z, hz, by rw [relR, slotsW, hu]; simp [List.getLastD_eq_getLast?, hz], hzb.1, hzb.2, by omega, hne, u4⟩

set_option maxHeartbeats 4000000 in
theorem c_Release37 (n : Net) (s : Sched) (f : Flow) (r : List Int) (rel : Int) (hn : n.small) (hc : s.cells.length ≤ 281474976710656) (hr : r.length ≤ 281474976710656) (hl : n.links.length ≤ 281474976710656) :
    PCall Tryz.prog L 10 [n.av, s.av, f.av, encIs r, .int .i64 rel] (.tup [.int .i64 (releaseM n s f r rel).1, encIs (releaseM n s f r rel).2.1, .int .i64 (releaseM n s f r rel).2.2]) := by
  refine PCall.intro mixed [] (nt := 62) Tryz.func10 rfl rfl (by simp) ?_
  repeat ((conv => whnf); first | (refine And.intro (by first | rfl | exact Or.inl ⟨_, rfl⟩ | exact Or.inr rfl | exact le_b rfl | ((repeat' (first | exact Els.nil _ | refine Els.cons rfl rfl ?_)); done) | exact Els.map (fun _ => ⟨rfl, rfl⟩)  | kernel_rfl) ?_) )
  try (conv => whnf)
  first | refine CallK.data rfl (c_Fault37 L n s f r hn hc hr) rfl ?_ | refine CallP.data rfl (c_Fault37 L n s f r hn hc hr) rfl ?_
  repeat ((conv => whnf); first | (refine And.intro (by first | rfl | exact Or.inl ⟨_, rfl⟩ | exact Or.inr rfl | exact le_b rfl | ((repeat' (first | exact Els.nil _ | refine Els.cons rfl rfl ?_)); done) | exact Els.map (fun _ => ⟨rfl, rfl⟩)  | kernel_rfl) ?_) )
  try (conv => whnf)
  refine BrK.mk (fun h1 => ?_) (fun h1 => ?_) <;> (try rw [h1])
  · repeat ((conv => whnf); first | (refine And.intro (by first | rfl | exact Or.inl ⟨_, rfl⟩ | exact Or.inr rfl | exact le_b rfl | ((repeat' (first | exact Els.nil _ | refine Els.cons rfl rfl ?_)); done) | exact Els.map (fun _ => ⟨rfl, rfl⟩)  | kernel_rfl) ?_) )
    try (conv => whnf)
    exact resP.mk rfl (Sees.of_eq (by rw [releaseM, if_pos (by simpa using h1)]; rfl))
  have h1' : wayE n s f r = 0 := by simpa using h1
  have hw := wayE_ok h1'
  have hfl := hw.flow
  have e1 : ¬ wayE n s f r ≠ 0 := by simpa using h1'
  repeat ((conv => whnf); first | (refine And.intro (by first | rfl | exact Or.inl ⟨_, rfl⟩ | exact Or.inr rfl | exact le_b rfl | ((repeat' (first | exact Els.nil _ | refine Els.cons rfl rfl ?_)); done) | exact Els.map (fun _ => ⟨rfl, rfl⟩)  | kernel_rfl) ?_) )
  try (conv => whnf)
  first | refine CallK.data rfl (c_in37 L rel f.phase 1048576) rfl ?_ | refine CallP.data rfl (c_in37 L rel f.phase 1048576) rfl ?_
  repeat ((conv => whnf); first | (refine And.intro (by first | rfl | exact Or.inl ⟨_, rfl⟩ | exact Or.inr rfl | exact le_b rfl | ((repeat' (first | exact Els.nil _ | refine Els.cons rfl rfl ?_)); done) | exact Els.map (fun _ => ⟨rfl, rfl⟩)  | kernel_rfl) ?_) )
  try (conv => whnf)
  refine BrK.mk (fun h2 => ?_) (fun h2 => ?_) <;> (try rw [h2])
  · have h2' : rel < f.phase ∨ 1048576 < rel := by simp [inB] at h2; omega
    repeat ((conv => whnf); first | (refine And.intro (by first | rfl | exact Or.inl ⟨_, rfl⟩ | exact Or.inr rfl | exact le_b rfl | ((repeat' (first | exact Els.nil _ | refine Els.cons rfl rfl ?_)); done) | exact Els.map (fun _ => ⟨rfl, rfl⟩)  | kernel_rfl) ?_) )
    try (conv => whnf)
    exact resP.mk rfl (Sees.of_eq (by rw [releaseM, if_neg e1, if_pos (by omega)]; rfl))
  have h2' : f.phase ≤ rel ∧ rel ≤ 1048576 := by simp [inB] at h2; omega
  have hws : IntKind.i64.wrap (rel - f.phase) = rel - f.phase := w64 (by omega) (by omega)
  repeat ((conv => whnf); first | (refine And.intro (by first | rfl | exact Or.inl ⟨_, rfl⟩ | exact Or.inr rfl | exact le_b rfl | ((repeat' (first | exact Els.nil _ | refine Els.cons rfl rfl ?_)); done) | exact Els.map (fun _ => ⟨rfl, rfl⟩) | exact (show f.period ≠ 0 by omega) | kernel_rfl) ?_) )
  try (conv => whnf)
  rw [hws, tmod_eq (by omega)]
  refine BrK.mk (fun h3 => ?_) (fun h3 => ?_) <;> (try rw [h3])
  · repeat ((conv => whnf); first | (refine And.intro (by first | rfl | exact Or.inl ⟨_, rfl⟩ | exact Or.inr rfl | exact le_b rfl | ((repeat' (first | exact Els.nil _ | refine Els.cons rfl rfl ?_)); done) | exact Els.map (fun _ => ⟨rfl, rfl⟩)  | kernel_rfl) ?_) )
    try (conv => whnf)
    exact resP.mk rfl (Sees.of_eq (by rw [releaseM, if_neg e1, if_pos (.inr (.inr (by simpa using h3)))]; rfl))
  have e2 : ¬ (rel < f.phase ∨ 1048576 < rel ∨ (rel - f.phase) % f.period ≠ 0) := by simp at h3; omega
  repeat ((conv => whnf); first | (refine And.intro (by first | rfl | exact Or.inl ⟨_, rfl⟩ | exact Or.inr rfl | exact le_b rfl | ((repeat' (first | exact Els.nil _ | refine Els.cons rfl rfl ?_)); done) | exact Els.map (fun _ => ⟨rfl, rfl⟩)  | kernel_rfl) ?_) )
  try (conv => whnf)
  first | refine CallK.data rfl (c_Slots37 L n s f r rel 0 hl hw (by omega) (by omega) (by omega) (by omega)) rfl ?_ | refine CallP.data rfl (c_Slots37 L n s f r rel 0 hl hw (by omega) (by omega) (by omega) (by omega)) rfl ?_
  cases hS : slotsW n s f r rel 0 with
  | none =>
    repeat ((conv => whnf); first | (refine And.intro (by first | rfl | exact Or.inl ⟨_, rfl⟩ | exact Or.inr rfl | exact le_b rfl | ((repeat' (first | exact Els.nil _ | refine Els.cons rfl rfl ?_)); done) | exact Els.map (fun _ => ⟨rfl, rfl⟩)  | kernel_rfl) ?_) )
    try (conv => whnf)
    exact resP.mk rfl (Sees.of_eq (by rw [releaseM, if_neg e1, if_neg e2, relR_none hS]; rfl))
  | some l =>
    obtain ⟨z, hz, hR, hz0, hz1, hll, hne, hmem⟩ := slotsW_some hw (by omega) (by omega) hS
    have hlp : 0 < l.length := List.length_pos_iff.2 hne
    have hz2 : l[l.length - 1]? = some z := by rw [← List.getLast?_eq_getElem?, hz]
    have hmz := getMap (f := encI) hz2
    have hwl : IntKind.i64.wrap (((List.map encI l).length : Int) - 1) = ((l.length - 1 : Nat) : Int) := by rw [w64] <;> simp <;> omega
    have hwz : IntKind.i64.wrap (IntKind.i64.wrap (z - rel) + 1) = z - rel + 1 := by rw [w64 (x := z - rel) (by omega) (by omega), w64 (by omega) (by omega)]
    repeat ((conv => whnf); first | (refine And.intro (by first | rfl | exact Or.inl ⟨_, rfl⟩ | exact Or.inr rfl | exact le_b rfl | ((repeat' (first | exact Els.nil _ | refine Els.cons rfl rfl ?_)); done) | exact Els.map (fun _ => ⟨rfl, rfl⟩) | (rw [hwl]; exact inbMap (by omega)) | kernel_rfl) ?_) | rw [hwl] | rw [hmz])
    try (conv => whnf)
    first | refine CallK.data rfl (c_relative L l rel (by omega) (fun x hx => by have := hmem x hx; omega) (by omega)) rfl ?_ | refine CallP.data rfl (c_relative L l rel (by omega) (fun x hx => by have := hmem x hx; omega) (by omega)) rfl ?_
    repeat ((conv => whnf); first | (refine And.intro (by first | rfl | exact Or.inl ⟨_, rfl⟩ | exact Or.inr rfl | exact le_b rfl | ((repeat' (first | exact Els.nil _ | refine Els.cons rfl rfl ?_)); done) | exact Els.map (fun _ => ⟨rfl, rfl⟩)  | kernel_rfl) ?_) )
    try (conv => whnf)
    rw [hwz]
    exact resP.mk rfl (Sees.of_eq (by rw [releaseM, if_neg e1, if_neg e2, hR]; rfl))
end
end HM
