/- The reference's Route, Least and Slack. -/
import Derived.Test.YtcmppdlaabbnlaaGreatDoorS40

set_option maxRecDepth 100000
namespace HM
open Go Go.RowKit Go.Proofs
section
variable (L : World → Prop)

set_option maxHeartbeats 4000000 in
theorem c_Most37 (n : Net) (s : Sched) (f : Flow) (r : List Int) (more : Int) (hl : n.links.length ≤ 281474976710656) (h : WayOk n s f r) (hm0 : 0 ≤ more) (hm1 : more ≤ 8) :
    PCall Tryz.prog L 44 [n.av, s.av, f.av, encIs r, .int .i64 more] (bndAV (boundR n s f r more)) := by
  have hfl := h.flow
  obtain ⟨hsz, hcl, hfm⟩ := form_all h.form
  have hsb := sized_bd hsz
  refine PCall.intro mixed [] (nt := 70) Tryz.func44 rfl rfl (by simp) ?_
  repeat ((conv => whnf); first | (refine And.intro (by first | rfl | exact Or.inl ⟨_, rfl⟩ | exact Or.inr rfl | exact le_b rfl | ((repeat' (first | exact Els.nil _ | refine Els.cons rfl rfl ?_)); done) | exact Els.map (fun _ => ⟨rfl, rfl⟩)  | kernel_rfl) ?_) )
  try (conv => whnf)
  refine LoopK.run mixed [] (fun st : Nat × Bnd => st.1 ≤ relsN s f ∧ boundUp n s f r more st.1 = some st.2) (fun st => [(3, encIs r), (4, .int .i64 more), (5, .ptr 0 0), (6, .ptr 1 0), (7, .ptr 2 0), (14, .int .i64 st.2.b), (15, .int .i64 st.2.w), (16, encIs st.2.l), (17, .int .i64 (f.phase + st.1 * f.period))]) (fun _ => ⟨sl37 n s f, [], 0, 0, fun _ => 0⟩) (fun st => relsN s f - st.1) (0, ⟨0, 0, []⟩) ⟨by simp, rfl⟩ ?_ ?_
  · refine Fits.mk' rfl rfl rfl rfl ?_ ?_ ?_ ?_ ?_ <;> repeat' (first | exact trivial | refine And.intro ?_ ?_ | exact Sees.of_eq rfl | exact lt_b rfl | rfl | exact SeesL.rfl' _ | exact Sees.int (by simp) | exact Sees.elems rfl)
  rintro ⟨k, x⟩ ⟨hk, hup⟩
  simp only at hk hup
  have hlt := relsN_lt (s := s) (f := f) (k := k) (by omega)
  have hms : ((k + 1 : Nat) : Int) * f.period = k * f.period + f.period := by rw [Int.natCast_add, Int.add_mul]; simp
  have hp0 : 0 ≤ (k : Int) * f.period := Int.mul_nonneg (by omega) (by omega)
  repeat ((conv => whnf); first | (refine And.intro (by first | rfl | exact Or.inl ⟨_, rfl⟩ | exact Or.inr rfl | exact le_b rfl | ((repeat' (first | exact Els.nil _ | refine Els.cons rfl rfl ?_)); done) | exact Els.map (fun _ => ⟨rfl, rfl⟩)  | kernel_rfl) ?_) )
  try (conv => whnf)
  refine BrK.mk (fun hb => ?_) (fun hb => ?_) <;> (try rw [hb])
  · have hb' : f.phase + k * f.period < s.len := by simpa using hb
    have hkl := hlt.2 hb'
    repeat ((conv => whnf); first | (refine And.intro (by first | rfl | exact Or.inl ⟨_, rfl⟩ | exact Or.inr rfl | exact le_b rfl | ((repeat' (first | exact Els.nil _ | refine Els.cons rfl rfl ?_)); done) | exact Els.map (fun _ => ⟨rfl, rfl⟩)  | kernel_rfl) ?_) )
    try (conv => whnf)
    first | refine CallK.data rfl (c_Slots37 L n s f r (f.phase + k * f.period) more hl h hm0 hm1 (by omega) (by omega)) rfl ?_ | refine CallP.data rfl (c_Slots37 L n s f r (f.phase + k * f.period) more hl h hm0 hm1 (by omega) (by omega)) rfl ?_
    cases hS : slotsW n s f r (f.phase + k * f.period) more with
    | none =>
      repeat ((conv => whnf); first | (refine And.intro (by first | rfl | exact Or.inl ⟨_, rfl⟩ | exact Or.inr rfl | exact le_b rfl | ((repeat' (first | exact Els.nil _ | refine Els.cons rfl rfl ?_)); done) | exact Els.map (fun _ => ⟨rfl, rfl⟩)  | kernel_rfl) ?_) )
      try (conv => whnf)
      exact resP.mk rfl (Sees.of_eq (by rw [boundR, boundUp_none (boundUp_stop (relR_none hS)) hkl]; rfl))
    | some l =>
      obtain ⟨z, hz, hR, hz0, hz1, hll, hne, hmem⟩ := slotsW_some h hm0 hm1 hS
      have hnx := boundUp_some hup hR
      have hlp : 0 < l.length := List.length_pos_iff.2 hne
      have hz2 : l[l.length - 1]? = some z := by rw [← List.getLast?_eq_getElem?, hz]
      have hmz := getMap (f := encI) hz2
      have hwl : IntKind.i64.wrap (((List.map encI l).length : Int) - 1) = ((l.length - 1 : Nat) : Int) := by rw [w64] <;> simp <;> omega
      have hwz : IntKind.i64.wrap (IntKind.i64.wrap (z - (f.phase + k * f.period)) + 1) = z - (f.phase + k * f.period) + 1 := by rw [w64 (x := z - (f.phase + k * f.period)) (by omega) (by omega), w64 (by omega) (by omega)]
      repeat ((conv => whnf); first | (refine And.intro (by first | rfl | exact Or.inl ⟨_, rfl⟩ | exact Or.inr rfl | exact le_b rfl | ((repeat' (first | exact Els.nil _ | refine Els.cons rfl rfl ?_)); done) | exact Els.map (fun _ => ⟨rfl, rfl⟩) | (rw [hwl]; exact inbMap (by omega)) | kernel_rfl) ?_) | rw [hwl] | rw [hmz])
      try (conv => whnf)
      rw [hwz]
      refine BrK.mk (fun h1 => ?_) (fun h1 => ?_) <;> (try rw [h1])
      · rw [if_pos (by simpa using h1)] at hnx
        repeat ((conv => whnf); first | (refine And.intro (by first | rfl | exact Or.inl ⟨_, rfl⟩ | exact Or.inr rfl | exact le_b rfl | ((repeat' (first | exact Els.nil _ | refine Els.cons rfl rfl ?_)); done) | exact Els.map (fun _ => ⟨rfl, rfl⟩) | (rw [hwl]; exact inbMap (by omega)) | kernel_rfl) ?_) | rw [hwl] | rw [hmz])
        try (conv => whnf)
        first | refine CallK.data rfl (c_relative L l (f.phase + k * f.period) (by omega) (fun x hx => by have := hmem x hx; omega) (by omega)) rfl ?_ | refine CallP.data rfl (c_relative L l (f.phase + k * f.period) (by omega) (fun x hx => by have := hmem x hx; omega) (by omega)) rfl ?_
        repeat ((conv => whnf); first | (refine And.intro (by first | rfl | exact Or.inl ⟨_, rfl⟩ | exact Or.inr rfl | exact le_b rfl | ((repeat' (first | exact Els.nil _ | refine Els.cons rfl rfl ?_)); done) | exact Els.map (fun _ => ⟨rfl, rfl⟩)  | kernel_rfl) ?_) )
        try (conv => whnf)
        refine ⟨(k + 1, _), ⟨hkl, hnx⟩, by simp only; omega, ?_⟩
        refine Fits.mk' rfl rfl rfl rfl ?_ ?_ ?_ ?_ ?_ <;> repeat' (first | exact trivial | refine And.intro ?_ ?_ | exact Sees.of_eq rfl | exact lt_b rfl | rfl | exact SeesL.rfl' _ | exact Sees.int hwz | exact Sees.int (by simp only [hms]; rw [w64] <;> omega))
      · rw [if_neg (by simpa using h1)] at hnx
        repeat ((conv => whnf); first | (refine And.intro (by first | rfl | exact Or.inl ⟨_, rfl⟩ | exact Or.inr rfl | exact le_b rfl | ((repeat' (first | exact Els.nil _ | refine Els.cons rfl rfl ?_)); done) | exact Els.map (fun _ => ⟨rfl, rfl⟩)  | kernel_rfl) ?_) )
        try (conv => whnf)
        refine ⟨(k + 1, _), ⟨hkl, hnx⟩, by simp only; omega, ?_⟩
        refine Fits.mk' rfl rfl rfl rfl ?_ ?_ ?_ ?_ ?_ <;> repeat' (first | exact trivial | refine And.intro ?_ ?_ | exact Sees.of_eq rfl | exact lt_b rfl | rfl | exact SeesL.rfl' _ | exact Sees.int (by simp only [hms]; rw [w64] <;> omega))
  · have hk' : k = relsN s f := by
      rcases Nat.lt_or_ge k (relsN s f) with hh | hh
      · have := hlt.1 hh
        simp at hb; omega
      · omega
    subst hk'
    repeat ((conv => whnf); first | (refine And.intro (by first | rfl | exact Or.inl ⟨_, rfl⟩ | exact Or.inr rfl | exact le_b rfl | ((repeat' (first | exact Els.nil _ | refine Els.cons rfl rfl ?_)); done) | exact Els.map (fun _ => ⟨rfl, rfl⟩)  | kernel_rfl) ?_) )
    try (conv => whnf)
    exact resP.mk rfl (Sees.of_eq (by rw [boundR, hup]; rfl))

set_option maxHeartbeats 4000000 in
theorem c_Route37 (n : Net) (s : Sched) (f : Flow) (r : List Int) (hn : n.small) (hc : s.cells.length ≤ 281474976710656) (hr : r.length ≤ 281474976710656) (hl : n.links.length ≤ 281474976710656) :
    PCall Tryz.prog L 12 [n.av, s.av, f.av, encIs r] (.tup [.int .i64 (routeM n s f r).1, .int .i64 (routeM n s f r).2.1, encIs (routeM n s f r).2.2.1, .int .i64 (routeM n s f r).2.2.2]) := by
  refine PCall.intro mixed [] (nt := 40) Tryz.func12 rfl rfl (by simp) ?_
  repeat ((conv => whnf); first | (refine And.intro (by first | rfl | exact Or.inl ⟨_, rfl⟩ | exact Or.inr rfl | exact le_b rfl | ((repeat' (first | exact Els.nil _ | refine Els.cons rfl rfl ?_)); done) | exact Els.map (fun _ => ⟨rfl, rfl⟩)  | kernel_rfl) ?_) )
  try (conv => whnf)
  first | refine CallK.data rfl (c_Fault37 L n s f r hn hc hr) rfl ?_ | refine CallP.data rfl (c_Fault37 L n s f r hn hc hr) rfl ?_
  repeat ((conv => whnf); first | (refine And.intro (by first | rfl | exact Or.inl ⟨_, rfl⟩ | exact Or.inr rfl | exact le_b rfl | ((repeat' (first | exact Els.nil _ | refine Els.cons rfl rfl ?_)); done) | exact Els.map (fun _ => ⟨rfl, rfl⟩)  | kernel_rfl) ?_) )
  try (conv => whnf)
  refine BrK.mk (fun h1 => ?_) (fun h1 => ?_) <;> (try rw [h1])
  · repeat ((conv => whnf); first | (refine And.intro (by first | rfl | exact Or.inl ⟨_, rfl⟩ | exact Or.inr rfl | exact le_b rfl | ((repeat' (first | exact Els.nil _ | refine Els.cons rfl rfl ?_)); done) | exact Els.map (fun _ => ⟨rfl, rfl⟩)  | kernel_rfl) ?_) )
    try (conv => whnf)
    exact resP.mk rfl (Sees.of_eq (by rw [routeM, if_pos (by simpa using h1)]; rfl))
  have h1' : wayE n s f r = 0 := by simpa using h1
  have e1 : ¬ wayE n s f r ≠ 0 := by simpa using h1'
  have hw := wayE_ok h1'
  repeat ((conv => whnf); first | (refine And.intro (by first | rfl | exact Or.inl ⟨_, rfl⟩ | exact Or.inr rfl | exact le_b rfl | ((repeat' (first | exact Els.nil _ | refine Els.cons rfl rfl ?_)); done) | exact Els.map (fun _ => ⟨rfl, rfl⟩)  | kernel_rfl) ?_) )
  try (conv => whnf)
  first | refine CallK.data rfl (c_Most37 L n s f r 0 hl hw (by omega) (by omega)) rfl ?_ | refine CallP.data rfl (c_Most37 L n s f r 0 hl hw (by omega) (by omega)) rfl ?_
  cases hB : boundR n s f r 0 with
  | none =>
    repeat ((conv => whnf); first | (refine And.intro (by first | rfl | exact Or.inl ⟨_, rfl⟩ | exact Or.inr rfl | exact le_b rfl | ((repeat' (first | exact Els.nil _ | refine Els.cons rfl rfl ?_)); done) | exact Els.map (fun _ => ⟨rfl, rfl⟩)  | kernel_rfl) ?_) )
    try (conv => whnf)
    exact resP.mk rfl (Sees.of_eq (by rw [routeM, if_neg e1, hB]; rfl))
  | some x =>
    repeat ((conv => whnf); first | (refine And.intro (by first | rfl | exact Or.inl ⟨_, rfl⟩ | exact Or.inr rfl | exact le_b rfl | ((repeat' (first | exact Els.nil _ | refine Els.cons rfl rfl ?_)); done) | exact Els.map (fun _ => ⟨rfl, rfl⟩)  | kernel_rfl) ?_) )
    try (conv => whnf)
    exact resP.mk rfl (Sees.of_eq (by rw [routeM, if_neg e1, hB]; rfl))

theorem wayE_late (n : Net) (s : Sched) (f : Flow) (r : List Int) : wayE n s f r ≠ 15 := by
  unfold wayE routeE routeF endsE
  repeat' split
  all_goals first | decide | omega
end
end HM
