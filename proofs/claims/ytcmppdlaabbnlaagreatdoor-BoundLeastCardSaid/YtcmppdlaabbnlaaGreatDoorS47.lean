/- The laws on releases, routes, least bounds and slack. -/
import Derived.Test.YtcmppdlaabbnlaaGreatDoorS46

set_option maxRecDepth 100000
namespace HM
open Go Go.RowKit Go.Proofs

theorem relR_len {n : Net} {s : Sched} {f : Flow} {r : List Int} {more rel b : Int} {l : List Int} (hw : WayOk n s f r) (h0 : 0 ≤ more) (h1 : more ≤ 8) (h : relR n s f r more rel = some (b, l)) : l.length ≤ 144 := by
  unfold relR at h
  cases hs : slotsW n s f r rel more with
  | none => rw [hs] at h; cases h
  | some l' =>
    rw [hs] at h
    obtain ⟨_, _, _, _, _, h5, _, _⟩ := slotsW_some hw h0 h1 hs
    simp only [Option.map_some, Option.some.injEq, Prod.mk.injEq] at h
    rw [← h.2, List.length_map]; exact h5
theorem boundUp_len {n : Net} {s : Sched} {f : Flow} {r : List Int} {more : Int} (hw : WayOk n s f r) (h0 : 0 ≤ more) (h1 : more ≤ 8) : ∀ (k : Nat) {x : Bnd}, boundUp n s f r more k = some x → x.l.length ≤ 144
  | 0, x, h => by simp [boundUp] at h; subst h; simp
  | k + 1, x, h => by
    cases hb : boundUp n s f r more k with
    | none => simp only [boundUp, hb] at h; cases h
    | some y =>
      cases hr : relR n s f r more (f.phase + k * f.period) with
      | none => rw [boundUp_stop hr] at h; cases h
      | some bl =>
        obtain ⟨b, l⟩ := bl
        rw [boundUp_some hb hr] at h
        injection h with h
        have h2 := boundUp_len hw h0 h1 k hb
        have h3 := relR_len hw h0 h1 hr
        split at h
        · subst h; exact h3
        · subst h; exact h2
theorem releaseM_len (n : Net) (s : Sched) (f : Flow) (r : List Int) (rel : Int) : (releaseM n s f r rel).2.1.length ≤ 144 := by
  by_cases h : wayE n s f r = 0
  · unfold releaseM
    rw [if_neg (by simp [h])]
    split
    · simp
    · split
      · simp
      · rename_i b l hr
        exact relR_len (wayE_ok h) (by omega) (by omega) hr
  · rw [releaseM, if_pos h]; simp
theorem routeM_len (n : Net) (s : Sched) (f : Flow) (r : List Int) : (routeM n s f r).2.2.1.length ≤ 144 := by
  by_cases h : wayE n s f r = 0
  · unfold routeM
    rw [if_neg (by simp [h])]
    split
    · simp
    · rename_i x hr
      exact boundUp_len (wayE_ok h) (by omega) (by omega) _ hr
  · rw [routeM, if_pos h]; simp

set_option maxHeartbeats 4000000 in
theorem c_BoundReleases (n : Net) (s : Sched) (f : Flow) (r : List Int) (rel : Int) (hn : n.small) (hc : s.cells.length ≤ 281474976710656) (hr : r.length ≤ 281474976710656) :
    PCall Tryz.prog LW 3 [n.av, s.av, f.av, encIs r, .int .i64 rel] (.bool true) := by
  have hl : n.links.length ≤ 281474976710656 := hn.2.2.1
  refine PCall.intro mixed [] (nt := 106) Tryz.func3 rfl rfl (by simp) ?_
  repeat ((conv => whnf); first | (refine And.intro (by first | rfl | exact Or.inl ⟨_, rfl⟩ | exact Or.inr rfl | exact le_b rfl | ((repeat' (first | exact Els.nil _ | refine Els.cons rfl rfl ?_)); done) | exact Els.map (fun _ => ⟨rfl, rfl⟩)  | kernel_rfl) ?_) )
  try (conv => whnf)
  first | refine CallK.data rfl (c_awake37) rfl ?_ | refine CallP.data rfl (c_awake37) rfl ?_
  repeat ((conv => whnf); first | (refine And.intro (by first | rfl | exact Or.inl ⟨_, rfl⟩ | exact Or.inr rfl | exact le_b rfl | ((repeat' (first | exact Els.nil _ | refine Els.cons rfl rfl ?_)); done) | exact Els.map (fun _ => ⟨rfl, rfl⟩)  | kernel_rfl) ?_) )
  try (conv => whnf)
  first | refine CallK.data rfl (c_Few37 LW n s [r] hn (by simp)) rfl ?_ | refine CallP.data rfl (c_Few37 LW n s [r] hn (by simp)) rfl ?_
  repeat ((conv => whnf); first | (refine And.intro (by first | rfl | exact Or.inl ⟨_, rfl⟩ | exact Or.inr rfl | exact le_b rfl | ((repeat' (first | exact Els.nil _ | refine Els.cons rfl rfl ?_)); done) | exact Els.map (fun _ => ⟨rfl, rfl⟩)  | kernel_rfl) ?_) )
  try (conv => whnf)
  refine BrK.mk (fun h1 => ?_) (fun h1 => ?_) <;> (try rw [h1])
  · repeat ((conv => whnf); first | (refine And.intro (by first | rfl | exact Or.inl ⟨_, rfl⟩ | exact Or.inr rfl | exact le_b rfl | ((repeat' (first | exact Els.nil _ | refine Els.cons rfl rfl ?_)); done) | exact Els.map (fun _ => ⟨rfl, rfl⟩)  | kernel_rfl) ?_) )
    try (conv => whnf)
    exact resP.mk rfl (Sees.of_eq rfl)
  repeat ((conv => whnf); first | (refine And.intro (by first | rfl | exact Or.inl ⟨_, rfl⟩ | exact Or.inr rfl | exact le_b rfl | ((repeat' (first | exact Els.nil _ | refine Els.cons rfl rfl ?_)); done) | exact Els.map (fun _ => ⟨rfl, rfl⟩)  | kernel_rfl) ?_) )
  try (conv => whnf)
  first | refine CallK.data rfl (c_Release n s f r rel hn hc hr) rfl ?_ | refine CallP.data rfl (c_Release n s f r rel hn hc hr) rfl ?_
  repeat ((conv => whnf); first | (refine And.intro (by first | rfl | exact Or.inl ⟨_, rfl⟩ | exact Or.inr rfl | exact le_b rfl | ((repeat' (first | exact Els.nil _ | refine Els.cons rfl rfl ?_)); done) | exact Els.map (fun _ => ⟨rfl, rfl⟩)  | kernel_rfl) ?_) )
  try (conv => whnf)
  first | refine CallK.data rfl (c_Release37 LW n s f r rel hn hc hr hl) rfl ?_ | refine CallP.data rfl (c_Release37 LW n s f r rel hn hc hr hl) rfl ?_
  repeat ((conv => whnf); first | (refine And.intro (by first | rfl | exact Or.inl ⟨_, rfl⟩ | exact Or.inr rfl | exact le_b rfl | ((repeat' (first | exact Els.nil _ | refine Els.cons rfl rfl ?_)); done) | exact Els.map (fun _ => ⟨rfl, rfl⟩)  | kernel_rfl) ?_) )
  try (conv => whnf)
  first | refine CallK.data rfl (c_BRoute n s f r hn hc hr) rfl ?_ | refine CallP.data rfl (c_BRoute n s f r hn hc hr) rfl ?_
  repeat ((conv => whnf); first | (refine And.intro (by first | rfl | exact Or.inl ⟨_, rfl⟩ | exact Or.inr rfl | exact le_b rfl | ((repeat' (first | exact Els.nil _ | refine Els.cons rfl rfl ?_)); done) | exact Els.map (fun _ => ⟨rfl, rfl⟩)  | kernel_rfl) ?_) )
  try (conv => whnf)
  first | refine CallK.data rfl (c_Route37 LW n s f r hn hc hr hl) rfl ?_ | refine CallP.data rfl (c_Route37 LW n s f r hn hc hr hl) rfl ?_
  have hl1 := releaseM_len n s f r rel
  have hl2 := routeM_len n s f r
  repeat ((conv => whnf); first | (refine And.intro (by first | rfl | exact Or.inl ⟨_, rfl⟩ | exact Or.inr rfl | exact le_b rfl | ((repeat' (first | exact Els.nil _ | refine Els.cons rfl rfl ?_)); done) | exact Els.map (fun _ => ⟨rfl, rfl⟩)  | kernel_rfl) ?_) )
  try (conv => whnf)
  rw [beq_self_eq_true]
  repeat ((conv => whnf); first | (refine And.intro (by first | rfl | exact Or.inl ⟨_, rfl⟩ | exact Or.inr rfl | exact le_b rfl | ((repeat' (first | exact Els.nil _ | refine Els.cons rfl rfl ?_)); done) | exact Els.map (fun _ => ⟨rfl, rfl⟩)  | kernel_rfl) ?_) )
  try (conv => whnf)
  first | refine CallK.data rfl (c_EqII LW (releaseM n s f r rel).2.1 (by omega)) rfl ?_ | refine CallP.data rfl (c_EqII LW (releaseM n s f r rel).2.1 (by omega)) rfl ?_
  repeat ((conv => whnf); first | (refine And.intro (by first | rfl | exact Or.inl ⟨_, rfl⟩ | exact Or.inr rfl | exact le_b rfl | ((repeat' (first | exact Els.nil _ | refine Els.cons rfl rfl ?_)); done) | exact Els.map (fun _ => ⟨rfl, rfl⟩)  | kernel_rfl) ?_) )
  try (conv => whnf)
  rw [beq_self_eq_true]
  repeat ((conv => whnf); first | (refine And.intro (by first | rfl | exact Or.inl ⟨_, rfl⟩ | exact Or.inr rfl | exact le_b rfl | ((repeat' (first | exact Els.nil _ | refine Els.cons rfl rfl ?_)); done) | exact Els.map (fun _ => ⟨rfl, rfl⟩)  | kernel_rfl) ?_) )
  try (conv => whnf)
  rw [beq_self_eq_true]
  repeat ((conv => whnf); first | (refine And.intro (by first | rfl | exact Or.inl ⟨_, rfl⟩ | exact Or.inr rfl | exact le_b rfl | ((repeat' (first | exact Els.nil _ | refine Els.cons rfl rfl ?_)); done) | exact Els.map (fun _ => ⟨rfl, rfl⟩)  | kernel_rfl) ?_) )
  try (conv => whnf)
  rw [beq_self_eq_true]
  repeat ((conv => whnf); first | (refine And.intro (by first | rfl | exact Or.inl ⟨_, rfl⟩ | exact Or.inr rfl | exact le_b rfl | ((repeat' (first | exact Els.nil _ | refine Els.cons rfl rfl ?_)); done) | exact Els.map (fun _ => ⟨rfl, rfl⟩)  | kernel_rfl) ?_) )
  try (conv => whnf)
  first | refine CallK.data rfl (c_EqII LW (routeM n s f r).2.2.1 (by omega)) rfl ?_ | refine CallP.data rfl (c_EqII LW (routeM n s f r).2.2.1 (by omega)) rfl ?_
  repeat ((conv => whnf); first | (refine And.intro (by first | rfl | exact Or.inl ⟨_, rfl⟩ | exact Or.inr rfl | exact le_b rfl | ((repeat' (first | exact Els.nil _ | refine Els.cons rfl rfl ?_)); done) | exact Els.map (fun _ => ⟨rfl, rfl⟩)  | kernel_rfl) ?_) )
  try (conv => whnf)
  exact resP.mk rfl (Sees.bool (by simp))

set_option maxHeartbeats 4000000 in
theorem c_BoundLeast (n : Net) (s : Sched) (f : Flow) (l : List (List Int)) (r : List Int) (hn : n.small) (hc : s.cells.length ≤ 281474976710656) (hrs : ∀ r ∈ l, r.length ≤ 281474976710656) (hl0 : l.length ≤ 281474976710656) (hr : r.length ≤ 281474976710656) :
    PCall Tryz.prog LW 4 [n.av, s.av, f.av, encRows l, encIs r] (.bool true) := by
  have hl : n.links.length ≤ 281474976710656 := hn.2.2.1
  refine PCall.intro mixed [] (nt := 81) Tryz.func4 rfl rfl (by simp) ?_
  repeat ((conv => whnf); first | (refine And.intro (by first | rfl | exact Or.inl ⟨_, rfl⟩ | exact Or.inr rfl | exact le_b rfl | ((repeat' (first | exact Els.nil _ | refine Els.cons rfl rfl ?_)); done) | exact Els.map (fun _ => ⟨rfl, rfl⟩)  | kernel_rfl) ?_) )
  try (conv => whnf)
  first | refine CallK.data rfl (c_awake37) rfl ?_ | refine CallP.data rfl (c_awake37) rfl ?_
  repeat ((conv => whnf); first | (refine And.intro (by first | rfl | exact Or.inl ⟨_, rfl⟩ | exact Or.inr rfl | exact le_b rfl | ((repeat' (first | exact Els.nil _ | refine Els.cons rfl rfl ?_)); done) | exact Els.map (fun _ => ⟨rfl, rfl⟩)  | kernel_rfl) ?_) )
  try (conv => whnf)
  first | refine CallK.data rfl (c_Few37 LW n s l hn hl0) rfl ?_ | refine CallP.data rfl (c_Few37 LW n s l hn hl0) rfl ?_
  repeat ((conv => whnf); first | (refine And.intro (by first | rfl | exact Or.inl ⟨_, rfl⟩ | exact Or.inr rfl | exact le_b rfl | ((repeat' (first | exact Els.nil _ | refine Els.cons rfl rfl ?_)); done) | exact Els.map (fun _ => ⟨rfl, rfl⟩)  | kernel_rfl) ?_) )
  try (conv => whnf)
  repeat' ((conv => whnf); first | (refine And.intro (by first | rfl | exact Or.inl ⟨_, rfl⟩ | exact Or.inr rfl | exact le_b rfl | ((repeat' (first | exact Els.nil _ | refine Els.cons rfl rfl ?_)); done) | exact Els.map (fun _ => ⟨rfl, rfl⟩)  | kernel_rfl) ?_)  | (refine BrK.mk (fun hb => ?_) (fun hb => ?_) <;> (try rw [hb])))
  all_goals try (conv => whnf)
  all_goals try exact resP.mk rfl (Sees.of_eq rfl)
  all_goals refine CallK.data rfl (c_BLeast n s f l hn hc hrs hl0) rfl ?_
  all_goals
    repeat ((conv => whnf); first | (refine And.intro (by first | rfl | exact Or.inl ⟨_, rfl⟩ | exact Or.inr rfl | exact le_b rfl | ((repeat' (first | exact Els.nil _ | refine Els.cons rfl rfl ?_)); done) | exact Els.map (fun _ => ⟨rfl, rfl⟩)  | kernel_rfl) ?_) )
    try (conv => whnf)
  all_goals refine CallK.data rfl (c_Least37 LW n s f l hn hc hrs hl0 hl) rfl ?_
  all_goals
    repeat ((conv => whnf); first | (refine And.intro (by first | rfl | exact Or.inl ⟨_, rfl⟩ | exact Or.inr rfl | exact le_b rfl | ((repeat' (first | exact Els.nil _ | refine Els.cons rfl rfl ?_)); done) | exact Els.map (fun _ => ⟨rfl, rfl⟩)  | kernel_rfl) ?_) )
    try (conv => whnf)
  all_goals refine CallK.data rfl (c_BSlack n s f r hn hc hr) rfl ?_
  all_goals
    repeat ((conv => whnf); first | (refine And.intro (by first | rfl | exact Or.inl ⟨_, rfl⟩ | exact Or.inr rfl | exact le_b rfl | ((repeat' (first | exact Els.nil _ | refine Els.cons rfl rfl ?_)); done) | exact Els.map (fun _ => ⟨rfl, rfl⟩)  | kernel_rfl) ?_) )
    try (conv => whnf)
  all_goals refine CallK.data rfl (c_Slack37 LW n s f r hn hc hr hl) rfl ?_
  all_goals
    repeat ((conv => whnf); first | (refine And.intro (by first | rfl | exact Or.inl ⟨_, rfl⟩ | exact Or.inr rfl | exact le_b rfl | ((repeat' (first | exact Els.nil _ | refine Els.cons rfl rfl ?_)); done) | exact Els.map (fun _ => ⟨rfl, rfl⟩)  | kernel_rfl) ?_) )
    try (conv => whnf)
  all_goals rw [beq_self_eq_true]
  all_goals
    repeat ((conv => whnf); first | (refine And.intro (by first | rfl | exact Or.inl ⟨_, rfl⟩ | exact Or.inr rfl | exact le_b rfl | ((repeat' (first | exact Els.nil _ | refine Els.cons rfl rfl ?_)); done) | exact Els.map (fun _ => ⟨rfl, rfl⟩)  | kernel_rfl) ?_) )
    try (conv => whnf)
  all_goals rw [beq_self_eq_true]
  all_goals
    repeat ((conv => whnf); first | (refine And.intro (by first | rfl | exact Or.inl ⟨_, rfl⟩ | exact Or.inr rfl | exact le_b rfl | ((repeat' (first | exact Els.nil _ | refine Els.cons rfl rfl ?_)); done) | exact Els.map (fun _ => ⟨rfl, rfl⟩)  | kernel_rfl) ?_) )
    try (conv => whnf)
  all_goals rw [beq_self_eq_true]
  all_goals
    repeat ((conv => whnf); first | (refine And.intro (by first | rfl | exact Or.inl ⟨_, rfl⟩ | exact Or.inr rfl | exact le_b rfl | ((repeat' (first | exact Els.nil _ | refine Els.cons rfl rfl ?_)); done) | exact Els.map (fun _ => ⟨rfl, rfl⟩)  | kernel_rfl) ?_) )
    try (conv => whnf)
  all_goals exact resP.mk rfl (Sees.bool (by simp))
end HM
