/- awake; the laws on checks and on Take. -/
import Derived.Test.YtbmgaapcikpnkaaDoorS18

set_option maxRecDepth 100000
namespace HM
open Go Go.RowKit Go.Proofs

def s0 : Sched := ⟨2, 3, [⟨0, 1, 0, 1, 5⟩, ⟨1, 0, 2, 3, 6⟩]⟩
theorem eq5 (c : Cell) : (c.slot == c.slot && (c.off == c.off && (c.src == c.src && (c.dst == c.dst && (c.flow == c.flow && true))))) = true := by simp
theorem e_free : freeM s0 = ([5, 6], 0) := by decide +kernel
theorem e_take : takeM s0 [5, 6] [] 1 4 = (⟨1, 1, 1, 4, 0⟩, 0) := by decide +kernel
theorem e_count : countM [5, 6] = 4 := by decide +kernel
theorem e_check : checkM [5, 6] 2 3 = 0 := by decide +kernel

set_option maxHeartbeats 4000000 in
theorem c_awake : PCall Tryd.prog LW 7 [] (.bool true) := by
  refine PCall.intro mixed [] (nt := 47) Tryd.func7 rfl rfl (by simp) ?_
  repeat ((conv => whnf); first | (refine And.intro (by first | rfl | exact Or.inl ⟨_, rfl⟩ | exact Or.inr rfl | exact le_b rfl | ((repeat' (first | exact Els.nil _ | refine Els.cons rfl rfl ?_)); done) | exact Els.map (fun _ => ⟨rfl, rfl⟩)  | kernel_rfl) ?_) )
  try (conv => whnf)
  first | refine CallK.data rfl (c_Free s0) rfl ?_ | refine CallP.data rfl (c_Free s0) rfl ?_
  rw [e_free]
  repeat ((conv => whnf); first | (refine And.intro (by first | rfl | exact Or.inl ⟨_, rfl⟩ | exact Or.inr rfl | exact le_b rfl | ((repeat' (first | exact Els.nil _ | refine Els.cons rfl rfl ?_)); done) | exact Els.map (fun _ => ⟨rfl, rfl⟩)  | kernel_rfl) ?_) )
  try (conv => whnf)
  first | refine CallK.data rfl (c_take s0 [5, 6] [] 1 4 (by decide) (by decide)) rfl ?_ | refine CallP.data rfl (c_take s0 [5, 6] [] 1 4 (by decide) (by decide)) rfl ?_
  rw [e_take]
  repeat ((conv => whnf); first | (refine And.intro (by first | rfl | exact Or.inl ⟨_, rfl⟩ | exact Or.inr rfl | exact le_b rfl | ((repeat' (first | exact Els.nil _ | refine Els.cons rfl rfl ?_)); done) | exact Els.map (fun _ => ⟨rfl, rfl⟩)  | kernel_rfl) ?_) )
  try (conv => whnf)
  first | refine CallK.data rfl (c_EqualFree LW [5, 6] [5, 6] (by decide)) rfl ?_ | refine CallP.data rfl (c_EqualFree LW [5, 6] [5, 6] (by decide)) rfl ?_
  rw [show sameM [5, 6] [5, 6] = true from by decide]
  repeat ((conv => whnf); first | (refine And.intro (by first | rfl | exact Or.inl ⟨_, rfl⟩ | exact Or.inr rfl | exact le_b rfl | ((repeat' (first | exact Els.nil _ | refine Els.cons rfl rfl ?_)); done) | exact Els.map (fun _ => ⟨rfl, rfl⟩)  | kernel_rfl) ?_) )
  try (conv => whnf)
  first | refine CallK.data rfl (c_count LW [5, 6] (by decide)) rfl ?_ | refine CallP.data rfl (c_count LW [5, 6] (by decide)) rfl ?_
  rw [e_count]
  repeat ((conv => whnf); first | (refine And.intro (by first | rfl | exact Or.inl ⟨_, rfl⟩ | exact Or.inr rfl | exact le_b rfl | ((repeat' (first | exact Els.nil _ | refine Els.cons rfl rfl ?_)); done) | exact Els.map (fun _ => ⟨rfl, rfl⟩)  | kernel_rfl) ?_) )
  try (conv => whnf)
  first | refine CallK.data rfl (c_scheck LW [5, 6] 2 3 (by decide)) rfl ?_ | refine CallP.data rfl (c_scheck LW [5, 6] 2 3 (by decide)) rfl ?_
  rw [e_check]
  repeat ((conv => whnf); first | (refine And.intro (by first | rfl | exact Or.inl ⟨_, rfl⟩ | exact Or.inr rfl | exact le_b rfl | ((repeat' (first | exact Els.nil _ | refine Els.cons rfl rfl ?_)); done) | exact Els.map (fun _ => ⟨rfl, rfl⟩)  | kernel_rfl) ?_) )
  try (conv => whnf)
  exact resP.mk rfl (Sees.of_eq rfl)

set_option maxHeartbeats 4000000 in
theorem c_SpareTakes (s : Sched) (f : List Int) (used : List Cell) (src dst : Int) (hf : f.length ≤ 281474976710656) (hu : used.length ≤ 281474976710656) : PCall Tryd.prog LW 3 [s.av, encIs f, encCells used, .int .i64 src, .int .i64 dst] (.bool true) := by
  refine PCall.intro mixed [] (nt := 62) Tryd.func3 rfl rfl (by simp) ?_
  repeat ((conv => whnf); first | (refine And.intro (by first | rfl | exact Or.inl ⟨_, rfl⟩ | exact Or.inr rfl | exact le_b rfl | ((repeat' (first | exact Els.nil _ | refine Els.cons rfl rfl ?_)); done) | exact Els.map (fun _ => ⟨rfl, rfl⟩)  | kernel_rfl) ?_) )
  try (conv => whnf)
  first | refine CallK.data rfl (c_awake) rfl ?_ | refine CallP.data rfl (c_awake) rfl ?_
  repeat' ((conv => whnf); first | (refine And.intro (by first | rfl | exact Or.inl ⟨_, rfl⟩ | exact Or.inr rfl | exact le_b rfl | ((repeat' (first | exact Els.nil _ | refine Els.cons rfl rfl ?_)); done) | exact Els.map (fun _ => ⟨rfl, rfl⟩)  | kernel_rfl) ?_)  | (refine BrK.mk (fun hb => ?_) (fun hb => ?_) <;> (try rw [hb])))
  all_goals try (conv => whnf)
  all_goals try exact resP.mk rfl (Sees.of_eq rfl)
  all_goals refine CallK.data rfl (c_take s f used src dst hf hu) rfl ?_
  all_goals
    repeat ((conv => whnf); first | (refine And.intro (by first | rfl | exact Or.inl ⟨_, rfl⟩ | exact Or.inr rfl | exact le_b rfl | ((repeat' (first | exact Els.nil _ | refine Els.cons rfl rfl ?_)); done) | exact Els.map (fun _ => ⟨rfl, rfl⟩)  | kernel_rfl) ?_) )
    try (conv => whnf)
  all_goals refine CallK.data rfl (c_rtake LW s f used src dst hf hu) rfl ?_
  all_goals
    repeat ((conv => whnf); first | (refine And.intro (by first | rfl | exact Or.inl ⟨_, rfl⟩ | exact Or.inr rfl | exact le_b rfl | ((repeat' (first | exact Els.nil _ | refine Els.cons rfl rfl ?_)); done) | exact Els.map (fun _ => ⟨rfl, rfl⟩)  | kernel_rfl) ?_) )
    try (conv => whnf)
  all_goals rw [eq5 (takeM s f used src dst).1]
  all_goals
    repeat ((conv => whnf); first | (refine And.intro (by first | rfl | exact Or.inl ⟨_, rfl⟩ | exact Or.inr rfl | exact le_b rfl | ((repeat' (first | exact Els.nil _ | refine Els.cons rfl rfl ?_)); done) | exact Els.map (fun _ => ⟨rfl, rfl⟩)  | kernel_rfl) ?_) )
    try (conv => whnf)
  all_goals exact resP.mk rfl (Sees.bool (by simp))

set_option maxHeartbeats 4000000 in
theorem c_SpareChecks (a b : List Int) (len offs : Int) (ha : a.length ≤ 281474976710656) (hbb : b.length ≤ 281474976710656) : PCall Tryd.prog LW 6 [encIs a, encIs b, .int .i64 len, .int .i64 offs] (.bool true) := by
  refine PCall.intro mixed [] (nt := 61) Tryd.func6 rfl rfl (by simp) ?_
  repeat ((conv => whnf); first | (refine And.intro (by first | rfl | exact Or.inl ⟨_, rfl⟩ | exact Or.inr rfl | exact le_b rfl | ((repeat' (first | exact Els.nil _ | refine Els.cons rfl rfl ?_)); done) | exact Els.map (fun _ => ⟨rfl, rfl⟩)  | kernel_rfl) ?_) )
  try (conv => whnf)
  first | refine CallK.data rfl (c_awake) rfl ?_ | refine CallP.data rfl (c_awake) rfl ?_
  repeat ((conv => whnf); first | (refine And.intro (by first | rfl | exact Or.inl ⟨_, rfl⟩ | exact Or.inr rfl | exact le_b rfl | ((repeat' (first | exact Els.nil _ | refine Els.cons rfl rfl ?_)); done) | exact Els.map (fun _ => ⟨rfl, rfl⟩)  | kernel_rfl) ?_) )
  try (conv => whnf)
  repeat' ((conv => whnf); first | (refine And.intro (by first | rfl | exact Or.inl ⟨_, rfl⟩ | exact Or.inr rfl | exact le_b rfl | ((repeat' (first | exact Els.nil _ | refine Els.cons rfl rfl ?_)); done) | exact Els.map (fun _ => ⟨rfl, rfl⟩)  | kernel_rfl) ?_)  | (refine BrK.mk (fun hb => ?_) (fun hb => ?_) <;> (try rw [hb])))
  all_goals try (conv => whnf)
  all_goals try exact resP.mk rfl (Sees.of_eq rfl)
  all_goals refine CallK.data rfl (c_meet LW a b ha hbb) rfl ?_
  all_goals
    repeat ((conv => whnf); first | (refine And.intro (by first | rfl | exact Or.inl ⟨_, rfl⟩ | exact Or.inr rfl | exact le_b rfl | ((repeat' (first | exact Els.nil _ | refine Els.cons rfl rfl ?_)); done) | exact Els.map (fun _ => ⟨rfl, rfl⟩)  | kernel_rfl) ?_) )
    try (conv => whnf)
  all_goals refine CallK.data rfl (c_rmeet LW a b ha hbb) rfl ?_
  all_goals
    repeat ((conv => whnf); first | (refine And.intro (by first | rfl | exact Or.inl ⟨_, rfl⟩ | exact Or.inr rfl | exact le_b rfl | ((repeat' (first | exact Els.nil _ | refine Els.cons rfl rfl ?_)); done) | exact Els.map (fun _ => ⟨rfl, rfl⟩)  | kernel_rfl) ?_) )
    try (conv => whnf)
  all_goals refine CallK.data rfl (c_scheck LW a len offs ha) rfl ?_
  all_goals
    repeat ((conv => whnf); first | (refine And.intro (by first | rfl | exact Or.inl ⟨_, rfl⟩ | exact Or.inr rfl | exact le_b rfl | ((repeat' (first | exact Els.nil _ | refine Els.cons rfl rfl ?_)); done) | exact Els.map (fun _ => ⟨rfl, rfl⟩)  | kernel_rfl) ?_) )
    try (conv => whnf)
  all_goals refine CallK.data rfl (c_rcheck LW a len offs ha) rfl ?_
  all_goals
    repeat ((conv => whnf); first | (refine And.intro (by first | rfl | exact Or.inl ⟨_, rfl⟩ | exact Or.inr rfl | exact le_b rfl | ((repeat' (first | exact Els.nil _ | refine Els.cons rfl rfl ?_)); done) | exact Els.map (fun _ => ⟨rfl, rfl⟩)  | kernel_rfl) ?_) )
    try (conv => whnf)
  all_goals rw [beq_self_eq_true]
  all_goals
    repeat ((conv => whnf); first | (refine And.intro (by first | rfl | exact Or.inl ⟨_, rfl⟩ | exact Or.inr rfl | exact le_b rfl | ((repeat' (first | exact Els.nil _ | refine Els.cons rfl rfl ?_)); done) | exact Els.map (fun _ => ⟨rfl, rfl⟩)  | kernel_rfl) ?_) )
    try (conv => whnf)
  have hml : (meetM a b).1.length ≤ 281474976710656 := by
    unfold meetM
    split
    · simp
    · split
      · simp
      · split
        · simp
        · simp [meetL]; omega
  all_goals refine CallK.data rfl (c_same44 LW (meetM a b).1 (meetM a b).1 hml) rfl ?_
  all_goals rw [show sameM (meetM a b).1 (meetM a b).1 = true from by simp [sameM]]
  all_goals
    repeat ((conv => whnf); first | (refine And.intro (by first | rfl | exact Or.inl ⟨_, rfl⟩ | exact Or.inr rfl | exact le_b rfl | ((repeat' (first | exact Els.nil _ | refine Els.cons rfl rfl ?_)); done) | exact Els.map (fun _ => ⟨rfl, rfl⟩)  | kernel_rfl) ?_) )
    try (conv => whnf)
  all_goals rw [beq_self_eq_true]
  all_goals
    repeat ((conv => whnf); first | (refine And.intro (by first | rfl | exact Or.inl ⟨_, rfl⟩ | exact Or.inr rfl | exact le_b rfl | ((repeat' (first | exact Els.nil _ | refine Els.cons rfl rfl ?_)); done) | exact Els.map (fun _ => ⟨rfl, rfl⟩)  | kernel_rfl) ?_) )
    try (conv => whnf)
  all_goals refine CallK.data rfl (c_count LW a ha) rfl ?_
  all_goals
    repeat ((conv => whnf); first | (refine And.intro (by first | rfl | exact Or.inl ⟨_, rfl⟩ | exact Or.inr rfl | exact le_b rfl | ((repeat' (first | exact Els.nil _ | refine Els.cons rfl rfl ?_)); done) | exact Els.map (fun _ => ⟨rfl, rfl⟩)  | kernel_rfl) ?_) )
    try (conv => whnf)
  all_goals refine CallK.data rfl (c_rcount LW a ha) rfl ?_
  all_goals
    repeat ((conv => whnf); first | (refine And.intro (by first | rfl | exact Or.inl ⟨_, rfl⟩ | exact Or.inr rfl | exact le_b rfl | ((repeat' (first | exact Els.nil _ | refine Els.cons rfl rfl ?_)); done) | exact Els.map (fun _ => ⟨rfl, rfl⟩)  | kernel_rfl) ?_) )
    try (conv => whnf)
  all_goals exact resP.mk rfl (Sees.bool (by simp))
end HM
