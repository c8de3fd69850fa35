/- Schedules: their forms. -/
import Derived.Test.YtnhelkbmeggpkaaDoorProg
import Derived.Test.YtnhelkbmeggpkaaDoorDa
import Derived.KernelRfl

set_option maxRecDepth 100000
namespace HM
open Go Go.RowKit Go.Proofs
variable (L : World → Prop)

theorem mixed : Tryd.prog.follows .mixedOrders = true := by kernel_rfl

theorem c_inside (x n : Int) : PCall Tryd.prog L 54 [.int .i64 x, .int .i64 n] (.bool (insB x n)) := by
  refine PCall.intro mixed [] (nt := 12) Tryd.func54 rfl rfl (by simp) ?_
  repeat' ((conv => whnf); first | (refine And.intro (by first | rfl | exact ⟨rfl, rfl⟩ | exact Or.inl ⟨_, rfl⟩ | exact Or.inr rfl | exact le_b rfl | ((repeat' (first | exact Els.nil _ | refine Els.cons rfl rfl ?_)); done) | exact Els.map (fun _ => ⟨rfl, rfl⟩)  | kernel_rfl) ?_)  | (refine BrK.mk (fun hb => ?_) (fun hb => ?_) <;> (try rw [hb])))
  all_goals try (conv => whnf)
  all_goals exact resP.mk rfl (Sees.of_eq (by first | (simp_all [insB]; done) | (simp_all [insB]; omega)))

theorem c_sized (s : Sched) : PCall Tryd.prog L 50 [s.av] (.bool (sizedB s)) := by
  refine PCall.intro mixed [] (nt := 21) Tryd.func50 rfl rfl (by simp) ?_
  repeat' ((conv => whnf); first | (refine And.intro (by first | rfl | exact ⟨rfl, rfl⟩ | exact Or.inl ⟨_, rfl⟩ | exact Or.inr rfl | exact le_b rfl | ((repeat' (first | exact Els.nil _ | refine Els.cons rfl rfl ?_)); done) | exact Els.map (fun _ => ⟨rfl, rfl⟩)  | kernel_rfl) ?_)  | (refine BrK.mk (fun hb => ?_) (fun hb => ?_) <;> (try rw [hb])))
  all_goals try (conv => whnf)
  all_goals exact resP.mk rfl (Sees.of_eq (by first | (simp_all [sizedB]; done) | (simp_all [sizedB]; omega)))

theorem c_placed (s : Sched) (c : Cell) : PCall Tryd.prog L 53 [s.av, c.av] (.bool (placedB s c)) := by
  refine PCall.intro mixed [] (nt := 17) Tryd.func53 rfl rfl (by simp) ?_
  repeat' ((conv => whnf); first | (refine And.intro (by first | rfl | exact ⟨rfl, rfl⟩ | exact Or.inl ⟨_, rfl⟩ | exact Or.inr rfl | exact le_b rfl | ((repeat' (first | exact Els.nil _ | refine Els.cons rfl rfl ?_)); done) | exact Els.map (fun _ => ⟨rfl, rfl⟩)  | kernel_rfl) ?_)  | (refine BrK.mk (fun hb => ?_) (fun hb => ?_) <;> (try rw [hb])))
  all_goals try (conv => whnf)
  first | refine CallK.data rfl (c_inside L _ _) rfl ?_ | refine CallP.data rfl (c_inside L _ _) rfl ?_
  repeat' ((conv => whnf); first | (refine And.intro (by first | rfl | exact ⟨rfl, rfl⟩ | exact Or.inl ⟨_, rfl⟩ | exact Or.inr rfl | exact le_b rfl | ((repeat' (first | exact Els.nil _ | refine Els.cons rfl rfl ?_)); done) | exact Els.map (fun _ => ⟨rfl, rfl⟩)  | kernel_rfl) ?_)  | (refine BrK.mk (fun hb => ?_) (fun hb => ?_) <;> (try rw [hb])))
  all_goals try (conv => whnf)
  · first | refine CallK.data rfl (c_inside L _ _) rfl ?_ | refine CallP.data rfl (c_inside L _ _) rfl ?_
    repeat' ((conv => whnf); first | (refine And.intro (by first | rfl | exact ⟨rfl, rfl⟩ | exact Or.inl ⟨_, rfl⟩ | exact Or.inr rfl | exact le_b rfl | ((repeat' (first | exact Els.nil _ | refine Els.cons rfl rfl ?_)); done) | exact Els.map (fun _ => ⟨rfl, rfl⟩)  | kernel_rfl) ?_)  | (refine BrK.mk (fun hb => ?_) (fun hb => ?_) <;> (try rw [hb])))
    all_goals try (conv => whnf)
    all_goals exact resP.mk rfl (Sees.of_eq (by first | (simp_all [placedB]; done) | (simp_all [placedB]; omega)))
  all_goals exact resP.mk rfl (Sees.of_eq (by first | (simp_all [placedB]; done) | (simp_all [placedB]; omega)))

theorem c_formed (s : Sched) (c : Cell) : PCall Tryd.prog L 30 [s.av, c.av] (.bool (formedB s c)) := by
  refine PCall.intro mixed [] (nt := 23) Tryd.func30 rfl rfl (by simp) ?_
  repeat' ((conv => whnf); first | (refine And.intro (by first | rfl | exact ⟨rfl, rfl⟩ | exact Or.inl ⟨_, rfl⟩ | exact Or.inr rfl | exact le_b rfl | ((repeat' (first | exact Els.nil _ | refine Els.cons rfl rfl ?_)); done) | exact Els.map (fun _ => ⟨rfl, rfl⟩)  | kernel_rfl) ?_)  | (refine BrK.mk (fun hb => ?_) (fun hb => ?_) <;> (try rw [hb])))
  all_goals try (conv => whnf)
  first | refine CallK.data rfl (c_placed L s c) rfl ?_ | refine CallP.data rfl (c_placed L s c) rfl ?_
  repeat' ((conv => whnf); first | (refine And.intro (by first | rfl | exact ⟨rfl, rfl⟩ | exact Or.inl ⟨_, rfl⟩ | exact Or.inr rfl | exact le_b rfl | ((repeat' (first | exact Els.nil _ | refine Els.cons rfl rfl ?_)); done) | exact Els.map (fun _ => ⟨rfl, rfl⟩)  | kernel_rfl) ?_)  | (refine BrK.mk (fun hb => ?_) (fun hb => ?_) <;> (try rw [hb])))
  all_goals try (conv => whnf)
  · first | refine CallK.data rfl (c_inside L _ _) rfl ?_ | refine CallP.data rfl (c_inside L _ _) rfl ?_
    repeat' ((conv => whnf); first | (refine And.intro (by first | rfl | exact ⟨rfl, rfl⟩ | exact Or.inl ⟨_, rfl⟩ | exact Or.inr rfl | exact le_b rfl | ((repeat' (first | exact Els.nil _ | refine Els.cons rfl rfl ?_)); done) | exact Els.map (fun _ => ⟨rfl, rfl⟩)  | kernel_rfl) ?_)  | (refine BrK.mk (fun hb => ?_) (fun hb => ?_) <;> (try rw [hb])))
    all_goals try (conv => whnf)
    · first | refine CallK.data rfl (c_inside L _ _) rfl ?_ | refine CallP.data rfl (c_inside L _ _) rfl ?_
      repeat' ((conv => whnf); first | (refine And.intro (by first | rfl | exact ⟨rfl, rfl⟩ | exact Or.inl ⟨_, rfl⟩ | exact Or.inr rfl | exact le_b rfl | ((repeat' (first | exact Els.nil _ | refine Els.cons rfl rfl ?_)); done) | exact Els.map (fun _ => ⟨rfl, rfl⟩)  | kernel_rfl) ?_)  | (refine BrK.mk (fun hb => ?_) (fun hb => ?_) <;> (try rw [hb])))
      all_goals try (conv => whnf)
      · first | refine CallK.data rfl (c_inside L _ _) rfl ?_ | refine CallP.data rfl (c_inside L _ _) rfl ?_
        repeat' ((conv => whnf); first | (refine And.intro (by first | rfl | exact ⟨rfl, rfl⟩ | exact Or.inl ⟨_, rfl⟩ | exact Or.inr rfl | exact le_b rfl | ((repeat' (first | exact Els.nil _ | refine Els.cons rfl rfl ?_)); done) | exact Els.map (fun _ => ⟨rfl, rfl⟩)  | kernel_rfl) ?_)  | (refine BrK.mk (fun hb => ?_) (fun hb => ?_) <;> (try rw [hb])))
        all_goals try (conv => whnf)
        all_goals exact resP.mk rfl (Sees.of_eq (by first | (simp_all [formedB]; done) | (simp_all [formedB]; omega)))
      all_goals exact resP.mk rfl (Sees.of_eq (by first | (simp_all [formedB]; done) | (simp_all [formedB]; omega)))
    all_goals exact resP.mk rfl (Sees.of_eq (by first | (simp_all [formedB]; done) | (simp_all [formedB]; omega)))
  all_goals exact resP.mk rfl (Sees.of_eq (by first | (simp_all [formedB]; done) | (simp_all [formedB]; omega)))



theorem c_numbers (c : Cell) : PCall Tryd.prog L 56 [c.av] (.agg (c.nums.map encI)) := by
  refine PCall.intro mixed [] (nt := 14) Tryd.func56 rfl rfl (by simp) ?_
  repeat' ((conv => whnf); first | (refine And.intro (by first | rfl | exact ⟨rfl, rfl⟩ | exact Or.inl ⟨_, rfl⟩ | exact Or.inr rfl | exact le_b rfl | ((repeat' (first | exact Els.nil _ | refine Els.cons rfl rfl ?_)); done) | exact Els.map (fun _ => ⟨rfl, rfl⟩)  | kernel_rfl) ?_)  | (refine BrK.mk (fun hb => ?_) (fun hb => ?_) <;> (try rw [hb])))
  all_goals try (conv => whnf)
  all_goals exact resP.mk rfl (Sees.of_eq rfl)

