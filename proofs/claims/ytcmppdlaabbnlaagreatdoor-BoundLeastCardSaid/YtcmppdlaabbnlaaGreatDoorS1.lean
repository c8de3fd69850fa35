/- Schedules: their forms. -/
import Derived.Test.YtcmppdlaabbnlaaGreatDoorProg
import Derived.Test.YtcmppdlaabbnlaaGreatDoorDa
import Derived.KernelRfl

set_option maxRecDepth 100000
namespace HM
open Go Go.RowKit Go.Proofs
variable (L : World → Prop)

theorem mixed : Tryz.prog.follows .mixedOrders = true := by kernel_rfl

theorem c_inside (x n : Int) : PCall Tryz.prog L 180 [.int .i64 x, .int .i64 n] (.bool (insB x n)) := by
  refine PCall.intro mixed [] (nt := 12) Tryz.func180 rfl rfl (by simp) ?_
  repeat' ((conv => whnf); first | (refine And.intro (by first | rfl | exact Or.inl ⟨_, rfl⟩ | exact Or.inr rfl | exact le_b rfl | ((repeat' (first | exact Els.nil _ | refine Els.cons rfl rfl ?_)); done) | exact Els.map (fun _ => ⟨rfl, rfl⟩)  | kernel_rfl) ?_)  | (refine BrK.mk (fun hb => ?_) (fun hb => ?_) <;> (try rw [hb])))
  all_goals try (conv => whnf)
  all_goals exact resP.mk rfl (Sees.of_eq (by first | (simp_all [insB]; done) | (simp_all [insB]; omega)))

theorem c_sized (s : Sched) : PCall Tryz.prog L 142 [s.av] (.bool (sizedB s)) := by
  refine PCall.intro mixed [] (nt := 21) Tryz.func142 rfl rfl (by simp) ?_
  repeat' ((conv => whnf); first | (refine And.intro (by first | rfl | exact Or.inl ⟨_, rfl⟩ | exact Or.inr rfl | exact le_b rfl | ((repeat' (first | exact Els.nil _ | refine Els.cons rfl rfl ?_)); done) | exact Els.map (fun _ => ⟨rfl, rfl⟩)  | kernel_rfl) ?_)  | (refine BrK.mk (fun hb => ?_) (fun hb => ?_) <;> (try rw [hb])))
  all_goals try (conv => whnf)
  all_goals exact resP.mk rfl (Sees.of_eq (by first | (simp_all [sizedB]; done) | (simp_all [sizedB]; omega)))

theorem c_placed (s : Sched) (c : Cell) : PCall Tryz.prog L 179 [s.av, c.av] (.bool (placedB s c)) := by
  refine PCall.intro mixed [] (nt := 17) Tryz.func179 rfl rfl (by simp) ?_
  repeat' ((conv => whnf); first | (refine And.intro (by first | rfl | exact Or.inl ⟨_, rfl⟩ | exact Or.inr rfl | exact le_b rfl | ((repeat' (first | exact Els.nil _ | refine Els.cons rfl rfl ?_)); done) | exact Els.map (fun _ => ⟨rfl, rfl⟩)  | kernel_rfl) ?_)  | (refine BrK.mk (fun hb => ?_) (fun hb => ?_) <;> (try rw [hb])))
  all_goals try (conv => whnf)
  first | refine CallK.data rfl (c_inside L _ _) rfl ?_ | refine CallP.data rfl (c_inside L _ _) rfl ?_
  repeat' ((conv => whnf); first | (refine And.intro (by first | rfl | exact Or.inl ⟨_, rfl⟩ | exact Or.inr rfl | exact le_b rfl | ((repeat' (first | exact Els.nil _ | refine Els.cons rfl rfl ?_)); done) | exact Els.map (fun _ => ⟨rfl, rfl⟩)  | kernel_rfl) ?_)  | (refine BrK.mk (fun hb => ?_) (fun hb => ?_) <;> (try rw [hb])))
  all_goals try (conv => whnf)
  · first | refine CallK.data rfl (c_inside L _ _) rfl ?_ | refine CallP.data rfl (c_inside L _ _) rfl ?_
    repeat' ((conv => whnf); first | (refine And.intro (by first | rfl | exact Or.inl ⟨_, rfl⟩ | exact Or.inr rfl | exact le_b rfl | ((repeat' (first | exact Els.nil _ | refine Els.cons rfl rfl ?_)); done) | exact Els.map (fun _ => ⟨rfl, rfl⟩)  | kernel_rfl) ?_)  | (refine BrK.mk (fun hb => ?_) (fun hb => ?_) <;> (try rw [hb])))
    all_goals try (conv => whnf)
    all_goals exact resP.mk rfl (Sees.of_eq (by first | (simp_all [placedB]; done) | (simp_all [placedB]; omega)))
  all_goals exact resP.mk rfl (Sees.of_eq (by first | (simp_all [placedB]; done) | (simp_all [placedB]; omega)))

theorem c_formed (s : Sched) (c : Cell) : PCall Tryz.prog L 143 [s.av, c.av] (.bool (formedB s c)) := by
  refine PCall.intro mixed [] (nt := 23) Tryz.func143 rfl rfl (by simp) ?_
  repeat' ((conv => whnf); first | (refine And.intro (by first | rfl | exact Or.inl ⟨_, rfl⟩ | exact Or.inr rfl | exact le_b rfl | ((repeat' (first | exact Els.nil _ | refine Els.cons rfl rfl ?_)); done) | exact Els.map (fun _ => ⟨rfl, rfl⟩)  | kernel_rfl) ?_)  | (refine BrK.mk (fun hb => ?_) (fun hb => ?_) <;> (try rw [hb])))
  all_goals try (conv => whnf)
  first | refine CallK.data rfl (c_placed L s c) rfl ?_ | refine CallP.data rfl (c_placed L s c) rfl ?_
  repeat' ((conv => whnf); first | (refine And.intro (by first | rfl | exact Or.inl ⟨_, rfl⟩ | exact Or.inr rfl | exact le_b rfl | ((repeat' (first | exact Els.nil _ | refine Els.cons rfl rfl ?_)); done) | exact Els.map (fun _ => ⟨rfl, rfl⟩)  | kernel_rfl) ?_)  | (refine BrK.mk (fun hb => ?_) (fun hb => ?_) <;> (try rw [hb])))
  all_goals try (conv => whnf)
  · first | refine CallK.data rfl (c_inside L _ _) rfl ?_ | refine CallP.data rfl (c_inside L _ _) rfl ?_
    repeat' ((conv => whnf); first | (refine And.intro (by first | rfl | exact Or.inl ⟨_, rfl⟩ | exact Or.inr rfl | exact le_b rfl | ((repeat' (first | exact Els.nil _ | refine Els.cons rfl rfl ?_)); done) | exact Els.map (fun _ => ⟨rfl, rfl⟩)  | kernel_rfl) ?_)  | (refine BrK.mk (fun hb => ?_) (fun hb => ?_) <;> (try rw [hb])))
    all_goals try (conv => whnf)
    · first | refine CallK.data rfl (c_inside L _ _) rfl ?_ | refine CallP.data rfl (c_inside L _ _) rfl ?_
      repeat' ((conv => whnf); first | (refine And.intro (by first | rfl | exact Or.inl ⟨_, rfl⟩ | exact Or.inr rfl | exact le_b rfl | ((repeat' (first | exact Els.nil _ | refine Els.cons rfl rfl ?_)); done) | exact Els.map (fun _ => ⟨rfl, rfl⟩)  | kernel_rfl) ?_)  | (refine BrK.mk (fun hb => ?_) (fun hb => ?_) <;> (try rw [hb])))
      all_goals try (conv => whnf)
      · first | refine CallK.data rfl (c_inside L _ _) rfl ?_ | refine CallP.data rfl (c_inside L _ _) rfl ?_
        repeat' ((conv => whnf); first | (refine And.intro (by first | rfl | exact Or.inl ⟨_, rfl⟩ | exact Or.inr rfl | exact le_b rfl | ((repeat' (first | exact Els.nil _ | refine Els.cons rfl rfl ?_)); done) | exact Els.map (fun _ => ⟨rfl, rfl⟩)  | kernel_rfl) ?_)  | (refine BrK.mk (fun hb => ?_) (fun hb => ?_) <;> (try rw [hb])))
        all_goals try (conv => whnf)
        all_goals exact resP.mk rfl (Sees.of_eq (by first | (simp_all [formedB]; done) | (simp_all [formedB]; omega)))
      all_goals exact resP.mk rfl (Sees.of_eq (by first | (simp_all [formedB]; done) | (simp_all [formedB]; omega)))
    all_goals exact resP.mk rfl (Sees.of_eq (by first | (simp_all [formedB]; done) | (simp_all [formedB]; omega)))
  all_goals exact resP.mk rfl (Sees.of_eq (by first | (simp_all [formedB]; done) | (simp_all [formedB]; omega)))

theorem c_in35 (n lo hi : Int) : PCall Tryz.prog L 110 [.int .i64 n, .int .i64 lo, .int .i64 hi] (.bool (inB n lo hi)) := by
  refine PCall.intro mixed [] (nt := 15) Tryz.func110 rfl rfl (by simp) ?_
  repeat' ((conv => whnf); first | (refine And.intro (by first | rfl | exact Or.inl ⟨_, rfl⟩ | exact Or.inr rfl | exact le_b rfl | ((repeat' (first | exact Els.nil _ | refine Els.cons rfl rfl ?_)); done) | exact Els.map (fun _ => ⟨rfl, rfl⟩)  | kernel_rfl) ?_)  | (refine BrK.mk (fun hb => ?_) (fun hb => ?_) <;> (try rw [hb])))
  all_goals try (conv => whnf)
  all_goals exact resP.mk rfl (Sees.of_eq (by first | (simp_all [inB]; done) | (simp_all [inB]; omega)))

theorem c_numbers (c : Cell) : PCall Tryz.prog L 103 [c.av] (.agg (c.nums.map encI)) := by
  refine PCall.intro mixed [] (nt := 14) Tryz.func103 rfl rfl (by simp) ?_
  repeat' ((conv => whnf); first | (refine And.intro (by first | rfl | exact Or.inl ⟨_, rfl⟩ | exact Or.inr rfl | exact le_b rfl | ((repeat' (first | exact Els.nil _ | refine Els.cons rfl rfl ?_)); done) | exact Els.map (fun _ => ⟨rfl, rfl⟩)  | kernel_rfl) ?_)  | (refine BrK.mk (fun hb => ?_) (fun hb => ?_) <;> (try rw [hb])))
  all_goals try (conv => whnf)
  all_goals exact resP.mk rfl (Sees.of_eq rfl)

theorem c_numbers35 (c : Cell) : PCall Tryz.prog L 155 [c.av] (encIs c.nums) := by
  refine PCall.intro mixed [] (nt := 14) Tryz.func155 rfl rfl (by simp) ?_
  repeat' ((conv => whnf); first | (refine And.intro (by first | rfl | exact Or.inl ⟨_, rfl⟩ | exact Or.inr rfl | exact le_b rfl | ((repeat' (first | exact Els.nil _ | refine Els.cons rfl rfl ?_)); done) | exact Els.map (fun _ => ⟨rfl, rfl⟩)  | kernel_rfl) ?_)  | (refine BrK.mk (fun hb => ?_) (fun hb => ?_) <;> (try rw [hb])))
  all_goals try (conv => whnf)
  all_goals exact resP.mk rfl (Sees.of_eq rfl)
end HM
