/- Schedules: their forms. -/
import Derived.Test.YtdjglaoahmaljaaGreatDoorProg
import Derived.Test.YtdjglaoahmaljaaGreatDoorDa
import Derived.KernelRfl

set_option maxRecDepth 100000
namespace HM
open Go Go.RowKit Go.Proofs
variable (L : World → Prop)

theorem mixed : Tryz.prog.follows .mixedOrders = true := by kernel_rfl

theorem c_inside (x n : Int) : PCall Tryz.prog L 155 [.int .i64 x, .int .i64 n] (.bool (insB x n)) := by
  refine PCall.intro mixed [] (nt := 12) Tryz.func155 rfl rfl (by simp) ?_
  repeat' ((conv => whnf); first | refine sJ ?_ | refine And.intro (by first  | kernel_rfl) ?_  | (refine BrK.mk (fun hb => ?_) (fun hb => ?_) <;> (try rw [hb])))
  all_goals try (conv => whnf)
  all_goals exact resP.mk rfl (Sees.of_eq (by first | (simp_all [insB]; done) | (simp_all [insB]; omega)))

theorem c_sized (s : Sched) : PCall Tryz.prog L 93 [s.av] (.bool (sizedB s)) := by
  refine PCall.intro mixed [] (nt := 21) Tryz.func93 rfl rfl (by simp) ?_
  repeat' ((conv => whnf); first | refine sJ ?_ | refine And.intro (by first  | kernel_rfl) ?_  | (refine BrK.mk (fun hb => ?_) (fun hb => ?_) <;> (try rw [hb])))
  all_goals try (conv => whnf)
  all_goals exact resP.mk rfl (Sees.of_eq (by first | (simp_all [sizedB]; done) | (simp_all [sizedB]; omega)))

theorem c_placed (s : Sched) (c : Cell) : PCall Tryz.prog L 127 [s.av, c.av] (.bool (placedB s c)) := by
  refine PCall.intro mixed [] (nt := 17) Tryz.func127 rfl rfl (by simp) ?_
  repeat' ((conv => whnf); first | refine sJ ?_ | refine And.intro (by first  | kernel_rfl) ?_  | (refine BrK.mk (fun hb => ?_) (fun hb => ?_) <;> (try rw [hb])))
  all_goals try (conv => whnf)
  first | refine CallK.data rfl (c_inside L _ _) rfl ?_ | refine CallP.data rfl (c_inside L _ _) rfl ?_
  repeat' ((conv => whnf); first | refine sJ ?_ | refine And.intro (by first  | kernel_rfl) ?_  | (refine BrK.mk (fun hb => ?_) (fun hb => ?_) <;> (try rw [hb])))
  all_goals try (conv => whnf)
  · first | refine CallK.data rfl (c_inside L _ _) rfl ?_ | refine CallP.data rfl (c_inside L _ _) rfl ?_
    repeat' ((conv => whnf); first | refine sJ ?_ | refine And.intro (by first  | kernel_rfl) ?_  | (refine BrK.mk (fun hb => ?_) (fun hb => ?_) <;> (try rw [hb])))
    all_goals try (conv => whnf)
    all_goals exact resP.mk rfl (Sees.of_eq (by first | (simp_all [placedB]; done) | (simp_all [placedB]; omega)))
  all_goals exact resP.mk rfl (Sees.of_eq (by first | (simp_all [placedB]; done) | (simp_all [placedB]; omega)))

theorem c_formed (s : Sched) (c : Cell) : PCall Tryz.prog L 204 [s.av, c.av] (.bool (formedB s c)) := by
  refine PCall.intro mixed [] (nt := 23) Tryz.func204 rfl rfl (by simp) ?_
  repeat' ((conv => whnf); first | refine sJ ?_ | refine And.intro (by first  | kernel_rfl) ?_  | (refine BrK.mk (fun hb => ?_) (fun hb => ?_) <;> (try rw [hb])))
  all_goals try (conv => whnf)
  first | refine CallK.data rfl (c_placed L s c) rfl ?_ | refine CallP.data rfl (c_placed L s c) rfl ?_
  repeat' ((conv => whnf); first | refine sJ ?_ | refine And.intro (by first  | kernel_rfl) ?_  | (refine BrK.mk (fun hb => ?_) (fun hb => ?_) <;> (try rw [hb])))
  all_goals try (conv => whnf)
  · first | refine CallK.data rfl (c_inside L _ _) rfl ?_ | refine CallP.data rfl (c_inside L _ _) rfl ?_
    repeat' ((conv => whnf); first | refine sJ ?_ | refine And.intro (by first  | kernel_rfl) ?_  | (refine BrK.mk (fun hb => ?_) (fun hb => ?_) <;> (try rw [hb])))
    all_goals try (conv => whnf)
    · first | refine CallK.data rfl (c_inside L _ _) rfl ?_ | refine CallP.data rfl (c_inside L _ _) rfl ?_
      repeat' ((conv => whnf); first | refine sJ ?_ | refine And.intro (by first  | kernel_rfl) ?_  | (refine BrK.mk (fun hb => ?_) (fun hb => ?_) <;> (try rw [hb])))
      all_goals try (conv => whnf)
      · first | refine CallK.data rfl (c_inside L _ _) rfl ?_ | refine CallP.data rfl (c_inside L _ _) rfl ?_
        repeat' ((conv => whnf); first | refine sJ ?_ | refine And.intro (by first  | kernel_rfl) ?_  | (refine BrK.mk (fun hb => ?_) (fun hb => ?_) <;> (try rw [hb])))
        all_goals try (conv => whnf)
        all_goals exact resP.mk rfl (Sees.of_eq (by first | (simp_all [formedB]; done) | (simp_all [formedB]; omega)))
      all_goals exact resP.mk rfl (Sees.of_eq (by first | (simp_all [formedB]; done) | (simp_all [formedB]; omega)))
    all_goals exact resP.mk rfl (Sees.of_eq (by first | (simp_all [formedB]; done) | (simp_all [formedB]; omega)))
  all_goals exact resP.mk rfl (Sees.of_eq (by first | (simp_all [formedB]; done) | (simp_all [formedB]; omega)))



theorem c_numbers (c : Cell) : PCall Tryz.prog L 159 [c.av] (.agg (c.nums.map encI)) := by
  refine PCall.intro mixed [] (nt := 14) Tryz.func159 rfl rfl (by simp) ?_
  repeat' ((conv => whnf); first | refine sJ ?_ | refine And.intro (by first  | kernel_rfl) ?_  | (refine BrK.mk (fun hb => ?_) (fun hb => ?_) <;> (try rw [hb])))
  all_goals try (conv => whnf)
  all_goals exact resP.mk rfl (Sees.of_eq rfl)

