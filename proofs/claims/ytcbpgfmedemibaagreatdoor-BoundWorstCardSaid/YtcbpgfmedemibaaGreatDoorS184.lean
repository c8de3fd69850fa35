/- The law on the worst script. -/
import Derived.Test.YtcbpgfmedemibaaGreatDoorS43
import Derived.Test.YtcbpgfmedemibaaGreatDoorS62
import Derived.Test.YtcbpgfmedemibaaGreatDoorS176
import Derived.Test.YtcbpgfmedemibaaGreatDoorS177
import Derived.Test.YtcbpgfmedemibaaGreatDoorS179
import Derived.Test.YtcbpgfmedemibaaGreatDoorDc

set_option maxRecDepth 100000
namespace HM
open Go Go.RowKit Go.Proofs
set_option maxHeartbeats 8000000 in
theorem c_BoundWorst (n : Net) (s : Sched) (f : Flow) (l : List (List Int)) (r : List Int) (frame : Int) (hn : n.small) (hc : s.cells.length ≤ 281474976710656) (hl : l.length ≤ 281474976710656) (hrs : ∀ r ∈ l, r.length ≤ 281474976710656) (hr : r.length ≤ 281474976710656) (hfr : -9223372036854775808 ≤ frame ∧ frame ≤ 9223372036854775807) :
    PCall Tryz.prog LW 3 [n.av, s.av, f.av, encRows l, encIs r, .int .i64 frame] (.bool true) := by
  have hnl := hn.2.2.1
  refine PCall.intro mixed [] (nt := 85) Tryz.func3 rfl rfl (by simp) ?_
  refine Wk ?_
  first | refine CallK.data rfl (c_awake37) rfl ?_ | refine CallP.data rfl (c_awake37) rfl ?_
  refine Wk ?_
  first | refine CallK.data rfl (c_Few37 LW n s l hn hl) rfl ?_ | refine CallP.data rfl (c_Few37 LW n s l hn hl) rfl ?_
  cases g1 : few37 n s l with
  | false =>
    refine Wk ?_
    exact resP.mk rfl (Sees.bool rfl)
  | true =>
  by_cases h12 : 12 < r.length
  · have g2 : decide ((12 : Int) < ((r.map encI).length : Int)) = true := decide_eq_true (by simp; omega)
    repeat ((conv => whnf); first | refine sJ ?_ | refine And.intro (by first | exact trivial | kernel_rfl) ?_ | rw [g2])
    try (conv => whnf)
    exact resP.mk rfl (Sees.bool rfl)
  have g2 : decide ((12 : Int) < ((r.map encI).length : Int)) = false := decide_eq_false (by simp; omega)
  repeat ((conv => whnf); first | refine sJ ?_ | refine And.intro (by first | exact trivial | kernel_rfl) ?_ | rw [g2])
  try (conv => whnf)
  first | refine CallK.data rfl (c_Worst n s f r frame hn hc hr hfr) rfl ?_ | refine CallP.data rfl (c_Worst n s f r frame hn hc hr hfr) rfl ?_
  refine Wk ?_
  first | refine CallK.data rfl (c_Worst37 LW n s f r frame hn hc hr hnl) rfl ?_ | refine CallP.data rfl (c_Worst37 LW n s f r frame hn hc hr hnl) rfl ?_
  refine Wk ?_
  first | refine CallK.data rfl (c_Needed n s f l hn hc hrs hl) rfl ?_ | refine CallP.data rfl (c_Needed n s f l hn hc hrs hl) rfl ?_
  refine Wk ?_
  first | refine CallK.data rfl (c_Needed37 LW n s f l hn hc hrs hl hnl) rfl ?_ | refine CallP.data rfl (c_Needed37 LW n s f l hn hc hrs hl hnl) rfl ?_
  obtain ⟨q1, q2⟩ := wrst_small n s f r frame
  have q3 := needM_len n s f l
  generalize wrstM n s f r frame = A at q1 q2 ⊢
  generalize needM n s f l = B at q3 ⊢
  obtain ⟨a, e⟩ := A
  obtain ⟨c, h⟩ := B
  simp only at q1 q2 q3
  refine Wk ?_
  first | refine CallK.data rfl (c_SameScripts LW a (by omega) (fun x hx => by have := q2 x hx; omega)) rfl ?_ | refine CallP.data rfl (c_SameScripts LW a (by omega) (fun x hx => by have := q2 x hx; omega)) rfl ?_
  refine Wk ?_
  rw [beq_self_eq_true]
  refine Wk ?_
  first | refine CallK.data rfl (c_SameCells35 LW c (by omega)) rfl ?_ | refine CallP.data rfl (c_SameCells35 LW c (by omega)) rfl ?_
  refine Wk ?_
  rw [beq_self_eq_true]
  refine Wk ?_
  exact resP.mk rfl (Sees.bool rfl)
end HM
