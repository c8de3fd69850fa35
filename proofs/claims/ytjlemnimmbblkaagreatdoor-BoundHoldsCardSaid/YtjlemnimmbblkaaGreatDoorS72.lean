/- What a run is made of; deliveries. -/
import Derived.Test.YtjlemnimmbblkaaGreatDoorS6
import Derived.Test.YtjlemnimmbblkaaGreatDoorS68
import Derived.Test.YtjlemnimmbblkaaGreatDoorS71

set_option maxRecDepth 100000
namespace HM
open Go Go.RowKit Go.Proofs
theorem c_ready (l : List Flow) (s : Sched) (x : List Rule) (slots : Int) (hl : l.length ≤ 281474976710656) (hx : ∀ r ∈ x, r.outs.length ≤ 281474976710656) (hxl : x.length ≤ 281474976710656) :
    PCall Tryz.prog LW 20 [encFlows l, s.av, encScript x, .int .i64 slots] (.int .i64 (readyM l s x slots)) := by
  refine PCall.intro mixed [] (nt := 42) Tryz.func20 rfl rfl (by simp) ?_
  refine Wk ?_
  first | refine CallK.data rfl (c_FCheck LW 32 l hl) rfl ?_ | refine CallP.data rfl (c_FCheck LW 32 l hl) rfl ?_
  refine Wk ?_
  refine BrK.mk (fun h1 => ?_) (fun h1 => ?_) <;> (try rw [h1])
  · refine Wk ?_
    exact resP.mk rfl (Sees.int (by rw [readyM, if_pos (.inl (by simpa using h1))]))
  have h1' : (flowsE 32 l).2 = 0 := by simpa using h1
  refine Wk ?_
  first | refine CallK.data rfl (c_Print s) rfl ?_ | refine CallP.data rfl (c_Print s) rfl ?_
  refine Wk ?_
  cases hf : formB s with
  | false =>
    refine Wk ?_
    exact resP.mk rfl (Sees.int (by rw [readyM, if_pos (.inr (.inl hf))]))
  | true =>
    refine Wk ?_
    first | refine CallK.data rfl (c_XCheck LW x hx hxl) rfl ?_ | refine CallP.data rfl (c_XCheck LW x hx hxl) rfl ?_
    refine Wk ?_
    refine BrK.mk (fun h2 => ?_) (fun h2 => ?_) <;> (try rw [h2])
    · refine Wk ?_
      exact resP.mk rfl (Sees.int (by rw [readyM, if_pos (.inr (.inr (by simpa using h2)))]))
    have h2' : (scriptM x).2 = 0 := by simpa using h2
    have hno : ¬ ((flowsE 32 l).2 ≠ 0 ∨ formB s = false ∨ (scriptM x).2 ≠ 0) := by simp [h1', hf, h2']
    refine Wk ?_
    refine BrK.mk (fun h3 => ?_) (fun h3 => ?_) <;> (try rw [h3])
    · refine Wk ?_
      exact resP.mk rfl (Sees.int (by rw [readyM, if_neg hno, if_pos (.inl (by simpa using h3))]))
    refine Wk ?_
    refine BrK.mk (fun h4 => ?_) (fun h4 => ?_) <;> (try rw [h4])
    · refine Wk ?_
      exact resP.mk rfl (Sees.int (by rw [readyM, if_neg hno, if_pos (.inr (by simpa using h4))]))
    · refine Wk ?_
      exact resP.mk rfl (Sees.int (by rw [readyM, if_neg hno, if_neg (by simp at h3 h4; omega)]))
section
variable (L : World → Prop)
theorem c_Delivered (r : RunL) (flow frame : Int) (hr : r.dels.length ≤ 281474976710656) : PCall Tryz.prog L 13 [r.av, .int .i64 flow, .int .i64 frame] (.tup [.int .i64 (delivM r flow frame).1, .bool (delivM r flow frame).2]) := by
  refine PCall.intro mixed [] (nt := 30) Tryz.func13 rfl rfl (by simp) ?_
  refine Wk ?_
  refine LoopK.run mixed [] (fun (k : Nat) => k ≤ r.dels.length ∧ ∀ j y, j < k → r.dels[j]? = some y → (y.flow == flow && y.frame == frame) = false) (fun k => [(1, .int .i64 flow), (2, .int .i64 frame), (11, encDels r.dels), (12, .int .i64 r.dels.length), (13, .int .i64 k)]) (fun k => St.none) (fun k => r.dels.length - k) 0 ⟨by simp, by simp⟩ ?_ ?_
  · refine Fits.mk' rfl rfl rfl rfl ?_ ?_ ?_ ?_ ?_ <;> repeat' (first | exact trivial | refine And.intro ?_ ?_ | exact Sees.of_eq rfl | exact lt_b rfl | rfl | exact Sees.int (by simp))
  rintro k ⟨hk, hinv⟩
  refine Wk ?_
  refine BrK.mk (fun hb => ?_) (fun hb => ?_) <;> (try rw [hb])
  · have hlt : k < r.dels.length := by simpa using hb
    obtain ⟨d, hgd⟩ := getLt hlt
    have hmd := getMap (f := Del.av) hgd
    have hnext : (d.flow == flow && d.frame == frame) = false → ∀ j y, j < k + 1 → r.dels[j]? = some y → (y.flow == flow && y.frame == frame) = false := fun h0 j y hj hy => by
      rcases Nat.lt_succ_iff_lt_or_eq.1 hj with h | rfl
      · exact hinv j y h hy
      · rw [hgd] at hy; injection hy with hy; subst hy; exact h0
    repeat ((conv => whnf); first | refine sJ ?_ | refine And.intro (by first | exact inbMap hlt | kernel_rfl) ?_ | rw [hmd])
    try (conv => whnf)
    refine BrK.mk (fun h1 => ?_) (fun h1 => ?_) <;> (try rw [h1])
    · refine Wk ?_
      refine BrK.mk (fun h2 => ?_) (fun h2 => ?_) <;> (try rw [h2])
      · have hd := find_hit (p := fun d : Del => d.flow == flow && d.frame == frame) hinv hgd (by simp only [h1, h2, Bool.and_self])
        refine Wk ?_
        exact resP.mk rfl (Sees.of_eq (by rw [delivM, hd]))
      · refine Wk ?_
        refine ⟨k + 1, ⟨by omega, hnext (by simp only [h1, h2, Bool.and_false])⟩, by omega, ?_⟩
        refine Fits.mk' rfl rfl rfl rfl ?_ ?_ ?_ ?_ ?_ <;> repeat' (first | exact trivial | refine And.intro ?_ ?_ | exact Sees.of_eq rfl | exact lt_b rfl | rfl | exact Sees.int (succI hlt hr))
    · refine Wk ?_
      refine ⟨k + 1, ⟨by omega, hnext (by simp only [h1, Bool.false_and])⟩, by omega, ?_⟩
      refine Fits.mk' rfl rfl rfl rfl ?_ ?_ ?_ ?_ ?_ <;> repeat' (first | exact trivial | refine And.intro ?_ ?_ | exact Sees.of_eq rfl | exact lt_b rfl | rfl | exact Sees.int (succI hlt hr))
  · have hk' : r.dels.length ≤ k := by simpa using hb
    have hd := find_miss (p := fun d : Del => d.flow == flow && d.frame == frame) fun j y hy => hinv j y (by have := (List.getElem?_eq_some_iff.1 hy).1; omega) hy
    refine Wk ?_
    exact resP.mk rfl (Sees.of_eq (by rw [delivM, hd]))
end
end HM
