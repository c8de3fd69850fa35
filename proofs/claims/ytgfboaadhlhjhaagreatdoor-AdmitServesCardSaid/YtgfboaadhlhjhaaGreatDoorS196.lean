/- Is this cell one of these. -/
import Derived.Test.YtgfboaadhlhjhaaGreatDoorS34
set_option maxRecDepth 100000
namespace HM
open Go Go.RowKit Go.Proofs
section
variable (L : World → Prop)
set_option maxHeartbeats 2000000 in
theorem c_IndexCl (l : List Cell) (x : Cell) (hl : l.length ≤ 281474976710656) : PCall Tryz.prog L 84 [.sl false (l.map Cell.av), Cell.av x] (.int .i64 (idxF (fun y => decide (x = y)) l)) := by
  refine PCall.intro mixed [] (nt := 19) Tryz.func84 rfl rfl (by simp) ?_
  refine Wk ?_
  refine LoopK.run mixed [] (fun (k : Nat) => k ≤ l.length ∧ ∀ j y, j < k → l[j]? = some y → decide (x = y) = false) (fun k => [(0, .sl false (l.map Cell.av)), (3, .ptr 0 0), (7, .int .i64 l.length), (8, .int .i64 k)]) (fun k => ⟨[.cells [.int .i64 x.slot, .int .i64 x.off, .int .i64 x.src, .int .i64 x.dst, .int .i64 x.flow] 61], [], 0, 0, fun _ => 0⟩) (fun k => l.length - k) 0 ⟨by simp, by simp⟩ ?_ ?_
  · refine Fits.mk' rfl rfl rfl rfl ?_ ?_ ?_ ?_ ?_ <;> repeat' (first | exact trivial | refine And.intro ?_ ?_ | exact Sees.of_eq rfl | exact lt_b rfl | rfl | exact Sees.int (by simp) | exact SeesL.rfl' _)
  rintro k ⟨hk, hinv⟩
  refine Wk ?_
  refine BrK.mk (fun hb => ?_) (fun hb => ?_) <;> (try rw [hb])
  · have hlt : k < l.length := by simpa using hb
    obtain ⟨y, hgx⟩ := getLt hlt
    have hmx := getMap (f := Cell.av) hgx
    repeat ((conv => whnf); first | refine sJ ?_ | refine And.intro (by first | exact inbMap hlt | kernel_rfl) ?_ | rw [hmx])
    try (conv => whnf)
    have hdec : (x.slot == y.slot && (x.off == y.off && (x.src == y.src && (x.dst == y.dst && (x.flow == y.flow && true))))) = decide (x = y) := by
      rw [Bool.eq_iff_iff]
      simp only [Bool.and_eq_true, beq_iff_eq, and_true, decide_eq_true_eq]
      constructor
      · rintro ⟨h1, h2, h3, h4, h5⟩
        cases x; cases y
        simp only at h1 h2 h3 h4 h5
        subst h1; subst h2; subst h3; subst h4; subst h5; rfl
      · rintro rfl; exact ⟨rfl, rfl, rfl, rfl, rfl⟩
    refine BrK.mk (fun h2 => ?_) (fun h2 => ?_) <;> (try rw [h2])
    · have h2' : decide (x = y) = true := by rw [← hdec]; exact h2
      refine Wk ?_
      exact resP.mk rfl (Sees.int (idxF_some hlt hinv hgx h2').symm)
    · have h2' : decide (x = y) = false := by rw [← hdec]; exact h2
      refine Wk ?_
      refine ⟨k + 1, ⟨by omega, fun j z hj hz => ?_⟩, by omega, ?_⟩
      · rcases Nat.lt_succ_iff_lt_or_eq.1 hj with h | rfl
        · exact hinv j z h hz
        · rw [hgx] at hz; injection hz with hz; subst hz; exact h2'
      · refine Fits.mk' rfl rfl rfl rfl ?_ ?_ ?_ ?_ ?_ <;> repeat' (first | exact trivial | refine And.intro ?_ ?_ | exact Sees.of_eq rfl | exact lt_b rfl | rfl | exact Sees.int (succI hlt hl) | exact SeesL.rfl' _)
  · have hk' : k = l.length := by simp at hb; omega
    subst hk'
    refine Wk ?_
    exact resP.mk rfl (Sees.int (idxF_none hinv).symm)
theorem c_ContainsCl (l : List Cell) (x : Cell) (hl : l.length ≤ 281474976710656) : PCall Tryz.prog L 35 [.sl false (l.map Cell.av), Cell.av x] (.bool (decide (x ∈ l))) := by
  refine PCall.intro mixed [] (nt := 9) Tryz.func35 rfl rfl (by simp) ?_
  refine Wk ?_
  first | refine CallK.data rfl (c_IndexCl L l x hl) rfl ?_ | refine CallP.data rfl (c_IndexCl L l x hl) rfl ?_
  refine Wk ?_
  exact resP.mk rfl (Sees.bool (by rw [idxF_any, List.any_eq, ← decide_eq_decide.2 (show (∃ y, y ∈ l ∧ decide (x = y) = true) ↔ x ∈ l by simp)]))
end
end HM
