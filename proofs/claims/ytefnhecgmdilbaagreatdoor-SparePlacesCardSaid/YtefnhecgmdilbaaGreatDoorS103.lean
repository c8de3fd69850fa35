/- Schedules that are changed: the reference. -/
import Derived.Test.YtefnhecgmdilbaaGreatDoorS1
import Derived.Test.YtefnhecgmdilbaaGreatDoorDb

set_option maxRecDepth 100000
namespace HM
open Go Go.RowKit Go.Proofs
section
variable (L : World → Prop)

theorem c_Has35 (s : Sched) (c : Cell) (hl : s.cells.length ≤ 281474976710656) : PCall Tryz.prog L 21 [s.av, c.av] (.bool (decide (c ∈ s.cells))) := by
  refine PCall.intro mixed [] (nt := 20) Tryz.func21 rfl rfl (by simp) ?_
  refine Wk ?_
  refine LoopK.run mixed [] (fun (k : Nat) => k ≤ s.cells.length ∧ ∀ (j : Nat) y, j < k → s.cells[j]? = some y → y ≠ c) (fun k => [(2, .ptr 0 0), (3, .ptr 1 0), (5, .int .i64 k)]) (fun k => ⟨[.cells s.av.cells 30, .cells c.av.cells 32], [], 0, 0, fun _ => 0⟩) (fun k => s.cells.length - k) 0 ⟨by simp, by simp⟩ ?_ ?_
  · refine Fits.mk' rfl rfl rfl rfl ?_ ?_ ?_ ?_ ?_ <;> repeat' (first | exact trivial | refine And.intro ?_ ?_ | exact Sees.of_eq rfl | exact lt_b rfl | rfl | exact SeesL.rfl' _)
  rintro k ⟨hk, hinv⟩
  refine Wk ?_
  refine BrK.mk (fun hb => ?_) (fun hb => ?_) <;> (try rw [hb])
  · have hkt : k < s.cells.length := by simpa using hb
    obtain ⟨y, hgy⟩ := getLt hkt
    have hmy := getMap (f := Cell.av) hgy
    repeat ((conv => whnf); first | refine sJ ?_ | refine And.intro (by first | exact inbMap hkt | kernel_rfl) ?_ | rw [hmy])
    try (conv => whnf)
    refine BrK.mk (fun h2 => ?_) (fun h2 => ?_) <;> (try rw [h2])
    · have h2' : cellEqB y c = true := h2
      have hyc := cellEqB_iff.1 h2'
      subst hyc
      refine Wk ?_
      exact resP.mk rfl (Sees.bool (decide_eq_true (List.mem_of_getElem? hgy)).symm)
    · have h2' : cellEqB y c = false := h2
      have hyc : y ≠ c := fun h => by rw [cellEqB_iff.2 h] at h2'; cases h2'
      refine Wk ?_
      refine ⟨k + 1, ⟨by omega, fun j z hj hz => ?_⟩, by omega, ?_⟩
      · rcases Nat.lt_succ_iff_lt_or_eq.1 hj with h | rfl
        · exact hinv j z h hz
        · rw [hgy] at hz; injection hz with hz; rw [← hz]; exact hyc
      · refine Fits.mk' rfl rfl rfl rfl ?_ ?_ ?_ ?_ ?_ <;> repeat' (first | exact trivial | refine And.intro ?_ ?_ | exact Sees.of_eq rfl | exact lt_b rfl | rfl | exact SeesL.rfl' _ | exact Sees.int (succI hkt hl))
  · have hkn : k = s.cells.length := by simp at hb; omega
    subst hkn
    have hno : decide (c ∈ s.cells) = false := decide_eq_false fun h => by
      obtain ⟨j, hj⟩ := List.getElem?_of_mem h
      exact hinv j c (List.getElem?_eq_some_iff.1 hj).1 hj rfl
    refine Wk ?_
    exact resP.mk rfl (Sees.bool hno.symm)

def wiB (s : Sched) (c : Cell) (o : AV) : List Ob := [.cells s.av.cells 30, .cells c.av.cells 32, .cells [.int .i64 0, .int .i64 0, .nils] 30, .cells [.int .i64 s.len, .int .i64 s.offs, o] 30]
set_option maxHeartbeats 4000000 in
theorem c_With35 (s : Sched) (c : Cell) (hl : s.cells.length ≤ 512) : PCall Tryz.prog L 23 [s.av, c.av] (Sched.av ⟨s.len, s.offs, withL c s.cells⟩) := by
  refine PCall.intro mixed [] (nt := 56) Tryz.func23 rfl rfl (by simp) ?_
  refine Wk ?_
  refine LoopK.bornC 3 2 5 32 rfl rfl ?_
  refine LoopK.run mixed [] (fun (k : Nat) => k ≤ s.cells.length) (fun k => [(2, .ptr 0 0), (3, .ptr 1 0), (4, .ptr 2 0), (5, .ptr 3 0), (6, .bool (putB c (s.cells.take k))), (7, .int .i64 k)]) (fun k => ⟨wiB s c (.own ((withK c (s.cells.take k)).map Cell.av) 0), [((withK c (s.cells.take k)).length, 5)], 0, 0, fun z => if z = 0 then 32 else 0⟩) (fun k => s.cells.length - k) 0 (by simp) ?_ ?_
  · refine Fits.mk' rfl rfl rfl rfl ?_ ?_ ?_ ?_ ?_ <;> repeat' (first | exact trivial | refine And.intro ?_ ?_ | exact Sees.of_eq rfl | exact lt_b rfl | rfl | exact SeesL.rfl' _)
  rintro k hk
  refine Wk ?_
  refine BrK.mk (fun hb => ?_) (fun hb => ?_) <;> (try rw [hb])
  · have hkt : k < s.cells.length := by simpa using hb
    obtain ⟨y, hgy⟩ := getLt hkt
    have hmy := getMap (f := Cell.av) hgy
    have hwl := withK_len c (s.cells.take k)
    rw [List.length_take, Nat.min_eq_left hk] at hwl
    have hts := take_succ hgy
    obtain ⟨W, hW⟩ : ∃ W, W = withK c (s.cells.take k) := ⟨_, rfl⟩
    obtain ⟨pb, hpb⟩ : ∃ pb, pb = putB c (s.cells.take k) := ⟨_, rfl⟩
    rw [← hW] at hwl
    rw [← hW, ← hpb]
    refine Wk ?_
    refine BrK.mk (fun g1 => ?_) (fun g1 => ?_) <;> (try rw [g1])
    · have g1' : putB c (s.cells.take k) = false := by rw [← hpb]; simpa using g1
      repeat ((conv => whnf); first | refine sJ ?_ | refine And.intro (by first | exact Els.map (f := Cell.av) (fun _ => ⟨rfl, rfl⟩) | exact (show _ * 40 ≤ _ by simp only [List.length_append, List.length_map, List.length_cons, List.length_nil]; omega) | exact (by simp only [List.length_append, List.length_map, List.length_cons, List.length_nil, maxLen]; omega) | exact (by rw [List.length_map]; rfl) | exact inbMap hkt | kernel_rfl) ?_ | rw [hmy])
      try (conv => whnf)
      first | refine CallK.data rfl (c_Less L c y) rfl ?_ | refine CallP.data rfl (c_Less L c y) rfl ?_
      refine Wk ?_
      refine BrK.mk (fun g2 => ?_) (fun g2 => ?_) <;> (try rw [g2])
      · have hEl : Els (4 + 1) (W.map Cell.av ++ [c.av]) := by
          rw [show W.map Cell.av ++ [c.av] = (W ++ [c]).map Cell.av from by simp]
          exact Els.map (f := Cell.av) (fun _ => ⟨rfl, rfl⟩)
        have e1 : withK c (s.cells.take (k + 1)) = W ++ [c] ++ [y] := by rw [hts, withK_now g1' (by simpa using g2), ← hW]
        have e2 : putB c (s.cells.take (k + 1)) = true := by rw [hts, putB_snoc, g1']; simpa using g2
        repeat ((conv => whnf); first | refine sJ ?_ | refine And.intro (by first | exact hEl | exact Els.map (f := Cell.av) (fun _ => ⟨rfl, rfl⟩) | exact (show _ * 40 ≤ _ by simp only [List.length_append, List.length_map, List.length_cons, List.length_nil]; omega) | exact (by simp only [List.length_append, List.length_map, List.length_cons, List.length_nil, maxLen]; omega) | exact (by rw [List.length_map]; rfl) | exact inbMap hkt | kernel_rfl) ?_ | rw [hmy])
        try (conv => whnf)
        refine ⟨k + 1, by omega, by omega, ?_⟩
        rw [e1, e2]
        refine Fits.mk' rfl rfl rfl rfl ?_ ?_ ?_ ?_ ?_ <;> repeat' (first | exact trivial | refine And.intro ?_ ?_ | exact Sees.of_eq rfl | exact lt_b rfl | rfl | exact SeesL.rfl' _ | exact Sees.int (succI hkt (by omega)) | exact Sees.own (by simp; rfl) | exact Sees.own (by rw [List.map_append, List.map_append]; rfl) | (show (_, _) = (_, _); simp only [List.length_append, List.length_map, List.length_cons, List.length_nil]))
      · have e1 : withK c (s.cells.take (k + 1)) = W ++ [y] := by rw [hts, withK_not g1' (by simpa using g2), ← hW]
        have e2 : putB c (s.cells.take (k + 1)) = pb := by rw [hts, putB_snoc, hpb, g1']; simpa using g2
        repeat ((conv => whnf); first | refine sJ ?_ | refine And.intro (by first | exact Els.map (f := Cell.av) (fun _ => ⟨rfl, rfl⟩) | exact (show _ * 40 ≤ _ by simp only [List.length_append, List.length_map, List.length_cons, List.length_nil]; omega) | exact (by simp only [List.length_append, List.length_map, List.length_cons, List.length_nil, maxLen]; omega) | exact (by rw [List.length_map]; rfl) | exact inbMap hkt | kernel_rfl) ?_ | rw [hmy])
        try (conv => whnf)
        refine ⟨k + 1, by omega, by omega, ?_⟩
        rw [e1, e2]
        refine Fits.mk' rfl rfl rfl rfl ?_ ?_ ?_ ?_ ?_ <;> repeat' (first | exact trivial | refine And.intro ?_ ?_ | exact Sees.of_eq rfl | exact lt_b rfl | rfl | exact SeesL.rfl' _ | exact Sees.int (succI hkt (by omega)) | exact Sees.own (by simp; rfl) | exact Sees.own (by rw [List.map_append, List.map_append]; rfl) | (show (_, _) = (_, _); simp only [List.length_append, List.length_map, List.length_cons, List.length_nil]))
    · have g1' : putB c (s.cells.take k) = true := by rw [← hpb]; simpa using g1
      have e1 : withK c (s.cells.take (k + 1)) = W ++ [y] := by rw [hts, withK_put g1', ← hW]
      have e2 : putB c (s.cells.take (k + 1)) = pb := by rw [hts, putB_snoc, hpb, g1']; rfl
      repeat ((conv => whnf); first | refine sJ ?_ | refine And.intro (by first | exact Els.map (f := Cell.av) (fun _ => ⟨rfl, rfl⟩) | exact (show _ * 40 ≤ _ by simp only [List.length_append, List.length_map, List.length_cons, List.length_nil]; omega) | exact (by simp only [List.length_append, List.length_map, List.length_cons, List.length_nil, maxLen]; omega) | exact (by rw [List.length_map]; rfl) | exact inbMap hkt | kernel_rfl) ?_ | rw [hmy])
      try (conv => whnf)
      refine ⟨k + 1, by omega, by omega, ?_⟩
      rw [e1, e2]
      refine Fits.mk' rfl rfl rfl rfl ?_ ?_ ?_ ?_ ?_ <;> repeat' (first | exact trivial | refine And.intro ?_ ?_ | exact Sees.of_eq rfl | exact lt_b rfl | rfl | exact SeesL.rfl' _ | exact Sees.int (succI hkt (by omega)) | exact Sees.own (by simp; rfl) | exact Sees.own (by rw [List.map_append, List.map_append]; rfl) | (show (_, _) = (_, _); simp only [List.length_append, List.length_map, List.length_cons, List.length_nil]))
  · have hkn : k = s.cells.length := by simp at hb; omega
    subst hkn
    rw [List.take_length]
    refine Wk ?_
    refine BrK.mk (fun g1 => ?_) (fun g1 => ?_) <;> (try rw [g1])
    · have g1' : putB c s.cells = false := by simpa using g1
      have e1 : withK c s.cells = s.cells := by unfold withK; rw [if_neg (by simp [g1'])]
      rw [e1]
      repeat ((conv => whnf); first | refine sJ ?_ | refine And.intro (by first | exact Els.map (f := Cell.av) (fun _ => ⟨rfl, rfl⟩) | exact (show _ * 40 ≤ _ by simp only [List.length_append, List.length_map, List.length_cons, List.length_nil]; omega) | exact (by simp only [List.length_append, List.length_map, List.length_cons, List.length_nil, maxLen]; omega) | exact (by rw [List.length_map]; rfl) | kernel_rfl) ?_ )
      try (conv => whnf)
      exact resP.mk rfl (Sees.of_eq (by simp only [Sched.av, encCells, with_none g1', List.map_append, List.map_cons, List.map_nil]; rfl))
    · have g1' : putB c s.cells = true := by simpa using g1
      have e1 : withK c s.cells = withL c s.cells := by unfold withK; rw [if_pos g1']
      rw [e1]
      refine Wk ?_
      exact resP.mk rfl (Sees.of_eq rfl)

set_option maxHeartbeats 4000000 in
theorem c_Less1 (s : Sched) (c : Cell) (hl : s.cells.length ≤ 512) : PCall Tryz.prog L 22 [s.av, c.av] (Sched.av ⟨s.len, s.offs, s.cells.filter fun x => decide (x ≠ c)⟩) := by
  refine PCall.intro mixed [] (nt := 37) Tryz.func22 rfl rfl (by simp) ?_
  refine Wk ?_
  refine LoopK.bornC 3 2 5 32 rfl rfl ?_
  refine LoopK.run mixed [] (fun (k : Nat) => k ≤ s.cells.length) (fun k => [(2, .ptr 0 0), (3, .ptr 1 0), (4, .ptr 2 0), (5, .ptr 3 0), (6, .int .i64 k)]) (fun k => ⟨wiB s c (.own (((s.cells.take k).filter fun x => decide (x ≠ c)).map Cell.av) 0), [(((s.cells.take k).filter fun x => decide (x ≠ c)).length, 5)], 0, 0, fun z => if z = 0 then 32 else 0⟩) (fun k => s.cells.length - k) 0 (by simp) ?_ ?_
  · refine Fits.mk' rfl rfl rfl rfl ?_ ?_ ?_ ?_ ?_ <;> repeat' (first | exact trivial | refine And.intro ?_ ?_ | exact Sees.of_eq rfl | exact lt_b rfl | rfl | exact SeesL.rfl' _)
  rintro k hk
  refine Wk ?_
  refine BrK.mk (fun hb => ?_) (fun hb => ?_) <;> (try rw [hb])
  · have hkt : k < s.cells.length := by simpa using hb
    obtain ⟨y, hgy⟩ := getLt hkt
    have hmy := getMap (f := Cell.av) hgy
    have hwl := List.length_filter_le (fun x => decide (x ≠ c)) (s.cells.take k)
    rw [List.length_take] at hwl
    obtain ⟨W, hW⟩ : ∃ W, W = (s.cells.take k).filter fun x => decide (x ≠ c) := ⟨_, rfl⟩
    rw [← hW] at hwl
    rw [← hW]
    repeat ((conv => whnf); first | refine sJ ?_ | refine And.intro (by first | exact inbMap hkt | kernel_rfl) ?_ | rw [hmy])
    try (conv => whnf)
    refine BrK.mk (fun g1 => ?_) (fun g1 => ?_) <;> (try rw [g1])
    · have g1' : (!cellEqB y c) = true := g1
      have hyc : y ≠ c := fun h => by rw [cellEqB_iff.2 h] at g1'; cases g1'
      have e1 : (s.cells.take (k + 1)).filter (fun x => decide (x ≠ c)) = W ++ [y] := by rw [filter_hit hgy hyc, ← hW]
      repeat ((conv => whnf); first | refine sJ ?_ | refine And.intro (by first | exact Els.map (f := Cell.av) (fun _ => ⟨rfl, rfl⟩) | exact (show _ * 40 ≤ _ by simp only [List.length_append, List.length_map, List.length_cons, List.length_nil]; omega) | exact (by simp only [List.length_append, List.length_map, List.length_cons, List.length_nil, maxLen]; omega) | exact (by rw [List.length_map]; rfl) | exact inbMap hkt | kernel_rfl) ?_ | rw [hmy])
      try (conv => whnf)
      refine ⟨k + 1, by omega, by omega, ?_⟩
      rw [e1]
      refine Fits.mk' rfl rfl rfl rfl ?_ ?_ ?_ ?_ ?_ <;> repeat' (first | exact trivial | refine And.intro ?_ ?_ | exact Sees.of_eq rfl | exact lt_b rfl | rfl | exact SeesL.rfl' _ | exact Sees.int (succI hkt (by omega)) | exact Sees.own (by simp; rfl) | exact Sees.own (by rw [List.map_append, List.map_append]; rfl) | (show (_, _) = (_, _); simp only [List.length_append, List.length_map, List.length_cons, List.length_nil]))
    · have g1' : (!cellEqB y c) = false := g1
      have hyc : y = c := cellEqB_iff.1 (by simpa using g1')
      have e1 : (s.cells.take (k + 1)).filter (fun x => decide (x ≠ c)) = W := by rw [filter_miss hgy hyc, ← hW]
      refine Wk ?_
      refine ⟨k + 1, by omega, by omega, ?_⟩
      rw [e1]
      refine Fits.mk' rfl rfl rfl rfl ?_ ?_ ?_ ?_ ?_ <;> repeat' (first | exact trivial | refine And.intro ?_ ?_ | exact Sees.of_eq rfl | exact lt_b rfl | rfl | exact SeesL.rfl' _ | exact Sees.int (succI hkt (by omega)) | exact Sees.own (by simp; rfl) | exact Sees.own (by rw [List.map_append, List.map_append]; rfl) | (show (_, _) = (_, _); simp only [List.length_append, List.length_map, List.length_cons, List.length_nil]))
  · have hkn : k = s.cells.length := by simp at hb; omega
    subst hkn
    rw [List.take_length]
    refine Wk ?_
    exact resP.mk rfl (Sees.of_eq rfl)

end
end HM
