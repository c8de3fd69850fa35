/- Schedules that are changed: the reference. -/
import Derived.Test.YtgfboaadhlhjhaaGreatDoorS1
import Derived.Test.YtgfboaadhlhjhaaGreatDoorDc
import Derived.Test.YtgfboaadhlhjhaaGreatDoorS30
import Derived.Test.YtgfboaadhlhjhaaGreatDoorDa
set_option maxRecDepth 100000
namespace HM
open Go Go.RowKit Go.Proofs
section
variable (L : World → Prop)
def wiB (s : Sched) (c : Cell) (o : AV) : List Ob := [.cells s.av.cells 29, .cells c.av.cells 61, .cells [.int .i64 0, .int .i64 0, .nils] 29, .cells [.int .i64 s.len, .int .i64 s.offs, o] 29]
set_option maxHeartbeats 4000000 in
theorem c_With35 (s : Sched) (c : Cell) (hl : s.cells.length ≤ 1048576) : PCall Tryz.prog L 180 [s.av, c.av] (Sched.av ⟨s.len, s.offs, withL c s.cells⟩) := by
  refine PCall.intro mixed [] (nt := 56) Tryz.func180 rfl rfl (by simp) ?_
  refine Wk ?_
  refine LoopK.bornC 3 2 5 61 rfl rfl ?_
  refine LoopK.run mixed [] (fun (k : Nat) => k ≤ s.cells.length) (fun k => [(2, .ptr 0 0), (3, .ptr 1 0), (4, .ptr 2 0), (5, .ptr 3 0), (6, .bool (putB c (s.cells.take k))), (7, .int .i64 k)]) (fun k => ⟨wiB s c (.own ((withK c (s.cells.take k)).map Cell.av) 0), [((withK c (s.cells.take k)).length, 5)], 0, 0, fun z => if z = 0 then 61 else 0⟩) (fun k => s.cells.length - k) 0 (by simp) ?_ ?_
  · refine fM ?_ ?_ ?_ ?_ ?_ <;> repeat' (first | exact fQ | refine And.intro ?_ ?_ | exact SeesL.rfl' _)
  rintro k hk
  refine Wk ?_
  refine BrK.mk (fun hb => ?_) (fun hb => ?_) <;> try rw [hb]
  · have hkt : k < s.cells.length := by simpa using hb
    obtain ⟨y, hgy⟩ := getLt hkt
    have hmy := getMap (f := Cell.av) hgy
    have hwl := withK_len c (s.cells.take k)
    rw [List.length_take, Nat.min_eq_left hk] at hwl
    have hts := take_succ hgy
    obtain ⟨W, hW⟩ : ∃ W, W = withK c (s.cells.take k) := ⟨_, rfl⟩
    obtain ⟨pb, hpb⟩ : ∃ pb, pb = putB c (s.cells.take k) := ⟨_, rfl⟩
    rw [← hW] at hwl
    rw [← hW, ← hpb]
    refine Wk ?_
    refine BrK.mk (fun g1 => ?_) (fun g1 => ?_) <;> (try rw [g1])
    · have g1' : putB c (s.cells.take k) = false := by rw [← hpb]; simpa using g1
      repeat ((conv => whnf); first | refine sJ ?_ | refine aI (by first | exact Els.map (f := Cell.av) (fun _ => ⟨rfl, rfl⟩) | exact (show _ * 40 ≤ _ by simp only [List.length_append, List.length_map, List.length_cons, List.length_nil]; omega) | exact (by simp only [List.length_map]; omega) | exact (by rw [List.length_map]; rfl) | exact inbMap hkt | kernel_rfl) ?_ | rw [hmy])
      try (conv => whnf)
      first | refine CallK.data rfl (c_Less L c y) rfl ?_ | refine CallP.data rfl (c_Less L c y) rfl ?_
      refine Wk ?_
      refine BrK.mk (fun g2 => ?_) (fun g2 => ?_) <;> (try rw [g2])
      · have hEl : Els (4 + 1) (W.map Cell.av ++ [c.av]) := by
          rw [show W.map Cell.av ++ [c.av] = (W ++ [c]).map Cell.av from by simp]
          exact Els.map (f := Cell.av) (fun _ => ⟨rfl, rfl⟩)
        have e1 : withK c (s.cells.take (k + 1)) = W ++ [c] ++ [y] := by rw [hts, withK_now g1' (by simpa using g2), ← hW]
        have e2 : putB c (s.cells.take (k + 1)) = true := by rw [hts, putB_snoc, g1']; simpa using g2
        repeat ((conv => whnf); first | refine sJ ?_ | refine aI (by first | exact hEl | exact Els.map (f := Cell.av) (fun _ => ⟨rfl, rfl⟩) | exact (show _ * 40 ≤ _ by simp only [List.length_append, List.length_map, List.length_cons, List.length_nil]; omega) | exact (by simp only [List.length_append, List.length_map, List.length_cons, List.length_nil, maxLen]; omega) | exact (by rw [List.length_map]; rfl) | exact inbMap hkt | kernel_rfl) ?_ | rw [hmy])
        try (conv => whnf)
        refine ⟨k + 1, by omega, by omega, ?_⟩
        rw [e1, e2]
        refine fM ?_ ?_ ?_ ?_ ?_ <;> repeat' (first | exact fQ | refine And.intro ?_ ?_ | exact SeesL.rfl' _ | exact Sees.int (succI hkt (by omega)) | exact Sees.own (by simp; rfl) | exact Sees.own (by rw [List.map_append, List.map_append]; rfl) | (show (_, _) = (_, _); simp only [List.length_append, List.length_map, List.length_cons, List.length_nil]))
      · have e1 : withK c (s.cells.take (k + 1)) = W ++ [y] := by rw [hts, withK_not g1' (by simpa using g2), ← hW]
        have e2 : putB c (s.cells.take (k + 1)) = pb := by rw [hts, putB_snoc, hpb, g1']; simpa using g2
        repeat ((conv => whnf); first | refine sJ ?_ | refine aI (by first | exact Els.map (f := Cell.av) (fun _ => ⟨rfl, rfl⟩) | exact (show _ * 40 ≤ _ by simp only [List.length_map, List.length_cons, List.length_nil]; omega) | exact (by simp only [List.length_map, List.length_cons, List.length_nil, maxLen]; omega) | exact (by rw [List.length_map]; rfl) | exact inbMap hkt | kernel_rfl) ?_ | rw [hmy])
        try (conv => whnf)
        refine ⟨k + 1, by omega, by omega, ?_⟩
        rw [e1, e2]
        refine fM ?_ ?_ ?_ ?_ ?_ <;> repeat' (first | exact fQ | refine And.intro ?_ ?_ | exact SeesL.rfl' _ | exact Sees.int (succI hkt (by omega)) | exact Sees.own (by simp; rfl) | exact Sees.own (by rw [List.map_append, List.map_append]; rfl) | (show (_, _) = (_, _); simp only [List.length_append, List.length_map, List.length_cons, List.length_nil]))
    · have g1' : putB c (s.cells.take k) = true := by rw [← hpb]; simpa using g1
      have e1 : withK c (s.cells.take (k + 1)) = W ++ [y] := by rw [hts, withK_put g1', ← hW]
      have e2 : putB c (s.cells.take (k + 1)) = pb := by rw [hts, putB_snoc, hpb, g1']; rfl
      repeat ((conv => whnf); first | refine sJ ?_ | refine aI (by first | exact Els.map (f := Cell.av) (fun _ => ⟨rfl, rfl⟩) | exact (show _ * 40 ≤ _ by simp only [List.length_map, List.length_cons, List.length_nil]; omega) | exact (by simp only [List.length_map, List.length_cons, List.length_nil, maxLen]; omega) | exact (by rw [List.length_map]; rfl) | exact inbMap hkt | kernel_rfl) ?_ | rw [hmy])
      try (conv => whnf)
      refine ⟨k + 1, by omega, by omega, ?_⟩
      rw [e1, e2]
      refine fM ?_ ?_ ?_ ?_ ?_ <;> repeat' (first | exact fQ | refine And.intro ?_ ?_ | exact SeesL.rfl' _ | exact Sees.int (succI hkt (by omega)) | exact Sees.own (by simp; rfl) | exact Sees.own (by rw [List.map_append, List.map_append]; rfl) | (show (_, _) = (_, _); simp only [List.length_append, List.length_map, List.length_cons, List.length_nil]))
  · have hkn : k = s.cells.length := by simp at hb; omega
    subst hkn
    rw [List.take_length]
    refine Wk ?_
    refine BrK.mk (fun g1 => ?_) (fun g1 => ?_) <;> (try rw [g1])
    · have g1' : putB c s.cells = false := by simpa using g1
      have e1 : withK c s.cells = s.cells := by unfold withK; rw [if_neg (by simp [g1'])]
      rw [e1]
      repeat ((conv => whnf); first | refine sJ ?_ | refine aI (by first | exact Els.map (f := Cell.av) (fun _ => ⟨rfl, rfl⟩) | exact (show _ * 40 ≤ _ by simp only [List.length_map, List.length_cons, List.length_nil]; omega) | exact (by simp only [List.length_map, List.length_cons, List.length_nil, maxLen]; omega) | exact (by rw [List.length_map]; rfl) | kernel_rfl) ?_ )
      try (conv => whnf)
      exact resP.mk rfl (Sees.of_eq (by simp only [Sched.av, encCells, with_none g1', List.map_append, List.map_cons, List.map_nil]; rfl))
    · have g1' : putB c s.cells = true := by simpa using g1
      have e1 : withK c s.cells = withL c s.cells := by unfold withK; rw [if_pos g1']
      rw [e1]
      refine Wk ?_
      exact resP.mk rfl (Sees.of_eq rfl)
end
end HM
set_option maxRecDepth 100000
namespace HM
open Go Go.RowKit Go.Proofs
section
variable (L : World → Prop)
end
end HM
set_option maxRecDepth 100000
namespace HM
open Go Go.RowKit Go.Proofs
section
variable (L : World → Prop)
end
end HM
set_option maxRecDepth 100000
namespace HM
open Go Go.RowKit Go.Proofs
section
variable (L : World → Prop)
theorem c_Find32 (l : List Flow) (id : Int) (hl : l.length ≤ 281474976710656) : PCall Tryz.prog L 55 [encFlows l, .int .i64 id] (.int .i64 (findF l id)) := by
  refine PCall.intro mixed [] (nt := 20) Tryz.func55 rfl rfl (by simp) ?_
  refine Wk ?_
  refine LoopK.run mixed [] (fun (k : Nat) => k ≤ l.length ∧ ∀ (j : Nat) y, j < k → l[j]? = some y → (y.id == id) = false) (fun k => [(0, encFlows l), (1, .int .i64 id), (5, .int .i64 k)]) (fun k => St.none) (fun k => l.length - k) 0 ⟨by simp, by simp⟩ ?_ ?_
  · refine fM ?_ ?_ ?_ ?_ ?_ <;> repeat' (first | exact fQ | refine And.intro ?_ ?_ )
  rintro k ⟨hk, hinv⟩
  refine Wk ?_
  refine BrK.mk (fun hb => ?_) (fun hb => ?_) <;> try rw [hb]
  · have hkt : k < l.length := by simpa using hb
    obtain ⟨f, hgf⟩ := getLt hkt
    have hmf := getMap (f := Flow.av) hgf
    repeat ((conv => whnf); first | refine sJ ?_ | refine aI (by first | exact inbMap hkt | kernel_rfl) ?_ | rw [hmf])
    try (conv => whnf)
    refine BrK.mk (fun h2 => ?_) (fun h2 => ?_) <;> (try rw [h2])
    · refine Wk ?_
      exact resP.mk rfl (Sees.int (idxF_some (p := fun f : Flow => f.id == id) hkt hinv hgf h2).symm)
    · refine Wk ?_
      refine ⟨k + 1, ⟨by omega, inv_snoc (p := fun y : Flow => y.id == id) hinv hgf h2⟩, by omega, ?_⟩
      refine fM ?_ ?_ ?_ ?_ ?_ <;> repeat' (first | exact fQ | refine And.intro ?_ ?_ | exact Sees.int (succI hkt hl))
  · have hkn : k = l.length := by simp at hb; omega
    subst hkn
    refine Wk ?_
    exact resP.mk rfl (Sees.int (idxF_none (p := fun f : Flow => f.id == id) hinv).symm)
end
end HM
