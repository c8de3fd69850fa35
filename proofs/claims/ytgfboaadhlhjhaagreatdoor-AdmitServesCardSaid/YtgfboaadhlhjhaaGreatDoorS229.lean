/- Admit: the reference in all. -/
import Derived.Test.YtgfboaadhlhjhaaGreatDoorS1
import Derived.Test.YtgfboaadhlhjhaaGreatDoorDc
set_option maxRecDepth 100000
namespace HM
open Go Go.RowKit Go.Proofs
section
variable (L : World → Prop)
theorem wEls (l : List Req) (x : AV) (hx : x.ncells = 7 ∧ x.cells.all AV.isCell = true := by exact ⟨rfl, rfl⟩) : Els (6 + 1) (l.map Req.av ++ [x]) := fun e he => by
  rcases List.mem_append.1 he with h | h
  · exact Els.map (f := Req.av) (fun _ => ⟨rfl, rfl⟩) e h
  · rw [List.mem_singleton.1 h]; exact hx
set_option maxHeartbeats 8000000 in
theorem c_With41 (q : List Req) (x : Req) (hl : q.length ≤ 1000) (hs : q.Pairwise fun a b => a.flow.id < b.flow.id) (hno : hasQ q x.flow.id = false) : PCall Tryz.prog L 22 [encReqs q, x.av] (encReqs (insQ q x)) := by
  refine PCall.intro mixed [] (nt := 47) Tryz.func22 rfl rfl (by simp) ?_
  refine Wk ?_
  refine LoopK.run mixed [] (fun k : Nat => k ≤ q.length) (fun k => [(0, encReqs q), (3, .ptr 0 0), (5, .own ((withQ q x k).map Req.av) 0), (6, .bool (decide (posQ x q < k))), (7, .int .i64 k)]) (fun k => ⟨[.cells x.av.cells 47], [((withQ q x k).length, 7)], 0, 0, fun _ => 47⟩) (fun k => q.length - k) 0 (by omega) ?_ ?_
  · refine Fits.mk' rfl rfl rfl rfl ?_ ?_ ?_ ?_ ?_ <;> repeat' (first | exact trivial | refine And.intro ?_ ?_ | exact Sees.of_eq rfl | exact lt_b rfl | rfl | exact SeesL.rfl' _ | exact Sees.own (by rw [withQ_zero]; rfl) | (show (_, _) = (_, _); rw [withQ_zero]; rfl))
  rintro k hk
  have hwl := withQ_len q x k
  by_cases hkl : k < q.length
  · obtain ⟨y, hgy⟩ := getLt hkl
    have hmy := getMap (f := Req.av) hgy
    have g0 : decide ((k : Int) < ((q.map Req.av).length : Int)) = true := decide_eq_true (by rw [List.length_map]; omega)
    have hat := posQ_at hs hno hgy
    have hsu := withQ_succ (x := x) hgy
    rcases Nat.lt_trichotomy k (posQ x q) with h | h | h
    · have g1 : decide (posQ x q < k) = false := decide_eq_false (by omega)
      have g2 : decide (x.flow.id < y.flow.id) = false := decide_eq_false (by omega)
      have g3 : decide (posQ x q < k + 1) = false := decide_eq_false (by omega)
      rw [if_neg (by omega)] at hsu
      rw [g1]
      repeat ((conv => whnf); first | refine sJ ?_ | refine And.intro (by first | exact trivial | exact inbMap hkl | exact Els.map (f := Req.av) (fun _ => ⟨rfl, rfl⟩) | exact Els.of_b rfl | exact wEls _ _ | exact (show _ * 72 ≤ _ by simp only [List.length_map, List.length_cons, List.length_nil]; omega) | exact (by simp only [List.length_map, List.length_cons, List.length_nil, maxLen]; omega) | exact (show some (_, _) = some (_, _) by simp only [List.length_map]) | kernel_rfl) ?_ | rw [g0] | rw [g2] | rw [hmy])
      try (conv => whnf)
      refine ⟨k + 1, by omega, by omega, ?_⟩
      rw [hsu, g3]
      refine Fits.mk' rfl rfl rfl rfl ?_ ?_ ?_ ?_ ?_ <;> repeat' (first | exact trivial | refine And.intro ?_ ?_ | exact Sees.of_eq rfl | exact lt_b rfl | rfl | exact SeesL.rfl' _ | exact Sees.int (succI hkl (by omega)) | exact Sees.own (by simp only [List.map_append]; rfl) | exact Sees.own (by rw [List.append_assoc, List.map_append]; rfl) | (show (_, _) = (_, _); simp only [List.length_append, List.length_map, List.length_cons, List.length_nil]))
    · have g1 : decide (posQ x q < k) = false := decide_eq_false (by omega)
      have g2 : decide (x.flow.id < y.flow.id) = true := decide_eq_true (by omega)
      have g3 : decide (posQ x q < k + 1) = true := decide_eq_true (by omega)
      rw [if_pos h] at hsu
      rw [g1]
      repeat ((conv => whnf); first | refine sJ ?_ | refine And.intro (by first | exact trivial | exact inbMap hkl | exact Els.map (f := Req.av) (fun _ => ⟨rfl, rfl⟩) | exact Els.of_b rfl | exact wEls _ _ | exact (show _ * 72 ≤ _ by simp only [List.length_map, List.length_append, List.length_cons, List.length_nil]; omega) | exact (by simp only [List.length_map, List.length_append, List.length_cons, List.length_nil, maxLen]; omega) | exact (show some (_, _) = some (_, _) by simp only [List.length_map]) | kernel_rfl) ?_ | rw [g0] | rw [g2] | rw [hmy])
      try (conv => whnf)
      refine ⟨k + 1, by omega, by omega, ?_⟩
      rw [hsu, g3]
      refine Fits.mk' rfl rfl rfl rfl ?_ ?_ ?_ ?_ ?_ <;> repeat' (first | exact trivial | refine And.intro ?_ ?_ | exact Sees.of_eq rfl | exact lt_b rfl | rfl | exact SeesL.rfl' _ | exact Sees.int (succI hkl (by omega)) | exact Sees.own (by simp only [List.map_append]; rfl) | exact Sees.own (by rw [List.append_assoc, List.map_append]; rfl) | (show (_, _) = (_, _); simp only [List.length_append, List.length_map, List.length_cons, List.length_nil]))
    · have g1 : decide (posQ x q < k) = true := decide_eq_true (by omega)
      have g3 : decide (posQ x q < k + 1) = true := decide_eq_true (by omega)
      rw [if_neg (by omega)] at hsu
      rw [g1]
      repeat ((conv => whnf); first | refine sJ ?_ | refine And.intro (by first | exact trivial | exact inbMap hkl | exact Els.map (f := Req.av) (fun _ => ⟨rfl, rfl⟩) | exact Els.of_b rfl | exact wEls _ _ | exact (show _ * 72 ≤ _ by simp only [List.length_map, List.length_cons, List.length_nil]; omega) | exact (by simp only [List.length_map, List.length_cons, List.length_nil, maxLen]; omega) | exact (show some (_, _) = some (_, _) by simp only [List.length_map]) | kernel_rfl) ?_ | rw [g0] | rw [hmy])
      try (conv => whnf)
      refine ⟨k + 1, by omega, by omega, ?_⟩
      rw [hsu, g3]
      refine Fits.mk' rfl rfl rfl rfl ?_ ?_ ?_ ?_ ?_ <;> repeat' (first | exact trivial | refine And.intro ?_ ?_ | exact Sees.of_eq rfl | exact lt_b rfl | rfl | exact SeesL.rfl' _ | exact Sees.int (succI hkl (by omega)) | exact Sees.own (by simp only [List.map_append]; rfl) | exact Sees.own (by rw [List.append_assoc, List.map_append]; rfl) | (show (_, _) = (_, _); simp only [List.length_append, List.length_map, List.length_cons, List.length_nil]))
  · have hkn : k = q.length := by omega
    subst hkn
    have g0 : decide ((q.length : Int) < ((q.map Req.av).length : Int)) = false := decide_eq_false (by rw [List.length_map]; omega)
    have he := withQ_end (q := q) (x := x)
    by_cases h : posQ x q < q.length
    · rw [if_pos h] at he
      rw [decide_eq_true h]
      repeat ((conv => whnf); first | refine sJ ?_ | refine And.intro (by first | exact trivial | kernel_rfl) ?_ | rw [g0])
      try (conv => whnf)
      exact resP.mk rfl (Sees.of_eq (by rw [he]; rfl))
    · rw [if_neg h] at he
      rw [decide_eq_false h]
      repeat ((conv => whnf); first | refine sJ ?_ | refine And.intro (by first | exact trivial | exact Els.map (f := Req.av) (fun _ => ⟨rfl, rfl⟩) | exact Els.of_b rfl | exact wEls _ _ | exact (show _ * 72 ≤ _ by simp only [List.length_map, List.length_cons, List.length_nil]; omega) | exact (by simp only [List.length_map, List.length_cons, List.length_nil, maxLen]; omega) | exact (show some (_, _) = some (_, _) by simp only [List.length_map]) | kernel_rfl) ?_ | rw [g0])
      try (conv => whnf)
      exact resP.mk rfl (Sees.of_eq (by rw [he, encReqs, List.map_append]; rfl))
end
end HM
