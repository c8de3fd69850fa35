/- Requests with one more: the reference, for any rising requests. -/
import Derived.Test.YtgfboaadhlhjhaaGreatDoorX
import Derived.Test.YtgfboaadhlhjhaaGreatDoorXS
import Derived.Test.YtgfboaadhlhjhaaGreatDoorS1
import Derived.Test.YtgfboaadhlhjhaaGreatDoorDd
import Derived.Test.YtgfboaadhlhjhaaGreatDoorS229
set_option maxRecDepth 100000
namespace HM
open Go Go.RowKit Go.Proofs
section
variable (L : World → Prop)
set_option maxHeartbeats 8000000 in
theorem c_With41g (q : List Req) (x : Req) (hl : q.length ≤ 1000) (hs : q.Pairwise fun a b => a.flow.id < b.flow.id) : PCall Tryz.prog L 22 [encReqs q, x.av] (encReqs (insAt q (posW x q) x)) := by
  refine PCall.intro mixed [] (nt := 47) Tryz.func22 rfl rfl (by simp) ?_
  refine Wk ?_
  refine LoopK.run mixed [] (fun k : Nat => k ≤ q.length) (fun k => [(0, encReqs q), (3, .ptr 0 0), (5, .own ((withP (posW x q) q x k).map Req.av) 0), (6, .bool (decide (posW x q < k))), (7, .int .i64 k)]) (fun k => ⟨[.cells x.av.cells 47], [((withP (posW x q) q x k).length, 7)], 0, 0, fun _ => 47⟩) (fun k => q.length - k) 0 (by omega) ?_ ?_
  · refine Fits.mk' rfl rfl rfl rfl ?_ ?_ ?_ ?_ ?_ <;> repeat' (first | exact trivial | refine And.intro ?_ ?_ | exact Sees.of_eq rfl | exact lt_b rfl | rfl | exact SeesL.rfl' _ | exact Sees.own (by rw [withP_zero]; rfl) | (show (_, _) = (_, _); rw [withP_zero]; rfl))
  rintro k hk
  have hwl := withP_len (posW x q) q x k
  by_cases hkl : k < q.length
  · obtain ⟨y, hgy⟩ := getLt hkl
    have hmy := getMap (f := Req.av) hgy
    have g0 : decide ((k : Int) < ((q.map Req.av).length : Int)) = true := decide_eq_true (by rw [List.length_map]; omega)
    have hat := posW_at hs hgy (x := x)
    have hsu := withP_succ (p := posW x q) (x := x) hgy
    rcases Nat.lt_trichotomy k (posW x q) with h | h | h
    · have g1 : decide (posW x q < k) = false := decide_eq_false (by omega)
      have g2 : decide (x.flow.id < y.flow.id) = false := decide_eq_false (by omega)
      have g3 : decide (posW x q < k + 1) = false := decide_eq_false (by omega)
      rw [if_neg (by omega)] at hsu
      rw [g1]
      repeat ((conv => whnf); first | refine sJ ?_ | refine And.intro (by first | exact trivial | exact inbMap hkl | exact Els.map (f := Req.av) (fun _ => ⟨rfl, rfl⟩) | exact Els.of_b rfl | exact wEls _ _ | exact (show _ * 72 ≤ _ by simp only [List.length_map, List.length_cons, List.length_nil]; omega) | exact (by simp only [List.length_map, List.length_cons, List.length_nil, maxLen]; omega) | exact (show some (_, _) = some (_, _) by simp only [List.length_map]) | kernel_rfl) ?_ | rw [g0] | rw [g2] | rw [hmy])
      try (conv => whnf)
      refine ⟨k + 1, by omega, by omega, ?_⟩
      rw [hsu, g3]
      refine Fits.mk' rfl rfl rfl rfl ?_ ?_ ?_ ?_ ?_ <;> repeat' (first | exact trivial | refine And.intro ?_ ?_ | exact Sees.of_eq rfl | exact lt_b rfl | rfl | exact SeesL.rfl' _ | exact Sees.int (succI hkl (by omega)) | exact Sees.own (by simp only [List.map_append]; rfl) | exact Sees.own (by rw [List.append_assoc, List.map_append]; rfl) | (show (_, _) = (_, _); simp only [List.length_append, List.length_map, List.length_cons, List.length_nil]))
    · have g1 : decide (posW x q < k) = false := decide_eq_false (by omega)
      have g2 : decide (x.flow.id < y.flow.id) = true := decide_eq_true (by omega)
      have g3 : decide (posW x q < k + 1) = true := decide_eq_true (by omega)
      rw [if_pos h] at hsu
      rw [g1]
      repeat ((conv => whnf); first | refine sJ ?_ | refine And.intro (by first | exact trivial | exact inbMap hkl | exact Els.map (f := Req.av) (fun _ => ⟨rfl, rfl⟩) | exact Els.of_b rfl | exact wEls _ _ | exact (show _ * 72 ≤ _ by simp only [List.length_map, List.length_append, List.length_cons, List.length_nil]; omega) | exact (by simp only [List.length_map, List.length_append, List.length_cons, List.length_nil, maxLen]; omega) | exact (show some (_, _) = some (_, _) by simp only [List.length_map]) | kernel_rfl) ?_ | rw [g0] | rw [g2] | rw [hmy])
      try (conv => whnf)
      refine ⟨k + 1, by omega, by omega, ?_⟩
      rw [hsu, g3]
      refine Fits.mk' rfl rfl rfl rfl ?_ ?_ ?_ ?_ ?_ <;> repeat' (first | exact trivial | refine And.intro ?_ ?_ | exact Sees.of_eq rfl | exact lt_b rfl | rfl | exact SeesL.rfl' _ | exact Sees.int (succI hkl (by omega)) | exact Sees.own (by simp only [List.map_append]; rfl) | exact Sees.own (by rw [List.append_assoc, List.map_append]; rfl) | (show (_, _) = (_, _); simp only [List.length_append, List.length_map, List.length_cons, List.length_nil]))
    · have g1 : decide (posW x q < k) = true := decide_eq_true (by omega)
      have g3 : decide (posW x q < k + 1) = true := decide_eq_true (by omega)
      rw [if_neg (by omega)] at hsu
      rw [g1]
      repeat ((conv => whnf); first | refine sJ ?_ | refine And.intro (by first | exact trivial | exact inbMap hkl | exact Els.map (f := Req.av) (fun _ => ⟨rfl, rfl⟩) | exact Els.of_b rfl | exact wEls _ _ | exact (show _ * 72 ≤ _ by simp only [List.length_map, List.length_cons, List.length_nil]; omega) | exact (by simp only [List.length_map, List.length_cons, List.length_nil, maxLen]; omega) | exact (show some (_, _) = some (_, _) by simp only [List.length_map]) | kernel_rfl) ?_ | rw [g0] | rw [hmy])
      try (conv => whnf)
      refine ⟨k + 1, by omega, by omega, ?_⟩
      rw [hsu, g3]
      refine Fits.mk' rfl rfl rfl rfl ?_ ?_ ?_ ?_ ?_ <;> repeat' (first | exact trivial | refine And.intro ?_ ?_ | exact Sees.of_eq rfl | exact lt_b rfl | rfl | exact SeesL.rfl' _ | exact Sees.int (succI hkl (by omega)) | exact Sees.own (by simp only [List.map_append]; rfl) | exact Sees.own (by rw [List.append_assoc, List.map_append]; rfl) | (show (_, _) = (_, _); simp only [List.length_append, List.length_map, List.length_cons, List.length_nil]))
  · have hkn : k = q.length := by omega
    subst hkn
    have g0 : decide ((q.length : Int) < ((q.map Req.av).length : Int)) = false := decide_eq_false (by rw [List.length_map]; omega)
    have he := withP_end (q := q) (x := x) (posW_le x q)
    by_cases h : posW x q < q.length
    · rw [if_pos h] at he
      rw [decide_eq_true h]
      repeat ((conv => whnf); first | refine sJ ?_ | refine And.intro (by first | exact trivial | kernel_rfl) ?_ | rw [g0])
      try (conv => whnf)
      exact resP.mk rfl (Sees.of_eq (by rw [he]; rfl))
    · rw [if_neg h] at he
      rw [decide_eq_false h]
      repeat ((conv => whnf); first | refine sJ ?_ | refine And.intro (by first | exact trivial | exact Els.map (f := Req.av) (fun _ => ⟨rfl, rfl⟩) | exact Els.of_b rfl | exact wEls _ _ | exact (show _ * 72 ≤ _ by simp only [List.length_map, List.length_cons, List.length_nil]; omega) | exact (by simp only [List.length_map, List.length_cons, List.length_nil, maxLen]; omega) | exact (show some (_, _) = some (_, _) by simp only [List.length_map]) | kernel_rfl) ?_ | rw [g0])
      try (conv => whnf)
      exact resP.mk rfl (Sees.of_eq (by rw [he, encReqs, List.map_append]; rfl))
end
end HM
