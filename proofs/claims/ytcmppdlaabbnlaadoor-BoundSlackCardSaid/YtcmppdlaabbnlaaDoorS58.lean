/- A copy of a network. -/
import Derived.Test.YtcmppdlaabbnlaaDoorS57

set_option maxRecDepth 100000
namespace HM
open Go Go.RowKit Go.Proofs
section
variable (L : World → Prop)

set_option maxHeartbeats 4000000 in
theorem c_Copy31 (n : Net) (hn : NetOk n) : PCall Tryd.prog L 19 [n.av] n.av := by
  have n1 : n.power.length ≤ 32 := by have := hn.rows; have := hn.nodes; omega
  have n2 : ∀ r ∈ n.power, r.length ≤ 32 := fun r hr => by have := hn.row r hr; have := hn.nodes; omega
  have n3 := hn.many
  have n4 := hn.mar
  refine PCall.intro mixed [] (nt := 38) Tryd.func19 rfl rfl (by simp) ?_
  repeat ((conv => whnf); first | (refine And.intro (by first | rfl | exact ⟨rfl, rfl⟩ | exact Or.inl ⟨_, rfl⟩ | exact Or.inr rfl | exact le_b rfl | ((repeat' (first | exact Els.nil _ | refine Els.cons rfl rfl ?_)); done) | exact Els.map (fun _ => ⟨rfl, rfl⟩)  | kernel_rfl) ?_) )
  try (conv => whnf)
  refine LoopK.run mixed [10006] (fun i : Nat => i ≤ n.power.length) (fun i => [(1, .ptr 0 0), (2, .ptr 1 0), (3, .ptr 2 0), (4, .int .i64 i)]) (fun i => ⟨[.cells n.cs 26, .cells [.int .i64 0, .nils, .int .i64 0, .int .i64 0, .nils, .nils] 26, .cells [.int .i64 n.nodes, .own ((n.power.take i).map encIs) 0, .int .i64 n.noise, .int .i64 n.thr, encLinks n.links, encIs n.margin] 26], [(((n.power.take i).map encIs).length, 1)], 0, 0, fun _ => 24⟩) (fun i => n.power.length - i) 0 (by simp) ?_ ?_
  · refine Fits.mk' rfl rfl rfl rfl ?_ ?_ ?_ ?_ ?_ <;> repeat' (first | exact trivial | refine And.intro ?_ ?_ | exact Sees.of_eq rfl | exact lt_b rfl | rfl )
  rintro i hi
  repeat ((conv => whnf); first | (refine And.intro (by first | rfl | exact ⟨rfl, rfl⟩ | exact Or.inl ⟨_, rfl⟩ | exact Or.inr rfl | exact le_b rfl | ((repeat' (first | exact Els.nil _ | refine Els.cons rfl rfl ?_)); done) | exact Els.map (fun _ => ⟨rfl, rfl⟩)  | kernel_rfl) ?_) )
  try (conv => whnf)
  refine BrK.mk (fun h1 => ?_) (fun h1 => ?_) <;> (try rw [h1])
  · have hlt : i < n.power.length := by simpa using h1
    obtain ⟨row, hrow⟩ := getLt hlt
    have hmr := getMap (f := encIs) hrow
    have hrl := n2 row (List.mem_of_getElem? hrow)
    repeat ((conv => whnf); first | (refine And.intro (by first | rfl | exact ⟨rfl, rfl⟩ | exact Or.inl ⟨_, rfl⟩ | exact Or.inr rfl | exact le_b rfl | ((repeat' (first | exact Els.nil _ | refine Els.cons rfl rfl ?_)); done) | exact Els.map (fun _ => ⟨rfl, rfl⟩)  | kernel_rfl) ?_) )
    try (conv => whnf)
    refine SemK.regionStil mixed [0, 3, 5] 10 rfl rfl (by decide) rfl ?_
    iterate 3
      conv => whnf
      apply exV
      · intro S K' hh
        repeat ((conv => whnf); first | (refine And.intro (by first | rfl | exact ⟨rfl, rfl⟩ | exact Or.inl ⟨_, rfl⟩ | exact Or.inr rfl | exact le_b rfl | ((repeat' (first | exact Els.nil _ | refine Els.cons rfl rfl ?_)); done) | exact Els.map (fun _ => ⟨rfl, rfl⟩)  | kernel_rfl) ?_) )
        try (conv => whnf)
        exact hh
    repeat' ((conv => whnf); first | exact trivial | (refine And.intro (by first | rfl | exact ⟨rfl, rfl⟩ | exact Or.inl ⟨_, rfl⟩ | exact Or.inr rfl | exact le_b rfl | ((repeat' (first | exact Els.nil _ | refine Els.cons rfl rfl ?_)); done) | exact Els.map (fun _ => ⟨rfl, rfl⟩) | exact trivial | exact inbMap hlt | exact Els.map (f := encI) (fun _ => ⟨rfl, rfl⟩) | exact Els.map (f := encIs) (fun _ => ⟨rfl, rfl⟩) | exact (show (_ + _) * 8 ≤ 140737488355328 by simp only [List.length_map, List.length_nil]; omega) | exact (show (_ + _) * 24 ≤ 140737488355328 by simp only [List.length_map, List.length_cons, List.length_nil, List.length_take]; omega) | exact (by simp only [List.length_map, List.length_cons, List.length_nil, List.length_take, maxLen]; omega) | kernel_rfl) ?_) | refine And.intro ?_ ?_ | rw [hmr])
    all_goals refine ⟨i + 1, by omega, by omega, ?_⟩
    all_goals
      refine Fits.mk' rfl rfl rfl rfl ?_ ?_ ?_ ?_ ?_ <;> repeat' (first | exact trivial | refine And.intro ?_ ?_ | exact Sees.of_eq rfl | exact lt_b rfl | rfl | exact Sees.int (succI hlt (by omega)) | exact Sees.own (by rw [take_succ hrow, List.map_append]; rfl) | (show (_, _) = (_, _); rw [take_succ hrow, List.map_append]; rfl))
  · have hk : i = n.power.length := by simp at h1; omega
    subst hk
    repeat ((conv => whnf); first | (refine And.intro (by first | rfl | exact ⟨rfl, rfl⟩ | exact Or.inl ⟨_, rfl⟩ | exact Or.inr rfl | exact le_b rfl | ((repeat' (first | exact Els.nil _ | refine Els.cons rfl rfl ?_)); done) | exact Els.map (fun _ => ⟨rfl, rfl⟩) | exact Els.map (f := Link.av) (fun x => ⟨linkOk.len x, linkOk.cell x⟩) | exact Els.map (f := encI) (fun _ => ⟨rfl, rfl⟩) | exact (show _ * 24 ≤ _ by simp only [List.length_map, List.length_nil]; omega) | exact (show _ * 8 ≤ _ by simp only [List.length_map, List.length_nil]; omega) | exact (by simp only [List.length_map, List.length_nil, maxLen]; omega) | kernel_rfl) ?_) )
    try (conv => whnf)
    exact resP.mk rfl (Sees.of_eq (by rw [List.take_length]; rfl))

end
end HM
