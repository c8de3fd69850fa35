/- Which slots count: the reference. -/
import Derived.Test.YtcmppdlaabbnlaaGreatDoorS34
import Derived.Test.YtcmppdlaabbnlaaGreatDoorDa

set_option maxRecDepth 100000
namespace HM
open Go Go.RowKit Go.Proofs
section
variable (L : World → Prop)

theorem c_in37 (n lo hi : Int) : PCall Tryz.prog L 40 [.int .i64 n, .int .i64 lo, .int .i64 hi] (.bool (inB n lo hi)) := by
  refine PCall.intro mixed [] (nt := 15) Tryz.func40 rfl rfl (by simp) ?_
  repeat' ((conv => whnf); first | (refine And.intro (by first | rfl | exact Or.inl ⟨_, rfl⟩ | exact Or.inr rfl | exact le_b rfl | ((repeat' (first | exact Els.nil _ | refine Els.cons rfl rfl ?_)); done) | exact Els.map (fun _ => ⟨rfl, rfl⟩)  | kernel_rfl) ?_)  | (refine BrK.mk (fun hb => ?_) (fun hb => ?_) <;> (try rw [hb])))
  all_goals try (conv => whnf)
  all_goals exact resP.mk rfl (Sees.bool (by first | (simp_all [inB]; done) | (simp_all [inB]; omega) | (rw [Bool.eq_iff_iff]; simp_all [inB]; done) | (rw [Bool.eq_iff_iff]; simp_all [inB]; omega)))

theorem c_Fault37 (n : Net) (s : Sched) (f : Flow) (r : List Int) (hn : n.small) (hc : s.cells.length ≤ 281474976710656) (hr : r.length ≤ 281474976710656) : PCall Tryz.prog L 39 [n.av, s.av, f.av, encIs r] (.int .i64 (wayE n s f r)) := by
  refine PCall.intro mixed [] (nt := 37) Tryz.func39 rfl rfl (by simp) ?_
  repeat ((conv => whnf); first | (refine And.intro (by first | rfl | exact Or.inl ⟨_, rfl⟩ | exact Or.inr rfl | exact le_b rfl | ((repeat' (first | exact Els.nil _ | refine Els.cons rfl rfl ?_)); done) | exact Els.map (fun _ => ⟨rfl, rfl⟩)  | kernel_rfl) ?_) )
  try (conv => whnf)
  first | refine CallK.data rfl (c_Check31 L n hn) rfl ?_ | refine CallP.data rfl (c_Check31 L n hn) rfl ?_
  repeat ((conv => whnf); first | (refine And.intro (by first | rfl | exact Or.inl ⟨_, rfl⟩ | exact Or.inr rfl | exact le_b rfl | ((repeat' (first | exact Els.nil _ | refine Els.cons rfl rfl ?_)); done) | exact Els.map (fun _ => ⟨rfl, rfl⟩)  | kernel_rfl) ?_) )
  try (conv => whnf)
  refine BrK.mk (fun h1 => ?_) (fun h1 => ?_) <;> (try rw [h1])
  · repeat ((conv => whnf); first | (refine And.intro (by first | rfl | exact Or.inl ⟨_, rfl⟩ | exact Or.inr rfl | exact le_b rfl | ((repeat' (first | exact Els.nil _ | refine Els.cons rfl rfl ?_)); done) | exact Els.map (fun _ => ⟨rfl, rfl⟩)  | kernel_rfl) ?_) )
    try (conv => whnf)
    exact resP.mk rfl (Sees.int (by rw [wayE, if_pos (.inl (by simpa using h1))]))
  have h0 : netE n = 0 := by simpa using h1
  repeat ((conv => whnf); first | (refine And.intro (by first | rfl | exact Or.inl ⟨_, rfl⟩ | exact Or.inr rfl | exact le_b rfl | ((repeat' (first | exact Els.nil _ | refine Els.cons rfl rfl ?_)); done) | exact Els.map (fun _ => ⟨rfl, rfl⟩)  | kernel_rfl) ?_) )
  try (conv => whnf)
  first | refine CallK.data rfl (c_Formed L s) rfl ?_ | refine CallP.data rfl (c_Formed L s) rfl ?_
  repeat ((conv => whnf); first | (refine And.intro (by first | rfl | exact Or.inl ⟨_, rfl⟩ | exact Or.inr rfl | exact le_b rfl | ((repeat' (first | exact Els.nil _ | refine Els.cons rfl rfl ?_)); done) | exact Els.map (fun _ => ⟨rfl, rfl⟩)  | kernel_rfl) ?_) )
  try (conv => whnf)
  refine BrK.mk (fun h2 => ?_) (fun h2 => ?_) <;> (try rw [h2])
  · have h2' : formB s = false := by simpa using h2
    repeat ((conv => whnf); first | (refine And.intro (by first | rfl | exact Or.inl ⟨_, rfl⟩ | exact Or.inr rfl | exact le_b rfl | ((repeat' (first | exact Els.nil _ | refine Els.cons rfl rfl ?_)); done) | exact Els.map (fun _ => ⟨rfl, rfl⟩)  | kernel_rfl) ?_) )
    try (conv => whnf)
    exact resP.mk rfl (Sees.int (by rw [wayE, if_pos (.inr (.inl h2'))]))
  · have h2' : formB s = true := by simpa using h2
    repeat ((conv => whnf); first | (refine And.intro (by first | rfl | exact Or.inl ⟨_, rfl⟩ | exact Or.inr rfl | exact le_b rfl | ((repeat' (first | exact Els.nil _ | refine Els.cons rfl rfl ?_)); done) | exact Els.map (fun _ => ⟨rfl, rfl⟩)  | kernel_rfl) ?_) )
    try (conv => whnf)
    first | refine CallK.data rfl (c_Fault32 L n.nodes f (by have := (netE_ok h0).nodes; omega) (by have := (netE_ok h0).nodes; omega)) rfl ?_ | refine CallP.data rfl (c_Fault32 L n.nodes f (by have := (netE_ok h0).nodes; omega) (by have := (netE_ok h0).nodes; omega)) rfl ?_
    repeat ((conv => whnf); first | (refine And.intro (by first | rfl | exact Or.inl ⟨_, rfl⟩ | exact Or.inr rfl | exact le_b rfl | ((repeat' (first | exact Els.nil _ | refine Els.cons rfl rfl ?_)); done) | exact Els.map (fun _ => ⟨rfl, rfl⟩)  | kernel_rfl) ?_) )
    try (conv => whnf)
    refine BrK.mk (fun h3 => ?_) (fun h3 => ?_) <;> (try rw [h3])
    · repeat ((conv => whnf); first | (refine And.intro (by first | rfl | exact Or.inl ⟨_, rfl⟩ | exact Or.inr rfl | exact le_b rfl | ((repeat' (first | exact Els.nil _ | refine Els.cons rfl rfl ?_)); done) | exact Els.map (fun _ => ⟨rfl, rfl⟩)  | kernel_rfl) ?_) )
      try (conv => whnf)
      exact resP.mk rfl (Sees.int (by rw [wayE, if_pos (.inr (.inr (by simpa using h3)))]))
    have h3' : flowE n.nodes f = 0 := by simpa using h3
    have hfb := flowE_ok h3'
    have e1 : ¬ (netE n ≠ 0 ∨ formB s = false ∨ flowE n.nodes f ≠ 0) := by simp [h0, h2', h3']
    obtain ⟨hs1, _, _⟩ := form_all h2'
    have hsz := sized_bd hs1
    repeat ((conv => whnf); first | (refine And.intro (by first | rfl | exact Or.inl ⟨_, rfl⟩ | exact Or.inr rfl | exact le_b rfl | ((repeat' (first | exact Els.nil _ | refine Els.cons rfl rfl ?_)); done) | exact Els.map (fun _ => ⟨rfl, rfl⟩) | exact (show f.period ≠ 0 by omega) | kernel_rfl) ?_) )
    try (conv => whnf)
    rw [tmod_eq (by omega)]
    refine BrK.mk (fun h4 => ?_) (fun h4 => ?_) <;> (try rw [h4])
    · repeat ((conv => whnf); first | (refine And.intro (by first | rfl | exact Or.inl ⟨_, rfl⟩ | exact Or.inr rfl | exact le_b rfl | ((repeat' (first | exact Els.nil _ | refine Els.cons rfl rfl ?_)); done) | exact Els.map (fun _ => ⟨rfl, rfl⟩)  | kernel_rfl) ?_) )
      try (conv => whnf)
      exact resP.mk rfl (Sees.int (by rw [wayE, if_neg e1, if_pos (by simpa using h4)]))
    repeat ((conv => whnf); first | (refine And.intro (by first | rfl | exact Or.inl ⟨_, rfl⟩ | exact Or.inr rfl | exact le_b rfl | ((repeat' (first | exact Els.nil _ | refine Els.cons rfl rfl ?_)); done) | exact Els.map (fun _ => ⟨rfl, rfl⟩)  | kernel_rfl) ?_) )
    try (conv => whnf)
    first | refine CallK.data rfl (c_Check33 L n hn f.src f.dst r hr) rfl ?_ | refine CallP.data rfl (c_Check33 L n hn f.src f.dst r hr) rfl ?_
    repeat ((conv => whnf); first | (refine And.intro (by first | rfl | exact Or.inl ⟨_, rfl⟩ | exact Or.inr rfl | exact le_b rfl | ((repeat' (first | exact Els.nil _ | refine Els.cons rfl rfl ?_)); done) | exact Els.map (fun _ => ⟨rfl, rfl⟩)  | kernel_rfl) ?_) )
    try (conv => whnf)
    exact resP.mk rfl (Sees.int (by rw [wayE, if_neg e1, if_neg (by simpa using h4)]))

def hopBx (s : Sched) (f : Flow) : List Ob := [.cells [.int .i64 s.len, .int .i64 s.offs, encCells s.cells] 29, .cells [.int .i64 f.id, .int .i64 f.src, .int .i64 f.dst, .int .i64 f.period, .int .i64 f.phase, .int .i64 f.dead] 31]
set_option maxHeartbeats 4000000 in
theorem c_hop (s : Sched) (f : Flow) (a b at_ stop : Int) (need : Nat) (hc : s.cells.length ≤ 512) (hl : 1 ≤ s.len) (h0 : 0 ≤ at_) (h1 : at_ ≤ stop) (h2 : stop ≤ 1099511627776) (h3 : need ≤ 16) :
    PCall Tryz.prog L 81 [s.av, f.av, .int .i64 a, .int .i64 b, .int .i64 need, .int .i64 at_, .int .i64 (stop - 1)] (.tup [encIs (slotsOn s f a b need at_ stop), .bool (((slotsOn s f a b need at_ stop).length : Int) == (need : Int))]) := by
  have ht0 : hS s f a b at_ need 0 0 = [] := by rw [hS_zero]; simp [allS]
  refine PCall.intro mixed [] (nt := 86) Tryz.func81 rfl rfl (by simp) ?_
  repeat ((conv => whnf); first | (refine And.intro (by first | rfl | exact Or.inl ⟨_, rfl⟩ | exact Or.inr rfl | exact le_b rfl | ((repeat' (first | exact Els.nil _ | refine Els.cons rfl rfl ?_)); done) | exact Els.map (fun _ => ⟨rfl, rfl⟩)  | kernel_rfl) ?_) )
  try (conv => whnf)
  refine LoopK.run mixed [] (fun d : Nat => at_ + d ≤ stop) (fun d => [(2, .int .i64 a), (3, .int .i64 b), (4, .int .i64 need), (6, .int .i64 (stop - 1)), (7, .ptr 0 0), (8, .ptr 1 0), (16, .own ((hS s f a b at_ need d 0).map encI) 0), (17, .int .i64 (at_ + d))]) (fun d => ⟨hopBx s f, [((hS s f a b at_ need d 0).length, 1)], 0, 0, fun _ => 3⟩) (fun d => (stop - at_).toNat - d) 0 (by omega) ?_ ?_
  · refine Fits.mk' rfl rfl rfl rfl ?_ ?_ ?_ ?_ ?_ <;> repeat' (first | exact trivial | refine And.intro ?_ ?_ | exact Sees.of_eq rfl | exact lt_b rfl | rfl | exact SeesL.rfl' _ | exact Sees.int (by simp) | exact Sees.own (by rw [ht0]; rfl) | (show (_, _) = (_, _); rw [ht0]; rfl))
  rintro d hd
  have htl := hS_len s f a b at_ need d 0
  have fin : ∀ t, (allS (cellsL s f a b) s.len at_ (stop - at_).toNat).take need = t → slotsOn s f a b need at_ stop = t := fun t ht => ht
  repeat ((conv => whnf); first | (refine And.intro (by first | rfl | exact Or.inl ⟨_, rfl⟩ | exact Or.inr rfl | exact le_b rfl | ((repeat' (first | exact Els.nil _ | refine Els.cons rfl rfl ?_)); done) | exact Els.map (fun _ => ⟨rfl, rfl⟩)  | kernel_rfl) ?_) )
  try (conv => whnf)
  refine BrK.mk (fun g1 => ?_) (fun g1 => ?_) <;> (try rw [g1])
  · have hlt : at_ + d < stop := by simp at g1; omega
    repeat ((conv => whnf); first | (refine And.intro (by first | rfl | exact Or.inl ⟨_, rfl⟩ | exact Or.inr rfl | exact le_b rfl | ((repeat' (first | exact Els.nil _ | refine Els.cons rfl rfl ?_)); done) | exact Els.map (fun _ => ⟨rfl, rfl⟩)  | kernel_rfl) ?_) )
    try (conv => whnf)
    refine BrK.mk (fun g2 => ?_) (fun g2 => ?_) <;> (try rw [g2])
    · have hnl : (hS s f a b at_ need d 0).length < need := by simp at g2; omega
      repeat ((conv => whnf); first | (refine And.intro (by first | rfl | exact Or.inl ⟨_, rfl⟩ | exact Or.inr rfl | exact le_b rfl | ((repeat' (first | exact Els.nil _ | refine Els.cons rfl rfl ?_)); done) | exact Els.map (fun _ => ⟨rfl, rfl⟩)  | kernel_rfl) ?_) )
      try (conv => whnf)
      refine LoopK.run mixed [] (fun j : Nat => j ≤ s.cells.length) (fun j => [(2, .int .i64 a), (3, .int .i64 b), (4, .int .i64 need), (6, .int .i64 (stop - 1)), (7, .ptr 0 0), (8, .ptr 1 0), (16, .own ((hS s f a b at_ need d j).map encI) 0), (17, .int .i64 (at_ + d)), (18, .int .i64 j)]) (fun j => ⟨hopBx s f, [((hS s f a b at_ need d j).length, 1)], 0, 0, fun _ => 3⟩) (fun j => s.cells.length - j) 0 (by omega) ?_ ?_
      · refine Fits.mk' rfl rfl rfl rfl ?_ ?_ ?_ ?_ ?_ <;> repeat' (first | exact trivial | refine And.intro ?_ ?_ | exact Sees.of_eq rfl | exact lt_b rfl | rfl | exact SeesL.rfl' _)
      rintro j hj
      have htl := hS_len s f a b at_ need d j
      repeat ((conv => whnf); first | (refine And.intro (by first | rfl | exact Or.inl ⟨_, rfl⟩ | exact Or.inr rfl | exact le_b rfl | ((repeat' (first | exact Els.nil _ | refine Els.cons rfl rfl ?_)); done) | exact Els.map (fun _ => ⟨rfl, rfl⟩)  | kernel_rfl) ?_) )
      try (conv => whnf)
      refine BrK.mk (fun g3 => ?_) (fun g3 => ?_) <;> (try rw [g3])
      · have hjt : j < s.cells.length := by simpa using g3
        obtain ⟨c, hgc⟩ := getLt hjt
        have hmc := getMap (f := Cell.av) hgc
        have skip : offL f.id a b c = true ∨ c.slot ≠ (at_ + d) % s.len → hS s f a b at_ need d (j + 1) = hS s f a b at_ need d j := hS_miss hgc
        repeat ((conv => whnf); first | (refine And.intro (by first | rfl | exact Or.inl ⟨_, rfl⟩ | exact Or.inr rfl | exact le_b rfl | ((repeat' (first | exact Els.nil _ | refine Els.cons rfl rfl ?_)); done) | exact Els.map (fun _ => ⟨rfl, rfl⟩) | exact inbMap hjt | exact (show s.len ≠ 0 by omega) | kernel_rfl) ?_) | rw [hmc])
        try (conv => whnf)
        rw [tmod_eq (by omega)]
        refine BrK.mk (fun k1 => ?_) (fun k1 => ?_) <;> (try rw [k1])
        · have k1' : c.slot = (at_ + d) % s.len := by simpa using k1
          repeat ((conv => whnf); first | (refine And.intro (by first | rfl | exact Or.inl ⟨_, rfl⟩ | exact Or.inr rfl | exact le_b rfl | ((repeat' (first | exact Els.nil _ | refine Els.cons rfl rfl ?_)); done) | exact Els.map (fun _ => ⟨rfl, rfl⟩)  | kernel_rfl) ?_) )
          try (conv => whnf)
          refine BrK.mk (fun k2 => ?_) (fun k2 => ?_) <;> (try rw [k2])
          · repeat ((conv => whnf); first | (refine And.intro (by first | rfl | exact Or.inl ⟨_, rfl⟩ | exact Or.inr rfl | exact le_b rfl | ((repeat' (first | exact Els.nil _ | refine Els.cons rfl rfl ?_)); done) | exact Els.map (fun _ => ⟨rfl, rfl⟩)  | kernel_rfl) ?_) )
            try (conv => whnf)
            refine BrK.mk (fun k3 => ?_) (fun k3 => ?_) <;> (try rw [k3])
            · repeat ((conv => whnf); first | (refine And.intro (by first | rfl | exact Or.inl ⟨_, rfl⟩ | exact Or.inr rfl | exact le_b rfl | ((repeat' (first | exact Els.nil _ | refine Els.cons rfl rfl ?_)); done) | exact Els.map (fun _ => ⟨rfl, rfl⟩)  | kernel_rfl) ?_) )
              try (conv => whnf)
              refine BrK.mk (fun k4 => ?_) (fun k4 => ?_) <;> (try rw [k4])
              · have hoff : offL f.id a b c = false := by unfold offL; simp at k2 k3 k4; simp [k2, k3, k4]
                repeat ((conv => whnf); first | (refine And.intro (by first | rfl | exact Or.inl ⟨_, rfl⟩ | exact Or.inr rfl | exact le_b rfl | ((repeat' (first | exact Els.nil _ | refine Els.cons rfl rfl ?_)); done) | exact Els.map (fun _ => ⟨rfl, rfl⟩)  | kernel_rfl) ?_) )
                try (conv => whnf)
                refine BrK.mk (fun k5 => ?_) (fun k5 => ?_) <;> (try rw [k5])
                · have hlt2 : (hS s f a b at_ need d j).length < need := by simp at k5; omega
                  have hT := hS_hit hgc hoff k1' hlt2
                  repeat ((conv => whnf); first | (refine And.intro (by first | rfl | exact Or.inl ⟨_, rfl⟩ | exact Or.inr rfl | exact le_b rfl | ((repeat' (first | exact Els.nil _ | refine Els.cons rfl rfl ?_)); done) | exact Els.map (fun _ => ⟨rfl, rfl⟩) | exact Els.map (f := encI) (fun _ => ⟨rfl, rfl⟩) | exact (show _ * 8 ≤ _ by simp only [List.length_map, List.length_append, List.length_cons, List.length_nil]; omega) | exact (by simp only [List.length_map, List.length_append, List.length_cons, List.length_nil, maxLen]; omega) | exact (show some (_, _) = some (_, _) by simp only [List.length_map]) | kernel_rfl) ?_) )
                  try (conv => whnf)
                  refine ⟨j + 1, by omega, by omega, ?_⟩
                  rw [hT]
                  refine Fits.mk' rfl rfl rfl rfl ?_ ?_ ?_ ?_ ?_ <;> repeat' (first | exact trivial | refine And.intro ?_ ?_ | exact Sees.of_eq rfl | exact lt_b rfl | rfl | exact SeesL.rfl' _ | exact Sees.int (succI hjt (by omega)) | exact Sees.own (by simp [encI]) | (show (_, _) = (_, _); simp only [List.length_append, List.length_map, List.length_cons, List.length_nil, Nat.add_assoc]))
                · have hT := hS_full hgc (show (hS s f a b at_ need d j).length = need by simp at k5; omega)
                  have hT := hT
                  repeat ((conv => whnf); first | (refine And.intro (by first | rfl | exact Or.inl ⟨_, rfl⟩ | exact Or.inr rfl | exact le_b rfl | ((repeat' (first | exact Els.nil _ | refine Els.cons rfl rfl ?_)); done) | exact Els.map (fun _ => ⟨rfl, rfl⟩)  | kernel_rfl) ?_) )
                  try (conv => whnf)
                  refine ⟨j + 1, by omega, by omega, ?_⟩
                  rw [hT]
                  refine Fits.mk' rfl rfl rfl rfl ?_ ?_ ?_ ?_ ?_ <;> repeat' (first | exact trivial | refine And.intro ?_ ?_ | exact Sees.of_eq rfl | exact lt_b rfl | rfl | exact SeesL.rfl' _ | exact Sees.int (succI hjt (by omega)))
              · have hT := (skip (.inl (by unfold offL; simp at k4; simp [k4])))
                repeat ((conv => whnf); first | (refine And.intro (by first | rfl | exact Or.inl ⟨_, rfl⟩ | exact Or.inr rfl | exact le_b rfl | ((repeat' (first | exact Els.nil _ | refine Els.cons rfl rfl ?_)); done) | exact Els.map (fun _ => ⟨rfl, rfl⟩)  | kernel_rfl) ?_) )
                try (conv => whnf)
                refine ⟨j + 1, by omega, by omega, ?_⟩
                rw [hT]
                refine Fits.mk' rfl rfl rfl rfl ?_ ?_ ?_ ?_ ?_ <;> repeat' (first | exact trivial | refine And.intro ?_ ?_ | exact Sees.of_eq rfl | exact lt_b rfl | rfl | exact SeesL.rfl' _ | exact Sees.int (succI hjt (by omega)))
            · have hT := (skip (.inl (by unfold offL; simp at k3; simp [k3])))
              repeat ((conv => whnf); first | (refine And.intro (by first | rfl | exact Or.inl ⟨_, rfl⟩ | exact Or.inr rfl | exact le_b rfl | ((repeat' (first | exact Els.nil _ | refine Els.cons rfl rfl ?_)); done) | exact Els.map (fun _ => ⟨rfl, rfl⟩)  | kernel_rfl) ?_) )
              try (conv => whnf)
              refine ⟨j + 1, by omega, by omega, ?_⟩
              rw [hT]
              refine Fits.mk' rfl rfl rfl rfl ?_ ?_ ?_ ?_ ?_ <;> repeat' (first | exact trivial | refine And.intro ?_ ?_ | exact Sees.of_eq rfl | exact lt_b rfl | rfl | exact SeesL.rfl' _ | exact Sees.int (succI hjt (by omega)))
          · have hT := (skip (.inl (by unfold offL; simp at k2; simp [k2])))
            repeat ((conv => whnf); first | (refine And.intro (by first | rfl | exact Or.inl ⟨_, rfl⟩ | exact Or.inr rfl | exact le_b rfl | ((repeat' (first | exact Els.nil _ | refine Els.cons rfl rfl ?_)); done) | exact Els.map (fun _ => ⟨rfl, rfl⟩)  | kernel_rfl) ?_) )
            try (conv => whnf)
            refine ⟨j + 1, by omega, by omega, ?_⟩
            rw [hT]
            refine Fits.mk' rfl rfl rfl rfl ?_ ?_ ?_ ?_ ?_ <;> repeat' (first | exact trivial | refine And.intro ?_ ?_ | exact Sees.of_eq rfl | exact lt_b rfl | rfl | exact SeesL.rfl' _ | exact Sees.int (succI hjt (by omega)))
        · have hT := (skip (.inr (by simpa using k1)))
          repeat ((conv => whnf); first | (refine And.intro (by first | rfl | exact Or.inl ⟨_, rfl⟩ | exact Or.inr rfl | exact le_b rfl | ((repeat' (first | exact Els.nil _ | refine Els.cons rfl rfl ?_)); done) | exact Els.map (fun _ => ⟨rfl, rfl⟩)  | kernel_rfl) ?_) )
          try (conv => whnf)
          refine ⟨j + 1, by omega, by omega, ?_⟩
          rw [hT]
          refine Fits.mk' rfl rfl rfl rfl ?_ ?_ ?_ ?_ ?_ <;> repeat' (first | exact trivial | refine And.intro ?_ ?_ | exact Sees.of_eq rfl | exact lt_b rfl | rfl | exact SeesL.rfl' _ | exact Sees.int (succI hjt (by omega)))
      · have hjn : j = s.cells.length := by simp at g3; omega
        subst hjn
        repeat ((conv => whnf); first | (refine And.intro (by first | rfl | exact Or.inl ⟨_, rfl⟩ | exact Or.inr rfl | exact le_b rfl | ((repeat' (first | exact Els.nil _ | refine Els.cons rfl rfl ?_)); done) | exact Els.map (fun _ => ⟨rfl, rfl⟩)  | kernel_rfl) ?_) )
        try (conv => whnf)
        refine ⟨d + 1, by omega, by omega, ?_⟩
        rw [← hS_next]
        refine Fits.mk' rfl rfl rfl rfl ?_ ?_ ?_ ?_ ?_ <;> repeat' (first | exact trivial | refine And.intro ?_ ?_ | exact Sees.of_eq rfl | exact lt_b rfl | rfl | exact SeesL.rfl' _ | exact Sees.int (by rw [w64] <;> omega))
    · have hnl : (hS s f a b at_ need d 0).length = need := by simp at g2; omega
      rw [fin _ (hS_done (e := (stop - at_).toNat) (by omega) hnl)]
      repeat ((conv => whnf); first | (refine And.intro (by first | rfl | exact Or.inl ⟨_, rfl⟩ | exact Or.inr rfl | exact le_b rfl | ((repeat' (first | exact Els.nil _ | refine Els.cons rfl rfl ?_)); done) | exact Els.map (fun _ => ⟨rfl, rfl⟩)  | kernel_rfl) ?_) )
      try (conv => whnf)
      exact resP.mk rfl (Sees.of_eq (by simp [encIs]))
  · have hde : d = (stop - at_).toNat := by simp at g1; omega
    rw [fin _ (by rw [hS_zero, hde] : _ = hS s f a b at_ need d 0)]
    repeat ((conv => whnf); first | (refine And.intro (by first | rfl | exact Or.inl ⟨_, rfl⟩ | exact Or.inr rfl | exact le_b rfl | ((repeat' (first | exact Els.nil _ | refine Els.cons rfl rfl ?_)); done) | exact Els.map (fun _ => ⟨rfl, rfl⟩)  | kernel_rfl) ?_) )
    try (conv => whnf)
    exact resP.mk rfl (Sees.of_eq (by simp [encIs]))
end
end HM
