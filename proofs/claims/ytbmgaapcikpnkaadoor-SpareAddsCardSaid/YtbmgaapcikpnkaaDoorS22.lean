/- A place that was taken: the plain law. -/
import Derived.Test.YtbmgaapcikpnkaaDoorS19
import Derived.Test.YtbmgaapcikpnkaaDoorS15
import Derived.Test.YtbmgaapcikpnkaaDoorDa

set_option maxRecDepth 100000
namespace HM
open Go Go.RowKit Go.Proofs

theorem check_mask {s : Sched} (h : formB s = true) : checkM (maskM s s.cells) s.len s.offs = 0 := by
  obtain ⟨hs, hl, hc⟩ := form_all h
  have hb := sized_bd hs
  have hlen := maskM_len s s.cells
  rw [checkM, if_neg (by omega), if_neg (by rw [hlen]; omega), if_neg]
  have : (maskM s s.cells).any (outB s.offs) = false := by
    rw [List.any_eq_false]
    intro x hx
    have := maskM_bd s s.cells x hx
    unfold fullI at this
    simp [outB]; omega
  simp [this]

/-- whether a place can be taken, as the law says it -/
def openL (s : Sched) (used : List Cell) (src dst i j : Int) : Bool := !s.cells.any (busy2 i src dst) && !used.any (busy2 i src dst) && !s.cells.any (takenC i j) && !used.any (takenC i j)
theorem openL_eq {s : Sched} (h : formB s = true) (used : List Cell) (src dst : Int) {i j : Nat} (hi : i < s.len.toNat) (hj : j < s.offs.toNat) : openL s used src dst i j = openAt s (maskM s s.cells) used src dst i j := by
  obtain ⟨hs, hl, hc⟩ := form_all h
  have hb := sized_bd hs
  unfold openL openAt slotBusy
  rw [maskM_bit (by omega) s.cells (fun c hh => by have := formed_bd (hc c hh); omega) i j hi hj, busy2_at, busy2_at]
  unfold takenAt
  cases busyAt s.cells i src <;> cases busyAt s.cells i dst <;> cases busyAt used i src <;> cases busyAt used i dst <;> simp

theorem c_obusy (L : World → Prop) (slot src dst : Int) (c : Cell) : PCall Tryd.prog L 14 [c.av, .cptr (.agg [.int .i64 slot]) 0, .cptr (.agg [.int .i64 src]) 0, .cptr (.agg [.int .i64 dst]) 0] (.bool (busy2 slot src dst c)) := by
  refine PCall.intro mixed [] (nt := 34) Tryd.func14 rfl rfl (by simp) ?_
  repeat' ((conv => whnf); first | (refine And.intro (by first | rfl | exact Or.inl ⟨_, rfl⟩ | exact Or.inr rfl | exact le_b rfl | ((repeat' (first | exact Els.nil _ | refine Els.cons rfl rfl ?_)); done) | exact Els.map (fun _ => ⟨rfl, rfl⟩)  | kernel_rfl) ?_)  | (refine BrK.mk (fun hb => ?_) (fun hb => ?_) <;> (try rw [hb])))
  all_goals try (conv => whnf)
  all_goals exact resP.mk rfl (Sees.bool (by first | (simp_all [busy2]; done) | (simp_all [busy2]; omega) | (rw [Bool.eq_iff_iff]; simp_all [busy2]; done) | (rw [Bool.eq_iff_iff]; simp_all [busy2]; omega)))

theorem c_oat (L : World → Prop) (slot off : Int) (c : Cell) : PCall Tryd.prog L 15 [c.av, .cptr (.agg [.int .i64 slot]) 0, .cptr (.agg [.int .i64 off]) 0] (.bool (takenC slot off c)) := by
  refine PCall.intro mixed [] (nt := 15) Tryd.func15 rfl rfl (by simp) ?_
  repeat' ((conv => whnf); first | (refine And.intro (by first | rfl | exact Or.inl ⟨_, rfl⟩ | exact Or.inr rfl | exact le_b rfl | ((repeat' (first | exact Els.nil _ | refine Els.cons rfl rfl ?_)); done) | exact Els.map (fun _ => ⟨rfl, rfl⟩)  | kernel_rfl) ?_)  | (refine BrK.mk (fun hb => ?_) (fun hb => ?_) <;> (try rw [hb])))
  all_goals try (conv => whnf)
  all_goals exact resP.mk rfl (Sees.bool (by first | (simp_all [takenC]; done) | (simp_all [takenC]; omega) | (rw [Bool.eq_iff_iff]; simp_all [takenC]; done) | (rw [Bool.eq_iff_iff]; simp_all [takenC]; omega)))

theorem c_open (L : World → Prop) (s : Sched) (used : List Cell) (src dst i j : Int) (hs : s.cells.length ≤ 40) (hu : used.length ≤ 30) :
    PCall Tryd.prog L 13 [.int .i64 i, .int .i64 j, .cptr (.agg [.int .i64 src]) 0, .cptr (.agg [.int .i64 dst]) 0, .cptr s.av 0, .cptr (.agg [encCells used]) 0] (.bool (openL s used src dst i j)) := by
  refine PCall.intro mixed [] (nt := 37) Tryd.func13 rfl rfl (by simp) ?_
  repeat ((conv => whnf); first | (refine And.intro (by first | rfl | exact Or.inl ⟨_, rfl⟩ | exact Or.inr rfl | exact le_b rfl | ((repeat' (first | exact Els.nil _ | refine Els.cons rfl rfl ?_)); done) | exact Els.map (fun _ => ⟨rfl, rfl⟩)  | kernel_rfl) ?_) )
  try (conv => whnf)
  first | refine CallK.box rfl (c_ContainsFuncCell L s.cells (busy2 i src dst) 14 [.cptr (.agg [.int .i64 i]) 0, .cptr (.agg [.int .i64 src]) 0, .cptr (.agg [.int .i64 dst]) 0] (by omega) rfl rfl (fun c _ => c_obusy L i src dst c)) rfl rfl ?_ | refine CallP.box rfl (c_ContainsFuncCell L s.cells (busy2 i src dst) 14 [.cptr (.agg [.int .i64 i]) 0, .cptr (.agg [.int .i64 src]) 0, .cptr (.agg [.int .i64 dst]) 0] (by omega) rfl rfl (fun c _ => c_obusy L i src dst c)) rfl rfl ?_
  repeat ((conv => whnf); first | (refine And.intro (by first | rfl | exact Or.inl ⟨_, rfl⟩ | exact Or.inr rfl | exact le_b rfl | ((repeat' (first | exact Els.nil _ | refine Els.cons rfl rfl ?_)); done) | exact Els.map (fun _ => ⟨rfl, rfl⟩)  | kernel_rfl) ?_) )
  try (conv => whnf)
  refine BrK.mk (fun d1 => ?_) (fun d1 => ?_) <;> (try rw [d1])
  · repeat ((conv => whnf); first | (refine And.intro (by first | rfl | exact Or.inl ⟨_, rfl⟩ | exact Or.inr rfl | exact le_b rfl | ((repeat' (first | exact Els.nil _ | refine Els.cons rfl rfl ?_)); done) | exact Els.map (fun _ => ⟨rfl, rfl⟩)  | kernel_rfl) ?_) )
    try (conv => whnf)
    first | refine CallK.box rfl (c_ContainsFuncCell L used (busy2 i src dst) 14 [.cptr (.agg [.int .i64 i]) 0, .cptr (.agg [.int .i64 src]) 0, .cptr (.agg [.int .i64 dst]) 0] (by omega) rfl rfl (fun c _ => c_obusy L i src dst c)) rfl rfl ?_ | refine CallP.box rfl (c_ContainsFuncCell L used (busy2 i src dst) 14 [.cptr (.agg [.int .i64 i]) 0, .cptr (.agg [.int .i64 src]) 0, .cptr (.agg [.int .i64 dst]) 0] (by omega) rfl rfl (fun c _ => c_obusy L i src dst c)) rfl rfl ?_
    repeat ((conv => whnf); first | (refine And.intro (by first | rfl | exact Or.inl ⟨_, rfl⟩ | exact Or.inr rfl | exact le_b rfl | ((repeat' (first | exact Els.nil _ | refine Els.cons rfl rfl ?_)); done) | exact Els.map (fun _ => ⟨rfl, rfl⟩)  | kernel_rfl) ?_) )
    try (conv => whnf)
    refine BrK.mk (fun d2 => ?_) (fun d2 => ?_) <;> (try rw [d2])
    · repeat ((conv => whnf); first | (refine And.intro (by first | rfl | exact Or.inl ⟨_, rfl⟩ | exact Or.inr rfl | exact le_b rfl | ((repeat' (first | exact Els.nil _ | refine Els.cons rfl rfl ?_)); done) | exact Els.map (fun _ => ⟨rfl, rfl⟩)  | kernel_rfl) ?_) )
      try (conv => whnf)
      first | refine CallK.box rfl (c_ContainsFuncCell L s.cells (takenC i j) 15 [.cptr (.agg [.int .i64 i]) 0, .cptr (.agg [.int .i64 j]) 0] (by omega) rfl rfl (fun c _ => c_oat L i j c)) rfl rfl ?_ | refine CallP.box rfl (c_ContainsFuncCell L s.cells (takenC i j) 15 [.cptr (.agg [.int .i64 i]) 0, .cptr (.agg [.int .i64 j]) 0] (by omega) rfl rfl (fun c _ => c_oat L i j c)) rfl rfl ?_
      repeat ((conv => whnf); first | (refine And.intro (by first | rfl | exact Or.inl ⟨_, rfl⟩ | exact Or.inr rfl | exact le_b rfl | ((repeat' (first | exact Els.nil _ | refine Els.cons rfl rfl ?_)); done) | exact Els.map (fun _ => ⟨rfl, rfl⟩)  | kernel_rfl) ?_) )
      try (conv => whnf)
      refine BrK.mk (fun d3 => ?_) (fun d3 => ?_) <;> (try rw [d3])
      · repeat ((conv => whnf); first | (refine And.intro (by first | rfl | exact Or.inl ⟨_, rfl⟩ | exact Or.inr rfl | exact le_b rfl | ((repeat' (first | exact Els.nil _ | refine Els.cons rfl rfl ?_)); done) | exact Els.map (fun _ => ⟨rfl, rfl⟩)  | kernel_rfl) ?_) )
        try (conv => whnf)
        first | refine CallK.box rfl (c_ContainsFuncCell L used (takenC i j) 15 [.cptr (.agg [.int .i64 i]) 0, .cptr (.agg [.int .i64 j]) 0] (by omega) rfl rfl (fun c _ => c_oat L i j c)) rfl rfl ?_ | refine CallP.box rfl (c_ContainsFuncCell L used (takenC i j) 15 [.cptr (.agg [.int .i64 i]) 0, .cptr (.agg [.int .i64 j]) 0] (by omega) rfl rfl (fun c _ => c_oat L i j c)) rfl rfl ?_
        repeat ((conv => whnf); first | (refine And.intro (by first | rfl | exact Or.inl ⟨_, rfl⟩ | exact Or.inr rfl | exact le_b rfl | ((repeat' (first | exact Els.nil _ | refine Els.cons rfl rfl ?_)); done) | exact Els.map (fun _ => ⟨rfl, rfl⟩)  | kernel_rfl) ?_) )
        try (conv => whnf)
        exact resP.mk rfl (Sees.bool (by unfold openL; rw [d1, d2, d3]; rfl))
      · repeat ((conv => whnf); first | (refine And.intro (by first | rfl | exact Or.inl ⟨_, rfl⟩ | exact Or.inr rfl | exact le_b rfl | ((repeat' (first | exact Els.nil _ | refine Els.cons rfl rfl ?_)); done) | exact Els.map (fun _ => ⟨rfl, rfl⟩)  | kernel_rfl) ?_) )
        try (conv => whnf)
        exact resP.mk rfl (Sees.bool (by unfold openL; rw [d3]; simp))
    · repeat ((conv => whnf); first | (refine And.intro (by first | rfl | exact Or.inl ⟨_, rfl⟩ | exact Or.inr rfl | exact le_b rfl | ((repeat' (first | exact Els.nil _ | refine Els.cons rfl rfl ?_)); done) | exact Els.map (fun _ => ⟨rfl, rfl⟩)  | kernel_rfl) ?_) )
      try (conv => whnf)
      exact resP.mk rfl (Sees.bool (by unfold openL; rw [d2]; simp))
  · repeat ((conv => whnf); first | (refine And.intro (by first | rfl | exact Or.inl ⟨_, rfl⟩ | exact Or.inr rfl | exact le_b rfl | ((repeat' (first | exact Els.nil _ | refine Els.cons rfl rfl ?_)); done) | exact Els.map (fun _ => ⟨rfl, rfl⟩)  | kernel_rfl) ?_) )
    try (conv => whnf)
    exact resP.mk rfl (Sees.bool (by unfold openL; rw [d1]; simp))
end HM
