/- The reference's Take, whole. -/
import Derived.Test.YtbmgaapcikpnkaaDoorS16

set_option maxRecDepth 100000
namespace HM
open Go Go.RowKit Go.Proofs
section
variable (L : World → Prop)

theorem insB_in (n : Int) (m : Int) : inB n 0 (m - 1) = insB n m := by
  unfold inB insB
  rw [show decide (n ≤ m - 1) = decide (n < m) from by rw [decide_eq_decide]; omega]

theorem checkM_ok {f : List Int} {len offs : Int} (h : checkM f len offs = 0) : (f.length : Int) = len ∧ 1 ≤ len ∧ len ≤ 512 ∧ 1 ≤ offs ∧ offs ≤ 16 ∧ ∀ x ∈ f, 0 ≤ x ∧ x < 2 ^ offs.toNat := by
  unfold checkM at h
  split at h
  · omega
  · split at h
    · omega
    · split at h
      · omega
      · rename_i h1 h2 h3
        refine ⟨by omega, by omega, by omega, by omega, by omega, fun x hx => ?_⟩
        have := List.any_eq_false.1 (Bool.eq_false_iff.2 h3) x hx
        simp [outB] at this
        omega

theorem openAt_no {s : Sched} {f : List Int} {used : List Cell} {src dst : Int} {i : Nat} (h : slotBusy s used src dst i = true) (j : Nat) : openAt s f used src dst i j = false := by
  unfold openAt; rw [h]; rfl

theorem c_rtake (s : Sched) (f : List Int) (used : List Cell) (src dst : Int) (hf : f.length ≤ 281474976710656) (hu : used.length ≤ 281474976710656) :
    PCall Tryd.prog L 9 [s.av, encIs f, encCells used, .int .i64 src, .int .i64 dst] (.tup [(takeM s f used src dst).1.av, .int .i64 (takeM s f used src dst).2]) := by
  refine PCall.intro mixed [] (nt := 102) Tryd.func9 rfl rfl (by simp) ?_
  repeat ((conv => whnf); first | (refine And.intro (by first | rfl | exact Or.inl ⟨_, rfl⟩ | exact Or.inr rfl | exact le_b rfl | ((repeat' (first | exact Els.nil _ | refine Els.cons rfl rfl ?_)); done) | exact Els.map (fun _ => ⟨rfl, rfl⟩)  | kernel_rfl) ?_) )
  try (conv => whnf)
  first | refine CallK.data rfl (c_Formed L s) rfl ?_ | refine CallP.data rfl (c_Formed L s) rfl ?_
  repeat ((conv => whnf); first | (refine And.intro (by first | rfl | exact Or.inl ⟨_, rfl⟩ | exact Or.inr rfl | exact le_b rfl | ((repeat' (first | exact Els.nil _ | refine Els.cons rfl rfl ?_)); done) | exact Els.map (fun _ => ⟨rfl, rfl⟩)  | kernel_rfl) ?_) )
  try (conv => whnf)
  refine BrK.mk (fun g1 => ?_) (fun g1 => ?_) <;> (try rw [g1])
  · repeat ((conv => whnf); first | (refine And.intro (by first | rfl | exact Or.inl ⟨_, rfl⟩ | exact Or.inr rfl | exact le_b rfl | ((repeat' (first | exact Els.nil _ | refine Els.cons rfl rfl ?_)); done) | exact Els.map (fun _ => ⟨rfl, rfl⟩)  | kernel_rfl) ?_) )
    try (conv => whnf)
    exact resP.mk rfl (Sees.of_eq (by rw [takeM, if_pos (.inl (by simpa using g1))]; rfl))
  have g1' : formB s = true := by simpa using g1
  obtain ⟨hs1, hs2, hs3⟩ := form_all g1'
  have hsz : 1 ≤ s.len ∧ s.len ≤ 512 ∧ 1 ≤ s.offs ∧ s.offs ≤ 16 := by simp [sizedB] at hs1; omega
  repeat ((conv => whnf); first | (refine And.intro (by first | rfl | exact Or.inl ⟨_, rfl⟩ | exact Or.inr rfl | exact le_b rfl | ((repeat' (first | exact Els.nil _ | refine Els.cons rfl rfl ?_)); done) | exact Els.map (fun _ => ⟨rfl, rfl⟩)  | kernel_rfl) ?_) )
  try (conv => whnf)
  first | refine CallK.data rfl (c_rcheck L f s.len s.offs hf) rfl ?_ | refine CallP.data rfl (c_rcheck L f s.len s.offs hf) rfl ?_
  repeat ((conv => whnf); first | (refine And.intro (by first | rfl | exact Or.inl ⟨_, rfl⟩ | exact Or.inr rfl | exact le_b rfl | ((repeat' (first | exact Els.nil _ | refine Els.cons rfl rfl ?_)); done) | exact Els.map (fun _ => ⟨rfl, rfl⟩)  | kernel_rfl) ?_) )
  try (conv => whnf)
  refine BrK.mk (fun g2 => ?_) (fun g2 => ?_) <;> (try rw [g2])
  · repeat ((conv => whnf); first | (refine And.intro (by first | rfl | exact Or.inl ⟨_, rfl⟩ | exact Or.inr rfl | exact le_b rfl | ((repeat' (first | exact Els.nil _ | refine Els.cons rfl rfl ?_)); done) | exact Els.map (fun _ => ⟨rfl, rfl⟩)  | kernel_rfl) ?_) )
    try (conv => whnf)
    exact resP.mk rfl (Sees.of_eq (by rw [takeM, if_pos (.inr (by simpa using g2))]; rfl))
  have g2' : ¬ (formB s = false ∨ checkM f s.len s.offs ≠ 0) := by simp [g1']; simpa using g2
  repeat ((conv => whnf); first | (refine And.intro (by first | rfl | exact Or.inl ⟨_, rfl⟩ | exact Or.inr rfl | exact le_b rfl | ((repeat' (first | exact Els.nil _ | refine Els.cons rfl rfl ?_)); done) | exact Els.map (fun _ => ⟨rfl, rfl⟩)  | kernel_rfl) ?_) )
  try (conv => whnf)
  first | refine CallK.data rfl (c_in44 L src 0 31) rfl ?_ | refine CallP.data rfl (c_in44 L src 0 31) rfl ?_
  rw [show inB src 0 31 = insB src 32 from insB_in src 32]
  repeat ((conv => whnf); first | (refine And.intro (by first | rfl | exact Or.inl ⟨_, rfl⟩ | exact Or.inr rfl | exact le_b rfl | ((repeat' (first | exact Els.nil _ | refine Els.cons rfl rfl ?_)); done) | exact Els.map (fun _ => ⟨rfl, rfl⟩)  | kernel_rfl) ?_) )
  try (conv => whnf)
  refine BrK.mk (fun g3 => ?_) (fun g3 => ?_) <;> (try rw [g3])
  · repeat ((conv => whnf); first | (refine And.intro (by first | rfl | exact Or.inl ⟨_, rfl⟩ | exact Or.inr rfl | exact le_b rfl | ((repeat' (first | exact Els.nil _ | refine Els.cons rfl rfl ?_)); done) | exact Els.map (fun _ => ⟨rfl, rfl⟩)  | kernel_rfl) ?_) )
    try (conv => whnf)
    exact resP.mk rfl (Sees.of_eq (by rw [takeM, if_neg g2', if_pos (.inl (by simpa using g3))]; rfl))
  repeat ((conv => whnf); first | (refine And.intro (by first | rfl | exact Or.inl ⟨_, rfl⟩ | exact Or.inr rfl | exact le_b rfl | ((repeat' (first | exact Els.nil _ | refine Els.cons rfl rfl ?_)); done) | exact Els.map (fun _ => ⟨rfl, rfl⟩)  | kernel_rfl) ?_) )
  try (conv => whnf)
  first | refine CallK.data rfl (c_in44 L dst 0 31) rfl ?_ | refine CallP.data rfl (c_in44 L dst 0 31) rfl ?_
  rw [show inB dst 0 31 = insB dst 32 from insB_in dst 32]
  repeat ((conv => whnf); first | (refine And.intro (by first | rfl | exact Or.inl ⟨_, rfl⟩ | exact Or.inr rfl | exact le_b rfl | ((repeat' (first | exact Els.nil _ | refine Els.cons rfl rfl ?_)); done) | exact Els.map (fun _ => ⟨rfl, rfl⟩)  | kernel_rfl) ?_) )
  try (conv => whnf)
  refine BrK.mk (fun g4 => ?_) (fun g4 => ?_) <;> (try rw [g4])
  · repeat ((conv => whnf); first | (refine And.intro (by first | rfl | exact Or.inl ⟨_, rfl⟩ | exact Or.inr rfl | exact le_b rfl | ((repeat' (first | exact Els.nil _ | refine Els.cons rfl rfl ?_)); done) | exact Els.map (fun _ => ⟨rfl, rfl⟩)  | kernel_rfl) ?_) )
    try (conv => whnf)
    exact resP.mk rfl (Sees.of_eq (by rw [takeM, if_neg g2', if_pos (.inr (.inl (by simpa using g4)))]; rfl))
  repeat ((conv => whnf); first | (refine And.intro (by first | rfl | exact Or.inl ⟨_, rfl⟩ | exact Or.inr rfl | exact le_b rfl | ((repeat' (first | exact Els.nil _ | refine Els.cons rfl rfl ?_)); done) | exact Els.map (fun _ => ⟨rfl, rfl⟩)  | kernel_rfl) ?_) )
  try (conv => whnf)
  refine BrK.mk (fun g5 => ?_) (fun g5 => ?_) <;> (try rw [g5])
  · repeat ((conv => whnf); first | (refine And.intro (by first | rfl | exact Or.inl ⟨_, rfl⟩ | exact Or.inr rfl | exact le_b rfl | ((repeat' (first | exact Els.nil _ | refine Els.cons rfl rfl ?_)); done) | exact Els.map (fun _ => ⟨rfl, rfl⟩)  | kernel_rfl) ?_) )
    try (conv => whnf)
    exact resP.mk rfl (Sees.of_eq (by rw [takeM, if_neg g2', if_pos (.inr (.inr (by simpa using g5)))]; rfl))
  have g5' : ¬ (insB src 32 = false ∨ insB dst 32 = false ∨ src = dst) := by simp at g3 g4 g5; simp [g3, g4, g5]
  repeat ((conv => whnf); first | (refine And.intro (by first | rfl | exact Or.inl ⟨_, rfl⟩ | exact Or.inr rfl | exact le_b rfl | ((repeat' (first | exact Els.nil _ | refine Els.cons rfl rfl ?_)); done) | exact Els.map (fun _ => ⟨rfl, rfl⟩)  | kernel_rfl) ?_) )
  try (conv => whnf)
  refine BrK.mk (fun g6 => ?_) (fun g6 => ?_) <;> (try rw [g6])
  · repeat ((conv => whnf); first | (refine And.intro (by first | rfl | exact Or.inl ⟨_, rfl⟩ | exact Or.inr rfl | exact le_b rfl | ((repeat' (first | exact Els.nil _ | refine Els.cons rfl rfl ?_)); done) | exact Els.map (fun _ => ⟨rfl, rfl⟩)  | kernel_rfl) ?_) )
    try (conv => whnf)
    exact resP.mk rfl (Sees.of_eq (by rw [takeM, if_neg g2', if_neg g5', if_pos (by simp at g6; omega)]; rfl))
  have g6' : ¬ 1024 < used.length := by simp at g6; omega
  repeat ((conv => whnf); first | (refine And.intro (by first | rfl | exact Or.inl ⟨_, rfl⟩ | exact Or.inr rfl | exact le_b rfl | ((repeat' (first | exact Els.nil _ | refine Els.cons rfl rfl ?_)); done) | exact Els.map (fun _ => ⟨rfl, rfl⟩)  | kernel_rfl) ?_) )
  try (conv => whnf)
  obtain ⟨n, hn⟩ : ∃ n : Nat, s.len = n := ⟨s.len.toNat, by omega⟩
  obtain ⟨o, ho⟩ : ∃ o : Nat, s.offs = o := ⟨s.offs.toNat, by omega⟩
  obtain ⟨k1, _, _, _, _, k2⟩ := checkM_ok (f := f) (len := s.len) (offs := s.offs) (by simpa using g2)
  have hT : takeM s f used src dst = placeR src dst (firstP n o (openAt s f used src dst)) := by
    rw [takeM, if_neg g2', if_neg g5', if_neg g6', hn, ho, Int.toNat_natCast, Int.toNat_natCast]
  rw [hT]
  refine LoopK.run mixed [] (fun (i : Nat) => i ≤ n ∧ ∀ i' j', i' < i → j' < o → openAt s f used src dst i' j' = false) (fun i => [(1, encIs f), (2, encCells used), (3, .int .i64 src), (4, .int .i64 dst), (5, .ptr 0 0), (10, .ptr 1 0), (11, .int .i64 0), (12, .int .i64 i)]) (fun i => ⟨[.cells [.int .i64 s.len, .int .i64 s.offs, encCells s.cells] 24, .cells [.int .i64 0, .int .i64 0, .int .i64 0, .int .i64 0, .int .i64 0] 29], [], 0, 0, fun _ => 0⟩) (fun i => n - i) 0 ⟨by simp, by simp⟩ ?_ ?_
  · refine Fits.mk' rfl rfl rfl rfl ?_ ?_ ?_ ?_ ?_ <;> repeat' (first | exact trivial | refine And.intro ?_ ?_ | exact Sees.of_eq rfl | exact lt_b rfl | rfl )
  rintro i ⟨hi, hinv⟩
  repeat ((conv => whnf); first | (refine And.intro (by first | rfl | exact Or.inl ⟨_, rfl⟩ | exact Or.inr rfl | exact le_b rfl | ((repeat' (first | exact Els.nil _ | refine Els.cons rfl rfl ?_)); done) | exact Els.map (fun _ => ⟨rfl, rfl⟩)  | kernel_rfl) ?_) )
  try (conv => whnf)
  refine BrK.mk (fun hb => ?_) (fun hb => ?_) <;> (try rw [hb])
  · have hlt : i < n := by rw [hn] at hb; simpa using hb
    obtain ⟨m, hm⟩ := getLt (l := f) (k := i) (by omega)
    have hmx := getMap (f := encI) hm
    have hmb := k2 m (List.mem_of_getElem? hm)
    have hp62 := pow_le62 (n := s.offs.toNat) (by omega)
    have next : (∀ j', j' < o → openAt s f used src dst i j' = false) → ∀ i' j', i' < i + 1 → j' < o → openAt s f used src dst i' j' = false := fun h i' j' h1 h2 => by
      rcases Nat.lt_succ_iff_lt_or_eq.1 h1 with hl | rfl
      · exact hinv i' j' hl h2
      · exact h j' h2
    have skip : slotBusy s used src dst i = true → ∀ i' j', i' < i + 1 → j' < o → openAt s f used src dst i' j' = false := fun h => next fun j' _ => openAt_no h j'
    repeat ((conv => whnf); first | (refine And.intro (by first | rfl | exact Or.inl ⟨_, rfl⟩ | exact Or.inr rfl | exact le_b rfl | ((repeat' (first | exact Els.nil _ | refine Els.cons rfl rfl ?_)); done) | exact Els.map (fun _ => ⟨rfl, rfl⟩)  | kernel_rfl) ?_) )
    try (conv => whnf)
    first | refine CallK.data rfl (c_rbusy L s.cells (by omega) i src) rfl ?_ | refine CallP.data rfl (c_rbusy L s.cells (by omega) i src) rfl ?_
    repeat ((conv => whnf); first | (refine And.intro (by first | rfl | exact Or.inl ⟨_, rfl⟩ | exact Or.inr rfl | exact le_b rfl | ((repeat' (first | exact Els.nil _ | refine Els.cons rfl rfl ?_)); done) | exact Els.map (fun _ => ⟨rfl, rfl⟩)  | kernel_rfl) ?_) )
    try (conv => whnf)
    refine BrK.mk (fun b1 => ?_) (fun b1 => ?_) <;> (try rw [b1])
    · repeat ((conv => whnf); first | (refine And.intro (by first | rfl | exact Or.inl ⟨_, rfl⟩ | exact Or.inr rfl | exact le_b rfl | ((repeat' (first | exact Els.nil _ | refine Els.cons rfl rfl ?_)); done) | exact Els.map (fun _ => ⟨rfl, rfl⟩)  | kernel_rfl) ?_) )
      try (conv => whnf)
      refine ⟨i + 1, ⟨by omega, skip (by simp [slotBusy, b1])⟩, by omega, ?_⟩
      refine Fits.mk' rfl rfl rfl rfl ?_ ?_ ?_ ?_ ?_ <;> repeat' (first | exact trivial | refine And.intro ?_ ?_ | exact Sees.of_eq rfl | exact lt_b rfl | rfl | exact Sees.int (succI hlt (by omega)))
    repeat ((conv => whnf); first | (refine And.intro (by first | rfl | exact Or.inl ⟨_, rfl⟩ | exact Or.inr rfl | exact le_b rfl | ((repeat' (first | exact Els.nil _ | refine Els.cons rfl rfl ?_)); done) | exact Els.map (fun _ => ⟨rfl, rfl⟩)  | kernel_rfl) ?_) )
    try (conv => whnf)
    first | refine CallK.data rfl (c_rbusy L s.cells (by omega) i dst) rfl ?_ | refine CallP.data rfl (c_rbusy L s.cells (by omega) i dst) rfl ?_
    repeat ((conv => whnf); first | (refine And.intro (by first | rfl | exact Or.inl ⟨_, rfl⟩ | exact Or.inr rfl | exact le_b rfl | ((repeat' (first | exact Els.nil _ | refine Els.cons rfl rfl ?_)); done) | exact Els.map (fun _ => ⟨rfl, rfl⟩)  | kernel_rfl) ?_) )
    try (conv => whnf)
    refine BrK.mk (fun b2 => ?_) (fun b2 => ?_) <;> (try rw [b2])
    · repeat ((conv => whnf); first | (refine And.intro (by first | rfl | exact Or.inl ⟨_, rfl⟩ | exact Or.inr rfl | exact le_b rfl | ((repeat' (first | exact Els.nil _ | refine Els.cons rfl rfl ?_)); done) | exact Els.map (fun _ => ⟨rfl, rfl⟩)  | kernel_rfl) ?_) )
      try (conv => whnf)
      refine ⟨i + 1, ⟨by omega, skip (by simp [slotBusy, b2])⟩, by omega, ?_⟩
      refine Fits.mk' rfl rfl rfl rfl ?_ ?_ ?_ ?_ ?_ <;> repeat' (first | exact trivial | refine And.intro ?_ ?_ | exact Sees.of_eq rfl | exact lt_b rfl | rfl | exact Sees.int (succI hlt (by omega)))
    repeat ((conv => whnf); first | (refine And.intro (by first | rfl | exact Or.inl ⟨_, rfl⟩ | exact Or.inr rfl | exact le_b rfl | ((repeat' (first | exact Els.nil _ | refine Els.cons rfl rfl ?_)); done) | exact Els.map (fun _ => ⟨rfl, rfl⟩)  | kernel_rfl) ?_) )
    try (conv => whnf)
    first | refine CallK.data rfl (c_rbusy L used hu i src) rfl ?_ | refine CallP.data rfl (c_rbusy L used hu i src) rfl ?_
    repeat ((conv => whnf); first | (refine And.intro (by first | rfl | exact Or.inl ⟨_, rfl⟩ | exact Or.inr rfl | exact le_b rfl | ((repeat' (first | exact Els.nil _ | refine Els.cons rfl rfl ?_)); done) | exact Els.map (fun _ => ⟨rfl, rfl⟩)  | kernel_rfl) ?_) )
    try (conv => whnf)
    refine BrK.mk (fun b3 => ?_) (fun b3 => ?_) <;> (try rw [b3])
    · repeat ((conv => whnf); first | (refine And.intro (by first | rfl | exact Or.inl ⟨_, rfl⟩ | exact Or.inr rfl | exact le_b rfl | ((repeat' (first | exact Els.nil _ | refine Els.cons rfl rfl ?_)); done) | exact Els.map (fun _ => ⟨rfl, rfl⟩)  | kernel_rfl) ?_) )
      try (conv => whnf)
      refine ⟨i + 1, ⟨by omega, skip (by simp [slotBusy, b3])⟩, by omega, ?_⟩
      refine Fits.mk' rfl rfl rfl rfl ?_ ?_ ?_ ?_ ?_ <;> repeat' (first | exact trivial | refine And.intro ?_ ?_ | exact Sees.of_eq rfl | exact lt_b rfl | rfl | exact Sees.int (succI hlt (by omega)))
    repeat ((conv => whnf); first | (refine And.intro (by first | rfl | exact Or.inl ⟨_, rfl⟩ | exact Or.inr rfl | exact le_b rfl | ((repeat' (first | exact Els.nil _ | refine Els.cons rfl rfl ?_)); done) | exact Els.map (fun _ => ⟨rfl, rfl⟩)  | kernel_rfl) ?_) )
    try (conv => whnf)
    first | refine CallK.data rfl (c_rbusy L used hu i dst) rfl ?_ | refine CallP.data rfl (c_rbusy L used hu i dst) rfl ?_
    repeat ((conv => whnf); first | (refine And.intro (by first | rfl | exact Or.inl ⟨_, rfl⟩ | exact Or.inr rfl | exact le_b rfl | ((repeat' (first | exact Els.nil _ | refine Els.cons rfl rfl ?_)); done) | exact Els.map (fun _ => ⟨rfl, rfl⟩)  | kernel_rfl) ?_) )
    try (conv => whnf)
    refine BrK.mk (fun b4 => ?_) (fun b4 => ?_) <;> (try rw [b4])
    · repeat ((conv => whnf); first | (refine And.intro (by first | rfl | exact Or.inl ⟨_, rfl⟩ | exact Or.inr rfl | exact le_b rfl | ((repeat' (first | exact Els.nil _ | refine Els.cons rfl rfl ?_)); done) | exact Els.map (fun _ => ⟨rfl, rfl⟩)  | kernel_rfl) ?_) )
      try (conv => whnf)
      refine ⟨i + 1, ⟨by omega, skip (by simp [slotBusy, b4])⟩, by omega, ?_⟩
      refine Fits.mk' rfl rfl rfl rfl ?_ ?_ ?_ ?_ ?_ <;> repeat' (first | exact trivial | refine And.intro ?_ ?_ | exact Sees.of_eq rfl | exact lt_b rfl | rfl | exact Sees.int (succI hlt (by omega)))
    have hb0 : slotBusy s used src dst i = false := by simp [slotBusy, b1, b2, b3, b4]
    have hop : ∀ j, openAt s f used src dst i j = (bitI m j == 1 && !takenAt used i j) := fun j => by
      unfold openAt bitAt; rw [hb0, List.getD_eq_getElem?_getD, hm]; rfl
    repeat ((conv => whnf); first | (refine And.intro (by first | rfl | exact Or.inl ⟨_, rfl⟩ | exact Or.inr rfl | exact le_b rfl | ((repeat' (first | exact Els.nil _ | refine Els.cons rfl rfl ?_)); done) | exact Els.map (fun _ => ⟨rfl, rfl⟩)  | kernel_rfl) ?_) )
    try (conv => whnf)
    refine LoopK.run mixed [] (fun (j : Nat) => j ≤ o ∧ ∀ j', j' < j → openAt s f used src dst i j' = false) (fun j => [(1, encIs f), (2, encCells used), (3, .int .i64 src), (4, .int .i64 dst), (5, .ptr 0 0), (10, .ptr 1 0), (11, .int .i64 0), (12, .int .i64 i), (13, .int .i64 j)]) (fun j => ⟨[.cells [.int .i64 s.len, .int .i64 s.offs, encCells s.cells] 24, .cells [.int .i64 0, .int .i64 0, .int .i64 0, .int .i64 0, .int .i64 0] 29], [], 0, 0, fun _ => 0⟩) (fun j => o - j) 0 ⟨by simp, by simp⟩ ?_ ?_
    · refine Fits.mk' rfl rfl rfl rfl ?_ ?_ ?_ ?_ ?_ <;> repeat' (first | exact trivial | refine And.intro ?_ ?_ | exact Sees.of_eq rfl | exact lt_b rfl | rfl )
    rintro j ⟨hj, hjv⟩
    repeat ((conv => whnf); first | (refine And.intro (by first | rfl | exact Or.inl ⟨_, rfl⟩ | exact Or.inr rfl | exact le_b rfl | ((repeat' (first | exact Els.nil _ | refine Els.cons rfl rfl ?_)); done) | exact Els.map (fun _ => ⟨rfl, rfl⟩)  | kernel_rfl) ?_) )
    try (conv => whnf)
    refine BrK.mk (fun hc => ?_) (fun hc => ?_) <;> (try rw [hc])
    · have hjt : j < o := by rw [ho] at hc; simpa using hc
      have nxt : openAt s f used src dst i j = false → ∀ j', j' < j + 1 → openAt s f used src dst i j' = false := fun h j' h1 => by
        rcases Nat.lt_succ_iff_lt_or_eq.1 h1 with hl | rfl
        · exact hjv j' hl
        · exact h
      have es := shr_and (m := m) (k := j) hmb.1 (by omega) (by omega)
      repeat ((conv => whnf); first | (refine And.intro (by first | rfl | exact Or.inl ⟨_, rfl⟩ | exact Or.inr rfl | exact le_b rfl | ((repeat' (first | exact Els.nil _ | refine Els.cons rfl rfl ?_)); done) | exact Els.map (fun _ => ⟨rfl, rfl⟩) | exact inbMap (by omega) | exact (show (0 : Int) ≤ (j : Int) by omega) | kernel_rfl) ?_) | rw [hmx] | rw [es])
      try (conv => whnf)
      refine BrK.mk (fun d1 => ?_) (fun d1 => ?_) <;> (try rw [d1])
      · repeat ((conv => whnf); first | (refine And.intro (by first | rfl | exact Or.inl ⟨_, rfl⟩ | exact Or.inr rfl | exact le_b rfl | ((repeat' (first | exact Els.nil _ | refine Els.cons rfl rfl ?_)); done) | exact Els.map (fun _ => ⟨rfl, rfl⟩)  | kernel_rfl) ?_) )
        try (conv => whnf)
        first | refine CallK.data rfl (c_rtaken L used hu i j) rfl ?_ | refine CallP.data rfl (c_rtaken L used hu i j) rfl ?_
        repeat ((conv => whnf); first | (refine And.intro (by first | rfl | exact Or.inl ⟨_, rfl⟩ | exact Or.inr rfl | exact le_b rfl | ((repeat' (first | exact Els.nil _ | refine Els.cons rfl rfl ?_)); done) | exact Els.map (fun _ => ⟨rfl, rfl⟩)  | kernel_rfl) ?_) )
        try (conv => whnf)
        refine BrK.mk (fun d2 => ?_) (fun d2 => ?_) <;> (try rw [d2])
        · repeat ((conv => whnf); first | (refine And.intro (by first | rfl | exact Or.inl ⟨_, rfl⟩ | exact Or.inr rfl | exact le_b rfl | ((repeat' (first | exact Els.nil _ | refine Els.cons rfl rfl ?_)); done) | exact Els.map (fun _ => ⟨rfl, rfl⟩)  | kernel_rfl) ?_) )
          try (conv => whnf)
          rw [firstP_some hlt hjt (by rw [hop, d1]; simpa using d2) hinv hjv]
          exact resP.mk rfl (Sees.of_eq rfl)
        · repeat ((conv => whnf); first | (refine And.intro (by first | rfl | exact Or.inl ⟨_, rfl⟩ | exact Or.inr rfl | exact le_b rfl | ((repeat' (first | exact Els.nil _ | refine Els.cons rfl rfl ?_)); done) | exact Els.map (fun _ => ⟨rfl, rfl⟩)  | kernel_rfl) ?_) )
          try (conv => whnf)
          refine ⟨j + 1, ⟨by omega, nxt (by rw [hop]; simp at d2; simp [d2])⟩, by omega, ?_⟩
          refine Fits.mk' rfl rfl rfl rfl ?_ ?_ ?_ ?_ ?_ <;> repeat' (first | exact trivial | refine And.intro ?_ ?_ | exact Sees.of_eq rfl | exact lt_b rfl | rfl | exact Sees.int (succI hjt (by omega)))
      · repeat ((conv => whnf); first | (refine And.intro (by first | rfl | exact Or.inl ⟨_, rfl⟩ | exact Or.inr rfl | exact le_b rfl | ((repeat' (first | exact Els.nil _ | refine Els.cons rfl rfl ?_)); done) | exact Els.map (fun _ => ⟨rfl, rfl⟩)  | kernel_rfl) ?_) )
        try (conv => whnf)
        refine ⟨j + 1, ⟨by omega, nxt (by rw [hop, d1]; rfl)⟩, by omega, ?_⟩
        refine Fits.mk' rfl rfl rfl rfl ?_ ?_ ?_ ?_ ?_ <;> repeat' (first | exact trivial | refine And.intro ?_ ?_ | exact Sees.of_eq rfl | exact lt_b rfl | rfl | exact Sees.int (succI hjt (by omega)))
    · have hjo : j = o := by rw [ho] at hc; simp at hc; omega
      subst hjo
      repeat ((conv => whnf); first | (refine And.intro (by first | rfl | exact Or.inl ⟨_, rfl⟩ | exact Or.inr rfl | exact le_b rfl | ((repeat' (first | exact Els.nil _ | refine Els.cons rfl rfl ?_)); done) | exact Els.map (fun _ => ⟨rfl, rfl⟩)  | kernel_rfl) ?_) )
      try (conv => whnf)
      refine ⟨i + 1, ⟨by omega, next hjv⟩, by omega, ?_⟩
      refine Fits.mk' rfl rfl rfl rfl ?_ ?_ ?_ ?_ ?_ <;> repeat' (first | exact trivial | refine And.intro ?_ ?_ | exact Sees.of_eq rfl | exact lt_b rfl | rfl | exact Sees.int (succI hlt (by omega)))
  · have hk' : i = n := by rw [hn] at hb; simp at hb; omega
    subst hk'
    repeat ((conv => whnf); first | (refine And.intro (by first | rfl | exact Or.inl ⟨_, rfl⟩ | exact Or.inr rfl | exact le_b rfl | ((repeat' (first | exact Els.nil _ | refine Els.cons rfl rfl ?_)); done) | exact Els.map (fun _ => ⟨rfl, rfl⟩)  | kernel_rfl) ?_) )
    try (conv => whnf)
    exact resP.mk rfl (Sees.of_eq (by rw [firstP_none hinv]; rfl))
end
end HM
