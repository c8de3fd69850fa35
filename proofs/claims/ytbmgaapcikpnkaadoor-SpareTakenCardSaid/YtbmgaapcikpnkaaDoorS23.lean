/- The law on places that were taken. -/
import Derived.Test.YtbmgaapcikpnkaaDoorS22

set_option maxRecDepth 100000
namespace HM
open Go Go.RowKit Go.Proofs

def stSl (T : Cell × Int) : List (Nat × AV) := [(4, .ptr 0 0), (5, .ptr 1 0), (6, .ptr 2 0), (7, .ptr 3 0), (8, .bool false), (11, .fn 13 [.ptr 2 0, .ptr 3 0, .ptr 0 0, .ptr 1 0]), (12, .ptr 4 0), (13, .int .i64 T.2)]
def stBx (s : Sched) (used : List Cell) (src dst : Int) (T : Cell × Int) : List Ob :=
  [.cells [.int .i64 s.len, .int .i64 s.offs, encCells s.cells] 24, .cells [encCells used] 22, .cells [.int .i64 src] 3, .cells [.int .i64 dst] 3,
    .cells [.int .i64 T.1.slot, .int .i64 T.1.off, .int .i64 T.1.src, .int .i64 T.1.dst, .int .i64 T.1.flow] 29]

set_option maxHeartbeats 4000000 in
theorem c_SpareTaken (s : Sched) (used : List Cell) (src dst : Int) : PCall Tryd.prog LW 5 [s.av, encCells used, .int .i64 src, .int .i64 dst] (.bool true) := by
  refine PCall.intro mixed [] (nt := 91) Tryd.func5 rfl rfl (by simp) ?_
  repeat ((conv => whnf); first | (refine And.intro (by first | rfl | exact Or.inl ⟨_, rfl⟩ | exact Or.inr rfl | exact le_b rfl | ((repeat' (first | exact Els.nil _ | refine Els.cons rfl rfl ?_)); done) | exact Els.map (fun _ => ⟨rfl, rfl⟩)  | kernel_rfl) ?_) )
  try (conv => whnf)
  first | refine CallK.data rfl (c_awake) rfl ?_ | refine CallP.data rfl (c_awake) rfl ?_
  repeat ((conv => whnf); first | (refine And.intro (by first | rfl | exact Or.inl ⟨_, rfl⟩ | exact Or.inr rfl | exact le_b rfl | ((repeat' (first | exact Els.nil _ | refine Els.cons rfl rfl ?_)); done) | exact Els.map (fun _ => ⟨rfl, rfl⟩)  | kernel_rfl) ?_) )
  try (conv => whnf)
  refine BrK.mk (fun g1 => ?_) (fun g1 => ?_) <;> (try rw [g1])
  · repeat ((conv => whnf); first | (refine And.intro (by first | rfl | exact Or.inl ⟨_, rfl⟩ | exact Or.inr rfl | exact le_b rfl | ((repeat' (first | exact Els.nil _ | refine Els.cons rfl rfl ?_)); done) | exact Els.map (fun _ => ⟨rfl, rfl⟩)  | kernel_rfl) ?_) )
    try (conv => whnf)
    exact resP.mk rfl (Sees.of_eq rfl)
  repeat ((conv => whnf); first | (refine And.intro (by first | rfl | exact Or.inl ⟨_, rfl⟩ | exact Or.inr rfl | exact le_b rfl | ((repeat' (first | exact Els.nil _ | refine Els.cons rfl rfl ?_)); done) | exact Els.map (fun _ => ⟨rfl, rfl⟩)  | kernel_rfl) ?_) )
  try (conv => whnf)
  refine BrK.mk (fun g2 => ?_) (fun g2 => ?_) <;> (try rw [g2])
  · repeat ((conv => whnf); first | (refine And.intro (by first | rfl | exact Or.inl ⟨_, rfl⟩ | exact Or.inr rfl | exact le_b rfl | ((repeat' (first | exact Els.nil _ | refine Els.cons rfl rfl ?_)); done) | exact Els.map (fun _ => ⟨rfl, rfl⟩)  | kernel_rfl) ?_) )
    try (conv => whnf)
    exact resP.mk rfl (Sees.of_eq rfl)
  have hcl : s.cells.length ≤ 40 := by simp at g1; omega
  have hul : used.length ≤ 30 := by simp at g2; omega
  repeat ((conv => whnf); first | (refine And.intro (by first | rfl | exact Or.inl ⟨_, rfl⟩ | exact Or.inr rfl | exact le_b rfl | ((repeat' (first | exact Els.nil _ | refine Els.cons rfl rfl ?_)); done) | exact Els.map (fun _ => ⟨rfl, rfl⟩)  | kernel_rfl) ?_) )
  try (conv => whnf)
  first | refine CallK.data rfl (c_Free s) rfl ?_ | refine CallP.data rfl (c_Free s) rfl ?_
  repeat ((conv => whnf); first | (refine And.intro (by first | rfl | exact Or.inl ⟨_, rfl⟩ | exact Or.inr rfl | exact le_b rfl | ((repeat' (first | exact Els.nil _ | refine Els.cons rfl rfl ?_)); done) | exact Els.map (fun _ => ⟨rfl, rfl⟩)  | kernel_rfl) ?_) )
  try (conv => whnf)
  refine BrK.mk (fun g3 => ?_) (fun g3 => ?_) <;> (try rw [g3])
  · repeat ((conv => whnf); first | (refine And.intro (by first | rfl | exact Or.inl ⟨_, rfl⟩ | exact Or.inr rfl | exact le_b rfl | ((repeat' (first | exact Els.nil _ | refine Els.cons rfl rfl ?_)); done) | exact Els.map (fun _ => ⟨rfl, rfl⟩)  | kernel_rfl) ?_) )
    try (conv => whnf)
    exact resP.mk rfl (Sees.of_eq rfl)
  have hform : formB s = true := by
    unfold freeM at g3
    by_cases h : formB s = true
    · exact h
    · rw [if_neg h] at g3; simp at g3
  have hfr : freeM s = (maskM s s.cells, 0) := by rw [freeM, if_pos hform]
  rw [hfr]
  obtain ⟨hs1, hs2, hs3⟩ := form_all hform
  have hsz := sized_bd hs1
  have hml := maskM_len s s.cells
  have hlm : (maskM s s.cells).length ≤ 281474976710656 := by rw [hml]; omega
  repeat ((conv => whnf); first | (refine And.intro (by first | rfl | exact Or.inl ⟨_, rfl⟩ | exact Or.inr rfl | exact le_b rfl | ((repeat' (first | exact Els.nil _ | refine Els.cons rfl rfl ?_)); done) | exact Els.map (fun _ => ⟨rfl, rfl⟩)  | kernel_rfl) ?_) )
  try (conv => whnf)
  first | refine CallK.data rfl (c_take s (maskM s s.cells) used src dst hlm (by omega)) rfl ?_ | refine CallP.data rfl (c_take s (maskM s s.cells) used src dst hlm (by omega)) rfl ?_
  have hT : takeM s (maskM s s.cells) used src dst = (Cell.zero, 2) ∨ takeM s (maskM s s.cells) used src dst = placeR src dst (firstP s.len.toNat s.offs.toNat (openAt s (maskM s s.cells) used src dst)) := by
    rw [takeM, if_neg (by simp [hform, check_mask hform])]
    by_cases h : insB src 32 = false ∨ insB dst 32 = false ∨ src = dst
    · rw [if_pos h]; exact .inl rfl
    · rw [if_neg h, if_neg (by omega)]; exact .inr rfl
  generalize takeM s (maskM s s.cells) used src dst = T at hT ⊢
  obtain ⟨n, hn⟩ : ∃ n : Nat, s.len = n := ⟨s.len.toNat, by omega⟩
  obtain ⟨o, ho⟩ : ∃ o : Nat, s.offs = o := ⟨s.offs.toNat, by omega⟩
  rw [hn, ho, Int.toNat_natCast, Int.toNat_natCast] at hT
  rcases hT with rfl | hT
  · repeat ((conv => whnf); first | (refine And.intro (by first | rfl | exact Or.inl ⟨_, rfl⟩ | exact Or.inr rfl | exact le_b rfl | ((repeat' (first | exact Els.nil _ | refine Els.cons rfl rfl ?_)); done) | exact Els.map (fun _ => ⟨rfl, rfl⟩)  | kernel_rfl) ?_) )
    try (conv => whnf)
    exact resP.mk rfl (Sees.of_eq rfl)
  cases hF : firstP n o (openAt s (maskM s s.cells) used src dst) with
  | none =>
    rw [hF] at hT
    have hT' : T = (Cell.zero, 13) := hT
    subst hT'
    repeat ((conv => whnf); first | (refine And.intro (by first | rfl | exact Or.inl ⟨_, rfl⟩ | exact Or.inr rfl | exact le_b rfl | ((repeat' (first | exact Els.nil _ | refine Els.cons rfl rfl ?_)); done) | exact Els.map (fun _ => ⟨rfl, rfl⟩)  | kernel_rfl) ?_) )
    try (conv => whnf)
    refine LoopK.run mixed [] (fun (i : Nat) => i ≤ n ∧ ∀ i' j', i' < i → j' < o → openAt s (maskM s s.cells) used src dst i' j' = false) (fun i => (58, .int .i64 n) :: (59, .int .i64 i) :: stSl ((Cell.zero, 13) : Cell × Int)) (fun i => ⟨stBx s used src dst ((Cell.zero, 13) : Cell × Int), [], 0, 0, fun _ => 0⟩) (fun i => n - i) 0 ⟨by simp, by simp⟩ ?_ ?_
    · refine Fits.mk' rfl rfl rfl rfl ?_ ?_ ?_ ?_ ?_ <;> repeat' (first | exact trivial | refine And.intro ?_ ?_ | exact Sees.of_eq rfl | exact lt_b rfl | rfl | exact Sees.int hn)
    rintro i ⟨hi, hinv⟩
    repeat ((conv => whnf); first | (refine And.intro (by first | rfl | exact Or.inl ⟨_, rfl⟩ | exact Or.inr rfl | exact le_b rfl | ((repeat' (first | exact Els.nil _ | refine Els.cons rfl rfl ?_)); done) | exact Els.map (fun _ => ⟨rfl, rfl⟩)  | kernel_rfl) ?_) )
    try (conv => whnf)
    refine BrK.mk (fun hb => ?_) (fun hb => ?_) <;> (try rw [hb])
    · have hlt : i < n := by simpa using hb
      have next : (∀ j', j' < o → openAt s (maskM s s.cells) used src dst i j' = false) → ∀ i' j', i' < i + 1 → j' < o → openAt s (maskM s s.cells) used src dst i' j' = false := fun h i' j' h1 h2 => by
        rcases Nat.lt_succ_iff_lt_or_eq.1 h1 with hl | rfl
        · exact hinv i' j' hl h2
        · exact h j' h2
      repeat ((conv => whnf); first | (refine And.intro (by first | rfl | exact Or.inl ⟨_, rfl⟩ | exact Or.inr rfl | exact le_b rfl | ((repeat' (first | exact Els.nil _ | refine Els.cons rfl rfl ?_)); done) | exact Els.map (fun _ => ⟨rfl, rfl⟩)  | kernel_rfl) ?_) )
      try (conv => whnf)
      refine LoopK.run mixed [] (fun (j : Nat) => j ≤ o ∧ ∀ j', j' < j → openAt s (maskM s s.cells) used src dst i j' = false) (fun j => (58, .int .i64 n) :: (59, .int .i64 i) :: (14, .int .i64 i) :: (63, .int .i64 o) :: (64, .int .i64 j) :: stSl ((Cell.zero, 13) : Cell × Int)) (fun j => ⟨stBx s used src dst ((Cell.zero, 13) : Cell × Int), [], 0, 0, fun _ => 0⟩) (fun j => o - j) 0 ⟨by simp, by simp⟩ ?_ ?_
      · refine Fits.mk' rfl rfl rfl rfl ?_ ?_ ?_ ?_ ?_ <;> repeat' (first | exact trivial | refine And.intro ?_ ?_ | exact Sees.of_eq rfl | exact lt_b rfl | rfl | exact Sees.int ho)
      rintro j ⟨hj, hjv⟩
      repeat ((conv => whnf); first | (refine And.intro (by first | rfl | exact Or.inl ⟨_, rfl⟩ | exact Or.inr rfl | exact le_b rfl | ((repeat' (first | exact Els.nil _ | refine Els.cons rfl rfl ?_)); done) | exact Els.map (fun _ => ⟨rfl, rfl⟩)  | kernel_rfl) ?_) )
      try (conv => whnf)
      refine BrK.mk (fun hc => ?_) (fun hc => ?_) <;> (try rw [hc])
      · have hjt : j < o := by simpa using hc
        have nxt : openAt s (maskM s s.cells) used src dst i j = false → ∀ j', j' < j + 1 → openAt s (maskM s s.cells) used src dst i j' = false := fun h j' h1 => by
          rcases Nat.lt_succ_iff_lt_or_eq.1 h1 with hl | rfl
          · exact hjv j' hl
          · exact h
        repeat ((conv => whnf); first | (refine And.intro (by first | rfl | exact Or.inl ⟨_, rfl⟩ | exact Or.inr rfl | exact le_b rfl | ((repeat' (first | exact Els.nil _ | refine Els.cons rfl rfl ?_)); done) | exact Els.map (fun _ => ⟨rfl, rfl⟩)  | kernel_rfl) ?_) )
        try (conv => whnf)
        first | refine CallK.box rfl (c_open LW s used src dst i j hcl hul) rfl rfl ?_ | refine CallP.box rfl (c_open LW s used src dst i j hcl hul) rfl rfl ?_
        rw [openL_eq hform used src dst (by omega) (by omega)]
        repeat ((conv => whnf); first | (refine And.intro (by first | rfl | exact Or.inl ⟨_, rfl⟩ | exact Or.inr rfl | exact le_b rfl | ((repeat' (first | exact Els.nil _ | refine Els.cons rfl rfl ?_)); done) | exact Els.map (fun _ => ⟨rfl, rfl⟩)  | kernel_rfl) ?_) )
        try (conv => whnf)
        refine BrK.mk (fun d1 => ?_) (fun d1 => ?_) <;> (try rw [d1])
        · have hfp := firstP_some hlt hjt d1 hinv hjv
          rw [hF] at hfp
          cases hfp
          all_goals
            repeat ((conv => whnf); first | (refine And.intro (by first | rfl | exact Or.inl ⟨_, rfl⟩ | exact Or.inr rfl | exact le_b rfl | ((repeat' (first | exact Els.nil _ | refine Els.cons rfl rfl ?_)); done) | exact Els.map (fun _ => ⟨rfl, rfl⟩)  | kernel_rfl) ?_) )
            try (conv => whnf)
          all_goals exact resP.mk rfl (Sees.bool (by simp))
        · repeat ((conv => whnf); first | (refine And.intro (by first | rfl | exact Or.inl ⟨_, rfl⟩ | exact Or.inr rfl | exact le_b rfl | ((repeat' (first | exact Els.nil _ | refine Els.cons rfl rfl ?_)); done) | exact Els.map (fun _ => ⟨rfl, rfl⟩)  | kernel_rfl) ?_) )
          try (conv => whnf)
          refine ⟨j + 1, ⟨by omega, nxt d1⟩, by omega, ?_⟩
          refine Fits.mk' rfl rfl rfl rfl ?_ ?_ ?_ ?_ ?_ <;> repeat' (first | exact trivial | refine And.intro ?_ ?_ | exact Sees.of_eq rfl | exact lt_b rfl | rfl | exact Sees.int (succI hjt (by omega)))
      · have hjo : j = o := by simp at hc; omega
        subst hjo
        repeat ((conv => whnf); first | (refine And.intro (by first | rfl | exact Or.inl ⟨_, rfl⟩ | exact Or.inr rfl | exact le_b rfl | ((repeat' (first | exact Els.nil _ | refine Els.cons rfl rfl ?_)); done) | exact Els.map (fun _ => ⟨rfl, rfl⟩)  | kernel_rfl) ?_) )
        try (conv => whnf)
        refine ⟨i + 1, ⟨by omega, next hjv⟩, by omega, ?_⟩
        refine Fits.mk' rfl rfl rfl rfl ?_ ?_ ?_ ?_ ?_ <;> repeat' (first | exact trivial | refine And.intro ?_ ?_ | exact Sees.of_eq rfl | exact lt_b rfl | rfl | exact Sees.int (succI hlt (by omega)))
    · have hk' : i = n := by simp at hb; omega
      subst hk'
      have hfp := firstP_none hinv
      rw [hF] at hfp
      skip
      all_goals
        repeat ((conv => whnf); first | (refine And.intro (by first | rfl | exact Or.inl ⟨_, rfl⟩ | exact Or.inr rfl | exact le_b rfl | ((repeat' (first | exact Els.nil _ | refine Els.cons rfl rfl ?_)); done) | exact Els.map (fun _ => ⟨rfl, rfl⟩)  | kernel_rfl) ?_) )
        try (conv => whnf)
      all_goals exact resP.mk rfl (Sees.of_eq rfl)
  | some ab =>
    obtain ⟨a, b⟩ := ab
    rw [hF] at hT
    have hT' : T = (⟨a, b, src, dst, 0⟩, 0) := hT
    subst hT'
    repeat ((conv => whnf); first | (refine And.intro (by first | rfl | exact Or.inl ⟨_, rfl⟩ | exact Or.inr rfl | exact le_b rfl | ((repeat' (first | exact Els.nil _ | refine Els.cons rfl rfl ?_)); done) | exact Els.map (fun _ => ⟨rfl, rfl⟩)  | kernel_rfl) ?_) )
    try (conv => whnf)
    refine LoopK.run mixed [] (fun (i : Nat) => i ≤ n ∧ ∀ i' j', i' < i → j' < o → openAt s (maskM s s.cells) used src dst i' j' = false) (fun i => (58, .int .i64 n) :: (59, .int .i64 i) :: stSl ((⟨a, b, src, dst, 0⟩, 0) : Cell × Int)) (fun i => ⟨stBx s used src dst ((⟨a, b, src, dst, 0⟩, 0) : Cell × Int), [], 0, 0, fun _ => 0⟩) (fun i => n - i) 0 ⟨by simp, by simp⟩ ?_ ?_
    · refine Fits.mk' rfl rfl rfl rfl ?_ ?_ ?_ ?_ ?_ <;> repeat' (first | exact trivial | refine And.intro ?_ ?_ | exact Sees.of_eq rfl | exact lt_b rfl | rfl | exact Sees.int hn)
    rintro i ⟨hi, hinv⟩
    repeat ((conv => whnf); first | (refine And.intro (by first | rfl | exact Or.inl ⟨_, rfl⟩ | exact Or.inr rfl | exact le_b rfl | ((repeat' (first | exact Els.nil _ | refine Els.cons rfl rfl ?_)); done) | exact Els.map (fun _ => ⟨rfl, rfl⟩)  | kernel_rfl) ?_) )
    try (conv => whnf)
    refine BrK.mk (fun hb => ?_) (fun hb => ?_) <;> (try rw [hb])
    · have hlt : i < n := by simpa using hb
      have next : (∀ j', j' < o → openAt s (maskM s s.cells) used src dst i j' = false) → ∀ i' j', i' < i + 1 → j' < o → openAt s (maskM s s.cells) used src dst i' j' = false := fun h i' j' h1 h2 => by
        rcases Nat.lt_succ_iff_lt_or_eq.1 h1 with hl | rfl
        · exact hinv i' j' hl h2
        · exact h j' h2
      repeat ((conv => whnf); first | (refine And.intro (by first | rfl | exact Or.inl ⟨_, rfl⟩ | exact Or.inr rfl | exact le_b rfl | ((repeat' (first | exact Els.nil _ | refine Els.cons rfl rfl ?_)); done) | exact Els.map (fun _ => ⟨rfl, rfl⟩)  | kernel_rfl) ?_) )
      try (conv => whnf)
      refine LoopK.run mixed [] (fun (j : Nat) => j ≤ o ∧ ∀ j', j' < j → openAt s (maskM s s.cells) used src dst i j' = false) (fun j => (58, .int .i64 n) :: (59, .int .i64 i) :: (14, .int .i64 i) :: (63, .int .i64 o) :: (64, .int .i64 j) :: stSl ((⟨a, b, src, dst, 0⟩, 0) : Cell × Int)) (fun j => ⟨stBx s used src dst ((⟨a, b, src, dst, 0⟩, 0) : Cell × Int), [], 0, 0, fun _ => 0⟩) (fun j => o - j) 0 ⟨by simp, by simp⟩ ?_ ?_
      · refine Fits.mk' rfl rfl rfl rfl ?_ ?_ ?_ ?_ ?_ <;> repeat' (first | exact trivial | refine And.intro ?_ ?_ | exact Sees.of_eq rfl | exact lt_b rfl | rfl | exact Sees.int ho)
      rintro j ⟨hj, hjv⟩
      repeat ((conv => whnf); first | (refine And.intro (by first | rfl | exact Or.inl ⟨_, rfl⟩ | exact Or.inr rfl | exact le_b rfl | ((repeat' (first | exact Els.nil _ | refine Els.cons rfl rfl ?_)); done) | exact Els.map (fun _ => ⟨rfl, rfl⟩)  | kernel_rfl) ?_) )
      try (conv => whnf)
      refine BrK.mk (fun hc => ?_) (fun hc => ?_) <;> (try rw [hc])
      · have hjt : j < o := by simpa using hc
        have nxt : openAt s (maskM s s.cells) used src dst i j = false → ∀ j', j' < j + 1 → openAt s (maskM s s.cells) used src dst i j' = false := fun h j' h1 => by
          rcases Nat.lt_succ_iff_lt_or_eq.1 h1 with hl | rfl
          · exact hjv j' hl
          · exact h
        repeat ((conv => whnf); first | (refine And.intro (by first | rfl | exact Or.inl ⟨_, rfl⟩ | exact Or.inr rfl | exact le_b rfl | ((repeat' (first | exact Els.nil _ | refine Els.cons rfl rfl ?_)); done) | exact Els.map (fun _ => ⟨rfl, rfl⟩)  | kernel_rfl) ?_) )
        try (conv => whnf)
        first | refine CallK.box rfl (c_open LW s used src dst i j hcl hul) rfl rfl ?_ | refine CallP.box rfl (c_open LW s used src dst i j hcl hul) rfl rfl ?_
        rw [openL_eq hform used src dst (by omega) (by omega)]
        repeat ((conv => whnf); first | (refine And.intro (by first | rfl | exact Or.inl ⟨_, rfl⟩ | exact Or.inr rfl | exact le_b rfl | ((repeat' (first | exact Els.nil _ | refine Els.cons rfl rfl ?_)); done) | exact Els.map (fun _ => ⟨rfl, rfl⟩)  | kernel_rfl) ?_) )
        try (conv => whnf)
        refine BrK.mk (fun d1 => ?_) (fun d1 => ?_) <;> (try rw [d1])
        · have hfp := firstP_some hlt hjt d1 hinv hjv
          rw [hF] at hfp
          (obtain ⟨rfl, rfl⟩ : a = i ∧ b = j := by simpa using hfp)
          all_goals
            repeat ((conv => whnf); first | (refine And.intro (by first | rfl | exact Or.inl ⟨_, rfl⟩ | exact Or.inr rfl | exact le_b rfl | ((repeat' (first | exact Els.nil _ | refine Els.cons rfl rfl ?_)); done) | exact Els.map (fun _ => ⟨rfl, rfl⟩)  | kernel_rfl) ?_) )
            try (conv => whnf)
          all_goals exact resP.mk rfl (Sees.bool (by simp))
        · repeat ((conv => whnf); first | (refine And.intro (by first | rfl | exact Or.inl ⟨_, rfl⟩ | exact Or.inr rfl | exact le_b rfl | ((repeat' (first | exact Els.nil _ | refine Els.cons rfl rfl ?_)); done) | exact Els.map (fun _ => ⟨rfl, rfl⟩)  | kernel_rfl) ?_) )
          try (conv => whnf)
          refine ⟨j + 1, ⟨by omega, nxt d1⟩, by omega, ?_⟩
          refine Fits.mk' rfl rfl rfl rfl ?_ ?_ ?_ ?_ ?_ <;> repeat' (first | exact trivial | refine And.intro ?_ ?_ | exact Sees.of_eq rfl | exact lt_b rfl | rfl | exact Sees.int (succI hjt (by omega)))
      · have hjo : j = o := by simp at hc; omega
        subst hjo
        repeat ((conv => whnf); first | (refine And.intro (by first | rfl | exact Or.inl ⟨_, rfl⟩ | exact Or.inr rfl | exact le_b rfl | ((repeat' (first | exact Els.nil _ | refine Els.cons rfl rfl ?_)); done) | exact Els.map (fun _ => ⟨rfl, rfl⟩)  | kernel_rfl) ?_) )
        try (conv => whnf)
        refine ⟨i + 1, ⟨by omega, next hjv⟩, by omega, ?_⟩
        refine Fits.mk' rfl rfl rfl rfl ?_ ?_ ?_ ?_ ?_ <;> repeat' (first | exact trivial | refine And.intro ?_ ?_ | exact Sees.of_eq rfl | exact lt_b rfl | rfl | exact Sees.int (succI hlt (by omega)))
    · have hk' : i = n := by simp at hb; omega
      subst hk'
      have hfp := firstP_none hinv
      rw [hF] at hfp
      cases hfp
      all_goals
        repeat ((conv => whnf); first | (refine And.intro (by first | rfl | exact Or.inl ⟨_, rfl⟩ | exact Or.inr rfl | exact le_b rfl | ((repeat' (first | exact Els.nil _ | refine Els.cons rfl rfl ?_)); done) | exact Els.map (fun _ => ⟨rfl, rfl⟩)  | kernel_rfl) ?_) )
        try (conv => whnf)
      all_goals exact resP.mk rfl (Sees.of_eq rfl)
end HM
