/- The reference's Take. -/
import Derived.Test.YtefnhecgmdilbaaGreatDoorS12
import Derived.Test.YtefnhecgmdilbaaGreatDoorDa
import Derived.Test.YtefnhecgmdilbaaGreatDoorFg
/- The reference's Take. -/
set_option maxRecDepth 100000
namespace HM
open Go Go.RowKit Go.Proofs
section
variable (L : World → Prop)

end
end HM

/- The reference's Take, whole. -/
set_option maxRecDepth 100000
namespace HM
open Go Go.RowKit Go.Proofs
section
variable (L : World → Prop)

theorem checkM_ok {f : List Int} {len offs : Int} (h : checkM f len offs = 0) : (f.length : Int) = len ∧ 1 ≤ len ∧ len ≤ 512 ∧ 1 ≤ offs ∧ offs ≤ 16 ∧ ∀ x ∈ f, 0 ≤ x ∧ x < 2 ^ offs.toNat := by
  unfold checkM at h
  split at h
  · omega
  · split at h
    · omega
    · split at h
      · omega
      · rename_i h1 h2 h3
        refine ⟨by omega, by omega, by omega, by omega, by omega, fun x hx => ?_⟩
        have := List.any_eq_false.1 (Bool.eq_false_iff.2 h3) x hx
        simp [outB] at this
        omega

end
end HM

/- Take. -/
set_option maxRecDepth 100000
namespace HM
open Go Go.RowKit Go.Proofs

theorem c_node (L : World → Prop) (a : Int) : PCall Tryz.prog L 26 [.int .i64 a] (.bool (insB a 32)) := by
  refine PCall.intro mixed [] (nt := 9) Tryz.func26 rfl rfl (by simp) ?_
  repeat' ((conv => whnf); first | refine sJ ?_ | refine And.intro (by first  | kernel_rfl) ?_  | (refine BrK.mk (fun hb => ?_) (fun hb => ?_) <;> (try rw [hb])))
  all_goals try (conv => whnf)
  all_goals exact resP.mk rfl (Sees.bool (by first | (simp_all [insB]; done) | (simp_all [insB]; omega) | (rw [Bool.eq_iff_iff]; simp_all [insB]; done) | (rw [Bool.eq_iff_iff]; simp_all [insB]; omega)))

theorem c_places (L : World → Prop) (s : Sched) : PCall Tryz.prog L 18 [s.av] (.fn 42 [.cptr s.av 0]) := by
  refine PCall.intro mixed [] (nt := 4) Tryz.func18 rfl rfl (by simp) ?_
  refine Wk ?_
  exact ⟨_, rfl, Sees.of_eq rfl⟩

def busy2 (slot src dst : Int) (c : Cell) : Bool := c.slot == slot && (c.src == src || c.src == dst || c.dst == src || c.dst == dst)
theorem c_tbusy (L : World → Prop) (x : Cell) (src dst : Int) (c : Cell) : PCall Tryz.prog L 28 [c.av, .cptr x.av 0, .cptr (.agg [.int .i64 src]) 0, .cptr (.agg [.int .i64 dst]) 0] (.bool (busy2 x.slot src dst c)) := by
  refine PCall.intro mixed [] (nt := 35) Tryz.func28 rfl rfl (by simp) ?_
  repeat' ((conv => whnf); first | refine sJ ?_ | refine And.intro (by first  | kernel_rfl) ?_  | (refine BrK.mk (fun hb => ?_) (fun hb => ?_) <;> (try rw [hb])))
  all_goals try (conv => whnf)
  all_goals exact resP.mk rfl (Sees.bool (by first | (simp_all [busy2]; done) | (simp_all [busy2]; omega) | (rw [Bool.eq_iff_iff]; simp_all [busy2]; done) | (rw [Bool.eq_iff_iff]; simp_all [busy2]; omega)))

theorem c_tsame (L : World → Prop) (x c : Cell) : PCall Tryz.prog L 29 [c.av, .cptr x.av 0] (.bool (takenC x.slot x.off c)) := by
  refine PCall.intro mixed [] (nt := 16) Tryz.func29 rfl rfl (by simp) ?_
  repeat' ((conv => whnf); first | refine sJ ?_ | refine And.intro (by first  | kernel_rfl) ?_  | (refine BrK.mk (fun hb => ?_) (fun hb => ?_) <;> (try rw [hb])))
  all_goals try (conv => whnf)
  all_goals exact resP.mk rfl (Sees.bool (by first | (simp_all [takenC]; done) | (simp_all [takenC]; omega) | (rw [Bool.eq_iff_iff]; simp_all [takenC]; done) | (rw [Bool.eq_iff_iff]; simp_all [takenC]; omega)))

theorem busy2_at (l : List Cell) (i src dst : Int) : l.any (busy2 i src dst) = (busyAt l i src || busyAt l i dst) := by
  induction l with
  | nil => rfl
  | cons c l ih =>
    simp only [busyAt, List.any_cons] at ih ⊢
    rw [ih]
    simp only [busy2, busyC]
    cases c.slot == i <;> cases c.src == src <;> cases c.src == dst <;> cases c.dst == src <;> cases c.dst == dst <;> simp
def tkBx (s : Sched) (f : List Int) (used : List Cell) (src dst : Int) : List Ob :=
  [.cells [.int .i64 s.len, .int .i64 s.offs, encCells s.cells] 30, .cells [encIs f] 40, .cells [encCells used] 28, .cells [.int .i64 src] 3, .cells [.int .i64 dst] 3,
    .cells [.int .i64 0, .int .i64 0, .int .i64 0, .int .i64 0, .int .i64 0] 32, .cells [.int .i64 0] 35, .cells [encCells (s.cells ++ used)] 28]
def tkSl (s : Sched) : List (Nat × AV) := [(5, .ptr 0 0), (6, .ptr 1 0), (7, .ptr 2 0), (8, .ptr 3 0), (9, .ptr 4 0), (10, .ptr 5 0), (11, .ptr 6 0), (12, .fn 26 []), (13, .ptr 7 0), (59, .fn 42 [.cptr s.av 0])]

set_option maxHeartbeats 4000000 in
theorem c_take (s : Sched) (f : List Int) (used : List Cell) (src dst : Int) (hf : f.length ≤ 281474976710656) (hu : used.length ≤ 281474976710656) :
    PCall Tryz.prog LW 10 [s.av, encIs f, encCells used, .int .i64 src, .int .i64 dst] (.tup [(takeM s f used src dst).1.av, .int .i64 (takeM s f used src dst).2]) := by
  refine PCall.intro mixed [] (nt := 91) Tryz.func10 rfl rfl (by simp) ?_
  refine Wk ?_
  first | refine CallK.data rfl (c_sform s) rfl ?_ | refine CallP.data rfl (c_sform s) rfl ?_
  refine Wk ?_
  refine BrK.mk (fun g1 => ?_) (fun g1 => ?_) <;> (try rw [g1])
  · refine Wk ?_
    exact resP.mk rfl (Sees.of_eq (by rw [takeM, if_pos (.inl (by simpa using g1))]; rfl))
  have g1' : formB s = true := by simpa using g1
  obtain ⟨hs1, hs2, hs3⟩ := form_all g1'
  have hsz : 1 ≤ s.len ∧ s.len ≤ 512 ∧ 1 ≤ s.offs ∧ s.offs ≤ 16 := by simp [sizedB] at hs1; omega
  refine Wk ?_
  first | refine CallK.data rfl (c_scheck LW f s.len s.offs hf) rfl ?_ | refine CallP.data rfl (c_scheck LW f s.len s.offs hf) rfl ?_
  refine Wk ?_
  refine BrK.mk (fun g2 => ?_) (fun g2 => ?_) <;> (try rw [g2])
  · refine Wk ?_
    exact resP.mk rfl (Sees.of_eq (by rw [takeM, if_pos (.inr (by simpa using g2))]; rfl))
  have g2' : ¬ (formB s = false ∨ checkM f s.len s.offs ≠ 0) := by simp [g1']; simpa using g2
  refine Wk ?_
  first | refine CallK.data rfl (c_node LW src) rfl ?_ | refine CallP.data rfl (c_node LW src) rfl ?_
  refine Wk ?_
  refine BrK.mk (fun g3 => ?_) (fun g3 => ?_) <;> (try rw [g3])
  · refine Wk ?_
    exact resP.mk rfl (Sees.of_eq (by rw [takeM, if_neg g2', if_pos (.inl (by simpa using g3))]; rfl))
  refine Wk ?_
  first | refine CallK.data rfl (c_node LW dst) rfl ?_ | refine CallP.data rfl (c_node LW dst) rfl ?_
  refine Wk ?_
  refine BrK.mk (fun g4 => ?_) (fun g4 => ?_) <;> (try rw [g4])
  · refine Wk ?_
    exact resP.mk rfl (Sees.of_eq (by rw [takeM, if_neg g2', if_pos (.inr (.inl (by simpa using g4)))]; rfl))
  refine Wk ?_
  refine BrK.mk (fun g5 => ?_) (fun g5 => ?_) <;> (try rw [g5])
  · refine Wk ?_
    exact resP.mk rfl (Sees.of_eq (by rw [takeM, if_neg g2', if_pos (.inr (.inr (by simpa using g5)))]; rfl))
  have g5' : ¬ (insB src 32 = false ∨ insB dst 32 = false ∨ src = dst) := by simp at g3 g4 g5; simp [g3, g4, g5]
  refine Wk ?_
  refine BrK.mk (fun g6 => ?_) (fun g6 => ?_) <;> (try rw [g6])
  · refine Wk ?_
    exact resP.mk rfl (Sees.of_eq (by rw [takeM, if_neg g2', if_neg g5', if_pos (by simp at g6; omega)]; rfl))
  have g6' : ¬ 1024 < used.length := by simp at g6; omega
  obtain ⟨n, hn⟩ : ∃ n : Nat, s.len = n := ⟨s.len.toNat, by omega⟩
  obtain ⟨o, ho⟩ : ∃ o : Nat, s.offs = o := ⟨s.offs.toNat, by omega⟩
  obtain ⟨k1, _, _, _, _, k2⟩ := checkM_ok (f := f) (len := s.len) (offs := s.offs) (by simpa using g2)
  have hT : takeM s f used src dst = placeR src dst (firstP n o (openAt s f used src dst)) := by
    rw [takeM, if_neg g2', if_neg g5', if_neg g6', hn, ho, Int.toNat_natCast, Int.toNat_natCast]
  rw [hT]
  refine Wk ?_
  first | refine CallK.data rfl (c_ConcatCell LW [s.cells, used] (by simp) (by simp; omega)) rfl ?_ | refine CallP.data rfl (c_ConcatCell LW [s.cells, used] (by simp) (by simp; omega)) rfl ?_
  rw [show [s.cells, used].flatten = s.cells ++ used from by simp]
  refine Wk ?_
  first | refine CallK.data rfl (c_places LW s) rfl ?_ | refine CallP.data rfl (c_places LW s) rfl ?_
  refine Wk ?_
  refine RangeK.weak (l := tkSl s) (S1 := ⟨tkBx s f used src dst, [], 0, 0, fun _ => 0⟩) ?_ ?_
  · refine Fits.mk' rfl rfl rfl rfl ?_ ?_ ?_ ?_ ?_ <;> repeat' (first | exact trivial | refine And.intro ?_ ?_ | exact Sees.of_eq rfl | exact lt_b rfl | rfl )
  refine RangeK.named rfl rfl fun Lp hLp => ?_
  have hok : ∀ k m, 8 ≤ k → Ob.okk k m (.loop Lp) := fun k m hk => loop_okk (l := tkSl s) (by rw [hLp]) (by simp [tkSl, okL, AV.okk, okks]; omega)
  refine ICall.intro mixed [] (nt := 23) Tryz.func42 rfl rfl (by simp) ?_
  refine Wk ?_
  refine LoopK.run mixed [] (fun (i : Nat) => i ≤ n ∧ ∀ i' j', i' < i → j' < o → openAt s f used src dst i' j' = false) (fun i => [(0, .yld 8), (1, .cptr s.av 0), (6, .int .i64 n), (7, .int .i64 i)]) (fun i => ⟨tkBx s f used src dst ++ [.loop Lp], [], 9, 0, fun _ => 0⟩) (fun i => n - i) 0 ⟨by simp, by simp⟩ ?_ ?_
  · refine Fits.mk' rfl rfl rfl rfl ?_ ?_ ?_ ?_ ?_ <;> repeat' (first | exact trivial | refine And.intro ?_ ?_ | exact Sees.of_eq rfl | exact lt_b rfl | rfl | exact hok _ _ (Nat.le_of_ble_eq_true rfl) | exact Sees.int hn)
  rintro i ⟨hi, hinv⟩
  refine Wk ?_
  refine BrK.mk (fun hb => ?_) (fun hb => ?_) <;> (try rw [hb])
  · have hlt : i < n := by simpa using hb
    obtain ⟨m, hm⟩ := getLt (l := f) (k := i) (by omega)
    have hmx := getMap (f := encI) hm
    have hmb := k2 m (List.mem_of_getElem? hm)
    have hp62 := pow_le62 (n := s.offs.toNat) (by omega)
    have next : (∀ j', j' < o → openAt s f used src dst i j' = false) → ∀ i' j', i' < i + 1 → j' < o → openAt s f used src dst i' j' = false := fun h i' j' h1 h2 => by
      rcases Nat.lt_succ_iff_lt_or_eq.1 h1 with hl | rfl
      · exact hinv i' j' hl h2
      · exact h j' h2
    refine Wk ?_
    refine LoopK.run mixed [] (fun (j : Nat) => j ≤ o ∧ ∀ j', j' < j → openAt s f used src dst i j' = false) (fun j => [(0, .yld 8), (1, .cptr s.av 0), (3, .int .i64 i), (6, .int .i64 n), (7, .int .i64 i), (11, .int .i64 o), (12, .int .i64 j)]) (fun j => ⟨tkBx s f used src dst ++ [.loop Lp], [], 9, 0, fun _ => 0⟩) (fun j => o - j) 0 ⟨by simp, by simp⟩ ?_ ?_
    · refine Fits.mk' rfl rfl rfl rfl ?_ ?_ ?_ ?_ ?_ <;> repeat' (first | exact trivial | refine And.intro ?_ ?_ | exact Sees.of_eq rfl | exact lt_b rfl | rfl | exact hok _ _ (Nat.le_of_ble_eq_true rfl) | exact Sees.int ho)
    rintro j ⟨hj, hjv⟩
    refine Wk ?_
    refine BrK.mk (fun hc => ?_) (fun hc => ?_) <;> (try rw [hc])
    · have hjt : j < o := by simpa using hc
      have nxt : openAt s f used src dst i j = false → ∀ j', j' < j + 1 → openAt s f used src dst i j' = false := fun h j' h1 => by
        rcases Nat.lt_succ_iff_lt_or_eq.1 h1 with hl | rfl
        · exact hjv j' hl
        · exact h
      have es := shr_and (m := m) (k := j) hmb.1 (by omega) (by omega)
      have hop : openAt s f used src dst i j = (bitI m j == 1 && !(s.cells ++ used).any (busy2 i src dst) && !used.any (takenC i j)) := by
        unfold openAt bitAt slotBusy
        rw [List.getD_eq_getElem?_getD, hm, List.any_append, busy2_at, busy2_at]
        show (!_ && (_ && !takenAt used i j)) = (_ && _ && !takenAt used i j)
        simp only [Option.getD_some]
        cases busyAt s.cells i src <;> cases busyAt s.cells i dst <;> cases busyAt used i src <;> cases busyAt used i dst <;> cases bitI m j == 1 <;> simp
      refine Wk ?_
      refine CallK.round mixed [12] hLp rfl rfl rfl ?_
      clear hLp
      refine Wk ?_
      refine SeqK.cutS mixed [] ((14, .ptr 9 0) :: tkSl s) ⟨tkBx s f used src dst ++ [.loop { Lp with st := .busy }, .cells [.int .i64 i, .int .i64 j, .int .i64 src, .int .i64 dst, .int .i64 0] 32], [], 9, 0, fun _ => 0⟩ (SemK.regionAny mixed rfl ?_) ?_
      · repeat' ((conv => whnf); first | exact trivial | refine sJ ?_ | refine And.intro (by first  | kernel_rfl) ?_ | refine And.intro ?_ ?_ )
        all_goals (conv => whnf)
        all_goals
          refine Fits.mk' rfl rfl rfl rfl ?_ ?_ ?_ ?_ ?_ <;> repeat' (first | exact trivial | refine And.intro ?_ ?_ | exact Sees.of_eq rfl | exact lt_b rfl | rfl | exact hok _ _ (Nat.le_of_ble_eq_true rfl))
      repeat ((conv => whnf); first | refine sJ ?_ | refine And.intro (by first | exact inbMap (by omega) | exact (show (0 : Int) ≤ (j : Int) by omega) | kernel_rfl) ?_ | rw [hmx] | rw [es])
      try (conv => whnf)
      refine BrK.mk (fun d1 => ?_) (fun d1 => ?_) <;> (try rw [d1])
      · refine Wk ?_
        refine CallP.box rfl (c_ContainsFuncCell LW (s.cells ++ used) (busy2 i src dst) 28 [.cptr (Cell.av ⟨i, j, src, dst, 0⟩) 0, .cptr (.agg [.int .i64 src]) 0, .cptr (.agg [.int .i64 dst]) 0] (by simp; omega) rfl rfl (fun c _ => c_tbusy LW ⟨i, j, src, dst, 0⟩ src dst c)) rfl rfl ?_
        refine Wk ?_
        refine BrK.mk (fun d2 => ?_) (fun d2 => ?_) <;> (try rw [d2])
        · refine Wk ?_
          refine CallP.box rfl (c_ContainsFuncCell LW used (takenC i j) 29 [.cptr (Cell.av ⟨i, j, src, dst, 0⟩) 0] (by omega) rfl rfl (fun c _ => c_tsame LW ⟨i, j, src, dst, 0⟩ c)) rfl rfl ?_
          refine Wk ?_
          refine BrK.mk (fun d3 => ?_) (fun d3 => ?_) <;> (try rw [d3])
          · refine Wk ?_
            rw [firstP_some hlt hjt (by rw [hop, d1, d2, d3]; rfl) hinv hjv]
            exact resP.mk rfl (Sees.of_eq rfl)
          · refine Wk ?_
            refine ⟨j + 1, ⟨by omega, nxt (by rw [hop]; rw [d3]; simp)⟩, by omega, ?_⟩
            refine Fits.mk' rfl rfl rfl rfl ?_ ?_ ?_ ?_ ?_ <;> repeat' (first | exact trivial | refine And.intro ?_ ?_ | exact Sees.of_eq rfl | exact lt_b rfl | rfl | exact hok _ _ (Nat.le_of_ble_eq_true rfl) | exact Sees.int (succI hjt (by omega)))
        · refine Wk ?_
          refine ⟨j + 1, ⟨by omega, nxt (by rw [hop]; rw [d2]; simp)⟩, by omega, ?_⟩
          refine Fits.mk' rfl rfl rfl rfl ?_ ?_ ?_ ?_ ?_ <;> repeat' (first | exact trivial | refine And.intro ?_ ?_ | exact Sees.of_eq rfl | exact lt_b rfl | rfl | exact hok _ _ (Nat.le_of_ble_eq_true rfl) | exact Sees.int (succI hjt (by omega)))
      · refine Wk ?_
        refine ⟨j + 1, ⟨by omega, nxt (by rw [hop]; rw [d1]; rfl)⟩, by omega, ?_⟩
        refine Fits.mk' rfl rfl rfl rfl ?_ ?_ ?_ ?_ ?_ <;> repeat' (first | exact trivial | refine And.intro ?_ ?_ | exact Sees.of_eq rfl | exact lt_b rfl | rfl | exact hok _ _ (Nat.le_of_ble_eq_true rfl) | exact Sees.int (succI hjt (by omega)))
    · have hjo : j = o := by simp at hc; omega
      subst hjo
      refine Wk ?_
      refine ⟨i + 1, ⟨by omega, next hjv⟩, by omega, ?_⟩
      refine Fits.mk' rfl rfl rfl rfl ?_ ?_ ?_ ?_ ?_ <;> repeat' (first | exact trivial | refine And.intro ?_ ?_ | exact Sees.of_eq rfl | exact lt_b rfl | rfl | exact hok _ _ (Nat.le_of_ble_eq_true rfl) | exact Sees.int (succI hlt (by omega)))
  · have hk' : i = n := by simp at hb; omega
    subst hk'
    refine Wk ?_
    rw [show Lp.st = .ready from by rw [hLp], show Lp.pend = none from by rw [hLp]]
    refine Wk ?_
    exact resP.mk rfl (Sees.of_eq (by rw [firstP_none hinv]; rfl))
end HM

/- awake; the laws on checks and on Take. -/
set_option maxRecDepth 100000
namespace HM
open Go Go.RowKit Go.Proofs

def s0 : Sched := ⟨2, 3, [⟨0, 1, 0, 1, 5⟩, ⟨1, 0, 2, 3, 6⟩]⟩
theorem e_free : freeM s0 = ([5, 6], 0) := by decide +kernel
theorem e_take : takeM s0 [5, 6] [] 1 4 = (⟨1, 1, 1, 4, 0⟩, 0) := by decide +kernel
theorem e_count : countM [5, 6] = 4 := by decide +kernel
theorem e_check : checkM [5, 6] 2 3 = 0 := by decide +kernel

set_option maxHeartbeats 4000000 in
theorem c_awake : PCall Tryz.prog LW 4 [] (.bool true) := by
  refine PCall.intro mixed [] (nt := 47) Tryz.func4 rfl rfl (by simp) ?_
  refine Wk ?_
  first | refine CallK.data rfl (c_Free s0) rfl ?_ | refine CallP.data rfl (c_Free s0) rfl ?_
  rw [e_free]
  refine Wk ?_
  first | refine CallK.data rfl (c_take s0 [5, 6] [] 1 4 (by decide) (by decide)) rfl ?_ | refine CallP.data rfl (c_take s0 [5, 6] [] 1 4 (by decide) (by decide)) rfl ?_
  rw [e_take]
  refine Wk ?_
  first | refine CallK.data rfl (c_EqualFree LW [5, 6] [5, 6] (by decide)) rfl ?_ | refine CallP.data rfl (c_EqualFree LW [5, 6] [5, 6] (by decide)) rfl ?_
  rw [show sameMk [5, 6] [5, 6] = true from by decide]
  refine Wk ?_
  first | refine CallK.data rfl (c_count LW [5, 6] (by decide)) rfl ?_ | refine CallP.data rfl (c_count LW [5, 6] (by decide)) rfl ?_
  rw [e_count]
  refine Wk ?_
  first | refine CallK.data rfl (c_scheck LW [5, 6] 2 3 (by decide)) rfl ?_ | refine CallP.data rfl (c_scheck LW [5, 6] 2 3 (by decide)) rfl ?_
  rw [e_check]
  refine Wk ?_
  exact resP.mk rfl (Sees.of_eq rfl)

end HM
