/- The cells for a release: the program. -/
import Derived.Test.YtgfboaadhlhjhaaGreatDoorS220
import Derived.Test.YtgfboaadhlhjhaaGreatDoorDc
import Derived.Test.YtgfboaadhlhjhaaGreatDoorS30
import Derived.Test.YtgfboaadhlhjhaaGreatDoorFh
set_option maxRecDepth 100000
namespace HM
open Go Go.RowKit Go.Proofs
def rlS (n : Net) (s : Sched) : List Ob := [.cells (slG n s (encCells s.cells)) 91, .dead, .cells slZ 91]
set_option maxHeartbeats 16000000 in
theorem c_grelease (n : Net) (hn : n.small) (hok : NetOk n) (h0n : netE n = 0) (s : Sched) (hg : GridOk s) (hs : s.cells.length ≤ 900000) (hz : 1 ≤ s.len ∧ s.len ≤ 512 ∧ 1 ≤ s.offs ∧ s.offs ≤ 16) (f : Flow) (hfd : 1 ≤ f.dead ∧ f.dead ≤ 512) (r : List Int) (hr : 1 ≤ r.length ∧ r.length ≤ 9) (hop : HopsOk n r) (rel : Int) (h0 : 0 ≤ rel ∧ rel ≤ 1048576) :
    PCall Tryz.prog LW 107 [gridAv n s, f.av, encIs r, .int .i64 rel] (.tup [gridAv n (relL n f r (rel + f.dead) (r.length - 1) s rel), .bool (relA n f r (rel + f.dead) (r.length - 1) s rel).isSome]) := by
  have w1 : IntKind.i64.wrap (rel + f.dead) = rel + f.dead := w64 (by omega) (by omega)
  refine PCall.intro mixed [1] (nt := 74) Tryz.func107 rfl rfl (by simp) ?_
  refine Wk ?_
  refine SeqK.sem mixed [] ?_
  refine Wk ?_
  refine SemK.freezeB 1 rfl rfl ?_
  refine twC_sound (ct := []) mixed _ _ _ _ ?_
  repeat ((conv => whnf); first | refine sJ ?_ | refine And.intro (by first | exact trivial | kernel_rfl) ?_ | rw [w1])
  try (conv => whnf)
  refine LoopK.run mixed [10005] (fun st : Nat × Sched × Int => st.1 + 1 ≤ r.length ∧ relA n f r (rel + f.dead) st.1 s rel = some (st.2.1, st.2.2) ∧ GridOk st.2.1 ∧ (st.2.1.len = s.len ∧ st.2.1.offs = s.offs) ∧ st.2.1.cells.length ≤ s.cells.length + 16 * st.1 ∧ rel ≤ st.2.2 ∧ st.2.2 ≤ rel + f.dead) (fun st => [(2, encIs r), (3, .int .i64 st.2.2), (4, .ptr 0 0), (5, .cptr f.av 0), (8, .ptr 2 0), (10, .int .i64 (rel + f.dead)), (11, .int .i64 (st.1 + 1 : Nat))]) (fun st => ⟨rlS n st.2.1, [], 0, 0, fun _ => 0⟩) (fun st => r.length - st.1) (0, s, rel) ⟨by simp only; omega, rfl, hg, ⟨rfl, rfl⟩, by simp, Int.le_refl _, by simp only; omega⟩ ?_ ?_
  · refine Fits.mk' rfl rfl rfl rfl ?_ ?_ ?_ ?_ ?_ <;> repeat' (first | exact trivial | refine And.intro ?_ ?_ | exact Sees.of_eq rfl | exact lt_b rfl | rfl | exact SeesL.rfl' _)
  rintro ⟨i, s1, t1⟩ ⟨hi, hrel, hg1, hl1, hc1, ht0, ht1⟩
  dsimp only at hi hrel hg1 hl1 hc1 ht0 ht1 ⊢
  by_cases hlt : i + 1 < r.length
  · obtain ⟨y, hgy⟩ := getLt hlt
    have hmy := getMap (f := encI) hgy
    obtain ⟨x, hgx⟩ := getLt (l := r) (k := i) (by omega)
    have hmx := getMap (f := encI) hgx
    have hil : i < r.length := by omega
    have hxd : r.getD i 0 = x := by rw [List.getD_eq_getElem?_getD, hgx]; rfl
    have hyd : r.getD (i + 1) 0 = y := by rw [List.getD_eq_getElem?_getD, hgy]; rfl
    have hwi : IntKind.i64.wrap (((i + 1 : Nat) : Int) - 1) = (i : Int) := by rw [w64] <;> omega
    have gb : decide (((i + 1 : Nat) : Int) < ((r.map encI).length : Int)) = true := decide_eq_true (by rw [List.length_map]; omega)
    obtain ⟨l, hl⟩ := hop_at hok (hop i hlt)
    obtain ⟨q, hq1, hq2⟩ := hl.at_
    have hxy := hl.ends
    have hls := hl.src
    have hld := hl.dst
    have hnd := hl.need
    have hll := hl.loss
    rw [hxd, hyd] at hq1 hxy
    rw [hxd] at hls
    rw [hyd] at hld
    have hidx : indexN n x y = (q : Int) := by rw [indexN, if_pos h0n, hq1]
    have hqb := (List.getElem?_eq_some_iff.1 hq2).1
    have hml := getMap (f := Link.av) hq2
    have hneed : IntKind.i64.wrap (l.loss + 1) = (needAt n r 0 i : Int) := by rw [w64 (x := l.loss + 1) (by omega) (by omega)]; omega
    have hnl : needAt n r 0 i ≤ 16 := by omega
    repeat ((conv => whnf); first | refine sJ ?_ | refine And.intro (by first | exact trivial | exact inbMap hlt | exact inbMap hil | (rw [hwi]; exact inbMap hil) | kernel_rfl) ?_ | rw [gb] | rw [hwi] | rw [hmx] | rw [hmy])
    try (conv => whnf)
    refine SemK.regionFin mixed (fun X => X.bx[0]? = some (.cells (slG n s1 (encCells s1.cells)) 91)) [0, 1, 2, 3, 4, 5, 6, 7, 8, 9, 10, 11, 12, 13, 14, 15, 16] 2 rfl rfl (by decide) rfl rfl ?_
    iterate 14
      conv => whnf
      apply exV
      · rintro S' K' hI hh
        repeat ((conv => whnf); first | refine sJ ?_ | refine And.intro (by first | exact trivial | exact inbMap hlt | exact inbMap hil | (rw [hwi]; exact inbMap hil) | kernel_rfl) ?_ | rw [hI] | rw [hwi] | rw [hmx] | rw [hmy])
        try (conv => whnf)
        exact hh
    conv => whnf
    apply exV
    · rintro S' K' hI hh
      refine Wk ?_
      first | refine CallK.data rfl (c_index LW n hn x y) rfl ?_ | refine CallP.data rfl (c_index LW n hn x y) rfl ?_
      rw [hidx]
      exact hh
    iterate 2
      conv => whnf
      apply exV
      · rintro S' K' hI hh
        repeat ((conv => whnf); first | refine sJ ?_ | refine And.intro (by first | exact trivial | exact inbMap hqb | kernel_rfl) ?_ | rw [hI] | rw [hml])
        try (conv => whnf)
        exact hh
    conv => whnf
    repeat' ((conv => whnf); first | exact trivial | refine sJ ?_ | refine And.intro (by first | exact trivial | exact Or.inr rfl | exact Or.inl rfl | kernel_rfl) ?_ | refine And.intro ?_ ?_ )
    all_goals (conv => whnf)
    have hneed2 : IntKind.i64.wrap (l.loss + 1) = (needAt n r 0 i : Int) := hneed
    refine LoopK.run mixed [10009] (fun st : Sched × Nat × Int => fillM n x y f.id (rel + f.dead - t1).toNat s1 (needAt n r 0 i) t1 = fillM n x y f.id (rel + f.dead - st.2.2).toNat st.1 st.2.1 st.2.2 ∧ GridOk st.1 ∧ (st.1.len = s.len ∧ st.1.offs = s.offs) ∧ st.1.cells.length + st.2.1 ≤ s1.cells.length + needAt n r 0 i ∧ st.2.1 ≤ needAt n r 0 i ∧ t1 ≤ st.2.2 ∧ st.2.2 ≤ rel + f.dead) (fun st => [(2, encIs r), (3, .int .i64 st.2.2), (4, .ptr 0 0), (5, .cptr f.av 0), (8, .ptr 2 0), (10, .int .i64 (rel + f.dead)), (11, .int .i64 (i + 1 : Nat)), (12, .ptr 3 0), (13, .int .i64 st.2.1)]) (fun st => ⟨rlS n st.1 ++ [.cells [.int .i64 l.src, .int .i64 l.dst, .int .i64 l.loss] 31], [], 0, 0, fun _ => 0⟩) (fun st => (rel + f.dead - st.2.2).toNat) (s1, needAt n r 0 i, t1) ⟨rfl, hg1, hl1, Nat.le_refl _, Nat.le_refl _, Int.le_refl _, ht1⟩ ?_ ?_
    · refine Fits.mk' rfl rfl rfl rfl ?_ ?_ ?_ ?_ ?_ <;> repeat' (first | exact trivial | refine And.intro ?_ ?_ | exact Sees.of_eq rfl | exact lt_b rfl | rfl | exact SeesL.rfl' _ | exact Sees.int hneed)
    rintro ⟨s2, left, t2⟩ ⟨hfill, hg2, hl2, hc2, hle2, hta, htb⟩
    dsimp only at hfill hg2 hl2 hc2 hle2 hta htb ⊢
    have hrs : relA n f r (rel + f.dead) (i + 1) s rel = if (fillM n x y f.id (rel + f.dead - t2).toNat s2 left t2).2.1 ≠ 0 then none else some ((fillM n x y f.id (rel + f.dead - t2).toNat s2 left t2).1, (fillM n x y f.id (rel + f.dead - t2).toNat s2 left t2).2.2) := by
      rw [relA, hrel]
      simp only
      rw [hxd, hyd, hfill]
    by_cases hl0 : left = 0
    · subst hl0
      rw [fillM_stop] at hrs
      simp only [ne_eq, not_true_eq_false, if_false] at hrs
      have g1 : decide ((0 : Int) < ((0 : Nat) : Int)) = false := rfl
      repeat ((conv => whnf); first | refine sJ ?_ | refine And.intro (by first | exact trivial | kernel_rfl) ?_ | rw [g1])
      try (conv => whnf)
      refine ⟨(i + 1, s2, t2), ⟨by omega, hrs, hg2, hl2, by simp only; omega, by simp only; omega, htb⟩, by simp only; omega, ?_⟩
      refine Fits.mk' rfl rfl rfl rfl ?_ ?_ ?_ ?_ ?_ <;> repeat' (first | exact trivial | refine And.intro ?_ ?_ | exact Sees.of_eq rfl | exact lt_b rfl | rfl | exact SeesL.rfl' _ | exact Sees.int (succI hlt (by omega)))
    have g1 : decide ((0 : Int) < (left : Int)) = true := decide_eq_true (by omega)
    by_cases hend : t2 = rel + f.dead
    · have g2 : decide (t2 < rel + f.dead) = false := decide_eq_false (by omega)
      have hz0 : (rel + f.dead - t2).toNat = 0 := by omega
      rw [hz0] at hfill
      obtain ⟨hnone, hlast⟩ := relL_stop (m := r.length - 1) hrel (by rw [hxd, hyd, hfill]; rfl) hl0 (by omega)
      rw [hnone, hlast]
      repeat ((conv => whnf); first | refine sJ ?_ | refine And.intro (by first | exact trivial | kernel_rfl) ?_ | rw [g1] | rw [g2])
      try (conv => whnf)
      exact ⟨.tup [gridAv n s2, .bool false], rfl, Sees.of_eq rfl⟩
    have g2 : decide (t2 < rel + f.dead) = true := decide_eq_true (by omega)
    have wt : IntKind.i64.wrap (t2 + 1) = t2 + 1 := w64 (by omega) (by omega)
    have wl : IntKind.i64.wrap ((left : Int) - 1) = ((left - 1 : Nat) : Int) := by rw [w64] <;> omega
    have htm : t2.tmod s2.len = t2 % s2.len := tmod_eq (by omega)
    have hml2 : s2.len ≠ 0 := by omega
    have hmb : 0 ≤ t2 % s2.len ∧ t2 % s2.len < s2.len := ⟨Int.emod_nonneg _ hml2, Int.emod_lt_of_pos _ (by omega)⟩
    obtain ⟨D, hD⟩ : ∃ D, (rel + f.dead - t2).toNat = D + 1 := ⟨(rel + f.dead - t2).toNat - 1, by omega⟩
    have hD2 : (rel + f.dead - (t2 + 1)).toNat = D := by omega
    have hstep : fillM n x y f.id (rel + f.dead - t1).toNat s1 (needAt n r 0 i) t1 = fillM n x y f.id D (slotM n s2 x y f.id (t2 % s2.len)).1 (if (slotM n s2 x y f.id (t2 % s2.len)).2 = true then left - 1 else left) (t2 + 1) := by
      rw [hfill, hD, fillM, if_neg hl0]
    have hgs := gridOk_slot (n := n) hg2 hxy f.id (t2 % s2.len)
    have hlns := slotM_len n s2 x y f.id (t2 % s2.len)
    have hcs := slotM_cells2 n s2 x y f.id (t2 % s2.len)
    repeat ((conv => whnf); first | refine sJ ?_ | refine And.intro (by first | exact trivial | kernel_rfl) ?_ | rw [g1] | rw [g2])
    try (conv => whnf)
    refine SemK.regionFin mixed (fun X => X.bx[0]? = some (.cells (slG n s2 (encCells s2.cells)) 91) ∧ X.bx[3]? = some (.cells [.int .i64 l.src, .int .i64 l.dst, .int .i64 l.loss] 31)) [0, 1, 2, 3, 4, 5, 6, 7, 8, 9, 10, 11] 3 rfl rfl (by decide) rfl ⟨rfl, rfl⟩ ?_
    iterate 8
      conv => whnf
      apply exV
      · rintro S' K' ⟨hI, hI3⟩ hh
        repeat ((conv => whnf); first | refine sJ ?_ | refine And.intro (by first | exact trivial | kernel_rfl) ?_ | rw [hI] | rw [hI3])
        try (conv => whnf)
        exact hh
    conv => whnf
    apply exV
    · rintro S' K' ⟨hI, hI3⟩ hh
      repeat ((conv => whnf); first | refine sJ ?_ | refine And.intro (by first | exact trivial | exact hml2 | kernel_rfl) ?_ | rw [hI])
      try (conv => whnf)
      exact hh
    conv => whnf
    apply exV
    · rintro S' K' ⟨hI, hI3⟩ hh
      repeat ((conv => whnf); first | refine sJ ?_ | refine And.intro (by first | exact trivial | kernel_rfl) ?_ | rw [htm])
      try (conv => whnf)
      first | refine CallK.data rfl (c_slot n s2 l f.id (t2 % s2.len) hn hg2 (by omega) ⟨by omega, by omega⟩ ⟨by omega, by omega⟩) rfl ?_ | refine CallP.data rfl (c_slot n s2 l f.id (t2 % s2.len) hn hg2 (by omega) ⟨by omega, by omega⟩ ⟨by omega, by omega⟩) rfl ?_
      rw [hls, hld]
      exact hh
    iterate 2
      conv => whnf
      apply exV
      · rintro S' K' ⟨hI, hI3⟩ hh
        refine Wk ?_
        exact hh
    conv => whnf
    repeat' ((conv => whnf); first | exact trivial | refine sJ ?_ | refine And.intro (by first | exact trivial | exact Or.inr ⟨rfl, rfl⟩ | exact Or.inl rfl | kernel_rfl) ?_ | refine And.intro ?_ ?_ )
    all_goals (conv => whnf)
    all_goals
      cases hsl : (slotM n s2 x y f.id (t2 % s2.len)).2 with
      | true =>
        rw [hsl] at hstep hcs
        repeat ((conv => whnf); first | refine sJ ?_ | refine And.intro (by first | exact trivial | kernel_rfl) ?_ | rw [wl] | rw [wt])
        try (conv => whnf)
        refine ⟨((slotM n s2 x y f.id (t2 % s2.len)).1, left - 1, t2 + 1), ⟨by simp only; rw [hD2]; exact hstep, hgs, ⟨hlns.1.trans hl2.1, hlns.2.trans hl2.2⟩, by simp only; simp only [if_true] at hcs; omega, by simp only; omega, by simp only; omega, by simp only; omega⟩, by simp only; omega, ?_⟩
        refine Fits.mk' rfl rfl rfl rfl ?_ ?_ ?_ ?_ ?_ <;> repeat' (first | exact trivial | refine And.intro ?_ ?_ | exact Sees.of_eq rfl | exact lt_b rfl | rfl | exact SeesL.rfl' _ | exact Sees.int wl | exact Sees.int wt)
      | false =>
        rw [hsl] at hstep hcs
        rw [slotM_same hsl] at hstep
        have hsame := slotM_same hsl
        repeat ((conv => whnf); first | refine sJ ?_ | refine And.intro (by first | exact trivial | kernel_rfl) ?_ | rw [wt])
        try (conv => whnf)
        refine ⟨(s2, left, t2 + 1), ⟨by simp only; rw [hD2]; exact hstep, hg2, hl2, hc2, hle2, by simp only; omega, by simp only; omega⟩, by simp only; omega, ?_⟩
        refine Fits.mk' rfl rfl rfl rfl ?_ ?_ ?_ ?_ ?_ <;> repeat' (first | exact trivial | refine And.intro ?_ ?_ | exact Sees.of_eq rfl | exact lt_b rfl | rfl | exact SeesL.rfl' _ | exact Sees.int wt | (rw [hsame]) | exact SeesL.of_eq (by rw [hsame]; rfl))
  · have hie : i = r.length - 1 := by omega
    subst hie
    have gb : decide (((r.length - 1 + 1 : Nat) : Int) < ((r.map encI).length : Int)) = false := decide_eq_false (by rw [List.length_map]; omega)
    rw [relL_some hrel, hrel]
    repeat ((conv => whnf); first | refine sJ ?_ | refine And.intro (by first | exact trivial | kernel_rfl) ?_ | rw [gb])
    try (conv => whnf)
    exact ⟨.tup [gridAv n s1, .bool true], rfl, Sees.of_eq rfl⟩
end HM
