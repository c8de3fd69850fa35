/- The places to which a cell can be moved: the program. -/
import Derived.Test.YtefnhecgmdilbaaGreatDoorS164
import Derived.Test.YtefnhecgmdilbaaGreatDoorS34
import Derived.Test.YtefnhecgmdilbaaGreatDoorS16
import Derived.Test.YtefnhecgmdilbaaGreatDoorFh
import Derived.Test.YtefnhecgmdilbaaGreatDoorDc

set_option maxRecDepth 100000
namespace HM
open Go Go.RowKit Go.Proofs
def spSl (n : Net) (q : List Req) (s : Sched) (c : Cell) : List (Nat × AV) := [(4, .cptr n.av 0), (5, .cptr (.agg [encReqs q]) 0), (6, .cptr s.av 0), (7, .cptr c.av 0), (13, .ptr 4 0), (15, .ptr 5 0), (41, .fn 42 [.cptr s.av 0])]
def spBx (t : Sched) (out : List Cell) : List Ob := [.dead, .dead, .dead, .dead, .cells [.int .i64 t.len, .int .i64 t.offs, encCells t.cells] 30, .cells [.own (out.map Cell.av) 0] 28]
theorem addM_len (t : Sched) (c : Cell) : (addM t c).1.cells.length ≤ t.cells.length + 1 := by
  unfold addM
  repeat' split
  all_goals first | exact Nat.zero_le _ | (simp only [insAt_len]; exact Nat.le_refl _)
set_option maxHeartbeats 16000000 in
theorem c_Places (n : Net) (hn : n.small) (q : List Req) (hq : q.length ≤ 1099511627776) (hx : ∀ x ∈ q, x.small) (s : Sched) (hc : s.cells.length ≤ 281474976710656) (c : Cell) :
    PCall Tryz.prog LW 6 [n.av, encReqs q, s.av, c.av] (.tup [encCells (plcM n q s c).1, .int .i64 (plcM n q s c).2]) := by
  refine PCall.intro mixed [1] (nt := 81) Tryz.func6 rfl rfl (by simp) ?_
  refine Wk ?_
  refine SeqK.sem mixed [] ?_
  refine Wk ?_
  refine SemK.freezeB 0 rfl rfl ?_
  refine SemK.freezeB 1 rfl rfl ?_
  refine SemK.freezeB 2 rfl rfl ?_
  refine SemK.freezeB 3 rfl rfl ?_
  refine twC_sound (ct := []) mixed _ _ _ _ ?_
  refine Wk ?_
  first | refine CallK.data rfl (c_Make n hn q hq hx s hc) rfl ?_ | refine CallP.data rfl (c_Make n hn q hq hx s hc) rfl ?_
  refine Wk ?_
  cases h1 : ((makeM n q s).2.2 != 0) with
  | true =>
    refine Wk ?_
    exact resP.mk rfl (Sees.of_eq (by rw [plcM, if_pos (by simpa using h1)]; rfl))
  | false =>
  have h1' : ¬ (makeM n q s).2.2 ≠ 0 := by simpa using h1
  refine Wk ?_
  first | refine CallK.data rfl (c_Remove LW s c) rfl ?_ | refine CallP.data rfl (c_Remove LW s c) rfl ?_
  cases h2 : ((remM s c).2 != 0) with
  | true =>
    repeat ((conv => whnf); first | refine sJ ?_ | refine And.intro (by first | exact trivial | kernel_rfl) ?_ | rw [h2])
    try (conv => whnf)
    exact resP.mk rfl (Sees.of_eq (by rw [plcM, if_neg h1', if_pos (by simpa using h2)]; rfl))
  | false =>
  have h2' : ¬ (remM s c).2 ≠ 0 := by simpa using h2
  obtain ⟨t, ht⟩ : ∃ t, t = (remM s c).1 := ⟨_, rfl⟩
  have hrt : remM s c = (t, 0) := Prod.ext ht.symm (by simpa using h2')
  obtain ⟨r1, r2, r3⟩ := remM_ok hrt
  obtain ⟨f1, f2, f3⟩ := form_all r1
  have hsb := sized_bd f1
  have htl : t.cells.length ≤ 512 := by rw [r3]; exact Nat.le_trans (List.length_filter_le _ _) f2
  obtain ⟨nn, hnn⟩ : ∃ m : Nat, s.len = m := ⟨s.len.toNat, by omega⟩
  obtain ⟨o, ho⟩ : ∃ m : Nat, s.offs = m := ⟨s.offs.toNat, by omega⟩
  have hP : plcM n q s c = if 1024 < (plS n q t c o nn).length then ([], 8) else (plS n q t c o nn, 0) := by
    rw [plcM, if_neg h1', if_neg h2', hrt, hnn, ho, Int.toNat_natCast, Int.toNat_natCast]
  rw [hP]
  rw [hrt]
  refine Wk ?_
  first | refine CallK.data rfl (c_places LW s) rfl ?_ | refine CallP.data rfl (c_places LW s) rfl ?_
  refine Wk ?_
  refine RangeK.bornB 5 5 32 _ rfl ?_
  refine RangeK.weak (l := spSl n q s c) (S1 := ⟨spBx t [], [(0, 5)], 0, 0, fun _ => 32⟩) ?_ ?_
  · refine Fits.mk' rfl rfl rfl rfl ?_ ?_ ?_ ?_ ?_ <;> repeat' (first | exact trivial | refine And.intro ?_ ?_ | exact Sees.of_eq rfl | exact lt_b rfl | rfl )
  refine RangeK.named rfl rfl fun Lp hLp => ?_
  have hok : ∀ k m, 6 ≤ k → Ob.okk k m (.loop Lp) := fun k m hk => loop_okk (l := spSl n q s c) (by rw [hLp]) (by simp [spSl, okL, AV.okk, okks]; omega)
  refine ICall.intro mixed [] (nt := 23) Tryz.func42 rfl rfl (by simp) ?_
  refine Wk ?_
  refine LoopK.run mixed [] (fun i : Nat => i ≤ nn) (fun i => [(0, .yld 6), (1, .cptr s.av 0), (6, .int .i64 nn), (7, .int .i64 i)]) (fun i => ⟨spBx t (plS n q t c o i) ++ [.loop Lp], [((plS n q t c o i).length, 5)], 7, 1, fun _ => 32⟩) (fun i => nn - i) 0 (by omega) ?_ ?_
  · refine Fits.mk' rfl rfl rfl rfl ?_ ?_ ?_ ?_ ?_ <;> repeat' (first | exact trivial | refine And.intro ?_ ?_ | exact Sees.of_eq rfl | exact lt_b rfl | rfl | exact hok _ _ (Nat.le_of_ble_eq_true rfl) | exact Sees.int hnn)
  rintro i hi
  have hSl := plS_len n q t c o i
  have hSl2 : i * o ≤ 512 * 16 := Nat.mul_le_mul (by omega) (by omega)
  by_cases hit : i < nn
  · have gi : decide ((i : Int) < (nn : Int)) = true := decide_eq_true (by omega)
    repeat ((conv => whnf); first | refine sJ ?_ | refine And.intro (by first | exact trivial | kernel_rfl) ?_ | rw [gi])
    try (conv => whnf)
    refine LoopK.run mixed [] (fun j : Nat => j ≤ o) (fun j => [(0, .yld 6), (1, .cptr s.av 0), (3, .int .i64 i), (6, .int .i64 nn), (7, .int .i64 i), (11, .int .i64 o), (12, .int .i64 j)]) (fun j => ⟨spBx t (plS n q t c o i ++ plO n q t c i j) ++ [.loop Lp], [((plS n q t c o i ++ plO n q t c i j).length, 5)], 7, 1, fun _ => 32⟩) (fun j => o - j) 0 (by omega) ?_ ?_
    · refine Fits.mk' rfl rfl rfl rfl ?_ ?_ ?_ ?_ ?_ <;> repeat' (first | exact trivial | refine And.intro ?_ ?_ | exact Sees.of_eq rfl | exact lt_b rfl | rfl | exact hok _ _ (Nat.le_of_ble_eq_true rfl) | exact Sees.int ho | exact Sees.own (by simp [plO]) | (show (_, _) = (_, _); simp [plO]))
    rintro j hj
    have hOl := plO_len n q t c i j
    have hOs := plO_succ n q t c i j
    by_cases hjt : j < o
    · have gj : decide ((j : Int) < (o : Int)) = true := decide_eq_true (by omega)
      repeat ((conv => whnf); first | refine sJ ?_ | refine And.intro (by first | exact trivial | kernel_rfl) ?_ | rw [gj])
      try (conv => whnf)
      refine CallK.round mixed [10010] hLp rfl rfl rfl ?_
      clear hLp
      refine Wk ?_
      refine SemK.regionFin mixed (fun _ => True) [0, 1, 2, 3, 4, 5] 6 rfl rfl (by decide) rfl trivial ?_
      iterate 6
        conv => whnf
        apply exV
        · rintro S' K' hI hh
          refine Wk ?_
          exact hh
      conv => whnf
      repeat' ((conv => whnf); first | exact trivial | refine sJ ?_ | refine And.intro (by first | exact Or.inr trivial | kernel_rfl) ?_ | refine And.intro ?_ ?_ )
      all_goals (conv => whnf)
      cases g1 : cellEqB (placeX c i j) c with
      | true =>
        have e1 : ((i : Int) == c.slot && ((j : Int) == c.off && (c.src == c.src && (c.dst == c.dst && (c.flow == c.flow && true))))) = true := g1
        have hno : plO n q t c i (j + 1) = plO n q t c i j := by rw [hOs, if_neg (by simp [canP, g1]), List.append_nil]
        rw [e1]
        refine Wk ?_
        refine ⟨j + 1, by omega, by omega, ?_⟩
        rw [hno]
        refine Fits.mk' rfl rfl rfl rfl ?_ ?_ ?_ ?_ ?_ <;> repeat' (first | exact trivial | refine And.intro ?_ ?_ | exact Sees.of_eq rfl | exact lt_b rfl | rfl | exact hok _ _ (Nat.le_of_ble_eq_true rfl) | exact Sees.int (succI hjt (by omega)))
      | false =>
        have e1 : ((i : Int) == c.slot && ((j : Int) == c.off && (c.src == c.src && (c.dst == c.dst && (c.flow == c.flow && true))))) = false := g1
        rw [e1]
        refine Wk ?_
        first | refine CallK.data rfl (c_Add LW t (placeX c i j)) rfl ?_ | refine CallP.data rfl (c_Add LW t (placeX c i j)) rfl ?_
        cases g2 : ((addM t (placeX c i j)).2 != 0) with
        | true =>
          have hno : plO n q t c i (j + 1) = plO n q t c i j := by rw [hOs, if_neg (by simp only [bne_iff_ne, ne_eq] at g2; simp [canP, g2]), List.append_nil]
          repeat ((conv => whnf); first | refine sJ ?_ | refine And.intro (by first | exact trivial | kernel_rfl) ?_ | rw [g2])
          try (conv => whnf)
          refine ⟨j + 1, by omega, by omega, ?_⟩
          rw [hno]
          refine Fits.mk' rfl rfl rfl rfl ?_ ?_ ?_ ?_ ?_ <;> repeat' (first | exact trivial | refine And.intro ?_ ?_ | exact Sees.of_eq rfl | exact lt_b rfl | rfl | exact hok _ _ (Nat.le_of_ble_eq_true rfl) | exact Sees.int (succI hjt (by omega)))
        | false =>
          repeat ((conv => whnf); first | refine sJ ?_ | refine And.intro (by first | exact trivial | kernel_rfl) ?_ | rw [g2])
          try (conv => whnf)
          first | refine CallK.data rfl (c_Make n hn q hq hx (addM t (placeX c i j)).1 (by have := addM_len t (placeX c i j); omega)) rfl ?_ | refine CallP.data rfl (c_Make n hn q hq hx (addM t (placeX c i j)).1 (by have := addM_len t (placeX c i j); omega)) rfl ?_
          cases g3 : ((makeM n q (addM t (placeX c i j)).1).2.2 == 0) with
          | false =>
            have hno : plO n q t c i (j + 1) = plO n q t c i j := by rw [hOs, if_neg (by simp only [beq_eq_false_iff_ne, ne_eq] at g3; simp [canP, g3]), List.append_nil]
            repeat ((conv => whnf); first | refine sJ ?_ | refine And.intro (by first | exact trivial | kernel_rfl) ?_ | rw [g3])
            try (conv => whnf)
            refine ⟨j + 1, by omega, by omega, ?_⟩
            rw [hno]
            refine Fits.mk' rfl rfl rfl rfl ?_ ?_ ?_ ?_ ?_ <;> repeat' (first | exact trivial | refine And.intro ?_ ?_ | exact Sees.of_eq rfl | exact lt_b rfl | rfl | exact hok _ _ (Nat.le_of_ble_eq_true rfl) | exact Sees.int (succI hjt (by omega)))
          | true =>
            have hno : plO n q t c i (j + 1) = plO n q t c i j ++ [placeX c i j] := by rw [hOs, if_pos (by simp only [beq_iff_eq] at g3; simp only [bne_eq_false_iff_eq] at g2; simp [canP, g1, g2, g3])]
            have hl1 : (plS n q t c o i ++ (plO n q t c i j ++ [placeX c i j])).length = (plS n q t c o i ++ plO n q t c i j).length + 1 := by simp [Nat.add_assoc]
            repeat ((conv => whnf); first | refine sJ ?_ | refine And.intro (by first | exact trivial | exact Els.map (f := Cell.av) (fun x => ⟨cellOk.len x, cellOk.cell x⟩) | exact (show _ * 40 ≤ _ by simp only [List.length_map, List.length_append, List.length_cons, List.length_nil]; omega) | exact (by simp only [List.length_map, List.length_append, List.length_cons, List.length_nil, maxLen]; omega) | exact (show some (_, _) = some (_, _) by simp only [List.length_map]) | kernel_rfl) ?_ | rw [g3])
            try (conv => whnf)
            refine ⟨j + 1, by omega, by omega, ?_⟩
            rw [hno]
            refine Fits.mk' rfl rfl rfl rfl ?_ ?_ ?_ ?_ ?_ <;> repeat' (first | exact trivial | refine And.intro ?_ ?_ | exact Sees.of_eq rfl | exact lt_b rfl | rfl | exact hok _ _ (Nat.le_of_ble_eq_true rfl) | exact Sees.int (succI hjt (by omega)) | exact Sees.own (by rw [← List.append_assoc, List.map_append (l₁ := plS n q t c o i ++ plO n q t c i j)]; rfl) | (show (_, _) = (_, _); rw [hl1, List.length_append, List.length_map]; rfl))
    · have hjo : j = o := by omega
      subst hjo
      have gj : decide ((j : Int) < (j : Int)) = false := decide_eq_false (by omega)
      repeat ((conv => whnf); first | refine sJ ?_ | refine And.intro (by first | exact trivial | kernel_rfl) ?_ | rw [gj])
      try (conv => whnf)
      refine ⟨i + 1, by omega, by omega, ?_⟩
      rw [plS_succ]
      refine Fits.mk' rfl rfl rfl rfl ?_ ?_ ?_ ?_ ?_ <;> repeat' (first | exact trivial | refine And.intro ?_ ?_ | exact Sees.of_eq rfl | exact lt_b rfl | rfl | exact hok _ _ (Nat.le_of_ble_eq_true rfl) | exact Sees.int (succI hit (by omega)))
  · have hin : i = nn := by omega
    subst hin
    have gi : decide ((i : Int) < (i : Int)) = false := decide_eq_false (by omega)
    by_cases hbig : 1024 < (plS n q t c o i).length
    · have g1 : decide ((1024 : Int) < (((plS n q t c o i).map Cell.av).length : Int)) = true := decide_eq_true (by rw [List.length_map]; omega)
      repeat ((conv => whnf); first | refine sJ ?_ | refine And.intro (by first | exact trivial | kernel_rfl) ?_ | rw [gi])
      try (conv => whnf)
      rw [show Lp.st = .ready from by rw [hLp], show Lp.pend = none from by rw [hLp]]
      clear hLp
      repeat ((conv => whnf); first | refine sJ ?_ | refine And.intro (by first | exact trivial | kernel_rfl) ?_ | rw [g1])
      try (conv => whnf)
      exact resP.mk rfl (Sees.of_eq (by rw [if_pos hbig]; rfl))
    · have g1 : decide ((1024 : Int) < (((plS n q t c o i).map Cell.av).length : Int)) = false := decide_eq_false (by rw [List.length_map]; omega)
      repeat ((conv => whnf); first | refine sJ ?_ | refine And.intro (by first | exact trivial | kernel_rfl) ?_ | rw [gi])
      try (conv => whnf)
      rw [show Lp.st = .ready from by rw [hLp], show Lp.pend = none from by rw [hLp]]
      clear hLp
      repeat ((conv => whnf); first | refine sJ ?_ | refine And.intro (by first | exact trivial | kernel_rfl) ?_ | rw [g1])
      try (conv => whnf)
      exact resP.mk rfl (Sees.of_eq (by rw [if_neg hbig]; rfl))
end HM
