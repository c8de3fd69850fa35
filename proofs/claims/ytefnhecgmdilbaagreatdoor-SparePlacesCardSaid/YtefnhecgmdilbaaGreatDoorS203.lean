/- Certificates and places: the reference. -/
import Derived.Test.YtefnhecgmdilbaaGreatDoorS201
import Derived.Test.YtefnhecgmdilbaaGreatDoorS202
import Derived.Test.YtefnhecgmdilbaaGreatDoorS121
import Derived.Test.YtefnhecgmdilbaaGreatDoorS103
import Derived.Test.YtefnhecgmdilbaaGreatDoorDc

set_option maxRecDepth 100000
namespace HM
open Go Go.RowKit Go.Proofs
section
variable (L : World → Prop)
set_option maxHeartbeats 8000000 in
theorem c_Make38 (n : Net) (hn : n.small) (q : List Req) (hq : q.length ≤ 1099511627776) (hx : ∀ x ∈ q, x.small) (s : Sched) (hs : s.cells.length ≤ 32) : PCall Tryz.prog L 45 [n.av, encReqs q, s.av] (.tup [encClaims (makeM n q s).1, .int .i64 (makeM n q s).2.1, .int .i64 (makeM n q s).2.2]) := by
  refine PCall.intro mixed [1] (nt := 56) Tryz.func45 rfl rfl (by simp) ?_
  refine Wk ?_
  refine SeqK.sem mixed [] ?_
  refine Wk ?_
  refine SemK.freezeB 0 rfl rfl ?_
  refine SemK.freezeB 1 rfl rfl ?_
  refine twC_sound (ct := []) mixed _ _ _ _ ?_
  refine Wk ?_
  first | refine CallK.data rfl (c_Fault38 L n hn q hq hx) rfl ?_ | refine CallP.data rfl (c_Fault38 L n hn q hq hx) rfl ?_
  cases g1 : ((reqE n q).2 != 0) with
  | true =>
    repeat ((conv => whnf); first | refine sJ ?_ | refine And.intro (by first | exact trivial | kernel_rfl) ?_ | rw [g1])
    try (conv => whnf)
    exact resP.mk rfl (Sees.of_eq (by unfold makeM; rw [if_pos (by simpa using g1)]; rfl))
  | false =>
  have h1' : (reqE n q).2 = 0 := by simpa using g1
  obtain ⟨hok, hq16, hreq, hfl⟩ := reqE_ok h1'
  repeat ((conv => whnf); first | refine sJ ?_ | refine And.intro (by first | exact trivial | kernel_rfl) ?_ | rw [g1])
  try (conv => whnf)
  first | refine CallK.data rfl (c_Flows38 L q hq) rfl ?_ | refine CallP.data rfl (c_Flows38 L q hq) rfl ?_
  refine Wk ?_
  first | refine CallK.data rfl (c_Valid35 L n hn (flowsQ q) (by simp [flowsQ]; omega) s hs) rfl ?_ | refine CallP.data rfl (c_Valid35 L n hn (flowsQ q) (by simp [flowsQ]; omega) s hs) rfl ?_
  cases g2 : ((schedE n (flowsQ q) s).2 == 0) with
  | false =>
    have g2' : (schedE n (flowsQ q) s).2 ≠ 0 := by simpa using g2
    refine Wk ?_
    exact resP.mk rfl (Sees.of_eq (by unfold makeM; rw [if_neg (by omega), if_pos g2']; rfl))
  | true =>
  have h2' : (schedE n (flowsQ q) s).2 = 0 := by simpa using g2
  have hM : makeM n q s = if (firstAt (lateAt n s q) q.length).2 ≠ 0 then ([], firstAt (lateAt n s q) q.length) else (q.map (claimM n s), -1, 0) := by unfold makeM; rw [if_neg (by omega), if_neg (by omega)]
  refine Wk ?_
  refine LoopK.run mixed [10010] (fun k : Nat => k ≤ q.length ∧ ∀ j, j < k → lateAt n s q j = 0) (fun k => [(1, encReqs q), (3, .cptr n.av 0), (5, .cptr s.av 0), (11, .own ((q.take k).map fun x => (claimM n s x).av) 0), (12, .int .i64 k)]) (fun k => ⟨[.dead, .dead], [((q.take k).length, 5)], 0, 0, fun _ => 82⟩) (fun k => q.length - k) 0 ⟨by simp, by simp⟩ ?_ ?_
  · refine Fits.mk' rfl rfl rfl rfl ?_ ?_ ?_ ?_ ?_ <;> repeat' (first | exact trivial | refine And.intro ?_ ?_ | exact Sees.of_eq rfl | exact lt_b rfl | rfl | exact SeesL.rfl' _)
  rintro k ⟨hk, hinv⟩
  have hkl : (q.take k).length ≤ 16 := by rw [List.length_take]; omega
  by_cases hlt : k < q.length
  · obtain ⟨x, hgx⟩ := getLt hlt
    have hmx := getMap (f := Req.av) hgx
    have gk : decide ((k : Int) < ((q.map Req.av).length : Int)) = true := decide_eq_true (by rw [List.length_map]; omega)
    have hit := firstAt_hit hinv (k := k) (n := q.length)
    have hL : lateAt n s q k = if claimB n s x then 0 else 15 := by unfold lateAt; rw [hgx]
    repeat ((conv => whnf); first | refine sJ ?_ | refine And.intro (by first | exact trivial | kernel_rfl) ?_ | rw [gk])
    try (conv => whnf)
    refine SemK.regionFin mixed (fun _ => True) [0, 1, 2, 3, 4, 5, 6, 7, 8, 9] 3 rfl rfl (by decide) rfl trivial ?_
    iterate 6
      conv => whnf
      apply exV
      · rintro S' K' hI hh
        repeat ((conv => whnf); first | refine sJ ?_ | refine And.intro (by first | exact trivial | exact inbMap hlt | kernel_rfl) ?_ | rw [hmx])
        try (conv => whnf)
        exact hh
    conv => whnf
    apply exV
    · rintro S' K' hI hh
      refine Wk ?_
      first | refine CallK.data rfl (c_claim38 L n hn x (hreq x (List.mem_of_getElem? hgx)) s (by omega)) rfl ?_ | refine CallP.data rfl (c_claim38 L n hn x (hreq x (List.mem_of_getElem? hgx)) s (by omega)) rfl ?_
      exact hh
    iterate 3
      conv => whnf
      apply exV
      · rintro S' K' hI hh
        refine Wk ?_
        exact hh
    conv => whnf
    repeat' ((conv => whnf); first | exact trivial | refine sJ ?_ | refine And.intro (by first | exact Or.inr trivial | kernel_rfl) ?_ | refine And.intro ?_ ?_ )
    all_goals (conv => whnf)
    cases hcb : claimB n s x with
    | false =>
      rw [hcb, if_neg (by decide)] at hL
      have hf := hit (by rw [hL]; decide) hlt
      rw [hL] at hf
      refine Wk ?_
      exact resP.mk rfl (Sees.of_eq (by rw [hM, hf, if_pos (show (15 : Int) ≠ 0 by decide)]; rfl))
    | true =>
      rw [hcb, if_pos rfl] at hL
      repeat ((conv => whnf); first | refine sJ ?_ | refine And.intro (by first | exact Els.map (f := fun x => (claimM n s x).av) (fun x => ⟨rfl, rfl⟩) | exact (show _ * 104 ≤ _ by simp only [List.length_map, List.length_cons, List.length_nil]; omega) | exact (by simp only [List.length_map, List.length_cons, List.length_nil, maxLen]; omega) | exact (by rw [List.length_map]; rfl) | kernel_rfl) ?_ )
      try (conv => whnf)
      refine ⟨k + 1, ⟨by omega, fun j hj => ?_⟩, by omega, ?_⟩
      · rcases Nat.lt_succ_iff_lt_or_eq.1 hj with h | rfl
        · exact hinv j h
        · exact hL
      · refine Fits.mk' rfl rfl rfl rfl ?_ ?_ ?_ ?_ ?_ <;> repeat' (first | exact trivial | refine And.intro ?_ ?_ | exact Sees.of_eq rfl | exact lt_b rfl | rfl | exact SeesL.rfl' _ | exact Sees.int (succI hlt (by omega)) | exact Sees.own (by rw [take_succ hgx, List.map_append]; rfl) | (show (_, _) = (_, _); rw [take_succ hgx]; simp only [List.length_append, List.length_map]; rfl))
  · have hkn : k = q.length := by omega
    subst hkn
    have gk : decide ((q.length : Int) < ((q.map Req.av).length : Int)) = false := decide_eq_false (by rw [List.length_map]; omega)
    rw [List.take_length]
    repeat ((conv => whnf); first | refine sJ ?_ | refine And.intro (by first | exact trivial | kernel_rfl) ?_ | rw [gk])
    try (conv => whnf)
    exact resP.mk rfl (Sees.of_eq (by rw [hM, firstAt_zero hinv, if_neg (by decide)]; show _ = AV.tup [encClaims (List.map (claimM n s) q), _, _]; rw [encClaims, List.map_map]; rfl))
theorem c_Serves38 (n : Net) (hn : n.small) (q : List Req) (hq : q.length ≤ 1099511627776) (hx : ∀ x ∈ q, x.small) (s : Sched) (hs : s.cells.length ≤ 32) : PCall Tryz.prog L 20 [n.av, encReqs q, s.av] (.bool ((makeM n q s).2.2 == 0)) := by
  refine PCall.intro mixed [] (nt := 20) Tryz.func20 rfl rfl (by simp) ?_
  refine Wk ?_
  first | refine CallK.data rfl (c_Make38 L n hn q hq hx s hs) rfl ?_ | refine CallP.data rfl (c_Make38 L n hn q hq hx s hs) rfl ?_
  refine Wk ?_
  exact resP.mk rfl (Sees.bool rfl)
def pl44 (n : Net) (s : Sched) (c : Cell) (t : Sched) : List Ob := [.cells n.cs 26, .cells [.int .i64 s.len, .int .i64 s.offs, encCells s.cells] 30, .cells [.int .i64 c.slot, .int .i64 c.off, .int .i64 c.src, .int .i64 c.dst, .int .i64 c.flow] 32, .cells [.int .i64 t.len, .int .i64 t.offs, encCells t.cells] 30]
set_option maxHeartbeats 16000000 in
theorem c_Places44 (n : Net) (hn : n.small) (q : List Req) (hq : q.length ≤ 1099511627776) (hx : ∀ x ∈ q, x.small) (s : Sched) (hs : s.cells.length ≤ 30) (c : Cell) :
    PCall Tryz.prog L 7 [n.av, encReqs q, s.av, c.av] (.tup [encCells (plcM n q s c).1, .int .i64 (plcM n q s c).2]) := by
  refine PCall.intro mixed [] (nt := 70) Tryz.func7 rfl rfl (by simp) ?_
  refine Wk ?_
  first | refine CallK.data rfl (c_Serves38 L n hn q hq hx s (by omega)) rfl ?_ | refine CallP.data rfl (c_Serves38 L n hn q hq hx s (by omega)) rfl ?_
  cases h1 : ((makeM n q s).2.2 == 0) with
  | false =>
    refine Wk ?_
    exact resP.mk rfl (Sees.of_eq (by rw [plcM, if_pos (by simpa using h1)]; rfl))
  | true =>
  have h1' : ¬ (makeM n q s).2.2 ≠ 0 := by simpa using h1
  obtain ⟨hf, hrm, hbad⟩ := plcM_ref (c := c) (by simpa using h1 : (makeM n q s).2.2 = 0)
  refine Wk ?_
  first | refine CallK.data rfl (c_Has35 L s c (by omega)) rfl ?_ | refine CallP.data rfl (c_Has35 L s c (by omega)) rfl ?_
  by_cases hcm : c ∈ s.cells
  rotate_left
  · rw [decide_eq_false hcm, hbad fun h => hcm (hrm.1 h)]
    refine Wk ?_
    exact resP.mk rfl (Sees.of_eq rfl)
  rw [decide_eq_true hcm]
  have h2' : ¬ (remM s c).2 ≠ 0 := by simp [hrm.2 hcm]
  obtain ⟨t, ht⟩ : ∃ t, t = (remM s c).1 := ⟨_, rfl⟩
  have hrt : remM s c = (t, 0) := Prod.ext ht.symm (hrm.2 hcm)
  obtain ⟨r1, r2, r3⟩ := remM_ok hrt
  obtain ⟨f1, f2, f3⟩ := form_all r1
  have hsb := sized_bd f1
  have htl : t.cells.length ≤ 30 := by rw [r3]; exact Nat.le_trans (List.length_filter_le _ _) hs
  have htf : formB t = true := by have := remM_form (s := s) (c := c) (by rw [hrt]); rw [hrt] at this; exact this
  obtain ⟨nn, hnn⟩ : ∃ m : Nat, s.len = m := ⟨s.len.toNat, by omega⟩
  obtain ⟨o, ho⟩ : ∃ m : Nat, s.offs = m := ⟨s.offs.toNat, by omega⟩
  have hP : plcM n q s c = if 1024 < (plS n q t c o nn).length then ([], 8) else (plS n q t c o nn, 0) := by
    rw [plcM, if_neg h1', if_neg h2', hrt, hnn, ho, Int.toNat_natCast, Int.toNat_natCast]
  rw [hP]
  refine Wk ?_
  first | refine CallK.data rfl (c_Less1 L s c (by omega)) rfl ?_ | refine CallP.data rfl (c_Less1 L s c (by omega)) rfl ?_
  rw [← r3]
  refine Wk ?_
  refine LoopK.run mixed [] (fun i : Nat => i ≤ nn) (fun i => [(1, encReqs q), (4, .ptr 0 0), (6, .ptr 1 0), (7, .ptr 2 0), (10, .ptr 3 0), (11, .own ((plS n q t c o i).map Cell.av) 0), (12, .int .i64 i)]) (fun i => ⟨pl44 n s c t, [((plS n q t c o i).length, 5)], 0, 0, fun _ => 32⟩) (fun i => nn - i) 0 (by omega) ?_ ?_
  · refine Fits.mk' rfl rfl rfl rfl ?_ ?_ ?_ ?_ ?_ <;> repeat' (first | exact trivial | refine And.intro ?_ ?_ | exact Sees.of_eq rfl | exact lt_b rfl | rfl | exact SeesL.rfl' _)
  rintro i hi
  have hSl := plS_len n q t c o i
  have hSl2 : i * o ≤ 512 * 16 := Nat.mul_le_mul (by omega) (by omega)
  by_cases hit : i < nn
  · have gi : decide ((i : Int) < s.len) = true := decide_eq_true (by omega)
    have wi : IntKind.i64.wrap ((i : Int) + 1) = ((i + 1 : Nat) : Int) := by rw [w64] <;> omega
    repeat ((conv => whnf); first | refine sJ ?_ | refine And.intro (by first | exact trivial | kernel_rfl) ?_ | rw [gi])
    try (conv => whnf)
    refine LoopK.run mixed [] (fun j : Nat => j ≤ o) (fun j => [(1, encReqs q), (4, .ptr 0 0), (6, .ptr 1 0), (7, .ptr 2 0), (10, .ptr 3 0), (11, .own ((plS n q t c o i ++ plO n q t c i j).map Cell.av) 0), (12, .int .i64 i), (13, .int .i64 j)]) (fun j => ⟨pl44 n s c t, [((plS n q t c o i ++ plO n q t c i j).length, 5)], 0, 0, fun _ => 32⟩) (fun j => o - j) 0 (by omega) ?_ ?_
    · refine Fits.mk' rfl rfl rfl rfl ?_ ?_ ?_ ?_ ?_ <;> repeat' (first | exact trivial | refine And.intro ?_ ?_ | exact Sees.of_eq rfl | exact lt_b rfl | rfl | exact SeesL.rfl' _ | exact Sees.own (by simp [plO]) | (show (_, _) = (_, _); simp [plO]))
    rintro j hj
    have hOl := plO_len n q t c i j
    have hOs := plO_succ n q t c i j
    by_cases hjt : j < o
    · have gj : decide ((j : Int) < s.offs) = true := decide_eq_true (by omega)
      have wj : IntKind.i64.wrap ((j : Int) + 1) = ((j + 1 : Nat) : Int) := by rw [w64] <;> omega
      have hcan := canP_ref (n := n) (q := q) hrt hs (i := i) (j := j) (by omega) (by omega)
      cases g1 : cellEqB (placeX c i j) c with
      | true =>
        have e1 : ((i : Int) == c.slot && ((j : Int) == c.off && (c.src == c.src && (c.dst == c.dst && (c.flow == c.flow && true))))) = true := g1
        have hno : plO n q t c i (j + 1) = plO n q t c i j := by rw [hOs, hcan, g1, if_neg (by simp), List.append_nil]
        repeat ((conv => whnf); first | refine sJ ?_ | refine And.intro (by first | exact trivial | kernel_rfl) ?_ | rw [gj] | rw [e1])
        try (conv => whnf)
        refine ⟨j + 1, by omega, by omega, ?_⟩
        rw [hno]
        refine Fits.mk' rfl rfl rfl rfl ?_ ?_ ?_ ?_ ?_ <;> repeat' (first | exact trivial | refine And.intro ?_ ?_ | exact Sees.of_eq rfl | exact lt_b rfl | rfl | exact SeesL.rfl' _ | exact Sees.int wj)
      | false =>
        have e1 : ((i : Int) == c.slot && ((j : Int) == c.off && (c.src == c.src && (c.dst == c.dst && (c.flow == c.flow && true))))) = false := g1
        repeat ((conv => whnf); first | refine sJ ?_ | refine And.intro (by first | exact trivial | kernel_rfl) ?_ | rw [gj] | rw [e1])
        try (conv => whnf)
        first | refine CallK.data rfl (c_Has35 L t (placeX c i j) (by omega)) rfl ?_ | refine CallP.data rfl (c_Has35 L t (placeX c i j) (by omega)) rfl ?_
        by_cases hm : placeX c i j ∈ t.cells
        · have hno : plO n q t c i (j + 1) = plO n q t c i j := by rw [hOs, hcan, decide_eq_true hm, if_neg (by simp), List.append_nil]
          rw [decide_eq_true hm]
          refine Wk ?_
          refine ⟨j + 1, by omega, by omega, ?_⟩
          rw [hno]
          refine Fits.mk' rfl rfl rfl rfl ?_ ?_ ?_ ?_ ?_ <;> repeat' (first | exact trivial | refine And.intro ?_ ?_ | exact Sees.of_eq rfl | exact lt_b rfl | rfl | exact SeesL.rfl' _ | exact Sees.int wj)
        · rw [decide_eq_false hm]
          have hhb : hasB (cellTo (placeX c i j)) t.cells = false := by
            have := hasC_mem (c := placeX c i j) htf
            rw [decide_eq_false hm] at this
            exact this
          have hwl := withL_len (placeX c i j) t.cells hhb
          refine Wk ?_
          first | refine CallK.data rfl (c_With35 L t (placeX c i j) (by omega)) rfl ?_ | refine CallP.data rfl (c_With35 L t (placeX c i j) (by omega)) rfl ?_
          refine Wk ?_
          first | refine CallK.data rfl (c_Serves38 L n hn q hq hx ⟨t.len, t.offs, withL (placeX c i j) t.cells⟩ (by show (withL (placeX c i j) t.cells).length ≤ 32; omega)) rfl ?_ | refine CallP.data rfl (c_Serves38 L n hn q hq hx ⟨t.len, t.offs, withL (placeX c i j) t.cells⟩ (by show (withL (placeX c i j) t.cells).length ≤ 32; omega)) rfl ?_
          cases g3 : ((makeM n q ⟨t.len, t.offs, withL (placeX c i j) t.cells⟩).2.2 == 0) with
          | false =>
            have hno : plO n q t c i (j + 1) = plO n q t c i j := by rw [hOs, hcan, g3, if_neg (by simp), List.append_nil]
            refine Wk ?_
            refine ⟨j + 1, by omega, by omega, ?_⟩
            rw [hno]
            refine Fits.mk' rfl rfl rfl rfl ?_ ?_ ?_ ?_ ?_ <;> repeat' (first | exact trivial | refine And.intro ?_ ?_ | exact Sees.of_eq rfl | exact lt_b rfl | rfl | exact SeesL.rfl' _ | exact Sees.int wj)
          | true =>
            have hno : plO n q t c i (j + 1) = plO n q t c i j ++ [placeX c i j] := by rw [hOs, hcan, g3, g1, decide_eq_false hm, if_pos (by rfl)]
            have hl1 : (plS n q t c o i ++ (plO n q t c i j ++ [placeX c i j])).length = (plS n q t c o i ++ plO n q t c i j).length + 1 := by simp [Nat.add_assoc]
            repeat ((conv => whnf); first | refine sJ ?_ | refine And.intro (by first | exact trivial | exact Els.map (f := Cell.av) (fun x => ⟨cellOk.len x, cellOk.cell x⟩) | exact (show _ * 40 ≤ _ by simp only [List.length_map, List.length_append, List.length_cons, List.length_nil]; omega) | exact (by simp only [List.length_map, List.length_append, List.length_cons, List.length_nil, maxLen]; omega) | exact (show some (_, _) = some (_, _) by simp only [List.length_map]) | kernel_rfl) ?_ )
            try (conv => whnf)
            refine ⟨j + 1, by omega, by omega, ?_⟩
            rw [hno]
            refine Fits.mk' rfl rfl rfl rfl ?_ ?_ ?_ ?_ ?_ <;> repeat' (first | exact trivial | refine And.intro ?_ ?_ | exact Sees.of_eq rfl | exact lt_b rfl | rfl | exact SeesL.rfl' _ | exact Sees.int wj | exact Sees.own (by rw [← List.append_assoc, List.map_append (l₁ := plS n q t c o i ++ plO n q t c i j)]; rfl) | (show (_, _) = (_, _); rw [hl1, List.length_append, List.length_map]; rfl))
    · have hjo : j = o := by omega
      subst hjo
      have gj : decide ((j : Int) < s.offs) = false := decide_eq_false (by omega)
      repeat ((conv => whnf); first | refine sJ ?_ | refine And.intro (by first | exact trivial | kernel_rfl) ?_ | rw [gj])
      try (conv => whnf)
      refine ⟨i + 1, by omega, by omega, ?_⟩
      rw [plS_succ]
      refine Fits.mk' rfl rfl rfl rfl ?_ ?_ ?_ ?_ ?_ <;> repeat' (first | exact trivial | refine And.intro ?_ ?_ | exact Sees.of_eq rfl | exact lt_b rfl | rfl | exact SeesL.rfl' _ | exact Sees.int wi)
  · have hin : i = nn := by omega
    subst hin
    have gi : decide ((i : Int) < s.len) = false := decide_eq_false (by omega)
    by_cases hbig : 1024 < (plS n q t c o i).length
    · have g1 : decide ((1024 : Int) < (((plS n q t c o i).map Cell.av).length : Int)) = true := decide_eq_true (by rw [List.length_map]; omega)
      repeat ((conv => whnf); first | refine sJ ?_ | refine And.intro (by first | exact trivial | kernel_rfl) ?_ | rw [gi] | rw [g1])
      try (conv => whnf)
      exact resP.mk rfl (Sees.of_eq (by rw [if_pos hbig]; rfl))
    · have g1 : decide ((1024 : Int) < (((plS n q t c o i).map Cell.av).length : Int)) = false := decide_eq_false (by rw [List.length_map]; omega)
      repeat ((conv => whnf); first | refine sJ ?_ | refine And.intro (by first | exact trivial | kernel_rfl) ?_ | rw [gi] | rw [g1])
      try (conv => whnf)
      exact resP.mk rfl (Sees.of_eq (by rw [if_neg hbig]; rfl))
end
end HM
