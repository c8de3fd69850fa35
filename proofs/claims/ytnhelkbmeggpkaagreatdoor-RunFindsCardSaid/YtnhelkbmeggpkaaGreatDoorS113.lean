/- Late frames: the reference. -/
import Derived.Test.YtnhelkbmeggpkaaGreatDoorS112
import Derived.Test.YtnhelkbmeggpkaaGreatDoorS73

set_option maxRecDepth 100000
namespace HM
open Go Go.RowKit Go.Proofs
section
variable (L : World → Prop)

theorem c_intime36 (r : RunL) (f : Flow) (frame due : Int) (hr : r.dels.length ≤ 281474976710656) : PCall Tryz.prog L 57 [r.av, .int .i64 f.id, .int .i64 frame, .int .i64 due] (.bool (intimeB r f frame due)) := by
  refine PCall.intro mixed [] (nt := 45) Tryz.func57 rfl rfl (by simp) ?_
  refine Wk ?_
  refine LoopK.run mixed [] (fun (k : Nat) => k ≤ r.dels.length ∧ ∀ (j : Nat) y, j < k → r.dels[j]? = some y → (y.flow == f.id && (y.frame == frame && decide (y.slot ≤ due))) = false) (fun k => [(1, .int .i64 f.id), (2, .int .i64 frame), (3, .int .i64 due), (4, .ptr 0 0), (9, .int .i64 k)]) (fun k => ⟨[.cells [encAtts r.atts, encDels r.dels] 41], [], 0, 0, fun _ => 0⟩) (fun k => r.dels.length - k) 0 ⟨by simp, by simp⟩ ?_ ?_
  · refine Fits.mk' rfl rfl rfl rfl ?_ ?_ ?_ ?_ ?_ <;> repeat' (first | exact trivial | refine And.intro ?_ ?_ | exact Sees.of_eq rfl | exact lt_b rfl | rfl | exact SeesL.rfl' _)
  rintro k ⟨hk, hinv⟩
  refine Wk ?_
  refine BrK.mk (fun hb => ?_) (fun hb => ?_) <;> (try rw [hb])
  · have hkt : k < r.dels.length := by simpa using hb
    obtain ⟨d, hgd⟩ := getLt hkt
    have hmd := getMap (f := Del.av) hgd
    have next : (d.flow == f.id && (d.frame == frame && decide (d.slot ≤ due))) = false → ∀ (j : Nat) y, j < k + 1 → r.dels[j]? = some y → (y.flow == f.id && (y.frame == frame && decide (y.slot ≤ due))) = false := fun h => inv_snoc (p := fun y : Del => y.flow == f.id && (y.frame == frame && decide (y.slot ≤ due))) hinv hgd h
    have hit : (d.flow == f.id && (d.frame == frame && decide (d.slot ≤ due))) = true → intimeB r f frame due = true := fun h => List.any_eq_true.2 ⟨d, List.mem_of_getElem? hgd, h⟩
    repeat ((conv => whnf); first | refine sJ ?_ | refine And.intro (by first | exact inbMap hkt | kernel_rfl) ?_ | rw [hmd])
    try (conv => whnf)
    cases h2 : d.flow == f.id with
    | true =>
      repeat ((conv => whnf); first | refine sJ ?_ | refine And.intro (by first | exact inbMap hkt | kernel_rfl) ?_ | rw [hmd])
      try (conv => whnf)
      cases h3 : d.frame == frame with
      | true =>
        repeat ((conv => whnf); first | refine sJ ?_ | refine And.intro (by first | exact inbMap hkt | kernel_rfl) ?_ | rw [hmd])
        try (conv => whnf)
        cases h4 : decide (d.slot ≤ due) with
        | true =>
          refine Wk ?_
          exact resP.mk rfl (Sees.bool (hit (by rw [h2, h3, h4]; rfl)).symm)
        | false =>
          refine Wk ?_
          refine ⟨k + 1, ⟨by omega, next (by rw [h2, h3, h4]; rfl)⟩, by omega, ?_⟩
          refine Fits.mk' rfl rfl rfl rfl ?_ ?_ ?_ ?_ ?_ <;> repeat' (first | exact trivial | refine And.intro ?_ ?_ | exact Sees.of_eq rfl | exact lt_b rfl | rfl | exact SeesL.rfl' _ | exact Sees.int (succI hkt hr))
      | false =>
        refine Wk ?_
        refine ⟨k + 1, ⟨by omega, next (by rw [h2, h3]; rfl)⟩, by omega, ?_⟩
        refine Fits.mk' rfl rfl rfl rfl ?_ ?_ ?_ ?_ ?_ <;> repeat' (first | exact trivial | refine And.intro ?_ ?_ | exact Sees.of_eq rfl | exact lt_b rfl | rfl | exact SeesL.rfl' _ | exact Sees.int (succI hkt hr))
    | false =>
      refine Wk ?_
      refine ⟨k + 1, ⟨by omega, next (by rw [h2]; rfl)⟩, by omega, ?_⟩
      refine Fits.mk' rfl rfl rfl rfl ?_ ?_ ?_ ?_ ?_ <;> repeat' (first | exact trivial | refine And.intro ?_ ?_ | exact Sees.of_eq rfl | exact lt_b rfl | rfl | exact SeesL.rfl' _ | exact Sees.int (succI hkt hr))
  · have hkn : k = r.dels.length := by simp at hb; omega
    subst hkn
    have hno : intimeB r f frame due = false := List.any_eq_false.2 fun y hy => by
      obtain ⟨j, hj⟩ := List.getElem?_of_mem hy
      rw [hinv j y (List.getElem?_eq_some_iff.1 hj).1 hj]; simp
    refine Wk ?_
    exact resP.mk rfl (Sees.bool hno.symm)

theorem c_Rel32 (f : Flow) (k : Nat) (hf : flowE 32 f = 0) (hk : k ≤ 1048576) : PCall Tryz.prog L 56 [f.av, .int .i64 k] (.int .i64 (f.phase + k * f.period)) := by
  refine PCall.intro mixed [] (nt := 12) Tryz.func56 rfl rfl (by simp) ?_
  obtain ⟨q1, q2, q3, q4, q5, q6, q7, q8, q9, q10, q11, q12, q13⟩ := flowE_ok hf
  have h1 : (k : Int) * f.period ≤ 1048576 * 512 := Int.mul_le_mul (by omega) (by omega) (by omega) (by omega)
  have h2 : 0 ≤ (k : Int) * f.period := Int.mul_nonneg (by omega) (by omega)
  have w1 : IntKind.i64.wrap ((k : Int) * f.period) = (k : Int) * f.period := w64 (by omega) (by omega)
  have w2 : IntKind.i64.wrap (f.phase + (k : Int) * f.period) = f.phase + (k : Int) * f.period := w64 (by omega) (by omega)
  repeat ((conv => whnf); first | refine sJ ?_ | refine And.intro (by first | exact trivial | kernel_rfl) ?_ | rw [w1] | rw [w2])
  try (conv => whnf)
  exact resP.mk rfl (Sees.int rfl)

set_option maxHeartbeats 4000000 in
theorem c_Late36 (l : List Flow) (r : RunL) (slots : Int) (hl : l.length ≤ 281474976710656) (hr : r.dels.length ≤ 281474976710656) :
    PCall Tryz.prog L 21 [encFlows l, r.av, .int .i64 slots] (.tup [encDels (lateM l r slots).1, .int .i64 (lateM l r slots).2]) := by
  refine PCall.intro mixed [1] (nt := 86) Tryz.func21 rfl rfl (by simp) ?_
  refine Wk ?_
  refine SeqK.sem mixed [] ?_
  refine Wk ?_
  refine SemK.freezeB 0 rfl rfl ?_
  refine twC_sound (ct := []) mixed _ _ _ _ ?_
  refine Wk ?_
  first | refine CallK.data rfl (c_FCheck32 L 32 l hl) rfl ?_ | refine CallP.data rfl (c_FCheck32 L 32 l hl) rfl ?_
  refine Wk ?_
  refine BrK.mk (fun h1 => ?_) (fun h1 => ?_) <;> (try rw [h1])
  · refine Wk ?_
    exact resP.mk rfl (Sees.of_eq (by rw [lateM, if_pos (by simpa using h1)]; rfl))
  have h1' : (flowsE 32 l).2 = 0 := by simpa using h1
  refine Wk ?_
  first | refine CallK.data rfl (c_in36 L slots 0 4096) rfl ?_ | refine CallP.data rfl (c_in36 L slots 0 4096) rfl ?_
  refine Wk ?_
  refine BrK.mk (fun h2 => ?_) (fun h2 => ?_) <;> (try rw [h2])
  · have h2' : slots < 0 ∨ 4096 < slots := by simp [inB36] at h2; omega
    refine Wk ?_
    exact resP.mk rfl (Sees.of_eq (by rw [lateM, if_neg (by omega), if_pos h2']; rfl))
  have h2' : 0 ≤ slots ∧ slots ≤ 4096 := by simpa [inB36] using h2
  obtain ⟨h2', h3'⟩ := h2'
  rw [show lateM l r slots = if 1024 < (lateL l r slots).length then ([], 8) else (lateL l r slots, 0) from by rw [lateM, if_neg (by omega), if_neg (by omega)]]
  obtain ⟨hl16, hfl⟩ := flowsE_all h1'
  refine Wk ?_
  refine LoopK.run mixed [] (fun k : Nat => k ≤ l.length ∧ (lateL (l.take k) r slots).length ≤ k * 4096) (fun k => [(0, encFlows l), (2, .int .i64 slots), (4, .cptr r.av 0), (10, .own ((lateL (l.take k) r slots).map Del.av) 0), (11, .int .i64 k)]) (fun k => ⟨[], [((lateL (l.take k) r slots).length, 3)], 0, 0, fun k => if k = 0 then 71 else 0⟩) (fun k => l.length - k) 0 ⟨by simp, by simp [lateL]⟩ ?_ ?_
  · refine Fits.mk' rfl rfl rfl rfl ?_ ?_ ?_ ?_ ?_ <;> repeat' (first | exact trivial | refine And.intro ?_ ?_ | exact Sees.of_eq rfl | exact lt_b rfl | rfl | exact Sees.int (by simp))
  rintro k ⟨hk, hlen⟩
  refine Wk ?_
  refine BrK.mk (fun hb => ?_) (fun hb => ?_) <;> (try rw [hb])
  · have hlt : k < l.length := by simpa using hb
    obtain ⟨f, hgf⟩ := getLt hlt
    have hmf := getMap (f := Flow.av) hgf
    have hf0 := (hfl k f hgf).1
    obtain ⟨q1, q2, q3, q4, q5, q6, q7, q8, q9, q10, q11, q12, q13⟩ := flowE_ok hf0
    refine Wk ?_
    refine LoopK.run mixed [] (fun j : Nat => j ≤ dueN f slots) (fun j => [(0, encFlows l), (2, .int .i64 slots), (4, .cptr r.av 0), (10, .own ((lateL (l.take k) r slots ++ lateF r f j).map Del.av) 0), (11, .int .i64 k), (12, .int .i64 j)]) (fun j => ⟨[], [((lateL (l.take k) r slots ++ lateF r f j).length, 3)], 0, 0, fun k => if k = 0 then 71 else 0⟩) (fun j => dueN f slots - j) 0 (by omega) ?_ ?_
    · refine Fits.mk' rfl rfl rfl rfl ?_ ?_ ?_ ?_ ?_ <;> repeat' (first | exact trivial | refine And.intro ?_ ?_ | exact Sees.of_eq rfl | exact lt_b rfl | rfl | exact Sees.int (by simp) | exact Sees.own (by simp [lateF]) | (show (_, _) = (_, _); simp [lateF]))
    rintro j hj
    have hdn := dueN_le hf0 h3'
    have hmj : (j : Int) * f.period ≤ 4096 * 512 := Int.mul_le_mul (by omega) (by omega) (by omega) (by omega)
    have hmj0 : 0 ≤ (j : Int) * f.period := Int.mul_nonneg (by omega) (by omega)
    have hlj := lateF_len r f j
    obtain ⟨rel, hrel⟩ : ∃ rel, rel = f.phase + (j : Int) * f.period := ⟨_, rfl⟩
    have hcr := c_Rel32 L f j hf0 (by omega)
    rw [← hrel] at hcr
    have w1 : IntKind.i64.wrap (rel + f.dead) = rel + f.dead := w64 (by omega) (by omega)
    have w2 : IntKind.i64.wrap (rel + f.dead - 1) = rel + f.dead - 1 := w64 (by omega) (by omega)
    have hlt2 := dueN_lt (f := f) (slots := slots) q7 (k := j)
    rw [← hrel] at hlt2
    repeat ((conv => whnf); first | refine sJ ?_ | refine And.intro (by first | exact inbMap hlt | kernel_rfl) ?_ | rw [hmf])
    try (conv => whnf)
    first | refine CallK.data rfl (hcr) rfl ?_ | refine CallP.data rfl (hcr) rfl ?_
    repeat ((conv => whnf); first | refine sJ ?_ | refine And.intro (by first | exact inbMap hlt | kernel_rfl) ?_ | rw [hmf] | rw [w1] | rw [w2])
    try (conv => whnf)
    by_cases h4 : rel + f.dead - 1 < slots
    · rw [decide_eq_true h4]
      have hj2 : j < dueN f slots := hlt2.1 h4
      repeat ((conv => whnf); first | refine sJ ?_ | refine And.intro (by first | exact inbMap hlt | kernel_rfl) ?_ | rw [hmf])
      try (conv => whnf)
      first | refine CallK.data rfl (hcr) rfl ?_ | refine CallP.data rfl (hcr) rfl ?_
      repeat ((conv => whnf); first | refine sJ ?_ | refine And.intro (by first | exact inbMap hlt | kernel_rfl) ?_ | rw [hmf] | rw [w1] | rw [w2])
      try (conv => whnf)
      first | refine CallK.data rfl (c_intime36 L r f j (rel + f.dead - 1) hr) rfl ?_ | refine CallP.data rfl (c_intime36 L r f j (rel + f.dead - 1) hr) rfl ?_
      have hstep : lateF r f (j + 1) = lateF r f j ++ (if intimeB r f j (rel + f.dead - 1) = true then [] else [⟨f.id, j, rel + f.dead - 1⟩]) := by rw [lateF, hrel]
      obtain ⟨any, hany⟩ : ∃ any, any = intimeB r f j (rel + f.dead - 1) := ⟨_, rfl⟩
      rw [← hany] at hstep ⊢
      cases any with
      | true =>
        rw [if_pos rfl, List.append_nil] at hstep
        refine Wk ?_
        refine ⟨j + 1, by omega, by omega, ?_⟩
        rw [hstep]
        refine Fits.mk' rfl rfl rfl rfl ?_ ?_ ?_ ?_ ?_ <;> repeat' (first | exact trivial | refine And.intro ?_ ?_ | exact Sees.of_eq rfl | exact lt_b rfl | rfl | exact Sees.int (by rw [w64] <;> omega))
      | false =>
        rw [if_neg (by simp)] at hstep
        repeat ((conv => whnf); first | refine sJ ?_ | refine And.intro (by first | exact inbMap hlt | exact Els.map (f := Del.av) (fun _ => ⟨rfl, rfl⟩) | exact (show _ * 24 ≤ _ by simp only [List.length_map, List.length_append, List.length_cons, List.length_nil]; omega) | exact (by simp only [List.length_map, List.length_append, List.length_cons, List.length_nil, maxLen]; omega) | exact (show some (_, _) = some (_, _) by simp only [List.length_map]) | kernel_rfl) ?_ | rw [hmf])
        try (conv => whnf)
        refine ⟨j + 1, by omega, by omega, ?_⟩
        rw [hstep]
        refine Fits.mk' rfl rfl rfl rfl ?_ ?_ ?_ ?_ ?_ <;> repeat' (first | exact trivial | refine And.intro ?_ ?_ | exact Sees.of_eq rfl | exact lt_b rfl | rfl | exact Sees.int (by rw [w64] <;> omega) | exact Sees.own (by simp; rfl) | (show (_, _) = (_, _); simp only [List.length_append, List.length_map, List.length_cons, List.length_nil, Nat.add_assoc]))
    · rw [decide_eq_false h4]
      have hj2 : j = dueN f slots := by omega
      subst hj2
      refine Wk ?_
      rw [← lateL_step hgf] at *
      refine ⟨k + 1, ⟨by omega, ?_⟩, by omega, ?_⟩
      · rw [lateL_step hgf, List.length_append]; omega
      · refine Fits.mk' rfl rfl rfl rfl ?_ ?_ ?_ ?_ ?_ <;> repeat' (first | exact trivial | refine And.intro ?_ ?_ | exact Sees.of_eq rfl | exact lt_b rfl | rfl | exact Sees.int (succI hlt hl))
  · have hk' : k = l.length := by simp at hb; omega
    subst hk'
    rw [List.take_length]
    rw [List.take_length] at hlen
    refine Wk ?_
    refine BrK.mk (fun h5 => ?_) (fun h5 => ?_) <;> (try rw [h5])
    · have h5' : 1024 < (lateL l r slots).length := by simp at h5; omega
      rw [if_pos h5']
      refine Wk ?_
      exact resP.mk rfl (Sees.of_eq rfl)
    · have h5' : ¬ 1024 < (lateL l r slots).length := by simp at h5; omega
      rw [if_neg h5']
      refine Wk ?_
      exact resP.mk rfl (Sees.of_eq rfl)
end
end HM
