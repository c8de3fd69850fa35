/- The late frames. -/
import Derived.Test.YtadgamkgpgiodaaGreatDoorS72
import Derived.Test.YtadgamkgpgiodaaGreatDoorFh

set_option maxRecDepth 100000
namespace HM
open Go Go.RowKit Go.Proofs
section
variable (L : World → Prop)
theorem c_IndexFuncDel (l : List Del) (p : Del → Bool) (g : Nat) (caps : List AV) (hl : l.length ≤ 281474976710656) (hcb : callable Tryz.prog g = true) (hc : fzs caps = some caps) (hp : ∀ x ∈ l, PCall Tryz.prog L g (Del.av x :: caps) (.bool (p x))) :
    PCall Tryz.prog L 49 [.sl false (l.map Del.av), .fn g caps] (.int .i64 (idxF p l)) := by
  refine PCall.intro mixed [] (nt := 19) Tryz.func49 rfl rfl (by simp) ?_
  refine Wk ?_
  refine LoopK.run mixed [] (fun (k : Nat) => k ≤ l.length ∧ ∀ j x, j < k → l[j]? = some x → p x = false) (fun k => [(0, .sl false (l.map Del.av)), (1, .fn g caps), (7, .int .i64 l.length), (8, .int .i64 k)]) (fun k => St.none) (fun k => l.length - k) 0 ⟨by simp, by simp⟩ ?_ ?_
  · refine Fits.mk' rfl rfl rfl rfl ?_ ?_ ?_ ?_ ?_ <;> repeat' (first | exact trivial | refine And.intro ?_ ?_ | exact Sees.of_eq rfl | exact lt_b rfl | rfl | exact Sees.int (by simp) | exact fzs_okk hc)
  rintro k ⟨hk, hinv⟩
  refine Wk ?_
  refine BrK.mk (fun hb => ?_) (fun hb => ?_) <;> (try rw [hb])
  · have hlt : k < l.length := by simpa using hb
    obtain ⟨x, hgx⟩ := getLt hlt
    have hmx := getMap (f := Del.av) hgx
    repeat ((conv => whnf); first | refine sJ ?_ | refine And.intro (by first | exact inbMap hlt | kernel_rfl) ?_ | rw [hmx])
    try (conv => whnf)
    refine CallK.data hcb (hp x (List.mem_of_getElem? hgx)) (by show (match fz _, fzs caps with | some a, some b => some (a :: b) | _, _ => none) = _; rw [hc]; rfl) ?_
    refine Wk ?_
    refine BrK.mk (fun h2 => ?_) (fun h2 => ?_) <;> (try rw [h2])
    · refine Wk ?_
      exact resP.mk rfl (Sees.int (idxF_some hlt hinv hgx h2).symm)
    · refine Wk ?_
      refine ⟨k + 1, ⟨by omega, fun j y hj hy => ?_⟩, by omega, ?_⟩
      · rcases Nat.lt_succ_iff_lt_or_eq.1 hj with h | rfl
        · exact hinv j y h hy
        · rw [hgx] at hy; injection hy with hy; subst hy; exact h2
      · refine Fits.mk' rfl rfl rfl rfl ?_ ?_ ?_ ?_ ?_ <;> repeat' (first | exact trivial | refine And.intro ?_ ?_ | exact Sees.of_eq rfl | exact lt_b rfl | rfl | exact Sees.int (succI hlt hl) | exact fzs_okk hc)
  · have hk' : k = l.length := by simp at hb; omega
    subst hk'
    refine Wk ?_
    exact resP.mk rfl (Sees.int (idxF_none hinv).symm)

theorem c_ContainsFuncDel (l : List Del) (p : Del → Bool) (g : Nat) (caps : List AV) (hl : l.length ≤ 281474976710656) (hcb : callable Tryz.prog g = true) (hc : fzs caps = some caps) (hp : ∀ x ∈ l, PCall Tryz.prog L g (Del.av x :: caps) (.bool (p x))) :
    PCall Tryz.prog L 32 [.sl false (l.map Del.av), .fn g caps] (.bool (l.any p)) := by
  refine PCall.intro mixed [] (nt := 9) Tryz.func32 rfl rfl (by simp) ?_
  refine Wk ?_
  refine CallK.data rfl (c_IndexFuncDel L l p g caps hl hcb hc hp) (by show (match fz _, fzs [AV.fn g caps] with | some a, some b => some (a :: b) | _, _ => none) = _; rw [show fzs [AV.fn g caps] = some [AV.fn g caps] from by simp [fz, fzs, hc]]; rfl) ?_
  refine Wk ?_
  exact resP.mk rfl (Sees.bool (idxF_any p l))

theorem c_late1 (d : Del) (f : Flow) (frame due : Int) : PCall Tryz.prog L 33 [d.av, .cptr f.av 0, .cptr (.agg [.int .i64 frame]) 0, .cptr (.agg [.int .i64 due]) 0] (.bool (d.flow == f.id && (d.frame == frame && decide (d.slot ≤ due)))) := by
  refine PCall.intro mixed [] (nt := 23) Tryz.func33 rfl rfl (by simp) ?_
  refine Wk ?_
  refine BrK.mk (fun h1 => ?_) (fun h1 => ?_) <;> (try rw [h1])
  · refine Wk ?_
    refine BrK.mk (fun h2 => ?_) (fun h2 => ?_) <;> (try rw [h2])
    · refine Wk ?_
      exact resP.mk rfl (Sees.bool (by simp only [h1, h2, Bool.true_and]))
    · refine Wk ?_
      exact resP.mk rfl (Sees.bool (by simp only [h1, h2, Bool.true_and, Bool.false_and]))
  · refine Wk ?_
    exact resP.mk rfl (Sees.bool (by simp only [h1, Bool.false_and]))

set_option maxHeartbeats 4000000 in
theorem c_Late (l : List Flow) (r : RunL) (slots : Int) (hl : l.length ≤ 281474976710656) (hr : r.dels.length ≤ 281474976710656) :
    PCall Tryz.prog L 16 [encFlows l, r.av, .int .i64 slots] (.tup [encDels (lateM l r slots).1, .int .i64 (lateM l r slots).2]) := by
  refine PCall.intro mixed [] (nt := 69) Tryz.func16 rfl rfl (by simp) ?_
  refine Wk ?_
  first | refine CallK.data rfl (c_FCheck L 32 l hl) rfl ?_ | refine CallP.data rfl (c_FCheck L 32 l hl) rfl ?_
  refine Wk ?_
  refine BrK.mk (fun h1 => ?_) (fun h1 => ?_) <;> (try rw [h1])
  · refine Wk ?_
    exact resP.mk rfl (Sees.of_eq (by rw [lateM, if_pos (by simpa using h1)]; rfl))
  have h1' : (flowsE 32 l).2 = 0 := by simpa using h1
  refine Wk ?_
  refine BrK.mk (fun h2 => ?_) (fun h2 => ?_) <;> (try rw [h2])
  · refine Wk ?_
    exact resP.mk rfl (Sees.of_eq (by rw [lateM, if_neg (by omega), if_pos (.inl (by simpa using h2))]; rfl))
  refine Wk ?_
  refine BrK.mk (fun h3 => ?_) (fun h3 => ?_) <;> (try rw [h3])
  · refine Wk ?_
    exact resP.mk rfl (Sees.of_eq (by rw [lateM, if_neg (by omega), if_pos (.inr (by simpa using h3))]; rfl))
  have h2' : 0 ≤ slots := by simpa using h2
  have h3' : slots ≤ 4096 := by simpa using h3
  rw [show lateM l r slots = if 1024 < (lateL l r slots).length then ([], 8) else (lateL l r slots, 0) from by rw [lateM, if_neg (by omega), if_neg (by omega)]]
  obtain ⟨hl16, hfl⟩ := flowsE_all h1'
  refine Wk ?_
  refine LoopK.born 10 3 88 rfl ?_
  refine LoopK.run mixed [] (fun (k : Nat) => k ≤ l.length ∧ (lateL (l.take k) r slots).length ≤ k * 4096) (fun k => [(2, .int .i64 slots), (4, .ptr 0 0), (10, .own ((lateL (l.take k) r slots).map Del.av) 0), (29, encFlows l), (30, .int .i64 l.length), (31, .int .i64 k)]) (fun k => ⟨[.cells [encAtts r.atts, encDels r.dels] 41], [((lateL (l.take k) r slots).length, 3)], 0, 0, fun k => if k = 0 then 88 else 0⟩) (fun k => l.length - k) 0 ⟨by simp, by simp [lateL]⟩ ?_ ?_
  · refine Fits.mk' rfl rfl rfl rfl ?_ ?_ ?_ ?_ ?_ <;> repeat' (first | exact trivial | refine And.intro ?_ ?_ | exact Sees.of_eq rfl | exact lt_b rfl | rfl | exact SeesL.rfl' _ | exact Sees.int (by simp))
  rintro k ⟨hk, hlen⟩
  refine Wk ?_
  refine BrK.mk (fun hb => ?_) (fun hb => ?_) <;> (try rw [hb])
  · have hlt : k < l.length := by simpa using hb
    obtain ⟨f, hgf⟩ := getLt hlt
    have hmf := getMap (f := Flow.av) hgf
    have hf0 := (hfl k f hgf).1
    obtain ⟨q1, q2, q3, q4, q5, q6, q7, q8, q9, q10, q11, q12, q13⟩ := flowE_ok hf0
    repeat ((conv => whnf); first | refine sJ ?_ | refine And.intro (by first | exact inbMap hlt | kernel_rfl) ?_ | rw [hmf])
    try (conv => whnf)
    refine LoopK.runR mixed [] (fun j : Nat => j ≤ dueN f slots) (fun j => [(2, .int .i64 slots), (4, .ptr 0 0), (10, .own ((lateL (l.take k) r slots ++ lateF r f j).map Del.av) 0), (12, .ptr 1 0), (13, .ptr 2 0), (29, encFlows l), (30, .int .i64 l.length), (31, .int .i64 k)]) (fun j => ⟨[.cells [encAtts r.atts, encDels r.dels] 41, .cells [.int .i64 f.id, .int .i64 f.src, .int .i64 f.dst, .int .i64 f.period, .int .i64 f.phase, .int .i64 f.dead] 49, .cells [.int .i64 j] 3], [((lateL (l.take k) r slots ++ lateF r f j).length, 3)], 0, 0, fun k => if k = 0 then 88 else 0⟩) (fun j => dueN f slots - j) 0 (by omega) ?_ ?_
    · refine Fits.mk' rfl rfl rfl rfl ?_ ?_ ?_ ?_ ?_ <;> repeat' (first | exact trivial | refine And.intro ?_ ?_ | exact Sees.of_eq rfl | exact lt_b rfl | rfl | exact SeesL.rfl' _ | exact Sees.int (by simp) | exact Sees.own (by simp [lateF]) | (show (_, _) = (_, _); simp [lateF]))
    rintro j hj
    have hdn := dueN_le hf0 h3'
    have hmj : (j : Int) * f.period ≤ 4096 * 512 := Int.mul_le_mul (by omega) (by omega) (by omega) (by omega)
    have hmj0 : 0 ≤ (j : Int) * f.period := Int.mul_nonneg (by omega) (by omega)
    have hlj := lateF_len r f j
    refine Wk ?_
    first | refine CallK.data rfl (c_Due L f j) rfl ?_ | refine CallP.data rfl (c_Due L f j) rfl ?_
    rw [dueM_ok hf0 (by omega) (by omega)]
    obtain ⟨due, hdue⟩ : ∃ due, due = f.phase + (j : Int) * f.period + f.dead - 1 := ⟨_, rfl⟩
    rw [← hdue]
    have hlt2 := dueN_lt (f := f) (slots := slots) q7 (k := j)
    rw [← hdue] at hlt2
    refine Wk ?_
    refine BrK.mk (fun h4 => ?_) (fun h4 => ?_) <;> (try rw [h4])
    · have hj2 : j = dueN f slots := by
        have : ¬ due < slots := by simpa using h4
        omega
      subst hj2
      refine Wk ?_
      rw [← lateL_step hgf] at *
      refine ⟨k + 1, ⟨by omega, ?_⟩, by omega, ?_⟩
      · rw [lateL_step hgf, List.length_append]; omega
      · refine Fits.mk' rfl rfl rfl rfl ?_ ?_ ?_ ?_ ?_ <;> repeat' (first | exact trivial | refine And.intro ?_ ?_ | exact Sees.of_eq rfl | exact lt_b rfl | rfl | exact SeesL.rfl' _ | exact Sees.int (succI hlt hl))
    have hj2 : j < dueN f slots := hlt2.1 (by simpa using h4)
    refine Wk ?_
    first | refine CallK.box rfl (c_ContainsFuncDel L r.dels (fun d => d.flow == f.id && (d.frame == (j : Int) && decide (d.slot ≤ due))) 33 [.cptr f.av 0, .cptr (.agg [.int .i64 j]) 0, .cptr (.agg [.int .i64 due]) 0] hr rfl rfl (fun d _ => c_late1 L d f j due)) rfl rfl ?_ | refine CallP.box rfl (c_ContainsFuncDel L r.dels (fun d => d.flow == f.id && (d.frame == (j : Int) && decide (d.slot ≤ due))) 33 [.cptr f.av 0, .cptr (.agg [.int .i64 j]) 0, .cptr (.agg [.int .i64 due]) 0] hr rfl rfl (fun d _ => c_late1 L d f j due)) rfl rfl ?_
    have hstep : lateF r f (j + 1) = lateF r f j ++ (if (r.dels.any fun d => d.flow == f.id && (d.frame == (j : Int) && decide (d.slot ≤ due))) = true then [] else [⟨f.id, j, due⟩]) := by rw [lateF, hdue]; rfl
    obtain ⟨any, hany⟩ : ∃ any, any = r.dels.any fun d => d.flow == f.id && (d.frame == (j : Int) && decide (d.slot ≤ due)) := ⟨_, rfl⟩
    rw [← hany] at hstep ⊢
    refine Wk ?_
    cases any with
    | true =>
      rw [if_pos rfl, List.append_nil] at hstep
      refine Wk ?_
      refine ⟨j + 1, swp 2 4, by omega, by omega, ?_⟩
      rw [hstep]
      refine FitsR.mk' rfl rfl rfl rfl rfl rfl ?_ ?_ ?_ ?_ ?_ <;> repeat' (first | exact trivial | refine And.intro ?_ ?_ | exact SeesL.of_eq rfl | exact Sees.of_eq rfl | exact lt_b rfl | rfl | exact Sees.int (by rw [w64] <;> omega))
    | false =>
      rw [if_neg (by simp)] at hstep
      repeat ((conv => whnf); first | refine sJ ?_ | refine And.intro (by first | exact Els.map (f := Del.av) (fun _ => ⟨rfl, rfl⟩) | exact (show _ * 24 ≤ _ by simp only [List.length_map, List.length_append, List.length_cons, List.length_nil]; omega) | exact (by simp only [List.length_map, List.length_append, List.length_cons, List.length_nil, maxLen]; omega) | exact (show some (_, _) = some (_, _) by simp only [List.length_map]) | kernel_rfl) ?_ )
      try (conv => whnf)
      refine ⟨j + 1, swp 2 4, by omega, by omega, ?_⟩
      rw [hstep]
      refine FitsR.mk' rfl rfl rfl rfl rfl rfl ?_ ?_ ?_ ?_ ?_ <;> repeat' (first | exact trivial | refine And.intro ?_ ?_ | exact SeesL.of_eq rfl | exact Sees.of_eq rfl | exact lt_b rfl | rfl | exact Sees.int (by rw [w64] <;> omega) | exact Sees.own (by simp; rfl) | (show (_, _) = (_, _); simp only [List.length_append, List.length_map, List.length_cons, List.length_nil, Nat.add_assoc]))
  · have hk' : k = l.length := by simp at hb; omega
    subst hk'
    rw [List.take_length]
    rw [List.take_length] at hlen
    refine Wk ?_
    refine BrK.mk (fun h5 => ?_) (fun h5 => ?_) <;> (try rw [h5])
    · have h5' : 1024 < (lateL l r slots).length := by simp at h5; omega
      rw [if_pos h5']
      refine Wk ?_
      exact resP.mk rfl (Sees.of_eq rfl)
    · have h5' : ¬ 1024 < (lateL l r slots).length := by simp at h5; omega
      rw [if_neg h5']
      refine Wk ?_
      exact resP.mk rfl (Sees.of_eq rfl)
end
end HM
