/- The worst script: the program. -/
import Derived.Test.YtcbpgfmedemibaaGreatDoorS173
import Derived.Test.YtcbpgfmedemibaaGreatDoorS174
import Derived.Test.YtcbpgfmedemibaaGreatDoorS37
import Derived.Test.YtcbpgfmedemibaaGreatDoorFh
import Derived.Test.YtcbpgfmedemibaaGreatDoorDc
import Derived.Test.YtcbpgfmedemibaaGreatDoorDb

set_option maxRecDepth 100000
namespace HM
open Go Go.RowKit Go.Proofs
theorem undef_ren (π : Nat → Nat) (n : Nat) : List.replicate n AV.undef = rens π (List.replicate n .undef) := (rens_undef π n).symm
theorem row_ren (π : Nat → Nat) (l : List Rule) (n : Nat) {x : List AV} (hx : x = flatE (l.map Rule.av) ++ List.replicate n .undef) : SeesL x (rens π (flatE (l.map Rule.av) ++ List.replicate n .undef)) := SeesL.of_eq (by rw [EncOk.ren ⟨fun _ => rfl, fun _ => rfl, fun _ => rfl, fun _ => rfl, by decide⟩ (sz := 5)]; exact hx)
def wsSl (w : Way) : List (Nat × AV) := [(7, .ptr 2 0), (9, .ptr 3 0), (17, .ptr 5 0), (61, .fn 90 [.cptr w.av 0])]
def wsBx (f : Flow) (frame : Int) (v : AV) : List Ob := [.dead, .dead, .cells f.av.cells 31, .cells [.int .i64 frame] 3, .dead, .cells [v] 37]
theorem ofL_ren {π : Nat → Nat} : ∀ {l : List (Nat × AV)}, (∀ p ∈ l, p.2.ren π = p.2) → ∀ t, (ofL l t).ren π = ofL l t
  | [], _, _ => rfl
  | (s, v) :: l, h, t => by
    unfold ofL
    cases Nat.beq t s with
    | true => exact h (s, v) (List.mem_cons_self ..)
    | false => exact ofL_ren (fun p hp => h p (List.mem_cons_of_mem _ hp)) t
theorem swp_lo {j a : Nat} (hj : 7 ≤ j) (ha : a < 7) : swp 7 j a = a := by unfold swp; rw [if_neg (by omega), if_neg (by omega)]
theorem wsSl_ren {w : Way} {j : Nat} (hj : 7 ≤ j) : ∀ p ∈ wsSl w, p.2.ren (swp 7 j) = p.2 := fun p hp => by
  simp only [wsSl, List.mem_cons, List.not_mem_nil, or_false] at hp
  rcases hp with rfl | rfl | rfl | rfl
  · show AV.ptr (swp 7 j 2) 0 = _; rw [swp_lo hj (by decide)]
  · show AV.ptr (swp 7 j 3) 0 = _; rw [swp_lo hj (by decide)]
  · show AV.ptr (swp 7 j 5) 0 = _; rw [swp_lo hj (by decide)]
  · rfl
theorem ruleEnc : EncOk Rule.av 5 := ⟨fun _ => rfl, fun _ => rfl, fun _ => rfl, fun _ => rfl, by decide⟩
set_option maxHeartbeats 64000000 in
theorem c_Worst (n : Net) (s : Sched) (f : Flow) (r : List Int) (frame : Int) (hn : n.small) (hc : s.cells.length ≤ 281474976710656) (hr : r.length ≤ 281474976710656) (hfr : -9223372036854775808 ≤ frame ∧ frame ≤ 9223372036854775807) :
    PCall Tryz.prog LW 9 [n.av, s.av, f.av, encIs r, .int .i64 frame] (.tup [encScript (wrstM n s f r frame).1, .int .i64 (wrstM n s f r frame).2]) := by
  refine PCall.intro mixed [15] (nt := 84) Tryz.func9 rfl rfl (by simp) ?_
  refine Wk ?_
  first | refine CallK.data rfl (c_wcheck ⟨n, s, f, r, 0⟩ hn hc hr) rfl ?_ | refine CallP.data rfl (c_wcheck ⟨n, s, f, r, 0⟩ hn hc hr) rfl ?_
  refine Wk ?_
  refine BrK.mk (fun h1 => ?_) (fun h1 => ?_) <;> (try rw [h1])
  · refine Wk ?_
    exact resP.mk rfl (Sees.of_eq (by rw [wrstM, if_pos (by simpa using h1)]; rfl))
  have h1' : wayE n s f r = 0 := by simpa using h1
  have hw := wayE_ok h1'
  have hfl := hw.flow
  have hn0 := wayE_net h1'
  have e1 : ¬ wayE n s f r ≠ 0 := by simpa using h1'
  refine Wk ?_
  by_cases hlo : frame < 0
  · have g : decide (frame < 0) = true := decide_eq_true hlo
    repeat ((conv => whnf); first | refine sJ ?_ | refine And.intro (by first | exact trivial | kernel_rfl) ?_ | rw [g])
    try (conv => whnf)
    exact resP.mk rfl (Sees.of_eq (by rw [wrstM, if_neg e1, if_pos (.inl hlo)]; rfl))
  have g : decide (frame < 0) = false := decide_eq_false hlo
  by_cases hhi : 1048576 < frame
  · have g2 : decide (1048576 < frame) = true := decide_eq_true hhi
    repeat ((conv => whnf); first | refine sJ ?_ | refine And.intro (by first | exact trivial | kernel_rfl) ?_ | rw [g] | rw [g2])
    try (conv => whnf)
    exact resP.mk rfl (Sees.of_eq (by rw [wrstM, if_neg e1, if_pos (.inr (.inl hhi))]; rfl))
  have g2 : decide (1048576 < frame) = false := decide_eq_false hhi
  obtain ⟨k, rfl⟩ : ∃ k : Nat, frame = k := ⟨frame.toNat, by omega⟩
  have hm0 : 0 ≤ (k : Int) * f.period := Int.mul_nonneg (by omega) (by omega)
  have hm1 : (k : Int) * f.period ≤ 1048576 * 512 := Int.mul_le_mul (by omega) (by omega) (by omega) (by omega)
  have hw1 : IntKind.i64.wrap ((k : Int) * f.period) = (k : Int) * f.period := w64 (by omega) (by omega)
  have hw2 : IntKind.i64.wrap (f.phase + (k : Int) * f.period) = f.phase + (k : Int) * f.period := w64 (by omega) (by omega)
  by_cases hx : 1048576 < f.phase + (k : Int) * f.period
  · have g3 : decide (1048576 < f.phase + (k : Int) * f.period) = true := decide_eq_true hx
    repeat ((conv => whnf); first | refine sJ ?_ | refine And.intro (by first | exact trivial | kernel_rfl) ?_ | rw [g] | rw [g2] | rw [hw1] | rw [hw2] | rw [g3])
    try (conv => whnf)
    exact resP.mk rfl (Sees.of_eq (by rw [wrstM, if_neg e1, if_pos (.inr (.inr hx))]; rfl))
  have g3 : decide (1048576 < f.phase + (k : Int) * f.period) = false := decide_eq_false hx
  have e2 : ¬ ((k : Int) < 0 ∨ 1048576 < (k : Int) ∨ 1048576 < f.phase + (k : Int) * f.period) := by omega
  repeat ((conv => whnf); first | refine sJ ?_ | refine And.intro (by first | exact trivial | kernel_rfl) ?_ | rw [g] | rw [g2] | rw [hw1] | rw [hw2] | rw [g3])
  try (conv => whnf)
  first | refine CallK.data rfl (c_release ⟨n, s, f, r, 0⟩ (f.phase + (k : Int) * f.period) hn hw hn0 (Int.le_refl _) (by show (0 : Int) ≤ 8; omega) (by omega) (by omega)) rfl ?_ | refine CallP.data rfl (c_release ⟨n, s, f, r, 0⟩ (f.phase + (k : Int) * f.period) hn hw hn0 (Int.le_refl _) (by show (0 : Int) ≤ 8; omega) (by omega) (by omega)) rfl ?_
  cases hR : relR n s f r 0 (f.phase + (k : Int) * f.period) with
  | none =>
    refine Wk ?_
    exact resP.mk rfl (Sees.of_eq (by rw [wrstM, if_neg e1, if_neg e2, hR]; rfl))
  | some bl =>
    have hM : wrstM n s f r (k : Int) = (worstM n f r (k : Int), 0) := by rw [wrstM, if_neg e1, if_neg e2, hR]
    rw [hM]
    obtain ⟨b, lb⟩ := bl
    refine Wk ?_
    refine SeqK.sem mixed [] ?_
    refine Wk ?_
    first | refine CallK.data rfl (c_wlinks ⟨n, s, f, r, 0⟩) rfl ?_ | refine CallP.data rfl (c_wlinks ⟨n, s, f, r, 0⟩) rfl ?_
    refine Wk ?_
    have hlen := hw.len
    obtain ⟨U, hU⟩ : ∃ U : Nat → List Rule, U = worstU n f r (k : Int) := ⟨_, rfl⟩
    have hU0 : U 0 = [] := by rw [hU]; rfl
    have hUl : ∀ m, (U m).length ≤ m := fun m => by rw [hU]; exact worstU_len _ _ _ _ _
    have hUs : ∀ m, U (m + 1) = U m ++ (lostO n f r (k : Int) m).toList := fun m => by rw [hU]; exact worstU_succ _ _ _ _ _
    refine RangeK.weak (l := wsSl ⟨n, s, f, r, 0⟩) (S1 := ⟨wsBx f (k : Int) (.grown .nils 0), [], 0, 0, fun _ => 0⟩) ?_ ?_
    · refine Fits.mk' rfl rfl rfl rfl ?_ ?_ ?_ ?_ ?_ <;> repeat' (first | exact trivial | refine And.intro ?_ ?_ | exact Sees.of_eq rfl | exact lt_b rfl | rfl | exact Sees.nilG)
    refine RangeK.named rfl rfl fun Lp hLp => ?_
    have hok : ∀ k m, 6 ≤ k → Ob.okk k m (.loop Lp) := fun k m hk => loop_okk (l := wsSl ⟨n, s, f, r, 0⟩) (by rw [hLp]) (by simp [wsSl, okL, AV.okk, okks]; omega)
    have hren : ∀ j, 7 ≤ j → ∀ t, AV.ren (swp 7 j) (Lp.a t) = Lp.a t := fun j hj t => by rw [hLp]; exact ofL_ren (wsSl_ren hj) t
    refine ICall.intro mixed [] (nt := 41) Tryz.func90 rfl rfl (by simp) ?_
    refine Wk ?_
    refine LoopK.runR mixed [] (fun q : Nat × Nat => q.1 + 1 ≤ r.length) (fun q => [(0, .yld 6), (1, .cptr (Way.av ⟨n, s, f, r, 0⟩) 0), (3, .int .i64 (q.1 + 1 : Nat))]) (fun q => ⟨wsBx f (k : Int) (if U q.1 = [] then .grown .nils 0 else .vsl 7 0 (U q.1).length 5) ++ [.loop Lp] ++ (if U q.1 = [] then [] else [.cells (flatE ((U q.1).map Rule.av) ++ List.replicate (q.2 * 5) .undef) 95]), [], 7, 0, fun _ => 0⟩) (fun q => r.length - q.1) (0, 0) (by simp; omega) ?_ ?_
    · dsimp only
      rw [if_pos hU0, if_pos hU0]
      refine Fits.mk' rfl rfl rfl rfl ?_ ?_ ?_ ?_ ?_ <;> repeat' (first | exact trivial | refine And.intro ?_ ?_ | exact Sees.of_eq rfl | exact lt_b rfl | rfl | exact hok _ _ (Nat.le_of_ble_eq_true rfl))
    rintro ⟨m, d⟩ hm
    dsimp only at hm ⊢
    have hUm := hUl m
    have hst := hUs m
    by_cases hmr : m + 1 < r.length
    · obtain ⟨y, hgy⟩ := getLt hmr
      have hmy := getMap (f := encI) hgy
      obtain ⟨x, hgx⟩ := getLt (l := r) (k := m) (by omega)
      have hmx := getMap (f := encI) hgx
      have hxd : r.getD m 0 = x := by rw [List.getD_eq_getElem?_getD, hgx]; rfl
      have hyd : r.getD (m + 1) 0 = y := by rw [List.getD_eq_getElem?_getD, hgy]; rfl
      have hwi : IntKind.i64.wrap (((m + 1 : Nat) : Int) - 1) = (m : Int) := by rw [w64] <;> omega
      have gb : decide (((m + 1 : Nat) : Int) < ((r.map encI).length : Int)) = true := by simp; omega
      obtain ⟨i, l, q1, q2, q3, q4, q5, q6, q7⟩ := hw.at hmr
      rw [hxd, hyd] at q1
      have hidx : indexN n x y = (i : Int) := by rw [indexN, if_pos hn0, q1]
      have hml := getMap (f := Link.av) q2
      have hil := (List.getElem?_eq_some_iff.1 q2).1
      have hlw : IntKind.i64.wrap (l.loss + 0) = l.loss := by rw [Int.add_zero, w64] <;> omega
      have hlo2 : lostO n f r (k : Int) m = if 0 < l.loss then some ⟨f.id, l.src, l.dst, (k : Int), List.replicate l.loss.toNat 3⟩ else none := by unfold lostO lostR; rw [q7, ← q3, ← q4]
      by_cases hU1 : U m = []
      · as_aux_lemma =>
        rw [if_pos hU1, if_pos hU1]
        repeat ((conv => whnf); first | refine sJ ?_ | refine And.intro (by first | exact trivial | exact inbMap hmr | exact inbMap (show m < r.length by omega) | kernel_rfl) ?_ | rw [gb] | rw [hwi] | rw [hmx] | rw [hmy])
        try (conv => whnf)
        first | refine CallK.data rfl (c_index LW n hn x y) rfl ?_ | refine CallP.data rfl (c_index LW n hn x y) rfl ?_
        rw [hidx]
        repeat ((conv => whnf); first | refine sJ ?_ | refine And.intro (by first | exact inbMap hil | kernel_rfl) ?_ | rw [hml])
        try (conv => whnf)
        rw [hlw]
        refine CallK.round mixed [] hLp rfl rfl rfl ?_
        clear hLp
        refine Wk ?_
        cases hl0 : decide (0 < l.loss) with
        | false =>
          as_aux_lemma =>
          have hn0' : ¬ 0 < l.loss := by simpa using hl0
          rw [hlo2, if_neg hn0', Option.toList_none, List.append_nil] at hst
          repeat ((conv => whnf); first | refine sJ ?_ | refine And.intro (by first | exact trivial | kernel_rfl) ?_ | rw [hl0])
          try (conv => whnf)
          refine ⟨(m + 1, d), swp 7 7, by dsimp only; omega, by dsimp only; omega, ?_⟩
          dsimp only
          rw [hst, if_pos hU1, if_pos hU1]
          refine FitsR.mk' rfl rfl rfl rfl rfl rfl ?_ ?_ ?_ ?_ ?_
          · repeat' (first | exact trivial | refine And.intro ?_ ?_ | exact hren _ (Nat.le_of_ble_eq_true rfl) | exact Sees.of_eq rfl | exact trivial | rfl)
          all_goals repeat' (first | exact trivial | exact hok _ _ (Nat.le_of_ble_eq_true rfl) | exact Sees.int (succI hmr (by omega)) | exact okks_append (ruleEnc.okk _ _ _) (okks_undef _ _ _) | refine And.intro ?_ ?_ | exact SeesL.of_eq rfl | exact Sees.of_eq rfl | exact lt_b rfl | rfl)
        | true =>
          as_aux_lemma =>
          have hp0 : 0 < l.loss := by simpa using hl0
          obtain ⟨z, hz⟩ : ∃ z : Nat, l.loss = z := ⟨l.loss.toNat, by omega⟩
          have hzn : l.loss.toNat = z := by omega
          rw [hlo2, if_pos hp0, Option.toList_some, hzn] at hst
          repeat ((conv => whnf); first | refine sJ ?_ | refine And.intro (by first | exact trivial | kernel_rfl) ?_ | rw [hl0])
          try (conv => whnf)
          rw [hz]
          first | refine CallK.data rfl (c_Repeat LW 3 z (by omega) (by omega)) rfl ?_ | refine CallP.data rfl (c_Repeat LW 3 z (by omega) (by omega)) rfl ?_
          refine Wk ?_
          refine And.intro ⟨rfl, Els.of_b rfl, Nat.succ_pos _, Nat.le_of_ble_eq_true rfl, Nat.le_of_ble_eq_true rfl⟩ ?_
          intro d2
          refine Wk ?_
          refine ⟨(m + 1, d2), swp 7 9, by dsimp only; omega, by dsimp only; omega, ?_⟩
          dsimp only
          have hne2 : U (m + 1) ≠ [] := by rw [hst]; simp
          rw [if_neg hne2, if_neg hne2, hst, hU1]
          refine FitsR.mk' rfl rfl rfl rfl rfl rfl ?_ ?_ ?_ ?_ ?_
          · repeat' (first | exact trivial | refine And.intro ?_ ?_ | exact hren _ (Nat.le_of_ble_eq_true rfl) | exact Sees.of_eq rfl | exact SeesL.of_eq (undef_ren _ _) | rfl)
          all_goals repeat' (first | exact trivial | exact hok _ _ (Nat.le_of_ble_eq_true rfl) | exact Sees.int (succI hmr (by omega)) | exact okks_append (ruleEnc.okk _ _ _) (okks_undef _ _ _) | refine And.intro ?_ ?_ | exact SeesL.of_eq rfl | exact Sees.of_eq rfl | exact lt_b rfl | rfl)
      · as_aux_lemma =>
        rw [if_neg hU1, if_neg hU1]
        have hfl5 := ruleEnc.flen (U m)
        repeat ((conv => whnf); first | refine sJ ?_ | refine And.intro (by first | exact trivial | exact inbMap hmr | exact inbMap (show m < r.length by omega) | kernel_rfl) ?_ | rw [gb] | rw [hwi] | rw [hmx] | rw [hmy])
        try (conv => whnf)
        first | refine CallK.data rfl (c_index LW n hn x y) rfl ?_ | refine CallP.data rfl (c_index LW n hn x y) rfl ?_
        rw [hidx]
        repeat ((conv => whnf); first | refine sJ ?_ | refine And.intro (by first | exact inbMap hil | kernel_rfl) ?_ | rw [hml])
        try (conv => whnf)
        rw [hlw]
        refine CallK.round mixed [] hLp rfl rfl rfl ?_
        clear hLp
        refine Wk ?_
        cases hl0 : decide (0 < l.loss) with
        | false =>
          as_aux_lemma =>
          have hn0' : ¬ 0 < l.loss := by simpa using hl0
          rw [hlo2, if_neg hn0', Option.toList_none, List.append_nil] at hst
          repeat ((conv => whnf); first | refine sJ ?_ | refine And.intro (by first | exact trivial | kernel_rfl) ?_ | rw [hl0])
          try (conv => whnf)
          refine ⟨(m + 1, d), swp 7 7, by dsimp only; omega, by dsimp only; omega, ?_⟩
          dsimp only
          rw [hst, if_neg hU1, if_neg hU1]
          refine FitsR.mk' rfl rfl rfl rfl rfl rfl ?_ ?_ ?_ ?_ ?_
          · repeat' (first | exact trivial | refine And.intro ?_ ?_ | exact hren _ (Nat.le_of_ble_eq_true rfl) | exact Sees.of_eq rfl | exact row_ren _ (U m) _ rfl | rfl)
          all_goals repeat' (first | exact trivial | exact hok _ _ (Nat.le_of_ble_eq_true rfl) | exact Sees.int (succI hmr (by omega)) | exact okks_append (ruleEnc.okk _ _ _) (okks_undef _ _ _) | refine And.intro ?_ ?_ | exact SeesL.of_eq rfl | exact Sees.of_eq rfl | exact lt_b rfl | rfl)
        | true =>
          as_aux_lemma =>
          have hp0 : 0 < l.loss := by simpa using hl0
          obtain ⟨z, hz⟩ : ∃ z : Nat, l.loss = z := ⟨l.loss.toNat, by omega⟩
          have hzn : l.loss.toNat = z := by omega
          rw [hlo2, if_pos hp0, Option.toList_some, hzn] at hst
          have hne2 : U (m + 1) ≠ [] := by rw [hst]; simp
          have hlen2 : (U (m + 1)).length = (U m).length + 1 := by rw [hst]; simp
          repeat ((conv => whnf); first | refine sJ ?_ | refine And.intro (by first | exact trivial | kernel_rfl) ?_ | rw [hl0])
          try (conv => whnf)
          rw [hz]
          first | refine CallK.data rfl (c_Repeat LW 3 z (by omega) (by omega)) rfl ?_ | refine CallP.data rfl (c_Repeat LW 3 z (by omega) (by omega)) rfl ?_
          refine Wk ?_
          refine And.intro ⟨rfl, rfl, Els.of_b rfl, Nat.succ_pos _, (show (_ + 1) * 56 ≤ _ by omega), (show _ + 1 ≤ maxLen by simp only [maxLen]; omega), (by rw [List.length_append, hfl5]; exact Nat.le_add_right _ _)⟩ ?_
          refine AppK.mk (fun hroom => ?_) (fun _ => ?_)
          · as_aux_lemma =>
            refine Wk ?_
            refine ⟨(m + 1, d - 1), swp 7 7, by dsimp only; omega, by dsimp only; omega, ?_⟩
            dsimp only
            rw [if_neg hne2, if_neg hne2, hlen2, hst]
            rw [List.length_append, hfl5] at hroom
            have hpush := ruleEnc.push (U m) ⟨f.id, l.src, l.dst, (k : Int), List.replicate z 3⟩ d (by rw [List.length_append, hfl5]; exact hroom)
            refine FitsR.mk' rfl rfl rfl rfl rfl rfl ?_ ?_ ?_ ?_ ?_
            · repeat' (first | exact trivial | refine And.intro ?_ ?_ | exact hren _ (Nat.le_of_ble_eq_true rfl) | exact Sees.of_eq rfl | exact row_ren _ (U m ++ [_]) _ hpush | rfl)
            all_goals repeat' (first | exact trivial | exact hok _ _ (Nat.le_of_ble_eq_true rfl) | exact Sees.int (succI hmr (by omega)) | exact okks_append (ruleEnc.okk _ _ _) (okks_undef _ _ _) | refine And.intro ?_ ?_ | exact SeesL.of_eq rfl | exact Sees.of_eq rfl | exact lt_b rfl | rfl)
          · as_aux_lemma =>
            intro d2
            refine Wk ?_
            refine ⟨(m + 1, d2), swp 7 10, by dsimp only; omega, by dsimp only; omega, ?_⟩
            dsimp only
            rw [if_neg hne2, if_neg hne2, hlen2, hst]
            have hcut := ruleEnc.cut (U m) (List.replicate (d * 5) .undef)
            refine FitsR.mk' rfl rfl rfl rfl rfl rfl ?_ ?_ ?_ ?_ ?_
            · repeat' (first | exact trivial | refine And.intro ?_ ?_ | exact hren _ (Nat.le_of_ble_eq_true rfl) | exact Sees.of_eq rfl | exact row_ren _ (U m ++ [_]) _ (by rw [← flatE_push]; show List.take ((U m).length * 5) _ ++ _ ++ _ = _; rw [hcut]; rfl) | rfl)
            all_goals repeat' (first | exact trivial | exact hok _ _ (Nat.le_of_ble_eq_true rfl) | exact Sees.int (succI hmr (by omega)) | exact okks_append (ruleEnc.okk _ _ _) (okks_undef _ _ _) | refine And.intro ?_ ?_ | exact SeesL.of_eq rfl | exact Sees.of_eq rfl | exact lt_b rfl | rfl)
    · have hme : m = r.length - 1 := by omega
      have gb : decide (((m + 1 : Nat) : Int) < ((r.map encI).length : Int)) = false := by simp; omega
      have hfin : ∀ ds : List Rule, ds.Perm (U m) → (ds.Pairwise fun a b => ¬ cmpL b.key2 a.key2 < 0) → ds = worstM n f r (k : Int) := fun ds h1 h2 => by
        rw [hU, hme] at h1
        exact worst_sort hw.dup (by omega) (way_nodes h1') h1 h2
      by_cases hU1 : U m = []
      · as_aux_lemma =>
        rw [if_pos hU1, if_pos hU1]
        have hfe := hfin [] (by rw [hU1]) .nil
        repeat ((conv => whnf); first | refine sJ ?_ | refine And.intro (by first | exact trivial | kernel_rfl) ?_ | rw [gb])
        try (conv => whnf)
        rw [show Lp.st = .ready from by rw [hLp], show Lp.pend = none from by rw [hLp]]
        refine Wk ?_
        refine SemK.weak (l := [(17, .ptr 5 0)]) (S1 := ⟨[.dead, .dead, .dead, .dead, .dead, .cells [.nils] 37], [], 0, 0, fun _ => 0⟩) ?_ ?_
        · refine Fits.mk' rfl rfl rfl rfl ?_ ?_ ?_ ?_ ?_ <;> repeat' (first | exact trivial | refine And.intro ?_ ?_ | exact Sees.of_eq rfl | exact lt_b rfl | rfl | exact Sees.gNil)
        refine twC_sound (ct := []) mixed _ _ _ _ ?_
        refine Wk ?_
        refine CallK.inl rfl (ICall.sort0 k_sortW0 ?_)
        refine Wk ?_
        exact resP.mk rfl (Sees.of_eq (by rw [← hfe]; rfl))
      · as_aux_lemma =>
        rw [if_neg hU1, if_neg hU1]
        repeat ((conv => whnf); first | refine sJ ?_ | refine And.intro (by first | exact trivial | kernel_rfl) ?_ | rw [gb])
        try (conv => whnf)
        rw [show Lp.st = .ready from by rw [hLp], show Lp.pend = none from by rw [hLp]]
        refine Wk ?_
        refine SemK.weak (l := [(17, .ptr 5 0)]) (S1 := ⟨[.dead, .dead, .dead, .dead, .dead, .cells [.vsl 7 0 (U m).length 5] 37, .dead, .cells (flatE ((U m).map Rule.av) ++ List.replicate (d * 5) .undef) 95], [], 0, 0, fun _ => 0⟩) ?_ ?_
        · refine Fits.mk' rfl rfl rfl rfl ?_ ?_ ?_ ?_ ?_ <;> repeat' (first | exact trivial | refine And.intro ?_ ?_ | exact Sees.of_eq rfl | exact lt_b rfl | rfl | exact SeesL.rfl' _ | exact okks_append (ruleEnc.okk _ _ _) (okks_undef _ _ _))
        refine twC_sound (ct := []) mixed _ _ _ _ ?_
        refine Wk ?_
        refine CallK.inl rfl (i_sortW rfl (by omega) fun ds hds hso => ?_)
        have hfe := hfin ds hds hso
        have e1 : ∀ X : St, X.bx[7]? = some (.cells (flatE (ds.map Rule.av) ++ List.replicate (d * 5) .undef) 95) → fzb X (.tup [.vsl 7 0 (U m).length 5, .int .i64 0]) = some (.tup [.sl false (ds.map Rule.av), .int .i64 0]) := fun X hX => by
          show Option.map AV.tup (fzbs X _) = _
          rw [fz2 (ruleEnc.fzb hX hds.length_eq) (b' := [.int .i64 0]) rfl]; rfl
        refine Wk ?_
        exact resP.mk (e1 _ rfl) (Sees.of_eq (by rw [hfe]; rfl))
end HM
