/- The law on bounds that hold. -/
import Derived.Test.YtjlemnimmbblkaaGreatDoorS46
import Derived.Test.YtjlemnimmbblkaaGreatDoorS37
import Derived.Test.YtjlemnimmbblkaaGreatDoorS82
import Derived.Test.YtjlemnimmbblkaaGreatDoorS110
import Derived.Test.YtjlemnimmbblkaaGreatDoorS170
import Derived.Test.YtjlemnimmbblkaaGreatDoorDb

set_option maxRecDepth 100000
namespace HM
open Go Go.RowKit Go.Proofs
theorem routeM_no {n : Net} {s : Sched} {f : Flow} {r : List Int} (h : (routeM n s f r).2.2.2 ≠ 0) : (routeM n s f r).1 = 0 := by
  unfold routeM at h ⊢
  split
  · rfl
  · rename_i g
    rw [if_neg g] at h
    cases hb : boundR n s f r 0 with
    | none => rfl
    | some x => rw [hb] at h; exact absurd rfl h
set_option maxHeartbeats 8000000 in
theorem c_BoundHolds (n : Net) (s : Sched) (f : Flow) (r : List Int) (x : List Rule) (hn : n.small) (hc : s.cells.length ≤ 281474976710656) (hr : r.length ≤ 281474976710656) (hx : ∀ r ∈ x, r.outs.length ≤ 281474976710656) (hxl : x.length ≤ 281474976710656) :
    PCall Tryz.prog LW 3 [n.av, s.av, f.av, encIs r, encScript x] (.bool true) := by
  refine PCall.intro mixed [1] (nt := 131) Tryz.func3 rfl rfl (by simp) ?_
  refine Wk ?_
  refine SeqK.sem mixed [] ?_
  refine Wk ?_
  refine SemK.freezeB 0 rfl rfl ?_
  refine SemK.freezeB 1 rfl rfl ?_
  refine SemK.freezeB 2 rfl rfl ?_
  refine SemK.freezeB 3 rfl rfl ?_
  refine twC_sound (ct := [12]) mixed _ _ _ _ ?_
  refine Wk ?_
  first | refine CallK.data rfl (c_awake37) rfl ?_ | refine CallP.data rfl (c_awake37) rfl ?_
  refine Wk ?_
  first | refine CallK.data rfl (c_Few37 LW n s [r] hn (by simp)) rfl ?_ | refine CallP.data rfl (c_Few37 LW n s [r] hn (by simp)) rfl ?_
  cases hfew : few37 n s [r] with
  | false =>
    refine Wk ?_
    exact resP.mk rfl (Sees.bool rfl)
  | true =>
  refine Wk ?_
  refine BrK.mk (fun h1 => ?_) (fun h1 => ?_) <;> (try rw [h1])
  · refine Wk ?_
    exact resP.mk rfl (Sees.bool rfl)
  refine Wk ?_
  first | refine CallK.data rfl (c_BRoute n s f r hn hc hr) rfl ?_ | refine CallP.data rfl (c_BRoute n s f r hn hc hr) rfl ?_
  obtain ⟨q, hq⟩ : ∃ q, q = routeM n s f r := ⟨_, rfl⟩
  have hno := routeM_no (n := n) (s := s) (f := f) (r := r)
  have hyes := routeM_ok (n := n) (s := s) (f := f) (r := r)
  rw [← hq] at hno hyes ⊢
  obtain ⟨b, wst, lb, e⟩ := q
  simp only at hno hyes
  refine Wk ?_
  by_cases he : e = 0
  · subst he
    obtain ⟨hway, B, hB, hqB⟩ := hyes rfl
    have hbB : b = B.b := by simp only [Prod.mk.injEq] at hqB; exact hqB.1
    subst hbB
    have hok := wayE_ok hway
    have h0 := wayE_net hway
    have hf := hok.flow
    have hbr := bound_range hok hB
    have hsz := sized_bd (form_all hok.form).1
    have w1 : IntKind.i64.wrap (3 * s.len) = 3 * s.len := w64 (by omega) (by omega)
    obtain ⟨slots, hsl⟩ : ∃ slots, slots = min (3 * s.len) 100 := ⟨_, rfl⟩
    have w2 : IntKind.i64.wrap (slots - B.b) = slots - B.b := w64 (by omega) (by omega)
    have w3 : IntKind.i64.wrap (slots - B.b + 1) = slots - B.b + 1 := w64 (by omega) (by omega)
    repeat ((conv => whnf); first | refine sJ ?_ | refine And.intro (by first | exact trivial | kernel_rfl) ?_ | rw [w1])
    try (conv => whnf)
    rw [show (if (100 : Int) < 3 * s.len then 100 else 3 * s.len) = slots from by rw [hsl]; split <;> omega]
    refine Wk ?_
    first | refine CallK.data rfl (c_Play [f] s x slots (by simp) hx hxl) rfl ?_ | refine CallP.data rfl (c_Play [f] s x slots (by simp) hx hxl) rfl ?_
    obtain ⟨R, hR⟩ : ∃ A, A = (playM [f] s x slots).1 := ⟨_, rfl⟩
    obtain ⟨er, her⟩ : ∃ e, e = (playM [f] s x slots).2 := ⟨_, rfl⟩
    have hRl := playM_len (l := [f]) (s := s) (x := x) (slots := slots)
    rw [← hR] at hRl
    rw [← hR, ← her]
    refine Wk ?_
    refine SeqK.sem mixed [] ?_
    refine Wk ?_
    refine BrK.mk (fun h2 => ?_) (fun h2 => ?_) <;> (try rw [h2])
    · refine Wk ?_
      exact resP.mk rfl (Sees.bool rfl)
    have her0 : (playM [f] s x slots).2 = 0 := by rw [← her]; simpa using h2
    have hfl : flowE 32 f = 0 := by
      have hrd : readyM [f] s x slots = 0 := Decidable.byContradiction fun h => by rw [playM_bad h] at her0; exact h her0
      have := (ready_all hrd).1
      exact ((flowsE_all this).2 0 f rfl).1
    refine Wk ?_
    refine SemK.freezeB 4 rfl rfl ?_
    refine twC_sound (ct := []) mixed _ _ _ _ ?_
    refine Wk ?_
    first | refine CallK.data rfl (c_Breaches LW n hn R (by omega)) rfl ?_ | refine CallP.data rfl (c_Breaches LW n hn R (by omega)) rfl ?_
    obtain ⟨Br, hBr⟩ : ∃ B, B = brcsM n R := ⟨_, rfl⟩
    have hBl : Br.length ≤ 281474976710656 := by
      rw [hBr, brcsM, if_pos h0]
      have := refB_len n R.atts R.atts.length
      omega
    rw [← hBr]
    repeat ((conv => whnf); first | refine sJ ?_ | refine And.intro (by first | exact trivial | kernel_rfl) ?_ | rw [w2] | rw [w3])
    try (conv => whnf)
    obtain ⟨M, hM⟩ : ∃ M, M = max 0 (slots - B.b + 1) := ⟨_, rfl⟩
    rw [show (if slots - B.b + 1 > 0 then slots - B.b + 1 else 0) = M from by rw [hM]; split <;> omega]
    refine Wk ?_
    first | refine CallK.data rfl (c_Frames0 LW f M hfl (by omega) (by omega)) rfl ?_ | refine CallP.data rfl (c_Frames0 LW f M hfl (by omega) (by omega)) rfl ?_
    obtain ⟨m, hm⟩ : ∃ m, m = manyF f M := ⟨_, rfl⟩
    have hmM := manyF_le (f := f) (by omega) (by omega) (show 0 ≤ M by omega)
    rw [← hm] at hmM ⊢
    refine Wk ?_
    rw [decide_eq_false (show ¬ B.b < 1 by omega)]
    refine Wk ?_
    rw [decide_eq_false (show ¬ f.period < B.b by omega)]
    refine Wk ?_
    refine LoopK.run mixed [] (fun k : Nat => k ≤ m) (fun k => [(7, .cptr f.av 0), (8, .cptr (.agg [encIs r]) 0), (11, .int .i64 B.b), (16, .cptr R.av 0), (18, encBrcs Br), (93, encIs (upI m)), (94, .int .i64 m), (95, .int .i64 k)]) (fun _ => St.none) (fun k => m - k) 0 (by omega) ?_ ?_
    · refine Fits.mk' rfl rfl rfl rfl ?_ ?_ ?_ ?_ ?_ <;> repeat' (first | exact trivial | refine And.intro ?_ ?_ | exact Sees.of_eq rfl | exact lt_b rfl | rfl | exact FitF.nil _ | exact Sees.int (by simp [upI]))
    rintro k hk
    refine Wk ?_
    refine BrK.mk (fun hb3 => ?_) (fun hb3 => ?_) <;> (try rw [hb3])
    · have hkm : k < m := by simpa using hb3
      have hgk : (upI m)[k]? = some (k : Int) := by simp [upI, hkm]
      have hmk := getMap (f := encI) hgk
      have hul : k < (upI m).length := by simp [upI, hkm]
      have hkk : IntKind.i64.wrap ((k : Int) + 1) = ((k + 1 : Nat) : Int) := by rw [w64] <;> omega
      have hlaw := holds_law (x := x) h0 hok hB (by omega) her0 (k := k) (by rw [← hM, ← hm]; exact hkm)
      rw [← hR, ← hBr] at hlaw
      have hlt := manyF_lt (f := f) (by omega) (M := M) (k := k) (by rw [← hm]; exact hkm)
      have hk0 : 0 ≤ (k : Int) * f.period := Int.mul_nonneg (by omega) (by omega)
      have v1 : IntKind.i64.wrap ((k : Int) * f.period) = (k : Int) * f.period := w64 (by omega) (by omega)
      have v2 : IntKind.i64.wrap (f.phase + (k : Int) * f.period) = f.phase + (k : Int) * f.period := w64 (by omega) (by omega)
      repeat ((conv => whnf); first | refine sJ ?_ | refine And.intro (by first | exact inbMap hul | kernel_rfl) ?_ | rw [hmk])
      try (conv => whnf)
      first | refine CallK.box rfl (c_ContainsFuncBrc LW Br (brokenB r k) 11 [.cptr (.agg [encIs r]) 0, .cptr (.agg [.int .i64 k]) 0] hBl rfl rfl (fun b hb => c_holds1 LW b r k hr)) rfl rfl ?_ | refine CallP.box rfl (c_ContainsFuncBrc LW Br (brokenB r k) 11 [.cptr (.agg [encIs r]) 0, .cptr (.agg [.int .i64 k]) 0] hBl rfl rfl (fun b hb => c_holds1 LW b r k hr)) rfl rfl ?_
      refine Wk ?_
      first | refine CallK.data rfl (c_Delivered LW R f.id k (by omega)) rfl ?_ | refine CallP.data rfl (c_Delivered LW R f.id k (by omega)) rfl ?_
      cases hbk : Br.any (brokenB r (k : Nat)) with
      | true =>
        refine Wk ?_
        refine ⟨k + 1, by omega, by omega, ?_⟩
        refine Fits.mk' rfl rfl rfl rfl ?_ ?_ ?_ ?_ ?_ <;> repeat' (first | exact trivial | refine And.intro ?_ ?_ | exact Sees.of_eq rfl | exact lt_b rfl | rfl | exact FitF.nil _ | exact Sees.int hkk)
      | false =>
        obtain ⟨g1, g2, g3⟩ := hlaw hbk
        obtain ⟨at_, hat⟩ : ∃ a, a = (delivM R f.id (k : Nat)).1 := ⟨_, rfl⟩
        rw [← hat] at g2 g3 ⊢
        rw [g1]
        have v3 : IntKind.i64.wrap (at_ - (f.phase + (k : Int) * f.period)) = at_ - (f.phase + (k : Int) * f.period) := w64 (by omega) (by omega)
        have v4 : IntKind.i64.wrap (at_ - (f.phase + (k : Int) * f.period) + 1) = at_ - (f.phase + (k : Int) * f.period) + 1 := w64 (by omega) (by omega)
        repeat ((conv => whnf); first | refine sJ ?_ | refine And.intro (by first | exact trivial | kernel_rfl) ?_ | rw [v1] | rw [v2] | rw [v3] | rw [v4])
        try (conv => whnf)
        rw [decide_eq_false (show ¬ B.b < at_ - (f.phase + (k : Int) * f.period) + 1 by omega)]
        refine Wk ?_
        refine ⟨k + 1, by omega, by omega, ?_⟩
        refine Fits.mk' rfl rfl rfl rfl ?_ ?_ ?_ ?_ ?_ <;> repeat' (first | exact trivial | refine And.intro ?_ ?_ | exact Sees.of_eq rfl | exact lt_b rfl | rfl | exact FitF.nil _ | exact Sees.int hkk)
    · refine Wk ?_
      exact resP.mk rfl (Sees.bool rfl)
  · have hb0 := hno he
    subst hb0
    rw [show (e != 0) = true by simpa using he]
    refine Wk ?_
    exact resP.mk rfl (Sees.bool rfl)
end HM
