/- The bound of a route; Release and Route. -/
import Derived.Test.YtgfboaadhlhjhaaGreatDoorS53
import Derived.Test.YtgfboaadhlhjhaaGreatDoorDa
set_option maxRecDepth 100000
namespace HM
open Go Go.RowKit Go.Proofs
set_option maxHeartbeats 4000000 in
theorem c_bound (w : Way) (hn : w.n.small) (h : WayOk w.n w.s w.f w.r) (h0 : netE w.n = 0) (hm0 : 0 ≤ w.more) (hm1 : w.more ≤ 8) :
    PCall Tryz.prog LW 76 [w.av] (bndAV (boundR w.n w.s w.f w.r w.more)) := by
  have hfl := h.flow
  obtain ⟨hsz, hcl, hfm⟩ := form_all h.form
  have hsb := sized_bd hsz
  refine PCall.intro mixed [] (nt := 44) Tryz.func76 rfl rfl (by simp) ?_
  refine Wk ?_
  refine LoopK.run mixed [] (fun s : Nat × Bnd => s.1 ≤ relsN w.s w.f ∧ boundUp w.n w.s w.f w.r w.more s.1 = some s.2) (fun s => [(1, .ptr 0 0), (6, .int .i64 s.2.b), (7, .int .i64 s.2.w), (8, encIs s.2.l), (9, .int .i64 (w.f.phase + s.1 * w.f.period))]) (fun _ => ⟨[.cells w.cs 120], [], 0, 0, fun _ => 0⟩) (fun s => relsN w.s w.f - s.1) (0, ⟨0, 0, []⟩) ⟨by simp, rfl⟩ ?_ ?_
  · refine Fits.mk' rfl rfl rfl rfl ?_ ?_ ?_ ?_ ?_ <;> repeat' (first | exact trivial | refine And.intro ?_ ?_ | exact Sees.of_eq rfl | exact lt_b rfl | rfl | exact Sees.int (by simp) | exact Sees.elems rfl)
  rintro ⟨k, x⟩ ⟨hk, hup⟩
  simp only at hk hup
  have hlt := relsN_lt (s := w.s) (f := w.f) (k := k) (by omega)
  have hms : ((k + 1 : Nat) : Int) * w.f.period = k * w.f.period + w.f.period := by rw [Int.natCast_add, Int.add_mul]; simp
  have hp0 : 0 ≤ (k : Int) * w.f.period := Int.mul_nonneg (by omega) (by omega)
  refine Wk ?_
  refine BrK.mk (fun hb => ?_) (fun hb => ?_) <;> (try rw [hb])
  · have hb' : w.f.phase + k * w.f.period < w.s.len := by simpa using hb
    have hkl := hlt.2 hb'
    refine Wk ?_
    first | refine CallK.data rfl (c_release w (w.f.phase + k * w.f.period) hn h h0 hm0 hm1 (by omega) (by omega)) rfl ?_ | refine CallP.data rfl (c_release w (w.f.phase + k * w.f.period) hn h h0 hm0 hm1 (by omega) (by omega)) rfl ?_
    cases hR : relR w.n w.s w.f w.r w.more (w.f.phase + k * w.f.period) with
    | none =>
      refine Wk ?_
      exact resP.mk rfl (Sees.of_eq (by rw [boundR, boundUp_none (boundUp_stop hR) hkl]; rfl))
    | some bl =>
      obtain ⟨b, l⟩ := bl
      have hnx := boundUp_some hup hR
      refine Wk ?_
      refine BrK.mk (fun h1 => ?_) (fun h1 => ?_) <;> (try rw [h1])
      · rw [if_pos (by simpa using h1)] at hnx
        refine Wk ?_
        refine ⟨(k + 1, _), ⟨hkl, hnx⟩, by simp only; omega, ?_⟩
        refine Fits.mk' rfl rfl rfl rfl ?_ ?_ ?_ ?_ ?_ <;> repeat' (first | exact trivial | refine And.intro ?_ ?_ | exact Sees.of_eq rfl | exact lt_b rfl | rfl | exact Sees.int (by simp only [hms]; rw [w64] <;> omega))
      · rw [if_neg (by simpa using h1)] at hnx
        refine Wk ?_
        refine ⟨(k + 1, _), ⟨hkl, hnx⟩, by simp only; omega, ?_⟩
        refine Fits.mk' rfl rfl rfl rfl ?_ ?_ ?_ ?_ ?_ <;> repeat' (first | exact trivial | refine And.intro ?_ ?_ | exact Sees.of_eq rfl | exact lt_b rfl | rfl | exact Sees.int (by simp only [hms]; rw [w64] <;> omega))
  · have hk' : k = relsN w.s w.f := by
      rcases Nat.lt_or_ge k (relsN w.s w.f) with hh | hh
      · have := hlt.1 hh
        simp at hb; omega
      · omega
    subst hk'
    refine Wk ?_
    exact resP.mk rfl (Sees.of_eq (by rw [boundR, hup]; rfl))
set_option maxHeartbeats 4000000 in
theorem c_BRoute (n : Net) (s : Sched) (f : Flow) (r : List Int) (hn : n.small) (hc : s.cells.length ≤ 281474976710656) (hr : r.length ≤ 281474976710656) :
    PCall Tryz.prog LW 32 [n.av, s.av, f.av, encIs r] (.tup [.int .i64 (routeM n s f r).1, .int .i64 (routeM n s f r).2.1, encIs (routeM n s f r).2.2.1, .int .i64 (routeM n s f r).2.2.2]) := by
  refine PCall.intro mixed [] (nt := 40) Tryz.func32 rfl rfl (by simp) ?_
  refine Wk ?_
  first | refine CallK.data rfl (c_wcheck ⟨n, s, f, r, 0⟩ hn hc hr) rfl ?_ | refine CallP.data rfl (c_wcheck ⟨n, s, f, r, 0⟩ hn hc hr) rfl ?_
  refine Wk ?_
  refine BrK.mk (fun h1 => ?_) (fun h1 => ?_) <;> (try rw [h1])
  · refine Wk ?_
    exact resP.mk rfl (Sees.of_eq (by rw [routeM, if_pos (by simpa using h1)]; rfl))
  have h1' : wayE n s f r = 0 := by simpa using h1
  have hn0 := wayE_net h1'
  have e1 : ¬ wayE n s f r ≠ 0 := by simpa using h1'
  refine Wk ?_
  first | refine CallK.data rfl (c_bound ⟨n, s, f, r, 0⟩ hn (wayE_ok h1') hn0 (Int.le_refl _) (by show (0 : Int) ≤ 8; omega)) rfl ?_ | refine CallP.data rfl (c_bound ⟨n, s, f, r, 0⟩ hn (wayE_ok h1') hn0 (Int.le_refl _) (by show (0 : Int) ≤ 8; omega)) rfl ?_
  cases hB : boundR n s f r 0 with
  | none =>
    refine Wk ?_
    exact resP.mk rfl (Sees.of_eq (by rw [routeM, if_neg e1, hB]; rfl))
  | some x =>
    refine Wk ?_
    exact resP.mk rfl (Sees.of_eq (by rw [routeM, if_neg e1, hB]; rfl))
end HM
