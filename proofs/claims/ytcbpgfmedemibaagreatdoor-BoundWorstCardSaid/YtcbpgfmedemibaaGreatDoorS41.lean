/- The reference's Route, Least and Slack. -/
import Derived.Test.YtcbpgfmedemibaaGreatDoorS38
import Derived.Test.YtcbpgfmedemibaaGreatDoorS33
/- The reference's Route, Least and Slack. -/
set_option maxRecDepth 100000
namespace HM
open Go Go.RowKit Go.Proofs
section
variable (L : World → Prop)

set_option maxHeartbeats 4000000 in
theorem c_Most37 (n : Net) (s : Sched) (f : Flow) (r : List Int) (more : Int) (hl : n.links.length ≤ 281474976710656) (h : WayOk n s f r) (hm0 : 0 ≤ more) (hm1 : more ≤ 8) :
    PCall Tryz.prog L 103 [n.av, s.av, f.av, encIs r, .int .i64 more] (bndAV (boundR n s f r more)) := by
  have hfl := h.flow
  obtain ⟨hsz, hcl, hfm⟩ := form_all h.form
  have hsb := sized_bd hsz
  refine PCall.intro mixed [] (nt := 70) Tryz.func103 rfl rfl (by simp) ?_
  refine Wk ?_
  refine LoopK.run mixed [] (fun st : Nat × Bnd => st.1 ≤ relsN s f ∧ boundUp n s f r more st.1 = some st.2) (fun st => [(3, encIs r), (4, .int .i64 more), (5, .ptr 0 0), (6, .ptr 1 0), (7, .ptr 2 0), (14, .int .i64 st.2.b), (15, .int .i64 st.2.w), (16, encIs st.2.l), (17, .int .i64 (f.phase + st.1 * f.period))]) (fun _ => ⟨sl37 n s f, [], 0, 0, fun _ => 0⟩) (fun st => relsN s f - st.1) (0, ⟨0, 0, []⟩) ⟨by simp, rfl⟩ ?_ ?_
  · refine Fits.mk' rfl rfl rfl rfl ?_ ?_ ?_ ?_ ?_ <;> repeat' (first | exact trivial | refine And.intro ?_ ?_ | exact Sees.of_eq rfl | exact lt_b rfl | rfl | exact SeesL.rfl' _ | exact Sees.int (by simp) | exact Sees.elems rfl)
  rintro ⟨k, x⟩ ⟨hk, hup⟩
  simp only at hk hup
  have hlt := relsN_lt (s := s) (f := f) (k := k) (by omega)
  have hms : ((k + 1 : Nat) : Int) * f.period = k * f.period + f.period := by rw [Int.natCast_add, Int.add_mul]; simp
  have hp0 : 0 ≤ (k : Int) * f.period := Int.mul_nonneg (by omega) (by omega)
  refine Wk ?_
  refine BrK.mk (fun hb => ?_) (fun hb => ?_) <;> (try rw [hb])
  · have hb' : f.phase + k * f.period < s.len := by simpa using hb
    have hkl := hlt.2 hb'
    refine Wk ?_
    first | refine CallK.data rfl (c_Slots37 L n s f r (f.phase + k * f.period) more hl h hm0 hm1 (by omega) (by omega)) rfl ?_ | refine CallP.data rfl (c_Slots37 L n s f r (f.phase + k * f.period) more hl h hm0 hm1 (by omega) (by omega)) rfl ?_
    cases hS : slotsW n s f r (f.phase + k * f.period) more with
    | none =>
      refine Wk ?_
      exact resP.mk rfl (Sees.of_eq (by rw [boundR, boundUp_none (boundUp_stop (relR_none hS)) hkl]; rfl))
    | some l =>
      obtain ⟨z, hz, hR, hz0, hz1, hll, hne, hmem⟩ := slotsW_some h hm0 hm1 hS
      have hnx := boundUp_some hup hR
      have hlp : 0 < l.length := List.length_pos_iff.2 hne
      have hz2 : l[l.length - 1]? = some z := by rw [← List.getLast?_eq_getElem?, hz]
      have hmz := getMap (f := encI) hz2
      have hwl : IntKind.i64.wrap (((List.map encI l).length : Int) - 1) = ((l.length - 1 : Nat) : Int) := by rw [w64] <;> simp <;> omega
      have hwz : IntKind.i64.wrap (IntKind.i64.wrap (z - (f.phase + k * f.period)) + 1) = z - (f.phase + k * f.period) + 1 := by rw [w64 (x := z - (f.phase + k * f.period)) (by omega) (by omega), w64 (by omega) (by omega)]
      repeat ((conv => whnf); first | refine sJ ?_ | refine And.intro (by first | (rw [hwl]; exact inbMap (by omega)) | kernel_rfl) ?_ | rw [hwl] | rw [hmz])
      try (conv => whnf)
      rw [hwz]
      refine BrK.mk (fun h1 => ?_) (fun h1 => ?_) <;> (try rw [h1])
      · rw [if_pos (by simpa using h1)] at hnx
        repeat ((conv => whnf); first | refine sJ ?_ | refine And.intro (by first | (rw [hwl]; exact inbMap (by omega)) | kernel_rfl) ?_ | rw [hwl] | rw [hmz])
        try (conv => whnf)
        first | refine CallK.data rfl (c_relative L l (f.phase + k * f.period) (by omega) (fun x hx => by have := hmem x hx; omega) (by omega)) rfl ?_ | refine CallP.data rfl (c_relative L l (f.phase + k * f.period) (by omega) (fun x hx => by have := hmem x hx; omega) (by omega)) rfl ?_
        refine Wk ?_
        refine ⟨(k + 1, _), ⟨hkl, hnx⟩, by simp only; omega, ?_⟩
        refine Fits.mk' rfl rfl rfl rfl ?_ ?_ ?_ ?_ ?_ <;> repeat' (first | exact trivial | refine And.intro ?_ ?_ | exact Sees.of_eq rfl | exact lt_b rfl | rfl | exact SeesL.rfl' _ | exact Sees.int hwz | exact Sees.int (by simp only [hms]; rw [w64] <;> omega))
      · rw [if_neg (by simpa using h1)] at hnx
        refine Wk ?_
        refine ⟨(k + 1, _), ⟨hkl, hnx⟩, by simp only; omega, ?_⟩
        refine Fits.mk' rfl rfl rfl rfl ?_ ?_ ?_ ?_ ?_ <;> repeat' (first | exact trivial | refine And.intro ?_ ?_ | exact Sees.of_eq rfl | exact lt_b rfl | rfl | exact SeesL.rfl' _ | exact Sees.int (by simp only [hms]; rw [w64] <;> omega))
  · have hk' : k = relsN s f := by
      rcases Nat.lt_or_ge k (relsN s f) with hh | hh
      · have := hlt.1 hh
        simp at hb; omega
      · omega
    subst hk'
    refine Wk ?_
    exact resP.mk rfl (Sees.of_eq (by rw [boundR, hup]; rfl))

set_option maxHeartbeats 4000000 in
theorem c_Route37 (n : Net) (s : Sched) (f : Flow) (r : List Int) (hn : n.small) (hc : s.cells.length ≤ 281474976710656) (hr : r.length ≤ 281474976710656) (hl : n.links.length ≤ 281474976710656) :
    PCall Tryz.prog L 53 [n.av, s.av, f.av, encIs r] (.tup [.int .i64 (routeM n s f r).1, .int .i64 (routeM n s f r).2.1, encIs (routeM n s f r).2.2.1, .int .i64 (routeM n s f r).2.2.2]) := by
  refine PCall.intro mixed [] (nt := 40) Tryz.func53 rfl rfl (by simp) ?_
  refine Wk ?_
  first | refine CallK.data rfl (c_Fault37 L n s f r hn hc hr) rfl ?_ | refine CallP.data rfl (c_Fault37 L n s f r hn hc hr) rfl ?_
  refine Wk ?_
  refine BrK.mk (fun h1 => ?_) (fun h1 => ?_) <;> (try rw [h1])
  · refine Wk ?_
    exact resP.mk rfl (Sees.of_eq (by rw [routeM, if_pos (by simpa using h1)]; rfl))
  have h1' : wayE n s f r = 0 := by simpa using h1
  have e1 : ¬ wayE n s f r ≠ 0 := by simpa using h1'
  have hw := wayE_ok h1'
  refine Wk ?_
  first | refine CallK.data rfl (c_Most37 L n s f r 0 hl hw (by omega) (by omega)) rfl ?_ | refine CallP.data rfl (c_Most37 L n s f r 0 hl hw (by omega) (by omega)) rfl ?_
  cases hB : boundR n s f r 0 with
  | none =>
    refine Wk ?_
    exact resP.mk rfl (Sees.of_eq (by rw [routeM, if_neg e1, hB]; rfl))
  | some x =>
    refine Wk ?_
    exact resP.mk rfl (Sees.of_eq (by rw [routeM, if_neg e1, hB]; rfl))

end
end HM

/- The reference's Least, Slack and guards. -/
set_option maxRecDepth 100000
namespace HM
open Go Go.RowKit Go.Proofs
section
variable (L : World → Prop)

end
end HM

/- The guard of networks. -/
set_option maxRecDepth 100000
namespace HM
open Go Go.RowKit Go.Proofs
section
variable (L : World → Prop)

def few31 (n : Net) : Bool := !(n.power.any fun r => decide ((40 : Int) < r.length)) && decide ((n.power.length : Int) ≤ 8) && decide ((n.links.length : Int) ≤ 60) && decide ((n.margin.length : Int) ≤ 60)
theorem c_Few31 (n : Net) (hn : n.small) : PCall Tryz.prog L 16 [n.av] (.bool (few31 n)) := by
  have hn1 := hn.1
  refine PCall.intro mixed [] (nt := 34) Tryz.func16 rfl rfl (by simp) ?_
  refine Wk ?_
  refine LoopK.run mixed [] (fun (k : Nat) => k ≤ n.power.length ∧ ∀ j x, j < k → n.power[j]? = some x → ¬ (40 : Int) < x.length) (fun k => [(1, .ptr 0 0), (3, .int .i64 k)]) (fun k => ⟨[.cells [.int .i64 n.nodes, encRows n.power, .int .i64 n.noise, .int .i64 n.thr, encLinks n.links, encIs n.margin] 26], [], 0, 0, fun _ => 0⟩) (fun k => n.power.length - k) 0 ⟨by simp, by simp⟩ ?_ ?_
  · refine Fits.mk' rfl rfl rfl rfl ?_ ?_ ?_ ?_ ?_ <;> repeat' (first | exact trivial | refine And.intro ?_ ?_ | exact Sees.of_eq rfl | exact lt_b rfl | rfl | exact SeesL.rfl' _)
  rintro k ⟨hk, hinv⟩
  refine Wk ?_
  refine BrK.mk (fun h1 => ?_) (fun h1 => ?_) <;> (try rw [h1])
  · have hlt : k < n.power.length := by simpa using h1
    obtain ⟨r, hgr⟩ := getLt hlt
    have hmr := getMap (f := fun r : List Int => encIs r) hgr
    repeat ((conv => whnf); first | refine sJ ?_ | refine And.intro (by first | exact inbMap hlt | kernel_rfl) ?_ | rw [hmr])
    try (conv => whnf)
    refine BrK.mk (fun h2 => ?_) (fun h2 => ?_) <;> (try rw [h2])
    · have h2' : (40 : Int) < r.length := by simpa using h2
      refine Wk ?_
      exact resP.mk rfl (Sees.bool (by rw [few31, show (n.power.any fun r => decide ((40 : Int) < r.length)) = true from List.any_eq_true.2 ⟨r, List.mem_of_getElem? hgr, by simpa using h2'⟩]; rfl))
    · have h2' : ¬ (40 : Int) < r.length := by simpa using h2
      refine Wk ?_
      refine ⟨k + 1, ⟨by omega, fun j x hj hx => ?_⟩, by omega, ?_⟩
      · rcases Nat.lt_succ_iff_lt_or_eq.1 hj with hj | rfl
        · exact hinv j x hj hx
        · rw [hgr] at hx; injection hx with hx; subst hx; exact h2'
      · refine Fits.mk' rfl rfl rfl rfl ?_ ?_ ?_ ?_ ?_ <;> repeat' (first | exact trivial | refine And.intro ?_ ?_ | exact Sees.of_eq rfl | exact lt_b rfl | rfl | exact SeesL.rfl' _ | exact Sees.int (succI hlt (by omega)))
  · have hkl : k = n.power.length := by simp at h1; omega
    have hany : (n.power.any fun r => decide ((40 : Int) < r.length)) = false := by
      rw [List.any_eq_false]
      intro x hx
      obtain ⟨j, hj⟩ := List.getElem?_of_mem hx
      simpa using hinv j x (by have := (List.getElem?_eq_some_iff.1 hj).1; omega) hj
    refine Wk ?_
    repeat' ((conv => whnf); first | refine sJ ?_ | refine And.intro (by first  | kernel_rfl) ?_  | (refine BrK.mk (fun hb => ?_) (fun hb => ?_) <;> (try rw [hb])))
    all_goals try (conv => whnf)
    all_goals exact resP.mk rfl (Sees.bool (by rw [few31, hany]; simp_all <;> omega))

def few37 (n : Net) (s : Sched) (l : List (List Int)) : Bool := !(l.any fun r => decide ((12 : Int) < r.length)) && (few31 n && decide ((s.cells.length : Int) ≤ 24) && decide ((l.length : Int) ≤ 3))
theorem c_Few37 (n : Net) (s : Sched) (l : List (List Int)) (hn : n.small) (hl : l.length ≤ 281474976710656) : PCall Tryz.prog L 8 [n.av, s.av, encRows l] (.bool (few37 n s l)) := by
  refine PCall.intro mixed [] (nt := 33) Tryz.func8 rfl rfl (by simp) ?_
  refine Wk ?_
  refine LoopK.run mixed [] (fun (k : Nat) => k ≤ l.length ∧ ∀ j x, j < k → l[j]? = some x → ¬ (12 : Int) < x.length) (fun k => [(2, encRows l), (3, .ptr 0 0), (4, .ptr 1 0), (7, .int .i64 k)]) (fun k => ⟨[.cells [.int .i64 n.nodes, encRows n.power, .int .i64 n.noise, .int .i64 n.thr, encLinks n.links, encIs n.margin] 26, .cells [.int .i64 s.len, .int .i64 s.offs, encCells s.cells] 29], [], 0, 0, fun _ => 0⟩) (fun k => l.length - k) 0 ⟨by simp, by simp⟩ ?_ ?_
  · refine Fits.mk' rfl rfl rfl rfl ?_ ?_ ?_ ?_ ?_ <;> repeat' (first | exact trivial | refine And.intro ?_ ?_ | exact Sees.of_eq rfl | exact lt_b rfl | rfl | exact SeesL.rfl' _)
  rintro k ⟨hk, hinv⟩
  refine Wk ?_
  refine BrK.mk (fun h1 => ?_) (fun h1 => ?_) <;> (try rw [h1])
  · have hlt : k < l.length := by simpa using h1
    obtain ⟨r, hgr⟩ := getLt hlt
    have hmr := getMap (f := fun r : List Int => encIs r) hgr
    repeat ((conv => whnf); first | refine sJ ?_ | refine And.intro (by first | exact inbMap hlt | kernel_rfl) ?_ | rw [hmr])
    try (conv => whnf)
    refine BrK.mk (fun h2 => ?_) (fun h2 => ?_) <;> (try rw [h2])
    · have h2' : (12 : Int) < r.length := by simpa using h2
      refine Wk ?_
      exact resP.mk rfl (Sees.bool (by rw [few37, show (l.any fun r => decide ((12 : Int) < r.length)) = true from List.any_eq_true.2 ⟨r, List.mem_of_getElem? hgr, by simpa using h2'⟩]; rfl))
    · have h2' : ¬ (12 : Int) < r.length := by simpa using h2
      refine Wk ?_
      refine ⟨k + 1, ⟨by omega, fun j x hj hx => ?_⟩, by omega, ?_⟩
      · rcases Nat.lt_succ_iff_lt_or_eq.1 hj with hj | rfl
        · exact hinv j x hj hx
        · rw [hgr] at hx; injection hx with hx; subst hx; exact h2'
      · refine Fits.mk' rfl rfl rfl rfl ?_ ?_ ?_ ?_ ?_ <;> repeat' (first | exact trivial | refine And.intro ?_ ?_ | exact Sees.of_eq rfl | exact lt_b rfl | rfl | exact SeesL.rfl' _ | exact Sees.int (succI hlt (by omega)))
  · have hkl : k = l.length := by simp at h1; omega
    have hany : (l.any fun r => decide ((12 : Int) < r.length)) = false := by
      rw [List.any_eq_false]
      intro x hx
      obtain ⟨j, hj⟩ := List.getElem?_of_mem hx
      simpa using hinv j x (by have := (List.getElem?_eq_some_iff.1 hj).1; omega) hj
    refine Wk ?_
    first | refine CallK.data rfl (c_Few31 L n hn) rfl ?_ | refine CallP.data rfl (c_Few31 L n hn) rfl ?_
    repeat' ((conv => whnf); first | refine sJ ?_ | refine And.intro (by first  | kernel_rfl) ?_  | (refine BrK.mk (fun hb => ?_) (fun hb => ?_) <;> (try rw [hb])))
    all_goals try (conv => whnf)
    all_goals exact resP.mk rfl (Sees.bool (by rw [few37, hany]; simp_all <;> omega))
end
end HM
