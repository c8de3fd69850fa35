/- The cells of a slot. -/
import Derived.Test.YtjlemnimmbblkaaGreatDoorS1
import Derived.Test.YtjlemnimmbblkaaGreatDoorS70
import Derived.Test.YtjlemnimmbblkaaGreatDoorFh

set_option maxRecDepth 100000
namespace HM
open Go Go.RowKit Go.Proofs
section
variable (L : World → Prop)
theorem c_sin (s : Sched) (slot : Int) : PCall Tryz.prog L 62 [s.av, .int .i64 slot] (.fn 99 [.cptr s.av 0, .cptr (.agg [.int .i64 slot]) 0]) := by
  refine PCall.intro mixed [] (nt := 6) Tryz.func62 rfl rfl (by simp) ?_
  refine Wk ?_
  exact resP.mk rfl (Sees.of_eq rfl)

set_option maxHeartbeats 2000000 in
theorem c_At (s : Sched) (slot : Int) (hc : s.cells.length ≤ 281474976710656) (h63 : slot ≤ 9223372036854775807) : PCall Tryz.prog L 39 [s.av, .int .i64 slot] (encCells (atM s slot)) := by
  refine PCall.intro mixed [] (nt := 30) Tryz.func39 rfl rfl (by simp) ?_
  refine Wk ?_
  first | refine CallK.data rfl (c_form L s) rfl ?_ | refine CallP.data rfl (c_form L s) rfl ?_
  refine Wk ?_
  refine BrK.mk (fun h1 => ?_) (fun h1 => ?_) <;> (try rw [h1])
  · have h1' : formB s = false := by simpa using h1
    refine Wk ?_
    exact resP.mk rfl (Sees.of_eq (by rw [atM, if_pos (.inl h1')]; rfl))
  have h1' : formB s = true := by simpa using h1
  obtain ⟨hsz, hcl, hfm⟩ := form_all h1'
  have hsb := sized_bd hsz
  refine Wk ?_
  refine BrK.mk (fun h2 => ?_) (fun h2 => ?_) <;> (try rw [h2])
  · have h2' : slot < 0 := by simpa using h2
    refine Wk ?_
    exact resP.mk rfl (Sees.of_eq (by rw [atM, if_pos (.inr h2')]; rfl))
  have h2' : ¬ slot < 0 := by simpa using h2
  rw [show atM s slot = s.cells.filter fun c => c.slot == slot % s.len from by rw [atM, if_neg (by simp [h1', h2'])]]
  obtain ⟨m, hm⟩ : ∃ m, m = slot % s.len := ⟨_, rfl⟩
  have hmod : slot.tmod s.len = m := by rw [hm]; exact Int.tmod_eq_emod_of_nonneg (by omega)
  have hmb : 0 ≤ m ∧ m < s.len := ⟨hm ▸ Int.emod_nonneg _ (by omega), hm ▸ Int.emod_lt_of_pos _ (by omega)⟩
  rw [← hm]
  have hwm : IntKind.i64.wrap m = m := w64 (by omega) (by omega)
  repeat ((conv => whnf); first | refine sJ ?_ | refine And.intro (by first | exact (show s.len ≠ 0 by omega) | kernel_rfl) ?_ | rw [hmod] | rw [hwm])
  try (conv => whnf)
  first | refine CallK.data rfl (c_sin L s m) rfl ?_ | refine CallP.data rfl (c_sin L s m) rfl ?_
  refine Wk ?_
  refine RangeK.bornB 1 5 81 _ rfl ?_
  refine RangeK.weak (l := [(2, .ptr 0 0), (5, .ptr 1 0), (19, .fn 99 [.cptr s.av 0, .cptr (.agg [.int .i64 m]) 0])]) (S1 := ⟨[.cells [.int .i64 s.len, .int .i64 s.offs, encCells s.cells] 29, .cells [.own [] 0] 27], [(0, 5)], 0, 0, fun _ => 81⟩) ?_ ?_
  · refine Fits.mk' rfl rfl rfl rfl ?_ ?_ ?_ ?_ ?_ <;> repeat' (first | exact trivial | refine And.intro ?_ ?_ | exact Sees.of_eq rfl | exact lt_b rfl | rfl | exact SeesL.rfl' _)
  refine RangeK.named rfl rfl fun Lp hLp => ?_
  have hok : ∀ k m', 2 ≤ k → Ob.okk k m' (.loop Lp) := fun k m' hk => loop_okk (l := [(2, .ptr 0 0), (5, .ptr 1 0), (19, .fn 99 [.cptr s.av 0, .cptr (.agg [.int .i64 m]) 0])]) (by rw [hLp]) (by simp [okL, AV.okk, okks]; omega)
  refine ICall.intro mixed [] (nt := 25) Tryz.func99 rfl rfl (by simp) ?_
  refine Wk ?_
  refine LoopK.run mixed [] (fun (k : Nat) => k ≤ s.cells.length) (fun k => [(0, .yld 2), (1, .cptr s.av 0), (2, .cptr (.agg [.int .i64 m]) 0), (7, encCells s.cells), (8, .int .i64 s.cells.length), (9, .int .i64 k)]) (fun k => ⟨[.cells [.int .i64 s.len, .int .i64 s.offs, encCells s.cells] 29, .cells [.own (((s.cells.take k).filter fun c => c.slot == m).map Cell.av) 0] 27, .loop Lp], [(((s.cells.take k).filter fun c => c.slot == m).length, 5)], 3, 1, fun _ => 81⟩) (fun k => s.cells.length - k) 0 (by omega) ?_ ?_
  · refine Fits.mk' rfl rfl rfl rfl ?_ ?_ ?_ ?_ ?_ <;> repeat' (first | exact trivial | refine And.intro ?_ ?_ | exact Sees.of_eq rfl | exact lt_b rfl | rfl | exact hok _ _ (Nat.le_of_ble_eq_true rfl) | exact SeesL.rfl' _ | exact SeesO.rfl' _ | exact Sees.int (by simp))
  rintro k hk
  have hfl : ((s.cells.take k).filter fun c => c.slot == m).length ≤ 512 := Nat.le_trans (List.length_filter_le _ _) (by rw [List.length_take]; omega)
  refine Wk ?_
  refine BrK.mk (fun hb => ?_) (fun hb => ?_) <;> (try rw [hb])
  · have hlt : k < s.cells.length := by simpa using hb
    obtain ⟨c, hgc⟩ := getLt hlt
    have hmc := getMap (f := Cell.av) hgc
    have htk := take_succ hgc
    repeat ((conv => whnf); first | refine sJ ?_ | refine And.intro (by first | exact inbMap hlt | kernel_rfl) ?_ | rw [hmc])
    try (conv => whnf)
    refine BrK.mk (fun h3 => ?_) (fun h3 => ?_) <;> (try rw [h3])
    · refine Wk ?_
      refine CallK.round mixed [] hLp rfl rfl rfl ?_
      clear hLp
      repeat ((conv => whnf); first | refine sJ ?_ | refine And.intro (by first | exact inbMap hlt | exact Els.map (f := Cell.av) (fun _ => ⟨rfl, rfl⟩) | exact (show _ * 40 ≤ _ by simp only [List.length_map, List.length_append, List.length_cons, List.length_nil]; omega) | exact (by simp only [List.length_map, List.length_append, List.length_cons, List.length_nil, maxLen]; omega) | exact (show some (_, _) = some (_, _) by simp only [List.length_map]) | kernel_rfl) ?_ | rw [hmc])
      try (conv => whnf)
      have hsl : (c.slot == m) = true := h3
      have hfs : ((s.cells.take (k + 1)).filter fun c => c.slot == m) = ((s.cells.take k).filter fun c => c.slot == m) ++ [c] := by rw [htk, List.filter_append]; simp [hsl]
      refine ⟨k + 1, by omega, by omega, ?_⟩
      rw [hfs]
      refine Fits.mk' rfl rfl rfl rfl ?_ ?_ ?_ ?_ ?_ <;> repeat' (first | exact trivial | refine And.intro ?_ ?_ | exact Sees.of_eq rfl | exact lt_b rfl | rfl | exact hok _ _ (Nat.le_of_ble_eq_true rfl) | exact SeesO.rfl' _ | exact Sees.int (succI hlt (by omega)) | exact Sees.own (by simp; rfl) | (show (_, _) = (_, _); simp only [List.length_append, List.length_map, List.length_cons, List.length_nil]))
    · have hsl : (c.slot == m) = false := h3
      have hfs : ((s.cells.take (k + 1)).filter fun c => c.slot == m) = ((s.cells.take k).filter fun c => c.slot == m) := by rw [htk, List.filter_append]; simp [hsl]
      refine Wk ?_
      refine ⟨k + 1, by omega, by omega, ?_⟩
      rw [hfs]
      refine Fits.mk' rfl rfl rfl rfl ?_ ?_ ?_ ?_ ?_ <;> repeat' (first | exact trivial | refine And.intro ?_ ?_ | exact Sees.of_eq rfl | exact lt_b rfl | rfl | exact hok _ _ (Nat.le_of_ble_eq_true rfl) | exact SeesO.rfl' _ | exact SeesL.rfl' _ | exact Sees.int (succI hlt (by omega)))
  · have hk' : k = s.cells.length := by simp at hb; omega
    subst hk'
    refine Wk ?_
    rw [show Lp.st = .ready from by rw [hLp], show Lp.pend = none from by rw [hLp]]
    rw [List.take_length]
    refine Wk ?_
    exact resP.mk rfl (Sees.of_eq rfl)
end
end HM
