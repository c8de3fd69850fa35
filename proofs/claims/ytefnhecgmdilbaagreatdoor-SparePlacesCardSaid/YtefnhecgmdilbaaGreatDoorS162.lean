/- Whether a schedule is valid: the program. -/
import Derived.Test.YtefnhecgmdilbaaGreatDoorS161
import Derived.Test.YtefnhecgmdilbaaGreatDoorS120
import Derived.Test.YtefnhecgmdilbaaGreatDoorDc

set_option maxRecDepth 100000
namespace HM
open Go Go.RowKit Go.Proofs
section
variable (L : World → Prop)
set_option maxHeartbeats 2000000 in
theorem c_SCheck (n : Net) (hn : n.small) (l : List Flow) (hl : l.length ≤ 281474976710656) (s : Sched) (hc : s.cells.length ≤ 281474976710656) : PCall Tryz.prog L 34 [n.av, encFlows l, s.av] (.tup [.int .i64 (schedE n l s).1, .int .i64 (schedE n l s).2]) := by
  refine PCall.intro mixed [] (nt := 73) Tryz.func34 rfl rfl (by simp) ?_
  refine Wk ?_
  first | refine CallK.data rfl (c_netCheck L n hn) rfl ?_ | refine CallP.data rfl (c_netCheck L n hn) rfl ?_
  refine Wk ?_
  refine BrK.mk (fun h1 => ?_) (fun h1 => ?_) <;> (try rw [h1])
  · refine Wk ?_
    exact resP.mk rfl (Sees.of_eq (by unfold schedE; rw [if_pos (.inl (by simpa using h1))]))
  have h0 : netE n = 0 := by simpa using h1
  refine Wk ?_
  first | refine CallK.data rfl (c_FCheck L n.nodes l hl) rfl ?_ | refine CallP.data rfl (c_FCheck L n.nodes l hl) rfl ?_
  refine Wk ?_
  refine BrK.mk (fun h2 => ?_) (fun h2 => ?_) <;> (try rw [h2])
  · refine Wk ?_
    exact resP.mk rfl (Sees.of_eq (by unfold schedE; rw [if_pos (.inr (by simpa using h2))]))
  have h2' : (flowsE n.nodes l).2 = 0 := by simpa using h2
  have hper := flowsE_per h2'
  have e1 : ¬ (netE n ≠ 0 ∨ (flowsE n.nodes l).2 ≠ 0) := by simp [h0, h2']
  refine Wk ?_
  first | refine CallK.data rfl (c_sized L s) rfl ?_ | refine CallP.data rfl (c_sized L s) rfl ?_
  refine Wk ?_
  refine BrK.mk (fun h3 => ?_) (fun h3 => ?_) <;> (try rw [h3])
  · refine Wk ?_
    exact resP.mk rfl (Sees.of_eq (by unfold schedE; rw [if_neg e1, if_pos (by simpa using h3)]))
  have h3' : sizedB s = true := by simpa using h3
  have hsb := sized_bd h3'
  refine Wk ?_
  first | refine CallK.box rfl (c_ContainsFuncFlow L l (mism s) 57 [.cptr s.av 0] hl rfl rfl (fun f hf => c_sCheck1 L f s (by omega) (by omega) (hper f hf).1 (hper f hf).2)) rfl rfl ?_ | refine CallP.box rfl (c_ContainsFuncFlow L l (mism s) 57 [.cptr s.av 0] hl rfl rfl (fun f hf => c_sCheck1 L f s (by omega) (by omega) (hper f hf).1 (hper f hf).2)) rfl rfl ?_
  refine Wk ?_
  refine BrK.mk (fun h4 => ?_) (fun h4 => ?_) <;> (try rw [h4])
  · refine Wk ?_
    exact resP.mk rfl (Sees.of_eq (by unfold schedE; rw [if_neg e1, if_neg (by simp [h3']), if_pos h4]))
  refine Wk ?_
  refine BrK.mk (fun h5 => ?_) (fun h5 => ?_) <;> (try rw [h5])
  · refine Wk ?_
    exact resP.mk rfl (Sees.of_eq (by unfold schedE; rw [if_neg e1, if_neg (by simp [h3']), if_neg (by simp [h4]), if_pos (by simp at h5; omega)]))
  have hc5 : ¬ 512 < s.cells.length := by simp at h5; omega
  have hE : schedE n l s = if (firstAt (cellF n l s) s.cells.length).2 ≠ 0 then firstAt (cellF n l s) s.cells.length
    else if (firstAt (twI s.cells) s.cells.length).2 ≠ 0 then firstAt (twI s.cells) s.cells.length
    else firstAt (dsI n s.cells) s.cells.length := by unfold schedE; rw [if_neg e1, if_neg (by simp [h3']), if_neg (by simp [h4]), if_neg hc5]
  rw [hE]
  refine Wk ?_
  first | refine CallK.data rfl (c_checkCells L n hn h0 l hl s (by omega)) rfl ?_ | refine CallP.data rfl (c_checkCells L n hn h0 l hl s (by omega)) rfl ?_
  refine Wk ?_
  refine BrK.mk (fun h6 => ?_) (fun h6 => ?_) <;> (try rw [h6])
  · rw [if_pos (by simpa using h6)]
    refine Wk ?_
    exact resP.mk rfl (Sees.of_eq rfl)
  have h6' : (firstAt (cellF n l s) s.cells.length).2 = 0 := by simpa using h6
  have hcell : ∀ c ∈ s.cells, goodL n c.src c.dst = true := fun c hcm => by
    obtain ⟨k, hk⟩ := List.getElem?_of_mem hcm
    have := firstAt_ok.1 h6' k (List.getElem?_eq_some_iff.1 hk).1
    unfold cellF at this
    rw [hk] at this
    simp only at this
    split at this
    · cases this
    split at this
    · cases this
    rename_i g
    simp only [not_or, Bool.not_eq_false] at g
    exact g.1
  rw [if_neg (by simp [h6'])]
  refine Wk ?_
  refine LoopK.run mixed [] (fun (k : Nat) => k ≤ s.cells.length ∧ ∀ j, j < k → twI s.cells j = 0) (fun k => [(3, .ptr 0 0), (5, .ptr 1 0), (52, .int .i64 s.cells.length), (53, .int .i64 k)]) (fun k => ⟨[.cells n.cs 26, .cells [.int .i64 s.len, .int .i64 s.offs, encCells s.cells] 30], [], 0, 0, fun _ => 0⟩) (fun k => s.cells.length - k) 0 ⟨by simp, by simp⟩ ?_ ?_
  · refine Fits.mk' rfl rfl rfl rfl ?_ ?_ ?_ ?_ ?_ <;> repeat' (first | exact trivial | refine And.intro ?_ ?_ | exact Sees.of_eq rfl | exact lt_b rfl | rfl | exact SeesL.rfl' _ | exact Sees.int (by simp))
  rintro k ⟨hk, hinv⟩
  refine Wk ?_
  refine BrK.mk (fun hb => ?_) (fun hb => ?_) <;> (try rw [hb])
  · have hlt : k < s.cells.length := by simpa using hb
    have hit := firstAt_hit hinv (k := k) (n := s.cells.length)
    refine Wk ?_
    first | refine CallK.data rfl (c_twice L s (by omega) k hlt) rfl ?_ | refine CallP.data rfl (c_twice L s (by omega) k hlt) rfl ?_
    cases ht : twiceM s.cells k with
    | true =>
      have hv : twI s.cells k = 6 := by rw [twI, if_pos ht]
      have hf := hit (by rw [hv]; decide) hlt
      rw [hv] at hf
      rw [hf, if_pos (show (6 : Int) ≠ 0 by decide)]
      refine Wk ?_
      exact resP.mk rfl (Sees.of_eq rfl)
    | false =>
      have hv : twI s.cells k = 0 := by rw [twI, if_neg (by simp [ht])]
      refine Wk ?_
      refine ⟨k + 1, ⟨by omega, fun j hj => ?_⟩, by omega, ?_⟩
      · rcases Nat.lt_succ_iff_lt_or_eq.1 hj with h | rfl
        · exact hinv j h
        · exact hv
      · refine Fits.mk' rfl rfl rfl rfl ?_ ?_ ?_ ?_ ?_ <;> repeat' (first | exact trivial | refine And.intro ?_ ?_ | exact Sees.of_eq rfl | exact lt_b rfl | rfl | exact SeesL.rfl' _ | exact Sees.int (by rw [w64] <;> omega))
  have hkn : k = s.cells.length := by simp at hb; omega
  have hf0 := firstAt_zero (hkn ▸ hinv)
  rw [hf0, if_neg (by decide)]
  clear hkn hinv hb hk hf0
  refine Wk ?_
  refine LoopK.run mixed [] (fun (k : Nat) => k ≤ s.cells.length ∧ ∀ j, j < k → dsI n s.cells j = 0) (fun k => [(3, .ptr 0 0), (5, .ptr 1 0), (63, .int .i64 s.cells.length), (64, .int .i64 k)]) (fun k => ⟨[.cells n.cs 26, .cells [.int .i64 s.len, .int .i64 s.offs, encCells s.cells] 30], [], 0, 0, fun _ => 0⟩) (fun k => s.cells.length - k) 0 ⟨by simp, by simp⟩ ?_ ?_
  · refine Fits.mk' rfl rfl rfl rfl ?_ ?_ ?_ ?_ ?_ <;> repeat' (first | exact trivial | refine And.intro ?_ ?_ | exact Sees.of_eq rfl | exact lt_b rfl | rfl | exact SeesL.rfl' _ | exact Sees.int (by simp))
  rintro k ⟨hk, hinv⟩
  refine Wk ?_
  refine BrK.mk (fun hb => ?_) (fun hb => ?_) <;> (try rw [hb])
  · have hlt : k < s.cells.length := by simpa using hb
    have hit := firstAt_hit hinv (k := k) (n := s.cells.length)
    refine Wk ?_
    first | refine CallK.data rfl (c_disturbed L n hn h0 s (by omega) hcell k hlt) rfl ?_ | refine CallP.data rfl (c_disturbed L n hn h0 s (by omega) hcell k hlt) rfl ?_
    cases ht : disturbB n s.cells k with
    | true =>
      have hv : dsI n s.cells k = 16 := by rw [dsI, if_pos ht]
      have hf := hit (by rw [hv]; decide) hlt
      rw [hv] at hf
      rw [hf]
      refine Wk ?_
      exact resP.mk rfl (Sees.of_eq rfl)
    | false =>
      have hv : dsI n s.cells k = 0 := by rw [dsI, if_neg (by simp [ht])]
      refine Wk ?_
      refine ⟨k + 1, ⟨by omega, fun j hj => ?_⟩, by omega, ?_⟩
      · rcases Nat.lt_succ_iff_lt_or_eq.1 hj with h | rfl
        · exact hinv j h
        · exact hv
      · refine Fits.mk' rfl rfl rfl rfl ?_ ?_ ?_ ?_ ?_ <;> repeat' (first | exact trivial | refine And.intro ?_ ?_ | exact Sees.of_eq rfl | exact lt_b rfl | rfl | exact SeesL.rfl' _ | exact Sees.int (by rw [w64] <;> omega))
  · have hkn : k = s.cells.length := by simp at hb; omega
    have hf0 := firstAt_zero (hkn ▸ hinv)
    rw [hf0]
    refine Wk ?_
    exact resP.mk rfl (Sees.of_eq rfl)
end

end HM
