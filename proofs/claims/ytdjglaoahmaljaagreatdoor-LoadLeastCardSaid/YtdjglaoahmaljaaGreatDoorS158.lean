/- The least length. -/
import Derived.Test.YtdjglaoahmaljaaGreatDoorS145
import Derived.Test.YtdjglaoahmaljaaGreatDoorS157

set_option maxRecDepth 100000
namespace HM
open Go Go.RowKit Go.Proofs
theorem hyperM_ok {l : List Flow} (h : (hyperM l).2 = 0) : hyperM l = ((hyp l : Int), 0) ∧ hyp l ≤ 512 ∧ 1 ≤ hyp l := by
  unfold hyperM at h ⊢
  split at h
  · cases h
  rename_i h1
  rw [if_neg h1]
  split at h
  · cases h
  rename_i h2
  rw [if_neg h2]
  exact ⟨rfl, by omega, hyp_pos fun f hf => (flowsE_per (nodes := 32) (by omega) f hf).1⟩
theorem leastL_hit {n : Net} {q : List Req} {offs : Int} (h : (reqE n q).2 = 0) (ho : ¬ (offs < 1 ∨ 16 < offs)) (hh : (hyperM (flowsQ q)).2 = 0) {k : Nat} (hk : hyp (flowsQ q) * (k + 1) ≤ 512) (h0 : ∀ j, j < k → freeAt n q offs (hyp (flowsQ q)) j = none) (hf : (reasonG n q (hyp (flowsQ q) * (k + 1) : Nat) offs).2.1 = false) : leastL n q offs = (((hyp (flowsQ q) * (k + 1) : Nat) : Int), 0) := by
  obtain ⟨_, h5, h1⟩ := hyperM_ok hh
  unfold leastL
  rw [if_neg (by omega), if_neg ho, if_neg (by omega), firstO_hit h0 (x := hyp (flowsQ q) * (k + 1)) (by unfold freeAt; rw [hf]; rfl) ((div_le_mul h1).2 hk)]
theorem leastL_no {n : Net} {q : List Req} {offs : Int} (h : (reqE n q).2 = 0) (ho : ¬ (offs < 1 ∨ 16 < offs)) (hh : (hyperM (flowsQ q)).2 = 0) {k : Nat} (hk : ¬ hyp (flowsQ q) * (k + 1) ≤ 512) (h0 : ∀ j, j < k → freeAt n q offs (hyp (flowsQ q)) j = none) : leastL n q offs = (0, 21) := by
  obtain ⟨_, h5, h1⟩ := hyperM_ok hh
  unfold leastL
  rw [if_neg (by omega), if_neg ho, if_neg (by omega), firstO_none fun j hj => h0 j ?_]
  have := (div_le_mul h1).1 hj
  rcases Nat.lt_or_ge j k with h | h
  · exact h
  · exact absurd (Nat.le_trans (Nat.mul_le_mul_left _ (Nat.succ_le_succ h)) this) hk
section
variable (L : World → Prop)

set_option maxHeartbeats 4000000 in
theorem c_Least (n : Net) (hn : n.small) (q : List Req) (hq : q.length ≤ 1099511627776) (hx : ∀ x ∈ q, x.small) (offs : Int) : PCall Tryz.prog L 30 [n.av, encReqs q, .int .i64 offs] (.tup [.int .i64 (leastL n q offs).1, .int .i64 (leastL n q offs).2]) := by
  refine PCall.intro mixed [] (nt := 70) Tryz.func30 rfl rfl (by simp) ?_
  refine Wk ?_
  first | refine CallK.data rfl (c_LCheck L n hn q hq hx) rfl ?_ | refine CallP.data rfl (c_LCheck L n hn q hq hx) rfl ?_
  refine Wk ?_
  refine BrK.mk (fun h1 => ?_) (fun h1 => ?_) <;> (try rw [h1])
  · refine Wk ?_
    exact resP.mk rfl (Sees.of_eq (by unfold leastL; rw [if_pos (by simpa using h1)]))
  have h1' : (reqE n q).2 = 0 := by simpa using h1
  refine Wk ?_
  refine BrK.mk (fun h2 => ?_) (fun h2 => ?_) <;> (try rw [h2])
  · refine Wk ?_
    exact resP.mk rfl (Sees.of_eq (by unfold leastL; rw [if_neg (by omega), if_pos (.inl (by simpa using h2))]))
  refine Wk ?_
  refine BrK.mk (fun h3 => ?_) (fun h3 => ?_) <;> (try rw [h3])
  · refine Wk ?_
    exact resP.mk rfl (Sees.of_eq (by unfold leastL; rw [if_neg (by omega), if_pos (.inr (by simpa using h3))]))
  have e2 : ¬ (offs < 1 ∨ 16 < offs) := by simp at h2 h3; omega
  refine Wk ?_
  refine LoopK.born 10 6 74 rfl ?_
  refine LoopK.run mixed [] (fun (k : Nat) => k ≤ q.length) (fun k => [(1, encReqs q), (2, .int .i64 offs), (3, .ptr 0 0), (10, .own ((flowsQ (q.take k)).map Flow.av) 0), (33, encReqs q), (34, .int .i64 q.length), (35, .int .i64 k)]) (fun k => ⟨[.cells n.cs 26], [((flowsQ (q.take k)).length, 6)], 0, 0, fun k => if k = 0 then 74 else 0⟩) (fun k => q.length - k) 0 (by simp) ?_ ?_
  · refine Fits.mk' rfl rfl rfl rfl ?_ ?_ ?_ ?_ ?_ <;> repeat' (first | exact trivial | refine And.intro ?_ ?_ | exact Sees.of_eq rfl | exact lt_b rfl | rfl | exact Sees.int (by simp) | exact SeesL.rfl' _)
  rintro k hk
  have hfl : (flowsQ (q.take k)).length = k := by simp [flowsQ]; omega
  refine Wk ?_
  refine BrK.mk (fun hb => ?_) (fun hb => ?_) <;> (try rw [hb])
  · have hlt : k < q.length := by simpa using hb
    obtain ⟨x, hgx⟩ := getLt hlt
    have hmx := getMap (f := Req.av) hgx
    have hfs : flowsQ (q.take (k + 1)) = flowsQ (q.take k) ++ [x.flow] := by rw [take_succ hgx]; simp [flowsQ]
    repeat ((conv => whnf); first | refine sJ ?_ | refine And.intro (by first | exact inbMap hlt | exact Els.map (f := Flow.av) (fun _ => ⟨rfl, rfl⟩) | exact (show _ * 48 ≤ _ by simp only [List.length_map, List.length_append, List.length_cons, List.length_nil]; omega) | exact (by simp only [List.length_map, List.length_append, List.length_cons, List.length_nil, maxLen]; omega) | exact (show some (_, _) = some (_, _) by simp only [List.length_map]) | kernel_rfl) ?_ | rw [hmx])
    try (conv => whnf)
    refine ⟨k + 1, by omega, by omega, ?_⟩
    rw [hfs]
    refine Fits.mk' rfl rfl rfl rfl ?_ ?_ ?_ ?_ ?_ <;> repeat' (first | exact trivial | refine And.intro ?_ ?_ | exact Sees.of_eq rfl | exact lt_b rfl | rfl | exact Sees.int (succI hlt (by omega)) | exact Sees.own (by simp; rfl) | (show (_, _) = (_, _); simp only [List.length_append, List.length_map, List.length_cons, List.length_nil]) | exact SeesL.rfl' _)
  have hk' : k = q.length := by simp at hb; omega
  subst hk'
  rw [List.take_length]
  clear hk hb hfl
  refine Wk ?_
  first | refine CallK.data rfl (c_Hyper L (flowsQ q) (by simp [flowsQ]; omega)) rfl ?_ | refine CallP.data rfl (c_Hyper L (flowsQ q) (by simp [flowsQ]; omega)) rfl ?_
  by_cases hh : (hyperM (flowsQ q)).2 = 0
  rotate_left
  · have g : ((hyperM (flowsQ q)).2 != 0) = true := by simpa using hh
    repeat ((conv => whnf); first | refine sJ ?_ | refine And.intro (by first | exact trivial | kernel_rfl) ?_ | rw [g])
    try (conv => whnf)
    exact resP.mk rfl (Sees.of_eq (by unfold leastL; rw [if_neg (by omega), if_neg e2, if_pos hh]))
  obtain ⟨hM, hle, hp1⟩ := hyperM_ok hh
  rw [hM]
  obtain ⟨h, hhd⟩ : ∃ h, h = hyp (flowsQ q) := ⟨_, rfl⟩
  rw [← hhd] at hle hp1 ⊢
  have hit := fun (k : Nat) => leastL_hit (k := k) h1' e2 hh
  have hno := fun (k : Nat) => leastL_no (k := k) h1' e2 hh
  rw [← hhd] at hit hno
  refine Wk ?_
  refine LoopK.run mixed [] (fun (k : Nat) => h * k ≤ 512 ∧ ∀ j, j < k → freeAt n q offs h j = none) (fun k => [(1, encReqs q), (2, .int .i64 offs), (3, .ptr 0 0), (13, .int .i64 h), (15, .int .i64 (h * (k + 1) : Nat))]) (fun _ => ⟨[.cells n.cs 26], [], 0, 0, fun _ => 0⟩) (fun k => 513 - h * k) 0 ⟨by simp, fun j hj => by omega⟩ ?_ ?_
  · refine Fits.mk' rfl rfl rfl rfl ?_ ?_ ?_ ?_ ?_ <;> repeat' (first | exact trivial | refine And.intro ?_ ?_ | exact Sees.of_eq rfl | exact lt_b rfl | rfl | exact SeesL.rfl' _ | exact Sees.int (by simp))
  rintro k ⟨hk, hinv⟩
  have hmul : h * (k + 1) = h * k + h := Nat.mul_succ h k
  have hmul2 : h * (k + 1 + 1) = h * (k + 1) + h := Nat.mul_succ h (k + 1)
  obtain ⟨z, hz⟩ : ∃ z, z = h * (k + 1) := ⟨_, rfl⟩
  rw [← hz] at hmul hmul2
  have hit := hit k
  have hno := hno k
  rw [← hz] at hit hno
  rw [← hz]
  refine Wk ?_
  refine BrK.mk (fun hb => ?_) (fun hb => ?_) <;> (try rw [hb])
  · have hz5 : z ≤ 512 := by have := of_decide_eq_true hb; omega
    have hfa : (reasonG n q z offs).2.1 = true → freeAt n q offs h k = none := fun h5 => by unfold freeAt; rw [← hz, h5]; rfl
    refine Wk ?_
    first | refine CallK.data rfl (c_ReasonG L n hn q hq hx z offs) rfl ?_ | refine CallP.data rfl (c_ReasonG L n hn q hq hx z offs) rfl ?_
    cases hr : (reasonG n q z offs).2.1 with
    | false =>
      refine Wk ?_
      exact resP.mk rfl (Sees.of_eq (by rw [hit hz5 hinv hr]))
    | true =>
      refine Wk ?_
      refine ⟨k + 1, ⟨by rw [← hz]; exact hz5, fun j hj => ?_⟩, by rw [← hz]; omega, ?_⟩
      · rcases Nat.lt_succ_iff_lt_or_eq.1 hj with h' | rfl
        · exact hinv j h'
        · exact hfa hr
      · rw [hmul2]
        refine Fits.mk' rfl rfl rfl rfl ?_ ?_ ?_ ?_ ?_ <;> repeat' (first | exact trivial | refine And.intro ?_ ?_ | exact Sees.of_eq rfl | exact lt_b rfl | rfl | exact SeesL.rfl' _ | exact Sees.int (by rw [w64] <;> omega))
  · have hz5 : ¬ z ≤ 512 := by have := of_decide_eq_false hb; omega
    refine Wk ?_
    exact resP.mk rfl (Sees.of_eq (by rw [hno hz5 hinv]))

set_option maxHeartbeats 4000000 in
theorem c_Least39 (n : Net) (hn : n.small) (q : List Req) (hq : q.length ≤ 1099511627776) (hx : ∀ x ∈ q, x.small) (offs : Int) : PCall Tryz.prog L 31 [n.av, encReqs q, .int .i64 offs] (.tup [.int .i64 (leastL n q offs).1, .int .i64 (leastL n q offs).2]) := by
  refine PCall.intro mixed [] (nt := 53) Tryz.func31 rfl rfl (by simp) ?_
  refine Wk ?_
  first | refine CallK.data rfl (c_Fault38 L n hn q hq hx) rfl ?_ | refine CallP.data rfl (c_Fault38 L n hn q hq hx) rfl ?_
  refine Wk ?_
  refine BrK.mk (fun h1 => ?_) (fun h1 => ?_) <;> (try rw [h1])
  · refine Wk ?_
    exact resP.mk rfl (Sees.of_eq (by unfold leastL; rw [if_pos (by simpa using h1)]))
  have h1' : (reqE n q).2 = 0 := by simpa using h1
  refine Wk ?_
  first | refine CallK.data rfl (c_in39 L offs 1 16) rfl ?_ | refine CallP.data rfl (c_in39 L offs 1 16) rfl ?_
  refine Wk ?_
  refine BrK.mk (fun h2 => ?_) (fun h2 => ?_) <;> (try rw [h2])
  · refine Wk ?_
    exact resP.mk rfl (Sees.of_eq (by unfold leastL; rw [if_neg (by omega), if_pos (by simp [inB] at h2; omega)]))
  have e2 : ¬ (offs < 1 ∨ 16 < offs) := by simp [inB] at h2; omega
  refine Wk ?_
  first | refine CallK.data rfl (c_Flows38 L q hq) rfl ?_ | refine CallP.data rfl (c_Flows38 L q hq) rfl ?_
  refine Wk ?_
  first | refine CallK.data rfl (c_Hyper32 L (flowsQ q) (by simp [flowsQ]; omega)) rfl ?_ | refine CallP.data rfl (c_Hyper32 L (flowsQ q) (by simp [flowsQ]; omega)) rfl ?_
  by_cases hh : (hyperM (flowsQ q)).2 = 0
  rotate_left
  · have g : ((hyperM (flowsQ q)).2 != 0) = true := by simpa using hh
    repeat ((conv => whnf); first | refine sJ ?_ | refine And.intro (by first | exact trivial | kernel_rfl) ?_ | rw [g])
    try (conv => whnf)
    exact resP.mk rfl (Sees.of_eq (by unfold leastL; rw [if_neg (by omega), if_neg e2, if_pos hh]))
  obtain ⟨hM, hle, hp1⟩ := hyperM_ok hh
  rw [hM]
  obtain ⟨h, hhd⟩ : ∃ h, h = hyp (flowsQ q) := ⟨_, rfl⟩
  rw [← hhd] at hle hp1 ⊢
  have hit := fun (k : Nat) => leastL_hit (k := k) h1' e2 hh
  have hno := fun (k : Nat) => leastL_no (k := k) h1' e2 hh
  rw [← hhd] at hit hno
  refine Wk ?_
  refine LoopK.run mixed [] (fun (k : Nat) => h * k ≤ 512 ∧ ∀ j, j < k → freeAt n q offs h j = none) (fun k => [(1, encReqs q), (2, .int .i64 offs), (3, .ptr 0 0), (10, .int .i64 h), (12, .int .i64 (h * (k + 1) : Nat))]) (fun _ => ⟨[.cells n.cs 26], [], 0, 0, fun _ => 0⟩) (fun k => 513 - h * k) 0 ⟨by simp, fun j hj => by omega⟩ ?_ ?_
  · refine Fits.mk' rfl rfl rfl rfl ?_ ?_ ?_ ?_ ?_ <;> repeat' (first | exact trivial | refine And.intro ?_ ?_ | exact Sees.of_eq rfl | exact lt_b rfl | rfl | exact SeesL.rfl' _ | exact Sees.int (by simp))
  rintro k ⟨hk, hinv⟩
  have hmul : h * (k + 1) = h * k + h := Nat.mul_succ h k
  have hmul2 : h * (k + 1 + 1) = h * (k + 1) + h := Nat.mul_succ h (k + 1)
  obtain ⟨z, hz⟩ : ∃ z, z = h * (k + 1) := ⟨_, rfl⟩
  rw [← hz] at hmul hmul2
  have hit := hit k
  have hno := hno k
  rw [← hz] at hit hno
  rw [← hz]
  refine Wk ?_
  refine BrK.mk (fun hb => ?_) (fun hb => ?_) <;> (try rw [hb])
  · have hz5 : z ≤ 512 := by have := of_decide_eq_true hb; omega
    have hfa : (reasonG n q z offs).2.1 = true → freeAt n q offs h k = none := fun h5 => by unfold freeAt; rw [← hz, h5]; rfl
    refine Wk ?_
    first | refine CallK.data rfl (c_Reason39 L n hn q hq hx z offs) rfl ?_ | refine CallP.data rfl (c_Reason39 L n hn q hq hx z offs) rfl ?_
    cases hr : (reasonG n q z offs).2.1 with
    | false =>
      refine Wk ?_
      exact resP.mk rfl (Sees.of_eq (by rw [hit hz5 hinv hr]))
    | true =>
      refine Wk ?_
      refine ⟨k + 1, ⟨by rw [← hz]; exact hz5, fun j hj => ?_⟩, by rw [← hz]; omega, ?_⟩
      · rcases Nat.lt_succ_iff_lt_or_eq.1 hj with h' | rfl
        · exact hinv j h'
        · exact hfa hr
      · rw [hmul2]
        refine Fits.mk' rfl rfl rfl rfl ?_ ?_ ?_ ?_ ?_ <;> repeat' (first | exact trivial | refine And.intro ?_ ?_ | exact Sees.of_eq rfl | exact lt_b rfl | rfl | exact SeesL.rfl' _ | exact Sees.int (by rw [w64] <;> omega))
  · have hz5 : ¬ z ≤ 512 := by have := of_decide_eq_false hb; omega
    refine Wk ?_
    exact resP.mk rfl (Sees.of_eq (by rw [hno hz5 hinv]))
end
end HM
