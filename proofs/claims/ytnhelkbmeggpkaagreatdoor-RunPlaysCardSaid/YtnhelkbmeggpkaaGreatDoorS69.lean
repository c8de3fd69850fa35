/- Scripts: the definition of Check; the guard. -/
import Derived.Test.YtnhelkbmeggpkaaGreatDoorS68

set_option maxRecDepth 100000
namespace HM
open Go Go.RowKit Go.Proofs
section
variable (L : World → Prop)

def inB36 (n a b : Int) : Bool := decide (a ≤ n) && decide (n ≤ b)
theorem c_in36 (n a b : Int) : PCall Tryz.prog L 55 [.int .i64 n, .int .i64 a, .int .i64 b] (.bool (inB36 n a b)) := by
  refine PCall.intro mixed [] (nt := 15) Tryz.func55 rfl rfl (by simp) ?_
  refine Wk ?_
  refine BrK.mk (fun h => ?_) (fun h => ?_) <;> (try rw [h])
  · refine Wk ?_
    exact resP.mk rfl (Sees.bool (by simp [inB36, of_decide_eq_true h]))
  · refine Wk ?_
    exact resP.mk rfl (Sees.bool (by simp [inB36, of_decide_eq_false h]))
theorem badO_in (o : Int) : inB36 o 1 3 = !(badO o) := by
  unfold inB36 badO
  rw [Bool.eq_iff_iff]
  simp

set_option maxHeartbeats 2000000 in
theorem c_rule36 (r : Rule) (hr : r.outs.length ≤ 281474976710656) : PCall Tryz.prog L 137 [r.av] (.bool (ruleB r)) := by
  refine PCall.intro mixed [] (nt := 42) Tryz.func137 rfl rfl (by simp) ?_
  refine Wk ?_
  refine LoopK.run mixed [] (fun (k : Nat) => k ≤ r.outs.length ∧ ∀ j y, j < k → r.outs[j]? = some y → badO y = false) (fun k => [(1, .ptr 0 0), (3, .int .i64 k)]) (fun k => ⟨[.cells [.int .i64 r.flow, .int .i64 r.src, .int .i64 r.dst, .int .i64 r.frame, encIs r.outs] 124], [], 0, 0, fun _ => 0⟩) (fun k => r.outs.length - k) 0 ⟨by simp, by simp⟩ ?_ ?_
  · refine Fits.mk' rfl rfl rfl rfl ?_ ?_ ?_ ?_ ?_ <;> repeat' (first | exact trivial | refine And.intro ?_ ?_ | exact Sees.of_eq rfl | exact lt_b rfl | rfl | exact SeesL.rfl' _)
  rintro k ⟨hk, hinv⟩
  refine Wk ?_
  refine BrK.mk (fun hb => ?_) (fun hb => ?_) <;> (try rw [hb])
  · have hlt : k < r.outs.length := by simpa using hb
    obtain ⟨y, hgy⟩ := getLt hlt
    have hmy := getMap (f := encI) hgy
    repeat ((conv => whnf); first | refine sJ ?_ | refine And.intro (by first | exact inbMap hlt | kernel_rfl) ?_ | rw [hmy])
    try (conv => whnf)
    first | refine CallK.data rfl (c_in36 L y 1 3) rfl ?_ | refine CallP.data rfl (c_in36 L y 1 3) rfl ?_
    rw [badO_in]
    refine Wk ?_
    refine BrK.mk (fun h1 => ?_) (fun h1 => ?_) <;> (try rw [h1])
    · have h1' : badO y = true := by simpa using h1
      have hany : r.outs.any badO = true := List.any_eq_true.2 ⟨y, List.mem_of_getElem? hgy, h1'⟩
      refine Wk ?_
      exact resP.mk rfl (Sees.bool (by rw [ruleB, hany]; simp))
    · have h1' : badO y = false := by simpa using h1
      refine Wk ?_
      refine ⟨k + 1, ⟨by omega, fun j z hj hz => ?_⟩, by omega, ?_⟩
      · rcases Nat.lt_succ_iff_lt_or_eq.1 hj with h | rfl
        · exact hinv j z h hz
        · rw [hgy] at hz; injection hz with hz; subst hz; exact h1'
      · refine Fits.mk' rfl rfl rfl rfl ?_ ?_ ?_ ?_ ?_ <;> repeat' (first | exact trivial | refine And.intro ?_ ?_ | exact Sees.of_eq rfl | exact lt_b rfl | rfl | exact SeesL.rfl' _ | exact Sees.int (succI hlt hr))
  · have hany : r.outs.any badO = false := by
      rw [List.any_eq_false]
      intro z hz
      obtain ⟨j, hj⟩ := List.getElem?_of_mem hz
      have hk' : r.outs.length ≤ k := by simpa using hb
      have := hinv j z (by have := (List.getElem?_eq_some_iff.1 hj).1; omega) hj
      simp [this]
    have hrB : ruleB r = (inB36 r.flow 0 255 && inB36 r.frame 0 1048576 && inB36 r.src 0 31 && inB36 r.dst 0 31 && inB36 r.outs.length 1 16) := by
      unfold ruleB rangeB inB36
      rw [hany]
      simp [Bool.and_assoc]
    rw [hrB]
    refine Wk ?_
    first | refine CallK.data rfl (c_in36 L _ _ _) rfl ?_ | refine CallP.data rfl (c_in36 L _ _ _) rfl ?_
    refine Wk ?_
    refine BrK.mk (fun h1 => ?_) (fun h1 => ?_) <;> (try rw [h1])
    · refine Wk ?_
      first | refine CallK.data rfl (c_in36 L _ _ _) rfl ?_ | refine CallP.data rfl (c_in36 L _ _ _) rfl ?_
      refine Wk ?_
      refine BrK.mk (fun h2 => ?_) (fun h2 => ?_) <;> (try rw [h2])
      · refine Wk ?_
        first | refine CallK.data rfl (c_in36 L _ _ _) rfl ?_ | refine CallP.data rfl (c_in36 L _ _ _) rfl ?_
        refine Wk ?_
        refine BrK.mk (fun h3 => ?_) (fun h3 => ?_) <;> (try rw [h3])
        · refine Wk ?_
          first | refine CallK.data rfl (c_in36 L _ _ _) rfl ?_ | refine CallP.data rfl (c_in36 L _ _ _) rfl ?_
          refine Wk ?_
          refine BrK.mk (fun h4 => ?_) (fun h4 => ?_) <;> (try rw [h4])
          · refine Wk ?_
            first | refine CallK.data rfl (c_in36 L _ _ _) rfl ?_ | refine CallP.data rfl (c_in36 L _ _ _) rfl ?_
            refine Wk ?_
            exact resP.mk rfl (Sees.bool (by simp [h1, h2, h3, h4, encI]))
          · refine Wk ?_
            exact resP.mk rfl (Sees.bool (by simp [h4]))
        · refine Wk ?_
          exact resP.mk rfl (Sees.bool (by simp [h3]))
      · refine Wk ?_
        exact resP.mk rfl (Sees.bool (by simp [h2]))
    · refine Wk ?_
      exact resP.mk rfl (Sees.bool (by simp [h1]))

theorem c_before36 (a b : Rule) : PCall Tryz.prog L 92 [a.av, b.av] (.bool (decide (a.cmp b < 0))) := by
  have key : decide (a.cmp b < 0) = if a.flow ≠ b.flow then decide (a.flow < b.flow) else if a.frame ≠ b.frame then decide (a.frame < b.frame) else if a.src ≠ b.src then decide (a.src < b.src) else decide (a.dst < b.dst) := by
    unfold Rule.cmp Rule.key
    simp only [cmpL, cmpI_eq]
    by_cases h1 : a.flow = b.flow
    · simp only [h1, if_true, ne_eq, not_true_eq_false, if_false]
      by_cases h2 : a.frame = b.frame
      · simp only [h2, if_true, ne_eq, not_true_eq_false, if_false]
        by_cases h3 : a.src = b.src
        · simp only [h3, if_true, ne_eq, not_true_eq_false, if_false]
          by_cases h4 : a.dst = b.dst
          · simp [h4]
          · simp [h4, cmpI_lt]
        · simp [h3, cmpI_lt]
      · simp [h2, cmpI_lt]
    · simp [h1, cmpI_lt]
  rw [key]
  refine PCall.intro mixed [] (nt := 40) Tryz.func92 rfl rfl (by simp) ?_
  refine Wk ?_
  refine BrK.mk (fun h1 => ?_) (fun h1 => ?_) <;> (try rw [h1])
  · refine Wk ?_
    exact resP.mk rfl (Sees.bool (by rw [if_pos (by simpa using h1)]))
  · rw [if_neg (by simpa using h1)]
    refine Wk ?_
    refine BrK.mk (fun h2 => ?_) (fun h2 => ?_) <;> (try rw [h2])
    · refine Wk ?_
      exact resP.mk rfl (Sees.bool (by rw [if_pos (by simpa using h2)]))
    · rw [if_neg (by simpa using h2)]
      refine Wk ?_
      refine BrK.mk (fun h3 => ?_) (fun h3 => ?_) <;> (try rw [h3])
      · refine Wk ?_
        exact resP.mk rfl (Sees.bool (by rw [if_pos (by simpa using h3)]))
      · rw [if_neg (by simpa using h3)]
        refine Wk ?_
        exact resP.mk rfl (Sees.bool rfl)

set_option maxHeartbeats 2000000 in
theorem c_Check36 (x : List Rule) (hx : ∀ r ∈ x, r.outs.length ≤ 281474976710656) (hl : x.length ≤ 281474976710656) : PCall Tryz.prog L 96 [encScript x] (.tup [.int .i64 (scriptM x).1, .int .i64 (scriptM x).2]) := by
  refine PCall.intro mixed [] (nt := 37) Tryz.func96 rfl rfl (by simp) ?_
  refine Wk ?_
  refine BrK.mk (fun h0 => ?_) (fun h0 => ?_) <;> (try rw [h0])
  · refine Wk ?_
    exact resP.mk rfl (Sees.of_eq (by rw [scriptM, if_pos (by simp at h0; omega)]))
  have h0' : ¬ 1024 < x.length := by simp at h0; omega
  refine Wk ?_
  refine LoopK.run mixed [] (fun (k : Nat) => k ≤ x.length ∧ ∀ j y, j < k → x[j]? = some y → ruleF x j y = 0) (fun k => [(0, encScript x), (4, .int .i64 k)]) (fun k => St.none) (fun k => x.length - k) 0 ⟨by simp, by simp⟩ ?_ ?_
  · refine Fits.mk' rfl rfl rfl rfl ?_ ?_ ?_ ?_ ?_ <;> repeat' (first | exact trivial | refine And.intro ?_ ?_ | exact Sees.of_eq rfl | exact lt_b rfl | rfl | exact Sees.int (by simp))
  rintro k ⟨hk, hinv⟩
  refine Wk ?_
  refine BrK.mk (fun hb => ?_) (fun hb => ?_) <;> (try rw [hb])
  · have hlt : k < x.length := by simpa using hb
    obtain ⟨r, hgx⟩ := getLt hlt
    have hmx := getMap (f := Rule.av) hgx
    have hstep : ruleF x k r = 0 → ∀ j y, j < k + 1 → x[j]? = some y → ruleF x j y = 0 := fun h0 j y hj hy => by
      rcases Nat.lt_succ_iff_lt_or_eq.1 hj with h | rfl
      · exact hinv j y h hy
      · rw [hgx] at hy; injection hy with hy; subst hy; exact h0
    repeat ((conv => whnf); first | refine sJ ?_ | refine And.intro (by first | exact inbMap hlt | kernel_rfl) ?_ | rw [hmx])
    try (conv => whnf)
    first | refine CallK.data rfl (c_rule36 L r (hx r (List.mem_of_getElem? hgx))) rfl ?_ | refine CallP.data rfl (c_rule36 L r (hx r (List.mem_of_getElem? hgx))) rfl ?_
    refine Wk ?_
    refine BrK.mk (fun h1 => ?_) (fun h1 => ?_) <;> (try rw [h1])
    · have h1' : ruleB r = false := by simpa using h1
      have hf : ruleF x k r = 2 := by rw [ruleF, if_pos h1']
      refine Wk ?_
      exact resP.mk rfl (Sees.of_eq (by rw [scriptM_hit h0' hgx hinv (by rw [hf]; decide), hf]))
    have h1' : ruleB r = true := by simpa using h1
    refine Wk ?_
    refine BrK.mk (fun h2 => ?_) (fun h2 => ?_) <;> (try rw [h2])
    · have hk0 : 0 < k := by simpa using h2
      obtain ⟨j, rfl⟩ : ∃ j, k = j + 1 := ⟨k - 1, by omega⟩
      obtain ⟨p, hgp⟩ := getLt (l := x) (k := j) (by omega)
      have hmp := getMap (f := Rule.av) hgp
      have hw : IntKind.i64.wrap (((j + 1 : Nat) : Int) - 1) = (j : Int) := by rw [w64] <;> omega
      repeat ((conv => whnf); first | refine sJ ?_ | refine And.intro (by first | (rw [hw]; exact inbMap (by omega)) | exact inbMap hlt | kernel_rfl) ?_ | rw [hw] | rw [hmp] | rw [hmx])
      try (conv => whnf)
      first | refine CallK.data rfl (c_before36 L p r) rfl ?_ | refine CallP.data rfl (c_before36 L p r) rfl ?_
      refine Wk ?_
      refine BrK.mk (fun h3 => ?_) (fun h3 => ?_) <;> (try rw [h3])
      · have hf : ruleF x (j + 1) r = 5 := by
          rw [ruleF, if_neg (by simp [h1']), if_pos]
          simp only [ruleO, hgp]
          simpa using h3
        refine Wk ?_
        exact resP.mk rfl (Sees.of_eq (by rw [scriptM_hit h0' hgx hinv (by rw [hf]; decide), hf]))
      · have hf : ruleF x (j + 1) r = 0 := by
          rw [ruleF, if_neg (by simp [h1']), if_neg]
          simp only [ruleO, hgp]
          simpa using h3
        refine Wk ?_
        refine ⟨j + 1 + 1, ⟨by omega, hstep hf⟩, by omega, ?_⟩
        refine Fits.mk' rfl rfl rfl rfl ?_ ?_ ?_ ?_ ?_ <;> repeat' (first | exact trivial | refine And.intro ?_ ?_ | exact Sees.of_eq rfl | exact lt_b rfl | rfl | exact Sees.int (succI hlt hl))
    · have hk0 : k = 0 := by simp at h2; omega
      subst hk0
      have hf : ruleF x 0 r = 0 := by
        rw [ruleF, if_neg (by simp [h1']), if_neg]
        simp [ruleO]
      refine Wk ?_
      refine ⟨0 + 1, ⟨by omega, hstep hf⟩, by omega, ?_⟩
      refine Fits.mk' rfl rfl rfl rfl ?_ ?_ ?_ ?_ ?_ <;> repeat' (first | exact trivial | refine And.intro ?_ ?_ | exact Sees.of_eq rfl | exact lt_b rfl | rfl | exact Sees.int (succI hlt hl))
  · have hk' : k = x.length := by simp at hb; omega
    subst hk'
    refine Wk ?_
    exact resP.mk rfl (Sees.of_eq (by rw [scriptM_ok h0' fun j y hy => hinv j y (List.getElem?_eq_some_iff.1 hy).1 hy]))

def few36 (f c g x : Nat) (slots : Int) : Bool := decide ((f : Int) ≤ 16) && (decide ((c : Int) ≤ 24) && (decide ((g : Int) ≤ 16) && (decide ((x : Int) ≤ 40) && (decide (slots ≤ 100) || decide (4096 < slots)))))
theorem c_Few36 (l : List Flow) (s : Sched) (cs : List AV) (x : List Rule) (slots : Int) : PCall Tryz.prog L 11 [encFlows l, s.av, .sl false cs, encScript x, .int .i64 slots] (.bool (few36 l.length s.cells.length cs.length x.length slots)) := by
  refine PCall.intro mixed [] (nt := 38) Tryz.func11 rfl rfl (by simp) ?_
  refine Wk ?_
  repeat' ((conv => whnf); first | refine sJ ?_ | refine And.intro (by first  | kernel_rfl) ?_  | (refine BrK.mk (fun hb => ?_) (fun hb => ?_) <;> (try rw [hb])))
  all_goals try (conv => whnf)
  all_goals exact resP.mk rfl (Sees.bool (by first | (simp_all [few36]; done) | (simp_all [few36]; omega)))
end
end HM
