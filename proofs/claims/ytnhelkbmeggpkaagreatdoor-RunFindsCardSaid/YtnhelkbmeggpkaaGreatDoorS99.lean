/- Where two runs differ: the program and the reference. -/
import Derived.Test.YtnhelkbmeggpkaaGreatDoorS72
import Derived.Test.YtnhelkbmeggpkaaGreatDoorDb

set_option maxRecDepth 100000
namespace HM
open Go Go.RowKit Go.Proofs
section
variable (L : World → Prop)

theorem c_EqDel (a b : List Del) (ha : a.length ≤ 281474976710656) : PCall Tryz.prog L 63 [encDels a, encDels b] (.bool (decide (a = b))) := by
  refine PCall.intro mixed [] (nt := 26) Tryz.func63 rfl rfl (by simp) ?_
  refine Wk ?_
  refine BrK.mk (fun h1 => ?_) (fun h1 => ?_) <;> (try rw [h1])
  · have hne : a.length ≠ b.length := by simp at h1; omega
    refine Wk ?_
    exact resP.mk rfl (Sees.bool (by rw [decide_eq_false (fun h => hne (by rw [h]))]))
  have hl : a.length = b.length := by simp at h1; omega
  refine Wk ?_
  refine LoopK.run mixed [] (fun (k : Nat) => k ≤ a.length ∧ ∀ (j : Nat) x y, j < k → a[j]? = some x → b[j]? = some y → x = y) (fun k => [(0, encDels a), (1, encDels b), (12, .int .i64 a.length), (13, .int .i64 k)]) (fun k => St.none) (fun k => a.length - k) 0 ⟨by simp, by simp⟩ ?_ ?_
  · refine Fits.mk' rfl rfl rfl rfl ?_ ?_ ?_ ?_ ?_ <;> repeat' (first | exact trivial | refine And.intro ?_ ?_ | exact Sees.of_eq rfl | exact lt_b rfl | rfl | exact Sees.int (by simp))
  rintro k ⟨hk, hinv⟩
  refine Wk ?_
  refine BrK.mk (fun hb => ?_) (fun hb => ?_) <;> (try rw [hb])
  · have hkt : k < a.length := by simpa using hb
    obtain ⟨x, hgx⟩ := getLt hkt
    obtain ⟨y, hgy⟩ := getLt (l := b) (k := k) (by omega)
    have hmx := getMap (f := Del.av) hgx
    have hmy := getMap (f := Del.av) hgy
    repeat ((conv => whnf); first | refine sJ ?_ | refine And.intro (by first | exact inbMap hkt | exact inbMap (by omega : k < b.length) | kernel_rfl) ?_ | rw [hmx] | rw [hmy])
    try (conv => whnf)
    refine BrK.mk (fun h2 => ?_) (fun h2 => ?_) <;> (try rw [h2])
    · have h2' : (!delEqB x y) = true := h2
      have hne : decide (a = b) = false := decide_eq_false fun h => by
        subst h
        rw [hgx] at hgy
        injection hgy with hgy
        rw [delEqB_iff.2 hgy] at h2'
        cases h2'
      refine Wk ?_
      exact resP.mk rfl (Sees.bool (by rw [hne]))
    · have h2' : (!delEqB x y) = false := h2
      have hxy : x = y := delEqB_iff.1 (by simpa using h2')
      refine Wk ?_
      refine ⟨k + 1, ⟨by omega, fun j x' y' hj hx' hy' => ?_⟩, by omega, ?_⟩
      · rcases Nat.lt_succ_iff_lt_or_eq.1 hj with h | rfl
        · exact hinv j x' y' h hx' hy'
        · rw [hgx] at hx'; rw [hgy] at hy'; injection hx' with hx'; injection hy' with hy'; rw [← hx', ← hy', hxy]
      · refine Fits.mk' rfl rfl rfl rfl ?_ ?_ ?_ ?_ ?_ <;> repeat' (first | exact trivial | refine And.intro ?_ ?_ | exact Sees.of_eq rfl | exact lt_b rfl | rfl | exact Sees.int (succI hkt ha))
  · have hkn : k = a.length := by simp at hb; omega
    subst hkn
    refine Wk ?_
    exact resP.mk rfl (Sees.bool (by rw [decide_eq_true (eq_of_at hl hinv)]))

theorem c_SameDel36 (a b : List Del) (ha : a.length ≤ 281474976710656) : PCall Tryz.prog L 24 [encDels a, encDels b] (.bool (decide (a = b))) := by
  refine PCall.intro mixed [] (nt := 26) Tryz.func24 rfl rfl (by simp) ?_
  refine Wk ?_
  refine BrK.mk (fun h1 => ?_) (fun h1 => ?_) <;> (try rw [h1])
  · have hne : a.length ≠ b.length := by simp at h1; omega
    refine Wk ?_
    exact resP.mk rfl (Sees.bool (by rw [decide_eq_false (fun h => hne (by rw [h]))]))
  have hl : a.length = b.length := by simp at h1; omega
  refine Wk ?_
  refine LoopK.run mixed [] (fun (k : Nat) => k ≤ a.length ∧ ∀ (j : Nat) x y, j < k → a[j]? = some x → b[j]? = some y → x = y) (fun k => [(0, encDels a), (1, encDels b), (5, .int .i64 k)]) (fun k => St.none) (fun k => a.length - k) 0 ⟨by simp, by simp⟩ ?_ ?_
  · refine Fits.mk' rfl rfl rfl rfl ?_ ?_ ?_ ?_ ?_ <;> repeat' (first | exact trivial | refine And.intro ?_ ?_ | exact Sees.of_eq rfl | exact lt_b rfl | rfl | exact Sees.int (by simp))
  rintro k ⟨hk, hinv⟩
  refine Wk ?_
  refine BrK.mk (fun hb => ?_) (fun hb => ?_) <;> (try rw [hb])
  · have hkt : k < a.length := by simpa using hb
    obtain ⟨x, hgx⟩ := getLt hkt
    obtain ⟨y, hgy⟩ := getLt (l := b) (k := k) (by omega)
    have hmx := getMap (f := Del.av) hgx
    have hmy := getMap (f := Del.av) hgy
    repeat ((conv => whnf); first | refine sJ ?_ | refine And.intro (by first | exact inbMap hkt | exact inbMap (by omega : k < b.length) | kernel_rfl) ?_ | rw [hmx] | rw [hmy])
    try (conv => whnf)
    refine BrK.mk (fun h2 => ?_) (fun h2 => ?_) <;> (try rw [h2])
    · have h2' : (!delEqB x y) = true := h2
      have hne : decide (a = b) = false := decide_eq_false fun h => by
        subst h
        rw [hgx] at hgy
        injection hgy with hgy
        rw [delEqB_iff.2 hgy] at h2'
        cases h2'
      refine Wk ?_
      exact resP.mk rfl (Sees.bool (by rw [hne]))
    · have h2' : (!delEqB x y) = false := h2
      have hxy : x = y := delEqB_iff.1 (by simpa using h2')
      refine Wk ?_
      refine ⟨k + 1, ⟨by omega, fun j x' y' hj hx' hy' => ?_⟩, by omega, ?_⟩
      · rcases Nat.lt_succ_iff_lt_or_eq.1 hj with h | rfl
        · exact hinv j x' y' h hx' hy'
        · rw [hgx] at hx'; rw [hgy] at hy'; injection hx' with hx'; injection hy' with hy'; rw [← hx', ← hy', hxy]
      · refine Fits.mk' rfl rfl rfl rfl ?_ ?_ ?_ ?_ ?_ <;> repeat' (first | exact trivial | refine And.intro ?_ ?_ | exact Sees.of_eq rfl | exact lt_b rfl | rfl | exact Sees.int (succI hkt ha))
  · have hkn : k = a.length := by simp at hb; omega
    subst hkn
    refine Wk ?_
    exact resP.mk rfl (Sees.bool (by rw [decide_eq_true (eq_of_at hl hinv)]))

theorem eqT_att (x y : Att) (xs ys : List AV) (hx : xs = x.av.cells) (hy : ys = y.av.cells) : eqT Tryz.prog 4 53 xs ys = some (attEqB x y) := by
  subst hx; subst hy
  kernel_rfl

theorem c_Same (a b : RunL) (ha : a.atts.length ≤ 281474976710656) (hb : b.atts.length ≤ 281474976710656) (had : a.dels.length ≤ 281474976710656) : PCall Tryz.prog L 25 [a.av, b.av] (.int .i64 (sameM a b)) := by
  refine PCall.intro mixed [] (nt := 52) Tryz.func25 rfl rfl (by simp) ?_
  refine Wk ?_
  rw [show (if ((b.atts.map Att.av).length : Int) > ((a.atts.map Att.av).length : Int) then ((b.atts.map Att.av).length : Int) else ((a.atts.map Att.av).length : Int)) = ((max a.atts.length b.atts.length : Nat) : Int) from by simp only [List.length_map]; split <;> omega]
  refine LoopK.run mixed [] (fun (k : Nat) => k ≤ max a.atts.length b.atts.length ∧ ∀ j, j < k → diffAt a.atts b.atts j = false) (fun k => [(2, .ptr 0 0), (3, .ptr 1 0), (12, .int .i64 (max a.atts.length b.atts.length : Nat)), (13, .int .i64 k)]) (fun k => ⟨[.cells [encAtts a.atts, encDels a.dels] 41, .cells [encAtts b.atts, encDels b.dels] 41], [], 0, 0, fun _ => 0⟩) (fun k => max a.atts.length b.atts.length - k) 0 ⟨by simp, by simp⟩ ?_ ?_
  · refine Fits.mk' rfl rfl rfl rfl ?_ ?_ ?_ ?_ ?_ <;> repeat' (first | exact trivial | refine And.intro ?_ ?_ | exact Sees.of_eq rfl | exact lt_b rfl | rfl | exact SeesL.rfl' _ | exact Sees.int (by simp))
  rintro k ⟨hk, hinv⟩
  refine Wk ?_
  refine BrK.mk (fun hbk => ?_) (fun hbk => ?_) <;> (try rw [hbk])
  · have hkt : k < max a.atts.length b.atts.length := by simp at hbk; omega
    have hwk : IntKind.i64.wrap ((k : Int) + 1) = ((k + 1 : Nat) : Int) := by rw [w64] <;> omega
    refine Wk ?_
    refine BrK.mk (fun h1 => ?_) (fun h1 => ?_) <;> (try rw [h1])
    · have h1' : a.atts.length ≤ k := by simp at h1; omega
      refine Wk ?_
      exact resP.mk rfl (Sees.int (sameM_hit hkt hinv (diffAt_left h1')).symm)
    have h1' : k < a.atts.length := by simp at h1; omega
    refine Wk ?_
    refine BrK.mk (fun h2 => ?_) (fun h2 => ?_) <;> (try rw [h2])
    · have h2' : b.atts.length ≤ k := by simp at h2; omega
      refine Wk ?_
      exact resP.mk rfl (Sees.int (sameM_hit hkt hinv (diffAt_right h2')).symm)
    have h2' : k < b.atts.length := by simp at h2; omega
    obtain ⟨x, hgx⟩ := getLt h1'
    obtain ⟨y, hgy⟩ := getLt h2'
    have hmx := getMap (f := Att.av) hgx
    have hmy := getMap (f := Att.av) hgy
    repeat ((conv => whnf); first | refine sJ ?_ | refine And.intro (by first | exact inbMap h1' | exact inbMap h2' | kernel_rfl) ?_ | rw [hmx] | rw [hmy] | (rw [eqT_att x y]; rotate_left; rfl; rfl))
    try (conv => whnf)
    refine BrK.mk (fun h3 => ?_) (fun h3 => ?_) <;> (try rw [h3])
    · have h3' : (!attEqB x y) = true := h3
      refine Wk ?_
      exact resP.mk rfl (Sees.int (sameM_hit hkt hinv (by rw [diffAt_at hgx hgy, h3'])).symm)
    · have h3' : (!attEqB x y) = false := h3
      refine Wk ?_
      refine ⟨k + 1, ⟨by omega, fun j hj => ?_⟩, by omega, ?_⟩
      · rcases Nat.lt_succ_iff_lt_or_eq.1 hj with h | rfl
        · exact hinv j h
        · rw [diffAt_at hgx hgy, h3']
      · refine Fits.mk' rfl rfl rfl rfl ?_ ?_ ?_ ?_ ?_ <;> repeat' (first | exact trivial | refine And.intro ?_ ?_ | exact Sees.of_eq rfl | exact lt_b rfl | rfl | exact SeesL.rfl' _ | exact Sees.int hwk)
  · have hkn : k = max a.atts.length b.atts.length := by simp at hbk; omega
    subst hkn
    refine Wk ?_
    first | refine CallK.data rfl (c_EqDel L a.dels b.dels had) rfl ?_ | refine CallP.data rfl (c_EqDel L a.dels b.dels had) rfl ?_
    refine Wk ?_
    refine BrK.mk (fun h1 => ?_) (fun h1 => ?_) <;> (try rw [h1])
    · have h1' : ¬ a.dels = b.dels := by simpa using h1
      refine Wk ?_
      exact resP.mk rfl (Sees.int (by rw [sameM_miss hinv, if_neg h1']; simp))
    · have h1' : a.dels = b.dels := by simpa using h1
      refine Wk ?_
      exact resP.mk rfl (Sees.int (by rw [sameM_miss hinv, if_pos h1']))

theorem c_Same36 (a b : RunL) (ha : a.atts.length ≤ 281474976710656) (hb : b.atts.length ≤ 281474976710656) (had : a.dels.length ≤ 281474976710656) : PCall Tryz.prog L 26 [a.av, b.av] (.int .i64 (sameM a b)) := by
  refine PCall.intro mixed [] (nt := 55) Tryz.func26 rfl rfl (by simp) ?_
  refine Wk ?_
  refine LoopK.run mixed [] (fun (k : Nat) => k ≤ max a.atts.length b.atts.length ∧ ∀ j, j < k → diffAt a.atts b.atts j = false) (fun k => [(2, .ptr 0 0), (3, .ptr 1 0), (5, .int .i64 k)]) (fun k => ⟨[.cells [encAtts a.atts, encDels a.dels] 41, .cells [encAtts b.atts, encDels b.dels] 41], [], 0, 0, fun _ => 0⟩) (fun k => max a.atts.length b.atts.length - k) 0 ⟨by simp, by simp⟩ ?_ ?_
  · refine Fits.mk' rfl rfl rfl rfl ?_ ?_ ?_ ?_ ?_ <;> repeat' (first | exact trivial | refine And.intro ?_ ?_ | exact Sees.of_eq rfl | exact lt_b rfl | rfl | exact SeesL.rfl' _ | exact Sees.int (by simp))
  rintro k ⟨hk, hinv⟩
  have hwk : k < 9223372036854775807 := by omega
  refine Wk ?_
  refine BrK.mk (fun hbk => ?_) (fun hbk => ?_) <;> (try rw [hbk])
  · have hkt : k < max a.atts.length b.atts.length := by simp at hbk; omega
    have hwk : IntKind.i64.wrap ((k : Int) + 1) = ((k + 1 : Nat) : Int) := by rw [w64] <;> omega
    refine Wk ?_
    refine BrK.mk (fun h1 => ?_) (fun h1 => ?_) <;> (try rw [h1])
    · have h1' : a.atts.length ≤ k := by simp at h1; omega
      refine Wk ?_
      exact resP.mk rfl (Sees.int (sameM_hit hkt hinv (diffAt_left h1')).symm)
    have h1' : k < a.atts.length := by simp at h1; omega
    refine Wk ?_
    refine BrK.mk (fun h2 => ?_) (fun h2 => ?_) <;> (try rw [h2])
    · have h2' : b.atts.length ≤ k := by simp at h2; omega
      refine Wk ?_
      exact resP.mk rfl (Sees.int (sameM_hit hkt hinv (diffAt_right h2')).symm)
    have h2' : k < b.atts.length := by simp at h2; omega
    obtain ⟨x, hgx⟩ := getLt h1'
    obtain ⟨y, hgy⟩ := getLt h2'
    have hmx := getMap (f := Att.av) hgx
    have hmy := getMap (f := Att.av) hgy
    repeat ((conv => whnf); first | refine sJ ?_ | refine And.intro (by first | exact inbMap h1' | exact inbMap h2' | kernel_rfl) ?_ | rw [hmx] | rw [hmy] | (rw [eqT_att x y]; rotate_left; rfl; rfl))
    try (conv => whnf)
    refine BrK.mk (fun h3 => ?_) (fun h3 => ?_) <;> (try rw [h3])
    · have h3' : (!attEqB x y) = true := h3
      refine Wk ?_
      exact resP.mk rfl (Sees.int (sameM_hit hkt hinv (by rw [diffAt_at hgx hgy, h3'])).symm)
    · have h3' : (!attEqB x y) = false := h3
      refine Wk ?_
      refine ⟨k + 1, ⟨by omega, fun j hj => ?_⟩, by omega, ?_⟩
      · rcases Nat.lt_succ_iff_lt_or_eq.1 hj with h | rfl
        · exact hinv j h
        · rw [diffAt_at hgx hgy, h3']
      · refine Fits.mk' rfl rfl rfl rfl ?_ ?_ ?_ ?_ ?_ <;> repeat' (first | exact trivial | refine And.intro ?_ ?_ | exact Sees.of_eq rfl | exact lt_b rfl | rfl | exact SeesL.rfl' _ | exact Sees.int hwk)
  · refine Wk ?_
    refine BrK.mk (fun hbk2 => ?_) (fun hbk2 => ?_) <;> (try rw [hbk2])
    · have hkt : k < max a.atts.length b.atts.length := by simp at hbk2; omega
      have hwk : IntKind.i64.wrap ((k : Int) + 1) = ((k + 1 : Nat) : Int) := by rw [w64] <;> omega
      refine Wk ?_
      refine BrK.mk (fun h1 => ?_) (fun h1 => ?_) <;> (try rw [h1])
      · have h1' : a.atts.length ≤ k := by simp at h1; omega
        refine Wk ?_
        exact resP.mk rfl (Sees.int (sameM_hit hkt hinv (diffAt_left h1')).symm)
      have h1' : k < a.atts.length := by simp at h1; omega
      refine Wk ?_
      refine BrK.mk (fun h2 => ?_) (fun h2 => ?_) <;> (try rw [h2])
      · have h2' : b.atts.length ≤ k := by simp at h2; omega
        refine Wk ?_
        exact resP.mk rfl (Sees.int (sameM_hit hkt hinv (diffAt_right h2')).symm)
      have h2' : k < b.atts.length := by simp at h2; omega
      obtain ⟨x, hgx⟩ := getLt h1'
      obtain ⟨y, hgy⟩ := getLt h2'
      have hmx := getMap (f := Att.av) hgx
      have hmy := getMap (f := Att.av) hgy
      repeat ((conv => whnf); first | refine sJ ?_ | refine And.intro (by first | exact inbMap h1' | exact inbMap h2' | kernel_rfl) ?_ | rw [hmx] | rw [hmy] | (rw [eqT_att x y]; rotate_left; rfl; rfl))
      try (conv => whnf)
      refine BrK.mk (fun h3 => ?_) (fun h3 => ?_) <;> (try rw [h3])
      · have h3' : (!attEqB x y) = true := h3
        refine Wk ?_
        exact resP.mk rfl (Sees.int (sameM_hit hkt hinv (by rw [diffAt_at hgx hgy, h3'])).symm)
      · have h3' : (!attEqB x y) = false := h3
        refine Wk ?_
        refine ⟨k + 1, ⟨by omega, fun j hj => ?_⟩, by omega, ?_⟩
        · rcases Nat.lt_succ_iff_lt_or_eq.1 hj with h | rfl
          · exact hinv j h
          · rw [diffAt_at hgx hgy, h3']
        · refine Fits.mk' rfl rfl rfl rfl ?_ ?_ ?_ ?_ ?_ <;> repeat' (first | exact trivial | refine And.intro ?_ ?_ | exact Sees.of_eq rfl | exact lt_b rfl | rfl | exact SeesL.rfl' _ | exact Sees.int hwk)
    · have hkn : k = max a.atts.length b.atts.length := by simp at hbk hbk2; omega
      subst hkn
      refine Wk ?_
      first | refine CallK.data rfl (c_SameDel36 L a.dels b.dels had) rfl ?_ | refine CallP.data rfl (c_SameDel36 L a.dels b.dels had) rfl ?_
      refine Wk ?_
      refine BrK.mk (fun h1 => ?_) (fun h1 => ?_) <;> (try rw [h1])
      · have h1' : ¬ a.dels = b.dels := by simpa using h1
        refine Wk ?_
        exact resP.mk rfl (Sees.int (by rw [sameM_miss hinv, if_neg h1']; simp))
      · have h1' : a.dels = b.dels := by simpa using h1
        refine Wk ?_
        exact resP.mk rfl (Sees.int (by rw [sameM_miss hinv, if_pos h1']))
end
end HM
