/- Hyperperiods. -/
import Derived.Test.YtdjglaoahmaljaaGreatDoorS32
import Derived.Test.YtdjglaoahmaljaaGreatDoorS33
import Derived.Test.YtdjglaoahmaljaaGreatDoorDb

set_option maxRecDepth 100000
namespace HM
open Go Go.RowKit Go.Proofs
theorem lcm_div (a b : Nat) : a / Nat.gcd a b * b = Nat.lcm a b := by
  unfold Nat.lcm
  rw [Nat.div_mul_right_comm (Nat.gcd_dvd_left a b)]
section
variable (L : World → Prop)

theorem c_divisor (a b : Nat) (ha : a ≤ 1048576) (hb : b ≤ 1048576) : PCall Tryz.prog L 70 [.int .i64 a, .int .i64 b] (.int .i64 (Nat.gcd a b)) := by
  refine PCall.intro mixed [] (nt := 12) Tryz.func70 rfl rfl (by simp) ?_
  refine Wk ?_
  refine LoopK.run mixed [] (fun (s : Nat × Nat) => s.1 ≤ 1048576 ∧ s.2 ≤ 1048576 ∧ Nat.gcd s.1 s.2 = Nat.gcd a b) (fun s => [(0, .int .i64 s.1), (1, .int .i64 s.2)]) (fun _ => St.none) (fun s => s.2) (a, b) ⟨ha, hb, rfl⟩ ?_ ?_
  · refine Fits.mk' rfl rfl rfl rfl ?_ ?_ ?_ ?_ ?_ <;> repeat' (first | exact trivial | refine And.intro ?_ ?_ | exact Sees.of_eq rfl | exact lt_b rfl | rfl )
  rintro ⟨x, y⟩ ⟨hx, hy, hg⟩
  simp only at hx hy hg
  refine Wk ?_
  refine BrK.mk (fun h => ?_) (fun h => ?_) <;> (try rw [h])
  · have hy0 : 0 < y := by simpa using h
    have hm : (x : Int).tmod y = ((x % y : Nat) : Int) := by rw [Int.tmod_eq_emod_of_nonneg (by omega), Int.natCast_emod]
    have hml : x % y < y := Nat.mod_lt _ hy0
    have hw : IntKind.i64.wrap ((x % y : Nat) : Int) = ((x % y : Nat) : Int) := by rw [w64] <;> omega
    repeat ((conv => whnf); first | refine sJ ?_ | refine And.intro (by first | exact (show (y : Int) ≠ 0 by omega) | kernel_rfl) ?_ | rw [hm] | rw [hw])
    try (conv => whnf)
    refine ⟨(y, x % y), ⟨hy, by simp only; omega, by rw [← hg, Nat.gcd_comm x y, Nat.gcd_rec y x, Nat.gcd_comm]⟩, by simp only; omega, ?_⟩
    refine Fits.mk' rfl rfl rfl rfl ?_ ?_ ?_ ?_ ?_ <;> repeat' (first | exact trivial | refine And.intro ?_ ?_ | exact Sees.of_eq rfl | exact lt_b rfl | rfl )
  · have hy0 : y = 0 := by simp at h; omega
    subst hy0
    rw [Nat.gcd_zero_right] at hg
    refine Wk ?_
    exact resP.mk rfl (Sees.int (by rw [hg]))

set_option maxHeartbeats 2000000 in
theorem c_Hyper (l : List Flow) (hl : l.length ≤ 281474976710656) : PCall Tryz.prog L 28 [encFlows l] (.tup [.int .i64 (hyperM l).1, .int .i64 (hyperM l).2]) := by
  refine PCall.intro mixed [] (nt := 20) Tryz.func28 rfl rfl (by simp) ?_
  refine Wk ?_
  first | refine CallK.data rfl (c_FCheck L 32 l hl) rfl ?_ | refine CallP.data rfl (c_FCheck L 32 l hl) rfl ?_
  refine Wk ?_
  refine BrK.mk (fun h1 => ?_) (fun h1 => ?_) <;> (try rw [h1])
  · refine Wk ?_
    exact resP.mk rfl (Sees.of_eq (by unfold hyperM; rw [if_pos (by simpa using h1)]))
  have h1' : (flowsE 32 l).2 = 0 := by simpa using h1
  have hper := flowsE_per h1'
  have hp1 : ∀ f ∈ l, 1 ≤ f.period := fun f hf => (hper f hf).1
  refine Wk ?_
  refine CallK.inl rfl (ICall.intro mixed [] (nt := 9) Tryz.func71 rfl rfl (by simp) ?_)
  refine Wk ?_
  refine CallK.inl rfl (ICall.intro mixed [] (nt := 19) Tryz.func114 rfl rfl (by simp) ?_)
  refine Wk ?_
  refine LoopK.run mixed [] (fun (k : Nat) => k ≤ l.length ∧ hyp (l.take k) ≤ 512) (fun k => [(0, encFlows l), (1, .fn 69 [.ptr 0 0]), (7, .int .i64 l.length), (8, .int .i64 k)]) (fun k => ⟨[.cells [.int .i64 (hyp (l.take k))] 3], [], 1, 0, fun _ => 0⟩) (fun k => l.length - k) 0 ⟨by simp, by simp [hyp]⟩ ?_ ?_
  · refine Fits.mk' rfl rfl rfl rfl ?_ ?_ ?_ ?_ ?_ <;> repeat' (first | exact trivial | refine And.intro ?_ ?_ | exact Sees.of_eq rfl | exact lt_b rfl | rfl | exact Sees.int (by simp))
  rintro k ⟨hk, hle⟩
  refine Wk ?_
  refine BrK.mk (fun hb => ?_) (fun hb => ?_) <;> (try rw [hb])
  · have hlt : k < l.length := by simpa using hb
    obtain ⟨x, hgx⟩ := getLt hlt
    have hmx := getMap (f := Flow.av) hgx
    have hxp := hper x (List.mem_of_getElem? hgx)
    obtain ⟨p, hp⟩ : ∃ p : Nat, x.period = p := ⟨x.period.toNat, by omega⟩
    have hst := hyp_take hgx
    rw [hp, Int.toNat_natCast] at hst
    obtain ⟨h, hh⟩ : ∃ h, h = hyp (l.take k) := ⟨_, rfl⟩
    rw [← hh] at hst hle ⊢
    repeat ((conv => whnf); first | refine sJ ?_ | refine And.intro (by first | exact inbMap hlt | kernel_rfl) ?_ | rw [hmx])
    try (conv => whnf)
    refine CallK.inl rfl (ICall.intro mixed [] (nt := 15) Tryz.func69 rfl rfl (by simp) ?_)
    refine Wk ?_
    rw [hp]
    first | refine CallK.data rfl (c_divisor L h p (by omega) (by omega)) rfl ?_ | refine CallP.data rfl (c_divisor L h p (by omega) (by omega)) rfl ?_
    have hg0 : 0 < Nat.gcd h p := Nat.gcd_pos_of_pos_right _ (by omega)
    obtain ⟨d, hd⟩ : ∃ d, d = h / Nat.gcd h p := ⟨_, rfl⟩
    have hq : (h : Int).tdiv ((Nat.gcd h p : Nat) : Int) = (d : Int) := by rw [hd, Int.tdiv_eq_ediv_of_nonneg (by omega), Int.natCast_ediv]
    have hdl : d ≤ 512 := hd ▸ Nat.le_trans (Nat.div_le_self _ _) hle
    have hmul : d * p ≤ 512 * 512 := Nat.mul_le_mul hdl (by omega)
    have hw1 : IntKind.i64.wrap (d : Int) = (d : Int) := by rw [w64] <;> omega
    have hlc := lcm_div h p
    rw [← hd, ← hst] at hlc
    have hw2 : IntKind.i64.wrap ((d : Int) * x.period) = ((hyp (l.take (k + 1)) : Nat) : Int) := by
      rw [hp, ← hlc, ← Int.natCast_mul, w64 (Int.le_trans (by decide) (Int.natCast_nonneg _)) (Int.le_trans (Int.ofNat_le.2 hmul) (by decide))]
    repeat ((conv => whnf); first | refine sJ ?_ | refine And.intro (by first | exact (show ((Nat.gcd h p : Nat) : Int) ≠ 0 by omega) | kernel_rfl) ?_ | rw [hq] | rw [hw1] | rw [hw2])
    try (conv => whnf)
    refine BrK.mk (fun h3 => ?_) (fun h3 => ?_) <;> (try rw [h3])
    · have h3' : 512 < hyp (l.take (k + 1)) := by have := of_decide_eq_true h3; omega
      have hyl := hyp_take_le hp1 (k + 1)
      refine Wk ?_
      exact resP.mk rfl (Sees.of_eq (by unfold hyperM; rw [if_neg (by omega), if_pos (by omega)]))
    · have h3' : hyp (l.take (k + 1)) ≤ 512 := by have := of_decide_eq_false h3; omega
      refine Wk ?_
      refine ⟨k + 1, ⟨by omega, h3'⟩, by omega, ?_⟩
      refine Fits.mk' rfl rfl rfl rfl ?_ ?_ ?_ ?_ ?_ <;> repeat' (first | exact trivial | refine And.intro ?_ ?_ | exact Sees.of_eq rfl | exact lt_b rfl | rfl | exact Sees.int (succI hlt hl))
  · have hkn : k = l.length := by simp at hb; omega
    subst hkn
    rw [List.take_length] at hle ⊢
    refine Wk ?_
    exact resP.mk rfl (Sees.of_eq (by unfold hyperM; rw [if_neg (by omega), if_neg (by omega)]))

set_option maxHeartbeats 1000000 in
theorem c_Hyper32 (l : List Flow) (hl : l.length ≤ 281474976710656) : PCall Tryz.prog L 72 [encFlows l] (.tup [.int .i64 (hyperM l).1, .int .i64 (hyperM l).2]) := by
  refine PCall.intro mixed [] (nt := 39) Tryz.func72 rfl rfl (by simp) ?_
  refine Wk ?_
  first | refine CallK.data rfl (c_FCheck32 L 32 l hl) rfl ?_ | refine CallP.data rfl (c_FCheck32 L 32 l hl) rfl ?_
  refine Wk ?_
  refine BrK.mk (fun h1 => ?_) (fun h1 => ?_) <;> (try rw [h1])
  · refine Wk ?_
    exact resP.mk rfl (Sees.of_eq (by unfold hyperM; rw [if_pos (by simpa using h1)]))
  have h1' : (flowsE 32 l).2 = 0 := by simpa using h1
  have hper := flowsE_per h1'
  refine Wk ?_
  refine LoopK.run mixed [] (fun (n : Nat) => 1 ≤ n ∧ n ≤ 513 ∧ ∀ m, 1 ≤ m → m < n → multB l m = false) (fun n => [(0, encFlows l), (6, .int .i64 n)]) (fun _ => St.none) (fun n => 513 - n) 1 ⟨by omega, by omega, fun m _ _ => by omega⟩ ?_ ?_
  · refine Fits.mk' rfl rfl rfl rfl ?_ ?_ ?_ ?_ ?_ <;> repeat' (first | exact trivial | refine And.intro ?_ ?_ | exact Sees.of_eq rfl | exact lt_b rfl | rfl )
  rintro n ⟨hn1, hn2, hinv⟩
  refine Wk ?_
  refine BrK.mk (fun hb => ?_) (fun hb => ?_) <;> (try rw [hb])
  · have hn5 : n ≤ 512 := by have := of_decide_eq_true hb; omega
    refine Wk ?_
    refine LoopK.run mixed [] (fun (j : Nat) => j ≤ l.length) (fun j => [(0, encFlows l), (6, .int .i64 n), (7, .bool (multB (l.take j) n)), (8, .int .i64 j)]) (fun j => St.none) (fun j => l.length - j) 0 (by omega) ?_ ?_
    · refine Fits.mk' rfl rfl rfl rfl ?_ ?_ ?_ ?_ ?_ <;> repeat' (first | exact trivial | refine And.intro ?_ ?_ | exact Sees.of_eq rfl | exact lt_b rfl | rfl )
    rintro j hj
    refine Wk ?_
    refine BrK.mk (fun hd => ?_) (fun hd => ?_) <;> (try rw [hd])
    · have hjt : j < l.length := by simpa using hd
      obtain ⟨x, hgx⟩ := getLt hjt
      have hmx := getMap (f := Flow.av) hgx
      have hxp := hper x (List.mem_of_getElem? hgx)
      have hst := multB_succ hgx n
      cases hh : multB (l.take j) n with
      | false =>
        rw [hh, Bool.false_and] at hst
        refine Wk ?_
        refine ⟨j + 1, by omega, by omega, ?_⟩
        rw [hst]
        refine Fits.mk' rfl rfl rfl rfl ?_ ?_ ?_ ?_ ?_ <;> repeat' (first | exact trivial | refine And.intro ?_ ?_ | exact Sees.of_eq rfl | exact lt_b rfl | rfl | exact Sees.int (succI hjt hl))
      | true =>
        rw [hh, Bool.true_and] at hst
        have hm : (n : Int).tmod x.period = (n : Int) % x.period := Int.tmod_eq_emod_of_nonneg (by omega)
        have hm1 := Int.emod_nonneg (n : Int) (show x.period ≠ 0 by omega)
        have hm2 := Int.emod_lt_of_pos (n : Int) (show 0 < x.period by omega)
        have hw : IntKind.i64.wrap ((n : Int) % x.period) = (n : Int) % x.period := by rw [w64] <;> omega
        repeat ((conv => whnf); first | refine sJ ?_ | refine And.intro (by first | exact inbMap hjt | exact (show x.period ≠ 0 by omega) | kernel_rfl) ?_ | rw [hmx] | rw [hm] | rw [hw])
        try (conv => whnf)
        refine ⟨j + 1, by omega, by omega, ?_⟩
        rw [hst]
        refine Fits.mk' rfl rfl rfl rfl ?_ ?_ ?_ ?_ ?_ <;> repeat' (first | exact trivial | refine And.intro ?_ ?_ | exact Sees.of_eq rfl | exact lt_b rfl | rfl | exact Sees.int (succI hjt hl) | exact Sees.bool (by rw [Bool.eq_iff_iff]; simp))
    · have hjn : j = l.length := by simp at hd; omega
      subst hjn
      rw [List.take_length]
      cases hh : multB l n with
      | true =>
        refine Wk ?_
        exact resP.mk rfl (Sees.of_eq (by rw [hyper_hit h1' hn1 hn5 hinv hh]))
      | false =>
        refine Wk ?_
        refine ⟨n + 1, ⟨by omega, by omega, fun m h2 h3 => ?_⟩, by omega, ?_⟩
        · rcases Nat.lt_succ_iff_lt_or_eq.1 h3 with h | rfl
          · exact hinv m h2 h
          · exact hh
        · refine Fits.mk' rfl rfl rfl rfl ?_ ?_ ?_ ?_ ?_ <;> repeat' (first | exact trivial | refine And.intro ?_ ?_ | exact Sees.of_eq rfl | exact lt_b rfl | rfl | exact Sees.int (by rw [w64] <;> omega))
  · have hn5 : n = 513 := by have := of_decide_eq_false hb; omega
    subst hn5
    refine Wk ?_
    exact resP.mk rfl (Sees.of_eq (by rw [hyper_no h1' fun m h2 h3 => hinv m h2 (by omega)]))
end
end HM
