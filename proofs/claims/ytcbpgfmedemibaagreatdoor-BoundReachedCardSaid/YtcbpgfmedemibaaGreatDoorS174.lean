/- Repeating one number. -/
import Derived.Test.YtcbpgfmedemibaaGreatDoorS1
import Derived.Test.YtcbpgfmedemibaaGreatDoorFh
import Derived.Test.YtcbpgfmedemibaaGreatDoorDa

set_option maxRecDepth 100000
namespace HM
open Go Go.RowKit Go.Proofs
/-- a row whose first places hold a number -/
def repI (v : Int) (m k : Nat) : List Int := List.replicate k v ++ List.replicate (m - k) 0
theorem repI_len {v : Int} {m k : Nat} (h : k ≤ m) : (repI v m k).length = m := by simp [repI]; omega
theorem repI_all (v : Int) (m : Nat) : repI v m m = List.replicate m v := by simp [repI]
theorem repI_put {v : Int} {m k : Nat} (e : Nat) (h : k + e ≤ m) (n : Nat) (hn : n = 1) : splice ((repI v m k).map encI) (0 + k * n) ((List.replicate e v).map encI) = (repI v m (k + e)).map encI := by
  subst hn
  have h1 : k + e ≤ ((repI v m k).map encI).length := by rw [List.length_map, repI_len (by omega)]; exact h
  rw [Nat.zero_add, Nat.mul_one, splice_eq _ _ _ (by simpa using h1), ← List.map_take, ← List.map_drop, ← List.map_append, ← List.map_append]
  congr 1
  unfold repI
  rw [List.take_append_of_le_length (by simp), List.take_of_length_le (by simp), List.length_map, List.length_replicate, List.drop_append, List.length_replicate, List.drop_of_length_le (by simp), List.nil_append, List.drop_replicate, List.replicate_append_replicate, show m - k - (k + e - k) = m - (k + e) by omega]
theorem repI_src {v : Int} {m k e : Nat} (h : e ≤ k) (n : Nat) (hn : n = 1) : (((repI v m k).map encI).drop 0).take (e * n) = (List.replicate e v).map encI := by
  subst hn
  rw [List.drop_zero, Nat.mul_one, ← List.map_take]
  unfold repI
  rw [List.take_append_of_le_length (by simpa using h), List.take_replicate, Nat.min_eq_left h]
section
variable (L : World → Prop)
theorem c_Mul (x y : Nat) (hx : x < 18446744073709551616) (hy : y < 18446744073709551616) : PCall Tryz.prog L 91 [.int .u64 x, .int .u64 y] (.tup [.int .u64 ((x * y / 18446744073709551616 : Nat) : Int), .int .u64 ((x * y % 18446744073709551616 : Nat) : Int)]) := by
  refine PCall.of_calls fun w G vals hL hv => ?_
  obtain ⟨v, vs, rfl, hv1, v2, vs2, rfl, hv2, hvs⟩ := hv
  obtain rfl : v = _ := hv1
  obtain rfl : v2 = _ := hv2
  obtain rfl : vs2 = _ := hvs
  exact (Tryz.bits_Mul x y hx hy w).mono fun e w' ⟨he, hw⟩ => ⟨_, he, by subst hw; exact Below.refl _ _, fun _ _ => ⟨_, rfl, _, _, rfl, rfl, _, _, rfl, rfl, rfl⟩⟩
set_option maxHeartbeats 4000000 in
theorem c_Repeat (v : Int) (m : Nat) (hm1 : 1 ≤ m) (hm : m ≤ 100) : PCall Tryz.prog L 39 [encIs [v], .int .i64 m] (encIs (List.replicate m v)) := by
  refine PCall.intro mixed [] (nt := 48) Tryz.func39 rfl rfl (by simp) ?_
  have g0 : decide ((m : Int) < 0) = false := decide_eq_false (by omega)
  have w1 : IntKind.u64.wrap (m : Int) = (m : Int) := by rw [IntKind.wrap]; simp [IntKind.bits, IntKind.signed]; omega
  have w2 : IntKind.i64.wrap (m : Int) = (m : Int) := w64 (by omega) (by omega)
  have hml : PCall Tryz.prog L 91 [.int .u64 1, .int .u64 m] (.tup [.int .u64 0, .int .u64 m]) := by
    have := c_Mul L 1 m (by decide) (by omega)
    rw [Nat.one_mul, show m / 18446744073709551616 = 0 from Nat.div_eq_of_lt (by omega), show m % 18446744073709551616 = m from Nat.mod_eq_of_lt (by omega)] at this
    exact this
  have g1 : decide ((9223372036854775807 : Int) < (m : Int)) = false := decide_eq_false (by omega)
  repeat ((conv => whnf); first | refine sJ ?_ | refine And.intro (by first | exact trivial | kernel_rfl) ?_ | rw [g0] | rw [w1])
  try (conv => whnf)
  first | refine CallK.data rfl (hml) rfl ?_ | refine CallP.data rfl (hml) rfl ?_
  repeat ((conv => whnf); first | refine sJ ?_ | refine And.intro (by first | exact trivial | exact ⟨_, rfl, by decide⟩ | exact (show (0 : Int) ≤ m by omega) | exact (show (m : Int) ≤ 1099511627776 by omega) | kernel_rfl) ?_ | rw [g1] | rw [w2])
  try (conv => whnf)
  have e0 : (List.replicate (m : Int).toNat (ofC (Value.int IntKind.i64 0))).length = 0 + (m : Int).toNat * 1 := by simp
  have hmin : min (List.map encI [v]).length (m : Int).toNat = 1 := by simp; omega
  have hl : flatE (List.take (min (List.map encI [v]).length (m : Int).toNat) (List.map encI [v])) = [encI v] := by rw [hmin]; rfl
  have he : splice (List.replicate (m : Int).toNat (ofC (Value.int IntKind.i64 0))) 0 [encI v] = (repI v m 1).map encI := by
    have h := repI_put (v := v) (m := m) (k := 0) 1 (by omega) 1 rfl
    simpa [repI, ofC, encI] using h
  refine And.intro e0 ?_
  refine Wk ?_
  refine And.intro ⟨by show (flatE _).length = _; rw [hl, hmin]; rfl, by show (flatE _).all _ = _; rw [hl]; rfl, by show 0 + (flatE _).length ≤ _; rw [hl]; simp; omega⟩ ?_
  refine Wk ?_
  obtain ⟨R, hR⟩ : ∃ R, R = repI v m := ⟨_, rfl⟩
  have hRl : ∀ k, k ≤ m → (R k).length = m := fun k hk => by rw [hR]; exact repI_len hk
  refine LoopK.run mixed [10009] (fun (k : Nat) => 1 ≤ k ∧ k ≤ m) (fun k => [(7, .bsl 0 0 m 1), (8, .int .i64 k)]) (fun k => ⟨[.cells ((R k).map encI) 3], [], 0, 0, fun _ => 0⟩) (fun k => m - k) 1 ⟨by omega, hm1⟩ ?_ ?_
  · refine Fits.mk' rfl rfl rfl rfl ?_ ?_ ?_ ?_ ?_ <;> repeat' (first | exact trivial | refine And.intro ?_ ?_ | exact Sees.of_eq rfl | exact lt_b rfl | rfl | exact rowI_oko _ _ _ _ | exact Sees.int (by show ((min (List.map encI [v]).length (m : Int).toNat : Nat) : Int) = _; rw [hmin]) | exact SeesL.of_eq (by show splice _ 0 (flatE _) = _; rw [hl, hR]; exact he))
  rintro k ⟨hk1, hk⟩
  refine Wk ?_
  refine BrK.mk (fun hb => ?_) (fun hb => ?_) <;> (try rw [hb])
  · have hlt : k < m := by simpa using hb
    obtain ⟨c, hc⟩ : ∃ c, c = min k (m - k) := ⟨_, rfl⟩
    refine Wk ?_
    refine SemK.regionFin mixed (fun X => X.bx[0]? = some (.cells ((R k).map encI) 3)) [0, 1, 2, 3, 4, 5, 6] 3 rfl rfl (by decide) rfl (by rfl) ?_
    have hRk := hRl k hk
    iterate 7
      conv => whnf
      apply exV
      · rintro S' K' hI hh
        repeat ((conv => whnf); first | refine sJ ?_ | refine And.intro (by first | exact trivial | exact (show exactB _ _ _ _ _ by unfold exactB; rw [hI]; show _ = _; rw [List.length_map]; omega) | exact ⟨by omega, show upTo? _ _ _ _ _ by unfold upTo?; rw [hI]; exact ⟨by rw [List.length_map, hRk]; omega, by decide⟩⟩ | exact ⟨by omega, by omega⟩ | kernel_rfl) ?_ )
        try (conv => whnf)
        exact hh
    have hsrc : ((R k).map encI |>.drop 0).take (min k (m - k) * 1) = (List.replicate (min k (m - k)) v).map encI := by rw [hR]; exact repI_src (by omega) 1 rfl
    have hput := repI_put (v := v) (m := m) (k := k) (min k (m - k)) (by omega) 1 rfl
    rw [← hR] at hput
    conv => whnf
    have q1 : (List.take (min k (m - k) * 1) (List.drop 0 (List.map encI (R k)))).length = min k (m - k) * 1 := by rw [hsrc]; simp
    have q2 : (List.take (min k (m - k) * 1) (List.drop 0 (List.map encI (R k)))).all AV.isCell = true := by rw [hsrc]; exact List.all_eq_true.2 fun x hx => by obtain ⟨y, _, rfl⟩ := List.mem_map.1 hx; rfl
    have q3 : 0 + k * 1 + (List.take (min k (m - k) * 1) (List.drop 0 (List.map encI (R k)))).length ≤ (List.map encI (R k)).length := by rw [hsrc, List.length_map, List.length_replicate, List.length_map, hRk]; omega
    repeat' ((conv => whnf); first | exact trivial | refine sJ ?_ | refine And.intro (by first | exact trivial | exact Or.inl rfl | exact ⟨q1, q2, q3⟩ | kernel_rfl) ?_ | refine And.intro ?_ ?_ )
    refine ⟨k + min k (m - k), ⟨by omega, by omega⟩, by omega, ?_⟩
    refine Fits.mk' rfl rfl rfl rfl ?_ ?_ ?_ ?_ ?_ <;> repeat' (first | exact trivial | refine And.intro ?_ ?_ | exact Sees.of_eq rfl | exact lt_b rfl | rfl | exact rowI_oko _ _ _ _ | exact Sees.int (by show IntKind.i64.wrap ((k : Int) + ((min k (m - k) : Nat) : Int)) = _; rw [w64] <;> omega) | exact SeesL.of_eq (by show splice _ (0 + k * 1) (List.take (min k (m - k) * 1) (List.drop 0 (List.map encI (R k)))) = _; rw [hsrc, hput]))
  · have hkm : k = m := by simp at hb; omega
    subst hkm
    refine Wk ?_
    exact ⟨_, rowI_fzb rfl (hRl k (Nat.le_refl _)), Sees.of_eq (by rw [hR, repI_all])⟩
end
end HM
