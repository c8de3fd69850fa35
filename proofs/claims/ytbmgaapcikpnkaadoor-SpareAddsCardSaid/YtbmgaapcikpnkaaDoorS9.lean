/- Masks: their checks. -/
import Derived.Test.YtbmgaapcikpnkaaDoorS8
import Derived.Test.YtbmgaapcikpnkaaDoorDa

set_option maxRecDepth 100000
namespace HM
open Go Go.RowKit Go.Proofs
section
variable (L : World → Prop)

def outA (offs : Int) : AV := .cptr (.agg [.int .i64 offs]) 0

theorem c_outside (n : Int) : PCall Tryd.prog L 35 [.int .i64 n] (.fn 46 [outA n]) := by
  refine PCall.intro mixed [] (nt := 4) Tryd.func35 rfl rfl (by simp) ?_
  repeat ((conv => whnf); first | (refine And.intro (by first | rfl | exact Or.inl ⟨_, rfl⟩ | exact Or.inr rfl | exact le_b rfl | ((repeat' (first | exact Els.nil _ | refine Els.cons rfl rfl ?_)); done) | exact Els.map (fun _ => ⟨rfl, rfl⟩)  | kernel_rfl) ?_) )
  try (conv => whnf)
  exact resP.mk rfl (Sees.of_eq rfl)

theorem c_outside1 (n m : Int) (h0 : 0 ≤ n) (h1 : n ≤ 62) : PCall Tryd.prog L 46 [.int .i64 m, outA n] (.bool (outB n m)) := by
  refine PCall.intro mixed [] (nt := 12) Tryd.func46 rfl rfl (by simp) ?_
  repeat ((conv => whnf); first | (refine And.intro (by first | rfl | exact Or.inl ⟨_, rfl⟩ | exact Or.inr rfl | exact le_b rfl | ((repeat' (first | exact Els.nil _ | refine Els.cons rfl rfl ?_)); done) | exact Els.map (fun _ => ⟨rfl, rfl⟩)  | kernel_rfl) ?_) )
  try (conv => whnf)
  refine BrK.mk (fun hb => ?_) (fun hb => ?_) <;> (try rw [hb])
  · repeat ((conv => whnf); first | (refine And.intro (by first | rfl | exact Or.inl ⟨_, rfl⟩ | exact Or.inr rfl | exact le_b rfl | ((repeat' (first | exact Els.nil _ | refine Els.cons rfl rfl ?_)); done) | exact Els.map (fun _ => ⟨rfl, rfl⟩)  | kernel_rfl) ?_) )
    try (conv => whnf)
    exact resP.mk rfl (Sees.bool (by simp at hb; simp [outB, hb]))
  · have hs := shl1 h0 h1
    repeat ((conv => whnf); first | (refine And.intro (by first | rfl | exact Or.inl ⟨_, rfl⟩ | exact Or.inr rfl | exact le_b rfl | ((repeat' (first | exact Els.nil _ | refine Els.cons rfl rfl ?_)); done) | exact Els.map (fun _ => ⟨rfl, rfl⟩) | exact h0 | kernel_rfl) ?_) )
    try (conv => whnf)
    exact resP.mk rfl (Sees.bool (by rw [hs]; simp [outB]; simp at hb; omega))

theorem c_scheck (f : List Int) (len offs : Int) (hf : f.length ≤ 281474976710656) : PCall Tryd.prog L 11 [encIs f, .int .i64 len, .int .i64 offs] (.int .i64 (checkM f len offs)) := by
  refine PCall.intro mixed [] (nt := 32) Tryd.func11 rfl rfl (by simp) ?_
  repeat' ((conv => whnf); first | (refine And.intro (by first | rfl | exact Or.inl ⟨_, rfl⟩ | exact Or.inr rfl | exact le_b rfl | ((repeat' (first | exact Els.nil _ | refine Els.cons rfl rfl ?_)); done) | exact Els.map (fun _ => ⟨rfl, rfl⟩)  | kernel_rfl) ?_)  | (refine BrK.mk (fun hb => ?_) (fun hb => ?_) <;> (try rw [hb])))
  all_goals try (conv => whnf)
  · exact resP.mk rfl (Sees.int (by first | (simp_all [checkM]; done) | (simp_all [checkM]; omega)))
  · exact resP.mk rfl (Sees.int (by first | (simp_all [checkM]; done) | (simp_all [checkM]; omega)))
  · exact resP.mk rfl (Sees.int (by first | (simp_all [checkM]; done) | (simp_all [checkM]; omega)))
  · exact resP.mk rfl (Sees.int (by first | (simp_all [checkM]; done) | (simp_all [checkM]; omega)))
  · exact resP.mk rfl (Sees.int (by first | (simp_all [checkM]; done) | (simp_all [checkM]; omega)))
  rename_i g1 g2 g3 g4
  simp only [decide_eq_false_iff_not, List.length_map, bne_eq_false_iff_eq] at g1 g2 g3 g4 hb
  have hck : checkM f len offs = if f.any (outB offs) then 2 else 0 := by
    rw [checkM, if_neg (by omega), if_neg (by omega)]
  first | refine CallK.data rfl (c_outside L offs) rfl ?_ | refine CallP.data rfl (c_outside L offs) rfl ?_
  repeat ((conv => whnf); first | (refine And.intro (by first | rfl | exact Or.inl ⟨_, rfl⟩ | exact Or.inr rfl | exact le_b rfl | ((repeat' (first | exact Els.nil _ | refine Els.cons rfl rfl ?_)); done) | exact Els.map (fun _ => ⟨rfl, rfl⟩)  | kernel_rfl) ?_) )
  try (conv => whnf)
  first | refine CallK.data rfl (c_ContainsFuncFree L f (outB offs) 46 [outA offs] hf rfl rfl (fun x _ => c_outside1 L offs x (by omega) (by omega))) rfl ?_ | refine CallP.data rfl (c_ContainsFuncFree L f (outB offs) 46 [outA offs] hf rfl rfl (fun x _ => c_outside1 L offs x (by omega) (by omega))) rfl ?_
  repeat' ((conv => whnf); first | (refine And.intro (by first | rfl | exact Or.inl ⟨_, rfl⟩ | exact Or.inr rfl | exact le_b rfl | ((repeat' (first | exact Els.nil _ | refine Els.cons rfl rfl ?_)); done) | exact Els.map (fun _ => ⟨rfl, rfl⟩)  | kernel_rfl) ?_)  | (refine BrK.mk (fun hb => ?_) (fun hb => ?_) <;> (try rw [hb])))
  all_goals try (conv => whnf)
  · exact resP.mk rfl (Sees.int (by rw [hck, hb]; rfl))
  · exact resP.mk rfl (Sees.int (by rw [hck, hb]; rfl))

theorem c_in44 (n lo hi : Int) : PCall Tryd.prog L 30 [.int .i64 n, .int .i64 lo, .int .i64 hi] (.bool (inB n lo hi)) := by
  refine PCall.intro mixed [] (nt := 15) Tryd.func30 rfl rfl (by simp) ?_
  repeat' ((conv => whnf); first | (refine And.intro (by first | rfl | exact Or.inl ⟨_, rfl⟩ | exact Or.inr rfl | exact le_b rfl | ((repeat' (first | exact Els.nil _ | refine Els.cons rfl rfl ?_)); done) | exact Els.map (fun _ => ⟨rfl, rfl⟩)  | kernel_rfl) ?_)  | (refine BrK.mk (fun hb => ?_) (fun hb => ?_) <;> (try rw [hb])))
  all_goals try (conv => whnf)
  all_goals exact resP.mk rfl (Sees.of_eq (by first | (simp_all [inB]; done) | (simp_all [inB]; omega)))

theorem in_out {m offs : Int} : inB m 0 (2 ^ offs.toNat - 1) = !outB offs m := by
  rw [Bool.eq_iff_iff]
  simp [inB, outB]
  omega

theorem c_rcheck (f : List Int) (len offs : Int) (hf : f.length ≤ 281474976710656) : PCall Tryd.prog L 19 [encIs f, .int .i64 len, .int .i64 offs] (.int .i64 (checkM f len offs)) := by
  refine PCall.intro mixed [] (nt := 35) Tryd.func19 rfl rfl (by simp) ?_
  repeat ((conv => whnf); first | (refine And.intro (by first | rfl | exact Or.inl ⟨_, rfl⟩ | exact Or.inr rfl | exact le_b rfl | ((repeat' (first | exact Els.nil _ | refine Els.cons rfl rfl ?_)); done) | exact Els.map (fun _ => ⟨rfl, rfl⟩)  | kernel_rfl) ?_) )
  try (conv => whnf)
  first | refine CallK.data rfl (c_in44 L _ _ _) rfl ?_ | refine CallP.data rfl (c_in44 L _ _ _) rfl ?_
  repeat ((conv => whnf); first | (refine And.intro (by first | rfl | exact Or.inl ⟨_, rfl⟩ | exact Or.inr rfl | exact le_b rfl | ((repeat' (first | exact Els.nil _ | refine Els.cons rfl rfl ?_)); done) | exact Els.map (fun _ => ⟨rfl, rfl⟩)  | kernel_rfl) ?_) )
  try (conv => whnf)
  refine BrK.mk (fun g1 => ?_) (fun g1 => ?_) <;> (try rw [g1])
  · repeat ((conv => whnf); first | (refine And.intro (by first | rfl | exact Or.inl ⟨_, rfl⟩ | exact Or.inr rfl | exact le_b rfl | ((repeat' (first | exact Els.nil _ | refine Els.cons rfl rfl ?_)); done) | exact Els.map (fun _ => ⟨rfl, rfl⟩)  | kernel_rfl) ?_) )
    try (conv => whnf)
    exact resP.mk rfl (Sees.int (by rw [checkM, if_pos (by simp [inB] at g1; omega)]))
  repeat ((conv => whnf); first | (refine And.intro (by first | rfl | exact Or.inl ⟨_, rfl⟩ | exact Or.inr rfl | exact le_b rfl | ((repeat' (first | exact Els.nil _ | refine Els.cons rfl rfl ?_)); done) | exact Els.map (fun _ => ⟨rfl, rfl⟩)  | kernel_rfl) ?_) )
  try (conv => whnf)
  first | refine CallK.data rfl (c_in44 L _ _ _) rfl ?_ | refine CallP.data rfl (c_in44 L _ _ _) rfl ?_
  repeat ((conv => whnf); first | (refine And.intro (by first | rfl | exact Or.inl ⟨_, rfl⟩ | exact Or.inr rfl | exact le_b rfl | ((repeat' (first | exact Els.nil _ | refine Els.cons rfl rfl ?_)); done) | exact Els.map (fun _ => ⟨rfl, rfl⟩)  | kernel_rfl) ?_) )
  try (conv => whnf)
  refine BrK.mk (fun g2 => ?_) (fun g2 => ?_) <;> (try rw [g2])
  · repeat ((conv => whnf); first | (refine And.intro (by first | rfl | exact Or.inl ⟨_, rfl⟩ | exact Or.inr rfl | exact le_b rfl | ((repeat' (first | exact Els.nil _ | refine Els.cons rfl rfl ?_)); done) | exact Els.map (fun _ => ⟨rfl, rfl⟩)  | kernel_rfl) ?_) )
    try (conv => whnf)
    exact resP.mk rfl (Sees.int (by rw [checkM, if_pos (by simp [inB] at g2; omega)]))
  repeat ((conv => whnf); first | (refine And.intro (by first | rfl | exact Or.inl ⟨_, rfl⟩ | exact Or.inr rfl | exact le_b rfl | ((repeat' (first | exact Els.nil _ | refine Els.cons rfl rfl ?_)); done) | exact Els.map (fun _ => ⟨rfl, rfl⟩)  | kernel_rfl) ?_) )
  try (conv => whnf)
  have g12 : ¬ (len < 1 ∨ 512 < len ∨ offs < 1 ∨ 16 < offs) := by simp [inB] at g1 g2; omega
  refine BrK.mk (fun g3 => ?_) (fun g3 => ?_) <;> (try rw [g3])
  · repeat ((conv => whnf); first | (refine And.intro (by first | rfl | exact Or.inl ⟨_, rfl⟩ | exact Or.inr rfl | exact le_b rfl | ((repeat' (first | exact Els.nil _ | refine Els.cons rfl rfl ?_)); done) | exact Els.map (fun _ => ⟨rfl, rfl⟩)  | kernel_rfl) ?_) )
    try (conv => whnf)
    exact resP.mk rfl (Sees.int (by rw [checkM, if_neg g12, if_pos (by simpa using g3)]))
  have hck : checkM f len offs = if f.any (outB offs) then 2 else 0 := by
    rw [checkM, if_neg g12, if_neg (by simpa using g3)]
  repeat ((conv => whnf); first | (refine And.intro (by first | rfl | exact Or.inl ⟨_, rfl⟩ | exact Or.inr rfl | exact le_b rfl | ((repeat' (first | exact Els.nil _ | refine Els.cons rfl rfl ?_)); done) | exact Els.map (fun _ => ⟨rfl, rfl⟩)  | kernel_rfl) ?_) )
  try (conv => whnf)
  refine LoopK.run mixed [] (fun (k : Nat) => k ≤ f.length ∧ ∀ j x, j < k → f[j]? = some x → outB offs x = false) (fun k => [(0, encIs f), (2, .int .i64 offs), (7, .int .i64 k)]) (fun k => St.none) (fun k => f.length - k) 0 ⟨by simp, by simp⟩ ?_ ?_
  · refine Fits.mk' rfl rfl rfl rfl ?_ ?_ ?_ ?_ ?_ <;> repeat' (first | exact trivial | refine And.intro ?_ ?_ | exact Sees.of_eq rfl | exact lt_b rfl | rfl )
  rintro k ⟨hk, hinv⟩
  have hs := shl1 (n := offs) (by omega) (by omega)
  have hp1 := pow_le62 (n := offs.toNat) (by omega)
  have hp2 := pow_pos' offs.toNat
  have hw : IntKind.i64.wrap (2 ^ offs.toNat - 1) = 2 ^ offs.toNat - 1 := w64 (by omega) (by omega)
  repeat ((conv => whnf); first | (refine And.intro (by first | rfl | exact Or.inl ⟨_, rfl⟩ | exact Or.inr rfl | exact le_b rfl | ((repeat' (first | exact Els.nil _ | refine Els.cons rfl rfl ?_)); done) | exact Els.map (fun _ => ⟨rfl, rfl⟩)  | kernel_rfl) ?_) )
  try (conv => whnf)
  refine BrK.mk (fun hb => ?_) (fun hb => ?_) <;> (try rw [hb])
  · have hlt : k < f.length := lenLt hb
    obtain ⟨x, hgx⟩ := getLt hlt
    have hmx := getMap (f := encI) hgx
    repeat ((conv => whnf); first | (refine And.intro (by first | rfl | exact Or.inl ⟨_, rfl⟩ | exact Or.inr rfl | exact le_b rfl | ((repeat' (first | exact Els.nil _ | refine Els.cons rfl rfl ?_)); done) | exact Els.map (fun _ => ⟨rfl, rfl⟩) | exact inbMap hlt | exact (by omega : (0 : Int) ≤ offs) | kernel_rfl) ?_) | rw [hmx])
    try (conv => whnf)
    rw [hs, hw]
    first | refine CallK.data rfl (c_in44 L _ _ _) rfl ?_ | refine CallP.data rfl (c_in44 L _ _ _) rfl ?_
    rw [in_out]
    repeat ((conv => whnf); first | (refine And.intro (by first | rfl | exact Or.inl ⟨_, rfl⟩ | exact Or.inr rfl | exact le_b rfl | ((repeat' (first | exact Els.nil _ | refine Els.cons rfl rfl ?_)); done) | exact Els.map (fun _ => ⟨rfl, rfl⟩)  | kernel_rfl) ?_) )
    try (conv => whnf)
    refine BrK.mk (fun h2 => ?_) (fun h2 => ?_) <;> (try rw [h2])
    · repeat ((conv => whnf); first | (refine And.intro (by first | rfl | exact Or.inl ⟨_, rfl⟩ | exact Or.inr rfl | exact le_b rfl | ((repeat' (first | exact Els.nil _ | refine Els.cons rfl rfl ?_)); done) | exact Els.map (fun _ => ⟨rfl, rfl⟩)  | kernel_rfl) ?_) )
      try (conv => whnf)
      exact resP.mk rfl (Sees.int (by rw [hck, if_pos (List.any_eq_true.2 ⟨x, List.mem_of_getElem? hgx, by simpa using h2⟩)]))
    · repeat ((conv => whnf); first | (refine And.intro (by first | rfl | exact Or.inl ⟨_, rfl⟩ | exact Or.inr rfl | exact le_b rfl | ((repeat' (first | exact Els.nil _ | refine Els.cons rfl rfl ?_)); done) | exact Els.map (fun _ => ⟨rfl, rfl⟩)  | kernel_rfl) ?_) )
      try (conv => whnf)
      refine ⟨k + 1, ⟨by omega, fun j y hj hy => ?_⟩, by omega, ?_⟩
      · rcases Nat.lt_succ_iff_lt_or_eq.1 hj with h | rfl
        · exact hinv j y h hy
        · rw [hgx] at hy; injection hy with hy; subst hy; simpa using h2
      · refine Fits.mk' rfl rfl rfl rfl ?_ ?_ ?_ ?_ ?_ <;> repeat' (first | exact trivial | refine And.intro ?_ ?_ | exact Sees.of_eq rfl | exact lt_b rfl | rfl | exact Sees.int (succI hlt hf))
  · have hk' : k = f.length := by have := lenGe hb; omega
    subst hk'
    repeat ((conv => whnf); first | (refine And.intro (by first | rfl | exact Or.inl ⟨_, rfl⟩ | exact Or.inr rfl | exact le_b rfl | ((repeat' (first | exact Els.nil _ | refine Els.cons rfl rfl ?_)); done) | exact Els.map (fun _ => ⟨rfl, rfl⟩)  | kernel_rfl) ?_) )
    try (conv => whnf)
    have hany : f.any (outB offs) = false := by
      rw [List.any_eq_false]
      intro x hx
      obtain ⟨j, hj⟩ := List.getElem?_of_mem hx
      simp [hinv j x (List.getElem?_eq_some_iff.1 hj).1 hj]
    exact resP.mk rfl (Sees.int (by rw [hck, hany]; rfl))
end
end HM
