/- Networks: what Check returns. -/
import Derived.Test.YtnklfdnccomndaaGreatDoorS1
import Derived.Test.YtnklfdnccomndaaGreatDoorDa
/- Networks: what Check returns. -/
set_option maxRecDepth 100000
namespace HM
open Go Go.RowKit Go.Proofs
section
variable (L : World → Prop)

theorem getMapI {α : Type} {f : α → AV} {l : List α} {i : Int} {x : α} (h : l[i.toNat]? = some x) : (l.map f)[i.toNat]? = some (f x) := by rw [List.getElem?_map, h]; rfl
theorem inbI {α : Type} {f : α → AV} {l : List α} {i : Int} (h0 : 0 ≤ i) (h : i < l.length) : InB i (l.map f).length := ⟨h0, by simp; omega⟩
theorem half_ok {n : Nat} (h : n ≤ 562949953421312) : IntKind.i64.wrap ((IntKind.u64.wrap (n : Int)).fdiv (2 ^ (min (1 : Int).toNat IntKind.u64.bits))) = ((n / 2 : Nat) : Int) := by
  have hb : IntKind.u64.bits = 64 := rfl
  have h1 : IntKind.u64.wrap (n : Int) = (n : Int) := by
    show (n : Int) % 2 ^ 64 = n
    omega
  have h2 : min (1 : Int).toNat IntKind.u64.bits = 1 := by rw [hb]; decide
  have h3 : (n : Int).fdiv (2 ^ 1) = ((n / 2 : Nat) : Int) := by
    rw [Int.fdiv_eq_ediv_of_nonneg _ (by omega)]; omega
  rw [h1, h2, h3, w64 (by omega) (by omega)]

def orL : List Int → Int
  | [] => 0
  | x :: l => if x = 0 then orL l else x

theorem c_or (l : List Int) (hl : l.length ≤ 281474976710656) : PCall Tryz.prog L 96 [encIs l] (.int .i64 (orL l)) := by
  refine PCall.intro mixed [] (nt := 18) Tryz.func96 rfl rfl (by simp) ?_
  refine Wk ?_
  refine LoopK.run mixed [] (fun (k : Nat) => k ≤ l.length ∧ orL (l.drop k) = orL l) (fun k => [(3, .int .i64 0), (6, encIs l), (7, .int .i64 l.length), (8, .int .i64 k)]) (fun k => St.none) (fun k => l.length - k) 0 ⟨by simp, by simp⟩ ?_ ?_
  · refine Fits.mk' rfl rfl rfl rfl ?_ ?_ ?_ ?_ ?_ <;> repeat' (first | exact trivial | refine And.intro ?_ ?_ | exact Sees.of_eq rfl | exact lt_b rfl | rfl | exact Sees.int (by simp))
  rintro k ⟨hk, hinv⟩
  refine Wk ?_
  refine BrK.mk (fun hb => ?_) (fun hb => ?_) <;> (try rw [hb])
  · have hlt : k < l.length := by simpa using hb
    obtain ⟨x, hgx⟩ := getLt hlt
    have hmx := getMap (f := encI) hgx
    rw [dropGet hgx] at hinv
    simp only [orL] at hinv
    repeat ((conv => whnf); first | refine sJ ?_ | refine And.intro (by first | exact inbMap hlt | kernel_rfl) ?_ | rw [hmx])
    try (conv => whnf)
    refine BrK.mk (fun h2 => ?_) (fun h2 => ?_) <;> (try rw [h2])
    · refine Wk ?_
      exact resP.mk rfl (Sees.int (by rw [← hinv, if_neg (by simpa using h2)]))
    · refine Wk ?_
      refine ⟨k + 1, ⟨by omega, by rw [← hinv, if_pos (by simpa using h2)]⟩, by omega, ?_⟩
      refine Fits.mk' rfl rfl rfl rfl ?_ ?_ ?_ ?_ ?_ <;> repeat' (first | exact trivial | refine And.intro ?_ ?_ | exact Sees.of_eq rfl | exact lt_b rfl | rfl | exact Sees.int (succI hlt hl))
  · have hk' : k = l.length := by simp at hb; omega
    subst hk'
    refine Wk ?_
    exact resP.mk rfl (Sees.int (by rw [← hinv, List.drop_length]; rfl))

theorem c_IndexFuncInts (l : List Int) (p : Int → Bool) (g : Nat) (caps : List AV) (hl : l.length ≤ 281474976710656) (hcb : callable Tryz.prog g = true) (hc : fzs caps = some caps) (hp : ∀ x ∈ l, PCall Tryz.prog L g (encI x :: caps) (.bool (p x))) :
    PCall Tryz.prog L 116 [.sl false (l.map encI), .fn g caps] (.int .i64 (idxF p l)) := by
  refine PCall.intro mixed [] (nt := 19) Tryz.func116 rfl rfl (by simp) ?_
  refine Wk ?_
  refine LoopK.run mixed [] (fun (k : Nat) => k ≤ l.length ∧ ∀ j x, j < k → l[j]? = some x → p x = false) (fun k => [(0, .sl false (l.map encI)), (1, .fn g caps), (7, .int .i64 l.length), (8, .int .i64 k)]) (fun k => St.none) (fun k => l.length - k) 0 ⟨by simp, by simp⟩ ?_ ?_
  · refine Fits.mk' rfl rfl rfl rfl ?_ ?_ ?_ ?_ ?_ <;> repeat' (first | exact trivial | refine And.intro ?_ ?_ | exact Sees.of_eq rfl | exact lt_b rfl | rfl | exact Sees.int (by simp) | exact fzs_okk hc)
  rintro k ⟨hk, hinv⟩
  refine Wk ?_
  refine BrK.mk (fun hb => ?_) (fun hb => ?_) <;> (try rw [hb])
  · have hlt : k < l.length := by simpa using hb
    obtain ⟨x, hgx⟩ := getLt hlt
    have hmx := getMap (f := encI) hgx
    repeat ((conv => whnf); first | refine sJ ?_ | refine And.intro (by first | exact inbMap hlt | kernel_rfl) ?_ | rw [hmx])
    try (conv => whnf)
    refine CallK.data hcb (hp x (List.mem_of_getElem? hgx)) (by show (match fz _, fzs caps with | some a, some b => some (a :: b) | _, _ => none) = _; rw [hc]; rfl) ?_
    refine Wk ?_
    refine BrK.mk (fun h2 => ?_) (fun h2 => ?_) <;> (try rw [h2])
    · refine Wk ?_
      exact resP.mk rfl (Sees.int (idxF_some hlt hinv hgx h2).symm)
    · refine Wk ?_
      refine ⟨k + 1, ⟨by omega, fun j y hj hy => ?_⟩, by omega, ?_⟩
      · rcases Nat.lt_succ_iff_lt_or_eq.1 hj with h | rfl
        · exact hinv j y h hy
        · rw [hgx] at hy; injection hy with hy; subst hy; exact h2
      · refine Fits.mk' rfl rfl rfl rfl ?_ ?_ ?_ ?_ ?_ <;> repeat' (first | exact trivial | refine And.intro ?_ ?_ | exact Sees.of_eq rfl | exact lt_b rfl | rfl | exact Sees.int (succI hlt hl) | exact fzs_okk hc)
  · have hk' : k = l.length := by simp at hb; omega
    subst hk'
    refine Wk ?_
    exact resP.mk rfl (Sees.int (idxF_none hinv).symm)

theorem c_ContainsFuncInts (l : List Int) (p : Int → Bool) (g : Nat) (caps : List AV) (hl : l.length ≤ 281474976710656) (hcb : callable Tryz.prog g = true) (hc : fzs caps = some caps) (hp : ∀ x ∈ l, PCall Tryz.prog L g (encI x :: caps) (.bool (p x))) :
    PCall Tryz.prog L 94 [.sl false (l.map encI), .fn g caps] (.bool (l.any p)) := by
  refine PCall.intro mixed [] (nt := 9) Tryz.func94 rfl rfl (by simp) ?_
  refine Wk ?_
  refine CallK.data rfl (c_IndexFuncInts L l p g caps hl hcb hc hp) (by show (match fz _, fzs [AV.fn g caps] with | some a, some b => some (a :: b) | _, _ => none) = _; rw [show fzs [AV.fn g caps] = some [AV.fn g caps] from by simp [fz, fzs, hc]]; rfl) ?_
  refine Wk ?_
  exact resP.mk rfl (Sees.bool (idxF_any p l))

end
end HM

/- Networks: Check, Index, Usable. -/
set_option maxRecDepth 100000
namespace HM
open Go Go.RowKit Go.Proofs
section
variable (L : World → Prop)

end
end HM

/- Flows and routes: what Check returns. -/
set_option maxRecDepth 100000
namespace HM
open Go Go.RowKit Go.Proofs
section
variable (L : World → Prop)

theorem c_fnode (nodes a : Int) : PCall Tryz.prog L 92 [.int .i64 a, .cptr (.agg [.int .i64 nodes]) 0] (.bool (insB a nodes)) := by
  refine PCall.intro mixed [] (nt := 11) Tryz.func92 rfl rfl (by simp) ?_
  refine Wk ?_
  refine BrK.mk (fun h => ?_) (fun h => ?_) <;> (try rw [h])
  · refine Wk ?_
    exact resP.mk rfl (Sees.bool (by simp [insB]; simp at h; omega))
  · refine Wk ?_
    exact resP.mk rfl (Sees.bool (by simp [insB]; simp at h; omega))

theorem c_fcheck (nodes : Int) (f : Flow) : PCall Tryz.prog L 70 [.int .i64 nodes, f.av] (.int .i64 (flowE nodes f)) := by
  refine PCall.intro mixed [] (nt := 69) Tryz.func70 rfl rfl (by simp) ?_
  refine Wk ?_
  refine BrK.mk (fun h1 => ?_) (fun h1 => ?_) <;> (try rw [h1])
  · refine Wk ?_
    exact resP.mk rfl (Sees.int (by rw [flowE, if_pos (.inl (by simpa using h1))]))
  refine Wk ?_
  refine BrK.mk (fun h2 => ?_) (fun h2 => ?_) <;> (try rw [h2])
  · refine Wk ?_
    exact resP.mk rfl (Sees.int (by rw [flowE, if_pos (.inr (.inl (by simpa using h2)))]))
  refine Wk ?_
  first | refine CallK.box rfl (c_fnode L nodes f.src) rfl rfl ?_ | refine CallP.box rfl (c_fnode L nodes f.src) rfl rfl ?_
  refine Wk ?_
  refine BrK.mk (fun h3 => ?_) (fun h3 => ?_) <;> (try rw [h3])
  · refine Wk ?_
    exact resP.mk rfl (Sees.int (by rw [flowE, if_pos (.inr (.inr (.inl (by simpa using h3))))]))
  refine Wk ?_
  first | refine CallK.box rfl (c_fnode L nodes f.dst) rfl rfl ?_ | refine CallP.box rfl (c_fnode L nodes f.dst) rfl rfl ?_
  refine Wk ?_
  refine BrK.mk (fun h4 => ?_) (fun h4 => ?_) <;> (try rw [h4])
  · refine Wk ?_
    exact resP.mk rfl (Sees.int (by rw [flowE, if_pos (.inr (.inr (.inr (by simpa using h4))))]))
  have e1 : ¬ (f.id < 0 ∨ 255 < f.id ∨ insB f.src nodes = false ∨ insB f.dst nodes = false) := by simp at h1 h2 h3 h4; simp [h3, h4]; omega
  refine Wk ?_
  refine BrK.mk (fun g1 => ?_) (fun g1 => ?_) <;> (try rw [g1])
  · refine Wk ?_
    exact resP.mk rfl (Sees.int (by rw [flowE, if_neg e1, if_pos (by simp at g1; omega)]))
  refine Wk ?_
  refine BrK.mk (fun g2 => ?_) (fun g2 => ?_) <;> (try rw [g2])
  · refine Wk ?_
    exact resP.mk rfl (Sees.int (by rw [flowE, if_neg e1, if_pos (by simp at g2; omega)]))
  refine Wk ?_
  refine BrK.mk (fun g3 => ?_) (fun g3 => ?_) <;> (try rw [g3])
  · refine Wk ?_
    exact resP.mk rfl (Sees.int (by rw [flowE, if_neg e1, if_pos (by simp at g3; omega)]))
  refine Wk ?_
  refine BrK.mk (fun g4 => ?_) (fun g4 => ?_) <;> (try rw [g4])
  · refine Wk ?_
    exact resP.mk rfl (Sees.int (by rw [flowE, if_neg e1, if_pos (by simp at g4; omega)]))
  refine Wk ?_
  refine BrK.mk (fun g5 => ?_) (fun g5 => ?_) <;> (try rw [g5])
  · refine Wk ?_
    exact resP.mk rfl (Sees.int (by rw [flowE, if_neg e1, if_pos (by simp at g5; omega)]))
  refine Wk ?_
  refine BrK.mk (fun g6 => ?_) (fun g6 => ?_) <;> (try rw [g6])
  · refine Wk ?_
    exact resP.mk rfl (Sees.int (by rw [flowE, if_neg e1, if_pos (by simp at g6; omega)]))
  have e2 : ¬ (f.period < 1 ∨ 512 < f.period ∨ f.phase < 0 ∨ f.period ≤ f.phase ∨ f.dead < 1 ∨ f.period < f.dead) := by simp at g1 g2 g3 g4 g5 g6; omega
  refine Wk ?_
  refine BrK.mk (fun g7 => ?_) (fun g7 => ?_) <;> (try rw [g7])
  · refine Wk ?_
    exact resP.mk rfl (Sees.int (by rw [flowE, if_neg e1, if_neg e2, if_pos (by simpa using g7)]))
  refine Wk ?_
  exact resP.mk rfl (Sees.int (by rw [flowE, if_neg e1, if_neg e2, if_neg (by simpa using g7)]))

theorem c_FCheck (nodes : Int) (l : List Flow) (hl : l.length ≤ 281474976710656) : PCall Tryz.prog L 52 [.int .i64 nodes, encFlows l] (.tup [.int .i64 (flowsE nodes l).1, .int .i64 (flowsE nodes l).2]) := by
  refine PCall.intro mixed [] (nt := 47) Tryz.func52 rfl rfl (by simp) ?_
  refine Wk ?_
  refine BrK.mk (fun h1 => ?_) (fun h1 => ?_) <;> (try rw [h1])
  · refine Wk ?_
    exact resP.mk rfl (Sees.of_eq (by rw [flowsE, if_pos (.inl (by simpa using h1))]))
  refine Wk ?_
  refine BrK.mk (fun h2 => ?_) (fun h2 => ?_) <;> (try rw [h2])
  · refine Wk ?_
    exact resP.mk rfl (Sees.of_eq (by rw [flowsE, if_pos (.inr (by simpa using h2))]))
  have e1 : ¬ (nodes < 2 ∨ 32 < nodes) := by simp at h1 h2; omega
  refine Wk ?_
  refine BrK.mk (fun h3 => ?_) (fun h3 => ?_) <;> (try rw [h3])
  · refine Wk ?_
    exact resP.mk rfl (Sees.of_eq (by rw [flowsE, if_neg e1, if_pos (by simp at h3; omega)]))
  have e2 : ¬ (16 < l.length) := by simp at h3; omega
  rw [show flowsE nodes l = firstAt (flowAt nodes l) l.length by rw [flowsE, if_neg e1, if_neg e2]]
  refine Wk ?_
  refine LoopK.run mixed [] (fun (k : Nat) => k ≤ l.length ∧ ∀ j, j < k → flowAt nodes l j = 0) (fun k => [(0, .int .i64 nodes), (1, encFlows l), (18, encFlows l), (19, .int .i64 l.length), (20, .int .i64 k)]) (fun k => St.none) (fun k => l.length - k) 0 ⟨by simp, by simp⟩ ?_ ?_
  · refine Fits.mk' rfl rfl rfl rfl ?_ ?_ ?_ ?_ ?_ <;> repeat' (first | exact trivial | refine And.intro ?_ ?_ | exact Sees.of_eq rfl | exact lt_b rfl | rfl | exact Sees.int (by simp))
  rintro k ⟨hk, hinv⟩
  refine Wk ?_
  refine BrK.mk (fun hb => ?_) (fun hb => ?_) <;> (try rw [hb])
  · have hlt : k < l.length := by simpa using hb
    obtain ⟨f, hgf⟩ := getLt hlt
    have hmf := getMap (f := Flow.av) hgf
    have hE : flowAt nodes l k = if flowE nodes f ≠ 0 then flowE nodes f else if flowO l k f = false then 5 else 0 := by unfold flowAt; rw [hgf]
    have next : flowAt nodes l k = 0 → ∀ j, j < k + 1 → flowAt nodes l j = 0 := fun h0 j hj => by
      rcases Nat.lt_succ_iff_lt_or_eq.1 hj with h | rfl
      · exact hinv j h
      · exact h0
    repeat ((conv => whnf); first | refine sJ ?_ | refine And.intro (by first | exact inbMap hlt | kernel_rfl) ?_ | rw [hmf])
    try (conv => whnf)
    first | refine CallK.data rfl (c_fcheck L nodes f) rfl ?_ | refine CallP.data rfl (c_fcheck L nodes f) rfl ?_
    refine Wk ?_
    refine BrK.mk (fun hc => ?_) (fun hc => ?_) <;> (try rw [hc])
    · refine Wk ?_
      have hc' : flowE nodes f ≠ 0 := by simpa using hc
      have hv : flowAt nodes l k = flowE nodes f := by rw [hE, if_pos hc']
      exact resP.mk rfl (Sees.of_eq (by rw [firstAt_hit hinv (by rw [hv]; exact hc') hlt, hv]))
    have hc' : ¬ flowE nodes f ≠ 0 := by simpa using hc
    rw [if_neg hc'] at hE
    refine Wk ?_
    refine BrK.mk (fun hp => ?_) (fun hp => ?_) <;> (try rw [hp])
    · have hpos : 0 < k := by simpa using hp
      obtain ⟨j, rfl⟩ : ∃ j, k = j + 1 := ⟨k - 1, by omega⟩
      obtain ⟨p, hgp⟩ := getLt (l := l) (k := j) (by omega)
      have hmp := getMap (f := Flow.av) hgp
      have hw : IntKind.i64.wrap (((j + 1 : Nat) : Int) - 1) = (j : Int) := by rw [w64] <;> omega
      have hO : flowO l (j + 1) f = decide (p.id < f.id) := by simp only [flowO, hgp]
      rw [hO] at hE
      repeat ((conv => whnf); first | refine sJ ?_ | refine And.intro (by first | (rw [hw]; exact inbMap (by omega)) | kernel_rfl) ?_ | rw [hw] | rw [hmp])
      try (conv => whnf)
      refine BrK.mk (fun hq => ?_) (fun hq => ?_) <;> (try rw [hq])
      · refine Wk ?_
        have hv : flowAt nodes l (j + 1) = 5 := by rw [hE, if_pos (by simpa using hq)]
        exact resP.mk rfl (Sees.of_eq (by rw [firstAt_hit hinv (by rw [hv]; decide) hlt, hv]))
      · refine Wk ?_
        refine ⟨j + 2, ⟨by omega, next (by rw [hE, if_neg (by simp at hq; simp; omega)])⟩, by omega, ?_⟩
        refine Fits.mk' rfl rfl rfl rfl ?_ ?_ ?_ ?_ ?_ <;> repeat' (first | exact trivial | refine And.intro ?_ ?_ | exact Sees.of_eq rfl | exact lt_b rfl | rfl | exact Sees.int (succI hlt (by omega)))
    · have hz : k = 0 := by simp at hp; omega
      subst hz
      refine Wk ?_
      refine ⟨1, ⟨by omega, next (by rw [hE, if_neg (by simp [flowO])])⟩, by omega, ?_⟩
      refine Fits.mk' rfl rfl rfl rfl ?_ ?_ ?_ ?_ ?_ <;> repeat' (first | exact trivial | refine And.intro ?_ ?_ | exact Sees.of_eq rfl | exact lt_b rfl | rfl | exact Sees.int (succI hlt (by omega)))
  · have hk' : k = l.length := by simp at hb; omega
    subst hk'
    refine Wk ?_
    exact resP.mk rfl (Sees.of_eq (by rw [firstAt_zero hinv]))

end
end HM
