/- A frame is delivered at most once, within its window. -/
import Derived.Test.YtnhelkbmeggpkaaGreatDoorS94
import Derived.Test.YtnhelkbmeggpkaaGreatDoorS84
import Derived.Test.YtnhelkbmeggpkaaGreatDoorS69

set_option maxRecDepth 100000
namespace HM
open Go Go.RowKit Go.Proofs
section
variable (L : World → Prop)

theorem c_Window (f : Flow) (frame : Int) : PCall Tryz.prog L 33 [f.av, .int .i64 frame] (.tup [.int .i64 (winM f frame).1.1, .int .i64 (winM f frame).1.2, .int .i64 (winM f frame).2]) := by
  refine PCall.intro mixed [] (nt := 24) Tryz.func33 rfl rfl (by simp) ?_
  repeat ((conv => whnf); first | (refine And.intro (by first | rfl | exact ⟨rfl, rfl⟩ | exact Or.inl ⟨_, rfl⟩ | exact Or.inr rfl | exact le_b rfl | ((repeat' (first | exact Els.nil _ | refine Els.cons rfl rfl ?_)); done) | exact Els.map (fun _ => ⟨rfl, rfl⟩)  | kernel_rfl) ?_) )
  try (conv => whnf)
  first | refine CallK.data rfl (c_relF L f frame) rfl ?_ | refine CallP.data rfl (c_relF L f frame) rfl ?_
  repeat ((conv => whnf); first | (refine And.intro (by first | rfl | exact ⟨rfl, rfl⟩ | exact Or.inl ⟨_, rfl⟩ | exact Or.inr rfl | exact le_b rfl | ((repeat' (first | exact Els.nil _ | refine Els.cons rfl rfl ?_)); done) | exact Els.map (fun _ => ⟨rfl, rfl⟩)  | kernel_rfl) ?_) )
  try (conv => whnf)
  refine BrK.mk (fun h1 => ?_) (fun h1 => ?_) <;> (try rw [h1])
  · repeat ((conv => whnf); first | (refine And.intro (by first | rfl | exact ⟨rfl, rfl⟩ | exact Or.inl ⟨_, rfl⟩ | exact Or.inr rfl | exact le_b rfl | ((repeat' (first | exact Els.nil _ | refine Els.cons rfl rfl ?_)); done) | exact Els.map (fun _ => ⟨rfl, rfl⟩)  | kernel_rfl) ?_) )
    try (conv => whnf)
    exact resP.mk rfl (Sees.of_eq (by rw [winM, if_pos (by simpa using h1)]))
  have h1' : (relF f frame).2 = 0 := by simpa using h1
  have hb : 0 ≤ (relF f frame).1 ∧ (relF f frame).1 ≤ 1099511627776 ∧ flowE 32 f = 0 := by
    unfold relF at h1' ⊢
    split at h1'
    · cases h1'
    split at h1'
    · cases h1'
    rename_i g1 g2
    rw [if_neg g1, if_neg g2]
    have hf : flowE 32 f = 0 := by simpa using g1
    obtain ⟨q1, q2, q3, q4, q5, q6, q7, q8, q9, q10, q11, q12, q13⟩ := flowE_ok hf
    have hm0 : 0 ≤ frame * f.period := Int.mul_nonneg (by omega) (by omega)
    exact ⟨by simp only; omega, by simp only; omega, hf⟩
  obtain ⟨b1, b2, b3⟩ := hb
  obtain ⟨q1, q2, q3, q4, q5, q6, q7, q8, q9, q10, q11, q12, q13⟩ := flowE_ok b3
  have hw1 : IntKind.i64.wrap ((relF f frame).1 + f.period) = (relF f frame).1 + f.period := w64 (by omega) (by omega)
  have hw2 : IntKind.i64.wrap ((relF f frame).1 + f.period - 1) = (relF f frame).1 + f.period - 1 := w64 (by omega) (by omega)
  repeat ((conv => whnf); first | (refine And.intro (by first | rfl | exact ⟨rfl, rfl⟩ | exact Or.inl ⟨_, rfl⟩ | exact Or.inr rfl | exact le_b rfl | ((repeat' (first | exact Els.nil _ | refine Els.cons rfl rfl ?_)); done) | exact Els.map (fun _ => ⟨rfl, rfl⟩) | exact trivial | kernel_rfl) ?_) | rw [hw1] | rw [hw2])
  try (conv => whnf)
  exact resP.mk rfl (Sees.of_eq (by rw [winM, if_neg (by omega)]))

theorem c_IndexFuncAtt (l : List Att) (p : Att → Bool) (g : Nat) (caps : List AV) (hl : l.length ≤ 281474976710656) (hcb : callable Tryz.prog g = true) (hc : fzs caps = some caps) (hp : ∀ x ∈ l, PCall Tryz.prog L g (Att.av x :: caps) (.bool (p x))) :
    PCall Tryz.prog L 75 [.sl false (l.map Att.av), .fn g caps] (.int .i64 (idxF p l)) := by
  refine PCall.intro mixed [] (nt := 19) Tryz.func75 rfl rfl (by simp) ?_
  repeat ((conv => whnf); first | (refine And.intro (by first | rfl | exact ⟨rfl, rfl⟩ | exact Or.inl ⟨_, rfl⟩ | exact Or.inr rfl | exact le_b rfl | ((repeat' (first | exact Els.nil _ | refine Els.cons rfl rfl ?_)); done) | exact Els.map (fun _ => ⟨rfl, rfl⟩)  | kernel_rfl) ?_) )
  try (conv => whnf)
  refine LoopK.run mixed [] (fun (k : Nat) => k ≤ l.length ∧ ∀ j x, j < k → l[j]? = some x → p x = false) (fun k => [(0, .sl false (l.map Att.av)), (1, .fn g caps), (7, .int .i64 l.length), (8, .int .i64 k)]) (fun k => St.none) (fun k => l.length - k) 0 ⟨by simp, by simp⟩ ?_ ?_
  · refine Fits.mk' rfl rfl rfl rfl ?_ ?_ ?_ ?_ ?_ <;> repeat' (first | exact trivial | refine And.intro ?_ ?_ | exact Sees.of_eq rfl | exact lt_b rfl | rfl | exact Sees.int (by simp) | exact fzs_okk hc)
  rintro k ⟨hk, hinv⟩
  repeat ((conv => whnf); first | (refine And.intro (by first | rfl | exact ⟨rfl, rfl⟩ | exact Or.inl ⟨_, rfl⟩ | exact Or.inr rfl | exact le_b rfl | ((repeat' (first | exact Els.nil _ | refine Els.cons rfl rfl ?_)); done) | exact Els.map (fun _ => ⟨rfl, rfl⟩)  | kernel_rfl) ?_) )
  try (conv => whnf)
  refine BrK.mk (fun hb => ?_) (fun hb => ?_) <;> (try rw [hb])
  · have hlt : k < l.length := by simpa using hb
    obtain ⟨x, hgx⟩ := getLt hlt
    have hmx := getMap (f := Att.av) hgx
    repeat ((conv => whnf); first | (refine And.intro (by first | rfl | exact ⟨rfl, rfl⟩ | exact Or.inl ⟨_, rfl⟩ | exact Or.inr rfl | exact le_b rfl | ((repeat' (first | exact Els.nil _ | refine Els.cons rfl rfl ?_)); done) | exact Els.map (fun _ => ⟨rfl, rfl⟩) | exact inbMap hlt | kernel_rfl) ?_) | rw [hmx])
    try (conv => whnf)
    refine CallK.data hcb (hp x (List.mem_of_getElem? hgx)) (by show (match fz _, fzs caps with | some a, some b => some (a :: b) | _, _ => none) = _; rw [hc]; rfl) ?_
    repeat ((conv => whnf); first | (refine And.intro (by first | rfl | exact ⟨rfl, rfl⟩ | exact Or.inl ⟨_, rfl⟩ | exact Or.inr rfl | exact le_b rfl | ((repeat' (first | exact Els.nil _ | refine Els.cons rfl rfl ?_)); done) | exact Els.map (fun _ => ⟨rfl, rfl⟩)  | kernel_rfl) ?_) )
    try (conv => whnf)
    refine BrK.mk (fun h2 => ?_) (fun h2 => ?_) <;> (try rw [h2])
    · repeat ((conv => whnf); first | (refine And.intro (by first | rfl | exact ⟨rfl, rfl⟩ | exact Or.inl ⟨_, rfl⟩ | exact Or.inr rfl | exact le_b rfl | ((repeat' (first | exact Els.nil _ | refine Els.cons rfl rfl ?_)); done) | exact Els.map (fun _ => ⟨rfl, rfl⟩)  | kernel_rfl) ?_) )
      try (conv => whnf)
      exact resP.mk rfl (Sees.int (idxF_some hlt hinv hgx h2).symm)
    · repeat ((conv => whnf); first | (refine And.intro (by first | rfl | exact ⟨rfl, rfl⟩ | exact Or.inl ⟨_, rfl⟩ | exact Or.inr rfl | exact le_b rfl | ((repeat' (first | exact Els.nil _ | refine Els.cons rfl rfl ?_)); done) | exact Els.map (fun _ => ⟨rfl, rfl⟩)  | kernel_rfl) ?_) )
      try (conv => whnf)
      refine ⟨k + 1, ⟨by omega, fun j y hj hy => ?_⟩, by omega, ?_⟩
      · rcases Nat.lt_succ_iff_lt_or_eq.1 hj with h | rfl
        · exact hinv j y h hy
        · rw [hgx] at hy; injection hy with hy; subst hy; exact h2
      · refine Fits.mk' rfl rfl rfl rfl ?_ ?_ ?_ ?_ ?_ <;> repeat' (first | exact trivial | refine And.intro ?_ ?_ | exact Sees.of_eq rfl | exact lt_b rfl | rfl | exact Sees.int (succI hlt hl) | exact fzs_okk hc)
  · have hk' : k = l.length := by simp at hb; omega
    subst hk'
    repeat ((conv => whnf); first | (refine And.intro (by first | rfl | exact ⟨rfl, rfl⟩ | exact Or.inl ⟨_, rfl⟩ | exact Or.inr rfl | exact le_b rfl | ((repeat' (first | exact Els.nil _ | refine Els.cons rfl rfl ?_)); done) | exact Els.map (fun _ => ⟨rfl, rfl⟩)  | kernel_rfl) ?_) )
    try (conv => whnf)
    exact resP.mk rfl (Sees.int (idxF_none hinv).symm)

theorem c_ContainsFuncAtt (l : List Att) (p : Att → Bool) (g : Nat) (caps : List AV) (hl : l.length ≤ 281474976710656) (hcb : callable Tryz.prog g = true) (hc : fzs caps = some caps) (hp : ∀ x ∈ l, PCall Tryz.prog L g (Att.av x :: caps) (.bool (p x))) :
    PCall Tryz.prog L 34 [.sl false (l.map Att.av), .fn g caps] (.bool (l.any p)) := by
  refine PCall.intro mixed [] (nt := 9) Tryz.func34 rfl rfl (by simp) ?_
  repeat ((conv => whnf); first | (refine And.intro (by first | rfl | exact ⟨rfl, rfl⟩ | exact Or.inl ⟨_, rfl⟩ | exact Or.inr rfl | exact le_b rfl | ((repeat' (first | exact Els.nil _ | refine Els.cons rfl rfl ?_)); done) | exact Els.map (fun _ => ⟨rfl, rfl⟩)  | kernel_rfl) ?_) )
  try (conv => whnf)
  refine CallK.data rfl (c_IndexFuncAtt L l p g caps hl hcb hc hp) (by show (match fz _, fzs [AV.fn g caps] with | some a, some b => some (a :: b) | _, _ => none) = _; rw [show fzs [AV.fn g caps] = some [AV.fn g caps] from by simp [fz, fzs, hc]]; rfl) ?_
  repeat ((conv => whnf); first | (refine And.intro (by first | rfl | exact ⟨rfl, rfl⟩ | exact Or.inl ⟨_, rfl⟩ | exact Or.inr rfl | exact le_b rfl | ((repeat' (first | exact Els.nil _ | refine Els.cons rfl rfl ?_)); done) | exact Els.map (fun _ => ⟨rfl, rfl⟩)  | kernel_rfl) ?_) )
  try (conv => whnf)
  exact resP.mk rfl (Sees.bool (idxF_any p l))

theorem c_once1 (d o : Del) : PCall Tryz.prog L 32 [o.av, .cptr d.av 0] (.bool (o.flow == d.flow && o.frame == d.frame)) := by
  refine PCall.intro mixed [] (nt := 16) Tryz.func32 rfl rfl (by simp) ?_
  repeat ((conv => whnf); first | (refine And.intro (by first | rfl | exact ⟨rfl, rfl⟩ | exact Or.inl ⟨_, rfl⟩ | exact Or.inr rfl | exact le_b rfl | ((repeat' (first | exact Els.nil _ | refine Els.cons rfl rfl ?_)); done) | exact Els.map (fun _ => ⟨rfl, rfl⟩)  | kernel_rfl) ?_) )
  try (conv => whnf)
  repeat' ((conv => whnf); first | (refine And.intro (by first | rfl | exact ⟨rfl, rfl⟩ | exact Or.inl ⟨_, rfl⟩ | exact Or.inr rfl | exact le_b rfl | ((repeat' (first | exact Els.nil _ | refine Els.cons rfl rfl ?_)); done) | exact Els.map (fun _ => ⟨rfl, rfl⟩)  | kernel_rfl) ?_)  | (refine BrK.mk (fun hb => ?_) (fun hb => ?_) <;> (try rw [hb])))
  all_goals try (conv => whnf)
  all_goals exact resP.mk rfl (Sees.bool (by first | (simp_all []; done) | (simp_all []; omega) | (rw [Bool.eq_iff_iff]; simp_all []; done) | (rw [Bool.eq_iff_iff]; simp_all []; omega)))

theorem c_once2 (a : Att) (d : Del) (l : List Flow) (k : Nat) (f : Flow) (hf : l[k]? = some f) : PCall Tryz.prog L 35 [a.av, .cptr d.av 0, .cptr (.agg [encFlows l]) 0, .cptr (.agg [.int .i64 k]) 0] (.bool (a.slot == d.slot && (a.frame == d.frame && (a.cell.flow == d.flow && (a.cell.dst == f.dst && a.out != 3))))) := by
  have hk := (List.getElem?_eq_some_iff.1 hf).1
  have hmf := getMap (f := Flow.av) hf
  refine PCall.intro mixed [] (nt := 42) Tryz.func35 rfl rfl (by simp) ?_
  repeat ((conv => whnf); first | (refine And.intro (by first | rfl | exact ⟨rfl, rfl⟩ | exact Or.inl ⟨_, rfl⟩ | exact Or.inr rfl | exact le_b rfl | ((repeat' (first | exact Els.nil _ | refine Els.cons rfl rfl ?_)); done) | exact Els.map (fun _ => ⟨rfl, rfl⟩)  | kernel_rfl) ?_) )
  try (conv => whnf)
  repeat' ((conv => whnf); first | (refine And.intro (by first | rfl | exact ⟨rfl, rfl⟩ | exact Or.inl ⟨_, rfl⟩ | exact Or.inr rfl | exact le_b rfl | ((repeat' (first | exact Els.nil _ | refine Els.cons rfl rfl ?_)); done) | exact Els.map (fun _ => ⟨rfl, rfl⟩) | exact inbMap hk | kernel_rfl) ?_) | rw [hmf] | (refine BrK.mk (fun hb => ?_) (fun hb => ?_) <;> (try rw [hb])))
  all_goals try (conv => whnf)
  all_goals exact resP.mk rfl (Sees.bool (by first | (simp_all []; done) | (simp_all []; omega) | (rw [Bool.eq_iff_iff]; simp_all []; done) | (rw [Bool.eq_iff_iff]; simp_all []; omega)))
end
end HM
