/- Masks: what is free in both. -/
import Derived.Test.YtbmgaapcikpnkaaDoorS12

set_option maxRecDepth 100000
namespace HM
open Go Go.RowKit Go.Proofs
section
variable (L : World → Prop)

theorem c_EqualFree (a b : List Int) (ha : a.length ≤ 281474976710656) : PCall Tryd.prog L 22 [encIs a, encIs b] (.bool (sameM a b)) := by
  refine PCall.intro mixed [] (nt := 26) Tryd.func22 rfl rfl (by simp) ?_
  repeat ((conv => whnf); first | (refine And.intro (by first | rfl | exact Or.inl ⟨_, rfl⟩ | exact Or.inr rfl | exact le_b rfl | ((repeat' (first | exact Els.nil _ | refine Els.cons rfl rfl ?_)); done) | exact Els.map (fun _ => ⟨rfl, rfl⟩)  | kernel_rfl) ?_) )
  try (conv => whnf)
  refine BrK.mk (fun g1 => ?_) (fun g1 => ?_) <;> (try rw [g1])
  · repeat ((conv => whnf); first | (refine And.intro (by first | rfl | exact Or.inl ⟨_, rfl⟩ | exact Or.inr rfl | exact le_b rfl | ((repeat' (first | exact Els.nil _ | refine Els.cons rfl rfl ?_)); done) | exact Els.map (fun _ => ⟨rfl, rfl⟩)  | kernel_rfl) ?_) )
    try (conv => whnf)
    exact resP.mk rfl (Sees.bool (by
      rw [eq_comm]; unfold sameM
      exact decide_eq_false fun h => by subst h; simp at g1))
  have g1' : a.length = b.length := by simp at g1; omega
  repeat ((conv => whnf); first | (refine And.intro (by first | rfl | exact Or.inl ⟨_, rfl⟩ | exact Or.inr rfl | exact le_b rfl | ((repeat' (first | exact Els.nil _ | refine Els.cons rfl rfl ?_)); done) | exact Els.map (fun _ => ⟨rfl, rfl⟩)  | kernel_rfl) ?_) )
  try (conv => whnf)
  refine LoopK.run mixed [] (fun (k : Nat) => k ≤ a.length ∧ a.take k = b.take k) (fun k => [(0, encIs a), (1, encIs b), (12, .int .i64 a.length), (13, .int .i64 k)]) (fun k => St.none) (fun k => a.length - k) 0 ⟨by simp, by simp⟩ ?_ ?_
  · refine Fits.mk' rfl rfl rfl rfl ?_ ?_ ?_ ?_ ?_ <;> repeat' (first | exact trivial | refine And.intro ?_ ?_ | exact Sees.of_eq rfl | exact lt_b rfl | rfl | exact Sees.int (by simp))
  rintro k ⟨hk, hinv⟩
  repeat ((conv => whnf); first | (refine And.intro (by first | rfl | exact Or.inl ⟨_, rfl⟩ | exact Or.inr rfl | exact le_b rfl | ((repeat' (first | exact Els.nil _ | refine Els.cons rfl rfl ?_)); done) | exact Els.map (fun _ => ⟨rfl, rfl⟩)  | kernel_rfl) ?_) )
  try (conv => whnf)
  refine BrK.mk (fun hb => ?_) (fun hb => ?_) <;> (try rw [hb])
  · have hlt : k < a.length := by simpa using hb
    obtain ⟨x, hgx⟩ := getLt hlt
    have hmx := getMap (f := encI) hgx
    obtain ⟨y, hgy⟩ := getLt (l := b) (k := k) (by omega)
    have hmy := getMap (f := encI) hgy
    repeat ((conv => whnf); first | (refine And.intro (by first | rfl | exact Or.inl ⟨_, rfl⟩ | exact Or.inr rfl | exact le_b rfl | ((repeat' (first | exact Els.nil _ | refine Els.cons rfl rfl ?_)); done) | exact Els.map (fun _ => ⟨rfl, rfl⟩) | exact inbMap hlt | exact inbMap (by omega) | kernel_rfl) ?_) | rw [hmx] | rw [hmy])
    try (conv => whnf)
    refine BrK.mk (fun h2 => ?_) (fun h2 => ?_) <;> (try rw [h2])
    · repeat ((conv => whnf); first | (refine And.intro (by first | rfl | exact Or.inl ⟨_, rfl⟩ | exact Or.inr rfl | exact le_b rfl | ((repeat' (first | exact Els.nil _ | refine Els.cons rfl rfl ?_)); done) | exact Els.map (fun _ => ⟨rfl, rfl⟩)  | kernel_rfl) ?_) )
      try (conv => whnf)
      exact resP.mk rfl (Sees.bool (by
        rw [eq_comm]; unfold sameM
        exact decide_eq_false fun h => by subst h; rw [hgx] at hgy; injection hgy with hgy; subst hgy; simp at h2))
    · repeat ((conv => whnf); first | (refine And.intro (by first | rfl | exact Or.inl ⟨_, rfl⟩ | exact Or.inr rfl | exact le_b rfl | ((repeat' (first | exact Els.nil _ | refine Els.cons rfl rfl ?_)); done) | exact Els.map (fun _ => ⟨rfl, rfl⟩)  | kernel_rfl) ?_) )
      try (conv => whnf)
      refine ⟨k + 1, ⟨by omega, ?_⟩, by omega, ?_⟩
      · rw [take_succ hgx, take_succ hgy, hinv]; simp at h2; rw [h2]
      · refine Fits.mk' rfl rfl rfl rfl ?_ ?_ ?_ ?_ ?_ <;> repeat' (first | exact trivial | refine And.intro ?_ ?_ | exact Sees.of_eq rfl | exact lt_b rfl | rfl | exact Sees.int (succI hlt ha))
  · have hk' : k = a.length := by simp at hb; omega
    subst hk'
    repeat ((conv => whnf); first | (refine And.intro (by first | rfl | exact Or.inl ⟨_, rfl⟩ | exact Or.inr rfl | exact le_b rfl | ((repeat' (first | exact Els.nil _ | refine Els.cons rfl rfl ?_)); done) | exact Els.map (fun _ => ⟨rfl, rfl⟩)  | kernel_rfl) ?_) )
    try (conv => whnf)
    exact resP.mk rfl (Sees.bool (by
      rw [eq_comm]; unfold sameM
      rw [List.take_length, g1', List.take_length] at hinv
      exact decide_eq_true hinv))

def andI (x y : Int) : Int := IntKind.i64.wrap ↑(BitVec.ofInt IntKind.i64.bits x &&& BitVec.ofInt IntKind.i64.bits y).toNat
def meetL : List Int → List Int → List Int := List.zipWith andI
def meetM (a b : List Int) : List Int × Int :=
  if a.length ≠ b.length then ([], 11) else if 512 < a.length then ([], 8) else if (a ++ b).any (outB 16) then ([], 2) else (meetL a b, 0)

theorem meetL_take {a b : List Int} {k : Nat} {x y : Int} (h1 : a[k]? = some x) (h2 : b[k]? = some y) : meetL (a.take (k + 1)) (b.take (k + 1)) = meetL (a.take k) (b.take k) ++ [andI x y] := by
  have hl : (a.take k).length = (b.take k).length := by
    have := (List.getElem?_eq_some_iff.1 h1).1
    have := (List.getElem?_eq_some_iff.1 h2).1
    simp; omega
  rw [take_succ h1, take_succ h2, meetL, List.zipWith_append hl]
  rfl

theorem c_meet (a b : List Int) (ha : a.length ≤ 281474976710656) (_ : b.length ≤ 281474976710656) : PCall Tryd.prog L 17 [encIs a, encIs b] (.tup [encIs (meetM a b).1, .int .i64 (meetM a b).2]) := by
  refine PCall.intro mixed [] (nt := 44) Tryd.func17 rfl rfl (by simp) ?_
  repeat ((conv => whnf); first | (refine And.intro (by first | rfl | exact Or.inl ⟨_, rfl⟩ | exact Or.inr rfl | exact le_b rfl | ((repeat' (first | exact Els.nil _ | refine Els.cons rfl rfl ?_)); done) | exact Els.map (fun _ => ⟨rfl, rfl⟩)  | kernel_rfl) ?_) )
  try (conv => whnf)
  refine BrK.mk (fun g1 => ?_) (fun g1 => ?_) <;> (try rw [g1])
  · repeat ((conv => whnf); first | (refine And.intro (by first | rfl | exact Or.inl ⟨_, rfl⟩ | exact Or.inr rfl | exact le_b rfl | ((repeat' (first | exact Els.nil _ | refine Els.cons rfl rfl ?_)); done) | exact Els.map (fun _ => ⟨rfl, rfl⟩)  | kernel_rfl) ?_) )
    try (conv => whnf)
    exact resP.mk rfl (Sees.of_eq (by rw [meetM, if_pos (by simp at g1; omega)]; rfl))
  have g1' : a.length = b.length := by simp at g1; omega
  repeat ((conv => whnf); first | (refine And.intro (by first | rfl | exact Or.inl ⟨_, rfl⟩ | exact Or.inr rfl | exact le_b rfl | ((repeat' (first | exact Els.nil _ | refine Els.cons rfl rfl ?_)); done) | exact Els.map (fun _ => ⟨rfl, rfl⟩)  | kernel_rfl) ?_) )
  try (conv => whnf)
  refine BrK.mk (fun g2 => ?_) (fun g2 => ?_) <;> (try rw [g2])
  · repeat ((conv => whnf); first | (refine And.intro (by first | rfl | exact Or.inl ⟨_, rfl⟩ | exact Or.inr rfl | exact le_b rfl | ((repeat' (first | exact Els.nil _ | refine Els.cons rfl rfl ?_)); done) | exact Els.map (fun _ => ⟨rfl, rfl⟩)  | kernel_rfl) ?_) )
    try (conv => whnf)
    exact resP.mk rfl (Sees.of_eq (by rw [meetM, if_neg (by omega), if_pos (by simp at g2; omega)]; rfl))
  have g2' : ¬ 512 < a.length := by simp at g2; omega
  repeat ((conv => whnf); first | (refine And.intro (by first | rfl | exact Or.inl ⟨_, rfl⟩ | exact Or.inr rfl | exact le_b rfl | ((repeat' (first | exact Els.nil _ | refine Els.cons rfl rfl ?_)); done) | exact Els.map (fun _ => ⟨rfl, rfl⟩)  | kernel_rfl) ?_) )
  try (conv => whnf)
  first | refine CallK.data rfl (c_ConcatFree L [a, b] (by simp) (by simp; omega)) rfl ?_ | refine CallP.data rfl (c_ConcatFree L [a, b] (by simp) (by simp; omega)) rfl ?_
  repeat ((conv => whnf); first | (refine And.intro (by first | rfl | exact Or.inl ⟨_, rfl⟩ | exact Or.inr rfl | exact le_b rfl | ((repeat' (first | exact Els.nil _ | refine Els.cons rfl rfl ?_)); done) | exact Els.map (fun _ => ⟨rfl, rfl⟩)  | kernel_rfl) ?_) )
  try (conv => whnf)
  first | refine CallK.data rfl (c_outside L 16) rfl ?_ | refine CallP.data rfl (c_outside L 16) rfl ?_
  repeat ((conv => whnf); first | (refine And.intro (by first | rfl | exact Or.inl ⟨_, rfl⟩ | exact Or.inr rfl | exact le_b rfl | ((repeat' (first | exact Els.nil _ | refine Els.cons rfl rfl ?_)); done) | exact Els.map (fun _ => ⟨rfl, rfl⟩)  | kernel_rfl) ?_) )
  try (conv => whnf)
  first | refine CallK.data rfl (c_ContainsFuncFree L [a, b].flatten (outB 16) 46 [outA 16] (by simp; omega) rfl rfl (fun x _ => c_outside1 L 16 x (by omega) (by omega))) rfl ?_ | refine CallP.data rfl (c_ContainsFuncFree L [a, b].flatten (outB 16) 46 [outA 16] (by simp; omega) rfl rfl (fun x _ => c_outside1 L 16 x (by omega) (by omega))) rfl ?_
  rw [show [a, b].flatten = a ++ b from by simp]
  repeat ((conv => whnf); first | (refine And.intro (by first | rfl | exact Or.inl ⟨_, rfl⟩ | exact Or.inr rfl | exact le_b rfl | ((repeat' (first | exact Els.nil _ | refine Els.cons rfl rfl ?_)); done) | exact Els.map (fun _ => ⟨rfl, rfl⟩)  | kernel_rfl) ?_) )
  try (conv => whnf)
  refine BrK.mk (fun g3 => ?_) (fun g3 => ?_) <;> (try rw [g3])
  · repeat ((conv => whnf); first | (refine And.intro (by first | rfl | exact Or.inl ⟨_, rfl⟩ | exact Or.inr rfl | exact le_b rfl | ((repeat' (first | exact Els.nil _ | refine Els.cons rfl rfl ?_)); done) | exact Els.map (fun _ => ⟨rfl, rfl⟩)  | kernel_rfl) ?_) )
    try (conv => whnf)
    exact resP.mk rfl (Sees.of_eq (by rw [meetM, if_neg (by omega), if_neg g2', if_pos g3]; rfl))
  repeat ((conv => whnf); first | (refine And.intro (by first | rfl | exact Or.inl ⟨_, rfl⟩ | exact Or.inr rfl | exact le_b rfl | ((repeat' (first | exact Els.nil _ | refine Els.cons rfl rfl ?_)); done) | exact Els.map (fun _ => ⟨rfl, rfl⟩)  | kernel_rfl) ?_) )
  try (conv => whnf)
  refine LoopK.born 6 1 3 rfl ?_
  refine LoopK.run mixed [] (fun (k : Nat) => k ≤ a.length) (fun k => [(0, encIs a), (1, encIs b), (26, .int .i64 a.length), (27, .int .i64 k), (6, .own ((meetL (a.take k) (b.take k)).map encI) 1)]) (fun k => ⟨[], [(2, 1), ((meetL (a.take k) (b.take k)).length, 1)], 0, 0, fun k => if k = 1 then 3 else if k = 0 then 26 else 0⟩) (fun k => a.length - k) 0 (by simp) ?_ ?_
  · refine Fits.mk' rfl rfl rfl rfl ?_ ?_ ?_ ?_ ?_ <;> repeat' (first | exact trivial | refine And.intro ?_ ?_ | exact Sees.of_eq rfl | exact lt_b rfl | rfl | exact Sees.int (by simp))
  rintro k hk
  repeat ((conv => whnf); first | (refine And.intro (by first | rfl | exact Or.inl ⟨_, rfl⟩ | exact Or.inr rfl | exact le_b rfl | ((repeat' (first | exact Els.nil _ | refine Els.cons rfl rfl ?_)); done) | exact Els.map (fun _ => ⟨rfl, rfl⟩)  | kernel_rfl) ?_) )
  try (conv => whnf)
  refine BrK.mk (fun hb => ?_) (fun hb => ?_) <;> (try rw [hb])
  · have hlt : k < a.length := by simpa using hb
    obtain ⟨x, hgx⟩ := getLt hlt
    have hmx := getMap (f := encI) hgx
    obtain ⟨y, hgy⟩ := getLt (l := b) (k := k) (by omega)
    have hmy := getMap (f := encI) hgy
    have hll : (meetL (a.take k) (b.take k)).length ≤ 512 := by simp [meetL]; omega
    repeat ((conv => whnf); first | (refine And.intro (by first | rfl | exact Or.inl ⟨_, rfl⟩ | exact Or.inr rfl | exact le_b rfl | ((repeat' (first | exact Els.nil _ | refine Els.cons rfl rfl ?_)); done) | exact Els.map (fun _ => ⟨rfl, rfl⟩) | exact inbMap hlt | exact inbMap (by omega) | exact Els.map (f := encI) (fun _ => ⟨rfl, rfl⟩) | exact (show _ * 8 ≤ _ by simp only [List.length_map, List.length_cons, List.length_nil]; omega) | exact (by simp only [List.length_map, List.length_cons, List.length_nil, maxLen]; omega) | exact (by rw [List.length_map]; rfl) | kernel_rfl) ?_) | rw [hmx] | rw [hmy])
    try (conv => whnf)
    refine ⟨k + 1, by omega, by omega, ?_⟩
    refine Fits.mk' rfl rfl rfl rfl ?_ ?_ ?_ ?_ ?_ <;> repeat' (first | exact trivial | refine And.intro ?_ ?_ | exact Sees.of_eq rfl | exact lt_b rfl | rfl | exact Sees.int (succI hlt (by omega)) | exact Sees.own (by rw [meetL_take hgx hgy]; simp; rfl) | (show (_, _) = (_, _); rw [meetL_take hgx hgy]; simp))
  · have hk' : k = a.length := by simp at hb; omega
    subst hk'
    repeat ((conv => whnf); first | (refine And.intro (by first | rfl | exact Or.inl ⟨_, rfl⟩ | exact Or.inr rfl | exact le_b rfl | ((repeat' (first | exact Els.nil _ | refine Els.cons rfl rfl ?_)); done) | exact Els.map (fun _ => ⟨rfl, rfl⟩)  | kernel_rfl) ?_) )
    try (conv => whnf)
    refine resP.mk rfl (Sees.of_eq ?_)
    rw [meetM, if_neg (by omega), if_neg g2', if_neg (by simp [g3]), List.take_length, g1', List.take_length]; rfl

theorem c_rmeet (a b : List Int) (ha : a.length ≤ 281474976710656) (hb : b.length ≤ 281474976710656) : PCall Tryd.prog L 18 [encIs a, encIs b] (.tup [encIs (meetM a b).1, .int .i64 (meetM a b).2]) := by
  refine PCall.intro mixed [] (nt := 44) Tryd.func18 rfl rfl (by simp) ?_
  repeat ((conv => whnf); first | (refine And.intro (by first | rfl | exact Or.inl ⟨_, rfl⟩ | exact Or.inr rfl | exact le_b rfl | ((repeat' (first | exact Els.nil _ | refine Els.cons rfl rfl ?_)); done) | exact Els.map (fun _ => ⟨rfl, rfl⟩)  | kernel_rfl) ?_) )
  try (conv => whnf)
  refine BrK.mk (fun g1 => ?_) (fun g1 => ?_) <;> (try rw [g1])
  · repeat ((conv => whnf); first | (refine And.intro (by first | rfl | exact Or.inl ⟨_, rfl⟩ | exact Or.inr rfl | exact le_b rfl | ((repeat' (first | exact Els.nil _ | refine Els.cons rfl rfl ?_)); done) | exact Els.map (fun _ => ⟨rfl, rfl⟩)  | kernel_rfl) ?_) )
    try (conv => whnf)
    exact resP.mk rfl (Sees.of_eq (by rw [meetM, if_pos (by simp at g1; omega)]; rfl))
  have g1' : a.length = b.length := by simp at g1; omega
  repeat ((conv => whnf); first | (refine And.intro (by first | rfl | exact Or.inl ⟨_, rfl⟩ | exact Or.inr rfl | exact le_b rfl | ((repeat' (first | exact Els.nil _ | refine Els.cons rfl rfl ?_)); done) | exact Els.map (fun _ => ⟨rfl, rfl⟩)  | kernel_rfl) ?_) )
  try (conv => whnf)
  refine BrK.mk (fun g2 => ?_) (fun g2 => ?_) <;> (try rw [g2])
  · repeat ((conv => whnf); first | (refine And.intro (by first | rfl | exact Or.inl ⟨_, rfl⟩ | exact Or.inr rfl | exact le_b rfl | ((repeat' (first | exact Els.nil _ | refine Els.cons rfl rfl ?_)); done) | exact Els.map (fun _ => ⟨rfl, rfl⟩)  | kernel_rfl) ?_) )
    try (conv => whnf)
    exact resP.mk rfl (Sees.of_eq (by rw [meetM, if_neg (by omega), if_pos (by simp at g2; omega)]; rfl))
  have g2' : ¬ 512 < a.length := by simp at g2; omega
  repeat ((conv => whnf); first | (refine And.intro (by first | rfl | exact Or.inl ⟨_, rfl⟩ | exact Or.inr rfl | exact le_b rfl | ((repeat' (first | exact Els.nil _ | refine Els.cons rfl rfl ?_)); done) | exact Els.map (fun _ => ⟨rfl, rfl⟩)  | kernel_rfl) ?_) )
  try (conv => whnf)
  first | refine CallK.data rfl (c_rmasks L a ha) rfl ?_ | refine CallP.data rfl (c_rmasks L a ha) rfl ?_
  repeat ((conv => whnf); first | (refine And.intro (by first | rfl | exact Or.inl ⟨_, rfl⟩ | exact Or.inr rfl | exact le_b rfl | ((repeat' (first | exact Els.nil _ | refine Els.cons rfl rfl ?_)); done) | exact Els.map (fun _ => ⟨rfl, rfl⟩)  | kernel_rfl) ?_) )
  try (conv => whnf)
  have hfa : (a ++ b).any (outB 16) = (a.any (outB 16) || b.any (outB 16)) := List.any_append
  refine BrK.mk (fun h0 => ?_) (fun h0 => ?_) <;> (try rw [h0])
  · repeat ((conv => whnf); first | (refine And.intro (by first | rfl | exact Or.inl ⟨_, rfl⟩ | exact Or.inr rfl | exact le_b rfl | ((repeat' (first | exact Els.nil _ | refine Els.cons rfl rfl ?_)); done) | exact Els.map (fun _ => ⟨rfl, rfl⟩)  | kernel_rfl) ?_) )
    try (conv => whnf)
    rw [Bool.not_not] at h0
    exact resP.mk rfl (Sees.of_eq (by rw [meetM, if_neg (by omega), if_neg g2', if_pos (by rw [hfa, h0]; rfl)]; rfl))
  repeat ((conv => whnf); first | (refine And.intro (by first | rfl | exact Or.inl ⟨_, rfl⟩ | exact Or.inr rfl | exact le_b rfl | ((repeat' (first | exact Els.nil _ | refine Els.cons rfl rfl ?_)); done) | exact Els.map (fun _ => ⟨rfl, rfl⟩)  | kernel_rfl) ?_) )
  try (conv => whnf)
  first | refine CallK.data rfl (c_rmasks L b hb) rfl ?_ | refine CallP.data rfl (c_rmasks L b hb) rfl ?_
  repeat ((conv => whnf); first | (refine And.intro (by first | rfl | exact Or.inl ⟨_, rfl⟩ | exact Or.inr rfl | exact le_b rfl | ((repeat' (first | exact Els.nil _ | refine Els.cons rfl rfl ?_)); done) | exact Els.map (fun _ => ⟨rfl, rfl⟩)  | kernel_rfl) ?_) )
  try (conv => whnf)
  rw [Bool.not_not] at h0
  refine BrK.mk (fun h1 => ?_) (fun h1 => ?_) <;> (try rw [h1])
  · repeat ((conv => whnf); first | (refine And.intro (by first | rfl | exact Or.inl ⟨_, rfl⟩ | exact Or.inr rfl | exact le_b rfl | ((repeat' (first | exact Els.nil _ | refine Els.cons rfl rfl ?_)); done) | exact Els.map (fun _ => ⟨rfl, rfl⟩)  | kernel_rfl) ?_) )
    try (conv => whnf)
    rw [Bool.not_not] at h1
    exact resP.mk rfl (Sees.of_eq (by rw [meetM, if_neg (by omega), if_neg g2', if_pos (by rw [hfa, h1]; simp)]; rfl))
  rw [Bool.not_not] at h1
  repeat ((conv => whnf); first | (refine And.intro (by first | rfl | exact Or.inl ⟨_, rfl⟩ | exact Or.inr rfl | exact le_b rfl | ((repeat' (first | exact Els.nil _ | refine Els.cons rfl rfl ?_)); done) | exact Els.map (fun _ => ⟨rfl, rfl⟩)  | kernel_rfl) ?_) )
  try (conv => whnf)
  refine LoopK.run mixed [] (fun (k : Nat) => k ≤ a.length) (fun k => [(0, encIs a), (1, encIs b), (7, .int .i64 k), (6, .own ((meetL (a.take k) (b.take k)).map encI) 0)]) (fun k => ⟨[], [((meetL (a.take k) (b.take k)).length, 1)], 0, 0, fun k => if k = 0 then 3 else 0⟩) (fun k => a.length - k) 0 (by simp) ?_ ?_
  · refine Fits.mk' rfl rfl rfl rfl ?_ ?_ ?_ ?_ ?_ <;> repeat' (first | exact trivial | refine And.intro ?_ ?_ | exact Sees.of_eq rfl | exact lt_b rfl | rfl )
  rintro k hk
  repeat ((conv => whnf); first | (refine And.intro (by first | rfl | exact Or.inl ⟨_, rfl⟩ | exact Or.inr rfl | exact le_b rfl | ((repeat' (first | exact Els.nil _ | refine Els.cons rfl rfl ?_)); done) | exact Els.map (fun _ => ⟨rfl, rfl⟩)  | kernel_rfl) ?_) )
  try (conv => whnf)
  refine BrK.mk (fun hb => ?_) (fun hb => ?_) <;> (try rw [hb])
  · have hlt : k < a.length := lenLt hb
    obtain ⟨x, hgx⟩ := getLt hlt
    have hmx := getMap (f := encI) hgx
    obtain ⟨y, hgy⟩ := getLt (l := b) (k := k) (by omega)
    have hmy := getMap (f := encI) hgy
    have hll : (meetL (a.take k) (b.take k)).length ≤ 512 := by simp [meetL]; omega
    repeat ((conv => whnf); first | (refine And.intro (by first | rfl | exact Or.inl ⟨_, rfl⟩ | exact Or.inr rfl | exact le_b rfl | ((repeat' (first | exact Els.nil _ | refine Els.cons rfl rfl ?_)); done) | exact Els.map (fun _ => ⟨rfl, rfl⟩) | exact inbMap hlt | exact inbMap (by omega) | exact Els.map (f := encI) (fun _ => ⟨rfl, rfl⟩) | exact (show _ * 8 ≤ _ by simp only [List.length_map, List.length_cons, List.length_nil]; omega) | exact (by simp only [List.length_map, List.length_cons, List.length_nil, maxLen]; omega) | exact (by rw [List.length_map]; rfl) | kernel_rfl) ?_) | rw [hmx] | rw [hmy])
    try (conv => whnf)
    refine ⟨k + 1, by omega, by omega, ?_⟩
    refine Fits.mk' rfl rfl rfl rfl ?_ ?_ ?_ ?_ ?_ <;> repeat' (first | exact trivial | refine And.intro ?_ ?_ | exact Sees.of_eq rfl | exact lt_b rfl | rfl | exact Sees.int (succI hlt (by omega)) | exact Sees.own (by rw [meetL_take hgx hgy]; simp; rfl) | (show (_, _) = (_, _); rw [meetL_take hgx hgy]; simp))
  · have hk' : k = a.length := by have := lenGe hb; omega
    subst hk'
    repeat ((conv => whnf); first | (refine And.intro (by first | rfl | exact Or.inl ⟨_, rfl⟩ | exact Or.inr rfl | exact le_b rfl | ((repeat' (first | exact Els.nil _ | refine Els.cons rfl rfl ?_)); done) | exact Els.map (fun _ => ⟨rfl, rfl⟩)  | kernel_rfl) ?_) )
    try (conv => whnf)
    refine resP.mk rfl (Sees.of_eq ?_)
    rw [meetM, if_neg (by omega), if_neg g2', if_neg (by simp [hfa, h0, h1]), List.take_length, g1', List.take_length]; rfl
end
end HM
