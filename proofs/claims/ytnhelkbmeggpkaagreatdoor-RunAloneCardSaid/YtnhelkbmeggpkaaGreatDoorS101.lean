/- A flow on its own has the same attempts and deliveries as among others. -/
import Derived.Test.YtnhelkbmeggpkaaGreatDoorS95
import Derived.Test.YtnhelkbmeggpkaaGreatDoorS99
import Derived.Test.YtnhelkbmeggpkaaGreatDoorDb

set_option maxRecDepth 100000
namespace HM
open Go Go.RowKit Go.Proofs

theorem c_alone1 (L : World → Prop) (z y : Att) : PCall Tryz.prog L 36 [z.av, .cptr y.av 0] (.bool (decide (z.slot < y.slot) && (z.frame == y.frame && (z.cell.flow == y.cell.flow && (z.cell.src == y.cell.src && z.cell.dst == y.cell.dst))))) := by
  refine PCall.intro mixed [] (nt := 43) Tryz.func36 rfl rfl (by simp) ?_
  repeat ((conv => whnf); first | (refine And.intro (by first | rfl | exact ⟨rfl, rfl⟩ | exact Or.inl ⟨_, rfl⟩ | exact Or.inr rfl | exact le_b rfl | ((repeat' (first | exact Els.nil _ | refine Els.cons rfl rfl ?_)); done) | exact Els.map (fun _ => ⟨rfl, rfl⟩)  | kernel_rfl) ?_) )
  try (conv => whnf)
  repeat' ((conv => whnf); first | (refine And.intro (by first | rfl | exact ⟨rfl, rfl⟩ | exact Or.inl ⟨_, rfl⟩ | exact Or.inr rfl | exact le_b rfl | ((repeat' (first | exact Els.nil _ | refine Els.cons rfl rfl ?_)); done) | exact Els.map (fun _ => ⟨rfl, rfl⟩)  | kernel_rfl) ?_)  | (refine BrK.mk (fun hb => ?_) (fun hb => ?_) <;> (try rw [hb])))
  all_goals try (conv => whnf)
  all_goals exact resP.mk rfl (Sees.bool (by first | (simp_all []; done) | (simp_all []; omega) | (rw [Bool.eq_iff_iff]; simp_all []; done) | (rw [Bool.eq_iff_iff]; simp_all []; omega)))

def alB (s : Sched) (f : Flow) (A B E : RunL) (p q : AV) : List Ob := [.cells s.av.cells 30, .cells [encAtts A.atts, encDels A.dels] 41, .cells f.av.cells 49, .cells [encAtts B.atts, encDels B.dels] 41, .cells [encAtts A.atts, encDels A.dels] 41, .cells [encAtts E.atts, encDels E.dels] 41, .cells [p, q] 41]
set_option maxHeartbeats 8000000 in
theorem c_RunAlone (l : List Flow) (s : Sched) (x : List Rule) (which : Int) (slots : Int) (hl : l.length ≤ 281474976710656) (hx : ∀ r ∈ x, r.outs.length ≤ 281474976710656) (hxl : x.length ≤ 281474976710656) (hw0 : 0 ≤ which) (hw1 : which ≤ 255) :
    PCall Tryz.prog LW 7 [encFlows l, s.av, encScript x, .int .u8 which, .int .i64 slots] (.bool true) := by
  refine PCall.intro mixed [] (nt := 163) Tryz.func7 rfl rfl (by simp) ?_
  repeat ((conv => whnf); first | (refine And.intro (by first | rfl | exact ⟨rfl, rfl⟩ | exact Or.inl ⟨_, rfl⟩ | exact Or.inr rfl | exact le_b rfl | ((repeat' (first | exact Els.nil _ | refine Els.cons rfl rfl ?_)); done) | exact Els.map (fun _ => ⟨rfl, rfl⟩)  | kernel_rfl) ?_) )
  try (conv => whnf)
  first | refine CallK.data rfl (c_awake36) rfl ?_ | refine CallP.data rfl (c_awake36) rfl ?_
  repeat ((conv => whnf); first | (refine And.intro (by first | rfl | exact ⟨rfl, rfl⟩ | exact Or.inl ⟨_, rfl⟩ | exact Or.inr rfl | exact le_b rfl | ((repeat' (first | exact Els.nil _ | refine Els.cons rfl rfl ?_)); done) | exact Els.map (fun _ => ⟨rfl, rfl⟩)  | kernel_rfl) ?_) )
  try (conv => whnf)
  first | refine CallK.data rfl (c_Few36 LW l s [] x slots) rfl ?_ | refine CallP.data rfl (c_Few36 LW l s [] x slots) rfl ?_
  repeat ((conv => whnf); first | (refine And.intro (by first | rfl | exact ⟨rfl, rfl⟩ | exact Or.inl ⟨_, rfl⟩ | exact Or.inr rfl | exact le_b rfl | ((repeat' (first | exact Els.nil _ | refine Els.cons rfl rfl ?_)); done) | exact Els.map (fun _ => ⟨rfl, rfl⟩)  | kernel_rfl) ?_) )
  try (conv => whnf)
  refine BrK.mk (fun hfew => ?_) (fun hfew => ?_) <;> (try rw [hfew])
  · repeat ((conv => whnf); first | (refine And.intro (by first | rfl | exact ⟨rfl, rfl⟩ | exact Or.inl ⟨_, rfl⟩ | exact Or.inr rfl | exact le_b rfl | ((repeat' (first | exact Els.nil _ | refine Els.cons rfl rfl ?_)); done) | exact Els.map (fun _ => ⟨rfl, rfl⟩)  | kernel_rfl) ?_) )
    try (conv => whnf)
    exact resP.mk rfl (Sees.bool rfl)
  repeat ((conv => whnf); first | (refine And.intro (by first | rfl | exact ⟨rfl, rfl⟩ | exact Or.inl ⟨_, rfl⟩ | exact Or.inr rfl | exact le_b rfl | ((repeat' (first | exact Els.nil _ | refine Els.cons rfl rfl ?_)); done) | exact Els.map (fun _ => ⟨rfl, rfl⟩)  | kernel_rfl) ?_) )
  try (conv => whnf)
  refine BrK.mk (fun hl0 => ?_) (fun hl0 => ?_) <;> (try rw [hl0])
  · repeat ((conv => whnf); first | (refine And.intro (by first | rfl | exact ⟨rfl, rfl⟩ | exact Or.inl ⟨_, rfl⟩ | exact Or.inr rfl | exact le_b rfl | ((repeat' (first | exact Els.nil _ | refine Els.cons rfl rfl ?_)); done) | exact Els.map (fun _ => ⟨rfl, rfl⟩)  | kernel_rfl) ?_) )
    try (conv => whnf)
    exact resP.mk rfl (Sees.bool rfl)
  have hpos : 0 < l.length := by simp at hl0; exact List.length_pos_iff.2 hl0
  repeat ((conv => whnf); first | (refine And.intro (by first | rfl | exact ⟨rfl, rfl⟩ | exact Or.inl ⟨_, rfl⟩ | exact Or.inr rfl | exact le_b rfl | ((repeat' (first | exact Els.nil _ | refine Els.cons rfl rfl ?_)); done) | exact Els.map (fun _ => ⟨rfl, rfl⟩)  | kernel_rfl) ?_) )
  try (conv => whnf)
  first | refine CallK.data rfl (c_Play l s x slots hl hx hxl) rfl ?_ | refine CallP.data rfl (c_Play l s x slots hl hx hxl) rfl ?_
  obtain ⟨A, hA⟩ : ∃ A, A = (playM l s x slots).1 := ⟨_, rfl⟩
  obtain ⟨ea, hea⟩ : ∃ e, e = (playM l s x slots).2 := ⟨_, rfl⟩
  rw [← hA, ← hea]
  repeat ((conv => whnf); first | (refine And.intro (by first | rfl | exact ⟨rfl, rfl⟩ | exact Or.inl ⟨_, rfl⟩ | exact Or.inr rfl | exact le_b rfl | ((repeat' (first | exact Els.nil _ | refine Els.cons rfl rfl ?_)); done) | exact Els.map (fun _ => ⟨rfl, rfl⟩)  | kernel_rfl) ?_) )
  try (conv => whnf)
  refine BrK.mk (fun h1 => ?_) (fun h1 => ?_) <;> (try rw [h1])
  · repeat ((conv => whnf); first | (refine And.intro (by first | rfl | exact ⟨rfl, rfl⟩ | exact Or.inl ⟨_, rfl⟩ | exact Or.inr rfl | exact le_b rfl | ((repeat' (first | exact Els.nil _ | refine Els.cons rfl rfl ?_)); done) | exact Els.map (fun _ => ⟨rfl, rfl⟩)  | kernel_rfl) ?_) )
    try (conv => whnf)
    exact resP.mk rfl (Sees.bool rfl)
  have h1' : (playM l s x slots).2 = 0 := by rw [← hea]; simpa using h1
  have hi : (which % (l.length : Int)).toNat < l.length := by
    have h2 := Int.emod_lt_of_pos which (show (0 : Int) < l.length by omega)
    have h3 := Int.emod_nonneg which (show (l.length : Int) ≠ 0 by omega)
    omega
  obtain ⟨f, hf⟩ := getLt hi
  have hmf : (l.map Flow.av)[(which % (l.length : Int)).toNat]? = some f.av := by simp [hf]
  obtain ⟨b1, b2, b3⟩ := alone_law h1' hf
  have hlenA := playM_len (l := l) (s := s) (x := x) (slots := slots)
  have hlenE := playM_len (l := l) (s := s) (x := []) (slots := slots)
  rw [← hA] at b1 hlenA
  repeat ((conv => whnf); first | (refine And.intro (by first | rfl | exact ⟨rfl, rfl⟩ | exact Or.inl ⟨_, rfl⟩ | exact Or.inr rfl | exact le_b rfl | ((repeat' (first | exact Els.nil _ | refine Els.cons rfl rfl ?_)); done) | exact Els.map (fun _ => ⟨rfl, rfl⟩) | exact (show ((l.map Flow.av).length : Int) ≠ 0 from by simp only [List.length_map]; omega) | kernel_rfl) ?_) )
  try (conv => whnf)
  have htm : (IntKind.i64.wrap which).tmod ((l.map Flow.av).length : Int) = which % (l.length : Int) := by rw [w64 (by omega) (by omega), List.length_map, Int.tmod_eq_emod_of_nonneg hw0]
  rw [htm]
  refine And.intro (show InB (which % (l.length : Int)) (l.map Flow.av).length from ⟨Int.emod_nonneg _ (by omega), by rw [List.length_map]; omega⟩) ?_
  rw [hmf]
  repeat ((conv => whnf); first | (refine And.intro (by first | rfl | exact ⟨rfl, rfl⟩ | exact Or.inl ⟨_, rfl⟩ | exact Or.inr rfl | exact le_b rfl | ((repeat' (first | exact Els.nil _ | refine Els.cons rfl rfl ?_)); done) | exact Els.map (fun _ => ⟨rfl, rfl⟩)  | kernel_rfl) ?_) )
  try (conv => whnf)
  first | refine CallK.data rfl (c_Play [f] s x slots (by simp) hx hxl) rfl ?_ | refine CallP.data rfl (c_Play [f] s x slots (by simp) hx hxl) rfl ?_
  rw [b1]
  obtain ⟨B, hB⟩ : ∃ B, B = partA f.id A := ⟨_, rfl⟩
  rw [← hB]
  repeat ((conv => whnf); first | (refine And.intro (by first | rfl | exact ⟨rfl, rfl⟩ | exact Or.inl ⟨_, rfl⟩ | exact Or.inr rfl | exact le_b rfl | ((repeat' (first | exact Els.nil _ | refine Els.cons rfl rfl ?_)); done) | exact Els.map (fun _ => ⟨rfl, rfl⟩)  | kernel_rfl) ?_) )
  try (conv => whnf)
  first | refine CallK.data rfl (c_Change l s [] x slots hl (by simp) hx hxl) rfl ?_ | refine CallP.data rfl (c_Change l s [] x slots hl (by simp) hx hxl) rfl ?_
  rw [change_none, ← hA, h1']
  repeat ((conv => whnf); first | (refine And.intro (by first | rfl | exact ⟨rfl, rfl⟩ | exact Or.inl ⟨_, rfl⟩ | exact Or.inr rfl | exact le_b rfl | ((repeat' (first | exact Els.nil _ | refine Els.cons rfl rfl ?_)); done) | exact Els.map (fun _ => ⟨rfl, rfl⟩)  | kernel_rfl) ?_) )
  try (conv => whnf)
  first | refine CallK.data rfl (c_Play l s [] slots hl (by simp) (by simp)) rfl ?_ | refine CallP.data rfl (c_Play l s [] slots hl (by simp) (by simp)) rfl ?_
  obtain ⟨E, hE⟩ : ∃ E, E = (playM l s [] slots).1 := ⟨_, rfl⟩
  rw [← hE] at b3 hlenE ⊢
  rw [b2]
  repeat ((conv => whnf); first | (refine And.intro (by first | rfl | exact ⟨rfl, rfl⟩ | exact Or.inl ⟨_, rfl⟩ | exact Or.inr rfl | exact le_b rfl | ((repeat' (first | exact Els.nil _ | refine Els.cons rfl rfl ?_)); done) | exact Els.map (fun _ => ⟨rfl, rfl⟩)  | kernel_rfl) ?_) )
  try (conv => whnf)
  first | refine CallK.data rfl (c_Same LW A A (by omega) (by omega) (by omega)) rfl ?_ | refine CallP.data rfl (c_Same LW A A (by omega) (by omega) (by omega)) rfl ?_
  rw [sameM_refl]
  repeat ((conv => whnf); first | (refine And.intro (by first | rfl | exact ⟨rfl, rfl⟩ | exact Or.inl ⟨_, rfl⟩ | exact Or.inr rfl | exact le_b rfl | ((repeat' (first | exact Els.nil _ | refine Els.cons rfl rfl ?_)); done) | exact Els.map (fun _ => ⟨rfl, rfl⟩)  | kernel_rfl) ?_) )
  try (conv => whnf)
  refine LoopK.bornC 6 0 8 53 rfl rfl ?_
  refine LoopK.run mixed [] (fun (k : Nat) => k ≤ A.atts.length) (fun k => [(11, .ptr 1 0), (13, .ptr 2 0), (14, .ptr 3 0), (18, .ptr 5 0), (20, .ptr 6 0), (100, encAtts A.atts), (101, .int .i64 A.atts.length), (102, .int .i64 k)]) (fun k => ⟨alB s f A B E (.own (((A.atts.take k).filter fun a => a.cell.flow == f.id).map Att.av) 1) .nils, [(1, 6), (((A.atts.take k).filter fun a => a.cell.flow == f.id).length, 8)], 0, 0, fun c => if c = 0 then 49 else if c = 1 then 53 else 0⟩) (fun k => A.atts.length - k) 0 (by omega) ?_ ?_
  · refine Fits.mk' rfl rfl rfl rfl ?_ ?_ ?_ ?_ ?_ <;> repeat' (first | exact trivial | refine And.intro ?_ ?_ | exact Sees.of_eq rfl | exact lt_b rfl | rfl | exact SeesL.rfl' _ | exact Sees.int (by simp))
  rintro k hk
  repeat ((conv => whnf); first | (refine And.intro (by first | rfl | exact ⟨rfl, rfl⟩ | exact Or.inl ⟨_, rfl⟩ | exact Or.inr rfl | exact le_b rfl | ((repeat' (first | exact Els.nil _ | refine Els.cons rfl rfl ?_)); done) | exact Els.map (fun _ => ⟨rfl, rfl⟩)  | kernel_rfl) ?_) )
  try (conv => whnf)
  refine BrK.mk (fun hb => ?_) (fun hb => ?_) <;> (try rw [hb])
  · have hkt : k < A.atts.length := by simpa using hb
    obtain ⟨a, hga⟩ := getLt hkt
    have hma := getMap (f := Att.av) hga
    have hwk : IntKind.i64.wrap ((k : Int) + 1) = ((k + 1 : Nat) : Int) := by rw [w64] <;> omega
    have hfl := List.length_filter_le (fun a : Att => a.cell.flow == f.id) (A.atts.take k)
    rw [List.length_take] at hfl
    repeat ((conv => whnf); first | (refine And.intro (by first | rfl | exact ⟨rfl, rfl⟩ | exact Or.inl ⟨_, rfl⟩ | exact Or.inr rfl | exact le_b rfl | ((repeat' (first | exact Els.nil _ | refine Els.cons rfl rfl ?_)); done) | exact Els.map (fun _ => ⟨rfl, rfl⟩) | exact inbMap hkt | kernel_rfl) ?_) | rw [hma])
    try (conv => whnf)
    refine BrK.mk (fun g1 => ?_) (fun g1 => ?_) <;> (try rw [g1])
    · have hhit := part_hit hga (by simpa using g1 : a.cell.flow = f.id)
      repeat ((conv => whnf); first | (refine And.intro (by first | rfl | exact ⟨rfl, rfl⟩ | exact Or.inl ⟨_, rfl⟩ | exact Or.inr rfl | exact le_b rfl | ((repeat' (first | exact Els.nil _ | refine Els.cons rfl rfl ?_)); done) | exact Els.map (fun _ => ⟨rfl, rfl⟩) | exact Els.map (f := Att.av) (fun _ => ⟨rfl, rfl⟩) | exact (show _ * 64 ≤ _ by simp only [List.length_map, List.length_cons, List.length_nil]; omega) | exact (by simp only [List.length_map, List.length_cons, List.length_nil, maxLen]; omega) | exact (by rw [List.length_map]; rfl) | kernel_rfl) ?_) )
      try (conv => whnf)
      refine ⟨k + 1, by omega, by omega, ?_⟩
      rw [hhit]
      refine Fits.mk' rfl rfl rfl rfl ?_ ?_ ?_ ?_ ?_ <;> repeat' (first | exact trivial | refine And.intro ?_ ?_ | exact Sees.of_eq rfl | exact lt_b rfl | rfl | exact SeesL.rfl' _ | exact Sees.int hwk | exact Sees.own (by simp; rfl) | (show (_, _) = (_, _); simp only [List.length_append, List.length_map, List.length_cons, List.length_nil]))
    · have hmiss := part_miss hga (by simpa using g1 : ¬ a.cell.flow = f.id)
      repeat ((conv => whnf); first | (refine And.intro (by first | rfl | exact ⟨rfl, rfl⟩ | exact Or.inl ⟨_, rfl⟩ | exact Or.inr rfl | exact le_b rfl | ((repeat' (first | exact Els.nil _ | refine Els.cons rfl rfl ?_)); done) | exact Els.map (fun _ => ⟨rfl, rfl⟩)  | kernel_rfl) ?_) )
      try (conv => whnf)
      refine ⟨k + 1, by omega, by omega, ?_⟩
      rw [hmiss]
      refine Fits.mk' rfl rfl rfl rfl ?_ ?_ ?_ ?_ ?_ <;> repeat' (first | exact trivial | refine And.intro ?_ ?_ | exact Sees.of_eq rfl | exact lt_b rfl | rfl | exact SeesL.rfl' _ | exact Sees.int hwk)
  have hkn : k = A.atts.length := by simp at hb; omega
  subst hkn
  rw [List.take_length]
  obtain ⟨FA, hFA⟩ : ∃ FA, FA = A.atts.filter fun a => a.cell.flow == f.id := ⟨_, rfl⟩
  rw [← hFA]
  repeat ((conv => whnf); first | (refine And.intro (by first | rfl | exact ⟨rfl, rfl⟩ | exact Or.inl ⟨_, rfl⟩ | exact Or.inr rfl | exact le_b rfl | ((repeat' (first | exact Els.nil _ | refine Els.cons rfl rfl ?_)); done) | exact Els.map (fun _ => ⟨rfl, rfl⟩)  | kernel_rfl) ?_) )
  try (conv => whnf)
  refine LoopK.bornC 6 1 3 71 rfl rfl ?_
  refine LoopK.run mixed [] (fun (k : Nat) => k ≤ A.dels.length) (fun k => [(13, .ptr 2 0), (14, .ptr 3 0), (18, .ptr 5 0), (20, .ptr 6 0), (120, encDels A.dels), (121, .int .i64 A.dels.length), (122, .int .i64 k)]) (fun k => ⟨alB s f A B E (.own (FA.map Att.av) 1) (.own (((A.dels.take k).filter fun a => a.flow == f.id).map Del.av) 2), [(1, 6), (FA.length, 8), (((A.dels.take k).filter fun a => a.flow == f.id).length, 3)], 0, 0, fun c => if c = 0 then 49 else if c = 1 then 53 else if c = 2 then 71 else 0⟩) (fun k => A.dels.length - k) 0 (by omega) ?_ ?_
  · refine Fits.mk' rfl rfl rfl rfl ?_ ?_ ?_ ?_ ?_ <;> repeat' (first | exact trivial | refine And.intro ?_ ?_ | exact Sees.of_eq rfl | exact lt_b rfl | rfl | exact SeesL.rfl' _ | exact Sees.int (by simp))
  rintro k hk
  repeat ((conv => whnf); first | (refine And.intro (by first | rfl | exact ⟨rfl, rfl⟩ | exact Or.inl ⟨_, rfl⟩ | exact Or.inr rfl | exact le_b rfl | ((repeat' (first | exact Els.nil _ | refine Els.cons rfl rfl ?_)); done) | exact Els.map (fun _ => ⟨rfl, rfl⟩)  | kernel_rfl) ?_) )
  try (conv => whnf)
  refine BrK.mk (fun hb => ?_) (fun hb => ?_) <;> (try rw [hb])
  · have hkt : k < A.dels.length := by simpa using hb
    obtain ⟨a, hga⟩ := getLt hkt
    have hma := getMap (f := Del.av) hga
    have hwk : IntKind.i64.wrap ((k : Int) + 1) = ((k + 1 : Nat) : Int) := by rw [w64] <;> omega
    have hfl := List.length_filter_le (fun a : Del => a.flow == f.id) (A.dels.take k)
    rw [List.length_take] at hfl
    repeat ((conv => whnf); first | (refine And.intro (by first | rfl | exact ⟨rfl, rfl⟩ | exact Or.inl ⟨_, rfl⟩ | exact Or.inr rfl | exact le_b rfl | ((repeat' (first | exact Els.nil _ | refine Els.cons rfl rfl ?_)); done) | exact Els.map (fun _ => ⟨rfl, rfl⟩) | exact inbMap hkt | kernel_rfl) ?_) | rw [hma])
    try (conv => whnf)
    refine BrK.mk (fun g1 => ?_) (fun g1 => ?_) <;> (try rw [g1])
    · have hhit := partd_hit hga (by simpa using g1 : a.flow = f.id)
      repeat ((conv => whnf); first | (refine And.intro (by first | rfl | exact ⟨rfl, rfl⟩ | exact Or.inl ⟨_, rfl⟩ | exact Or.inr rfl | exact le_b rfl | ((repeat' (first | exact Els.nil _ | refine Els.cons rfl rfl ?_)); done) | exact Els.map (fun _ => ⟨rfl, rfl⟩) | exact Els.map (f := Del.av) (fun _ => ⟨rfl, rfl⟩) | exact (show _ * 24 ≤ _ by simp only [List.length_map, List.length_cons, List.length_nil]; omega) | exact (by simp only [List.length_map, List.length_cons, List.length_nil, maxLen]; omega) | exact (by rw [List.length_map]; rfl) | kernel_rfl) ?_) )
      try (conv => whnf)
      refine ⟨k + 1, by omega, by omega, ?_⟩
      rw [hhit]
      refine Fits.mk' rfl rfl rfl rfl ?_ ?_ ?_ ?_ ?_ <;> repeat' (first | exact trivial | refine And.intro ?_ ?_ | exact Sees.of_eq rfl | exact lt_b rfl | rfl | exact SeesL.rfl' _ | exact Sees.int hwk | exact Sees.own (by simp; rfl) | (show (_, _) = (_, _); simp only [List.length_append, List.length_map, List.length_cons, List.length_nil]))
    · have hmiss := partd_miss hga (by simpa using g1 : ¬ a.flow = f.id)
      repeat ((conv => whnf); first | (refine And.intro (by first | rfl | exact ⟨rfl, rfl⟩ | exact Or.inl ⟨_, rfl⟩ | exact Or.inr rfl | exact le_b rfl | ((repeat' (first | exact Els.nil _ | refine Els.cons rfl rfl ?_)); done) | exact Els.map (fun _ => ⟨rfl, rfl⟩)  | kernel_rfl) ?_) )
      try (conv => whnf)
      refine ⟨k + 1, by omega, by omega, ?_⟩
      rw [hmiss]
      refine Fits.mk' rfl rfl rfl rfl ?_ ?_ ?_ ?_ ?_ <;> repeat' (first | exact trivial | refine And.intro ?_ ?_ | exact Sees.of_eq rfl | exact lt_b rfl | rfl | exact SeesL.rfl' _ | exact Sees.int hwk)
  have hkn : k = A.dels.length := by simp at hb; omega
  subst hkn
  rw [List.take_length]
  obtain ⟨FD, hFD⟩ : ∃ FD, FD = A.dels.filter fun a => a.flow == f.id := ⟨_, rfl⟩
  rw [← hFD]
  have hBF : B = ⟨FA, FD⟩ := by rw [hB, hFA, hFD]; rfl
  repeat ((conv => whnf); first | (refine And.intro (by first | rfl | exact ⟨rfl, rfl⟩ | exact Or.inl ⟨_, rfl⟩ | exact Or.inr rfl | exact le_b rfl | ((repeat' (first | exact Els.nil _ | refine Els.cons rfl rfl ?_)); done) | exact Els.map (fun _ => ⟨rfl, rfl⟩)  | kernel_rfl) ?_) )
  try (conv => whnf)
  refine LoopK.run mixed [] (fun (k : Nat) => k ≤ E.atts.length) (fun k => [(14, .ptr 3 0), (18, .ptr 5 0), (20, .ptr 6 0), (139, encAtts E.atts), (140, .int .i64 E.atts.length), (141, .int .i64 k)]) (fun _ => ⟨alB s f A B E (.own (FA.map Att.av) 1) (.own (FD.map Del.av) 2), [(1, 6), (FA.length, 8), (FD.length, 3)], 0, 0, fun c => if c = 0 then 49 else if c = 1 then 53 else if c = 2 then 71 else 0⟩) (fun k => E.atts.length - k) 0 (by omega) ?_ ?_
  · refine Fits.mk' rfl rfl rfl rfl ?_ ?_ ?_ ?_ ?_ <;> repeat' (first | exact trivial | refine And.intro ?_ ?_ | exact Sees.of_eq rfl | exact lt_b rfl | rfl | exact SeesL.rfl' _ | exact Sees.int (by simp))
  rintro k hk
  repeat ((conv => whnf); first | (refine And.intro (by first | rfl | exact ⟨rfl, rfl⟩ | exact Or.inl ⟨_, rfl⟩ | exact Or.inr rfl | exact le_b rfl | ((repeat' (first | exact Els.nil _ | refine Els.cons rfl rfl ?_)); done) | exact Els.map (fun _ => ⟨rfl, rfl⟩)  | kernel_rfl) ?_) )
  try (conv => whnf)
  refine BrK.mk (fun hb => ?_) (fun hb => ?_) <;> (try rw [hb])
  · have hkt : k < E.atts.length := by simpa using hb
    obtain ⟨a, hga⟩ := getLt hkt
    have hma := getMap (f := Att.av) hga
    have hwk : IntKind.i64.wrap ((k : Int) + 1) = ((k + 1 : Nat) : Int) := by rw [w64] <;> omega
    have hq : ((E.atts.take k).any fun z => decide (z.slot < a.slot) && (z.frame == a.frame && (z.cell.flow == a.cell.flow && (z.cell.src == a.cell.src && z.cell.dst == a.cell.dst)))) = false := by
      rw [List.any_eq_false]
      intro z hz
      rw [b3 a (List.mem_of_getElem? hga) z (List.mem_of_mem_take hz)]
      decide
    repeat ((conv => whnf); first | (refine And.intro (by first | rfl | exact ⟨rfl, rfl⟩ | exact Or.inl ⟨_, rfl⟩ | exact Or.inr rfl | exact le_b rfl | ((repeat' (first | exact Els.nil _ | refine Els.cons rfl rfl ?_)); done) | exact Els.map (fun _ => ⟨rfl, rfl⟩) | exact inbMap hkt | exact Els.map (f := Att.av) (fun _ => ⟨rfl, rfl⟩) | exact (show InC (k : Int) (E.atts.map Att.av).length from ⟨by omega, by simp; omega⟩) | kernel_rfl) ?_) | rw [hma])
    try (conv => whnf)
    have htk : List.drop 0 (List.take (k : Int).toNat (E.atts.map Att.av)) = (E.atts.take k).map Att.av := by rw [List.drop_zero, Int.toNat_natCast, List.map_take]
    rw [htk]
    first | refine CallK.box rfl (c_ContainsFuncAtt LW (E.atts.take k) (fun z => decide (z.slot < a.slot) && (z.frame == a.frame && (z.cell.flow == a.cell.flow && (z.cell.src == a.cell.src && z.cell.dst == a.cell.dst)))) 36 [.cptr a.av 0] (by rw [List.length_take]; omega) rfl rfl (fun z _ => c_alone1 LW z a)) rfl rfl ?_ | refine CallP.box rfl (c_ContainsFuncAtt LW (E.atts.take k) (fun z => decide (z.slot < a.slot) && (z.frame == a.frame && (z.cell.flow == a.cell.flow && (z.cell.src == a.cell.src && z.cell.dst == a.cell.dst)))) 36 [.cptr a.av 0] (by rw [List.length_take]; omega) rfl rfl (fun z _ => c_alone1 LW z a)) rfl rfl ?_
    rw [hq]
    repeat ((conv => whnf); first | (refine And.intro (by first | rfl | exact ⟨rfl, rfl⟩ | exact Or.inl ⟨_, rfl⟩ | exact Or.inr rfl | exact le_b rfl | ((repeat' (first | exact Els.nil _ | refine Els.cons rfl rfl ?_)); done) | exact Els.map (fun _ => ⟨rfl, rfl⟩)  | kernel_rfl) ?_) )
    try (conv => whnf)
    refine ⟨k + 1, by omega, by omega, ?_⟩
    refine Fits.mk' rfl rfl rfl rfl ?_ ?_ ?_ ?_ ?_ <;> repeat' (first | exact trivial | refine And.intro ?_ ?_ | exact Sees.of_eq rfl | exact lt_b rfl | rfl | exact SeesL.rfl' _ | exact Sees.int hwk)
  have hkn : k = E.atts.length := by simp at hb; omega
  subst hkn
  have hFAl : FA.length ≤ 2097152 := by rw [hFA]; exact Nat.le_trans (List.length_filter_le _ _) hlenA.1
  have hFDl : FD.length ≤ 2097152 := by rw [hFD]; exact Nat.le_trans (List.length_filter_le _ _) hlenA.2
  subst hBF
  repeat ((conv => whnf); first | (refine And.intro (by first | rfl | exact ⟨rfl, rfl⟩ | exact Or.inl ⟨_, rfl⟩ | exact Or.inr rfl | exact le_b rfl | ((repeat' (first | exact Els.nil _ | refine Els.cons rfl rfl ?_)); done) | exact Els.map (fun _ => ⟨rfl, rfl⟩)  | kernel_rfl) ?_) )
  try (conv => whnf)
  first | refine CallK.data rfl (c_Same LW ⟨FA, FD⟩ ⟨FA, FD⟩ (by simp only; omega) (by simp only; omega) (by simp only; omega)) rfl ?_ | refine CallP.data rfl (c_Same LW ⟨FA, FD⟩ ⟨FA, FD⟩ (by simp only; omega) (by simp only; omega) (by simp only; omega)) rfl ?_
  rw [sameM_refl]
  repeat ((conv => whnf); first | (refine And.intro (by first | rfl | exact ⟨rfl, rfl⟩ | exact Or.inl ⟨_, rfl⟩ | exact Or.inr rfl | exact le_b rfl | ((repeat' (first | exact Els.nil _ | refine Els.cons rfl rfl ?_)); done) | exact Els.map (fun _ => ⟨rfl, rfl⟩)  | kernel_rfl) ?_) )
  try (conv => whnf)
  first | refine CallK.data rfl (c_Same36 LW ⟨FA, FD⟩ ⟨FA, FD⟩ (by simp only; omega) (by simp only; omega) (by simp only; omega)) rfl ?_ | refine CallP.data rfl (c_Same36 LW ⟨FA, FD⟩ ⟨FA, FD⟩ (by simp only; omega) (by simp only; omega) (by simp only; omega)) rfl ?_
  rw [sameM_refl]
  repeat ((conv => whnf); first | (refine And.intro (by first | rfl | exact ⟨rfl, rfl⟩ | exact Or.inl ⟨_, rfl⟩ | exact Or.inr rfl | exact le_b rfl | ((repeat' (first | exact Els.nil _ | refine Els.cons rfl rfl ?_)); done) | exact Els.map (fun _ => ⟨rfl, rfl⟩)  | kernel_rfl) ?_) )
  try (conv => whnf)
  exact resP.mk rfl (Sees.bool rfl)
end HM
