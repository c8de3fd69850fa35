/- With one more cell no frame is delivered later. -/
import Derived.Test.YtnhelkbmeggpkaaDoorS84
import Derived.Test.YtnhelkbmeggpkaaDoorS69
import Derived.Test.YtnhelkbmeggpkaaDoorS54
import Derived.Test.YtnhelkbmeggpkaaDoorDb

set_option maxRecDepth 100000
namespace HM
open Go Go.RowKit Go.Proofs

def moB (s : Sched) (c : Cell) (t : Sched) (A B : RunL) : List Ob := [.cells s.av.cells 32, .cells c.av.cells 42, .cells t.av.cells 32, .cells [encAtts A.atts, encDels A.dels] 37, .cells [encAtts B.atts, encDels B.dels] 37]
theorem playM_dels {l : List Flow} {s : Sched} {x : List Rule} {slots : Int} : (playM l s x slots).1.dels.length ≤ 2097152 := by
  by_cases hready : readyM l s x slots = 0
  · obtain ⟨r1, r2, r3, r4, r5⟩ := ready_all hready
    have hcl := (form_all r2).2.1
    have := play_len (l := l) (fun _ => s) x (m := 512) (fun _ => hcl) slots.toNat
    have hs := playV_R (flowsOk_of r1) (fun _ => s) x slots.toNat (by omega)
    rw [playM_R hready]
    simp only
    rw [hs.dl]
    omega
  · rw [playM_bad hready]; simp
set_option maxHeartbeats 8000000 in
theorem c_RunMore (l : List Flow) (s : Sched) (x : List Rule) (c : Cell) (slots : Int) (hl : l.length ≤ 281474976710656) (hx : ∀ r ∈ x, r.outs.length ≤ 281474976710656) (hxl : x.length ≤ 281474976710656) :
    PCall Tryd.prog LW 5 [encFlows l, s.av, encScript x, c.av, .int .i64 slots] (.bool true) := by
  refine PCall.intro mixed [] (nt := 84) Tryd.func5 rfl rfl (by simp) ?_
  repeat ((conv => whnf); first | (refine And.intro (by first | rfl | exact ⟨rfl, rfl⟩ | exact Or.inl ⟨_, rfl⟩ | exact Or.inr rfl | exact le_b rfl | ((repeat' (first | exact Els.nil _ | refine Els.cons rfl rfl ?_)); done) | exact Els.map (fun _ => ⟨rfl, rfl⟩)  | kernel_rfl) ?_) )
  try (conv => whnf)
  first | refine CallK.data rfl (c_awake36) rfl ?_ | refine CallP.data rfl (c_awake36) rfl ?_
  repeat ((conv => whnf); first | (refine And.intro (by first | rfl | exact ⟨rfl, rfl⟩ | exact Or.inl ⟨_, rfl⟩ | exact Or.inr rfl | exact le_b rfl | ((repeat' (first | exact Els.nil _ | refine Els.cons rfl rfl ?_)); done) | exact Els.map (fun _ => ⟨rfl, rfl⟩)  | kernel_rfl) ?_) )
  try (conv => whnf)
  first | refine CallK.data rfl (c_Few36 LW l s [] x slots) rfl ?_ | refine CallP.data rfl (c_Few36 LW l s [] x slots) rfl ?_
  repeat ((conv => whnf); first | (refine And.intro (by first | rfl | exact ⟨rfl, rfl⟩ | exact Or.inl ⟨_, rfl⟩ | exact Or.inr rfl | exact le_b rfl | ((repeat' (first | exact Els.nil _ | refine Els.cons rfl rfl ?_)); done) | exact Els.map (fun _ => ⟨rfl, rfl⟩)  | kernel_rfl) ?_) )
  try (conv => whnf)
  refine BrK.mk (fun hfew => ?_) (fun hfew => ?_) <;> (try rw [hfew])
  · repeat ((conv => whnf); first | (refine And.intro (by first | rfl | exact ⟨rfl, rfl⟩ | exact Or.inl ⟨_, rfl⟩ | exact Or.inr rfl | exact le_b rfl | ((repeat' (first | exact Els.nil _ | refine Els.cons rfl rfl ?_)); done) | exact Els.map (fun _ => ⟨rfl, rfl⟩)  | kernel_rfl) ?_) )
    try (conv => whnf)
    exact resP.mk rfl (Sees.bool rfl)
  repeat ((conv => whnf); first | (refine And.intro (by first | rfl | exact ⟨rfl, rfl⟩ | exact Or.inl ⟨_, rfl⟩ | exact Or.inr rfl | exact le_b rfl | ((repeat' (first | exact Els.nil _ | refine Els.cons rfl rfl ?_)); done) | exact Els.map (fun _ => ⟨rfl, rfl⟩)  | kernel_rfl) ?_) )
  try (conv => whnf)
  first | refine CallK.data rfl (c_Add LW s c) rfl ?_ | refine CallP.data rfl (c_Add LW s c) rfl ?_
  obtain ⟨t, ht⟩ : ∃ t, t = (addM s c).1 := ⟨_, rfl⟩
  obtain ⟨e, he⟩ : ∃ e, e = (addM s c).2 := ⟨_, rfl⟩
  rw [← ht, ← he]
  repeat ((conv => whnf); first | (refine And.intro (by first | rfl | exact ⟨rfl, rfl⟩ | exact Or.inl ⟨_, rfl⟩ | exact Or.inr rfl | exact le_b rfl | ((repeat' (first | exact Els.nil _ | refine Els.cons rfl rfl ?_)); done) | exact Els.map (fun _ => ⟨rfl, rfl⟩)  | kernel_rfl) ?_) )
  try (conv => whnf)
  first | refine CallK.data rfl (c_Play l s x slots hl hx hxl) rfl ?_ | refine CallP.data rfl (c_Play l s x slots hl hx hxl) rfl ?_
  obtain ⟨A, hA⟩ : ∃ A, A = (playM l s x slots).1 := ⟨_, rfl⟩
  obtain ⟨ea, hea⟩ : ∃ e, e = (playM l s x slots).2 := ⟨_, rfl⟩
  rw [← hA, ← hea]
  repeat ((conv => whnf); first | (refine And.intro (by first | rfl | exact ⟨rfl, rfl⟩ | exact Or.inl ⟨_, rfl⟩ | exact Or.inr rfl | exact le_b rfl | ((repeat' (first | exact Els.nil _ | refine Els.cons rfl rfl ?_)); done) | exact Els.map (fun _ => ⟨rfl, rfl⟩)  | kernel_rfl) ?_) )
  try (conv => whnf)
  refine BrK.mk (fun h1 => ?_) (fun h1 => ?_) <;> (try rw [h1])
  · repeat ((conv => whnf); first | (refine And.intro (by first | rfl | exact ⟨rfl, rfl⟩ | exact Or.inl ⟨_, rfl⟩ | exact Or.inr rfl | exact le_b rfl | ((repeat' (first | exact Els.nil _ | refine Els.cons rfl rfl ?_)); done) | exact Els.map (fun _ => ⟨rfl, rfl⟩)  | kernel_rfl) ?_) )
    try (conv => whnf)
    exact resP.mk rfl (Sees.bool rfl)
  repeat ((conv => whnf); first | (refine And.intro (by first | rfl | exact ⟨rfl, rfl⟩ | exact Or.inl ⟨_, rfl⟩ | exact Or.inr rfl | exact le_b rfl | ((repeat' (first | exact Els.nil _ | refine Els.cons rfl rfl ?_)); done) | exact Els.map (fun _ => ⟨rfl, rfl⟩)  | kernel_rfl) ?_) )
  try (conv => whnf)
  refine BrK.mk (fun h2 => ?_) (fun h2 => ?_) <;> (try rw [h2])
  · repeat ((conv => whnf); first | (refine And.intro (by first | rfl | exact ⟨rfl, rfl⟩ | exact Or.inl ⟨_, rfl⟩ | exact Or.inr rfl | exact le_b rfl | ((repeat' (first | exact Els.nil _ | refine Els.cons rfl rfl ?_)); done) | exact Els.map (fun _ => ⟨rfl, rfl⟩)  | kernel_rfl) ?_) )
    try (conv => whnf)
    exact resP.mk rfl (Sees.bool rfl)
  have h1' : (addM s c).2 = 0 := by rw [← he]; simpa using h1
  have h2' : (playM l s x slots).2 = 0 := by rw [← hea]; simpa using h2
  obtain ⟨m1, m2⟩ := more_law h1' h2'
  have hAl : A.dels.length ≤ 2097152 := by rw [hA]; exact playM_dels
  have hBl : (playM l t x slots).1.dels.length ≤ 2097152 := playM_dels
  rw [← hA, ← ht] at m2
  rw [← ht] at m1
  repeat ((conv => whnf); first | (refine And.intro (by first | rfl | exact ⟨rfl, rfl⟩ | exact Or.inl ⟨_, rfl⟩ | exact Or.inr rfl | exact le_b rfl | ((repeat' (first | exact Els.nil _ | refine Els.cons rfl rfl ?_)); done) | exact Els.map (fun _ => ⟨rfl, rfl⟩)  | kernel_rfl) ?_) )
  try (conv => whnf)
  first | refine CallK.data rfl (c_Play l t x slots hl hx hxl) rfl ?_ | refine CallP.data rfl (c_Play l t x slots hl hx hxl) rfl ?_
  rw [m1]
  obtain ⟨B, hB⟩ : ∃ B, B = (playM l t x slots).1 := ⟨_, rfl⟩
  rw [← hB] at hBl m2 ⊢
  repeat ((conv => whnf); first | (refine And.intro (by first | rfl | exact ⟨rfl, rfl⟩ | exact Or.inl ⟨_, rfl⟩ | exact Or.inr rfl | exact le_b rfl | ((repeat' (first | exact Els.nil _ | refine Els.cons rfl rfl ?_)); done) | exact Els.map (fun _ => ⟨rfl, rfl⟩)  | kernel_rfl) ?_) )
  try (conv => whnf)
  refine LoopK.run mixed [] (fun (k : Nat) => k ≤ A.dels.length) (fun k => [(15, .ptr 4 0), (60, encDels A.dels), (61, .int .i64 A.dels.length), (62, .int .i64 k)]) (fun _ => ⟨moB s c t A B, [], 0, 0, fun _ => 0⟩) (fun k => A.dels.length - k) 0 (by omega) ?_ ?_
  · refine Fits.mk' rfl rfl rfl rfl ?_ ?_ ?_ ?_ ?_ <;> repeat' (first | exact trivial | refine And.intro ?_ ?_ | exact Sees.of_eq rfl | exact lt_b rfl | rfl | exact SeesL.rfl' _ | exact Sees.int (by simp))
  rintro k hk
  repeat ((conv => whnf); first | (refine And.intro (by first | rfl | exact ⟨rfl, rfl⟩ | exact Or.inl ⟨_, rfl⟩ | exact Or.inr rfl | exact le_b rfl | ((repeat' (first | exact Els.nil _ | refine Els.cons rfl rfl ?_)); done) | exact Els.map (fun _ => ⟨rfl, rfl⟩)  | kernel_rfl) ?_) )
  try (conv => whnf)
  refine BrK.mk (fun hb => ?_) (fun hb => ?_) <;> (try rw [hb])
  · have hlt : k < A.dels.length := by simpa using hb
    obtain ⟨d, hgd⟩ := getLt hlt
    have hmd := getMap (f := Del.av) hgd
    have hwk : IntKind.i64.wrap ((k : Int) + 1) = ((k + 1 : Nat) : Int) := by rw [w64] <;> omega
    obtain ⟨n1, n2⟩ := m2 d (List.mem_of_getElem? hgd)
    repeat ((conv => whnf); first | (refine And.intro (by first | rfl | exact ⟨rfl, rfl⟩ | exact Or.inl ⟨_, rfl⟩ | exact Or.inr rfl | exact le_b rfl | ((repeat' (first | exact Els.nil _ | refine Els.cons rfl rfl ?_)); done) | exact Els.map (fun _ => ⟨rfl, rfl⟩) | exact inbMap hlt | kernel_rfl) ?_) | rw [hmd])
    try (conv => whnf)
    first | refine CallK.data rfl (c_Delivered LW B d.flow d.frame (by omega)) rfl ?_ | refine CallP.data rfl (c_Delivered LW B d.flow d.frame (by omega)) rfl ?_
    rw [n1]
    repeat ((conv => whnf); first | (refine And.intro (by first | rfl | exact ⟨rfl, rfl⟩ | exact Or.inl ⟨_, rfl⟩ | exact Or.inr rfl | exact le_b rfl | ((repeat' (first | exact Els.nil _ | refine Els.cons rfl rfl ?_)); done) | exact Els.map (fun _ => ⟨rfl, rfl⟩)  | kernel_rfl) ?_) )
    try (conv => whnf)
    rw [show decide (d.slot < (delivM B d.flow d.frame).1) = false from by simp; omega]
    repeat ((conv => whnf); first | (refine And.intro (by first | rfl | exact ⟨rfl, rfl⟩ | exact Or.inl ⟨_, rfl⟩ | exact Or.inr rfl | exact le_b rfl | ((repeat' (first | exact Els.nil _ | refine Els.cons rfl rfl ?_)); done) | exact Els.map (fun _ => ⟨rfl, rfl⟩)  | kernel_rfl) ?_) )
    try (conv => whnf)
    refine ⟨k + 1, by omega, by omega, ?_⟩
    refine Fits.mk' rfl rfl rfl rfl ?_ ?_ ?_ ?_ ?_ <;> repeat' (first | exact trivial | refine And.intro ?_ ?_ | exact Sees.of_eq rfl | exact lt_b rfl | rfl | exact SeesL.rfl' _ | exact Sees.int hwk)
  · repeat ((conv => whnf); first | (refine And.intro (by first | rfl | exact ⟨rfl, rfl⟩ | exact Or.inl ⟨_, rfl⟩ | exact Or.inr rfl | exact le_b rfl | ((repeat' (first | exact Els.nil _ | refine Els.cons rfl rfl ?_)); done) | exact Els.map (fun _ => ⟨rfl, rfl⟩)  | kernel_rfl) ?_) )
    try (conv => whnf)
    exact resP.mk rfl (Sees.bool rfl)
end HM
