/- The law on the cells that count. -/
import Derived.Test.YtcmppdlaabbnlaaDoorS47
import Derived.Test.YtcmppdlaabbnlaaDoorS65

set_option maxRecDepth 100000
namespace HM
open Go Go.RowKit Go.Proofs

def cellBad (f : Flow) (s : Sched) (c : Cell) : Bool := !(c.flow == f.id) || !(decide (c ∈ s.cells))
theorem c_needs1 (f : Flow) (s : Sched) (hc : s.cells.length ≤ 281474976710656) (c : Cell) : PCall Tryd.prog LW 15 [c.av, .cptr f.av 0, .cptr s.av 0] (.bool (cellBad f s c)) := by
  refine PCall.intro mixed [] (nt := 17) Tryd.func15 rfl rfl (by simp) ?_
  repeat ((conv => whnf); first | (refine And.intro (by first | rfl | exact ⟨rfl, rfl⟩ | exact Or.inl ⟨_, rfl⟩ | exact Or.inr rfl | exact le_b rfl | ((repeat' (first | exact Els.nil _ | refine Els.cons rfl rfl ?_)); done) | exact Els.map (fun _ => ⟨rfl, rfl⟩)  | kernel_rfl) ?_) )
  try (conv => whnf)
  refine BrK.mk (fun h => ?_) (fun h => ?_) <;> (try rw [h])
  · repeat ((conv => whnf); first | (refine And.intro (by first | rfl | exact ⟨rfl, rfl⟩ | exact Or.inl ⟨_, rfl⟩ | exact Or.inr rfl | exact le_b rfl | ((repeat' (first | exact Els.nil _ | refine Els.cons rfl rfl ?_)); done) | exact Els.map (fun _ => ⟨rfl, rfl⟩)  | kernel_rfl) ?_) )
    try (conv => whnf)
    have h' : (c.flow == f.id) = false := by simpa using h
    exact resP.mk rfl (Sees.bool (by rw [cellBad, h']; rfl))
  · have h' : (c.flow == f.id) = true := by simpa using h
    repeat ((conv => whnf); first | (refine And.intro (by first | rfl | exact ⟨rfl, rfl⟩ | exact Or.inl ⟨_, rfl⟩ | exact Or.inr rfl | exact le_b rfl | ((repeat' (first | exact Els.nil _ | refine Els.cons rfl rfl ?_)); done) | exact Els.map (fun _ => ⟨rfl, rfl⟩)  | kernel_rfl) ?_) )
    try (conv => whnf)
    first | refine CallK.data rfl (c_ContainsCell LW s.cells c hc) rfl ?_ | refine CallP.data rfl (c_ContainsCell LW s.cells c hc) rfl ?_
    repeat ((conv => whnf); first | (refine And.intro (by first | rfl | exact ⟨rfl, rfl⟩ | exact Or.inl ⟨_, rfl⟩ | exact Or.inr rfl | exact le_b rfl | ((repeat' (first | exact Els.nil _ | refine Els.cons rfl rfl ?_)); done) | exact Els.map (fun _ => ⟨rfl, rfl⟩)  | kernel_rfl) ?_) )
    try (conv => whnf)
    exact resP.mk rfl (Sees.bool (by rw [cellBad, h']; rfl))

set_option maxHeartbeats 8000000 in
theorem c_BoundNeeds (n : Net) (s : Sched) (f : Flow) (l : List (List Int)) (hn : n.small) (hc : s.cells.length ≤ 281474976710656) (hr : ∀ r ∈ l, r.length ≤ 281474976710656) (hl : l.length ≤ 281474976710656) :
    PCall Tryd.prog LW 3 [n.av, s.av, f.av, encRows l] (.bool true) := by
  refine PCall.intro mixed [1] (nt := 106) Tryd.func3 rfl rfl (by simp) ?_
  repeat ((conv => whnf); first | (refine And.intro (by first | rfl | exact ⟨rfl, rfl⟩ | exact Or.inl ⟨_, rfl⟩ | exact Or.inr rfl | exact le_b rfl | ((repeat' (first | exact Els.nil _ | refine Els.cons rfl rfl ?_)); done) | exact Els.map (fun _ => ⟨rfl, rfl⟩)  | kernel_rfl) ?_) )
  try (conv => whnf)
  refine SeqK.sem mixed [] ?_
  repeat ((conv => whnf); first | (refine And.intro (by first | rfl | exact ⟨rfl, rfl⟩ | exact Or.inl ⟨_, rfl⟩ | exact Or.inr rfl | exact le_b rfl | ((repeat' (first | exact Els.nil _ | refine Els.cons rfl rfl ?_)); done) | exact Els.map (fun _ => ⟨rfl, rfl⟩)  | kernel_rfl) ?_) )
  try (conv => whnf)
  refine SemK.freezeB 0 rfl rfl ?_
  refine SemK.freezeB 1 rfl rfl ?_
  refine SemK.freezeB 2 rfl rfl ?_
  refine twC_sound (ct := []) mixed _ _ _ _ ?_
  repeat ((conv => whnf); first | (refine And.intro (by first | rfl | exact ⟨rfl, rfl⟩ | exact Or.inl ⟨_, rfl⟩ | exact Or.inr rfl | exact le_b rfl | ((repeat' (first | exact Els.nil _ | refine Els.cons rfl rfl ?_)); done) | exact Els.map (fun _ => ⟨rfl, rfl⟩)  | kernel_rfl) ?_) )
  try (conv => whnf)
  first | refine CallK.data rfl (c_awake37) rfl ?_ | refine CallP.data rfl (c_awake37) rfl ?_
  repeat ((conv => whnf); first | (refine And.intro (by first | rfl | exact ⟨rfl, rfl⟩ | exact Or.inl ⟨_, rfl⟩ | exact Or.inr rfl | exact le_b rfl | ((repeat' (first | exact Els.nil _ | refine Els.cons rfl rfl ?_)); done) | exact Els.map (fun _ => ⟨rfl, rfl⟩)  | kernel_rfl) ?_) )
  try (conv => whnf)
  first | refine CallK.data rfl (c_Few37 LW n s l hn hl) rfl ?_ | refine CallP.data rfl (c_Few37 LW n s l hn hl) rfl ?_
  repeat ((conv => whnf); first | (refine And.intro (by first | rfl | exact ⟨rfl, rfl⟩ | exact Or.inl ⟨_, rfl⟩ | exact Or.inr rfl | exact le_b rfl | ((repeat' (first | exact Els.nil _ | refine Els.cons rfl rfl ?_)); done) | exact Els.map (fun _ => ⟨rfl, rfl⟩)  | kernel_rfl) ?_) )
  try (conv => whnf)
  refine BrK.mk (fun h1 => ?_) (fun h1 => ?_) <;> (try rw [h1])
  · repeat ((conv => whnf); first | (refine And.intro (by first | rfl | exact ⟨rfl, rfl⟩ | exact Or.inl ⟨_, rfl⟩ | exact Or.inr rfl | exact le_b rfl | ((repeat' (first | exact Els.nil _ | refine Els.cons rfl rfl ?_)); done) | exact Els.map (fun _ => ⟨rfl, rfl⟩)  | kernel_rfl) ?_) )
    try (conv => whnf)
    exact resP.mk rfl (Sees.of_eq rfl)
  repeat ((conv => whnf); first | (refine And.intro (by first | rfl | exact ⟨rfl, rfl⟩ | exact Or.inl ⟨_, rfl⟩ | exact Or.inr rfl | exact le_b rfl | ((repeat' (first | exact Els.nil _ | refine Els.cons rfl rfl ?_)); done) | exact Els.map (fun _ => ⟨rfl, rfl⟩)  | kernel_rfl) ?_) )
  try (conv => whnf)
  first | refine CallK.data rfl (c_Needed n s f l hn hc hr hl) rfl ?_ | refine CallP.data rfl (c_Needed n s f l hn hc hr hl) rfl ?_
  obtain ⟨q, hq⟩ : ∃ q, needM n s f l = q := ⟨_, rfl⟩
  obtain ⟨c, e⟩ := q
  rw [hq]
  repeat ((conv => whnf); first | (refine And.intro (by first | rfl | exact ⟨rfl, rfl⟩ | exact Or.inl ⟨_, rfl⟩ | exact Or.inr rfl | exact le_b rfl | ((repeat' (first | exact Els.nil _ | refine Els.cons rfl rfl ?_)); done) | exact Els.map (fun _ => ⟨rfl, rfl⟩)  | kernel_rfl) ?_) )
  try (conv => whnf)
  refine BrK.mk (fun h2 => ?_) (fun h2 => ?_) <;> (try rw [h2])
  · have he : e ≠ 0 := by simpa using h2
    have hcn := needs_bad hq he
    subst hcn
    repeat ((conv => whnf); first | (refine And.intro (by first | rfl | exact ⟨rfl, rfl⟩ | exact Or.inl ⟨_, rfl⟩ | exact Or.inr rfl | exact le_b rfl | ((repeat' (first | exact Els.nil _ | refine Els.cons rfl rfl ?_)); done) | exact Els.map (fun _ => ⟨rfl, rfl⟩)  | kernel_rfl) ?_) )
    try (conv => whnf)
    exact resP.mk rfl (Sees.of_eq rfl)
  have he : e = 0 := by simpa using h2
  subst he
  obtain ⟨g1, g2, g3⟩ := needs_law hq
  have hcl : c.length ≤ 281474976710656 := by
    unfold needM at hq
    split at hq
    · simp only [Prod.mk.injEq] at hq; rw [← hq.1]; simp
    split at hq
    · simp only [Prod.mk.injEq] at hq; rw [← hq.1]; simp
    · simp only [Prod.mk.injEq, and_true] at hq
      rw [← hq]
      exact Nat.le_trans (List.length_filter_le _ _) hc
  repeat ((conv => whnf); first | (refine And.intro (by first | rfl | exact ⟨rfl, rfl⟩ | exact Or.inl ⟨_, rfl⟩ | exact Or.inr rfl | exact le_b rfl | ((repeat' (first | exact Els.nil _ | refine Els.cons rfl rfl ?_)); done) | exact Els.map (fun _ => ⟨rfl, rfl⟩)  | kernel_rfl) ?_) )
  try (conv => whnf)
  refine LoopK.run mixed [] (fun k : Nat => k ≤ l.length) (fun k => [(3, encRows l), (4, .cptr n.av 0), (5, .cptr s.av 0), (6, .cptr f.av 0), (9, encCells c), (11, .ptr 3 0), (48, encRows l), (49, .int .i64 l.length), (50, .int .i64 k)]) (fun k => ⟨[.dead, .dead, .dead, .cells [.int .i64 s.len, .int .i64 s.offs, encCells c] 29], [], 0, 0, fun _ => 0⟩) (fun k => l.length - k) 0 (by omega) ?_ ?_
  · refine Fits.mk' rfl rfl rfl rfl ?_ ?_ ?_ ?_ ?_ <;> repeat' (first | exact trivial | refine And.intro ?_ ?_ | exact Sees.of_eq rfl | exact lt_b rfl | rfl | exact SeesL.rfl' _ | exact SeesO.rfl' _ | exact Sees.int (by simp))
  rintro k hk
  repeat ((conv => whnf); first | (refine And.intro (by first | rfl | exact ⟨rfl, rfl⟩ | exact Or.inl ⟨_, rfl⟩ | exact Or.inr rfl | exact le_b rfl | ((repeat' (first | exact Els.nil _ | refine Els.cons rfl rfl ?_)); done) | exact Els.map (fun _ => ⟨rfl, rfl⟩)  | kernel_rfl) ?_) )
  try (conv => whnf)
  refine BrK.mk (fun h3 => ?_) (fun h3 => ?_) <;> (try rw [h3])
  · have hlt : k < l.length := by simpa using h3
    obtain ⟨r, hgr⟩ := getLt hlt
    have hmr := getMap (f := encIs) hgr
    have hmem := List.mem_of_getElem? hgr
    have hrm := hr r hmem
    obtain ⟨i1, i2⟩ := g1 r hmem
    repeat ((conv => whnf); first | (refine And.intro (by first | rfl | exact ⟨rfl, rfl⟩ | exact Or.inl ⟨_, rfl⟩ | exact Or.inr rfl | exact le_b rfl | ((repeat' (first | exact Els.nil _ | refine Els.cons rfl rfl ?_)); done) | exact Els.map (fun _ => ⟨rfl, rfl⟩) | exact inbMap hlt | kernel_rfl) ?_) | rw [hmr])
    try (conv => whnf)
    first | refine CallK.data rfl (c_BRoute n s f r hn hc hrm) rfl ?_ | refine CallP.data rfl (c_BRoute n s f r hn hc hrm) rfl ?_
    repeat ((conv => whnf); first | (refine And.intro (by first | rfl | exact ⟨rfl, rfl⟩ | exact Or.inl ⟨_, rfl⟩ | exact Or.inr rfl | exact le_b rfl | ((repeat' (first | exact Els.nil _ | refine Els.cons rfl rfl ?_)); done) | exact Els.map (fun _ => ⟨rfl, rfl⟩)  | kernel_rfl) ?_) )
    try (conv => whnf)
    first | refine CallK.data rfl (c_BRoute n ⟨s.len, s.offs, c⟩ f r hn hcl hrm) rfl ?_ | refine CallP.data rfl (c_BRoute n ⟨s.len, s.offs, c⟩ f r hn hcl hrm) rfl ?_
    rw [i2]
    have hlen := routeM_len n s f r
    clear i2
    generalize routeM n s f r = A at i1 hlen ⊢
    obtain ⟨a1, a2, a3, a4⟩ := A
    simp only at i1 hlen
    subst i1
    repeat ((conv => whnf); first | (refine And.intro (by first | rfl | exact ⟨rfl, rfl⟩ | exact Or.inl ⟨_, rfl⟩ | exact Or.inr rfl | exact le_b rfl | ((repeat' (first | exact Els.nil _ | refine Els.cons rfl rfl ?_)); done) | exact Els.map (fun _ => ⟨rfl, rfl⟩) | exact trivial | kernel_rfl) ?_) | rw [bne_self_eq_false])
    try (conv => whnf)
    first | refine CallK.data rfl (c_EqII LW a3 (by omega)) rfl ?_ | refine CallP.data rfl (c_EqII LW a3 (by omega)) rfl ?_
    repeat ((conv => whnf); first | (refine And.intro (by first | rfl | exact ⟨rfl, rfl⟩ | exact Or.inl ⟨_, rfl⟩ | exact Or.inr rfl | exact le_b rfl | ((repeat' (first | exact Els.nil _ | refine Els.cons rfl rfl ?_)); done) | exact Els.map (fun _ => ⟨rfl, rfl⟩)  | kernel_rfl) ?_) )
    try (conv => whnf)
    refine ⟨k + 1, by omega, by omega, ?_⟩
    refine Fits.mk' rfl rfl rfl rfl ?_ ?_ ?_ ?_ ?_ <;> repeat' (first | exact trivial | refine And.intro ?_ ?_ | exact Sees.of_eq rfl | exact lt_b rfl | rfl | exact SeesL.rfl' _ | exact SeesO.rfl' _ | exact Sees.int (succI hlt hl))
  · have h4 : decide ((0 : Int) < (c.map Cell.av).length) = true := decide_eq_true (by rw [List.length_map]; have := List.length_pos_iff.2 g2; omega)
    repeat ((conv => whnf); first | (refine And.intro (by first | rfl | exact ⟨rfl, rfl⟩ | exact Or.inl ⟨_, rfl⟩ | exact Or.inr rfl | exact le_b rfl | ((repeat' (first | exact Els.nil _ | refine Els.cons rfl rfl ?_)); done) | exact Els.map (fun _ => ⟨rfl, rfl⟩) | exact trivial | kernel_rfl) ?_) | rw [h4])
    try (conv => whnf)
    refine CallK.data rfl (c_ContainsFuncCell LW c (cellBad f s) 15 [.cptr f.av 0, .cptr s.av 0] hcl rfl rfl (fun x _ => c_needs1 f s hc x)) rfl ?_
    have h5 : c.any (cellBad f s) = false := by
      rw [List.any_eq_false]
      intro x hx
      obtain ⟨j1, j2⟩ := g3 x hx
      simp [cellBad, j1, j2]
    rw [h5]
    repeat ((conv => whnf); first | (refine And.intro (by first | rfl | exact ⟨rfl, rfl⟩ | exact Or.inl ⟨_, rfl⟩ | exact Or.inr rfl | exact le_b rfl | ((repeat' (first | exact Els.nil _ | refine Els.cons rfl rfl ?_)); done) | exact Els.map (fun _ => ⟨rfl, rfl⟩)  | kernel_rfl) ?_) )
    try (conv => whnf)
    exact resP.mk rfl (Sees.bool rfl)
end HM
