/- The law on one more cell. -/
import Derived.Test.YtcmppdlaabbnlaaDoorS47
import Derived.Test.YtcmppdlaabbnlaaDoorS54

set_option maxRecDepth 100000
namespace HM
open Go Go.RowKit Go.Proofs

theorem more_law {n : Net} {s t : Sched} {f : Flow} {r : List Int} {c : Cell} (h : addM s c = (t, 0)) :
    (if (routeM n s f r).2.2.2 = 0 then decide ((routeM n t f r).2.2.2 = 0) && (decide ((routeM n t f r).1 ≤ (routeM n s f r).1) && decide (1 ≤ (routeM n t f r).1)) else decide ((routeM n s f r).2.2.2 = 15) || decide ((routeM n s f r).2.2.2 = (routeM n t f r).2.2.2)) = true := by
  obtain ⟨h1, h2, h3⟩ := addM_more h
  obtain ⟨g1, g2⟩ := route_more (n := n) (f := f) (r := r) h1 h2 h3
  split
  · rename_i hh
    obtain ⟨e1, e2, e3⟩ := g1 hh
    simp [e1, e2, e3]
  · rename_i hh
    rcases g2 hh with e | e
    · simp [e]
    · simp [e]

set_option maxHeartbeats 4000000 in
theorem c_BoundMore (n : Net) (s : Sched) (f : Flow) (r : List Int) (c : Cell) (hn : n.small) (hc : s.cells.length ≤ 281474976710656) (hr : r.length ≤ 281474976710656) :
    PCall Tryd.prog LW 5 [n.av, s.av, f.av, encIs r, c.av] (.bool true) := by
  refine PCall.intro mixed [] (nt := 77) Tryd.func5 rfl rfl (by simp) ?_
  repeat ((conv => whnf); first | (refine And.intro (by first | rfl | exact ⟨rfl, rfl⟩ | exact Or.inl ⟨_, rfl⟩ | exact Or.inr rfl | exact le_b rfl | ((repeat' (first | exact Els.nil _ | refine Els.cons rfl rfl ?_)); done) | exact Els.map (fun _ => ⟨rfl, rfl⟩)  | kernel_rfl) ?_) )
  try (conv => whnf)
  first | refine CallK.data rfl (c_awake37) rfl ?_ | refine CallP.data rfl (c_awake37) rfl ?_
  repeat ((conv => whnf); first | (refine And.intro (by first | rfl | exact ⟨rfl, rfl⟩ | exact Or.inl ⟨_, rfl⟩ | exact Or.inr rfl | exact le_b rfl | ((repeat' (first | exact Els.nil _ | refine Els.cons rfl rfl ?_)); done) | exact Els.map (fun _ => ⟨rfl, rfl⟩)  | kernel_rfl) ?_) )
  try (conv => whnf)
  first | refine CallK.data rfl (c_Few37 LW n s [r] hn (by simp)) rfl ?_ | refine CallP.data rfl (c_Few37 LW n s [r] hn (by simp)) rfl ?_
  repeat ((conv => whnf); first | (refine And.intro (by first | rfl | exact ⟨rfl, rfl⟩ | exact Or.inl ⟨_, rfl⟩ | exact Or.inr rfl | exact le_b rfl | ((repeat' (first | exact Els.nil _ | refine Els.cons rfl rfl ?_)); done) | exact Els.map (fun _ => ⟨rfl, rfl⟩)  | kernel_rfl) ?_) )
  try (conv => whnf)
  refine BrK.mk (fun h1 => ?_) (fun h1 => ?_) <;> (try rw [h1])
  · repeat ((conv => whnf); first | (refine And.intro (by first | rfl | exact ⟨rfl, rfl⟩ | exact Or.inl ⟨_, rfl⟩ | exact Or.inr rfl | exact le_b rfl | ((repeat' (first | exact Els.nil _ | refine Els.cons rfl rfl ?_)); done) | exact Els.map (fun _ => ⟨rfl, rfl⟩)  | kernel_rfl) ?_) )
    try (conv => whnf)
    exact resP.mk rfl (Sees.of_eq rfl)
  repeat ((conv => whnf); first | (refine And.intro (by first | rfl | exact ⟨rfl, rfl⟩ | exact Or.inl ⟨_, rfl⟩ | exact Or.inr rfl | exact le_b rfl | ((repeat' (first | exact Els.nil _ | refine Els.cons rfl rfl ?_)); done) | exact Els.map (fun _ => ⟨rfl, rfl⟩)  | kernel_rfl) ?_) )
  try (conv => whnf)
  first | refine CallK.data rfl (c_Add LW s c) rfl ?_ | refine CallP.data rfl (c_Add LW s c) rfl ?_
  repeat ((conv => whnf); first | (refine And.intro (by first | rfl | exact ⟨rfl, rfl⟩ | exact Or.inl ⟨_, rfl⟩ | exact Or.inr rfl | exact le_b rfl | ((repeat' (first | exact Els.nil _ | refine Els.cons rfl rfl ?_)); done) | exact Els.map (fun _ => ⟨rfl, rfl⟩)  | kernel_rfl) ?_) )
  try (conv => whnf)
  refine BrK.mk (fun h2 => ?_) (fun h2 => ?_) <;> (try rw [h2])
  · repeat ((conv => whnf); first | (refine And.intro (by first | rfl | exact ⟨rfl, rfl⟩ | exact Or.inl ⟨_, rfl⟩ | exact Or.inr rfl | exact le_b rfl | ((repeat' (first | exact Els.nil _ | refine Els.cons rfl rfl ?_)); done) | exact Els.map (fun _ => ⟨rfl, rfl⟩)  | kernel_rfl) ?_) )
    try (conv => whnf)
    exact resP.mk rfl (Sees.of_eq rfl)
  have h2' : (addM s c).2 = 0 := by simpa using h2
  obtain ⟨t, ht⟩ : ∃ t, addM s c = (t, 0) := ⟨(addM s c).1, by rw [← h2']⟩
  have hlaw := more_law (n := n) (f := f) (r := r) ht
  have htl : t.cells.length ≤ 281474976710656 := by
    have := (form_all (addM_more ht).2.2).2.1
    omega
  clear h2
  rw [ht]
  repeat ((conv => whnf); first | (refine And.intro (by first | rfl | exact ⟨rfl, rfl⟩ | exact Or.inl ⟨_, rfl⟩ | exact Or.inr rfl | exact le_b rfl | ((repeat' (first | exact Els.nil _ | refine Els.cons rfl rfl ?_)); done) | exact Els.map (fun _ => ⟨rfl, rfl⟩)  | kernel_rfl) ?_) )
  try (conv => whnf)
  first | refine CallK.data rfl (c_BRoute n s f r hn hc hr) rfl ?_ | refine CallP.data rfl (c_BRoute n s f r hn hc hr) rfl ?_
  repeat ((conv => whnf); first | (refine And.intro (by first | rfl | exact ⟨rfl, rfl⟩ | exact Or.inl ⟨_, rfl⟩ | exact Or.inr rfl | exact le_b rfl | ((repeat' (first | exact Els.nil _ | refine Els.cons rfl rfl ?_)); done) | exact Els.map (fun _ => ⟨rfl, rfl⟩)  | kernel_rfl) ?_) )
  try (conv => whnf)
  first | refine CallK.data rfl (c_BRoute n t f r hn htl hr) rfl ?_ | refine CallP.data rfl (c_BRoute n t f r hn htl hr) rfl ?_
  repeat ((conv => whnf); first | (refine And.intro (by first | rfl | exact ⟨rfl, rfl⟩ | exact Or.inl ⟨_, rfl⟩ | exact Or.inr rfl | exact le_b rfl | ((repeat' (first | exact Els.nil _ | refine Els.cons rfl rfl ?_)); done) | exact Els.map (fun _ => ⟨rfl, rfl⟩)  | kernel_rfl) ?_) )
  try (conv => whnf)
  generalize routeM n s f r = A at hlaw ⊢
  generalize routeM n t f r = B at hlaw ⊢
  obtain ⟨a, w, l, e⟩ := A
  obtain ⟨b, v, k, g⟩ := B
  simp only at hlaw
  repeat' ((conv => whnf); first | (refine And.intro (by first | rfl | exact ⟨rfl, rfl⟩ | exact Or.inl ⟨_, rfl⟩ | exact Or.inr rfl | exact le_b rfl | ((repeat' (first | exact Els.nil _ | refine Els.cons rfl rfl ?_)); done) | exact Els.map (fun _ => ⟨rfl, rfl⟩)  | kernel_rfl) ?_)  | (refine BrK.mk (fun hb => ?_) (fun hb => ?_) <;> (try rw [hb])))
  all_goals try (conv => whnf)
  all_goals exact resP.mk rfl (Sees.bool (by simp_all))
end HM
