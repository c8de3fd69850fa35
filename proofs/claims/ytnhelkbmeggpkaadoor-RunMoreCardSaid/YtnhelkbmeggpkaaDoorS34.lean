/- The cells of a flow on a link; the fault of a route. -/
import Derived.Test.YtnhelkbmeggpkaaDoorS8
import Derived.Test.YtnhelkbmeggpkaaDoorS33
import Derived.Test.YtnhelkbmeggpkaaDoorDa

set_option maxRecDepth 100000
namespace HM
open Go Go.RowKit Go.Proofs
section
variable (L : World → Prop)

theorem c_Clone0Cell : PCall Tryd.prog L 34 [.sl false (([] : List Cell).map Cell.av)] (.sl false (([] : List Cell).map Cell.av)) := by
  refine PCall.intro mixed [] (nt := 8) Tryd.func34 rfl rfl (by simp) ?_
  repeat ((conv => whnf); first | (refine And.intro (by first | rfl | exact ⟨rfl, rfl⟩ | exact Or.inl ⟨_, rfl⟩ | exact Or.inr rfl | exact le_b rfl | ((repeat' (first | exact Els.nil _ | refine Els.cons rfl rfl ?_)); done) | exact Els.map (fun _ => ⟨rfl, rfl⟩)  | kernel_rfl) ?_) )
  try (conv => whnf)
  intro b
  cases b
  · repeat ((conv => whnf); first | (refine And.intro (by first | rfl | exact ⟨rfl, rfl⟩ | exact Or.inl ⟨_, rfl⟩ | exact Or.inr rfl | exact le_b rfl | ((repeat' (first | exact Els.nil _ | refine Els.cons rfl rfl ?_)); done) | exact Els.map (fun _ => ⟨rfl, rfl⟩) | exact Els.map (f := Cell.av) (fun x => ⟨(cellOk).len x, (cellOk).cell x⟩) | kernel_rfl) ?_) )
    try (conv => whnf)
    exact resP.mk rfl (Sees.of_eq rfl)
  · repeat ((conv => whnf); first | (refine And.intro (by first | rfl | exact ⟨rfl, rfl⟩ | exact Or.inl ⟨_, rfl⟩ | exact Or.inr rfl | exact le_b rfl | ((repeat' (first | exact Els.nil _ | refine Els.cons rfl rfl ?_)); done) | exact Els.map (fun _ => ⟨rfl, rfl⟩)  | kernel_rfl) ?_) )
    try (conv => whnf)
    exact resP.mk rfl (Sees.of_eq rfl)

theorem c_CloneCell (l : List Cell) (hne : l ≠ []) (hl : l.length ≤ 1099511627776) : FCall Tryd.prog L 34 [.sl false (l.map Cell.av)] (l.map Cell.av) 5 42 := by
  refine FCall.of_ICall (ICall.intro mixed [] (nt := 8) Tryd.func34 rfl rfl (by simp) ?_)
  repeat ((conv => whnf); first | (refine And.intro (by first | rfl | exact ⟨rfl, rfl⟩ | exact Or.inl ⟨_, rfl⟩ | exact Or.inr rfl | exact le_b rfl | ((repeat' (first | exact Els.nil _ | refine Els.cons rfl rfl ?_)); done) | exact Els.map (fun _ => ⟨rfl, rfl⟩)  | kernel_rfl) ?_) )
  try (conv => whnf)
  refine BrK.mk (fun h => ?_) (fun h => ?_) <;> (try rw [h])
  · exact absurd (by simpa using h) hne
  · repeat ((conv => whnf); first | (refine And.intro (by first | rfl | exact ⟨rfl, rfl⟩ | exact Or.inl ⟨_, rfl⟩ | exact Or.inr rfl | exact le_b rfl | ((repeat' (first | exact Els.nil _ | refine Els.cons rfl rfl ?_)); done) | exact Els.map (fun _ => ⟨rfl, rfl⟩) | exact Els.map (f := Cell.av) (fun x => ⟨(cellOk).len x, (cellOk).cell x⟩) | exact (show _ * 40 ≤ _ by simp only [List.length_map, List.length_nil]; omega) | exact (by simp only [List.length_map, List.length_nil, maxLen]; omega) | kernel_rfl) ?_) )
    try (conv => whnf)
    exact ⟨_, rfl, rfl, rfl⟩







theorem flowsE_one {nodes : Int} (h : 2 ≤ nodes ∧ nodes ≤ 32) (f : Flow) : (flowsE nodes [f]).2 = 0 ↔ flowE nodes f = 0 := by
  rw [flowsE, if_neg (by omega), if_neg (by simp), firstAt_ok]
  constructor
  · intro hh
    have := hh 0 (by simp)
    unfold flowAt at this
    simp only [List.getElem?_cons_zero] at this
    by_cases e : flowE nodes f = 0
    · exact e
    · rw [if_pos e] at this; exact absurd this e
  · intro hh j hj
    have : j = 0 := by simpa using hj
    subst this
    unfold flowAt
    simp [hh, flowO]

theorem tmod_eq {a b : Int} (h : 0 ≤ a) : a.tmod b = a % b := Int.tmod_eq_emod_of_nonneg h
end



