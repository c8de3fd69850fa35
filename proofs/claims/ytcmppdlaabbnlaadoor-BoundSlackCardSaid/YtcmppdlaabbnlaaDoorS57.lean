/- Links that may lose more: network.Weaker, hopmeshref31.Copy. -/
import Derived.Test.YtcmppdlaabbnlaaDoorS34
import Derived.Test.YtcmppdlaabbnlaaDoorDa

set_option maxRecDepth 100000
namespace HM
open Go Go.RowKit Go.Proofs
theorem link_set : ∀ {l : List Link} {k : Nat} {x : Link} (ex : List AV) (y : Int), l[k]? = some x → (flatE (l.map Link.av) ++ ex).set (k * 3 + 2) (.int .i64 y) = flatE ((l.set k ⟨x.src, x.dst, y⟩).map Link.av) ++ ex
  | [], _, _, _, _, h => by simp at h
  | a :: l, 0, x, ex, y, h => by
    simp at h; subst h
    rfl
  | a :: l, k + 1, x, ex, y, h => by
    have ih := link_set (l := l) (k := k) ex y (by simpa using h)
    have e : flatE ((a :: l).map Link.av) ++ ex = .int .i64 a.src :: .int .i64 a.dst :: .int .i64 a.loss :: (flatE (l.map Link.av) ++ ex) := rfl
    rw [e, show (k + 1) * 3 + 2 = (k * 3 + 2) + 1 + 1 + 1 by omega]
    simp only [List.set_cons_succ, ih]
    rfl
theorem row_set {α : Type} {f : α → AV} {l : List α} {i : Nat} {x : α} (z : AV) (h : l[i]? = some x) : splice ((l.take i).map f ++ List.replicate (l.length - i) z) i [f x] = (l.take (i + 1)).map f ++ List.replicate (l.length - (i + 1)) z := by
  have hi := (List.getElem?_eq_some_iff.1 h).1
  rw [splice_one, take_succ h, List.map_append]
  rw [show l.length - i = (l.length - (i + 1)) + 1 by omega, List.replicate_succ]
  rw [List.set_append_right _ _ (by simp; omega)]
  simp [Nat.min_eq_left (Nat.le_of_lt hi)]
theorem bump_set {n : Net} {i : Nat} {l : Link} (k : Int) (h : n.links[i]? = some l) : (bump n i k).links = n.links.set i ⟨l.src, l.dst, l.loss + k⟩ := list_modify_eq _ _ _ _ h
section
variable (L : World → Prop)

theorem c_CloneII (l : List Int) (hl : l.length ≤ 1099511627776) : PCall Tryd.prog L 74 [encIs l] (encIs l) := by
  refine PCall.intro mixed [] (nt := 8) Tryd.func74 rfl rfl (by simp) ?_
  repeat ((conv => whnf); first | (refine And.intro (by first | rfl | exact ⟨rfl, rfl⟩ | exact Or.inl ⟨_, rfl⟩ | exact Or.inr rfl | exact le_b rfl | ((repeat' (first | exact Els.nil _ | refine Els.cons rfl rfl ?_)); done) | exact Els.map (fun _ => ⟨rfl, rfl⟩)  | kernel_rfl) ?_) )
  try (conv => whnf)
  refine BrK.mk (fun h => ?_) (fun h => ?_)
  · have h0 : l = [] := by simpa using h
    subst h0
    intro b
    cases b
    · repeat ((conv => whnf); first | (refine And.intro (by first | rfl | exact ⟨rfl, rfl⟩ | exact Or.inl ⟨_, rfl⟩ | exact Or.inr rfl | exact le_b rfl | ((repeat' (first | exact Els.nil _ | refine Els.cons rfl rfl ?_)); done) | exact Els.map (fun _ => ⟨rfl, rfl⟩)  | kernel_rfl) ?_) )
      try (conv => whnf)
      exact resP.mk rfl (Sees.of_eq rfl)
    · repeat ((conv => whnf); first | (refine And.intro (by first | rfl | exact ⟨rfl, rfl⟩ | exact Or.inl ⟨_, rfl⟩ | exact Or.inr rfl | exact le_b rfl | ((repeat' (first | exact Els.nil _ | refine Els.cons rfl rfl ?_)); done) | exact Els.map (fun _ => ⟨rfl, rfl⟩)  | kernel_rfl) ?_) )
      try (conv => whnf)
      exact resP.mk rfl (Sees.of_eq rfl)
  · repeat ((conv => whnf); first | (refine And.intro (by first | rfl | exact ⟨rfl, rfl⟩ | exact Or.inl ⟨_, rfl⟩ | exact Or.inr rfl | exact le_b rfl | ((repeat' (first | exact Els.nil _ | refine Els.cons rfl rfl ?_)); done) | exact Els.map (fun _ => ⟨rfl, rfl⟩) | exact Els.map (f := encI) (fun _ => ⟨rfl, rfl⟩) | exact (show _ * 8 ≤ _ by simp only [List.length_map, List.length_nil]; omega) | exact (by simp only [List.length_map, List.length_nil, maxLen]; omega) | kernel_rfl) ?_) )
    try (conv => whnf)
    exact resP.mk rfl (Sees.of_eq rfl)

theorem c_Clone0Link : PCall Tryd.prog L 75 [.sl false (([] : List Link).map Link.av)] (.sl false (([] : List Link).map Link.av)) := by
  refine PCall.intro mixed [] (nt := 8) Tryd.func75 rfl rfl (by simp) ?_
  repeat ((conv => whnf); first | (refine And.intro (by first | rfl | exact ⟨rfl, rfl⟩ | exact Or.inl ⟨_, rfl⟩ | exact Or.inr rfl | exact le_b rfl | ((repeat' (first | exact Els.nil _ | refine Els.cons rfl rfl ?_)); done) | exact Els.map (fun _ => ⟨rfl, rfl⟩)  | kernel_rfl) ?_) )
  try (conv => whnf)
  intro b
  cases b
  · repeat ((conv => whnf); first | (refine And.intro (by first | rfl | exact ⟨rfl, rfl⟩ | exact Or.inl ⟨_, rfl⟩ | exact Or.inr rfl | exact le_b rfl | ((repeat' (first | exact Els.nil _ | refine Els.cons rfl rfl ?_)); done) | exact Els.map (fun _ => ⟨rfl, rfl⟩) | exact Els.map (f := Link.av) (fun x => ⟨(linkOk).len x, (linkOk).cell x⟩) | kernel_rfl) ?_) )
    try (conv => whnf)
    exact resP.mk rfl (Sees.of_eq rfl)
  · repeat ((conv => whnf); first | (refine And.intro (by first | rfl | exact ⟨rfl, rfl⟩ | exact Or.inl ⟨_, rfl⟩ | exact Or.inr rfl | exact le_b rfl | ((repeat' (first | exact Els.nil _ | refine Els.cons rfl rfl ?_)); done) | exact Els.map (fun _ => ⟨rfl, rfl⟩)  | kernel_rfl) ?_) )
    try (conv => whnf)
    exact resP.mk rfl (Sees.of_eq rfl)

theorem c_CloneLink (l : List Link) (hne : l ≠ []) (hl : l.length ≤ 1099511627776) : FCall Tryd.prog L 75 [.sl false (l.map Link.av)] (l.map Link.av) 3 102 := by
  refine FCall.of_ICall (ICall.intro mixed [] (nt := 8) Tryd.func75 rfl rfl (by simp) ?_)
  repeat ((conv => whnf); first | (refine And.intro (by first | rfl | exact ⟨rfl, rfl⟩ | exact Or.inl ⟨_, rfl⟩ | exact Or.inr rfl | exact le_b rfl | ((repeat' (first | exact Els.nil _ | refine Els.cons rfl rfl ?_)); done) | exact Els.map (fun _ => ⟨rfl, rfl⟩)  | kernel_rfl) ?_) )
  try (conv => whnf)
  refine BrK.mk (fun h => ?_) (fun h => ?_) <;> (try rw [h])
  · exact absurd (by simpa using h) hne
  · repeat ((conv => whnf); first | (refine And.intro (by first | rfl | exact ⟨rfl, rfl⟩ | exact Or.inl ⟨_, rfl⟩ | exact Or.inr rfl | exact le_b rfl | ((repeat' (first | exact Els.nil _ | refine Els.cons rfl rfl ?_)); done) | exact Els.map (fun _ => ⟨rfl, rfl⟩) | exact Els.map (f := Link.av) (fun x => ⟨(linkOk).len x, (linkOk).cell x⟩) | exact (show _ * 24 ≤ _ by simp only [List.length_map, List.length_nil]; omega) | exact (by simp only [List.length_map, List.length_nil, maxLen]; omega) | kernel_rfl) ?_) )
    try (conv => whnf)
    exact ⟨_, rfl, rfl, rfl⟩

end
end HM
