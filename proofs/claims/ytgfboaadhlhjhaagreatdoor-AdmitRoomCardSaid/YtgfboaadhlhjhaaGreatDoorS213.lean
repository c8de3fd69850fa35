/- slices.Clone of an empty slice and slices.Insert into it, over any store. -/
import Derived.Test.YtgfboaadhlhjhaaGreatDoorS190
import Derived.Test.YtgfboaadhlhjhaaGreatDoorFh
set_option maxRecDepth 100000
namespace HM
open Go Go.RowKit Go.Proofs
section
variable (L : World → Prop)
def Emp (S : St) (v : AV) : Prop := v = .nils ∨ v = .sl true [] ∨ ∃ ch, v = .own [] ch ∧ S.fr[ch]? = some (0, 5) ∧ S.ty ch = 61
theorem Emp.addF {S : St} {v : AV} (h : Emp S v) (x : Nat × Nat) (e : TypeId) : Emp (S.addF x e) v := by
  rcases h with h | h | ⟨ch, h1, h2, h3⟩
  · exact .inl h
  · exact .inr (.inl h)
  · exact .inr (.inr ⟨ch, h1, St.addF_old h2, by rw [St.addF_tyo h2]; exact h3⟩)
set_option maxHeartbeats 8000000 in
theorem i_CloneCell0 (S : St) {K : AV → St → Prop} (hK : ∀ (S' : St) (v : AV), S'.bx = S.bx → (∀ (c : Nat) (x : Nat × Nat), S.fr[c]? = some x → S'.fr[c]? = some x) → Emp S' v → K v S') :
    ICall Tryz.prog L 46 [encCells []] S K := by
  refine ICall.intro mixed [] (nt := 8) Tryz.func46 rfl rfl (by simp) ?_
  have hA : ∀ x e, (S.inner.addF x e).fr[S.inner.fr.length]? = some x := fun x e => St.addF_get _ _ _
  have hA2 : ∀ x e, (S.inner.addF x e).ty S.inner.fr.length = e := fun x e => St.addF_tyn _ _ _
  repeat ((conv => whnf); first | refine sJ ?_ | refine And.intro (by first | exact trivial | exact hA _ _ | exact hA2 _ _ | exact ⟨by decide, by decide⟩ | kernel_rfl) ?_ | (refine BrK.mk (fun h => ?_) (fun h => ?_)) | (intro b; cases b) | rw [hA])
  try (conv => whnf)
  all_goals
    repeat ((conv => whnf); first | refine sJ ?_ | refine And.intro (by first | exact trivial | exact ⟨by decide, by decide⟩ | exact hA _ _ | exact hA2 _ _ | kernel_rfl) ?_ | (refine BrK.mk (fun h => ?_) (fun h => ?_)) | (intro b; cases b) | rw [hA])
    try (conv => whnf)
  · refine hK _ _ rfl (fun c x h => ?_) (.inr (.inr ⟨_, rfl, St.setF_get (hA _ _), hA2 (0, 4 + 1) _⟩))
    have := (List.getElem?_eq_some_iff.1 h).1
    show ((S.fr ++ [((0 : Nat), 4 + 1)]).set S.fr.length _)[c]? = some x
    rw [List.getElem?_set_ne (by omega), List.getElem?_append_left this]; exact h
  · exact hK _ _ rfl (fun _ _ h => h) (.inl rfl)
set_option maxHeartbeats 8000000 in
theorem i_InsCell0 (S : St) (ch : Nat) (c : Cell) {K : AV → St → Prop} (v0 : AV) (hv : Emp S v0) (hch : S.fr[ch]? = some (1, 5))
    (hK : ∀ (S' : St) (ch2 : Nat), S'.bx = S.bx → K (.own [c.av] ch2) S') :
    ICall Tryz.prog L 70 [v0, .int .i64 0, .own [c.av] ch] S K := by
  refine ICall.intro mixed [] (nt := 95) Tryz.func70 rfl rfl (by simp) ?_
  rcases hv with rfl | rfl | ⟨c0, rfl, h0, ht⟩
  all_goals
    have hch' : S.inner.fr[ch]? = some (1, 5) := hch
    try have h0' : S.inner.fr[c0]? = some (0, 5) := h0
    try have ht' : S.inner.ty c0 = 61 := ht
    repeat ((conv => whnf); first | refine sJ ?_ | refine And.intro (by first | exact trivial | exact ⟨by decide, by decide⟩ | exact h0' | exact ht' | kernel_rfl) ?_ | (refine BrK.mk (fun h => ?_) (fun h => ?_)) | (intro b; cases b))
    try (conv => whnf)
  all_goals (conv => whnf)
  all_goals exact hK _ _ rfl
end
end HM
