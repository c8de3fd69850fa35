/- A cell less: slices.Delete; the schedule behind a change. -/
import Derived.Test.YtmbbmcoeedoafaaGreatDoorS54
import Derived.Test.YtmbbmcoeedoafaaGreatDoorDb

set_option maxRecDepth 100000
namespace HM
open Go Go.RowKit Go.Proofs
section
variable (L : World → Prop)

theorem del_cells (l : List Cell) (p : Nat) (U : List AV) (hp : p < l.length) : splice (flatE (l.map Cell.av) ++ U) (p * 5) (((flatE (l.map Cell.av) ++ U).drop ((p + 1) * 5)).take ((l.length - (p + 1)) * 5)) = flatE ((delAt l p ++ l.drop (l.length - 1)).map Cell.av) ++ U := by
  have hA : ∀ k, k ≤ l.length → (flatE ((l.take k).map Cell.av)).length = k * 5 := fun k hk => by rw [cellOk.flen, List.length_take, Nat.min_eq_left hk]
  have hdrop : ∀ k, k ≤ l.length → (flatE (l.map Cell.av) ++ U).drop (k * 5) = flatE ((l.drop k).map Cell.av) ++ U := fun k hk => by
    rw [cut_cells l k, List.append_assoc, ← hA k hk, List.drop_left]
  have hB : (flatE ((l.drop (p + 1)).map Cell.av)).length = (l.length - (p + 1)) * 5 := by rw [cellOk.flen, List.length_drop]
  have hF : (flatE (l.map Cell.av)).length = l.length * 5 := cellOk.flen l
  rw [hdrop (p + 1) (by omega), ← hB, List.take_left]
  rw [splice_eq _ _ _ (by rw [List.length_append, hF, hB]; omega), hB, show p * 5 + (l.length - (p + 1)) * 5 = (l.length - 1) * 5 by omega, hdrop (l.length - 1) (by omega)]
  have htake : (flatE (l.map Cell.av) ++ U).take (p * 5) = flatE ((l.take p).map Cell.av) := by
    rw [cut_cells l p, List.append_assoc, ← hA p (by omega), List.take_left]
  rw [htake]
  simp only [delAt, List.map_append, flatE_app, List.append_assoc]

theorem i_DelCell (o0 o1 o2 : Ob) (n0 m0 : Nat) (ty : Nat → TypeId) (l : List Cell) (p d : Nat) {K : AV → St → Prop} (hp : p < l.length) (hl : l.length ≤ 512) (n : Nat) (hn : n = l.length)
    (hK : ∀ ex : List AV, K (.vsl 3 0 (l.length - 1) 5) ⟨[o0, o1, o2, .cells (flatE ((delAt l p).map Cell.av) ++ ex) 34], [], n0, m0, ty⟩) :
    ICall Tryz.prog L 22 [.vsl 3 0 n 5, .int .i64 p, .int .i64 ((p + 1 : Nat) : Int)] ⟨[o0, o1, o2, freshO (l.map Cell.av) 5 d 34], [], n0, m0, ty⟩ K := by
  subst hn
  refine ICall.intro mixed [] (nt := 33) Tryz.func22 rfl rfl (by simp) ?_
  have hF : (flatE (l.map Cell.av)).length = l.length * 5 := cellOk.flen l
  have hd : (flatE (l.map Cell.av) ++ List.replicate (d * 5) AV.undef).length = l.length * 5 + d * 5 := by rw [List.length_append, hF, List.length_replicate]
  have hB : (flatE ((l.drop (p + 1)).map Cell.av)).length = (l.length - (p + 1)) * 5 := by rw [cellOk.flen, List.length_drop]
  repeat ((conv => whnf); first | refine sJ ?_ | refine And.intro (by first | exact (show (0 : Int) ≤ (p : Int) ∧ (p : Int) ≤ ((p + 1 : Nat) : Int) ∧ ((p + 1 : Nat) : Int) ≤ (l.length : Int) ∧ (l.length : Int) ≤ ((l.length : Nat) : Int) from ⟨by omega, by omega, by omega, by omega⟩) | kernel_rfl) ?_ )
  try (conv => whnf)
  refine BrK.mk (fun h1 => ?_) (fun h1 => ?_) <;> (try rw [h1])
  · exfalso
    simp at h1
    omega
  repeat ((conv => whnf); first | refine sJ ?_ | refine And.intro (by first | exact ⟨by omega, (show 0 + p * 5 ≤ (flatE (l.map Cell.av) ++ List.replicate (d * 5) AV.undef).length by rw [hd]; omega), by decide⟩ | exact (show InC ((p + 1 : Nat) : Int) l.length from ⟨by omega, by omega⟩) | kernel_rfl) ?_ )
  try (conv => whnf)
  have hT : (l.length - ((p + 1 : Nat) : Int).toNat) = l.length - (p + 1) := rfl
  have hdrop : (flatE (l.map Cell.av) ++ List.replicate (d * 5) AV.undef).drop (0 + ((p + 1 : Nat) : Int).toNat * 5) = flatE ((l.drop (p + 1)).map Cell.av) ++ List.replicate (d * 5) AV.undef := by
    rw [Int.toNat_natCast, Nat.zero_add, cut_cells l (p + 1), List.append_assoc, ← (show (flatE ((l.take (p + 1)).map Cell.av)).length = (p + 1) * 5 by rw [cellOk.flen, List.length_take, Nat.min_eq_left (by omega)]), List.drop_left]
  have htake : ((flatE (l.map Cell.av) ++ List.replicate (d * 5) AV.undef).drop (0 + ((p + 1 : Nat) : Int).toNat * 5)).take ((l.length - ((p + 1 : Nat) : Int).toNat) * 5) = flatE ((l.drop (p + 1)).map Cell.av) := by
    rw [hdrop, hT, ← hB, List.take_left]
  refine And.intro ⟨rfl, rfl, by decide, ?_, ?_, ?_⟩ ?_
  · rw [htake, hT, hB]
  · rw [htake]; exact flatE_cell (cellOk.els _)
  · rw [hd, hT, Int.toNat_natCast]; omega
  have hU := del_cells l p (List.replicate (d * 5) AV.undef) hp
  have hlast : (l.drop (l.length - 1)).length = 1 := by rw [List.length_drop]; omega
  have hal : (delAt l p ++ l.drop (l.length - 1)).length = l.length := by rw [List.length_append, delAt_len hp, hlast]; omega
  have hpl : (p : Int).toNat + (l.length - ((p + 1 : Nat) : Int).toNat) = l.length - 1 := by rw [hT, Int.toNat_natCast]; omega
  rw [hpl]
  rw [show (0 + ((p + 1 : Nat) : Int).toNat * 5) = (p + 1) * 5 from by rw [Nat.zero_add]; rfl, show (l.length - ((p + 1 : Nat) : Int).toNat) = l.length - (p + 1) from rfl, show (p : Int).toNat * 5 = p * 5 from rfl, hU]
  have hd2 : (flatE ((delAt l p ++ l.drop (l.length - 1)).map Cell.av) ++ List.replicate (d * 5) AV.undef).length = l.length * 5 + d * 5 := by rw [List.length_append, cellOk.flen, hal, List.length_replicate]
  have hl1 : (l.length : Int).toNat - ((l.length - 1 : Nat) : Int).toNat = l.length - (l.length - 1) := rfl
  repeat ((conv => whnf); first | refine sJ ?_ | refine And.intro (by first | exact ⟨by omega, (show 0 + l.length * 5 ≤ (flatE ((delAt l p ++ l.drop (l.length - 1)).map Cell.av) ++ List.replicate (d * 5) AV.undef).length by rw [hd2]; omega), by decide⟩ | exact (show InC ((l.length - 1 : Nat) : Int) l.length from ⟨by omega, by omega⟩) | exact ⟨rfl, rfl, by decide, (show 0 + ((l.length - 1 : Nat) : Int).toNat * 5 + ((l.length : Int).toNat - ((l.length - 1 : Nat) : Int).toNat) * 5 ≤ (flatE ((delAt l p ++ l.drop (l.length - 1)).map Cell.av) ++ List.replicate (d * 5) AV.undef).length by rw [hd2, hl1, Int.toNat_natCast]; omega)⟩ | kernel_rfl) ?_ )
  try (conv => whnf)
  rw [cellOk.clr' (l := delAt l p ++ l.drop (l.length - 1)) (k := l.length - 1) _ _ 5 ((l.length : Int).toNat - ((l.length - 1 : Nat) : Int).toNat) rfl (by rw [hal]; rfl) (by omega) rfl]
  rw [show (delAt l p ++ l.drop (l.length - 1)).take (l.length - 1) = delAt l p from by rw [← delAt_len hp, List.take_left]]
  exact hK _

set_option maxHeartbeats 4000000 in
theorem c_Remove (s : Sched) (c : Cell) : PCall Tryz.prog L 7 [s.av, c.av] (.tup [(remM s c).1.av, .int .i64 (remM s c).2]) := by
  refine PCall.intro mixed [] (nt := 31) Tryz.func7 rfl rfl (by simp) ?_
  refine Wk ?_
  first | refine CallK.data rfl (c_form L s) rfl ?_ | refine CallP.data rfl (c_form L s) rfl ?_
  refine Wk ?_
  refine BrK.mk (fun h1 => ?_) (fun h1 => ?_) <;> (try rw [h1])
  · have h1' : formB s = false := by simpa using h1
    refine Wk ?_
    exact resP.mk rfl (Sees.of_eq (by rw [remM, if_pos h1']; rfl))
  have h1' : formB s = true := by simpa using h1
  obtain ⟨f1, f2, f3⟩ := form_all h1'
  refine Wk ?_
  first | refine CallK.data rfl (c_BinCell L s.cells c 21 (cellTo c) (by omega) rfl (formB_mono h1' c) (fun x _ => c_compare L x c)) rfl ?_ | refine CallP.data rfl (c_BinCell L s.cells c 21 (cellTo c) (by omega) rfl (formB_mono h1' c) (fun x _ => c_compare L x c)) rfl ?_
  rw [show posB (cellTo c) s.cells = posC s c from rfl, show hasB (cellTo c) s.cells = hasC s c from rfl]
  refine Wk ?_
  refine BrK.mk (fun h2 => ?_) (fun h2 => ?_) <;> (try rw [h2])
  · have h2' : hasC s c = false := by simpa using h2
    refine Wk ?_
    exact resP.mk rfl (Sees.of_eq (by rw [remM, if_neg (by simp [h1']), if_pos h2']; rfl))
  have h2' : hasC s c = true := by simpa using h2
  have hget := hasC_at h2'
  have hp := (List.getElem?_eq_some_iff.1 hget).1
  have hne : s.cells ≠ [] := by intro h; rw [h] at hp; simp at hp
  have hres : remM s c = (⟨s.len, s.offs, delAt s.cells (posC s c)⟩, 0) := by rw [remM, if_neg (by simp [h1']), if_neg (by simp [h2'])]
  rw [hres]
  clear hres
  refine Wk ?_
  refine CallK.fresh rfl (c_CloneCell L s.cells hne (by omega)) (by rfl) (cellOk.els _) (cellOk.scal (fun _ => rfl) _) (fun h => absurd (by simpa using h) hne) (fun d => ?_)
  have hw : IntKind.i64.wrap ((posC s c : Int) + 1) = ((posC s c + 1 : Nat) : Int) := by rw [w64] <;> omega
  refine Wk ?_
  rw [hw]
  refine CallK.inl rfl ?_
  refine i_DelCell L _ _ _ _ _ _ s.cells (posC s c) d hp f2 _ (by simp) (fun ex => ?_)
  refine Wk ?_
  exact resP.mk (fzAdd (cellOk.fzb rfl (delAt_len hp))) (Sees.rfl' _)

end
end HM
