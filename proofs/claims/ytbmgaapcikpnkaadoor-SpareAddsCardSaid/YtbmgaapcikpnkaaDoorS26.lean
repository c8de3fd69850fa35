/- The law on added places: the row and its card. -/
import Derived.Test.YtbmgaapcikpnkaaDoorS20
import Derived.Test.YtbmgaapcikpnkaaDoorS25

namespace Go.Proofs.YtbmgaapcikpnkaaDoor
open Go Go.ChangeShapes Go.WideShapes Go.ChangeAt Go.RowKit HM

set_option maxRecDepth 100000 in
theorem spareAdds_lifted (os : Os) (started : os.Started) (H : Type) (enc : TypeId × Value → H) :
    ReturnsInHanded {} Tryd.checked os 4 .any (fun w args => (Rows.spareAddsSpec.pre enc Tryd.prog Tryd.f4 [] false w args ∧ laidMetH Tryd.prog laid3 w) ∧ sizedMet enc Tryd.prog Tryd.f4 (OpenSpec.ofChange Rows.spareAddsSpec) false w args)
      (Rows.spareAddsSpec.post enc Tryd.prog Tryd.f4 false true false false) := by
  refine returnsInHanded_of_change_and (C := Tryd.checked) (X := fun w _ => laidMetH Tryd.prog laid3 w) (fun _ _ _ hh h => h.of_heap hh) own started (by kernel_rfl) Tryd.func4
    (ChangeSpec.witness_shaped (enc := enc) (C := Tryd.checked) (os := os) (X := fun w _ => laidMetH Tryd.prog laid3 w) false (World.doorLaid Tryd.prog 400 os) #[.agg #[.int .i64 0, .int .i64 0, .slice .none 0 0]] 8 rfl (World.shaped_of_RefB (by kernel_rfl) (by kernel_rfl)) (by kernel_rfl) (by kernel_rfl) (by kernel_rfl) (door_met os _)) ?_
  intro W base args ds gs before hval0 hW _ hsz hL _
  have hW' := hW
  have hblk : ∀ p ∈ before, p.block < W.heap.size := fun p hp => hW.lt p hp
  obtain ⟨p, q, hA, hV, rfl, hfz, hnd⟩ := hW
  obtain ⟨rfl, rfl⟩ := trodVars_none hV
  have hA' : DataW.TrodAll enc Tryd.prog W 0 (fun _ => true) true [24] args.toList ds p := hA
  have hsz' : ((DataW.weightsEach Tryd.prog ([24] ++ []) (ds ++ [])).all fun x => decide (x ≤ reachBytes)) = true := hsz
  rw [List.append_nil, List.append_nil] at hsz'
  have hval : ∀ (j : Nat) t v, [24][j]? = some t → args.toList[j]? = some v → Value.okWide Tryd.prog W .any base t v := fun j t v h1 h2 => hval0 j t v (by rw [← Array.getElem?_toList]; exact h1) (by rw [← Array.getElem?_toList]; exact h2)
  obtain ⟨x1, rfl⟩ := List.length_eq_one_iff.1 (trodAll_len hA')
  obtain ⟨es, hes, hvr⟩ := readArgs [tSched] (P := Tryd.prog) (ts := [24]) ⟨ok_sched, trivial⟩ hA' hval (fun m hm => by
    have := List.all_eq_true.1 hsz' m hm
    simpa using this)
  obtain ⟨l1, rfl, a1⟩ := sh1 hes
  obtain ⟨s, rfl⟩ := sh_sched a1
  have hcall := c_SpareAdds s W (gOld W) (lw_later (lw_of hL)) rfl (fun _ _ _ _ h => h) args.toList hvr
  rw [Array.toArray_toList] at hcall
  refine hcall.mono fun e W' ⟨v, he, hb, hv⟩ => ?_
  obtain rfl : v = .bool true := hv
  subst he
  exact ⟨_, rfl, post_of_below (pa := p) (pv := []) hW' (fun _ _ _ => trodAll_mk1 (shut_bool bool_und true)) (fun sp hsp => trodAll_stays laidOut hb (by kernel_rfl) hA' (fun p hp => hblk p (by simpa using hp)) (fun p hp => hsp p (by simpa using hp))) (fun _ _ => rfl) rfl hb (ok_one (by kernel_rfl) rfl (okWide_bool_mk bool_und true))⟩


theorem spareAdds_row : Rows.SpareAddsSaid :=
  OpenClaim.holds_of_wide 4 Tryd.f4 rfl rfl rfl rfl rfl rfl rfl ⟨rfl, rfl, rfl, rfl, rfl⟩ rfl rfl rfl rfl rfl (by kernel_rfl) Tryd.func4 (by kernel_rfl)
    (of_decide_eq_true (by kernel_rfl)) (by unfold Func.isWrapper; first | (rw [if_pos (by decide +kernel)]; kernel_rfl) | (rw [if_neg (by decide +kernel)]; exact ⟨rfl, rfl⟩))
    (fun os started H enc _ => spareAdds_lifted os started H enc)
theorem spareAdds_card : Rows.SpareAddsCardSaid :=
  Claim7.holds_tied_plain_at .later [] [.data, .data, .data] true (true, "e74d05969769f7c3d448502ea5deb57ea4b6d88c729443141329bcb8c5be4efe") false
    spareAdds_row (fun _ h => by cases h) (by kernel_rfl) (fun _ h => by cases h) spareAdds_row_tie rfl ⟨rfl, rfl⟩ (by kernel_rfl) rfl
    (fun f fn hf hfn => by
      obtain rfl : f = 4 := Option.some.inj ((show Tryd.prog.funcNamed "hopmesh/hopmeshlaw44.SpareAdds" = some 4 by kernel_rfl).symm.trans hf) |>.symm
      obtain rfl : fn = Tryd.f4 := (Option.some.inj (Tryd.func4.symm.trans hfn)).symm
      exact ⟨by kernel_rfl, fun j t ht => by
        have hm : t ∈ [24] := by
          have := Array.mem_of_getElem? ht
          have h2 : t ∈ Tryd.f4.params.toList := by simpa using this
          exact h2
        have hall : ([24].all fun u => !Tryd.prog.wantsStandIn u) = true := by kernel_rfl
        exact (show Tryd.prog.wantsStandIn t = false by simpa using List.all_eq_true.1 hall t hm)⟩)
    (by kernel_rfl)
end Go.Proofs.YtbmgaapcikpnkaaDoor
