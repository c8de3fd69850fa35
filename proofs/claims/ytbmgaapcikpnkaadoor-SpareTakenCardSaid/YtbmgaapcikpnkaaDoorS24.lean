/- The law on places that were taken: the row and its card. -/
import Derived.Test.YtbmgaapcikpnkaaDoorS20
import Derived.Test.YtbmgaapcikpnkaaDoorS23

namespace Go.Proofs.YtbmgaapcikpnkaaDoor
open Go Go.ChangeShapes Go.WideShapes Go.ChangeAt Go.RowKit HM

set_option maxRecDepth 100000 in
theorem spareTaken_lifted (os : Os) (started : os.Started) (H : Type) (enc : TypeId × Value → H) :
    ReturnsInHanded {} Tryd.checked os 5 .any (fun w args => (Rows.spareTakenSpec.pre enc Tryd.prog Tryd.f5 [] false w args ∧ laidMetH Tryd.prog laid3 w) ∧ sizedMet enc Tryd.prog Tryd.f5 (OpenSpec.ofChange Rows.spareTakenSpec) false w args)
      (Rows.spareTakenSpec.post enc Tryd.prog Tryd.f5 false true false false) := by
  refine returnsInHanded_of_change_and (C := Tryd.checked) (X := fun w _ => laidMetH Tryd.prog laid3 w) (fun _ _ _ hh h => h.of_heap hh) own started (by kernel_rfl) Tryd.func5
    (ChangeSpec.witness_shaped (enc := enc) (C := Tryd.checked) (os := os) (X := fun w _ => laidMetH Tryd.prog laid3 w) false (World.doorLaid Tryd.prog 400 os) #[.agg #[.int .i64 0, .int .i64 0, .slice .none 0 0], .slice .none 0 0, .int .i64 0, .int .i64 0] 8 rfl (World.shaped_of_RefB (by kernel_rfl) (by kernel_rfl)) (by kernel_rfl) (by kernel_rfl) (by kernel_rfl) (door_met os _)) ?_
  intro W base args ds gs before hval0 hW _ hsz hL _
  have hW' := hW
  have hblk : ∀ p ∈ before, p.block < W.heap.size := fun p hp => hW.lt p hp
  obtain ⟨p, q, hA, hV, rfl, hfz, hnd⟩ := hW
  obtain ⟨rfl, rfl⟩ := trodVars_none hV
  have hA' : DataW.TrodAll enc Tryd.prog W 0 (fun _ => true) true [24, 22, 3, 3] args.toList ds p := hA
  have hsz' : ((DataW.weightsEach Tryd.prog ([24, 22, 3, 3] ++ []) (ds ++ [])).all fun x => decide (x ≤ reachBytes)) = true := hsz
  rw [List.append_nil, List.append_nil] at hsz'
  have hval : ∀ (j : Nat) t v, [24, 22, 3, 3][j]? = some t → args.toList[j]? = some v → Value.okWide Tryd.prog W .any base t v := fun j t v h1 h2 => hval0 j t v (by rw [← Array.getElem?_toList]; exact h1) (by rw [← Array.getElem?_toList]; exact h2)
  obtain ⟨x1, x2, x3, x4, rfl⟩ := len4 (trodAll_len hA')
  obtain ⟨es, hes, hvr⟩ := readArgs [tSched, .sl tCell, tI, tI] (P := Tryd.prog) (ts := [24, 22, 3, 3]) ⟨ok_sched, ok_cells, ok_int, ok_int, trivial⟩ hA' hval (fun m hm => by
    have := List.all_eq_true.1 hsz' m hm
    simpa using this)
  obtain ⟨l1, l2, l3, l4, rfl, a1, a2, a3, a4⟩ := sh4 hes
  obtain ⟨s, rfl⟩ := sh_sched a1
  obtain ⟨used, rfl, hu⟩ := sh_cells a2
  obtain ⟨src, rfl, _⟩ := sh_int a3
  obtain ⟨dst, rfl, _⟩ := sh_int a4
  have hcall := c_SpareTaken s used src dst W (gOld W) (lw_later (lw_of hL)) rfl (fun _ _ _ _ h => h) args.toList hvr
  rw [Array.toArray_toList] at hcall
  refine hcall.mono fun e W' ⟨v, he, hb, hv⟩ => ?_
  obtain rfl : v = .bool true := hv
  subst he
  exact ⟨_, rfl, post_of_below (pa := p) (pv := []) hW' (fun _ _ _ => trodAll_mk1 (shut_bool bool_und true)) (fun sp hsp => trodAll_stays laidOut hb (by kernel_rfl) hA' (fun p hp => hblk p (by simpa using hp)) (fun p hp => hsp p (by simpa using hp))) (fun _ _ => rfl) rfl hb (ok_one (by kernel_rfl) rfl (okWide_bool_mk bool_und true))⟩


theorem spareTaken_row : Rows.SpareTakenSaid :=
  OpenClaim.holds_of_wide 5 Tryd.f5 rfl rfl rfl rfl rfl rfl rfl ⟨rfl, rfl, rfl, rfl, rfl⟩ rfl rfl rfl rfl rfl (by kernel_rfl) Tryd.func5 (by kernel_rfl)
    (of_decide_eq_true (by kernel_rfl)) (by unfold Func.isWrapper; first | (rw [if_pos (by decide +kernel)]; kernel_rfl) | (rw [if_neg (by decide +kernel)]; exact ⟨rfl, rfl⟩))
    (fun os started H enc _ => spareTaken_lifted os started H enc)
theorem spareTaken_card : Rows.SpareTakenCardSaid :=
  Claim7.holds_tied_plain_at .later [] [.data, .data, .data] true (true, "e74d05969769f7c3d448502ea5deb57ea4b6d88c729443141329bcb8c5be4efe") false
    spareTaken_row (fun _ h => by cases h) (by kernel_rfl) (fun _ h => by cases h) spareTaken_row_tie rfl ⟨rfl, rfl⟩ (by kernel_rfl) rfl
    (fun f fn hf hfn => by
      obtain rfl : f = 5 := Option.some.inj ((show Tryd.prog.funcNamed "hopmesh/hopmeshlaw44.SpareTaken" = some 5 by kernel_rfl).symm.trans hf) |>.symm
      obtain rfl : fn = Tryd.f5 := (Option.some.inj (Tryd.func5.symm.trans hfn)).symm
      exact ⟨by kernel_rfl, fun j t ht => by
        have hm : t ∈ [24, 22, 3, 3] := by
          have := Array.mem_of_getElem? ht
          have h2 : t ∈ Tryd.f5.params.toList := by simpa using this
          exact h2
        have hall : ([24, 22, 3, 3].all fun u => !Tryd.prog.wantsStandIn u) = true := by kernel_rfl
        exact (show Tryd.prog.wantsStandIn t = false by simpa using List.all_eq_true.1 hall t hm)⟩)
    (by kernel_rfl)
end Go.Proofs.YtbmgaapcikpnkaaDoor
