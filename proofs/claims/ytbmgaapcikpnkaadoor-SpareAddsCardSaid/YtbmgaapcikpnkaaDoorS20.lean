/- The law on Take: the row and its card. -/
import Derived.Test.YtbmgaapcikpnkaaDoorS19
import Derived.Test.YtbmgaapcikpnkaaDoorDa
import Derived.Test.YtbmgaapcikpnkaaDoorRows
import Derived.Test.YtbmgaapcikpnkaaDoorTie
import Derived.Test.YtbmgaapcikpnkaaDoorCards
import Derived.ProofKit
import Derived.LaidMore
import Derived.OpenShut
import Derived.Stop.Joined
import Derived.SevenTiedAt
import Derived.Lib.LaidTab

namespace Go.Proofs.YtbmgaapcikpnkaaDoor
open Go Go.ChangeShapes Go.WideShapes Go.ChangeAt Go.RowKit HM

theorem own : ownKnob Tryd.prog.godebug = none := by kernel_rfl
theorem laidOut : laidOutB Tryd.prog = true := by kernel_rfl
def laid3 : List (String × DataW Unit) := [("math/bits.deBruijn32tab", Rows.laid_math_bits_deBruijn32tab), ("math/bits.deBruijn64tab", Rows.laid_math_bits_deBruijn64tab), ("internal/strconv.uint64pow10", Rows.laid_internal_strconv_uint64pow10)]

theorem door_met (os : Os) (args : Array Value) : laidMetH Tryd.prog laid3 ((World.doorLaid Tryd.prog 400 os).forCall (fun _ _ => 0) ⟨#[], args, []⟩).memory :=
  laidMetH_of_parts3 (fuel := 8) (laidMet_of_run' 8 (by kernel_rfl) (by kernel_rfl)) (by kernel_rfl) (by kernel_rfl)

theorem lw_of {W : World} (h : laidMetH Tryd.prog laid3 W) : LW W := by
  rw [MakeChecks.laidMetH_plain _ _ _ (by kernel_rfl)] at h
  obtain ⟨ps, ⟨g0, t0, cs0, f0, p0, q0, hg0, ht0, hv0, hd0, ⟨g1, t1, cs1, f1, p1, q1, hg1, ht1, hv1, hd1, ⟨g2, t2, cs2, f2, p2, q2, hg2, ht2, hv2, hd2, _, _⟩, _⟩, _⟩, _, _⟩ := h
  have e0 : Tryd.prog.globalNamed "internal/strconv.uint64pow10" = some 0 := by kernel_rfl
  have e1 : (Tryd.prog.globals[0]?).map (·.type) = some 101 := by kernel_rfl
  obtain rfl := Option.some.inj (e0.symm.trans hg2)
  obtain rfl := Option.some.inj (e1.symm.trans ht2)
  have hc := Lib.cells_of_tab (zs := Lib.pow10Tab) (k := .u64) (t := 101) (e := 94) (n := 20) (by kernel_rfl) (by kernel_rfl) (by kernel_rfl) (by kernel_rfl) hd2
  unfold LW Lib.TabIs
  rw [hv2, ← hc]
theorem lw_later {W : World} (h : LW W) : ∀ w', Below W.heap.size W w' → LW w' := fun w' hb => Lib.tabBelow_of_tabIs h w' hb

section
variable {H : Type} {enc : TypeId × Value → H} {P : Program}
theorem post_of_below {f : Func} {s : ChangeSpec} {apart fresh handsOn again : Bool} {W W' : World} {args : Array Value} {v : Value} {ds gs : List (DataW H)} {before pa pv : List MemPlace}
    (hW : DataW.Whole enc P f.params.toList s.vars apart W args.toList ds gs before)
    (hres : ∀ (b : Nat) (sp : Nat → Bool) (hd : Bool), DataW.TrodAll enc P W' b sp hd f.resultTypes.toList (v.resultList f.resultTypes.size) (s.fn H (ds ++ gs)).results [])
    (hargs : ∀ sp : Nat → Bool, (∀ p ∈ before, sp p.block = true) → DataW.TrodAll enc P W' 0 sp true f.params.toList args.toList (s.fn H (ds ++ gs)).args pa)
    (hvars : ∀ sp : Nat → Bool, (∀ p ∈ before, sp p.block = true) → DataW.TrodVars enc P W' sp s.vars (s.fn H (ds ++ gs)).vars pv)
    (hps : before = pa ++ pv) (hb : Below W.heap.size W W')
    (hok : ∀ (j : Nat) (t : TypeId) (r : Value), f.resultTypes[j]? = some t → (v.resultList f.resultTypes.size)[j]? = some r → Value.okWide P W' .any 0 t r) :
    s.post enc P f apart fresh handsOn again W args v W' := by
  have hlt : ∀ p ∈ before, p.block < W.heap.size := fun p hp => hW.lt p hp
  have hold : ∀ p ∈ before, (fun b => decide (b < W.heap.size)) p.block = true := fun p hp => by simpa using hlt p hp
  refine ⟨ds, gs, before, [], pa, pv, hW, hres _ _ _, hargs _ hold, hvars _ hold, World.keptBut_mono (fun p hp => ⟨hp, ?_⟩) (hb.frame (· ∈ before)), fun _ => ?_⟩
  · rw [hps, List.mem_append] at hp
    exact Or.inr hp
  · obtain ⟨_, _, _, _, _, hz, hn⟩ := hW
    refine ⟨hok, _, _, ([] ++ pa) ++ pv, ⟨[] ++ pa, pv, trodAll_append (hargs _ (fun _ _ => rfl)) (hres _ _ _), hvars _ (fun _ _ => rfl), rfl, ?_, ?_⟩, ?_⟩
    · intro b off hp
      have hin : MemPlace.cell b off ∈ before := by rw [hps]; simpa using hp
      rw [hb.frozen (hlt _ hin)]
      exact hz b off hin
    · intro ha
      have := hn ha
      rw [hps] at this
      simpa using this
    · intro p hp _
      rw [hps]
      simpa using hp
end

theorem bool_und : Tryd.prog.underlying 4 = some .bool := by kernel_rfl
theorem ok_int : tI.ok Tryd.prog 3 := (by kernel_rfl : Tryd.prog.underlying 3 = some (.int .i64))
set_option maxRecDepth 100000 in
theorem ok_cell : tCell.ok Tryd.prog 29 := ⟨_, rfl, by kernel_rfl, rfl, by kernel_rfl, ok_int, rfl, by kernel_rfl, ok_int, rfl, by kernel_rfl, ok_int, rfl, by kernel_rfl, ok_int, rfl, by kernel_rfl, ok_int, trivial⟩
theorem ok_cells : (Ty.sl tCell).ok Tryd.prog 22 := ⟨29, by kernel_rfl, by kernel_rfl, by decide, Nat.le_of_ble_eq_true (by kernel_rfl), ok_cell⟩
theorem ok_free : (Ty.sl tI).ok Tryd.prog 26 := ⟨3, by kernel_rfl, by kernel_rfl, by decide, Nat.le_of_ble_eq_true (by kernel_rfl), ok_int⟩
set_option maxRecDepth 100000 in
theorem ok_sched : tSched.ok Tryd.prog 24 := ⟨_, rfl, by kernel_rfl, rfl, by kernel_rfl, ok_int, rfl, by kernel_rfl, ok_int, rfl, by kernel_rfl, ok_cells, trivial⟩

set_option maxRecDepth 100000 in
theorem spareTakes_lifted (os : Os) (started : os.Started) (H : Type) (enc : TypeId × Value → H) :
    ReturnsInHanded {} Tryd.checked os 3 .any (fun w args => (Rows.spareTakesSpec.pre enc Tryd.prog Tryd.f3 [] false w args ∧ laidMetH Tryd.prog laid3 w) ∧ sizedMet enc Tryd.prog Tryd.f3 (OpenSpec.ofChange Rows.spareTakesSpec) false w args)
      (Rows.spareTakesSpec.post enc Tryd.prog Tryd.f3 false true false false) := by
  refine returnsInHanded_of_change_and (C := Tryd.checked) (X := fun w _ => laidMetH Tryd.prog laid3 w) (fun _ _ _ hh h => h.of_heap hh) own started (by kernel_rfl) Tryd.func3
    (ChangeSpec.witness_shaped (enc := enc) (C := Tryd.checked) (os := os) (X := fun w _ => laidMetH Tryd.prog laid3 w) false (World.doorLaid Tryd.prog 400 os) #[.agg #[.int .i64 0, .int .i64 0, .slice .none 0 0], .slice .none 0 0, .slice .none 0 0, .int .i64 0, .int .i64 0] 8 rfl (World.shaped_of_RefB (by kernel_rfl) (by kernel_rfl)) (by kernel_rfl) (by kernel_rfl) (by kernel_rfl) (door_met os _)) ?_
  intro W base args ds gs before hval0 hW _ hsz hL _
  have hW' := hW
  have hblk : ∀ p ∈ before, p.block < W.heap.size := fun p hp => hW.lt p hp
  obtain ⟨p, q, hA, hV, rfl, hfz, hnd⟩ := hW
  obtain ⟨rfl, rfl⟩ := trodVars_none hV
  have hA' : DataW.TrodAll enc Tryd.prog W 0 (fun _ => true) true [24, 26, 22, 3, 3] args.toList ds p := hA
  have hsz' : ((DataW.weightsEach Tryd.prog ([24, 26, 22, 3, 3] ++ []) (ds ++ [])).all fun x => decide (x ≤ reachBytes)) = true := hsz
  rw [List.append_nil, List.append_nil] at hsz'
  have hval : ∀ (j : Nat) t v, [24, 26, 22, 3, 3][j]? = some t → args.toList[j]? = some v → Value.okWide Tryd.prog W .any base t v := fun j t v h1 h2 => hval0 j t v (by rw [← Array.getElem?_toList]; exact h1) (by rw [← Array.getElem?_toList]; exact h2)
  obtain ⟨x1, x2, x3, x4, x5, rfl⟩ := len5 (trodAll_len hA')
  obtain ⟨es, hes, hvr⟩ := readArgs [tSched, .sl tI, .sl tCell, tI, tI] (P := Tryd.prog) (ts := [24, 26, 22, 3, 3]) ⟨ok_sched, ok_free, ok_cells, ok_int, ok_int, trivial⟩ hA' hval (fun m hm => by
    have := List.all_eq_true.1 hsz' m hm
    simpa using this)
  obtain ⟨l1, l2, l3, l4, l5, rfl, a1, a2, a3, a4, a5⟩ := sh5 hes
  obtain ⟨s, rfl⟩ := sh_sched a1
  obtain ⟨f, rfl, hf⟩ := sh_ints a2
  obtain ⟨used, rfl, hu⟩ := sh_cells a3
  obtain ⟨src, rfl, _⟩ := sh_int a4
  obtain ⟨dst, rfl, _⟩ := sh_int a5
  have hcall := c_SpareTakes s f used src dst (by omega) (by omega) W (gOld W) (lw_later (lw_of hL)) rfl (fun _ _ _ _ h => h) args.toList hvr
  rw [Array.toArray_toList] at hcall
  refine hcall.mono fun e W' ⟨v, he, hb, hv⟩ => ?_
  obtain rfl : v = .bool true := hv
  subst he
  exact ⟨_, rfl, post_of_below (pa := p) (pv := []) hW' (fun _ _ _ => trodAll_mk1 (shut_bool bool_und true)) (fun sp hsp => trodAll_stays laidOut hb (by kernel_rfl) hA' (fun p hp => hblk p (by simpa using hp)) (fun p hp => hsp p (by simpa using hp))) (fun _ _ => rfl) rfl hb (ok_one (by kernel_rfl) rfl (okWide_bool_mk bool_und true))⟩


theorem spareTakes_row : Rows.SpareTakesSaid :=
  OpenClaim.holds_of_wide 3 Tryd.f3 rfl rfl rfl rfl rfl rfl rfl ⟨rfl, rfl, rfl, rfl, rfl⟩ rfl rfl rfl rfl rfl (by kernel_rfl) Tryd.func3 (by kernel_rfl)
    (of_decide_eq_true (by kernel_rfl)) (by unfold Func.isWrapper; first | (rw [if_pos (by decide +kernel)]; kernel_rfl) | (rw [if_neg (by decide +kernel)]; exact ⟨rfl, rfl⟩))
    (fun os started H enc _ => spareTakes_lifted os started H enc)
theorem spareTakes_card : Rows.SpareTakesCardSaid :=
  Claim7.holds_tied_plain_at .later [] [.data, .data, .data] true (true, "e74d05969769f7c3d448502ea5deb57ea4b6d88c729443141329bcb8c5be4efe") false
    spareTakes_row (fun _ h => by cases h) (by kernel_rfl) (fun _ h => by cases h) spareTakes_row_tie rfl ⟨rfl, rfl⟩ (by kernel_rfl) rfl
    (fun f fn hf hfn => by
      obtain rfl : f = 3 := Option.some.inj ((show Tryd.prog.funcNamed "hopmesh/hopmeshlaw44.SpareTakes" = some 3 by kernel_rfl).symm.trans hf) |>.symm
      obtain rfl : fn = Tryd.f3 := (Option.some.inj (Tryd.func3.symm.trans hfn)).symm
      exact ⟨by kernel_rfl, fun j t ht => by
        have hm : t ∈ [24, 26, 22, 3, 3] := by
          have := Array.mem_of_getElem? ht
          have h2 : t ∈ Tryd.f3.params.toList := by simpa using this
          exact h2
        have hall : ([24, 26, 22, 3, 3].all fun u => !Tryd.prog.wantsStandIn u) = true := by kernel_rfl
        exact (show Tryd.prog.wantsStandIn t = false by simpa using List.all_eq_true.1 hall t hm)⟩)
    (by kernel_rfl)
end Go.Proofs.YtbmgaapcikpnkaaDoor
