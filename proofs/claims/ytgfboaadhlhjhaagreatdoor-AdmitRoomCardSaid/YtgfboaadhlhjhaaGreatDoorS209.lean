/- One cell more, where there is room: the program. -/
import Derived.Test.YtgfboaadhlhjhaaGreatDoorS191
import Derived.Test.YtgfboaadhlhjhaaGreatDoorS206
import Derived.Test.YtgfboaadhlhjhaaGreatDoorS212
import Derived.Test.YtgfboaadhlhjhaaGreatDoorS213
import Derived.Test.YtgfboaadhlhjhaaGreatDoorDc
import Derived.Test.YtgfboaadhlhjhaaGreatDoorFh
set_option maxRecDepth 100000
namespace HM
open Go Go.RowKit Go.Proofs
theorem hereL_le (s : Sched) (slot : Int) (j : Nat) : (hereL s slot j).length ≤ (s.cells.filter fun c => c.slot == slot).length := by
  unfold hereL
  exact List.Sublist.length_le ((List.take_sublist j s.cells).filter _)
def slG (n : Net) (s : Sched) (v : AV) : List AV := [.int .i64 n.nodes, encRows n.power, .int .i64 n.noise, .int .i64 n.thr, encLinks n.links, encIs n.margin, .int .i64 s.len, .int .i64 s.offs, v]
def slZ : List AV := [.int .i64 0, .nils, .int .i64 0, .int .i64 0, .nils, .nils, .int .i64 0, .int .i64 0, .nils]
def slBx (n : Net) (s : Sched) (Lp : LoopA) : List Ob := [.cells (slG n s (encCells s.cells)) 91, .dead, .dead, .dead, .cells slZ 91, .cells [.bool false] 4, .loop Lp]
def slS (n : Net) (s : Sched) (Lp : LoopA) : List Cell → St
  | [] => ⟨slBx n s Lp, [], 7, 0, fun _ => 61⟩
  | c :: cs => ⟨slBx n s Lp, [(1, 5), ((c :: cs).length, 5)], 7, 0, fun _ => 61⟩
def slSl (n : Net) (s : Sched) (l : Link) (id slot : Int) : List (Nat × AV) := [(4, .ptr 0 0), (5, .cptr l.av 0), (6, .cptr (.agg [.int .i64 id]) 0), (7, .cptr (.agg [.int .i64 slot]) 0), (8, .ptr 4 0), (9, .ptr 5 0), (23, .fn 93 [.cptr (gridAv n s) 0, .cptr (.agg [.int .i64 slot]) 0, .cptr l.av 0])]
def hereV1 : List Cell → AV
  | [] => .nils
  | c :: cs => .own ((c :: cs).map Cell.av) 1
theorem SemK.gen {P : Program} {L : World → Prop} {nt : Nat} {c : Code} {a : Nat → AV} {S : St} {Q : Exit → (Nat → AV) → St → Prop} (I : St → Prop) (hS : I S) (h : ∀ S2, I S2 → SemK P L nt c a S2 Q) : SemK P L nt c a S Q := h S hS
set_option maxHeartbeats 16000000 in
def slotHalf (n : Net) (s : Sched) (l : Link) (id k : Int) (_hn : n.small) (_hg : GridOk s) (hs : s.cells.length ≤ 1000000) (_hz : 1 ≤ s.offs ∧ s.offs ≤ 16) (_hk : 0 ≤ k ∧ k ≤ 512) :
    { p : Prop × Prop // (Unit → p.1) → (Unit → p.2) → PCall Tryz.prog LW 145 [gridAv n s, l.av, .int .i64 id, .int .i64 k] (.tup [gridAv n (slotM n s l.src l.dst id k).1, .bool (slotM n s l.src l.dst id k).2]) } := by
  refine ⟨(?p, ?q), fun H1 H2 => ?main⟩
  case main =>
    refine PCall.intro mixed [1] (nt := 53) Tryz.func145 rfl rfl (by simp) ?_
    refine Wk ?_
    refine SeqK.sem mixed [] ?_
    refine Wk ?_
    refine SemK.freezeB 1 rfl rfl ?_
    refine SemK.freezeB 2 rfl rfl ?_
    refine SemK.freezeB 3 rfl rfl ?_
    refine twC_sound (ct := []) mixed _ _ _ _ ?_
    refine Wk ?_
    first | refine CallK.data rfl (c_has LW n s l id k (by omega)) rfl ?_ | refine CallP.data rfl (c_has LW n s l id k (by omega)) rfl ?_
    cases hh : hasF s l.src l.dst id k with
    | true =>
      have hS : slotM n s l.src l.dst id k = (s, true) := by rw [slotM, if_pos hh]
      rw [hS]
      refine Wk ?_
      exact resP.mk rfl (Sees.of_eq rfl)
    | false =>
    refine Wk ?_
    first | refine CallK.data rfl (c_offsets LW n s l k) rfl ?_ | refine CallP.data rfl (c_offsets LW n s l k) rfl ?_
    refine Wk ?_
    refine RangeK.weak (l := slSl n s l id k) (S1 := ⟨[.cells (slG n s (encCells s.cells)) 91, .dead, .dead, .dead, .cells slZ 91, .cells [.bool false] 4], [], 0, 0, fun _ => 61⟩) ?_ ?_
    · refine Fits.mk' rfl rfl rfl rfl ?_ ?_ ?_ ?_ ?_ <;> repeat' (first | exact trivial | refine And.intro ?_ ?_ | exact Sees.of_eq rfl | exact lt_b rfl | rfl )
    refine RangeK.named rfl rfl fun Lp hLp => ?_
    have hok : ∀ k2 m, 6 ≤ k2 → Ob.okk k2 m (.loop Lp) := fun k2 m hk2 => loop_okk (l := slSl n s l id k) (by rw [hLp]) (by simp [slSl, okL, AV.okk, okks]; omega)
    have hbody : ∀ (S : St) (o : Nat) (K : AV → St → Prop), fitsM n s ⟨k, o, l.src, l.dst, 0⟩ = true → S.bx[0]? = some (.cells (slG n s (encCells s.cells)) 91) → S.bx[4]? = some (.cells slZ 91) → S.bx[5]? = some (.cells [.bool false] 4) → S.bx[6]? = some (.loop Lp) →
      (∀ S' v, S'.bx[4]? = some (.cells (slG n s v) 91) → S'.bx[5]? = some (.cells [.bool true] 4) → S'.bx[6]? = some (.loop { Lp with st := .done, pend := some .ret }) → (∀ S2 : St, (∀ id o, id ≠ 6 → S'.bx[id]? = some o → S2.bx[id]? = some o) → fzb S2 v = some (encCells (insAt s.cells (posC s ⟨k, o, l.src, l.dst, id⟩) ⟨k, o, l.src, l.dst, id⟩))) → K (.bool false) S') →
      CallK Tryz.prog LW S (.yld 6) [.int .i64 o] K := by
      clear hok
      revert hLp
      revert Lp
      exact H1 ()
    clear hok
    have hno : hasF s l.src l.dst id k = false := hh
    clear hh
    revert hno hbody hLp
    revert Lp
    exact H2 ()
end HM
