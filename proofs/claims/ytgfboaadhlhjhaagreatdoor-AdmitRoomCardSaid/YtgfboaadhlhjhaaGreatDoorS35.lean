/- Which slots count: the program. -/
import Derived.Test.YtgfboaadhlhjhaaGreatDoorS34
set_option maxRecDepth 100000
namespace HM
open Go Go.RowKit Go.Proofs
theorem c_needed (w : Way) (hn : w.n.small) (h : WayOk w.n w.s w.f w.r) (h0 : netE w.n = 0) (hm0 : 0 ≤ w.more) (hm1 : w.more ≤ 8) : PCall Tryz.prog LW 160 [w.av] (.int .i64 (needUp w.n w.r w.more (w.r.length - 1))) := by
  have hlen := h.len
  refine PCall.intro mixed [] (nt := 14) Tryz.func160 rfl rfl (by simp) ?_
  refine Wk ?_
  first | refine CallK.data rfl (c_wlinks w) rfl ?_ | refine CallP.data rfl (c_wlinks w) rfl ?_
  refine Wk ?_
  refine RangeK.weak (l := [(1, .ptr 0 0), (3, .ptr 1 0), (6, .fn 200 [.cptr w.av 0])]) (S1 := ⟨[.cells w.cs 120, .cells [.int .i64 0] 3], [], 0, 0, fun _ => 0⟩) ?_ ?_
  · refine Fits.mk' rfl rfl rfl rfl ?_ ?_ ?_ ?_ ?_ <;> repeat' (first | exact trivial | refine And.intro ?_ ?_ | exact Sees.of_eq rfl | exact lt_b rfl | rfl )
  refine RangeK.named rfl rfl fun Lp hLp => ?_
  have hok : ∀ k m, 2 ≤ k → Ob.okk k m (.loop Lp) := fun k m hk => loop_okk (l := [(1, .ptr 0 0), (3, .ptr 1 0), (6, .fn 200 [.cptr w.av 0])]) (by rw [hLp]) (by simp [okL, AV.okk, okks]; omega)
  refine ICall.intro mixed [] (nt := 41) Tryz.func200 rfl rfl (by simp) ?_
  refine Wk ?_
  refine LoopK.run mixed [] (fun (k : Nat) => k + 1 ≤ w.r.length) (fun k => [(0, .yld 2), (1, .cptr w.av 0), (3, .int .i64 (k + 1 : Nat))]) (fun k => ⟨[.cells w.cs 120, .cells [.int .i64 (needUp w.n w.r w.more k)] 3, .loop Lp], [], 3, 0, fun _ => 0⟩) (fun k => w.r.length - k) 0 (by omega) ?_ ?_
  · refine Fits.mk' rfl rfl rfl rfl ?_ ?_ ?_ ?_ ?_ <;> repeat' (first | exact trivial | refine And.intro ?_ ?_ | exact Sees.of_eq rfl | exact lt_b rfl | rfl | exact hok _ _ (Nat.le_of_ble_eq_true rfl))
  rintro k hk
  refine Wk ?_
  refine BrK.mk (fun hb => ?_) (fun hb => ?_) <;> (try rw [hb])
  · have hlt : k + 1 < w.r.length := lenLt hb
    obtain ⟨y, hgy⟩ := getLt hlt
    have hmy := getMap (f := encI) hgy
    obtain ⟨x, hgx⟩ := getLt (l := w.r) (k := k) (by omega)
    have hmx := getMap (f := encI) hgx
    have hxd : w.r.getD k 0 = x := by rw [List.getD_eq_getElem?_getD, hgx]; rfl
    have hyd : w.r.getD (k + 1) 0 = y := by rw [List.getD_eq_getElem?_getD, hgy]; rfl
    have hw : IntKind.i64.wrap (((k + 1 : Nat) : Int) - 1) = (k : Int) := by rw [w64] <;> omega
    obtain ⟨i, l, e1, e2, e3, e4, e5, e6, e7⟩ := h.at hlt
    rw [hxd, hyd] at e1
    have hidx : indexN w.n x y = (i : Int) := by rw [indexN, if_pos h0, e1]
    have hml := getMap (f := Link.av) e2
    have hil := (List.getElem?_eq_some_iff.1 e2).1
    have hnu := h.need hm0 hm1 (k := k) (by omega)
    repeat ((conv => whnf); first | refine sJ ?_ | refine And.intro (by first | exact inbMap hlt | (rw [hw]; exact inbMap (by omega)) | kernel_rfl) ?_ | rw [hw] | rw [hmx] | rw [hmy])
    try (conv => whnf)
    first | refine CallK.data rfl (c_index LW w.n hn x y) rfl ?_ | refine CallP.data rfl (c_index LW w.n hn x y) rfl ?_
    rw [hidx]
    repeat ((conv => whnf); first | refine sJ ?_ | refine And.intro (by first | exact inbMap hil | kernel_rfl) ?_ | rw [hml])
    try (conv => whnf)
    refine CallK.round mixed [] hLp rfl rfl rfl ?_
    clear hLp
    refine Wk ?_
    refine ⟨k + 1, by omega, by omega, ?_⟩
    have hv : IntKind.i64.wrap ((needUp w.n w.r w.more k : Int) + IntKind.i64.wrap (IntKind.i64.wrap (l.loss + w.more) + 1)) = (needUp w.n w.r w.more (k + 1) : Nat) := by
      rw [w64 (x := l.loss + w.more) (by omega) (by omega), w64 (x := l.loss + w.more + 1) (by omega) (by omega), w64 (by omega) (by omega), needUp, needAt, e7]; omega
    refine Fits.mk' rfl rfl rfl rfl ?_ ?_ ?_ ?_ ?_ <;> repeat' (first | exact trivial | refine And.intro ?_ ?_ | exact Sees.of_eq rfl | exact lt_b rfl | rfl | exact hok _ _ (Nat.le_of_ble_eq_true rfl) | exact Sees.int (succI hlt (by omega)) | exact Sees.int hv)
  · have hk' : k = w.r.length - 1 := by have := lenGe hb; omega
    subst hk'
    refine Wk ?_
    rw [show Lp.st = .ready from by rw [hLp], show Lp.pend = none from by rw [hLp]]
    refine Wk ?_
    exact resP.mk rfl (Sees.int rfl)
end HM
