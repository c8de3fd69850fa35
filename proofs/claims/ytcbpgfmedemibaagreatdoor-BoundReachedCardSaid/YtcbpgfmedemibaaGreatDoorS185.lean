/- The law on the bound that is reached. -/
import Derived.Test.YtcbpgfmedemibaaGreatDoorS43
import Derived.Test.YtcbpgfmedemibaaGreatDoorS37
import Derived.Test.YtcbpgfmedemibaaGreatDoorS82
import Derived.Test.YtcbpgfmedemibaaGreatDoorS110
import Derived.Test.YtcbpgfmedemibaaGreatDoorS176
import Derived.Test.YtcbpgfmedemibaaGreatDoorDc
import Derived.Test.YtcbpgfmedemibaaGreatDoorDb

set_option maxRecDepth 100000
namespace HM
open Go Go.RowKit Go.Proofs
def rcBx (n : Net) (s : Sched) (f : Flow) (v : AV) : List Ob := [.cells n.cs 26, .cells [.int .i64 s.len, .int .i64 s.offs, encCells s.cells] 29, .cells f.av.cells 31, .cells [.int .i64 s.len, .int .i64 s.offs, v] 29]
/-- the part of a schedule that grows: nil at first, then it has a chain of its own -/
def rcS (n : Net) (s : Sched) (f : Flow) : List Cell → St
  | [] => ⟨[.cells n.cs 26, .cells [.int .i64 s.len, .int .i64 s.offs, encCells s.cells] 29, .cells f.av.cells 31, .cells [.int .i64 s.len, .int .i64 s.offs, .nils] 29], [], 0, 0, fun _ => 0⟩
  | c :: cs => ⟨[.cells n.cs 26, .cells [.int .i64 s.len, .int .i64 s.offs, encCells s.cells] 29, .cells f.av.cells 31, .cells [.int .i64 s.len, .int .i64 s.offs, .own ((c :: cs).map Cell.av) 1] 29], [(1, 5), ((c :: cs).length, 5)], 0, 0, fun _ => 61⟩
theorem idxI_bd (r : List Int) (x : Int) : -1 ≤ idxI r x ∧ idxI r x < r.length := by
  unfold idxI
  by_cases h : idxF (fun y => decide (x = y)) r = -1
  · omega
  · obtain ⟨k, y, e1, e2, e3⟩ := idxF_at (p := fun y => decide (x = y)) (l := r) h
    have := (List.getElem?_eq_some_iff.1 e2).1
    omega
set_option maxHeartbeats 16000000 in
theorem c_BoundReached (n : Net) (s : Sched) (f : Flow) (r : List Int) (k0 : Nat) (hn : n.small) (hc : s.cells.length ≤ 281474976710656) (hr : r.length ≤ 281474976710656) (hk0 : k0 ≤ 255) :
    PCall Tryz.prog LW 6 [n.av, s.av, f.av, encIs r, .int .u8 k0] (.bool true) := by
  refine PCall.intro mixed [17] (nt := 171) Tryz.func6 rfl rfl (by simp) ?_
  refine Wk ?_
  first | refine CallK.data rfl (c_awake37) rfl ?_ | refine CallP.data rfl (c_awake37) rfl ?_
  refine Wk ?_
  first | refine CallK.data rfl (c_Few37 LW n s [r] hn (by simp)) rfl ?_ | refine CallP.data rfl (c_Few37 LW n s [r] hn (by simp)) rfl ?_
  cases g1 : few37 n s [r] with
  | false =>
    refine Wk ?_
    exact resP.mk rfl (Sees.bool rfl)
  | true =>
  have w1 : IntKind.i64.wrap (k0 : Int) = (k0 : Int) := w64 (by omega) (by omega)
  repeat ((conv => whnf); first | refine sJ ?_ | refine And.intro (by first | exact trivial | kernel_rfl) ?_ | rw [w1])
  try (conv => whnf)
  first | refine CallK.data rfl (c_Worst n s f r (k0 : Int) hn hc hr (by omega)) rfl ?_ | refine CallP.data rfl (c_Worst n s f r (k0 : Int) hn hc hr (by omega)) rfl ?_
  obtain ⟨q1, q2⟩ := wrst_small n s f r (k0 : Int)
  have hbad := wrst_bad (n := n) (s := s) (f := f) (r := r) (k := (k0 : Int))
  have hgood := wrst_ok (n := n) (s := s) (f := f) (r := r) (k := (k0 : Int))
  generalize wrstM n s f r (k0 : Int) = A at q1 q2 hbad hgood ⊢
  obtain ⟨x, e⟩ := A
  simp only at q1 q2 hbad hgood
  by_cases he : e = 0
  rotate_left
  · have g : (e != 0) = true := by simpa using he
    have g3 : (e == 0) = false := by simpa using he
    obtain rfl := hbad he
    repeat ((conv => whnf); first | refine sJ ?_ | refine And.intro (by first | exact trivial | kernel_rfl) ?_ | rw [w1] | rw [g] | rw [g3])
    try (conv => whnf)
    exact resP.mk rfl (Sees.bool rfl)
  obtain ⟨hway, _, _, hrel, ⟨b, lb, hR⟩, hx⟩ := hgood he
  subst he
  have hw := wayE_ok hway
  have hfl := hw.flow
  have hlen := hw.len
  have hm0 : 0 ≤ (k0 : Int) * f.period := Int.mul_nonneg (by omega) (by omega)
  have hm1 : (k0 : Int) * f.period ≤ 255 * 512 := Int.mul_le_mul (by omega) (by omega) (by omega) (by omega)
  have w2 : IntKind.i64.wrap ((k0 : Int) * f.period) = (k0 : Int) * f.period := w64 (by omega) (by omega)
  have w3 : IntKind.i64.wrap (f.phase + (k0 : Int) * f.period) = f.phase + (k0 : Int) * f.period := w64 (by omega) (by omega)
  have w4 : IntKind.i64.wrap (f.phase + (k0 : Int) * f.period + f.period) = f.phase + (k0 : Int) * f.period + f.period := w64 (by omega) (by omega)
  by_cases hbig : 100 < f.phase + (k0 : Int) * f.period + f.period
  · have g3 : decide (100 < f.phase + (k0 : Int) * f.period + f.period) = true := decide_eq_true hbig
    repeat ((conv => whnf); first | refine sJ ?_ | refine And.intro (by first | exact trivial | kernel_rfl) ?_ | rw [w1] | rw [w2] | rw [w3] | rw [w4] | rw [g3])
    try (conv => whnf)
    exact resP.mk rfl (Sees.bool rfl)
  have g3 : decide (100 < f.phase + (k0 : Int) * f.period + f.period) = false := decide_eq_false hbig
  repeat ((conv => whnf); first | refine sJ ?_ | refine And.intro (by first | exact trivial | kernel_rfl) ?_ | rw [w1] | rw [w2] | rw [w3] | rw [w4] | rw [g3])
  try (conv => whnf)
  refine SeqK.sem mixed [] ?_
  refine Wk ?_
  have hcl := (form_all hw.form).2.1
  refine LoopK.run mixed [] (fun k : Nat => k ≤ s.cells.length) (fun k => [(3, encIs r), (4, .int .u8 k0), (5, .ptr 0 0), (6, .ptr 1 0), (7, .ptr 2 0), (11, encScript x), (12, .int .i64 0), (13, .int .i64 (f.phase + (k0 : Int) * f.period)), (14, .ptr 3 0), (73, encCells s.cells), (74, .int .i64 s.cells.length), (75, .int .i64 k)]) (fun k => rcS n s f ((s.cells.take k).filter (onP r f))) (fun k => s.cells.length - k) 0 (by omega) ?_ ?_
  · refine Fits.mk' rfl rfl rfl rfl ?_ ?_ ?_ ?_ ?_ <;> repeat' (first | exact trivial | refine And.intro ?_ ?_ | exact Sees.of_eq rfl | exact lt_b rfl | rfl | exact SeesL.rfl' _ | exact Sees.int w3 | exact Sees.int (by simp))
  rintro k hk
  by_cases hkt : k < s.cells.length
  · obtain ⟨c, hgc⟩ := getLt hkt
    have hmc := getMap (f := Cell.av) hgc
    have htk := take_succ hgc
    have hpl : ((s.cells.take k).filter (onP r f)).length ≤ 512 := Nat.le_trans (List.length_filter_le _ _) (by rw [List.length_take]; omega)
    have g0 : decide ((k : Int) < (s.cells.length : Int)) = true := decide_eq_true (by omega)
    cases hpk : (s.cells.take k).filter (onP r f) with
    | nil =>
      rw [hpk] at hpl
      repeat ((conv => whnf); first | refine sJ ?_ | refine And.intro (by first | exact trivial | kernel_rfl) ?_ | rw [g0])
      try (conv => whnf)
      repeat ((conv => whnf); first | refine sJ ?_ | refine And.intro (by first | exact inbMap hkt | kernel_rfl) ?_ | rw [hmc])
      try (conv => whnf)
      first | refine CallK.data rfl (c_IndexRoute LW r c.src (by omega)) rfl ?_ | refine CallP.data rfl (c_IndexRoute LW r c.src (by omega)) rfl ?_
      rw [show idxF (fun y => decide (c.src = y)) r = idxI r c.src from rfl]
      cases k1 : (c.flow == f.id) with
      | false =>
        have hof : onP r f c = false := (by unfold onP; rw [k1]; rfl)
        have hnx : (s.cells.take (k + 1)).filter (onP r f) = (s.cells.take k).filter (onP r f) := by rw [htk, List.filter_append]; simp [hof]
        repeat ((conv => whnf); first | refine sJ ?_ | refine And.intro (by first | exact trivial | exact inbMap hkt | kernel_rfl) ?_ | rw [hmc] | rw [k1] | rw [hj1] | rw [k2] | rw [k3])
        try (conv => whnf)
        refine ⟨k + 1, by omega, by omega, ?_⟩
        rw [hnx, hpk]
        refine Fits.mk' rfl rfl rfl rfl ?_ ?_ ?_ ?_ ?_ <;> repeat' (first | exact trivial | refine And.intro ?_ ?_ | exact Sees.of_eq rfl | exact lt_b rfl | rfl | exact SeesL.rfl' _ | exact Sees.int (succI hkt (by omega)))
      | true =>
        have hib := idxI_bd r c.src
        have hj1 : IntKind.i64.wrap (idxI r c.src + 1) = idxI r c.src + 1 := w64 (by omega) (by omega)
        cases k2 : decide (0 ≤ idxI r c.src) with
        | false =>
          have hof : onP r f c = false := (by unfold onP; rw [k1, k2]; rfl)
          have hnx : (s.cells.take (k + 1)).filter (onP r f) = (s.cells.take k).filter (onP r f) := by rw [htk, List.filter_append]; simp [hof]
          repeat ((conv => whnf); first | refine sJ ?_ | refine And.intro (by first | exact trivial | exact inbMap hkt | kernel_rfl) ?_ | rw [hmc] | rw [k1] | rw [hj1] | rw [k2] | rw [k3])
          try (conv => whnf)
          refine ⟨k + 1, by omega, by omega, ?_⟩
          rw [hnx, hpk]
          refine Fits.mk' rfl rfl rfl rfl ?_ ?_ ?_ ?_ ?_ <;> repeat' (first | exact trivial | refine And.intro ?_ ?_ | exact Sees.of_eq rfl | exact lt_b rfl | rfl | exact SeesL.rfl' _ | exact Sees.int (succI hkt (by omega)))
        | true =>
          cases k3 : decide (idxI r c.src + 1 < ((r.map encI).length : Int)) with
          | false =>
            have hof : onP r f c = false := (by unfold onP; rw [k1, k2, show decide (idxI r c.src + 1 < (r.length : Int)) = false from by simpa using k3]; rfl)
            have hnx : (s.cells.take (k + 1)).filter (onP r f) = (s.cells.take k).filter (onP r f) := by rw [htk, List.filter_append]; simp [hof]
            repeat ((conv => whnf); first | refine sJ ?_ | refine And.intro (by first | exact trivial | exact inbMap hkt | kernel_rfl) ?_ | rw [hmc] | rw [k1] | rw [hj1] | rw [k2] | rw [k3])
            try (conv => whnf)
            refine ⟨k + 1, by omega, by omega, ?_⟩
            rw [hnx, hpk]
            refine Fits.mk' rfl rfl rfl rfl ?_ ?_ ?_ ?_ ?_ <;> repeat' (first | exact trivial | refine And.intro ?_ ?_ | exact Sees.of_eq rfl | exact lt_b rfl | rfl | exact SeesL.rfl' _ | exact Sees.int (succI hkt (by omega)))
          | true =>
            have k2' : 0 ≤ idxI r c.src := by simpa using k2
            have k3' : idxI r c.src + 1 < (r.length : Int) := by simpa using k3
            obtain ⟨y, hgy⟩ := getLt (l := r) (k := (idxI r c.src + 1).toNat) (by omega)
            have hmy : (r.map encI)[(idxI r c.src + 1).toNat]? = some (encI y) := by rw [List.getElem?_map, hgy]; rfl
            have hyd : r.getD (idxI r c.src + 1).toNat 0 = y := by rw [List.getD_eq_getElem?_getD, hgy]; rfl
            have hin : InB (idxI r c.src + 1) (r.map encI).length := ⟨by omega, by simp; omega⟩
            cases k4 : (y == c.dst) with
            | false =>
              have hof : onP r f c = false := by unfold onP; rw [hyd, k4]; simp
              have hnx : (s.cells.take (k + 1)).filter (onP r f) = (s.cells.take k).filter (onP r f) := by rw [htk, List.filter_append]; simp [hof]
              repeat ((conv => whnf); first | refine sJ ?_ | refine And.intro (by first | exact trivial | exact inbMap hkt | exact hin | (rw [hj1]; exact hin) | kernel_rfl) ?_ | rw [hmc] | rw [k1] | rw [hj1] | rw [k2] | rw [k3] | rw [hmy] | rw [k4])
              try (conv => whnf)
              refine ⟨k + 1, by omega, by omega, ?_⟩
              rw [hnx, hpk]
              refine Fits.mk' rfl rfl rfl rfl ?_ ?_ ?_ ?_ ?_ <;> repeat' (first | exact trivial | refine And.intro ?_ ?_ | exact Sees.of_eq rfl | exact lt_b rfl | rfl | exact SeesL.rfl' _ | exact Sees.int (succI hkt (by omega)))
            | true =>
              have hon : onP r f c = true := by unfold onP; rw [hyd, k1, k2, k4, show decide (idxI r c.src + 1 < (r.length : Int)) = true from by simpa using k3]; rfl
              have hnx : (s.cells.take (k + 1)).filter (onP r f) = (s.cells.take k).filter (onP r f) ++ [c] := by rw [htk, List.filter_append]; simp [hon]
              repeat ((conv => whnf); first | refine sJ ?_ | refine And.intro (by first | exact trivial | exact inbMap hkt | exact hin | (rw [hj1]; exact hin) | exact Els.map (f := Cell.av) (fun x => ⟨cellOk.len x, cellOk.cell x⟩) | exact (show _ * 40 ≤ _ by simp only [List.length_map, List.length_cons, List.length_nil]; simp only [List.length_cons] at hpl; omega) | exact (by simp only [List.length_map, List.length_cons, List.length_nil, maxLen]; simp only [List.length_cons] at hpl; omega) | exact (show some (_, _) = some (_, _) by simp only [List.length_map]) | kernel_rfl) ?_ | rw [hmc] | rw [k1] | rw [hj1] | rw [k2] | rw [k3] | rw [hmy] | rw [k4])
              try (conv => whnf)
              refine ⟨k + 1, by omega, by omega, ?_⟩
              rw [hnx, hpk]
              refine Fits.mk' rfl rfl rfl rfl ?_ ?_ ?_ ?_ ?_ <;> repeat' (first | exact trivial | refine And.intro ?_ ?_ | exact Sees.of_eq rfl | exact lt_b rfl | rfl | exact SeesL.rfl' _ | exact Sees.int (succI hkt (by omega)))
    | cons c0 cs0 =>
      rw [hpk] at hpl
      repeat ((conv => whnf); first | refine sJ ?_ | refine And.intro (by first | exact trivial | kernel_rfl) ?_ | rw [g0])
      try (conv => whnf)
      repeat ((conv => whnf); first | refine sJ ?_ | refine And.intro (by first | exact inbMap hkt | kernel_rfl) ?_ | rw [hmc])
      try (conv => whnf)
      first | refine CallK.data rfl (c_IndexRoute LW r c.src (by omega)) rfl ?_ | refine CallP.data rfl (c_IndexRoute LW r c.src (by omega)) rfl ?_
      rw [show idxF (fun y => decide (c.src = y)) r = idxI r c.src from rfl]
      cases k1 : (c.flow == f.id) with
      | false =>
        have hof : onP r f c = false := (by unfold onP; rw [k1]; rfl)
        have hnx : (s.cells.take (k + 1)).filter (onP r f) = (s.cells.take k).filter (onP r f) := by rw [htk, List.filter_append]; simp [hof]
        repeat ((conv => whnf); first | refine sJ ?_ | refine And.intro (by first | exact trivial | exact inbMap hkt | kernel_rfl) ?_ | rw [hmc] | rw [k1] | rw [hj1] | rw [k2] | rw [k3])
        try (conv => whnf)
        refine ⟨k + 1, by omega, by omega, ?_⟩
        rw [hnx, hpk]
        refine Fits.mk' rfl rfl rfl rfl ?_ ?_ ?_ ?_ ?_ <;> repeat' (first | exact trivial | refine And.intro ?_ ?_ | exact Sees.of_eq rfl | exact lt_b rfl | rfl | exact SeesL.rfl' _ | exact Sees.int (succI hkt (by omega)))
      | true =>
        have hib := idxI_bd r c.src
        have hj1 : IntKind.i64.wrap (idxI r c.src + 1) = idxI r c.src + 1 := w64 (by omega) (by omega)
        cases k2 : decide (0 ≤ idxI r c.src) with
        | false =>
          have hof : onP r f c = false := (by unfold onP; rw [k1, k2]; rfl)
          have hnx : (s.cells.take (k + 1)).filter (onP r f) = (s.cells.take k).filter (onP r f) := by rw [htk, List.filter_append]; simp [hof]
          repeat ((conv => whnf); first | refine sJ ?_ | refine And.intro (by first | exact trivial | exact inbMap hkt | kernel_rfl) ?_ | rw [hmc] | rw [k1] | rw [hj1] | rw [k2] | rw [k3])
          try (conv => whnf)
          refine ⟨k + 1, by omega, by omega, ?_⟩
          rw [hnx, hpk]
          refine Fits.mk' rfl rfl rfl rfl ?_ ?_ ?_ ?_ ?_ <;> repeat' (first | exact trivial | refine And.intro ?_ ?_ | exact Sees.of_eq rfl | exact lt_b rfl | rfl | exact SeesL.rfl' _ | exact Sees.int (succI hkt (by omega)))
        | true =>
          cases k3 : decide (idxI r c.src + 1 < ((r.map encI).length : Int)) with
          | false =>
            have hof : onP r f c = false := (by unfold onP; rw [k1, k2, show decide (idxI r c.src + 1 < (r.length : Int)) = false from by simpa using k3]; rfl)
            have hnx : (s.cells.take (k + 1)).filter (onP r f) = (s.cells.take k).filter (onP r f) := by rw [htk, List.filter_append]; simp [hof]
            repeat ((conv => whnf); first | refine sJ ?_ | refine And.intro (by first | exact trivial | exact inbMap hkt | kernel_rfl) ?_ | rw [hmc] | rw [k1] | rw [hj1] | rw [k2] | rw [k3])
            try (conv => whnf)
            refine ⟨k + 1, by omega, by omega, ?_⟩
            rw [hnx, hpk]
            refine Fits.mk' rfl rfl rfl rfl ?_ ?_ ?_ ?_ ?_ <;> repeat' (first | exact trivial | refine And.intro ?_ ?_ | exact Sees.of_eq rfl | exact lt_b rfl | rfl | exact SeesL.rfl' _ | exact Sees.int (succI hkt (by omega)))
          | true =>
            have k2' : 0 ≤ idxI r c.src := by simpa using k2
            have k3' : idxI r c.src + 1 < (r.length : Int) := by simpa using k3
            obtain ⟨y, hgy⟩ := getLt (l := r) (k := (idxI r c.src + 1).toNat) (by omega)
            have hmy : (r.map encI)[(idxI r c.src + 1).toNat]? = some (encI y) := by rw [List.getElem?_map, hgy]; rfl
            have hyd : r.getD (idxI r c.src + 1).toNat 0 = y := by rw [List.getD_eq_getElem?_getD, hgy]; rfl
            have hin : InB (idxI r c.src + 1) (r.map encI).length := ⟨by omega, by simp; omega⟩
            cases k4 : (y == c.dst) with
            | false =>
              have hof : onP r f c = false := by unfold onP; rw [hyd, k4]; simp
              have hnx : (s.cells.take (k + 1)).filter (onP r f) = (s.cells.take k).filter (onP r f) := by rw [htk, List.filter_append]; simp [hof]
              repeat ((conv => whnf); first | refine sJ ?_ | refine And.intro (by first | exact trivial | exact inbMap hkt | exact hin | (rw [hj1]; exact hin) | kernel_rfl) ?_ | rw [hmc] | rw [k1] | rw [hj1] | rw [k2] | rw [k3] | rw [hmy] | rw [k4])
              try (conv => whnf)
              refine ⟨k + 1, by omega, by omega, ?_⟩
              rw [hnx, hpk]
              refine Fits.mk' rfl rfl rfl rfl ?_ ?_ ?_ ?_ ?_ <;> repeat' (first | exact trivial | refine And.intro ?_ ?_ | exact Sees.of_eq rfl | exact lt_b rfl | rfl | exact SeesL.rfl' _ | exact Sees.int (succI hkt (by omega)))
            | true =>
              have hon : onP r f c = true := by unfold onP; rw [hyd, k1, k2, k4, show decide (idxI r c.src + 1 < (r.length : Int)) = true from by simpa using k3]; rfl
              have hnx : (s.cells.take (k + 1)).filter (onP r f) = (s.cells.take k).filter (onP r f) ++ [c] := by rw [htk, List.filter_append]; simp [hon]
              repeat ((conv => whnf); first | refine sJ ?_ | refine And.intro (by first | exact trivial | exact inbMap hkt | exact hin | (rw [hj1]; exact hin) | exact Els.map (f := Cell.av) (fun x => ⟨cellOk.len x, cellOk.cell x⟩) | exact (show _ * 40 ≤ _ by simp only [List.length_map, List.length_cons, List.length_nil]; simp only [List.length_cons] at hpl; omega) | exact (by simp only [List.length_map, List.length_cons, List.length_nil, maxLen]; simp only [List.length_cons] at hpl; omega) | exact (show some (_, _) = some (_, _) by simp only [List.length_map]) | kernel_rfl) ?_ | rw [hmc] | rw [k1] | rw [hj1] | rw [k2] | rw [k3] | rw [hmy] | rw [k4])
              try (conv => whnf)
              refine ⟨k + 1, by omega, by omega, ?_⟩
              rw [hnx, hpk]
              refine Fits.mk' rfl rfl rfl rfl ?_ ?_ ?_ ?_ ?_ <;> repeat' (first | exact trivial | refine And.intro ?_ ?_ | exact Sees.of_eq rfl | exact lt_b rfl | rfl | exact SeesL.rfl' _ | exact Sees.int (succI hkt (by omega)) | exact Sees.own (by show _ = List.map Cell.av ((c0 :: cs0) ++ [c]); rw [List.map_append]; rfl) | (show (_, _) = (((c0 :: cs0) ++ [c]).length, 5); simp only [List.length_append, List.length_map, List.length_cons, List.length_nil]))
  · have hkn : k = s.cells.length := by omega
    subst hkn
    have g0 : decide ((s.cells.length : Int) < (s.cells.length : Int)) = false := decide_eq_false (by omega)
    rw [List.take_length]
    obtain ⟨pk, hpk⟩ : ∃ pk, pk = s.cells.filter (onP r f) := ⟨_, rfl⟩
    rw [← hpk]
    have hnodes := hw.net.nodes
    obtain ⟨h0, hf0⟩ := way_flow hway
    have hlaw := reached_law h0 hw hnodes.2 (flowE_more hf0 hnodes.2) (way_nodes hway) (k := k0) (slots := f.phase + (k0 : Int) * f.period + f.period) rfl (by omega) hR
    rw [← hx, show partR s r f = ⟨s.len, s.offs, pk⟩ from by rw [hpk]; rfl] at hlaw
    obtain ⟨d1, d2, d3⟩ := hlaw
    have hmod : (f.phase + (k0 : Int) * f.period - f.phase) % f.period = 0 := by rw [show f.phase + (k0 : Int) * f.period - f.phase = (k0 : Int) * f.period by omega]; exact Int.mul_emod_left _ _
    have hM : releaseM n s f r (f.phase + (k0 : Int) * f.period) = (b, lb, 0) := by rw [releaseM, if_neg (by simpa using hway), if_neg (by omega), hR]
    have hRl := playM_len (l := [f]) (s := ⟨s.len, s.offs, pk⟩) (x := x) (slots := f.phase + (k0 : Int) * f.period + f.period)
    have hb := relR_range hw hR
    have w5 : IntKind.i64.wrap (f.phase + (k0 : Int) * f.period + b) = f.phase + (k0 : Int) * f.period + b := w64 (by omega) (by omega)
    have w6 : IntKind.i64.wrap (f.phase + (k0 : Int) * f.period + b - 1) = f.phase + (k0 : Int) * f.period + b - 1 := w64 (by omega) (by omega)
    repeat ((conv => whnf); first | refine sJ ?_ | refine And.intro (by first | exact trivial | kernel_rfl) ?_ | rw [g0])
    try (conv => whnf)
    refine SemK.weak (l := [(3, encIs r), (4, .int .u8 k0), (5, .ptr 0 0), (6, .ptr 1 0), (7, .ptr 2 0), (11, encScript x), (13, .int .i64 (f.phase + (k0 : Int) * f.period)), (14, .ptr 3 0)]) (S1 := ⟨rcBx n s f (encCells pk), [], 0, 0, fun _ => 0⟩) ?_ ?_
    · cases pk with
      | nil => refine Fits.mk' rfl rfl rfl rfl ?_ ?_ ?_ ?_ ?_ <;> repeat' (first | exact trivial | refine And.intro ?_ ?_ | exact Sees.of_eq rfl | exact lt_b rfl | rfl | exact SeesL.rfl' _ | exact Sees.elems rfl)
      | cons c0 cs0 => refine Fits.mk' rfl rfl rfl rfl ?_ ?_ ?_ ?_ ?_ <;> repeat' (first | exact trivial | refine And.intro ?_ ?_ | exact Sees.of_eq rfl | exact lt_b rfl | rfl | exact SeesL.rfl' _ | exact Sees.elems rfl)
    refine twC_sound (ct := []) mixed _ _ _ _ ?_
    refine Wk ?_
    first | refine CallK.data rfl (c_Release n s f r (f.phase + (k0 : Int) * f.period) hn hc hr) rfl ?_ | refine CallP.data rfl (c_Release n s f r (f.phase + (k0 : Int) * f.period) hn hc hr) rfl ?_
    rw [hM]
    repeat ((conv => whnf); first | refine sJ ?_ | refine And.intro (by first | exact trivial | kernel_rfl) ?_ | rw [w4])
    try (conv => whnf)
    first | refine CallK.data rfl (c_Play [f] ⟨s.len, s.offs, pk⟩ x (f.phase + (k0 : Int) * f.period + f.period) (by simp) (fun y hy => by have := q2 y hy; omega) (by omega)) rfl ?_ | refine CallP.data rfl (c_Play [f] ⟨s.len, s.offs, pk⟩ x (f.phase + (k0 : Int) * f.period + f.period) (by simp) (fun y hy => by have := q2 y hy; omega) (by omega)) rfl ?_
    generalize playM [f] ⟨s.len, s.offs, pk⟩ x (f.phase + (k0 : Int) * f.period + f.period) = A at d1 d2 d3 hRl ⊢
    obtain ⟨R, er⟩ := A
    simp only at d1 d2 d3 hRl
    subst d1
    repeat ((conv => whnf); first | refine sJ ?_ | refine And.intro (by first | exact trivial | kernel_rfl) ?_ | rw [w1])
    try (conv => whnf)
    first | refine CallK.data rfl (c_Delivered LW R f.id (k0 : Int) (by omega)) rfl ?_ | refine CallP.data rfl (c_Delivered LW R f.id (k0 : Int) (by omega)) rfl ?_
    rw [d2]
    repeat ((conv => whnf); first | refine sJ ?_ | refine And.intro (by first | exact trivial | kernel_rfl) ?_ | rw [w5] | rw [w6] | rw [beq_self_eq_true])
    try (conv => whnf)
    first | refine CallK.data rfl (c_Breaches LW n hn R (by omega)) rfl ?_ | refine CallP.data rfl (c_Breaches LW n hn R (by omega)) rfl ?_
    rw [d3]
    refine Wk ?_
    exact resP.mk rfl (Sees.bool rfl)
end HM
