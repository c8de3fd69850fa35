/- The law on moving back. -/
import Derived.Test.YtmbbmcoeedoafaaGreatDoorS194
import Derived.Test.YtmbbmcoeedoafaaGreatDoorS16
import Derived.Test.YtmbbmcoeedoafaaGreatDoorS127
import Derived.Test.YtmbbmcoeedoafaaGreatDoorS196

set_option maxRecDepth 100000
namespace HM
open Go Go.RowKit Go.Proofs
theorem tmod_nat (a b : Nat) : ((a : Int)).tmod (b : Int) = ((a % b : Nat) : Int) := by rw [Int.tmod_eq_emod_of_nonneg (by omega)]; exact (Int.natCast_emod a b).symm
set_option maxHeartbeats 16000000 in
theorem c_SpareBack (n : Net) (q : List Req) (s : Sched) (w1 w2 : Nat) (hn : n.small) (hq : q.length ≤ 281474976710656) (hx : ∀ x ∈ q, x.small) (hc : s.cells.length ≤ 281474976710656) (hw1 : w1 ≤ 255) (hw2 : w2 ≤ 255) :
    PCall Tryz.prog LW 3 [n.av, encReqs q, s.av, .int .u8 w1, .int .u8 w2] (.bool true) := by
  have v1 : IntKind.i64.wrap (w1 : Int) = (w1 : Int) := w64 (by omega) (by omega)
  have v2 : IntKind.i64.wrap (w2 : Int) = (w2 : Int) := w64 (by omega) (by omega)
  refine PCall.intro mixed [] (nt := 151) Tryz.func3 rfl rfl (by simp) ?_
  refine Wk ?_
  first | refine CallK.data rfl (c_awake) rfl ?_ | refine CallP.data rfl (c_awake) rfl ?_
  refine Wk ?_
  first | refine CallK.data rfl (c_Few38 LW n hn q (by omega) hx s) rfl ?_ | refine CallP.data rfl (c_Few38 LW n hn q (by omega) hx s) rfl ?_
  cases g1 : few38 n q s with
  | false =>
    refine Wk ?_
    exact resP.mk rfl (Sees.bool rfl)
  | true =>
  have hq4 := (few38_len g1).1
  by_cases h24 : 24 < s.len
  · have g2 : decide (24 < s.len) = true := decide_eq_true h24
    repeat ((conv => whnf); first | refine sJ ?_ | refine And.intro (by first | exact trivial | kernel_rfl) ?_ | rw [g2])
    try (conv => whnf)
    exact resP.mk rfl (Sees.bool rfl)
  have g2 : decide (24 < s.len) = false := decide_eq_false h24
  by_cases h0 : s.cells.length = 0
  · have g3 : (((s.cells.map Cell.av).length : Int) == 0) = true := by simp [h0]
    repeat ((conv => whnf); first | refine sJ ?_ | refine And.intro (by first | exact trivial | kernel_rfl) ?_ | rw [g2] | rw [g3])
    try (conv => whnf)
    exact resP.mk rfl (Sees.bool rfl)
  have g3 : (((s.cells.map Cell.av).length : Int) == 0) = false := by rw [beq_eq_false_iff_ne, List.length_map]; omega
  have hk1 : w1 % s.cells.length < s.cells.length := Nat.mod_lt _ (by omega)
  obtain ⟨c, hgc⟩ := getLt hk1
  have hmc := getMap (f := Cell.av) hgc
  have hr1 : ((w1 : Int)).tmod (((s.cells.map Cell.av).length : Nat) : Int) = ((w1 % s.cells.length : Nat) : Int) := by rw [List.length_map]; exact tmod_nat _ _
  have hz1 : (((s.cells.map Cell.av).length : Nat) : Int) ≠ 0 := by rw [List.length_map]; omega
  repeat ((conv => whnf); first | refine sJ ?_ | refine And.intro (by first | exact trivial | exact hz1 | exact inbMap hk1 | (rw [v1, hr1]; exact inbMap hk1) | kernel_rfl) ?_ | rw [g2] | rw [g3] | rw [v1] | rw [hr1] | rw [hmc])
  try (conv => whnf)
  first | refine CallK.data rfl (c_Places n hn q (by omega) hx s hc c) rfl ?_ | refine CallP.data rfl (c_Places n hn q (by omega) hx s hc c) rfl ?_
  have hbad := plcM_bad (n := n) (q := q) (s := s) (c := c)
  have hlen := plcM_len n q s c
  have hlaw := fun d => back_law (n := n) (q := q) (s := s) (c := c) (d := d) (by omega)
  obtain ⟨l, hl⟩ : ∃ l, l = (plcM n q s c).1 := ⟨_, rfl⟩
  obtain ⟨e, he⟩ : ∃ e, e = (plcM n q s c).2 := ⟨_, rfl⟩
  rw [← hl, ← he] at hbad hlaw
  rw [← hl] at hlen
  rw [← hl, ← he]
  by_cases he0 : e = 0
  rotate_left
  · have g4 : (e != 0) = true := by simpa using he0
    have hl0 := hbad he0
    rw [hl0]
    repeat ((conv => whnf); first | refine sJ ?_ | refine And.intro (by first | exact trivial | kernel_rfl) ?_ | rw [g4])
    try (conv => whnf)
    exact resP.mk rfl (Sees.bool rfl)
  have g4 : (e != 0) = false := by simpa using he0
  by_cases hl0 : l.length = 0
  · have hl1 : l = [] := List.eq_nil_of_length_eq_zero hl0
    rw [hl1]
    repeat ((conv => whnf); first | refine sJ ?_ | refine And.intro (by first | exact trivial | kernel_rfl) ?_ | rw [g4])
    try (conv => whnf)
    exact resP.mk rfl (Sees.bool rfl)
  have g5 : (((l.map Cell.av).length : Int) == 0) = false := by rw [beq_eq_false_iff_ne, List.length_map]; omega
  have hk2 : w2 % l.length < l.length := Nat.mod_lt _ (by omega)
  obtain ⟨d, hgd⟩ := getLt hk2
  have hmd := getMap (f := Cell.av) hgd
  have hr2 : ((w2 : Int)).tmod (((l.map Cell.av).length : Nat) : Int) = ((w2 % l.length : Nat) : Int) := by rw [List.length_map]; exact tmod_nat _ _
  have hz2 : (((l.map Cell.av).length : Nat) : Int) ≠ 0 := by rw [List.length_map]; omega
  obtain ⟨j1, j2, j3, j4, j5, j6, j7, j8, j9⟩ := hlaw d he0 (List.mem_of_getElem? hgd)
  repeat ((conv => whnf); first | refine sJ ?_ | refine And.intro (by first | exact trivial | exact hz2 | exact inbMap hk2 | (rw [v2, hr2]; exact inbMap hk2) | kernel_rfl) ?_ | rw [g4] | rw [g5] | rw [v2] | rw [hr2] | rw [hmd])
  try (conv => whnf)
  first | refine CallK.data rfl (c_Remove LW s c) rfl ?_ | refine CallP.data rfl (c_Remove LW s c) rfl ?_
  obtain ⟨t, ht⟩ : ∃ t, t = (remM s c).1 := ⟨_, rfl⟩
  have hrt : remM s c = (t, 0) := Prod.ext ht.symm j1
  obtain ⟨r1, r2, r3⟩ := remM_ok hrt
  obtain ⟨f1, f2, f3⟩ := form_all r1
  have htl : t.cells.length ≤ 512 := by rw [r3]; exact Nat.le_trans (List.length_filter_le _ _) f2
  rw [hrt] at j2 j3 j4 j5 ⊢
  simp only at j2 j3 j4 j5
  refine Wk ?_
  first | refine CallK.data rfl (c_Add LW t d) rfl ?_ | refine CallP.data rfl (c_Add LW t d) rfl ?_
  have hul := addM_len t d
  obtain ⟨u, hu⟩ : ∃ u, u = (addM t d).1 := ⟨_, rfl⟩
  have hau : addM t d = (u, 0) := Prod.ext hu.symm j2
  rw [hau] at j3 j4 j5 hul ⊢
  simp only at j3 j4 j5 hul
  refine Wk ?_
  first | refine CallK.data rfl (c_Make n hn q (by omega) hx u (by omega)) rfl ?_ | refine CallP.data rfl (c_Make n hn q (by omega) hx u (by omega)) rfl ?_
  rw [j3]
  refine Wk ?_
  first | refine CallK.data rfl (c_Places n hn q (by omega) hx u (by omega) d) rfl ?_ | refine CallP.data rfl (c_Places n hn q (by omega) hx u (by omega) d) rfl ?_
  have hml := plcM_len n q u d
  rw [j4]
  obtain ⟨m, hm⟩ : ∃ m, m = (plcM n q u d).1 := ⟨_, rfl⟩
  rw [← hm] at j5 hml ⊢
  have b1 : (d.src == c.src) = true := by simp [j6]
  have b2 : (d.dst == c.dst) = true := by simp [j7]
  have b3 : (d.flow == c.flow) = true := by simp [j8]
  have b4 : (d.slot == c.slot && (d.off == c.off && (d.src == c.src && (d.dst == c.dst && (d.flow == c.flow && true))))) = false := by
    cases hcd : cellEqB d c with
    | false => exact hcd
    | true => exact absurd (cellEqB_iff.1 hcd) j9
  refine Wk ?_
  first | refine CallK.data rfl (c_ContainsCl LW m c (by omega)) rfl ?_ | refine CallP.data rfl (c_ContainsCl LW m c (by omega)) rfl ?_
  rw [decide_eq_true j5]
  repeat ((conv => whnf); first | refine sJ ?_ | refine And.intro (by first | exact trivial | kernel_rfl) ?_ | rw [b1] | rw [b2] | rw [b3])
  try (conv => whnf)
  have b5 : (d.slot == c.slot && (d.off == c.off && (true && (true && (true && true))))) = false := by
    have := b4
    rw [b1, b2, b3] at this
    exact this
  exact resP.mk rfl (Sees.bool (by rw [b5]; rfl))
end HM
