/- Which links can be together: the program. -/
import Derived.Test.YtefnhecgmdilbaaGreatDoorS30
import Derived.Test.YtefnhecgmdilbaaGreatDoorDb

set_option maxRecDepth 100000
namespace HM
open Go Go.RowKit Go.Proofs
section
variable (L : World → Prop)

theorem c_isNode (n : Net) (a : Int) : PCall Tryz.prog L 117 [n.av, .int .i64 a] (.bool (insB a n.nodes)) := by
  refine PCall.intro mixed [] (nt := 13) Tryz.func117 rfl rfl (by simp) ?_
  repeat' ((conv => whnf); first | refine sJ ?_ | refine And.intro (by first  | kernel_rfl) ?_  | (refine BrK.mk (fun hb => ?_) (fun hb => ?_) <;> (try rw [hb])))
  all_goals try (conv => whnf)
  all_goals exact resP.mk rfl (Sees.of_eq (by first | (simp_all [insB]; done) | (simp_all [insB]; omega)))

set_option maxHeartbeats 1000000 in
theorem c_cdist (n : Net) (h : NetOk n) (cs : List Cell) (hc : cs.length ≤ 4096) (i : Nat) (node : Int) (hn : insB node n.nodes = true) : PCall Tryz.prog L 118 [n.av, encCells cs, .int .i64 i, .int .i64 node] (.int .i64 (distM n cs i node)) := by
  refine PCall.intro mixed [] (nt := 50) Tryz.func118 rfl rfl (by simp) ?_
  refine Wk ?_
  refine LoopK.run mixed [] (fun (k : Nat) => k ≤ cs.length) (fun k => [(2, .int .i64 i), (3, .int .i64 node), (4, .ptr 0 0), (9, .int .i64 (distU n cs i node k)), (14, encCells cs), (15, .int .i64 cs.length), (16, .int .i64 k)]) (fun k => ⟨[.cells n.cs 26], [], 0, 0, fun _ => 0⟩) (fun k => cs.length - k) 0 (by simp) ?_ ?_
  · refine Fits.mk' rfl rfl rfl rfl ?_ ?_ ?_ ?_ ?_ <;> repeat' (first | exact trivial | refine And.intro ?_ ?_ | exact Sees.of_eq rfl | exact lt_b rfl | rfl | exact SeesL.rfl' _ | exact Sees.int (by simp))
  rintro k hk
  have hb1 := distU_bd h cs i node k
  have hst := distU_succ n cs i node k
  refine Wk ?_
  refine BrK.mk (fun hb => ?_) (fun hb => ?_) <;> (try rw [hb])
  · have hlt : k < cs.length := by simpa using hb
    obtain ⟨c, hgc⟩ := getLt hlt
    have hmc := getMap (f := Cell.av) hgc
    have hda : distAt n cs i node k = if k = i then 0 else powN n c.src node + powN n c.dst node := by unfold distAt; rw [hgc]
    repeat ((conv => whnf); first | refine sJ ?_ | refine And.intro (by first | exact inbMap hlt | kernel_rfl) ?_ | rw [hmc])
    try (conv => whnf)
    refine BrK.mk (fun h1 => ?_) (fun h1 => ?_) <;> (try rw [h1])
    · have h1' : k = i := by simp at h1; omega
      rw [if_pos h1'] at hda
      refine Wk ?_
      refine ⟨k + 1, by omega, by omega, ?_⟩
      refine Fits.mk' rfl rfl rfl rfl ?_ ?_ ?_ ?_ ?_ <;> repeat' (first | exact trivial | refine And.intro ?_ ?_ | exact Sees.of_eq rfl | exact lt_b rfl | rfl | exact SeesL.rfl' _ | exact Sees.int (by rw [w64] <;> omega) | exact Sees.int (by rw [hst, hda, Int.add_zero]))
    · have h1' : k ≠ i := by simp at h1; omega
      rw [if_neg h1'] at hda
      obtain ⟨es, hes⟩ : ∃ es, es = [c.src, c.dst] := ⟨_, rfl⟩
      have hel : es.length = 2 := by rw [hes]; rfl
      have hsum : sumW (fun e => powN n e node) es = powN n c.src node + powN n c.dst node := by rw [hes]; simp [sumW]
      refine Wk ?_
      refine LoopK.run mixed [] (fun (j : Nat) => j ≤ es.length) (fun j => [(2, .int .i64 i), (3, .int .i64 node), (4, .ptr 0 0), (9, .int .i64 (distU n cs i node k + sumW (fun e => powN n e node) (es.take j))), (14, encCells cs), (15, .int .i64 cs.length), (16, .int .i64 k), (28, encIs es), (29, .int .i64 es.length), (30, .int .i64 j)]) (fun j => ⟨[.cells n.cs 26], [], 0, 0, fun _ => 0⟩) (fun j => es.length - j) 0 (by simp) ?_ ?_
      · refine Fits.mk' rfl rfl rfl rfl ?_ ?_ ?_ ?_ ?_ <;> repeat' (first | exact trivial | refine And.intro ?_ ?_ | exact Sees.of_eq rfl | exact lt_b rfl | rfl | exact SeesL.rfl' _ | exact Sees.int (by rw [hel]; rfl) | exact Sees.int (by simp [sumW]) | exact Sees.elems (by rw [hes]; rfl))
      rintro j hj
      refine Wk ?_
      refine BrK.mk (fun hd => ?_) (fun hd => ?_) <;> (try rw [hd])
      · have hjt : j < es.length := by simpa using hd
        obtain ⟨e, hge⟩ := getLt hjt
        have hme := getMap (f := encI) hge
        have hst2 := sumW_take (fun e => powN n e node) hge
        have hsb := sumW_bd (f := fun e => powN n e node) (m := 68719476736) (by omega) (l := es.take (j + 1)) fun e _ => powN_bd h e node
        have hsb0 := sumW_bd (f := fun e => powN n e node) (m := 68719476736) (by omega) (l := es.take j) fun e _ => powN_bd h e node
        have hpe := powN_bd h e node
        rw [List.length_take] at hsb hsb0
        repeat ((conv => whnf); first | refine sJ ?_ | refine And.intro (by first | exact inbMap hjt | kernel_rfl) ?_ | rw [hme])
        try (conv => whnf)
        first | refine CallK.data rfl (c_isNode L n e) rfl ?_ | refine CallP.data rfl (c_isNode L n e) rfl ?_
        cases hi : insB e n.nodes with
        | true =>
          obtain ⟨a, b, r, x, rfl, rfl, hgr, hgx, hpx⟩ := pow_at h hi hn
          have hmr := getMap (f := encIs) hgr
          have hmx := getMap (f := encI) hgx
          have hal := (List.getElem?_eq_some_iff.1 hgr).1
          have hbl := (List.getElem?_eq_some_iff.1 hgx).1
          have hpn : powN n a b = x := by unfold powN; rw [if_pos hi, hpx]
          rw [hpn] at hst2 hpe
          repeat ((conv => whnf); first | refine sJ ?_ | refine And.intro (by first | exact inbMap hal | exact inbMap hbl | kernel_rfl) ?_ | rw [hmr] | rw [hmx])
          try (conv => whnf)
          refine ⟨j + 1, by omega, by omega, ?_⟩
          refine Fits.mk' rfl rfl rfl rfl ?_ ?_ ?_ ?_ ?_ <;> repeat' (first | exact trivial | refine And.intro ?_ ?_ | exact Sees.of_eq rfl | exact lt_b rfl | rfl | exact SeesL.rfl' _ | exact Sees.int (by rw [w64] <;> omega) | exact Sees.int (by rw [hst2, w64] <;> omega))
        | false =>
          have hpn : powN n e node = 0 := by unfold powN; rw [if_neg (by simp [hi])]
          rw [hpn] at hst2
          refine Wk ?_
          refine ⟨j + 1, by omega, by omega, ?_⟩
          refine Fits.mk' rfl rfl rfl rfl ?_ ?_ ?_ ?_ ?_ <;> repeat' (first | exact trivial | refine And.intro ?_ ?_ | exact Sees.of_eq rfl | exact lt_b rfl | rfl | exact SeesL.rfl' _ | exact Sees.int (by rw [w64] <;> omega) | exact Sees.int (by rw [hst2, Int.add_zero]))
      · have hjl : j = es.length := by simp at hd; omega
        subst hjl
        rw [List.take_length, hsum, ← hda, ← hst]
        refine Wk ?_
        refine ⟨k + 1, by omega, by omega, ?_⟩
        refine Fits.mk' rfl rfl rfl rfl ?_ ?_ ?_ ?_ ?_ <;> repeat' (first | exact trivial | refine And.intro ?_ ?_ | exact Sees.of_eq rfl | exact lt_b rfl | rfl | exact SeesL.rfl' _ | exact Sees.int (by rw [w64] <;> omega))
  · have hkn : k = cs.length := by simp at hb; omega
    subst hkn
    refine Wk ?_
    exact resP.mk rfl (Sees.int rfl)

def hearsN (n : Net) (s d : Int) : Bool := decide (netE n = 0) && decide (0 ≤ s) && decide (0 ≤ d) && decide (s ≤ 8796093022208) && decide (d ≤ 8796093022208) && heardB n s d
theorem c_Hears (n : Net) (hn : n.small) (s d : Int) : PCall Tryz.prog L 87 [n.av, .int .i64 s, .int .i64 d] (.bool (hearsN n s d)) := by
  refine PCall.intro mixed [] (nt := 26) Tryz.func87 rfl rfl (by simp) ?_
  refine Wk ?_
  first | refine CallK.data rfl (c_netCheck L n hn) rfl ?_ | refine CallP.data rfl (c_netCheck L n hn) rfl ?_
  by_cases h0 : netE n = 0
  rotate_left
  · have g0 : (netE n != 0) = true := by simpa using h0
    repeat ((conv => whnf); first | refine sJ ?_ | refine And.intro (by first | exact trivial | kernel_rfl) ?_ | rw [g0])
    try (conv => whnf)
    exact resP.mk rfl (Sees.bool (by unfold hearsN; rw [decide_eq_false h0]; rfl))
  have g0 : (netE n != 0) = false := by simpa using h0
  by_cases h1 : 0 ≤ s ∧ 0 ≤ d
  rotate_left
  · have g1 : decide ((if d < s then d else s) < 0) = true := by rw [decide_eq_true_eq]; split <;> omega
    repeat ((conv => whnf); first | refine sJ ?_ | refine And.intro (by first | exact trivial | kernel_rfl) ?_ | rw [g0] | rw [g1])
    try (conv => whnf)
    exact resP.mk rfl (Sees.bool (by unfold hearsN; rw [decide_eq_true h0]; rcases Decidable.em (0 ≤ s) with h | h <;> simp [h] <;> omega))
  have g1 : decide ((if d < s then d else s) < 0) = false := by rw [decide_eq_false_iff_not]; split <;> omega
  by_cases h2 : s ≤ 8796093022208 ∧ d ≤ 8796093022208
  rotate_left
  · have g2 : decide (8796093022208 < (if s < d then d else s)) = true := by rw [decide_eq_true_eq]; split <;> omega
    repeat ((conv => whnf); first | refine sJ ?_ | refine And.intro (by first | exact trivial | kernel_rfl) ?_ | rw [g0] | rw [g1] | rw [g2])
    try (conv => whnf)
    exact resP.mk rfl (Sees.bool (by unfold hearsN; rw [decide_eq_true h0, decide_eq_true h1.1, decide_eq_true h1.2]; rcases Decidable.em (s ≤ 8796093022208) with h | h <;> simp [h] <;> omega))
  have g2 : decide (8796093022208 < (if s < d then d else s)) = false := by rw [decide_eq_false_iff_not]; split <;> omega
  repeat ((conv => whnf); first | refine sJ ?_ | refine And.intro (by first | exact trivial | kernel_rfl) ?_ | rw [g0] | rw [g1] | rw [g2])
  try (conv => whnf)
  first | refine CallK.data rfl (c_hears L n (netE_ok h0) s d ⟨h1.1, h2.1⟩ ⟨h1.2, h2.2⟩) rfl ?_ | refine CallP.data rfl (c_hears L n (netE_ok h0) s d ⟨h1.1, h2.1⟩ ⟨h1.2, h2.2⟩) rfl ?_
  refine Wk ?_
  exact resP.mk rfl (Sees.bool (by unfold hearsN; rw [decide_eq_true h0, decide_eq_true h1.1, decide_eq_true h1.2, decide_eq_true h2.1, decide_eq_true h2.2]; simp))
theorem hearsN_ok {n : Net} (h0 : netE n = 0) {s d : Int} (h1 : 0 ≤ s) (h2 : s ≤ 8796093022208) (h3 : 0 ≤ d) (h4 : d ≤ 8796093022208) : hearsN n s d = heardB n s d := by
  unfold hearsN
  rw [decide_eq_true h0, decide_eq_true h1, decide_eq_true h2, decide_eq_true h3, decide_eq_true h4]; simp

end
end HM
