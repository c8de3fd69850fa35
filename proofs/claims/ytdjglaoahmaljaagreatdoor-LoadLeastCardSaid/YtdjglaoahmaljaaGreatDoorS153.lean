/- Reasons: the reference's first one. -/
import Derived.Test.YtdjglaoahmaljaaGreatDoorS152
import Derived.Test.YtdjglaoahmaljaaGreatDoorDb

set_option maxRecDepth 100000
namespace HM
open Go Go.RowKit Go.Proofs
section
variable (L : World → Prop)

set_option maxHeartbeats 4000000 in
theorem c_Reason39 (n : Net) (hn : n.small) (q : List Req) (hq : q.length ≤ 1099511627776) (hx : ∀ x ∈ q, x.small) (len offs : Int) : PCall Tryz.prog L 13 [n.av, encReqs q, .int .i64 len, .int .i64 offs] (.tup [(reasonG n q len offs).1.av, .bool (reasonG n q len offs).2.1, .int .i64 (reasonG n q len offs).2.2]) := by
  refine PCall.intro mixed [] (nt := 116) Tryz.func13 rfl rfl (by simp) ?_
  refine Wk ?_
  first | refine CallK.data rfl (c_right39 L n hn q hq hx len) rfl ?_ | refine CallP.data rfl (c_right39 L n hn q hq hx len) rfl ?_
  refine Wk ?_
  refine BrK.mk (fun h1 => ?_) (fun h1 => ?_) <;> (try rw [h1])
  · refine Wk ?_
    exact resP.mk rfl (Sees.of_eq (by unfold reasonG; rw [reasonM_bad (by simpa using h1)]; rfl))
  have h1' : sizedQ n q len = 0 := by simpa using h1
  have hQ := (sizedQ_ok h1').q
  have hok := hQ.net
  have hnb := hok.nodes
  have hq16 := hQ.q16
  have hl1 := hQ.sz.l1
  have hl2 := hQ.sz.l2
  refine Wk ?_
  first | refine CallK.data rfl (c_in39 L offs 1 16) rfl ?_ | refine CallP.data rfl (c_in39 L offs 1 16) rfl ?_
  refine Wk ?_
  refine BrK.mk (fun h2 => ?_) (fun h2 => ?_) <;> (try rw [h2])
  · refine Wk ?_
    exact resP.mk rfl (Sees.of_eq (by unfold reasonG; rw [reasonM_off h1' (by simp [inB] at h2; omega)]; rfl))
  have e2 : ¬ (offs < 1 ∨ 16 < offs) := by simp [inB] at h2; omega
  have hmul : 0 ≤ len * offs ∧ len * offs ≤ 8192 := ⟨Int.mul_nonneg (by omega) (by omega), Int.le_trans (Int.mul_le_mul hl2 (show offs ≤ 16 by omega) (by omega) (by omega)) (by decide)⟩
  have hwm : IntKind.i64.wrap (len * offs) = len * offs := by rw [w64] <;> omega
  have hE : reasonG n q len offs = match byNodeM n q len with
    | some r => (r, true, 0)
    | none => match byWindowM n q with
      | some r => (r, true, 0)
      | none => match grpO n q len offs with
        | some r => (r, true, 0)
        | none => (rsn0, false, 0) := reasonM_ok h1' e2
  rw [hE]
  refine Wk ?_
  refine LoopK.run mixed [] (fun (k : Nat) => k ≤ n.nodes.toNat ∧ ∀ j, j < k → asR (nodeR n q len j) = none) (fun k => [(1, encReqs q), (2, .int .i64 len), (3, .int .i64 offs), (4, .ptr 0 0), (8, .ptr 1 0), (12, .int .i64 k)]) (fun k => ⟨[.cells n.cs 26, .cells [.int .i64 0, .int .i64 0, .int .i64 0, .int .i64 0, .nils, .int .i64 0, .int .i64 0] 31], [], 0, 0, fun _ => 0⟩) (fun k => n.nodes.toNat - k) 0 ⟨by simp, by simp⟩ ?_ ?_
  · refine Fits.mk' rfl rfl rfl rfl ?_ ?_ ?_ ?_ ?_ <;> repeat' (first | exact trivial | refine And.intro ?_ ?_ | exact Sees.of_eq rfl | exact lt_b rfl | rfl | exact SeesL.rfl' _)
  rintro k ⟨hk, hinv⟩
  refine Wk ?_
  refine BrK.mk (fun hb => ?_) (fun hb => ?_) <;> (try rw [hb])
  · have hlt : k < n.nodes.toNat := by simp at hb; omega
    have hnr : nodeR n q len k = ⟨1, k, 0, 0, [], sumW (needM q len) (n.links.filter (atN k)), len⟩ := by unfold nodeR; rw [sumQ_need]
    refine Wk ?_
    first | refine CallK.data rfl (c_at39 L n hn q hx len hQ k) rfl ?_ | refine CallP.data rfl (c_at39 L n hn q hx len hQ k) rfl ?_
    refine Wk ?_
    refine BrK.mk (fun h3 => ?_) (fun h3 => ?_) <;> (try rw [h3])
    · have hs : asR (nodeR n q len k) = some (nodeR n q len k) := by rw [asR, if_pos]; unfold isR; rw [hnr]; exact h3
      have hf : byNodeM n q len = some (nodeR n q len k) := firstO_hit (f := fun a : Nat => asR (nodeR n q len a)) hinv hs hlt
      rw [hf, hnr]
      refine Wk ?_
      first | refine CallK.data rfl (c_at39 L n hn q hx len hQ k) rfl ?_ | refine CallP.data rfl (c_at39 L n hn q hx len hQ k) rfl ?_
      refine Wk ?_
      exact resP.mk rfl (Sees.of_eq rfl)
    · have hs : asR (nodeR n q len k) = none := by rw [asR_none]; unfold isR; rw [hnr]; exact h3
      refine Wk ?_
      refine ⟨k + 1, ⟨by omega, fun j hj => ?_⟩, by omega, ?_⟩
      · rcases Nat.lt_succ_iff_lt_or_eq.1 hj with h | rfl
        · exact hinv j h
        · exact hs
      · refine Fits.mk' rfl rfl rfl rfl ?_ ?_ ?_ ?_ ?_ <;> repeat' (first | exact trivial | refine And.intro ?_ ?_ | exact Sees.of_eq rfl | exact lt_b rfl | rfl | exact SeesL.rfl' _ | exact Sees.int (by rw [w64] <;> omega))
  have hk' : k = n.nodes.toNat := by simp at hb; omega
  have hf : byNodeM n q len = none := firstO_none (f := fun a : Nat => asR (nodeR n q len a)) (hk' ▸ hinv)
  rw [hf]
  clear hk' hinv hb hk
  refine Wk ?_
  refine LoopK.run mixed [] (fun (k : Nat) => k ≤ q.length ∧ ∀ j, j < k → winQ n q j = none) (fun k => [(1, encReqs q), (2, .int .i64 len), (3, .int .i64 offs), (4, .ptr 0 0), (8, .ptr 1 0), (13, .int .i64 k)]) (fun k => ⟨[.cells n.cs 26, .cells [.int .i64 0, .int .i64 0, .int .i64 0, .int .i64 0, .nils, .int .i64 0, .int .i64 0] 31], [], 0, 0, fun _ => 0⟩) (fun k => q.length - k) 0 ⟨by simp, by simp⟩ ?_ ?_
  · refine Fits.mk' rfl rfl rfl rfl ?_ ?_ ?_ ?_ ?_ <;> repeat' (first | exact trivial | refine And.intro ?_ ?_ | exact Sees.of_eq rfl | exact lt_b rfl | rfl | exact SeesL.rfl' _)
  rintro k ⟨hk, hinv⟩
  refine Wk ?_
  refine BrK.mk (fun hb => ?_) (fun hb => ?_) <;> (try rw [hb])
  · have hlt : k < q.length := by simpa using hb
    obtain ⟨x, hgx⟩ := getLt hlt
    have hmx := getMap (f := Req.av) hgx
    have hxo := hQ.req x (List.mem_of_getElem? hgx)
    have hx2 := hxo.len
    have hwq : winQ n q k = winX n x k := by unfold winQ; rw [hgx]
    refine Wk ?_
    refine LoopK.run mixed [] (fun (j : Nat) => j ≤ x.routes.length ∧ ∀ i, i < j → winAt n x k i = none) (fun j => [(1, encReqs q), (2, .int .i64 len), (3, .int .i64 offs), (4, .ptr 0 0), (8, .ptr 1 0), (13, .int .i64 k), (14, .int .i64 j)]) (fun j => ⟨[.cells n.cs 26, .cells [.int .i64 0, .int .i64 0, .int .i64 0, .int .i64 0, .nils, .int .i64 0, .int .i64 0] 31], [], 0, 0, fun _ => 0⟩) (fun j => x.routes.length - j) 0 ⟨by simp, by simp⟩ ?_ ?_
    · refine Fits.mk' rfl rfl rfl rfl ?_ ?_ ?_ ?_ ?_ <;> repeat' (first | exact trivial | refine And.intro ?_ ?_ | exact Sees.of_eq rfl | exact lt_b rfl | rfl | exact SeesL.rfl' _)
    rintro j ⟨hj, hinv2⟩
    repeat ((conv => whnf); first | refine sJ ?_ | refine And.intro (by first | exact inbMap hlt | kernel_rfl) ?_ | rw [hmx])
    try (conv => whnf)
    refine BrK.mk (fun hd => ?_) (fun hd => ?_) <;> (try rw [hd])
    · have hjt : j < x.routes.length := by simpa using hd
      obtain ⟨r, hgr⟩ := getLt hjt
      have hmr := getMap (f := encIs) hgr
      have hro := routeF_ok (hxo.route r (List.mem_of_getElem? hgr))
      have hwa : winAt n x k j = asR (windowR n x k j r) := by unfold winAt; rw [hgr]
      repeat ((conv => whnf); first | refine sJ ?_ | refine And.intro (by first | exact inbMap hlt | exact inbMap hjt | kernel_rfl) ?_ | rw [hmx] | rw [hmr])
      try (conv => whnf)
      first | refine CallK.data rfl (c_Sum33 L n hn hok r (by omega) hro.2.1) rfl ?_ | refine CallP.data rfl (c_Sum33 L n hn hok r (by omega) hro.2.1) rfl ?_
      repeat ((conv => whnf); first | refine sJ ?_ | refine And.intro (by first | exact inbMap hlt | kernel_rfl) ?_ | rw [hmx])
      try (conv => whnf)
      refine BrK.mk (fun h3 => ?_) (fun h3 => ?_) <;> (try rw [h3])
      · have hs : winAt n x k j = some (windowR n x k j r) := by rw [hwa, asR, if_pos]; exact h3
        have hf : byWindowM n q = some (windowR n x k j r) := firstO_hit hinv (hwq.trans (firstO_hit hinv2 hs hjt)) hlt
        rw [hf]
        repeat ((conv => whnf); first | refine sJ ?_ | refine And.intro (by first | exact inbMap hlt | kernel_rfl) ?_ | rw [hmx])
        try (conv => whnf)
        exact resP.mk rfl (Sees.of_eq rfl)
      · have hs : winAt n x k j = none := by rw [hwa, asR_none]; exact h3
        refine Wk ?_
        refine ⟨j + 1, ⟨by omega, fun m hm => ?_⟩, by omega, ?_⟩
        · rcases Nat.lt_succ_iff_lt_or_eq.1 hm with h | rfl
          · exact hinv2 m h
          · exact hs
        · refine Fits.mk' rfl rfl rfl rfl ?_ ?_ ?_ ?_ ?_ <;> repeat' (first | exact trivial | refine And.intro ?_ ?_ | exact Sees.of_eq rfl | exact lt_b rfl | rfl | exact SeesL.rfl' _ | exact Sees.int (by rw [w64] <;> omega))
    · have hj' : j = x.routes.length := by simp at hd; omega
      have hs : winQ n q k = none := hwq.trans (firstO_none (hj' ▸ hinv2))
      refine Wk ?_
      refine ⟨k + 1, ⟨by omega, fun m hm => ?_⟩, by omega, ?_⟩
      · rcases Nat.lt_succ_iff_lt_or_eq.1 hm with h | rfl
        · exact hinv m h
        · exact hs
      · refine Fits.mk' rfl rfl rfl rfl ?_ ?_ ?_ ?_ ?_ <;> repeat' (first | exact trivial | refine And.intro ?_ ?_ | exact Sees.of_eq rfl | exact lt_b rfl | rfl | exact SeesL.rfl' _ | exact Sees.int (by rw [w64] <;> omega))
  have hk' : k = q.length := by simp at hb; omega
  have hf : byWindowM n q = none := firstO_none (hk' ▸ hinv)
  rw [hf, grpO_eq hok q len offs hmul.1]
  clear hk' hinv hb hk
  have hgs := grpL_sub n q len
  have hgl := hgs.length_le
  have hmany := hok.many
  have hcg := c_group39 L n hn q hq hx len hQ
  rw [show (if 10 < (allM n q).length then [] else gL (allM n q) (bestI n q len)) = grpL n q len from rfl] at hcg
  refine Wk ?_
  first | refine CallK.data rfl (hcg) rfl ?_ | refine CallP.data rfl (hcg) rfl ?_
  refine Wk ?_
  first | refine CallK.data rfl (c_total39 L n hok q hx len hQ (grpL n q len) (fun l h => hgs.subset h) (by omega)) rfl ?_ | refine CallP.data rfl (c_total39 L n hok q hx len hQ (grpL n q len) (fun l h => hgs.subset h) (by omega)) rfl ?_
  by_cases h3 : len * offs < sumW (needM q len) (grpL n q len)
  · have g3 : decide (len * offs < sumW (needM q len) (grpL n q len)) = true := decide_eq_true h3
    rw [if_pos h3]
    repeat ((conv => whnf); first | refine sJ ?_ | refine And.intro (by first | exact trivial | kernel_rfl) ?_ | rw [hwm] | rw [g3])
    try (conv => whnf)
    first | refine CallK.data rfl (c_total39 L n hok q hx len hQ (grpL n q len) (fun l h => hgs.subset h) (by omega)) rfl ?_ | refine CallP.data rfl (c_total39 L n hok q hx len hQ (grpL n q len) (fun l h => hgs.subset h) (by omega)) rfl ?_
    repeat ((conv => whnf); first | refine sJ ?_ | refine And.intro (by first | exact trivial | kernel_rfl) ?_ | rw [hwm])
    try (conv => whnf)
    exact resP.mk rfl (Sees.of_eq rfl)
  · have g3 : decide (len * offs < sumW (needM q len) (grpL n q len)) = false := decide_eq_false h3
    rw [if_neg h3]
    repeat ((conv => whnf); first | refine sJ ?_ | refine And.intro (by first | exact trivial | kernel_rfl) ?_ | rw [hwm] | rw [g3])
    try (conv => whnf)
    exact resP.mk rfl (Sees.of_eq rfl)
end
end HM
