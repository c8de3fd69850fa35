/- Each place with room can be taken: the law. -/
import Derived.Test.YtgfboaadhlhjhaaGreatDoorS223
import Derived.Test.YtgfboaadhlhjhaaGreatDoorS196
import Derived.Test.YtgfboaadhlhjhaaGreatDoorS122
import Derived.Test.YtgfboaadhlhjhaaGreatDoorS34
import Derived.Test.YtgfboaadhlhjhaaGreatDoorDc
set_option maxRecDepth 100000
namespace HM
open Go Go.RowKit Go.Proofs
theorem c_Flows38w (L : World → Prop) (q : List Req) (hq : q.length ≤ 2900000000000) : PCall Tryz.prog L 33 [encReqs q] (encFlows (flowsQ q)) := by
  refine PCall.intro mixed [] (nt := 21) Tryz.func33 rfl rfl (by simp) ?_
  refine Wk ?_
  refine LoopK.run mixed [] (fun (k : Nat) => k ≤ q.length) (fun k => [(0, encReqs q), (3, .own ((flowsQ (q.take k)).map Flow.av) 0), (4, .int .i64 k)]) (fun k => ⟨[], [((flowsQ (q.take k)).length, 6)], 0, 0, fun _ => 44⟩) (fun k => q.length - k) 0 (by omega) ?_ ?_
  · refine Fits.mk' rfl rfl rfl rfl ?_ ?_ ?_ ?_ ?_ <;> repeat' (first | exact trivial | refine And.intro ?_ ?_ | exact Sees.of_eq rfl | exact lt_b rfl | rfl )
  rintro k hk
  have hfl : (flowsQ (q.take k)).length = k := by simp [flowsQ]; omega
  refine Wk ?_
  refine BrK.mk (fun hb => ?_) (fun hb => ?_) <;> (try rw [hb])
  · have hlt : k < q.length := by simpa using hb
    obtain ⟨x, hgx⟩ := getLt hlt
    have hmx := getMap (f := Req.av) hgx
    have hfs : flowsQ (q.take (k + 1)) = flowsQ (q.take k) ++ [x.flow] := by rw [take_succ hgx]; simp [flowsQ]
    repeat ((conv => whnf); first | refine sJ ?_ | refine And.intro (by first | exact inbMap hlt | exact Els.map (f := Flow.av) (fun _ => ⟨rfl, rfl⟩) | exact (show _ * 48 ≤ _ by simp only [List.length_map, List.length_cons, List.length_nil]; omega) | exact (by simp only [List.length_map, List.length_cons, List.length_nil, maxLen]; omega) | exact (show some (_, _) = some (_, _) by simp only [List.length_map]) | kernel_rfl) ?_ | rw [hmx])
    try (conv => whnf)
    refine ⟨k + 1, by omega, by omega, ?_⟩
    rw [hfs]
    refine Fits.mk' rfl rfl rfl rfl ?_ ?_ ?_ ?_ ?_ <;> repeat' (first | exact trivial | refine And.intro ?_ ?_ | exact Sees.of_eq rfl | exact lt_b rfl | rfl | exact Sees.int (succI hlt (by omega)) | exact Sees.own (by simp; rfl) | (show (_, _) = (_, _); simp only [List.length_append, List.length_map, List.length_cons, List.length_nil]))
  · have hk' : k = q.length := by simp at hb; omega
    subst hk'
    rw [List.take_length]
    refine Wk ?_
    exact resP.mk rfl (Sees.of_eq rfl)
set_option maxHeartbeats 8000000 in
theorem c_AdmitFills (n : Net) (q : List Req) (s : Sched) (l : Link) (a b : Int) (hn : n.small) (hq : q.length ≤ 2900000000000) (hx : ∀ x ∈ q, x.small) (hc : s.cells.length ≤ 281474976710656) (ha : 0 ≤ a ∧ a ≤ 255) (hb : 0 ≤ b ∧ b ≤ 255) :
    PCall Tryz.prog LW 7 [n.av, encReqs q, s.av, l.av, .int .u8 a, .int .u8 b] (.bool true) := by
  refine PCall.intro mixed [] (nt := 112) Tryz.func7 rfl rfl (by simp) ?_
  refine Wk ?_
  first | refine CallK.data rfl (c_awake41) rfl ?_ | refine CallP.data rfl (c_awake41) rfl ?_
  refine Wk ?_
  first | refine CallK.data rfl (c_Flows38w LW q hq) rfl ?_ | refine CallP.data rfl (c_Flows38w LW q hq) rfl ?_
  refine Wk ?_
  first | refine CallK.data rfl (c_Few38 LW n hn q (by omega) hx s) rfl ?_ | refine CallP.data rfl (c_Few38 LW n hn q (by omega) hx s) rfl ?_
  cases g1 : few38 n q s with
  | false =>
    refine Wk ?_
    exact resP.mk rfl (Sees.bool rfl)
  | true =>
  obtain ⟨hq4, hs30⟩ := few38_len g1
  by_cases h30 : 30 < s.len
  · have g2 : decide (30 < s.len) = true := decide_eq_true h30
    repeat ((conv => whnf); first | refine sJ ?_ | refine And.intro (by first | exact trivial | kernel_rfl) ?_ | rw [g2])
    try (conv => whnf)
    exact resP.mk rfl (Sees.bool rfl)
  have g2 : decide (30 < s.len) = false := decide_eq_false h30
  by_cases hq0 : q.length = 0
  · have g3 : (((q.map Req.av).length : Int) == 0) = true := by rw [List.length_map, hq0]; rfl
    repeat ((conv => whnf); first | refine sJ ?_ | refine And.intro (by first | exact trivial | kernel_rfl) ?_ | rw [g2] | rw [g3])
    try (conv => whnf)
    exact resP.mk rfl (Sees.bool rfl)
  have g3 : (((q.map Req.av).length : Int) == 0) = false := by rw [List.length_map, beq_eq_false_iff_ne]; omega
  repeat ((conv => whnf); first | refine sJ ?_ | refine And.intro (by first | exact trivial | kernel_rfl) ?_ | rw [g2] | rw [g3])
  try (conv => whnf)
  first | refine CallK.data rfl (c_SCheck LW n hn (flowsQ q) (by simp [flowsQ]; omega) s hc) rfl ?_ | refine CallP.data rfl (c_SCheck LW n hn (flowsQ q) (by simp [flowsQ]; omega) s hc) rfl ?_
  cases g4 : ((schedE n (flowsQ q) s).2 != 0) with
  | true =>
    repeat ((conv => whnf); first | refine sJ ?_ | refine And.intro (by first | exact trivial | kernel_rfl) ?_ | rw [g4])
    try (conv => whnf)
    exact resP.mk rfl (Sees.bool rfl)
  | false =>
  have h4 : (schedE n (flowsQ q) s).2 = 0 := by simpa using g4
  have hv := schedE_ok h4
  have hz := sized_bd hv.size
  repeat ((conv => whnf); first | refine sJ ?_ | refine And.intro (by first | exact trivial | kernel_rfl) ?_ | rw [g4])
  try (conv => whnf)
  first | refine CallK.data rfl (c_Room n s l hn (by omega)) rfl ?_ | refine CallP.data rfl (c_Room n s l hn (by omega)) rfl ?_
  by_cases h5 : (roomM n s l).2 = 0
  rotate_left
  · have e5 := roomM_err hv (by omega) h5
    rw [e5]
    refine Wk ?_
    exact resP.mk rfl (Sees.bool rfl)
  have g5 : ((roomM n s l).2 != 0) = false := by simpa using h5
  obtain ⟨f0, hf0⟩ := getLt (l := flowsQ q) (k := 0) (by simp [flowsQ]; omega)
  have hmf : (List.map Flow.av (flowsQ q))[Int.toNat 0]? = some f0.av := getMap (f := Flow.av) hf0
  have hfi : (0 : Nat) < (flowsQ q).length := (List.getElem?_eq_some_iff.1 hf0).1
  have ta : a.tmod s.len = a % s.len := tmod_eq (by omega)
  have tb : b.tmod s.offs = b % s.offs := tmod_eq (by omega)
  have wa : IntKind.i64.wrap a = a := w64 (by omega) (by omega)
  have wb : IntKind.i64.wrap b = b := w64 (by omega) (by omega)
  have ba : 0 ≤ a % s.len ∧ a % s.len < s.len := ⟨Int.emod_nonneg _ (by omega), Int.emod_lt_of_pos _ (by omega)⟩
  have bb : 0 ≤ b % s.offs ∧ b % s.offs < s.offs := ⟨Int.emod_nonneg _ (by omega), Int.emod_lt_of_pos _ (by omega)⟩
  obtain ⟨k1, k2⟩ := fills_ask h4 hs30 h5 ba bb (List.mem_of_getElem? hf0)
  have hrl := roomM_len n s l
  repeat ((conv => whnf); first | refine sJ ?_ | refine And.intro (by first | exact trivial | exact (show s.len ≠ 0 by omega) | exact (show s.offs ≠ 0 by omega) | kernel_rfl) ?_ | rw [g5] | rw [wa] | rw [wb] | rw [ta] | rw [tb])
  try (conv => whnf)
  first | refine CallK.data rfl (c_ContainsCl LW (roomM n s l).1 ⟨a % s.len, b % s.offs, l.src, l.dst, 0⟩ (by omega)) rfl ?_ | refine CallP.data rfl (c_ContainsCl LW (roomM n s l).1 ⟨a % s.len, b % s.offs, l.src, l.dst, 0⟩ (by omega)) rfl ?_
  repeat ((conv => whnf); first | refine sJ ?_ | refine And.intro (by first | exact trivial | exact inbMap hfi | kernel_rfl) ?_ | rw [hmf])
  try (conv => whnf)
  first | refine CallK.data rfl (c_Add LW s ⟨a % s.len, b % s.offs, l.src, l.dst, f0.id⟩) rfl ?_ | refine CallP.data rfl (c_Add LW s ⟨a % s.len, b % s.offs, l.src, l.dst, f0.id⟩) rfl ?_
  have hal : (addM s ⟨a % s.len, b % s.offs, l.src, l.dst, f0.id⟩).1.cells.length ≤ 600 := by
    unfold addM
    split
    · simp
    split
    · simp
    split
    · simp
    split
    · simp
    · simp only [insAt_len]; omega
  by_cases h6 : (addM s ⟨a % s.len, b % s.offs, l.src, l.dst, f0.id⟩).2 = 0
  · have g6 : ((addM s ⟨a % s.len, b % s.offs, l.src, l.dst, f0.id⟩).2 != 0) = false := by simpa using h6
    rw [k2 h6]
    repeat ((conv => whnf); first | refine sJ ?_ | refine And.intro (by first | exact trivial | kernel_rfl) ?_ | rw [g6])
    try (conv => whnf)
    first | refine CallK.data rfl (c_SCheck LW n hn (flowsQ q) (by simp [flowsQ]; omega) (addM s ⟨a % s.len, b % s.offs, l.src, l.dst, f0.id⟩).1 (by omega)) rfl ?_ | refine CallP.data rfl (c_SCheck LW n hn (flowsQ q) (by simp [flowsQ]; omega) (addM s ⟨a % s.len, b % s.offs, l.src, l.dst, f0.id⟩).1 (by omega)) rfl ?_
    refine Wk ?_
    rw [beq_self_eq_true]
    exact resP.mk rfl (Sees.bool rfl)
  · have g6 : ((addM s ⟨a % s.len, b % s.offs, l.src, l.dst, f0.id⟩).2 != 0) = true := by simpa using h6
    rw [k1 h6]
    repeat ((conv => whnf); first | refine sJ ?_ | refine And.intro (by first | exact trivial | kernel_rfl) ?_ | rw [g6])
    try (conv => whnf)
    exact resP.mk rfl (Sees.bool rfl)
end HM
