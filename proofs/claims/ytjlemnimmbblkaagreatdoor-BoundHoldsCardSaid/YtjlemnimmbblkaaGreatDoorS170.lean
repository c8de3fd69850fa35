/- Frames of a flow; breaches on the links of a route. -/
import Derived.Test.YtjlemnimmbblkaaGreatDoorS30
import Derived.Test.YtjlemnimmbblkaaGreatDoorS70
import Derived.Test.YtjlemnimmbblkaaGreatDoorDb

set_option maxRecDepth 100000
namespace HM
open Go Go.RowKit Go.Proofs
def rowI (l : List Int) (c : Nat) : AV := if l = [] then .nils else .own (l.map encI) c
def upI (k : Nat) : List Int := (List.range k).map fun i : Nat => (i : Int)
theorem upI_succ (k : Nat) : upI (k + 1) = upI k ++ [(k : Int)] := by simp [upI, List.range_succ]
theorem upI_len (k : Nat) : (upI k).length = k := by simp [upI]
section
variable (L : World → Prop)
theorem c_IndexFuncBrc (l : List Brc) (p : Brc → Bool) (g : Nat) (caps : List AV) (hl : l.length ≤ 281474976710656) (hcb : callable Tryz.prog g = true) (hc : fzs caps = some caps) (hp : ∀ x ∈ l, PCall Tryz.prog L g (Brc.av x :: caps) (.bool (p x))) :
    PCall Tryz.prog L 31 [.sl false (l.map Brc.av), .fn g caps] (.int .i64 (idxF p l)) := by
  refine PCall.intro mixed [] (nt := 19) Tryz.func31 rfl rfl (by simp) ?_
  refine Wk ?_
  refine LoopK.run mixed [] (fun (k : Nat) => k ≤ l.length ∧ ∀ j x, j < k → l[j]? = some x → p x = false) (fun k => [(0, .sl false (l.map Brc.av)), (1, .fn g caps), (7, .int .i64 l.length), (8, .int .i64 k)]) (fun k => St.none) (fun k => l.length - k) 0 ⟨by simp, by simp⟩ ?_ ?_
  · refine Fits.mk' rfl rfl rfl rfl ?_ ?_ ?_ ?_ ?_ <;> repeat' (first | exact trivial | refine And.intro ?_ ?_ | exact Sees.of_eq rfl | exact lt_b rfl | rfl | exact Sees.int (by simp) | exact fzs_okk hc)
  rintro k ⟨hk, hinv⟩
  refine Wk ?_
  refine BrK.mk (fun hb => ?_) (fun hb => ?_) <;> (try rw [hb])
  · have hlt : k < l.length := by simpa using hb
    obtain ⟨x, hgx⟩ := getLt hlt
    have hmx := getMap (f := Brc.av) hgx
    repeat ((conv => whnf); first | refine sJ ?_ | refine And.intro (by first | exact inbMap hlt | kernel_rfl) ?_ | rw [hmx])
    try (conv => whnf)
    refine CallK.data hcb (hp x (List.mem_of_getElem? hgx)) (by show (match fz _, fzs caps with | some a, some b => some (a :: b) | _, _ => none) = _; rw [hc]; rfl) ?_
    refine Wk ?_
    refine BrK.mk (fun h2 => ?_) (fun h2 => ?_) <;> (try rw [h2])
    · refine Wk ?_
      exact resP.mk rfl (Sees.int (idxF_some hlt hinv hgx h2).symm)
    · refine Wk ?_
      refine ⟨k + 1, ⟨by omega, fun j y hj hy => ?_⟩, by omega, ?_⟩
      · rcases Nat.lt_succ_iff_lt_or_eq.1 hj with h | rfl
        · exact hinv j y h hy
        · rw [hgx] at hy; injection hy with hy; subst hy; exact h2
      · refine Fits.mk' rfl rfl rfl rfl ?_ ?_ ?_ ?_ ?_ <;> repeat' (first | exact trivial | refine And.intro ?_ ?_ | exact Sees.of_eq rfl | exact lt_b rfl | rfl | exact Sees.int (succI hlt hl) | exact fzs_okk hc)
  · have hk' : k = l.length := by simp at hb; omega
    subst hk'
    refine Wk ?_
    exact resP.mk rfl (Sees.int (idxF_none hinv).symm)

theorem c_ContainsFuncBrc (l : List Brc) (p : Brc → Bool) (g : Nat) (caps : List AV) (hl : l.length ≤ 281474976710656) (hcb : callable Tryz.prog g = true) (hc : fzs caps = some caps) (hp : ∀ x ∈ l, PCall Tryz.prog L g (Brc.av x :: caps) (.bool (p x))) :
    PCall Tryz.prog L 10 [.sl false (l.map Brc.av), .fn g caps] (.bool (l.any p)) := by
  refine PCall.intro mixed [] (nt := 9) Tryz.func10 rfl rfl (by simp) ?_
  refine Wk ?_
  refine CallK.data rfl (c_IndexFuncBrc L l p g caps hl hcb hc hp) (by show (match fz _, fzs [AV.fn g caps] with | some a, some b => some (a :: b) | _, _ => none) = _; rw [show fzs [AV.fn g caps] = some [AV.fn g caps] from by simp [fz, fzs, hc]]; rfl) ?_
  refine Wk ?_
  exact resP.mk rfl (Sees.bool (idxF_any p l))

theorem c_ahead (f : Flow) (slot : Int) (hf : flowE 32 f = 0) (h0 : 0 ≤ slot) (h1 : slot ≤ 4096) : PCall Tryz.prog L 30 [.int .i64 slot, .cptr f.av 0] (.int .i64 ((max (slot - f.phase) 0 + f.period - 1) / f.period)) := by
  obtain ⟨q1, q2, q3, q4, q5, q6, q7, q8, q9, q10, q11, q12, q13⟩ := flowE_ok hf
  obtain ⟨X, hX⟩ : ∃ X, X = max (slot - f.phase) 0 := ⟨_, rfl⟩
  have w1 : IntKind.i64.wrap (slot - f.phase) = slot - f.phase := w64 (by omega) (by omega)
  have w2 : IntKind.i64.wrap (X + f.period) = X + f.period := w64 (by omega) (by omega)
  have w3 : IntKind.i64.wrap (X + f.period - 1) = X + f.period - 1 := w64 (by omega) (by omega)
  have hq : (X + f.period - 1).tdiv f.period = (X + f.period - 1) / f.period := Int.tdiv_eq_ediv_of_nonneg (by omega)
  have hb : (X + f.period - 1) / f.period ≤ X + f.period - 1 := Int.ediv_le_self _ (by omega)
  have hb0 : 0 ≤ (X + f.period - 1) / f.period := Int.ediv_nonneg (by omega) (by omega)
  have w4 : IntKind.i64.wrap ((X + f.period - 1).tdiv f.period) = (X + f.period - 1) / f.period := by rw [hq, w64 (by omega) (by omega)]
  refine PCall.intro mixed [] (nt := 16) Tryz.func30 rfl rfl (by simp) ?_
  repeat ((conv => whnf); first | refine sJ ?_ | refine And.intro (by first | exact (show f.period ≠ 0 by omega) | kernel_rfl) ?_ | rw [w1])
  try (conv => whnf)
  have hmx : (if 0 > slot - f.phase then 0 else slot - f.phase) = max (slot - f.phase) 0 := by split <;> omega
  exact resP.mk rfl (Sees.int (by rw [hmx, ← hX, w2, w3, w4]))
set_option maxHeartbeats 2000000 in
theorem c_Frames0 (f : Flow) (M : Int) (hf : flowE 32 f = 0) (h0 : 0 ≤ M) (h1 : M ≤ 512) : PCall Tryz.prog L 9 [f.av, .int .i64 0, .int .i64 M] (.tup [encIs (upI (manyF f M)), .int .i64 0]) := by
  obtain ⟨q1, q2, q3, q4, q5, q6, q7, q8, q9, q10, q11, q12, q13⟩ := flowE_ok hf
  have hm := manyF_le q7 q9 h0
  have e0 : (max ((0 : Int) - f.phase) 0 + f.period - 1) / f.period = 0 := Int.ediv_eq_zero_of_lt (by omega) (by omega)
  have e1 : (max (M - f.phase) 0 + f.period - 1) / f.period = (manyF f M : Nat) := by
    have : 0 ≤ (max (M - f.phase) 0 + f.period - 1) / f.period := Int.ediv_nonneg (by omega) (by omega)
    unfold manyF; omega
  obtain ⟨m, hmd⟩ : ∃ m, m = manyF f M := ⟨_, rfl⟩
  rw [← hmd] at e1 hm ⊢
  refine PCall.intro mixed [1] (nt := 50) Tryz.func9 rfl rfl (by simp) ?_
  refine Wk ?_
  refine SeqK.sem mixed [] ?_
  refine Wk ?_
  refine SemK.freezeB 0 rfl rfl ?_
  refine twC_sound (ct := []) mixed _ _ _ _ ?_
  refine Wk ?_
  first | refine CallK.data rfl (c_alone L f) rfl ?_ | refine CallP.data rfl (c_alone L f) rfl ?_
  rw [hf]
  refine Wk ?_
  rw [decide_eq_false (show ¬ M < 0 by omega)]
  refine Wk ?_
  rw [decide_eq_false (show ¬ (1099511627776 : Int) < M by omega)]
  refine Wk ?_
  first | refine CallK.data rfl (c_ahead L f 0 hf (by omega) (by omega)) rfl ?_ | refine CallP.data rfl (c_ahead L f 0 hf (by omega) (by omega)) rfl ?_
  rw [e0]
  refine Wk ?_
  first | refine CallK.data rfl (c_ahead L f M hf h0 (by omega)) rfl ?_ | refine CallP.data rfl (c_ahead L f M hf h0 (by omega)) rfl ?_
  rw [e1]
  have w0 : IntKind.i64.wrap ((m : Int) - 0) = (m : Int) := by rw [w64] <;> omega
  repeat ((conv => whnf); first | refine sJ ?_ | refine And.intro (by first | exact trivial | kernel_rfl) ?_ | rw [w0])
  try (conv => whnf)
  rw [decide_eq_false (show ¬ (1024 : Int) < (m : Int) by omega)]
  refine Wk ?_
  refine LoopK.run mixed [] (fun s : Nat × Nat × Frs => s.1 ≤ m ∧ (s.1 ≠ 0 → s.2.2[s.2.1]? = some (s.1, 1))) (fun s => [(9, .int .i64 0), (11, rowI (upI s.1) s.2.1), (38, .int .i64 m), (39, .int .i64 s.1)]) (fun s => ⟨[], s.2.2, 0, 0, fun _ => 3⟩) (fun s => m - s.1) (0, 0, []) ⟨by simp, fun h => absurd rfl h⟩ ?_ ?_
  · refine Fits.mk' rfl rfl rfl rfl ?_ ?_ ?_ ?_ ?_ <;> repeat' (first | exact trivial | refine And.intro ?_ ?_ | exact Sees.of_eq rfl | exact lt_b rfl | rfl | exact FitF.nil _ | exact SeesO.rfl' _ | exact SeesL.rfl' _ | exact Sees.int (by simp))
  rintro ⟨k, c, fr⟩ ⟨hk, hfr⟩
  dsimp only at hk hfr ⊢
  have hokk : ∀ kk, (rowI (upI k) c).okk kk fr.length := fun kk => by
    unfold rowI
    split
    · trivial
    · rename_i h
      exact (List.getElem?_eq_some_iff.1 (hfr fun h0 => h (by subst h0; rfl))).1
  refine Wk ?_
  refine BrK.mk (fun hb => ?_) (fun hb => ?_) <;> (try rw [hb])
  · have hkm : k < m := by simpa using hb
    have wk : IntKind.i64.wrap ((0 : Int) + (k : Int)) = (k : Int) := by rw [w64] <;> omega
    have hkk : IntKind.i64.wrap ((k : Int) + 1) = ((k + 1 : Nat) : Int) := by rw [w64] <;> omega
    by_cases hk0 : k = 0
    · subst hk0
      rw [show rowI (upI 0) c = .nils from rfl]
      repeat ((conv => whnf); first | refine sJ ?_ | refine And.intro (by first | exact trivial | kernel_rfl) ?_ | rw [wk])
      try (conv => whnf)
      refine ⟨(1, (fr ++ [(1, 1)]).length, (fr ++ [(1, 1)]) ++ [(1, 1)]), ⟨by dsimp only; omega, fun _ => by simp⟩, by dsimp only; omega, ?_⟩
      dsimp only
      refine Fits.mk' rfl rfl rfl rfl ?_ ?_ ?_ ?_ ?_ <;> repeat' (first | exact trivial | refine And.intro ?_ ?_ | exact Sees.of_eq rfl | exact lt_b rfl | rfl | exact FitF.rfl' _ | exact FitF.app _ _ | exact FitT.of_all (fun c => (updT_same (updT_same (fun _ => rfl)) c).symm) _ | exact (show (fr ++ [(1, 1)]).length < ((fr ++ [(1, 1)]) ++ [(1, 1)]).length by simp) | exact SeesO.rfl' _ | exact SeesL.rfl' _ | exact Sees.int hkk)
    · have hfc := hfr hk0
      have hne : upI k ≠ [] := fun h => hk0 (by have := upI_len k; rw [h] at this; exact this.symm)
      rw [show rowI (upI k) c = .own ((upI k).map encI) c from if_neg hne]
      have hcl := (List.getElem?_eq_some_iff.1 hfc).1
      have hlen := upI_len k
      have hcq2 : (fr ++ [(1, 1)])[c]? = some ((List.map encI (upI k)).length, 0 + 1) := by rw [List.getElem?_append_left hcl, List.length_map, hlen]; exact hfc
      repeat ((conv => whnf); first | refine sJ ?_ | refine And.intro (by first | exact trivial | exact Els.map (f := encI) (fun _ => ⟨rfl, rfl⟩) | exact (show _ * 8 ≤ _ by simp only [List.length_map, List.length_cons, List.length_nil]; omega) | exact (by simp only [List.length_map, List.length_cons, List.length_nil, maxLen]; omega) | exact hcq2 | exact updT_same (fun _ => rfl) _ | kernel_rfl) ?_ | rw [wk])
      try (conv => whnf)
      refine ⟨(k + 1, c, (fr ++ [(1, 1)]).set c ((List.map encI (upI k) ++ [AV.int .i64 (k : Int)]).length, 0 + 1)), ⟨by dsimp only; omega, fun _ => ?_⟩, by dsimp only; omega, ?_⟩
      · dsimp only; rw [List.getElem?_set_self (by rw [List.length_append]; omega)]; simp [hlen]
      dsimp only
      rw [show rowI (upI (k + 1)) c = .own (List.map encI (upI k) ++ [AV.int .i64 (k : Int)]) c from by unfold rowI; rw [if_neg (by rw [upI_succ]; simp), upI_succ, List.map_append]; rfl]
      refine Fits.mk' rfl rfl rfl rfl ?_ ?_ ?_ ?_ ?_ <;> repeat' (first | exact trivial | refine And.intro ?_ ?_ | exact Sees.of_eq rfl | exact lt_b rfl | rfl | exact FitF.rfl' _ | exact FitF.app _ _ | exact FitT.of_all (fun c => (updT_same (fun _ => rfl) c).symm) _ | exact SeesO.rfl' _ | exact SeesL.rfl' _ | exact Sees.int hkk | exact (show c < ((fr ++ [(1, 1)]).set c _).length by rw [List.length_set, List.length_append]; omega))
  · have hkm : k = m := by simp at hb; omega
    subst hkm
    by_cases hk0 : k = 0
    · subst hk0
      rw [show rowI (upI 0) c = .nils from rfl]
      refine Wk ?_
      exact resP.mk rfl (Sees.of_eq rfl)
    · have hne : upI k ≠ [] := fun h => hk0 (by have := upI_len k; rw [h] at this; exact this.symm)
      rw [show rowI (upI k) c = .own ((upI k).map encI) c from if_neg hne]
      refine Wk ?_
      exact resP.mk rfl (Sees.of_eq rfl)
theorem c_holds1 (b : Brc) (r : List Int) (k : Int) (hr : r.length ≤ 281474976710656) : PCall Tryz.prog L 11 [b.av, .cptr (.agg [encIs r]) 0, .cptr (.agg [.int .i64 k]) 0] (.bool (brokenB r k b)) := by
  refine PCall.intro mixed [] (nt := 35) Tryz.func11 rfl rfl (by simp) ?_
  refine Wk ?_
  first | refine CallK.data rfl (c_IndexRoute L r b.src hr) rfl ?_ | refine CallP.data rfl (c_IndexRoute L r b.src hr) rfl ?_
  obtain ⟨i, hi⟩ : ∃ i, i = idxI r b.src := ⟨_, rfl⟩
  rw [show idxF (fun y => decide (b.src = y)) r = i from hi.symm]
  unfold brokenB
  rw [← hi]
  have hib : -1 ≤ i ∧ i < r.length := by
    by_cases h : i = -1
    · omega
    · rw [hi] at h ⊢
      obtain ⟨k, x, e1, e2, _⟩ := idxF_at (p := fun y => decide (b.src = y)) (l := r) h
      have := (List.getElem?_eq_some_iff.1 e2).1
      have e3 : idxI r b.src = k := e1
      omega
  have w1 : IntKind.i64.wrap (i + 1) = i + 1 := w64 (by omega) (by omega)
  refine Wk ?_
  cases h1 : b.frame == k with
  | false =>
    refine Wk ?_
    exact resP.mk rfl (Sees.bool rfl)
  | true =>
  refine Wk ?_
  by_cases h2 : 0 ≤ i
  · rw [decide_eq_true h2]
    repeat ((conv => whnf); first | refine sJ ?_ | refine And.intro (by first | exact trivial | kernel_rfl) ?_ | rw [w1])
    try (conv => whnf)
    rw [List.length_map]
    by_cases h3 : i + 1 < (r.length : Int)
    · rw [decide_eq_true h3]
      obtain ⟨j, hj⟩ : ∃ j : Nat, i + 1 = j := ⟨(i + 1).toNat, by omega⟩
      rw [hj] at h3 w1
      have hjl : j < r.length := by omega
      obtain ⟨y, hgy⟩ := getLt hjl
      have hmy := getMap (f := encI) hgy
      repeat ((conv => whnf); first | refine sJ ?_ | refine And.intro (by first | exact inbMap hjl | kernel_rfl) ?_ | rw [w1] | rw [hj] | rw [hmy])
      try (conv => whnf)
      exact resP.mk rfl (Sees.bool (by rw [Int.toNat_natCast, List.getD_eq_getElem?_getD, hgy]; rfl))
    · rw [decide_eq_false h3]
      refine Wk ?_
      exact resP.mk rfl (Sees.bool rfl)
  · rw [decide_eq_false h2]
    refine Wk ?_
    exact resP.mk rfl (Sees.bool rfl)
end
end HM
