/- Breaches: the reference's parts. -/
import Derived.Test.YtnhelkbmeggpkaaGreatDoorS69
import Derived.Test.YtnhelkbmeggpkaaGreatDoorS33
import Derived.Test.YtnhelkbmeggpkaaGreatDoorDb

set_option maxRecDepth 100000
namespace HM
open Go Go.RowKit Go.Proofs
section
variable (L : World → Prop)

theorem c_same36 (a b : Att) : PCall Tryz.prog L 59 [a.av, b.av] (.bool (decide (a.key = b.key))) := by
  refine PCall.intro mixed [] (nt := 37) Tryz.func59 rfl rfl (by simp) ?_
  repeat' ((conv => whnf); first | refine sJ ?_ | refine And.intro (by first  | kernel_rfl) ?_  | (refine BrK.mk (fun hb => ?_) (fun hb => ?_) <;> (try rw [hb])))
  all_goals try (conv => whnf)
  all_goals exact resP.mk rfl (Sees.bool (by first | (simp_all [Att.key]; done) | (simp_all [Att.key]; omega) | (rw [Bool.eq_iff_iff]; simp_all [Att.key]; done) | (rw [Bool.eq_iff_iff]; simp_all [Att.key]; omega)))

theorem c_earlier36 (a b : Brc) : PCall Tryz.prog L 62 [a.av, b.av] (.bool (laterB a b)) := by
  refine PCall.intro mixed [] (nt := 24) Tryz.func62 rfl rfl (by simp) ?_
  refine Wk ?_
  first | refine CallK.data rfl (c_before36 L ⟨a.flow, a.src, a.dst, a.frame, []⟩ ⟨b.flow, b.src, b.dst, b.frame, []⟩) rfl ?_ | refine CallP.data rfl (c_before36 L ⟨a.flow, a.src, a.dst, a.frame, []⟩ ⟨b.flow, b.src, b.dst, b.frame, []⟩) rfl ?_
  refine Wk ?_
  exact resP.mk rfl (Sees.bool rfl)

theorem c_SameInts31 (a b : List Int) (ha : a.length ≤ 281474976710656) : PCall Tryz.prog L 58 [encIs a, encIs b] (.bool (decide (a = b))) := by
  refine PCall.intro mixed [] (nt := 26) Tryz.func58 rfl rfl (by simp) ?_
  refine Wk ?_
  refine BrK.mk (fun h1 => ?_) (fun h1 => ?_) <;> (try rw [h1])
  · have hne : a.length ≠ b.length := by simp at h1; omega
    refine Wk ?_
    exact resP.mk rfl (Sees.bool (by rw [decide_eq_false (fun h => hne (by rw [h]))]))
  have hl : a.length = b.length := by simp at h1; omega
  refine Wk ?_
  refine LoopK.run mixed [] (fun (k : Nat) => k ≤ a.length ∧ ∀ (j : Nat) x y, j < k → a[j]? = some x → b[j]? = some y → x = y) (fun k => [(0, encIs a), (1, encIs b), (5, .int .i64 k)]) (fun k => St.none) (fun k => a.length - k) 0 ⟨by simp, by simp⟩ ?_ ?_
  · refine Fits.mk' rfl rfl rfl rfl ?_ ?_ ?_ ?_ ?_ <;> repeat' (first | exact trivial | refine And.intro ?_ ?_ | exact Sees.of_eq rfl | exact lt_b rfl | rfl | exact Sees.int (by simp))
  rintro k ⟨hk, hinv⟩
  refine Wk ?_
  refine BrK.mk (fun hb => ?_) (fun hb => ?_) <;> (try rw [hb])
  · have hkt : k < a.length := by simpa using hb
    obtain ⟨x, hgx⟩ := getLt hkt
    obtain ⟨y, hgy⟩ := getLt (l := b) (k := k) (by omega)
    have hmx := getMap (f := encI) hgx
    have hmy := getMap (f := encI) hgy
    repeat ((conv => whnf); first | refine sJ ?_ | refine And.intro (by first | exact inbMap hkt | exact inbMap (by omega : k < b.length) | kernel_rfl) ?_ | rw [hmx] | rw [hmy])
    try (conv => whnf)
    refine BrK.mk (fun h2 => ?_) (fun h2 => ?_) <;> (try rw [h2])
    · have hne : ¬ a = b := fun h => by
        subst h
        rw [hgx] at hgy
        injection hgy with hgy
        subst hgy
        simp at h2
      refine Wk ?_
      exact resP.mk rfl (Sees.bool (by rw [decide_eq_false hne]))
    · have hxy : x = y := by simpa using h2
      refine Wk ?_
      refine ⟨k + 1, ⟨by omega, fun j x' y' hj hx' hy' => ?_⟩, by omega, ?_⟩
      · rcases Nat.lt_succ_iff_lt_or_eq.1 hj with h | rfl
        · exact hinv j x' y' h hx' hy'
        · rw [hgx] at hx'; rw [hgy] at hy'; injection hx' with hx'; injection hy' with hy'; rw [← hx', ← hy', hxy]
      · refine Fits.mk' rfl rfl rfl rfl ?_ ?_ ?_ ?_ ?_ <;> repeat' (first | exact trivial | refine And.intro ?_ ?_ | exact Sees.of_eq rfl | exact lt_b rfl | rfl | exact Sees.int (succI hkt ha))
  · have hkn : k = a.length := by simp at hb; omega
    subst hkn
    refine Wk ?_
    exact resP.mk rfl (Sees.bool (by rw [decide_eq_true (eq_of_at hl hinv)]))

def rowAV (row : List Int) (c : Nat) : AV := if row = [] then .nils else .own (row.map encI) c
/-- the breach so far -/
def bkBx (k : List Int) (v : AV) : List Ob := [.dead, .dead, .cells [.int .i64 0, .int .i64 0, .int .i64 0, .int .i64 0, .nils] 56, .cells [.int .i64 (k.getD 0 0), .int .i64 (k.getD 1 0), .int .i64 (k.getD 2 0), .int .i64 (k.getD 3 0), v] 56]
def bkSl (r : RunL) (a : Att) (loss : Int) (k : Nat) : List (Nat × AV) := [(2, .int .i64 loss), (3, .cptr r.av 0), (4, .cptr a.av 0), (6, .ptr 2 0), (8, .ptr 3 0), (9, .int .i64 k)]
theorem brk_len (k : List Int) (loss : Int) : ∀ ats : List Att, (brk k loss ats).1.length ≤ ats.length := by
  intro ats
  suffices ∀ (l : List Att) (st : List Int × Option (List Int)) (m : Nat), st.1.length ≤ m → (l.foldl (brS k loss) st).1.length ≤ m + l.length by simpa [brk] using this ats ([], none) 0 (by simp)
  intro l
  induction l with
  | nil => intro st m h; simpa using h
  | cons a l ih =>
    intro st m h
    rw [List.foldl_cons, List.length_cons]
    have hs : (brS k loss st a).1.length ≤ m + 1 := by
      unfold brS
      split
      · split
        · simp
        · rw [List.length_append, List.length_singleton]; omega
      · omega
    have := ih (brS k loss st a) (m + 1) hs
    omega
theorem brk_stop {k : List Int} {loss : Int} {pre post : List Att} : ∀ s, (brk k loss pre).2 = some s → (brk k loss (pre ++ post)).2 = some s := by
  induction post generalizing pre with
  | nil => intro s h; simpa using h
  | cons a l ih =>
    intro s h
    have := ih (pre := pre ++ [a]) s (by rw [brk_snoc, brS_done (by rw [h]; simp)]; exact h)
    simpa using this
def brkM (k : List Int) (loss : Int) (ats : List Att) : AV := match (brk k loss ats).2 with
  | some s => .tup [(Brc.of k s).av, .bool true]
  | none => .tup [(Brc.of k (brk k loss ats).1).av, .bool false]

set_option maxHeartbeats 4000000 in
theorem c_breach36 (r : RunL) (a : Att) (loss : Int) (h0 : 0 ≤ loss) (hr : r.atts.length ≤ 1099511627776) : PCall Tryz.prog L 61 [r.av, a.av, .int .i64 loss] (brkM a.key loss r.atts) := by
  refine PCall.intro mixed [1] (nt := 57) Tryz.func61 rfl rfl (by simp) ?_
  refine Wk ?_
  refine SeqK.sem mixed [] ?_
  refine Wk ?_
  refine SemK.freezeB 0 rfl rfl ?_
  refine SemK.freezeB 1 rfl rfl ?_
  refine twC_sound (ct := []) mixed _ _ _ _ ?_
  refine Wk ?_
  refine LoopK.run mixed [8] (fun s : Nat × Nat × Frs => s.1 ≤ r.atts.length ∧ (brk a.key loss (r.atts.take s.1)).2 = none ∧ ((brk a.key loss (r.atts.take s.1)).1 ≠ [] → s.2.2[s.2.1]? = some ((brk a.key loss (r.atts.take s.1)).1.length, 1))) (fun s => bkSl r a loss s.1) (fun s => ⟨bkBx a.key (rowAV (brk a.key loss (r.atts.take s.1)).1 s.2.1), s.2.2, 0, 0, fun _ => 3⟩) (fun s => r.atts.length - s.1) (0, 0, []) ⟨by simp, rfl, fun h => absurd rfl h⟩ ?_ ?_
  · refine Fits.mk' rfl rfl rfl rfl ?_ ?_ ?_ ?_ ?_ <;> repeat' (first | exact trivial | refine And.intro ?_ ?_ | exact Sees.of_eq rfl | exact lt_b rfl | rfl | exact SeesO.rfl' _ | exact SeesL.rfl' _ | exact Sees.int (by simp))
  rintro ⟨k, c, fr⟩ ⟨hk, hnone, hfr⟩
  dsimp only at hk hnone hfr ⊢
  obtain ⟨row, hrow⟩ : ∃ row, row = (brk a.key loss (r.atts.take k)).1 := ⟨_, rfl⟩
  have hst : brk a.key loss (r.atts.take k) = (row, none) := by rw [hrow, ← hnone]
  rw [← hrow] at hfr ⊢
  have hrl : row.length ≤ k := by
    have := brk_len a.key loss (r.atts.take k)
    rw [← hrow, List.length_take] at this; omega
  have hokk : ∀ kk, (rowAV row c).okk kk fr.length := fun kk => by
    unfold rowAV
    split
    · trivial
    · rename_i h
      exact (List.getElem?_eq_some_iff.1 (hfr h)).1
  unfold bkBx bkSl
  refine Wk ?_
  refine BrK.mk (fun hb => ?_) (fun hb => ?_) <;> (try rw [hb])
  · have hkt : k < r.atts.length := by simpa using hb
    obtain ⟨x, hgx⟩ := getLt hkt
    have hmx := getMap (f := Att.av) hgx
    have hnext : brk a.key loss (r.atts.take (k + 1)) = brS a.key loss (row, none) x := by rw [take_succ hgx, brk_snoc, hst]
    repeat ((conv => whnf); first | refine sJ ?_ | refine And.intro (by first | exact inbMap hkt | kernel_rfl) ?_ | rw [hmx])
    try (conv => whnf)
    first | refine CallK.data rfl (c_same36 L x a) rfl ?_ | refine CallP.data rfl (c_same36 L x a) rfl ?_
    refine Wk ?_
    refine BrK.mk (fun h1 => ?_) (fun h1 => ?_) <;> (try rw [h1])
    · have hne : x.key ≠ a.key := by simpa using h1
      rw [brS_ne hne] at hnext
      refine Wk ?_
      refine ⟨(k + 1, c, fr), ⟨by dsimp only; omega, by dsimp only; rw [hnext], fun h => ?_⟩, by dsimp only; omega, ?_⟩
      · dsimp only at h ⊢
        rw [hnext] at h ⊢
        exact hfr h
      · dsimp only
        rw [hnext]
        refine Fits.mk' rfl rfl rfl rfl ?_ ?_ ?_ ?_ ?_ <;> repeat' (first | exact trivial | refine And.intro ?_ ?_ | exact Sees.of_eq rfl | exact lt_b rfl | rfl | exact FitF.rfl' _ | exact FitT.of_all (fun _ => rfl) _ | exact hokk _ | exact SeesO.rfl' _ | exact SeesL.rfl' _ | exact Sees.int (succI hkt (by omega)))
    have heq : x.key = a.key := by simpa using h1
    have hb1 : brS a.key loss (row, none) x = if x.out = 1 then ([], none) else (row ++ [x.slot], if loss < (row.length + 1 : Nat) then some (row ++ [x.slot]) else none) := by rw [brS, if_pos ⟨heq, rfl⟩]
    rw [hb1] at hnext
    refine Wk ?_
    refine SeqK.cut mixed [] [] (fun p : Nat × Frs => p.2[p.1]? = some ((row ++ [x.slot]).length, 1)) (fun p => (10, .ptr 4 0) :: bkSl r a loss k) (fun p => ⟨bkBx a.key (.own ((row ++ [x.slot]).map encI) p.1) ++ [.cells x.av.cells 53], p.2, 0, 0, fun _ => 3⟩) ?_ ?_
    · by_cases hre : row = []
      · subst hre
        rw [show rowAV [] c = .nils from rfl]
        repeat ((conv => whnf); first | refine sJ ?_ | refine And.intro (by first | exact trivial | kernel_rfl) ?_ )
        try (conv => whnf)
        refine ⟨((fr ++ [(1, 1)]).length, (fr ++ [(1, 1)]) ++ [(1, 1)]), by simp, ?_⟩
        dsimp only
        refine Fits.mk' rfl rfl rfl rfl ?_ ?_ ?_ ?_ ?_ <;> repeat' (first | exact trivial | refine And.intro ?_ ?_ | exact Sees.of_eq rfl | exact lt_b rfl | rfl | exact FitF.rfl' _ | exact FitF.app _ _ | exact FitT.of_all (fun c => (updT_same (updT_same (fun _ => rfl)) c).symm) _ | exact (show (fr ++ [(1, 1)]).length < ((fr ++ [(1, 1)]) ++ [(1, 1)]).length by simp) | exact SeesO.rfl' _ | exact SeesL.rfl' _ | exact Sees.int rfl)
      · have hfc := hfr hre
        rw [show rowAV row c = .own (row.map encI) c from if_neg hre]
        have hcl := (List.getElem?_eq_some_iff.1 hfc).1
        have hcq2 : (fr ++ [(1, 1)])[c]? = some ((List.map encI row).length, 0 + 1) := by rw [List.getElem?_append_left hcl, List.length_map]; exact hfc
        repeat ((conv => whnf); first | refine sJ ?_ | refine And.intro (by first | exact trivial | exact Els.map (f := encI) (fun _ => ⟨rfl, rfl⟩) | exact (show _ * 8 ≤ _ by simp only [List.length_map, List.length_cons, List.length_nil]; omega) | exact (by simp only [List.length_map, List.length_cons, List.length_nil, maxLen]; omega) | exact hcq2 | exact updT_same (fun _ => rfl) _ | kernel_rfl) ?_ )
        try (conv => whnf)
        refine ⟨(c, fr.set c ((List.map encI row ++ [AV.int .i64 x.slot]).length, 0 + 1)), by simp [hcl], ?_⟩
        dsimp only
        refine Fits.mk' rfl rfl rfl rfl ?_ ?_ ?_ ?_ ?_ <;> repeat' (first | exact trivial | refine And.intro ?_ ?_ | exact Sees.of_eq rfl | exact lt_b rfl | rfl | exact FitF.rfl' _ | exact FitF.app _ _ | exact FitT.of_all (fun c => (updT_same (fun _ => rfl) c).symm) _ | exact (show c < (fr.set c _).length by rw [List.length_set]; exact hcl) | exact SeesO.rfl' _ | exact SeesL.rfl' _ | exact Sees.int rfl | exact FitF.setApp _ hcl | exact Sees.of_eq (by rw [List.map_append]; rfl))
    rintro ⟨c2, fr2⟩ hfr2
    dsimp only at hfr2 ⊢
    have hc2 := (List.getElem?_eq_some_iff.1 hfr2).1
    rw [List.length_append, List.length_singleton] at hfr2
    by_cases hout : x.out = 1
    · rw [if_pos hout] at hnext
      refine Wk ?_
      rw [show (x.out == 1) = true from by simp [hout]]
      refine Wk ?_
      rw [decide_eq_false (show ¬ loss < (([] : List AV).length : Int) by simp; omega)]
      refine Wk ?_
      refine ⟨(k + 1, c2, fr2), ⟨by dsimp only; omega, by dsimp only; rw [hnext], fun h => absurd (by dsimp only; rw [hnext]) h⟩, by dsimp only; omega, ?_⟩
      dsimp only
      rw [hnext]
      refine Fits.mk' rfl rfl rfl rfl ?_ ?_ ?_ ?_ ?_ <;> repeat' (first | exact trivial | refine And.intro ?_ ?_ | exact Sees.of_eq rfl | exact lt_b rfl | rfl | exact FitF.rfl' _ | exact FitT.of_all (fun _ => rfl) _ | exact SeesO.rfl' _ | exact SeesL.rfl' _ | exact Sees.int (succI hkt (by omega)))
    · rw [if_neg hout] at hnext
      refine Wk ?_
      rw [show (x.out == 1) = false from by simp [hout]]
      refine Wk ?_
      rw [List.length_map, List.length_append, List.length_singleton]
      have hall := brk_stop (k := a.key) (loss := loss) (pre := r.atts.take (k + 1)) (post := r.atts.drop (k + 1))
      rw [List.take_append_drop, hnext] at hall
      by_cases hgt : loss < (row.length + 1 : Nat)
      · rw [if_pos hgt] at hnext hall
        have hM : brkM a.key loss r.atts = .tup [(Brc.of a.key (row ++ [x.slot])).av, .bool true] := by unfold brkM; rw [hall (row ++ [x.slot]) rfl]
        rw [decide_eq_true hgt, hM]
        refine Wk ?_
        exact resP.mk rfl (Sees.of_eq rfl)
      · rw [if_neg hgt] at hnext
        rw [decide_eq_false hgt]
        refine Wk ?_
        refine ⟨(k + 1, c2, fr2), ⟨by dsimp only; omega, by dsimp only; rw [hnext], fun h => ?_⟩, by dsimp only; omega, ?_⟩
        · dsimp only
          rw [hnext, List.length_append, List.length_singleton]; exact hfr2
        · dsimp only
          rw [hnext]
          rw [show rowAV (row ++ [x.slot]) c2 = .own ((row ++ [x.slot]).map encI) c2 from if_neg (by simp)]
          refine Fits.mk' rfl rfl rfl rfl ?_ ?_ ?_ ?_ ?_ <;> repeat' (first | exact trivial | refine And.intro ?_ ?_ | exact Sees.of_eq rfl | exact lt_b rfl | rfl | exact FitF.rfl' _ | exact FitT.of_all (fun _ => rfl) _ | exact SeesO.rfl' _ | exact SeesL.rfl' _ | exact Sees.int (succI hkt (by omega)) | exact hc2)
  · have hkn : k = r.atts.length := by simp at hb; omega
    subst hkn
    rw [List.take_length] at hst
    have hM : brkM a.key loss r.atts = .tup [(Brc.of a.key row).av, .bool false] := by unfold brkM; rw [hst]
    rw [hM]
    by_cases hre : row = []
    · subst hre
      rw [show rowAV [] c = .nils from rfl]
      refine Wk ?_
      exact resP.mk rfl (Sees.of_eq rfl)
    · rw [show rowAV row c = .own (row.map encI) c from if_neg hre]
      refine Wk ?_
      exact resP.mk rfl (Sees.of_eq rfl)
end
end HM
