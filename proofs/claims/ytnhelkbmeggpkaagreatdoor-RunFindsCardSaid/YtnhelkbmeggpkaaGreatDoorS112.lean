/- Breaches: the reference. -/
import Derived.Test.YtnhelkbmeggpkaaGreatDoorS111
import Derived.Test.YtnhelkbmeggpkaaGreatDoorS104
import Derived.Test.YtnhelkbmeggpkaaGreatDoorFh

set_option maxRecDepth 100000
namespace HM
open Go Go.RowKit Go.Proofs
section
variable (L : World → Prop)

set_option maxHeartbeats 4000000 in
theorem c_SameBrc36 (a b : List Brc) (ha : a.length ≤ 281474976710656) (hs : ∀ x ∈ a, x.slots.length ≤ 281474976710656) : PCall Tryz.prog L 22 [encBrcs a, encBrcs b] (.bool (decide (a = b))) := by
  refine PCall.intro mixed [] (nt := 81) Tryz.func22 rfl rfl (by simp) ?_
  refine Wk ?_
  refine BrK.mk (fun h1 => ?_) (fun h1 => ?_) <;> (try rw [h1])
  · have hne : a.length ≠ b.length := by simp at h1; omega
    refine Wk ?_
    exact resP.mk rfl (Sees.bool (by rw [decide_eq_false (fun h => hne (by rw [h]))]))
  have hl : a.length = b.length := by simp at h1; omega
  refine Wk ?_
  refine LoopK.run mixed [] (fun (k : Nat) => k ≤ a.length ∧ ∀ (j : Nat) x y, j < k → a[j]? = some x → b[j]? = some y → x = y) (fun k => [(0, encBrcs a), (1, encBrcs b), (5, .int .i64 k)]) (fun k => St.none) (fun k => a.length - k) 0 ⟨by simp, by simp⟩ ?_ ?_
  · refine Fits.mk' rfl rfl rfl rfl ?_ ?_ ?_ ?_ ?_ <;> repeat' (first | exact trivial | refine And.intro ?_ ?_ | exact Sees.of_eq rfl | exact lt_b rfl | rfl | exact Sees.int (by simp))
  rintro k ⟨hk, hinv⟩
  refine Wk ?_
  refine BrK.mk (fun hb => ?_) (fun hb => ?_) <;> (try rw [hb])
  · have hkt : k < a.length := by simpa using hb
    obtain ⟨x, hgx⟩ := getLt hkt
    obtain ⟨y, hgy⟩ := getLt (l := b) (k := k) (by omega)
    have hmx := getMap (f := Brc.av) hgx
    have hmy := getMap (f := Brc.av) hgy
    have hsx := hs x (List.mem_of_getElem? hgx)
    repeat ((conv => whnf); first | refine sJ ?_ | refine And.intro (by first | exact inbMap hkt | exact inbMap (by omega : k < b.length) | kernel_rfl) ?_ | rw [hmx] | rw [hmy])
    try (conv => whnf)
    have hne : ¬ x = y → ¬ a = b := fun hn h => hn (by
      subst h
      rw [hgx] at hgy
      injection hgy)
    cases g1 : (x.flow != y.flow) with
    | true =>
      refine Wk ?_
      exact resP.mk rfl (Sees.bool (by rw [decide_eq_false (hne fun e => by rw [e] at g1; simp at g1)]))
    | false =>
      have g1' : x.flow = y.flow := by simpa using g1
      repeat ((conv => whnf); first | refine sJ ?_ | refine And.intro (by first | exact inbMap hkt | exact inbMap (by omega : k < b.length) | kernel_rfl) ?_ | rw [hmx] | rw [hmy])
      try (conv => whnf)
      cases g2 : (x.frame != y.frame) with
      | true =>
        refine Wk ?_
        exact resP.mk rfl (Sees.bool (by rw [decide_eq_false (hne fun e => by rw [e] at g2; simp at g2)]))
      | false =>
        have g2' : x.frame = y.frame := by simpa using g2
        repeat ((conv => whnf); first | refine sJ ?_ | refine And.intro (by first | exact inbMap hkt | exact inbMap (by omega : k < b.length) | kernel_rfl) ?_ | rw [hmx] | rw [hmy])
        try (conv => whnf)
        cases g3 : (x.src != y.src) with
        | true =>
          refine Wk ?_
          exact resP.mk rfl (Sees.bool (by rw [decide_eq_false (hne fun e => by rw [e] at g3; simp at g3)]))
        | false =>
          have g3' : x.src = y.src := by simpa using g3
          repeat ((conv => whnf); first | refine sJ ?_ | refine And.intro (by first | exact inbMap hkt | exact inbMap (by omega : k < b.length) | kernel_rfl) ?_ | rw [hmx] | rw [hmy])
          try (conv => whnf)
          cases g4 : (x.dst != y.dst) with
          | true =>
            refine Wk ?_
            exact resP.mk rfl (Sees.bool (by rw [decide_eq_false (hne fun e => by rw [e] at g4; simp at g4)]))
          | false =>
            have g4' : x.dst = y.dst := by simpa using g4
            repeat ((conv => whnf); first | refine sJ ?_ | refine And.intro (by first | exact inbMap hkt | exact inbMap (by omega : k < b.length) | kernel_rfl) ?_ | rw [hmx] | rw [hmy])
            try (conv => whnf)
            first | refine CallK.data rfl (c_SameInts31 L x.slots y.slots hsx) rfl ?_ | refine CallP.data rfl (c_SameInts31 L x.slots y.slots hsx) rfl ?_
            repeat ((conv => whnf); first | refine sJ ?_ | refine And.intro (by first | exact inbMap hkt | exact inbMap (by omega : k < b.length) | kernel_rfl) ?_ | rw [hmx] | rw [hmy])
            try (conv => whnf)
            refine BrK.mk (fun h5 => ?_) (fun h5 => ?_) <;> (try rw [h5])
            · have h5' : x.slots ≠ y.slots := by simpa using h5
              refine Wk ?_
              exact resP.mk rfl (Sees.bool (by rw [decide_eq_false (hne fun e => h5' (by rw [e]))]))
            · have h5' : x.slots = y.slots := by simpa using h5
              have hxy : x = y := by cases x; cases y; simp_all
              refine Wk ?_
              refine ⟨k + 1, ⟨by omega, fun j x' y' hj hx' hy' => ?_⟩, by omega, ?_⟩
              · rcases Nat.lt_succ_iff_lt_or_eq.1 hj with h | rfl
                · exact hinv j x' y' h hx' hy'
                · rw [hgx] at hx'; rw [hgy] at hy'; injection hx' with hx'; injection hy' with hy'; rw [← hx', ← hy', hxy]
              · refine Fits.mk' rfl rfl rfl rfl ?_ ?_ ?_ ?_ ?_ <;> repeat' (first | exact trivial | refine And.intro ?_ ?_ | exact Sees.of_eq rfl | exact lt_b rfl | rfl | exact Sees.int (succI hkt ha))
  · have hkn : k = a.length := by simp at hb; omega
    subst hkn
    refine Wk ?_
    exact resP.mk rfl (Sees.bool (by rw [decide_eq_true (eq_of_at hl hinv)]))

def brfSl (n : Net) (r : RunL) (out : List Brc) (k : Nat) : List (Nat × AV) := [(2, .cptr n.av 0), (3, .cptr r.av 0), (5, encBrcs out), (6, .int .i64 k)]
def anyK (ats : List Att) (key : List Int) (j : Nat) : Bool := (ats.take j).any fun b => b.key == key
theorem anyK_succ {ats : List Att} {key : List Int} {j : Nat} {b : Att} (h : ats[j]? = some b) : anyK ats key (j + 1) = (anyK ats key j || b.key == key) := by
  unfold anyK
  rw [take_succ h, List.any_append]; simp

set_option maxHeartbeats 8000000 in
theorem c_Breaches36 (n : Net) (hn : n.small) (hnl : n.links.length ≤ 281474976710656) (r : RunL) (hr : r.atts.length ≤ 1099511627776) : PCall Tryz.prog L 23 [n.av, r.av] (encBrcs (brcsM n r)) := by
  refine PCall.intro mixed [1] (nt := 112) Tryz.func23 rfl rfl (by simp) ?_
  refine Wk ?_
  refine SeqK.sem mixed [] ?_
  refine Wk ?_
  refine SemK.freezeB 0 rfl rfl ?_
  refine SemK.freezeB 1 rfl rfl ?_
  refine twC_sound (ct := [20]) mixed _ _ _ _ ?_
  refine Wk ?_
  first | refine CallK.data rfl (c_Check31 L n hn) rfl ?_ | refine CallP.data rfl (c_Check31 L n hn) rfl ?_
  refine Wk ?_
  refine BrK.mk (fun h0 => ?_) (fun h0 => ?_) <;> (try rw [h0])
  · have h0' : netE n ≠ 0 := by simpa using h0
    refine Wk ?_
    exact resP.mk rfl (Sees.of_eq (by rw [brcsM, if_neg h0']; rfl))
  have h0' : netE n = 0 := by simpa using h0
  have hok := netE_ok h0'
  rw [show brcsM n r = refB n r.atts r.atts.length from by rw [brcsM, if_pos h0']]
  refine Wk ?_
  refine SeqK.sem mixed [] ?_
  refine Wk ?_
  refine LoopK.run mixed [15] (fun k : Nat => k ≤ r.atts.length) (fun k => brfSl n r (refB n r.atts k) k) (fun k => St.none) (fun k => r.atts.length - k) 0 (by omega) ?_ ?_
  · refine Fits.mk' rfl rfl rfl rfl ?_ ?_ ?_ ?_ ?_ <;> repeat' (first | exact trivial | refine And.intro ?_ ?_ | exact Sees.of_eq rfl | exact lt_b rfl | rfl | exact FitF.nil _ | exact Sees.elems rfl | exact Sees.int (by simp))
  rintro k hk
  have hol := refB_len n r.atts k
  obtain ⟨out, hout⟩ : ∃ out, out = refB n r.atts k := ⟨_, rfl⟩
  rw [← hout] at hol ⊢
  unfold brfSl
  refine Wk ?_
  refine BrK.mk (fun hb => ?_) (fun hb => ?_) <;> (try rw [hb])
  · have hkt : k < r.atts.length := by simpa using hb
    obtain ⟨a, hga⟩ := getLt hkt
    have hma := getMap (f := Att.av) hga
    refine Wk ?_
    refine LoopK.run mixed [] (fun j : Nat => j ≤ k) (fun j => (7, .bool (!anyK r.atts a.key j)) :: (8, .int .i64 j) :: brfSl n r out k) (fun j => St.none) (fun j => k - j) 0 (by omega) ?_ ?_
    · refine Fits.mk' rfl rfl rfl rfl ?_ ?_ ?_ ?_ ?_ <;> repeat' (first | exact trivial | refine And.intro ?_ ?_ | exact Sees.of_eq rfl | exact lt_b rfl | rfl | exact Sees.int (by simp) | exact Sees.bool (by simp [anyK]))
    rintro j hj
    unfold brfSl
    refine Wk ?_
    refine BrK.mk (fun hc => ?_) (fun hc => ?_) <;> (try rw [hc])
    · have hjk : j < k := by simpa using hc
      obtain ⟨b, hgb⟩ := getLt (l := r.atts) (k := j) (by omega)
      have hmb := getMap (f := Att.av) hgb
      have hsu := anyK_succ (key := a.key) hgb
      cases hf : anyK r.atts a.key j with
      | true =>
        rw [hf] at hsu
        refine Wk ?_
        refine ⟨j + 1, by omega, by omega, ?_⟩
        rw [hsu]
        refine Fits.mk' rfl rfl rfl rfl ?_ ?_ ?_ ?_ ?_ <;> repeat' (first | exact trivial | refine And.intro ?_ ?_ | exact Sees.of_eq rfl | exact lt_b rfl | rfl | exact Sees.int (succI hjk (by omega)))
      | false =>
        rw [hf] at hsu
        repeat ((conv => whnf); first | refine sJ ?_ | refine And.intro (by first | exact inbMap hkt | exact inbMap (by omega : j < r.atts.length) | kernel_rfl) ?_ | rw [hma] | rw [hmb])
        try (conv => whnf)
        first | refine CallK.data rfl (c_same36 L b a) rfl ?_ | refine CallP.data rfl (c_same36 L b a) rfl ?_
        refine Wk ?_
        refine ⟨j + 1, by omega, by omega, ?_⟩
        rw [hsu]
        refine Fits.mk' rfl rfl rfl rfl ?_ ?_ ?_ ?_ ?_ <;> repeat' (first | exact trivial | refine And.intro ?_ ?_ | exact Sees.of_eq rfl | exact lt_b rfl | rfl | exact Sees.int (succI hjk (by omega)) | exact Sees.bool (by by_cases e : b.key = a.key <;> simp [e]))
    · have hjk : j = k := by simp at hc; omega
      subst hjk
      repeat ((conv => whnf); first | refine sJ ?_ | refine And.intro (by first | exact inbMap hkt | kernel_rfl) ?_ | rw [hma])
      try (conv => whnf)
      first | refine CallK.data rfl (c_Find31 L n hnl a.cell.src a.cell.dst) rfl ?_ | refine CallP.data rfl (c_Find31 L n hnl a.cell.src a.cell.dst) rfl ?_
      rw [show findL n a.cell.src a.cell.dst = linkK n a.key from rfl]
      have hnext : refB n r.atts (j + 1) = match brcOf n r.atts j a with
        | none => out
        | some s => insBr (Brc.of a.key s) out := by rw [hout]; simp only [refB, hga]; cases brcOf n r.atts j a <;> rfl
      have hbo : brcOf n r.atts j a = if anyK r.atts a.key j = true ∨ linkK n a.key < 0 then none else (brk a.key (lossK n a.key) r.atts).2 := rfl
      have skip : refB n r.atts (j + 1) = out → True := fun _ => trivial
      cases hf : anyK r.atts a.key j with
      | true =>
        rw [hbo, if_pos (.inl hf)] at hnext
        refine Wk ?_
        refine ⟨j + 1, by omega, by omega, ?_⟩
        rw [hnext]
        refine Fits.mk' rfl rfl rfl rfl ?_ ?_ ?_ ?_ ?_ <;> repeat' (first | exact trivial | refine And.intro ?_ ?_ | exact Sees.of_eq rfl | exact lt_b rfl | rfl | exact Sees.int (succI hkt (by omega)))
      | false =>
        refine Wk ?_
        by_cases hlk : linkK n a.key < 0
        · rw [hbo, if_pos (.inr hlk)] at hnext
          rw [decide_eq_true hlk]
          refine Wk ?_
          refine ⟨j + 1, by omega, by omega, ?_⟩
          rw [hnext]
          refine Fits.mk' rfl rfl rfl rfl ?_ ?_ ?_ ?_ ?_ <;> repeat' (first | exact trivial | refine And.intro ?_ ?_ | exact Sees.of_eq rfl | exact lt_b rfl | rfl | exact Sees.int (succI hkt (by omega)))
        rw [hbo, if_neg (by simp [hf, hlk])] at hnext
        rw [decide_eq_false hlk]
        have hl0 : 0 ≤ linkK n a.key := by omega
        obtain ⟨i, l, e1, e2, _, _⟩ := findL_at (n := n) (a := a.cell.src) (b := a.cell.dst) hl0
        have hil := (List.getElem?_eq_some_iff.1 e2).1
        have hml := getMap (f := Link.av) e2
        have hli : linkK n a.key = (i : Int) := e1
        have hlo : lossK n a.key = l.loss := by
          show lossL n a.cell.src a.cell.dst = _
          rw [lossL, e1, Int.toNat_natCast, e2]
        rw [hlo] at hnext
        rw [hli]
        refine Wk ?_
        have hlo0 : 0 ≤ l.loss := by have := (hok.link i l e2).1; unfold linkR at this; simp at this; omega
        obtain ⟨bb, is, hM, hbi⟩ : ∃ bb is, brkM a.key l.loss r.atts = .tup [Brc.av bb, .bool is] ∧ refB n r.atts (j + 1) = if is = true then insBr bb out else out := by
          unfold brkM
          rw [hnext]
          cases hbk : (brk a.key l.loss r.atts).2 with
          | none => exact ⟨_, false, rfl, rfl⟩
          | some s => exact ⟨_, true, rfl, rfl⟩
        clear hnext
        refine SeqK.cutS mixed [10019] ((10, .ptr 0 0) :: (11, .bool is) :: brfSl n r out j) ⟨[.cells bb.av.cells 56], [], 0, 0, fun _ => 0⟩ (SemK.regionMix mixed [0, 1, 2, 3, 4, 5, 6, 7, 8, 9, 10, 11, 12, 13, 14] 4 rfl rfl (by decide) rfl ?_) ?_
        · repeat ((conv => whnf); first | refine sJ ?_ | refine And.intro (by first | exact inbMap hkt | exact inbMap hil | kernel_rfl) ?_ | rw [hma] | rw [hml])
          try (conv => whnf)
          first | refine CallK.data rfl (c_breach36 L r a l.loss hlo0 hr) rfl ?_ | refine CallP.data rfl (c_breach36 L r a l.loss hlo0 hr) rfl ?_
          rw [hM]
          repeat' ((conv => whnf); first | exact trivial | refine sJ ?_ | refine And.intro (by first | exact trivial | exact More.pre rfl rfl | kernel_rfl) ?_ | refine And.intro ?_ ?_ )
          all_goals (try (conv => whnf))
          all_goals refine Fits.mk' rfl rfl rfl rfl ?_ ?_ ?_ ?_ ?_ <;> repeat' (first | exact trivial | refine And.intro ?_ ?_ | exact Sees.of_eq rfl | exact lt_b rfl | rfl )
        refine Wk ?_
        refine BrK.mk (fun his => ?_) (fun his => ?_) <;> (try rw [his])
        · rw [if_pos his] at hbi
          have put : ∀ p, p ≤ out.length → insBr bb out = out.take p ++ bb :: out.drop p → True := fun _ _ _ => trivial
          refine Wk ?_
          refine LoopK.run mixed [] (fun p : Nat => p ≤ out.length ∧ ∀ (i' : Nat) e, p ≤ i' → out[i']? = some e → laterB bb e = true) (fun p => (10, .ptr 0 0) :: (12, .int .i64 p) :: brfSl n r out j) (fun p => ⟨[.cells bb.av.cells 56], [], 0, 0, fun _ => 0⟩) (fun p => p) out.length ⟨Nat.le_refl _, fun i' e h1 h2 => by have := (List.getElem?_eq_some_iff.1 h2).1; omega⟩ ?_ ?_
          · refine Fits.mk' rfl rfl rfl rfl ?_ ?_ ?_ ?_ ?_ <;> repeat' (first | exact trivial | refine And.intro ?_ ?_ | exact Sees.of_eq rfl | exact lt_b rfl | rfl | exact Sees.int (by simp))
          rintro p ⟨hp, hlater⟩
          unfold brfSl
          refine Wk ?_
          by_cases hp0 : 0 < p
          · have hpl : p - 1 < out.length := by omega
            obtain ⟨e, hge⟩ := getLt hpl
            have hme := getMap (f := Brc.av) hge
            have hw1 : IntKind.i64.wrap ((p : Int) - 1) = ((p - 1 : Nat) : Int) := by rw [w64] <;> omega
            rw [decide_eq_true (show (0 : Int) < (p : Int) by omega)]
            repeat ((conv => whnf); first | refine sJ ?_ | refine And.intro (by first | (rw [hw1]; exact inbMap hpl) | kernel_rfl) ?_ | rw [hw1] | rw [hme])
            try (conv => whnf)
            first | refine CallK.data rfl (c_earlier36 L bb e) rfl ?_ | refine CallP.data rfl (c_earlier36 L bb e) rfl ?_
            cases hle : laterB bb e with
            | true =>
              repeat ((conv => whnf); first | refine sJ ?_ | refine And.intro (by first | exact trivial | kernel_rfl) ?_ | rw [hw1])
              try (conv => whnf)
              refine ⟨p - 1, ⟨by omega, fun i' e' hj' he' => ?_⟩, by omega, ?_⟩
              · rcases Nat.lt_or_ge i' p with hjp | hjp
                · have : i' = p - 1 := by omega
                  subst this
                  rw [hge] at he'; injection he' with he'; rw [← he']; exact hle
                · exact hlater i' e' hjp he'
              · refine Fits.mk' rfl rfl rfl rfl ?_ ?_ ?_ ?_ ?_ <;> repeat' (first | exact trivial | refine And.intro ?_ ?_ | exact Sees.of_eq rfl | exact lt_b rfl | rfl | exact SeesL.rfl' _)
            | false =>
              have hins := insBr_at (d := bb) hp hlater (fun e' _ he' => by rw [hge] at he'; injection he' with he'; rw [← he']; exact hle)
              rw [hins] at hbi
              refine Wk ?_
              refine SemK.regionFin mixed (fun X => X.bx[0]? = some (.cells bb.av.cells 56)) [1, 2, 3, 5, 8, 9, 10] 6 rfl rfl (by decide) rfl rfl ?_
              iterate 7
                conv => whnf
                apply exV
                · rintro S' K' hI0 hh
                  repeat ((conv => whnf); first | refine sJ ?_ | refine And.intro (by first | exact trivial | exact brcOk.els _ | exact (show InC (p : Int) (out.map Brc.av).length from ⟨by omega, by simp; omega⟩) | kernel_rfl) ?_ | rw [hI0])
                  try (conv => whnf)
                  exact hh
              have htk : List.drop 0 (List.take (p : Int).toNat (out.map Brc.av)) = (out.take p).map Brc.av := by rw [List.drop_zero, Int.toNat_natCast, List.map_take]
              have hdk : List.drop (p : Int).toNat (List.take (out.map Brc.av).length (out.map Brc.av)) = (out.drop p).map Brc.av := by rw [List.take_length, Int.toNat_natCast, List.map_drop]
              have hEa : Els (4 + 1) ((out.take p).map Brc.av ++ [bb.av]) := by
                rw [show (out.take p).map Brc.av ++ [bb.av] = (out.take p ++ [bb]).map Brc.av from by simp]
                exact brcOk.els _
              have hEm : ∀ l : List Brc, Els (4 + 1) (l.map Brc.av) := fun l => brcOk.els _
              try rw [htk]
              try rw [hdk]
              conv => whnf
              repeat' ((conv => whnf); first | exact trivial | refine sJ ?_ | refine And.intro (by first | exact trivial | exact Els.nil _ | exact hEm _ | exact hEa | exact (show _ * 56 ≤ _ by simp only [List.length_append, List.nil_append, List.length_map, List.length_take, List.length_drop, List.length_cons, List.length_nil]; omega) | exact (by simp only [List.length_append, List.nil_append, List.length_map, List.length_take, List.length_drop, List.length_cons, List.length_nil, maxLen]; omega) | kernel_rfl) ?_ | refine And.intro ?_ ?_ )
              all_goals (conv => whnf)
              all_goals refine Wk ?_
              all_goals refine ⟨j + 1, by omega, by omega, ?_⟩
              all_goals rw [hbi]
              all_goals refine Fits.mk' rfl rfl rfl rfl ?_ ?_ ?_ ?_ ?_ <;> repeat' (first | exact trivial | refine And.intro ?_ ?_ | exact Sees.of_eq rfl | exact lt_b rfl | rfl | exact FitF.nil _ | exact Sees.int (succI hkt (by omega)) | exact Sees.elems (show some _ = some _ from congrArg some (by simp; rfl)))
          · have hins := insBr_at (d := bb) hp hlater (fun e' h0 => by omega)
            rw [hins] at hbi
            rw [decide_eq_false (show ¬ (0 : Int) < (p : Int) by omega)]
            refine Wk ?_
            refine SemK.regionFin mixed (fun X => X.bx[0]? = some (.cells bb.av.cells 56)) [1, 2, 3, 5, 8, 9, 10] 6 rfl rfl (by decide) rfl rfl ?_
            iterate 7
              conv => whnf
              apply exV
              · rintro S' K' hI0 hh
                repeat ((conv => whnf); first | refine sJ ?_ | refine And.intro (by first | exact trivial | exact brcOk.els _ | exact (show InC (p : Int) (out.map Brc.av).length from ⟨by omega, by simp; omega⟩) | kernel_rfl) ?_ | rw [hI0])
                try (conv => whnf)
                exact hh
            have htk : List.drop 0 (List.take (p : Int).toNat (out.map Brc.av)) = (out.take p).map Brc.av := by rw [List.drop_zero, Int.toNat_natCast, List.map_take]
            have hdk : List.drop (p : Int).toNat (List.take (out.map Brc.av).length (out.map Brc.av)) = (out.drop p).map Brc.av := by rw [List.take_length, Int.toNat_natCast, List.map_drop]
            have hEa : Els (4 + 1) ((out.take p).map Brc.av ++ [bb.av]) := by
              rw [show (out.take p).map Brc.av ++ [bb.av] = (out.take p ++ [bb]).map Brc.av from by simp]
              exact brcOk.els _
            have hEm : ∀ l : List Brc, Els (4 + 1) (l.map Brc.av) := fun l => brcOk.els _
            try rw [htk]
            try rw [hdk]
            conv => whnf
            repeat' ((conv => whnf); first | exact trivial | refine sJ ?_ | refine And.intro (by first | exact trivial | exact Els.nil _ | exact hEm _ | exact hEa | exact (show _ * 56 ≤ _ by simp only [List.length_append, List.nil_append, List.length_map, List.length_take, List.length_drop, List.length_cons, List.length_nil]; omega) | exact (by simp only [List.length_append, List.nil_append, List.length_map, List.length_take, List.length_drop, List.length_cons, List.length_nil, maxLen]; omega) | kernel_rfl) ?_ | refine And.intro ?_ ?_ )
            all_goals (conv => whnf)
            all_goals refine Wk ?_
            all_goals refine ⟨j + 1, by omega, by omega, ?_⟩
            all_goals rw [hbi]
            all_goals refine Fits.mk' rfl rfl rfl rfl ?_ ?_ ?_ ?_ ?_ <;> repeat' (first | exact trivial | refine And.intro ?_ ?_ | exact Sees.of_eq rfl | exact lt_b rfl | rfl | exact FitF.nil _ | exact Sees.int (succI hkt (by omega)) | exact Sees.elems (show some _ = some _ from congrArg some (by simp; rfl)))
        · rw [if_neg (by simp [his])] at hbi
          refine Wk ?_
          refine ⟨j + 1, by omega, by omega, ?_⟩
          rw [hbi]
          refine Fits.mk' rfl rfl rfl rfl ?_ ?_ ?_ ?_ ?_ <;> repeat' (first | exact trivial | refine And.intro ?_ ?_ | exact Sees.of_eq rfl | exact lt_b rfl | rfl | exact Sees.int (succI hkt (by omega)))
  · have hkn : k = r.atts.length := by simp at hb; omega
    subst hkn
    refine Wk ?_
    refine twC_sound (ct := []) mixed _ _ _ _ ?_
    refine Wk ?_
    exact resP.mk rfl (Sees.of_eq (by rw [← hout]; rfl))
end
end HM
