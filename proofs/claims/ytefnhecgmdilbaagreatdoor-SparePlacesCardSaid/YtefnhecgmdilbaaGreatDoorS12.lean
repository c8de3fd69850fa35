/- Lists put together; masks compared. -/
import Derived.Test.YtefnhecgmdilbaaGreatDoorS9
import Derived.Test.YtefnhecgmdilbaaGreatDoorS6
import Derived.Test.YtefnhecgmdilbaaGreatDoorDa
/- Lists put together; masks compared. -/
set_option maxRecDepth 100000
namespace HM
open Go Go.RowKit Go.Proofs
section
variable (L : World → Prop)

theorem flat_le {α : Type} (l : List (List α)) (k : Nat) : (l.take k).flatten.length ≤ l.flatten.length := by
  have h := congrArg (fun x => x.flatten.length) (List.take_append_drop k l)
  simp only [List.flatten_append, List.length_append] at h
  omega

def sameMk (a b : List Int) : Bool := decide (a = b)

theorem c_ConcatCell (l : List (List Cell)) (h1 : l.length ≤ 1000000) (hl : l.flatten.length ≤ 1099511627776) : PCall Tryz.prog L 27 [.sl false (l.map fun x => .sl false (x.map Cell.av))] (.sl false (l.flatten.map Cell.av)) := by
  refine PCall.intro mixed [] (nt := 36) Tryz.func27 rfl rfl (by simp) ?_
  refine Wk ?_
  refine LoopK.run mixed [] (fun (k : Nat) => k ≤ l.length) (fun k => [(0, .sl false (l.map fun x => .sl false (x.map Cell.av))), (3, .int .i64 (l.take k).flatten.length), (9, .sl false (l.map fun x => .sl false (x.map Cell.av))), (10, .int .i64 l.length), (11, .int .i64 k)]) (fun k => St.none) (fun k => l.length - k) 0 (by simp) ?_ ?_
  · refine Fits.mk' rfl rfl rfl rfl ?_ ?_ ?_ ?_ ?_ <;> repeat' (first | exact trivial | refine And.intro ?_ ?_ | exact Sees.of_eq rfl | exact lt_b rfl | rfl | exact Sees.int (by simp))
  rintro k hk
  refine Wk ?_
  refine BrK.mk (fun hb => ?_) (fun hb => ?_) <;> (try rw [hb])
  · have hlt : k < l.length := by simpa using hb
    obtain ⟨x, hgx⟩ := getLt hlt
    have hmx := getMap (f := fun x : List Cell => AV.sl false (x.map Cell.av)) hgx
    have hfl : (l.take (k + 1)).flatten.length = (l.take k).flatten.length + x.length := by rw [take_succ hgx]; simp
    have hle := flat_le l (k + 1)
    repeat ((conv => whnf); first | refine sJ ?_ | refine And.intro (by first | exact inbMap hlt | kernel_rfl) ?_ | rw [hmx])
    try (conv => whnf)
    have hfk := flat_le l k
    rw [hfl] at hle
    rw [show ((List.map Cell.av x).length : Int) = x.length from by simp] 
    rw [w64 (by omega) (by omega)]
    rw [decide_eq_false (by omega)]
    refine Wk ?_
    refine ⟨k + 1, by omega, by omega, ?_⟩
    refine Fits.mk' rfl rfl rfl rfl ?_ ?_ ?_ ?_ ?_ <;> repeat' (first | exact trivial | refine And.intro ?_ ?_ | exact Sees.of_eq rfl | exact lt_b rfl | rfl | exact Sees.int (succI hlt (by omega)) | exact Sees.int (by rw [hfl]; simp))
  · have hk' : k = l.length := by simp at hb; omega
    subst hk'
    rw [List.take_length]
    refine Wk ?_
    refine CallK.inl rfl (ICall.intro mixed [] (nt := 27) Tryz.func48 rfl rfl (by simp) ?_)
    refine Wk ?_
    rw [show (List.length ([] : List AV) : Int) = 0 from rfl, show (0 : Int) - 0 = 0 from rfl]
    rw [w64 (x := 0) (by omega) (by omega), Int.sub_zero, w64 (by omega) (by omega)]
    refine BrK.mk (fun h0 => ?_) (fun h0 => ?_) <;> (try rw [h0])
    · repeat ((conv => whnf); first | refine sJ ?_ | refine And.intro (by first | exact (show (l.flatten.length : Int) * 40 ≤ _ by omega) | exact (by simpa using h0) | exact (by omega) | kernel_rfl) ?_ )
      try (conv => whnf)
      refine LoopK.run mixed [] (fun (k : Nat) => k ≤ l.length) (fun k => [(6, .own ((l.take k).flatten.map Cell.av) 0), (25, .sl false (l.map fun x => .sl false (x.map Cell.av))), (26, .int .i64 l.length), (27, .int .i64 k)]) (fun k => ⟨[], [((l.take k).flatten.length, 5)], 0, 0, fun k => if k = 0 then 32 else 0⟩) (fun k => l.length - k) 0 (by simp) ?_ ?_
      · refine Fits.mk' rfl rfl rfl rfl ?_ ?_ ?_ ?_ ?_ <;> repeat' (first | exact trivial | refine And.intro ?_ ?_ | exact Sees.of_eq rfl | exact lt_b rfl | rfl | exact Sees.int (by simp))
      rintro k hk
      refine Wk ?_
      refine BrK.mk (fun hb => ?_) (fun hb => ?_) <;> (try rw [hb])
      · have hlt : k < l.length := by simpa using hb
        obtain ⟨x, hgx⟩ := getLt hlt
        have hmx := getMap (f := fun x : List Cell => AV.sl false (x.map Cell.av)) hgx
        have hfl : (l.take (k + 1)).flatten.length = (l.take k).flatten.length + x.length := by rw [take_succ hgx]; simp
        have hle := flat_le l (k + 1)
        repeat ((conv => whnf); first | refine sJ ?_ | refine And.intro (by first | exact inbMap hlt | exact Els.map (f := Cell.av) (fun _ => ⟨rfl, rfl⟩) | exact (show _ * 40 ≤ _ by simp only [List.length_map]; omega) | exact (by simp only [List.length_map, maxLen]; omega) | exact (by rw [List.length_map]; rfl) | kernel_rfl) ?_ | rw [hmx])
        try (conv => whnf)
        refine ⟨k + 1, by omega, by omega, ?_⟩
        refine Fits.mk' rfl rfl rfl rfl ?_ ?_ ?_ ?_ ?_ <;> repeat' (first | exact trivial | refine And.intro ?_ ?_ | exact Sees.of_eq rfl | exact lt_b rfl | rfl | exact Sees.int (succI hlt (by omega)) | exact Sees.own (by rw [take_succ hgx]; simp) | (show (_, _) = (_, _); rw [hfl]; simp only [List.length_append, List.length_map]))
      · have hk' : k = l.length := by simp at hb; omega
        subst hk'
        refine Wk ?_
        exact resP.mk rfl (Sees.sl (by rw [List.take_length]))
    · refine Wk ?_
      refine LoopK.born 6 5 32 rfl ?_
      refine LoopK.run mixed [] (fun (k : Nat) => k ≤ l.length) (fun k => [(6, .own ((l.take k).flatten.map Cell.av) 0), (25, .sl false (l.map fun x => .sl false (x.map Cell.av))), (26, .int .i64 l.length), (27, .int .i64 k)]) (fun k => ⟨[], [((l.take k).flatten.length, 5)], 0, 0, fun k => if k = 0 then 32 else 0⟩) (fun k => l.length - k) 0 (by simp) ?_ ?_
      · refine Fits.mk' rfl rfl rfl rfl ?_ ?_ ?_ ?_ ?_ <;> repeat' (first | exact trivial | refine And.intro ?_ ?_ | exact Sees.of_eq rfl | exact lt_b rfl | rfl | exact Sees.int (by simp))
      rintro k hk
      refine Wk ?_
      refine BrK.mk (fun hb => ?_) (fun hb => ?_) <;> (try rw [hb])
      · have hlt : k < l.length := by simpa using hb
        obtain ⟨x, hgx⟩ := getLt hlt
        have hmx := getMap (f := fun x : List Cell => AV.sl false (x.map Cell.av)) hgx
        have hfl : (l.take (k + 1)).flatten.length = (l.take k).flatten.length + x.length := by rw [take_succ hgx]; simp
        have hle := flat_le l (k + 1)
        repeat ((conv => whnf); first | refine sJ ?_ | refine And.intro (by first | exact inbMap hlt | exact Els.map (f := Cell.av) (fun _ => ⟨rfl, rfl⟩) | exact (show _ * 40 ≤ _ by simp only [List.length_map]; omega) | exact (by simp only [List.length_map, maxLen]; omega) | exact (by rw [List.length_map]; rfl) | kernel_rfl) ?_ | rw [hmx])
        try (conv => whnf)
        refine ⟨k + 1, by omega, by omega, ?_⟩
        refine Fits.mk' rfl rfl rfl rfl ?_ ?_ ?_ ?_ ?_ <;> repeat' (first | exact trivial | refine And.intro ?_ ?_ | exact Sees.of_eq rfl | exact lt_b rfl | rfl | exact Sees.int (succI hlt (by omega)) | exact Sees.own (by rw [take_succ hgx]; simp) | (show (_, _) = (_, _); rw [hfl]; simp only [List.length_append, List.length_map]))
      · have hk' : k = l.length := by simp at hb; omega
        subst hk'
        refine Wk ?_
        exact resP.mk rfl (Sees.sl (by rw [List.take_length]))
end
end HM

/- Masks: what is free in both. -/
set_option maxRecDepth 100000
namespace HM
open Go Go.RowKit Go.Proofs
section
variable (L : World → Prop)

theorem c_EqualFree (a b : List Int) (ha : a.length ≤ 281474976710656) : PCall Tryz.prog L 11 [encIs a, encIs b] (.bool (sameMk a b)) := by
  refine PCall.intro mixed [] (nt := 26) Tryz.func11 rfl rfl (by simp) ?_
  refine Wk ?_
  refine BrK.mk (fun g1 => ?_) (fun g1 => ?_) <;> (try rw [g1])
  · refine Wk ?_
    exact resP.mk rfl (Sees.bool (by
      rw [eq_comm]; unfold sameMk
      exact decide_eq_false fun h => by subst h; simp at g1))
  have g1' : a.length = b.length := by simp at g1; omega
  refine Wk ?_
  refine LoopK.run mixed [] (fun (k : Nat) => k ≤ a.length ∧ a.take k = b.take k) (fun k => [(0, encIs a), (1, encIs b), (12, .int .i64 a.length), (13, .int .i64 k)]) (fun k => St.none) (fun k => a.length - k) 0 ⟨by simp, by simp⟩ ?_ ?_
  · refine Fits.mk' rfl rfl rfl rfl ?_ ?_ ?_ ?_ ?_ <;> repeat' (first | exact trivial | refine And.intro ?_ ?_ | exact Sees.of_eq rfl | exact lt_b rfl | rfl | exact Sees.int (by simp))
  rintro k ⟨hk, hinv⟩
  refine Wk ?_
  refine BrK.mk (fun hb => ?_) (fun hb => ?_) <;> (try rw [hb])
  · have hlt : k < a.length := by simpa using hb
    obtain ⟨x, hgx⟩ := getLt hlt
    have hmx := getMap (f := encI) hgx
    obtain ⟨y, hgy⟩ := getLt (l := b) (k := k) (by omega)
    have hmy := getMap (f := encI) hgy
    repeat ((conv => whnf); first | refine sJ ?_ | refine And.intro (by first | exact inbMap hlt | exact inbMap (by omega) | kernel_rfl) ?_ | rw [hmx] | rw [hmy])
    try (conv => whnf)
    refine BrK.mk (fun h2 => ?_) (fun h2 => ?_) <;> (try rw [h2])
    · refine Wk ?_
      exact resP.mk rfl (Sees.bool (by
        rw [eq_comm]; unfold sameMk
        exact decide_eq_false fun h => by subst h; rw [hgx] at hgy; injection hgy with hgy; subst hgy; simp at h2))
    · refine Wk ?_
      refine ⟨k + 1, ⟨by omega, ?_⟩, by omega, ?_⟩
      · rw [take_succ hgx, take_succ hgy, hinv]; simp at h2; rw [h2]
      · refine Fits.mk' rfl rfl rfl rfl ?_ ?_ ?_ ?_ ?_ <;> repeat' (first | exact trivial | refine And.intro ?_ ?_ | exact Sees.of_eq rfl | exact lt_b rfl | rfl | exact Sees.int (succI hlt ha))
  · have hk' : k = a.length := by simp at hb; omega
    subst hk'
    refine Wk ?_
    exact resP.mk rfl (Sees.bool (by
      rw [eq_comm]; unfold sameMk
      rw [List.take_length, g1', List.take_length] at hinv
      exact decide_eq_true hinv))

end
end HM

/- The masks of a schedule. -/
set_option maxRecDepth 100000
namespace HM
open Go Go.RowKit Go.Proofs
section
variable (L : World → Prop)

theorem c_masks (s : Sched) (hs : sizedB s = true) (hf : ∀ c ∈ s.cells, formedB s c = true) (hl : s.cells.length ≤ 512) : PCall Tryz.prog L 25 [s.av] (encIs (maskM s s.cells)) := by
  have h1 : 1 ≤ s.len ∧ s.len ≤ 512 ∧ 1 ≤ s.offs ∧ s.offs ≤ 16 := by simp [sizedB] at hs; omega
  obtain ⟨n, hn⟩ : ∃ n : Nat, s.len = n := ⟨s.len.toNat, by omega⟩
  refine PCall.intro mixed [] (nt := 42) Tryz.func25 rfl rfl (by simp) ?_
  repeat ((conv => whnf); first | refine sJ ?_ | refine And.intro (by first | exact (by omega) | exact ⟨_, rfl, by decide⟩ | exact (show (0 : Int) ≤ s.len by omega) | kernel_rfl) ?_ )
  try (conv => whnf)
  refine LoopK.run mixed [] (fun (k : Nat) => k ≤ n) (fun k => [(1, .ptr 0 0), (3, .bsl 1 0 n 1), (10, .bsl 1 0 n 1), (11, .int .i64 n), (12, .int .i64 k)]) (fun k => ⟨[.cells [.int .i64 s.len, .int .i64 s.offs, encCells s.cells] 30, .cells ((List.replicate k (fullI s) ++ List.replicate (n - k) 0).map encI) 3], [], 0, 0, fun _ => 0⟩) (fun k => n - k) 0 (by simp) ?_ ?_
  · refine Fits.mk' rfl rfl rfl rfl ?_ ?_ ?_ ?_ ?_ <;> repeat' (first | exact trivial | refine And.intro ?_ ?_ | exact Sees.of_eq rfl | exact lt_b rfl | rfl | exact Sees.of_eq (by rw [hn]; rfl) | exact Sees.int (by rw [hn]; simp) | exact rowI_oko _ _ _ _ | exact SeesL.of_eq (by rw [hn]; simp; exact Or.inr rfl))
  rintro k hk
  refine Wk ?_
  refine BrK.mk (fun hb => ?_) (fun hb => ?_) <;> (try rw [hb])
  · have hlt : k < n := by simpa using hb
    repeat ((conv => whnf); first | refine sJ ?_ | refine And.intro (by first | exact ⟨by omega, by omega⟩ | exact (show (0 : Int) ≤ s.offs by omega) | exact rowI_fit (by omega) (by simp; omega) _ (by kernel_rfl) _ rfl | kernel_rfl) ?_ )
    try (conv => whnf)
    refine ⟨k + 1, by omega, by omega, ?_⟩
    have e : IntKind.i64.wrap (IntKind.i64.wrap (1 * 2 ^ (min s.offs.toNat IntKind.i64.bits)) - 1) = fullI s := by
      have h2 := pow_le62 (n := s.offs.toNat) (by omega)
      have h3 := pow_pos' s.offs.toNat
      rw [shl1 (by omega) (by omega), w64 (by omega) (by omega)]; rfl
    refine Fits.mk' rfl rfl rfl rfl ?_ ?_ ?_ ?_ ?_ <;> repeat' (first | exact trivial | refine And.intro ?_ ?_ | exact Sees.of_eq rfl | exact lt_b rfl | rfl | exact Sees.int (succI hlt (by omega)) | exact rowI_oko _ _ _ _ | exact rowI_okk _ _ _ | exact SeesL.of_eq ((rowI_st _ _ _ _ (by kernel_rfl)).trans (by rw [e, Int.toNat_natCast, set_rep _ _ hlt])))
  · have hk' : k = n := by simp at hb; omega
    subst hk'
    refine Wk ?_
    refine LoopK.run mixed [] (fun (j : Nat) => j ≤ s.cells.length) (fun j => [(3, .bsl 1 0 k 1), (24, encCells s.cells), (25, .int .i64 s.cells.length), (26, .int .i64 j)]) (fun j => ⟨[.cells [.int .i64 s.len, .int .i64 s.offs, encCells s.cells] 30, .cells ((maskM s (s.cells.take j)).map encI) 3], [], 0, 0, fun _ => 0⟩) (fun j => s.cells.length - j) 0 (by simp) ?_ ?_
    · refine Fits.mk' rfl rfl rfl rfl ?_ ?_ ?_ ?_ ?_ <;> repeat' (first | exact trivial | refine And.intro ?_ ?_ | exact Sees.of_eq rfl | exact lt_b rfl | rfl | exact rowI_oko _ _ _ _ | exact Sees.int (by simp) | exact SeesL.of_eq (by simp [maskM, hn]))
    rintro j hj
    refine Wk ?_
    refine BrK.mk (fun hc => ?_) (fun hc => ?_) <;> (try rw [hc])
    · have hlt : j < s.cells.length := by simpa using hc
      obtain ⟨c, hgx⟩ := getLt hlt
      have hmx := getMap (f := Cell.av) hgx
      have hfc := hf c (List.mem_of_getElem? hgx)
      have hfc : 0 ≤ c.slot ∧ c.slot < s.len ∧ 0 ≤ c.off ∧ c.off < s.offs := by simp [formedB, placedB, insB] at hfc; omega
      have hml := maskM_len s (s.cells.take j)
      obtain ⟨m, hm⟩ := getLt (l := maskM s (s.cells.take j)) (k := c.slot.toNat) (by omega)
      repeat ((conv => whnf); first | refine sJ ?_ | refine And.intro (by first | exact inbMap hlt | exact ⟨by omega, by omega⟩ | exact (show (0 : Int) ≤ c.off by omega) | exact rowI_fit (by omega) (by rw [hml]; omega) _ (by kernel_rfl) _ rfl | kernel_rfl) ?_ | rw [hmx] | rw [rowI_ld hm _ (by kernel_rfl)])
      try (conv => whnf)
      refine ⟨j + 1, by omega, by omega, ?_⟩
      have hb0 := maskM_bd s (s.cells.take j) m (List.mem_of_getElem? hm)
      have h2 := pow_le62 (n := s.offs.toNat) (by omega)
      have e := andNot_clr (m := m) (k := c.off.toNat) hb0.1 (by unfold fullI at hb0; omega) (by omega)
      have e1 := shl1 (n := c.off) (by omega) (by omega)
      refine Fits.mk' rfl rfl rfl rfl ?_ ?_ ?_ ?_ ?_ <;> repeat' (first | exact trivial | refine And.intro ?_ ?_ | exact Sees.of_eq rfl | exact lt_b rfl | rfl | exact Sees.int (succI hlt (by omega)) | exact rowI_oko _ _ _ _ | exact SeesL.of_eq ((rowI_st _ _ _ _ (by kernel_rfl)).trans (by rw [e1, e, maskM_take hgx, maskStep, List.getD_eq_getElem?_getD, hm]; rfl)))
    · have hk' : j = s.cells.length := by simp at hc; omega
      subst hk'
      refine Wk ?_
      rw [List.take_length]
      exact ⟨_, rowI_fzb rfl (by rw [maskM_len, hn]; rfl), Sees.rfl' _⟩

def freeM (s : Sched) : List Int × Int := if formB s then (maskM s s.cells, 0) else ([], 1)
end
end HM

/- Free; the places. -/
set_option maxRecDepth 100000
namespace HM
open Go Go.RowKit Go.Proofs

theorem c_Free (s : Sched) : PCall Tryz.prog LW 9 [s.av] (.tup [encIs (freeM s).1, .int .i64 (freeM s).2]) := by
  refine PCall.intro mixed [] (nt := 9) Tryz.func9 rfl rfl (by simp) ?_
  refine Wk ?_
  first | refine CallK.data rfl (c_sform s) rfl ?_ | refine CallP.data rfl (c_sform s) rfl ?_
  refine Wk ?_
  refine BrK.mk (fun h1 => ?_) (fun h1 => ?_) <;> (try rw [h1])
  · refine Wk ?_
    exact resP.mk rfl (Sees.of_eq (by rw [freeM, if_neg (by simpa using h1)]; rfl))
  have h1 : formB s = true := by simpa using h1
  obtain ⟨h2, h3, h4⟩ := form_all h1
  refine Wk ?_
  first | refine CallK.data rfl (c_masks LW s h2 h4 h3) rfl ?_ | refine CallP.data rfl (c_masks LW s h2 h4 h3) rfl ?_
  refine Wk ?_
  exact resP.mk rfl (Sees.of_eq (by rw [freeM, if_pos h1]; rfl))
end HM
