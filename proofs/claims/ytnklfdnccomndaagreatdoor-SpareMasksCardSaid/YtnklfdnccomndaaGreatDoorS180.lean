/- During: the masks while a schedule is changed: the program. -/
import Derived.Test.YtnklfdnccomndaaGreatDoorS12
import Derived.Test.YtnklfdnccomndaaGreatDoorS94
import Derived.Test.YtnklfdnccomndaaGreatDoorFh
import Derived.Test.YtnklfdnccomndaaGreatDoorDb
import Derived.Test.YtnklfdnccomndaaGreatDoorS103
import Derived.Test.YtnklfdnccomndaaGreatDoorS16
/- During: the masks while a schedule is changed: the program. -/
set_option maxRecDepth 100000
namespace HM
open Go Go.RowKit Go.Proofs
theorem rowI_flat : ∀ l : List Int, flatE (l.map encI) = l.map encI
  | [] => rfl
  | x :: l => by
    have := rowI_flat l
    unfold flatE at this ⊢
    rw [List.map_cons, List.flatMap_cons, this]; rfl
theorem rowI_scal (l : List Int) : scalars (flatE (l.map encI)) = true := by
  rw [rowI_flat]
  induction l with
  | nil => rfl
  | cons x l ih => exact ih
theorem rowI_els (l : List Int) : Els 1 (l.map encI) := Els.map (f := encI) (fun x => ⟨rfl, rfl⟩)
theorem fzDur {S : St} {v r : AV} (h : fzb S v = some r) : fzb S (.tup [v, .int .i64 0]) = some (.tup [r, .int .i64 0]) := by
  simp [fzb, fzbs, h]
section
variable (L : World → Prop)
theorem c_masksF (s : Sched) (hs : sizedB s = true) (hf : ∀ c ∈ s.cells, formedB s c = true) (hl : s.cells.length ≤ 512) : FCall Tryz.prog L 15 [s.av] ((maskM s s.cells).map encI) 1 3 := by
  have h1 : 1 ≤ s.len ∧ s.len ≤ 512 ∧ 1 ≤ s.offs ∧ s.offs ≤ 16 := by simp [sizedB] at hs; omega
  obtain ⟨n, hn⟩ : ∃ n : Nat, s.len = n := ⟨s.len.toNat, by omega⟩
  refine FCall.of_box (rowI_scal _) (fun x hx => by obtain ⟨y, _, rfl⟩ := List.mem_map.1 hx; rfl) (ICall.intro mixed [] (nt := 42) Tryz.func15 rfl rfl (by simp) ?_)
  repeat ((conv => whnf); first | refine sJ ?_ | refine And.intro (by first | exact (by omega) | exact ⟨_, rfl, by decide⟩ | exact (show (0 : Int) ≤ s.len by omega) | kernel_rfl) ?_ )
  try (conv => whnf)
  refine LoopK.run mixed [] (fun (k : Nat) => k ≤ n) (fun k => [(1, .ptr 0 0), (3, .bsl 1 0 n 1), (10, .bsl 1 0 n 1), (11, .int .i64 n), (12, .int .i64 k)]) (fun k => ⟨[.cells [.int .i64 s.len, .int .i64 s.offs, encCells s.cells] 24, .cells ((List.replicate k (fullI s) ++ List.replicate (n - k) 0).map encI) 3], [], 0, 0, fun _ => 0⟩) (fun k => n - k) 0 (by simp) ?_ ?_
  · refine Fits.mk' rfl rfl rfl rfl ?_ ?_ ?_ ?_ ?_ <;> repeat' (first | exact trivial | refine And.intro ?_ ?_ | exact Sees.of_eq rfl | exact lt_b rfl | rfl | exact Sees.of_eq (by rw [hn]; rfl) | exact Sees.int (by rw [hn]; simp) | exact rowI_oko _ _ _ _ | exact SeesL.of_eq (by rw [hn]; simp; exact Or.inr rfl))
  rintro k hk
  refine Wk ?_
  refine BrK.mk (fun hb => ?_) (fun hb => ?_) <;> (try rw [hb])
  · have hlt : k < n := by simpa using hb
    repeat ((conv => whnf); first | refine sJ ?_ | refine And.intro (by first | exact ⟨by omega, by omega⟩ | exact (show (0 : Int) ≤ s.offs by omega) | exact rowI_fit (by omega) (by simp; omega) _ (by kernel_rfl) _ rfl | kernel_rfl) ?_ )
    try (conv => whnf)
    refine ⟨k + 1, by omega, by omega, ?_⟩
    have e : IntKind.i64.wrap (IntKind.i64.wrap (1 * 2 ^ (min s.offs.toNat IntKind.i64.bits)) - 1) = fullI s := by
      have h2 := pow_le62 (n := s.offs.toNat) (by omega)
      have h3 := pow_pos' s.offs.toNat
      rw [shl1 (by omega) (by omega), w64 (by omega) (by omega)]; rfl
    refine Fits.mk' rfl rfl rfl rfl ?_ ?_ ?_ ?_ ?_ <;> repeat' (first | exact trivial | refine And.intro ?_ ?_ | exact Sees.of_eq rfl | exact lt_b rfl | rfl | exact Sees.int (succI hlt (by omega)) | exact rowI_oko _ _ _ _ | exact rowI_okk _ _ _ | exact SeesL.of_eq ((rowI_st _ _ _ _ (by kernel_rfl)).trans (by rw [e, Int.toNat_natCast, set_rep _ _ hlt])))
  · have hk' : k = n := by simp at hb; omega
    subst hk'
    refine Wk ?_
    refine LoopK.run mixed [] (fun (j : Nat) => j ≤ s.cells.length) (fun j => [(3, .bsl 1 0 k 1), (24, encCells s.cells), (25, .int .i64 s.cells.length), (26, .int .i64 j)]) (fun j => ⟨[.cells [.int .i64 s.len, .int .i64 s.offs, encCells s.cells] 24, .cells ((maskM s (s.cells.take j)).map encI) 3], [], 0, 0, fun _ => 0⟩) (fun j => s.cells.length - j) 0 (by simp) ?_ ?_
    · refine Fits.mk' rfl rfl rfl rfl ?_ ?_ ?_ ?_ ?_ <;> repeat' (first | exact trivial | refine And.intro ?_ ?_ | exact Sees.of_eq rfl | exact lt_b rfl | rfl | exact rowI_oko _ _ _ _ | exact Sees.int (by simp) | exact SeesL.of_eq (by simp [maskM, hn]))
    rintro j hj
    refine Wk ?_
    refine BrK.mk (fun hc => ?_) (fun hc => ?_) <;> (try rw [hc])
    · have hlt : j < s.cells.length := by simpa using hc
      obtain ⟨c, hgx⟩ := getLt hlt
      have hmx := getMap (f := Cell.av) hgx
      have hfc := hf c (List.mem_of_getElem? hgx)
      have hfc : 0 ≤ c.slot ∧ c.slot < s.len ∧ 0 ≤ c.off ∧ c.off < s.offs := by simp [formedB, placedB, insB] at hfc; omega
      have hml := maskM_len s (s.cells.take j)
      obtain ⟨m, hm⟩ := getLt (l := maskM s (s.cells.take j)) (k := c.slot.toNat) (by omega)
      repeat ((conv => whnf); first | refine sJ ?_ | refine And.intro (by first | exact inbMap hlt | exact ⟨by omega, by omega⟩ | exact (show (0 : Int) ≤ c.off by omega) | exact rowI_fit (by omega) (by rw [hml]; omega) _ (by kernel_rfl) _ rfl | kernel_rfl) ?_ | rw [hmx] | rw [rowI_ld hm _ (by kernel_rfl)])
      try (conv => whnf)
      refine ⟨j + 1, by omega, by omega, ?_⟩
      have hb0 := maskM_bd s (s.cells.take j) m (List.mem_of_getElem? hm)
      have h2 := pow_le62 (n := s.offs.toNat) (by omega)
      have e := andNot_clr (m := m) (k := c.off.toNat) hb0.1 (by unfold fullI at hb0; omega) (by omega)
      have e1 := shl1 (n := c.off) (by omega) (by omega)
      refine Fits.mk' rfl rfl rfl rfl ?_ ?_ ?_ ?_ ?_ <;> repeat' (first | exact trivial | refine And.intro ?_ ?_ | exact Sees.of_eq rfl | exact lt_b rfl | rfl | exact Sees.int (succI hlt (by omega)) | exact rowI_oko _ _ _ _ | exact SeesL.of_eq ((rowI_st _ _ _ _ (by kernel_rfl)).trans (by rw [e1, e, maskM_take hgx, maskStep, List.getD_eq_getElem?_getD, hm]; rfl)))
    · have hk' : j = s.cells.length := by simp at hc; omega
      subst hk'
      refine Wk ?_
      rw [List.take_length]
      exact ⟨1, by rw [List.length_map, maskM_len, hn]; rfl, by rw [rowI_flat]; rfl⟩

end
set_option maxHeartbeats 4000000 in
theorem c_During (s : Sched) (cs : List Chg) (hcs : cs.length ≤ 281474976710656) : PCall Tryz.prog LW 7 [s.av, encChgs cs] (.tup [encIs (duringM s cs).1, .int .i64 (duringM s cs).2]) := by
  refine PCall.intro mixed [] (nt := 42) Tryz.func7 rfl rfl (by simp) ?_
  refine Wk ?_
  first | refine CallK.data rfl (c_Change [] s cs [] 0 (by simp) hcs (fun _ h => by cases h) (by simp)) rfl ?_ | refine CallP.data rfl (c_Change [] s cs [] 0 (by simp) hcs (fun _ h => by cases h) (by simp)) rfl ?_
  rw [during_err]
  by_cases h0 : (duringM s cs).2 = 0
  rotate_left
  · have g : ((duringM s cs).2 != 0) = true := by simpa using h0
    have e1 : (duringM s cs).1 = [] := by
      unfold duringM at h0 ⊢
      split
      · rfl
      split
      · rfl
      · rename_i h1 h2; rw [if_neg h1, if_neg h2] at h0; exact absurd rfl h0
    repeat ((conv => whnf); first | refine sJ ?_ | refine And.intro (by first | exact trivial | kernel_rfl) ?_ | rw [g])
    try (conv => whnf)
    exact resP.mk rfl (Sees.of_eq (by rw [e1]; rfl))
  obtain ⟨hf, hm, hall⟩ := during_ok h0
  obtain ⟨hs1, hs2, hs3⟩ := form_all hf
  have h1 := sized_bd hs1
  have g : ((duringM s cs).2 != 0) = false := by simpa using h0
  have hml := maskM_len s s.cells
  repeat ((conv => whnf); first | refine sJ ?_ | refine And.intro (by first | exact trivial | kernel_rfl) ?_ | rw [g])
  try (conv => whnf)
  refine CallK.fresh rfl (c_masksF LW s hs1 hs3 hs2) rfl (rowI_els _) (rowI_scal _) (fun h => absurd (congrArg List.length h) (by simp [hml]; omega)) (fun d => ?_)
  unfold freshO
  rw [rowI_flat, Nat.mul_one]
  obtain ⟨n, hn⟩ : ∃ n, n = s.len.toNat := ⟨_, rfl⟩
  rw [← hn] at hml
  obtain ⟨F, hF⟩ : ∃ F : Nat → List Int, F = fun k => ((cs.map (·.cell)).take k).foldl maskStep (maskM s s.cells) := ⟨_, rfl⟩
  have hF0 : F 0 = maskM s s.cells := by rw [hF]; rfl
  have hFl : ∀ k, (F k).length = n := fun k => by rw [hF]; exact (fold_mlen _ _).trans hml
  have hFs : ∀ k, sizeF (F k) := fun k => by
    rw [hF]
    refine (fold_taken (fun c hc => ?_) (mask_size hf)).1
    obtain ⟨x, hx, rfl⟩ := List.mem_map.1 (List.mem_of_mem_take hc)
    have := hall x hx
    simp [formedB, placedB, insB] at this
    omega
  refine Wk ?_
  refine LoopK.run mixed [] (fun (k : Nat) => k ≤ cs.length) (fun k => [(2, .ptr 0 0), (8, .vsl 2 0 n 1), (22, encChgs cs), (23, .int .i64 cs.length), (24, .int .i64 k)]) (fun k => ⟨[.cells [.int .i64 s.len, .int .i64 s.offs, encCells s.cells] 24, .dead, .cells ((F k).map encI ++ List.replicate d .undef) 3], [], 0, 0, fun _ => 0⟩) (fun k => cs.length - k) 0 (by simp) ?_ ?_
  · refine Fits.mk' rfl rfl rfl rfl ?_ ?_ ?_ ?_ ?_ <;> repeat' (first | exact trivial | refine And.intro ?_ ?_ | exact Sees.of_eq rfl | exact lt_b rfl | rfl | exact SeesL.rfl' _ | exact rowX_okk _ _ _ _ | exact Sees.int (by simp) | exact Sees.of_eq (show AV.vsl 2 0 ((maskM s s.cells).map encI).length 1 = _ by rw [List.length_map, hml]) | exact SeesL.of_eq (by rw [hF0]))
  rintro k hk
  have hFlk := hFl k
  refine Wk ?_
  refine BrK.mk (fun hb => ?_) (fun hb => ?_) <;> (try rw [hb])
  · have hlt : k < cs.length := by simpa using hb
    obtain ⟨c, hgc⟩ := getLt hlt
    have hmc := getMap (f := Chg.av) hgc
    have hgx : (cs.map (·.cell))[k]? = some c.cell := by rw [List.getElem?_map, hgc]; rfl
    have hfc := hall c (List.mem_of_getElem? hgc)
    have hfc : 0 ≤ c.cell.slot ∧ c.cell.slot < s.len ∧ 0 ≤ c.cell.off ∧ c.cell.off < s.offs := by simp [formedB, placedB, insB] at hfc; omega
    obtain ⟨m, hm'⟩ := getLt (l := F k) (k := c.cell.slot.toNat) (by omega)
    repeat ((conv => whnf); first | refine sJ ?_ | refine And.intro (by first | exact inbMap hlt | exact ⟨by omega, by omega⟩ | exact (show (0 : Int) ≤ c.cell.off by omega) | exact rowX_fit (by omega) (by omega) _ (by kernel_rfl) _ rfl | kernel_rfl) ?_ | rw [hmc] | rw [rowX_ld hm' _ (by kernel_rfl)])
    try (conv => whnf)
    refine ⟨k + 1, by omega, by omega, ?_⟩
    have hb0 := hFs k m (List.mem_of_getElem? hm')
    have e := andNot_clr (m := m) (k := c.cell.off.toNat) hb0.1 (by omega) (by omega)
    have e1 := shl1 (n := c.cell.off) (by omega) (by omega)
    have hst : F (k + 1) = maskStep (F k) c.cell := by rw [hF]; exact fold_mtake hgx _
    refine Fits.mk' rfl rfl rfl rfl ?_ ?_ ?_ ?_ ?_ <;> repeat' (first | exact trivial | refine And.intro ?_ ?_ | exact Sees.of_eq rfl | exact lt_b rfl | rfl | exact SeesL.rfl' _ | exact rowX_okk _ _ _ _ | exact Sees.int (succI hlt (by omega)) | exact SeesL.of_eq ((rowX_st _ (by omega) _ (by kernel_rfl)).trans (by rw [e1, e, hst, maskStep, List.getD_eq_getElem?_getD, hm']; rfl)))
  · have hk' : k = cs.length := by simp at hb; omega
    subst hk'
    have hend : F cs.length = (duringM s cs).1 := by rw [hF, ← hm]; simp only; rw [List.take_of_length_le (by simp)]
    refine Wk ?_
    exact resP.mk (fzDur (rowX_fzb rfl (hFl _))) (Sees.of_eq (by rw [hend, h0]))
end HM

/- Masks in the reference. -/
set_option maxRecDepth 100000
namespace HM
open Go Go.RowKit Go.Proofs
theorem full_size {n : Nat} {o : Int} (h : o ≤ 16) : sizeF (List.replicate n ((2 : Int) ^ o.toNat - 1)) := fun x hx => by
  rw [List.eq_of_mem_replicate hx]
  have h1 : (2 : Nat) ^ o.toNat ≤ 2 ^ 16 := Nat.pow_le_pow_right (by decide) (by omega)
  have h2 : (0 : Nat) < 2 ^ o.toNat := Nat.pow_pos (by decide)
  have h3 : ((2 ^ o.toNat : Nat) : Int) = (2 : Int) ^ o.toNat := by simp
  rw [← h3]
  omega
section
variable (L : World → Prop)
set_option maxHeartbeats 2000000 in
theorem c_without44 (f : List Int) (l : List Cell) (h0 : f ≠ []) (hf : f.length ≤ 512) (hs : sizeF f) (hl : l.length ≤ 281474976710656) (hc : ∀ c ∈ l, 0 ≤ c.slot ∧ c.slot < f.length ∧ 0 ≤ c.off ∧ c.off < 16) : PCall Tryz.prog L 17 [encIs f, encCells l] (encIs (l.foldl maskStep f)) := by
  have hpos := List.length_pos_iff.2 h0
  refine PCall.intro mixed [2] (nt := 39) Tryz.func17 rfl rfl (by simp) ?_
  refine Wk ?_
  refine SeqK.semk mixed [] (SemK.regionT rfl ?_)
  refine Wk ?_
  refine And.intro ⟨rfl, rowI_els _, by simpa using hpos, (show _ * 8 ≤ _ by rw [List.length_map]; omega), by rw [List.length_map]; simp only [maxLen]; omega⟩ fun d => ?_
  rw [rowI_flat]
  obtain ⟨n, hn⟩ : ∃ n, n = f.length := ⟨_, rfl⟩
  obtain ⟨F, hF⟩ : ∃ F : Nat → List Int, F = fun k => (l.take k).foldl maskStep f := ⟨_, rfl⟩
  have hF0 : F 0 = f := by rw [hF]; rfl
  have hFl : ∀ k, (F k).length = n := fun k => by rw [hF, hn]; exact fold_mlen _ _
  have hFs : ∀ k, sizeF (F k) := fun k => by
    rw [hF]
    exact (fold_taken (fun c hx => by have := hc c (List.mem_of_mem_take hx); omega) hs).1
  refine Wk ?_
  refine LoopK.run mixed [] (fun (k : Nat) => k ≤ l.length) (fun k => [(1, encCells l), (5, .vsl 0 0 n 1), (6, .int .i64 k)]) (fun k => ⟨[.cells ((F k).map encI ++ List.replicate (d * (0 + 1)) .undef) 3], [], 0, 0, fun _ => 0⟩) (fun k => l.length - k) 0 (by simp) ?_ ?_
  · refine Fits.mk' rfl rfl rfl rfl ?_ ?_ ?_ ?_ ?_ <;> repeat' (first | exact trivial | refine And.intro ?_ ?_ | exact Sees.of_eq rfl | exact lt_b rfl | rfl | exact rowX_okk _ _ _ _ | exact Sees.of_eq (show AV.vsl 0 0 (f.map encI).length 1 = _ by rw [List.length_map, hn]) | exact SeesL.of_eq (by rw [hF0]))
  rintro k hk
  have hFlk := hFl k
  refine Wk ?_
  refine BrK.mk (fun hb => ?_) (fun hb => ?_) <;> (try rw [hb])
  · have hlt : k < l.length := by simpa using hb
    obtain ⟨c, hgc⟩ := getLt hlt
    have hmc := getMap (f := Cell.av) hgc
    have hfc := hc c (List.mem_of_getElem? hgc)
    obtain ⟨m, hm'⟩ := getLt (l := F k) (k := c.slot.toNat) (by omega)
    repeat ((conv => whnf); first | refine sJ ?_ | refine And.intro (by first | exact inbMap hlt | exact ⟨by omega, by omega⟩ | exact (show (0 : Int) ≤ c.off by omega) | exact rowX_fit (by omega) (by omega) _ (by kernel_rfl) _ rfl | kernel_rfl) ?_ | rw [hmc] | rw [rowX_ld hm' _ (by kernel_rfl)])
    try (conv => whnf)
    refine ⟨k + 1, by omega, by omega, ?_⟩
    have hb0 := hFs k m (List.mem_of_getElem? hm')
    have e := andNot_clr (m := m) (k := c.off.toNat) hb0.1 (by omega) (by omega)
    have e1 := shl1 (n := c.off) (by omega) (by omega)
    have hst : F (k + 1) = maskStep (F k) c := by rw [hF]; exact fold_mtake hgc _
    refine Fits.mk' rfl rfl rfl rfl ?_ ?_ ?_ ?_ ?_ <;> repeat' (first | exact trivial | refine And.intro ?_ ?_ | exact Sees.of_eq rfl | exact lt_b rfl | rfl | exact rowX_okk _ _ _ _ | exact Sees.int (succI hlt (by omega)) | exact SeesL.of_eq ((rowX_st _ (by omega) _ (by kernel_rfl)).trans (by rw [e1, e, hst, maskStep, List.getD_eq_getElem?_getD, hm']; rfl)))
  · have hk' : k = l.length := by simp at hb; omega
    subst hk'
    have hend : F l.length = l.foldl maskStep f := by rw [hF]; simp only; rw [List.take_length]
    refine Wk ?_
    exact resP.mk (rowX_fzb rfl (hFl _)) (Sees.of_eq (by rw [hend]))
theorem c_all44 (len offs : Int) (h1 : 1 ≤ len) (h2 : len ≤ 512) (h3 : 1 ≤ offs) (h4 : offs ≤ 16) : PCall Tryz.prog L 18 [.int .i64 len, .int .i64 offs] (encIs (List.replicate len.toNat (2 ^ offs.toNat - 1))) := by
  obtain ⟨n, hn⟩ : ∃ n : Nat, len = n := ⟨len.toNat, by omega⟩
  subst hn
  have e : IntKind.i64.wrap (IntKind.i64.wrap (1 * 2 ^ (min offs.toNat IntKind.i64.bits)) - 1) = 2 ^ offs.toNat - 1 := by
    have h2 := pow_le62 (n := offs.toNat) (by omega)
    have h3 := pow_pos' offs.toNat
    rw [shl1 (by omega) (by omega), w64 (by omega) (by omega)]
  refine PCall.intro mixed [] (nt := 20) Tryz.func18 rfl rfl (by simp) ?_
  refine Wk ?_
  refine LoopK.run mixed [] (fun (k : Nat) => k ≤ n) (fun k => [(0, .int .i64 n), (1, .int .i64 offs), (5, .own ((List.replicate k (2 ^ offs.toNat - 1)).map encI) 0), (6, .int .i64 k)]) (fun k => ⟨[], [(k, 1)], 0, 0, fun _ => 3⟩) (fun k => n - k) 0 (by simp) ?_ ?_
  · refine Fits.mk' rfl rfl rfl rfl ?_ ?_ ?_ ?_ ?_ <;> repeat' (first | exact trivial | refine And.intro ?_ ?_ | exact Sees.of_eq rfl | exact lt_b rfl | rfl | exact Sees.own rfl)
  rintro k hk
  refine Wk ?_
  refine BrK.mk (fun hb => ?_) (fun hb => ?_) <;> (try rw [hb])
  · have hlt : k < n := by simpa using hb
    repeat ((conv => whnf); first | refine sJ ?_ | refine And.intro (by first | exact (show (0 : Int) ≤ offs by omega) | exact rowI_els _ | exact (show _ * 8 ≤ _ by simp only [List.length_map, List.length_replicate, List.length_cons, List.length_nil]; omega) | exact (by simp only [List.length_map, List.length_replicate, List.length_cons, List.length_nil, maxLen]; omega) | exact (by simp only [List.length_map, List.length_replicate]; rfl) | kernel_rfl) ?_ )
    try (conv => whnf)
    refine ⟨k + 1, by omega, by omega, ?_⟩
    refine Fits.mk' rfl rfl rfl rfl ?_ ?_ ?_ ?_ ?_ <;> repeat' (first | exact trivial | refine And.intro ?_ ?_ | exact Sees.of_eq rfl | exact lt_b rfl | rfl | exact Sees.int (succI hlt (by omega)) | exact Sees.own (by rw [List.replicate_succ', List.map_append, e]; rfl) | (show (_, _) = (_, _); simp))
  · have hk' : k = n := by simp at hb; omega
    subst hk'
    refine Wk ?_
    exact resP.mk rfl (Sees.of_eq rfl)
set_option maxHeartbeats 1000000 in
theorem c_Free44 (s : Sched) : PCall Tryz.prog L 6 [s.av] (.tup [encIs (freeM s).1, .int .i64 (freeM s).2]) := by
  refine PCall.intro mixed [] (nt := 15) Tryz.func6 rfl rfl (by simp) ?_
  refine Wk ?_
  first | refine CallK.data rfl (c_Formed L s) rfl ?_ | refine CallP.data rfl (c_Formed L s) rfl ?_
  refine Wk ?_
  refine BrK.mk (fun h0 => ?_) (fun h0 => ?_) <;> (try rw [h0])
  · have h0' : formB s = false := by simpa using h0
    refine Wk ?_
    exact resP.mk rfl (Sees.of_eq (by rw [freeM, if_neg (by simp [h0'])]; rfl))
  have hf : formB s = true := by simpa using h0
  obtain ⟨hs1, hs2, hs3⟩ := form_all hf
  have h1 := sized_bd hs1
  refine Wk ?_
  first | refine CallK.data rfl (c_all44 L s.len s.offs (by omega) (by omega) (by omega) (by omega)) rfl ?_ | refine CallP.data rfl (c_all44 L s.len s.offs (by omega) (by omega) (by omega) (by omega)) rfl ?_
  refine Wk ?_
  have hc : ∀ c ∈ s.cells, 0 ≤ c.slot ∧ c.slot < (List.replicate s.len.toNat ((2 : Int) ^ s.offs.toNat - 1)).length ∧ 0 ≤ c.off ∧ c.off < 16 := fun c hc => by
    have := hs3 c hc
    simp [formedB, placedB, insB] at this
    rw [List.length_replicate]
    omega
  have hsz : sizeF (List.replicate s.len.toNat ((2 : Int) ^ s.offs.toNat - 1)) := full_size h1.2.2.2
  first | refine CallK.data rfl (c_without44 L (List.replicate s.len.toNat (2 ^ s.offs.toNat - 1)) s.cells (fun h => absurd (congrArg List.length h) (by simp; omega)) (by simp; omega) hsz (by omega) hc) rfl ?_ | refine CallP.data rfl (c_without44 L (List.replicate s.len.toNat (2 ^ s.offs.toNat - 1)) s.cells (fun h => absurd (congrArg List.length h) (by simp; omega)) (by simp; omega) hsz (by omega) hc) rfl ?_
  refine Wk ?_
  exact resP.mk rfl (Sees.of_eq (by rw [freeM, if_pos hf]; rfl))
end
set_option maxHeartbeats 1000000 in
theorem c_During44 (s : Sched) (cs : List Chg) (hcs : cs.length ≤ 281474976710656) : PCall Tryz.prog LW 8 [s.av, encChgs cs] (.tup [encIs (duringM s cs).1, .int .i64 (duringM s cs).2]) := by
  refine PCall.intro mixed [] (nt := 46) Tryz.func8 rfl rfl (by simp) ?_
  refine Wk ?_
  first | refine CallK.data rfl (c_Free44 LW s) rfl ?_ | refine CallP.data rfl (c_Free44 LW s) rfl ?_
  by_cases hf : formB s = false
  · have e1 : freeM s = ([], 1) := by rw [freeM, if_neg (by simp [hf])]
    rw [e1]
    refine Wk ?_
    exact resP.mk rfl (Sees.of_eq (by rw [duringM, if_pos hf]; rfl))
  have e1 : freeM s = (maskM s s.cells, 0) := by rw [freeM, if_pos (by simpa using hf)]
  rw [e1]
  have hft : formB s = true := by simpa using hf
  obtain ⟨hs1, hs2, hs3⟩ := form_all hft
  have h1 := sized_bd hs1
  refine Wk ?_
  first | refine CallK.data rfl (c_Apply36 LW s cs 0) rfl ?_ | refine CallP.data rfl (c_Apply36 LW s cs 0) rfl ?_
  by_cases ha : (applyM s cs 0).2 = 0
  rotate_left
  · have g : ((applyM s cs 0).2 != 0) = true := by simpa using ha
    repeat ((conv => whnf); first | refine sJ ?_ | refine And.intro (by first | exact trivial | kernel_rfl) ?_ | rw [g])
    try (conv => whnf)
    exact resP.mk rfl (Sees.of_eq (by rw [duringM, if_neg hf, if_pos ha]; rfl))
  have g : ((applyM s cs 0).2 != 0) = false := by simpa using ha
  have hd : duringM s cs = ((addsC cs).foldl maskStep (maskM s s.cells), 0) := by rw [duringM, if_neg hf, if_neg (by simp [ha])]
  obtain ⟨_, _, hall⟩ := during_ok (s := s) (cs := cs) (by rw [hd])
  have hml := maskM_len s s.cells
  obtain ⟨F, hF⟩ : ∃ F : Nat → List Int, F = fun k => (addsC (cs.take k)).foldl maskStep (maskM s s.cells) := ⟨_, rfl⟩
  have hF0 : F 0 = maskM s s.cells := by rw [hF]; rfl
  have hFl : ∀ k, (F k).length = s.len.toNat := fun k => by rw [hF]; exact (fold_mlen _ _).trans hml
  have hoff : ∀ k, ∀ c ∈ addsC (cs.take k), 0 ≤ c.slot ∧ c.slot < s.len ∧ 0 ≤ c.off ∧ c.off < s.offs := fun k c hc => by
    obtain ⟨x, hx, rfl⟩ := List.mem_map.1 hc
    have := hall x (List.mem_of_mem_take (List.mem_filter.1 hx).1)
    simp [formedB, placedB, insB] at this
    omega
  have hFs : ∀ k, sizeF (F k) := fun k => by
    rw [hF]
    exact (fold_taken (fun c hc => by have := hoff k c hc; omega) (mask_size hft)).1
  repeat ((conv => whnf); first | refine sJ ?_ | refine And.intro (by first | exact trivial | kernel_rfl) ?_ | rw [g])
  try (conv => whnf)
  refine LoopK.run mixed [] (fun (k : Nat) => k ≤ cs.length) (fun k => [(1, encChgs cs), (6, encIs (F k)), (8, .int .i64 k)]) (fun k => St.none) (fun k => cs.length - k) 0 (by simp) ?_ ?_
  · refine Fits.mk' rfl rfl rfl rfl ?_ ?_ ?_ ?_ ?_ <;> repeat' (first | exact trivial | refine And.intro ?_ ?_ | exact Sees.of_eq rfl | exact lt_b rfl | rfl | exact Sees.of_eq (show encIs (maskM s s.cells) = _ by rw [hF0]))
  rintro k hk
  have hFlk := hFl k
  refine Wk ?_
  refine BrK.mk (fun hb => ?_) (fun hb => ?_) <;> (try rw [hb])
  · have hlt : k < cs.length := by simpa using hb
    obtain ⟨c, hgc⟩ := getLt hlt
    have hmc := getMap (f := Chg.av) hgc
    have hst := addsC_take hgc
    repeat ((conv => whnf); first | refine sJ ?_ | refine And.intro (by first | exact inbMap hlt | kernel_rfl) ?_ | rw [hmc])
    try (conv => whnf)
    cases hadd : c.add with
    | true =>
      rw [hadd, if_pos rfl] at hst
      have hst2 : F (k + 1) = [c.cell].foldl maskStep (F k) := by rw [hF]; simp only; rw [hst, List.foldl_append]
      repeat ((conv => whnf); first | refine sJ ?_ | refine And.intro (by first | exact inbMap hlt | kernel_rfl) ?_ | rw [hmc])
      try (conv => whnf)
      have hcc : ∀ x ∈ [c.cell], 0 ≤ x.slot ∧ x.slot < (F k).length ∧ 0 ≤ x.off ∧ x.off < 16 := fun x hx => by
        have := hoff (k + 1) x (by rw [hst]; exact List.mem_append_right _ hx)
        omega
      first | refine CallK.data rfl (c_without44 LW (F k) [c.cell] (fun h => absurd (congrArg List.length h) (by simp [hFlk]; omega)) (by omega) (hFs k) (by simp) hcc) rfl ?_ | refine CallP.data rfl (c_without44 LW (F k) [c.cell] (fun h => absurd (congrArg List.length h) (by simp [hFlk]; omega)) (by omega) (hFs k) (by simp) hcc) rfl ?_
      refine Wk ?_
      refine ⟨k + 1, by omega, by omega, ?_⟩
      refine Fits.mk' rfl rfl rfl rfl ?_ ?_ ?_ ?_ ?_ <;> repeat' (first | exact trivial | refine And.intro ?_ ?_ | exact Sees.of_eq rfl | exact lt_b rfl | rfl | exact Sees.int (succI hlt (by omega)) | exact Sees.of_eq (show encIs ([c.cell].foldl maskStep (F k)) = _ by rw [hst2]))
    | false =>
      rw [hadd, if_neg (by decide), List.append_nil] at hst
      have hst2 : F (k + 1) = F k := by rw [hF]; simp only; rw [hst]
      refine Wk ?_
      refine ⟨k + 1, by omega, by omega, ?_⟩
      refine Fits.mk' rfl rfl rfl rfl ?_ ?_ ?_ ?_ ?_ <;> repeat' (first | exact trivial | refine And.intro ?_ ?_ | exact Sees.of_eq rfl | exact lt_b rfl | rfl | exact Sees.int (succI hlt (by omega)) | exact Sees.of_eq (show encIs (F k) = _ by rw [hst2]))
  · have hk' : k = cs.length := by simp at hb; omega
    subst hk'
    refine Wk ?_
    exact resP.mk rfl (Sees.of_eq (by rw [hd, hF]; simp only; rw [List.take_length]; rfl))
end HM

/- The law on masks. -/
set_option maxRecDepth 100000
namespace HM
open Go Go.RowKit Go.Proofs
set_option maxHeartbeats 1000000 in
theorem c_SpareMasks (s : Sched) (cs : List Chg) : PCall Tryz.prog LW 3 [s.av, encChgs cs] (.bool true) := by
  refine PCall.intro mixed [] (nt := 64) Tryz.func3 rfl rfl (by simp) ?_
  refine Wk ?_
  first | refine CallK.data rfl (c_awake) rfl ?_ | refine CallP.data rfl (c_awake) rfl ?_
  by_cases h1 : 40 < s.cells.length
  · have g1 : decide ((40 : Int) < ((s.cells.map Cell.av).length : Int)) = true := by simp; omega
    repeat ((conv => whnf); first | refine sJ ?_ | refine And.intro (by first | exact trivial | kernel_rfl) ?_ | rw [g1])
    try (conv => whnf)
    exact resP.mk rfl (Sees.bool rfl)
  have g1 : decide ((40 : Int) < ((s.cells.map Cell.av).length : Int)) = false := by simp; omega
  by_cases h2 : 16 < cs.length
  · have g2 : decide ((16 : Int) < ((cs.map Chg.av).length : Int)) = true := by simp; omega
    repeat ((conv => whnf); first | refine sJ ?_ | refine And.intro (by first | exact trivial | kernel_rfl) ?_ | rw [g1] | rw [g2])
    try (conv => whnf)
    exact resP.mk rfl (Sees.bool rfl)
  have g2 : decide ((16 : Int) < ((cs.map Chg.av).length : Int)) = false := by simp; omega
  repeat ((conv => whnf); first | refine sJ ?_ | refine And.intro (by first | exact trivial | kernel_rfl) ?_ | rw [g1] | rw [g2])
  try (conv => whnf)
  first | refine CallK.data rfl (c_Free s) rfl ?_ | refine CallP.data rfl (c_Free s) rfl ?_
  refine Wk ?_
  first | refine CallK.data rfl (c_Free44 LW s) rfl ?_ | refine CallP.data rfl (c_Free44 LW s) rfl ?_
  refine Wk ?_
  first | refine CallK.data rfl (c_During s cs (by omega)) rfl ?_ | refine CallP.data rfl (c_During s cs (by omega)) rfl ?_
  refine Wk ?_
  first | refine CallK.data rfl (c_During44 s cs (by omega)) rfl ?_ | refine CallP.data rfl (c_During44 s cs (by omega)) rfl ?_
  refine Wk ?_
  have e1 : sameMk (freeM s).1 (freeM s).1 = true := by simp [sameMk]
  have e2 : sameMk (duringM s cs).1 (duringM s cs).1 = true := by simp [sameMk]
  have l1 : (freeM s).1.length ≤ 281474976710656 := by
    unfold freeM
    split
    · rename_i hf
      have := sized_bd (form_all hf).1
      rw [maskM_len]; omega
    · simp
  have l2 : (duringM s cs).1.length ≤ 281474976710656 := by
    unfold duringM
    split
    · simp
    split
    · simp
    · rename_i hf _
      have := sized_bd (form_all (by simpa using hf)).1
      rw [fold_mlen, maskM_len]; omega
  first | refine CallK.data rfl (c_same44 LW (freeM s).1 (freeM s).1 l1) rfl ?_ | refine CallP.data rfl (c_same44 LW (freeM s).1 (freeM s).1 l1) rfl ?_
  rw [e1]
  have q1 : ((freeM s).2 == (freeM s).2) = true := by simp
  have q2 : ((duringM s cs).2 == (duringM s cs).2) = true := by simp
  repeat ((conv => whnf); first | refine sJ ?_ | refine And.intro (by first | exact trivial | kernel_rfl) ?_ | rw [q1])
  try (conv => whnf)
  first | refine CallK.data rfl (c_same44 LW (duringM s cs).1 (duringM s cs).1 l2) rfl ?_ | refine CallP.data rfl (c_same44 LW (duringM s cs).1 (duringM s cs).1 l2) rfl ?_
  rw [e2]
  repeat ((conv => whnf); first | refine sJ ?_ | refine And.intro (by first | exact trivial | kernel_rfl) ?_ | rw [q2])
  try (conv => whnf)
  exact resP.mk rfl (Sees.bool rfl)
end HM
