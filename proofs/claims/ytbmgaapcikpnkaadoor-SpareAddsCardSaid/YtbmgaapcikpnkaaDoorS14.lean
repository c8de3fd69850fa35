/- The masks of a schedule. -/
import Derived.Test.YtbmgaapcikpnkaaDoorS13
import Derived.Test.YtbmgaapcikpnkaaDoorS7
import Derived.Test.YtbmgaapcikpnkaaDoorDa

set_option maxRecDepth 100000
namespace HM
open Go Go.RowKit Go.Proofs
section
variable (L : World → Prop)

theorem c_masks (s : Sched) (hs : sizedB s = true) (hf : ∀ c ∈ s.cells, formedB s c = true) (hl : s.cells.length ≤ 512) : PCall Tryd.prog L 33 [s.av] (encIs (maskM s s.cells)) := by
  have h1 : 1 ≤ s.len ∧ s.len ≤ 512 ∧ 1 ≤ s.offs ∧ s.offs ≤ 16 := by simp [sizedB] at hs; omega
  obtain ⟨n, hn⟩ : ∃ n : Nat, s.len = n := ⟨s.len.toNat, by omega⟩
  refine PCall.intro mixed [] (nt := 42) Tryd.func33 rfl rfl (by simp) ?_
  repeat ((conv => whnf); first | (refine And.intro (by first | rfl | exact Or.inl ⟨_, rfl⟩ | exact Or.inr rfl | exact le_b rfl | ((repeat' (first | exact Els.nil _ | refine Els.cons rfl rfl ?_)); done) | exact Els.map (fun _ => ⟨rfl, rfl⟩) | exact (by omega) | exact ⟨_, rfl, by decide⟩ | exact (show (0 : Int) ≤ s.len by omega) | kernel_rfl) ?_) )
  try (conv => whnf)
  refine LoopK.run mixed [] (fun (k : Nat) => k ≤ n) (fun k => [(1, .ptr 0 0), (3, .bsl 1 0 n 1), (10, .bsl 1 0 n 1), (11, .int .i64 n), (12, .int .i64 k)]) (fun k => ⟨[.cells [.int .i64 s.len, .int .i64 s.offs, encCells s.cells] 24, .cells ((List.replicate k (fullI s) ++ List.replicate (n - k) 0).map encI) 3], [], 0, 0, fun _ => 0⟩) (fun k => n - k) 0 (by simp) ?_ ?_
  · refine Fits.mk' rfl rfl rfl rfl ?_ ?_ ?_ ?_ ?_ <;> repeat' (first | exact trivial | refine And.intro ?_ ?_ | exact Sees.of_eq rfl | exact lt_b rfl | rfl | exact Sees.of_eq (by rw [hn]; rfl) | exact Sees.int (by rw [hn]; simp) | exact rowI_oko _ _ _ _ | exact SeesL.of_eq (by rw [hn]; simp; exact Or.inr rfl))
  rintro k hk
  repeat ((conv => whnf); first | (refine And.intro (by first | rfl | exact Or.inl ⟨_, rfl⟩ | exact Or.inr rfl | exact le_b rfl | ((repeat' (first | exact Els.nil _ | refine Els.cons rfl rfl ?_)); done) | exact Els.map (fun _ => ⟨rfl, rfl⟩)  | kernel_rfl) ?_) )
  try (conv => whnf)
  refine BrK.mk (fun hb => ?_) (fun hb => ?_) <;> (try rw [hb])
  · have hlt : k < n := by simpa using hb
    repeat ((conv => whnf); first | (refine And.intro (by first | rfl | exact Or.inl ⟨_, rfl⟩ | exact Or.inr rfl | exact le_b rfl | ((repeat' (first | exact Els.nil _ | refine Els.cons rfl rfl ?_)); done) | exact Els.map (fun _ => ⟨rfl, rfl⟩) | exact ⟨by omega, by omega⟩ | exact (show (0 : Int) ≤ s.offs by omega) | exact rowI_fit (by omega) (by simp; omega) _ (by kernel_rfl) _ rfl | kernel_rfl) ?_) )
    try (conv => whnf)
    refine ⟨k + 1, by omega, by omega, ?_⟩
    have e : IntKind.i64.wrap (IntKind.i64.wrap (1 * 2 ^ (min s.offs.toNat IntKind.i64.bits)) - 1) = fullI s := by
      have h2 := pow_le62 (n := s.offs.toNat) (by omega)
      have h3 := pow_pos' s.offs.toNat
      rw [shl1 (by omega) (by omega), w64 (by omega) (by omega)]; rfl
    refine Fits.mk' rfl rfl rfl rfl ?_ ?_ ?_ ?_ ?_ <;> repeat' (first | exact trivial | refine And.intro ?_ ?_ | exact Sees.of_eq rfl | exact lt_b rfl | rfl | exact Sees.int (succI hlt (by omega)) | exact rowI_oko _ _ _ _ | exact rowI_okk _ _ _ | exact SeesL.of_eq ((rowI_st _ _ _ _ (by kernel_rfl)).trans (by rw [e, Int.toNat_natCast, set_rep _ _ hlt])))
  · have hk' : k = n := by simp at hb; omega
    subst hk'
    repeat ((conv => whnf); first | (refine And.intro (by first | rfl | exact Or.inl ⟨_, rfl⟩ | exact Or.inr rfl | exact le_b rfl | ((repeat' (first | exact Els.nil _ | refine Els.cons rfl rfl ?_)); done) | exact Els.map (fun _ => ⟨rfl, rfl⟩)  | kernel_rfl) ?_) )
    try (conv => whnf)
    refine LoopK.run mixed [] (fun (j : Nat) => j ≤ s.cells.length) (fun j => [(3, .bsl 1 0 k 1), (24, encCells s.cells), (25, .int .i64 s.cells.length), (26, .int .i64 j)]) (fun j => ⟨[.cells [.int .i64 s.len, .int .i64 s.offs, encCells s.cells] 24, .cells ((maskM s (s.cells.take j)).map encI) 3], [], 0, 0, fun _ => 0⟩) (fun j => s.cells.length - j) 0 (by simp) ?_ ?_
    · refine Fits.mk' rfl rfl rfl rfl ?_ ?_ ?_ ?_ ?_ <;> repeat' (first | exact trivial | refine And.intro ?_ ?_ | exact Sees.of_eq rfl | exact lt_b rfl | rfl | exact rowI_oko _ _ _ _ | exact Sees.int (by simp) | exact SeesL.of_eq (by simp [maskM, hn]))
    rintro j hj
    repeat ((conv => whnf); first | (refine And.intro (by first | rfl | exact Or.inl ⟨_, rfl⟩ | exact Or.inr rfl | exact le_b rfl | ((repeat' (first | exact Els.nil _ | refine Els.cons rfl rfl ?_)); done) | exact Els.map (fun _ => ⟨rfl, rfl⟩)  | kernel_rfl) ?_) )
    try (conv => whnf)
    refine BrK.mk (fun hc => ?_) (fun hc => ?_) <;> (try rw [hc])
    · have hlt : j < s.cells.length := by simpa using hc
      obtain ⟨c, hgx⟩ := getLt hlt
      have hmx := getMap (f := Cell.av) hgx
      have hfc := hf c (List.mem_of_getElem? hgx)
      have hfc : 0 ≤ c.slot ∧ c.slot < s.len ∧ 0 ≤ c.off ∧ c.off < s.offs := by simp [formedB, placedB, insB] at hfc; omega
      have hml := maskM_len s (s.cells.take j)
      obtain ⟨m, hm⟩ := getLt (l := maskM s (s.cells.take j)) (k := c.slot.toNat) (by omega)
      repeat ((conv => whnf); first | (refine And.intro (by first | rfl | exact Or.inl ⟨_, rfl⟩ | exact Or.inr rfl | exact le_b rfl | ((repeat' (first | exact Els.nil _ | refine Els.cons rfl rfl ?_)); done) | exact Els.map (fun _ => ⟨rfl, rfl⟩) | exact inbMap hlt | exact ⟨by omega, by omega⟩ | exact (show (0 : Int) ≤ c.off by omega) | exact rowI_fit (by omega) (by rw [hml]; omega) _ (by kernel_rfl) _ rfl | kernel_rfl) ?_) | rw [hmx] | rw [rowI_ld hm _ (by kernel_rfl)])
      try (conv => whnf)
      refine ⟨j + 1, by omega, by omega, ?_⟩
      have hb0 := maskM_bd s (s.cells.take j) m (List.mem_of_getElem? hm)
      have h2 := pow_le62 (n := s.offs.toNat) (by omega)
      have e := andNot_clr (m := m) (k := c.off.toNat) hb0.1 (by unfold fullI at hb0; omega) (by omega)
      have e1 := shl1 (n := c.off) (by omega) (by omega)
      refine Fits.mk' rfl rfl rfl rfl ?_ ?_ ?_ ?_ ?_ <;> repeat' (first | exact trivial | refine And.intro ?_ ?_ | exact Sees.of_eq rfl | exact lt_b rfl | rfl | exact Sees.int (succI hlt (by omega)) | exact rowI_oko _ _ _ _ | exact SeesL.of_eq ((rowI_st _ _ _ _ (by kernel_rfl)).trans (by rw [e1, e, maskM_take hgx, maskStep, List.getD_eq_getElem?_getD, hm]; rfl)))
    · have hk' : j = s.cells.length := by simp at hc; omega
      subst hk'
      repeat ((conv => whnf); first | (refine And.intro (by first | rfl | exact Or.inl ⟨_, rfl⟩ | exact Or.inr rfl | exact le_b rfl | ((repeat' (first | exact Els.nil _ | refine Els.cons rfl rfl ?_)); done) | exact Els.map (fun _ => ⟨rfl, rfl⟩)  | kernel_rfl) ?_) )
      try (conv => whnf)
      rw [List.take_length]
      exact ⟨_, rowI_fzb rfl (by rw [maskM_len, hn]; rfl), Sees.rfl' _⟩

def freeM (s : Sched) : List Int × Int := if formB s then (maskM s s.cells, 0) else ([], 1)
end
end HM
