/- A link may lose more. -/
import Derived.Test.YtcmppdlaabbnlaaDoorS57

set_option maxRecDepth 100000
namespace HM
open Go Go.RowKit Go.Proofs
section
variable (L : World → Prop)

theorem rows_okk (k m : Nat) (A : List (List Int)) : ∀ c : Nat, okks k m (A.map encIs ++ List.replicate c .nils) := fun c => by
  rw [okks_mem]
  intro e he
  rw [List.mem_append] at he
  rcases he with he | he
  · obtain ⟨x, _, rfl⟩ := List.mem_map.1 he
    trivial
  · rw [List.eq_of_mem_replicate he]
    trivial
theorem link_ld {l : List Link} {k : Nat} {x : Link} (ex : List AV) (h : l[k]? = some x) (n m : Nat) (hn : n = 3) (hm : m = 2) : (flatE (l.map Link.av) ++ ex)[0 + (k : Int).toNat * n + m]? = some (.int .i64 x.loss) := by
  subst hn; subst hm
  rw [Nat.zero_add, Int.toNat_natCast]
  exact linkOk.ldc ex h 2 (by decide)
theorem fzs_rows : ∀ l : List (List Int), fzs (l.map encIs) = some (l.map encIs)
  | [] => rfl
  | x :: l => by simp [fzs, encIs, fz, fzs_rows l]
theorem rows_cell : ∀ l : List (List Int), (l.map encIs).all AV.isCell = true
  | [] => rfl
  | x :: l => by simp [encIs, AV.isCell]
theorem fz_bsl {S : St} {id m : Nat} {l : List (List Int)} {t : TypeId} (hb : S.bx[id]? = some (.cells (l.map encIs ++ List.replicate 0 .nils) t)) (hm : m = l.length) : fzb S (.bsl id 0 m 1) = some (.sl false (l.map encIs)) := by
  subst hm
  rw [List.replicate_zero, List.append_nil] at hb
  simp only [fzb, hb, if_true, Nat.zero_add, List.length_map, Nat.le_refl, List.drop_zero]
  rw [List.take_of_length_le (by simp), fzs_rows]
  simp only [Option.bind_some, rows_cell, if_true]
theorem fzW {S : St} {a b c : Int} {p l : AV} {ps ls ms : List AV} (h1 : fzb S p = some (.sl false ps)) (h2 : fzb S l = some (.sl false ls)) : fzb S (.tup [.agg [.int .i64 a, p, .int .i64 b, .int .i64 c, l, .sl false ms], .int .i64 0]) = some (.tup [.agg [.int .i64 a, .sl false ps, .int .i64 b, .int .i64 c, .sl false ls, .sl false ms], .int .i64 0]) := by
  simp [fzb, fzbs, h1, h2]
def zN : List AV := [.int .i64 0, .nils, .int .i64 0, .int .i64 0, .nils, .nils]

set_option maxHeartbeats 4000000 in
theorem c_Weaker (n : Net) (hn : n.small) (a b k : Int) (hk : k ≤ 8) : PCall Tryd.prog L 20 [n.av, .int .i64 a, .int .i64 b, .int .i64 k] (.tup [(weakM n a b k).1.av, .int .i64 (weakM n a b k).2]) := by
  have hn' := hn
  obtain ⟨n1, n2, n3, n4⟩ := hn'
  refine PCall.intro mixed [] (nt := 50) Tryd.func20 rfl rfl (by simp) ?_
  repeat ((conv => whnf); first | (refine And.intro (by first | rfl | exact ⟨rfl, rfl⟩ | exact Or.inl ⟨_, rfl⟩ | exact Or.inr rfl | exact le_b rfl | ((repeat' (first | exact Els.nil _ | refine Els.cons rfl rfl ?_)); done) | exact Els.map (fun _ => ⟨rfl, rfl⟩)  | kernel_rfl) ?_) )
  try (conv => whnf)
  first | refine CallK.data rfl (c_netCheck L n hn) rfl ?_ | refine CallP.data rfl (c_netCheck L n hn) rfl ?_
  repeat ((conv => whnf); first | (refine And.intro (by first | rfl | exact ⟨rfl, rfl⟩ | exact Or.inl ⟨_, rfl⟩ | exact Or.inr rfl | exact le_b rfl | ((repeat' (first | exact Els.nil _ | refine Els.cons rfl rfl ?_)); done) | exact Els.map (fun _ => ⟨rfl, rfl⟩)  | kernel_rfl) ?_) )
  try (conv => whnf)
  refine BrK.mk (fun h1 => ?_) (fun h1 => ?_) <;> (try rw [h1])
  · have h1' : netE n ≠ 0 := by simpa using h1
    repeat ((conv => whnf); first | (refine And.intro (by first | rfl | exact ⟨rfl, rfl⟩ | exact Or.inl ⟨_, rfl⟩ | exact Or.inr rfl | exact le_b rfl | ((repeat' (first | exact Els.nil _ | refine Els.cons rfl rfl ?_)); done) | exact Els.map (fun _ => ⟨rfl, rfl⟩)  | kernel_rfl) ?_) )
    try (conv => whnf)
    exact resP.mk rfl (Sees.of_eq (by rw [weakM, if_pos h1']; rfl))
  have h1' : netE n = 0 := by simpa using h1
  have hok := netE_ok h1'
  repeat ((conv => whnf); first | (refine And.intro (by first | rfl | exact ⟨rfl, rfl⟩ | exact Or.inl ⟨_, rfl⟩ | exact Or.inr rfl | exact le_b rfl | ((repeat' (first | exact Els.nil _ | refine Els.cons rfl rfl ?_)); done) | exact Els.map (fun _ => ⟨rfl, rfl⟩)  | kernel_rfl) ?_) )
  try (conv => whnf)
  first | refine CallK.data rfl (c_find L n hok a b) rfl ?_ | refine CallP.data rfl (c_find L n hok a b) rfl ?_
  repeat ((conv => whnf); first | (refine And.intro (by first | rfl | exact ⟨rfl, rfl⟩ | exact Or.inl ⟨_, rfl⟩ | exact Or.inr rfl | exact le_b rfl | ((repeat' (first | exact Els.nil _ | refine Els.cons rfl rfl ?_)); done) | exact Els.map (fun _ => ⟨rfl, rfl⟩)  | kernel_rfl) ?_) )
  try (conv => whnf)
  refine BrK.mk (fun h2 => ?_) (fun h2 => ?_) <;> (try rw [h2])
  · have h2' : findL n a b < 0 := by simpa using h2
    repeat ((conv => whnf); first | (refine And.intro (by first | rfl | exact ⟨rfl, rfl⟩ | exact Or.inl ⟨_, rfl⟩ | exact Or.inr rfl | exact le_b rfl | ((repeat' (first | exact Els.nil _ | refine Els.cons rfl rfl ?_)); done) | exact Els.map (fun _ => ⟨rfl, rfl⟩)  | kernel_rfl) ?_) )
    try (conv => whnf)
    exact resP.mk rfl (Sees.of_eq (by rw [weakM, if_neg (by simp [h1']), if_pos h2']; rfl))
  have h2' : ¬ findL n a b < 0 := by simpa using h2
  obtain ⟨i, l, e1, e2, e3, e4⟩ := findL_at (by omega : 0 ≤ findL n a b)
  have hil := (List.getElem?_eq_some_iff.1 e2).1
  have hp32 : n.power.length ≤ 32 := by have := hok.rows; have := hok.nodes; omega
  have hml := getMap (f := Link.av) e2
  have hbd := linkR_bd (hok.link i l e2).1
  have hW : weakM n a b k = if k < 0 ∨ 7 - l.loss < k then (zeroNet, 2) else (bump n i k, 0) := by
    rw [weakM, if_neg (by simp [h1']), if_neg h2', e1, Int.toNat_natCast, e2]; rfl
  rw [hW]
  clear hW
  rw [e1]
  have hw7 : IntKind.i64.wrap (7 - l.loss) = 7 - l.loss := w64 (by omega) (by omega)
  repeat ((conv => whnf); first | (refine And.intro (by first | rfl | exact ⟨rfl, rfl⟩ | exact Or.inl ⟨_, rfl⟩ | exact Or.inr rfl | exact le_b rfl | ((repeat' (first | exact Els.nil _ | refine Els.cons rfl rfl ?_)); done) | exact Els.map (fun _ => ⟨rfl, rfl⟩)  | kernel_rfl) ?_) )
  try (conv => whnf)
  refine BrK.mk (fun h3 => ?_) (fun h3 => ?_) <;> (try rw [h3])
  · have h3' : k < 0 := by simpa using h3
    repeat ((conv => whnf); first | (refine And.intro (by first | rfl | exact ⟨rfl, rfl⟩ | exact Or.inl ⟨_, rfl⟩ | exact Or.inr rfl | exact le_b rfl | ((repeat' (first | exact Els.nil _ | refine Els.cons rfl rfl ?_)); done) | exact Els.map (fun _ => ⟨rfl, rfl⟩)  | kernel_rfl) ?_) )
    try (conv => whnf)
    rw [if_pos (Or.inl h3')]
    repeat ((conv => whnf); first | (refine And.intro (by first | rfl | exact ⟨rfl, rfl⟩ | exact Or.inl ⟨_, rfl⟩ | exact Or.inr rfl | exact le_b rfl | ((repeat' (first | exact Els.nil _ | refine Els.cons rfl rfl ?_)); done) | exact Els.map (fun _ => ⟨rfl, rfl⟩)  | kernel_rfl) ?_) )
    try (conv => whnf)
    exact resP.mk rfl (Sees.of_eq rfl)
  have h3' : ¬ k < 0 := by simpa using h3
  repeat ((conv => whnf); first | (refine And.intro (by first | rfl | exact ⟨rfl, rfl⟩ | exact Or.inl ⟨_, rfl⟩ | exact Or.inr rfl | exact le_b rfl | ((repeat' (first | exact Els.nil _ | refine Els.cons rfl rfl ?_)); done) | exact Els.map (fun _ => ⟨rfl, rfl⟩) | exact inbMap hil | kernel_rfl) ?_) | rw [hml] | rw [hw7])
  try (conv => whnf)
  by_cases h4 : 7 - l.loss < k
  · rw [decide_eq_true h4]
    repeat ((conv => whnf); first | (refine And.intro (by first | rfl | exact ⟨rfl, rfl⟩ | exact Or.inl ⟨_, rfl⟩ | exact Or.inr rfl | exact le_b rfl | ((repeat' (first | exact Els.nil _ | refine Els.cons rfl rfl ?_)); done) | exact Els.map (fun _ => ⟨rfl, rfl⟩)  | kernel_rfl) ?_) )
    try (conv => whnf)
    rw [if_pos (Or.inr h4)]
    repeat ((conv => whnf); first | (refine And.intro (by first | rfl | exact ⟨rfl, rfl⟩ | exact Or.inl ⟨_, rfl⟩ | exact Or.inr rfl | exact le_b rfl | ((repeat' (first | exact Els.nil _ | refine Els.cons rfl rfl ?_)); done) | exact Els.map (fun _ => ⟨rfl, rfl⟩)  | kernel_rfl) ?_) )
    try (conv => whnf)
    exact resP.mk rfl (Sees.of_eq rfl)
  rw [decide_eq_false h4, if_neg (by omega)]
  have hwk : IntKind.i64.wrap (l.loss + k) = l.loss + k := w64 (by omega) (by omega)
  have hst : ∀ d : Nat, 0 + i * 3 + 2 + 1 ≤ (flatE (n.links.map Link.av) ++ List.replicate (d * 3) AV.undef).length := fun d => by rw [List.length_append, linkOk.flen]; omega
  have hfz : ∀ (S : St) (id d : Nat) (t : TypeId), S.bx[id]? = some (.cells (splice (flatE (n.links.map Link.av) ++ List.replicate (d * 3) AV.undef) (0 + i * 3 + 2) [.int .i64 (l.loss + k)]) t) → fzb S (.vsl id 0 (n.links.map Link.av).length 3) = some (.sl false ((bump n i k).links.map Link.av)) := fun S id d t hb => by
    rw [splice_one, Nat.zero_add, link_set _ _ e2, ← bump_set k e2] at hb
    exact linkOk.fzb hb (by rw [bump_set k e2]; simp)
  have hne : n.links ≠ [] := fun hh => by rw [hh] at hil; simp at hil
  repeat ((conv => whnf); first | (refine And.intro (by first | rfl | exact ⟨rfl, rfl⟩ | exact Or.inl ⟨_, rfl⟩ | exact Or.inr rfl | exact le_b rfl | ((repeat' (first | exact Els.nil _ | refine Els.cons rfl rfl ?_)); done) | exact Els.map (fun _ => ⟨rfl, rfl⟩)  | kernel_rfl) ?_) )
  try (conv => whnf)
  refine CallK.inl rfl (ICall.intro mixed [10007] (nt := 35) Tryd.func44 rfl rfl (by simp) ?_)
  repeat ((conv => whnf); first | (refine And.intro (by first | rfl | exact ⟨rfl, rfl⟩ | exact Or.inl ⟨_, rfl⟩ | exact Or.inr rfl | exact le_b rfl | ((repeat' (first | exact Els.nil _ | refine Els.cons rfl rfl ?_)); done) | exact Els.map (fun _ => ⟨rfl, rfl⟩) | exact (show (0 : Int) ≤ _ by omega) | exact (show (_ : Int) ≤ 1099511627776 by simp only [List.length_map]; omega) | exact ⟨_, rfl, le_b rfl⟩ | kernel_rfl) ?_) )
  try (conv => whnf)
  refine LoopK.run mixed [] (fun j : Nat => j ≤ n.power.length) (fun j => [(1, .ptr 2 0), (2, .ptr 3 0), (3, .bsl 4 0 n.power.length 1), (11, encRows n.power), (12, .int .i64 n.power.length), (13, .int .i64 j)]) (fun j => ⟨[.cells n.cs 26, .cells zN 26, .cells n.cs 26, .cells zN 26, .cells ((n.power.take j).map encIs ++ List.replicate (n.power.length - j) .nils) 24], [], 2, 0, fun _ => 0⟩) (fun j => n.power.length - j) 0 (by simp) ?_ ?_
  · refine Fits.mk' rfl rfl rfl rfl ?_ ?_ ?_ ?_ ?_ <;> repeat' (first | exact trivial | refine And.intro ?_ ?_ | exact Sees.of_eq rfl | exact lt_b rfl | rfl | exact rows_okk _ _ _ _ | exact SeesL.of_eq (by simp [ofC]) | exact (show Sees (.bsl 4 0 (List.map encIs n.power).length 1) (.bsl 4 0 n.power.length 1) from Sees.of_eq (by rw [List.length_map])) | exact Sees.int (by simp) | exact SeesO.rfl' _)
  rintro j hj
  repeat ((conv => whnf); first | (refine And.intro (by first | rfl | exact ⟨rfl, rfl⟩ | exact Or.inl ⟨_, rfl⟩ | exact Or.inr rfl | exact le_b rfl | ((repeat' (first | exact Els.nil _ | refine Els.cons rfl rfl ?_)); done) | exact Els.map (fun _ => ⟨rfl, rfl⟩)  | kernel_rfl) ?_) )
  try (conv => whnf)
  refine BrK.mk (fun h5 => ?_) (fun h5 => ?_) <;> (try rw [h5])
  · have hlt : j < n.power.length := by simpa using h5
    obtain ⟨row, hrow⟩ := getLt hlt
    have hmr := getMap (f := encIs) hrow
    have hrl : row.length ≤ 32 := by have := hok.row row (List.mem_of_getElem? hrow); have := hok.nodes; omega
    repeat ((conv => whnf); first | (refine And.intro (by first | rfl | exact ⟨rfl, rfl⟩ | exact Or.inl ⟨_, rfl⟩ | exact Or.inr rfl | exact le_b rfl | ((repeat' (first | exact Els.nil _ | refine Els.cons rfl rfl ?_)); done) | exact Els.map (fun _ => ⟨rfl, rfl⟩) | exact inbMap hlt | kernel_rfl) ?_) | rw [hmr])
    try (conv => whnf)
    first | refine CallK.data rfl (c_CloneII L row (by omega)) rfl ?_ | refine CallP.data rfl (c_CloneII L row (by omega)) rfl ?_
    repeat ((conv => whnf); first | (refine And.intro (by first | rfl | exact ⟨rfl, rfl⟩ | exact Or.inl ⟨_, rfl⟩ | exact Or.inr rfl | exact le_b rfl | ((repeat' (first | exact Els.nil _ | refine Els.cons rfl rfl ?_)); done) | exact Els.map (fun _ => ⟨rfl, rfl⟩) | exact ⟨by omega, by omega⟩ | exact (show 0 + (j : Int).toNat * 1 + 1 ≤ (List.map encIs (List.take j n.power) ++ List.replicate (n.power.length - j) AV.nils).length by simp; omega) | kernel_rfl) ?_) )
    try (conv => whnf)
    refine ⟨j + 1, by omega, by omega, ?_⟩
    refine Fits.mk' rfl rfl rfl rfl ?_ ?_ ?_ ?_ ?_ <;> repeat' (first | exact trivial | refine And.intro ?_ ?_ | exact Sees.of_eq rfl | exact lt_b rfl | rfl | exact rows_okk _ _ _ _ | exact Sees.int (succI hlt (by omega)) | exact SeesO.rfl' _ | exact SeesL.of_eq (show splice _ (0 + j * 1) _ = _ by rw [Nat.zero_add, Nat.mul_one]; exact row_set _ hrow))
  · have hjk : j = n.power.length := by simp at h5; omega
    subst hjk
    rw [List.take_length, Nat.sub_self]
    repeat ((conv => whnf); first | (refine And.intro (by first | rfl | exact ⟨rfl, rfl⟩ | exact Or.inl ⟨_, rfl⟩ | exact Or.inr rfl | exact le_b rfl | ((repeat' (first | exact Els.nil _ | refine Els.cons rfl rfl ?_)); done) | exact Els.map (fun _ => ⟨rfl, rfl⟩)  | kernel_rfl) ?_) )
    try (conv => whnf)
    refine SemK.regionStil mixed [0, 1, 4] 10 rfl rfl (by decide) rfl ?_
    iterate 3
      conv => whnf
      apply exV
      · intro S K' hh
        repeat ((conv => whnf); first | (refine And.intro (by first | rfl | exact ⟨rfl, rfl⟩ | exact Or.inl ⟨_, rfl⟩ | exact Or.inr rfl | exact le_b rfl | ((repeat' (first | exact Els.nil _ | refine Els.cons rfl rfl ?_)); done) | exact Els.map (fun _ => ⟨rfl, rfl⟩)  | kernel_rfl) ?_) )
        try (conv => whnf)
        exact hh
    repeat' ((conv => whnf); first | exact trivial | (refine And.intro (by first | rfl | exact ⟨rfl, rfl⟩ | exact Or.inl ⟨_, rfl⟩ | exact Or.inr rfl | exact le_b rfl | ((repeat' (first | exact Els.nil _ | refine Els.cons rfl rfl ?_)); done) | exact Els.map (fun _ => ⟨rfl, rfl⟩) | exact trivial | exact inbMap hil | exact hst _ | kernel_rfl) ?_) | refine And.intro ?_ ?_ | rw [link_ld _ e2 _ _ (by kernel_rfl) (by kernel_rfl)] | rw [hwk] | refine CallK.fresh rfl (c_CloneLink L n.links hne (by have := hok.many; have := hok.mar; omega)) (by rfl) (linkOk.els _) (linkOk.scal _) (fun h => absurd (by simpa using h) hne) (fun d => ?_) | refine CallK.data rfl (c_CloneII L n.margin (by have := hok.many; have := hok.mar; omega)) rfl ?_)
    all_goals exact ⟨_, fzW (fz_bsl rfl (by simp)) (hfz _ _ _ _ rfl), Sees.of_eq rfl⟩
end
end HM
