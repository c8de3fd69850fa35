/- One more cell: slices.Insert into a clone; schedule.Add. -/
import Derived.Test.YtgfboaadhlhjhaaGreatDoorS34
import Derived.Test.YtgfboaadhlhjhaaGreatDoorDa
import Derived.Test.YtgfboaadhlhjhaaGreatDoorDb
import Derived.Test.YtgfboaadhlhjhaaGreatDoorFh
set_option maxRecDepth 100000
namespace HM
open Go Go.RowKit Go.Proofs
section
variable (L : World → Prop)
theorem c_BinCell (l : List Cell) (t : Cell) (g : Nat) (c : Cell → Int) (hl : l.length ≤ 281474976710656) (hcb : callable Tryz.prog g = true) (hm : Mono c l) (hp : ∀ x ∈ l, PCall Tryz.prog L g [Cell.av x, Cell.av t] (.int .i64 (c x))) :
    PCall Tryz.prog L 68 [.sl false (l.map Cell.av), Cell.av t, .fn g []] (.tup [.int .i64 (posB c l), .bool (hasB c l)]) := by
  refine PCall.intro mixed [] (nt := 49) Tryz.func68 rfl rfl (by simp) ?_
  refine Wk ?_
  refine LoopK.run mixed [] (fun s : Nat × Nat => s.1 ≤ s.2 ∧ s.2 ≤ l.length ∧ (∀ i x, i < s.1 → l[i]? = some x → c x < 0) ∧ (∀ x, l[s.2]? = some x → ¬ c x < 0)) (fun s => [(0, .sl false (l.map Cell.av)), (2, .fn g []), (4, .ptr 0 0), (8, .int .i64 l.length), (9, .int .i64 s.1), (10, .int .i64 s.2)]) (fun _ => ⟨[.cells (Cell.av t).cells 61], [], 0, 0, fun _ => 0⟩) (fun s => s.2 - s.1) (0, l.length) ⟨by simp, by simp, by simp, by simp⟩ ?_ ?_
  · refine Fits.mk' rfl rfl rfl rfl ?_ ?_ ?_ ?_ ?_ <;> repeat' (first | exact trivial | refine And.intro ?_ ?_ | exact Sees.of_eq rfl | exact lt_b rfl | rfl | exact Sees.int (by simp))
  rintro ⟨i, j⟩ ⟨h1, h2, h3, h4⟩
  simp only at h1 h2 h3 h4
  refine Wk ?_
  refine BrK.mk (fun hb => ?_) (fun hb => ?_) <;> (try rw [hb])
  · have hlt : i < j := by simpa using hb
    have hw1 : IntKind.i64.wrap ((i : Int) + (j : Int)) = ((i + j : Nat) : Int) := by rw [w64] <;> omega
    have hw2 : IntKind.i64.wrap ((IntKind.u64.wrap ((i + j : Nat) : Int)).fdiv (2 ^ (min (1 : Int).toNat IntKind.u64.bits))) = (((i + j) / 2 : Nat) : Int) := half_ok (by omega)
    obtain ⟨m, hmid⟩ : ∃ m, m = (i + j) / 2 := ⟨_, rfl⟩
    have hml : m < l.length := by omega
    obtain ⟨x, hgx⟩ := getLt hml
    have hmx := getMap (f := Cell.av) hgx
    have hpx := hp x (List.mem_of_getElem? hgx)
    rw [← hmid] at hw2
    repeat ((conv => whnf); first | refine sJ ?_ | refine And.intro (by first | exact (show (0 : Int) ≤ 1 by decide) | exact inbMap hml | kernel_rfl) ?_ | rw [hw1] | rw [hw2] | rw [hmx])
    try (conv => whnf)
    refine CallP.data hcb hpx (by rfl) ?_
    refine Wk ?_
    refine BrK.mk (fun h5 => ?_) (fun h5 => ?_) <;> (try rw [h5])
    · refine Wk ?_
      refine ⟨(m + 1, j), ⟨by simp only; omega, by simp only; omega, fun k y hk hy => ?_, h4⟩, by simp only; omega, ?_⟩
      · rcases Nat.lt_succ_iff_lt_or_eq.1 hk with hk | rfl
        · exact hm k m y x hk hy hgx (by simpa using h5)
        · rw [hgx] at hy; injection hy with hy; subst hy; simpa using h5
      · refine Fits.mk' rfl rfl rfl rfl ?_ ?_ ?_ ?_ ?_ <;> repeat' (first | exact trivial | refine And.intro ?_ ?_ | exact Sees.of_eq rfl | exact lt_b rfl | rfl | exact Sees.int (by rw [w64] <;> omega))
    · refine Wk ?_
      refine ⟨(i, m), ⟨by simp only; omega, by simp only; omega, h3, fun y hy => ?_⟩, by simp only; omega, ?_⟩
      · rw [hgx] at hy; injection hy with hy; subst hy; simpa using h5
      · refine Fits.mk' rfl rfl rfl rfl ?_ ?_ ?_ ?_ ?_ <;> repeat' (first | exact trivial | refine And.intro ?_ ?_ | exact Sees.of_eq rfl | exact lt_b rfl | rfl )
  · have hij : i = j := by simp at hb; omega
    subst hij
    have hpos : posB c l = i := posB_uniq h2 h3 h4
    refine Wk ?_
    refine BrK.mk (fun h6 => ?_) (fun h6 => ?_) <;> (try rw [h6])
    · have hlt : i < l.length := by simpa using h6
      obtain ⟨x, hgx⟩ := getLt hlt
      have hmx := getMap (f := Cell.av) hgx
      have hpx := hp x (List.mem_of_getElem? hgx)
      repeat ((conv => whnf); first | refine sJ ?_ | refine And.intro (by first | exact inbMap hlt | kernel_rfl) ?_ | rw [hmx])
      try (conv => whnf)
      refine CallP.data hcb hpx (by rfl) ?_
      refine Wk ?_
      exact resP.mk rfl (Sees.of_eq (by simp only [hasB, hpos, hgx]))
    · refine Wk ?_
      have : l.length ≤ i := by simpa using h6
      exact resP.mk rfl (Sees.of_eq (by simp only [hasB, hpos, List.getElem?_eq_none this]))
theorem ins_cells (l : List Cell) (p : Nat) (c : Cell) : flatE ((insAt l p c).map Cell.av) = flatE ((l.take p).map Cell.av) ++ c.av.cells ++ flatE ((l.drop p).map Cell.av) := by
  simp only [insAt, List.map_append, List.map_cons, flatE, List.flatMap_append, List.flatMap_cons, List.append_assoc]
theorem cut_cells (l : List Cell) (p : Nat) : flatE (l.map Cell.av) = flatE ((l.take p).map Cell.av) ++ flatE ((l.drop p).map Cell.av) := by
  conv => lhs; rw [← List.take_append_drop p l]
  simp only [List.map_append, flatE, List.flatMap_append]
theorem splice_len {cs vs : List AV} {off : Nat} (h : off + vs.length ≤ cs.length) : (splice cs off vs).length = cs.length := by
  rw [splice_eq _ _ _ h]; simp; omega
theorem fzAdd {S : St} {a b : Int} {v : AV} {l : List AV} (h : fzb S v = some (.sl false l)) : fzb S (.tup [.agg [.int .i64 a, .int .i64 b, v], .int .i64 0]) = some (.tup [.agg [.int .i64 a, .int .i64 b, .sl false l], .int .i64 0]) := by
  simp [fzb, fzbs, h]
end
end HM
set_option maxRecDepth 100000
namespace HM
open Go Go.RowKit Go.Proofs
section
variable (L : World → Prop)
end
end HM
set_option maxRecDepth 100000
namespace HM
open Go Go.RowKit Go.Proofs
section
variable (L : World → Prop)
structure Upd (S S1 : St) (b : Nat) : Prop where
  bx : ∀ (id : Nat) (o : Ob), id ≠ b → S.bx[id]? = some o → S1.bx[id]? = some o
  fr : S1.fr = S.fr
  ty : S1.ty = S.ty
theorem Upd.refl (S : St) (b : Nat) : Upd S S b := ⟨fun _ _ _ h => h, rfl, rfl⟩
theorem Upd.setB {S S1 : St} {b : Nat} (h : Upd S S1 b) (o : Ob) : Upd S (S1.setB b o) b := ⟨fun id o' hne h1 => by rw [St.setB_ne hne.symm]; exact h.bx id o' hne h1, h.fr, h.ty⟩
theorem Upd.addB {S S1 : St} {b : Nat} (h : Upd S S1 b) (o : Ob) : Upd S (S1.addB o) b := ⟨fun id o' hne h1 => St.addB_old (h.bx id o' hne h1), h.fr, h.ty⟩
end
end HM
