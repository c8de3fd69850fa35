/- Networks: what Check returns. -/
import Derived.Test.YtdjglaoahmaljaaGreatDoorS2
import Derived.Test.YtdjglaoahmaljaaGreatDoorDa

set_option maxRecDepth 100000
namespace HM
open Go Go.RowKit Go.Proofs
section
variable (L : World → Prop)

theorem getMapI {α : Type} {f : α → AV} {l : List α} {i : Int} {x : α} (h : l[i.toNat]? = some x) : (l.map f)[i.toNat]? = some (f x) := by rw [List.getElem?_map, h]; rfl
theorem inbI {α : Type} {f : α → AV} {l : List α} {i : Int} (h0 : 0 ≤ i) (h : i < l.length) : InB i (l.map f).length := ⟨h0, by simp; omega⟩
theorem half_ok {n : Nat} (h : n ≤ 562949953421312) : IntKind.i64.wrap ((IntKind.u64.wrap (n : Int)).fdiv (2 ^ (min (1 : Int).toNat IntKind.u64.bits))) = ((n / 2 : Nat) : Int) := by
  have hb : IntKind.u64.bits = 64 := rfl
  have h1 : IntKind.u64.wrap (n : Int) = (n : Int) := by
    show (n : Int) % 2 ^ 64 = n
    omega
  have h2 : min (1 : Int).toNat IntKind.u64.bits = 1 := by rw [hb]; decide
  have h3 : (n : Int).fdiv (2 ^ 1) = ((n / 2 : Nat) : Int) := by
    rw [Int.fdiv_eq_ediv_of_nonneg _ (by omega)]; omega
  rw [h1, h2, h3, w64 (by omega) (by omega)]

def orL : List Int → Int
  | [] => 0
  | x :: l => if x = 0 then orL l else x

theorem c_or (l : List Int) (hl : l.length ≤ 281474976710656) : PCall Tryz.prog L 123 [encIs l] (.int .i64 (orL l)) := by
  refine PCall.intro mixed [] (nt := 18) Tryz.func123 rfl rfl (by simp) ?_
  refine Wk ?_
  refine LoopK.run mixed [] (fun (k : Nat) => k ≤ l.length ∧ orL (l.drop k) = orL l) (fun k => [(3, .int .i64 0), (6, encIs l), (7, .int .i64 l.length), (8, .int .i64 k)]) (fun k => St.none) (fun k => l.length - k) 0 ⟨by simp, by simp⟩ ?_ ?_
  · refine Fits.mk' rfl rfl rfl rfl ?_ ?_ ?_ ?_ ?_ <;> repeat' (first | exact trivial | refine And.intro ?_ ?_ | exact Sees.of_eq rfl | exact lt_b rfl | rfl | exact Sees.int (by simp))
  rintro k ⟨hk, hinv⟩
  refine Wk ?_
  refine BrK.mk (fun hb => ?_) (fun hb => ?_) <;> (try rw [hb])
  · have hlt : k < l.length := by simpa using hb
    obtain ⟨x, hgx⟩ := getLt hlt
    have hmx := getMap (f := encI) hgx
    rw [dropGet hgx] at hinv
    simp only [orL] at hinv
    repeat ((conv => whnf); first | refine sJ ?_ | refine And.intro (by first | exact inbMap hlt | kernel_rfl) ?_ | rw [hmx])
    try (conv => whnf)
    refine BrK.mk (fun h2 => ?_) (fun h2 => ?_) <;> (try rw [h2])
    · refine Wk ?_
      exact resP.mk rfl (Sees.int (by rw [← hinv, if_neg (by simpa using h2)]))
    · refine Wk ?_
      refine ⟨k + 1, ⟨by omega, by rw [← hinv, if_pos (by simpa using h2)]⟩, by omega, ?_⟩
      refine Fits.mk' rfl rfl rfl rfl ?_ ?_ ?_ ?_ ?_ <;> repeat' (first | exact trivial | refine And.intro ?_ ?_ | exact Sees.of_eq rfl | exact lt_b rfl | rfl | exact Sees.int (succI hlt hl))
  · have hk' : k = l.length := by simp at hb; omega
    subst hk'
    refine Wk ?_
    exact resP.mk rfl (Sees.int (by rw [← hinv, List.drop_length]; rfl))

theorem c_linkcmp (a b : Link) : PCall Tryz.prog L 142 [a.av, b.av] (.int .i64 (a.cmp b)) := by
  refine PCall.intro mixed [] (nt := 17) Tryz.func142 rfl rfl (by simp) ?_
  refine Wk ?_
  first | refine CallK.data rfl (c_cmp L _ _) rfl ?_ | refine CallP.data rfl (c_cmp L _ _) rfl ?_
  refine Wk ?_
  first | refine CallK.data rfl (c_cmp L _ _) rfl ?_ | refine CallP.data rfl (c_cmp L _ _) rfl ?_
  refine Wk ?_
  first | refine CallK.data rfl (c_or L [cmpI a.src b.src, cmpI a.dst b.dst] (by simp)) rfl ?_ | refine CallP.data rfl (c_or L [cmpI a.src b.src, cmpI a.dst b.dst] (by simp)) rfl ?_
  refine Wk ?_
  exact resP.mk rfl (Sees.int (by simp only [Link.cmp, Link.key, cmpL, orL]))

theorem c_IndexFuncRows (l : List (List Int)) (p : (List Int) → Bool) (g : Nat) (caps : List AV) (hl : l.length ≤ 281474976710656) (hcb : callable Tryz.prog g = true) (hc : fzs caps = some caps) (hp : ∀ x ∈ l, PCall Tryz.prog L g (encIs x :: caps) (.bool (p x))) :
    PCall Tryz.prog L 168 [.sl false (l.map encIs), .fn g caps] (.int .i64 (idxF p l)) := by
  refine PCall.intro mixed [] (nt := 19) Tryz.func168 rfl rfl (by simp) ?_
  refine Wk ?_
  refine LoopK.run mixed [] (fun (k : Nat) => k ≤ l.length ∧ ∀ j x, j < k → l[j]? = some x → p x = false) (fun k => [(0, .sl false (l.map encIs)), (1, .fn g caps), (7, .int .i64 l.length), (8, .int .i64 k)]) (fun k => St.none) (fun k => l.length - k) 0 ⟨by simp, by simp⟩ ?_ ?_
  · refine Fits.mk' rfl rfl rfl rfl ?_ ?_ ?_ ?_ ?_ <;> repeat' (first | exact trivial | refine And.intro ?_ ?_ | exact Sees.of_eq rfl | exact lt_b rfl | rfl | exact Sees.int (by simp) | exact fzs_okk hc)
  rintro k ⟨hk, hinv⟩
  refine Wk ?_
  refine BrK.mk (fun hb => ?_) (fun hb => ?_) <;> (try rw [hb])
  · have hlt : k < l.length := by simpa using hb
    obtain ⟨x, hgx⟩ := getLt hlt
    have hmx := getMap (f := encIs) hgx
    repeat ((conv => whnf); first | refine sJ ?_ | refine And.intro (by first | exact inbMap hlt | kernel_rfl) ?_ | rw [hmx])
    try (conv => whnf)
    refine CallK.data hcb (hp x (List.mem_of_getElem? hgx)) (by show (match fz _, fzs caps with | some a, some b => some (a :: b) | _, _ => none) = _; rw [hc]; rfl) ?_
    refine Wk ?_
    refine BrK.mk (fun h2 => ?_) (fun h2 => ?_) <;> (try rw [h2])
    · refine Wk ?_
      exact resP.mk rfl (Sees.int (idxF_some hlt hinv hgx h2).symm)
    · refine Wk ?_
      refine ⟨k + 1, ⟨by omega, fun j y hj hy => ?_⟩, by omega, ?_⟩
      · rcases Nat.lt_succ_iff_lt_or_eq.1 hj with h | rfl
        · exact hinv j y h hy
        · rw [hgx] at hy; injection hy with hy; subst hy; exact h2
      · refine Fits.mk' rfl rfl rfl rfl ?_ ?_ ?_ ?_ ?_ <;> repeat' (first | exact trivial | refine And.intro ?_ ?_ | exact Sees.of_eq rfl | exact lt_b rfl | rfl | exact Sees.int (succI hlt hl) | exact fzs_okk hc)
  · have hk' : k = l.length := by simp at hb; omega
    subst hk'
    refine Wk ?_
    exact resP.mk rfl (Sees.int (idxF_none hinv).symm)

theorem c_ContainsFuncRows (l : List (List Int)) (p : (List Int) → Bool) (g : Nat) (caps : List AV) (hl : l.length ≤ 281474976710656) (hcb : callable Tryz.prog g = true) (hc : fzs caps = some caps) (hp : ∀ x ∈ l, PCall Tryz.prog L g (encIs x :: caps) (.bool (p x))) :
    PCall Tryz.prog L 136 [.sl false (l.map encIs), .fn g caps] (.bool (l.any p)) := by
  refine PCall.intro mixed [] (nt := 9) Tryz.func136 rfl rfl (by simp) ?_
  refine Wk ?_
  refine CallK.data rfl (c_IndexFuncRows L l p g caps hl hcb hc hp) (by show (match fz _, fzs [AV.fn g caps] with | some a, some b => some (a :: b) | _, _ => none) = _; rw [show fzs [AV.fn g caps] = some [AV.fn g caps] from by simp [fz, fzs, hc]]; rfl) ?_
  refine Wk ?_
  exact resP.mk rfl (Sees.bool (idxF_any p l))

theorem c_IndexFuncInts (l : List Int) (p : Int → Bool) (g : Nat) (caps : List AV) (hl : l.length ≤ 281474976710656) (hcb : callable Tryz.prog g = true) (hc : fzs caps = some caps) (hp : ∀ x ∈ l, PCall Tryz.prog L g (encI x :: caps) (.bool (p x))) :
    PCall Tryz.prog L 169 [.sl false (l.map encI), .fn g caps] (.int .i64 (idxF p l)) := by
  refine PCall.intro mixed [] (nt := 19) Tryz.func169 rfl rfl (by simp) ?_
  refine Wk ?_
  refine LoopK.run mixed [] (fun (k : Nat) => k ≤ l.length ∧ ∀ j x, j < k → l[j]? = some x → p x = false) (fun k => [(0, .sl false (l.map encI)), (1, .fn g caps), (7, .int .i64 l.length), (8, .int .i64 k)]) (fun k => St.none) (fun k => l.length - k) 0 ⟨by simp, by simp⟩ ?_ ?_
  · refine Fits.mk' rfl rfl rfl rfl ?_ ?_ ?_ ?_ ?_ <;> repeat' (first | exact trivial | refine And.intro ?_ ?_ | exact Sees.of_eq rfl | exact lt_b rfl | rfl | exact Sees.int (by simp) | exact fzs_okk hc)
  rintro k ⟨hk, hinv⟩
  refine Wk ?_
  refine BrK.mk (fun hb => ?_) (fun hb => ?_) <;> (try rw [hb])
  · have hlt : k < l.length := by simpa using hb
    obtain ⟨x, hgx⟩ := getLt hlt
    have hmx := getMap (f := encI) hgx
    repeat ((conv => whnf); first | refine sJ ?_ | refine And.intro (by first | exact inbMap hlt | kernel_rfl) ?_ | rw [hmx])
    try (conv => whnf)
    refine CallK.data hcb (hp x (List.mem_of_getElem? hgx)) (by show (match fz _, fzs caps with | some a, some b => some (a :: b) | _, _ => none) = _; rw [hc]; rfl) ?_
    refine Wk ?_
    refine BrK.mk (fun h2 => ?_) (fun h2 => ?_) <;> (try rw [h2])
    · refine Wk ?_
      exact resP.mk rfl (Sees.int (idxF_some hlt hinv hgx h2).symm)
    · refine Wk ?_
      refine ⟨k + 1, ⟨by omega, fun j y hj hy => ?_⟩, by omega, ?_⟩
      · rcases Nat.lt_succ_iff_lt_or_eq.1 hj with h | rfl
        · exact hinv j y h hy
        · rw [hgx] at hy; injection hy with hy; subst hy; exact h2
      · refine Fits.mk' rfl rfl rfl rfl ?_ ?_ ?_ ?_ ?_ <;> repeat' (first | exact trivial | refine And.intro ?_ ?_ | exact Sees.of_eq rfl | exact lt_b rfl | rfl | exact Sees.int (succI hlt hl) | exact fzs_okk hc)
  · have hk' : k = l.length := by simp at hb; omega
    subst hk'
    refine Wk ?_
    exact resP.mk rfl (Sees.int (idxF_none hinv).symm)

theorem c_ContainsFuncInts (l : List Int) (p : Int → Bool) (g : Nat) (caps : List AV) (hl : l.length ≤ 281474976710656) (hcb : callable Tryz.prog g = true) (hc : fzs caps = some caps) (hp : ∀ x ∈ l, PCall Tryz.prog L g (encI x :: caps) (.bool (p x))) :
    PCall Tryz.prog L 140 [.sl false (l.map encI), .fn g caps] (.bool (l.any p)) := by
  refine PCall.intro mixed [] (nt := 9) Tryz.func140 rfl rfl (by simp) ?_
  refine Wk ?_
  refine CallK.data rfl (c_IndexFuncInts L l p g caps hl hcb hc hp) (by show (match fz _, fzs [AV.fn g caps] with | some a, some b => some (a :: b) | _, _ => none) = _; rw [show fzs [AV.fn g caps] = some [AV.fn g caps] from by simp [fz, fzs, hc]]; rfl) ?_
  refine Wk ?_
  exact resP.mk rfl (Sees.bool (idxF_any p l))

theorem c_BinLink (l : List Link) (t : Link) (g : Nat) (c : Link → Int) (hl : l.length ≤ 281474976710656) (hcb : callable Tryz.prog g = true) (hm : Mono c l) (hp : ∀ x ∈ l, PCall Tryz.prog L g [Link.av x, Link.av t] (.int .i64 (c x))) :
    PCall Tryz.prog L 145 [.sl false (l.map Link.av), Link.av t, .fn g []] (.tup [.int .i64 (posB c l), .bool (hasB c l)]) := by
  refine PCall.intro mixed [] (nt := 49) Tryz.func145 rfl rfl (by simp) ?_
  refine Wk ?_
  refine LoopK.run mixed [] (fun s : Nat × Nat => s.1 ≤ s.2 ∧ s.2 ≤ l.length ∧ (∀ i x, i < s.1 → l[i]? = some x → c x < 0) ∧ (∀ x, l[s.2]? = some x → ¬ c x < 0)) (fun s => [(0, .sl false (l.map Link.av)), (2, .fn g []), (4, .ptr 0 0), (8, .int .i64 l.length), (9, .int .i64 s.1), (10, .int .i64 s.2)]) (fun _ => ⟨[.cells (Link.av t).cells 56], [], 0, 0, fun _ => 0⟩) (fun s => s.2 - s.1) (0, l.length) ⟨by simp, by simp, by simp, by simp⟩ ?_ ?_
  · refine Fits.mk' rfl rfl rfl rfl ?_ ?_ ?_ ?_ ?_ <;> repeat' (first | exact trivial | refine And.intro ?_ ?_ | exact Sees.of_eq rfl | exact lt_b rfl | rfl | exact Sees.int (by simp))
  rintro ⟨i, j⟩ ⟨h1, h2, h3, h4⟩
  simp only at h1 h2 h3 h4
  refine Wk ?_
  refine BrK.mk (fun hb => ?_) (fun hb => ?_) <;> (try rw [hb])
  · have hlt : i < j := by simpa using hb
    have hw1 : IntKind.i64.wrap ((i : Int) + (j : Int)) = ((i + j : Nat) : Int) := by rw [w64] <;> omega
    have hw2 : IntKind.i64.wrap ((IntKind.u64.wrap ((i + j : Nat) : Int)).fdiv (2 ^ (min (1 : Int).toNat IntKind.u64.bits))) = (((i + j) / 2 : Nat) : Int) := half_ok (by omega)
    obtain ⟨m, hmid⟩ : ∃ m, m = (i + j) / 2 := ⟨_, rfl⟩
    have hml : m < l.length := by omega
    obtain ⟨x, hgx⟩ := getLt hml
    have hmx := getMap (f := Link.av) hgx
    have hpx := hp x (List.mem_of_getElem? hgx)
    rw [← hmid] at hw2
    repeat ((conv => whnf); first | refine sJ ?_ | refine And.intro (by first | exact (show (0 : Int) ≤ 1 by decide) | exact inbMap hml | kernel_rfl) ?_ | rw [hw1] | rw [hw2] | rw [hmx])
    try (conv => whnf)
    refine CallP.data hcb hpx (by rfl) ?_
    refine Wk ?_
    refine BrK.mk (fun h5 => ?_) (fun h5 => ?_) <;> (try rw [h5])
    · refine Wk ?_
      refine ⟨(m + 1, j), ⟨by simp only; omega, by simp only; omega, fun k y hk hy => ?_, h4⟩, by simp only; omega, ?_⟩
      · rcases Nat.lt_succ_iff_lt_or_eq.1 hk with hk | rfl
        · exact hm k m y x hk hy hgx (by simpa using h5)
        · rw [hgx] at hy; injection hy with hy; subst hy; simpa using h5
      · refine Fits.mk' rfl rfl rfl rfl ?_ ?_ ?_ ?_ ?_ <;> repeat' (first | exact trivial | refine And.intro ?_ ?_ | exact Sees.of_eq rfl | exact lt_b rfl | rfl | exact Sees.int (by rw [w64] <;> omega))
    · refine Wk ?_
      refine ⟨(i, m), ⟨by simp only; omega, by simp only; omega, h3, fun y hy => ?_⟩, by simp only; omega, ?_⟩
      · rw [hgx] at hy; injection hy with hy; subst hy; simpa using h5
      · refine Fits.mk' rfl rfl rfl rfl ?_ ?_ ?_ ?_ ?_ <;> repeat' (first | exact trivial | refine And.intro ?_ ?_ | exact Sees.of_eq rfl | exact lt_b rfl | rfl )
  · have hij : i = j := by simp at hb; omega
    subst hij
    have hpos : posB c l = i := posB_uniq h2 h3 h4
    refine Wk ?_
    refine BrK.mk (fun h6 => ?_) (fun h6 => ?_) <;> (try rw [h6])
    · have hlt : i < l.length := by simpa using h6
      obtain ⟨x, hgx⟩ := getLt hlt
      have hmx := getMap (f := Link.av) hgx
      have hpx := hp x (List.mem_of_getElem? hgx)
      repeat ((conv => whnf); first | refine sJ ?_ | refine And.intro (by first | exact inbMap hlt | kernel_rfl) ?_ | rw [hmx])
      try (conv => whnf)
      refine CallP.data hcb hpx (by rfl) ?_
      refine Wk ?_
      exact resP.mk rfl (Sees.of_eq (by simp only [hasB, hpos, hgx]))
    · refine Wk ?_
      have : l.length ≤ i := by simpa using h6
      exact resP.mk rfl (Sees.of_eq (by simp only [hasB, hpos, List.getElem?_eq_none this]))

theorem c_cpow1 (n : Net) (r : List Int) : PCall Tryz.prog L 137 [encIs r, .cptr n.av 0] (.bool ((r.length : Int) != n.nodes)) := by
  refine PCall.intro mixed [] (nt := 9) Tryz.func137 rfl rfl (by simp) ?_
  refine Wk ?_
  exact resP.mk rfl (Sees.bool (by simp))
theorem c_cpow2 (x : Int) : PCall Tryz.prog L 138 [.int .i64 x] (.bool (badP x)) := by
  refine PCall.intro mixed [] (nt := 9) Tryz.func138 rfl rfl (by simp) ?_
  refine Wk ?_
  refine BrK.mk (fun h => ?_) (fun h => ?_) <;> (try rw [h])
  · refine Wk ?_
    exact resP.mk rfl (Sees.bool (by simp [badP]; simp at h; omega))
  · refine Wk ?_
    exact resP.mk rfl (Sees.bool (by simp [badP]; simp at h; omega))
theorem c_cpow3 (r : List Int) (hr : r.length ≤ 281474976710656) : PCall Tryz.prog L 139 [encIs r, .cptr (.agg [.fn 138 []]) 0] (.bool (r.any badP)) := by
  refine PCall.intro mixed [] (nt := 7) Tryz.func139 rfl rfl (by simp) ?_
  refine Wk ?_
  first | refine CallK.data rfl (c_ContainsFuncInts L r badP 138 [] hr rfl rfl (fun x _ => c_cpow2 L x)) rfl ?_ | refine CallP.data rfl (c_ContainsFuncInts L r badP 138 [] hr rfl rfl (fun x _ => c_cpow2 L x)) rfl ?_
  refine Wk ?_
  exact resP.mk rfl (Sees.bool rfl)

/-- sizes that memory allows -/
def Net.small (n : Net) : Prop := n.power.length ≤ 281474976710656 ∧ (∀ r ∈ n.power, r.length ≤ 281474976710656) ∧ n.links.length ≤ 281474976710656 ∧ n.margin.length ≤ 281474976710656

theorem c_checkPower (n : Net) (hn : n.small) : PCall Tryz.prog L 101 [n.av] (.int .i64 (powerE n)) := by
  refine PCall.intro mixed [] (nt := 20) Tryz.func101 rfl rfl (by simp) ?_
  refine Wk ?_
  refine BrK.mk (fun h1 => ?_) (fun h1 => ?_) <;> (try rw [h1])
  · refine Wk ?_
    exact resP.mk rfl (Sees.int (by rw [powerE, if_pos (.inl (by simpa using h1))]))
  · refine Wk ?_
    first | refine CallK.box rfl (c_ContainsFuncRows L n.power (fun r => (r.length : Int) != n.nodes) 137 [.cptr n.av 0] hn.1 rfl rfl (fun r _ => c_cpow1 L n r)) rfl rfl ?_ | refine CallP.box rfl (c_ContainsFuncRows L n.power (fun r => (r.length : Int) != n.nodes) 137 [.cptr n.av 0] hn.1 rfl rfl (fun r _ => c_cpow1 L n r)) rfl rfl ?_
    refine Wk ?_
    refine BrK.mk (fun h2 => ?_) (fun h2 => ?_) <;> (try rw [h2])
    · refine Wk ?_
      exact resP.mk rfl (Sees.int (by rw [powerE, if_pos (.inr h2)]))
    · refine Wk ?_
      have h12 : ¬ ((n.power.length : Int) ≠ n.nodes ∨ n.power.any (fun r => (r.length : Int) != n.nodes) = true) := by
        simp only [h2, Bool.false_eq_true, or_false, ne_eq, Decidable.not_not]; simpa using h1
      first | refine CallK.box rfl (c_ContainsFuncRows L n.power (fun r => r.any badP) 139 [.cptr (.agg [.fn 138 []]) 0] hn.1 rfl rfl (fun r hr => c_cpow3 L r (hn.2.1 r hr))) rfl rfl ?_ | refine CallP.box rfl (c_ContainsFuncRows L n.power (fun r => r.any badP) 139 [.cptr (.agg [.fn 138 []]) 0] hn.1 rfl rfl (fun r hr => c_cpow3 L r (hn.2.1 r hr))) rfl rfl ?_
      refine Wk ?_
      refine BrK.mk (fun h3 => ?_) (fun h3 => ?_) <;> (try rw [h3])
      · refine Wk ?_
        exact resP.mk rfl (Sees.int (by rw [powerE, if_neg h12, if_pos h3]))
      · refine Wk ?_
        exact resP.mk rfl (Sees.int (by rw [powerE, if_neg h12, if_neg (by simp [h3])]))
end
end HM
