/- Admit: rooms of a slot; which cells are at an offset. -/
import Derived.Test.YtgfboaadhlhjhaaGreatDoorS34
import Derived.Test.YtgfboaadhlhjhaaGreatDoorS54
import Derived.Test.YtgfboaadhlhjhaaGreatDoorDc
set_option maxRecDepth 100000
namespace HM
open Go Go.RowKit Go.Proofs
theorem CallK.look {P : Program} {L : World → Prop} {S : St} {fv : AV} {args args' : List AV} {K : AV → St → Prop} (h : SeesL args args') (hp : CallK P L S fv args' K) : CallK P L S fv args K :=
  ⟨fun ro w0 G w fvv vals hS hf ha => hp.out ro w0 G w fvv vals hS hf (h.out ha)⟩
def gridAv (n : Net) (s : Sched) : AV := .agg [.int .i64 n.nodes, encRows n.power, .int .i64 n.noise, .int .i64 n.thr, encLinks n.links, encIs n.margin, .int .i64 s.len, .int .i64 s.offs, encCells s.cells]
section
variable (L : World → Prop)
theorem c_touchA (c : Cell) (l : Link) : PCall Tryz.prog L 94 [c.av, l.av] (.bool (touL l.src l.dst c)) := by
  refine PCall.intro mixed [] (nt := 31) Tryz.func94 rfl rfl (by simp) ?_
  cases h1 : (c.src == l.src) <;> cases h2 : (c.src == l.dst) <;> cases h3 : (c.dst == l.src) <;> cases h4 : (c.dst == l.dst)
  all_goals
    repeat ((conv => whnf); first | refine sJ ?_ | refine And.intro (by first | exact trivial | kernel_rfl) ?_ | rw [h1] | rw [h2] | rw [h3] | rw [h4])
    try (conv => whnf)
    exact resP.mk rfl (Sees.bool (by unfold touL; rw [h1, h2, h3, h4]; rfl))
theorem c_off11 (c : Cell) (n : Int) : PCall Tryz.prog L 95 [c.av, .cptr (.agg [.int .i64 n]) 0] (.bool (c.off != n)) := by
  refine PCall.intro mixed [] (nt := 8) Tryz.func95 rfl rfl (by simp) ?_
  refine Wk ?_
  exact resP.mk rfl (Sees.bool rfl)
theorem c_offsets (n : Net) (s : Sched) (l : Link) (slot : Int) : PCall Tryz.prog L 41 [gridAv n s, l.av, .int .i64 slot] (.fn 93 [.cptr (gridAv n s) 0, .cptr (.agg [.int .i64 slot]) 0, .cptr l.av 0]) := by
  refine PCall.intro mixed [] (nt := 8) Tryz.func41 rfl rfl (by simp) ?_
  refine Wk ?_
  exact resP.mk rfl (Sees.of_eq rfl)
def hasE (a b id slot : Int) (c : Cell) : Bool := c.slot == slot && (c.src == a && (c.dst == b && c.flow == id))
theorem c_has1 (c : Cell) (l : Link) (id slot : Int) : PCall Tryz.prog L 193 [c.av, .cptr (.agg [.int .i64 slot]) 0, .cptr l.av 0, .cptr (.agg [.int .i64 id]) 0] (.bool (hasE l.src l.dst id slot c)) := by
  refine PCall.intro mixed [] (nt := 30) Tryz.func193 rfl rfl (by simp) ?_
  cases h1 : (c.slot == slot) <;> cases h2 : (c.src == l.src) <;> cases h3 : (c.dst == l.dst) <;> cases h4 : (c.flow == id)
  all_goals
    repeat ((conv => whnf); first | refine sJ ?_ | refine And.intro (by first | exact trivial | kernel_rfl) ?_ | rw [h1] | rw [h2] | rw [h3] | rw [h4])
    try (conv => whnf)
    exact resP.mk rfl (Sees.bool (by unfold hasE; rw [h1, h2, h3, h4]; rfl))
theorem c_has (n : Net) (s : Sched) (l : Link) (id slot : Int) (hc : s.cells.length ≤ 281474976710656) : PCall Tryz.prog L 175 [gridAv n s, l.av, .int .i64 id, .int .i64 slot] (.bool (hasF s l.src l.dst id slot)) := by
  refine PCall.intro mixed [] (nt := 14) Tryz.func175 rfl rfl (by simp) ?_
  refine Wk ?_
  first | refine CallK.box rfl (c_ContainsFuncCell L s.cells (hasE l.src l.dst id slot) 193 [.cptr (.agg [.int .i64 slot]) 0, .cptr l.av 0, .cptr (.agg [.int .i64 id]) 0] hc rfl rfl (fun c _ => c_has1 L c l id slot)) rfl rfl ?_ | refine CallP.box rfl (c_ContainsFuncCell L s.cells (hasE l.src l.dst id slot) 193 [.cptr (.agg [.int .i64 slot]) 0, .cptr l.av 0, .cptr (.agg [.int .i64 id]) 0] hc rfl rfl (fun c _ => c_has1 L c l id slot)) rfl rfl ?_
  refine Wk ?_
  exact resP.mk rfl (Sees.bool rfl)
def orI : List Int → Int
  | [] => 0
  | x :: l => if x ≠ 0 then x else orI l
theorem orI_skip : ∀ {l : List Int} {k : Nat}, (∀ (j : Nat) x, j < k → l[j]? = some x → x = 0) → orI l = orI (l.drop k)
  | [], k, _ => by simp
  | x :: l, 0, _ => rfl
  | x :: l, k + 1, h => by
    have h0 := h 0 x (by omega) rfl
    rw [List.drop_succ_cons, ← orI_skip (l := l) (k := k) fun j y hj hy => h (j + 1) y (by omega) (by simpa using hy), orI, if_neg (by simp [h0])]
theorem c_OrI (l : List Int) (hl : l.length ≤ 281474976710656) : PCall Tryz.prog L 169 [encIs l] (.int .i64 (orI l)) := by
  refine PCall.intro mixed [] (nt := 18) Tryz.func169 rfl rfl (by simp) ?_
  refine Wk ?_
  refine LoopK.run mixed [] (fun (k : Nat) => k ≤ l.length ∧ ∀ (j : Nat) x, j < k → l[j]? = some x → x = 0) (fun k => [(3, .int .i64 0), (6, encIs l), (7, .int .i64 l.length), (8, .int .i64 k)]) (fun k => St.none) (fun k => l.length - k) 0 ⟨by simp, by simp⟩ ?_ ?_
  · refine Fits.mk' rfl rfl rfl rfl ?_ ?_ ?_ ?_ ?_ <;> repeat' (first | exact trivial | refine And.intro ?_ ?_ | exact Sees.of_eq rfl | exact lt_b rfl | rfl | exact Sees.int (by simp))
  rintro k ⟨hk, hinv⟩
  by_cases hkt : k < l.length
  · obtain ⟨x, hgx⟩ := getLt hkt
    have hmx := getMap (f := encI) hgx
    have g0 : decide ((k : Int) < (l.length : Int)) = true := decide_eq_true (by omega)
    have hor : orI l = orI (l.drop k) := orI_skip hinv
    rw [dropGet hgx] at hor
    by_cases hx : x = 0
    · have g1 : (x != 0) = false := by simp [hx]
      repeat ((conv => whnf); first | refine sJ ?_ | refine And.intro (by first | exact trivial | exact inbMap hkt | kernel_rfl) ?_ | rw [g0] | rw [hmx] | rw [g1])
      try (conv => whnf)
      refine ⟨k + 1, ⟨by omega, fun j y hj hy => ?_⟩, by omega, ?_⟩
      · rcases Nat.lt_succ_iff_lt_or_eq.1 hj with hj | rfl
        · exact hinv j y hj hy
        · rw [hgx] at hy; injection hy with hy; rw [← hy]; exact hx
      · refine Fits.mk' rfl rfl rfl rfl ?_ ?_ ?_ ?_ ?_ <;> repeat' (first | exact trivial | refine And.intro ?_ ?_ | exact Sees.of_eq rfl | exact lt_b rfl | rfl | exact Sees.int (succI hkt hl))
    · have g1 : (x != 0) = true := by simpa using hx
      repeat ((conv => whnf); first | refine sJ ?_ | refine And.intro (by first | exact trivial | exact inbMap hkt | kernel_rfl) ?_ | rw [g0] | rw [hmx] | rw [g1])
      try (conv => whnf)
      exact resP.mk rfl (Sees.int (by rw [hor, orI, if_pos hx]))
  · have hkn : k = l.length := by omega
    subst hkn
    have g0 : decide ((l.length : Int) < (l.length : Int)) = false := decide_eq_false (by omega)
    have hor : orI l = orI (l.drop l.length) := orI_skip hinv
    rw [List.drop_length] at hor
    repeat ((conv => whnf); first | refine sJ ?_ | refine And.intro (by first | exact trivial | kernel_rfl) ?_ | rw [g0])
    try (conv => whnf)
    exact resP.mk rfl (Sees.int (by rw [hor]; rfl))
theorem orI_cmp (a b : Cell) : orI [cmpI a.slot b.slot, cmpI a.off b.off, cmpI a.src b.src, cmpI a.dst b.dst, cmpI a.flow b.flow] = a.cmp b := by
  unfold Cell.cmp Cell.nums
  simp only [orI, cmpL]
  repeat' split
  all_goals first | rfl | omega | (simp_all; done)
theorem c_acompare (a b : Cell) : PCall Tryz.prog L 176 [a.av, b.av] (.int .i64 (a.cmp b)) := by
  refine PCall.intro mixed [] (nt := 32) Tryz.func176 rfl rfl (by simp) ?_
  refine Wk ?_
  first | refine CallK.data rfl (c_cmp L a.slot b.slot) rfl ?_ | refine CallP.data rfl (c_cmp L a.slot b.slot) rfl ?_
  refine Wk ?_
  first | refine CallK.data rfl (c_cmp L a.off b.off) rfl ?_ | refine CallP.data rfl (c_cmp L a.off b.off) rfl ?_
  refine Wk ?_
  first | refine CallK.data rfl (c_cmp L a.src b.src) rfl ?_ | refine CallP.data rfl (c_cmp L a.src b.src) rfl ?_
  refine Wk ?_
  first | refine CallK.data rfl (c_cmp L a.dst b.dst) rfl ?_ | refine CallP.data rfl (c_cmp L a.dst b.dst) rfl ?_
  refine Wk ?_
  first | refine CallK.data rfl (c_cmp L a.flow b.flow) rfl ?_ | refine CallP.data rfl (c_cmp L a.flow b.flow) rfl ?_
  refine Wk ?_
  refine CallP.box rfl (c_OrI L [cmpI a.slot b.slot, cmpI a.off b.off, cmpI a.src b.src, cmpI a.dst b.dst, cmpI a.flow b.flow] (by simp)) rfl rfl ?_
  refine Wk ?_
  exact resP.mk rfl (Sees.int (orI_cmp a b))
end
end HM
