/- The law on breaches: its parts. -/
import Derived.Test.YtadgamkgpgiodaaGreatDoorS114
import Derived.Test.YtadgamkgpgiodaaGreatDoorS110
import Derived.Test.YtadgamkgpgiodaaGreatDoorS84
import Derived.Test.YtadgamkgpgiodaaGreatDoorS111
import Derived.Test.YtadgamkgpgiodaaGreatDoorDb

set_option maxRecDepth 100000
namespace HM
open Go Go.RowKit Go.Proofs
section
variable (L : World → Prop)

theorem c_IndexFuncBrc (l : List Brc) (p : Brc → Bool) (g : Nat) (caps : List AV) (hl : l.length ≤ 281474976710656) (hcb : callable Tryz.prog g = true) (hc : fzs caps = some caps) (hp : ∀ x ∈ l, PCall Tryz.prog L g (Brc.av x :: caps) (.bool (p x))) :
    PCall Tryz.prog L 29 [.sl false (l.map Brc.av), .fn g caps] (.int .i64 (idxF p l)) := by
  refine PCall.intro mixed [] (nt := 19) Tryz.func29 rfl rfl (by simp) ?_
  refine Wk ?_
  refine LoopK.run mixed [] (fun (k : Nat) => k ≤ l.length ∧ ∀ j x, j < k → l[j]? = some x → p x = false) (fun k => [(0, .sl false (l.map Brc.av)), (1, .fn g caps), (7, .int .i64 l.length), (8, .int .i64 k)]) (fun k => St.none) (fun k => l.length - k) 0 ⟨by simp, by simp⟩ ?_ ?_
  · refine Fits.mk' rfl rfl rfl rfl ?_ ?_ ?_ ?_ ?_ <;> repeat' (first | exact trivial | refine And.intro ?_ ?_ | exact Sees.of_eq rfl | exact lt_b rfl | rfl | exact Sees.int (by simp) | exact fzs_okk hc)
  rintro k ⟨hk, hinv⟩
  refine Wk ?_
  refine BrK.mk (fun hb => ?_) (fun hb => ?_) <;> (try rw [hb])
  · have hlt : k < l.length := by simpa using hb
    obtain ⟨x, hgx⟩ := getLt hlt
    have hmx := getMap (f := Brc.av) hgx
    repeat ((conv => whnf); first | refine sJ ?_ | refine And.intro (by first | exact inbMap hlt | kernel_rfl) ?_ | rw [hmx])
    try (conv => whnf)
    refine CallK.data hcb (hp x (List.mem_of_getElem? hgx)) (by show (match fz _, fzs caps with | some a, some b => some (a :: b) | _, _ => none) = _; rw [hc]; rfl) ?_
    refine Wk ?_
    refine BrK.mk (fun h2 => ?_) (fun h2 => ?_) <;> (try rw [h2])
    · refine Wk ?_
      exact resP.mk rfl (Sees.int (idxF_some hlt hinv hgx h2).symm)
    · refine Wk ?_
      refine ⟨k + 1, ⟨by omega, fun j y hj hy => ?_⟩, by omega, ?_⟩
      · rcases Nat.lt_succ_iff_lt_or_eq.1 hj with h | rfl
        · exact hinv j y h hy
        · rw [hgx] at hy; injection hy with hy; subst hy; exact h2
      · refine Fits.mk' rfl rfl rfl rfl ?_ ?_ ?_ ?_ ?_ <;> repeat' (first | exact trivial | refine And.intro ?_ ?_ | exact Sees.of_eq rfl | exact lt_b rfl | rfl | exact Sees.int (succI hlt hl) | exact fzs_okk hc)
  · have hk' : k = l.length := by simp at hb; omega
    subst hk'
    refine Wk ?_
    exact resP.mk rfl (Sees.int (idxF_none hinv).symm)

theorem c_ContainsFuncBrc (l : List Brc) (p : Brc → Bool) (g : Nat) (caps : List AV) (hl : l.length ≤ 281474976710656) (hcb : callable Tryz.prog g = true) (hc : fzs caps = some caps) (hp : ∀ x ∈ l, PCall Tryz.prog L g (Brc.av x :: caps) (.bool (p x))) :
    PCall Tryz.prog L 10 [.sl false (l.map Brc.av), .fn g caps] (.bool (l.any p)) := by
  refine PCall.intro mixed [] (nt := 9) Tryz.func10 rfl rfl (by simp) ?_
  refine Wk ?_
  refine CallK.data rfl (c_IndexFuncBrc L l p g caps hl hcb hc hp) (by show (match fz _, fzs [AV.fn g caps] with | some a, some b => some (a :: b) | _, _ => none) = _; rw [show fzs [AV.fn g caps] = some [AV.fn g caps] from by simp [fz, fzs, hc]]; rfl) ?_
  refine Wk ?_
  exact resP.mk rfl (Sees.bool (idxF_any p l))

theorem c_EqInts (a b : List Int) (ha : a.length ≤ 281474976710656) : PCall Tryz.prog L 12 [encIs a, encIs b] (.bool (decide (a = b))) := by
  refine PCall.intro mixed [] (nt := 26) Tryz.func12 rfl rfl (by simp) ?_
  refine Wk ?_
  refine BrK.mk (fun h1 => ?_) (fun h1 => ?_) <;> (try rw [h1])
  · have hne : a.length ≠ b.length := by simp at h1; omega
    refine Wk ?_
    exact resP.mk rfl (Sees.bool (by rw [decide_eq_false (fun h => hne (by rw [h]))]))
  have hl : a.length = b.length := by simp at h1; omega
  refine Wk ?_
  refine LoopK.run mixed [] (fun (k : Nat) => k ≤ a.length ∧ ∀ (j : Nat) x y, j < k → a[j]? = some x → b[j]? = some y → x = y) (fun k => [(0, encIs a), (1, encIs b), (12, .int .i64 a.length), (13, .int .i64 k)]) (fun k => St.none) (fun k => a.length - k) 0 ⟨by simp, by simp⟩ ?_ ?_
  · refine Fits.mk' rfl rfl rfl rfl ?_ ?_ ?_ ?_ ?_ <;> repeat' (first | exact trivial | refine And.intro ?_ ?_ | exact Sees.of_eq rfl | exact lt_b rfl | rfl | exact Sees.int (by simp))
  rintro k ⟨hk, hinv⟩
  refine Wk ?_
  refine BrK.mk (fun hb => ?_) (fun hb => ?_) <;> (try rw [hb])
  · have hkt : k < a.length := by simpa using hb
    obtain ⟨x, hgx⟩ := getLt hkt
    obtain ⟨y, hgy⟩ := getLt (l := b) (k := k) (by omega)
    have hmx := getMap (f := encI) hgx
    have hmy := getMap (f := encI) hgy
    repeat ((conv => whnf); first | refine sJ ?_ | refine And.intro (by first | exact inbMap hkt | exact inbMap (by omega : k < b.length) | kernel_rfl) ?_ | rw [hmx] | rw [hmy])
    try (conv => whnf)
    refine BrK.mk (fun h2 => ?_) (fun h2 => ?_) <;> (try rw [h2])
    · have hne : ¬ a = b := fun h => by
        subst h
        rw [hgx] at hgy
        injection hgy with hgy
        subst hgy
        simp at h2
      refine Wk ?_
      exact resP.mk rfl (Sees.bool (by rw [decide_eq_false hne]))
    · have hxy : x = y := by simpa using h2
      refine Wk ?_
      refine ⟨k + 1, ⟨by omega, fun j x' y' hj hx' hy' => ?_⟩, by omega, ?_⟩
      · rcases Nat.lt_succ_iff_lt_or_eq.1 hj with h | rfl
        · exact hinv j x' y' h hx' hy'
        · rw [hgx] at hx'; rw [hgy] at hy'; injection hx' with hx'; injection hy' with hy'; rw [← hx', ← hy', hxy]
      · refine Fits.mk' rfl rfl rfl rfl ?_ ?_ ?_ ?_ ?_ <;> repeat' (first | exact trivial | refine And.intro ?_ ?_ | exact Sees.of_eq rfl | exact lt_b rfl | rfl | exact Sees.int (succI hkt ha))
  · have hkn : k = a.length := by simp at hb; omega
    subst hkn
    refine Wk ?_
    exact resP.mk rfl (Sees.bool (by rw [decide_eq_true (eq_of_at hl hinv)]))

theorem c_brk2 (b : Brc) (f : Flow) (frame : Int) (l : Link) : PCall Tryz.prog L 13 [b.av, .cptr f.av 0, .cptr (.agg [.int .i64 frame]) 0, .cptr l.av 0] (.bool (b.flow == f.id && (b.frame == frame && (b.src == l.src && b.dst == l.dst)))) := by
  refine PCall.intro mixed [] (nt := 31) Tryz.func13 rfl rfl (by simp) ?_
  refine Wk ?_
  cases h1 : b.flow == f.id <;> refine Wk ?_
  · exact resP.mk rfl (Sees.bool rfl)
  cases h2 : b.frame == frame <;> refine Wk ?_
  · exact resP.mk rfl (Sees.bool rfl)
  cases h3 : b.src == l.src <;> refine Wk ?_
  · exact resP.mk rfl (Sees.bool rfl)
  exact resP.mk rfl (Sees.bool rfl)

theorem c_brk1 (b : Brc) (f : Flow) (frame : Int) (l : Link) (row : List Int) (hb : b.slots.length ≤ 281474976710656) : PCall Tryz.prog L 11 [b.av, .cptr f.av 0, .cptr (.agg [.int .i64 frame]) 0, .cptr l.av 0, .cptr (.agg [encIs row]) 0] (.bool (b.flow == f.id && (b.frame == frame && (b.src == l.src && (b.dst == l.dst && decide (b.slots = row)))))) := by
  refine PCall.intro mixed [] (nt := 38) Tryz.func11 rfl rfl (by simp) ?_
  refine Wk ?_
  cases h1 : b.flow == f.id <;> refine Wk ?_
  · exact resP.mk rfl (Sees.bool rfl)
  cases h2 : b.frame == frame <;> refine Wk ?_
  · exact resP.mk rfl (Sees.bool rfl)
  cases h3 : b.src == l.src <;> refine Wk ?_
  · exact resP.mk rfl (Sees.bool rfl)
  cases h4 : b.dst == l.dst <;> refine Wk ?_
  · exact resP.mk rfl (Sees.bool rfl)
  first | refine CallK.data rfl (c_EqInts L b.slots row hb) rfl ?_ | refine CallP.data rfl (c_EqInts L b.slots row hb) rfl ?_
  refine Wk ?_
  exact resP.mk rfl (Sees.bool rfl)
end
end HM
