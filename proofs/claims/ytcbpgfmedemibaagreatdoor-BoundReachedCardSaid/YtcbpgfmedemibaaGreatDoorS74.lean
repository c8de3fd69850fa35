/- A player: the outcome of an attempt. -/
import Derived.Test.YtcbpgfmedemibaaGreatDoorS70
import Derived.Test.YtcbpgfmedemibaaGreatDoorFh
import Derived.Test.YtcbpgfmedemibaaGreatDoorDb

set_option maxRecDepth 100000
namespace HM
open Go Go.RowKit Go.Proofs
section
variable (L : World → Prop)
theorem c_BinRule (l : List Rule) (t : Rule) (g : Nat) (c : Rule → Int) (hl : l.length ≤ 281474976710656) (hcb : callable Tryz.prog g = true) (hm : Mono c l) (hp : ∀ x ∈ l, PCall Tryz.prog L g [Rule.av x, Rule.av t] (.int .i64 (c x))) :
    PCall Tryz.prog L 235 [.sl false (l.map Rule.av), Rule.av t, .fn g []] (.tup [.int .i64 (posB c l), .bool (hasB c l)]) := by
  refine PCall.intro mixed [] (nt := 49) Tryz.func235 rfl rfl (by simp) ?_
  refine Wk ?_
  refine LoopK.run mixed [] (fun s : Nat × Nat => s.1 ≤ s.2 ∧ s.2 ≤ l.length ∧ (∀ i x, i < s.1 → l[i]? = some x → c x < 0) ∧ (∀ x, l[s.2]? = some x → ¬ c x < 0)) (fun s => [(0, .sl false (l.map Rule.av)), (2, .fn g []), (4, .ptr 0 0), (8, .int .i64 l.length), (9, .int .i64 s.1), (10, .int .i64 s.2)]) (fun _ => ⟨[.cells (Rule.av t).cells 95], [], 0, 0, fun _ => 0⟩) (fun s => s.2 - s.1) (0, l.length) ⟨by simp, by simp, by simp, by simp⟩ ?_ ?_
  · refine Fits.mk' rfl rfl rfl rfl ?_ ?_ ?_ ?_ ?_ <;> repeat' (first | exact trivial | refine And.intro ?_ ?_ | exact Sees.of_eq rfl | exact lt_b rfl | rfl | exact Sees.int (by simp))
  rintro ⟨i, j⟩ ⟨h1, h2, h3, h4⟩
  simp only at h1 h2 h3 h4
  refine Wk ?_
  refine BrK.mk (fun hb => ?_) (fun hb => ?_) <;> (try rw [hb])
  · have hlt : i < j := by simpa using hb
    have hw1 : IntKind.i64.wrap ((i : Int) + (j : Int)) = ((i + j : Nat) : Int) := by rw [w64] <;> omega
    have hw2 : IntKind.i64.wrap ((IntKind.u64.wrap ((i + j : Nat) : Int)).fdiv (2 ^ (min (1 : Int).toNat IntKind.u64.bits))) = (((i + j) / 2 : Nat) : Int) := half_ok (by omega)
    obtain ⟨m, hmid⟩ : ∃ m, m = (i + j) / 2 := ⟨_, rfl⟩
    have hml : m < l.length := by omega
    obtain ⟨x, hgx⟩ := getLt hml
    have hmx := getMap (f := Rule.av) hgx
    have hpx := hp x (List.mem_of_getElem? hgx)
    rw [← hmid] at hw2
    repeat ((conv => whnf); first | refine sJ ?_ | refine And.intro (by first | exact (show (0 : Int) ≤ 1 by decide) | exact inbMap hml | kernel_rfl) ?_ | rw [hw1] | rw [hw2] | rw [hmx])
    try (conv => whnf)
    refine CallP.data hcb hpx (by rfl) ?_
    refine Wk ?_
    refine BrK.mk (fun h5 => ?_) (fun h5 => ?_) <;> (try rw [h5])
    · refine Wk ?_
      refine ⟨(m + 1, j), ⟨by simp only; omega, by simp only; omega, fun k y hk hy => ?_, h4⟩, by simp only; omega, ?_⟩
      · rcases Nat.lt_succ_iff_lt_or_eq.1 hk with hk | rfl
        · exact hm k m y x hk hy hgx (by simpa using h5)
        · rw [hgx] at hy; injection hy with hy; subst hy; simpa using h5
      · refine Fits.mk' rfl rfl rfl rfl ?_ ?_ ?_ ?_ ?_ <;> repeat' (first | exact trivial | refine And.intro ?_ ?_ | exact Sees.of_eq rfl | exact lt_b rfl | rfl | exact Sees.int (by rw [w64] <;> omega))
    · refine Wk ?_
      refine ⟨(i, m), ⟨by simp only; omega, by simp only; omega, h3, fun y hy => ?_⟩, by simp only; omega, ?_⟩
      · rw [hgx] at hy; injection hy with hy; subst hy; simpa using h5
      · refine Fits.mk' rfl rfl rfl rfl ?_ ?_ ?_ ?_ ?_ <;> repeat' (first | exact trivial | refine And.intro ?_ ?_ | exact Sees.of_eq rfl | exact lt_b rfl | rfl )
  · have hij : i = j := by simp at hb; omega
    subst hij
    have hpos : posB c l = i := posB_uniq h2 h3 h4
    refine Wk ?_
    refine BrK.mk (fun h6 => ?_) (fun h6 => ?_) <;> (try rw [h6])
    · have hlt : i < l.length := by simpa using h6
      obtain ⟨x, hgx⟩ := getLt hlt
      have hmx := getMap (f := Rule.av) hgx
      have hpx := hp x (List.mem_of_getElem? hgx)
      repeat ((conv => whnf); first | refine sJ ?_ | refine And.intro (by first | exact inbMap hlt | kernel_rfl) ?_ | rw [hmx])
      try (conv => whnf)
      refine CallP.data hcb hpx (by rfl) ?_
      refine Wk ?_
      exact resP.mk rfl (Sees.of_eq (by simp only [hasB, hpos, hgx]))
    · refine Wk ?_
      have : l.length ≤ i := by simpa using h6
      exact resP.mk rfl (Sees.of_eq (by simp only [hasB, hpos, List.getElem?_eq_none this]))

theorem St.flush_nil (S : St) : S.flush [] = S := rfl
theorem i_outcome (S : St) (p : Nat) (l : List Flow) (s : Sched) (x : List Rule) (sv av dv : AV) (id frame a b k : Int) (hs : (scriptM x).2 = 0) (hx : ∀ r ∈ x, r.outs.length ≤ 281474976710656) (hk0 : 0 ≤ k) {K : AV → St → Prop}
    (hp : S.bx[p]? = some (.cells (plC l s x sv av dv) 145)) (hK : ∀ tl : List Ob, K (.int .i64 (outcomeM x id frame a b k.toNat)) ⟨S.bx ++ tl, S.fr, S.n0, S.m0, S.ty⟩) :
    ICall Tryz.prog L 200 [.ptr p 0, .int .i64 id, .int .i64 frame, .agg [.int .i64 a, .int .i64 b], .int .i64 k] S K := by
  refine ICall.intro mixed [] (nt := 54) Tryz.func200 rfl rfl (by simp) ?_
  have hp' : S.inner.bx[p]? = some (.cells (plC l s x sv av dv) 145) := hp
  repeat ((conv => whnf); first | refine sJ ?_ | refine And.intro (by first | exact trivial | kernel_rfl) ?_ | rw [St.flush_nil] | rw [St.addB_old hp'] | rw [St.addB_get])
  try (conv => whnf)
  have hxl : x.length ≤ 1024 := (scriptM_zero hs).1
  obtain ⟨t, ht⟩ : ∃ t : Rule, t = ⟨id, a, b, frame, []⟩ := ⟨_, rfl⟩
  have hC := c_BinRule L x t 198 (ruleTo t) (by omega) rfl (script_mono hs t) (fun r _ => c_rcmp L r t)
  rw [ht] at hC
  first | refine CallK.data rfl (hC) rfl ?_ | refine CallP.data rfl (hC) rfl ?_
  rw [← ht]
  obtain ⟨g1, g2, g3, g4⟩ : t.flow = id ∧ t.frame = frame ∧ t.src = a ∧ t.dst = b := by subst ht; exact ⟨rfl, rfl, rfl, rfl⟩
  cases hh : hasB (ruleTo t) x with
  | false =>
    have hf := outcome_miss hs hh
    rw [g1, g2, g3, g4] at hf
    have hv : outcomeM x id frame a b k.toNat = 1 := by rw [outcomeM_eq, hf]
    rw [hv] at hK
    repeat ((conv => whnf); first | refine sJ ?_ | refine And.intro (by first | exact trivial | kernel_rfl) ?_ | rw [St.flush_nil] | rw [St.addB_old hp'] | rw [St.addB_get])
    try (conv => whnf)
    exact hK [_]
  | true =>
    obtain ⟨r, hr, hf⟩ := outcome_hit hh
    rw [g1, g2, g3, g4] at hf
    have hv : outcomeM x id frame a b k.toNat = (r.outs[k.toNat]?).getD 1 := by rw [outcomeM_eq, hf]
    rw [hv] at hK
    have hmr := getMap (f := Rule.av) hr
    have hpl := (List.getElem?_eq_some_iff.1 hr).1
    have hrl := hx r (List.mem_of_getElem? hr)
    repeat ((conv => whnf); first | refine sJ ?_ | refine And.intro (by first | exact trivial | exact inbMap hpl | kernel_rfl) ?_ | rw [St.flush_nil] | rw [St.addB_old hp'] | rw [St.addB_get] | rw [hmr])
    try (conv => whnf)
    refine BrK.mk (fun h1 => ?_) (fun h1 => ?_) <;> (try rw [h1])
    · have h1' : r.outs.length ≤ k.toNat := by simp at h1; omega
      rw [List.getElem?_eq_none h1'] at hK
      repeat ((conv => whnf); first | refine sJ ?_ | refine And.intro (by first | exact trivial | kernel_rfl) ?_ | rw [St.flush_nil] | rw [St.addB_old hp'] | rw [St.addB_get])
      try (conv => whnf)
      exact hK [_]
    · have h1' : k.toNat < r.outs.length := by simp at h1; omega
      obtain ⟨o, ho⟩ := getLt h1'
      have hmo := getMapI (f := encI) ho
      rw [ho] at hK
      repeat ((conv => whnf); first | refine sJ ?_ | refine And.intro (by first | exact trivial | exact inbMap hpl | exact inbI hk0 (by omega) | kernel_rfl) ?_ | rw [St.flush_nil] | rw [St.addB_old hp'] | rw [St.addB_get] | rw [hmr] | rw [hmo])
      try (conv => whnf)
      exact hK [_]
end
end HM
