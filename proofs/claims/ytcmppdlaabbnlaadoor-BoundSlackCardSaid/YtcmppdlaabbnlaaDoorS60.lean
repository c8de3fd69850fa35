/- The law on the slack. -/
import Derived.Test.YtcmppdlaabbnlaaDoorS47
import Derived.Test.YtcmppdlaabbnlaaDoorS58
import Derived.Test.YtcmppdlaabbnlaaDoorS59
import Derived.Test.YtcmppdlaabbnlaaDoorFh

set_option maxRecDepth 100000
namespace HM
open Go Go.RowKit Go.Proofs

theorem Same.small {n m : Net} (h : Same n m) (hn : n.small) : m.small := by
  obtain ⟨h1, h2, h3, h4⟩ := hn
  exact ⟨by rw [h.power]; exact h1, by rw [h.power]; exact h2, by rw [h.len]; exact h3, by rw [h.margin]; exact h4⟩
theorem weakR_same {n : Net} {r : List Int} {k : Int} : ∀ (j : Nat), Same n (weakR n r k j).1
  | 0 => Same.rfl' n
  | j + 1 => by
    have ih := weakR_same (n := n) (r := r) (k := k) j
    unfold weakR
    split
    · rename_i m hm
      rw [hm] at ih
      split
      · rename_i hz
        unfold weakM at hz ⊢
        split at hz
        · cases hz
        split at hz
        · cases hz
        split at hz
        · cases hz
        rename_i g1 g2 g3
        rw [if_neg g1, if_neg g2, if_neg g3]
        exact ih.trans (bump_same _ _ _)
      · exact ih
    · rename_i m hm
      rw [hm] at ih
      exact ih

set_option maxHeartbeats 4000000 in
theorem c_weaker (n : Net) (r : List Int) (k : Int) (hn : n.small) (hok : NetOk n) (hk : k ≤ 8) (hr : 1 ≤ r.length ∧ r.length ≤ 12) :
    PCall Tryd.prog LW 18 [.int .i64 k, .cptr n.av 0, .cptr (.agg [encIs r]) 0] (.tup [(weakR n r k (r.length - 1)).1.av, .bool (weakR n r k (r.length - 1)).2]) := by
  refine PCall.intro mixed [] (nt := 38) Tryd.func18 rfl rfl (by simp) ?_
  repeat ((conv => whnf); first | (refine And.intro (by first | rfl | exact ⟨rfl, rfl⟩ | exact Or.inl ⟨_, rfl⟩ | exact Or.inr rfl | exact le_b rfl | ((repeat' (first | exact Els.nil _ | refine Els.cons rfl rfl ?_)); done) | exact Els.map (fun _ => ⟨rfl, rfl⟩)  | kernel_rfl) ?_) )
  try (conv => whnf)
  first | refine CallK.data rfl (c_Copy31 LW n hok) rfl ?_ | refine CallP.data rfl (c_Copy31 LW n hok) rfl ?_
  repeat ((conv => whnf); first | (refine And.intro (by first | rfl | exact ⟨rfl, rfl⟩ | exact Or.inl ⟨_, rfl⟩ | exact Or.inr rfl | exact le_b rfl | ((repeat' (first | exact Els.nil _ | refine Els.cons rfl rfl ?_)); done) | exact Els.map (fun _ => ⟨rfl, rfl⟩)  | kernel_rfl) ?_) )
  try (conv => whnf)
  refine LoopK.run mixed [10005] (fun s : Nat × Net => s.1 + 1 ≤ r.length ∧ weakR n r k s.1 = (s.2, true)) (fun s => [(0, .int .i64 k), (1, .cptr n.av 0), (2, .cptr (.agg [encIs r]) 0), (4, .ptr 0 0), (5, .bool false), (6, .ptr 1 0), (7, .int .i64 (s.1 + 1 : Nat))]) (fun s => ⟨[.cells zN 26, .cells s.2.cs 26], [], 0, 0, fun _ => 0⟩) (fun s => r.length - s.1) (0, n) ⟨by simp; omega, rfl⟩ ?_ ?_
  · refine Fits.mk' rfl rfl rfl rfl ?_ ?_ ?_ ?_ ?_ <;> repeat' (first | exact trivial | refine And.intro ?_ ?_ | exact Sees.of_eq rfl | exact lt_b rfl | rfl | exact SeesO.rfl' _)
  rintro ⟨j, m⟩ ⟨hj, hm⟩
  simp only at hj hm
  have hms : m.small := by
    have := weakR_same (n := n) (r := r) (k := k) j
    rw [hm] at this
    exact this.small hn
  repeat ((conv => whnf); first | (refine And.intro (by first | rfl | exact ⟨rfl, rfl⟩ | exact Or.inl ⟨_, rfl⟩ | exact Or.inr rfl | exact le_b rfl | ((repeat' (first | exact Els.nil _ | refine Els.cons rfl rfl ?_)); done) | exact Els.map (fun _ => ⟨rfl, rfl⟩)  | kernel_rfl) ?_) )
  try (conv => whnf)
  refine BrK.mk (fun h1 => ?_) (fun h1 => ?_) <;> (try rw [h1])
  · have hlt : j + 1 < r.length := lenLt h1
    obtain ⟨y, hgy⟩ := getLt hlt
    have hmy := getMap (f := encI) hgy
    obtain ⟨x, hgx⟩ := getLt (l := r) (k := j) (by omega)
    have hmx := getMap (f := encI) hgx
    have hxd : r.getD j 0 = x := by rw [List.getD_eq_getElem?_getD, hgx]; rfl
    have hyd : r.getD (j + 1) 0 = y := by rw [List.getD_eq_getElem?_getD, hgy]; rfl
    have hw : IntKind.i64.wrap (((j + 1 : Nat) : Int) - 1) = (j : Int) := by rw [w64] <;> omega
    repeat ((conv => whnf); first | (refine And.intro (by first | rfl | exact ⟨rfl, rfl⟩ | exact Or.inl ⟨_, rfl⟩ | exact Or.inr rfl | exact le_b rfl | ((repeat' (first | exact Els.nil _ | refine Els.cons rfl rfl ?_)); done) | exact Els.map (fun _ => ⟨rfl, rfl⟩)  | kernel_rfl) ?_) )
    try (conv => whnf)
    refine SemK.regionMix mixed [0, 1, 2, 3, 4, 5, 6, 7, 8, 9, 10, 11, 12, 13, 14, 17] 2 rfl rfl (by decide) rfl ?_
    repeat ((conv => whnf); first | (refine And.intro (by first | rfl | exact ⟨rfl, rfl⟩ | exact Or.inl ⟨_, rfl⟩ | exact Or.inr rfl | exact le_b rfl | ((repeat' (first | exact Els.nil _ | refine Els.cons rfl rfl ?_)); done) | exact Els.map (fun _ => ⟨rfl, rfl⟩) | exact inbMap hlt | (rw [hw]; exact inbMap (by omega)) | kernel_rfl) ?_) | rw [hw] | rw [hmx] | rw [hmy])
    try (conv => whnf)
    first | refine CallK.data rfl (c_Weaker LW m hms x y k hk) rfl ?_ | refine CallP.data rfl (c_Weaker LW m hms x y k hk) rfl ?_
    obtain ⟨q, hq⟩ : ∃ q, q = weakM m x y k := ⟨_, rfl⟩
    obtain ⟨m2, e⟩ := q
    rw [← hq]
    repeat' ((conv => whnf); first | exact trivial | (refine And.intro (by first | rfl | exact ⟨rfl, rfl⟩ | exact Or.inl ⟨_, rfl⟩ | exact Or.inr rfl | exact le_b rfl | ((repeat' (first | exact Els.nil _ | refine Els.cons rfl rfl ?_)); done) | exact Els.map (fun _ => ⟨rfl, rfl⟩) | exact trivial | exact More.pre rfl rfl | kernel_rfl) ?_) | refine And.intro ?_ ?_ )
    refine BrK.mk (fun h2 => ?_) (fun h2 => ?_) <;> (try rw [h2])
    · have he : e ≠ 0 := by simpa using h2
      have hf := weakR_fail hm (by rw [hxd, hyd, ← hq]; exact he) (r.length - 1) (by omega)
      repeat ((conv => whnf); first | (refine And.intro (by first | rfl | exact ⟨rfl, rfl⟩ | exact Or.inl ⟨_, rfl⟩ | exact Or.inr rfl | exact le_b rfl | ((repeat' (first | exact Els.nil _ | refine Els.cons rfl rfl ?_)); done) | exact Els.map (fun _ => ⟨rfl, rfl⟩)  | kernel_rfl) ?_) )
      try (conv => whnf)
      exact resP.mk rfl (Sees.of_eq (by rw [hf]; rfl))
    · have he : e = 0 := by simpa using h2
      have hst := weakR_step hm (by rw [hxd, hyd, ← hq]; exact he)
      rw [hxd, hyd, ← hq] at hst
      repeat ((conv => whnf); first | (refine And.intro (by first | rfl | exact ⟨rfl, rfl⟩ | exact Or.inl ⟨_, rfl⟩ | exact Or.inr rfl | exact le_b rfl | ((repeat' (first | exact Els.nil _ | refine Els.cons rfl rfl ?_)); done) | exact Els.map (fun _ => ⟨rfl, rfl⟩)  | kernel_rfl) ?_) )
      try (conv => whnf)
      refine ⟨(j + 1, m2), ⟨by simp only; omega, hst⟩, by simp only; omega, ?_⟩
      refine Fits.mk' rfl rfl rfl rfl ?_ ?_ ?_ ?_ ?_ <;> repeat' (first | exact trivial | refine And.intro ?_ ?_ | exact Sees.of_eq rfl | exact lt_b rfl | rfl | exact SeesO.rfl' _ | exact Sees.int (succI hlt (by omega)))
  · have hjl : j = r.length - 1 := by have := lenGe h1; omega
    subst hjl
    repeat ((conv => whnf); first | (refine And.intro (by first | rfl | exact ⟨rfl, rfl⟩ | exact Or.inl ⟨_, rfl⟩ | exact Or.inr rfl | exact le_b rfl | ((repeat' (first | exact Els.nil _ | refine Els.cons rfl rfl ?_)); done) | exact Els.map (fun _ => ⟨rfl, rfl⟩)  | kernel_rfl) ?_) )
    try (conv => whnf)
    exact resP.mk rfl (Sees.of_eq (by rw [hm]; rfl))

set_option maxHeartbeats 8000000 in
theorem c_BoundSlack (n : Net) (s : Sched) (f : Flow) (r : List Int) (hn : n.small) (hc : s.cells.length ≤ 281474976710656) (hr : r.length ≤ 281474976710656) :
    PCall Tryd.prog LW 4 [n.av, s.av, f.av, encIs r] (.bool true) := by
  refine PCall.intro mixed [1] (nt := 156) Tryd.func4 rfl rfl (by simp) ?_
  repeat ((conv => whnf); first | (refine And.intro (by first | rfl | exact ⟨rfl, rfl⟩ | exact Or.inl ⟨_, rfl⟩ | exact Or.inr rfl | exact le_b rfl | ((repeat' (first | exact Els.nil _ | refine Els.cons rfl rfl ?_)); done) | exact Els.map (fun _ => ⟨rfl, rfl⟩)  | kernel_rfl) ?_) )
  try (conv => whnf)
  refine SeqK.sem mixed [] ?_
  repeat ((conv => whnf); first | (refine And.intro (by first | rfl | exact ⟨rfl, rfl⟩ | exact Or.inl ⟨_, rfl⟩ | exact Or.inr rfl | exact le_b rfl | ((repeat' (first | exact Els.nil _ | refine Els.cons rfl rfl ?_)); done) | exact Els.map (fun _ => ⟨rfl, rfl⟩)  | kernel_rfl) ?_) )
  try (conv => whnf)
  refine SemK.freezeB 0 rfl rfl ?_
  refine SemK.freezeB 1 rfl rfl ?_
  refine SemK.freezeB 2 rfl rfl ?_
  refine SemK.freezeB 3 rfl rfl ?_
  refine twC_sound (ct := []) mixed _ _ _ _ ?_
  repeat ((conv => whnf); first | (refine And.intro (by first | rfl | exact ⟨rfl, rfl⟩ | exact Or.inl ⟨_, rfl⟩ | exact Or.inr rfl | exact le_b rfl | ((repeat' (first | exact Els.nil _ | refine Els.cons rfl rfl ?_)); done) | exact Els.map (fun _ => ⟨rfl, rfl⟩)  | kernel_rfl) ?_) )
  try (conv => whnf)
  first | refine CallK.data rfl (c_awake37) rfl ?_ | refine CallP.data rfl (c_awake37) rfl ?_
  repeat ((conv => whnf); first | (refine And.intro (by first | rfl | exact ⟨rfl, rfl⟩ | exact Or.inl ⟨_, rfl⟩ | exact Or.inr rfl | exact le_b rfl | ((repeat' (first | exact Els.nil _ | refine Els.cons rfl rfl ?_)); done) | exact Els.map (fun _ => ⟨rfl, rfl⟩)  | kernel_rfl) ?_) )
  try (conv => whnf)
  first | refine CallK.data rfl (c_Few37 LW n s [r] hn (by simp)) rfl ?_ | refine CallP.data rfl (c_Few37 LW n s [r] hn (by simp)) rfl ?_
  repeat ((conv => whnf); first | (refine And.intro (by first | rfl | exact ⟨rfl, rfl⟩ | exact Or.inl ⟨_, rfl⟩ | exact Or.inr rfl | exact le_b rfl | ((repeat' (first | exact Els.nil _ | refine Els.cons rfl rfl ?_)); done) | exact Els.map (fun _ => ⟨rfl, rfl⟩)  | kernel_rfl) ?_) )
  try (conv => whnf)
  refine BrK.mk (fun h1 => ?_) (fun h1 => ?_) <;> (try rw [h1])
  · repeat ((conv => whnf); first | (refine And.intro (by first | rfl | exact ⟨rfl, rfl⟩ | exact Or.inl ⟨_, rfl⟩ | exact Or.inr rfl | exact le_b rfl | ((repeat' (first | exact Els.nil _ | refine Els.cons rfl rfl ?_)); done) | exact Els.map (fun _ => ⟨rfl, rfl⟩)  | kernel_rfl) ?_) )
    try (conv => whnf)
    exact resP.mk rfl (Sees.of_eq rfl)
  repeat ((conv => whnf); first | (refine And.intro (by first | rfl | exact ⟨rfl, rfl⟩ | exact Or.inl ⟨_, rfl⟩ | exact Or.inr rfl | exact le_b rfl | ((repeat' (first | exact Els.nil _ | refine Els.cons rfl rfl ?_)); done) | exact Els.map (fun _ => ⟨rfl, rfl⟩)  | kernel_rfl) ?_) )
  try (conv => whnf)
  first | refine CallK.data rfl (c_BSlack n s f r hn hc hr) rfl ?_ | refine CallP.data rfl (c_BSlack n s f r hn hc hr) rfl ?_
  repeat ((conv => whnf); first | (refine And.intro (by first | rfl | exact ⟨rfl, rfl⟩ | exact Or.inl ⟨_, rfl⟩ | exact Or.inr rfl | exact le_b rfl | ((repeat' (first | exact Els.nil _ | refine Els.cons rfl rfl ?_)); done) | exact Els.map (fun _ => ⟨rfl, rfl⟩)  | kernel_rfl) ?_) )
  try (conv => whnf)
  first | refine CallK.data rfl (c_BRoute n s f r hn hc hr) rfl ?_ | refine CallP.data rfl (c_BRoute n s f r hn hc hr) rfl ?_
  obtain ⟨q, hq⟩ : ∃ q, slackM n s f r = q := ⟨_, rfl⟩
  obtain ⟨k, e⟩ := q
  rw [hq]
  repeat ((conv => whnf); first | (refine And.intro (by first | rfl | exact ⟨rfl, rfl⟩ | exact Or.inl ⟨_, rfl⟩ | exact Or.inr rfl | exact le_b rfl | ((repeat' (first | exact Els.nil _ | refine Els.cons rfl rfl ?_)); done) | exact Els.map (fun _ => ⟨rfl, rfl⟩)  | kernel_rfl) ?_) )
  try (conv => whnf)
  refine BrK.mk (fun h2 => ?_) (fun h2 => ?_) <;> (try rw [h2])
  · have he : e ≠ 0 := by simpa using h2
    obtain ⟨g1, g2⟩ := slack_bad hq he
    clear hq
    generalize routeM n s f r = A at g2 ⊢
    obtain ⟨b, w, l, g⟩ := A
    simp only at g2
    subst g1
    repeat' ((conv => whnf); first | (refine And.intro (by first | rfl | exact ⟨rfl, rfl⟩ | exact Or.inl ⟨_, rfl⟩ | exact Or.inr rfl | exact le_b rfl | ((repeat' (first | exact Els.nil _ | refine Els.cons rfl rfl ?_)); done) | exact Els.map (fun _ => ⟨rfl, rfl⟩)  | kernel_rfl) ?_)  | (refine BrK.mk (fun hb => ?_) (fun hb => ?_) <;> (try rw [hb])))
    all_goals try (conv => whnf)
    all_goals exact resP.mk rfl (Sees.bool (by simp_all))
  have he : e = 0 := by simpa using h2
  obtain ⟨g1, g2, g3, g4, g5, g6⟩ := slack_law hq he
  subst he
  have hway : wayE n s f r = 0 := by
    unfold slackM at hq
    split at hq
    · rename_i hw
      simp only [Prod.mk.injEq] at hq
      exact absurd hq.2 hw
    · rename_i hw
      simpa using hw
  have hok := wayE_ok hway
  have hlen := hok.len
  generalize routeM n s f r = A at g1 g2 ⊢
  obtain ⟨b, w, l, g⟩ := A
  simp only at g1 g2
  subst g1
  have hd1 : decide (f.dead < b) = false := decide_eq_false (by omega)
  have hd2 : decide (k < 0) = false := decide_eq_false (by omega)
  have hd3 : decide (7 < k) = false := decide_eq_false (by omega)
  repeat ((conv => whnf); first | (refine And.intro (by first | rfl | exact ⟨rfl, rfl⟩ | exact Or.inl ⟨_, rfl⟩ | exact Or.inr rfl | exact le_b rfl | ((repeat' (first | exact Els.nil _ | refine Els.cons rfl rfl ?_)); done) | exact Els.map (fun _ => ⟨rfl, rfl⟩) | exact trivial | kernel_rfl) ?_) | rw [hd1] | rw [hd2] | rw [hd3])
  try (conv => whnf)
  first | refine CallK.data rfl (c_weaker n r k hn hok.net (by omega) (by omega)) rfl ?_ | refine CallP.data rfl (c_weaker n r k hn hok.net (by omega) (by omega)) rfl ?_
  obtain ⟨q1, hq1⟩ : ∃ q, weakR n r k (r.length - 1) = q := ⟨_, rfl⟩
  obtain ⟨m, ok⟩ := q1
  have hms : m.small := by
    have := weakR_same (n := n) (r := r) (k := k) (r.length - 1)
    rw [hq1] at this
    exact this.small hn
  rw [hq1]
  have hk1 : IntKind.i64.wrap (k + 1) = k + 1 := w64 (by omega) (by omega)
  obtain ⟨q2, hq2⟩ : ∃ q, weakR n r (k + 1) (r.length - 1) = q := ⟨_, rfl⟩
  obtain ⟨m2, ok2⟩ := q2
  have hms2 : m2.small := by
    have := weakR_same (n := n) (r := r) (k := k + 1) (r.length - 1)
    rw [hq2] at this
    exact this.small hn
  repeat ((conv => whnf); first | (refine And.intro (by first | rfl | exact ⟨rfl, rfl⟩ | exact Or.inl ⟨_, rfl⟩ | exact Or.inr rfl | exact le_b rfl | ((repeat' (first | exact Els.nil _ | refine Els.cons rfl rfl ?_)); done) | exact Els.map (fun _ => ⟨rfl, rfl⟩)  | kernel_rfl) ?_) )
  try (conv => whnf)
  cases ok with
  | false =>
    repeat ((conv => whnf); first | (refine And.intro (by first | rfl | exact ⟨rfl, rfl⟩ | exact Or.inl ⟨_, rfl⟩ | exact Or.inr rfl | exact le_b rfl | ((repeat' (first | exact Els.nil _ | refine Els.cons rfl rfl ?_)); done) | exact Els.map (fun _ => ⟨rfl, rfl⟩)  | kernel_rfl) ?_) )
    try (conv => whnf)
    repeat ((conv => whnf); first | (refine And.intro (by first | rfl | exact ⟨rfl, rfl⟩ | exact Or.inl ⟨_, rfl⟩ | exact Or.inr rfl | exact le_b rfl | ((repeat' (first | exact Els.nil _ | refine Els.cons rfl rfl ?_)); done) | exact Els.map (fun _ => ⟨rfl, rfl⟩) | exact trivial | kernel_rfl) ?_) | rw [hk1])
    try (conv => whnf)
    first | refine CallK.data rfl (c_weaker n r (k + 1) hn hok.net (by omega) (by omega)) rfl ?_ | refine CallP.data rfl (c_weaker n r (k + 1) hn hok.net (by omega) (by omega)) rfl ?_
    rw [hq2]
    repeat ((conv => whnf); first | (refine And.intro (by first | rfl | exact ⟨rfl, rfl⟩ | exact Or.inl ⟨_, rfl⟩ | exact Or.inr rfl | exact le_b rfl | ((repeat' (first | exact Els.nil _ | refine Els.cons rfl rfl ?_)); done) | exact Els.map (fun _ => ⟨rfl, rfl⟩)  | kernel_rfl) ?_) )
    try (conv => whnf)
    first | refine CallK.data rfl (c_BRoute m2 s f r hms2 hc hr) rfl ?_ | refine CallP.data rfl (c_BRoute m2 s f r hms2 hc hr) rfl ?_
    have g6' := g6 m2
    clear g6 g5
    generalize routeM m2 s f r = B at g6' ⊢
    obtain ⟨bb, bw, bl, be⟩ := B
    simp only at g6'
    cases ok2 with
    | false =>
      repeat' ((conv => whnf); first | (refine And.intro (by first | rfl | exact ⟨rfl, rfl⟩ | exact Or.inl ⟨_, rfl⟩ | exact Or.inr rfl | exact le_b rfl | ((repeat' (first | exact Els.nil _ | refine Els.cons rfl rfl ?_)); done) | exact Els.map (fun _ => ⟨rfl, rfl⟩)  | kernel_rfl) ?_)  | (refine BrK.mk (fun hb => ?_) (fun hb => ?_) <;> (try rw [hb])))
      all_goals try (conv => whnf)
      all_goals exact resP.mk rfl (Sees.bool (by simp_all))
    | true =>
      have g7 := g6' hq2
      repeat' ((conv => whnf); first | (refine And.intro (by first | rfl | exact ⟨rfl, rfl⟩ | exact Or.inl ⟨_, rfl⟩ | exact Or.inr rfl | exact le_b rfl | ((repeat' (first | exact Els.nil _ | refine Els.cons rfl rfl ?_)); done) | exact Els.map (fun _ => ⟨rfl, rfl⟩)  | kernel_rfl) ?_)  | (refine BrK.mk (fun hb => ?_) (fun hb => ?_) <;> (try rw [hb])))
      all_goals try (conv => whnf)
      all_goals exact resP.mk rfl (Sees.bool (by simp_all))
  | true =>
    obtain ⟨i1, i2⟩ := g5 m hq1
    repeat ((conv => whnf); first | (refine And.intro (by first | rfl | exact ⟨rfl, rfl⟩ | exact Or.inl ⟨_, rfl⟩ | exact Or.inr rfl | exact le_b rfl | ((repeat' (first | exact Els.nil _ | refine Els.cons rfl rfl ?_)); done) | exact Els.map (fun _ => ⟨rfl, rfl⟩)  | kernel_rfl) ?_) )
    try (conv => whnf)
    first | refine CallK.data rfl (c_BRoute m s f r hms hc hr) rfl ?_ | refine CallP.data rfl (c_BRoute m s f r hms hc hr) rfl ?_
    generalize routeM m s f r = C at i1 i2 ⊢
    obtain ⟨cb, cw, cl, ce⟩ := C
    simp only at i1 i2
    subst i1
    have hd4 : decide (f.dead < cb) = false := decide_eq_false (by omega)
    repeat ((conv => whnf); first | (refine And.intro (by first | rfl | exact ⟨rfl, rfl⟩ | exact Or.inl ⟨_, rfl⟩ | exact Or.inr rfl | exact le_b rfl | ((repeat' (first | exact Els.nil _ | refine Els.cons rfl rfl ?_)); done) | exact Els.map (fun _ => ⟨rfl, rfl⟩) | exact trivial | kernel_rfl) ?_) | rw [hd4])
    try (conv => whnf)
    repeat ((conv => whnf); first | (refine And.intro (by first | rfl | exact ⟨rfl, rfl⟩ | exact Or.inl ⟨_, rfl⟩ | exact Or.inr rfl | exact le_b rfl | ((repeat' (first | exact Els.nil _ | refine Els.cons rfl rfl ?_)); done) | exact Els.map (fun _ => ⟨rfl, rfl⟩) | exact trivial | kernel_rfl) ?_) | rw [hk1])
    try (conv => whnf)
    first | refine CallK.data rfl (c_weaker n r (k + 1) hn hok.net (by omega) (by omega)) rfl ?_ | refine CallP.data rfl (c_weaker n r (k + 1) hn hok.net (by omega) (by omega)) rfl ?_
    rw [hq2]
    repeat ((conv => whnf); first | (refine And.intro (by first | rfl | exact ⟨rfl, rfl⟩ | exact Or.inl ⟨_, rfl⟩ | exact Or.inr rfl | exact le_b rfl | ((repeat' (first | exact Els.nil _ | refine Els.cons rfl rfl ?_)); done) | exact Els.map (fun _ => ⟨rfl, rfl⟩)  | kernel_rfl) ?_) )
    try (conv => whnf)
    first | refine CallK.data rfl (c_BRoute m2 s f r hms2 hc hr) rfl ?_ | refine CallP.data rfl (c_BRoute m2 s f r hms2 hc hr) rfl ?_
    have g6' := g6 m2
    clear g6 g5
    generalize routeM m2 s f r = B at g6' ⊢
    obtain ⟨bb, bw, bl, be⟩ := B
    simp only at g6'
    cases ok2 with
    | false =>
      repeat' ((conv => whnf); first | (refine And.intro (by first | rfl | exact ⟨rfl, rfl⟩ | exact Or.inl ⟨_, rfl⟩ | exact Or.inr rfl | exact le_b rfl | ((repeat' (first | exact Els.nil _ | refine Els.cons rfl rfl ?_)); done) | exact Els.map (fun _ => ⟨rfl, rfl⟩)  | kernel_rfl) ?_)  | (refine BrK.mk (fun hb => ?_) (fun hb => ?_) <;> (try rw [hb])))
      all_goals try (conv => whnf)
      all_goals exact resP.mk rfl (Sees.bool (by simp_all))
    | true =>
      have g7 := g6' hq2
      repeat' ((conv => whnf); first | (refine And.intro (by first | rfl | exact ⟨rfl, rfl⟩ | exact Or.inl ⟨_, rfl⟩ | exact Or.inr rfl | exact le_b rfl | ((repeat' (first | exact Els.nil _ | refine Els.cons rfl rfl ?_)); done) | exact Els.map (fun _ => ⟨rfl, rfl⟩)  | kernel_rfl) ?_)  | (refine BrK.mk (fun hb => ?_) (fun hb => ?_) <;> (try rw [hb])))
      all_goals try (conv => whnf)
      all_goals exact resP.mk rfl (Sees.bool (by simp_all))
end HM
