/- A player: an attempt, as far as it has something to send. -/
import Derived.Test.YtcbpgfmedemibaaGreatDoorS74
import Derived.Test.YtcbpgfmedemibaaGreatDoorFh

set_option maxRecDepth 100000
namespace HM
open Go Go.RowKit Go.Proofs

/-- other boxes that lie there -/
structure KX where
  ks : List (Nat × List AV × TypeId)
  hk : ∀ e ∈ ks, e.2.2 ≠ 145 ∧ e.2.2 ≠ 209 ∧ e.2.2 ≠ 147
def PTk (kx : KX) : PTys := ⟨145, 209, 147, 150, by decide, by decide, by decide, kx.ks, kx.hk⟩

/-- where a walk of an attempt stands -/
structure AS where
  i : Nat
  f : Flow
  p0 : PS
  z7 : Nat
  z9 : Nat
  qb : Nat
  cb : Nat
  ex : List AV
  g : Nat → Nat → Nat
  dv : AV
/-- the player with the state as it is now -/
structure AInv (kx : KX) (pb ch : Nat) (l : List Flow) (s : Sched) (x : List Rule) (c : Cell) (y : AS) (p : PS) (Q : PL) (S : St) : Prop where
  P : PInv (PTk kx) S pb ch l s x Q y.g (.vsl y.qb 0 Q.sts.length 5) y.dv
  q : S.bx[y.qb]? = some (.cells (flatE (statesE y.g Q.sts) ++ y.ex) 209)
  gp : Q.sts[y.i]? = some p
  gf : l[y.i]? = some y.f
  fr : ¬ p.frame < 0
  cb : S.bx[y.cb]? = some (.cells c.av.cells 61)
  z7 : S.bx[y.z7]? = some (.cells y.f.av.cells 31)
  z9 : S.bx[y.z9]? = some (.cells [.int .i64 c.src, .int .i64 c.dst] 257)
def usedQ (l : List Flow) (x : List Rule) (slot : Int) (Q : PL) (c : Cell) (y : AS) : PL := ⟨Q.sts.set y.i (usedP y.f y.p0 c slot (outP x y.f y.p0 c)), Q.atts ++ [⟨slot, y.p0.frame, c, outP x y.f y.p0 c⟩], Q.dels ++ (if outP x y.f y.p0 c ≠ 3 ∧ c.dst = y.f.dst ∧ y.p0.done = false then [⟨y.f.id, y.p0.frame, slot⟩] else [])⟩
structure ABase (l : List Flow) (x : List Rule) (slot : Int) (Q : PL) (c : Cell) (y : AS) : Prop where
  gp0 : Q.sts[y.i]? = some y.p0
  hat : attemptS l x slot Q c = usedQ l x slot Q c y
def aSl (pb : Nat) (slot : Int) (c : Cell) (y : AS) : List (Nat × AV) := [(0, .ptr pb 0), (2, .int .i64 slot), (4, .ptr y.cb 0), (7, .ptr y.z7 0), (8, .ptr y.qb (0 + (y.i : Int).toNat * 5)), (9, .ptr y.z9 0), (13, .bool (y.p0.acked.get [c.src, c.dst]).isSome)]

section
variable (L : World → Prop) {kx : KX}
set_option maxHeartbeats 4000000 in
def attHalf (S : St) (pb ch : Nat) (l : List Flow) (s : Sched) (x : List Rule) (Q : PL) (g : Nat → Nat → Nat) (sv dv : AV) (c : Cell) (slot : Int) (K : AV → St → Prop)
    (hI : PInv (PTk kx) S pb ch l s x Q g sv dv) (hl : l.length ≤ 16) (hQ : Q.sts.length = l.length)
    (hK0 : ∀ S', PIn (PTk kx) S' pb ch l s x (attemptS l x slot Q c) → K (.tup []) S') :
    { p : Prop // (Unit → p) → ICall Tryz.prog L 145 [.ptr pb 0, c.av, .int .i64 slot] S K } := by
  refine ⟨?p, fun H => ?main⟩
  case main =>
    have hKi : attemptS l x slot Q c = Q → ∀ tl : List Ob, K (.tup []) ⟨S.bx ++ tl, S.fr, S.n0, S.m0, S.ty⟩ := fun he tl => hK0 _ (by
      rw [he]
      exact ⟨g, sv, dv, hI.more (fun id o ho => (List.getElem?_append_left (List.getElem?_eq_some_iff.1 ho).1).trans ho) rfl rfl⟩)
    refine ICall.intro mixed [4] (nt := 207) Tryz.func145 rfl rfl (by simp) ?_
    have hp' : S.inner.bx[pb]? = some (.cells (plC l s x sv (.own (Q.atts.map Att.av) ch) dv) 145) := hI.p
    repeat ((conv => whnf); first | refine sJ ?_ | refine And.intro (by first | exact trivial | kernel_rfl) ?_ | rw [St.addB_old hp'] | rw [St.addB_get])
    try (conv => whnf)
    first | refine CallK.data rfl (c_Find L l c.flow (by omega)) rfl ?_ | refine CallP.data rfl (c_Find L l c.flow (by omega)) rfl ?_
    refine Wk ?_
    refine BrK.mk (fun h1 => ?_) (fun h1 => ?_) <;> (try rw [h1])
    · have h1' : findF l c.flow < 0 := by simpa using h1
      have hno : attemptS l x slot Q c = Q := by rw [attemptS, if_pos h1']
      refine Wk ?_
      exact hKi hno [_]
    have h1' : ¬ findF l c.flow < 0 := by simpa using h1
    obtain ⟨i, f, hfi, hgf, _⟩ := idxF_at (p := fun f : Flow => f.id == c.flow) (l := l) (fun hh => h1' (by unfold findF; rw [hh]; decide))
    have hfi' : findF l c.flow = (i : Int) := hfi
    have hil := (List.getElem?_eq_some_iff.1 hgf).1
    obtain ⟨p, hgp⟩ := getLt (l := Q.sts) (k := i) (by omega)
    have hat : attemptS l x slot Q c = if p.frame < 0 ∨ idleB f p c slot = true then Q else ⟨Q.sts.set i (usedP f p c slot (outP x f p c)), Q.atts ++ [⟨slot, p.frame, c, outP x f p c⟩], Q.dels ++ (if outP x f p c ≠ 3 ∧ c.dst = f.dst ∧ p.done = false then [⟨f.id, p.frame, slot⟩] else [])⟩ := by
      rw [attemptS, if_neg h1', hfi', Int.toNat_natCast, hgf, hgp]
    rw [hfi']
    obtain ⟨qb, ex, hsv, hqS⟩ : ∃ qb ex, sv = .vsl qb 0 Q.sts.length 5 ∧ S.bx[qb]? = some (.cells (flatE (statesE g Q.sts) ++ ex) 209) := by
      rcases hI.q with ⟨hh, _⟩ | hh
      · rw [hh] at hgp; cases hgp
      · exact hh
    have hI2 := hI
    rw [hsv] at hp' hI2
    have hq' : S.inner.bx[qb]? = some (.cells (flatE (statesE g Q.sts) ++ ex) 209) := hqS
    have hmf := getMap (f := Flow.av) hgf
    have hW := statesE_wide g Q.sts
    have hE := statesE_get (g := g) hgp
    have hld : ∀ j n j' : Nat, j < 5 → n = 5 → j' = j → (flatE (statesE g Q.sts) ++ ex)[0 + (i : Int).toNat * n + j']? = (stAV (g i) p).cells[j]? := fun j n j' hj hn hj' => by
      subst hn; subst hj'
      rw [Nat.zero_add, Int.toNat_natCast]; exact hW.ld ex hE hj
    have hd0 : ∀ n j' : Nat, n = 5 → j' = 0 → (flatE (statesE g Q.sts) ++ ex)[0 + (i : Int).toNat * n + j']? = some (.int .i64 p.frame) := fun n j' hn hj => hld 0 n j' (by decide) hn hj
    repeat ((conv => whnf); first | refine sJ ?_ | refine And.intro (by first | exact trivial | exact (show InB (i : Int) Q.sts.length from ⟨by omega, by omega⟩) | kernel_rfl) ?_ | rw [St.flush_nil] | rw [St.addB_old hp'] | rw [St.addB_old hq'] | rw [St.addB_get] | (rw [hd0]; rotate_left; rfl; rfl))
    try (conv => whnf)
    refine BrK.mk (fun h2 => ?_) (fun h2 => ?_) <;> (try rw [h2])
    · have h2' : p.frame < 0 := by simpa using h2
      refine Wk ?_
      exact hKi (by rw [hat, if_pos (.inl h2')]) [_]
    have h2' : ¬ p.frame < 0 := by simpa using h2
    refine Wk ?_
    obtain ⟨S0, hS0⟩ : ∃ S0, S0 = S.inner.addB (.cells (AV.agg [.int .i64 c.slot, .int .i64 c.off, .int .i64 c.src, .int .i64 c.dst, .int .i64 c.flow]).cells 61) := ⟨_, rfl⟩
    have hp0 : S0.bx[pb]? = some (.cells (plC l s x (.vsl qb 0 Q.sts.length 5) (.own (Q.atts.map Att.av) ch) dv) 145) := by rw [hS0]; exact St.addB_old hp'
    have hq0 : S0.bx[qb]? = some (.cells (flatE (statesE g Q.sts) ++ ex) 209) := by rw [hS0]; exact St.addB_old hq'
    have hc0 : S0.bx[S.inner.bx.length]? = some (.cells c.av.cells 61) := by rw [hS0]; exact St.addB_get _ _
    refine SeqK.cutN mixed [10003] [7] (fun (z : Nat × Nat) S1 => ∃ tl : List Ob, S1 = ⟨S0.bx ++ tl, S0.fr, S0.n0, S0.m0, S0.ty⟩ ∧ (S0.bx ++ tl)[z.1]? = some (.cells f.av.cells 31) ∧ (S0.bx ++ tl)[z.2]? = some (.cells [.int .i64 c.src, .int .i64 c.dst] 257)) (fun z => [(0, .ptr pb 0), (2, .int .i64 slot), (4, .ptr S.inner.bx.length 0), (6, .int .i64 i), (7, .ptr z.1 0), (8, .ptr qb (0 + (i : Int).toNat * 5)), (9, .ptr z.2 0)]) ?_ ?_
    · refine Wk ?_
      rw [← hS0]
      refine SemK.regionMix mixed [0, 1, 2, 3, 4, 5, 6, 7, 8, 9, 10, 11, 12, 13, 14, 15, 16, 17, 21] 4 rfl rfl (by decide) rfl ?_
      repeat ((conv => whnf); first | refine sJ ?_ | refine And.intro (by first | exact trivial | exact inbMap hil | exact (show InB (i : Int) Q.sts.length from ⟨by omega, by omega⟩) | kernel_rfl) ?_ | rw [hp0] | rw [hq0] | rw [hc0] | rw [hmf])
      try (conv => whnf)
      repeat' ((conv => whnf); first | exact trivial | refine sJ ?_ | refine And.intro (by first | exact trivial | ((repeat' (first | exact More.rfl' _ | refine More.addB' ?_ | refine More.setB' ?_ (by first | exact St.len0 _ | exact St.len1 _ _))); done) | kernel_rfl) ?_ | refine And.intro ?_ ?_ | rw [St.addB_old (St.addB_get _ _)] | rw [St.addB_get] | rw [St.setB_ne St.lenNe] | rw [St.setB_ne St.lenNe.symm])
      all_goals (conv => whnf)
      · exact ⟨(S0.bx.length, _), ⟨[.cells f.av.cells 31, .cells [.int .i64 c.src, .int .i64 c.dst] 257], St.two _ _ _ _ _, St.two_0 _ _ _, St.two_1 _ _ _ _⟩, Sees.of_eq rfl, Sees.of_eq rfl, Sees.of_eq rfl, Sees.of_eq rfl, Sees.of_eq rfl, Sees.of_eq rfl, Sees.of_eq rfl, trivial⟩
      · exact ⟨(_, S0.bx.length), ⟨[.cells [.int .i64 c.src, .int .i64 c.dst] 257, .cells f.av.cells 31], St.two' _ _ _ _ _, St.two_1 _ _ _ _, St.two_0 _ _ _⟩, Sees.of_eq rfl, Sees.of_eq rfl, Sees.of_eq rfl, Sees.of_eq rfl, Sees.of_eq rfl, Sees.of_eq rfl, Sees.of_eq rfl, trivial⟩
    · rintro ⟨z7, z9⟩ S1 ⟨tl, hS1, h7, h9⟩
      simp only at h7 h9
      have e1 : ∀ (id : Nat) (o : Ob), S0.bx[id]? = some o → S1.bx[id]? = some o := fun id o ho => by
        subst hS1
        exact (List.getElem?_append_left (List.getElem?_eq_some_iff.1 ho).1).trans ho
      have e2 : ∀ (id : Nat) (o : Ob), S.bx[id]? = some o → S1.bx[id]? = some o := fun id o ho => e1 id o (by rw [hS0]; exact St.addB_old (S := S.inner) ho)
      have hq1 := e1 _ _ hq0
      have hc1 := e1 _ _ hc0
      have h71 : S1.bx[z7]? = some (.cells f.av.cells 31) := by subst hS1; exact h7
      have h91 : S1.bx[z9]? = some (.cells [.int .i64 c.src, .int .i64 c.dst] 257) := by subst hS1; exact h9
      have hP1 : PInv (PTk kx) S1 pb ch l s x Q g (.vsl qb 0 Q.sts.length 5) dv := hI2.more e2 (by subst hS1; subst hS0; rfl) (by subst hS1; subst hS0; rfl)
      have hm1 := hP1.m i p hgp (by omega) 0 (by omega)
      have hm3 := hP1.m i p hgp (by omega) 2 (by omega)
      have hd1 : ∀ n j' : Nat, n = 5 → j' = 1 → (flatE (statesE g Q.sts) ++ ex)[0 + (i : Int).toNat * n + j']? = some (.mp (g i 0)) := fun n j' hn hj => by rw [hld 1 n j' (by decide) hn hj]; show some (mpv p (g i 0)) = _; rw [mpv, if_neg h2']
      have hd3 : ∀ n j' : Nat, n = 5 → j' = 3 → (flatE (statesE g Q.sts) ++ ex)[0 + (i : Int).toNat * n + j']? = some (.mp (g i 2)) := fun n j' hn hj => by rw [hld 3 n j' (by decide) hn hj]; show some (mpv p (g i 2)) = _; rw [mpv, if_neg h2']
      have ho1 : ∀ v, v = .mp (g i 0) → mapOfL S1 none v = some (p.since.ks, p.since.vs.map encI) := fun v hv => by subst hv; simp [mapOfL, hm1, IM.ob, mapsOf]
      have ho3 : ∀ v, v = .mp (g i 2) → mapOfL S1 (some 2) v = some (p.acked.ks, p.acked.vs.map encI) := fun v hv => by subst hv; simp [mapOfL, hm3, IM.ob, mapsOf]
      have ht2 : tmap Tryz.prog 207 = some (some 2, 3) := by kernel_rfl
      have hend : S1.outer S = ⟨S.bx ++ (.cells (AV.agg [.int .i64 c.slot, .int .i64 c.off, .int .i64 c.src, .int .i64 c.dst, .int .i64 c.flow]).cells 61 :: tl), S.fr, S.n0, S.m0, S.ty⟩ := by
        subst hS1; subst hS0
        simp [St.outer, St.addB, St.inner]
      have hidle : idleB f p c slot = true → K (.tup []) (S1.outer S) := fun hi => by rw [hend]; exact hKi (by rw [hat, if_pos (.inr hi)]) _
      repeat ((conv => whnf); first | refine sJ ?_ | refine And.intro (by first | exact trivial | kernel_rfl) ?_ | rw [St.flush_nil] | rw [hq1] | rw [hc1] | rw [h71] | rw [h91] | (rw [ho1]; rotate_left; rfl) | (rw [ho3]; rotate_left; rfl) | (rw [hd1]; rotate_left; rfl; rfl) | (rw [hd3]; rotate_left; rfl; rfl))
      try (conv => whnf)
      rw [IM.assoc]
      have hgo : idleB f p c slot = false → ABase l x slot Q c ⟨i, f, p, z7, z9, qb, S.inner.bx.length, ex, g, dv⟩ := fun hh => ⟨hgp, by rw [hat, if_neg (by rw [hh]; simp [h2'])]; rfl⟩
      have hA : AInv kx pb ch l s x c ⟨i, f, p, z7, z9, qb, S.inner.bx.length, ex, g, dv⟩ p Q S1 := ⟨hP1, hq1, hgp, hgf, h2', hc1, h71, h91⟩
      cases hgs : p.since.get [c.src] with
      | none =>
        repeat ((conv => whnf); first | refine sJ ?_ | refine And.intro (by first | exact trivial | kernel_rfl) ?_ | rw [St.flush_nil] | rw [ht2] | rw [hq1] | rw [hc1] | rw [h71] | rw [h91] | (rw [ho1]; rotate_left; rfl) | (rw [ho3]; rotate_left; rfl) | (rw [hd1]; rotate_left; rfl; rfl) | (rw [hd3]; rotate_left; rfl; rfl))
        try (conv => whnf)
        rw [IM.assoc]
        cases hga : p.acked.get [c.src, c.dst] with
        | none =>
          repeat ((conv => whnf); first | refine sJ ?_ | refine And.intro (by first | exact trivial | kernel_rfl) ?_ | rw [St.flush_nil] | rw [ht2] | rw [hq1] | rw [hc1] | rw [h71] | rw [h91] | (rw [ho1]; rotate_left; rfl) | (rw [ho3]; rotate_left; rfl) | (rw [hd1]; rotate_left; rfl; rfl) | (rw [hd3]; rotate_left; rfl; rfl))
          try (conv => whnf)
          refine SeqK.cutN mixed [] [10007, 8, 9, 10, 12, 13, 16] (fun y S2 => ABase l x slot Q c y ∧ AInv kx pb ch l s x c y y.p0 Q S2) (aSl pb slot c) ?_ ?_
          rotate_left
          · exact H ()
          repeat ((conv => whnf); first | refine sJ ?_ | refine And.intro (by first | exact trivial | kernel_rfl) ?_ | rw [St.flush_nil] | rw [ht2] | rw [hq1] | rw [hc1] | rw [h71] | rw [h91] | (rw [ho1]; rotate_left; rfl) | (rw [ho3]; rotate_left; rfl) | (rw [hd1]; rotate_left; rfl; rfl) | (rw [hd3]; rotate_left; rfl; rfl))
          try (conv => whnf)
          exact hidle (by simp [idleB, hgs])
        | some a1 =>
          repeat ((conv => whnf); first | refine sJ ?_ | refine And.intro (by first | exact trivial | kernel_rfl) ?_ | rw [St.flush_nil] | rw [ht2] | rw [hq1] | rw [hc1] | rw [h71] | rw [h91] | (rw [ho1]; rotate_left; rfl) | (rw [ho3]; rotate_left; rfl) | (rw [hd1]; rotate_left; rfl; rfl) | (rw [hd3]; rotate_left; rfl; rfl))
          try (conv => whnf)
          refine SeqK.cutN mixed [] [10007, 8, 9, 10, 12, 13, 16] (fun y S2 => ABase l x slot Q c y ∧ AInv kx pb ch l s x c y y.p0 Q S2) (aSl pb slot c) ?_ ?_
          rotate_left
          · exact H ()
          repeat ((conv => whnf); first | refine sJ ?_ | refine And.intro (by first | exact trivial | kernel_rfl) ?_ | rw [St.flush_nil] | rw [ht2] | rw [hq1] | rw [hc1] | rw [h71] | rw [h91] | (rw [ho1]; rotate_left; rfl) | (rw [ho3]; rotate_left; rfl) | (rw [hd1]; rotate_left; rfl; rfl) | (rw [hd3]; rotate_left; rfl; rfl))
          try (conv => whnf)
          exact hidle (by simp [idleB, hgs])
      | some a0 =>
        repeat ((conv => whnf); first | refine sJ ?_ | refine And.intro (by first | exact trivial | kernel_rfl) ?_ | rw [St.flush_nil] | rw [ht2] | rw [hq1] | rw [hc1] | rw [h71] | rw [h91] | (rw [ho1]; rotate_left; rfl) | (rw [ho3]; rotate_left; rfl) | (rw [hd1]; rotate_left; rfl; rfl) | (rw [hd3]; rotate_left; rfl; rfl))
        try (conv => whnf)
        rw [IM.assoc]
        cases hga : p.acked.get [c.src, c.dst] with
        | none =>
          repeat ((conv => whnf); first | refine sJ ?_ | refine And.intro (by first | exact trivial | kernel_rfl) ?_ | rw [St.flush_nil] | rw [ht2] | rw [hq1] | rw [hc1] | rw [h71] | rw [h91] | (rw [ho1]; rotate_left; rfl) | (rw [ho3]; rotate_left; rfl) | (rw [hd1]; rotate_left; rfl; rfl) | (rw [hd3]; rotate_left; rfl; rfl))
          try (conv => whnf)
          refine SeqK.cutN mixed [] [10007, 8, 9, 10, 12, 13, 16] (fun y S2 => ABase l x slot Q c y ∧ AInv kx pb ch l s x c y y.p0 Q S2) (aSl pb slot c) ?_ ?_
          rotate_left
          · exact H ()
          repeat ((conv => whnf); first | refine sJ ?_ | refine And.intro (by first | exact trivial | kernel_rfl) ?_ | rw [St.flush_nil] | rw [ht2] | rw [hq1] | rw [hc1] | rw [h71] | rw [h91] | (rw [ho1]; rotate_left; rfl) | (rw [ho3]; rotate_left; rfl) | (rw [hd1]; rotate_left; rfl; rfl) | (rw [hd3]; rotate_left; rfl; rfl))
          try (conv => whnf)
          refine BrK.mk (fun h3 => ?_) (fun h3 => ?_) <;> (try rw [h3])
          · repeat ((conv => whnf); first | refine sJ ?_ | refine And.intro (by first | exact trivial | kernel_rfl) ?_ | rw [St.flush_nil] | rw [ht2] | rw [hq1] | rw [hc1] | rw [h71] | rw [h91] | (rw [ho1]; rotate_left; rfl) | (rw [ho3]; rotate_left; rfl) | (rw [hd1]; rotate_left; rfl; rfl) | (rw [hd3]; rotate_left; rfl; rfl))
            try (conv => whnf)
            exact hidle (by have : slot < a0 := by simpa using h3
                            simp [idleB, hgs, this])
          have h3' : ¬ slot < a0 := by simpa using h3
          repeat ((conv => whnf); first | refine sJ ?_ | refine And.intro (by first | exact trivial | kernel_rfl) ?_ | rw [St.flush_nil] | rw [ht2] | rw [hq1] | rw [hc1] | rw [h71] | rw [h91] | (rw [ho1]; rotate_left; rfl) | (rw [ho3]; rotate_left; rfl) | (rw [hd1]; rotate_left; rfl; rfl) | (rw [hd3]; rotate_left; rfl; rfl))
          try (conv => whnf)
          refine BrK.mk (fun h4 => ?_) (fun h4 => ?_) <;> (try rw [h4])
          · repeat ((conv => whnf); first | refine sJ ?_ | refine And.intro (by first | exact trivial | kernel_rfl) ?_ | rw [St.flush_nil] | rw [ht2] | rw [hq1] | rw [hc1] | rw [h71] | rw [h91] | (rw [ho1]; rotate_left; rfl) | (rw [ho3]; rotate_left; rfl) | (rw [hd1]; rotate_left; rfl; rfl) | (rw [hd3]; rotate_left; rfl; rfl))
            try (conv => whnf)
            exact hidle (by have : (c.src == f.dst) = true := h4
                            simp only [idleB, this, Bool.or_true, Bool.true_or])
          repeat ((conv => whnf); first | refine sJ ?_ | refine And.intro (by first | exact trivial | kernel_rfl) ?_ | rw [St.flush_nil] | rw [ht2] | rw [hq1] | rw [hc1] | rw [h71] | rw [h91] | (rw [ho1]; rotate_left; rfl) | (rw [ho3]; rotate_left; rfl) | (rw [hd1]; rotate_left; rfl; rfl) | (rw [hd3]; rotate_left; rfl; rfl))
          try (conv => whnf)
          exact ⟨_, ⟨hgo (by have : (c.src == f.dst) = false := h4; simp [idleB, hgs, hga, this, h3']), hA⟩, Sees.of_eq rfl, Sees.of_eq rfl, Sees.of_eq rfl, Sees.of_eq rfl, Sees.of_eq rfl, Sees.of_eq rfl, Sees.bool (by show _ = (p.acked.get [c.src, c.dst]).isSome; rw [hga]; rfl), trivial⟩
        | some a1 =>
          repeat ((conv => whnf); first | refine sJ ?_ | refine And.intro (by first | exact trivial | kernel_rfl) ?_ | rw [St.flush_nil] | rw [ht2] | rw [hq1] | rw [hc1] | rw [h71] | rw [h91] | (rw [ho1]; rotate_left; rfl) | (rw [ho3]; rotate_left; rfl) | (rw [hd1]; rotate_left; rfl; rfl) | (rw [hd3]; rotate_left; rfl; rfl))
          try (conv => whnf)
          refine SeqK.cutN mixed [] [10007, 8, 9, 10, 12, 13, 16] (fun y S2 => ABase l x slot Q c y ∧ AInv kx pb ch l s x c y y.p0 Q S2) (aSl pb slot c) ?_ ?_
          rotate_left
          · exact H ()
          repeat ((conv => whnf); first | refine sJ ?_ | refine And.intro (by first | exact trivial | kernel_rfl) ?_ | rw [St.flush_nil] | rw [ht2] | rw [hq1] | rw [hc1] | rw [h71] | rw [h91] | (rw [ho1]; rotate_left; rfl) | (rw [ho3]; rotate_left; rfl) | (rw [hd1]; rotate_left; rfl; rfl) | (rw [hd3]; rotate_left; rfl; rfl))
          try (conv => whnf)
          refine BrK.mk (fun h3 => ?_) (fun h3 => ?_) <;> (try rw [h3])
          · repeat ((conv => whnf); first | refine sJ ?_ | refine And.intro (by first | exact trivial | kernel_rfl) ?_ | rw [St.flush_nil] | rw [ht2] | rw [hq1] | rw [hc1] | rw [h71] | rw [h91] | (rw [ho1]; rotate_left; rfl) | (rw [ho3]; rotate_left; rfl) | (rw [hd1]; rotate_left; rfl; rfl) | (rw [hd3]; rotate_left; rfl; rfl))
            try (conv => whnf)
            exact hidle (by have : slot < a0 := by simpa using h3
                            simp [idleB, hgs, this])
          have h3' : ¬ slot < a0 := by simpa using h3
          repeat ((conv => whnf); first | refine sJ ?_ | refine And.intro (by first | exact trivial | kernel_rfl) ?_ | rw [St.flush_nil] | rw [ht2] | rw [hq1] | rw [hc1] | rw [h71] | rw [h91] | (rw [ho1]; rotate_left; rfl) | (rw [ho3]; rotate_left; rfl) | (rw [hd1]; rotate_left; rfl; rfl) | (rw [hd3]; rotate_left; rfl; rfl))
          try (conv => whnf)
          refine BrK.mk (fun h4 => ?_) (fun h4 => ?_) <;> (try rw [h4])
          · repeat ((conv => whnf); first | refine sJ ?_ | refine And.intro (by first | exact trivial | kernel_rfl) ?_ | rw [St.flush_nil] | rw [ht2] | rw [hq1] | rw [hc1] | rw [h71] | rw [h91] | (rw [ho1]; rotate_left; rfl) | (rw [ho3]; rotate_left; rfl) | (rw [hd1]; rotate_left; rfl; rfl) | (rw [hd3]; rotate_left; rfl; rfl))
            try (conv => whnf)
            exact hidle (by have : (c.src == f.dst) = true := h4
                            simp only [idleB, this, Bool.or_true, Bool.true_or])
          repeat ((conv => whnf); first | refine sJ ?_ | refine And.intro (by first | exact trivial | kernel_rfl) ?_ | rw [St.flush_nil] | rw [ht2] | rw [hq1] | rw [hc1] | rw [h71] | rw [h91] | (rw [ho1]; rotate_left; rfl) | (rw [ho3]; rotate_left; rfl) | (rw [hd1]; rotate_left; rfl; rfl) | (rw [hd3]; rotate_left; rfl; rfl))
          try (conv => whnf)
          refine BrK.mk (fun h5 => ?_) (fun h5 => ?_) <;> (try rw [h5])
          · repeat ((conv => whnf); first | refine sJ ?_ | refine And.intro (by first | exact trivial | kernel_rfl) ?_ | rw [St.flush_nil] | rw [ht2] | rw [hq1] | rw [hc1] | rw [h71] | rw [h91] | (rw [ho1]; rotate_left; rfl) | (rw [ho3]; rotate_left; rfl) | (rw [hd1]; rotate_left; rfl; rfl) | (rw [hd3]; rotate_left; rfl; rfl))
            try (conv => whnf)
            exact hidle (by have : a1 < slot := by simpa using h5
                            simp [idleB, hga, this])
          have h5' : ¬ a1 < slot := by simpa using h5
          repeat ((conv => whnf); first | refine sJ ?_ | refine And.intro (by first | exact trivial | kernel_rfl) ?_ | rw [St.flush_nil] | rw [ht2] | rw [hq1] | rw [hc1] | rw [h71] | rw [h91] | (rw [ho1]; rotate_left; rfl) | (rw [ho3]; rotate_left; rfl) | (rw [hd1]; rotate_left; rfl; rfl) | (rw [hd3]; rotate_left; rfl; rfl))
          try (conv => whnf)
          exact ⟨_, ⟨hgo (by have : (c.src == f.dst) = false := h4; simp [idleB, hgs, hga, this, h3', h5']), hA⟩, Sees.of_eq rfl, Sees.of_eq rfl, Sees.of_eq rfl, Sees.of_eq rfl, Sees.of_eq rfl, Sees.of_eq rfl, Sees.bool (by show _ = (p.acked.get [c.src, c.dst]).isSome; rw [hga]; rfl), trivial⟩
end
end HM
