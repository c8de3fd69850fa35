/- A player: an attempt, once it has something to send. -/
import Derived.Test.YtcbpgfmedemibaaGreatDoorS75
import Derived.Test.YtcbpgfmedemibaaGreatDoorFh

set_option maxRecDepth 100000
namespace HM
open Go Go.RowKit Go.Proofs

section
variable {kx : KX} {S S' : St} {pb ch : Nat} {l : List Flow} {s : Sched} {x : List Rule} {c : Cell} {y : AS} {p : PS} {Q : PL}
theorem AInv.more (h : AInv kx pb ch l s x c y p Q S) (hx : ∀ (id : Nat) (o : Ob), S.bx[id]? = some o → S'.bx[id]? = some o) (hf : S'.fr[ch]? = S.fr[ch]?) (ht : S'.ty ch = S.ty ch) : AInv kx pb ch l s x c y p Q S' :=
  ⟨h.P.more hx hf ht, hx _ _ h.q, h.gp, h.gf, h.fr, hx _ _ h.cb, hx _ _ h.z7, hx _ _ h.z9⟩
theorem set_get_self {α : Type} {l : List α} {i : Nat} {a b : α} (h : l[i]? = some a) : (l.set i b)[i]? = some b := by
  have := (List.getElem?_eq_some_iff.1 h).1
  simp [this]
theorem AInv.setM (h : AInv kx pb ch l s x c y p Q S) (p' : PS) (hfr : p'.frame = p.frame) (hdn : p'.done = p.done) {j : Nat} (hj : j < 3) (ho : ∀ k, k < 3 → k ≠ j → mapsOf p' k = mapsOf p k) :
    AInv kx pb ch l s x c y p' ⟨Q.sts.set y.i p', Q.atts, Q.dels⟩ (S.setB (y.g y.i j) (mapsOf p' j)) := by
  have h0 : 0 ≤ p.frame := by have := h.fr; omega
  have hm := h.P.m y.i p h.gp h0 j hj
  have hP := h.P.setM h.gp h0 hfr hdn hj ho
  have hil := (List.getElem?_eq_some_iff.1 h.gp).1
  have est : statesE y.g (Q.sts.set y.i p') = statesE y.g Q.sts := by
    rw [← statesE_set]
    refine set_same ?_
    rw [statesE_get h.gp]
    simp [stAV, mpv, hfr, hdn]
  exact ⟨by simpa using hP, by rw [St.setB_ne (ne_cM h.q hm).symm, est]; exact h.q, set_get_self h.gp, h.gf, by rw [hfr]; exact h.fr, by rw [St.setB_ne (ne_cM h.cb hm).symm]; exact h.cb, by rw [St.setB_ne (ne_cM h.z7 hm).symm]; exact h.z7, by rw [St.setB_ne (ne_cM h.z9 hm).symm]; exact h.z9⟩
theorem AInv.setA (h : AInv kx pb ch l s x c y p Q S) (al : List Att) (hf : S'.fr[ch]? = some (al.length, 8)) (ht : S'.ty ch = S.ty ch) (hb : S'.bx = S.bx) :
    AInv kx pb ch l s x c y p ⟨Q.sts, al, Q.dels⟩ (S'.setB pb (.cells (plC l s x (.vsl y.qb 0 Q.sts.length 5) (.own (al.map Att.av) ch) y.dv) 145)) := by
  have hP := h.P.setP s al hf ht hb
  exact ⟨hP, by rw [St.setB_ne (ne_cc h.P.p h.q (by first | decide | exact (show (145 : Nat) ≠ _ by decide) | exact (show _ ≠ (145 : Nat) by decide) | exact (show _ ≠ (209 : Nat) by decide) | exact (show _ ≠ (147 : Nat) by decide))), hb]; exact h.q, h.gp, h.gf, h.fr, by rw [St.setB_ne (ne_cc h.P.p h.cb (by first | decide | exact (show (145 : Nat) ≠ _ by decide) | exact (show _ ≠ (145 : Nat) by decide) | exact (show _ ≠ (209 : Nat) by decide) | exact (show _ ≠ (147 : Nat) by decide))), hb]; exact h.cb, by rw [St.setB_ne (ne_cc h.P.p h.z7 (by first | decide | exact (show (145 : Nat) ≠ _ by decide) | exact (show _ ≠ (145 : Nat) by decide) | exact (show _ ≠ (209 : Nat) by decide) | exact (show _ ≠ (147 : Nat) by decide))), hb]; exact h.z7, by rw [St.setB_ne (ne_cc h.P.p h.z9 (by first | decide | exact (show (145 : Nat) ≠ _ by decide) | exact (show _ ≠ (145 : Nat) by decide) | exact (show _ ≠ (209 : Nat) by decide) | exact (show _ ≠ (147 : Nat) by decide))), hb]; exact h.z9⟩
theorem AInv.setQ (h : AInv kx pb ch l s x c y p Q S) (p' : PS) (hfr : p'.frame = p.frame) (ho : ∀ k, k < 3 → mapsOf p' k = mapsOf p k) :
    AInv kx pb ch l s x c y p' ⟨Q.sts.set y.i p', Q.atts, Q.dels⟩ (S.setB y.qb (.cells (flatE (statesE y.g (Q.sts.set y.i p')) ++ y.ex) 209)) := by
  have hP := h.P.setQ rfl h.q h.gp hfr ho
  rw [show (.vsl y.qb 0 Q.sts.length 5 : AV) = .vsl y.qb 0 (Q.sts.set y.i p').length 5 from by rw [List.length_set]] at hP
  exact ⟨hP, St.setB_get h.q, set_get_self h.gp, h.gf, by rw [hfr]; exact h.fr, by rw [St.setB_ne (ne_cc h.q h.cb (by first | decide | exact (show (145 : Nat) ≠ _ by decide) | exact (show _ ≠ (145 : Nat) by decide) | exact (show _ ≠ (209 : Nat) by decide) | exact (show _ ≠ (147 : Nat) by decide)))]; exact h.cb, by rw [St.setB_ne (ne_cc h.q h.z7 (by first | decide | exact (show (145 : Nat) ≠ _ by decide) | exact (show _ ≠ (145 : Nat) by decide) | exact (show _ ≠ (209 : Nat) by decide) | exact (show _ ≠ (147 : Nat) by decide)))]; exact h.z7, by rw [St.setB_ne (ne_cc h.q h.z9 (by first | decide | exact (show (145 : Nat) ≠ _ by decide) | exact (show _ ≠ (145 : Nat) by decide) | exact (show _ ≠ (209 : Nat) by decide) | exact (show _ ≠ (147 : Nat) by decide)))]; exact h.z9⟩
/-- a state's cell -/
theorem AInv.ld (h : AInv kx pb ch l s x c y p Q S) (j : Nat) (hj : j < 5) : ∀ n j' : Nat, n = 5 → j' = j → (flatE (statesE y.g Q.sts) ++ y.ex)[0 + (y.i : Int).toNat * n + j']? = (stAV (y.g y.i) p).cells[j]? := fun n j' hn hj' => by
  subst hn; subst hj'
  rw [Nat.zero_add, Int.toNat_natCast]
  exact (statesE_wide y.g Q.sts).ld y.ex (statesE_get h.gp) hj
theorem AInv.m (h : AInv kx pb ch l s x c y p Q S) (j : Nat) (hj : j < 3) : S.bx[y.g y.i j]? = some (mapsOf p j) := h.P.m y.i p h.gp (by have := h.fr; omega) j hj
theorem AInv.mpv (h : AInv kx pb ch l s x c y p Q S) (id : Nat) : mpv p id = .mp id := by rw [HM.mpv, if_neg h.fr]
end

section
theorem AInv.app {kx : KX} {S : St} {pb ch : Nat} {l : List Flow} {s : Sched} {x : List Rule} {c : Cell} {y : AS} {p : PS} {Q : PL} (h : AInv kx pb ch l s x c y p Q S) (a : Att) (y1 : Nat × Nat) (e : TypeId) (z : AV) (hz : z = a.av) :
    AInv kx pb ch l s x c y p ⟨Q.sts, Q.atts ++ [a], Q.dels⟩ (((S.addF y1 e).setF ch ((Q.atts.map Att.av ++ [z]).length, 8)).setB pb (.cells (plC l s x (.vsl y.qb 0 Q.sts.length 5) (.own (Q.atts.map Att.av ++ [z]) ch) y.dv) 145)) := by
  subst hz
  have hf := h.P.a
  have h1 : AInv kx pb ch l s x c y p Q (S.addF y1 e) := h.more (fun _ _ h => h) ((St.addF_fr hf).trans hf.symm) (St.addF_ty hf)
  have h2 := h1.setA (S' := (S.addF y1 e).setF ch ((Q.atts.map Att.av ++ [a.av]).length, 8)) (Q.atts ++ [a]) (by rw [St.setF_fr (St.addF_fr hf)]; simp) rfl rfl
  rw [List.map_append] at h2
  exact h2
end
def pT (p : PS) (c : Cell) : PS := ⟨p.frame, p.since, p.tries.set [c.src, c.dst] ((p.tries.get [c.src, c.dst]).getD 0 + 1), p.acked, p.done⟩
def pA (p : PS) (c : Cell) (slot o : Int) : PS := ⟨p.frame, p.since, p.tries, if o = 1 ∧ p.acked.get [c.src, c.dst] = none then p.acked.set [c.src, c.dst] slot else p.acked, p.done⟩
def pS (p : PS) (c : Cell) (slot o : Int) : PS := ⟨p.frame, if o ≠ 3 ∧ p.since.get [c.dst] = none then p.since.set [c.dst] (slot + 1) else p.since, p.tries, p.acked, p.done⟩
def pD (f : Flow) (p : PS) (c : Cell) (o : Int) : PS := ⟨p.frame, p.since, p.tries, p.acked, p.done || (decide (o ≠ 3) && c.dst == f.dst)⟩
theorem usedP_eq (f : Flow) (p : PS) (c : Cell) (slot o : Int) : usedP f p c slot o = pD f (pS (pA (pT p c) c slot o) c slot o) c o := rfl
/-- what stands in a map, behind m[k]++ -/
theorem IM.set_some {m : IM} {k : List Int} {j : Nat} (h : posOf m.ks k = some j) (v : Int) : (m.set k v) = ⟨m.ks, m.vs.set j v⟩ := by simp [IM.set, setKs, h]
theorem IM.set_none {m : IM} {k : List Int} (h : posOf m.ks k = Option.none) (v : Int) : (m.set k v) = ⟨m.ks ++ [k], m.vs ++ [v]⟩ := by simp [IM.set, setKs, h]
theorem IM.get_none' {m : IM} {k : List Int} (h : posOf m.ks k = Option.none) : m.get k = Option.none := by simp [IM.get, h]
theorem IM.get_some' {m : IM} (hk : m.ok) {k : List Int} {j : Nat} (h : posOf m.ks k = some j) : ∃ v, m.get k = some v ∧ m.vs[j]? = some v := by
  have := (List.getElem?_eq_some_iff.1 (posOf_some h)).1
  have hk : m.ks.length = m.vs.length := hk
  exact ⟨m.vs[j]'(by omega), by simp [IM.get, h, List.getElem?_eq_getElem (show j < m.vs.length by omega)], List.getElem?_eq_getElem (by omega)⟩

/-- what lies in boxes stays -/
def InvC (S S' : St) : Prop := ∀ (id : Nat) (cs : List AV) (t : TypeId), S.bx[id]? = some (.cells cs t) → S'.bx[id]? = some (.cells cs t)
theorem InvC.refl (S : St) : InvC S S := fun _ _ _ h => h
theorem InvC.setM {S S' : St} {m : Nat} {sh : Option Nat} {ks : List (List Int)} {vs : List AV} {o : Ob} (h : InvC S S') (hm : S.bx[m]? = some (.map sh ks vs)) : InvC S (S'.setB m o) := fun id cs t hc => by
  rw [St.setB_ne (ne_cm hc hm).symm]; exact h id cs t hc
/-- .. but the player's own -/
def InvP (pb : Nat) (S S' : St) : Prop := ∀ (id : Nat) (cs : List AV) (t : TypeId), id ≠ pb → S.bx[id]? = some (.cells cs t) → S'.bx[id]? = some (.cells cs t)
theorem InvP.refl (pb : Nat) (S : St) : InvP pb S S := fun _ _ _ _ h => h
theorem exJ {α : Type} {A B : α → Prop} {v : α} (h1 : A v) (h2 : B v) : ∃ v, A v ∧ B v := ⟨v, h1, h2⟩
theorem assoc_new {ks : List (List Int)} {vs : List AV} {k : List Int} {z : AV} (h : posOf ks k = none) (hl : ks.length = vs.length) : assoc (ks ++ [k]) (vs ++ [z]) k = some z := by
  unfold assoc
  rw [posOf_snoc h, if_pos rfl]
  simp [hl]
theorem set_last {α : Type} {l : List α} {a b : α} {n : Nat} (h : n = l.length) : (l ++ [a]).set n b = l ++ [b] := by subst h; simp

section
variable (L : World → Prop) {kx : KX}
set_option maxHeartbeats 4000000 in
def attMid (S : St) (pb ch : Nat) (l : List Flow) (s : Sched) (x : List Rule) (Q : PL) (g : Nat → Nat → Nat) (sv dv : AV) (c : Cell) (slot : Int) (K : AV → St → Prop)
    (hI : PInv (PTk kx) S pb ch l s x Q g sv dv) (hl : l.length ≤ 16) (hQ : Q.sts.length = l.length)
    (hK0 : ∀ S', PIn (PTk kx) S' pb ch l s x (attemptS l x slot Q c) → K (.tup []) S')
    (hs : (scriptM x).2 = 0) (hok : ∀ (i : Nat) (p : PS), Q.sts[i]? = some p → p.ok) (ht : ∀ (i : Nat) (p : PS), Q.sts[i]? = some p → ¬ p.frame < 0 → ∀ a b, 0 ≤ (p.tries.get [a, b]).getD 0 ∧ (p.tries.get [a, b]).getD 0 ≤ 1099511627776)
    (hsl : 0 ≤ slot ∧ slot ≤ 1099511627776) (ha : Q.atts.length ≤ 1073741824) (hd : Q.dels.length ≤ 1073741824) :
    { p : Prop // (Unit → p) → (attHalf L S pb ch l s x Q g sv dv c slot K hI hl hQ hK0).1 } := by
  refine ⟨?p, fun H => ?main⟩
  case main =>
  conv => whnf
  rintro y S2 ⟨hB, hA⟩
  have ht2 : tmap Tryz.prog 207 = some (some 2, 3) := by kernel_rfl
  have hok0 := hok _ _ hB.gp0
  have htr := ht _ _ hB.gp0 hA.fr c.src c.dst
  obtain ⟨o, ho⟩ : ∃ o, o = outP x y.f y.p0 c := ⟨_, rfl⟩
  have hxl : ∀ r ∈ x, r.outs.length ≤ 281474976710656 := fun r hr => by
    obtain ⟨j, hj⟩ := List.getElem?_of_mem hr
    have := (ruleB_ok (ruleF_ok ((scriptM_zero hs).2 j r hj)).1).len
    omega
  -- the outcome
  refine SeqK.cutN mixed [10007] [8, 9, 10, 12, 13, 16] (fun y S2 => ABase l x slot Q c y ∧ AInv kx pb ch l s x c y y.p0 Q S2 ∧ outP x y.f y.p0 c = o) (fun y => (14, .int .i64 o) :: aSl pb slot c y) ?_ ?_
  · have hp2 := hA.P.p
    have hq2 := hA.q
    have hc2 := hA.cb
    have h72 := hA.z7
    have h92 := hA.z9
    have hd0 : ∀ n j' : Nat, n = 5 → j' = 0 → (flatE (statesE y.g Q.sts) ++ y.ex)[0 + (y.i : Int).toNat * n + j']? = some (.int .i64 y.p0.frame) := fun n j' hn hj => hA.ld 0 (by decide) n j' hn hj
    have hd2 : ∀ n j' : Nat, n = 5 → j' = 2 → (flatE (statesE y.g Q.sts) ++ y.ex)[0 + (y.i : Int).toNat * n + j']? = some (.mp (y.g y.i 1)) := fun n j' hn hj => by rw [hA.ld 2 (by decide) n j' hn hj]; show some (mpv y.p0 (y.g y.i 1)) = _; rw [hA.mpv]
    have ho2 : ∀ v, v = .mp (y.g y.i 1) → mapOfL S2 (some 2) v = some (y.p0.tries.ks, y.p0.tries.vs.map encI) := fun v hv => by subst hv; simp [mapOfL, hA.m 1 (by omega), IM.ob, mapsOf]
    refine Wk ?_
    refine SemK.regionMix mixed [0, 1, 2, 3, 4, 5, 6, 7, 8, 9, 10, 11, 12, 13] 2 rfl rfl (by decide) rfl ?_
    repeat ((conv => whnf); first | refine sJ ?_ | refine And.intro (by first | exact trivial | kernel_rfl) ?_ | rw [St.flush_nil] | rw [ht2] | rw [hp2] | rw [hq2] | rw [hc2] | rw [h72] | rw [h92] | (rw [ho2]; rotate_left; rfl) | (rw [hd0]; rotate_left; rfl; rfl) | (rw [hd2]; rotate_left; rfl; rfl))
    try (conv => whnf)
    rw [IM.assoc]
    have fin : ∀ k, (y.p0.tries.get [c.src, c.dst]).getD 0 = k → outcomeM x y.f.id y.p0.frame c.src c.dst k.toNat = o := fun k hk => by rw [ho, outP, hk]
    cases hgt : y.p0.tries.get [c.src, c.dst] with
    | none =>
      have fin0 := fin 0 (by rw [hgt]; rfl)
      repeat ((conv => whnf); first | refine sJ ?_ | refine And.intro (by first | exact trivial | kernel_rfl) ?_ | rw [St.flush_nil] | rw [ht2] | rw [hp2] | rw [hq2] | rw [hc2] | rw [h72] | rw [h92] | (rw [ho2]; rotate_left; rfl) | (rw [hd0]; rotate_left; rfl; rfl) | (rw [hd2]; rotate_left; rfl; rfl))
      try (conv => whnf)
      refine And.intro ?_ trivial
      conv => whnf
      refine CallK.inl rfl ?_
      refine i_outcome L _ pb l s x _ _ _ y.f.id y.p0.frame c.src c.dst 0 hs hxl (by omega) hp2 fun tl => ?_
      rw [fin0]
      refine ⟨More.pre rfl rfl, ?_⟩
      repeat' ((conv => whnf); first | exact trivial | refine sJ ?_ | refine And.intro (by first | exact trivial | exact More.pre rfl rfl | kernel_rfl) ?_ | refine And.intro ?_ ?_ )
      all_goals (conv => whnf)
      exact ⟨y, ⟨hB, hA.more (fun id o ho => (List.getElem?_append_left (List.getElem?_eq_some_iff.1 ho).1).trans ho) rfl rfl, ho.symm⟩, Sees.of_eq rfl, Sees.of_eq rfl, Sees.of_eq rfl, Sees.of_eq rfl, Sees.of_eq rfl, Sees.of_eq rfl, Sees.of_eq rfl, Sees.of_eq rfl, trivial⟩
    | some k =>
      have fin0 := fin k (by rw [hgt]; rfl)
      rw [hgt] at htr
      repeat ((conv => whnf); first | refine sJ ?_ | refine And.intro (by first | exact trivial | kernel_rfl) ?_ | rw [St.flush_nil] | rw [ht2] | rw [hp2] | rw [hq2] | rw [hc2] | rw [h72] | rw [h92] | (rw [ho2]; rotate_left; rfl) | (rw [hd0]; rotate_left; rfl; rfl) | (rw [hd2]; rotate_left; rfl; rfl))
      try (conv => whnf)
      refine And.intro ?_ trivial
      conv => whnf
      refine CallK.inl rfl ?_
      refine i_outcome L _ pb l s x _ _ _ y.f.id y.p0.frame c.src c.dst k hs hxl htr.1 hp2 fun tl => ?_
      rw [fin0]
      refine ⟨More.pre rfl rfl, ?_⟩
      repeat' ((conv => whnf); first | exact trivial | refine sJ ?_ | refine And.intro (by first | exact trivial | exact More.pre rfl rfl | kernel_rfl) ?_ | refine And.intro ?_ ?_ )
      all_goals (conv => whnf)
      exact ⟨y, ⟨hB, hA.more (fun id o ho => (List.getElem?_append_left (List.getElem?_eq_some_iff.1 ho).1).trans ho) rfl rfl, ho.symm⟩, Sees.of_eq rfl, Sees.of_eq rfl, Sees.of_eq rfl, Sees.of_eq rfl, Sees.of_eq rfl, Sees.of_eq rfl, Sees.of_eq rfl, Sees.of_eq rfl, trivial⟩
  clear hA hB hok0 htr ho
  rintro y S2 ⟨hB, hA, ho⟩
  have hok0 := hok _ _ hB.gp0
  have htr := ht _ _ hB.gp0 hA.fr c.src c.dst
  -- the number of attempts
  refine SeqK.cutN mixed [10008] [9, 10, 12, 13, 16] (fun y S2 => ABase l x slot Q c y ∧ AInv kx pb ch l s x c y (pT y.p0 c) ⟨Q.sts.set y.i (pT y.p0 c), Q.atts, Q.dels⟩ S2 ∧ outP x y.f y.p0 c = o) (fun y => (14, .int .i64 o) :: aSl pb slot c y) ?_ ?_
  · have hq2 := hA.q
    have h92 := hA.z9
    have hd2 : ∀ n j' : Nat, n = 5 → j' = 2 → (flatE (statesE y.g Q.sts) ++ y.ex)[0 + (y.i : Int).toNat * n + j']? = some (.mp (y.g y.i 1)) := fun n j' hn hj => by rw [hA.ld 2 (by decide) n j' hn hj]; show some (mpv y.p0 (y.g y.i 1)) = _; rw [hA.mpv]
    have hm2 : S2.bx[y.g y.i 1]? = some (.map (some 2) y.p0.tries.ks (y.p0.tries.vs.map encI)) := hA.m 1 (by omega)
    have hset := hA.setM (pT y.p0 c) rfl rfl (j := 1) (by omega) (fun k hk hne => by
      rcases k with _ | _ | k
      · rfl
      · exact absurd rfl hne
      · rfl)
    have hkl : y.p0.tries.ks.length = y.p0.tries.vs.length := hok0.2.1
    refine Wk ?_
    refine SemK.regionInv mixed (InvC S2) [0, 1, 2, 3, 4] 5 rfl rfl (by decide) rfl (InvC.refl S2) ?_
    iterate 5
      conv => whnf
      apply exJ
      · intro S' K' hI' hh
        repeat ((conv => whnf); first | refine sJ ?_ | refine And.intro (by first | exact trivial | kernel_rfl) ?_ | rw [hI' _ _ _ hq2] | rw [hI' _ _ _ h92] | (rw [hd2]; rotate_left; rfl; rfl))
        try (conv => whnf)
        exact hh
    cases hpos : posOf y.p0.tries.ks [c.src, c.dst] with
    | none =>
      have hasc : ∀ k, k = [c.src, c.dst] → assoc y.p0.tries.ks (y.p0.tries.vs.map encI) k = none := fun k hk => by subst hk; rw [IM.assoc, IM.get_none' hpos]; rfl
      have hasn : ∀ k k' z, k = [c.src, c.dst] → k' = [c.src, c.dst] → assoc (y.p0.tries.ks ++ [k]) (y.p0.tries.vs.map encI ++ [z]) k' = some z := fun k k' z hk hk' => by subst hk; subst hk'; exact assoc_new hpos (by simpa using hkl)
      have hg0 := IM.get_none' hpos
      have hw1 : IntKind.i64.wrap ((0 : Int) + 1) = 1 := rfl
      have hob : mapsOf (pT y.p0 c) 1 = .map (some 2) (y.p0.tries.ks ++ [[c.src, c.dst]]) ((y.p0.tries.vs.map encI ++ [AV.int .i64 0]).set y.p0.tries.ks.length (AV.int .i64 (IntKind.i64.wrap (0 + 1)))) := by
        show Ob.map (some 2) (y.p0.tries.set [c.src, c.dst] ((y.p0.tries.get [c.src, c.dst]).getD 0 + 1)).ks ((y.p0.tries.set [c.src, c.dst] ((y.p0.tries.get [c.src, c.dst]).getD 0 + 1)).vs.map encI) = _
        rw [hg0, IM.set_none hpos, set_last (by simpa using hkl)]
        rw [List.map_append]
        rfl
      rw [hob] at hset
      have hz : zeroAV Tryz.prog 3 = some (AV.int .i64 0) := by kernel_rfl
      have hmo := mapOf_at (sh := some 2) hm2
      have hoL : ∀ v, v = .mp (y.g y.i 1) → mapOfL S2 (some 2) v = some (y.p0.tries.ks, y.p0.tries.vs.map encI) := fun v hv => mapOfL_at hm2 hv
      have hoE : ∀ ks' vs' (i n : Nat) v, v = .mp (y.g y.i 1) → mapOfL (S2.setB (y.g y.i 1) (.mapE (some 2) ks' vs' i n)) (some 2) v = some (ks', vs') := fun ks' vs' i n v hv => mapOfL_atE (St.setB_get hm2) hv
      repeat' ((conv => whnf); first | exact trivial | refine sJ ?_ | refine And.intro (by first | exact trivial | exact InvC.refl S2 | exact (InvC.refl S2).setM hm2 | exact ((InvC.refl S2).setM hm2).setM hm2 | kernel_rfl) ?_ | refine And.intro ?_ ?_ | rw [ht2] | rw [hmo] | rw [hz] | (intro n) | rw [hpos] | rw [St.setB_get hm2] | (rw [hoL]; rotate_left; rfl) | (rw [hoE]; rotate_left; rfl) | (rw [hasc]; rotate_left; rfl) | (rw [hasn]; rotate_left; rfl; rfl))
      all_goals (conv => whnf)
      all_goals (refine ⟨y, ⟨hB, ?_, ho⟩, Sees.of_eq rfl, Sees.of_eq rfl, Sees.of_eq rfl, Sees.of_eq rfl, Sees.of_eq rfl, Sees.of_eq rfl, Sees.of_eq rfl, Sees.of_eq rfl, trivial⟩)
      all_goals (rw [setB_setB]; exact hset)
    | some j =>
      obtain ⟨v, hgv, hvj⟩ := IM.get_some' hok0.2.1 hpos
      have hvE : (y.p0.tries.vs.map encI)[j]? = some (encI v) := by simp [hvj]
      have hasc : ∀ k, k = [c.src, c.dst] → assoc y.p0.tries.ks (y.p0.tries.vs.map encI) k = some (encI v) := fun k hk => by subst hk; rw [IM.assoc, hgv]; rfl
      have hz : zeroAV Tryz.prog 3 = some (AV.int .i64 0) := by kernel_rfl
      have hmo := mapOf_at (sh := some 2) hm2
      have hoL : ∀ v, v = .mp (y.g y.i 1) → mapOfL S2 (some 2) v = some (y.p0.tries.ks, y.p0.tries.vs.map encI) := fun v hv => mapOfL_at hm2 hv
      have hoE : ∀ ks' vs' (i n : Nat) v, v = .mp (y.g y.i 1) → mapOfL (S2.setB (y.g y.i 1) (.mapE (some 2) ks' vs' i n)) (some 2) v = some (ks', vs') := fun ks' vs' i n v hv => mapOfL_atE (St.setB_get hm2) hv
      have hob : mapsOf (pT y.p0 c) 1 = .map (some 2) y.p0.tries.ks ((y.p0.tries.vs.map encI).set j (AV.int .i64 (IntKind.i64.wrap (v + 1)))) := by
        show Ob.map (some 2) (y.p0.tries.set [c.src, c.dst] ((y.p0.tries.get [c.src, c.dst]).getD 0 + 1)).ks ((y.p0.tries.set [c.src, c.dst] ((y.p0.tries.get [c.src, c.dst]).getD 0 + 1)).vs.map encI) = _
        rw [hgv] at htr
        have h1 : 0 ≤ v := htr.1
        have h2 : v ≤ 1099511627776 := htr.2
        rw [hgv, IM.set_some hpos, w64 (by omega) (by omega), List.map_set]
        rfl
      rw [hob] at hset
      repeat' ((conv => whnf); first | exact trivial | refine sJ ?_ | refine And.intro (by first | exact trivial | exact InvC.refl S2 | exact (InvC.refl S2).setM hm2 | exact ((InvC.refl S2).setM hm2).setM hm2 | kernel_rfl) ?_ | refine And.intro ?_ ?_ | rw [ht2] | rw [hmo] | rw [hz] | (intro n) | rw [hpos] | rw [hvE] | rw [St.setB_get hm2] | (rw [hoL]; rotate_left; rfl) | (rw [hoE]; rotate_left; rfl) | (rw [hasc]; rotate_left; rfl))
      all_goals (conv => whnf)
      all_goals (refine ⟨y, ⟨hB, ?_, ho⟩, Sees.of_eq rfl, Sees.of_eq rfl, Sees.of_eq rfl, Sees.of_eq rfl, Sees.of_eq rfl, Sees.of_eq rfl, Sees.of_eq rfl, Sees.of_eq rfl, trivial⟩)
      all_goals (rw [setB_setB]; exact hset)
  clear hA hB hok0 htr ho
  rintro y S2 ⟨hB, hA, ho⟩
  -- the attempt is noted
  refine SeqK.cutN mixed [10009] [10, 12, 13, 16] (fun y S2 => ABase l x slot Q c y ∧ AInv kx pb ch l s x c y (pT y.p0 c) ⟨Q.sts.set y.i (pT y.p0 c), Q.atts ++ [⟨slot, y.p0.frame, c, outP x y.f y.p0 c⟩], Q.dels⟩ S2) (fun y => (14, .int .i64 (outP x y.f y.p0 c)) :: aSl pb slot c y) ?_ ?_
  · have hp2 : S2.bx[pb]? = some (.cells (plC l s x (.vsl y.qb 0 (Q.sts.set y.i (pT y.p0 c)).length 5) (.own (Q.atts.map Att.av) ch) y.dv) 145) := hA.P.p
    have hq2 := hA.q
    have hc2 := hA.cb
    have hf2 : S2.fr[ch]? = some (Q.atts.length, 8) := hA.P.a
    have hty : S2.ty ch = 150 := hA.P.ty
    have hd0 : ∀ n j' : Nat, n = 5 → j' = 0 → (flatE (statesE y.g (Q.sts.set y.i (pT y.p0 c))) ++ y.ex)[0 + (y.i : Int).toNat * n + j']? = some (.int .i64 y.p0.frame) := fun n j' hn hj => hA.ld 0 (by decide) n j' hn hj
    have hpA : ∀ y' e, (S2.addF y' e).bx[pb]? = _ := fun _ _ => hp2
    have hpF : ∀ y' e c' y2, ((S2.addF y' e).setF c' y2).bx[pb]? = _ := fun _ _ _ _ => hp2
    refine Wk ?_
    refine SemK.regionInv mixed (InvP pb S2) [0, 1, 2, 3, 4, 6, 7, 8, 9, 10, 11, 12, 13, 16, 17, 18] 4 rfl rfl (by decide) rfl (InvP.refl pb S2) ?_
    iterate 16
      conv => whnf
      apply exJ
      · intro S' K' hI' hh
        repeat ((conv => whnf); first | refine sJ ?_ | refine And.intro (by first | exact trivial | kernel_rfl) ?_ | rw [hI' _ _ _ (by exact fun he => ne_cc hp2 hq2 (by first | decide | exact (show (145 : Nat) ≠ _ by decide) | exact (show _ ≠ (145 : Nat) by decide) | exact (show _ ≠ (209 : Nat) by decide) | exact (show _ ≠ (147 : Nat) by decide)) he.symm) hq2] | rw [hI' _ _ _ (by exact fun he => ne_cc hp2 hc2 (by first | decide | exact (show (145 : Nat) ≠ _ by decide) | exact (show _ ≠ (145 : Nat) by decide) | exact (show _ ≠ (209 : Nat) by decide) | exact (show _ ≠ (147 : Nat) by decide)) he.symm) hc2] | (rw [hd0]; rotate_left; rfl; rfl))
        try (conv => whnf)
        exact hh
    repeat' ((conv => whnf); first | exact trivial | refine sJ ?_ | refine And.intro (by first | exact trivial | exact InvP.refl pb S2 | exact Els.map (f := Att.av) (fun _ => ⟨rfl, rfl⟩) | exact (fun id cs t hne h => by rw [St.setB_ne (fun he => hne he.symm)]; exact h) | exact (by rw [List.length_map]; exact St.addF_fr hf2) | exact (St.addF_ty hf2).trans hty | exact (show _ * 64 ≤ _ by simp only [List.length_map, List.length_cons, List.length_nil]; omega) | exact (by simp only [List.length_map, List.length_cons, List.length_nil, maxLen]; omega) | kernel_rfl) ?_ | refine And.intro ?_ ?_ | rw [hp2] | rw [hpA] | rw [hpF])
    all_goals (conv => whnf)
    all_goals (refine ⟨y, ⟨hB, ?_⟩, Sees.int ho.symm, Sees.of_eq rfl, Sees.of_eq rfl, Sees.of_eq rfl, Sees.of_eq rfl, Sees.of_eq rfl, Sees.of_eq rfl, Sees.of_eq rfl, trivial⟩)
    all_goals (rw [ho]; exact hA.app ⟨slot, y.p0.frame, c, o⟩ _ _ _ rfl)
  · exact H ()
end
end HM
