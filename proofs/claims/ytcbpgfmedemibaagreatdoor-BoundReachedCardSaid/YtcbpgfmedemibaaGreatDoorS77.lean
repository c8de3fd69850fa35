/- A player: an attempt as a whole. -/
import Derived.Test.YtcbpgfmedemibaaGreatDoorS76
import Derived.Test.YtcbpgfmedemibaaGreatDoorDb

set_option maxRecDepth 100000
namespace HM
open Go Go.RowKit Go.Proofs
section
variable (L : World → Prop) {kx : KX}
set_option maxHeartbeats 4000000 in
theorem attRest (S : St) (pb ch : Nat) (l : List Flow) (s : Sched) (x : List Rule) (Q : PL) (g : Nat → Nat → Nat) (sv dv : AV) (c : Cell) (slot : Int) (K : AV → St → Prop)
    (hI : PInv (PTk kx) S pb ch l s x Q g sv dv) (hl : l.length ≤ 16) (hQ : Q.sts.length = l.length)
    (hK0 : ∀ S', PIn (PTk kx) S' pb ch l s x (attemptS l x slot Q c) → K (.tup []) S')
    (hs : (scriptM x).2 = 0) (hok : ∀ (i : Nat) (p : PS), Q.sts[i]? = some p → p.ok) (ht : ∀ (i : Nat) (p : PS), Q.sts[i]? = some p → ¬ p.frame < 0 → ∀ a b, 0 ≤ (p.tries.get [a, b]).getD 0 ∧ (p.tries.get [a, b]).getD 0 ≤ 1099511627776)
    (hsl : 0 ≤ slot ∧ slot ≤ 1099511627776) (ha : Q.atts.length ≤ 1073741824) (hd : Q.dels.length ≤ 1073741824) :
    (attMid L S pb ch l s x Q g sv dv c slot K hI hl hQ hK0 hs hok ht hsl ha hd).1 := by
  conv => whnf
  rintro y S2 ⟨hB, hA⟩
  have ht2 : tmap Tryz.prog 207 = some (some 2, 3) := by kernel_rfl
  have ht1 : tmap Tryz.prog 206 = some (none, 3) := by kernel_rfl
  -- the acknowledgement
  refine SeqK.cutN mixed [] [12, 13, 16] (fun y S2 => ABase l x slot Q c y ∧ AInv kx pb ch l s x c y (pA (pT y.p0 c) c slot (outP x y.f y.p0 c)) ⟨Q.sts.set y.i (pA (pT y.p0 c) c slot (outP x y.f y.p0 c)), Q.atts ++ [⟨slot, y.p0.frame, c, outP x y.f y.p0 c⟩], Q.dels⟩ S2) (fun y => (14, .int .i64 (outP x y.f y.p0 c)) :: aSl pb slot c y) ?_ ?_
  · obtain ⟨o, ho⟩ : ∃ o, outP x y.f y.p0 c = o := ⟨_, rfl⟩
    rw [ho] at hA ⊢
    have hq2 : S2.bx[y.qb]? = some (.cells (flatE (statesE y.g (Q.sts.set y.i (pT y.p0 c))) ++ y.ex) 209) := hA.q
    have h92 := hA.z9
    have hd3 : ∀ n j' : Nat, n = 5 → j' = 3 → (flatE (statesE y.g (Q.sts.set y.i (pT y.p0 c))) ++ y.ex)[0 + (y.i : Int).toNat * n + j']? = some (.mp (y.g y.i 2)) := fun n j' hn hj => by rw [show (flatE (statesE y.g (Q.sts.set y.i (pT y.p0 c))) ++ y.ex)[0 + (y.i : Int).toNat * n + j']? = _ from hA.ld 3 (by decide) n j' hn hj]; show some (mpv (pT y.p0 c) (y.g y.i 2)) = _; rw [hA.mpv]
    have hm2 : S2.bx[y.g y.i 2]? = some (.map (some 2) y.p0.acked.ks (y.p0.acked.vs.map encI)) := hA.m 2 (by omega)
    have hmo := mapOf_at (sh := some 2) hm2
    have hset := hA.setM (pA (pT y.p0 c) c slot o) rfl rfl (j := 2) (by omega) (fun k hk hne => by
      rcases k with _ | _ | _ | k
      · rfl
      · rfl
      · exact absurd rfl hne
      · omega)
    simp only [List.set_set] at hset
    have hslot : aSl pb slot c y = aSl pb slot c y := rfl
    by_cases hc : o = 1 ∧ y.p0.acked.get [c.src, c.dst] = none
    · obtain ⟨ho1, hga⟩ := hc
      have hob : mapsOf (pA (pT y.p0 c) c slot o) 2 = .map (some 2) (setKs y.p0.acked.ks [c.src, c.dst]) (setVs y.p0.acked.ks (y.p0.acked.vs.map encI) [c.src, c.dst] (.int .i64 slot)) := by
        show Ob.map (some 2) (if o = 1 ∧ y.p0.acked.get [c.src, c.dst] = none then y.p0.acked.set [c.src, c.dst] slot else y.p0.acked).ks ((if o = 1 ∧ y.p0.acked.get [c.src, c.dst] = none then y.p0.acked.set [c.src, c.dst] slot else y.p0.acked).vs.map encI) = _
        rw [if_pos ⟨ho1, hga⟩, ← IM.setVs]
        rfl
      rw [hob] at hset
      subst ho1
      repeat ((conv => whnf); first | refine sJ ?_ | refine And.intro (by first | exact trivial | kernel_rfl) ?_ | rw [hga] | rw [ht2] | rw [hmo] | rw [hq2] | rw [h92] | (rw [hd3]; rotate_left; rfl; rfl) | rw [St.flush_nil])
      try (conv => whnf)
      exact ⟨y, ⟨hB, by rw [ho]; exact hset⟩, Sees.int ho.symm, Sees.of_eq rfl, Sees.of_eq rfl, Sees.of_eq rfl, Sees.of_eq rfl, Sees.of_eq rfl, Sees.of_eq rfl, Sees.of_eq rfl, trivial⟩
    · have hpe : pA (pT y.p0 c) c slot o = pT y.p0 c := by
        show (⟨_, _, _, if o = 1 ∧ y.p0.acked.get [c.src, c.dst] = none then y.p0.acked.set [c.src, c.dst] slot else y.p0.acked, _⟩ : PS) = _
        rw [if_neg hc]
        rfl
      rw [← hpe] at hA
      repeat ((conv => whnf); first | refine sJ ?_ | refine And.intro (by first | exact trivial | kernel_rfl) ?_ )
      try (conv => whnf)
      refine BrK.mk (fun h1 => ?_) (fun h1 => ?_) <;> (try rw [h1])
      · have h1' : o = 1 := by simpa using h1
        cases hga : y.p0.acked.get [c.src, c.dst] with
        | none => exact absurd ⟨h1', hga⟩ hc
        | some a1 =>
          repeat ((conv => whnf); first | refine sJ ?_ | refine And.intro (by first | exact trivial | kernel_rfl) ?_ | rw [hga])
          try (conv => whnf)
          exact ⟨y, ⟨hB, by rw [ho]; exact hA⟩, Sees.int ho.symm, Sees.of_eq rfl, Sees.of_eq rfl, Sees.of_eq rfl, Sees.of_eq rfl, Sees.of_eq rfl, Sees.of_eq rfl, Sees.bool (by rw [hga]), trivial⟩
      · repeat ((conv => whnf); first | refine sJ ?_ | refine And.intro (by first | exact trivial | kernel_rfl) ?_ )
        try (conv => whnf)
        exact ⟨y, ⟨hB, by rw [ho]; exact hA⟩, Sees.int ho.symm, Sees.of_eq rfl, Sees.of_eq rfl, Sees.of_eq rfl, Sees.of_eq rfl, Sees.of_eq rfl, Sees.of_eq rfl, Sees.of_eq rfl, trivial⟩
  clear hA hB
  rintro y S2 ⟨hB, hA⟩
  -- lost
  have hout : ∀ {S3 : St} {pk : PS} {at_ : List Att} {ds : List Del} {g' : Nat → Nat → Nat} {sv' dv' : AV}, PInv (PTk kx) S3 pb ch l s x ⟨Q.sts.set y.i pk, at_, ds⟩ g' sv' dv' → (⟨Q.sts.set y.i pk, at_, ds⟩ : PL) = usedQ l x slot Q c y → K (.tup []) (S3.outer S) := fun hP he => hK0 _ ⟨_, _, _, by
    rw [hB.hat, ← he]
    exact hP.more (fun _ _ h => h) rfl rfl⟩
  refine SeqK.cutN mixed [] [13, 16] (fun y S2 => ABase l x slot Q c y ∧ AInv kx pb ch l s x c y (pA (pT y.p0 c) c slot (outP x y.f y.p0 c)) ⟨Q.sts.set y.i (pA (pT y.p0 c) c slot (outP x y.f y.p0 c)), Q.atts ++ [⟨slot, y.p0.frame, c, outP x y.f y.p0 c⟩], Q.dels⟩ S2 ∧ outP x y.f y.p0 c ≠ 3) (fun y => (14, .int .i64 (outP x y.f y.p0 c)) :: aSl pb slot c y) ?_ ?_
  · repeat ((conv => whnf); first | refine sJ ?_ | refine And.intro (by first | exact trivial | kernel_rfl) ?_ )
    try (conv => whnf)
    refine BrK.mk (fun h1 => ?_) (fun h1 => ?_) <;> (try rw [h1])
    · have h1' : outP x y.f y.p0 c = 3 := by simpa using h1
      refine Wk ?_
      refine hout hA.P ?_
      unfold usedQ
      rw [usedP_eq, h1']
      simp [pD, pS]
    · have h1' : outP x y.f y.p0 c ≠ 3 := by simpa using h1
      refine Wk ?_
      exact ⟨y, ⟨hB, hA, h1'⟩, Sees.of_eq rfl, Sees.of_eq rfl, Sees.of_eq rfl, Sees.of_eq rfl, Sees.of_eq rfl, Sees.of_eq rfl, Sees.of_eq rfl, Sees.of_eq rfl, trivial⟩
  clear hA hB hout
  rintro y S2 ⟨hB, hA, ho3⟩
  -- who has it now
  refine SeqK.cutN mixed [] [10018, 18] (fun y S2 => ABase l x slot Q c y ∧ AInv kx pb ch l s x c y (pS (pA (pT y.p0 c) c slot (outP x y.f y.p0 c)) c slot (outP x y.f y.p0 c)) ⟨Q.sts.set y.i (pS (pA (pT y.p0 c) c slot (outP x y.f y.p0 c)) c slot (outP x y.f y.p0 c)), Q.atts ++ [⟨slot, y.p0.frame, c, outP x y.f y.p0 c⟩], Q.dels⟩ S2 ∧ outP x y.f y.p0 c ≠ 3) (fun y => (14, .int .i64 (outP x y.f y.p0 c)) :: aSl pb slot c y) ?_ ?_
  · obtain ⟨o, ho⟩ : ∃ o, outP x y.f y.p0 c = o := ⟨_, rfl⟩
    rw [ho] at hA ho3 ⊢
    have hq2 : S2.bx[y.qb]? = some (.cells (flatE (statesE y.g (Q.sts.set y.i (pA (pT y.p0 c) c slot o))) ++ y.ex) 209) := hA.q
    have hc2 := hA.cb
    have hd1 : ∀ n j' : Nat, n = 5 → j' = 1 → (flatE (statesE y.g (Q.sts.set y.i (pA (pT y.p0 c) c slot o))) ++ y.ex)[0 + (y.i : Int).toNat * n + j']? = some (.mp (y.g y.i 0)) := fun n j' hn hj => by rw [show (flatE (statesE y.g (Q.sts.set y.i (pA (pT y.p0 c) c slot o))) ++ y.ex)[0 + (y.i : Int).toNat * n + j']? = _ from hA.ld 1 (by decide) n j' hn hj]; show some (mpv (pA (pT y.p0 c) c slot o) (y.g y.i 0)) = _; rw [hA.mpv]
    have hm2 : S2.bx[y.g y.i 0]? = some (.map none y.p0.since.ks (y.p0.since.vs.map encI)) := hA.m 0 (by omega)
    have hmo := mapOf_at (sh := none) hm2
    have hoL : ∀ v, v = .mp (y.g y.i 0) → mapOfL S2 none v = some (y.p0.since.ks, y.p0.since.vs.map encI) := fun v hv => mapOfL_at hm2 hv
    have hset := hA.setM (pS (pA (pT y.p0 c) c slot o) c slot o) rfl rfl (j := 0) (by omega) (fun k hk hne => by
      rcases k with _ | _ | _ | k
      · exact absurd rfl hne
      · rfl
      · rfl
      · omega)
    simp only [List.set_set] at hset
    repeat ((conv => whnf); first | refine sJ ?_ | refine And.intro (by first | exact trivial | kernel_rfl) ?_ | rw [ht1] | rw [hc2] | rw [hq2] | (rw [hd1]; rotate_left; rfl; rfl) | rw [St.flush_nil] | (rw [hoL]; rotate_left; rfl))
    try (conv => whnf)
    rw [IM.assoc]
    cases hgs : y.p0.since.get [c.dst] with
    | none =>
      have hob : mapsOf (pS (pA (pT y.p0 c) c slot o) c slot o) 0 = .map none (setKs y.p0.since.ks [c.dst]) (setVs y.p0.since.ks (y.p0.since.vs.map encI) [c.dst] (.int .i64 (IntKind.i64.wrap (slot + 1)))) := by
        show Ob.map none (if o ≠ 3 ∧ y.p0.since.get [c.dst] = none then y.p0.since.set [c.dst] (slot + 1) else y.p0.since).ks ((if o ≠ 3 ∧ y.p0.since.get [c.dst] = none then y.p0.since.set [c.dst] (slot + 1) else y.p0.since).vs.map encI) = _
        rw [if_pos ⟨ho3, hgs⟩, ← IM.setVs, w64 (by omega) (by omega)]
        rfl
      rw [hob] at hset
      repeat ((conv => whnf); first | refine sJ ?_ | refine And.intro (by first | exact trivial | kernel_rfl) ?_ | rw [ht1] | rw [hmo] | rw [hc2] | rw [hq2] | (rw [hd1]; rotate_left; rfl; rfl) | rw [St.flush_nil] | (rw [hoL]; rotate_left; rfl))
      try (conv => whnf)
      exact ⟨y, ⟨hB, by rw [ho]; exact hset, by rw [ho]; exact ho3⟩, Sees.int ho.symm, Sees.of_eq rfl, Sees.of_eq rfl, Sees.of_eq rfl, Sees.of_eq rfl, Sees.of_eq rfl, Sees.of_eq rfl, Sees.of_eq rfl, trivial⟩
    | some a1 =>
      have hpe : pS (pA (pT y.p0 c) c slot o) c slot o = pA (pT y.p0 c) c slot o := by
        show (⟨_, if o ≠ 3 ∧ y.p0.since.get [c.dst] = none then y.p0.since.set [c.dst] (slot + 1) else y.p0.since, _, _, _⟩ : PS) = _
        rw [if_neg (by rw [hgs]; rintro ⟨_, hh⟩; cases hh)]
        rfl
      rw [← hpe] at hA
      repeat ((conv => whnf); first | refine sJ ?_ | refine And.intro (by first | exact trivial | kernel_rfl) ?_ | rw [ht1] | rw [hmo] | rw [hc2] | rw [hq2] | (rw [hd1]; rotate_left; rfl; rfl) | rw [St.flush_nil] | (rw [hoL]; rotate_left; rfl))
      try (conv => whnf)
      exact ⟨y, ⟨hB, by rw [ho]; exact hA, by rw [ho]; exact ho3⟩, Sees.int ho.symm, Sees.of_eq rfl, Sees.of_eq rfl, Sees.of_eq rfl, Sees.of_eq rfl, Sees.of_eq rfl, Sees.of_eq rfl, Sees.of_eq rfl, trivial⟩
  clear hA hB ho3
  rintro y S2 ⟨hB, hA, ho3⟩
  -- delivered
  have hout : ∀ {S3 : St} {pk : PS} {at_ : List Att} {ds : List Del} {g' : Nat → Nat → Nat} {sv' dv' : AV}, PInv (PTk kx) S3 pb ch l s x ⟨Q.sts.set y.i pk, at_, ds⟩ g' sv' dv' → (⟨Q.sts.set y.i pk, at_, ds⟩ : PL) = usedQ l x slot Q c y → K (.tup []) (S3.outer S) := fun hP he => hK0 _ ⟨_, _, _, by
    rw [hB.hat, ← he]
    exact hP.more (fun _ _ h => h) rfl rfl⟩
  obtain ⟨o, ho⟩ : ∃ o, outP x y.f y.p0 c = o := ⟨_, rfl⟩
  rw [ho] at hA ho3 ⊢
  obtain ⟨p3, hp3⟩ : ∃ p3, p3 = pS (pA (pT y.p0 c) c slot o) c slot o := ⟨_, rfl⟩
  rw [← hp3] at hA
  have hdn : p3.done = y.p0.done := by rw [hp3]; rfl
  have hq2 : S2.bx[y.qb]? = some (.cells (flatE (statesE y.g (Q.sts.set y.i p3)) ++ y.ex) 209) := hA.q
  have hc2 := hA.cb
  have h72 := hA.z7
  have hd4 : ∀ n j' : Nat, n = 5 → j' = 4 → (flatE (statesE y.g (Q.sts.set y.i p3)) ++ y.ex)[0 + (y.i : Int).toNat * n + j']? = some (.bool p3.done) := fun n j' hn hj => hA.ld 4 (by decide) n j' hn hj
  repeat ((conv => whnf); first | refine sJ ?_ | refine And.intro (by first | exact trivial | kernel_rfl) ?_ | rw [hc2] | rw [h72] | rw [hq2] | (rw [hd4]; rotate_left; rfl; rfl) | rw [St.flush_nil])
  try (conv => whnf)
  refine BrK.mk (fun h1 => ?_) (fun h1 => ?_) <;> (try rw [h1])
  · have h1' : c.dst = y.f.dst := by simpa using h1
    repeat ((conv => whnf); first | refine sJ ?_ | refine And.intro (by first | exact trivial | kernel_rfl) ?_ | rw [hc2] | rw [h72] | rw [hq2] | (rw [hd4]; rotate_left; rfl; rfl) | rw [St.flush_nil])
    try (conv => whnf)
    cases hdd : p3.done with
    | true =>
      repeat ((conv => whnf); first | refine sJ ?_ | refine And.intro (by first | exact trivial | kernel_rfl) ?_ | rw [hc2] | rw [h72] | rw [hq2] | (rw [hd4]; rotate_left; rfl; rfl) | rw [St.flush_nil])
      try (conv => whnf)
      refine hout hA.P ?_
      have e1 : pD y.f p3 c o = p3 := by
        show (⟨p3.frame, p3.since, p3.tries, p3.acked, p3.done || _⟩ : PS) = p3
        rw [hdd]
        show (⟨p3.frame, p3.since, p3.tries, p3.acked, true⟩ : PS) = p3
        rw [← hdd]
      unfold usedQ
      rw [usedP_eq, ho, ← hp3, e1, if_neg (by rintro ⟨_, _, hh⟩; rw [← hdn, hdd] at hh; cases hh), List.append_nil]
    | false =>
      repeat ((conv => whnf); first | refine sJ ?_ | refine And.intro (by first | exact trivial | kernel_rfl) ?_ | rw [hc2] | rw [h72] | rw [hq2] | (rw [hd4]; rotate_left; rfl; rfl) | rw [St.flush_nil])
      try (conv => whnf)
      have hus : usedQ l x slot Q c y = ⟨Q.sts.set y.i (pD y.f p3 c o), Q.atts ++ [⟨slot, y.p0.frame, c, o⟩], Q.dels ++ [⟨y.f.id, y.p0.frame, slot⟩]⟩ := by
        unfold usedQ
        rw [usedP_eq, ho, ← hp3, if_pos ⟨ho3, h1', by rw [← hdn, hdd]⟩]
      have hpd : (pD y.f p3 c o).done = true := by
        show (p3.done || (decide (o ≠ 3) && c.dst == y.f.dst)) = true
        simp [ho3, h1']
      have hset := hA.setQ (pD y.f p3 c o) rfl (fun k hk => by
        rcases k with _ | _ | k <;> rfl)
      simp only [List.set_set] at hset
      have hsp : splice (flatE (statesE y.g (Q.sts.set y.i p3)) ++ y.ex) (0 + (y.i : Int).toNat * 5 + 4) [.bool true] = flatE (statesE y.g (Q.sts.set y.i (pD y.f p3 c o))) ++ y.ex := by
        rw [splice_one, Nat.zero_add, Int.toNat_natCast, Wide.st (.bool true) y.ex (statesE_wide y.g _) (statesE_get hA.gp) (by decide)]
        congr 2
        rw [show (AV.agg (List.set [.int .i64 p3.frame, mpv p3 (y.g y.i 0), mpv p3 (y.g y.i 1), mpv p3 (y.g y.i 2), .bool p3.done] 4 (.bool true))) = stAV (y.g y.i) (pD y.f p3 c o) from by rw [stAV, hpd]; rfl, statesE_set, List.set_set]
      refine SeqK.cutN mixed [] [10018] (fun (_ : Unit) S2 => AInv kx pb ch l s x c y (pD y.f p3 c o) ⟨Q.sts.set y.i (pD y.f p3 c o), Q.atts ++ [⟨slot, y.p0.frame, c, o⟩], Q.dels⟩ S2) (fun _ => (14, .int .i64 o) :: aSl pb slot c y) ?_ ?_
      · have hle : 0 + (y.i : Int).toNat * 5 + 4 + 1 ≤ (flatE (statesE y.g (Q.sts.set y.i p3)) ++ y.ex).length := by
          have h5 := (statesE_wide y.g (Q.sts.set y.i p3)).flen
          rw [statesE_len, List.length_set] at h5
          have h6 := (List.getElem?_eq_some_iff.1 hB.gp0).1
          rw [List.length_append, h5, Int.toNat_natCast]
          omega
        repeat ((conv => whnf); first | refine sJ ?_ | refine And.intro (by first | exact trivial | exact hle | kernel_rfl) ?_ | rw [hc2] | rw [h72] | rw [hq2] | (rw [hd4]; rotate_left; rfl; rfl) | rw [St.flush_nil])
        try (conv => whnf)
        exact ⟨(), by rw [← hsp] at hset; exact hset, Sees.of_eq rfl, Sees.of_eq rfl, Sees.of_eq rfl, Sees.of_eq rfl, Sees.of_eq rfl, Sees.of_eq rfl, Sees.of_eq rfl, Sees.of_eq rfl, trivial⟩
      · rintro ⟨⟩ S3 hA3
        have hp3' : S3.bx[pb]? = some (.cells (plC l s x (.vsl y.qb 0 (Q.sts.set y.i (pD y.f p3 c o)).length 5) (.own ((Q.atts ++ [(⟨slot, y.p0.frame, c, o⟩ : Att)]).map Att.av) ch) y.dv) 145) := hA3.P.p
        have hq3 : S3.bx[y.qb]? = some (.cells (flatE (statesE y.g (Q.sts.set y.i (pD y.f p3 c o))) ++ y.ex) 209) := hA3.q
        have h73 := hA3.z7
        have hfr : p3.frame = y.p0.frame := by rw [hp3]; rfl
        have hd0 : ∀ n j' : Nat, n = 5 → j' = 0 → (flatE (statesE y.g (Q.sts.set y.i (pD y.f p3 c o))) ++ y.ex)[0 + (y.i : Int).toNat * n + j']? = some (.int .i64 y.p0.frame) := fun n j' hn hj => by rw [← hfr]; exact hA3.ld 0 (by decide) n j' hn hj
        have hpA : ∀ y' e, (S3.addF y' e).bx[pb]? = _ := fun _ _ => hp3'
        refine Wk ?_
        refine SemK.regionInv mixed (InvY (PTk kx) S3) [0, 1, 2, 3, 4, 6, 7, 8, 9, 10, 11, 12, 13, 16, 17, 18] 4 rfl rfl (by decide) rfl (InvY.refl (PTk kx) S3) ?_
        iterate 16
          conv => whnf
          apply exJ
          · intro S' K' hI' hh
            repeat ((conv => whnf); first | refine sJ ?_ | refine And.intro (by first | exact trivial | kernel_rfl) ?_ | rw [hI' _ _ _ (by first | decide | exact (show (145 : Nat) ≠ _ by decide) | exact (show _ ≠ (145 : Nat) by decide) | exact (show _ ≠ (209 : Nat) by decide) | exact (show _ ≠ (147 : Nat) by decide)) (by first | decide | exact (show (145 : Nat) ≠ _ by decide) | exact (show _ ≠ (145 : Nat) by decide) | exact (show _ ≠ (209 : Nat) by decide) | exact (show _ ≠ (147 : Nat) by decide)) hq3] | rw [hI' _ _ _ (by first | decide | exact (show (145 : Nat) ≠ _ by decide) | exact (show _ ≠ (145 : Nat) by decide) | exact (show _ ≠ (209 : Nat) by decide) | exact (show _ ≠ (147 : Nat) by decide)) (by first | decide | exact (show (145 : Nat) ≠ _ by decide) | exact (show _ ≠ (145 : Nat) by decide) | exact (show _ ≠ (209 : Nat) by decide) | exact (show _ ≠ (147 : Nat) by decide)) h73] | (rw [hd0]; rotate_left; rfl; rfl))
            try (conv => whnf)
            exact hh
        have hml : (1 : Nat) ≤ maxLen := by simp only [maxLen]; omega
        rcases hA3.P.d with ⟨hq0, hdv⟩ | ⟨db, ex, hdv, hdb⟩
        · have hP := fun k y1 e => hA3.P.delNew hq0 (⟨y.f.id, y.p0.frame, slot⟩ : Del) _ rfl y1 e k _ 1 rfl rfl
          rw [hdv] at hp3' hpA
          have hpB : ∀ y' e o, ((S3.addF y' e).addB o).bx[pb]? = _ := fun y' e o => St.addB_old (S := S3.addF y' e) hp3'
          repeat' ((conv => whnf); first | exact trivial | refine sJ ?_ | refine And.intro (by first | exact trivial | exact InvY.refl (PTk kx) S3 | exact InvY.addB (InvY.refl (PTk kx) S3) | exact InvY.setP (InvY.addB (InvY.refl (PTk kx) S3)) hp3' | exact (by simp only [List.length_cons, List.length_nil, maxLen]; omega) | kernel_rfl) ?_ | refine And.intro ?_ ?_ | rw [hp3'] | rw [hpA] | rw [hpB] | (intro k) | exact hml)
          all_goals (conv => whnf)
          all_goals exact hout (hP _ _ _) hus.symm
        · have hP := fun k y1 e => hA3.P.delGrow hdv hdb (⟨y.f.id, y.p0.frame, slot⟩ : Del) _ rfl y1 e k _ rfl
          have hP2 := fun y1 e => hA3.P.delRoom hdv hdb (⟨y.f.id, y.p0.frame, slot⟩ : Del) _ rfl y1 e
          have hdv' : y.dv = .vsl db 0 Q.dels.length 3 := hdv
          rw [hdv'] at hp3' hpA
          have hdb' : S3.bx[db]? = some (.cells (flatE (Q.dels.map Del.av) ++ ex) 147) := hdb
          have hdA : ∀ y' e, (S3.addF y' e).bx[db]? = _ := fun _ _ => hdb'
          have hpB : ∀ y' e o, ((S3.addF y' e).addB o).bx[pb]? = _ := fun y' e o => St.addB_old (S := S3.addF y' e) hp3'
          have hne : db ≠ pb := (ne_cc hp3' hdb' (by first | decide | exact (show (145 : Nat) ≠ _ by decide) | exact (show _ ≠ (145 : Nat) by decide) | exact (show _ ≠ (209 : Nat) by decide) | exact (show _ ≠ (147 : Nat) by decide))).symm
          have hpD : ∀ y' e o, ((S3.addF y' e).setB db o).bx[pb]? = _ := fun y' e o => (St.setB_ne hne).trans hp3'
          have hfl : Q.dels.length * 3 ≤ (flatE (Q.dels.map Del.av) ++ ex).length := by
            have := (delWide Q.dels).flen
            rw [List.length_map] at this
            rw [List.length_append, this]; omega
          have hfl3 : Q.dels.length * (2 + 1) ≤ (flatE (Q.dels.map Del.av) ++ ex).length := hfl
          repeat' ((conv => whnf); first | exact trivial | refine sJ ?_ | refine And.intro (by first | exact trivial | exact InvY.refl (PTk kx) S3 | exact InvY.addB (InvY.refl (PTk kx) S3) | exact InvY.setD (InvY.refl (PTk kx) S3) hdb | exact InvY.setP (InvY.addB (InvY.refl (PTk kx) S3)) hp3' | exact InvY.setP (InvY.setD (InvY.refl (PTk kx) S3) hdb) hp3' | exact (show (_ + 1) * 24 ≤ _ by omega) | exact (show Q.dels.length + 1 ≤ maxLen by simp only [maxLen]; omega) | exact (by simp only [List.length_cons, List.length_nil, maxLen]; omega) | exact hfl | exact hfl3 | kernel_rfl) ?_ | refine And.intro ?_ ?_ | rw [hp3'] | rw [hpA] | rw [hpB] | rw [hdA] | rw [hpD] | (intro k) | (refine AppK.mk (fun hr => ?_) (fun hr => ?_)) | exact hfl3)
          all_goals (conv => whnf)
          all_goals first | exact hout (hP _ _ _) hus.symm | exact hout (hP2 _ _ hr) hus.symm
  · have h1' : c.dst ≠ y.f.dst := by simpa using h1
    repeat ((conv => whnf); first | refine sJ ?_ | refine And.intro (by first | exact trivial | kernel_rfl) ?_ | rw [hc2] | rw [h72] | rw [hq2] | (rw [hd4]; rotate_left; rfl; rfl) | rw [St.flush_nil])
    try (conv => whnf)
    refine hout hA.P ?_
    have e1 : pD y.f p3 c o = p3 := by
      show (⟨p3.frame, p3.since, p3.tries, p3.acked, p3.done || (decide (o ≠ 3) && c.dst == y.f.dst)⟩ : PS) = p3
      have h2 : (c.dst == y.f.dst) = false := by simpa using h1'
      rw [h2, Bool.and_false, Bool.or_false]
    unfold usedQ
    rw [usedP_eq, ho, ← hp3, e1, if_neg (by rintro ⟨_, hh, _⟩; exact h1' hh), List.append_nil]
theorem i_attempt (S : St) (pb ch : Nat) (l : List Flow) (s : Sched) (x : List Rule) (Q : PL) (c : Cell) (slot : Int) {K : AV → St → Prop} (hI : PIn (PTk kx) S pb ch l s x Q) (hl : l.length ≤ 16) (hQ : Q.sts.length = l.length)
    (hs : (scriptM x).2 = 0) (hok : ∀ (i : Nat) (p : PS), Q.sts[i]? = some p → p.ok) (ht : ∀ (i : Nat) (p : PS), Q.sts[i]? = some p → ¬ p.frame < 0 → ∀ a b, 0 ≤ (p.tries.get [a, b]).getD 0 ∧ (p.tries.get [a, b]).getD 0 ≤ 1099511627776)
    (hsl : 0 ≤ slot ∧ slot ≤ 1099511627776) (ha : Q.atts.length ≤ 1073741824) (hd : Q.dels.length ≤ 1073741824) (hK0 : ∀ S', PIn (PTk kx) S' pb ch l s x (attemptS l x slot Q c) → K (.tup []) S') :
    ICall Tryz.prog L 145 [.ptr pb 0, c.av, .int .i64 slot] S K := by
  obtain ⟨g, sv, dv, hI⟩ := hI
  exact (attHalf L S pb ch l s x Q g sv dv c slot K hI hl hQ hK0).2 fun _ => (attMid L S pb ch l s x Q g sv dv c slot K hI hl hQ hK0 hs hok ht hsl ha hd).2 fun _ => attRest L S pb ch l s x Q g sv dv c slot K hI hl hQ hK0 hs hok ht hsl ha hd
end
end HM
