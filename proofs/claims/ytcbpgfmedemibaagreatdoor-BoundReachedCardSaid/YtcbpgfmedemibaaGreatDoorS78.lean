/- A player: new frames. -/
import Derived.Test.YtcbpgfmedemibaaGreatDoorS77
import Derived.Test.YtcbpgfmedemibaaGreatDoorDb
import Derived.Test.YtcbpgfmedemibaaGreatDoorDa

set_option maxRecDepth 100000
namespace HM
open Go Go.RowKit Go.Proofs

def Pres (id : Nat) (S X : St) : Prop := ∀ o, S.bx[id]? = some o → X.bx[id]? = some o
theorem Pres.refl (id : Nat) (S : St) : Pres id S S := fun _ h => h
theorem Pres.addB {id : Nat} {S X : St} {o : Ob} (h : Pres id S X) : Pres id S (X.addB o) := fun o' ho => St.addB_old (h o' ho)
theorem Pres.setN {id id' : Nat} {S X : St} {o : Ob} (h : Pres id S X) (hi : S.bx.length ≤ id') : Pres id S (X.setB id' o) := fun o' ho => by
  have := (List.getElem?_eq_some_iff.1 ho).1
  rw [St.setB_ne (by omega)]; exact h o' ho
section
variable (L : World → Prop) {kx : KX}
set_option maxHeartbeats 4000000 in
theorem i_release (S : St) (pb ch : Nat) (l : List Flow) (s : Sched) (x : List Rule) (Q : PL) (slot : Int) {K : AV → St → Prop} (hI : PIn (PTk kx) S pb ch l s x Q) (hl : l.length ≤ 16) (hQ : Q.sts.length = l.length) (hsl : 0 ≤ slot ∧ slot ≤ 1099511627776) (hfl : ∀ (k : Nat) f, l[k]? = some f → flowE 32 f = 0)
    (hK0 : ∀ S', PIn (PTk kx) S' pb ch l s x ⟨releaseS l slot Q.sts, Q.atts, Q.dels⟩ → K (.tup []) S') :
    ICall Tryz.prog L 143 [.ptr pb 0, .int .i64 slot] S K := by
  refine ICall.intro mixed [] (nt := 53) Tryz.func143 rfl rfl (by simp) ?_
  have hp' : ∃ sv dv, S.inner.bx[pb]? = some (.cells (plC l s x sv (.own (Q.atts.map Att.av) ch) dv) 145) := by
    obtain ⟨g, sv, dv, hI⟩ := hI
    exact ⟨sv, dv, hI.p⟩
  obtain ⟨sv, dv, hp'⟩ := hp'
  repeat ((conv => whnf); first | refine sJ ?_ | refine And.intro (by first | exact trivial | kernel_rfl) ?_ | rw [hp'])
  try (conv => whnf)
  refine LoopK.runS mixed [6] (fun (k : Nat) S1 => k ≤ l.length ∧ PIn (PTk kx) S1 pb ch l s x ⟨relK l slot Q.sts k, Q.atts, Q.dels⟩) (fun k => [(0, .ptr pb 0), (1, .int .i64 slot), (11, encFlows l), (12, .int .i64 l.length), (13, .int .i64 k)]) (fun k => l.length - k) 0 ⟨by omega, ?_⟩ ?_ ?_
  · obtain ⟨g, sv, dv, hI⟩ := hI
    exact ⟨g, sv, dv, hI.more (fun _ _ h => h) rfl rfl⟩
  · exact ⟨Sees.of_eq rfl, Sees.of_eq rfl, Sees.of_eq rfl, Sees.int (by simp), Sees.of_eq rfl, trivial⟩
  rintro k S1 ⟨hk, g, sv1, dv1, hI1⟩
  refine Wk ?_
  refine BrK.mk (fun hb => ?_) (fun hb => ?_) <;> (try rw [hb])
  · have hlt : k < l.length := by simpa using hb
    obtain ⟨f, hgf⟩ := getLt hlt
    have hmf := getMap (f := Flow.av) hgf
    have hQk : (relK l slot Q.sts k).length = l.length := by rw [relK_len, hQ]
    obtain ⟨p, hgp⟩ := getLt (l := relK l slot Q.sts k) (k := k) (by omega)
    obtain ⟨qb, ex, hsv, hq1⟩ : ∃ qb ex, sv1 = .vsl qb 0 (relK l slot Q.sts k).length 5 ∧ S1.bx[qb]? = some (.cells (flatE (statesE g (relK l slot Q.sts k)) ++ ex) 209) := by
      rcases hI1.q with ⟨hh, _⟩ | hh
      · have hh : relK l slot Q.sts k = [] := hh
        rw [hh] at hgp; cases hgp
      · exact hh
    have hstep := relK_step hgf hgp
    have hfe := hfl k f hgf
    repeat ((conv => whnf); first | refine sJ ?_ | refine And.intro (by first | exact trivial | kernel_rfl) ?_ )
    try (conv => whnf)
    refine SeqK.cutN mixed [4] [] (fun (_ : Unit) S2 => PIn (PTk kx) S2 pb ch l s x ⟨relK l slot Q.sts (k + 1), Q.atts, Q.dels⟩) (fun _ => [(0, .ptr pb 0), (1, .int .i64 slot), (11, encFlows l), (12, .int .i64 l.length), (13, .int .i64 k)]) ?_ ?_
    · repeat ((conv => whnf); first | refine sJ ?_ | refine And.intro (by first | exact trivial | exact inbMap hlt | kernel_rfl) ?_ | rw [hmf] | rw [St.addB_get] | rw [St.setB_get (St.addB_get _ _)])
      try (conv => whnf)
      refine SeqK.cutN mixed [] [10005] (fun (z : Nat) S2 => PInv (PTk kx) S2 pb ch l s x ⟨relK l slot Q.sts k, Q.atts, Q.dels⟩ g sv1 dv1 ∧ S2.bx[z]? = some (.cells f.av.cells 31) ∧ S2.bx[qb]? = some (.cells (flatE (statesE g (relK l slot Q.sts k)) ++ ex) 209)) (fun z => [(0, .ptr pb 0), (1, .int .i64 slot), (4, .int .i64 k), (5, .ptr z 0), (6, .int .i64 (curM f slot).1), (7, .bool (curM f slot).2), (11, encFlows l), (12, .int .i64 l.length), (13, .int .i64 k)]) ?_ ?_
      · repeat ((conv => whnf); first | refine sJ ?_ | refine And.intro (by first | exact trivial | kernel_rfl) ?_ | rw [St.setB_get (St.addB_get _ _)])
        try (conv => whnf)
        first | refine CallK.data rfl (c_Current L f slot (by omega)) rfl ?_ | refine CallP.data rfl (c_Current L f slot (by omega)) rfl ?_
        repeat ((conv => whnf); first | refine sJ ?_ | refine And.intro (by first | exact trivial | kernel_rfl) ?_ )
        try (conv => whnf)
        have hold : ∀ (id : Nat) (o : Ob) (o1 o2 : Ob), S1.bx[id]? = some o → ((S1.addB o1).setB S1.bx.length o2).bx[id]? = some o := fun id o o1 o2 ho => by
          have := (List.getElem?_eq_some_iff.1 ho).1
          rw [St.setB_ne (by omega)]
          exact St.addB_old ho
        exact ⟨S1.bx.length, ⟨hI1.more (fun id o ho => hold id o _ _ ho) rfl rfl, St.setB_get (St.addB_get _ _), hold _ _ _ _ hq1⟩, Sees.of_eq rfl, Sees.of_eq rfl, Sees.of_eq rfl, Sees.of_eq rfl, Sees.of_eq rfl, Sees.of_eq rfl, Sees.of_eq rfl, Sees.of_eq rfl, Sees.of_eq rfl, trivial⟩
      · rintro z S2 ⟨hI2, hz, hq2⟩
        have hp2 := hI2.p
        have hd0 : ∀ n j' : Nat, n = 5 → j' = 0 → (flatE (statesE g (relK l slot Q.sts k)) ++ ex)[0 + (k : Int).toNat * n + j']? = some (.int .i64 p.frame) := fun n j' hn hj => by
          subst hn; subst hj
          rw [Nat.zero_add, Int.toNat_natCast]; exact (statesE_wide g _).ld ex (statesE_get hgp) (by decide)
        have hib : InB (k : Int) (relK l slot Q.sts k).length := ⟨by omega, by omega⟩
        rw [hsv] at hp2
        repeat ((conv => whnf); first | refine sJ ?_ | refine And.intro (by first | exact trivial | exact hib | kernel_rfl) ?_ | rw [hp2] | rw [hq2] | rw [hz] | (rw [hd0]; rotate_left; rfl; rfl))
        try (conv => whnf)
        have hskip : relS f slot p = p → PIn (PTk kx) S2 pb ch l s x ⟨relK l slot Q.sts (k + 1), Q.atts, Q.dels⟩ := fun he => by
          rw [hstep, he, set_same hgp]
          exact ⟨_, _, _, hI2⟩
        cases hcur : (curM f slot).2 with
        | false =>
          repeat ((conv => whnf); first | refine sJ ?_ | refine And.intro (by first | exact trivial | exact hib | kernel_rfl) ?_ | rw [hcur] | rw [hp2] | rw [hq2] | rw [hz] | (rw [hd0]; rotate_left; rfl; rfl))
          try (conv => whnf)
          exact ⟨(), hskip (by unfold relS; rw [if_neg (by rw [hcur]; simp)]), Sees.of_eq rfl, Sees.of_eq rfl, Sees.of_eq rfl, Sees.of_eq rfl, Sees.of_eq rfl, trivial⟩
        | true =>
          repeat ((conv => whnf); first | refine sJ ?_ | refine And.intro (by first | exact trivial | exact hib | kernel_rfl) ?_ | rw [hcur] | rw [hp2] | rw [hq2] | rw [hz] | (rw [hd0]; rotate_left; rfl; rfl))
          try (conv => whnf)
          refine BrK.mk (fun h4 => ?_) (fun h4 => ?_) <;> (try rw [h4])
          · have h4' : (curM f slot).1 ≠ p.frame := by simpa using h4
            have hrel : relS f slot p = ⟨(curM f slot).1, IM.none.set [f.src] slot, .none, .none, false⟩ := by unfold relS; rw [if_pos ⟨hcur, h4'⟩]
            have h0 : ¬ (⟨(curM f slot).1, IM.none.set [f.src] slot, .none, .none, false⟩ : PS).frame < 0 := by
              have := cur_nn hfe hcur
              show ¬ (curM f slot).1 < 0
              omega
            have ht2 : tmap Tryz.prog 207 = some (some 2, 3) := by kernel_rfl
            have ht1 : tmap Tryz.prog 206 = some (none, 3) := by kernel_rfl
            conv => whnf
            refine SemK.regionInv mixed (InvZ (PTk kx) S2) [0, 1, 2, 3, 4, 5, 7, 8, 9, 15] 7 rfl rfl (by decide) rfl (InvZ.refl (PTk kx) S2) ?_
            iterate 10
              conv => whnf
              apply exJ
              · intro S' K' hI' hh
                repeat ((conv => whnf); first | refine sJ ?_ | refine And.intro (by first | exact trivial | exact hib | kernel_rfl) ?_ | rw [hI' _ _ _ (show (145 : Nat) ≠ 209 by decide) hp2] | rw [hI' _ _ _ (show (31 : Nat) ≠ 209 by decide) hz])
                try (conv => whnf)
                exact hh
            have hqX : ∀ X : St, Pres qb S2 X → X.bx[qb]? = some (.cells (flatE (statesE g (relK l slot Q.sts k)) ++ ex) 209) := fun X h => h _ hq2
            have hle : 0 + (k : Int).toNat * 5 + 5 ≤ (flatE (statesE g (relK l slot Q.sts k)) ++ ex).length := by
              have h5 := (statesE_wide g (relK l slot Q.sts k)).flen
              rw [statesE_len] at h5
              rw [List.length_append, h5, Int.toNat_natCast]
              omega
            have hleaf := @PInv.leaf (PTk kx) S2 pb ch l s x ⟨relK l slot Q.sts k, Q.atts, Q.dels⟩ g sv1 dv1 hI2 qb ex hsv hq2 k p ⟨(curM f slot).1, IM.none.set [f.src] slot, .none, .none, false⟩ hgp h0
            rw [hstep, hrel]
            repeat' ((conv => whnf); first | exact trivial | refine sJ ?_ | refine And.intro (by first | exact trivial | exact hle | ((repeat' (first | exact InvZ.refl (PTk kx) S2 | refine InvZ.addB ?_ | refine InvZ.setQ ?_ hq2 | refine InvZ.setN ?_ (by first | exact St.len0 _ | exact St.len1 _ _ | exact St.len2 _ _ _))); done) | kernel_rfl) ?_ | refine And.intro ?_ ?_ | rw [ht1] | rw [ht2] | rw [mapOf_at mo0] | rw [mapOf_at mo1] | rw [mapOf_at mo2] | (rw [hqX]; rotate_left; focus ((repeat' (first | exact Pres.refl _ _ | refine Pres.addB ?_ | refine Pres.setN ?_ (by first | exact St.len0 _ | exact St.len1 _ _ | exact St.len2 _ _ _))); done)))
            all_goals (conv => whnf)
            all_goals first
              | (refine ⟨(), hleaf [.map none (setKs [] [f.src]) (setVs [] [] [f.src] (.int .i64 slot)), .map (some 2) [] [], .map (some 2) [] []] ?_ 0 1 2 rfl rfl rfl (by decide) (by decide) (by decide) ?_ ?_ ?_ (show 0 + (k : Int).toNat * 5 = k * 5 by simp), Sees.of_eq rfl, Sees.of_eq rfl, Sees.of_eq rfl, Sees.of_eq rfl, Sees.of_eq rfl, trivial⟩ <;> (simp [St.addB, St.setB]; done))
              | (refine ⟨(), hleaf [.map none (setKs [] [f.src]) (setVs [] [] [f.src] (.int .i64 slot)), .map (some 2) [] [], .map (some 2) [] []] ?_ 0 2 1 rfl rfl rfl (by decide) (by decide) (by decide) ?_ ?_ ?_ (show 0 + (k : Int).toNat * 5 = k * 5 by simp), Sees.of_eq rfl, Sees.of_eq rfl, Sees.of_eq rfl, Sees.of_eq rfl, Sees.of_eq rfl, trivial⟩ <;> (simp [St.addB, St.setB]; done))
              | (refine ⟨(), hleaf [.map (some 2) [] [], .map none (setKs [] [f.src]) (setVs [] [] [f.src] (.int .i64 slot)), .map (some 2) [] []] ?_ 1 0 2 rfl rfl rfl (by decide) (by decide) (by decide) ?_ ?_ ?_ (show 0 + (k : Int).toNat * 5 = k * 5 by simp), Sees.of_eq rfl, Sees.of_eq rfl, Sees.of_eq rfl, Sees.of_eq rfl, Sees.of_eq rfl, trivial⟩ <;> (simp [St.addB, St.setB]; done))
              | (refine ⟨(), hleaf [.map (some 2) [] [], .map none (setKs [] [f.src]) (setVs [] [] [f.src] (.int .i64 slot)), .map (some 2) [] []] ?_ 1 2 0 rfl rfl rfl (by decide) (by decide) (by decide) ?_ ?_ ?_ (show 0 + (k : Int).toNat * 5 = k * 5 by simp), Sees.of_eq rfl, Sees.of_eq rfl, Sees.of_eq rfl, Sees.of_eq rfl, Sees.of_eq rfl, trivial⟩ <;> (simp [St.addB, St.setB]; done))
              | (refine ⟨(), hleaf [.map (some 2) [] [], .map (some 2) [] [], .map none (setKs [] [f.src]) (setVs [] [] [f.src] (.int .i64 slot))] ?_ 2 0 1 rfl rfl rfl (by decide) (by decide) (by decide) ?_ ?_ ?_ (show 0 + (k : Int).toNat * 5 = k * 5 by simp), Sees.of_eq rfl, Sees.of_eq rfl, Sees.of_eq rfl, Sees.of_eq rfl, Sees.of_eq rfl, trivial⟩ <;> (simp [St.addB, St.setB]; done))
              | (refine ⟨(), hleaf [.map (some 2) [] [], .map (some 2) [] [], .map none (setKs [] [f.src]) (setVs [] [] [f.src] (.int .i64 slot))] ?_ 2 1 0 rfl rfl rfl (by decide) (by decide) (by decide) ?_ ?_ ?_ (show 0 + (k : Int).toNat * 5 = k * 5 by simp), Sees.of_eq rfl, Sees.of_eq rfl, Sees.of_eq rfl, Sees.of_eq rfl, Sees.of_eq rfl, trivial⟩ <;> (simp [St.addB, St.setB]; done))
          · have h4' : (curM f slot).1 = p.frame := by simpa using h4
            refine Wk ?_
            exact ⟨(), hskip (by unfold relS; rw [if_neg (by rw [h4']; simp)]), Sees.of_eq rfl, Sees.of_eq rfl, Sees.of_eq rfl, Sees.of_eq rfl, Sees.of_eq rfl, trivial⟩
    · rintro ⟨⟩ S2 hI2
      refine Wk ?_
      refine ⟨k + 1, ⟨by omega, hI2⟩, by omega, Sees.of_eq rfl, Sees.of_eq rfl, Sees.of_eq rfl, Sees.of_eq rfl, Sees.int (succI hlt (by omega)), trivial⟩
  · have hk' : k = l.length := by simp at hb; omega
    subst hk'
    refine Wk ?_
    refine hK0 _ ?_
    rw [relK_all l slot Q.sts hQ] at hI1
    exact ⟨g, sv1, dv1, hI1.more (fun _ _ h => h) rfl rfl⟩
end
end HM
