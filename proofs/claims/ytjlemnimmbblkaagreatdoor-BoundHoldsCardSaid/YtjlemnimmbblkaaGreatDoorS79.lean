/- A player: the beginning. -/
import Derived.Test.YtjlemnimmbblkaaGreatDoorS77
import Derived.Test.YtjlemnimmbblkaaGreatDoorDb

set_option maxRecDepth 100000
namespace HM
open Go Go.RowKit Go.Proofs

section
variable (L : World → Prop) {kx : KX}
def fstAV : AV := .agg [.int .i64 (-1), .nilm, .nilm, .nilm, .bool false]
/-- a new player, part of whose states are there -/
structure NewI (kx : KX) (S : St) (pb : Nat) (l : List Flow) (s : Sched) (x : List Rule) (k : Nat) (sv : AV) : Prop where
  p : S.bx[pb]? = some (.cells (plC l s x sv .nils .nils) 77)
  kb : ∀ e ∈ kx.ks, S.bx[e.1]? = some (.cells e.2.1 e.2.2)
  q : (k = 0 ∧ sv = .grown .nils 0) ∨ ∃ qb ex, sv = .vsl qb 0 k 5 ∧ S.bx[qb]? = some (.cells (flatE (List.replicate k fstAV) ++ ex) 109)
theorem repWide (k : Nat) : Wide 5 (List.replicate k fstAV) := fun e he => by
  obtain ⟨_, rfl⟩ := List.mem_replicate.1 he
  rfl
theorem rep_flen (k : Nat) : (flatE (List.replicate k fstAV)).length = k * 5 := by
  have := (repWide k).flen
  rwa [List.length_replicate] at this
theorem rep_snoc (k : Nat) (ex : List AV) : flatE (List.replicate k fstAV) ++ (flatE [fstAV] ++ ex) = flatE (List.replicate (k + 1) fstAV) ++ ex := by
  rw [List.replicate_succ', flatE_app, List.append_assoc]
theorem NewI.first {kx : KX} {S : St} {pb : Nat} {l : List Flow} {s : Sched} {x : List Rule} {sv : AV} (h : NewI kx S pb l s x 0 sv) (y1 : Nat × Nat) (e : TypeId) (n m d : Nat) (hn : n = S.bx.length) (hm : m = 1) :
    NewI kx (((S.addF y1 e).addB (.cells (flatE [fstAV] ++ List.replicate d .undef) 109)).setB pb (.cells (plC l s x (.vsl n 0 m 5) .nils .nils) 77)) pb l s x 1 (.vsl n 0 m 5) := by
  subst hn; subst hm
  have hlt := (List.getElem?_eq_some_iff.1 h.p).1
  refine ⟨St.setB_get (St.addB_old (S := S.addF y1 e) h.p), fun z hz => by rw [St.setB_ne (ne_cc h.p (h.kb z hz) (kx.hk z hz).1.symm)]; exact St.addB_old (S := S.addF y1 e) (h.kb z hz), .inr ⟨S.bx.length, List.replicate d .undef, rfl, ?_⟩⟩
  rw [St.setB_ne (by omega)]
  exact St.addB_get (S.addF y1 e) _
theorem NewI.room {kx : KX} {S : St} {pb : Nat} {l : List Flow} {s : Sched} {x : List Rule} {k qb : Nat} {ex : List AV} {sv : AV} (h : NewI kx S pb l s x k sv) (hq : S.bx[qb]? = some (.cells (flatE (List.replicate k fstAV) ++ ex) 109)) (y1 : Nat × Nat) (e : TypeId) (hr : (k + 1) * 5 ≤ (flatE (List.replicate k fstAV) ++ ex).length) :
    NewI kx (((S.addF y1 e).setB qb (.cells (splice (flatE (List.replicate k fstAV) ++ ex) (k * 5) (flatE [fstAV])) 109)).setB pb (.cells (plC l s x (.vsl qb 0 (k + 1) 5) .nils .nils) 77)) pb l s x (k + 1) (.vsl qb 0 (k + 1) 5) := by
  have hne : qb ≠ pb := (ne_cc h.p hq (by first | decide | exact (show (77 : Nat) ≠ _ by decide) | exact (show _ ≠ (77 : Nat) by decide) | exact (show _ ≠ (109 : Nat) by decide) | exact (show _ ≠ (97 : Nat) by decide))).symm
  have hfl := rep_flen k
  rw [List.length_append] at hr
  refine ⟨St.setB_get (by rw [St.setB_ne hne]; exact h.p), fun z hz => by rw [St.setB_ne (ne_cc h.p (h.kb z hz) (kx.hk z hz).1.symm), St.setB_ne (ne_cc hq (h.kb z hz) (kx.hk z hz).2.1.symm)]; exact h.kb z hz, .inr ⟨qb, ex.drop 5, rfl, ?_⟩⟩
  rw [St.setB_ne hne.symm, St.setB_get (S := S.addF y1 e) hq]
  have hz : (flatE [fstAV]).length = 5 := rfl
  rw [splice_eq _ _ _ (by rw [List.length_append, hz]; omega), hz, ← hfl, List.take_left, List.drop_append]
  have : List.drop ((flatE (List.replicate k fstAV)).length + 5) (flatE (List.replicate k fstAV)) = [] := List.drop_eq_nil_of_le (by omega)
  rw [this, List.nil_append, show (flatE (List.replicate k fstAV)).length + 5 - (flatE (List.replicate k fstAV)).length = 5 from by omega, List.append_assoc, rep_snoc]
theorem NewI.grow {kx : KX} {S : St} {pb : Nat} {l : List Flow} {s : Sched} {x : List Rule} {k : Nat} {ex : List AV} {sv : AV} (h : NewI kx S pb l s x k sv) (y1 : Nat × Nat) (e : TypeId) (n d : Nat) (hn : n = S.bx.length) :
    NewI kx (((S.addF y1 e).addB (.cells ((flatE (List.replicate k fstAV) ++ ex).take (k * 5) ++ flatE [fstAV] ++ List.replicate d .undef) 109)).setB pb (.cells (plC l s x (.vsl n 0 (k + 1) 5) .nils .nils) 77)) pb l s x (k + 1) (.vsl n 0 (k + 1) 5) := by
  subst hn
  have hlt := (List.getElem?_eq_some_iff.1 h.p).1
  refine ⟨St.setB_get (St.addB_old (S := S.addF y1 e) h.p), fun z hz => by rw [St.setB_ne (ne_cc h.p (h.kb z hz) (kx.hk z hz).1.symm)]; exact St.addB_old (S := S.addF y1 e) (h.kb z hz), .inr ⟨S.bx.length, List.replicate d .undef, rfl, ?_⟩⟩
  rw [St.setB_ne (by omega), ← rep_flen k, List.take_left, List.append_assoc, rep_snoc]
  exact St.addB_get (S.addF y1 e) _

set_option maxHeartbeats 4000000 in
theorem i_newPlayer (S : St) (l : List Flow) (s : Sched) (x : List Rule) {K : AV → St → Prop} (hl : l.length ≤ 16) (hk : ∀ e ∈ kx.ks, S.bx[e.1]? = some (.cells e.2.1 e.2.2))
    (hK0 : ∀ S' pb sv, NewI kx S' pb l s x l.length sv → K (.ptr pb 0) S') :
    ICall Tryz.prog L 21 [encFlows l, s.av, encScript x] S K := by
  refine ICall.intro mixed [2] (nt := 29) Tryz.func21 rfl rfl (by simp) ?_
  repeat ((conv => whnf); first | refine sJ ?_ | refine And.intro (by first | exact trivial | kernel_rfl) ?_ )
  try (conv => whnf)
  refine SeqK.cutN mixed [] [] (fun (pb : Nat) S1 => S1.bx[pb]? = some (.cells (plC l s x .nils .nils .nils) 77) ∧ ∀ e ∈ kx.ks, S1.bx[e.1]? = some (.cells e.2.1 e.2.2)) (fun pb => [(0, encFlows l), (7, .ptr pb 0)]) ?_ ?_
  · repeat ((conv => whnf); first | refine sJ ?_ | refine And.intro (by first | exact trivial | kernel_rfl) ?_ | rw [St.addB_get])
    try (conv => whnf)
    exact ⟨_, ⟨St.addB_get _ _, fun e he => St.addB_old (St.addB_old (S := S.inner) (hk e he))⟩, Sees.of_eq rfl, Sees.of_eq rfl, trivial⟩
  · rintro pb S1 ⟨hp1, hk1⟩
    repeat ((conv => whnf); first | refine sJ ?_ | refine And.intro (by first | exact trivial | kernel_rfl) ?_ )
    try (conv => whnf)
    refine LoopK.recast (id := pb) (.cells (plC l s x (.grown .nils 0) .nils .nils) 77) hp1 rfl ⟨rfl, Sees.rfl' _, Sees.rfl' _, Sees.rfl' _, Sees.rfl' _, Sees.rfl' _, Sees.nilG, Sees.rfl' _, Sees.rfl' _, trivial⟩ ?_
    refine LoopK.runS mixed [] (fun (k : Nat) S1 => k ≤ l.length ∧ ∃ sv, NewI kx S1 pb l s x k sv) (fun k => [(7, .ptr pb 0), (14, .int .i64 l.length), (15, .int .i64 k)]) (fun k => l.length - k) 0 ⟨by omega, _, St.setB_get hp1, fun z hz => by rw [St.setB_ne (ne_cc hp1 (hk1 z hz) (kx.hk z hz).1.symm)]; exact hk1 z hz, .inl ⟨rfl, rfl⟩⟩ ?_ ?_
    · exact ⟨Sees.of_eq rfl, Sees.int (by simp), Sees.of_eq rfl, trivial⟩
    rintro k S2 ⟨hk, sv, hN⟩
    have hp2 := hN.p
    have hml : (1 : Nat) ≤ maxLen := by simp only [maxLen]; omega
    refine Wk ?_
    refine BrK.mk (fun hb => ?_) (fun hb => ?_) <;> (try rw [hb])
    · have hlt : k < l.length := by simpa using hb
      have hw : IntKind.i64.wrap ((k : Int) + 1) = ((k + 1 : Nat) : Int) := (succI hlt (by omega))
      rcases hN.q with ⟨rfl, hsv⟩ | ⟨qb, ex, hsv, hq⟩
      · have hF := fun y1 e n m d => hN.first y1 e n m d
        rw [hsv] at hp2
        have hpA : ∀ y' e, (S2.addF y' e).bx[pb]? = _ := fun _ _ => hp2
        have hpB : ∀ y' e o, ((S2.addF y' e).addB o).bx[pb]? = _ := fun y' e o => St.addB_old (S := S2.addF y' e) hp2
        repeat' ((conv => whnf); first | exact trivial | refine sJ ?_ | refine And.intro (by first | exact trivial | kernel_rfl) ?_ | refine And.intro ?_ ?_ | rw [hp2] | rw [hpA] | rw [hpB] | (intro k) | exact hml)
        all_goals (conv => whnf)
        all_goals exact ⟨1, ⟨by omega, _, hF _ _ _ _ _ rfl rfl⟩, by omega, Sees.of_eq rfl, Sees.of_eq rfl, Sees.int hw, trivial⟩
      · have hF := fun y1 e n d => hN.grow (ex := ex) y1 e n d
        have hR := fun y1 e => hN.room hq y1 e
        rw [hsv] at hp2
        have hne : qb ≠ pb := (ne_cc hp2 hq (by first | decide | exact (show (77 : Nat) ≠ _ by decide) | exact (show _ ≠ (77 : Nat) by decide) | exact (show _ ≠ (109 : Nat) by decide) | exact (show _ ≠ (97 : Nat) by decide))).symm
        have hpA : ∀ y' e, (S2.addF y' e).bx[pb]? = _ := fun _ _ => hp2
        have hpB : ∀ y' e o, ((S2.addF y' e).addB o).bx[pb]? = _ := fun y' e o => St.addB_old (S := S2.addF y' e) hp2
        have hpD : ∀ y' e o, ((S2.addF y' e).setB qb o).bx[pb]? = _ := fun y' e o => (St.setB_ne hne).trans hp2
        have hqA : ∀ y' e, (S2.addF y' e).bx[qb]? = _ := fun _ _ => hq
        have hfl : k * (4 + 1) ≤ (flatE (List.replicate k fstAV) ++ ex).length := by
          rw [List.length_append, rep_flen]; omega
        repeat' ((conv => whnf); first | exact trivial | refine sJ ?_ | refine And.intro (by first | exact trivial | exact (show (_ + 1) * 40 ≤ _ by omega) | exact (by simp only [List.length_cons, List.length_nil, maxLen]; omega) | kernel_rfl) ?_ | refine And.intro ?_ ?_ | rw [hp2] | rw [hpA] | rw [hpB] | rw [hpD] | rw [hqA] | (intro d) | (refine AppK.mk (fun hr => ?_) (fun hr => ?_)) | exact hfl)
        all_goals (conv => whnf)
        all_goals first
          | exact ⟨k + 1, ⟨by omega, _, hF _ _ _ _ rfl⟩, by omega, Sees.of_eq rfl, Sees.of_eq rfl, Sees.int hw, trivial⟩
          | exact ⟨k + 1, ⟨by omega, _, hR _ _ (by assumption)⟩, by omega, Sees.of_eq rfl, Sees.of_eq rfl, Sees.int hw, trivial⟩
    · have hk' : k = l.length := by simp at hb; omega
      subst hk'
      refine Wk ?_
      exact hK0 _ _ _ ⟨hN.p, hN.kb, hN.q⟩
end
end HM
