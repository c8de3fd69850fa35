/- AdmitServes: the law. -/
import Derived.Test.YtgfboaadhlhjhaaGreatDoorS234
import Derived.Test.YtgfboaadhlhjhaaGreatDoorS229
import Derived.Test.YtgfboaadhlhjhaaGreatDoorS220
import Derived.Test.YtgfboaadhlhjhaaGreatDoorS223
import Derived.Test.YtgfboaadhlhjhaaGreatDoorS122
import Derived.Test.YtgfboaadhlhjhaaGreatDoorDd
set_option maxRecDepth 100000
namespace HM
open Go Go.RowKit Go.Proofs
theorem admM_len (n : Net) (q : List Req) (s : Sched) (x : Req) : (admM n q s x).1.cells.length ≤ 512 := by
  unfold admM
  split
  · simp
  split
  · simp
  split
  · simp
  split
  · simp
  split
  · simp
  split
  · simp
  · simp only; omega
set_option maxHeartbeats 8000000 in
theorem c_AdmitServes (n : Net) (q : List Req) (s : Sched) (x : Req) (hn : n.small) (hq : q.length ≤ 1954687338211) (hx : ∀ x ∈ q, x.small) (hc : s.cells.length ≤ 281474976710656) (hxs : x.small) :
    PCall Tryz.prog LW 5 [n.av, encReqs q, s.av, x.av] (.bool true) := by
  refine PCall.intro mixed [1] (nt := 129) Tryz.func5 rfl rfl (by simp) ?_
  refine Wk ?_
  refine SeqK.sem mixed [] ?_
  refine Wk ?_
  refine SemK.freezeB 0 rfl rfl ?_
  refine SemK.freezeB 1 rfl rfl ?_
  refine SemK.freezeB 2 rfl rfl ?_
  refine twC_sound (ct := [5]) mixed _ _ _ _ ?_
  refine Wk ?_
  first | refine CallK.data rfl (c_awake41) rfl ?_ | refine CallP.data rfl (c_awake41) rfl ?_
  refine Wk ?_
  refine SeqK.cut mixed [10003] [] (fun _ : Unit => q.length ≤ 4 ∧ s.cells.length ≤ 30) (fun _ => [(1, encReqs q), (4, .cptr n.av 0), (6, .cptr s.av 0), (7, .cptr x.av 0)]) (fun _ => ⟨[.dead, .dead, .dead], [], 0, 0, fun _ => 0⟩) ?_ ?_
  · refine Wk ?_
    refine SemK.regionStil mixed [0, 1, 3, 6] 5 rfl rfl (by decide) rfl ?_
    iterate 4
      conv => whnf
      apply exV
      · intro S K' hh
        refine Wk ?_
        exact hh
    by_cases hne : q = []
    · subst hne
      have hxq : ∀ y ∈ [x], y.small := fun y hy => by rw [List.mem_singleton.1 hy]; exact hxs
      repeat' ((conv => whnf); first | exact trivial | refine sJ ?_ | refine And.intro (by first | exact trivial | kernel_rfl) ?_ | refine And.intro ?_ ?_ | refine CallK.inl rfl (i_CloneReq0 LW _ fun S' v hb2 hf2 he2 hn2 hm2 => ?_) | fail)
      all_goals (conv => whnf)
      all_goals
        obtain ⟨bx', fr', n0', m0', ty'⟩ := S'
        obtain rfl : bx' = _ := hb2
        obtain rfl : n0' = _ := hn2
        obtain rfl : m0' = _ := hm2
        rcases he2 with rfl | rfl | ⟨c0, rfl, h0, ht⟩
        all_goals
          repeat' ((conv => whnf); first | exact trivial | refine sJ ?_ | refine And.intro (by first | exact trivial | exact h0 | exact ht | exact St.addF_old h0 | exact (St.addF_tyo h0).trans ht | exact Els.of_b rfl | exact hf2 _ _ (St.addF_get _ _ 0) | kernel_rfl) ?_ | refine And.intro ?_ ?_ )
        all_goals (conv => whnf)
        all_goals first | refine CallK.data rfl (c_Few38 LW n hn [x] (by simp) hxq s) rfl ?_ | refine CallP.data rfl (c_Few38 LW n hn [x] (by simp) hxq s) rfl ?_
        all_goals
          cases g1 : few38 n [x] s with
          | false =>
            repeat' ((conv => whnf); first | exact trivial | refine sJ ?_ | refine And.intro (by first | exact trivial | kernel_rfl) ?_ | refine And.intro ?_ ?_ )
            all_goals (conv => whnf)
            all_goals exact resP.mk rfl (Sees.bool rfl)
          | true =>
            obtain ⟨hq4, hs30⟩ := few38_len g1
            have hql : (([] : List Req) : List Req).length ≤ 4 := by simp only [List.length_cons, List.length_nil] at hq4 ⊢; omega
            repeat' ((conv => whnf); first | exact trivial | refine sJ ?_ | refine And.intro (by first | exact trivial | kernel_rfl) ?_ | refine And.intro ?_ ?_ )
            all_goals (conv => whnf)
            all_goals
              refine ⟨(), ⟨hql, hs30⟩, ?_⟩
              refine Fits.mk' rfl rfl rfl rfl ?_ ?_ ?_ ?_ ?_ <;> repeat' (first | exact trivial | refine And.intro ?_ ?_ | exact Sees.of_eq rfl | exact lt_b rfl | rfl | exact FitF.nil _)
    · have hxq : ∀ y ∈ q ++ [x], y.small := fun y hy => by
        rcases List.mem_append.1 hy with h | h
        · exact hx y h
        · rw [List.mem_singleton.1 h]; exact hxs
      repeat' ((conv => whnf); first | exact trivial | refine sJ ?_ | refine And.intro (by first | exact trivial | kernel_rfl) ?_ | refine And.intro ?_ ?_ | refine CallK.inl rfl (ICall.intro mixed [] (nt := 8) Tryz.func17 rfl rfl (by simp) ?_) | fail)
      all_goals (conv => whnf)
      all_goals
        refine BrK.mk (fun h => ?_) (fun h => ?_) <;> (try rw [h])
        · exact absurd (by simpa using h) hne
        repeat' ((conv => whnf); first | exact trivial | refine sJ ?_ | refine And.intro (by first | exact trivial | exact Els.map (f := Req.av) (fun _ => ⟨rfl, rfl⟩) | exact Els.of_b rfl | exact (show _ * 72 ≤ _ by simp only [List.length_map, List.length_append, List.length_cons, List.length_nil]; omega) | exact (by simp only [List.length_map, List.length_append, List.length_cons, List.length_nil, maxLen]; omega) | exact (show some (_, _) = some (_, _) by simp only [List.length_map, List.length_append, List.length_cons, List.length_nil]) | kernel_rfl) ?_ | refine And.intro ?_ ?_ )
        all_goals (conv => whnf)
        all_goals refine CallK.look (args' := [n.av, encReqs (q ++ [x]), s.av]) ⟨Sees.of_eq rfl, Sees.elems (by rw [List.map_append]; rfl), Sees.of_eq rfl, trivial⟩ ?_
        all_goals first | refine CallK.data rfl (c_Few38 LW n hn (q ++ [x]) (by simp; omega) hxq s) rfl ?_ | refine CallP.data rfl (c_Few38 LW n hn (q ++ [x]) (by simp; omega) hxq s) rfl ?_
        all_goals
          cases g1 : few38 n (q ++ [x]) s with
          | false =>
            repeat' ((conv => whnf); first | exact trivial | refine sJ ?_ | refine And.intro (by first | exact trivial | kernel_rfl) ?_ | refine And.intro ?_ ?_ )
            all_goals (conv => whnf)
            all_goals exact resP.mk rfl (Sees.bool rfl)
          | true =>
            obtain ⟨hq4, hs30⟩ := few38_len g1
            have hql : (q : List Req).length ≤ 4 := by simp only [List.length_append, List.length_cons, List.length_nil] at hq4 ⊢; omega
            repeat' ((conv => whnf); first | exact trivial | refine sJ ?_ | refine And.intro (by first | exact trivial | kernel_rfl) ?_ | refine And.intro ?_ ?_ )
            all_goals (conv => whnf)
            all_goals
              refine ⟨(), ⟨hql, hs30⟩, ?_⟩
              refine Fits.mk' rfl rfl rfl rfl ?_ ?_ ?_ ?_ ?_ <;> repeat' (first | exact trivial | refine And.intro ?_ ?_ | exact Sees.of_eq rfl | exact lt_b rfl | rfl | exact FitF.nil _)
  rintro ⟨⟩ ⟨hq4, hs30⟩
  have hql : q.length ≤ 1099511627776 := by omega
  have hal := admM_len n q s x
  refine Wk ?_
  first | refine CallK.data rfl (c_Admit n hn q hql hx s hc x hxs) rfl ?_ | refine CallP.data rfl (c_Admit n hn q hql hx s hc x hxs) rfl ?_
  by_cases he : (admM n q s x).2 = 0
  rotate_left
  · have g2 : ((admM n q s x).2 != 0) = true := by simpa using he
    rw [admM_err he]
    repeat ((conv => whnf); first | refine sJ ?_ | refine And.intro (by first | exact trivial | kernel_rfl) ?_ | rw [g2])
    try (conv => whnf)
    exact resP.mk rfl (Sees.bool rfl)
  obtain ⟨t, ht⟩ : ∃ t, admM n q s x = (t, 0) := ⟨_, by rw [← he]⟩
  obtain ⟨m1, m2, m3, f1, f2, e1, e2, e3, e4, e5⟩ := adm_serves ht
  obtain ⟨p1, p2, p3, p4, p5, p6⟩ := adm_parts ht
  have hdr := drop_adm ht
  obtain ⟨hrq, hv, hcb, _⟩ := make_parts p1
  obtain ⟨hok, _, hreq, _⟩ := reqE_ok hrq
  have hil : (insQ q x).length = q.length + 1 := insAt_len _ _ _
  rw [ht]
  have ho1 : onlyL s t = [] := List.filter_eq_nil_iff.2 fun c hcm => by simp [e4 c hcm]
  refine Wk ?_
  first | refine CallK.data rfl (c_Differ LW s t (by omega) (by omega) f1 f2 e1 e2) rfl ?_ | refine CallP.data rfl (c_Differ LW s t (by omega) (by omega) f1 f2 e1 e2) rfl ?_
  rw [ho1]
  refine Wk ?_
  first | refine CallK.data rfl (c_With41 LW q x (by omega) (ids_up hrq) p2) rfl ?_ | refine CallP.data rfl (c_With41 LW q x (by omega) (ids_up hrq) p2) rfl ?_
  refine Wk ?_
  first | refine CallK.data rfl (c_Make n hn (insQ q x) (by omega) (insQ_small hx hxs) t (by omega)) rfl ?_ | refine CallP.data rfl (c_Make n hn (insQ q x) (by omega) (insQ_small hx hxs) t (by omega)) rfl ?_
  rw [m2]
  refine Wk ?_
  first | refine CallK.data rfl (c_Make n hn q hql hx s hc) rfl ?_ | refine CallP.data rfl (c_Make n hn q hql hx s hc) rfl ?_
  rw [m1]
  refine Wk ?_
  first | refine CallK.data rfl (c_Drop t x.flow.id (by omega)) rfl ?_ | refine CallP.data rfl (c_Drop t x.flow.id (by omega)) rfl ?_
  rw [hdr]
  have hmore : (onlyL t s).any (fun c => c.flow != x.flow.id) = false := by
    rw [List.any_eq_false]
    intro c hcm
    obtain ⟨h1, h2⟩ := List.mem_filter.1 hcm
    have := e5 c h1 (by simpa using h2)
    simp [this]
  refine Wk ?_
  refine CallK.data rfl (c_ContainsFuncCell LW (onlyL t s) (fun c => c.flow != x.flow.id) 24 [.cptr x.av 0] (Nat.le_trans (List.length_filter_le _ _) (by omega)) rfl rfl (fun c _ => c_srv1 LW c x)) rfl ?_
  rw [hmore]
  refine Wk ?_
  first | refine CallK.data rfl (c_Same35 LW s (by omega)) rfl ?_ | refine CallP.data rfl (c_Same35 LW s (by omega)) rfl ?_
  refine Wk ?_
  obtain ⟨C, hC⟩ : ∃ C, C = (insQ q x).map (claimM n t) := ⟨_, rfl⟩
  obtain ⟨D, hD⟩ : ∃ D, D = q.map (claimM n s) := ⟨_, rfl⟩
  have hCl : C.length = q.length + 1 := by rw [hC, List.length_map, hil]
  have hDl : D.length = q.length := by rw [hD, List.length_map]
  rw [← hC, ← hD]
  refine LoopK.run mixed [] (fun k : Nat => k ≤ D.length) (fun k => [(14, encClaims C), (17, encClaims D), (112, encClaims D), (113, .int .i64 D.length), (114, .int .i64 k)]) (fun _ => St.none) (fun k => D.length - k) 0 (by omega) ?_ ?_
  · refine Fits.mk' rfl rfl rfl rfl ?_ ?_ ?_ ?_ ?_ <;> repeat' (first | exact trivial | refine And.intro ?_ ?_ | exact Sees.of_eq rfl | exact lt_b rfl | rfl | exact Sees.int (by simp) | exact FitF.nil _)
  rintro k hk
  by_cases hkl : k < D.length
  · obtain ⟨y, hgy⟩ := getLt hkl
    have hmy := getMap (f := Claim.av) hgy
    have g0 : decide ((k : Int) < (D.length : Int)) = true := decide_eq_true (by omega)
    have hym := List.mem_of_getElem? hgy
    rw [hD] at hym
    obtain ⟨w, hw, hyw⟩ := List.mem_map.1 hym
    obtain ⟨a1, a2⟩ := adm_claims ht hw
    rw [hyw, ← hC] at a1
    rw [hyw, ← hC] at a2
    obtain ⟨_, b1, b2, b3, b4, b5, b6⟩ := claim_parts hok (hreq w hw) (hcb w hw)
    rw [hyw] at b1 b2 b3 b4 b5 b6
    have hsm : y.small := ⟨by omega, fun r hr => Nat.le_trans (b2 r hr) (by decide), by omega, by omega, by omega, fun r hr => Nat.le_trans (b6 r hr) (by decide)⟩
    have hany : (C.any fun z => y.flow == z.flow) = true := List.any_eq_true.2 ⟨y, a1, by simp⟩
    repeat ((conv => whnf); first | refine sJ ?_ | refine And.intro (by first | exact trivial | exact inbMap hkl | kernel_rfl) ?_ | rw [g0] | rw [hmy])
    try (conv => whnf)
    refine CallK.box rfl (c_ContainsFuncClaim LW C (fun z => y.flow == z.flow) 26 [.cptr y.av 0] (by omega) rfl rfl (fun z hz => c_srv2 LW z y hsm (a2 z hz))) (fz2 rfl (fzf1 rfl)) rfl ?_
    rw [hany]
    refine Wk ?_
    refine ⟨k + 1, by omega, by omega, ?_⟩
    refine Fits.mk' rfl rfl rfl rfl ?_ ?_ ?_ ?_ ?_ <;> repeat' (first | exact trivial | refine And.intro ?_ ?_ | exact Sees.of_eq rfl | exact lt_b rfl | rfl | exact Sees.int (succI hkl (by omega)) | exact FitF.nil _)
  · have hkn : k = D.length := by omega
    subst hkn
    have g0 : decide ((D.length : Int) < (D.length : Int)) = false := decide_eq_false (by omega)
    have g1 : IntKind.i64.wrap (((D.map Claim.av).length : Int) + 1) = ((C.map Claim.av).length : Int) := by rw [w64] <;> simp only [List.length_map] <;> omega
    repeat ((conv => whnf); first | refine sJ ?_ | refine And.intro (by first | exact trivial | kernel_rfl) ?_ | rw [g0] | rw [g1])
    try (conv => whnf)
    rw [beq_self_eq_true]
    exact resP.mk rfl (Sees.bool rfl)
end HM
