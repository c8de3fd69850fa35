/- Admit: the law AdmitAdds. -/
import Derived.Test.YtgfboaadhlhjhaaGreatDoorS228
import Derived.Test.YtgfboaadhlhjhaaGreatDoorS223
import Derived.Test.YtgfboaadhlhjhaaGreatDoorS122
set_option maxRecDepth 100000
namespace HM
open Go Go.RowKit Go.Proofs
set_option maxHeartbeats 8000000 in
theorem c_AdmitAdds (n : Net) (q : List Req) (s : Sched) (x : Req) (hn : n.small) (hq : q.length ≤ 1954687338211) (hx : ∀ x ∈ q, x.small) (hc : s.cells.length ≤ 281474976710656) (hxs : x.small) :
    PCall Tryz.prog LW 4 [n.av, encReqs q, s.av, x.av] (.bool true) := by
  refine PCall.intro mixed [1] (nt := 48) Tryz.func4 rfl rfl (by simp) ?_
  refine Wk ?_
  refine SeqK.sem mixed [] ?_
  refine Wk ?_
  refine SemK.freezeB 0 rfl rfl ?_
  refine SemK.freezeB 1 rfl rfl ?_
  refine SemK.freezeB 2 rfl rfl ?_
  refine twC_sound (ct := [10003]) mixed _ _ _ _ ?_
  refine Wk ?_
  first | refine CallK.data rfl (c_awake41) rfl ?_ | refine CallP.data rfl (c_awake41) rfl ?_
  refine Wk ?_
  refine SemK.regionStil mixed [0, 1, 3, 6] 5 rfl rfl (by decide) rfl ?_
  iterate 4
    conv => whnf
    apply exV
    · intro S K' hh
      refine Wk ?_
      exact hh
  by_cases hne : q = []
  · subst hne
    have hxq : ∀ y ∈ [x], y.small := fun y hy => by rw [List.mem_singleton.1 hy]; exact hxs
    repeat' ((conv => whnf); first | exact trivial | refine sJ ?_ | refine aI (by first | exact trivial | kernel_rfl) ?_ | refine And.intro ?_ ?_ | refine CallK.inl rfl (i_CloneReq0 LW _ fun S' v hb2 hf2 he2 hn2 hm2 => ?_) | fail)
    all_goals (conv => whnf)
    all_goals
      obtain ⟨bx', fr', n0', m0', ty'⟩ := S'
      obtain rfl : bx' = _ := hb2
      obtain rfl : n0' = _ := hn2
      obtain rfl : m0' = _ := hm2
      rcases he2 with rfl | rfl | ⟨c0, rfl, h0, ht⟩
      all_goals
        repeat' ((conv => whnf); first | exact trivial | refine sJ ?_ | refine aI (by first | exact trivial | exact h0 | exact ht | exact St.addF_old h0 | exact (St.addF_tyo h0).trans ht | exact Els.of_b rfl | exact hf2 _ _ (St.addF_get _ _ 0) | kernel_rfl) ?_ | refine And.intro ?_ ?_ )
      all_goals (conv => whnf)
      all_goals first | refine CallK.data rfl (c_Few38 LW n hn [x] (by simp) hxq s) rfl ?_ | refine CallP.data rfl (c_Few38 LW n hn [x] (by simp) hxq s) rfl ?_
      all_goals
        cases g1 : few38 n [x] s with
        | false =>
          repeat' ((conv => whnf); first | exact trivial | refine sJ ?_ | refine aI (by first | exact trivial | kernel_rfl) ?_ | refine And.intro ?_ ?_ )
          all_goals (conv => whnf)
          all_goals exact resP.mk rfl (Sees.bool rfl)
        | true =>
          obtain ⟨hq4, hs30⟩ := few38_len g1
          have hql : (([] : List Req) : List Req).length ≤ 1099511627776 := by simp only [List.length_cons, List.length_nil] at hq4 ⊢; omega
          have hal := admM_len n ([] : List Req) s x
          repeat' ((conv => whnf); first | exact trivial | refine sJ ?_ | refine aI (by first | exact trivial | kernel_rfl) ?_ | refine And.intro ?_ ?_ )
          all_goals (conv => whnf)
          all_goals
            first | refine CallK.data rfl (c_Admit n hn ([] : List Req) hql hx s hc x hxs) rfl ?_ | refine CallP.data rfl (c_Admit n hn ([] : List Req) hql hx s hc x hxs) rfl ?_
            refine Wk ?_
            first | refine CallK.data rfl (c_Admit41 LW n hn ([] : List Req) hql hx s (by omega) x hxs) rfl ?_ | refine CallP.data rfl (c_Admit41 LW n hn ([] : List Req) hql hx s (by omega) x hxs) rfl ?_
            refine Wk ?_
            first | refine CallK.data rfl (c_Same35 LW (admM n ([] : List Req) s x).1 (by omega)) rfl ?_ | refine CallP.data rfl (c_Same35 LW (admM n ([] : List Req) s x).1 (by omega)) rfl ?_
            repeat ((conv => whnf); first | refine sJ ?_ | refine aI (by first | exact trivial | kernel_rfl) ?_ | rw [beq_self_eq_true])
            try (conv => whnf)
            exact resP.mk rfl (Sees.bool rfl)
  · have hxq : ∀ y ∈ q ++ [x], y.small := fun y hy => by
      rcases List.mem_append.1 hy with h | h
      · exact hx y h
      · rw [List.mem_singleton.1 h]; exact hxs
    repeat' ((conv => whnf); first | exact trivial | refine sJ ?_ | refine aI (by first | exact trivial | kernel_rfl) ?_ | refine And.intro ?_ ?_ | refine CallK.inl rfl (ICall.intro mixed [] (nt := 8) Tryz.func17 rfl rfl (by simp) ?_) | fail)
    all_goals (conv => whnf)
    all_goals
      refine BrK.mk (fun h => ?_) (fun h => ?_) <;> (try rw [h])
      · exact absurd (by simpa using h) hne
      repeat' ((conv => whnf); first | exact trivial | refine sJ ?_ | refine aI (by first | exact trivial | exact Els.map (f := Req.av) (fun _ => ⟨rfl, rfl⟩) | exact Els.of_b rfl | exact (show _ * 72 ≤ _ by simp only [List.length_map, List.length_append, List.length_cons, List.length_nil]; omega) | exact (by simp only [List.length_map, List.length_append, List.length_cons, List.length_nil, maxLen]; omega) | exact (show some (_, _) = some (_, _) by simp only [List.length_map, List.length_append, List.length_cons, List.length_nil]) | kernel_rfl) ?_ | refine And.intro ?_ ?_ )
      all_goals (conv => whnf)
      all_goals refine CallK.look (args' := [n.av, encReqs (q ++ [x]), s.av]) ⟨Sees.of_eq rfl, Sees.elems (by rw [List.map_append]; rfl), Sees.of_eq rfl, trivial⟩ ?_
      all_goals first | refine CallK.data rfl (c_Few38 LW n hn (q ++ [x]) (by simp; omega) hxq s) rfl ?_ | refine CallP.data rfl (c_Few38 LW n hn (q ++ [x]) (by simp; omega) hxq s) rfl ?_
      all_goals
        cases g1 : few38 n (q ++ [x]) s with
        | false =>
          repeat' ((conv => whnf); first | exact trivial | refine sJ ?_ | refine aI (by first | exact trivial | kernel_rfl) ?_ | refine And.intro ?_ ?_ )
          all_goals (conv => whnf)
          all_goals exact resP.mk rfl (Sees.bool rfl)
        | true =>
          obtain ⟨hq4, hs30⟩ := few38_len g1
          have hql : (q : List Req).length ≤ 1099511627776 := by simp only [List.length_append, List.length_cons, List.length_nil] at hq4 ⊢; omega
          have hal := admM_len n q s x
          repeat' ((conv => whnf); first | exact trivial | refine sJ ?_ | refine aI (by first | exact trivial | kernel_rfl) ?_ | refine And.intro ?_ ?_ )
          all_goals (conv => whnf)
          all_goals
            first | refine CallK.data rfl (c_Admit n hn q hql hx s hc x hxs) rfl ?_ | refine CallP.data rfl (c_Admit n hn q hql hx s hc x hxs) rfl ?_
            refine Wk ?_
            first | refine CallK.data rfl (c_Admit41 LW n hn q hql hx s (by omega) x hxs) rfl ?_ | refine CallP.data rfl (c_Admit41 LW n hn q hql hx s (by omega) x hxs) rfl ?_
            refine Wk ?_
            first | refine CallK.data rfl (c_Same35 LW (admM n q s x).1 (by omega)) rfl ?_ | refine CallP.data rfl (c_Same35 LW (admM n q s x).1 (by omega)) rfl ?_
            repeat ((conv => whnf); first | refine sJ ?_ | refine aI (by first | exact trivial | kernel_rfl) ?_ | rw [beq_self_eq_true])
            try (conv => whnf)
            exact resP.mk rfl (Sees.bool rfl)
end HM
