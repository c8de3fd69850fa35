/- AdmitExact: the law. -/
import Derived.Test.YtgfboaadhlhjhaaGreatDoorX
import Derived.Test.YtgfboaadhlhjhaaGreatDoorXS
import Derived.Test.YtgfboaadhlhjhaaGreatDoorS237
import Derived.Test.YtgfboaadhlhjhaaGreatDoorS220
import Derived.Test.YtgfboaadhlhjhaaGreatDoorS223
import Derived.Test.YtgfboaadhlhjhaaGreatDoorS122
import Derived.Test.YtgfboaadhlhjhaaGreatDoorDd
set_option maxRecDepth 100000
namespace HM
open Go Go.RowKit Go.Proofs
theorem admM_len2 (n : Net) (q : List Req) (s : Sched) (x : Req) : (admM n q s x).1.cells.length ≤ 512 := by
  unfold admM
  split
  · simp
  split
  · simp
  split
  · simp
  split
  · simp
  split
  · simp
  split
  · simp
  · simp only; omega
theorem c_ex1 (y x : Req) : PCall Tryz.prog LW 31 [y.av, .cptr x.av 0] (.bool (y.flow.id == x.flow.id)) := by
  refine PCall.intro mixed [] (nt := 11) Tryz.func31 rfl rfl (by simp) ?_
  refine Wk ?_
  exact resP.mk rfl (Sees.bool rfl)
set_option maxHeartbeats 8000000 in
theorem c_AdmitExact (n : Net) (q : List Req) (s : Sched) (x : Req) (more : List Cell) (hn : n.small) (hq : q.length ≤ 1954687338211) (hx : ∀ x ∈ q, x.small) (hc : s.cells.length ≤ 281474976710656) (hxs : x.small) (hml : more.length ≤ 281474976710656) :
    PCall Tryz.prog LW 6 [n.av, encReqs q, s.av, x.av, encCells more] (.bool true) := by
  refine PCall.intro mixed [1] (nt := 156) Tryz.func6 rfl rfl (by simp) ?_
  refine Wk ?_
  refine SeqK.sem mixed [] ?_
  refine Wk ?_
  refine SemK.freezeB 0 rfl rfl ?_
  refine SemK.freezeB 1 rfl rfl ?_
  refine SemK.freezeB 2 rfl rfl ?_
  refine twC_sound (ct := [5]) mixed _ _ _ _ ?_
  refine Wk ?_
  first | refine CallK.data rfl (c_awake41) rfl ?_ | refine CallP.data rfl (c_awake41) rfl ?_
  refine Wk ?_
  refine SeqK.cut mixed [10003] [] (fun _ : Unit => q.length ≤ 4 ∧ s.cells.length ≤ 30 ∧ x.routes.length = 1 ∧ more.length ≤ 20) (fun _ => [(1, encReqs q), (4, encCells more), (5, .cptr n.av 0), (7, .cptr s.av 0), (8, .cptr x.av 0)]) (fun _ => ⟨[.dead, .dead, .dead], [], 0, 0, fun _ => 0⟩) ?_ ?_
  · refine Wk ?_
    refine SemK.regionStil mixed [0, 1, 3, 6] 16 rfl rfl (by decide) rfl ?_
    iterate 4
      conv => whnf
      apply exV
      · intro S K' hh
        refine Wk ?_
        exact hh
    by_cases hne : q = []
    · subst hne
      have hxq : ∀ y ∈ [x], y.small := fun y hy => by rw [List.mem_singleton.1 hy]; exact hxs
      repeat' ((conv => whnf); first | exact trivial | refine sJ ?_ | refine And.intro (by first | exact trivial | kernel_rfl) ?_ | refine And.intro ?_ ?_ | refine CallK.inl rfl (i_CloneReq0 LW _ fun S' v hb2 hf2 he2 hn2 hm2 => ?_) | fail)
      all_goals (conv => whnf)
      all_goals
        obtain ⟨bx', fr', n0', m0', ty'⟩ := S'
        obtain rfl : bx' = _ := hb2
        obtain rfl : n0' = _ := hn2
        obtain rfl : m0' = _ := hm2
        rcases he2 with rfl | rfl | ⟨c0, rfl, h0, ht⟩
        all_goals
          repeat' ((conv => whnf); first | exact trivial | refine sJ ?_ | refine And.intro (by first | exact trivial | exact h0 | exact ht | exact St.addF_old h0 | exact (St.addF_tyo h0).trans ht | exact Els.of_b rfl | exact hf2 _ _ (St.addF_get _ _ 0) | kernel_rfl) ?_ | refine And.intro ?_ ?_ )
        all_goals (conv => whnf)
        all_goals first | refine CallK.data rfl (c_Few38 LW n hn [x] (by simp) hxq s) rfl ?_ | refine CallP.data rfl (c_Few38 LW n hn [x] (by simp) hxq s) rfl ?_
        all_goals
          cases g1 : few38 n [x] s with
          | false =>
            repeat' ((conv => whnf); first | exact trivial | refine sJ ?_ | refine And.intro (by first | exact trivial | kernel_rfl) ?_ | refine And.intro ?_ ?_ )
            all_goals (conv => whnf)
            all_goals exact resP.mk rfl (Sees.bool rfl)
          | true =>
            obtain ⟨hq4, hs30⟩ := few38_len g1
            have hql : (([] : List Req) : List Req).length ≤ 4 := by simp only [List.length_cons, List.length_nil] at hq4 ⊢; omega
            by_cases hr1 : x.routes.length = 1
            rotate_left
            · have gr : (((x.routes.map encIs).length : Int) != 1) = true := by rw [List.length_map, bne_iff_ne]; omega
              repeat' ((conv => whnf); first | exact trivial | refine sJ ?_ | refine And.intro (by first | exact trivial | kernel_rfl) ?_ | refine And.intro ?_ ?_ | rw [gr])
              all_goals (conv => whnf)
              all_goals exact resP.mk rfl (Sees.bool rfl)
            have gr : (((x.routes.map encIs).length : Int) != 1) = false := by rw [List.length_map, hr1]; rfl
            by_cases hm : 20 < more.length
            · have gm : decide ((20 : Int) < ((more.map Cell.av).length : Int)) = true := decide_eq_true (by rw [List.length_map]; omega)
              repeat' ((conv => whnf); first | exact trivial | refine sJ ?_ | refine And.intro (by first | exact trivial | kernel_rfl) ?_ | refine And.intro ?_ ?_ | rw [gr] | rw [gm])
              all_goals (conv => whnf)
              all_goals exact resP.mk rfl (Sees.bool rfl)
            have gm : decide ((20 : Int) < ((more.map Cell.av).length : Int)) = false := decide_eq_false (by rw [List.length_map]; omega)
            repeat' ((conv => whnf); first | exact trivial | refine sJ ?_ | refine And.intro (by first | exact trivial | kernel_rfl) ?_ | refine And.intro ?_ ?_ | rw [gr] | rw [gm])
            all_goals (conv => whnf)
            all_goals
              refine ⟨(), ⟨hql, hs30, hr1, by omega⟩, ?_⟩
              refine Fits.mk' rfl rfl rfl rfl ?_ ?_ ?_ ?_ ?_ <;> repeat' (first | exact trivial | refine And.intro ?_ ?_ | exact Sees.of_eq rfl | exact lt_b rfl | rfl | exact FitF.nil _)
    · have hxq : ∀ y ∈ q ++ [x], y.small := fun y hy => by
        rcases List.mem_append.1 hy with h | h
        · exact hx y h
        · rw [List.mem_singleton.1 h]; exact hxs
      repeat' ((conv => whnf); first | exact trivial | refine sJ ?_ | refine And.intro (by first | exact trivial | kernel_rfl) ?_ | refine And.intro ?_ ?_ | refine CallK.inl rfl (ICall.intro mixed [] (nt := 8) Tryz.func17 rfl rfl (by simp) ?_) | fail)
      all_goals (conv => whnf)
      all_goals
        refine BrK.mk (fun h => ?_) (fun h => ?_) <;> (try rw [h])
        · exact absurd (by simpa using h) hne
        repeat' ((conv => whnf); first | exact trivial | refine sJ ?_ | refine And.intro (by first | exact trivial | exact Els.map (f := Req.av) (fun _ => ⟨rfl, rfl⟩) | exact Els.of_b rfl | exact (show _ * 72 ≤ _ by simp only [List.length_map, List.length_append, List.length_cons, List.length_nil]; omega) | exact (by simp only [List.length_map, List.length_append, List.length_cons, List.length_nil, maxLen]; omega) | exact (show some (_, _) = some (_, _) by simp only [List.length_map, List.length_append, List.length_cons, List.length_nil]) | kernel_rfl) ?_ | refine And.intro ?_ ?_ )
        all_goals (conv => whnf)
        all_goals refine CallK.look (args' := [n.av, encReqs (q ++ [x]), s.av]) ⟨Sees.of_eq rfl, Sees.elems (by rw [List.map_append]; rfl), Sees.of_eq rfl, trivial⟩ ?_
        all_goals first | refine CallK.data rfl (c_Few38 LW n hn (q ++ [x]) (by simp; omega) hxq s) rfl ?_ | refine CallP.data rfl (c_Few38 LW n hn (q ++ [x]) (by simp; omega) hxq s) rfl ?_
        all_goals
          cases g1 : few38 n (q ++ [x]) s with
          | false =>
            repeat' ((conv => whnf); first | exact trivial | refine sJ ?_ | refine And.intro (by first | exact trivial | kernel_rfl) ?_ | refine And.intro ?_ ?_ )
            all_goals (conv => whnf)
            all_goals exact resP.mk rfl (Sees.bool rfl)
          | true =>
            obtain ⟨hq4, hs30⟩ := few38_len g1
            have hql : (q : List Req).length ≤ 4 := by simp only [List.length_append, List.length_cons, List.length_nil] at hq4 ⊢; omega
            by_cases hr1 : x.routes.length = 1
            rotate_left
            · have gr : (((x.routes.map encIs).length : Int) != 1) = true := by rw [List.length_map, bne_iff_ne]; omega
              repeat' ((conv => whnf); first | exact trivial | refine sJ ?_ | refine And.intro (by first | exact trivial | kernel_rfl) ?_ | refine And.intro ?_ ?_ | rw [gr])
              all_goals (conv => whnf)
              all_goals exact resP.mk rfl (Sees.bool rfl)
            have gr : (((x.routes.map encIs).length : Int) != 1) = false := by rw [List.length_map, hr1]; rfl
            by_cases hm : 20 < more.length
            · have gm : decide ((20 : Int) < ((more.map Cell.av).length : Int)) = true := decide_eq_true (by rw [List.length_map]; omega)
              repeat' ((conv => whnf); first | exact trivial | refine sJ ?_ | refine And.intro (by first | exact trivial | kernel_rfl) ?_ | refine And.intro ?_ ?_ | rw [gr] | rw [gm])
              all_goals (conv => whnf)
              all_goals exact resP.mk rfl (Sees.bool rfl)
            have gm : decide ((20 : Int) < ((more.map Cell.av).length : Int)) = false := decide_eq_false (by rw [List.length_map]; omega)
            repeat' ((conv => whnf); first | exact trivial | refine sJ ?_ | refine And.intro (by first | exact trivial | kernel_rfl) ?_ | refine And.intro ?_ ?_ | rw [gr] | rw [gm])
            all_goals (conv => whnf)
            all_goals
              refine ⟨(), ⟨hql, hs30, hr1, by omega⟩, ?_⟩
              refine Fits.mk' rfl rfl rfl rfl ?_ ?_ ?_ ?_ ?_ <;> repeat' (first | exact trivial | refine And.intro ?_ ?_ | exact Sees.of_eq rfl | exact lt_b rfl | rfl | exact FitF.nil _)
  rintro ⟨⟩ ⟨hq4, hs30, hr1, hm20⟩
  have hql : q.length ≤ 1099511627776 := by omega
  obtain ⟨r, hrx⟩ : ∃ r, x.routes = [r] := by
    match hX : x.routes, hr1 with
    | [r], _ => exact ⟨r, rfl⟩
  refine Wk ?_
  refine LoopK.run mixed [] (fun k : Nat => k ≤ more.length) (fun k => [(1, encReqs q), (4, encCells more), (5, .cptr n.av 0), (7, .cptr s.av 0), (8, .cptr x.av 0), (11, .ptr 3 0), (55, encCells more), (56, .int .i64 more.length), (57, .int .i64 k)]) (fun k => ⟨[.dead, .dead, .dead, .cells [.int .i64 (addsX x.flow.id (more.take k) s).len, .int .i64 (addsX x.flow.id (more.take k) s).offs, encCells (addsX x.flow.id (more.take k) s).cells] 29], [], 0, 0, fun _ => 0⟩) (fun k => more.length - k) 0 (by omega) ?_ ?_
  · refine Fits.mk' rfl rfl rfl rfl ?_ ?_ ?_ ?_ ?_ <;> repeat' (first | exact trivial | refine And.intro ?_ ?_ | exact Sees.of_eq rfl | exact lt_b rfl | rfl | exact Sees.int (by simp) | exact SeesL.rfl' _)
  rintro k hk
  by_cases hkl : k < more.length
  · obtain ⟨c, hgc⟩ := getLt hkl
    have hmc := getMap (f := Cell.av) hgc
    have g0 : decide ((k : Int) < (more.length : Int)) = true := decide_eq_true (by omega)
    have hts : addsX x.flow.id (more.take (k + 1)) s = addX (addsX x.flow.id (more.take k) s) x.flow.id c := by rw [take_succ hgc, addsX_append]
    obtain ⟨T, hT⟩ : ∃ T, T = addsX x.flow.id (more.take k) s := ⟨_, rfl⟩
    rw [← hT] at hts ⊢
    repeat ((conv => whnf); first | refine sJ ?_ | refine And.intro (by first | exact trivial | exact inbMap hkl | kernel_rfl) ?_ | rw [g0] | rw [hmc])
    try (conv => whnf)
    first | refine CallK.data rfl (c_Add LW T ⟨c.slot, c.off, c.src, c.dst, x.flow.id⟩) rfl ?_ | refine CallP.data rfl (c_Add LW T ⟨c.slot, c.off, c.src, c.dst, x.flow.id⟩) rfl ?_
    by_cases he : (addM T ⟨c.slot, c.off, c.src, c.dst, x.flow.id⟩).2 = 0
    · have g1 : ((addM T ⟨c.slot, c.off, c.src, c.dst, x.flow.id⟩).2 == 0) = true := by simpa using he
      have hX : addX T x.flow.id c = (addM T ⟨c.slot, c.off, c.src, c.dst, x.flow.id⟩).1 := by unfold addX; rw [if_pos he]
      rw [hX] at hts
      repeat ((conv => whnf); first | refine sJ ?_ | refine And.intro (by first | exact trivial | kernel_rfl) ?_ | rw [g1])
      try (conv => whnf)
      refine ⟨k + 1, by omega, by omega, ?_⟩
      rw [hts]
      refine Fits.mk' rfl rfl rfl rfl ?_ ?_ ?_ ?_ ?_ <;> repeat' (first | exact trivial | refine And.intro ?_ ?_ | exact Sees.of_eq rfl | exact lt_b rfl | rfl | exact Sees.int (succI hkl (by omega)) | exact SeesL.rfl' _)
    · have g1 : ((addM T ⟨c.slot, c.off, c.src, c.dst, x.flow.id⟩).2 == 0) = false := by simpa using he
      have hX : addX T x.flow.id c = T := by unfold addX; rw [if_neg he]
      rw [hX] at hts
      repeat ((conv => whnf); first | refine sJ ?_ | refine And.intro (by first | exact trivial | kernel_rfl) ?_ | rw [g1])
      try (conv => whnf)
      refine ⟨k + 1, by omega, by omega, ?_⟩
      rw [hts]
      refine Fits.mk' rfl rfl rfl rfl ?_ ?_ ?_ ?_ ?_ <;> repeat' (first | exact trivial | refine And.intro ?_ ?_ | exact Sees.of_eq rfl | exact lt_b rfl | rfl | exact Sees.int (succI hkl (by omega)) | exact SeesL.rfl' _)
  have hkn : k = more.length := by omega
  subst hkn
  have g0 : decide ((more.length : Int) < (more.length : Int)) = false := decide_eq_false (by omega)
  rw [List.take_length]
  have htl := addsX_len x.flow.id more s
  repeat ((conv => whnf); first | refine sJ ?_ | refine And.intro (by first | exact trivial | kernel_rfl) ?_ | rw [g0])
  try (conv => whnf)
  first | refine CallK.data rfl (c_Make n hn q hql hx s hc) rfl ?_ | refine CallP.data rfl (c_Make n hn q hql hx s hc) rfl ?_
  by_cases h1 : (makeM n q s).2.2 = 0
  rotate_left
  · have g1 : ((makeM n q s).2.2 != 0) = true := by simpa using h1
    repeat ((conv => whnf); first | refine sJ ?_ | refine And.intro (by first | exact trivial | kernel_rfl) ?_ | rw [g1])
    try (conv => whnf)
    exact resP.mk rfl (Sees.bool rfl)
  have g1 : ((makeM n q s).2.2 != 0) = false := by simpa using h1
  obtain ⟨hrq, hv, _, _⟩ := make_parts h1
  have hup := ids_up hrq
  repeat ((conv => whnf); first | refine sJ ?_ | refine And.intro (by first | exact trivial | kernel_rfl) ?_ | rw [g1])
  try (conv => whnf)
  first | refine CallK.data rfl (c_With41g LW q x (by omega) hup) rfl ?_ | refine CallP.data rfl (c_With41g LW q x (by omega) hup) rfl ?_
  refine Wk ?_
  first | refine CallK.data rfl (c_Make n hn (insAt q (posW x q) x) (by rw [insAt_len]; omega) (fun y hy => by rcases insAt_mem.1 hy with rfl | hy; exact hxs; exact hx y hy) (addsX x.flow.id more s) (by omega)) rfl ?_ | refine CallP.data rfl (c_Make n hn (insAt q (posW x q) x) (by rw [insAt_len]; omega) (fun y hy => by rcases insAt_mem.1 hy with rfl | hy; exact hxs; exact hx y hy) (addsX x.flow.id more s) (by omega)) rfl ?_
  by_cases h2 : (makeM n (insAt q (posW x q) x) (addsX x.flow.id more s)).2.2 = 0
  rotate_left
  · have g2 : ((makeM n (insAt q (posW x q) x) (addsX x.flow.id more s)).2.2 != 0) = true := by simpa using h2
    repeat ((conv => whnf); first | refine sJ ?_ | refine And.intro (by first | exact trivial | kernel_rfl) ?_ | rw [g2])
    try (conv => whnf)
    exact resP.mk rfl (Sees.bool rfl)
  have g2 : ((makeM n (insAt q (posW x q) x) (addsX x.flow.id more s)).2.2 != 0) = false := by simpa using h2
  repeat ((conv => whnf); first | refine sJ ?_ | refine And.intro (by first | exact trivial | kernel_rfl) ?_ | rw [g2])
  try (conv => whnf)
  first | refine CallK.data rfl (c_Check31 LW n hn) rfl ?_ | refine CallP.data rfl (c_Check31 LW n hn) rfl ?_
  rw [hv.n0]
  refine Wk ?_
  refine CallK.data rfl (c_ContainsFuncReqA LW q (fun y => y.flow.id == x.flow.id) 31 [.cptr x.av 0] (by omega) rfl rfl (fun y _ => c_ex1 y x)) rfl ?_
  cases h3 : hasQ q x.flow.id with
  | true =>
    rw [show (q.any fun y => y.flow.id == x.flow.id) = true from h3]
    refine Wk ?_
    exact resP.mk rfl (Sees.bool rfl)
  | false =>
  rw [show (q.any fun y => y.flow.id == x.flow.id) = false from h3]
  have hpw : insAt q (posW x q) x = insQ q x := by rw [posW_eq hup h3]; rfl
  rw [hpw] at h2
  obtain ⟨u, hu, e1, e2, e3⟩ := exact_adm hrx hm20 hs30 h1 h2 h3
  have hul := admM_len2 n q s x
  rw [hu] at hul
  have hmr : (x.routes.map encIs)[Int.toNat 0]? = some (encIs r) := by rw [hrx]; rfl
  have hri : (0 : Nat) < x.routes.length := by omega
  have hrs := hxs.2 r (by rw [hrx]; simp)
  have g5 : decide ((routeM n u x.flow r).1 ≤ (routeM n (addsX x.flow.id more s) x.flow r).1) = true := decide_eq_true e3
  refine Wk ?_
  first | refine CallK.data rfl (c_Admit n hn q hql hx s hc x hxs) rfl ?_ | refine CallP.data rfl (c_Admit n hn q hql hx s hc x hxs) rfl ?_
  rw [hu]
  repeat ((conv => whnf); first | refine sJ ?_ | refine And.intro (by first | exact trivial | exact inbMap hri | kernel_rfl) ?_ | rw [hmr])
  try (conv => whnf)
  first | refine CallK.data rfl (c_BRoute n u x.flow r hn (by simp only at hul; omega) hrs) rfl ?_ | refine CallP.data rfl (c_BRoute n u x.flow r hn (by simp only at hul; omega) hrs) rfl ?_
  rw [e1]
  repeat ((conv => whnf); first | refine sJ ?_ | refine And.intro (by first | exact trivial | exact inbMap hri | kernel_rfl) ?_ | rw [hmr])
  try (conv => whnf)
  first | refine CallK.data rfl (c_BRoute n (addsX x.flow.id more s) x.flow r hn (by omega) hrs) rfl ?_ | refine CallP.data rfl (c_BRoute n (addsX x.flow.id more s) x.flow r hn (by omega) hrs) rfl ?_
  rw [e2]
  repeat ((conv => whnf); first | refine sJ ?_ | refine And.intro (by first | exact trivial | kernel_rfl) ?_ | rw [g5])
  try (conv => whnf)
  exact resP.mk rfl (Sees.bool rfl)
end HM
