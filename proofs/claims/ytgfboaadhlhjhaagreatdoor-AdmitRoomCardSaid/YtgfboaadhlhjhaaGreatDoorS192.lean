/- Room and Drop: the reference. -/
import Derived.Test.YtgfboaadhlhjhaaGreatDoorS138
import Derived.Test.YtgfboaadhlhjhaaGreatDoorS34
import Derived.Test.YtgfboaadhlhjhaaGreatDoorDc
set_option maxRecDepth 100000
namespace HM
open Go Go.RowKit Go.Proofs
section
variable (L : World → Prop)
def ft41 (n : Net) (s : Sched) (c : Cell) : List Ob := [.cells [.int .i64 n.nodes, encRows n.power, .int .i64 n.noise, .int .i64 n.thr, encLinks n.links, encIs n.margin] 26, .cells [.int .i64 s.len, .int .i64 s.offs, encCells s.cells] 29, .cells [.int .i64 c.slot, .int .i64 c.off, .int .i64 c.src, .int .i64 c.dst, .int .i64 c.flow] 61]
def ownT (s : Sched) (c : Cell) (k : Nat) : List Cell := c :: (s.cells.take k).filter fun d => d.slot == c.slot && d.off == c.off
theorem ownT_succ {s : Sched} {c d : Cell} {k : Nat} (h : s.cells[k]? = some d) : ownT s c (k + 1) = ownT s c k ++ if (d.slot == c.slot && d.off == c.off) = true then [d] else [] := by
  unfold ownT
  rw [take_succ h, List.filter_append, List.cons_append]
  congr 2
  simp only [List.filter_cons, List.filter_nil]
theorem ownT_len (s : Sched) (c : Cell) (k : Nat) : (ownT s c k).length ≤ s.cells.length + 1 := by
  unfold ownT
  rw [List.length_cons]
  exact Nat.succ_le_succ (Nat.le_trans (List.length_filter_le _ _) (by rw [List.length_take]; omega))
set_option maxHeartbeats 8000000 in
theorem c_Fits41 (n : Net) (s : Sched) (c : Cell) (hn : n.small) (hs : s.cells.length ≤ 1048576) (ho : (ownT s c s.cells.length).length ≤ 32) : PCall Tryz.prog L 44 [n.av, s.av, c.av] (.bool (fitsM n s c)) := by
  refine PCall.intro mixed [] (nt := 76) Tryz.func44 rfl rfl (by simp) ?_
  refine Wk ?_
  refine LoopK.run mixed [] (fun (k : Nat) => k ≤ s.cells.length ∧ ∀ (i : Nat) d, i < k → s.cells[i]? = some d → d.slot = c.slot → touL c.src c.dst d = false) (fun k => [(3, .ptr 0 0), (4, .ptr 1 0), (5, .ptr 2 0), (7, .own ((ownT s c k).map Cell.av) 0), (8, .int .i64 k)]) (fun k => ⟨ft41 n s c, [((ownT s c k).length, 5)], 0, 0, fun _ => 61⟩) (fun k => s.cells.length - k) 0 ⟨by omega, fun i d hi => by omega⟩ ?_ ?_
  · refine Fits.mk' rfl rfl rfl rfl ?_ ?_ ?_ ?_ ?_ <;> repeat' (first | exact trivial | refine And.intro ?_ ?_ | exact Sees.of_eq rfl | exact lt_b rfl | rfl | exact SeesL.rfl' _)
  rintro k ⟨hk, hinv⟩
  have hol := ownT_len s c k
  by_cases hkt : k < s.cells.length
  · obtain ⟨d, hgd⟩ := getLt hkt
    have hmd := getMap (f := Cell.av) hgd
    have gk : decide ((k : Int) < ((s.cells.map Cell.av).length : Int)) = true := decide_eq_true (by rw [List.length_map]; omega)
    have hos := ownT_succ (c := c) hgd
    cases hsl : (d.slot == c.slot) with
    | false =>
      rw [hsl, Bool.false_and, if_neg (by simp), List.append_nil] at hos
      have how := hos
      have hnx2 : ∀ (i : Nat) d, i < k + 1 → s.cells[i]? = some d → d.slot = c.slot → touL c.src c.dst d = false := fun i d' hi hd' hs' => by
        rcases Nat.lt_succ_iff_lt_or_eq.1 hi with hi | rfl
        · exact hinv i d' hi hd' hs'
        · rw [hgd] at hd'; injection hd' with hd'; rw [← hd'] at hs'; simp [hs'] at hsl
      repeat ((conv => whnf); first | refine sJ ?_ | refine And.intro (by first | exact trivial | exact inbMap hkt | kernel_rfl) ?_ | rw [gk] | rw [hmd] | rw [hsl])
      try (conv => whnf)
      refine ⟨k + 1, ⟨by omega, hnx2⟩, by omega, ?_⟩
      refine Fits.mk' rfl rfl rfl rfl ?_ ?_ ?_ ?_ ?_ <;> repeat' (first | exact trivial | refine And.intro ?_ ?_ | exact Sees.of_eq rfl | exact lt_b rfl | rfl | exact SeesL.rfl' _ | exact Sees.int (succI hkt (by omega)) | exact Sees.own (by rw [how]) | (show (_, _) = (_, _); rw [how]))
    | true =>
      have hsl' : d.slot = c.slot := by simpa using hsl
      rw [hsl, Bool.true_and] at hos
      cases a1 : (d.src == c.src) <;> cases a2 : (d.src == c.dst) <;> cases a3 : (d.dst == c.src) <;> cases a4 : (d.dst == c.dst)
      · have ht : touL c.src c.dst d = false := by unfold touL; rw [a1, a2, a3, a4]; rfl
        have hnx2 : ∀ (i : Nat) d, i < k + 1 → s.cells[i]? = some d → d.slot = c.slot → touL c.src c.dst d = false := fun i d' hi hd' hs' => by
          rcases Nat.lt_succ_iff_lt_or_eq.1 hi with hi | rfl
          · exact hinv i d' hi hd' hs'
          · rw [hgd] at hd'; injection hd' with hd'; rw [← hd']; exact ht
        cases hof : (d.off == c.off) with
        | false =>
          rw [hof, if_neg (by simp), List.append_nil] at hos
          have how := hos
          repeat ((conv => whnf); first | refine sJ ?_ | refine And.intro (by first | exact trivial | exact inbMap hkt | kernel_rfl) ?_ | rw [gk] | rw [hmd] | rw [hsl] | rw [a1] | rw [a2] | rw [a3] | rw [a4] | rw [hof])
          try (conv => whnf)
          refine ⟨k + 1, ⟨by omega, hnx2⟩, by omega, ?_⟩
          refine Fits.mk' rfl rfl rfl rfl ?_ ?_ ?_ ?_ ?_ <;> repeat' (first | exact trivial | refine And.intro ?_ ?_ | exact Sees.of_eq rfl | exact lt_b rfl | rfl | exact SeesL.rfl' _ | exact Sees.int (succI hkt (by omega)) | exact Sees.own (by rw [how]) | (show (_, _) = (_, _); rw [how]))
        | true =>
          rw [hof, if_pos rfl] at hos
          repeat ((conv => whnf); first | refine sJ ?_ | refine And.intro (by first | exact trivial | exact inbMap hkt | exact Els.map (f := Cell.av) (fun x => ⟨cellOk.len x, cellOk.cell x⟩) | exact (show _ * 40 ≤ _ by simp only [List.length_map, List.length_cons, List.length_nil]; omega) | exact (by simp only [List.length_map, List.length_cons, List.length_nil, maxLen]; omega) | exact (show some (_, _) = some (_, _) by simp only [List.length_map]) | kernel_rfl) ?_ | rw [gk] | rw [hmd] | rw [hsl] | rw [a1] | rw [a2] | rw [a3] | rw [a4] | rw [hof])
          try (conv => whnf)
          refine ⟨k + 1, ⟨by omega, hnx2⟩, by omega, ?_⟩
          refine Fits.mk' rfl rfl rfl rfl ?_ ?_ ?_ ?_ ?_ <;> repeat' (first | exact trivial | refine And.intro ?_ ?_ | exact Sees.of_eq rfl | exact lt_b rfl | rfl | exact SeesL.rfl' _ | exact Sees.int (succI hkt (by omega)) | exact Sees.own (by rw [hos, List.map_append]; rfl) | (show (_, _) = (_, _); rw [hos]; simp only [List.length_append, List.length_map, List.length_cons, List.length_nil]))
      all_goals
        have ht : touL c.src c.dst d = true := by unfold touL; rw [a1, a2, a3, a4]; rfl
        have hfr : freeS s c.src c.dst c.slot = false := by
          unfold freeS
          rw [Bool.not_eq_false', List.any_eq_true]
          exact ⟨d, List.mem_of_getElem? hgd, by simp [hsl', ht]⟩
        repeat ((conv => whnf); first | refine sJ ?_ | refine And.intro (by first | exact trivial | exact inbMap hkt | kernel_rfl) ?_ | rw [gk] | rw [hmd] | rw [hsl] | rw [a1] | rw [a2] | rw [a3] | rw [a4])
        try (conv => whnf)
        exact resP.mk rfl (Sees.bool (by rw [fitsM, hfr]; rfl))
  · have hkn : k = s.cells.length := by omega
    subst hkn
    have gk : decide ((s.cells.length : Int) < ((s.cells.map Cell.av).length : Int)) = false := decide_eq_false (by rw [List.length_map]; omega)
    have hfr : freeS s c.src c.dst c.slot = true := by
      unfold freeS
      rw [Bool.not_eq_true', List.any_eq_false]
      intro d hd
      obtain ⟨i, hi⟩ := List.getElem?_of_mem hd
      by_cases hcs : d.slot = c.slot
      · simp [hinv i d (List.getElem?_eq_some_iff.1 hi).1 hi hcs]
      · simp [hcs]
    repeat ((conv => whnf); first | refine sJ ?_ | refine And.intro (by first | exact trivial | kernel_rfl) ?_ | rw [gk])
    try (conv => whnf)
    first | refine CallK.data rfl (c_Good34 L n hn (ownT s c s.cells.length) ho) rfl ?_ | refine CallP.data rfl (c_Good34 L n hn (ownT s c s.cells.length) ho) rfl ?_
    refine Wk ?_
    exact resP.mk rfl (Sees.bool (by rw [fitsM, hfr, Bool.true_and, ownT, List.take_length]; rfl))
set_option maxHeartbeats 8000000 in
theorem c_Room41 (n : Net) (s : Sched) (l : Link) (hn : n.small) (hs : s.cells.length ≤ 31) : PCall Tryz.prog L 11 [n.av, s.av, l.av] (.tup [encCells (roomM n s l).1, .int .i64 (roomM n s l).2]) := by
  refine PCall.intro mixed [] (nt := 59) Tryz.func11 rfl rfl (by simp) ?_
  refine Wk ?_
  first | refine CallK.data rfl (c_Check31 L n hn) rfl ?_ | refine CallP.data rfl (c_Check31 L n hn) rfl ?_
  cases h1 : (netE n != 0) with
  | true =>
    repeat ((conv => whnf); first | refine sJ ?_ | refine And.intro (by first | exact trivial | kernel_rfl) ?_ | rw [h1])
    try (conv => whnf)
    exact resP.mk rfl (Sees.of_eq (by rw [roomM, if_pos (.inl (by simpa using h1))]; rfl))
  | false =>
  have h1' : netE n = 0 := by simpa using h1
  repeat ((conv => whnf); first | refine sJ ?_ | refine And.intro (by first | exact trivial | kernel_rfl) ?_ | rw [h1])
  try (conv => whnf)
  first | refine CallK.data rfl (c_Formed L s) rfl ?_ | refine CallP.data rfl (c_Formed L s) rfl ?_
  cases hf : formB s with
  | false =>
    refine Wk ?_
    exact resP.mk rfl (Sees.of_eq (by rw [roomM, if_pos (.inr hf)]; rfl))
  | true =>
  have e1 : ¬ (netE n ≠ 0 ∨ formB s = false) := by simp [h1', hf]
  have hsb := sized_bd (form_all hf).1
  refine Wk ?_
  first | refine CallK.data rfl (c_Good31 L n (netE_ok h1') l.src l.dst) rfl ?_ | refine CallP.data rfl (c_Good31 L n (netE_ok h1') l.src l.dst) rfl ?_
  cases hg : goodL n l.src l.dst with
  | false =>
    refine Wk ?_
    exact resP.mk rfl (Sees.of_eq (by rw [roomM, if_neg e1, if_pos hg]; rfl))
  | true =>
  have e2 : ¬ goodL n l.src l.dst = false := by simp [hg]
  refine Wk ?_
  refine LoopK.run mixed [] (fun k : Nat => (k : Int) ≤ s.len) (fun k => [(3, .ptr 0 0), (4, .ptr 1 0), (5, .ptr 2 0), (8, .own ((roomS n s l.src l.dst k).map Cell.av) 0), (9, .int .i64 k)]) (fun k => ⟨[.cells [.int .i64 n.nodes, encRows n.power, .int .i64 n.noise, .int .i64 n.thr, encLinks n.links, encIs n.margin] 26, .cells [.int .i64 s.len, .int .i64 s.offs, encCells s.cells] 29, .cells l.av.cells 31], [((roomS n s l.src l.dst k).length, 5)], 0, 0, fun _ => 61⟩) (fun k => s.len.toNat - k) 0 (by omega) ?_ ?_
  · refine Fits.mk' rfl rfl rfl rfl ?_ ?_ ?_ ?_ ?_ <;> repeat' (first | exact trivial | refine And.intro ?_ ?_ | exact Sees.of_eq rfl | exact lt_b rfl | rfl | exact SeesL.rfl' _)
  rintro k hk
  have hSl := roomS_len n s l.src l.dst k
  have hSl2 : k * s.offs.toNat ≤ 512 * 16 := Nat.mul_le_mul (by omega) (by omega)
  by_cases hkl : (k : Int) < s.len
  · have g0 : decide ((k : Int) < s.len) = true := decide_eq_true hkl
    have wk : IntKind.i64.wrap ((k : Int) + 1) = ((k + 1 : Nat) : Int) := by rw [w64] <;> omega
    repeat ((conv => whnf); first | refine sJ ?_ | refine And.intro (by first | exact trivial | kernel_rfl) ?_ | rw [g0])
    try (conv => whnf)
    refine LoopK.run mixed [] (fun o : Nat => (o : Int) ≤ s.offs) (fun o => [(3, .ptr 0 0), (4, .ptr 1 0), (5, .ptr 2 0), (8, .own ((roomS n s l.src l.dst k ++ roomO n s l.src l.dst k o).map Cell.av) 0), (9, .int .i64 k), (10, .int .i64 o)]) (fun o => ⟨[.cells [.int .i64 n.nodes, encRows n.power, .int .i64 n.noise, .int .i64 n.thr, encLinks n.links, encIs n.margin] 26, .cells [.int .i64 s.len, .int .i64 s.offs, encCells s.cells] 29, .cells l.av.cells 31], [((roomS n s l.src l.dst k ++ roomO n s l.src l.dst k o).length, 5)], 0, 0, fun _ => 61⟩) (fun o => s.offs.toNat - o) 0 (by omega) ?_ ?_
    · refine Fits.mk' rfl rfl rfl rfl ?_ ?_ ?_ ?_ ?_ <;> repeat' (first | exact trivial | refine And.intro ?_ ?_ | exact Sees.of_eq rfl | exact lt_b rfl | rfl | exact SeesL.rfl' _ | exact Sees.own (by simp [roomO]) | (show (_, _) = (_, _); simp [roomO]))
    rintro o ho
    have hOl := roomO_len n s l.src l.dst k o
    have hOs := roomO_succ n s l.src l.dst k o
    by_cases hol : (o : Int) < s.offs
    · have g1 : decide ((o : Int) < s.offs) = true := decide_eq_true hol
      have wo : IntKind.i64.wrap ((o : Int) + 1) = ((o + 1 : Nat) : Int) := by rw [w64] <;> omega
      repeat ((conv => whnf); first | refine sJ ?_ | refine And.intro (by first | exact trivial | kernel_rfl) ?_ | rw [g1])
      try (conv => whnf)
      first | refine CallK.data rfl (c_Fits41 L n s (cellR l.src l.dst k o) hn (by omega) (by have := ownT_len s (cellR l.src l.dst k o) s.cells.length; omega)) rfl ?_ | refine CallP.data rfl (c_Fits41 L n s (cellR l.src l.dst k o) hn (by omega) (by have := ownT_len s (cellR l.src l.dst k o) s.cells.length; omega)) rfl ?_
      cases hfit : fitsM n s (cellR l.src l.dst k o) with
      | true =>
        rw [hfit, if_pos rfl] at hOs
        have hl1 : (roomS n s l.src l.dst k ++ (roomO n s l.src l.dst k o ++ [cellR l.src l.dst k o])).length = (roomS n s l.src l.dst k ++ roomO n s l.src l.dst k o).length + 1 := by simp [Nat.add_assoc]
        repeat ((conv => whnf); first | refine sJ ?_ | refine And.intro (by first | exact trivial | exact Els.map (f := Cell.av) (fun x => ⟨cellOk.len x, cellOk.cell x⟩) | exact (show _ * 40 ≤ _ by simp only [List.length_map, List.length_append, List.length_cons, List.length_nil]; omega) | exact (by simp only [List.length_map, List.length_append, List.length_cons, List.length_nil, maxLen]; omega) | exact (show some (_, _) = some (_, _) by simp only [List.length_map]) | kernel_rfl) ?_ )
        try (conv => whnf)
        refine ⟨o + 1, by omega, by omega, ?_⟩
        rw [hOs]
        refine Fits.mk' rfl rfl rfl rfl ?_ ?_ ?_ ?_ ?_ <;> repeat' (first | exact trivial | refine And.intro ?_ ?_ | exact Sees.of_eq rfl | exact lt_b rfl | rfl | exact SeesL.rfl' _ | exact Sees.int wo | exact Sees.own (by rw [← List.append_assoc, List.map_append (l₁ := roomS n s l.src l.dst k ++ roomO n s l.src l.dst k o)]; rfl) | (show (_, _) = (_, _); rw [hl1, List.length_append, List.length_map]; rfl))
      | false =>
        rw [hfit, if_neg (by simp), List.append_nil] at hOs
        refine Wk ?_
        refine ⟨o + 1, by omega, by omega, ?_⟩
        rw [hOs]
        refine Fits.mk' rfl rfl rfl rfl ?_ ?_ ?_ ?_ ?_ <;> repeat' (first | exact trivial | refine And.intro ?_ ?_ | exact Sees.of_eq rfl | exact lt_b rfl | rfl | exact SeesL.rfl' _ | exact Sees.int wo)
    · have hon : o = s.offs.toNat := by omega
      subst hon
      have g1 : decide (((s.offs.toNat : Nat) : Int) < s.offs) = false := decide_eq_false (by omega)
      repeat ((conv => whnf); first | refine sJ ?_ | refine And.intro (by first | exact trivial | kernel_rfl) ?_ | rw [g1])
      try (conv => whnf)
      refine ⟨k + 1, by omega, by omega, ?_⟩
      rw [roomS_succ]
      refine Fits.mk' rfl rfl rfl rfl ?_ ?_ ?_ ?_ ?_ <;> repeat' (first | exact trivial | refine And.intro ?_ ?_ | exact Sees.of_eq rfl | exact lt_b rfl | rfl | exact SeesL.rfl' _ | exact Sees.int wk)
  · have hkn : k = s.len.toNat := by omega
    subst hkn
    have g0 : decide (((s.len.toNat : Nat) : Int) < s.len) = false := decide_eq_false (by omega)
    by_cases hbig : 1024 < (roomS n s l.src l.dst s.len.toNat).length
    · have g1 : decide ((1024 : Int) < (((roomS n s l.src l.dst s.len.toNat).map Cell.av).length : Int)) = true := decide_eq_true (by rw [List.length_map]; omega)
      repeat ((conv => whnf); first | refine sJ ?_ | refine And.intro (by first | exact trivial | kernel_rfl) ?_ | rw [g0] | rw [g1])
      try (conv => whnf)
      exact resP.mk rfl (Sees.of_eq (by rw [roomM, if_neg e1, if_neg e2, if_pos hbig]; rfl))
    · have g1 : decide ((1024 : Int) < (((roomS n s l.src l.dst s.len.toNat).map Cell.av).length : Int)) = false := decide_eq_false (by rw [List.length_map]; omega)
      repeat ((conv => whnf); first | refine sJ ?_ | refine And.intro (by first | exact trivial | kernel_rfl) ?_ | rw [g0] | rw [g1])
      try (conv => whnf)
      exact resP.mk rfl (Sees.of_eq (by rw [roomM, if_neg e1, if_neg e2, if_neg hbig]; rfl))
end
end HM
