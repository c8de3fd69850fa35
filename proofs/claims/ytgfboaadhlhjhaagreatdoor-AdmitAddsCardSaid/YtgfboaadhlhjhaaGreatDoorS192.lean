/- Room and Drop: the reference. -/
import Derived.Test.YtgfboaadhlhjhaaGreatDoorS138
import Derived.Test.YtgfboaadhlhjhaaGreatDoorS34
import Derived.Test.YtgfboaadhlhjhaaGreatDoorS38
import Derived.Test.YtgfboaadhlhjhaaGreatDoorDc
set_option maxRecDepth 100000
namespace HM
open Go Go.RowKit Go.Proofs
section
variable (L : World → Prop)
def ft41 (n : Net) (s : Sched) (c : Cell) : List Ob := [.cells [.int .i64 n.nodes, encRows n.power, .int .i64 n.noise, .int .i64 n.thr, encLinks n.links, encIs n.margin] 26, .cells [.int .i64 s.len, .int .i64 s.offs, encCells s.cells] 29, .cells [.int .i64 c.slot, .int .i64 c.off, .int .i64 c.src, .int .i64 c.dst, .int .i64 c.flow] 61]
def ownT (s : Sched) (c : Cell) (k : Nat) : List Cell := c :: (s.cells.take k).filter fun d => d.slot == c.slot && d.off == c.off
theorem ownT_succ {s : Sched} {c d : Cell} {k : Nat} (h : s.cells[k]? = some d) : ownT s c (k + 1) = ownT s c k ++ if (d.slot == c.slot && d.off == c.off) = true then [d] else [] := by
  unfold ownT
  rw [take_succ h, List.filter_append, List.cons_append]
  congr 2
  simp only [List.filter_cons, List.filter_nil]
theorem ownT_len (s : Sched) (c : Cell) (k : Nat) : (ownT s c k).length ≤ s.cells.length + 1 := by
  unfold ownT
  rw [List.length_cons]
  exact Nat.succ_le_succ (Nat.le_trans (List.length_filter_le _ _) (by rw [List.length_take]; omega))
set_option maxHeartbeats 8000000 in
theorem c_Fits41 (n : Net) (s : Sched) (c : Cell) (hn : n.small) (hs : s.cells.length ≤ 1048576) (ho : (ownT s c s.cells.length).length ≤ 32) : PCall Tryz.prog L 44 [n.av, s.av, c.av] (.bool (fitsM n s c)) := by
  refine PCall.intro mixed [] (nt := 76) Tryz.func44 rfl rfl (by simp) ?_
  refine Wk ?_
  refine LoopK.run mixed [] (fun (k : Nat) => k ≤ s.cells.length ∧ ∀ (i : Nat) d, i < k → s.cells[i]? = some d → d.slot = c.slot → touL c.src c.dst d = false) (fun k => [(3, .ptr 0 0), (4, .ptr 1 0), (5, .ptr 2 0), (7, .own ((ownT s c k).map Cell.av) 0), (8, .int .i64 k)]) (fun k => ⟨ft41 n s c, [((ownT s c k).length, 5)], 0, 0, fun _ => 61⟩) (fun k => s.cells.length - k) 0 ⟨by omega, fun i d hi => by omega⟩ ?_ ?_
  · refine fM ?_ ?_ ?_ ?_ ?_ <;> repeat' (first | exact fQ | refine And.intro ?_ ?_ | exact SeesL.rfl' _)
  rintro k ⟨hk, hinv⟩
  have hol := ownT_len s c k
  by_cases hkt : k < s.cells.length
  · obtain ⟨d, hgd⟩ := getLt hkt
    have hmd := getMap (f := Cell.av) hgd
    have gk : decide ((k : Int) < ((s.cells.map Cell.av).length : Int)) = true := decide_eq_true (by rw [List.length_map]; omega)
    have hos := ownT_succ (c := c) hgd
    cases hsl : (d.slot == c.slot) with
    | false =>
      rw [hsl, Bool.false_and, if_neg (by simp), List.append_nil] at hos
      have how := hos
      have hnx2 : ∀ (i : Nat) d, i < k + 1 → s.cells[i]? = some d → d.slot = c.slot → touL c.src c.dst d = false := fun i d' hi hd' hs' => by
        rcases Nat.lt_succ_iff_lt_or_eq.1 hi with hi | rfl
        · exact hinv i d' hi hd' hs'
        · rw [hgd] at hd'; injection hd' with hd'; rw [← hd'] at hs'; simp [hs'] at hsl
      repeat ((conv => whnf); first | refine sJ ?_ | refine aI (by first | exact trivial | exact inbMap hkt | kernel_rfl) ?_ | rw [gk] | rw [hmd] | rw [hsl])
      try (conv => whnf)
      refine ⟨k + 1, ⟨by omega, hnx2⟩, by omega, ?_⟩
      refine fM ?_ ?_ ?_ ?_ ?_ <;> repeat' (first | exact fQ | refine And.intro ?_ ?_ | exact SeesL.rfl' _ | exact Sees.int (succI hkt (by omega)) | exact Sees.own (by rw [how]) | (show (_, _) = (_, _); rw [how]))
    | true =>
      have hsl' : d.slot = c.slot := by simpa using hsl
      rw [hsl, Bool.true_and] at hos
      cases a1 : (d.src == c.src) <;> cases a2 : (d.src == c.dst) <;> cases a3 : (d.dst == c.src) <;> cases a4 : (d.dst == c.dst)
      · have ht : touL c.src c.dst d = false := by unfold touL; rw [a1, a2, a3, a4]; rfl
        have hnx2 : ∀ (i : Nat) d, i < k + 1 → s.cells[i]? = some d → d.slot = c.slot → touL c.src c.dst d = false := fun i d' hi hd' hs' => by
          rcases Nat.lt_succ_iff_lt_or_eq.1 hi with hi | rfl
          · exact hinv i d' hi hd' hs'
          · rw [hgd] at hd'; injection hd' with hd'; rw [← hd']; exact ht
        cases hof : (d.off == c.off) with
        | false =>
          rw [hof, if_neg (by simp), List.append_nil] at hos
          have how := hos
          repeat ((conv => whnf); first | refine sJ ?_ | refine aI (by first | exact trivial | exact inbMap hkt | kernel_rfl) ?_ | rw [gk] | rw [hmd] | rw [hsl] | rw [a1] | rw [a2] | rw [a3] | rw [a4] | rw [hof])
          try (conv => whnf)
          refine ⟨k + 1, ⟨by omega, hnx2⟩, by omega, ?_⟩
          refine fM ?_ ?_ ?_ ?_ ?_ <;> repeat' (first | exact fQ | refine And.intro ?_ ?_ | exact SeesL.rfl' _ | exact Sees.int (succI hkt (by omega)) | exact Sees.own (by rw [how]) | (show (_, _) = (_, _); rw [how]))
        | true =>
          rw [hof, if_pos rfl] at hos
          repeat ((conv => whnf); first | refine sJ ?_ | refine aI (by first | exact trivial | exact inbMap hkt | exact Els.map (f := Cell.av) (fun x => ⟨cellOk.len x, cellOk.cell x⟩) | exact (show _ * 40 ≤ _ by simp only [List.length_map, List.length_cons, List.length_nil]; omega) | exact (by simp only [List.length_map, List.length_cons, List.length_nil, maxLen]; omega) | exact (show some (_, _) = some (_, _) by simp only [List.length_map]) | kernel_rfl) ?_ | rw [gk] | rw [hmd] | rw [hsl] | rw [a1] | rw [a2] | rw [a3] | rw [a4] | rw [hof])
          try (conv => whnf)
          refine ⟨k + 1, ⟨by omega, hnx2⟩, by omega, ?_⟩
          refine fM ?_ ?_ ?_ ?_ ?_ <;> repeat' (first | exact fQ | refine And.intro ?_ ?_ | exact SeesL.rfl' _ | exact Sees.int (succI hkt (by omega)) | exact Sees.own (by rw [hos, List.map_append]; rfl) | (show (_, _) = (_, _); rw [hos]; simp only [List.length_append, List.length_map, List.length_cons, List.length_nil]))
      all_goals
        have ht : touL c.src c.dst d = true := by unfold touL; rw [a1, a2, a3, a4]; rfl
        have hfr : freeS s c.src c.dst c.slot = false := by
          unfold freeS
          rw [Bool.not_eq_false', List.any_eq_true]
          exact ⟨d, List.mem_of_getElem? hgd, by simp [hsl', ht]⟩
        repeat ((conv => whnf); first | refine sJ ?_ | refine aI (by first | exact trivial | exact inbMap hkt | kernel_rfl) ?_ | rw [gk] | rw [hmd] | rw [hsl] | rw [a1] | rw [a2] | rw [a3] | rw [a4])
        try (conv => whnf)
        exact resP.mk rfl (Sees.bool (by rw [fitsM, hfr]; rfl))
  · have hkn : k = s.cells.length := by omega
    subst hkn
    have gk : decide ((s.cells.length : Int) < ((s.cells.map Cell.av).length : Int)) = false := decide_eq_false (by rw [List.length_map]; omega)
    have hfr : freeS s c.src c.dst c.slot = true := by
      unfold freeS
      rw [Bool.not_eq_true', List.any_eq_false]
      intro d hd
      obtain ⟨i, hi⟩ := List.getElem?_of_mem hd
      by_cases hcs : d.slot = c.slot
      · simp [hinv i d (List.getElem?_eq_some_iff.1 hi).1 hi hcs]
      · simp [hcs]
    repeat ((conv => whnf); first | refine sJ ?_ | refine aI (by first | exact trivial | kernel_rfl) ?_ | rw [gk])
    try (conv => whnf)
    first | refine CallK.data rfl (c_Good34 L n hn (ownT s c s.cells.length) ho) rfl ?_ | refine CallP.data rfl (c_Good34 L n hn (ownT s c s.cells.length) ho) rfl ?_
    refine Wk ?_
    exact resP.mk rfl (Sees.bool (by rw [fitsM, hfr, Bool.true_and, ownT, List.take_length]; rfl))
end
end HM
