/- The law on breaches. -/
import Derived.Test.YtadgamkgpgiodaaGreatDoorS117
import Derived.Test.YtadgamkgpgiodaaGreatDoorDb

set_option maxRecDepth 100000
namespace HM
open Go Go.RowKit Go.Proofs

def lbSl (n : Net) (l : List Flow) (R : RunL) (B : List Brc) (slots : Int) : List (Nat × AV) := [(1, encFlows l), (4, .int .i64 slots), (5, .cptr n.av 0), (11, .cptr R.av 0), (13, encBrcs B)]
def lbB (a : Link) (f : Flow) (k : Nat) (row : AV) : List Ob := [.cells a.av.cells 47, .cells f.av.cells 49, .cells [.int .i64 k] 3, .cells [row] 24]

set_option maxHeartbeats 8000000 in
theorem c_RunBreaks (n : Net) (l : List Flow) (s : Sched) (x : List Rule) (slots : Int) (hn : n.small) (hl : l.length ≤ 281474976710656) (hx : ∀ r ∈ x, r.outs.length ≤ 281474976710656) (hxl : x.length ≤ 281474976710656) :
    PCall Tryz.prog LW 3 [n.av, encFlows l, s.av, encScript x, .int .i64 slots] (.bool true) := by
  refine PCall.intro mixed [1] (nt := 138) Tryz.func3 rfl rfl (by simp) ?_
  refine Wk ?_
  refine SeqK.sem mixed [] ?_
  refine Wk ?_
  refine SemK.freezeB 0 rfl rfl ?_
  refine SemK.freezeB 1 rfl rfl ?_
  refine twC_sound (ct := [8]) mixed _ _ _ _ ?_
  refine Wk ?_
  first | refine CallK.data rfl (c_awake36) rfl ?_ | refine CallP.data rfl (c_awake36) rfl ?_
  refine Wk ?_
  first | refine CallK.data rfl (c_Few31 LW n hn) rfl ?_ | refine CallP.data rfl (c_Few31 LW n hn) rfl ?_
  cases hf : few31 n with
  | false =>
    refine Wk ?_
    exact resP.mk rfl (Sees.bool rfl)
  | true =>
  refine Wk ?_
  first | refine CallK.data rfl (c_Check31 LW n hn) rfl ?_ | refine CallP.data rfl (c_Check31 LW n hn) rfl ?_
  refine Wk ?_
  cases h0 : (netE n != 0) with
  | true =>
    refine Wk ?_
    exact resP.mk rfl (Sees.bool rfl)
  | false =>
  have h0' : netE n = 0 := by simpa using h0
  have hok := netE_ok h0'
  refine Wk ?_
  first | refine CallK.data rfl (c_Few36 LW l s [] x slots) rfl ?_ | refine CallP.data rfl (c_Few36 LW l s [] x slots) rfl ?_
  cases hfew : few36 l.length s.cells.length ([] : List AV).length x.length slots with
  | false =>
    refine Wk ?_
    exact resP.mk rfl (Sees.bool rfl)
  | true =>
  refine Wk ?_
  first | refine CallK.data rfl (c_Play l s x slots hl hx hxl) rfl ?_ | refine CallP.data rfl (c_Play l s x slots hl hx hxl) rfl ?_
  obtain ⟨R, hR⟩ : ∃ A, A = (playM l s x slots).1 := ⟨_, rfl⟩
  obtain ⟨er, her⟩ : ∃ e, e = (playM l s x slots).2 := ⟨_, rfl⟩
  have hRl := playM_len (l := l) (s := s) (x := x) (slots := slots)
  rw [← hR] at hRl
  rw [← hR, ← her]
  refine Wk ?_
  refine SeqK.sem mixed [] ?_
  refine Wk ?_
  refine BrK.mk (fun h1 => ?_) (fun h1 => ?_) <;> (try rw [h1])
  · refine Wk ?_
    exact resP.mk rfl (Sees.bool rfl)
  have hsl : slots ≤ 4096 := by
    have h1' : (playM l s x slots).2 = 0 := by rw [← her]; simpa using h1
    by_cases hrd : readyM l s x slots = 0
    · have := ready_all hrd
      omega
    · rw [playM_bad hrd] at h1'
      exact absurd h1' hrd
  refine Wk ?_
  refine SemK.freezeB 2 rfl rfl ?_
  refine twC_sound (ct := []) mixed _ _ _ _ ?_
  refine Wk ?_
  first | refine CallK.data rfl (c_Breaches LW n hn R (by omega)) rfl ?_ | refine CallP.data rfl (c_Breaches LW n hn R (by omega)) rfl ?_
  obtain ⟨B, hB⟩ : ∃ B, B = brcsM n R := ⟨_, rfl⟩
  have hBl : B.length ≤ 281474976710656 := by
    rw [hB, brcsM, if_pos h0']
    have := refB_len n R.atts R.atts.length
    omega
  have hBs : ∀ b ∈ B, b.slots.length ≤ 281474976710656 := fun b hb => by
    rw [hB] at hb
    have := brcsM_slots hb
    omega
  rw [← hB]
  refine Wk ?_
  refine LoopK.run mixed [] (fun i : Nat => i ≤ n.links.length) (fun i => [(55, encLinks n.links), (56, .int .i64 n.links.length), (57, .int .i64 i)] ++ lbSl n l R B slots) (fun _ => St.none) (fun i => n.links.length - i) 0 (by omega) ?_ ?_
  · refine Fits.mk' rfl rfl rfl rfl ?_ ?_ ?_ ?_ ?_ <;> repeat' (first | exact trivial | refine And.intro ?_ ?_ | exact Sees.of_eq rfl | exact lt_b rfl | rfl | exact FitF.nil _ | exact Sees.int (by simp))
  rintro i hi
  unfold lbSl
  refine Wk ?_
  refine BrK.mk (fun hb1 => ?_) (fun hb1 => ?_) <;> (try rw [hb1])
  · have hil : i < n.links.length := by simpa using hb1
    obtain ⟨lk, hgl⟩ := getLt hil
    have hml := getMap (f := Link.av) hgl
    have hlo := (hok.link i lk hgl).1
    have hl0 : 0 ≤ lk.loss := by unfold linkR at hlo; simp at hlo; omega
    repeat ((conv => whnf); first | refine sJ ?_ | refine And.intro (by first | exact inbMap hil | kernel_rfl) ?_ | rw [hml])
    try (conv => whnf)
    refine LoopK.run mixed [] (fun j : Nat => j ≤ l.length) (fun j => [(15, .ptr 0 0), (55, encLinks n.links), (56, .int .i64 n.links.length), (57, .int .i64 i), (61, encFlows l), (62, .int .i64 l.length), (63, .int .i64 j)] ++ lbSl n l R B slots) (fun _ => ⟨[.cells lk.av.cells 47], [], 0, 0, fun _ => 0⟩) (fun j => l.length - j) 0 (by omega) ?_ ?_
    · refine Fits.mk' rfl rfl rfl rfl ?_ ?_ ?_ ?_ ?_ <;> repeat' (first | exact trivial | refine And.intro ?_ ?_ | exact Sees.of_eq rfl | exact lt_b rfl | rfl | exact FitF.nil _ | exact Sees.int (by simp))
    rintro j hj
    unfold lbSl
    refine Wk ?_
    refine BrK.mk (fun hb2 => ?_) (fun hb2 => ?_) <;> (try rw [hb2])
    · have hjl : j < l.length := by simpa using hb2
      obtain ⟨f, hgf⟩ := getLt hjl
      have hmf := getMap (f := Flow.av) hgf
      repeat ((conv => whnf); first | refine sJ ?_ | refine And.intro (by first | exact inbMap hjl | kernel_rfl) ?_ | rw [hmf])
      try (conv => whnf)
      refine LoopK.run mixed [] (fun k : Nat => k ≤ slots.toNat) (fun k => [(15, .ptr 0 0), (17, .ptr 1 0), (55, encLinks n.links), (56, .int .i64 n.links.length), (57, .int .i64 i), (61, encFlows l), (62, .int .i64 l.length), (63, .int .i64 j), (67, .int .i64 slots), (68, .int .i64 k)] ++ lbSl n l R B slots) (fun _ => ⟨[.cells lk.av.cells 47, .cells f.av.cells 49], [], 0, 0, fun _ => 0⟩) (fun k => slots.toNat - k) 0 (by omega) ?_ ?_
      · refine Fits.mk' rfl rfl rfl rfl ?_ ?_ ?_ ?_ ?_ <;> repeat' (first | exact trivial | refine And.intro ?_ ?_ | exact Sees.of_eq rfl | exact lt_b rfl | rfl | exact FitF.nil _ | exact Sees.int (by simp))
      rintro k hk
      unfold lbSl
      refine Wk ?_
      refine BrK.mk (fun hb3 => ?_) (fun hb3 => ?_) <;> (try rw [hb3])
      · have hks : k < slots.toNat := by have : (k : Int) < slots := by simpa using hb3
                                         omega
        obtain ⟨key, hkey⟩ : ∃ key, key = lawK f k lk := ⟨_, rfl⟩
        refine Wk ?_
        refine LoopK.run mixed [25] (fun s : Nat × Nat × Frs => s.1 ≤ R.atts.length ∧ (rowF key (R.atts.take s.1) ≠ [] → s.2.2[s.2.1]? = some ((rowF key (R.atts.take s.1)).length, 1))) (fun s => [(15, .ptr 0 0), (17, .ptr 1 0), (18, .ptr 2 0), (19, .ptr 3 0), (20, .bool (brk key lk.loss (R.atts.take s.1)).2.isSome), (55, encLinks n.links), (56, .int .i64 n.links.length), (57, .int .i64 i), (61, encFlows l), (62, .int .i64 l.length), (63, .int .i64 j), (67, .int .i64 slots), (68, .int .i64 k), (72, encAtts R.atts), (73, .int .i64 R.atts.length), (74, .int .i64 s.1)] ++ lbSl n l R B slots) (fun s => ⟨lbB lk f k (rowAV (rowF key (R.atts.take s.1)) s.2.1), s.2.2, 0, 0, fun _ => 3⟩) (fun s => R.atts.length - s.1) (0, 0, []) ⟨by simp, fun h => absurd rfl h⟩ ?_ ?_
        · refine Fits.mk' rfl rfl rfl rfl ?_ ?_ ?_ ?_ ?_ <;> repeat' (first | exact trivial | refine And.intro ?_ ?_ | exact Sees.of_eq rfl | exact lt_b rfl | rfl | exact FitF.nil _ | exact SeesO.rfl' _ | exact SeesL.rfl' _ | exact Sees.int (by simp))
        rintro ⟨m, c, fr⟩ ⟨hm, hfr⟩
        dsimp only at hm hfr ⊢
        obtain ⟨row, hrow⟩ : ∃ row, row = rowF key (R.atts.take m) := ⟨_, rfl⟩
        have hrl : row.length ≤ m := by
          have := rowF_len key (R.atts.take m)
          rw [← hrow, List.length_take] at this; omega
        rw [← hrow] at hfr ⊢
        have hokk : ∀ kk, (rowAV row c).okk kk fr.length := fun kk => by
          unfold rowAV
          split
          · trivial
          · rename_i h
            exact (List.getElem?_eq_some_iff.1 (hfr h)).1
        unfold lbB lbSl
        refine Wk ?_
        refine BrK.mk (fun hb4 => ?_) (fun hb4 => ?_) <;> (try rw [hb4])
        · have hmt : m < R.atts.length := by simpa using hb4
          obtain ⟨a, hga⟩ := getLt hmt
          have hma := getMap (f := Att.av) hga
          have hrn : rowF key (R.atts.take (m + 1)) = rowS key row a := by rw [take_succ hga, rowF_snoc, hrow]
          have hbn : brk key lk.loss (R.atts.take (m + 1)) = brS key lk.loss (brk key lk.loss (R.atts.take m)) a := by rw [take_succ hga, brk_snoc]
          repeat ((conv => whnf); first | refine sJ ?_ | refine And.intro (by first | exact inbMap hmt | kernel_rfl) ?_ | rw [hma])
          try (conv => whnf)
          cases g1 : (a.cell.flow != f.id) with
          | true =>
            have hne : a.key ≠ key := fun e => by rw [hkey] at e; simp [Att.key, lawK] at e; simp [e.1] at g1
            refine Wk ?_
            refine ⟨(m + 1, c, fr), ⟨by dsimp only; omega, fun h => ?_⟩, by dsimp only; omega, ?_⟩
            · dsimp only at h ⊢
              rw [hrn, rowS, if_neg hne] at h ⊢
              exact hfr h
            · dsimp only
              rw [hrn, hbn, brS_ne hne, rowS, if_neg hne]
              refine Fits.mk' rfl rfl rfl rfl ?_ ?_ ?_ ?_ ?_ <;> repeat' (first | exact trivial | refine And.intro ?_ ?_ | exact Sees.of_eq rfl | exact lt_b rfl | rfl | exact hokk _ | exact FitF.rfl' _ | exact FitT.of_all (fun _ => rfl) _ | exact SeesO.rfl' _ | exact SeesL.rfl' _ | exact Sees.int (succI hmt (by omega)))
          | false =>
          refine Wk ?_
          cases g2 : (a.frame != (k : Int)) with
          | true =>
            have hne : a.key ≠ key := fun e => by rw [hkey] at e; simp [Att.key, lawK] at e; simp [e.2.1] at g2
            refine Wk ?_
            refine ⟨(m + 1, c, fr), ⟨by dsimp only; omega, fun h => ?_⟩, by dsimp only; omega, ?_⟩
            · dsimp only at h ⊢
              rw [hrn, rowS, if_neg hne] at h ⊢
              exact hfr h
            · dsimp only
              rw [hrn, hbn, brS_ne hne, rowS, if_neg hne]
              refine Fits.mk' rfl rfl rfl rfl ?_ ?_ ?_ ?_ ?_ <;> repeat' (first | exact trivial | refine And.intro ?_ ?_ | exact Sees.of_eq rfl | exact lt_b rfl | rfl | exact hokk _ | exact FitF.rfl' _ | exact FitT.of_all (fun _ => rfl) _ | exact SeesO.rfl' _ | exact SeesL.rfl' _ | exact Sees.int (succI hmt (by omega)))
          | false =>
          refine Wk ?_
          cases g3 : (a.cell.src != lk.src) with
          | true =>
            have hne : a.key ≠ key := fun e => by rw [hkey] at e; simp [Att.key, lawK] at e; simp [e.2.2.1] at g3
            refine Wk ?_
            refine ⟨(m + 1, c, fr), ⟨by dsimp only; omega, fun h => ?_⟩, by dsimp only; omega, ?_⟩
            · dsimp only at h ⊢
              rw [hrn, rowS, if_neg hne] at h ⊢
              exact hfr h
            · dsimp only
              rw [hrn, hbn, brS_ne hne, rowS, if_neg hne]
              refine Fits.mk' rfl rfl rfl rfl ?_ ?_ ?_ ?_ ?_ <;> repeat' (first | exact trivial | refine And.intro ?_ ?_ | exact Sees.of_eq rfl | exact lt_b rfl | rfl | exact hokk _ | exact FitF.rfl' _ | exact FitT.of_all (fun _ => rfl) _ | exact SeesO.rfl' _ | exact SeesL.rfl' _ | exact Sees.int (succI hmt (by omega)))
          | false =>
          refine Wk ?_
          cases g4 : (a.cell.dst != lk.dst) with
          | true =>
            have hne : a.key ≠ key := fun e => by rw [hkey] at e; simp [Att.key, lawK] at e; simp [e.2.2.2] at g4
            refine Wk ?_
            refine ⟨(m + 1, c, fr), ⟨by dsimp only; omega, fun h => ?_⟩, by dsimp only; omega, ?_⟩
            · dsimp only at h ⊢
              rw [hrn, rowS, if_neg hne] at h ⊢
              exact hfr h
            · dsimp only
              rw [hrn, hbn, brS_ne hne, rowS, if_neg hne]
              refine Fits.mk' rfl rfl rfl rfl ?_ ?_ ?_ ?_ ?_ <;> repeat' (first | exact trivial | refine And.intro ?_ ?_ | exact Sees.of_eq rfl | exact lt_b rfl | rfl | exact hokk _ | exact FitF.rfl' _ | exact FitT.of_all (fun _ => rfl) _ | exact SeesO.rfl' _ | exact SeesL.rfl' _ | exact Sees.int (succI hmt (by omega)))
          | false =>
          have hkk : a.key = key := by rw [hkey]; simp [Att.key, lawK]; simp at g1 g2 g3 g4; exact ⟨g1, g2, g3, g4⟩
          have hrn' : rowF key (R.atts.take (m + 1)) = if a.out = 1 then [] else row ++ [a.slot] := by rw [hrn, rowS, if_pos hkk]
          refine Wk ?_
          refine SeqK.cut mixed [] [] (fun p : Nat × Frs => p.2[p.1]? = some ((row ++ [a.slot]).length, 1)) (fun _ => [(15, .ptr 0 0), (17, .ptr 1 0), (18, .ptr 2 0), (19, .ptr 3 0), (20, .bool (brk key lk.loss (R.atts.take m)).2.isSome), (22, .ptr 4 0), (55, encLinks n.links), (56, .int .i64 n.links.length), (57, .int .i64 i), (61, encFlows l), (62, .int .i64 l.length), (63, .int .i64 j), (67, .int .i64 slots), (68, .int .i64 k), (72, encAtts R.atts), (73, .int .i64 R.atts.length), (74, .int .i64 m)] ++ lbSl n l R B slots) (fun p => ⟨lbB lk f k (.own ((row ++ [a.slot]).map encI) p.1) ++ [.cells a.av.cells 53], p.2, 0, 0, fun _ => 3⟩) ?_ ?_
          · by_cases hre : row = []
            · subst hre
              rw [show rowAV [] c = .nils from rfl]
              repeat ((conv => whnf); first | refine sJ ?_ | refine And.intro (by first | exact trivial | kernel_rfl) ?_ )
              try (conv => whnf)
              refine ⟨((fr ++ [(1, 1)]).length, (fr ++ [(1, 1)]) ++ [(1, 1)]), by simp, ?_⟩
              dsimp only
              refine Fits.mk' rfl rfl rfl rfl ?_ ?_ ?_ ?_ ?_ <;> repeat' (first | exact trivial | refine And.intro ?_ ?_ | exact Sees.of_eq rfl | exact lt_b rfl | rfl | exact FitF.rfl' _ | exact FitF.app _ _ | exact FitT.of_all (fun c => (updT_same (updT_same (fun _ => rfl)) c).symm) _ | exact (show (fr ++ [(1, 1)]).length < ((fr ++ [(1, 1)]) ++ [(1, 1)]).length by simp) | exact SeesO.rfl' _ | exact SeesL.rfl' _ | exact Sees.int rfl)
            · have hfc := hfr hre
              rw [show rowAV row c = .own (row.map encI) c from if_neg hre]
              have hcl := (List.getElem?_eq_some_iff.1 hfc).1
              have hcq2 : (fr ++ [(1, 1)])[c]? = some ((List.map encI row).length, 0 + 1) := by rw [List.getElem?_append_left hcl, List.length_map]; exact hfc
              repeat ((conv => whnf); first | refine sJ ?_ | refine And.intro (by first | exact trivial | exact Els.map (f := encI) (fun _ => ⟨rfl, rfl⟩) | exact (show _ * 8 ≤ _ by simp only [List.length_map, List.length_cons, List.length_nil]; omega) | exact (by simp only [List.length_map, List.length_cons, List.length_nil, maxLen]; omega) | exact hcq2 | exact updT_same (fun _ => rfl) _ | kernel_rfl) ?_ )
              try (conv => whnf)
              refine ⟨(c, fr.set c ((List.map encI row ++ [AV.int .i64 a.slot]).length, 0 + 1)), by simp [hcl], ?_⟩
              dsimp only
              refine Fits.mk' rfl rfl rfl rfl ?_ ?_ ?_ ?_ ?_ <;> repeat' (first | exact trivial | refine And.intro ?_ ?_ | exact Sees.of_eq rfl | exact lt_b rfl | rfl | exact FitF.rfl' _ | exact FitF.app _ _ | exact FitT.of_all (fun c => (updT_same (fun _ => rfl) c).symm) _ | exact (show c < (fr.set c _).length by rw [List.length_set]; exact hcl) | exact SeesO.rfl' _ | exact SeesL.rfl' _ | exact Sees.int rfl | exact FitF.setApp _ hcl | exact Sees.of_eq (by rw [List.map_append]; rfl))
          rintro ⟨c2, fr2⟩ hfr2
          dsimp only at hfr2 ⊢
          have hc2 := (List.getElem?_eq_some_iff.1 hfr2).1
          rw [List.length_append, List.length_singleton] at hfr2
          have hrow' : rowAV (row ++ [a.slot]) c2 = .own ((row ++ [a.slot]).map encI) c2 := if_neg (by simp)
          obtain ⟨bk, hbk⟩ : ∃ bk, bk = brk key lk.loss (R.atts.take m) := ⟨_, rfl⟩
          rw [← hbk] at hbn ⊢
          have hbs : ∀ s0, bk.2 = some s0 → brk key lk.loss (R.atts.take (m + 1)) = bk := fun s0 hs => by rw [hbn, brS_done (by rw [hs]; simp)]
          have hbe : bk.2 = none → brk key lk.loss (R.atts.take (m + 1)) = if a.out = 1 then ([], none) else (row ++ [a.slot], if lk.loss < (row.length + 1 : Nat) then some (row ++ [a.slot]) else none) := fun hs => by
            have hr : bk.1 = row := by rw [hrow, hbk, brk_row (by rw [← hbk]; exact hs)]
            rw [hbn, brS, if_pos ⟨hkk, hs⟩, hr]
          unfold lbB lbSl
          by_cases hout : a.out = 1
          · rw [if_pos hout] at hrn'
            refine Wk ?_
            rw [show (a.out == 1) = true from by simp [hout]]
            refine Wk ?_
            have hsome : (brk key lk.loss (R.atts.take (m + 1))).2.isSome = bk.2.isSome := by
              cases hs : bk.2 with
              | none => rw [hbe hs, if_pos hout]
              | some s0 => rw [hbs s0 hs, hs]
            cases hs : bk.2.isSome with
            | true =>
              refine Wk ?_
              refine ⟨(m + 1, c2, fr2), ⟨by dsimp only; omega, fun h => absurd hrn' h⟩, by dsimp only; omega, ?_⟩
              dsimp only
              rw [hrn', hsome, hs]
              refine Fits.mk' rfl rfl rfl rfl ?_ ?_ ?_ ?_ ?_ <;> repeat' (first | exact trivial | refine And.intro ?_ ?_ | exact Sees.of_eq rfl | exact lt_b rfl | rfl | exact FitF.rfl' _ | exact FitT.of_all (fun _ => rfl) _ | exact SeesO.rfl' _ | exact SeesL.rfl' _ | exact Sees.int (succI hmt (by omega)))
            | false =>
              refine Wk ?_
              rw [decide_eq_false (show ¬ lk.loss < (([] : List AV).length : Int) by simp; omega)]
              refine Wk ?_
              refine ⟨(m + 1, c2, fr2), ⟨by dsimp only; omega, fun h => absurd hrn' h⟩, by dsimp only; omega, ?_⟩
              dsimp only
              rw [hrn', hsome, hs]
              refine Fits.mk' rfl rfl rfl rfl ?_ ?_ ?_ ?_ ?_ <;> repeat' (first | exact trivial | refine And.intro ?_ ?_ | exact Sees.of_eq rfl | exact lt_b rfl | rfl | exact FitF.rfl' _ | exact FitT.of_all (fun _ => rfl) _ | exact SeesO.rfl' _ | exact SeesL.rfl' _ | exact Sees.int (succI hmt (by omega)))
          · rw [if_neg hout] at hrn'
            have hfin : ((m + 1, c2, fr2).1 : Nat) ≤ R.atts.length ∧ (rowF key (R.atts.take (m + 1)) ≠ [] → fr2[c2]? = some ((rowF key (R.atts.take (m + 1))).length, 1)) := ⟨by dsimp only; omega, fun _ => by rw [hrn', List.length_append, List.length_singleton]; exact hfr2⟩
            refine Wk ?_
            rw [show (a.out == 1) = false from by simp [hout]]
            cases hs : bk.2 with
            | some s0 =>
              refine Wk ?_
              refine ⟨(m + 1, c2, fr2), hfin, by dsimp only; omega, ?_⟩
              dsimp only
              rw [hrn', hbs s0 hs, hs, hrow']
              refine Fits.mk' rfl rfl rfl rfl ?_ ?_ ?_ ?_ ?_ <;> repeat' (first | exact trivial | refine And.intro ?_ ?_ | exact Sees.of_eq rfl | exact lt_b rfl | rfl | exact hc2 | exact FitF.rfl' _ | exact FitT.of_all (fun _ => rfl) _ | exact SeesO.rfl' _ | exact SeesL.rfl' _ | exact Sees.int (succI hmt (by omega)))
            | none =>
              have hb2 := hbe hs
              rw [if_neg hout] at hb2
              refine Wk ?_
              rw [List.length_map, List.length_append, List.length_singleton]
              by_cases hgt : lk.loss < (row.length + 1 : Nat)
              · rw [if_pos hgt] at hb2
                rw [decide_eq_true hgt]
                refine Wk ?_
                first | refine CallK.box rfl (c_ContainsFuncBrc LW B (fun b => b.flow == f.id && (b.frame == (k : Int) && (b.src == lk.src && (b.dst == lk.dst && decide (b.slots = row ++ [a.slot]))))) 11 [.cptr f.av 0, .cptr (.agg [.int .i64 k]) 0, .cptr lk.av 0, .cptr (.agg [encIs (row ++ [a.slot])]) 0] hBl rfl rfl (fun b hb => c_brk1 LW b f k lk (row ++ [a.slot]) (hBs b hb))) rfl rfl ?_ | refine CallP.box rfl (c_ContainsFuncBrc LW B (fun b => b.flow == f.id && (b.frame == (k : Int) && (b.src == lk.src && (b.dst == lk.dst && decide (b.slots = row ++ [a.slot]))))) 11 [.cptr f.av 0, .cptr (.agg [.int .i64 k]) 0, .cptr lk.av 0, .cptr (.agg [encIs (row ++ [a.slot])]) 0] hBl rfl rfl (fun b hb => c_brk1 LW b f k lk (row ++ [a.slot]) (hBs b hb))) rfl rfl ?_
                have hany : (B.any fun b => b.flow == f.id && (b.frame == (k : Int) && (b.src == lk.src && (b.dst == lk.dst && decide (b.slots = row ++ [a.slot]))))) = true := List.any_eq_true.2 ⟨_, by rw [hB]; exact law_hit h0' hgl hga (by rw [hkk, hkey]) (by rw [← hkey, hb2]), by simp⟩
                rw [hany]
                refine Wk ?_
                refine ⟨(m + 1, c2, fr2), hfin, by dsimp only; omega, ?_⟩
                dsimp only
                rw [hrn', hb2, hrow']
                refine Fits.mk' rfl rfl rfl rfl ?_ ?_ ?_ ?_ ?_ <;> repeat' (first | exact trivial | refine And.intro ?_ ?_ | exact Sees.of_eq rfl | exact lt_b rfl | rfl | exact hc2 | exact FitF.rfl' _ | exact FitT.of_all (fun _ => rfl) _ | exact SeesO.rfl' _ | exact SeesL.rfl' _ | exact Sees.int (succI hmt (by omega)))
              · rw [if_neg hgt] at hb2
                rw [decide_eq_false hgt]
                refine Wk ?_
                refine ⟨(m + 1, c2, fr2), hfin, by dsimp only; omega, ?_⟩
                dsimp only
                rw [hrn', hb2, hrow']
                refine Fits.mk' rfl rfl rfl rfl ?_ ?_ ?_ ?_ ?_ <;> repeat' (first | exact trivial | refine And.intro ?_ ?_ | exact Sees.of_eq rfl | exact lt_b rfl | rfl | exact hc2 | exact FitF.rfl' _ | exact FitT.of_all (fun _ => rfl) _ | exact SeesO.rfl' _ | exact SeesL.rfl' _ | exact Sees.int (succI hmt (by omega)))
        · have hmn : m = R.atts.length := by simp at hb4; omega
          subst hmn
          rw [List.take_length]
          refine Wk ?_
          cases hs : (brk key lk.loss R.atts).2 with
          | some s0 =>
            refine Wk ?_
            refine ⟨k + 1, by omega, by omega, ?_⟩
            refine Fits.mk' rfl rfl rfl rfl ?_ ?_ ?_ ?_ ?_ <;> repeat' (first | exact trivial | refine And.intro ?_ ?_ | exact Sees.of_eq rfl | exact lt_b rfl | rfl | exact FitF.nil _ | exact Sees.int (succI hks (by omega)))
          | none =>
            refine Wk ?_
            first | refine CallK.box rfl (c_ContainsFuncBrc LW B (fun b => b.flow == f.id && (b.frame == (k : Int) && (b.src == lk.src && b.dst == lk.dst))) 13 [.cptr f.av 0, .cptr (.agg [.int .i64 k]) 0, .cptr lk.av 0] hBl rfl rfl (fun b hb => c_brk2 LW b f k lk)) rfl rfl ?_ | refine CallP.box rfl (c_ContainsFuncBrc LW B (fun b => b.flow == f.id && (b.frame == (k : Int) && (b.src == lk.src && b.dst == lk.dst))) 13 [.cptr f.av 0, .cptr (.agg [.int .i64 k]) 0, .cptr lk.av 0] hBl rfl rfl (fun b hb => c_brk2 LW b f k lk)) rfl rfl ?_
            have hany : (B.any fun b => b.flow == f.id && (b.frame == (k : Int) && (b.src == lk.src && b.dst == lk.dst))) = false := List.any_eq_false.2 fun b hb hh => by
              rw [hB] at hb
              rw [hkey] at hs
              simp at hh
              exact law_miss h0' hgl hs b hb (by simp [Brc.key, lawK, hh])
            rw [hany]
            refine Wk ?_
            refine ⟨k + 1, by omega, by omega, ?_⟩
            refine Fits.mk' rfl rfl rfl rfl ?_ ?_ ?_ ?_ ?_ <;> repeat' (first | exact trivial | refine And.intro ?_ ?_ | exact Sees.of_eq rfl | exact lt_b rfl | rfl | exact FitF.nil _ | exact Sees.int (succI hks (by omega)))
      · refine Wk ?_
        refine ⟨j + 1, by omega, by omega, ?_⟩
        refine Fits.mk' rfl rfl rfl rfl ?_ ?_ ?_ ?_ ?_ <;> repeat' (first | exact trivial | refine And.intro ?_ ?_ | exact Sees.of_eq rfl | exact lt_b rfl | rfl | exact FitF.nil _ | exact Sees.int (succI hjl hl))
    · refine Wk ?_
      refine ⟨i + 1, by omega, by omega, ?_⟩
      refine Fits.mk' rfl rfl rfl rfl ?_ ?_ ?_ ?_ ?_ <;> repeat' (first | exact trivial | refine And.intro ?_ ?_ | exact Sees.of_eq rfl | exact lt_b rfl | rfl | exact FitF.nil _ | exact Sees.int (succI hil hn.2.2.1))
  · refine Wk ?_
    exact resP.mk rfl (Sees.bool rfl)
end HM
