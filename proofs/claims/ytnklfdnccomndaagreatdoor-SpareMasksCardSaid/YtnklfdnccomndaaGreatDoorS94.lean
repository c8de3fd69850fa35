/- A run that is changed. -/
import Derived.Test.YtnklfdnccomndaaGreatDoorS82
import Derived.Test.YtnklfdnccomndaaGreatDoorS92
import Derived.Test.YtnklfdnccomndaaGreatDoorDb

set_option maxRecDepth 100000
namespace HM
open Go Go.RowKit Go.Proofs

def chB (s : Sched) : List Ob := [.cells s.av.cells 24, .cells [.nils, .nils] 48]
set_option maxHeartbeats 4000000 in
theorem c_Change (l : List Flow) (s : Sched) (cs : List Chg) (x : List Rule) (slots : Int) (hl : l.length ≤ 281474976710656) (hcs : cs.length ≤ 281474976710656) (hx : ∀ r ∈ x, r.outs.length ≤ 281474976710656) (hxl : x.length ≤ 281474976710656) :
    PCall Tryz.prog LW 19 [encFlows l, s.av, encChgs cs, encScript x, .int .i64 slots] (.tup [(changeM l s cs x slots).1.av, .int .i64 (changeM l s cs x slots).2]) := by
  refine PCall.intro mixed [19, 26] (nt := 105) Tryz.func19 rfl rfl (by simp) ?_
  repeat ((conv => whnf); first | refine sJ ?_ | refine And.intro (by first | exact trivial | kernel_rfl) ?_ )
  try (conv => whnf)
  first | refine CallK.data rfl (c_ready l s x slots hl hx hxl) rfl ?_ | refine CallP.data rfl (c_ready l s x slots hl hx hxl) rfl ?_
  repeat ((conv => whnf); first | refine sJ ?_ | refine And.intro (by first | exact trivial | kernel_rfl) ?_ )
  try (conv => whnf)
  refine BrK.mk (fun h1 => ?_) (fun h1 => ?_) <;> (try rw [h1])
  · have h1' : readyM l s x slots ≠ 0 := by simpa using h1
    have hpm : changeM l s cs x slots = (⟨[], []⟩, readyM l s x slots) := by rw [changeM, if_pos h1']
    repeat ((conv => whnf); first | refine sJ ?_ | refine And.intro (by first | exact trivial | kernel_rfl) ?_ )
    try (conv => whnf)
    rw [hpm]
    exact resP.mk rfl (Sees.of_eq rfl)
  have h1' : readyM l s x slots = 0 := by simpa using h1
  obtain ⟨hfl, hform, hscr, hs0, hs1⟩ := ready_all h1'
  have hF := flowsOk_of hfl
  repeat ((conv => whnf); first | refine sJ ?_ | refine And.intro (by first | exact trivial | kernel_rfl) ?_ )
  try (conv => whnf)
  refine BrK.mk (fun h2 => ?_) (fun h2 => ?_) <;> (try rw [h2])
  · have h2' : 1024 < cs.length := by simp at h2; omega
    have hpm : changeM l s cs x slots = (⟨[], []⟩, 8) := by rw [changeM, if_neg (by simp [h1']), if_pos h2']
    repeat ((conv => whnf); first | refine sJ ?_ | refine And.intro (by first | exact trivial | kernel_rfl) ?_ )
    try (conv => whnf)
    rw [hpm]
    exact resP.mk rfl (Sees.of_eq rfl)
  have h2' : ¬ 1024 < cs.length := by simp at h2; omega
  repeat ((conv => whnf); first | refine sJ ?_ | refine And.intro (by first | exact trivial | kernel_rfl) ?_ )
  try (conv => whnf)
  refine SeqK.cutNS mixed [26] (fun (bs : List Sched) S3 => behM none s cs = (bs, 0) ∧ S3 = ⟨chB s, [((s :: bs).length, 3)], 0, 0, fun k => if k = 0 then 24 else 0⟩) (fun bs => [(0, encFlows l), (2, encChgs cs), (3, encScript x), (4, .int .i64 slots), (6, .ptr 0 0), (10, .ptr 1 0), (13, .own ((s :: bs).map Sched.av) 0)]) ?_ ?_
  · repeat ((conv => whnf); first | refine sJ ?_ | refine And.intro (by first | exact trivial | kernel_rfl) ?_ )
    try (conv => whnf)
    refine LoopK.run mixed [15] (fun q : Nat × List Sched => BehI s cs q.1 q.2) (fun q => [(0, encFlows l), (2, encChgs cs), (3, encScript x), (4, .int .i64 slots), (6, .ptr 0 0), (10, .ptr 1 0), (11, .int .i64 0), (13, .own ((s :: q.2).map Sched.av) 0), (35, encChgs cs), (36, .int .i64 cs.length), (37, .int .i64 q.1)]) (fun q => ⟨chB s, [((s :: q.2).length, 3)], 0, 0, fun k => if k = 0 then 24 else 0⟩) (fun q => cs.length - q.1) (0, []) (BehI.zero s cs) ?_ ?_
    · refine Fits.mk' rfl rfl rfl rfl ?_ ?_ ?_ ?_ ?_ <;> repeat' (first | exact trivial | refine And.intro ?_ ?_ | exact Sees.of_eq rfl | exact lt_b rfl | rfl | exact SeesL.rfl' _ | exact Sees.int (by simp))
    rintro ⟨k, bs⟩ hB
    simp only at hB
    refine Wk ?_
    refine BrK.mk (fun hb => ?_) (fun hb => ?_) <;> (try rw [hb])
    · have hkt : k < cs.length := by simpa using hb
      obtain ⟨c, hgc⟩ := getLt hkt
      have hmc := getMap (f := Chg.av) hgc
      have hwk : IntKind.i64.wrap ((k : Int) + 1) = ((k + 1 : Nat) : Int) := by rw [w64] <;> omega
      repeat ((conv => whnf); first | refine sJ ?_ | refine And.intro (by first | exact inbMap hkt | kernel_rfl) ?_ | rw [hmc])
      try (conv => whnf)
      refine BrK.mk (fun hb2 => ?_) (fun hb2 => ?_) <;> (try rw [hb2])
      · have hneg : c.slot < 0 := by simpa using hb2
        have he := hB.err1 hgc (by rw [chgE_neg hneg]; decide)
        rw [chgE_neg hneg] at he
        have hpm : changeM l s cs x slots = (⟨[], []⟩, 2) := by rw [changeM, if_neg (by simp [h1']), if_neg h2', if_pos (by rw [he]; decide), he]
        repeat ((conv => whnf); first | refine sJ ?_ | refine And.intro (by first | exact trivial | kernel_rfl) ?_ )
        try (conv => whnf)
        rw [hpm]
        exact resP.mk rfl (Sees.of_eq rfl)
      have hneg : ¬ c.slot < 0 := by simpa using hb2
      have hsound : ∀ e, chgE (prevS cs k) c = e → e ≠ 0 → changeM l s cs x slots = (⟨[], []⟩, e) := fun e h3 h4 => by
        have he := hB.err1 hgc (by rw [h3]; exact h4)
        rw [h3] at he
        rw [changeM, if_neg (by simp [h1']), if_neg h2', if_pos (by rw [he]; exact h4), he]
      repeat ((conv => whnf); first | refine sJ ?_ | refine And.intro (by first | exact trivial | kernel_rfl) ?_ )
      try (conv => whnf)
      have hlast := hB.last
      have hlb := hB.len
      have hml := getMap (f := Sched.av) hlast
      have hkb : k < (s :: bs).length := by rw [List.length_cons]; omega
      refine BrK.mk (fun g1 => ?_) (fun g1 => ?_) <;> (try rw [g1])
      · have hpos : 0 < k := by simpa using g1
        obtain ⟨d, hgd⟩ := getLt (l := cs) (k := k - 1) (by omega)
        have hmd := getMap (f := Chg.av) hgd
        have hw1 : IntKind.i64.wrap ((k : Int) - 1) = ((k - 1 : Nat) : Int) := by rw [w64] <;> omega
        have hce := chgE_next (cs := cs) (j := k - 1) hneg hgd
        rw [show k - 1 + 1 = k from by omega] at hce
        repeat ((conv => whnf); first | refine sJ ?_ | refine And.intro (by first | exact inbMap hkt | (rw [hw1]; exact inbMap (by omega : k - 1 < cs.length)) | kernel_rfl) ?_ | rw [hw1] | rw [hmd])
        try (conv => whnf)
        refine BrK.mk (fun g2 => ?_) (fun g2 => ?_) <;> (try rw [g2])
        · have hpm := hsound 5 (by rw [hce, if_pos (by simpa using g2)]) (by decide)
          repeat ((conv => whnf); first | refine sJ ?_ | refine And.intro (by first | exact trivial | kernel_rfl) ?_ )
          try (conv => whnf)
          rw [hpm]
          exact resP.mk rfl (Sees.of_eq rfl)
        rw [if_neg (by simpa using g2)] at hce
        repeat ((conv => whnf); first | refine sJ ?_ | refine And.intro (by first | exact trivial | kernel_rfl) ?_ )
        try (conv => whnf)
        refine SeqK.cutS mixed [] [(0, encFlows l), (2, encChgs cs), (3, encScript x), (4, .int .i64 slots), (6, .ptr 0 0), (10, .ptr 1 0), (11, .int .i64 0), (13, .own ((s :: bs).map Sched.av) 0), (16, .ptr 3 0), (17, .int .i64 (chgM (bs.getLastD s) c).2), (35, encChgs cs), (36, .int .i64 cs.length), (37, .int .i64 k)] ⟨chB s ++ [.cells c.av.cells 52, .cells (chgM (bs.getLastD s) c).1.av.cells 24], [((s :: bs).length, 3)], 0, 0, fun k => if k = 0 then 24 else 0⟩ (SemK.regionMix mixed [0, 1, 2, 3, 4, 5, 6, 7, 8] 3 rfl rfl (by decide) rfl ?_) ?_
        · repeat ((conv => whnf); first | refine sJ ?_ | refine And.intro (by first | exact inbMap hkb | kernel_rfl) ?_ | rw [hml])
          try (conv => whnf)
          first | refine CallK.data rfl (c_changed LW (bs.getLastD s) c) rfl ?_ | refine CallP.data rfl (c_changed LW (bs.getLastD s) c) rfl ?_
          repeat ((conv => whnf); first | refine sJ ?_ | refine And.intro (by first | exact trivial | kernel_rfl) ?_ )
          try (conv => whnf)
          repeat' ((conv => whnf); first | exact trivial | refine sJ ?_ | refine And.intro (by first | exact trivial | exact More.pre rfl rfl | kernel_rfl) ?_ | refine And.intro ?_ ?_ )
          all_goals refine Fits.mk' rfl rfl rfl rfl ?_ ?_ ?_ ?_ ?_
          all_goals repeat' (first | exact trivial | refine And.intro ?_ ?_ | exact Sees.of_eq rfl | exact lt_b rfl | rfl | exact SeesL.rfl' _)
        repeat ((conv => whnf); first | refine sJ ?_ | refine And.intro (by first | exact trivial | kernel_rfl) ?_ )
        try (conv => whnf)
        refine BrK.mk (fun h3 => ?_) (fun h3 => ?_) <;> (try rw [h3])
        · have hbe := hB.err2 hgc hce (by simpa using h3)
          have hpm : changeM l s cs x slots = (⟨[], []⟩, (chgM (bs.getLastD s) c).2) := by rw [changeM, if_neg (by simp [h1']), if_neg h2', if_pos (by rw [hbe]; simpa using h3), hbe]
          repeat ((conv => whnf); first | refine sJ ?_ | refine And.intro (by first | exact trivial | kernel_rfl) ?_ )
          try (conv => whnf)
          rw [hpm]
          exact resP.mk rfl (Sees.of_eq rfl)
        have hstep := hB.step hgc hce (by simpa using h3)
        repeat ((conv => whnf); first | refine sJ ?_ | refine And.intro (by first | exact Els.map (f := Sched.av) (fun _ => ⟨rfl, rfl⟩) | exact (show _ * 40 ≤ _ by simp only [List.length_map, List.length_cons, List.length_nil]; omega) | exact (by simp only [List.length_map, List.length_cons, List.length_nil, maxLen]; omega) | exact (by rw [List.length_map]; rfl) | kernel_rfl) ?_ )
        try (conv => whnf)
        refine ⟨(k + 1, bs ++ [(chgM (bs.getLastD s) c).1]), hstep, by simp only; omega, ?_⟩
        refine Fits.mk' rfl rfl rfl rfl ?_ ?_ ?_ ?_ ?_ <;> repeat' (first | exact trivial | refine And.intro ?_ ?_ | exact Sees.of_eq rfl | exact lt_b rfl | rfl | exact SeesL.rfl' _ | exact Sees.int hwk | exact Sees.own (by simp; rfl) | (show (_, _) = (_, _); simp only [List.length_append, List.length_map, List.length_cons, List.length_nil]))
      · have hk0 : k = 0 := by simp at g1; omega
        have hce : chgE (prevS cs k) c = 0 := by rw [hk0]; exact chgE_first hneg
        repeat ((conv => whnf); first | refine sJ ?_ | refine And.intro (by first | exact trivial | kernel_rfl) ?_ )
        try (conv => whnf)
        refine SeqK.cutS mixed [] [(0, encFlows l), (2, encChgs cs), (3, encScript x), (4, .int .i64 slots), (6, .ptr 0 0), (10, .ptr 1 0), (11, .int .i64 0), (13, .own ((s :: bs).map Sched.av) 0), (16, .ptr 3 0), (17, .int .i64 (chgM (bs.getLastD s) c).2), (35, encChgs cs), (36, .int .i64 cs.length), (37, .int .i64 k)] ⟨chB s ++ [.cells c.av.cells 52, .cells (chgM (bs.getLastD s) c).1.av.cells 24], [((s :: bs).length, 3)], 0, 0, fun k => if k = 0 then 24 else 0⟩ (SemK.regionMix mixed [0, 1, 2, 3, 4, 5, 6, 7, 8] 3 rfl rfl (by decide) rfl ?_) ?_
        · repeat ((conv => whnf); first | refine sJ ?_ | refine And.intro (by first | exact inbMap hkb | kernel_rfl) ?_ | rw [hml])
          try (conv => whnf)
          first | refine CallK.data rfl (c_changed LW (bs.getLastD s) c) rfl ?_ | refine CallP.data rfl (c_changed LW (bs.getLastD s) c) rfl ?_
          repeat ((conv => whnf); first | refine sJ ?_ | refine And.intro (by first | exact trivial | kernel_rfl) ?_ )
          try (conv => whnf)
          repeat' ((conv => whnf); first | exact trivial | refine sJ ?_ | refine And.intro (by first | exact trivial | exact More.pre rfl rfl | kernel_rfl) ?_ | refine And.intro ?_ ?_ )
          all_goals refine Fits.mk' rfl rfl rfl rfl ?_ ?_ ?_ ?_ ?_
          all_goals repeat' (first | exact trivial | refine And.intro ?_ ?_ | exact Sees.of_eq rfl | exact lt_b rfl | rfl | exact SeesL.rfl' _)
        repeat ((conv => whnf); first | refine sJ ?_ | refine And.intro (by first | exact trivial | kernel_rfl) ?_ )
        try (conv => whnf)
        refine BrK.mk (fun h3 => ?_) (fun h3 => ?_) <;> (try rw [h3])
        · have hbe := hB.err2 hgc hce (by simpa using h3)
          have hpm : changeM l s cs x slots = (⟨[], []⟩, (chgM (bs.getLastD s) c).2) := by rw [changeM, if_neg (by simp [h1']), if_neg h2', if_pos (by rw [hbe]; simpa using h3), hbe]
          repeat ((conv => whnf); first | refine sJ ?_ | refine And.intro (by first | exact trivial | kernel_rfl) ?_ )
          try (conv => whnf)
          rw [hpm]
          exact resP.mk rfl (Sees.of_eq rfl)
        have hstep := hB.step hgc hce (by simpa using h3)
        repeat ((conv => whnf); first | refine sJ ?_ | refine And.intro (by first | exact Els.map (f := Sched.av) (fun _ => ⟨rfl, rfl⟩) | exact (show _ * 40 ≤ _ by simp only [List.length_map, List.length_cons, List.length_nil]; omega) | exact (by simp only [List.length_map, List.length_cons, List.length_nil, maxLen]; omega) | exact (by rw [List.length_map]; rfl) | kernel_rfl) ?_ )
        try (conv => whnf)
        refine ⟨(k + 1, bs ++ [(chgM (bs.getLastD s) c).1]), hstep, by simp only; omega, ?_⟩
        refine Fits.mk' rfl rfl rfl rfl ?_ ?_ ?_ ?_ ?_ <;> repeat' (first | exact trivial | refine And.intro ?_ ?_ | exact Sees.of_eq rfl | exact lt_b rfl | rfl | exact SeesL.rfl' _ | exact Sees.int hwk | exact Sees.own (by simp; rfl) | (show (_, _) = (_, _); simp only [List.length_append, List.length_map, List.length_cons, List.length_nil]))
    · have hk' : k = cs.length := by have := hB.le; simp at hb; omega
      subst hk'
      refine Wk ?_
      exact ⟨bs, ⟨hB.fin, rfl⟩, Sees.of_eq rfl, Sees.of_eq rfl, Sees.of_eq rfl, Sees.of_eq rfl, Sees.of_eq rfl, Sees.of_eq rfl, Sees.of_eq rfl, trivial⟩
  rintro bs S0 ⟨hbeh, rfl⟩
  have hb2 : (behM none s cs).2 = 0 := by rw [hbeh]
  have hb1 : (behM none s cs).1 = bs := by rw [hbeh]
  have hpm := change_V h1' h2' hb2
  obtain ⟨sc, hsc⟩ : ∃ sc : Nat → Sched, sc = fun n : Nat => nowM s cs (n : Int) := ⟨_, rfl⟩
  rw [← hsc] at hpm
  have hscl : ∀ n, (sc n).cells.length ≤ 512 := fun n => by rw [hsc]; exact (form_all (now_form hform cs n)).2.1
  refine twC_sound (ct := [26]) mixed _ _ _ _ ?_
  repeat ((conv => whnf); first | refine sJ ?_ | refine And.intro (by first | exact trivial | kernel_rfl) ?_ )
  try (conv => whnf)
  refine CallK.inl rfl ?_
  refine i_newPlayer LW (kx := kxRun 1) _ l s x hF.len (fun e he => ?_) fun S1 pb sv hN => ?_
  · obtain rfl : e = _ := List.mem_singleton.1 he
    rfl
  have hp1 := hN.p
  repeat ((conv => whnf); first | refine sJ ?_ | refine And.intro (by first | exact trivial | kernel_rfl) ?_ )
  try (conv => whnf)
  refine SeqK.cutNS mixed [] (fun (_ : Unit) S3 => ∃ s1, PIn (PTk (kxRun 1)) S3 pb S1.fr.length l s1 x (playV l sc x slots.toNat)) (fun _ => [(10, .ptr 1 0), (18, .ptr pb 0)]) ?_ ?_
  rotate_left
  · rintro ⟨⟩ S2 ⟨s1, g2, sv2, dv2, hP2⟩
    rw [hpm]
    have hp2 := hP2.p
    have hr2 : S2.bx[1]? = some (.cells [.nils, .nils] 48) := hP2.k (1, [.nils, .nils], 48) (List.mem_singleton.2 rfl)
    rcases hP2.d with ⟨h3, h4⟩ | ⟨db, ex, h3, h4⟩
    · rw [h4] at hp2
      refine SemK.recast (id := pb) (.cells (plC l s1 x sv2 (.own ((playV l sc x slots.toNat).atts.map Att.av) S1.fr.length) .nils) 83) hp2 rfl ⟨rfl, Sees.rfl' _, Sees.rfl' _, Sees.rfl' _, Sees.rfl' _, Sees.rfl' _, Sees.rfl' _, Sees.rfl' _, Sees.gNil, trivial⟩ ?_
      have hne : pb ≠ 1 := ne_cc hp2 hr2 (show (83 : Nat) ≠ 48 by decide)
      have hr3 : ∀ o, (S2.setB pb o).bx[1]? = some (.cells [.nils, .nils] 48) := fun o => by rw [St.setB_ne hne]; exact hr2
      refine twC_sound (ct := []) mixed _ _ _ _ ?_
      repeat ((conv => whnf); first | refine sJ ?_ | refine And.intro (by first | exact trivial | kernel_rfl) ?_ | rw [St.setB_get hp2] | rw [hr3] | rw [St.setB_get (hr3 _)])
      try (conv => whnf)
      rw [h3]
      exact resP.mk rfl (Sees.of_eq rfl)
    · rw [h3] at hp2
      have hne : 1 ≠ db := ne_cc hr2 h4 (show (48 : Nat) ≠ 115 by decide)
      refine twC_sound (ct := []) mixed _ _ _ _ ?_
      repeat ((conv => whnf); first | refine sJ ?_ | refine And.intro (by first | exact trivial | kernel_rfl) ?_ | rw [hp2] | rw [hr2] | rw [St.setB_get hr2])
      try (conv => whnf)
      exact resP_run ((St.setB_ne hne).trans h4) rfl
  repeat ((conv => whnf); first | refine sJ ?_ | refine And.intro (by first | exact trivial | kernel_rfl) ?_ )
  try (conv => whnf)
  refine LoopK.bornC pb 6 8 143 hp1 rfl ?_
  refine LoopK.recast (id := pb) (.cells (plC l s x sv (.own [] S1.fr.length) (.grown .nils 0)) 83) (St.setB_get (S := S1.addF (0, 8) _) hp1) rfl ⟨rfl, Sees.rfl' _, Sees.rfl' _, Sees.rfl' _, Sees.rfl' _, Sees.rfl' _, Sees.rfl' _, Sees.rfl' _, Sees.nilG, trivial⟩ ?_
  refine LoopK.runS mixed [23] (fun (k : Nat) S2 => (k : Int) ≤ slots ∧ ∃ s1, PIn (PTk (kxRun 1)) S2 pb S1.fr.length l s1 x (playV l sc x k)) (fun k => [(2, encChgs cs), (10, .ptr 1 0), (13, .sl false ((s :: bs).map Sched.av)), (18, .ptr pb 0), (82, .int .i64 slots), (83, .int .i64 k)]) (fun k => slots.toNat - k) 0 ⟨by omega, s, hN.start⟩ ?_ ?_
  · exact ⟨Sees.of_eq rfl, Sees.of_eq rfl, Sees.elems rfl, Sees.of_eq rfl, Sees.of_eq rfl, Sees.of_eq rfl, trivial⟩
  rintro k S2 ⟨hk, s1, hI2⟩
  refine Wk ?_
  refine BrK.mk (fun hb => ?_) (fun hb => ?_) <;> (try rw [hb])
  · have hlt : (k : Int) < slots := by simpa using hb
    have hwk : IntKind.i64.wrap ((k : Int) + 1) = ((k + 1 : Nat) : Int) := by rw [w64] <;> omega
    have hnow : (s :: bs)[uptoC cs k]? = some (sc k) := by have := now_at (s := s) (cs := cs) (k : Int) hb2; rw [hb1] at this; rw [this, hsc]
    have hmn := getMap (f := Sched.av) hnow
    have hnl := (List.getElem?_eq_some_iff.1 hnow).1
    have hsim := playV_R hF sc x k (by omega)
    have hpl := play_len (l := l) sc x (m := 512) hscl k
    repeat ((conv => whnf); first | refine sJ ?_ | refine And.intro (by first | exact trivial | kernel_rfl) ?_ | rw [St.addB_get])
    try (conv => whnf)
    refine SeqK.cutN mixed [] [] (fun (nb : Nat) S3 => S3.bx[nb]? = some (.cells [.int .i64 k] 3) ∧ PIn (PTk (kxRun 1)) S3 pb S1.fr.length l s1 x (playV l sc x k)) (fun nb => [(2, encChgs cs), (10, .ptr 1 0), (13, .sl false ((s :: bs).map Sched.av)), (18, .ptr pb 0), (19, .ptr nb 0), (82, .int .i64 slots), (83, .int .i64 k)]) ?_ ?_
    · repeat ((conv => whnf); first | refine sJ ?_ | refine And.intro (by first | exact trivial | kernel_rfl) ?_ | rw [St.addB_get])
      try (conv => whnf)
      obtain ⟨g2, sv2, dv2, hP2⟩ := hI2
      refine ⟨_, ⟨St.setB_get (St.addB_get _ _), g2, sv2, dv2, hP2.more (fun id o ho => ?_) rfl rfl⟩, Sees.of_eq rfl, Sees.of_eq rfl, Sees.of_eq rfl, Sees.of_eq rfl, Sees.of_eq rfl, Sees.of_eq rfl, Sees.of_eq rfl, trivial⟩
      have := (List.getElem?_eq_some_iff.1 ho).1
      rw [St.setB_ne (by omega)]; exact St.addB_old ho
    rintro nb S3 ⟨hn3, g3, sv3, dv3, hP3⟩
    have hp3 := hP3.p
    have hnp : nb ≠ pb := ne_cc hn3 hp3 (show (3 : Nat) ≠ 83 by decide)
    repeat ((conv => whnf); first | refine sJ ?_ | refine And.intro (by first | exact trivial | kernel_rfl) ?_ )
    try (conv => whnf)
    by_cases hne : cs = []
    · subst hne
      first | refine CallK.data rfl (c_Clone0Chg LW) rfl ?_ | refine CallP.data rfl (c_Clone0Chg LW) rfl ?_
      repeat ((conv => whnf); first | refine sJ ?_ | refine And.intro (by first | exact trivial | kernel_rfl) ?_ )
      try (conv => whnf)
      refine CallK.inl rfl (ICall.intro mixed [] (nt := 42) Tryz.func36 rfl rfl (by simp) ?_)
      repeat ((conv => whnf); first | refine sJ ?_ | refine And.intro (by first | exact trivial | kernel_rfl) ?_ )
      try (conv => whnf)
      refine CallK.box rfl (c_IndexFuncChg LW [] (fun x => decide ((k : Int) < x.slot)) 38 [.cptr (.agg [.int .i64 k]) 0] (by simp) rfl rfl (fun c _ => c_chg1 LW c k)) (fz2 rfl (fzf1 (fz_cap hn3))) rfl ?_
      have hp4 : (S3.inner.outer S3).bx[pb]? = some (.cells (plC l s1 x sv3 (.own ((playV l sc x k).atts.map Att.av) S1.fr.length) dv3) 83) := hp3
      have hn4 : (S3.inner.outer S3).bx[nb]? = some (.cells [.int .i64 k] 3) := hn3
      repeat ((conv => whnf); first | refine sJ ?_ | refine And.intro (by first | exact trivial | exact inbMap hnl | kernel_rfl) ?_ | rw [hmn] | rw [hp4] | rw [St.setB_ne hnp.symm] | rw [hn4])
      try (conv => whnf)
      have hsk : sc k = s := by rw [hsc]; rfl
      have hP4 : PInv (PTk (kxRun 1)) (S3.inner.outer S3) pb S1.fr.length l s1 x (playV l sc x k) g3 sv3 dv3 := hP3.more (fun _ _ ho => ho) rfl rfl
      refine CallK.inl rfl ?_
      refine i_slot LW (kx := kxRun 1) _ pb S1.fr.length l (sc k) x (playV l sc x k) k _ ?_ hF hscr hsim (by omega) (by have := hscl k; omega) (by omega) (by omega) fun S5 hI5 => ?_
      · rw [hsk]
        exact ⟨g3, sv3, dv3, hP4.setP s (playV l sc x k).atts hP4.a rfl rfl⟩
      repeat ((conv => whnf); first | refine sJ ?_ | refine And.intro (by first | exact trivial | kernel_rfl) ?_ )
      try (conv => whnf)
      exact ⟨k + 1, ⟨by omega, sc k, hI5⟩, by omega, Sees.of_eq rfl, Sees.of_eq rfl, Sees.of_eq rfl, Sees.of_eq rfl, Sees.of_eq rfl, Sees.int hwk, trivial⟩
    · refine CallK.fresh rfl (c_CloneChg LW cs hne (by omega)) (by rfl) (chgOk.els _) (chgOk.scal (fun _ => rfl) _) (fun h => absurd (by simpa using h) hne) (fun d => ?_)
      repeat ((conv => whnf); first | refine sJ ?_ | refine And.intro (by first | exact trivial | kernel_rfl) ?_ )
      try (conv => whnf)
      rw [List.length_map]
      refine CallK.inl rfl ?_
      refine i_DelChg LW _ S3.bx.length nb cs k d (by omega) (St.addB_get S3 _) (St.addB_old hn3) (by have := (List.getElem?_eq_some_iff.1 hn3).1; omega) fun S4 hu => ?_
      have hu' : ∀ (id : Nat) (o : Ob), S3.bx[id]? = some o → S4.bx[id]? = some o := fun id o ho => hu.bx id o (by have := (List.getElem?_eq_some_iff.1 ho).1; omega) (St.addB_old ho)
      have hp4 := hu' _ _ hp3
      have hn4 := hu' _ _ hn3
      rw [uptoC_filter]
      repeat ((conv => whnf); first | refine sJ ?_ | refine And.intro (by first | exact trivial | exact inbMap hnl | kernel_rfl) ?_ | rw [hmn] | rw [hp4] | rw [St.setB_ne hnp.symm] | rw [hn4])
      try (conv => whnf)
      have hP4 := hP3.more hu' (show S4.fr[S1.fr.length]? = S3.fr[S1.fr.length]? by rw [hu.fr]; rfl) (show S4.ty S1.fr.length = S3.ty S1.fr.length by rw [hu.ty]; rfl)
      refine CallK.inl rfl ?_
      refine i_slot LW (kx := kxRun 1) _ pb S1.fr.length l (sc k) x (playV l sc x k) k _ ?_ hF hscr hsim (by omega) (by have := hscl k; omega) (by omega) (by omega) fun S5 hI5 => ?_
      · exact ⟨g3, sv3, dv3, hP4.setP (sc k) (playV l sc x k).atts hP4.a rfl rfl⟩
      repeat ((conv => whnf); first | refine sJ ?_ | refine And.intro (by first | exact trivial | kernel_rfl) ?_ )
      try (conv => whnf)
      exact ⟨k + 1, ⟨by omega, sc k, hI5⟩, by omega, Sees.of_eq rfl, Sees.of_eq rfl, Sees.of_eq rfl, Sees.of_eq rfl, Sees.of_eq rfl, Sees.int hwk, trivial⟩
  · have hk' : (k : Int) = slots := by simp at hb; omega
    have hkn : slots.toNat = k := by omega
    rw [← hkn] at hI2
    refine Wk ?_
    exact ⟨(), ⟨s1, hI2⟩, Sees.of_eq rfl, Sees.of_eq rfl, trivial⟩
end HM
