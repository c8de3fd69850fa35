/- The worst script: the reference. -/
import Derived.Test.YtcbpgfmedemibaaGreatDoorS41
import Derived.Test.YtcbpgfmedemibaaGreatDoorDc

set_option maxRecDepth 100000
namespace HM
open Go Go.RowKit Go.Proofs
section
variable (L : World → Prop)
theorem c_Rel32b (f : Flow) (k : Int) (h1 : 0 ≤ k * f.period ∧ k * f.period ≤ 536870912) (h2 : 0 ≤ f.phase ∧ f.phase ≤ 512) : PCall Tryz.prog L 46 [f.av, .int .i64 k] (.int .i64 (f.phase + k * f.period)) := by
  refine PCall.intro mixed [] (nt := 12) Tryz.func46 rfl rfl (by simp) ?_
  have w1 : IntKind.i64.wrap (k * f.period) = k * f.period := w64 (by omega) (by omega)
  have w2 : IntKind.i64.wrap (f.phase + k * f.period) = f.phase + k * f.period := w64 (by omega) (by omega)
  repeat ((conv => whnf); first | refine sJ ?_ | refine And.intro (by first | exact trivial | kernel_rfl) ?_ | rw [w1] | rw [w2])
  try (conv => whnf)
  exact resP.mk rfl (Sees.int rfl)
/-- the boxes: with nothing in it the outcomes are nil, then they have a chain of their own -/
def wx37 (n : Net) (s : Sched) (f : Flow) (x y fr : Int) (m : Nat) : Nat → St
  | 0 => ⟨[.cells [.int .i64 n.nodes, encRows n.power, .int .i64 n.noise, .int .i64 n.thr, encLinks n.links, encIs n.margin] 26, .cells [.int .i64 s.len, .int .i64 s.offs, encCells s.cells] 29, .cells [.int .i64 f.id, .int .i64 f.src, .int .i64 f.dst, .int .i64 f.period, .int .i64 f.phase, .int .i64 f.dead] 31, .cells [.int .i64 f.id, .int .i64 x, .int .i64 y, .int .i64 fr, .nils] 95], [(m, 5)], 0, 0, fun _ => 95⟩
  | q + 1 => ⟨[.cells [.int .i64 n.nodes, encRows n.power, .int .i64 n.noise, .int .i64 n.thr, encLinks n.links, encIs n.margin] 26, .cells [.int .i64 s.len, .int .i64 s.offs, encCells s.cells] 29, .cells [.int .i64 f.id, .int .i64 f.src, .int .i64 f.dst, .int .i64 f.period, .int .i64 f.phase, .int .i64 f.dead] 31, .cells [.int .i64 f.id, .int .i64 x, .int .i64 y, .int .i64 fr, .own ((List.replicate (q + 1) (3 : Int)).map encI) 2] 95], [(m, 5), (1, 1), (q + 1, 1)], 0, 0, fun c => if c = 0 then 95 else 3⟩
theorem rep_snoc (q : Nat) : ((List.replicate (q + 1) (3 : Int)).map encI) ++ [encI 3] = (List.replicate (q + 1 + 1) (3 : Int)).map encI := by
  rw [List.replicate_succ' (n := q + 1), List.map_append]; rfl
theorem worstA_len (n : Net) (f : Flow) (r : List Int) (k : Int) : ∀ m : Nat, (worstA n f r k m).length ≤ m * r.length
  | 0 => by simp [worstA]
  | m + 1 => by
    have h1 := worstA_len n f r k m
    have h2 := List.length_filter_le (fun y : Rule => y.src == (m : Int)) (worstU n f r k (r.length - 1))
    have h3 := worstU_len n f r k (r.length - 1)
    rw [worstA_succ, List.length_append, Nat.add_mul]
    omega
theorem ruleOk5 : ∀ x : Rule, x.av.ncells = 5 ∧ x.av.cells.all AV.isCell = true := fun _ => ⟨rfl, rfl⟩
set_option maxHeartbeats 8000000 in
theorem c_Worst37 (n : Net) (s : Sched) (f : Flow) (r : List Int) (frame : Int) (hn : n.small) (hc : s.cells.length ≤ 281474976710656) (hr : r.length ≤ 281474976710656) (hl : n.links.length ≤ 281474976710656) :
    PCall Tryz.prog L 10 [n.av, s.av, f.av, encIs r, .int .i64 frame] (.tup [encScript (wrstM n s f r frame).1, .int .i64 (wrstM n s f r frame).2]) := by
  refine PCall.intro mixed [] (nt := 114) Tryz.func10 rfl rfl (by simp) ?_
  refine Wk ?_
  first | refine CallK.data rfl (c_Fault37 L n s f r hn hc hr) rfl ?_ | refine CallP.data rfl (c_Fault37 L n s f r hn hc hr) rfl ?_
  refine Wk ?_
  refine BrK.mk (fun h1 => ?_) (fun h1 => ?_) <;> (try rw [h1])
  · refine Wk ?_
    exact resP.mk rfl (Sees.of_eq (by rw [wrstM, if_pos (by simpa using h1)]; rfl))
  have h1' : wayE n s f r = 0 := by simpa using h1
  have hw := wayE_ok h1'
  have hfl := hw.flow
  have hlen := hw.len
  have e1 : ¬ wayE n s f r ≠ 0 := by simpa using h1'
  have hnodes := hw.net.nodes
  refine Wk ?_
  first | refine CallK.data rfl (c_in37 L frame 0 1048576) rfl ?_ | refine CallP.data rfl (c_in37 L frame 0 1048576) rfl ?_
  cases g : inB frame 0 1048576 with
  | false =>
    have g' : frame < 0 ∨ 1048576 < frame := by simp [inB] at g; omega
    refine Wk ?_
    exact resP.mk rfl (Sees.of_eq (by rw [wrstM, if_neg e1, if_pos (by omega)]; rfl))
  | true =>
    have g' : 0 ≤ frame ∧ frame ≤ 1048576 := by simpa [inB] using g
    have hm0 : 0 ≤ frame * f.period := Int.mul_nonneg (by omega) (by omega)
    have hm1 : frame * f.period ≤ 1048576 * 512 := Int.mul_le_mul (by omega) (by omega) (by omega) (by omega)
    refine Wk ?_
    first | refine CallK.data rfl (c_Rel32b L f frame ⟨by omega, by omega⟩ ⟨by omega, by omega⟩) rfl ?_ | refine CallP.data rfl (c_Rel32b L f frame ⟨by omega, by omega⟩ ⟨by omega, by omega⟩) rfl ?_
    by_cases hx : 1048576 < f.phase + frame * f.period
    · have g3 : decide (1048576 < f.phase + frame * f.period) = true := decide_eq_true hx
      repeat ((conv => whnf); first | refine sJ ?_ | refine And.intro (by first | exact trivial | kernel_rfl) ?_ | rw [g3])
      try (conv => whnf)
      exact resP.mk rfl (Sees.of_eq (by rw [wrstM, if_neg e1, if_pos (.inr (.inr hx))]; rfl))
    have g3 : decide (1048576 < f.phase + frame * f.period) = false := decide_eq_false hx
    have e2 : ¬ (frame < 0 ∨ 1048576 < frame ∨ 1048576 < f.phase + frame * f.period) := by omega
    repeat ((conv => whnf); first | refine sJ ?_ | refine And.intro (by first | exact trivial | kernel_rfl) ?_ | rw [g3])
    try (conv => whnf)
    first | refine CallK.data rfl (c_Rel32b L f frame ⟨by omega, by omega⟩ ⟨by omega, by omega⟩) rfl ?_ | refine CallP.data rfl (c_Rel32b L f frame ⟨by omega, by omega⟩ ⟨by omega, by omega⟩) rfl ?_
    refine Wk ?_
    first | refine CallK.data rfl (c_Release37 L n s f r (f.phase + frame * f.period) hn hc hr hl) rfl ?_ | refine CallP.data rfl (c_Release37 L n s f r (f.phase + frame * f.period) hn hc hr hl) rfl ?_
    have hmod : (f.phase + frame * f.period - f.phase) % f.period = 0 := by rw [show f.phase + frame * f.period - f.phase = frame * f.period by omega]; exact Int.mul_emod_left _ _
    have e3 : ¬ (f.phase + frame * f.period < f.phase ∨ 1048576 < f.phase + frame * f.period ∨ (f.phase + frame * f.period - f.phase) % f.period ≠ 0) := by omega
    cases hR : relR n s f r 0 (f.phase + frame * f.period) with
    | none =>
      have hM : releaseM n s f r (f.phase + frame * f.period) = (0, [], 15) := by rw [releaseM, if_neg e1, if_neg e3, hR]
      rw [hM]
      refine Wk ?_
      exact resP.mk rfl (Sees.of_eq (by rw [wrstM, if_neg e1, if_neg e2, hR]; rfl))
    | some bl =>
      obtain ⟨b, lb⟩ := bl
      have hM : releaseM n s f r (f.phase + frame * f.period) = (b, lb, 0) := by rw [releaseM, if_neg e1, if_neg e3, hR]
      have hW : wrstM n s f r frame = (worstM n f r frame, 0) := by rw [wrstM, if_neg e1, if_neg e2, hR]
      rw [hM, hW]
      refine Wk ?_
      refine LoopK.run mixed [] (fun a : Nat => (a : Int) ≤ n.nodes) (fun a => [(3, encIs r), (4, .int .i64 frame), (5, .ptr 0 0), (6, .ptr 1 0), (7, .ptr 2 0), (13, .own ((worstA n f r frame a).map Rule.av) 0), (14, .int .i64 a)]) (fun a => ⟨sl37 n s f, [((worstA n f r frame a).length, 5)], 0, 0, fun _ => 95⟩) (fun a => n.nodes.toNat - a) 0 (by omega) ?_ ?_
      · refine Fits.mk' rfl rfl rfl rfl ?_ ?_ ?_ ?_ ?_ <;> repeat' (first | exact trivial | refine And.intro ?_ ?_ | exact Sees.of_eq rfl | exact lt_b rfl | rfl | exact SeesL.rfl' _)
      rintro a ha
      have hAl := worstA_len n f r frame a
      have hAl2 : a * r.length ≤ 64 * 9 := Nat.mul_le_mul (by omega) (by omega)
      refine Wk ?_
      refine BrK.mk (fun h2 => ?_) (fun h2 => ?_) <;> (try rw [h2])
      · have hla : (a : Int) < n.nodes := by simpa using h2
        refine Wk ?_
        obtain ⟨O, hO⟩ : ∃ O : Nat → List Rule, O = fun m => worstA n f r frame a ++ (worstU n f r frame m).filter fun y => y.src == (a : Int) := ⟨_, rfl⟩
        have hO0 : O 0 = worstA n f r frame a := by rw [hO]; simp [worstU]
        have hOs : ∀ m, O (m + 1) = O m ++ if r.getD m 0 = (a : Int) ∧ 0 < (linkAt n r m).loss then [lostR n f r frame m] else [] := fun m => by
          rw [hO]
          simp only
          rw [worst_step, List.append_assoc]
        have hOe : O (r.length - 1) = worstA n f r frame (a + 1) := by rw [hO, worstA_succ]
        have hOl : ∀ m, (O m).length ≤ 576 + m := fun m => by
          have h3 := List.length_filter_le (fun y : Rule => y.src == (a : Int)) (worstU n f r frame m)
          have h4 := worstU_len n f r frame m
          rw [hO]
          simp only [List.length_append]
          omega
        refine LoopK.run mixed [] (fun m : Nat => m + 1 ≤ r.length) (fun m => [(3, encIs r), (4, .int .i64 frame), (5, .ptr 0 0), (6, .ptr 1 0), (7, .ptr 2 0), (13, .own ((O m).map Rule.av) 0), (14, .int .i64 a), (15, .int .i64 (m + 1 : Nat))]) (fun m => ⟨sl37 n s f, [((O m).length, 5)], 0, 0, fun _ => 95⟩) (fun m => r.length - m) 0 (by omega) ?_ ?_
        · refine Fits.mk' rfl rfl rfl rfl ?_ ?_ ?_ ?_ ?_ <;> repeat' (first | exact trivial | refine And.intro ?_ ?_ | exact Sees.of_eq rfl | exact lt_b rfl | rfl | exact SeesL.rfl' _ | exact Sees.own (by rw [hO0]) | (show (_, _) = (_, _); rw [hO0]))
        rintro m hm
        have hOm := hOl m
        have hOm1 := hOs m
        refine Wk ?_
        refine BrK.mk (fun h3 => ?_) (fun h3 => ?_) <;> (try rw [h3])
        · have hlt : m + 1 < r.length := lenLt h3
          obtain ⟨y, hgy⟩ := getLt hlt
          have hmy := getMap (f := encI) hgy
          obtain ⟨x, hgx⟩ := getLt (l := r) (k := m) (by omega)
          have hmx := getMap (f := encI) hgx
          have hxd : r.getD m 0 = x := by rw [List.getD_eq_getElem?_getD, hgx]; rfl
          have hyd : r.getD (m + 1) 0 = y := by rw [List.getD_eq_getElem?_getD, hgy]; rfl
          have hwi : IntKind.i64.wrap (((m + 1 : Nat) : Int) - 1) = (m : Int) := by rw [w64] <;> omega
          obtain ⟨i, l, q1, q2, q3, q4, q5, q6, q7⟩ := hw.at hlt
          rw [hxd, hyd] at q1
          have hL : lossL n x y = l.loss := by unfold lossL; rw [q1, Int.toNat_natCast, q2]
          obtain ⟨z, hz⟩ : ∃ z : Nat, l.loss = z := ⟨l.loss.toNat, by omega⟩
          have hlr : lostR n f r frame m = ⟨f.id, x, y, frame, List.replicate z 3⟩ := by unfold lostR; rw [hxd, hyd, q7, hz]; rfl
          rw [hxd, q7, hlr, hz] at hOm1
          rw [hz] at hL
          repeat ((conv => whnf); first | refine sJ ?_ | refine And.intro (by first | exact inbMap hlt | (rw [hwi]; exact inbMap (by omega)) | kernel_rfl) ?_ | rw [hwi] | rw [hmx] | rw [hmy])
          try (conv => whnf)
          refine LoopK.run mixed [] (fun q : Nat => q ≤ z) (fun q => [(3, encIs r), (4, .int .i64 frame), (5, .ptr 0 0), (6, .ptr 1 0), (7, .ptr 2 0), (13, .own ((O m).map Rule.av) 0), (14, .int .i64 a), (15, .int .i64 (m + 1 : Nat)), (16, .ptr 3 0), (17, .int .i64 q)]) (fun q => wx37 n s f x y frame (O m).length q) (fun q => z - q) 0 (by omega) ?_ ?_
          · refine Fits.mk' rfl rfl rfl rfl ?_ ?_ ?_ ?_ ?_ <;> repeat' (first | exact trivial | refine And.intro ?_ ?_ | exact Sees.of_eq rfl | exact lt_b rfl | rfl | exact SeesL.rfl' _)
          rintro q hq
          by_cases hqz : q < z
          · have g4 : decide ((q : Int) < (z : Int)) = true := decide_eq_true (by omega)
            cases q with
            | zero =>
              repeat ((conv => whnf); first | refine sJ ?_ | refine And.intro (by first | exact inbMap hlt | (rw [hwi]; exact inbMap (by omega)) | kernel_rfl) ?_ | rw [hwi] | rw [hmx] | rw [hmy])
              try (conv => whnf)
              first | refine CallK.data rfl (c_Loss33 L n hl x y (by omega)) rfl ?_ | refine CallP.data rfl (c_Loss33 L n hl x y (by omega)) rfl ?_
              rw [hL]
              repeat ((conv => whnf); first | refine sJ ?_ | refine And.intro (by first | exact trivial | kernel_rfl) ?_ | rw [g4])
              try (conv => whnf)
              refine ⟨0 + 1, by omega, by omega, ?_⟩
              refine Fits.mk' rfl rfl rfl rfl ?_ ?_ ?_ ?_ ?_ <;> repeat' (first | exact trivial | refine And.intro ?_ ?_ | exact Sees.of_eq rfl | exact lt_b rfl | rfl | exact SeesL.rfl' _ | exact Sees.int (succI hqz (by omega)))
            | succ q =>
              repeat ((conv => whnf); first | refine sJ ?_ | refine And.intro (by first | exact inbMap hlt | (rw [hwi]; exact inbMap (by omega)) | kernel_rfl) ?_ | rw [hwi] | rw [hmx] | rw [hmy])
              try (conv => whnf)
              first | refine CallK.data rfl (c_Loss33 L n hl x y (by omega)) rfl ?_ | refine CallP.data rfl (c_Loss33 L n hl x y (by omega)) rfl ?_
              rw [hL]
              repeat ((conv => whnf); first | refine sJ ?_ | refine And.intro (by first | exact trivial | exact Els.map (f := encI) (fun _ => ⟨rfl, rfl⟩) | exact (show _ * 8 ≤ _ by simp only [List.length_map, List.length_replicate, List.length_cons, List.length_nil]; omega) | exact (by simp only [List.length_map, List.length_replicate, List.length_cons, List.length_nil, maxLen]; omega) | exact (show some (_, _) = some (_, _) by simp only [List.length_map, List.length_replicate]) | kernel_rfl) ?_ | rw [g4])
              try (conv => whnf)
              refine ⟨q + 1 + 1, by omega, by omega, ?_⟩
              refine Fits.mk' rfl rfl rfl rfl ?_ ?_ ?_ ?_ ?_ <;> repeat' (first | exact trivial | refine And.intro ?_ ?_ | exact Sees.of_eq rfl | exact lt_b rfl | rfl | exact SeesL.rfl' _ | exact Sees.int (succI hqz (by omega)) | exact Sees.own (rep_snoc q) | (show (_, _) = (_, _); simp only [List.length_append, List.length_map, List.length_replicate, List.length_cons, List.length_nil]))
          · have hqe : q = z := by omega
            have g4 : decide ((q : Int) < (z : Int)) = false := decide_eq_false (by omega)
            cases hxa : (x == (a : Int)) with
            | false =>
              rw [if_neg (by simp at hxa; simp [hxa]), List.append_nil] at hOm1
              cases q with
              | zero =>
                repeat ((conv => whnf); first | refine sJ ?_ | refine And.intro (by first | exact inbMap hlt | (rw [hwi]; exact inbMap (by omega)) | kernel_rfl) ?_ | rw [hwi] | rw [hmx] | rw [hmy])
                try (conv => whnf)
                first | refine CallK.data rfl (c_Loss33 L n hl x y (by omega)) rfl ?_ | refine CallP.data rfl (c_Loss33 L n hl x y (by omega)) rfl ?_
                rw [hL]
                repeat ((conv => whnf); first | refine sJ ?_ | refine And.intro (by first | exact trivial | exact inbMap hlt | (rw [hwi]; exact inbMap (by omega)) | kernel_rfl) ?_ | rw [g4] | rw [hwi] | rw [hmx] | rw [hxa])
                try (conv => whnf)
                refine ⟨m + 1, by omega, by omega, ?_⟩
                refine Fits.mk' rfl rfl rfl rfl ?_ ?_ ?_ ?_ ?_ <;> repeat' (first | exact trivial | refine And.intro ?_ ?_ | exact Sees.of_eq rfl | exact lt_b rfl | rfl | exact SeesL.rfl' _ | exact Sees.int (succI hlt (by omega)) | exact Sees.own (by rw [hOm1]) | (show (_, _) = (_, _); rw [hOm1]))
              | succ q =>
                repeat ((conv => whnf); first | refine sJ ?_ | refine And.intro (by first | exact inbMap hlt | (rw [hwi]; exact inbMap (by omega)) | kernel_rfl) ?_ | rw [hwi] | rw [hmx] | rw [hmy])
                try (conv => whnf)
                first | refine CallK.data rfl (c_Loss33 L n hl x y (by omega)) rfl ?_ | refine CallP.data rfl (c_Loss33 L n hl x y (by omega)) rfl ?_
                rw [hL]
                repeat ((conv => whnf); first | refine sJ ?_ | refine And.intro (by first | exact trivial | exact inbMap hlt | (rw [hwi]; exact inbMap (by omega)) | kernel_rfl) ?_ | rw [g4] | rw [hwi] | rw [hmx] | rw [hxa])
                try (conv => whnf)
                refine ⟨m + 1, by omega, by omega, ?_⟩
                refine Fits.mk' rfl rfl rfl rfl ?_ ?_ ?_ ?_ ?_ <;> repeat' (first | exact trivial | refine And.intro ?_ ?_ | exact Sees.of_eq rfl | exact lt_b rfl | rfl | exact SeesL.rfl' _ | exact Sees.int (succI hlt (by omega)) | exact Sees.own (by rw [hOm1]) | (show (_, _) = (_, _); rw [hOm1]))
            | true =>
              have hxa' : x = (a : Int) := by simpa using hxa
              cases q with
              | zero =>
                rw [if_neg (by omega), List.append_nil] at hOm1
                repeat ((conv => whnf); first | refine sJ ?_ | refine And.intro (by first | exact inbMap hlt | (rw [hwi]; exact inbMap (by omega)) | kernel_rfl) ?_ | rw [hwi] | rw [hmx] | rw [hmy])
                try (conv => whnf)
                first | refine CallK.data rfl (c_Loss33 L n hl x y (by omega)) rfl ?_ | refine CallP.data rfl (c_Loss33 L n hl x y (by omega)) rfl ?_
                rw [hL]
                repeat ((conv => whnf); first | refine sJ ?_ | refine And.intro (by first | exact trivial | exact inbMap hlt | (rw [hwi]; exact inbMap (by omega)) | kernel_rfl) ?_ | rw [g4] | rw [hwi] | rw [hmx] | rw [hxa])
                try (conv => whnf)
                refine ⟨m + 1, by omega, by omega, ?_⟩
                refine Fits.mk' rfl rfl rfl rfl ?_ ?_ ?_ ?_ ?_ <;> repeat' (first | exact trivial | refine And.intro ?_ ?_ | exact Sees.of_eq rfl | exact lt_b rfl | rfl | exact SeesL.rfl' _ | exact Sees.int (succI hlt (by omega)) | exact Sees.own (by rw [hOm1]) | (show (_, _) = (_, _); rw [hOm1]))
              | succ q =>
                rw [if_pos ⟨hxa', by omega⟩, ← hqe] at hOm1
                have g5 : decide ((0 : Int) < (((List.replicate (q + 1) (3 : Int)).map encI).length : Int)) = true := decide_eq_true (by simp)
                repeat ((conv => whnf); first | refine sJ ?_ | refine And.intro (by first | exact inbMap hlt | (rw [hwi]; exact inbMap (by omega)) | kernel_rfl) ?_ | rw [hwi] | rw [hmx] | rw [hmy])
                try (conv => whnf)
                first | refine CallK.data rfl (c_Loss33 L n hl x y (by omega)) rfl ?_ | refine CallP.data rfl (c_Loss33 L n hl x y (by omega)) rfl ?_
                rw [hL]
                repeat ((conv => whnf); first | refine sJ ?_ | refine And.intro (by first | exact trivial | exact inbMap hlt | (rw [hwi]; exact inbMap (by omega)) | exact Els.map (f := Rule.av) ruleOk5 | exact (show _ * 56 ≤ _ by simp only [List.length_map, List.length_cons, List.length_nil]; omega) | exact (by simp only [List.length_map, List.length_cons, List.length_nil, maxLen]; omega) | exact (show some (_, _) = some (_, _) by simp only [List.length_map]) | kernel_rfl) ?_ | rw [g4] | rw [hwi] | rw [hmx] | rw [hxa] | rw [g5])
                try (conv => whnf)
                refine ⟨m + 1, by omega, by omega, ?_⟩
                refine Fits.mk' rfl rfl rfl rfl ?_ ?_ ?_ ?_ ?_ <;> repeat' (first | exact trivial | refine And.intro ?_ ?_ | exact Sees.of_eq rfl | exact lt_b rfl | rfl | exact SeesL.rfl' _ | exact Sees.int (succI hlt (by omega)) | exact Sees.own (by rw [hOm1, List.map_append]; rfl) | (show (_, _) = (_, _); rw [hOm1]; simp only [List.length_append, List.length_map, List.length_cons, List.length_nil]))
        · have hm' : m = r.length - 1 := by have := lenGe h3; omega
          subst hm'
          refine Wk ?_
          refine ⟨a + 1, by omega, by omega, ?_⟩
          refine Fits.mk' rfl rfl rfl rfl ?_ ?_ ?_ ?_ ?_ <;> repeat' (first | exact trivial | refine And.intro ?_ ?_ | exact Sees.of_eq rfl | exact lt_b rfl | rfl | exact SeesL.rfl' _ | exact Sees.own (by rw [hOe]) | (show (_, _) = (_, _); rw [hOe]) | exact Sees.int (by rw [w64] <;> omega))
      · have han : a = n.nodes.toNat := by simp at h2; omega
        subst han
        refine Wk ?_
        exact resP.mk rfl (Sees.of_eq (by rw [worstA_all]; rfl))
end
end HM
