/- What the reference knows of a run: who holds a frame, what was acknowledged, the outcome. -/
import Derived.Test.YtnhelkbmeggpkaaGreatDoorS33
import Derived.Test.YtnhelkbmeggpkaaGreatDoorS69
import Derived.Test.YtnhelkbmeggpkaaGreatDoorDb

set_option maxRecDepth 100000
namespace HM
open Go Go.RowKit Go.Proofs
section
variable (L : World → Prop)

theorem c_Find32 (l : List Flow) (id : Int) (hl : l.length ≤ 281474976710656) : PCall Tryz.prog L 143 [encFlows l, .int .i64 id] (.int .i64 (findF l id)) := by
  refine PCall.intro mixed [] (nt := 20) Tryz.func143 rfl rfl (by simp) ?_
  refine Wk ?_
  refine LoopK.run mixed [] (fun (k : Nat) => k ≤ l.length ∧ ∀ (j : Nat) y, j < k → l[j]? = some y → (y.id == id) = false) (fun k => [(0, encFlows l), (1, .int .i64 id), (5, .int .i64 k)]) (fun k => St.none) (fun k => l.length - k) 0 ⟨by simp, by simp⟩ ?_ ?_
  · refine Fits.mk' rfl rfl rfl rfl ?_ ?_ ?_ ?_ ?_ <;> repeat' (first | exact trivial | refine And.intro ?_ ?_ | exact Sees.of_eq rfl | exact lt_b rfl | rfl )
  rintro k ⟨hk, hinv⟩
  refine Wk ?_
  refine BrK.mk (fun hb => ?_) (fun hb => ?_) <;> (try rw [hb])
  · have hkt : k < l.length := by simpa using hb
    obtain ⟨f, hgf⟩ := getLt hkt
    have hmf := getMap (f := Flow.av) hgf
    repeat ((conv => whnf); first | refine sJ ?_ | refine And.intro (by first | exact inbMap hkt | kernel_rfl) ?_ | rw [hmf])
    try (conv => whnf)
    refine BrK.mk (fun h2 => ?_) (fun h2 => ?_) <;> (try rw [h2])
    · refine Wk ?_
      exact resP.mk rfl (Sees.int (idxF_some (p := fun f : Flow => f.id == id) hkt hinv hgf h2).symm)
    · refine Wk ?_
      refine ⟨k + 1, ⟨by omega, inv_snoc (p := fun y : Flow => y.id == id) hinv hgf h2⟩, by omega, ?_⟩
      refine Fits.mk' rfl rfl rfl rfl ?_ ?_ ?_ ?_ ?_ <;> repeat' (first | exact trivial | refine And.intro ?_ ?_ | exact Sees.of_eq rfl | exact lt_b rfl | rfl | exact Sees.int (succI hkt hl))
  · have hkn : k = l.length := by simp at hb; omega
    subst hkn
    refine Wk ?_
    exact resP.mk rfl (Sees.int (idxF_none (p := fun f : Flow => f.id == id) hinv).symm)

theorem c_Current32 (f : Flow) (slot : Int) (hs : -9223372036854775808 ≤ slot) : PCall Tryz.prog L 144 [f.av, .int .i64 slot] (.tup [.int .i64 (curM f slot).1, .bool (curM f slot).2]) := by
  refine PCall.intro mixed [] (nt := 23) Tryz.func144 rfl rfl (by simp) ?_
  refine Wk ?_
  first | refine CallK.data rfl (c_Fault32 L 32 f (by decide) (by decide)) rfl ?_ | refine CallP.data rfl (c_Fault32 L 32 f (by decide) (by decide)) rfl ?_
  refine Wk ?_
  refine BrK.mk (fun h1 => ?_) (fun h1 => ?_) <;> (try rw [h1])
  · refine Wk ?_
    exact resP.mk rfl (Sees.of_eq (by rw [curM, if_pos (.inl (by simpa using h1))]))
  have h1' : flowE 32 f = 0 := by simpa using h1
  obtain ⟨q1, q2, q3, q4, q5, q6, q7, q8, q9, q10, q11, q12, q13⟩ := flowE_ok h1'
  refine Wk ?_
  first | refine CallK.data rfl (c_in32 L slot f.phase 1099511627776) rfl ?_ | refine CallP.data rfl (c_in32 L slot f.phase 1099511627776) rfl ?_
  refine Wk ?_
  refine BrK.mk (fun h2 => ?_) (fun h2 => ?_) <;> (try rw [h2])
  · have h2' : slot < f.phase ∨ 1099511627776 < slot := by simp [inB] at h2; omega
    refine Wk ?_
    exact resP.mk rfl (Sees.of_eq (by rw [curM, if_pos (.inr h2')]))
  have h2' : ¬ (slot < f.phase ∨ 1099511627776 < slot) := by simp [inB] at h2; omega
  have hw : IntKind.i64.wrap (slot - f.phase) = slot - f.phase := w64 (by omega) (by omega)
  have hq : (slot - f.phase).tdiv f.period = (slot - f.phase) / f.period := Int.tdiv_eq_ediv_of_nonneg (by omega)
  have hb : (slot - f.phase) / f.period ≤ slot - f.phase := Int.ediv_le_self _ (by omega)
  have hb0 : 0 ≤ (slot - f.phase) / f.period := Int.ediv_nonneg (by omega) (by omega)
  have hw2 : IntKind.i64.wrap ((slot - f.phase).tdiv f.period) = (slot - f.phase) / f.period := by rw [hq, w64 (by omega) (by omega)]
  repeat ((conv => whnf); first | refine sJ ?_ | refine And.intro (by first | exact (show f.period ≠ 0 by omega) | kernel_rfl) ?_ | rw [hw] | rw [hw2])
  try (conv => whnf)
  exact resP.mk rfl (Sees.of_eq (by rw [curM, if_neg (by omega)]))

theorem c_Deliv36 (r : RunL) (flow frame : Int) (hr : r.dels.length ≤ 281474976710656) : PCall Tryz.prog L 19 [r.av, .int .i64 flow, .int .i64 frame] (.tup [.int .i64 (delivM r flow frame).1, .bool (delivM r flow frame).2]) := by
  refine PCall.intro mixed [] (nt := 40) Tryz.func19 rfl rfl (by simp) ?_
  refine Wk ?_
  refine LoopK.run mixed [] (fun (k : Nat) => k ≤ r.dels.length ∧ ∀ (j : Nat) y, j < k → r.dels[j]? = some y → (y.flow == flow && y.frame == frame) = false) (fun k => [(1, .int .i64 flow), (2, .int .i64 frame), (3, .ptr 0 0), (8, .int .i64 k)]) (fun k => ⟨[.cells [encAtts r.atts, encDels r.dels] 41], [], 0, 0, fun _ => 0⟩) (fun k => r.dels.length - k) 0 ⟨by simp, by simp⟩ ?_ ?_
  · refine Fits.mk' rfl rfl rfl rfl ?_ ?_ ?_ ?_ ?_ <;> repeat' (first | exact trivial | refine And.intro ?_ ?_ | exact Sees.of_eq rfl | exact lt_b rfl | rfl | exact SeesL.rfl' _)
  rintro k ⟨hk, hinv⟩
  refine Wk ?_
  refine BrK.mk (fun hb => ?_) (fun hb => ?_) <;> (try rw [hb])
  · have hkt : k < r.dels.length := by simpa using hb
    obtain ⟨d, hgd⟩ := getLt hkt
    have hmd := getMap (f := Del.av) hgd
    repeat ((conv => whnf); first | refine sJ ?_ | refine And.intro (by first | exact inbMap hkt | kernel_rfl) ?_ | rw [hmd])
    try (conv => whnf)
    refine BrK.mk (fun h2 => ?_) (fun h2 => ?_) <;> (try rw [h2])
    · repeat ((conv => whnf); first | refine sJ ?_ | refine And.intro (by first | exact inbMap hkt | kernel_rfl) ?_ | rw [hmd])
      try (conv => whnf)
      refine BrK.mk (fun h3 => ?_) (fun h3 => ?_) <;> (try rw [h3])
      · repeat ((conv => whnf); first | refine sJ ?_ | refine And.intro (by first | exact inbMap hkt | kernel_rfl) ?_ | rw [hmd])
        try (conv => whnf)
        have := find_hit (p := fun e : Del => e.flow == flow && e.frame == frame) hinv hgd (by rw [h2, h3]; rfl)
        exact resP.mk rfl (Sees.of_eq (by unfold delivM; rw [this]))
      · refine Wk ?_
        refine ⟨k + 1, ⟨by omega, inv_snoc (p := fun y : Del => y.flow == flow && y.frame == frame) hinv hgd (by rw [h2, h3]; rfl)⟩, by omega, ?_⟩
        refine Fits.mk' rfl rfl rfl rfl ?_ ?_ ?_ ?_ ?_ <;> repeat' (first | exact trivial | refine And.intro ?_ ?_ | exact Sees.of_eq rfl | exact lt_b rfl | rfl | exact SeesL.rfl' _ | exact Sees.int (succI hkt hr))
    · refine Wk ?_
      refine ⟨k + 1, ⟨by omega, inv_snoc (p := fun y : Del => y.flow == flow && y.frame == frame) hinv hgd (by rw [h2]; rfl)⟩, by omega, ?_⟩
      refine Fits.mk' rfl rfl rfl rfl ?_ ?_ ?_ ?_ ?_ <;> repeat' (first | exact trivial | refine And.intro ?_ ?_ | exact Sees.of_eq rfl | exact lt_b rfl | rfl | exact SeesL.rfl' _ | exact Sees.int (succI hkt hr))
  · have hkn : k = r.dels.length := by simp at hb; omega
    subst hkn
    have := find_miss (p := fun e : Del => e.flow == flow && e.frame == frame) fun j y hy => hinv j y (List.getElem?_eq_some_iff.1 hy).1 hy
    refine Wk ?_
    exact resP.mk rfl (Sees.of_eq (by unfold delivM; rw [this]))

theorem c_holds36 (f : Flow) (r : RunL) (node frame slot : Int) (hr : r.atts.length ≤ 281474976710656) : PCall Tryz.prog L 145 [f.av, r.av, .int .i64 node, .int .i64 frame, .int .i64 slot] (.bool (holdsR f r.atts node frame slot)) := by
  refine PCall.intro mixed [] (nt := 59) Tryz.func145 rfl rfl (by simp) ?_
  refine Wk ?_
  refine BrK.mk (fun h0 => ?_) (fun h0 => ?_) <;> (try rw [h0])
  · refine Wk ?_
    exact resP.mk rfl (Sees.bool (by unfold holdsR; rw [h0]; rfl))
  refine Wk ?_
  refine LoopK.run mixed [] (fun (k : Nat) => k ≤ r.atts.length ∧ ∀ (j : Nat) y, j < k → r.atts[j]? = some y → (gotA f.id frame node y && decide (y.slot < slot)) = false) (fun k => [(2, .int .i64 node), (3, .int .i64 frame), (4, .int .i64 slot), (5, .ptr 0 0), (6, .ptr 1 0), (11, .int .i64 k)]) (fun k => ⟨[.cells f.av.cells 49, .cells [encAtts r.atts, encDels r.dels] 41], [], 0, 0, fun _ => 0⟩) (fun k => r.atts.length - k) 0 ⟨by simp, by simp⟩ ?_ ?_
  · refine Fits.mk' rfl rfl rfl rfl ?_ ?_ ?_ ?_ ?_ <;> repeat' (first | exact trivial | refine And.intro ?_ ?_ | exact Sees.of_eq rfl | exact lt_b rfl | rfl | exact SeesL.rfl' _)
  rintro k ⟨hk, hinv⟩
  refine Wk ?_
  refine BrK.mk (fun hb => ?_) (fun hb => ?_) <;> (try rw [hb])
  · have hkt : k < r.atts.length := by simpa using hb
    obtain ⟨a, hga⟩ := getLt hkt
    have hma := getMap (f := Att.av) hga
    have hsnoc := inv_snoc (p := fun y : Att => gotA f.id frame node y && decide (y.slot < slot)) hinv hga
    have hhit := any_at (p := fun y : Att => gotA f.id frame node y && decide (y.slot < slot)) hga
    clear hinv
    repeat' ((conv => whnf); first | refine sJ ?_ | refine And.intro (by first | exact inbMap hkt | kernel_rfl) ?_ | rw [hma] | (refine BrK.mk (fun hb => ?_) (fun hb => ?_) <;> (try rw [hb])))
    all_goals try (conv => whnf)
    all_goals first | exact resP.mk rfl (Sees.bool (by unfold holdsR; rw [hhit (by clear hsnoc hhit; simp_all [gotA])]; simp)) | (refine ⟨k + 1, ⟨by omega, hsnoc (by clear hsnoc hhit; first | (simp_all [gotA]; done) | (simp_all [gotA]; intros; omega))⟩, by omega, ?_⟩; refine Fits.mk' rfl rfl rfl rfl ?_ ?_ ?_ ?_ ?_ <;> repeat' (first | exact trivial | refine And.intro ?_ ?_ | exact Sees.of_eq rfl | exact lt_b rfl | rfl | exact SeesL.rfl' _ | exact Sees.int (succI hkt hr)))
  · have hkn : k = r.atts.length := by simp at hb; omega
    subst hkn
    have := any_no (p := fun y : Att => gotA f.id frame node y && decide (y.slot < slot)) fun j y hy => hinv j y (List.getElem?_eq_some_iff.1 hy).1 hy
    refine Wk ?_
    exact resP.mk rfl (Sees.bool (by unfold holdsR; rw [h0, this]; rfl))

theorem c_acked36 (r : RunL) (c : Cell) (frame slot : Int) (hr : r.atts.length ≤ 281474976710656) : PCall Tryz.prog L 146 [r.av, c.av, .int .i64 frame, .int .i64 slot] (.bool (ackedR r.atts c frame slot)) := by
  refine PCall.intro mixed [] (nt := 62) Tryz.func146 rfl rfl (by simp) ?_
  refine Wk ?_
  refine LoopK.run mixed [] (fun (k : Nat) => k ≤ r.atts.length ∧ ∀ (j : Nat) y, j < k → r.atts[j]? = some y → (onA c frame y && decide (y.slot < slot) && y.out == 1) = false) (fun k => [(2, .int .i64 frame), (3, .int .i64 slot), (4, .ptr 0 0), (5, .ptr 1 0), (9, .int .i64 k)]) (fun k => ⟨[.cells [encAtts r.atts, encDels r.dels] 41, .cells c.av.cells 51], [], 0, 0, fun _ => 0⟩) (fun k => r.atts.length - k) 0 ⟨by simp, by simp⟩ ?_ ?_
  · refine Fits.mk' rfl rfl rfl rfl ?_ ?_ ?_ ?_ ?_ <;> repeat' (first | exact trivial | refine And.intro ?_ ?_ | exact Sees.of_eq rfl | exact lt_b rfl | rfl | exact SeesL.rfl' _)
  rintro k ⟨hk, hinv⟩
  refine Wk ?_
  refine BrK.mk (fun hb => ?_) (fun hb => ?_) <;> (try rw [hb])
  · have hkt : k < r.atts.length := by simpa using hb
    obtain ⟨a, hga⟩ := getLt hkt
    have hma := getMap (f := Att.av) hga
    have hsnoc := inv_snoc (p := fun y : Att => onA c frame y && decide (y.slot < slot) && y.out == 1) hinv hga
    have hhit := any_at (p := fun y : Att => onA c frame y && decide (y.slot < slot) && y.out == 1) hga
    clear hinv
    repeat' ((conv => whnf); first | refine sJ ?_ | refine And.intro (by first | exact inbMap hkt | kernel_rfl) ?_ | rw [hma] | (refine BrK.mk (fun hb => ?_) (fun hb => ?_) <;> (try rw [hb])))
    all_goals try (conv => whnf)
    all_goals first | exact resP.mk rfl (Sees.bool (by unfold ackedR; rw [hhit (by clear hsnoc hhit; simp_all [onA])])) | (refine ⟨k + 1, ⟨by omega, hsnoc (by clear hsnoc hhit; first | (simp_all [onA]; done) | (simp_all [onA]; intros; omega))⟩, by omega, ?_⟩; refine Fits.mk' rfl rfl rfl rfl ?_ ?_ ?_ ?_ ?_ <;> repeat' (first | exact trivial | refine And.intro ?_ ?_ | exact Sees.of_eq rfl | exact lt_b rfl | rfl | exact SeesL.rfl' _ | exact Sees.int (succI hkt hr)))
  · have hkn : k = r.atts.length := by simp at hb; omega
    subst hkn
    have := any_no (p := fun y : Att => onA c frame y && decide (y.slot < slot) && y.out == 1) fun j y hy => hinv j y (List.getElem?_eq_some_iff.1 hy).1 hy
    refine Wk ?_
    exact resP.mk rfl (Sees.bool (by unfold ackedR; rw [this]))

theorem c_count36 (r : RunL) (c : Cell) (frame : Int) (hr : r.atts.length ≤ 281474976710656) : PCall Tryz.prog L 148 [r.av, c.av, .int .i64 frame] (.int .i64 (countR r.atts c frame)) := by
  refine PCall.intro mixed [] (nt := 53) Tryz.func148 rfl rfl (by simp) ?_
  refine Wk ?_
  refine LoopK.run mixed [] (fun (k : Nat) => k ≤ r.atts.length) (fun k => [(2, .int .i64 frame), (3, .ptr 0 0), (4, .ptr 1 0), (7, .int .i64 ((r.atts.take k).countP (onA c frame) : Nat)), (8, .int .i64 k)]) (fun k => ⟨[.cells [encAtts r.atts, encDels r.dels] 41, .cells c.av.cells 51], [], 0, 0, fun _ => 0⟩) (fun k => r.atts.length - k) 0 (by simp) ?_ ?_
  · refine Fits.mk' rfl rfl rfl rfl ?_ ?_ ?_ ?_ ?_ <;> repeat' (first | exact trivial | refine And.intro ?_ ?_ | exact Sees.of_eq rfl | exact lt_b rfl | rfl | exact SeesL.rfl' _)
  rintro k hk
  refine Wk ?_
  refine BrK.mk (fun hb => ?_) (fun hb => ?_) <;> (try rw [hb])
  · have hkt : k < r.atts.length := by simpa using hb
    obtain ⟨a, hga⟩ := getLt hkt
    have hma := getMap (f := Att.av) hga
    have hhit := count_hit (p := onA c frame) hga
    have hmiss := count_miss (p := onA c frame) hga
    have hle := List.countP_le_length (p := onA c frame) (l := r.atts.take k)
    rw [List.length_take] at hle
    obtain ⟨N, hN⟩ : ∃ N, N = (r.atts.take k).countP (onA c frame) := ⟨_, rfl⟩
    rw [← hN] at hle hhit hmiss
    rw [← hN]
    have hwN : IntKind.i64.wrap ((N : Int) + 1) = ((N + 1 : Nat) : Int) := by rw [w64] <;> omega
    repeat ((conv => whnf); first | refine sJ ?_ | refine And.intro (by first | exact inbMap hkt | kernel_rfl) ?_ | rw [hma])
    try (conv => whnf)
    refine BrK.mk (fun b1 => ?_) (fun b1 => ?_) <;> (try rw [b1])
    · refine Wk ?_
      refine BrK.mk (fun b2 => ?_) (fun b2 => ?_) <;> (try rw [b2])
      · refine Wk ?_
        refine BrK.mk (fun b3 => ?_) (fun b3 => ?_) <;> (try rw [b3])
        · refine Wk ?_
          refine BrK.mk (fun b4 => ?_) (fun b4 => ?_) <;> (try rw [b4])
          · have h9 := hhit (by simp only [onA, b1, b2, b3, b4, Bool.and_self])
            refine Wk ?_
            refine ⟨k + 1, by omega, by omega, ?_⟩
            rw [h9]
            refine Fits.mk' rfl rfl rfl rfl ?_ ?_ ?_ ?_ ?_ <;> repeat' (first | exact trivial | refine And.intro ?_ ?_ | exact Sees.of_eq rfl | exact lt_b rfl | rfl | exact SeesL.rfl' _ | exact Sees.int (succI hkt hr) | exact Sees.int hwN)
          · have h9 := hmiss (by simp only [onA, b4, Bool.false_and, Bool.and_false])
            refine Wk ?_
            refine ⟨k + 1, by omega, by omega, ?_⟩
            rw [h9]
            refine Fits.mk' rfl rfl rfl rfl ?_ ?_ ?_ ?_ ?_ <;> repeat' (first | exact trivial | refine And.intro ?_ ?_ | exact Sees.of_eq rfl | exact lt_b rfl | rfl | exact SeesL.rfl' _ | exact Sees.int (succI hkt hr))
        · have h9 := hmiss (by simp only [onA, b3, Bool.false_and, Bool.and_false])
          refine Wk ?_
          refine ⟨k + 1, by omega, by omega, ?_⟩
          rw [h9]
          refine Fits.mk' rfl rfl rfl rfl ?_ ?_ ?_ ?_ ?_ <;> repeat' (first | exact trivial | refine And.intro ?_ ?_ | exact Sees.of_eq rfl | exact lt_b rfl | rfl | exact SeesL.rfl' _ | exact Sees.int (succI hkt hr))
      · have h9 := hmiss (by simp only [onA, b2, Bool.false_and, Bool.and_false])
        refine Wk ?_
        refine ⟨k + 1, by omega, by omega, ?_⟩
        rw [h9]
        refine Fits.mk' rfl rfl rfl rfl ?_ ?_ ?_ ?_ ?_ <;> repeat' (first | exact trivial | refine And.intro ?_ ?_ | exact Sees.of_eq rfl | exact lt_b rfl | rfl | exact SeesL.rfl' _ | exact Sees.int (succI hkt hr))
    · have h9 := hmiss (by simp only [onA, b1, Bool.false_and, Bool.and_false])
      refine Wk ?_
      refine ⟨k + 1, by omega, by omega, ?_⟩
      rw [h9]
      refine Fits.mk' rfl rfl rfl rfl ?_ ?_ ?_ ?_ ?_ <;> repeat' (first | exact trivial | refine And.intro ?_ ?_ | exact Sees.of_eq rfl | exact lt_b rfl | rfl | exact SeesL.rfl' _ | exact Sees.int (succI hkt hr))
  · have hkn : k = r.atts.length := by simp at hb; omega
    subst hkn
    rw [List.take_length]
    refine Wk ?_
    exact resP.mk rfl (Sees.int rfl)

theorem c_Outcome36 (x : List Rule) (flow frame src dst : Int) (n : Nat) (hs : (scriptM x).2 = 0) (hx : ∀ r ∈ x, r.outs.length ≤ 281474976710656) (hxl : x.length ≤ 281474976710656) : PCall Tryz.prog L 147 [encScript x, .int .i64 flow, .int .i64 frame, .int .i64 src, .int .i64 dst, .int .i64 n] (.int .i64 (outcomeM x flow frame src dst n)) := by
  refine PCall.intro mixed [] (nt := 72) Tryz.func147 rfl rfl (by simp) ?_
  refine Wk ?_
  refine LoopK.run mixed [] (fun (k : Nat) => k ≤ x.length ∧ ∀ (j : Nat) y, j < k → x[j]? = some y → takesR flow frame src dst n y = false) (fun k => [(0, encScript x), (1, .int .i64 flow), (2, .int .i64 frame), (3, .int .i64 src), (4, .int .i64 dst), (5, .int .i64 n), (13, .int .i64 k)]) (fun k => St.none) (fun k => x.length - k) 0 ⟨by simp, by simp⟩ ?_ ?_
  · refine Fits.mk' rfl rfl rfl rfl ?_ ?_ ?_ ?_ ?_ <;> repeat' (first | exact trivial | refine And.intro ?_ ?_ | exact Sees.of_eq rfl | exact lt_b rfl | rfl )
  rintro k ⟨hk, hinv⟩
  refine Wk ?_
  refine BrK.mk (fun hb => ?_) (fun hb => ?_) <;> (try rw [hb])
  · have hkt : k < x.length := by simpa using hb
    obtain ⟨r, hgr⟩ := getLt hkt
    have hmr := getMap (f := Rule.av) hgr
    have hsnoc := inv_snoc (p := takesR flow frame src dst n) hinv hgr
    have hsome := fun h o => takes_some hs (flow := flow) (frame := frame) (src := src) (dst := dst) (k := n) hgr h (o := o)
    clear hinv
    repeat ((conv => whnf); first | refine sJ ?_ | refine And.intro (by first | exact inbMap hkt | kernel_rfl) ?_ | rw [hmr])
    try (conv => whnf)
    refine BrK.mk (fun b1 => ?_) (fun b1 => ?_) <;> (try rw [b1])
    · repeat ((conv => whnf); first | refine sJ ?_ | refine And.intro (by first | exact inbMap hkt | kernel_rfl) ?_ | rw [hmr])
      try (conv => whnf)
      refine BrK.mk (fun b2 => ?_) (fun b2 => ?_) <;> (try rw [b2])
      · repeat ((conv => whnf); first | refine sJ ?_ | refine And.intro (by first | exact inbMap hkt | kernel_rfl) ?_ | rw [hmr])
        try (conv => whnf)
        refine BrK.mk (fun b3 => ?_) (fun b3 => ?_) <;> (try rw [b3])
        · repeat ((conv => whnf); first | refine sJ ?_ | refine And.intro (by first | exact inbMap hkt | kernel_rfl) ?_ | rw [hmr])
          try (conv => whnf)
          refine BrK.mk (fun b4 => ?_) (fun b4 => ?_) <;> (try rw [b4])
          · repeat ((conv => whnf); first | refine sJ ?_ | refine And.intro (by first | exact inbMap hkt | kernel_rfl) ?_ | rw [hmr])
            try (conv => whnf)
            have hfor : isFor flow frame src dst r = true := by simp only [isFor, b1, b2, b3, b4, Bool.and_self]
            refine BrK.mk (fun b5 => ?_) (fun b5 => ?_) <;> (try rw [b5])
            · have hlt : n < r.outs.length := by simpa using b5
              obtain ⟨o, hgo⟩ := getLt hlt
              have hmo := getMap (f := encI) hgo
              have hres := hsome (by rw [takesR, hfor]; simpa using hlt) o hgo
              repeat ((conv => whnf); first | refine sJ ?_ | refine And.intro (by first | exact inbMap hkt | exact inbMap hlt | kernel_rfl) ?_ | rw [hmr] | rw [hmo])
              try (conv => whnf)
              exact resP.mk rfl (Sees.int hres.symm)
            · have h9 := hsnoc (by rw [takesR, hfor]; simp at b5; simp; omega)
              repeat ((conv => whnf); first | refine sJ ?_ | refine And.intro (by first | exact inbMap hkt | kernel_rfl) ?_ | rw [hmr])
              try (conv => whnf)
              refine ⟨k + 1, ⟨by omega, h9⟩, by omega, ?_⟩
              refine Fits.mk' rfl rfl rfl rfl ?_ ?_ ?_ ?_ ?_ <;> repeat' (first | exact trivial | refine And.intro ?_ ?_ | exact Sees.of_eq rfl | exact lt_b rfl | rfl | exact Sees.int (succI hkt hxl))
          · have h9 := hsnoc (by simp only [takesR, isFor, b4, Bool.false_and, Bool.and_false])
            repeat ((conv => whnf); first | refine sJ ?_ | refine And.intro (by first | exact inbMap hkt | kernel_rfl) ?_ | rw [hmr])
            try (conv => whnf)
            refine ⟨k + 1, ⟨by omega, h9⟩, by omega, ?_⟩
            refine Fits.mk' rfl rfl rfl rfl ?_ ?_ ?_ ?_ ?_ <;> repeat' (first | exact trivial | refine And.intro ?_ ?_ | exact Sees.of_eq rfl | exact lt_b rfl | rfl | exact Sees.int (succI hkt hxl))
        · have h9 := hsnoc (by simp only [takesR, isFor, b3, Bool.false_and, Bool.and_false])
          repeat ((conv => whnf); first | refine sJ ?_ | refine And.intro (by first | exact inbMap hkt | kernel_rfl) ?_ | rw [hmr])
          try (conv => whnf)
          refine ⟨k + 1, ⟨by omega, h9⟩, by omega, ?_⟩
          refine Fits.mk' rfl rfl rfl rfl ?_ ?_ ?_ ?_ ?_ <;> repeat' (first | exact trivial | refine And.intro ?_ ?_ | exact Sees.of_eq rfl | exact lt_b rfl | rfl | exact Sees.int (succI hkt hxl))
      · have h9 := hsnoc (by simp only [takesR, isFor, b2, Bool.false_and, Bool.and_false])
        repeat ((conv => whnf); first | refine sJ ?_ | refine And.intro (by first | exact inbMap hkt | kernel_rfl) ?_ | rw [hmr])
        try (conv => whnf)
        refine ⟨k + 1, ⟨by omega, h9⟩, by omega, ?_⟩
        refine Fits.mk' rfl rfl rfl rfl ?_ ?_ ?_ ?_ ?_ <;> repeat' (first | exact trivial | refine And.intro ?_ ?_ | exact Sees.of_eq rfl | exact lt_b rfl | rfl | exact Sees.int (succI hkt hxl))
    · have h9 := hsnoc (by simp only [takesR, isFor, b1, Bool.false_and, Bool.and_false])
      repeat ((conv => whnf); first | refine sJ ?_ | refine And.intro (by first | exact inbMap hkt | kernel_rfl) ?_ | rw [hmr])
      try (conv => whnf)
      refine ⟨k + 1, ⟨by omega, h9⟩, by omega, ?_⟩
      refine Fits.mk' rfl rfl rfl rfl ?_ ?_ ?_ ?_ ?_ <;> repeat' (first | exact trivial | refine And.intro ?_ ?_ | exact Sees.of_eq rfl | exact lt_b rfl | rfl | exact Sees.int (succI hkt hxl))
  · have hkn : k = x.length := by simp at hb; omega
    subst hkn
    have hno := takes_none (x := x) (flow := flow) (frame := frame) (src := src) (dst := dst) (k := n) fun j r hr => hinv j r (List.getElem?_eq_some_iff.1 hr).1 hr
    refine Wk ?_
    exact resP.mk rfl (Sees.int hno.symm)
end
end HM
