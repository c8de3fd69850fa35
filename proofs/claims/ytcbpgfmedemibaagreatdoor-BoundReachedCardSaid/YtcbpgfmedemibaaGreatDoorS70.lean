/- Frames of flows: the program. -/
import Derived.Test.YtcbpgfmedemibaaGreatDoorS30
import Derived.Test.YtcbpgfmedemibaaGreatDoorDa
import Derived.Test.YtcbpgfmedemibaaGreatDoorS1
import Derived.Test.YtcbpgfmedemibaaGreatDoorFh
import Derived.Test.YtcbpgfmedemibaaGreatDoorS6
import Derived.Test.YtcbpgfmedemibaaGreatDoorS68
/- Frames of flows: the program. -/
set_option maxRecDepth 100000
namespace HM
open Go Go.RowKit Go.Proofs
section
variable (L : World → Prop)
theorem c_alone (f : Flow) : PCall Tryz.prog L 234 [f.av] (.int .i64 (flowE 32 f)) := by
  refine PCall.intro mixed [] (nt := 5) Tryz.func234 rfl rfl (by simp) ?_
  refine Wk ?_
  first | refine CallK.data rfl (c_fcheck L 32 f) rfl ?_ | refine CallP.data rfl (c_fcheck L 32 f) rfl ?_
  refine Wk ?_
  exact resP.mk rfl (Sees.int rfl)

theorem c_Current (f : Flow) (slot : Int) (hs : -9223372036854775808 ≤ slot) : PCall Tryz.prog L 199 [f.av, .int .i64 slot] (.tup [.int .i64 (curM f slot).1, .bool (curM f slot).2]) := by
  refine PCall.intro mixed [] (nt := 26) Tryz.func199 rfl rfl (by simp) ?_
  refine Wk ?_
  first | refine CallK.data rfl (c_alone L f) rfl ?_ | refine CallP.data rfl (c_alone L f) rfl ?_
  refine Wk ?_
  refine BrK.mk (fun h1 => ?_) (fun h1 => ?_) <;> (try rw [h1])
  · refine Wk ?_
    exact resP.mk rfl (Sees.of_eq (by rw [curM, if_pos (.inl (by simpa using h1))]))
  have h1' : flowE 32 f = 0 := by simpa using h1
  obtain ⟨q1, q2, q3, q4, q5, q6, q7, q8, q9, q10, q11, q12, q13⟩ := flowE_ok h1'
  refine Wk ?_
  refine BrK.mk (fun h2 => ?_) (fun h2 => ?_) <;> (try rw [h2])
  · refine Wk ?_
    exact resP.mk rfl (Sees.of_eq (by rw [curM, if_pos (.inr (.inl (by simpa using h2)))]))
  refine Wk ?_
  refine BrK.mk (fun h3 => ?_) (fun h3 => ?_) <;> (try rw [h3])
  · refine Wk ?_
    exact resP.mk rfl (Sees.of_eq (by rw [curM, if_pos (.inr (.inr (by simpa using h3)))]))
  have h2' : f.phase ≤ slot := by simpa using h2
  have h3' : slot ≤ 1099511627776 := by simpa using h3
  have hw : IntKind.i64.wrap (slot - f.phase) = slot - f.phase := w64 (by omega) (by omega)
  have hq : (slot - f.phase).tdiv f.period = (slot - f.phase) / f.period := Int.tdiv_eq_ediv_of_nonneg (by omega)
  have hb : (slot - f.phase) / f.period ≤ slot - f.phase := Int.ediv_le_self _ (by omega)
  have hb0 : 0 ≤ (slot - f.phase) / f.period := Int.ediv_nonneg (by omega) (by omega)
  have hw2 : IntKind.i64.wrap ((slot - f.phase).tdiv f.period) = (slot - f.phase) / f.period := by rw [hq, w64 (by omega) (by omega)]
  repeat ((conv => whnf); first | refine sJ ?_ | refine And.intro (by first | exact (show f.period ≠ 0 by omega) | kernel_rfl) ?_ | rw [hw] | rw [hw2])
  try (conv => whnf)
  exact resP.mk rfl (Sees.of_eq (by rw [curM, if_neg (by omega)]))

theorem c_IndexFuncFlow (l : List Flow) (p : Flow → Bool) (g : Nat) (caps : List AV) (hl : l.length ≤ 281474976710656) (hcb : callable Tryz.prog g = true) (hc : fzs caps = some caps) (hp : ∀ x ∈ l, PCall Tryz.prog L g (Flow.av x :: caps) (.bool (p x))) :
    PCall Tryz.prog L 132 [.sl false (l.map Flow.av), .fn g caps] (.int .i64 (idxF p l)) := by
  refine PCall.intro mixed [] (nt := 19) Tryz.func132 rfl rfl (by simp) ?_
  refine Wk ?_
  refine LoopK.run mixed [] (fun (k : Nat) => k ≤ l.length ∧ ∀ j x, j < k → l[j]? = some x → p x = false) (fun k => [(0, .sl false (l.map Flow.av)), (1, .fn g caps), (7, .int .i64 l.length), (8, .int .i64 k)]) (fun k => St.none) (fun k => l.length - k) 0 ⟨by simp, by simp⟩ ?_ ?_
  · refine Fits.mk' rfl rfl rfl rfl ?_ ?_ ?_ ?_ ?_ <;> repeat' (first | exact trivial | refine And.intro ?_ ?_ | exact Sees.of_eq rfl | exact lt_b rfl | rfl | exact Sees.int (by simp) | exact fzs_okk hc)
  rintro k ⟨hk, hinv⟩
  refine Wk ?_
  refine BrK.mk (fun hb => ?_) (fun hb => ?_) <;> (try rw [hb])
  · have hlt : k < l.length := by simpa using hb
    obtain ⟨x, hgx⟩ := getLt hlt
    have hmx := getMap (f := Flow.av) hgx
    repeat ((conv => whnf); first | refine sJ ?_ | refine And.intro (by first | exact inbMap hlt | kernel_rfl) ?_ | rw [hmx])
    try (conv => whnf)
    refine CallK.data hcb (hp x (List.mem_of_getElem? hgx)) (by show (match fz _, fzs caps with | some a, some b => some (a :: b) | _, _ => none) = _; rw [hc]; rfl) ?_
    refine Wk ?_
    refine BrK.mk (fun h2 => ?_) (fun h2 => ?_) <;> (try rw [h2])
    · refine Wk ?_
      exact resP.mk rfl (Sees.int (idxF_some hlt hinv hgx h2).symm)
    · refine Wk ?_
      refine ⟨k + 1, ⟨by omega, fun j y hj hy => ?_⟩, by omega, ?_⟩
      · rcases Nat.lt_succ_iff_lt_or_eq.1 hj with h | rfl
        · exact hinv j y h hy
        · rw [hgx] at hy; injection hy with hy; subst hy; exact h2
      · refine Fits.mk' rfl rfl rfl rfl ?_ ?_ ?_ ?_ ?_ <;> repeat' (first | exact trivial | refine And.intro ?_ ?_ | exact Sees.of_eq rfl | exact lt_b rfl | rfl | exact Sees.int (succI hlt hl) | exact fzs_okk hc)
  · have hk' : k = l.length := by simp at hb; omega
    subst hk'
    refine Wk ?_
    exact resP.mk rfl (Sees.int (idxF_none hinv).symm)
theorem c_find1 (f : Flow) (id : Int) : PCall Tryz.prog L 189 [f.av, .cptr (.agg [.int .i64 id]) 0] (.bool (f.id == id)) := by
  refine PCall.intro mixed [] (nt := 8) Tryz.func189 rfl rfl (by simp) ?_
  refine Wk ?_
  exact resP.mk rfl (Sees.bool rfl)
theorem c_Find (l : List Flow) (id : Int) (hl : l.length ≤ 281474976710656) : PCall Tryz.prog L 134 [encFlows l, .int .i64 id] (.int .i64 (findF l id)) := by
  refine PCall.intro mixed [] (nt := 8) Tryz.func134 rfl rfl (by simp) ?_
  refine Wk ?_
  first | refine CallK.box rfl (c_IndexFuncFlow L l (fun f => f.id == id) 189 [.cptr (.agg [.int .i64 id]) 0] hl rfl rfl (fun f _ => c_find1 L f id)) rfl rfl ?_ | refine CallP.box rfl (c_IndexFuncFlow L l (fun f => f.id == id) 189 [.cptr (.agg [.int .i64 id]) 0] hl rfl rfl (fun f _ => c_find1 L f id)) rfl rfl ?_
  refine Wk ?_
  exact resP.mk rfl (Sees.int rfl)
end
end HM

/- The cells of a slot. -/
set_option maxRecDepth 100000
namespace HM
open Go Go.RowKit Go.Proofs
section
variable (L : World → Prop)
theorem c_sin (s : Sched) (slot : Int) : PCall Tryz.prog L 135 [s.av, .int .i64 slot] (.fn 190 [.cptr s.av 0, .cptr (.agg [.int .i64 slot]) 0]) := by
  refine PCall.intro mixed [] (nt := 6) Tryz.func135 rfl rfl (by simp) ?_
  refine Wk ?_
  exact resP.mk rfl (Sees.of_eq rfl)

set_option maxHeartbeats 2000000 in
theorem c_At (s : Sched) (slot : Int) (hc : s.cells.length ≤ 281474976710656) (h63 : slot ≤ 9223372036854775807) : PCall Tryz.prog L 144 [s.av, .int .i64 slot] (encCells (atM s slot)) := by
  refine PCall.intro mixed [] (nt := 30) Tryz.func144 rfl rfl (by simp) ?_
  refine Wk ?_
  first | refine CallK.data rfl (c_form L s) rfl ?_ | refine CallP.data rfl (c_form L s) rfl ?_
  refine Wk ?_
  refine BrK.mk (fun h1 => ?_) (fun h1 => ?_) <;> (try rw [h1])
  · have h1' : formB s = false := by simpa using h1
    refine Wk ?_
    exact resP.mk rfl (Sees.of_eq (by rw [atM, if_pos (.inl h1')]; rfl))
  have h1' : formB s = true := by simpa using h1
  obtain ⟨hsz, hcl, hfm⟩ := form_all h1'
  have hsb := sized_bd hsz
  refine Wk ?_
  refine BrK.mk (fun h2 => ?_) (fun h2 => ?_) <;> (try rw [h2])
  · have h2' : slot < 0 := by simpa using h2
    refine Wk ?_
    exact resP.mk rfl (Sees.of_eq (by rw [atM, if_pos (.inr h2')]; rfl))
  have h2' : ¬ slot < 0 := by simpa using h2
  rw [show atM s slot = s.cells.filter fun c => c.slot == slot % s.len from by rw [atM, if_neg (by simp [h1', h2'])]]
  obtain ⟨m, hm⟩ : ∃ m, m = slot % s.len := ⟨_, rfl⟩
  have hmod : slot.tmod s.len = m := by rw [hm]; exact Int.tmod_eq_emod_of_nonneg (by omega)
  have hmb : 0 ≤ m ∧ m < s.len := ⟨hm ▸ Int.emod_nonneg _ (by omega), hm ▸ Int.emod_lt_of_pos _ (by omega)⟩
  rw [← hm]
  have hwm : IntKind.i64.wrap m = m := w64 (by omega) (by omega)
  repeat ((conv => whnf); first | refine sJ ?_ | refine And.intro (by first | exact (show s.len ≠ 0 by omega) | kernel_rfl) ?_ | rw [hmod] | rw [hwm])
  try (conv => whnf)
  first | refine CallK.data rfl (c_sin L s m) rfl ?_ | refine CallP.data rfl (c_sin L s m) rfl ?_
  refine Wk ?_
  refine RangeK.bornB 1 5 61 _ rfl ?_
  refine RangeK.weak (l := [(2, .ptr 0 0), (5, .ptr 1 0), (19, .fn 190 [.cptr s.av 0, .cptr (.agg [.int .i64 m]) 0])]) (S1 := ⟨[.cells [.int .i64 s.len, .int .i64 s.offs, encCells s.cells] 29, .cells [.own [] 0] 27], [(0, 5)], 0, 0, fun _ => 61⟩) ?_ ?_
  · refine Fits.mk' rfl rfl rfl rfl ?_ ?_ ?_ ?_ ?_ <;> repeat' (first | exact trivial | refine And.intro ?_ ?_ | exact Sees.of_eq rfl | exact lt_b rfl | rfl | exact SeesL.rfl' _)
  refine RangeK.named rfl rfl fun Lp hLp => ?_
  have hok : ∀ k m', 2 ≤ k → Ob.okk k m' (.loop Lp) := fun k m' hk => loop_okk (l := [(2, .ptr 0 0), (5, .ptr 1 0), (19, .fn 190 [.cptr s.av 0, .cptr (.agg [.int .i64 m]) 0])]) (by rw [hLp]) (by simp [okL, AV.okk, okks]; omega)
  refine ICall.intro mixed [] (nt := 25) Tryz.func190 rfl rfl (by simp) ?_
  refine Wk ?_
  refine LoopK.run mixed [] (fun (k : Nat) => k ≤ s.cells.length) (fun k => [(0, .yld 2), (1, .cptr s.av 0), (2, .cptr (.agg [.int .i64 m]) 0), (7, encCells s.cells), (8, .int .i64 s.cells.length), (9, .int .i64 k)]) (fun k => ⟨[.cells [.int .i64 s.len, .int .i64 s.offs, encCells s.cells] 29, .cells [.own (((s.cells.take k).filter fun c => c.slot == m).map Cell.av) 0] 27, .loop Lp], [(((s.cells.take k).filter fun c => c.slot == m).length, 5)], 3, 1, fun _ => 61⟩) (fun k => s.cells.length - k) 0 (by omega) ?_ ?_
  · refine Fits.mk' rfl rfl rfl rfl ?_ ?_ ?_ ?_ ?_ <;> repeat' (first | exact trivial | refine And.intro ?_ ?_ | exact Sees.of_eq rfl | exact lt_b rfl | rfl | exact hok _ _ (Nat.le_of_ble_eq_true rfl) | exact SeesL.rfl' _ | exact SeesO.rfl' _ | exact Sees.int (by simp))
  rintro k hk
  have hfl : ((s.cells.take k).filter fun c => c.slot == m).length ≤ 512 := Nat.le_trans (List.length_filter_le _ _) (by rw [List.length_take]; omega)
  refine Wk ?_
  refine BrK.mk (fun hb => ?_) (fun hb => ?_) <;> (try rw [hb])
  · have hlt : k < s.cells.length := by simpa using hb
    obtain ⟨c, hgc⟩ := getLt hlt
    have hmc := getMap (f := Cell.av) hgc
    have htk := take_succ hgc
    repeat ((conv => whnf); first | refine sJ ?_ | refine And.intro (by first | exact inbMap hlt | kernel_rfl) ?_ | rw [hmc])
    try (conv => whnf)
    refine BrK.mk (fun h3 => ?_) (fun h3 => ?_) <;> (try rw [h3])
    · refine Wk ?_
      refine CallK.round mixed [] hLp rfl rfl rfl ?_
      clear hLp
      repeat ((conv => whnf); first | refine sJ ?_ | refine And.intro (by first | exact inbMap hlt | exact Els.map (f := Cell.av) (fun _ => ⟨rfl, rfl⟩) | exact (show _ * 40 ≤ _ by simp only [List.length_map, List.length_append, List.length_cons, List.length_nil]; omega) | exact (by simp only [List.length_map, List.length_append, List.length_cons, List.length_nil, maxLen]; omega) | exact (show some (_, _) = some (_, _) by simp only [List.length_map]) | kernel_rfl) ?_ | rw [hmc])
      try (conv => whnf)
      have hsl : (c.slot == m) = true := h3
      have hfs : ((s.cells.take (k + 1)).filter fun c => c.slot == m) = ((s.cells.take k).filter fun c => c.slot == m) ++ [c] := by rw [htk, List.filter_append]; simp [hsl]
      refine ⟨k + 1, by omega, by omega, ?_⟩
      rw [hfs]
      refine Fits.mk' rfl rfl rfl rfl ?_ ?_ ?_ ?_ ?_ <;> repeat' (first | exact trivial | refine And.intro ?_ ?_ | exact Sees.of_eq rfl | exact lt_b rfl | rfl | exact hok _ _ (Nat.le_of_ble_eq_true rfl) | exact SeesO.rfl' _ | exact Sees.int (succI hlt (by omega)) | exact Sees.own (by simp; rfl) | (show (_, _) = (_, _); simp only [List.length_append, List.length_map, List.length_cons, List.length_nil]))
    · have hsl : (c.slot == m) = false := h3
      have hfs : ((s.cells.take (k + 1)).filter fun c => c.slot == m) = ((s.cells.take k).filter fun c => c.slot == m) := by rw [htk, List.filter_append]; simp [hsl]
      refine Wk ?_
      refine ⟨k + 1, by omega, by omega, ?_⟩
      rw [hfs]
      refine Fits.mk' rfl rfl rfl rfl ?_ ?_ ?_ ?_ ?_ <;> repeat' (first | exact trivial | refine And.intro ?_ ?_ | exact Sees.of_eq rfl | exact lt_b rfl | rfl | exact hok _ _ (Nat.le_of_ble_eq_true rfl) | exact SeesO.rfl' _ | exact SeesL.rfl' _ | exact Sees.int (succI hlt (by omega)))
  · have hk' : k = s.cells.length := by simp at hb; omega
    subst hk'
    refine Wk ?_
    rw [show Lp.st = .ready from by rw [hLp], show Lp.pend = none from by rw [hLp]]
    rw [List.take_length]
    refine Wk ?_
    exact resP.mk rfl (Sees.of_eq rfl)
end
end HM

/- What a run is made of; deliveries. -/
set_option maxRecDepth 100000
namespace HM
open Go Go.RowKit Go.Proofs
theorem c_ready (l : List Flow) (s : Sched) (x : List Rule) (slots : Int) (hl : l.length ≤ 281474976710656) (hx : ∀ r ∈ x, r.outs.length ≤ 281474976710656) (hxl : x.length ≤ 281474976710656) :
    PCall Tryz.prog LW 81 [encFlows l, s.av, encScript x, .int .i64 slots] (.int .i64 (readyM l s x slots)) := by
  refine PCall.intro mixed [] (nt := 42) Tryz.func81 rfl rfl (by simp) ?_
  refine Wk ?_
  first | refine CallK.data rfl (c_FCheck LW 32 l hl) rfl ?_ | refine CallP.data rfl (c_FCheck LW 32 l hl) rfl ?_
  refine Wk ?_
  refine BrK.mk (fun h1 => ?_) (fun h1 => ?_) <;> (try rw [h1])
  · refine Wk ?_
    exact resP.mk rfl (Sees.int (by rw [readyM, if_pos (.inl (by simpa using h1))]))
  have h1' : (flowsE 32 l).2 = 0 := by simpa using h1
  refine Wk ?_
  first | refine CallK.data rfl (c_Print s) rfl ?_ | refine CallP.data rfl (c_Print s) rfl ?_
  refine Wk ?_
  cases hf : formB s with
  | false =>
    refine Wk ?_
    exact resP.mk rfl (Sees.int (by rw [readyM, if_pos (.inr (.inl hf))]))
  | true =>
    refine Wk ?_
    first | refine CallK.data rfl (c_XCheck LW x hx hxl) rfl ?_ | refine CallP.data rfl (c_XCheck LW x hx hxl) rfl ?_
    refine Wk ?_
    refine BrK.mk (fun h2 => ?_) (fun h2 => ?_) <;> (try rw [h2])
    · refine Wk ?_
      exact resP.mk rfl (Sees.int (by rw [readyM, if_pos (.inr (.inr (by simpa using h2)))]))
    have h2' : (scriptM x).2 = 0 := by simpa using h2
    have hno : ¬ ((flowsE 32 l).2 ≠ 0 ∨ formB s = false ∨ (scriptM x).2 ≠ 0) := by simp [h1', hf, h2']
    refine Wk ?_
    refine BrK.mk (fun h3 => ?_) (fun h3 => ?_) <;> (try rw [h3])
    · refine Wk ?_
      exact resP.mk rfl (Sees.int (by rw [readyM, if_neg hno, if_pos (.inl (by simpa using h3))]))
    refine Wk ?_
    refine BrK.mk (fun h4 => ?_) (fun h4 => ?_) <;> (try rw [h4])
    · refine Wk ?_
      exact resP.mk rfl (Sees.int (by rw [readyM, if_neg hno, if_pos (.inr (by simpa using h4))]))
    · refine Wk ?_
      exact resP.mk rfl (Sees.int (by rw [readyM, if_neg hno, if_neg (by simp at h3 h4; omega)]))
section
variable (L : World → Prop)
theorem c_Delivered (r : RunL) (flow frame : Int) (hr : r.dels.length ≤ 281474976710656) : PCall Tryz.prog L 30 [r.av, .int .i64 flow, .int .i64 frame] (.tup [.int .i64 (delivM r flow frame).1, .bool (delivM r flow frame).2]) := by
  refine PCall.intro mixed [] (nt := 30) Tryz.func30 rfl rfl (by simp) ?_
  refine Wk ?_
  refine LoopK.run mixed [] (fun (k : Nat) => k ≤ r.dels.length ∧ ∀ j y, j < k → r.dels[j]? = some y → (y.flow == flow && y.frame == frame) = false) (fun k => [(1, .int .i64 flow), (2, .int .i64 frame), (11, encDels r.dels), (12, .int .i64 r.dels.length), (13, .int .i64 k)]) (fun k => St.none) (fun k => r.dels.length - k) 0 ⟨by simp, by simp⟩ ?_ ?_
  · refine Fits.mk' rfl rfl rfl rfl ?_ ?_ ?_ ?_ ?_ <;> repeat' (first | exact trivial | refine And.intro ?_ ?_ | exact Sees.of_eq rfl | exact lt_b rfl | rfl | exact Sees.int (by simp))
  rintro k ⟨hk, hinv⟩
  refine Wk ?_
  refine BrK.mk (fun hb => ?_) (fun hb => ?_) <;> (try rw [hb])
  · have hlt : k < r.dels.length := by simpa using hb
    obtain ⟨d, hgd⟩ := getLt hlt
    have hmd := getMap (f := Del.av) hgd
    have hnext : (d.flow == flow && d.frame == frame) = false → ∀ j y, j < k + 1 → r.dels[j]? = some y → (y.flow == flow && y.frame == frame) = false := fun h0 j y hj hy => by
      rcases Nat.lt_succ_iff_lt_or_eq.1 hj with h | rfl
      · exact hinv j y h hy
      · rw [hgd] at hy; injection hy with hy; subst hy; exact h0
    repeat ((conv => whnf); first | refine sJ ?_ | refine And.intro (by first | exact inbMap hlt | kernel_rfl) ?_ | rw [hmd])
    try (conv => whnf)
    refine BrK.mk (fun h1 => ?_) (fun h1 => ?_) <;> (try rw [h1])
    · refine Wk ?_
      refine BrK.mk (fun h2 => ?_) (fun h2 => ?_) <;> (try rw [h2])
      · have hd := find_hit (p := fun d : Del => d.flow == flow && d.frame == frame) hinv hgd (by simp only [h1, h2, Bool.and_self])
        refine Wk ?_
        exact resP.mk rfl (Sees.of_eq (by rw [delivM, hd]))
      · refine Wk ?_
        refine ⟨k + 1, ⟨by omega, hnext (by simp only [h1, h2, Bool.and_false])⟩, by omega, ?_⟩
        refine Fits.mk' rfl rfl rfl rfl ?_ ?_ ?_ ?_ ?_ <;> repeat' (first | exact trivial | refine And.intro ?_ ?_ | exact Sees.of_eq rfl | exact lt_b rfl | rfl | exact Sees.int (succI hlt hr))
    · refine Wk ?_
      refine ⟨k + 1, ⟨by omega, hnext (by simp only [h1, Bool.false_and])⟩, by omega, ?_⟩
      refine Fits.mk' rfl rfl rfl rfl ?_ ?_ ?_ ?_ ?_ <;> repeat' (first | exact trivial | refine And.intro ?_ ?_ | exact Sees.of_eq rfl | exact lt_b rfl | rfl | exact Sees.int (succI hlt hr))
  · have hk' : r.dels.length ≤ k := by simpa using hb
    have hd := find_miss (p := fun d : Del => d.flow == flow && d.frame == frame) fun j y hy => hinv j y (by have := (List.getElem?_eq_some_iff.1 hy).1; omega) hy
    refine Wk ?_
    exact resP.mk rfl (Sees.of_eq (by rw [delivM, hd]))
end
end HM
