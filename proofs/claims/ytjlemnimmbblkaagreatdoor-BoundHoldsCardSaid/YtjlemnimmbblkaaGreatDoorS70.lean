/- Frames of flows: the program. -/
import Derived.Test.YtjlemnimmbblkaaGreatDoorS30
import Derived.Test.YtjlemnimmbblkaaGreatDoorDa

set_option maxRecDepth 100000
namespace HM
open Go Go.RowKit Go.Proofs
section
variable (L : World → Prop)
theorem c_alone (f : Flow) : PCall Tryz.prog L 29 [f.av] (.int .i64 (flowE 32 f)) := by
  refine PCall.intro mixed [] (nt := 5) Tryz.func29 rfl rfl (by simp) ?_
  refine Wk ?_
  first | refine CallK.data rfl (c_fcheck L 32 f) rfl ?_ | refine CallP.data rfl (c_fcheck L 32 f) rfl ?_
  refine Wk ?_
  exact resP.mk rfl (Sees.int rfl)

theorem c_Current (f : Flow) (slot : Int) (hs : -9223372036854775808 ≤ slot) : PCall Tryz.prog L 61 [f.av, .int .i64 slot] (.tup [.int .i64 (curM f slot).1, .bool (curM f slot).2]) := by
  refine PCall.intro mixed [] (nt := 26) Tryz.func61 rfl rfl (by simp) ?_
  refine Wk ?_
  first | refine CallK.data rfl (c_alone L f) rfl ?_ | refine CallP.data rfl (c_alone L f) rfl ?_
  refine Wk ?_
  refine BrK.mk (fun h1 => ?_) (fun h1 => ?_) <;> (try rw [h1])
  · refine Wk ?_
    exact resP.mk rfl (Sees.of_eq (by rw [curM, if_pos (.inl (by simpa using h1))]))
  have h1' : flowE 32 f = 0 := by simpa using h1
  obtain ⟨q1, q2, q3, q4, q5, q6, q7, q8, q9, q10, q11, q12, q13⟩ := flowE_ok h1'
  refine Wk ?_
  refine BrK.mk (fun h2 => ?_) (fun h2 => ?_) <;> (try rw [h2])
  · refine Wk ?_
    exact resP.mk rfl (Sees.of_eq (by rw [curM, if_pos (.inr (.inl (by simpa using h2)))]))
  refine Wk ?_
  refine BrK.mk (fun h3 => ?_) (fun h3 => ?_) <;> (try rw [h3])
  · refine Wk ?_
    exact resP.mk rfl (Sees.of_eq (by rw [curM, if_pos (.inr (.inr (by simpa using h3)))]))
  have h2' : f.phase ≤ slot := by simpa using h2
  have h3' : slot ≤ 1099511627776 := by simpa using h3
  have hw : IntKind.i64.wrap (slot - f.phase) = slot - f.phase := w64 (by omega) (by omega)
  have hq : (slot - f.phase).tdiv f.period = (slot - f.phase) / f.period := Int.tdiv_eq_ediv_of_nonneg (by omega)
  have hb : (slot - f.phase) / f.period ≤ slot - f.phase := Int.ediv_le_self _ (by omega)
  have hb0 : 0 ≤ (slot - f.phase) / f.period := Int.ediv_nonneg (by omega) (by omega)
  have hw2 : IntKind.i64.wrap ((slot - f.phase).tdiv f.period) = (slot - f.phase) / f.period := by rw [hq, w64 (by omega) (by omega)]
  repeat ((conv => whnf); first | refine sJ ?_ | refine And.intro (by first | exact (show f.period ≠ 0 by omega) | kernel_rfl) ?_ | rw [hw] | rw [hw2])
  try (conv => whnf)
  exact resP.mk rfl (Sees.of_eq (by rw [curM, if_neg (by omega)]))





theorem c_IndexFuncFlow (l : List Flow) (p : Flow → Bool) (g : Nat) (caps : List AV) (hl : l.length ≤ 281474976710656) (hcb : callable Tryz.prog g = true) (hc : fzs caps = some caps) (hp : ∀ x ∈ l, PCall Tryz.prog L g (Flow.av x :: caps) (.bool (p x))) :
    PCall Tryz.prog L 100 [.sl false (l.map Flow.av), .fn g caps] (.int .i64 (idxF p l)) := by
  refine PCall.intro mixed [] (nt := 19) Tryz.func100 rfl rfl (by simp) ?_
  refine Wk ?_
  refine LoopK.run mixed [] (fun (k : Nat) => k ≤ l.length ∧ ∀ j x, j < k → l[j]? = some x → p x = false) (fun k => [(0, .sl false (l.map Flow.av)), (1, .fn g caps), (7, .int .i64 l.length), (8, .int .i64 k)]) (fun k => St.none) (fun k => l.length - k) 0 ⟨by simp, by simp⟩ ?_ ?_
  · refine Fits.mk' rfl rfl rfl rfl ?_ ?_ ?_ ?_ ?_ <;> repeat' (first | exact trivial | refine And.intro ?_ ?_ | exact Sees.of_eq rfl | exact lt_b rfl | rfl | exact Sees.int (by simp) | exact fzs_okk hc)
  rintro k ⟨hk, hinv⟩
  refine Wk ?_
  refine BrK.mk (fun hb => ?_) (fun hb => ?_) <;> (try rw [hb])
  · have hlt : k < l.length := by simpa using hb
    obtain ⟨x, hgx⟩ := getLt hlt
    have hmx := getMap (f := Flow.av) hgx
    repeat ((conv => whnf); first | refine sJ ?_ | refine And.intro (by first | exact inbMap hlt | kernel_rfl) ?_ | rw [hmx])
    try (conv => whnf)
    refine CallK.data hcb (hp x (List.mem_of_getElem? hgx)) (by show (match fz _, fzs caps with | some a, some b => some (a :: b) | _, _ => none) = _; rw [hc]; rfl) ?_
    refine Wk ?_
    refine BrK.mk (fun h2 => ?_) (fun h2 => ?_) <;> (try rw [h2])
    · refine Wk ?_
      exact resP.mk rfl (Sees.int (idxF_some hlt hinv hgx h2).symm)
    · refine Wk ?_
      refine ⟨k + 1, ⟨by omega, fun j y hj hy => ?_⟩, by omega, ?_⟩
      · rcases Nat.lt_succ_iff_lt_or_eq.1 hj with h | rfl
        · exact hinv j y h hy
        · rw [hgx] at hy; injection hy with hy; subst hy; exact h2
      · refine Fits.mk' rfl rfl rfl rfl ?_ ?_ ?_ ?_ ?_ <;> repeat' (first | exact trivial | refine And.intro ?_ ?_ | exact Sees.of_eq rfl | exact lt_b rfl | rfl | exact Sees.int (succI hlt hl) | exact fzs_okk hc)
  · have hk' : k = l.length := by simp at hb; omega
    subst hk'
    refine Wk ?_
    exact resP.mk rfl (Sees.int (idxF_none hinv).symm)
theorem c_find1 (f : Flow) (id : Int) : PCall Tryz.prog L 101 [f.av, .cptr (.agg [.int .i64 id]) 0] (.bool (f.id == id)) := by
  refine PCall.intro mixed [] (nt := 8) Tryz.func101 rfl rfl (by simp) ?_
  refine Wk ?_
  exact resP.mk rfl (Sees.bool rfl)
theorem c_Find (l : List Flow) (id : Int) (hl : l.length ≤ 281474976710656) : PCall Tryz.prog L 63 [encFlows l, .int .i64 id] (.int .i64 (findF l id)) := by
  refine PCall.intro mixed [] (nt := 8) Tryz.func63 rfl rfl (by simp) ?_
  refine Wk ?_
  first | refine CallK.box rfl (c_IndexFuncFlow L l (fun f => f.id == id) 101 [.cptr (.agg [.int .i64 id]) 0] hl rfl rfl (fun f _ => c_find1 L f id)) rfl rfl ?_ | refine CallP.box rfl (c_IndexFuncFlow L l (fun f => f.id == id) 101 [.cptr (.agg [.int .i64 id]) 0] hl rfl rfl (fun f _ => c_find1 L f id)) rfl rfl ?_
  refine Wk ?_
  exact resP.mk rfl (Sees.int rfl)
end
end HM
