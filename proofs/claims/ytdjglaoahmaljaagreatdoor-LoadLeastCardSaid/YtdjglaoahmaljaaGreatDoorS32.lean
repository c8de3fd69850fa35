/- Flows and routes: what Check returns. -/
import Derived.Test.YtdjglaoahmaljaaGreatDoorS31

set_option maxRecDepth 100000
namespace HM
open Go Go.RowKit Go.Proofs
section
variable (L : World → Prop)

theorem slHi {α : Type} (f : α → AV) (l : List α) (k : Nat) : ((l.map f).take (k : Int).toNat).drop 0 = (l.take k).map f := by simp
theorem slLo {α : Type} (f : α → AV) (l : List α) (k : Int) : ((l.map f).take (l.map f).length).drop k.toNat = (l.drop k.toNat).map f := by rw [List.take_of_length_le (by simp), List.map_drop]

theorem c_fnode (nodes a : Int) : PCall Tryz.prog L 146 [.int .i64 a, .cptr (.agg [.int .i64 nodes]) 0] (.bool (insB a nodes)) := by
  refine PCall.intro mixed [] (nt := 11) Tryz.func146 rfl rfl (by simp) ?_
  refine Wk ?_
  refine BrK.mk (fun h => ?_) (fun h => ?_) <;> (try rw [h])
  · refine Wk ?_
    exact resP.mk rfl (Sees.bool (by simp [insB]; simp at h; omega))
  · refine Wk ?_
    exact resP.mk rfl (Sees.bool (by simp [insB]; simp at h; omega))

theorem c_fcheck (nodes : Int) (f : Flow) : PCall Tryz.prog L 113 [.int .i64 nodes, f.av] (.int .i64 (flowE nodes f)) := by
  refine PCall.intro mixed [] (nt := 69) Tryz.func113 rfl rfl (by simp) ?_
  refine Wk ?_
  refine BrK.mk (fun h1 => ?_) (fun h1 => ?_) <;> (try rw [h1])
  · refine Wk ?_
    exact resP.mk rfl (Sees.int (by rw [flowE, if_pos (.inl (by simpa using h1))]))
  refine Wk ?_
  refine BrK.mk (fun h2 => ?_) (fun h2 => ?_) <;> (try rw [h2])
  · refine Wk ?_
    exact resP.mk rfl (Sees.int (by rw [flowE, if_pos (.inr (.inl (by simpa using h2)))]))
  refine Wk ?_
  first | refine CallK.box rfl (c_fnode L nodes f.src) rfl rfl ?_ | refine CallP.box rfl (c_fnode L nodes f.src) rfl rfl ?_
  refine Wk ?_
  refine BrK.mk (fun h3 => ?_) (fun h3 => ?_) <;> (try rw [h3])
  · refine Wk ?_
    exact resP.mk rfl (Sees.int (by rw [flowE, if_pos (.inr (.inr (.inl (by simpa using h3))))]))
  refine Wk ?_
  first | refine CallK.box rfl (c_fnode L nodes f.dst) rfl rfl ?_ | refine CallP.box rfl (c_fnode L nodes f.dst) rfl rfl ?_
  refine Wk ?_
  refine BrK.mk (fun h4 => ?_) (fun h4 => ?_) <;> (try rw [h4])
  · refine Wk ?_
    exact resP.mk rfl (Sees.int (by rw [flowE, if_pos (.inr (.inr (.inr (by simpa using h4))))]))
  have e1 : ¬ (f.id < 0 ∨ 255 < f.id ∨ insB f.src nodes = false ∨ insB f.dst nodes = false) := by simp at h1 h2 h3 h4; simp [h3, h4]; omega
  refine Wk ?_
  refine BrK.mk (fun g1 => ?_) (fun g1 => ?_) <;> (try rw [g1])
  · refine Wk ?_
    exact resP.mk rfl (Sees.int (by rw [flowE, if_neg e1, if_pos (by simp at g1; omega)]))
  refine Wk ?_
  refine BrK.mk (fun g2 => ?_) (fun g2 => ?_) <;> (try rw [g2])
  · refine Wk ?_
    exact resP.mk rfl (Sees.int (by rw [flowE, if_neg e1, if_pos (by simp at g2; omega)]))
  refine Wk ?_
  refine BrK.mk (fun g3 => ?_) (fun g3 => ?_) <;> (try rw [g3])
  · refine Wk ?_
    exact resP.mk rfl (Sees.int (by rw [flowE, if_neg e1, if_pos (by simp at g3; omega)]))
  refine Wk ?_
  refine BrK.mk (fun g4 => ?_) (fun g4 => ?_) <;> (try rw [g4])
  · refine Wk ?_
    exact resP.mk rfl (Sees.int (by rw [flowE, if_neg e1, if_pos (by simp at g4; omega)]))
  refine Wk ?_
  refine BrK.mk (fun g5 => ?_) (fun g5 => ?_) <;> (try rw [g5])
  · refine Wk ?_
    exact resP.mk rfl (Sees.int (by rw [flowE, if_neg e1, if_pos (by simp at g5; omega)]))
  refine Wk ?_
  refine BrK.mk (fun g6 => ?_) (fun g6 => ?_) <;> (try rw [g6])
  · refine Wk ?_
    exact resP.mk rfl (Sees.int (by rw [flowE, if_neg e1, if_pos (by simp at g6; omega)]))
  have e2 : ¬ (f.period < 1 ∨ 512 < f.period ∨ f.phase < 0 ∨ f.period ≤ f.phase ∨ f.dead < 1 ∨ f.period < f.dead) := by simp at g1 g2 g3 g4 g5 g6; omega
  refine Wk ?_
  refine BrK.mk (fun g7 => ?_) (fun g7 => ?_) <;> (try rw [g7])
  · refine Wk ?_
    exact resP.mk rfl (Sees.int (by rw [flowE, if_neg e1, if_neg e2, if_pos (by simpa using g7)]))
  refine Wk ?_
  exact resP.mk rfl (Sees.int (by rw [flowE, if_neg e1, if_neg e2, if_neg (by simpa using g7)]))

theorem c_FCheck (nodes : Int) (l : List Flow) (hl : l.length ≤ 281474976710656) : PCall Tryz.prog L 68 [.int .i64 nodes, encFlows l] (.tup [.int .i64 (flowsE nodes l).1, .int .i64 (flowsE nodes l).2]) := by
  refine PCall.intro mixed [] (nt := 47) Tryz.func68 rfl rfl (by simp) ?_
  refine Wk ?_
  refine BrK.mk (fun h1 => ?_) (fun h1 => ?_) <;> (try rw [h1])
  · refine Wk ?_
    exact resP.mk rfl (Sees.of_eq (by rw [flowsE, if_pos (.inl (by simpa using h1))]))
  refine Wk ?_
  refine BrK.mk (fun h2 => ?_) (fun h2 => ?_) <;> (try rw [h2])
  · refine Wk ?_
    exact resP.mk rfl (Sees.of_eq (by rw [flowsE, if_pos (.inr (by simpa using h2))]))
  have e1 : ¬ (nodes < 2 ∨ 32 < nodes) := by simp at h1 h2; omega
  refine Wk ?_
  refine BrK.mk (fun h3 => ?_) (fun h3 => ?_) <;> (try rw [h3])
  · refine Wk ?_
    exact resP.mk rfl (Sees.of_eq (by rw [flowsE, if_neg e1, if_pos (by simp at h3; omega)]))
  have e2 : ¬ (16 < l.length) := by simp at h3; omega
  rw [show flowsE nodes l = firstAt (flowAt nodes l) l.length by rw [flowsE, if_neg e1, if_neg e2]]
  refine Wk ?_
  refine LoopK.run mixed [] (fun (k : Nat) => k ≤ l.length ∧ ∀ j, j < k → flowAt nodes l j = 0) (fun k => [(0, .int .i64 nodes), (1, encFlows l), (18, encFlows l), (19, .int .i64 l.length), (20, .int .i64 k)]) (fun k => St.none) (fun k => l.length - k) 0 ⟨by simp, by simp⟩ ?_ ?_
  · refine Fits.mk' rfl rfl rfl rfl ?_ ?_ ?_ ?_ ?_ <;> repeat' (first | exact trivial | refine And.intro ?_ ?_ | exact Sees.of_eq rfl | exact lt_b rfl | rfl | exact Sees.int (by simp))
  rintro k ⟨hk, hinv⟩
  refine Wk ?_
  refine BrK.mk (fun hb => ?_) (fun hb => ?_) <;> (try rw [hb])
  · have hlt : k < l.length := by simpa using hb
    obtain ⟨f, hgf⟩ := getLt hlt
    have hmf := getMap (f := Flow.av) hgf
    have hE : flowAt nodes l k = if flowE nodes f ≠ 0 then flowE nodes f else if flowO l k f = false then 5 else 0 := by unfold flowAt; rw [hgf]
    have next : flowAt nodes l k = 0 → ∀ j, j < k + 1 → flowAt nodes l j = 0 := fun h0 j hj => by
      rcases Nat.lt_succ_iff_lt_or_eq.1 hj with h | rfl
      · exact hinv j h
      · exact h0
    repeat ((conv => whnf); first | refine sJ ?_ | refine And.intro (by first | exact inbMap hlt | kernel_rfl) ?_ | rw [hmf])
    try (conv => whnf)
    first | refine CallK.data rfl (c_fcheck L nodes f) rfl ?_ | refine CallP.data rfl (c_fcheck L nodes f) rfl ?_
    refine Wk ?_
    refine BrK.mk (fun hc => ?_) (fun hc => ?_) <;> (try rw [hc])
    · refine Wk ?_
      have hc' : flowE nodes f ≠ 0 := by simpa using hc
      have hv : flowAt nodes l k = flowE nodes f := by rw [hE, if_pos hc']
      exact resP.mk rfl (Sees.of_eq (by rw [firstAt_hit hinv (by rw [hv]; exact hc') hlt, hv]))
    have hc' : ¬ flowE nodes f ≠ 0 := by simpa using hc
    rw [if_neg hc'] at hE
    refine Wk ?_
    refine BrK.mk (fun hp => ?_) (fun hp => ?_) <;> (try rw [hp])
    · have hpos : 0 < k := by simpa using hp
      obtain ⟨j, rfl⟩ : ∃ j, k = j + 1 := ⟨k - 1, by omega⟩
      obtain ⟨p, hgp⟩ := getLt (l := l) (k := j) (by omega)
      have hmp := getMap (f := Flow.av) hgp
      have hw : IntKind.i64.wrap (((j + 1 : Nat) : Int) - 1) = (j : Int) := by rw [w64] <;> omega
      have hO : flowO l (j + 1) f = decide (p.id < f.id) := by simp only [flowO, hgp]
      rw [hO] at hE
      repeat ((conv => whnf); first | refine sJ ?_ | refine And.intro (by first | (rw [hw]; exact inbMap (by omega)) | kernel_rfl) ?_ | rw [hw] | rw [hmp])
      try (conv => whnf)
      refine BrK.mk (fun hq => ?_) (fun hq => ?_) <;> (try rw [hq])
      · refine Wk ?_
        have hv : flowAt nodes l (j + 1) = 5 := by rw [hE, if_pos (by simpa using hq)]
        exact resP.mk rfl (Sees.of_eq (by rw [firstAt_hit hinv (by rw [hv]; decide) hlt, hv]))
      · refine Wk ?_
        refine ⟨j + 2, ⟨by omega, next (by rw [hE, if_neg (by simp at hq; simp; omega)])⟩, by omega, ?_⟩
        refine Fits.mk' rfl rfl rfl rfl ?_ ?_ ?_ ?_ ?_ <;> repeat' (first | exact trivial | refine And.intro ?_ ?_ | exact Sees.of_eq rfl | exact lt_b rfl | rfl | exact Sees.int (succI hlt (by omega)))
    · have hz : k = 0 := by simp at hp; omega
      subst hz
      refine Wk ?_
      refine ⟨1, ⟨by omega, next (by rw [hE, if_neg (by simp [flowO])])⟩, by omega, ?_⟩
      refine Fits.mk' rfl rfl rfl rfl ?_ ?_ ?_ ?_ ?_ <;> repeat' (first | exact trivial | refine And.intro ?_ ?_ | exact Sees.of_eq rfl | exact lt_b rfl | rfl | exact Sees.int (succI hlt (by omega)))
  · have hk' : k = l.length := by simp at hb; omega
    subst hk'
    refine Wk ?_
    exact resP.mk rfl (Sees.of_eq (by rw [firstAt_zero hinv]))

theorem c_IndexFuncRoute (l : List Int) (p : Int → Bool) (g : Nat) (caps : List AV) (hl : l.length ≤ 281474976710656) (hcb : callable Tryz.prog g = true) (hc : fzs caps = some caps) (hp : ∀ x ∈ l, PCall Tryz.prog L g (encI x :: caps) (.bool (p x))) :
    PCall Tryz.prog L 202 [.sl false (l.map encI), .fn g caps] (.int .i64 (idxF p l)) := by
  refine PCall.intro mixed [] (nt := 19) Tryz.func202 rfl rfl (by simp) ?_
  refine Wk ?_
  refine LoopK.run mixed [] (fun (k : Nat) => k ≤ l.length ∧ ∀ j x, j < k → l[j]? = some x → p x = false) (fun k => [(0, .sl false (l.map encI)), (1, .fn g caps), (7, .int .i64 l.length), (8, .int .i64 k)]) (fun k => St.none) (fun k => l.length - k) 0 ⟨by simp, by simp⟩ ?_ ?_
  · refine Fits.mk' rfl rfl rfl rfl ?_ ?_ ?_ ?_ ?_ <;> repeat' (first | exact trivial | refine And.intro ?_ ?_ | exact Sees.of_eq rfl | exact lt_b rfl | rfl | exact Sees.int (by simp) | exact fzs_okk hc)
  rintro k ⟨hk, hinv⟩
  refine Wk ?_
  refine BrK.mk (fun hb => ?_) (fun hb => ?_) <;> (try rw [hb])
  · have hlt : k < l.length := by simpa using hb
    obtain ⟨x, hgx⟩ := getLt hlt
    have hmx := getMap (f := encI) hgx
    repeat ((conv => whnf); first | refine sJ ?_ | refine And.intro (by first | exact inbMap hlt | kernel_rfl) ?_ | rw [hmx])
    try (conv => whnf)
    refine CallK.data hcb (hp x (List.mem_of_getElem? hgx)) (by show (match fz _, fzs caps with | some a, some b => some (a :: b) | _, _ => none) = _; rw [hc]; rfl) ?_
    refine Wk ?_
    refine BrK.mk (fun h2 => ?_) (fun h2 => ?_) <;> (try rw [h2])
    · refine Wk ?_
      exact resP.mk rfl (Sees.int (idxF_some hlt hinv hgx h2).symm)
    · refine Wk ?_
      refine ⟨k + 1, ⟨by omega, fun j y hj hy => ?_⟩, by omega, ?_⟩
      · rcases Nat.lt_succ_iff_lt_or_eq.1 hj with h | rfl
        · exact hinv j y h hy
        · rw [hgx] at hy; injection hy with hy; subst hy; exact h2
      · refine Fits.mk' rfl rfl rfl rfl ?_ ?_ ?_ ?_ ?_ <;> repeat' (first | exact trivial | refine And.intro ?_ ?_ | exact Sees.of_eq rfl | exact lt_b rfl | rfl | exact Sees.int (succI hlt hl) | exact fzs_okk hc)
  · have hk' : k = l.length := by simp at hb; omega
    subst hk'
    refine Wk ?_
    exact resP.mk rfl (Sees.int (idxF_none hinv).symm)

theorem c_ContainsFuncRoute (l : List Int) (p : Int → Bool) (g : Nat) (caps : List AV) (hl : l.length ≤ 281474976710656) (hcb : callable Tryz.prog g = true) (hc : fzs caps = some caps) (hp : ∀ x ∈ l, PCall Tryz.prog L g (encI x :: caps) (.bool (p x))) :
    PCall Tryz.prog L 183 [.sl false (l.map encI), .fn g caps] (.bool (l.any p)) := by
  refine PCall.intro mixed [] (nt := 9) Tryz.func183 rfl rfl (by simp) ?_
  refine Wk ?_
  refine CallK.data rfl (c_IndexFuncRoute L l p g caps hl hcb hc hp) (by show (match fz _, fzs [AV.fn g caps] with | some a, some b => some (a :: b) | _, _ => none) = _; rw [show fzs [AV.fn g caps] = some [AV.fn g caps] from by simp [fz, fzs, hc]]; rfl) ?_
  refine Wk ?_
  exact resP.mk rfl (Sees.bool (idxF_any p l))
theorem c_IndexRoute (l : List Int) (x : Int) (hl : l.length ≤ 281474976710656) : PCall Tryz.prog L 203 [.sl false (l.map encI), encI x] (.int .i64 (idxF (fun y => decide (x = y)) l)) := by
  refine PCall.intro mixed [] (nt := 19) Tryz.func203 rfl rfl (by simp) ?_
  refine Wk ?_
  refine LoopK.run mixed [] (fun (k : Nat) => k ≤ l.length ∧ ∀ j y, j < k → l[j]? = some y → decide (x = y) = false) (fun k => [(0, .sl false (l.map encI)), (1, encI x), (7, .int .i64 l.length), (8, .int .i64 k)]) (fun k => St.none) (fun k => l.length - k) 0 ⟨by simp, by simp⟩ ?_ ?_
  · refine Fits.mk' rfl rfl rfl rfl ?_ ?_ ?_ ?_ ?_ <;> repeat' (first | exact trivial | refine And.intro ?_ ?_ | exact Sees.of_eq rfl | exact lt_b rfl | rfl | exact Sees.int (by simp))
  rintro k ⟨hk, hinv⟩
  refine Wk ?_
  refine BrK.mk (fun hb => ?_) (fun hb => ?_) <;> (try rw [hb])
  · have hlt : k < l.length := by simpa using hb
    obtain ⟨y, hgx⟩ := getLt hlt
    have hmx := getMap (f := encI) hgx
    repeat ((conv => whnf); first | refine sJ ?_ | refine And.intro (by first | exact inbMap hlt | kernel_rfl) ?_ | rw [hmx])
    try (conv => whnf)
    refine BrK.mk (fun h2 => ?_) (fun h2 => ?_) <;> (try rw [h2])
    · refine Wk ?_
      exact resP.mk rfl (Sees.int (idxF_some hlt hinv hgx (by simpa using h2)).symm)
    · refine Wk ?_
      refine ⟨k + 1, ⟨by omega, fun j z hj hz => ?_⟩, by omega, ?_⟩
      · rcases Nat.lt_succ_iff_lt_or_eq.1 hj with h | rfl
        · exact hinv j z h hz
        · rw [hgx] at hz; injection hz with hz; subst hz; simpa using h2
      · refine Fits.mk' rfl rfl rfl rfl ?_ ?_ ?_ ?_ ?_ <;> repeat' (first | exact trivial | refine And.intro ?_ ?_ | exact Sees.of_eq rfl | exact lt_b rfl | rfl | exact Sees.int (succI hlt hl))
  · have hk' : k = l.length := by simp at hb; omega
    subst hk'
    refine Wk ?_
    exact resP.mk rfl (Sees.int (idxF_none hinv).symm)

theorem c_ContainsRoute (l : List Int) (x : Int) (hl : l.length ≤ 281474976710656) : PCall Tryz.prog L 185 [.sl false (l.map encI), encI x] (.bool (decide (x ∈ l))) := by
  refine PCall.intro mixed [] (nt := 9) Tryz.func185 rfl rfl (by simp) ?_
  refine Wk ?_
  first | refine CallK.data rfl (c_IndexRoute L l x hl) rfl ?_ | refine CallP.data rfl (c_IndexRoute L l x hl) rfl ?_
  refine Wk ?_
  exact resP.mk rfl (Sees.bool (by rw [idxF_any, List.any_eq, ← decide_eq_decide.2 (show (∃ y, y ∈ l ∧ decide (x = y) = true) ↔ x ∈ l by simp)]))

theorem ends_lo {a b : Int} (h : (if b < a then b else a) < 0) : a < 0 ∨ b < 0 := by split at h <;> omega
theorem ends_lo' {a b : Int} (h : ¬ (if b < a then b else a) < 0) : 0 ≤ a ∧ 0 ≤ b := by split at h <;> omega
theorem ends_hi {a b n : Int} (h : n ≤ (if a < b then b else a)) : n ≤ a ∨ n ≤ b := by split at h <;> omega
theorem ends_hi' {a b n : Int} (h : ¬ n ≤ (if a < b then b else a)) : a < n ∧ b < n := by split at h <;> omega

theorem c_ends (n : Net) (hn : n.small) (a b : Int) : PCall Tryz.prog L 153 [n.av, .int .i64 a, .int .i64 b] (.int .i64 (endsE n a b)) := by
  refine PCall.intro mixed [] (nt := 27) Tryz.func153 rfl rfl (by simp) ?_
  refine Wk ?_
  first | refine CallK.data rfl (c_netCheck L n hn) rfl ?_ | refine CallP.data rfl (c_netCheck L n hn) rfl ?_
  refine Wk ?_
  refine BrK.mk (fun h1 => ?_) (fun h1 => ?_) <;> (try rw [h1])
  · refine Wk ?_
    exact resP.mk rfl (Sees.int (by rw [endsE, if_pos (by simpa using h1)]))
  have e1 : ¬ netE n ≠ 0 := by simpa using h1
  refine Wk ?_
  refine BrK.mk (fun h2 => ?_) (fun h2 => ?_) <;> (try rw [h2])
  · refine Wk ?_
    exact resP.mk rfl (Sees.int (by rw [endsE, if_neg e1, if_pos (by have h := ends_lo (of_decide_eq_true h2); simp [insB]; omega)]))
  refine Wk ?_
  refine BrK.mk (fun h3 => ?_) (fun h3 => ?_) <;> (try rw [h3])
  · refine Wk ?_
    exact resP.mk rfl (Sees.int (by rw [endsE, if_neg e1, if_pos (by have h := ends_hi (of_decide_eq_true h3); simp [insB]; omega)]))
  refine Wk ?_
  refine BrK.mk (fun h4 => ?_) (fun h4 => ?_) <;> (try rw [h4])
  · refine Wk ?_
    exact resP.mk rfl (Sees.int (by rw [endsE, if_neg e1, if_pos (.inr (.inr (by simpa using h4)))]))
  refine Wk ?_
  exact resP.mk rfl (Sees.int (by rw [endsE, if_neg e1, if_neg (by have h := ends_lo' (of_decide_eq_false h2); have h' := ends_hi' (of_decide_eq_false h3); simp at h4; simp [insB, h4]; omega)]))

theorem c_rnode (n : Net) (a : Int) : PCall Tryz.prog L 184 [.int .i64 a, .cptr n.av 0] (.bool (!insB a n.nodes)) := by
  refine PCall.intro mixed [] (nt := 12) Tryz.func184 rfl rfl (by simp) ?_
  refine Wk ?_
  refine BrK.mk (fun h => ?_) (fun h => ?_) <;> (try rw [h])
  · refine Wk ?_
    exact resP.mk rfl (Sees.bool (by have h' := of_decide_eq_true h; have : insB a n.nodes = false := by { simp [insB]; omega }; rw [this]; rfl))
  · refine Wk ?_
    exact resP.mk rfl (Sees.bool (by have h' := of_decide_eq_false h; rw [Bool.eq_iff_iff]; simp [insB]; omega))

theorem dup_mem {r : List Int} {k : Nat} {a : Int} (h : r[k]? = some a) : dupAt r k = decide (a ∈ r.take k) := by
  unfold dupAt
  rw [h]
  simp only
  rw [Bool.eq_iff_iff]
  simp

theorem c_rfault (n : Net) (hn : n.small) (h0 : netE n = 0) (a b : Int) (r : List Int) (hr : r.length ≤ 281474976710656) : PCall Tryz.prog L 154 [n.av, .int .i64 a, .int .i64 b, encIs r] (.int .i64 (routeF n a b r)) := by
  refine PCall.intro mixed [] (nt := 73) Tryz.func154 rfl rfl (by simp) ?_
  refine Wk ?_
  refine BrK.mk (fun h1 => ?_) (fun h1 => ?_) <;> (try rw [h1])
  · refine Wk ?_
    exact resP.mk rfl (Sees.int (by rw [routeF, if_pos (by simp at h1; omega)]))
  have e1 : ¬ r.length < 2 := by simp at h1; omega
  refine Wk ?_
  refine BrK.mk (fun h2 => ?_) (fun h2 => ?_) <;> (try rw [h2])
  · refine Wk ?_
    exact resP.mk rfl (Sees.int (by rw [routeF, if_neg e1, if_pos (by simp at h2; omega)]))
  have e2 : ¬ 9 < r.length := by simp at h2; omega
  refine Wk ?_
  first | refine CallK.box rfl (c_ContainsFuncRoute L r (fun x => !insB x n.nodes) 184 [.cptr n.av 0] hr rfl rfl (fun x _ => c_rnode L n x)) rfl rfl ?_ | refine CallP.box rfl (c_ContainsFuncRoute L r (fun x => !insB x n.nodes) 184 [.cptr n.av 0] hr rfl rfl (fun x _ => c_rnode L n x)) rfl rfl ?_
  refine Wk ?_
  refine BrK.mk (fun h3 => ?_) (fun h3 => ?_) <;> (try rw [h3])
  · refine Wk ?_
    exact resP.mk rfl (Sees.int (by rw [routeF, if_neg e1, if_neg e2, if_pos h3]))
  obtain ⟨x0, hg0⟩ := getLt (l := r) (k := 0) (by omega)
  have hm0 : (r.map encI)[Int.toNat 0]? = some (encI x0) := getMapI (i := 0) hg0
  obtain ⟨x1, hg1⟩ := getLt (l := r) (k := r.length - 1) (by omega)
  have hm1 := getMap (f := encI) hg1
  have hd0 : r.getD 0 0 = x0 := by rw [List.getD_eq_getElem?_getD, hg0]; rfl
  have hd1 : r.getD (r.length - 1) 0 = x1 := by rw [List.getD_eq_getElem?_getD, hg1]; rfl
  have hw : IntKind.i64.wrap (((r.map encI).length : Int) - 1) = ((r.length - 1 : Nat) : Int) := by rw [List.length_map, w64] <;> omega
  have hF : routeF n a b r = if x0 ≠ a ∨ x1 ≠ b then 11 else if (List.range r.length).any (dupAt r) then 6 else if (List.range (r.length - 1)).all (hopOk n r) then 0 else 17 := by
    rw [routeF, if_neg e1, if_neg e2, if_neg (by simp only [h3]; simp), hd0, hd1]
  rw [hF]
  repeat ((conv => whnf); first | refine sJ ?_ | refine And.intro (by first | exact inbMap (k := 0) (by omega) | kernel_rfl) ?_ | rw [hm0])
  try (conv => whnf)
  refine BrK.mk (fun h4 => ?_) (fun h4 => ?_) <;> (try rw [h4])
  · refine Wk ?_
    exact resP.mk rfl (Sees.int (by rw [if_pos (.inl (by simpa using h4))]))
  repeat ((conv => whnf); first | refine sJ ?_ | refine And.intro (by first | (rw [hw]; exact inbMap (by omega)) | kernel_rfl) ?_ | rw [hw] | rw [hm1])
  try (conv => whnf)
  refine BrK.mk (fun h5 => ?_) (fun h5 => ?_) <;> (try rw [h5])
  · refine Wk ?_
    exact resP.mk rfl (Sees.int (by rw [if_pos (.inr (by simpa using h5))]))
  rw [if_neg (by simp at h4 h5; simp [h4, h5])]
  clear hw hm0 hm1
  refine Wk ?_
  refine LoopK.run mixed [] (fun (k : Nat) => k ≤ r.length ∧ ∀ j, j < k → dupAt r j = false) (fun k => [(3, encIs r), (4, .ptr 0 0), (41, encIs r), (42, .int .i64 r.length), (43, .int .i64 k)]) (fun k => ⟨[.cells n.cs 26], [], 0, 0, fun _ => 0⟩) (fun k => r.length - k) 0 ⟨by simp, by simp⟩ ?_ ?_
  · refine Fits.mk' rfl rfl rfl rfl ?_ ?_ ?_ ?_ ?_ <;> repeat' (first | exact trivial | refine And.intro ?_ ?_ | exact Sees.of_eq rfl | exact lt_b rfl | rfl | exact Sees.int (by simp))
  rintro k ⟨hk, hinv⟩
  refine Wk ?_
  refine BrK.mk (fun hb => ?_) (fun hb => ?_) <;> (try rw [hb])
  · have hlt : k < r.length := by simpa using hb
    obtain ⟨x, hgx⟩ := getLt hlt
    have hmx := getMap (f := encI) hgx
    have hdup := dup_mem hgx
    repeat ((conv => whnf); first | refine sJ ?_ | refine And.intro (by first | exact inbMap hlt | (show InC _ _; exact ⟨by omega, by simp; omega⟩) | exact Els.map (f := encI) (fun _ => ⟨rfl, rfl⟩) | kernel_rfl) ?_ | rw [hmx] | rw [slHi])
    try (conv => whnf)
    first | refine CallK.data rfl (c_ContainsRoute L (r.take k) x (by simp; omega)) rfl ?_ | refine CallP.data rfl (c_ContainsRoute L (r.take k) x (by simp; omega)) rfl ?_
    refine Wk ?_
    refine BrK.mk (fun hc => ?_) (fun hc => ?_) <;> (try rw [hc])
    · refine Wk ?_
      exact resP.mk rfl (Sees.int (by rw [if_pos]; rw [List.any_eq_true]; exact ⟨k, by simpa using hlt, by rw [hdup]; exact hc⟩))
    · refine Wk ?_
      refine ⟨k + 1, ⟨by omega, fun j hj => ?_⟩, by omega, ?_⟩
      · rcases Nat.lt_succ_iff_lt_or_eq.1 hj with h | rfl
        · exact hinv j h
        · rw [hdup]; exact hc
      · refine Fits.mk' rfl rfl rfl rfl ?_ ?_ ?_ ?_ ?_ <;> repeat' (first | exact trivial | refine And.intro ?_ ?_ | exact Sees.of_eq rfl | exact lt_b rfl | rfl | exact Sees.int (succI hlt (by omega)))
  · have hk' : k = r.length := by simp at hb; omega
    subst hk'
    rw [if_neg (by simp only [Bool.not_eq_true, List.any_eq_false, List.mem_range]; exact fun j hj => by simp [hinv j hj])]
    have hdl : (r.drop 1).length = r.length - 1 := by simp
    repeat ((conv => whnf); first | refine sJ ?_ | refine And.intro (by first | (show InC _ _; exact ⟨by omega, by simp; omega⟩) | exact Els.map (f := encI) (fun _ => ⟨rfl, rfl⟩) | kernel_rfl) ?_ | rw [slLo])
    try (conv => whnf)
    refine LoopK.run mixed [] (fun (k : Nat) => k ≤ r.length - 1 ∧ ∀ j, j < k → hopOk n r j = true) (fun k => [(3, encIs r), (4, .ptr 0 0), (55, encIs (r.drop 1)), (56, .int .i64 (r.drop 1).length), (57, .int .i64 k)]) (fun k => ⟨[.cells n.cs 26], [], 0, 0, fun _ => 0⟩) (fun k => r.length - 1 - k) 0 ⟨by omega, by simp⟩ ?_ ?_
    · refine Fits.mk' rfl rfl rfl rfl ?_ ?_ ?_ ?_ ?_ <;> repeat' (first | exact trivial | refine And.intro ?_ ?_ | exact Sees.of_eq rfl | exact lt_b rfl | rfl | exact Sees.int (by simp))
    rintro k ⟨hk, hinv2⟩
    refine Wk ?_
    refine BrK.mk (fun hd => ?_) (fun hd => ?_) <;> (try rw [hd])
    · have hlt : k < (r.drop 1).length := by simpa using hd
      obtain ⟨x, hgx⟩ := getLt hlt
      have hmx := getMap (f := encI) hgx
      obtain ⟨y, hgy⟩ := getLt (l := r) (k := k) (by omega)
      have hmy := getMap (f := encI) hgy
      have hx2 : r[k + 1]? = some x := by rw [← hgx, List.getElem?_drop, Nat.add_comm]
      have hhop : hopOk n r k = goodL n y x := by unfold hopOk; rw [List.getD_eq_getElem?_getD, List.getD_eq_getElem?_getD, hgy, hx2]; rfl
      repeat ((conv => whnf); first | refine sJ ?_ | refine And.intro (by first | exact inbMap hlt | exact inbMap (by omega) | kernel_rfl) ?_ | rw [hmx] | rw [hmy])
      try (conv => whnf)
      first | refine CallK.data rfl (c_index L n hn y x) rfl ?_ | refine CallP.data rfl (c_index L n hn y x) rfl ?_
      refine Wk ?_
      first | refine CallK.data rfl (c_Usable L n hn (indexN n y x)) rfl ?_ | refine CallP.data rfl (c_Usable L n hn (indexN n y x)) rfl ?_
      rw [usable_index h0]
      refine Wk ?_
      refine BrK.mk (fun he => ?_) (fun he => ?_) <;> (try rw [he])
      · refine Wk ?_
        exact resP.mk rfl (Sees.int (by rw [if_neg]; rw [List.all_eq_true]; exact fun h => by have := h k (by simp; omega); rw [hhop] at this; rw [this] at he; cases he))
      · refine Wk ?_
        refine ⟨k + 1, ⟨by omega, fun j hj => ?_⟩, by omega, ?_⟩
        · rcases Nat.lt_succ_iff_lt_or_eq.1 hj with h | rfl
          · exact hinv2 j h
          · rw [hhop]; simpa using he
        · refine Fits.mk' rfl rfl rfl rfl ?_ ?_ ?_ ?_ ?_ <;> repeat' (first | exact trivial | refine And.intro ?_ ?_ | exact Sees.of_eq rfl | exact lt_b rfl | rfl | exact Sees.int (succI hlt (by omega)))
    · have hk' : k = r.length - 1 := by simp at hd; omega
      subst hk'
      refine Wk ?_
      exact resP.mk rfl (Sees.int (by rw [if_pos (range_all hinv2)]))

theorem c_RCheck (n : Net) (hn : n.small) (a b : Int) (r : List Int) (hr : r.length ≤ 281474976710656) : PCall Tryz.prog L 125 [n.av, .int .i64 a, .int .i64 b, encIs r] (.int .i64 (routeE n a b r)) := by
  refine PCall.intro mixed [] (nt := 22) Tryz.func125 rfl rfl (by simp) ?_
  refine Wk ?_
  first | refine CallK.data rfl (c_ends L n hn a b) rfl ?_ | refine CallP.data rfl (c_ends L n hn a b) rfl ?_
  refine Wk ?_
  refine BrK.mk (fun h1 => ?_) (fun h1 => ?_) <;> (try rw [h1])
  · refine Wk ?_
    exact resP.mk rfl (Sees.int (by rw [routeE, if_pos (by simpa using h1)]))
  have e1 : ¬ endsE n a b ≠ 0 := by simpa using h1
  have h0 : netE n = 0 := by
    cases Decidable.em (netE n = 0) with
    | inl h => exact h
    | inr h => unfold endsE at e1; rw [if_pos h] at e1; simp at e1
  refine Wk ?_
  first | refine CallK.data rfl (c_rfault L n hn h0 a b r hr) rfl ?_ | refine CallP.data rfl (c_rfault L n hn h0 a b r hr) rfl ?_
  refine Wk ?_
  exact resP.mk rfl (Sees.int (by rw [routeE, if_neg e1]))
end
end HM
