/- Which links can be together: the program. -/
import Derived.Test.YtgfboaadhlhjhaaGreatDoorS30
import Derived.Test.YtgfboaadhlhjhaaGreatDoorDb
set_option maxRecDepth 100000
namespace HM
open Go Go.RowKit Go.Proofs
section
variable (L : World → Prop)
theorem c_isNode (n : Net) (a : Int) : PCall Tryz.prog L 165 [n.av, .int .i64 a] (.bool (insB a n.nodes)) := by
  refine PCall.intro mixed [] (nt := 13) Tryz.func165 rfl rfl (by simp) ?_
  repeat' ((conv => whnf); first | refine sJ ?_ | refine aI (by first | kernel_rfl) ?_  | (refine BrK.mk (fun hb => ?_) (fun hb => ?_) <;> try rw [hb]))
  all_goals try (conv => whnf)
  all_goals exact resP.mk rfl (Sees.of_eq (by first | (simp_all [insB]; done) | (simp_all [insB]; omega)))
set_option maxHeartbeats 1000000 in
theorem c_cdist (n : Net) (h : NetOk n) (cs : List Cell) (hc : cs.length ≤ 4096) (i : Nat) (node : Int) (hn : insB node n.nodes = true) : PCall Tryz.prog L 166 [n.av, encCells cs, .int .i64 i, .int .i64 node] (.int .i64 (distM n cs i node)) := by
  refine PCall.intro mixed [] (nt := 50) Tryz.func166 rfl rfl (by simp) ?_
  refine Wk ?_
  refine LoopK.run mixed [] (fun (k : Nat) => k ≤ cs.length) (fun k => [(2, .int .i64 i), (3, .int .i64 node), (4, .ptr 0 0), (9, .int .i64 (distU n cs i node k)), (14, encCells cs), (15, .int .i64 cs.length), (16, .int .i64 k)]) (fun k => ⟨[.cells n.cs 26], [], 0, 0, fun _ => 0⟩) (fun k => cs.length - k) 0 (by simp) ?_ ?_
  · refine fM ?_ ?_ ?_ ?_ ?_ <;> repeat' (first | exact fQ | refine And.intro ?_ ?_ | exact SeesL.rfl' _ | exact Sees.int (by simp))
  rintro k hk
  have hb1 := distU_bd h cs i node k
  have hst := distU_succ n cs i node k
  refine Wk ?_
  refine BrK.mk (fun hb => ?_) (fun hb => ?_) <;> try rw [hb]
  · have hlt : k < cs.length := by simpa using hb
    obtain ⟨c, hgc⟩ := getLt hlt
    have hmc := getMap (f := Cell.av) hgc
    have hda : distAt n cs i node k = if k = i then 0 else powN n c.src node + powN n c.dst node := by unfold distAt; rw [hgc]
    repeat ((conv => whnf); first | refine sJ ?_ | refine aI (by first | exact inbMap hlt | kernel_rfl) ?_ | rw [hmc])
    try (conv => whnf)
    refine BrK.mk (fun h1 => ?_) (fun h1 => ?_) <;> (try rw [h1])
    · have h1' : k = i := by simp at h1; omega
      rw [if_pos h1'] at hda
      refine Wk ?_
      refine ⟨k + 1, by omega, by omega, ?_⟩
      refine fM ?_ ?_ ?_ ?_ ?_ <;> repeat' (first | exact fQ | refine And.intro ?_ ?_ | exact SeesL.rfl' _ | exact Sees.int (by rw [w64] <;> omega) | exact Sees.int (by rw [hst, hda, Int.add_zero]))
    · have h1' : k ≠ i := by simp at h1; omega
      rw [if_neg h1'] at hda
      obtain ⟨es, hes⟩ : ∃ es, es = [c.src, c.dst] := ⟨_, rfl⟩
      have hel : es.length = 2 := by rw [hes]; rfl
      have hsum : sumW (fun e => powN n e node) es = powN n c.src node + powN n c.dst node := by rw [hes]; simp [sumW]
      refine Wk ?_
      refine LoopK.run mixed [] (fun (j : Nat) => j ≤ es.length) (fun j => [(2, .int .i64 i), (3, .int .i64 node), (4, .ptr 0 0), (9, .int .i64 (distU n cs i node k + sumW (fun e => powN n e node) (es.take j))), (14, encCells cs), (15, .int .i64 cs.length), (16, .int .i64 k), (28, encIs es), (29, .int .i64 es.length), (30, .int .i64 j)]) (fun j => ⟨[.cells n.cs 26], [], 0, 0, fun _ => 0⟩) (fun j => es.length - j) 0 (by simp) ?_ ?_
      · refine fM ?_ ?_ ?_ ?_ ?_ <;> repeat' (first | exact fQ | refine And.intro ?_ ?_ | exact SeesL.rfl' _ | exact Sees.int (by rw [hel]; rfl) | exact Sees.int (by simp [sumW]) | exact Sees.elems (by rw [hes]; rfl))
      rintro j hj
      refine Wk ?_
      refine BrK.mk (fun hd => ?_) (fun hd => ?_) <;> (try rw [hd])
      · have hjt : j < es.length := by simpa using hd
        obtain ⟨e, hge⟩ := getLt hjt
        have hme := getMap (f := encI) hge
        have hst2 := sumW_take (fun e => powN n e node) hge
        have hsb := sumW_bd (f := fun e => powN n e node) (m := 68719476736) (by omega) (l := es.take (j + 1)) fun e _ => powN_bd h e node
        have hsb0 := sumW_bd (f := fun e => powN n e node) (m := 68719476736) (by omega) (l := es.take j) fun e _ => powN_bd h e node
        have hpe := powN_bd h e node
        rw [List.length_take] at hsb hsb0
        repeat ((conv => whnf); first | refine sJ ?_ | refine aI (by first | exact inbMap hjt | kernel_rfl) ?_ | rw [hme])
        try (conv => whnf)
        first | refine CallK.data rfl (c_isNode L n e) rfl ?_ | refine CallP.data rfl (c_isNode L n e) rfl ?_
        cases hi : insB e n.nodes with
        | true =>
          obtain ⟨a, b, r, x, rfl, rfl, hgr, hgx, hpx⟩ := pow_at h hi hn
          have hmr := getMap (f := encIs) hgr
          have hmx := getMap (f := encI) hgx
          have hal := (List.getElem?_eq_some_iff.1 hgr).1
          have hbl := (List.getElem?_eq_some_iff.1 hgx).1
          have hpn : powN n a b = x := by unfold powN; rw [if_pos hi, hpx]
          rw [hpn] at hst2 hpe
          repeat ((conv => whnf); first | refine sJ ?_ | refine aI (by first | exact inbMap hal | exact inbMap hbl | kernel_rfl) ?_ | rw [hmr] | rw [hmx])
          try (conv => whnf)
          refine ⟨j + 1, by omega, by omega, ?_⟩
          refine fM ?_ ?_ ?_ ?_ ?_ <;> repeat' (first | exact fQ | refine And.intro ?_ ?_ | exact SeesL.rfl' _ | exact Sees.int (by rw [w64] <;> omega) | exact Sees.int (by rw [hst2, w64] <;> omega))
        | false =>
          have hpn : powN n e node = 0 := by unfold powN; rw [if_neg (by simp [hi])]
          rw [hpn] at hst2
          refine Wk ?_
          refine ⟨j + 1, by omega, by omega, ?_⟩
          refine fM ?_ ?_ ?_ ?_ ?_ <;> repeat' (first | exact fQ | refine And.intro ?_ ?_ | exact SeesL.rfl' _ | exact Sees.int (by rw [w64] <;> omega) | exact Sees.int (by rw [hst2, Int.add_zero]))
      · have hjl : j = es.length := by simp at hd; omega
        subst hjl
        rw [List.take_length, hsum, ← hda, ← hst]
        refine Wk ?_
        refine ⟨k + 1, by omega, by omega, ?_⟩
        refine fM ?_ ?_ ?_ ?_ ?_ <;> repeat' (first | exact fQ | refine And.intro ?_ ?_ | exact SeesL.rfl' _ | exact Sees.int (by rw [w64] <;> omega))
  · have hkn : k = cs.length := by simp at hb; omega
    subst hkn
    refine Wk ?_
    exact resP.mk rfl (Sees.int rfl)
def hearsN (n : Net) (s d : Int) : Bool := decide (netE n = 0) && decide (0 ≤ s) && decide (0 ≤ d) && decide (s ≤ 8796093022208) && decide (d ≤ 8796093022208) && heardB n s d
theorem c_Hears (n : Net) (hn : n.small) (s d : Int) : PCall Tryz.prog L 126 [n.av, .int .i64 s, .int .i64 d] (.bool (hearsN n s d)) := by
  refine PCall.intro mixed [] (nt := 26) Tryz.func126 rfl rfl (by simp) ?_
  refine Wk ?_
  first | refine CallK.data rfl (c_netCheck L n hn) rfl ?_ | refine CallP.data rfl (c_netCheck L n hn) rfl ?_
  by_cases h0 : netE n = 0
  rotate_left
  · have g0 : (netE n != 0) = true := by simpa using h0
    repeat ((conv => whnf); first | refine sJ ?_ | refine aI (by first | exact trivial | kernel_rfl) ?_ | rw [g0])
    try (conv => whnf)
    exact resP.mk rfl (Sees.bool (by unfold hearsN; rw [decide_eq_false h0]; rfl))
  have g0 : (netE n != 0) = false := by simpa using h0
  by_cases h1 : 0 ≤ s ∧ 0 ≤ d
  rotate_left
  · have g1 : decide ((if d < s then d else s) < 0) = true := by rw [decide_eq_true_eq]; split <;> omega
    repeat ((conv => whnf); first | refine sJ ?_ | refine aI (by first | exact trivial | kernel_rfl) ?_ | rw [g0] | rw [g1])
    try (conv => whnf)
    exact resP.mk rfl (Sees.bool (by unfold hearsN; rw [decide_eq_true h0]; rcases Decidable.em (0 ≤ s) with h | h <;> simp [h] <;> omega))
  have g1 : decide ((if d < s then d else s) < 0) = false := by rw [decide_eq_false_iff_not]; split <;> omega
  by_cases h2 : s ≤ 8796093022208 ∧ d ≤ 8796093022208
  rotate_left
  · have g2 : decide (8796093022208 < (if s < d then d else s)) = true := by rw [decide_eq_true_eq]; split <;> omega
    repeat ((conv => whnf); first | refine sJ ?_ | refine aI (by first | exact trivial | kernel_rfl) ?_ | rw [g0] | rw [g1] | rw [g2])
    try (conv => whnf)
    exact resP.mk rfl (Sees.bool (by unfold hearsN; rw [decide_eq_true h0, decide_eq_true h1.1, decide_eq_true h1.2]; rcases Decidable.em (s ≤ 8796093022208) with h | h <;> simp [h] <;> omega))
  have g2 : decide (8796093022208 < (if s < d then d else s)) = false := by rw [decide_eq_false_iff_not]; split <;> omega
  repeat ((conv => whnf); first | refine sJ ?_ | refine aI (by first | exact trivial | kernel_rfl) ?_ | rw [g0] | rw [g1] | rw [g2])
  try (conv => whnf)
  first | refine CallK.data rfl (c_hears L n (netE_ok h0) s d ⟨h1.1, h2.1⟩ ⟨h1.2, h2.2⟩) rfl ?_ | refine CallP.data rfl (c_hears L n (netE_ok h0) s d ⟨h1.1, h2.1⟩ ⟨h1.2, h2.2⟩) rfl ?_
  refine Wk ?_
  exact resP.mk rfl (Sees.bool (by unfold hearsN; rw [decide_eq_true h0, decide_eq_true h1.1, decide_eq_true h1.2, decide_eq_true h2.1, decide_eq_true h2.2]; simp))
theorem hearsN_ok {n : Net} (h0 : netE n = 0) {s d : Int} (h1 : 0 ≤ s) (h2 : s ≤ 8796093022208) (h3 : 0 ≤ d) (h4 : d ≤ 8796093022208) : hearsN n s d = heardB n s d := by
  unfold hearsN
  rw [decide_eq_true h0, decide_eq_true h1, decide_eq_true h2, decide_eq_true h3, decide_eq_true h4]; simp
theorem c_touches (a b : Cell) : PCall Tryz.prog L 189 [a.av, b.av] (.bool (touchB a b)) := by
  refine PCall.intro mixed [] (nt := 31) Tryz.func189 rfl rfl (by simp) ?_
  refine Wk ?_
  cases h1 : a.src == b.src
  · refine Wk ?_
    cases h2 : a.src == b.dst
    · refine Wk ?_
      cases h3 : a.dst == b.src
      · refine Wk ?_
        exact resP.mk rfl (Sees.bool (by simp [touchB, h1, h2, h3]))
      · refine Wk ?_
        exact resP.mk rfl (Sees.bool (by simp [touchB, h3]))
    · refine Wk ?_
      exact resP.mk rfl (Sees.bool (by simp [touchB, h2]))
  · refine Wk ?_
    exact resP.mk rfl (Sees.bool (by simp [touchB, h1]))
end
end HM
set_option maxRecDepth 100000
namespace HM
open Go Go.RowKit Go.Proofs
section
variable (L : World → Prop)
theorem c_heard1 (n : Net) (hn : n.small) (h0 : netE n = 0) (cs : List Cell) (hc : cs.length ≤ 32) (i p : Nat) (m node : Int) (hm : n.margin[p]? = some m) (hm0 : 0 ≤ m) (hm1 : m ≤ 68719476736) (hnd : insB node n.nodes = true) : PCall Tryz.prog L 190 [.int .i64 p, .int .i64 node, .cptr n.av 0, .cptr (.agg [encCells cs]) 0, .cptr (.agg [.int .i64 i]) 0] (.bool (heardB n m (distM n cs i node))) := by
  have hok := netE_ok h0
  have hmm := getMap (f := encI) hm
  have hpl := (List.getElem?_eq_some_iff.1 hm).1
  have hd : 0 ≤ distM n cs i node ∧ distM n cs i node ≤ cs.length * 137438953472 := distU_bd hok cs i node cs.length
  refine PCall.intro mixed [] (nt := 20) Tryz.func190 rfl rfl (by simp) ?_
  repeat ((conv => whnf); first | refine sJ ?_ | refine aI (by first | exact inbMap hpl | kernel_rfl) ?_ | rw [hmm])
  try (conv => whnf)
  first | refine CallK.data rfl (c_cdist L n hok cs (by omega) i node hnd) rfl ?_ | refine CallP.data rfl (c_cdist L n hok cs (by omega) i node hnd) rfl ?_
  refine Wk ?_
  first | refine CallK.data rfl (c_Hears L n hn m (distM n cs i node)) rfl ?_ | refine CallP.data rfl (c_Hears L n hn m (distM n cs i node)) rfl ?_
  rw [hearsN_ok h0 hm0 (by omega) hd.1 (by omega)]
  refine Wk ?_
  exact resP.mk rfl (Sees.bool rfl)
theorem any_hit {m k : Nat} {f : Nat → Bool} (hk : k < m) (h : f k = true) : (List.range m).any f = true := List.any_eq_true.2 ⟨k, by simpa using hk, h⟩
theorem any_nk {m : Nat} {f : Nat → Bool} (h : ∀ j, j < m → f j = false) : (List.range m).any f = false := by
  rw [List.any_eq_false]; intro j hj; simp [h j (by simpa using hj)]
set_option maxHeartbeats 2000000 in
theorem c_faulty (n : Net) (hn : n.small) (h0 : netE n = 0) (cs : List Cell) (hc : cs.length ≤ 32) (i : Nat) (hi : i < cs.length) : PCall Tryz.prog L 172 [n.av, encCells cs, .int .i64 i] (.bool (faultyM n cs i)) := by
  have hok := netE_ok h0
  obtain ⟨c, hgc⟩ := getLt hi
  have hmc := getMap (f := Cell.av) hgc
  have hF : faultyM n cs i = if goodL n c.src c.dst = false then true else if (List.range cs.length).any (touchAt cs c i) then true
    else if heardB n (marginAt n c.src c.dst) (distM n cs i c.dst) = false then true else !heardB n (marginAt n c.dst c.src) (distM n cs i c.src) := by unfold faultyM; rw [hgc]
  refine PCall.intro mixed [] (nt := 64) Tryz.func172 rfl rfl (by simp) ?_
  repeat ((conv => whnf); first | refine sJ ?_ | refine aI (by first | exact inbMap hi | kernel_rfl) ?_ | rw [hmc])
  try (conv => whnf)
  first | refine CallK.data rfl (c_index L n hn c.src c.dst) rfl ?_ | refine CallP.data rfl (c_index L n hn c.src c.dst) rfl ?_
  refine Wk ?_
  first | refine CallK.data rfl (c_index L n hn c.dst c.src) rfl ?_ | refine CallP.data rfl (c_index L n hn c.dst c.src) rfl ?_
  refine Wk ?_
  first | refine CallK.data rfl (c_Usable L n hn (indexN n c.src c.dst)) rfl ?_ | refine CallP.data rfl (c_Usable L n hn (indexN n c.src c.dst)) rfl ?_
  rw [usable_index h0]
  refine Wk ?_
  refine BrK.mk (fun h1 => ?_) (fun h1 => ?_) <;> (try rw [h1])
  · refine Wk ?_
    exact resP.mk rfl (Sees.bool (by rw [hF, if_pos (by simpa using h1)]))
  have hg : goodL n c.src c.dst = true := by simpa using h1
  rw [if_neg (by simp [hg])] at hF
  obtain ⟨p, m, e1, e2, e3, e4, e5, e6, e7, e8⟩ := good_at hok hg
  obtain ⟨p', m', f1, f2, f3, f4, f5, f6, f7, f8⟩ := good_at hok e8
  have hi1 : indexN n c.src c.dst = (p : Int) := by rw [indexN, if_pos h0, e1]
  have hi2 : indexN n c.dst c.src = (p' : Int) := by rw [indexN, if_pos h0, f1]
  rw [e3, f3] at hF
  rw [hi1, hi2]
  refine Wk ?_
  refine LoopK.run mixed [] (fun (k : Nat) => k ≤ cs.length ∧ ∀ j, j < k → touchAt cs c i j = false) (fun k => [(3, .ptr 0 0), (4, .ptr 1 0), (5, .ptr 2 0), (7, .ptr 3 0), (8, .int .i64 p), (9, .int .i64 p'), (33, encCells cs), (34, .int .i64 cs.length), (35, .int .i64 k)]) (fun _ => ⟨[.cells n.cs 26, .cells [encCells cs] 27, .cells [.int .i64 i] 3, .cells c.av.cells 61], [], 0, 0, fun _ => 0⟩) (fun k => cs.length - k) 0 ⟨by simp, by simp⟩ ?_ ?_
  · refine fM ?_ ?_ ?_ ?_ ?_ <;> repeat' (first | exact fQ | refine And.intro ?_ ?_ | exact SeesL.rfl' _ | exact Sees.int (by simp))
  rintro k ⟨hk, hinv⟩
  refine Wk ?_
  refine BrK.mk (fun hb => ?_) (fun hb => ?_) <;> try rw [hb]
  · have hlt : k < cs.length := by simpa using hb
    obtain ⟨d, hgd⟩ := getLt hlt
    have hmd := getMap (f := Cell.av) hgd
    have htc : touchAt cs c i k = (k != i && touchB c d) := by unfold touchAt; rw [hgd]
    have nxt : touchAt cs c i k = false → ∀ j, j < k + 1 → touchAt cs c i j = false := fun h j hj => by
      rcases Nat.lt_succ_iff_lt_or_eq.1 hj with h' | rfl
      · exact hinv j h'
      · exact h
    repeat ((conv => whnf); first | refine sJ ?_ | refine aI (by first | exact inbMap hlt | kernel_rfl) ?_ | rw [hmd])
    try (conv => whnf)
    by_cases hki : k = i
    · have g : ((k : Int) != (i : Int)) = false := by simp; omega
      have ht : touchAt cs c i k = false := by rw [htc, show (k != i) = false from by simpa using hki]; rfl
      repeat ((conv => whnf); first | refine sJ ?_ | refine aI (by first | exact trivial | kernel_rfl) ?_ | rw [g])
      try (conv => whnf)
      refine ⟨k + 1, ⟨by omega, nxt ht⟩, by omega, ?_⟩
      refine fM ?_ ?_ ?_ ?_ ?_ <;> repeat' (first | exact fQ | refine And.intro ?_ ?_ | exact SeesL.rfl' _ | exact Sees.int (by rw [w64] <;> omega))
    · have g : ((k : Int) != (i : Int)) = true := by simp; omega
      have ht : touchAt cs c i k = touchB c d := by rw [htc, show (k != i) = true from by simpa using hki]; rfl
      repeat ((conv => whnf); first | refine sJ ?_ | refine aI (by first | exact trivial | kernel_rfl) ?_ | rw [g])
      try (conv => whnf)
      first | refine CallK.data rfl (c_touches L c d) rfl ?_ | refine CallP.data rfl (c_touches L c d) rfl ?_
      rw [← ht]
      cases hT : touchAt cs c i k with
      | true =>
        rw [if_pos (any_hit hlt hT)] at hF
        refine Wk ?_
        exact resP.mk rfl (Sees.bool hF.symm)
      | false =>
        refine Wk ?_
        refine ⟨k + 1, ⟨by omega, nxt hT⟩, by omega, ?_⟩
        refine fM ?_ ?_ ?_ ?_ ?_ <;> repeat' (first | exact fQ | refine And.intro ?_ ?_ | exact SeesL.rfl' _ | exact Sees.int (by rw [w64] <;> omega))
  · have hkn : k = cs.length := by simp at hb; omega
    subst hkn
    rw [if_neg (by simp [any_nk hinv])] at hF
    refine Wk ?_
    first | refine CallK.box rfl (c_heard1 L n hn h0 cs hc i p m c.dst e2 e4 e5 e7) rfl rfl ?_ | refine CallP.box rfl (c_heard1 L n hn h0 cs hc i p m c.dst e2 e4 e5 e7) rfl rfl ?_
    cases hh1 : heardB n m (distM n cs i c.dst) with
    | false =>
      rw [if_pos hh1] at hF
      refine Wk ?_
      exact resP.mk rfl (Sees.bool hF.symm)
    | true =>
      rw [if_neg (by simp [hh1])] at hF
      refine Wk ?_
      first | refine CallK.box rfl (c_heard1 L n hn h0 cs hc i p' m' c.src f2 f4 f5 f7) rfl rfl ?_ | refine CallP.box rfl (c_heard1 L n hn h0 cs hc i p' m' c.src f2 f4 f5 f7) rfl rfl ?_
      refine Wk ?_
      exact resP.mk rfl (Sees.bool hF.symm)
def faultI (n : Net) (cs : List Cell) (k : Nat) : Int := if faultyM n cs k then 1 else 0
def firstF (n : Net) (cs : List Cell) : Int × Int := if netE n ≠ 0 then (-1, 0) else firstAt (faultI n cs) cs.length
theorem goodM_first (n : Net) (cs : List Cell) : goodM n cs = (decide (netE n = 0) && decide ((firstF n cs).2 = 0)) := by
  unfold goodM firstF
  by_cases h0 : netE n = 0
  · rw [decide_eq_true h0, if_neg (by simp [h0]), Bool.true_and, Bool.true_and, Bool.eq_iff_iff]
    simp only [Bool.not_eq_true', List.any_eq_false, List.mem_range, decide_eq_true_eq, firstAt_ok]
    refine forall_congr' fun j => forall_congr' fun _ => ?_
    unfold faultI
    cases faultyM n cs j <;> simp
  · rw [decide_eq_false h0, Bool.false_and, Bool.false_and]
theorem c_First (n : Net) (hn : n.small) (cs : List Cell) (hc : cs.length ≤ 32) : PCall Tryz.prog L 139 [n.av, encCells cs] (.tup [.int .i64 (firstF n cs).1, .bool (decide ((firstF n cs).2 ≠ 0))]) := by
  refine PCall.intro mixed [] (nt := 21) Tryz.func139 rfl rfl (by simp) ?_
  refine Wk ?_
  first | refine CallK.data rfl (c_netCheck L n hn) rfl ?_ | refine CallP.data rfl (c_netCheck L n hn) rfl ?_
  refine Wk ?_
  refine BrK.mk (fun h1 => ?_) (fun h1 => ?_) <;> (try rw [h1])
  · have h1' : netE n ≠ 0 := by simpa using h1
    refine Wk ?_
    exact resP.mk rfl (Sees.of_eq (by rw [firstF, if_pos h1']; rfl))
  have h0 : netE n = 0 := by simpa using h1
  have hF : firstF n cs = firstAt (faultI n cs) cs.length := by rw [firstF, if_neg (by simp [h0])]
  rw [hF]
  refine Wk ?_
  refine LoopK.run mixed [] (fun (k : Nat) => k ≤ cs.length ∧ ∀ j, j < k → faultI n cs j = 0) (fun k => [(1, encCells cs), (2, .ptr 0 0), (11, .int .i64 cs.length), (12, .int .i64 k)]) (fun k => ⟨[.cells n.cs 26], [], 0, 0, fun _ => 0⟩) (fun k => cs.length - k) 0 ⟨by simp, by simp⟩ ?_ ?_
  · refine fM ?_ ?_ ?_ ?_ ?_ <;> repeat' (first | exact fQ | refine And.intro ?_ ?_ | exact SeesL.rfl' _ | exact Sees.int (by simp))
  rintro k ⟨hk, hinv⟩
  refine Wk ?_
  refine BrK.mk (fun hb => ?_) (fun hb => ?_) <;> try rw [hb]
  · have hlt : k < cs.length := by simpa using hb
    refine Wk ?_
    first | refine CallK.data rfl (c_faulty L n hn h0 cs hc k hlt) rfl ?_ | refine CallP.data rfl (c_faulty L n hn h0 cs hc k hlt) rfl ?_
    cases hf : faultyM n cs k with
    | true =>
      have hi : faultI n cs k = 1 := by rw [faultI, if_pos hf]
      refine Wk ?_
      exact resP.mk rfl (Sees.of_eq (by rw [firstAt_hit hinv (by rw [hi]; decide) hlt, hi]; rfl))
    | false =>
      have hi : faultI n cs k = 0 := by rw [faultI, if_neg (by simp [hf])]
      refine Wk ?_
      refine ⟨k + 1, ⟨by omega, fun j hj => ?_⟩, by omega, ?_⟩
      · rcases Nat.lt_succ_iff_lt_or_eq.1 hj with h | rfl
        · exact hinv j h
        · exact hi
      · refine fM ?_ ?_ ?_ ?_ ?_ <;> repeat' (first | exact fQ | refine And.intro ?_ ?_ | exact SeesL.rfl' _ | exact Sees.int (by rw [w64] <;> omega))
  · have hkn : k = cs.length := by simp at hb; omega
    subst hkn
    refine Wk ?_
    exact resP.mk rfl (Sees.of_eq (by rw [firstAt_zero hinv]; rfl))
theorem c_Good (n : Net) (hn : n.small) (cs : List Cell) (hc : cs.length ≤ 32) : PCall Tryz.prog L 96 [n.av, encCells cs] (.bool (goodM n cs)) := by
  rw [goodM_first]
  refine PCall.intro mixed [] (nt := 20) Tryz.func96 rfl rfl (by simp) ?_
  refine Wk ?_
  first | refine CallK.data rfl (c_First L n hn cs hc) rfl ?_ | refine CallP.data rfl (c_First L n hn cs hc) rfl ?_
  refine Wk ?_
  first | refine CallK.data rfl (c_netCheck L n hn) rfl ?_ | refine CallP.data rfl (c_netCheck L n hn) rfl ?_
  by_cases h0 : netE n = 0
  · have g : (netE n == 0) = true := by simpa using h0
    repeat ((conv => whnf); first | refine sJ ?_ | refine aI (by first | exact trivial | kernel_rfl) ?_ | rw [g])
    try (conv => whnf)
    exact resP.mk rfl (Sees.bool (by rw [decide_eq_true h0]; simp))
  · have g : (netE n == 0) = false := by simpa using h0
    repeat ((conv => whnf); first | refine sJ ?_ | refine aI (by first | exact trivial | kernel_rfl) ?_ | rw [g])
    try (conv => whnf)
    exact resP.mk rfl (Sees.bool (by rw [decide_eq_false h0]; rfl))
end
end HM
