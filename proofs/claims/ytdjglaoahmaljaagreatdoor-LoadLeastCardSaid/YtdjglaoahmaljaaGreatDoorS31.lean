/- Networks: Check, Index, Usable. -/
import Derived.Test.YtdjglaoahmaljaaGreatDoorS30

set_option maxRecDepth 100000
namespace HM
open Go Go.RowKit Go.Proofs
section
variable (L : World → Prop)

theorem c_clnode (n : Net) (a : Int) : PCall Tryz.prog L 141 [.int .i64 a, .cptr n.av 0] (.bool (insB a n.nodes)) := by
  refine PCall.intro mixed [] (nt := 12) Tryz.func141 rfl rfl (by simp) ?_
  refine Wk ?_
  refine BrK.mk (fun h => ?_) (fun h => ?_) <;> (try rw [h])
  · refine Wk ?_
    exact resP.mk rfl (Sees.bool (by simp [insB]; simp at h; omega))
  · refine Wk ?_
    exact resP.mk rfl (Sees.bool (by simp [insB]; simp at h; omega))

theorem c_checkLink (n : Net) (i : Nat) (l : Link) (hl : n.links[i]? = some l) (hm : n.margin.length = n.links.length) (hb : n.links.length ≤ 128) (hp1 : (n.power.length : Int) = n.nodes) (hp2 : ∀ r ∈ n.power, (r.length : Int) = n.nodes) :
    PCall Tryz.prog L 102 [n.av, .int .i64 i] (.int .i64 (linkE n i)) := by
  have hlt := (List.getElem?_eq_some_iff.1 hl).1
  have hmx := getMap (f := Link.av) hl
  obtain ⟨m, hgm⟩ := getLt (l := n.margin) (k := i) (by omega)
  have hmm := getMap (f := encI) hgm
  have hgd : n.margin.getD i 0 = m := by rw [List.getD_eq_getElem?_getD, hgm]; rfl
  have hE : linkE n i = if linkR n l = false then 2 else if linkO n i l = false then 5 else if n.margin.getD i 0 < 0 ∨ powAt n l.src l.dst < n.margin.getD i 0 then 2 else 0 := by rw [linkE, hl]
  rw [hE, hgd]
  refine PCall.intro mixed [] (nt := 82) Tryz.func102 rfl rfl (by simp) ?_
  repeat ((conv => whnf); first | refine sJ ?_ | refine And.intro (by first | exact inbMap hlt | kernel_rfl) ?_ | rw [hmx])
  try (conv => whnf)
  first | refine CallK.box rfl (c_clnode L n l.src) rfl rfl ?_ | refine CallP.box rfl (c_clnode L n l.src) rfl rfl ?_
  refine Wk ?_
  refine BrK.mk (fun h1 => ?_) (fun h1 => ?_) <;> (try rw [h1])
  · refine Wk ?_
    exact resP.mk rfl (Sees.int (by rw [if_pos (by simp at h1; simp [linkR, h1])]))
  refine Wk ?_
  first | refine CallK.box rfl (c_clnode L n l.dst) rfl rfl ?_ | refine CallP.box rfl (c_clnode L n l.dst) rfl rfl ?_
  refine Wk ?_
  refine BrK.mk (fun h2 => ?_) (fun h2 => ?_) <;> (try rw [h2])
  · refine Wk ?_
    exact resP.mk rfl (Sees.int (by rw [if_pos (by simp at h2; simp [linkR, h2])]))
  refine Wk ?_
  refine BrK.mk (fun h3 => ?_) (fun h3 => ?_) <;> (try rw [h3])
  · refine Wk ?_
    exact resP.mk rfl (Sees.int (by rw [if_pos (by simp at h3; simp [linkR, h3])]))
  refine Wk ?_
  refine BrK.mk (fun h4 => ?_) (fun h4 => ?_) <;> (try rw [h4])
  · refine Wk ?_
    exact resP.mk rfl (Sees.int (by rw [if_pos (by simp at h4; simp [linkR]; omega)]))
  refine Wk ?_
  refine BrK.mk (fun h5 => ?_) (fun h5 => ?_) <;> (try rw [h5])
  · refine Wk ?_
    exact resP.mk rfl (Sees.int (by rw [if_pos (by simp at h5; simp [linkR]; omega)]))
  have hR : linkR n l = true := by simp at h1 h2 h3 h4 h5; simp [linkR, h1, h2, h3]; omega
  have hbd := linkR_bd hR
  rw [if_neg (by simp [hR])]
  obtain ⟨r, hgr⟩ := getLt (l := n.power) (k := l.src.toNat) (by omega)
  have hmr := getMapI (f := encIs) hgr
  have hrl := hp2 r (List.mem_of_getElem? hgr)
  obtain ⟨x, hgx⟩ := getLt (l := r) (k := l.dst.toNat) (by omega)
  have hmp := getMapI (f := encI) hgx
  have hpow : powAt n l.src l.dst = x := by
    unfold powAt
    rw [List.getD_eq_getElem?_getD, List.getD_eq_getElem?_getD, hgr]
    simp [hgx]
  rw [hpow]
  refine Wk ?_
  refine BrK.mk (fun h6 => ?_) (fun h6 => ?_) <;> (try rw [h6])
  · have hpos : 0 < i := by simpa using h6
    obtain ⟨j, rfl⟩ : ∃ j, i = j + 1 := ⟨i - 1, by omega⟩
    obtain ⟨p, hgp⟩ := getLt (l := n.links) (k := j) (by omega)
    have hmp' := getMap (f := Link.av) hgp
    have hw : IntKind.i64.wrap (((j + 1 : Nat) : Int) - 1) = (j : Int) := by rw [w64] <;> omega
    have hO : linkO n (j + 1) l = decide (p.cmp l < 0) := by simp only [linkO, hgp]
    rw [hO]
    repeat ((conv => whnf); first | refine sJ ?_ | refine And.intro (by first | (rw [hw]; exact inbMap (by omega)) | kernel_rfl) ?_ | rw [hw] | rw [hmp'])
    try (conv => whnf)
    first | refine CallK.data rfl (c_linkcmp L p l) rfl ?_ | refine CallP.data rfl (c_linkcmp L p l) rfl ?_
    refine Wk ?_
    refine BrK.mk (fun h7 => ?_) (fun h7 => ?_) <;> (try rw [h7])
    · refine Wk ?_
      exact resP.mk rfl (Sees.int (by rw [if_pos (by simpa using h7)]))
    rw [if_neg (by simp at h7; simp; omega)]
    repeat ((conv => whnf); first | refine sJ ?_ | refine And.intro (by first | exact inbMap hlt | exact inbMap (by omega) | exact inbI (by omega) (by omega) | kernel_rfl) ?_ | rw [hmm] | rw [hmr] | rw [hmp])
    try (conv => whnf)
    refine BrK.mk (fun h8 => ?_) (fun h8 => ?_) <;> (try rw [h8])
    · refine Wk ?_
      exact resP.mk rfl (Sees.int (by rw [if_pos (.inl (by simpa using h8))]))
    repeat ((conv => whnf); first | refine sJ ?_ | refine And.intro (by first | exact inbMap hlt | exact inbMap (by omega) | exact inbI (by omega) (by omega) | kernel_rfl) ?_ | rw [hmm] | rw [hmr] | rw [hmp])
    try (conv => whnf)
    refine BrK.mk (fun h9 => ?_) (fun h9 => ?_) <;> (try rw [h9])
    · refine Wk ?_
      exact resP.mk rfl (Sees.int (by rw [if_pos (.inr (by simpa using h9))]))
    refine Wk ?_
    exact resP.mk rfl (Sees.int (by rw [if_neg (by simp at h8 h9; omega)]))
  · have hz : i = 0 := by simp at h6; omega
    subst hz
    rw [if_neg (by simp [linkO])]
    repeat ((conv => whnf); first | refine sJ ?_ | refine And.intro (by first | exact inbMap (k := 0) hlt | exact inbMap (k := 0) (by omega) | exact inbI (by omega) (by omega) | kernel_rfl) ?_ | rw [hmm] | rw [hmr] | rw [hmp])
    try (conv => whnf)
    refine BrK.mk (fun h8 => ?_) (fun h8 => ?_) <;> (try rw [h8])
    · refine Wk ?_
      exact resP.mk rfl (Sees.int (by rw [if_pos (.inl (by simpa using h8))]))
    repeat ((conv => whnf); first | refine sJ ?_ | refine And.intro (by first | exact inbMap (k := 0) hlt | exact inbMap (k := 0) (by omega) | exact inbI (by omega) (by omega) | kernel_rfl) ?_ | rw [hmm] | rw [hmr] | rw [hmp])
    try (conv => whnf)
    refine BrK.mk (fun h9 => ?_) (fun h9 => ?_) <;> (try rw [h9])
    · refine Wk ?_
      exact resP.mk rfl (Sees.int (by rw [if_pos (.inr (by simpa using h9))]))
    refine Wk ?_
    exact resP.mk rfl (Sees.int (by rw [if_neg (by simp at h8 h9; omega)]))

theorem c_netCheck (n : Net) (hn : n.small) : PCall Tryz.prog L 58 [n.av] (.int .i64 (netE n)) := by
  refine PCall.intro mixed [] (nt := 64) Tryz.func58 rfl rfl (by simp) ?_
  refine Wk ?_
  refine BrK.mk (fun h1 => ?_) (fun h1 => ?_) <;> (try rw [h1])
  · refine Wk ?_
    exact resP.mk rfl (Sees.int (by rw [netE, if_pos (.inl (by simpa using h1))]))
  refine Wk ?_
  refine BrK.mk (fun h2 => ?_) (fun h2 => ?_) <;> (try rw [h2])
  · refine Wk ?_
    exact resP.mk rfl (Sees.int (by rw [netE, if_pos (.inr (by simpa using h2))]))
  have h12 : ¬ (n.nodes < 2 ∨ 32 < n.nodes) := by simp at h1 h2; omega
  refine Wk ?_
  first | refine CallK.data rfl (c_checkPower L n hn) rfl ?_ | refine CallP.data rfl (c_checkPower L n hn) rfl ?_
  refine Wk ?_
  refine BrK.mk (fun h3 => ?_) (fun h3 => ?_) <;> (try rw [h3])
  · refine Wk ?_
    exact resP.mk rfl (Sees.int (by rw [netE, if_neg h12, if_pos (by simpa using h3)]))
  have hpe : powerE n = 0 := by simpa using h3
  obtain ⟨p1, p2, p3⟩ := powerE_ok hpe
  have e3 : ¬ (powerE n ≠ 0) := by simp [hpe]
  refine Wk ?_
  refine BrK.mk (fun h4 => ?_) (fun h4 => ?_) <;> (try rw [h4])
  · refine Wk ?_
    exact resP.mk rfl (Sees.int (by rw [netE, if_neg h12, if_neg e3, if_pos (by simp at h4; omega)]))
  refine Wk ?_
  refine BrK.mk (fun h5 => ?_) (fun h5 => ?_) <;> (try rw [h5])
  · refine Wk ?_
    exact resP.mk rfl (Sees.int (by rw [netE, if_neg h12, if_neg e3, if_pos (by simp at h5; omega)]))
  refine Wk ?_
  refine BrK.mk (fun h6 => ?_) (fun h6 => ?_) <;> (try rw [h6])
  · refine Wk ?_
    exact resP.mk rfl (Sees.int (by rw [netE, if_neg h12, if_neg e3, if_pos (by simp at h6; omega)]))
  refine Wk ?_
  refine BrK.mk (fun h7 => ?_) (fun h7 => ?_) <;> (try rw [h7])
  · refine Wk ?_
    exact resP.mk rfl (Sees.int (by rw [netE, if_neg h12, if_neg e3, if_pos (by simp at h7; omega)]))
  have e4 : ¬ (n.noise < 0 ∨ 68719476736 < n.noise ∨ n.thr < 1000 ∨ 100000 < n.thr) := by simp at h4 h5 h6 h7; omega
  refine Wk ?_
  refine BrK.mk (fun h8 => ?_) (fun h8 => ?_) <;> (try rw [h8])
  · refine Wk ?_
    exact resP.mk rfl (Sees.int (by rw [netE, if_neg h12, if_neg e3, if_neg e4, if_pos (by simp at h8; omega)]))
  have e5 : ¬ (128 < n.links.length) := by simp at h8; omega
  refine Wk ?_
  refine BrK.mk (fun h9 => ?_) (fun h9 => ?_) <;> (try rw [h9])
  · refine Wk ?_
    exact resP.mk rfl (Sees.int (by rw [netE, if_neg h12, if_neg e3, if_neg e4, if_neg e5, if_pos (by simp at h9; omega)]))
  have e6 : n.margin.length = n.links.length := by simp at h9; omega
  have hE : netE n = firstE (linkE n) n.links.length := by rw [netE, if_neg h12, if_neg e3, if_neg e4, if_neg e5, if_neg (by omega)]
  rw [hE]
  refine Wk ?_
  refine LoopK.run mixed [] (fun (k : Nat) => k ≤ n.links.length ∧ ∀ j, j < k → linkE n j = 0) (fun k => [(1, .ptr 0 0), (53, .int .i64 n.links.length), (54, .int .i64 k)]) (fun k => ⟨[.cells n.cs 26], [], 0, 0, fun _ => 0⟩) (fun k => n.links.length - k) 0 ⟨by simp, by simp⟩ ?_ ?_
  · refine Fits.mk' rfl rfl rfl rfl ?_ ?_ ?_ ?_ ?_ <;> repeat' (first | exact trivial | refine And.intro ?_ ?_ | exact Sees.of_eq rfl | exact lt_b rfl | rfl | exact Sees.int (by simp))
  rintro k ⟨hk, hinv⟩
  refine Wk ?_
  refine BrK.mk (fun hb => ?_) (fun hb => ?_) <;> (try rw [hb])
  · have hlt : k < n.links.length := by simpa using hb
    obtain ⟨l, hgl⟩ := getLt hlt
    refine Wk ?_
    first | refine CallK.data rfl (c_checkLink L n k l hgl e6 (by omega) p1 p2) rfl ?_ | refine CallP.data rfl (c_checkLink L n k l hgl e6 (by omega) p1 p2) rfl ?_
    refine Wk ?_
    refine BrK.mk (fun hc => ?_) (fun hc => ?_) <;> (try rw [hc])
    · refine Wk ?_
      exact resP.mk rfl (Sees.int (by rw [firstE_hit hinv (by simpa using hc) hlt]))
    · refine Wk ?_
      refine ⟨k + 1, ⟨by omega, fun j hj => ?_⟩, by omega, ?_⟩
      · rcases Nat.lt_succ_iff_lt_or_eq.1 hj with h | rfl
        · exact hinv j h
        · simpa using hc
      · refine Fits.mk' rfl rfl rfl rfl ?_ ?_ ?_ ?_ ?_ <;> repeat' (first | exact trivial | refine And.intro ?_ ?_ | exact Sees.of_eq rfl | exact lt_b rfl | rfl | exact Sees.int (succI hlt (by omega)))
  · have hk' : k = n.links.length := by simp at hb; omega
    subst hk'
    refine Wk ?_
    exact resP.mk rfl (Sees.int (by rw [firstE_zero hinv]))

theorem c_find (n : Net) (h : NetOk n) (a b : Int) : PCall Tryz.prog L 112 [n.av, .int .i64 a, .int .i64 b] (.int .i64 (findL n a b)) := by
  rw [← find_half h a b]
  have hc : ∀ x : Link, x.cmp ⟨a, b, 0⟩ = cmpTo a b x := fun x => rfl
  refine PCall.intro mixed [] (nt := 21) Tryz.func112 rfl rfl (by simp) ?_
  refine Wk ?_
  first | refine CallK.data rfl (c_BinLink L n.links ⟨a, b, 0⟩ 142 (cmpTo a b) (by have := h.many; omega) rfl (h.mono a b) (fun x _ => c_linkcmp L x ⟨a, b, 0⟩)) rfl ?_ | refine CallP.data rfl (c_BinLink L n.links ⟨a, b, 0⟩ 142 (cmpTo a b) (by have := h.many; omega) rfl (h.mono a b) (fun x _ => c_linkcmp L x ⟨a, b, 0⟩)) rfl ?_
  refine Wk ?_
  refine BrK.mk (fun h1 => ?_) (fun h1 => ?_) <;> (try rw [h1])
  · refine Wk ?_
    exact resP.mk rfl (Sees.int (by rw [if_neg (by simpa using h1)]))
  · refine Wk ?_
    exact resP.mk rfl (Sees.int (by rw [if_pos (by simpa using h1)]))

theorem c_index (n : Net) (hn : n.small) (a b : Int) : PCall Tryz.prog L 65 [n.av, .int .i64 a, .int .i64 b] (.int .i64 (indexN n a b)) := by
  refine PCall.intro mixed [] (nt := 14) Tryz.func65 rfl rfl (by simp) ?_
  refine Wk ?_
  first | refine CallK.data rfl (c_netCheck L n hn) rfl ?_ | refine CallP.data rfl (c_netCheck L n hn) rfl ?_
  refine Wk ?_
  refine BrK.mk (fun h1 => ?_) (fun h1 => ?_) <;> (try rw [h1])
  · refine Wk ?_
    exact resP.mk rfl (Sees.int (by rw [indexN, if_neg (by simpa using h1)]))
  · have h0 : netE n = 0 := by simpa using h1
    refine Wk ?_
    first | refine CallK.data rfl (c_find L n (netE_ok h0) a b) rfl ?_ | refine CallP.data rfl (c_find L n (netE_ok h0) a b) rfl ?_
    refine Wk ?_
    exact resP.mk rfl (Sees.int (by rw [indexN, if_pos h0]))

theorem heard_w (n : Net) (h : NetOk n) {s d : Int} (hs : 0 ≤ s ∧ s ≤ 8796093022208) (hd : 0 ≤ d ∧ d ≤ 8796093022208) :
    decide (IntKind.i64.wrap (n.thr * IntKind.i64.wrap (n.noise + d)) ≤ IntKind.i64.wrap (s * 1000)) = heardB n s d := by
  have h1 := h.noise
  have h2 := h.thr
  have h3 : 0 ≤ n.thr * (n.noise + d) := Int.mul_nonneg (by omega) (by omega)
  have h4 : n.thr * (n.noise + d) ≤ 100000 * 8864812498944 := Int.mul_le_mul (by omega) (by omega) (by omega) (by omega)
  rw [w64 (x := n.noise + d) (by omega) (by omega), w64 (by omega) (by omega), w64 (by omega) (by omega)]
  rfl

theorem c_hears (n : Net) (h : NetOk n) (s d : Int) (hs : 0 ≤ s ∧ s ≤ 8796093022208) (hd : 0 ≤ d ∧ d ≤ 8796093022208) : PCall Tryz.prog L 161 [n.av, .int .i64 s, .int .i64 d] (.bool (heardB n s d)) := by
  refine PCall.intro mixed [] (nt := 17) Tryz.func161 rfl rfl (by simp) ?_
  refine Wk ?_
  exact resP.mk rfl (Sees.bool (heard_w n h hs hd))

theorem NetOk.marginB {n : Net} (h : NetOk n) {k : Nat} (hk : k < n.links.length) : ∃ m, n.margin[k]? = some m ∧ 0 ≤ m ∧ m ≤ 8796093022208 := by
  obtain ⟨m, hm⟩ := getLt (l := n.margin) (k := k) (by rw [h.mar]; exact hk)
  obtain ⟨l, hl⟩ := getLt hk
  have := (h.link k l hl).2.2
  rw [List.getD_eq_getElem?_getD, hm] at this
  have hp := powAt_bd h.pow l.src l.dst
  simp only [Option.getD_some] at this
  exact ⟨m, hm, by omega, by omega⟩

theorem c_usable (n : Net) (h : NetOk n) (i : Int) (h0 : 0 ≤ i) (h1 : i < n.links.length) : PCall Tryz.prog L 156 [n.av, .int .i64 i] (.bool (usableL n i)) := by
  obtain ⟨k, rfl⟩ : ∃ k : Nat, i = k := ⟨i.toNat, by omega⟩
  have hlt : k < n.links.length := by omega
  obtain ⟨l, hgl⟩ := getLt hlt
  have hml := getMap (f := Link.av) hgl
  obtain ⟨m, hgm, hm0, hm1⟩ := h.marginB hlt
  have hmm := getMap (f := encI) hgm
  have hU : usableL n k = (decide (0 ≤ findL n l.dst l.src) && heardAt n k && heardAt n (findL n l.dst l.src)) := by unfold usableL; rw [Int.toNat_natCast, hgl]
  have hA : heardAt n k = heardB n m 0 := by unfold heardAt; rw [Int.toNat_natCast, List.getD_eq_getElem?_getD, hgm]; rfl
  rw [hU, hA]
  refine PCall.intro mixed [] (nt := 40) Tryz.func156 rfl rfl (by simp) ?_
  repeat ((conv => whnf); first | refine sJ ?_ | refine And.intro (by first | exact inbMap hlt | kernel_rfl) ?_ | rw [hml])
  try (conv => whnf)
  first | refine CallK.data rfl (c_find L n h l.dst l.src) rfl ?_ | refine CallP.data rfl (c_find L n h l.dst l.src) rfl ?_
  refine Wk ?_
  refine BrK.mk (fun g1 => ?_) (fun g1 => ?_) <;> (try rw [g1])
  · have g1' : 0 ≤ findL n l.dst l.src := by simpa using g1
    obtain ⟨k2, l2, e1, e2, _, _⟩ := findL_at g1'
    have hlt2 := (List.getElem?_eq_some_iff.1 e2).1
    obtain ⟨m2, hgm2, hm20, hm21⟩ := h.marginB hlt2
    have hmm2 := getMap (f := encI) hgm2
    have hA2 : heardAt n (findL n l.dst l.src) = heardB n m2 0 := by unfold heardAt; rw [e1, Int.toNat_natCast, List.getD_eq_getElem?_getD, hgm2]; rfl
    rw [hA2]
    rw [e1]
    repeat ((conv => whnf); first | refine sJ ?_ | refine And.intro (by first | exact inbMap (by rw [h.mar]; exact hlt) | kernel_rfl) ?_ | rw [hmm])
    try (conv => whnf)
    first | refine CallK.data rfl (c_hears L n h m 0 ⟨hm0, hm1⟩ (by omega)) rfl ?_ | refine CallP.data rfl (c_hears L n h m 0 ⟨hm0, hm1⟩ (by omega)) rfl ?_
    refine Wk ?_
    refine BrK.mk (fun g2 => ?_) (fun g2 => ?_) <;> (try rw [g2])
    · repeat ((conv => whnf); first | refine sJ ?_ | refine And.intro (by first | exact inbMap (by rw [h.mar]; exact hlt2) | kernel_rfl) ?_ | rw [hmm2])
      try (conv => whnf)
      first | refine CallK.data rfl (c_hears L n h m2 0 ⟨hm20, hm21⟩ (by omega)) rfl ?_ | refine CallP.data rfl (c_hears L n h m2 0 ⟨hm20, hm21⟩ (by omega)) rfl ?_
      refine Wk ?_
      exact resP.mk rfl (Sees.bool (by simp))
    · refine Wk ?_
      exact resP.mk rfl (Sees.bool (by simp))
  · refine Wk ?_
    exact resP.mk rfl (Sees.bool (by simp))

theorem c_Usable (n : Net) (hn : n.small) (i : Int) : PCall Tryz.prog L 128 [n.av, .int .i64 i] (.bool (usableN n i)) := by
  refine PCall.intro mixed [] (nt := 24) Tryz.func128 rfl rfl (by simp) ?_
  refine Wk ?_
  first | refine CallK.data rfl (c_netCheck L n hn) rfl ?_ | refine CallP.data rfl (c_netCheck L n hn) rfl ?_
  refine Wk ?_
  refine BrK.mk (fun h1 => ?_) (fun h1 => ?_) <;> (try rw [h1])
  · have h0 : netE n = 0 := by simpa using h1
    refine Wk ?_
    refine BrK.mk (fun h2 => ?_) (fun h2 => ?_) <;> (try rw [h2])
    · refine Wk ?_
      refine BrK.mk (fun h3 => ?_) (fun h3 => ?_) <;> (try rw [h3])
      · refine Wk ?_
        first | refine CallK.data rfl (c_usable L n (netE_ok h0) i (by simpa using h2) (by simpa using h3)) rfl ?_ | refine CallP.data rfl (c_usable L n (netE_ok h0) i (by simpa using h2) (by simpa using h3)) rfl ?_
        refine Wk ?_
        exact resP.mk rfl (Sees.bool (by simp at h2 h3; simp [usableN, h0, insB, h2, h3]))
      · refine Wk ?_
        exact resP.mk rfl (Sees.bool (by simp at h2 h3; simp [usableN, insB]; omega))
    · refine Wk ?_
      exact resP.mk rfl (Sees.bool (by simp at h2; simp [usableN, insB]; omega))
  · refine Wk ?_
    exact resP.mk rfl (Sees.bool (by simp at h1; simp [usableN, h1]))
end
end HM
