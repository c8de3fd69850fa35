/- The references on networks, flows and routes. -/
import Derived.Test.YtadgamkgpgiodaaGreatDoorS32

set_option maxRecDepth 100000
namespace HM
open Go Go.RowKit Go.Proofs
section
variable (L : World → Prop)

theorem c_in31 (n lo hi : Int) : PCall Tryz.prog L 17 [.int .i64 n, .int .i64 lo, .int .i64 hi] (.bool (inB n lo hi)) := by
  refine PCall.intro mixed [] (nt := 15) Tryz.func17 rfl rfl (by simp) ?_
  repeat' ((conv => whnf); first | refine sJ ?_ | refine And.intro (by first  | kernel_rfl) ?_  | (refine BrK.mk (fun hb => ?_) (fun hb => ?_) <;> (try rw [hb])))
  all_goals try (conv => whnf)
  all_goals exact resP.mk rfl (Sees.of_eq (by first | (simp_all [inB]; done) | (simp_all [inB]; omega)))





theorem inB_ins (a n : Int) : inB a 0 (n - 1) = insB a n := by rw [Bool.eq_iff_iff]; simp [inB, insB] <;> omega

theorem inB_bad (x : Int) : (!inB x 0 68719476736) = badP x := by
  rw [Bool.eq_iff_iff]; simp [inB, badP] <;> omega

theorem c_table (n : Net) (_hn : n.small) (h1 : 2 ≤ n.nodes) (h2 : n.nodes ≤ 32) : PCall Tryz.prog L 18 [n.av] (.int .i64 (powerE n)) := by
  obtain ⟨N, hN⟩ : ∃ N : Nat, n.nodes = N := ⟨n.nodes.toNat, by omega⟩
  refine PCall.intro mixed [] (nt := 49) Tryz.func18 rfl rfl (by simp) ?_
  refine Wk ?_
  refine BrK.mk (fun g1 => ?_) (fun g1 => ?_) <;> (try rw [g1])
  · refine Wk ?_
    exact resP.mk rfl (Sees.int (by rw [powerE, if_pos (.inl (by simpa using g1))]))
  have g1' : (n.power.length : Int) = n.nodes := by simpa using g1
  refine Wk ?_
  refine LoopK.run mixed [] (fun (k : Nat) => k ≤ N ∧ ∀ j r, j < k → n.power[j]? = some r → (r.length : Int) = n.nodes) (fun k => [(1, .ptr 0 0), (3, .int .i64 k)]) (fun k => ⟨[.cells n.cs 26], [], 0, 0, fun _ => 0⟩) (fun k => N - k) 0 ⟨by simp, by simp⟩ ?_ ?_
  · refine Fits.mk' rfl rfl rfl rfl ?_ ?_ ?_ ?_ ?_ <;> repeat' (first | exact trivial | refine And.intro ?_ ?_ | exact Sees.of_eq rfl | exact lt_b rfl | rfl )
  rintro k ⟨hk, hinv⟩
  refine Wk ?_
  refine BrK.mk (fun hb => ?_) (fun hb => ?_) <;> (try rw [hb])
  · have hlt : k < N := by simp [hN] at hb; omega
    obtain ⟨r, hgr⟩ := getLt (l := n.power) (k := k) (by omega)
    have hmr := getMap (f := encIs) hgr
    repeat ((conv => whnf); first | refine sJ ?_ | refine And.intro (by first | exact inbMap (by omega) | kernel_rfl) ?_ | rw [hmr])
    try (conv => whnf)
    refine BrK.mk (fun hc => ?_) (fun hc => ?_) <;> (try rw [hc])
    · refine Wk ?_
      exact resP.mk rfl (Sees.int (by rw [powerE, if_pos (.inr (by rw [List.any_eq_true]; exact ⟨r, List.mem_of_getElem? hgr, by simpa using hc⟩))]))
    · refine Wk ?_
      refine ⟨k + 1, ⟨by omega, fun j r' hj hr' => ?_⟩, by omega, ?_⟩
      · rcases Nat.lt_succ_iff_lt_or_eq.1 hj with h | rfl
        · exact hinv j r' h hr'
        · rw [hgr] at hr'; injection hr' with hr'; subst hr'; simpa using hc
      · refine Fits.mk' rfl rfl rfl rfl ?_ ?_ ?_ ?_ ?_ <;> repeat' (first | exact trivial | refine And.intro ?_ ?_ | exact Sees.of_eq rfl | exact lt_b rfl | rfl | exact Sees.int (succI hlt (by omega)))
  · have hk' : k = N := by simp [hN] at hb; omega
    subst hk'
    have hrows : ∀ r ∈ n.power, (r.length : Int) = n.nodes := fun r hr => by
      obtain ⟨j, hj⟩ := List.getElem?_of_mem hr
      have := (List.getElem?_eq_some_iff.1 hj).1
      exact hinv j r (by omega) hj
    have hE : powerE n = if n.power.any (fun r => r.any badP) then 2 else 0 := by
      rw [powerE, if_neg]
      simp only [not_or, ne_eq, Decidable.not_not, Bool.not_eq_true, List.any_eq_false, bne_iff_ne]
      exact ⟨g1', hrows⟩
    rw [hE]
    clear hinv
    refine Wk ?_
    refine LoopK.run mixed [] (fun (i : Nat) => i ≤ k ∧ ∀ j r, j < i → n.power[j]? = some r → r.any badP = false) (fun i => [(1, .ptr 0 0), (4, .int .i64 i)]) (fun i => ⟨[.cells n.cs 26], [], 0, 0, fun _ => 0⟩) (fun i => k - i) 0 ⟨by simp, by simp⟩ ?_ ?_
    · refine Fits.mk' rfl rfl rfl rfl ?_ ?_ ?_ ?_ ?_ <;> repeat' (first | exact trivial | refine And.intro ?_ ?_ | exact Sees.of_eq rfl | exact lt_b rfl | rfl )
    rintro i ⟨hi, hinv⟩
    refine Wk ?_
    refine BrK.mk (fun hd => ?_) (fun hd => ?_) <;> (try rw [hd])
    · have hlt : i < k := by simp [hN] at hd; omega
      obtain ⟨r, hgr⟩ := getLt (l := n.power) (k := i) (by omega)
      have hmr := getMap (f := encIs) hgr
      have hrl := hrows r (List.mem_of_getElem? hgr)
      refine Wk ?_
      refine LoopK.run mixed [] (fun (j : Nat) => j ≤ k ∧ ∀ m x, m < j → r[m]? = some x → badP x = false) (fun j => [(1, .ptr 0 0), (4, .int .i64 i), (5, .int .i64 j)]) (fun j => ⟨[.cells n.cs 26], [], 0, 0, fun _ => 0⟩) (fun j => k - j) 0 ⟨by simp, by simp⟩ ?_ ?_
      · refine Fits.mk' rfl rfl rfl rfl ?_ ?_ ?_ ?_ ?_ <;> repeat' (first | exact trivial | refine And.intro ?_ ?_ | exact Sees.of_eq rfl | exact lt_b rfl | rfl )
      rintro j ⟨hj, hinv2⟩
      refine Wk ?_
      refine BrK.mk (fun he => ?_) (fun he => ?_) <;> (try rw [he])
      · have hjt : j < k := by simp [hN] at he; omega
        obtain ⟨x, hgx⟩ := getLt (l := r) (k := j) (by omega)
        have hmx := getMap (f := encI) hgx
        repeat ((conv => whnf); first | refine sJ ?_ | refine And.intro (by first | exact inbMap (by omega) | kernel_rfl) ?_ | rw [hmr] | rw [hmx])
        try (conv => whnf)
        first | refine CallK.data rfl (c_in31 L _ _ _) rfl ?_ | refine CallP.data rfl (c_in31 L _ _ _) rfl ?_
        refine Wk ?_
        rw [inB_bad]
        refine BrK.mk (fun hf => ?_) (fun hf => ?_) <;> (try rw [hf])
        · refine Wk ?_
          exact resP.mk rfl (Sees.int (by rw [if_pos]; rw [List.any_eq_true]; exact ⟨r, List.mem_of_getElem? hgr, List.any_eq_true.2 ⟨x, List.mem_of_getElem? hgx, hf⟩⟩))
        · refine Wk ?_
          refine ⟨j + 1, ⟨by omega, fun m y hm hy => ?_⟩, by omega, ?_⟩
          · rcases Nat.lt_succ_iff_lt_or_eq.1 hm with h | rfl
            · exact hinv2 m y h hy
            · rw [hgx] at hy; injection hy with hy; subst hy; exact hf
          · refine Fits.mk' rfl rfl rfl rfl ?_ ?_ ?_ ?_ ?_ <;> repeat' (first | exact trivial | refine And.intro ?_ ?_ | exact Sees.of_eq rfl | exact lt_b rfl | rfl | exact Sees.int (succI hjt (by omega)))
      · have hjk : j = k := by simp [hN] at he; omega
        subst hjk
        refine Wk ?_
        refine ⟨i + 1, ⟨by omega, fun m r' hm hr' => ?_⟩, by omega, ?_⟩
        · rcases Nat.lt_succ_iff_lt_or_eq.1 hm with h | rfl
          · exact hinv m r' h hr'
          · rw [hgr] at hr'; injection hr' with hr'; subst hr'
            rw [List.any_eq_false]
            intro x hx
            obtain ⟨m, hm⟩ := List.getElem?_of_mem hx
            have := (List.getElem?_eq_some_iff.1 hm).1
            simp [hinv2 m x (by omega) hm]
        · refine Fits.mk' rfl rfl rfl rfl ?_ ?_ ?_ ?_ ?_ <;> repeat' (first | exact trivial | refine And.intro ?_ ?_ | exact Sees.of_eq rfl | exact lt_b rfl | rfl | exact Sees.int (succI hlt (by omega)))
    · have hik : i = k := by simp [hN] at hd; omega
      subst hik
      refine Wk ?_
      refine resP.mk rfl (Sees.int ?_)
      rw [if_neg]
      simp only [Bool.not_eq_true]
      rw [List.any_eq_false]
      intro r hr
      obtain ⟨m, hm⟩ := List.getElem?_of_mem hr
      have := (List.getElem?_eq_some_iff.1 hm).1
      rw [hinv m r (by omega) hm]; simp

theorem link_lt {p l : Link} : decide (p.cmp l < 0) = !(decide (l.src < p.src) || (p.src == l.src && decide (l.dst ≤ p.dst))) := by
  unfold Link.cmp Link.key cmpL cmpL cmpL
  rw [Bool.eq_iff_iff]
  by_cases h1 : p.src = l.src
  · rw [if_pos (cmpI_eq.2 h1)]
    by_cases h2 : p.dst = l.dst
    · rw [if_pos (cmpI_eq.2 h2)]; simp [h1, h2]
    · rw [if_neg (fun h => h2 (cmpI_eq.1 h))]
      simp [cmpI_lt, h1] <;> omega
  · rw [if_neg (fun h => h1 (cmpI_eq.1 h))]
    simp [cmpI_lt, h1] <;> omega

theorem c_link31 (n : Net) (i : Nat) (l : Link) (hl : n.links[i]? = some l) (hm : n.margin.length = n.links.length) (hb : n.links.length ≤ 128) (hn1 : 2 ≤ n.nodes ∧ n.nodes ≤ 32) (hp1 : (n.power.length : Int) = n.nodes) (hp2 : ∀ r ∈ n.power, (r.length : Int) = n.nodes) :
    PCall Tryz.prog L 19 [n.av, .int .i64 i] (.int .i64 (linkE n i)) := by
  have hlt := (List.getElem?_eq_some_iff.1 hl).1
  have hmx := getMap (f := Link.av) hl
  obtain ⟨m, hgm⟩ := getLt (l := n.margin) (k := i) (by omega)
  have hmm := getMap (f := encI) hgm
  have hgd : n.margin.getD i 0 = m := by rw [List.getD_eq_getElem?_getD, hgm]; rfl
  have hE : linkE n i = if linkR n l = false then 2 else if linkO n i l = false then 5 else if n.margin.getD i 0 < 0 ∨ powAt n l.src l.dst < n.margin.getD i 0 then 2 else 0 := by rw [linkE, hl]
  have hwn : IntKind.i64.wrap (n.nodes - 1) = n.nodes - 1 := w64 (by omega) (by omega)
  rw [hE, hgd]
  refine PCall.intro mixed [] (nt := 95) Tryz.func19 rfl rfl (by simp) ?_
  repeat ((conv => whnf); first | refine sJ ?_ | refine And.intro (by first | exact inbMap hlt | kernel_rfl) ?_ | rw [hmx])
  try (conv => whnf)
  rw [hwn]
  first | refine CallK.data rfl (c_in31 L _ _ _) rfl ?_ | refine CallP.data rfl (c_in31 L _ _ _) rfl ?_
  rw [inB_ins]
  refine Wk ?_
  refine BrK.mk (fun h1 => ?_) (fun h1 => ?_) <;> (try rw [h1])
  · refine Wk ?_
    exact resP.mk rfl (Sees.int (by rw [if_pos (by simp at h1; simp [linkR, h1])]))
  refine Wk ?_
  rw [hwn]
  first | refine CallK.data rfl (c_in31 L _ _ _) rfl ?_ | refine CallP.data rfl (c_in31 L _ _ _) rfl ?_
  rw [inB_ins]
  refine Wk ?_
  refine BrK.mk (fun h2 => ?_) (fun h2 => ?_) <;> (try rw [h2])
  · refine Wk ?_
    exact resP.mk rfl (Sees.int (by rw [if_pos (by simp at h2; simp [linkR, h2])]))
  clear hwn
  refine Wk ?_
  refine BrK.mk (fun h3 => ?_) (fun h3 => ?_) <;> (try rw [h3])
  · refine Wk ?_
    exact resP.mk rfl (Sees.int (by rw [if_pos (by simp at h3; simp [linkR, h3])]))
  refine Wk ?_
  first | refine CallK.data rfl (c_in31 L _ _ _) rfl ?_ | refine CallP.data rfl (c_in31 L _ _ _) rfl ?_
  refine Wk ?_
  refine BrK.mk (fun h4 => ?_) (fun h4 => ?_) <;> (try rw [h4])
  · refine Wk ?_
    exact resP.mk rfl (Sees.int (by rw [if_pos (by simp [inB] at h4; simp [linkR]; omega)]))
  have hR : linkR n l = true := by simp [inB] at h1 h2 h3 h4; simp [linkR, h1, h2, h3]; omega
  have hbd := linkR_bd hR
  rw [if_neg (by simp [hR])]
  obtain ⟨r, hgr⟩ := getLt (l := n.power) (k := l.src.toNat) (by omega)
  have hmr := getMapI (f := encIs) hgr
  have hrl := hp2 r (List.mem_of_getElem? hgr)
  obtain ⟨x, hgx⟩ := getLt (l := r) (k := l.dst.toNat) (by omega)
  have hmp := getMapI (f := encI) hgx
  have hpow : powAt n l.src l.dst = x := by
    unfold powAt
    rw [List.getD_eq_getElem?_getD, List.getD_eq_getElem?_getD, hgr]
    simp [hgx]
  rw [hpow]
  have fin : ∀ b : Bool, b = inB m 0 x → (if m < 0 ∨ x < m then (2 : Int) else 0) = if b then 0 else 2 := fun b hb => by
    subst hb
    by_cases h : m < 0 ∨ x < m
    · rw [if_pos h, if_neg (by simp [inB]; omega)]
    · rw [if_neg h, if_pos (by simp [inB]; omega)]
  refine Wk ?_
  refine BrK.mk (fun h6 => ?_) (fun h6 => ?_) <;> (try rw [h6])
  · have hpos : 0 < i := by simpa using h6
    obtain ⟨j, rfl⟩ : ∃ j, i = j + 1 := ⟨i - 1, by omega⟩
    obtain ⟨p, hgp⟩ := getLt (l := n.links) (k := j) (by omega)
    have hmp' := getMap (f := Link.av) hgp
    have hw : IntKind.i64.wrap (((j + 1 : Nat) : Int) - 1) = (j : Int) := by rw [w64] <;> omega
    have hO : linkO n (j + 1) l = decide (p.cmp l < 0) := by simp only [linkO, hgp]
    rw [hO, link_lt]
    repeat ((conv => whnf); first | refine sJ ?_ | refine And.intro (by first | (rw [hw]; exact inbMap (by omega)) | kernel_rfl) ?_ | rw [hw] | rw [hmp'])
    try (conv => whnf)
    refine BrK.mk (fun h7 => ?_) (fun h7 => ?_) <;> (try rw [h7])
    · refine Wk ?_
      exact resP.mk rfl (Sees.int (by simp at h7; rw [if_pos (by simp)]))
    repeat ((conv => whnf); first | refine sJ ?_ | refine And.intro (by first | (rw [hw]; exact inbMap (by omega)) | kernel_rfl) ?_ | rw [hw] | rw [hmp'])
    try (conv => whnf)
    refine BrK.mk (fun h8 => ?_) (fun h8 => ?_) <;> (try rw [h8])
    · repeat ((conv => whnf); first | refine sJ ?_ | refine And.intro (by first | (rw [hw]; exact inbMap (by omega)) | kernel_rfl) ?_ | rw [hw] | rw [hmp'])
      try (conv => whnf)
      refine BrK.mk (fun h9 => ?_) (fun h9 => ?_) <;> (try rw [h9])
      · refine Wk ?_
        exact resP.mk rfl (Sees.int (by simp at h7 h8 h9; rw [if_pos (by simp)]))
      rw [if_neg (by simp at h7 h8 h9; simp)]
      clear hw hmp'
      repeat ((conv => whnf); first | refine sJ ?_ | refine And.intro (by first | exact inbMap hlt | exact inbMap (by omega) | exact inbI (by omega) (by omega) | kernel_rfl) ?_ | rw [hmm] | rw [hmr] | rw [hmp])
      try (conv => whnf)
      first | refine CallK.data rfl (c_in31 L _ _ _) rfl ?_ | refine CallP.data rfl (c_in31 L _ _ _) rfl ?_
      refine Wk ?_
      refine BrK.mk (fun h10 => ?_) (fun h10 => ?_) <;> (try rw [h10])
      · refine Wk ?_
        exact resP.mk rfl (Sees.int (by rw [fin _ rfl, if_neg (by simpa using h10)]))
      · refine Wk ?_
        exact resP.mk rfl (Sees.int (by rw [fin _ rfl, if_pos (by simpa using h10)]))
    · rw [if_neg (by simp at h7 h8; simp)]
      clear hw hmp'
      repeat ((conv => whnf); first | refine sJ ?_ | refine And.intro (by first | exact inbMap hlt | exact inbMap (by omega) | exact inbI (by omega) (by omega) | kernel_rfl) ?_ | rw [hmm] | rw [hmr] | rw [hmp])
      try (conv => whnf)
      first | refine CallK.data rfl (c_in31 L _ _ _) rfl ?_ | refine CallP.data rfl (c_in31 L _ _ _) rfl ?_
      refine Wk ?_
      refine BrK.mk (fun h10 => ?_) (fun h10 => ?_) <;> (try rw [h10])
      · refine Wk ?_
        exact resP.mk rfl (Sees.int (by rw [fin _ rfl, if_neg (by simpa using h10)]))
      · refine Wk ?_
        exact resP.mk rfl (Sees.int (by rw [fin _ rfl, if_pos (by simpa using h10)]))
  · have hz : i = 0 := by simp at h6; omega
    subst hz
    rw [if_neg (by simp [linkO])]
    repeat ((conv => whnf); first | refine sJ ?_ | refine And.intro (by first | exact inbMap (k := 0) hlt | exact inbMap (k := 0) (by omega) | exact inbI (by omega) (by omega) | kernel_rfl) ?_ | rw [hmm] | rw [hmr] | rw [hmp])
    try (conv => whnf)
    first | refine CallK.data rfl (c_in31 L _ _ _) rfl ?_ | refine CallP.data rfl (c_in31 L _ _ _) rfl ?_
    refine Wk ?_
    refine BrK.mk (fun h10 => ?_) (fun h10 => ?_) <;> (try rw [h10])
    · refine Wk ?_
      exact resP.mk rfl (Sees.int (by rw [fin _ rfl, if_neg (by simpa using h10)]))
    · refine Wk ?_
      exact resP.mk rfl (Sees.int (by rw [fin _ rfl, if_pos (by simpa using h10)]))

theorem c_Check31 (n : Net) (hn : n.small) : PCall Tryz.prog L 6 [n.av] (.int .i64 (netE n)) := by
  refine PCall.intro mixed [] (nt := 48) Tryz.func6 rfl rfl (by simp) ?_
  refine Wk ?_
  first | refine CallK.data rfl (c_in31 L _ _ _) rfl ?_ | refine CallP.data rfl (c_in31 L _ _ _) rfl ?_
  refine Wk ?_
  refine BrK.mk (fun h1 => ?_) (fun h1 => ?_) <;> (try rw [h1])
  · refine Wk ?_
    exact resP.mk rfl (Sees.int (by rw [netE, if_pos (by simp [inB] at h1; omega)]))
  have h12 : ¬ (n.nodes < 2 ∨ 32 < n.nodes) := by simp [inB] at h1; omega
  refine Wk ?_
  first | refine CallK.data rfl (c_table L n hn (by omega) (by omega)) rfl ?_ | refine CallP.data rfl (c_table L n hn (by omega) (by omega)) rfl ?_
  refine Wk ?_
  refine BrK.mk (fun h3 => ?_) (fun h3 => ?_) <;> (try rw [h3])
  · refine Wk ?_
    exact resP.mk rfl (Sees.int (by rw [netE, if_neg h12, if_pos (by simpa using h3)]))
  have hpe : powerE n = 0 := by simpa using h3
  obtain ⟨p1, p2, p3⟩ := powerE_ok hpe
  have e3 : ¬ (powerE n ≠ 0) := by simp [hpe]
  refine Wk ?_
  first | refine CallK.data rfl (c_in31 L _ _ _) rfl ?_ | refine CallP.data rfl (c_in31 L _ _ _) rfl ?_
  refine Wk ?_
  refine BrK.mk (fun h4 => ?_) (fun h4 => ?_) <;> (try rw [h4])
  · refine Wk ?_
    exact resP.mk rfl (Sees.int (by rw [netE, if_neg h12, if_neg e3, if_pos (by simp [inB] at h4; omega)]))
  refine Wk ?_
  first | refine CallK.data rfl (c_in31 L _ _ _) rfl ?_ | refine CallP.data rfl (c_in31 L _ _ _) rfl ?_
  refine Wk ?_
  refine BrK.mk (fun h5 => ?_) (fun h5 => ?_) <;> (try rw [h5])
  · refine Wk ?_
    exact resP.mk rfl (Sees.int (by rw [netE, if_neg h12, if_neg e3, if_pos (by simp [inB] at h5; omega)]))
  have e4 : ¬ (n.noise < 0 ∨ 68719476736 < n.noise ∨ n.thr < 1000 ∨ 100000 < n.thr) := by simp [inB] at h4 h5; omega
  refine Wk ?_
  refine BrK.mk (fun h8 => ?_) (fun h8 => ?_) <;> (try rw [h8])
  · refine Wk ?_
    exact resP.mk rfl (Sees.int (by rw [netE, if_neg h12, if_neg e3, if_neg e4, if_pos (by simp at h8; omega)]))
  have e5 : ¬ (128 < n.links.length) := by simp at h8; omega
  refine Wk ?_
  refine BrK.mk (fun h9 => ?_) (fun h9 => ?_) <;> (try rw [h9])
  · refine Wk ?_
    exact resP.mk rfl (Sees.int (by rw [netE, if_neg h12, if_neg e3, if_neg e4, if_neg e5, if_pos (by simp at h9; omega)]))
  have e6 : n.margin.length = n.links.length := by simp at h9; omega
  have hE : netE n = firstE (linkE n) n.links.length := by rw [netE, if_neg h12, if_neg e3, if_neg e4, if_neg e5, if_neg (by omega)]
  rw [hE]
  refine Wk ?_
  refine LoopK.run mixed [] (fun (k : Nat) => k ≤ n.links.length ∧ ∀ j, j < k → linkE n j = 0) (fun k => [(1, .ptr 0 0), (4, .int .i64 k)]) (fun k => ⟨[.cells n.cs 26], [], 0, 0, fun _ => 0⟩) (fun k => n.links.length - k) 0 ⟨by simp, by simp⟩ ?_ ?_
  · refine Fits.mk' rfl rfl rfl rfl ?_ ?_ ?_ ?_ ?_ <;> repeat' (first | exact trivial | refine And.intro ?_ ?_ | exact Sees.of_eq rfl | exact lt_b rfl | rfl )
  rintro k ⟨hk, hinv⟩
  refine Wk ?_
  refine BrK.mk (fun hb => ?_) (fun hb => ?_) <;> (try rw [hb])
  · have hlt : k < n.links.length := by simpa using hb
    obtain ⟨l, hgl⟩ := getLt hlt
    refine Wk ?_
    first | refine CallK.data rfl (c_link31 L n k l hgl e6 (by omega) (by omega) p1 p2) rfl ?_ | refine CallP.data rfl (c_link31 L n k l hgl e6 (by omega) (by omega) p1 p2) rfl ?_
    refine Wk ?_
    refine BrK.mk (fun hc => ?_) (fun hc => ?_) <;> (try rw [hc])
    · refine Wk ?_
      exact resP.mk rfl (Sees.int (by rw [firstE_hit hinv (by simpa using hc) hlt]))
    · refine Wk ?_
      refine ⟨k + 1, ⟨by omega, fun j hj => ?_⟩, by omega, ?_⟩
      · rcases Nat.lt_succ_iff_lt_or_eq.1 hj with h | rfl
        · exact hinv j h
        · simpa using hc
      · refine Fits.mk' rfl rfl rfl rfl ?_ ?_ ?_ ?_ ?_ <;> repeat' (first | exact trivial | refine And.intro ?_ ?_ | exact Sees.of_eq rfl | exact lt_b rfl | rfl | exact Sees.int (succI hlt (by omega)))
  · have hk' : k = n.links.length := by simp at hb; omega
    subst hk'
    refine Wk ?_
    exact resP.mk rfl (Sees.int (by rw [firstE_zero hinv]))

















