/- Who makes an attempt has the frame; and whoever could make an attempt makes it. -/
import Derived.Test.YtnhelkbmeggpkaaDoorS84
import Derived.Test.YtnhelkbmeggpkaaDoorS69
import Derived.Test.YtnhelkbmeggpkaaDoorDb

set_option maxRecDepth 100000
namespace HM
open Go Go.RowKit Go.Proofs

def hoB (s : Sched) (R : List Att) (D : List Del) : List Ob := [.cells s.av.cells 32, .cells [encAtts R, encDels D] 37]
set_option maxHeartbeats 8000000 in
theorem c_RunHolds (l : List Flow) (s : Sched) (x : List Rule) (slots : Int) (hl : l.length ≤ 281474976710656) (hsc : s.cells.length ≤ 281474976710656) (hx : ∀ r ∈ x, r.outs.length ≤ 281474976710656) (hxl : x.length ≤ 281474976710656) :
    PCall Tryd.prog LW 4 [encFlows l, s.av, encScript x, .int .i64 slots] (.bool true) := by
  refine PCall.intro mixed [] (nt := 206) Tryd.func4 rfl rfl (by simp) ?_
  repeat ((conv => whnf); first | (refine And.intro (by first | rfl | exact ⟨rfl, rfl⟩ | exact Or.inl ⟨_, rfl⟩ | exact Or.inr rfl | exact le_b rfl | ((repeat' (first | exact Els.nil _ | refine Els.cons rfl rfl ?_)); done) | exact Els.map (fun _ => ⟨rfl, rfl⟩)  | kernel_rfl) ?_) )
  try (conv => whnf)
  first | refine CallK.data rfl (c_awake36) rfl ?_ | refine CallP.data rfl (c_awake36) rfl ?_
  repeat ((conv => whnf); first | (refine And.intro (by first | rfl | exact ⟨rfl, rfl⟩ | exact Or.inl ⟨_, rfl⟩ | exact Or.inr rfl | exact le_b rfl | ((repeat' (first | exact Els.nil _ | refine Els.cons rfl rfl ?_)); done) | exact Els.map (fun _ => ⟨rfl, rfl⟩)  | kernel_rfl) ?_) )
  try (conv => whnf)
  first | refine CallK.data rfl (c_Few36 LW l s [] x slots) rfl ?_ | refine CallP.data rfl (c_Few36 LW l s [] x slots) rfl ?_
  repeat ((conv => whnf); first | (refine And.intro (by first | rfl | exact ⟨rfl, rfl⟩ | exact Or.inl ⟨_, rfl⟩ | exact Or.inr rfl | exact le_b rfl | ((repeat' (first | exact Els.nil _ | refine Els.cons rfl rfl ?_)); done) | exact Els.map (fun _ => ⟨rfl, rfl⟩)  | kernel_rfl) ?_) )
  try (conv => whnf)
  refine BrK.mk (fun hfew => ?_) (fun hfew => ?_) <;> (try rw [hfew])
  · repeat ((conv => whnf); first | (refine And.intro (by first | rfl | exact ⟨rfl, rfl⟩ | exact Or.inl ⟨_, rfl⟩ | exact Or.inr rfl | exact le_b rfl | ((repeat' (first | exact Els.nil _ | refine Els.cons rfl rfl ?_)); done) | exact Els.map (fun _ => ⟨rfl, rfl⟩)  | kernel_rfl) ?_) )
    try (conv => whnf)
    exact resP.mk rfl (Sees.bool rfl)
  repeat ((conv => whnf); first | (refine And.intro (by first | rfl | exact ⟨rfl, rfl⟩ | exact Or.inl ⟨_, rfl⟩ | exact Or.inr rfl | exact le_b rfl | ((repeat' (first | exact Els.nil _ | refine Els.cons rfl rfl ?_)); done) | exact Els.map (fun _ => ⟨rfl, rfl⟩)  | kernel_rfl) ?_) )
  try (conv => whnf)
  first | refine CallK.data rfl (c_Play l s x slots hl hx hxl) rfl ?_ | refine CallP.data rfl (c_Play l s x slots hl hx hxl) rfl ?_
  repeat ((conv => whnf); first | (refine And.intro (by first | rfl | exact ⟨rfl, rfl⟩ | exact Or.inl ⟨_, rfl⟩ | exact Or.inr rfl | exact le_b rfl | ((repeat' (first | exact Els.nil _ | refine Els.cons rfl rfl ?_)); done) | exact Els.map (fun _ => ⟨rfl, rfl⟩)  | kernel_rfl) ?_) )
  try (conv => whnf)
  refine BrK.mk (fun h1 => ?_) (fun h1 => ?_) <;> (try rw [h1])
  · repeat ((conv => whnf); first | (refine And.intro (by first | rfl | exact ⟨rfl, rfl⟩ | exact Or.inl ⟨_, rfl⟩ | exact Or.inr rfl | exact le_b rfl | ((repeat' (first | exact Els.nil _ | refine Els.cons rfl rfl ?_)); done) | exact Els.map (fun _ => ⟨rfl, rfl⟩)  | kernel_rfl) ?_) )
    try (conv => whnf)
    exact resP.mk rfl (Sees.bool rfl)
  have h1' : (playM l s x slots).2 = 0 := by simpa using h1
  have hready : readyM l s x slots = 0 := Classical.byContradiction fun hh => by rw [playM_bad hh] at h1'; exact hh h1'
  obtain ⟨r1, r2, r3, r4, r5⟩ := ready_all hready
  have hF := flowsOk_of r1
  have hlen16 := hF.len
  have hcl := (form_all r2).2.1
  obtain ⟨R, hR⟩ : ∃ R, R = (playR l (fun _ => s) x slots.toNat).atts := ⟨_, rfl⟩
  obtain ⟨D, hD⟩ : ∃ D, D = (playR l (fun _ => s) x slots.toNat).dels := ⟨_, rfl⟩
  rw [playM_R hready, ← hR, ← hD]
  have hgen := playR_gen l (fun _ => s) x slots.toNat slots.toNat (Nat.le_refl _)
  rw [← hR] at hgen
  have hRl : R.length ≤ 2097152 := by
    have := play_len (l := l) (fun _ => s) x (m := 512) (fun _ => hcl) slots.toNat
    have hs := playV_R hF (fun _ => s) x slots.toNat (by omega)
    rw [hR, hs.at_]
    omega
  repeat ((conv => whnf); first | (refine And.intro (by first | rfl | exact ⟨rfl, rfl⟩ | exact Or.inl ⟨_, rfl⟩ | exact Or.inr rfl | exact le_b rfl | ((repeat' (first | exact Els.nil _ | refine Els.cons rfl rfl ?_)); done) | exact Els.map (fun _ => ⟨rfl, rfl⟩)  | kernel_rfl) ?_) )
  try (conv => whnf)
  refine LoopK.run mixed [] (fun (t : Nat) => (t : Int) ≤ slots) (fun t => [(0, encFlows l), (5, .ptr 0 0), (9, .ptr 1 0), (11, .int .i64 (genP l s R t 0).length), (40, .int .i64 slots), (41, .int .i64 t)]) (fun _ => ⟨hoB s R D, [], 0, 0, fun _ => 0⟩) (fun t => slots.toNat - t) 0 (by omega) ?_ ?_
  · refine Fits.mk' rfl rfl rfl rfl ?_ ?_ ?_ ?_ ?_ <;> repeat' (first | exact trivial | refine And.intro ?_ ?_ | exact Sees.of_eq rfl | exact lt_b rfl | rfl | exact SeesL.rfl' _)
  rintro t ht
  repeat ((conv => whnf); first | (refine And.intro (by first | rfl | exact ⟨rfl, rfl⟩ | exact Or.inl ⟨_, rfl⟩ | exact Or.inr rfl | exact le_b rfl | ((repeat' (first | exact Els.nil _ | refine Els.cons rfl rfl ?_)); done) | exact Els.map (fun _ => ⟨rfl, rfl⟩)  | kernel_rfl) ?_) )
  try (conv => whnf)
  refine BrK.mk (fun hb => ?_) (fun hb => ?_) <;> (try rw [hb])
  · have hlt : (t : Int) < slots := by simpa using hb
    obtain ⟨cs, hcs⟩ : ∃ cs, cs = atM s (t : Nat) := ⟨_, rfl⟩
    have hcsl : cs.length ≤ 512 := by rw [hcs]; exact Nat.le_trans (at_len s _) hcl
    repeat ((conv => whnf); first | (refine And.intro (by first | rfl | exact ⟨rfl, rfl⟩ | exact Or.inl ⟨_, rfl⟩ | exact Or.inr rfl | exact le_b rfl | ((repeat' (first | exact Els.nil _ | refine Els.cons rfl rfl ?_)); done) | exact Els.map (fun _ => ⟨rfl, rfl⟩)  | kernel_rfl) ?_) )
    try (conv => whnf)
    first | refine CallK.data rfl (c_At LW s (t : Nat) hsc (by omega)) rfl ?_ | refine CallP.data rfl (c_At LW s (t : Nat) hsc (by omega)) rfl ?_
    rw [← hcs]
    repeat ((conv => whnf); first | (refine And.intro (by first | rfl | exact ⟨rfl, rfl⟩ | exact Or.inl ⟨_, rfl⟩ | exact Or.inr rfl | exact le_b rfl | ((repeat' (first | exact Els.nil _ | refine Els.cons rfl rfl ?_)); done) | exact Els.map (fun _ => ⟨rfl, rfl⟩)  | kernel_rfl) ?_) )
    try (conv => whnf)
    refine LoopK.run mixed [] (fun (j : Nat) => j ≤ cs.length) (fun j => [(0, encFlows l), (5, .ptr 0 0), (9, .ptr 1 0), (11, .int .i64 (genP l s R t j).length), (12, .int .i64 t), (40, .int .i64 slots), (41, .int .i64 t), (46, encCells cs), (47, .int .i64 cs.length), (48, .int .i64 j)]) (fun _ => ⟨hoB s R D, [], 0, 0, fun _ => 0⟩) (fun j => cs.length - j) 0 (by omega) ?_ ?_
    · refine Fits.mk' rfl rfl rfl rfl ?_ ?_ ?_ ?_ ?_ <;> repeat' (first | exact trivial | refine And.intro ?_ ?_ | exact Sees.of_eq rfl | exact lt_b rfl | rfl | exact SeesL.rfl' _ | exact Sees.int (by simp))
    rintro j hj
    repeat ((conv => whnf); first | (refine And.intro (by first | rfl | exact ⟨rfl, rfl⟩ | exact Or.inl ⟨_, rfl⟩ | exact Or.inr rfl | exact le_b rfl | ((repeat' (first | exact Els.nil _ | refine Els.cons rfl rfl ?_)); done) | exact Els.map (fun _ => ⟨rfl, rfl⟩)  | kernel_rfl) ?_) )
    try (conv => whnf)
    refine BrK.mk (fun hb2 => ?_) (fun hb2 => ?_) <;> (try rw [hb2])
    · have hjt : j < cs.length := by simpa using hb2
      obtain ⟨c, hgc⟩ := getLt hjt
      have hmc := getMap (f := Cell.av) hgc
      have hwj : IntKind.i64.wrap ((j : Int) + 1) = ((j + 1 : Nat) : Int) := by rw [w64] <;> omega
      rw [hcs] at hgc
      repeat ((conv => whnf); first | (refine And.intro (by first | rfl | exact ⟨rfl, rfl⟩ | exact Or.inl ⟨_, rfl⟩ | exact Or.inr rfl | exact le_b rfl | ((repeat' (first | exact Els.nil _ | refine Els.cons rfl rfl ?_)); done) | exact Els.map (fun _ => ⟨rfl, rfl⟩) | exact inbMap hjt | kernel_rfl) ?_) | rw [hmc])
      try (conv => whnf)
      first | refine CallK.data rfl (c_Find LW l c.flow hl) rfl ?_ | refine CallP.data rfl (c_Find LW l c.flow hl) rfl ?_
      repeat ((conv => whnf); first | (refine And.intro (by first | rfl | exact ⟨rfl, rfl⟩ | exact Or.inl ⟨_, rfl⟩ | exact Or.inr rfl | exact le_b rfl | ((repeat' (first | exact Els.nil _ | refine Els.cons rfl rfl ?_)); done) | exact Els.map (fun _ => ⟨rfl, rfl⟩)  | kernel_rfl) ?_) )
      try (conv => whnf)
      refine BrK.mk (fun hk => ?_) (fun hk => ?_) <;> (try rw [hk])
      · have hnone : genB l R (t : Nat) c = none := by unfold genB; rw [if_pos (by simpa using hk)]
        repeat ((conv => whnf); first | (refine And.intro (by first | rfl | exact ⟨rfl, rfl⟩ | exact Or.inl ⟨_, rfl⟩ | exact Or.inr rfl | exact le_b rfl | ((repeat' (first | exact Els.nil _ | refine Els.cons rfl rfl ?_)); done) | exact Els.map (fun _ => ⟨rfl, rfl⟩)  | kernel_rfl) ?_) )
        try (conv => whnf)
        refine ⟨j + 1, by omega, by omega, ?_⟩
        rw [genP_miss hgc hnone]
        refine Fits.mk' rfl rfl rfl rfl ?_ ?_ ?_ ?_ ?_ <;> repeat' (first | exact trivial | refine And.intro ?_ ?_ | exact Sees.of_eq rfl | exact lt_b rfl | rfl | exact SeesL.rfl' _ | exact Sees.int hwj)
      obtain ⟨i, f, e1, hf, hid⟩ := findF_at (l := l) (id := c.flow) (by simpa using hk)
      have hil := (List.getElem?_eq_some_iff.1 hf).1
      have hmf := getMap (f := Flow.av) hf
      rw [e1]
      repeat ((conv => whnf); first | (refine And.intro (by first | rfl | exact ⟨rfl, rfl⟩ | exact Or.inl ⟨_, rfl⟩ | exact Or.inr rfl | exact le_b rfl | ((repeat' (first | exact Els.nil _ | refine Els.cons rfl rfl ?_)); done) | exact Els.map (fun _ => ⟨rfl, rfl⟩)  | kernel_rfl) ?_) )
      try (conv => whnf)
      rw [show decide (((l.map Flow.av).length : Int) ≤ (i : Int)) = false from by simp; omega]
      repeat ((conv => whnf); first | (refine And.intro (by first | rfl | exact ⟨rfl, rfl⟩ | exact Or.inl ⟨_, rfl⟩ | exact Or.inr rfl | exact le_b rfl | ((repeat' (first | exact Els.nil _ | refine Els.cons rfl rfl ?_)); done) | exact Els.map (fun _ => ⟨rfl, rfl⟩) | exact inbMap hil | kernel_rfl) ?_) | rw [hmf])
      try (conv => whnf)
      first | refine CallK.data rfl (c_Current LW f t (by omega)) rfl ?_ | refine CallP.data rfl (c_Current LW f t (by omega)) rfl ?_
      obtain ⟨fr, hfr⟩ : ∃ fr, fr = (curM f t).1 := ⟨_, rfl⟩
      obtain ⟨ok, hok⟩ : ∃ ok, ok = (curM f t).2 := ⟨_, rfl⟩
      rw [← hfr, ← hok]
      have hG := genB_K (R := R) (t := (t : Int)) e1 hf hid
      rw [← hfr, ← hok] at hG
      repeat ((conv => whnf); first | (refine And.intro (by first | rfl | exact ⟨rfl, rfl⟩ | exact Or.inl ⟨_, rfl⟩ | exact Or.inr rfl | exact le_b rfl | ((repeat' (first | exact Els.nil _ | refine Els.cons rfl rfl ?_)); done) | exact Els.map (fun _ => ⟨rfl, rfl⟩) | exact inbMap hil | kernel_rfl) ?_) | rw [hmf])
      try (conv => whnf)
      refine LoopK.run mixed [] (fun (k : Nat) => k ≤ R.length) (fun k => [(0, encFlows l), (5, .ptr 0 0), (9, .ptr 1 0), (11, .int .i64 (genP l s R t j).length), (12, .int .i64 t), (14, .ptr 2 0), (15, .int .i64 i), (16, .int .i64 fr), (17, .bool ok), (18, .bool (hasK f R c fr t k)), (19, .bool (doneK R c fr t k)), (40, .int .i64 slots), (41, .int .i64 t), (46, encCells cs), (47, .int .i64 cs.length), (48, .int .i64 j), (82, encAtts R), (83, .int .i64 R.length), (84, .int .i64 k)]) (fun _ => ⟨hoB s R D ++ [.cells c.av.cells 42], [], 0, 0, fun _ => 0⟩) (fun k => R.length - k) 0 (by omega) ?_ ?_
      · refine Fits.mk' rfl rfl rfl rfl ?_ ?_ ?_ ?_ ?_ <;> repeat' (first | exact trivial | refine And.intro ?_ ?_ | exact Sees.of_eq rfl | exact lt_b rfl | rfl | exact SeesL.rfl' _ | exact Sees.int (by simp) | exact Sees.bool (by rw [hasK_zero]))
      rintro k hk1
      repeat ((conv => whnf); first | (refine And.intro (by first | rfl | exact ⟨rfl, rfl⟩ | exact Or.inl ⟨_, rfl⟩ | exact Or.inr rfl | exact le_b rfl | ((repeat' (first | exact Els.nil _ | refine Els.cons rfl rfl ?_)); done) | exact Els.map (fun _ => ⟨rfl, rfl⟩)  | kernel_rfl) ?_) )
      try (conv => whnf)
      refine BrK.mk (fun hb3 => ?_) (fun hb3 => ?_) <;> (try rw [hb3])
      · have hkt : k < R.length := by simpa using hb3
        obtain ⟨a, hga⟩ := getLt hkt
        have hma := getMap (f := Att.av) hga
        have hwk : IntKind.i64.wrap ((k : Int) + 1) = ((k + 1 : Nat) : Int) := by rw [w64] <;> omega
        have hs1 := hasK_step (f := f) (c := c) (fr := fr) (t := (t : Int)) hga
        have hs2 := doneK_step (c := c) (fr := fr) (t := (t : Int)) hga
        obtain ⟨H, hH⟩ : ∃ H, H = hasK f R c fr t k := ⟨_, rfl⟩
        obtain ⟨Dn, hDn⟩ : ∃ Dn, Dn = doneK R c fr t k := ⟨_, rfl⟩
        rw [← hH] at hs1
        rw [← hDn] at hs2
        rw [← hH, ← hDn]
        repeat' ((conv => whnf); first | (refine And.intro (by first | rfl | exact ⟨rfl, rfl⟩ | exact Or.inl ⟨_, rfl⟩ | exact Or.inr rfl | exact le_b rfl | ((repeat' (first | exact Els.nil _ | refine Els.cons rfl rfl ?_)); done) | exact Els.map (fun _ => ⟨rfl, rfl⟩) | exact inbMap hkt | kernel_rfl) ?_) | rw [hma] | (refine BrK.mk (fun hb => ?_) (fun hb => ?_) <;> (try rw [hb])))
        all_goals try (conv => whnf)
        all_goals refine ⟨k + 1, by omega, by omega, ?_⟩
        all_goals rw [hs1, hs2]
        all_goals refine Fits.mk' rfl rfl rfl rfl ?_ ?_ ?_ ?_ ?_
        all_goals repeat' (first | exact trivial | refine And.intro ?_ ?_ | exact Sees.of_eq rfl | exact lt_b rfl | rfl | exact SeesL.rfl' _ | exact Sees.int hwk | exact Sees.bool (by clear hG hs1 hs2 hgen hR hD hfr hok hH hDn h1' hready hcs hgc hga; first | (simp_all [lookA]; done) | (simp_all [lookA]; intros; omega)))
      · have hkn : k = R.length := by simp at hb3; omega
        subst hkn
        obtain ⟨H, hH⟩ : ∃ H, H = hasK f R c fr t R.length := ⟨_, rfl⟩
        obtain ⟨Dn, hDn⟩ : ∃ Dn, Dn = doneK R c fr t R.length := ⟨_, rfl⟩
        rw [← hH, ← hDn] at hG ⊢
        repeat ((conv => whnf); first | (refine And.intro (by first | rfl | exact ⟨rfl, rfl⟩ | exact Or.inl ⟨_, rfl⟩ | exact Or.inr rfl | exact le_b rfl | ((repeat' (first | exact Els.nil _ | refine Els.cons rfl rfl ?_)); done) | exact Els.map (fun _ => ⟨rfl, rfl⟩)  | kernel_rfl) ?_) )
        try (conv => whnf)
        refine BrK.mk (fun g1 => ?_) (fun g1 => ?_) <;> (try rw [g1])
        · have hnone : genB l R (t : Nat) c = none := by rw [hG, if_pos (.inl (by simpa using g1))]
          repeat ((conv => whnf); first | (refine And.intro (by first | rfl | exact ⟨rfl, rfl⟩ | exact Or.inl ⟨_, rfl⟩ | exact Or.inr rfl | exact le_b rfl | ((repeat' (first | exact Els.nil _ | refine Els.cons rfl rfl ?_)); done) | exact Els.map (fun _ => ⟨rfl, rfl⟩) | exact inbMap hil | kernel_rfl) ?_) | rw [hmf])
          try (conv => whnf)
          refine ⟨j + 1, by omega, by omega, ?_⟩
          rw [genP_miss hgc hnone]
          refine Fits.mk' rfl rfl rfl rfl ?_ ?_ ?_ ?_ ?_ <;> repeat' (first | exact trivial | refine And.intro ?_ ?_ | exact Sees.of_eq rfl | exact lt_b rfl | rfl | exact SeesL.rfl' _ | exact Sees.int hwj)
        repeat ((conv => whnf); first | (refine And.intro (by first | rfl | exact ⟨rfl, rfl⟩ | exact Or.inl ⟨_, rfl⟩ | exact Or.inr rfl | exact le_b rfl | ((repeat' (first | exact Els.nil _ | refine Els.cons rfl rfl ?_)); done) | exact Els.map (fun _ => ⟨rfl, rfl⟩)  | kernel_rfl) ?_) )
        try (conv => whnf)
        refine BrK.mk (fun g2 => ?_) (fun g2 => ?_) <;> (try rw [g2])
        · have hnone : genB l R (t : Nat) c = none := by rw [hG, if_pos (.inr (.inr (.inl (by simpa using g2))))]
          repeat ((conv => whnf); first | (refine And.intro (by first | rfl | exact ⟨rfl, rfl⟩ | exact Or.inl ⟨_, rfl⟩ | exact Or.inr rfl | exact le_b rfl | ((repeat' (first | exact Els.nil _ | refine Els.cons rfl rfl ?_)); done) | exact Els.map (fun _ => ⟨rfl, rfl⟩) | exact inbMap hil | kernel_rfl) ?_) | rw [hmf])
          try (conv => whnf)
          refine ⟨j + 1, by omega, by omega, ?_⟩
          rw [genP_miss hgc hnone]
          refine Fits.mk' rfl rfl rfl rfl ?_ ?_ ?_ ?_ ?_ <;> repeat' (first | exact trivial | refine And.intro ?_ ?_ | exact Sees.of_eq rfl | exact lt_b rfl | rfl | exact SeesL.rfl' _ | exact Sees.int hwj)
        repeat ((conv => whnf); first | (refine And.intro (by first | rfl | exact ⟨rfl, rfl⟩ | exact Or.inl ⟨_, rfl⟩ | exact Or.inr rfl | exact le_b rfl | ((repeat' (first | exact Els.nil _ | refine Els.cons rfl rfl ?_)); done) | exact Els.map (fun _ => ⟨rfl, rfl⟩)  | kernel_rfl) ?_) )
        try (conv => whnf)
        refine BrK.mk (fun g3 => ?_) (fun g3 => ?_) <;> (try rw [g3])
        · have hnone : genB l R (t : Nat) c = none := by rw [hG, if_pos (.inr (.inr (.inr (by simpa using g3))))]
          repeat ((conv => whnf); first | (refine And.intro (by first | rfl | exact ⟨rfl, rfl⟩ | exact Or.inl ⟨_, rfl⟩ | exact Or.inr rfl | exact le_b rfl | ((repeat' (first | exact Els.nil _ | refine Els.cons rfl rfl ?_)); done) | exact Els.map (fun _ => ⟨rfl, rfl⟩) | exact inbMap hil | kernel_rfl) ?_) | rw [hmf])
          try (conv => whnf)
          refine ⟨j + 1, by omega, by omega, ?_⟩
          rw [genP_miss hgc hnone]
          refine Fits.mk' rfl rfl rfl rfl ?_ ?_ ?_ ?_ ?_ <;> repeat' (first | exact trivial | refine And.intro ?_ ?_ | exact Sees.of_eq rfl | exact lt_b rfl | rfl | exact SeesL.rfl' _ | exact Sees.int hwj)
        repeat ((conv => whnf); first | (refine And.intro (by first | rfl | exact ⟨rfl, rfl⟩ | exact Or.inl ⟨_, rfl⟩ | exact Or.inr rfl | exact le_b rfl | ((repeat' (first | exact Els.nil _ | refine Els.cons rfl rfl ?_)); done) | exact Els.map (fun _ => ⟨rfl, rfl⟩) | exact inbMap hil | kernel_rfl) ?_) | rw [hmf])
        try (conv => whnf)
        refine BrK.mk (fun g4 => ?_) (fun g4 => ?_) <;> (try rw [g4])
        · have hnone : genB l R (t : Nat) c = none := by rw [hG, if_pos (.inr (.inl (by simpa using g4)))]
          repeat ((conv => whnf); first | (refine And.intro (by first | rfl | exact ⟨rfl, rfl⟩ | exact Or.inl ⟨_, rfl⟩ | exact Or.inr rfl | exact le_b rfl | ((repeat' (first | exact Els.nil _ | refine Els.cons rfl rfl ?_)); done) | exact Els.map (fun _ => ⟨rfl, rfl⟩)  | kernel_rfl) ?_) )
          try (conv => whnf)
          refine ⟨j + 1, by omega, by omega, ?_⟩
          rw [genP_miss hgc hnone]
          refine Fits.mk' rfl rfl rfl rfl ?_ ?_ ?_ ?_ ?_ <;> repeat' (first | exact trivial | refine And.intro ?_ ?_ | exact Sees.of_eq rfl | exact lt_b rfl | rfl | exact SeesL.rfl' _ | exact Sees.int hwj)
        have hsome : genB l R (t : Nat) c = some ((t : Int), fr, c) := by
          rw [hG, if_neg]
          rintro (hh | hh | hh | hh)
          · simp [hh] at g1
          · simp [hh] at g4
          · simp [hh] at g2
          · simp [hh] at g3
        obtain ⟨a, hga, hkey⟩ := genP_at hgen (by omega : t < slots.toNat) hgc hsome
        have hnl := (List.getElem?_eq_some_iff.1 hga).1
        have hma := getMap (f := Att.av) hga
        have hwn : IntKind.i64.wrap (((genP l s R t j).length : Int) + 1) = (((genP l s R t j ++ [((t : Int), fr, c)]).length : Nat) : Int) := by rw [List.length_append, List.length_singleton, w64] <;> omega
        obtain ⟨a1, a2, a3, a4⟩ := a
        obtain ⟨rfl, rfl, rfl⟩ : a1 = (t : Int) ∧ a2 = fr ∧ a3 = c := by
          simp only [keyA, Prod.mk.injEq] at hkey
          exact hkey
        repeat ((conv => whnf); first | (refine And.intro (by first | rfl | exact ⟨rfl, rfl⟩ | exact Or.inl ⟨_, rfl⟩ | exact Or.inr rfl | exact le_b rfl | ((repeat' (first | exact Els.nil _ | refine Els.cons rfl rfl ?_)); done) | exact Els.map (fun _ => ⟨rfl, rfl⟩)  | kernel_rfl) ?_) )
        try (conv => whnf)
        rw [show decide (((R.map Att.av).length : Int) ≤ ((genP l s R t j).length : Int)) = false from by simp; omega]
        repeat ((conv => whnf); first | (refine And.intro (by first | rfl | exact ⟨rfl, rfl⟩ | exact Or.inl ⟨_, rfl⟩ | exact Or.inr rfl | exact le_b rfl | ((repeat' (first | exact Els.nil _ | refine Els.cons rfl rfl ?_)); done) | exact Els.map (fun _ => ⟨rfl, rfl⟩) | exact inbMap hnl | kernel_rfl) ?_) | rw [hma])
        try (conv => whnf)
        rw [show ((t : Int) != (t : Int)) = false from by simp]
        repeat ((conv => whnf); first | (refine And.intro (by first | rfl | exact ⟨rfl, rfl⟩ | exact Or.inl ⟨_, rfl⟩ | exact Or.inr rfl | exact le_b rfl | ((repeat' (first | exact Els.nil _ | refine Els.cons rfl rfl ?_)); done) | exact Els.map (fun _ => ⟨rfl, rfl⟩) | exact inbMap hnl | kernel_rfl) ?_) | rw [hma])
        try (conv => whnf)
        refine BrK.mk (fun g5 => ?_) (fun g5 => ?_) <;> (try rw [g5])
        · exfalso
          simp at g5
        repeat ((conv => whnf); first | (refine And.intro (by first | rfl | exact ⟨rfl, rfl⟩ | exact Or.inl ⟨_, rfl⟩ | exact Or.inr rfl | exact le_b rfl | ((repeat' (first | exact Els.nil _ | refine Els.cons rfl rfl ?_)); done) | exact Els.map (fun _ => ⟨rfl, rfl⟩) | exact inbMap hnl | kernel_rfl) ?_) | rw [hma])
        try (conv => whnf)
        refine BrK.mk (fun g6 => ?_) (fun g6 => ?_) <;> (try rw [g6])
        · exfalso
          simp at g6
        repeat ((conv => whnf); first | (refine And.intro (by first | rfl | exact ⟨rfl, rfl⟩ | exact Or.inl ⟨_, rfl⟩ | exact Or.inr rfl | exact le_b rfl | ((repeat' (first | exact Els.nil _ | refine Els.cons rfl rfl ?_)); done) | exact Els.map (fun _ => ⟨rfl, rfl⟩)  | kernel_rfl) ?_) )
        try (conv => whnf)
        refine ⟨j + 1, by omega, by omega, ?_⟩
        rw [genP_hit hgc hsome]
        refine Fits.mk' rfl rfl rfl rfl ?_ ?_ ?_ ?_ ?_ <;> repeat' (first | exact trivial | refine And.intro ?_ ?_ | exact Sees.of_eq rfl | exact lt_b rfl | rfl | exact SeesL.rfl' _ | exact Sees.int hwj | exact Sees.int hwn)
    · have hjn : j = cs.length := by simp at hb2; omega
      subst hjn
      repeat ((conv => whnf); first | (refine And.intro (by first | rfl | exact ⟨rfl, rfl⟩ | exact Or.inl ⟨_, rfl⟩ | exact Or.inr rfl | exact le_b rfl | ((repeat' (first | exact Els.nil _ | refine Els.cons rfl rfl ?_)); done) | exact Els.map (fun _ => ⟨rfl, rfl⟩)  | kernel_rfl) ?_) )
      try (conv => whnf)
      refine ⟨t + 1, by omega, by omega, ?_⟩
      rw [← genP_next, ← hcs]
      refine Fits.mk' rfl rfl rfl rfl ?_ ?_ ?_ ?_ ?_ <;> repeat' (first | exact trivial | refine And.intro ?_ ?_ | exact Sees.of_eq rfl | exact lt_b rfl | rfl | exact SeesL.rfl' _ | exact Sees.int (by rw [w64] <;> omega))
  · have hk' : (t : Int) = slots := by simp at hb; omega
    have hkn : slots.toNat = t := by omega
    have hend := genP_end hgen
    rw [hkn] at hend
    repeat ((conv => whnf); first | (refine And.intro (by first | rfl | exact ⟨rfl, rfl⟩ | exact Or.inl ⟨_, rfl⟩ | exact Or.inr rfl | exact le_b rfl | ((repeat' (first | exact Els.nil _ | refine Els.cons rfl rfl ?_)); done) | exact Els.map (fun _ => ⟨rfl, rfl⟩)  | kernel_rfl) ?_) )
    try (conv => whnf)
    rw [hend]
    exact resP.mk rfl (Sees.of_eq (by simp))
end HM
