/- A frame is delivered at most once: the law. -/
import Derived.Test.YtnhelkbmeggpkaaGreatDoorS95
import Derived.Test.YtnhelkbmeggpkaaGreatDoorDb

set_option maxRecDepth 100000
namespace HM
open Go Go.RowKit Go.Proofs

def onB (l : List Flow) (s : Sched) (R : List Att) (D : List Del) : List Ob := [.cells [encFlows l] 27, .cells s.av.cells 30, .cells [encAtts R, encDels D] 41]
set_option maxHeartbeats 8000000 in
theorem c_RunOnce (l : List Flow) (s : Sched) (cs : List Chg) (x : List Rule) (slots : Int) (hl : l.length ≤ 281474976710656) (hcs : cs.length ≤ 281474976710656) (hx : ∀ r ∈ x, r.outs.length ≤ 281474976710656) (hxl : x.length ≤ 281474976710656) :
    PCall Tryz.prog LW 6 [encFlows l, s.av, encChgs cs, encScript x, .int .i64 slots] (.bool true) := by
  refine PCall.intro mixed [] (nt := 181) Tryz.func6 rfl rfl (by simp) ?_
  repeat ((conv => whnf); first | (refine And.intro (by first | rfl | exact ⟨rfl, rfl⟩ | exact Or.inl ⟨_, rfl⟩ | exact Or.inr rfl | exact le_b rfl | ((repeat' (first | exact Els.nil _ | refine Els.cons rfl rfl ?_)); done) | exact Els.map (fun _ => ⟨rfl, rfl⟩)  | kernel_rfl) ?_) )
  try (conv => whnf)
  first | refine CallK.data rfl (c_awake36) rfl ?_ | refine CallP.data rfl (c_awake36) rfl ?_
  repeat ((conv => whnf); first | (refine And.intro (by first | rfl | exact ⟨rfl, rfl⟩ | exact Or.inl ⟨_, rfl⟩ | exact Or.inr rfl | exact le_b rfl | ((repeat' (first | exact Els.nil _ | refine Els.cons rfl rfl ?_)); done) | exact Els.map (fun _ => ⟨rfl, rfl⟩)  | kernel_rfl) ?_) )
  try (conv => whnf)
  first | refine CallK.data rfl (c_Few36 LW l s (cs.map Chg.av) x slots) rfl ?_ | refine CallP.data rfl (c_Few36 LW l s (cs.map Chg.av) x slots) rfl ?_
  repeat ((conv => whnf); first | (refine And.intro (by first | rfl | exact ⟨rfl, rfl⟩ | exact Or.inl ⟨_, rfl⟩ | exact Or.inr rfl | exact le_b rfl | ((repeat' (first | exact Els.nil _ | refine Els.cons rfl rfl ?_)); done) | exact Els.map (fun _ => ⟨rfl, rfl⟩)  | kernel_rfl) ?_) )
  try (conv => whnf)
  refine BrK.mk (fun hfew => ?_) (fun hfew => ?_) <;> (try rw [hfew])
  · repeat ((conv => whnf); first | (refine And.intro (by first | rfl | exact ⟨rfl, rfl⟩ | exact Or.inl ⟨_, rfl⟩ | exact Or.inr rfl | exact le_b rfl | ((repeat' (first | exact Els.nil _ | refine Els.cons rfl rfl ?_)); done) | exact Els.map (fun _ => ⟨rfl, rfl⟩)  | kernel_rfl) ?_) )
    try (conv => whnf)
    exact resP.mk rfl (Sees.bool rfl)
  repeat ((conv => whnf); first | (refine And.intro (by first | rfl | exact ⟨rfl, rfl⟩ | exact Or.inl ⟨_, rfl⟩ | exact Or.inr rfl | exact le_b rfl | ((repeat' (first | exact Els.nil _ | refine Els.cons rfl rfl ?_)); done) | exact Els.map (fun _ => ⟨rfl, rfl⟩)  | kernel_rfl) ?_) )
  try (conv => whnf)
  first | refine CallK.data rfl (c_Change l s cs x slots hl hcs hx hxl) rfl ?_ | refine CallP.data rfl (c_Change l s cs x slots hl hcs hx hxl) rfl ?_
  repeat ((conv => whnf); first | (refine And.intro (by first | rfl | exact ⟨rfl, rfl⟩ | exact Or.inl ⟨_, rfl⟩ | exact Or.inr rfl | exact le_b rfl | ((repeat' (first | exact Els.nil _ | refine Els.cons rfl rfl ?_)); done) | exact Els.map (fun _ => ⟨rfl, rfl⟩)  | kernel_rfl) ?_) )
  try (conv => whnf)
  refine BrK.mk (fun h1 => ?_) (fun h1 => ?_) <;> (try rw [h1])
  · have h1' : (changeM l s cs x slots).2 ≠ 0 := by simpa using h1
    rw [change_bad h1']
    repeat ((conv => whnf); first | (refine And.intro (by first | rfl | exact ⟨rfl, rfl⟩ | exact Or.inl ⟨_, rfl⟩ | exact Or.inr rfl | exact le_b rfl | ((repeat' (first | exact Els.nil _ | refine Els.cons rfl rfl ?_)); done) | exact Els.map (fun _ => ⟨rfl, rfl⟩)  | kernel_rfl) ?_) )
    try (conv => whnf)
    exact resP.mk rfl (Sees.bool rfl)
  have h1' : (changeM l s cs x slots).2 = 0 := by simpa using h1
  obtain ⟨hready, hbeh, hres⟩ := change_ok h1'
  obtain ⟨r1, r2, r3, r4, r5⟩ := ready_all hready
  have hF := flowsOk_of r1
  have hlen16 := hF.len
  obtain ⟨sc, hsc⟩ : ∃ sc : Nat → Sched, sc = fun n : Nat => nowM s cs (n : Int) := ⟨_, rfl⟩
  rw [← hsc] at hres
  rw [hres]
  obtain ⟨R, hR⟩ : ∃ R, R = (playR l sc x slots.toNat).atts := ⟨_, rfl⟩
  obtain ⟨D, hD⟩ : ∃ D, D = (playR l sc x slots.toNat).dels := ⟨_, rfl⟩
  rw [← hR, ← hD]
  have hn40 : slots.toNat ≤ 1099511627776 := by omega
  have hRl : R.length ≤ 2097152 ∧ D.length ≤ 2097152 := by
    have := play_len (l := l) sc x (m := 512) (fun n => by rw [hsc]; exact (form_all (now_form r2 cs n)).2.1) slots.toNat
    have hs := playV_R hF sc x slots.toNat (by omega)
    rw [hR, hD, hs.at_, hs.dl]
    constructor <;> omega
  have hun := (playR_del hF sc x slots.toNat).1.un
  have honce := fun d hd => once_del hF sc x hn40 (d := d) hd
  have hatt := fun a ha => once_att hF sc x hn40 (a := a) ha
  rw [← hD] at hun honce
  rw [← hR] at honce hatt
  have hdm : ∀ fl fr, delivM (playR l sc x slots.toNat) fl fr = delivM ⟨R, D⟩ fl fr := fun fl fr => by rw [hR, hD]
  simp only [hdm] at hatt
  repeat ((conv => whnf); first | (refine And.intro (by first | rfl | exact ⟨rfl, rfl⟩ | exact Or.inl ⟨_, rfl⟩ | exact Or.inr rfl | exact le_b rfl | ((repeat' (first | exact Els.nil _ | refine Els.cons rfl rfl ?_)); done) | exact Els.map (fun _ => ⟨rfl, rfl⟩)  | kernel_rfl) ?_) )
  try (conv => whnf)
  refine LoopK.run mixed [] (fun (k : Nat) => k ≤ D.length) (fun k => [(4, .int .i64 slots), (5, .ptr 0 0), (11, .ptr 2 0), (54, encDels D), (55, .int .i64 D.length), (56, .int .i64 k)]) (fun _ => ⟨onB l s R D, [], 0, 0, fun _ => 0⟩) (fun k => D.length - k) 0 (by omega) ?_ ?_
  · refine Fits.mk' rfl rfl rfl rfl ?_ ?_ ?_ ?_ ?_ <;> repeat' (first | exact trivial | refine And.intro ?_ ?_ | exact Sees.of_eq rfl | exact lt_b rfl | rfl | exact SeesL.rfl' _ | exact Sees.int (by simp))
  rintro k hk
  repeat ((conv => whnf); first | (refine And.intro (by first | rfl | exact ⟨rfl, rfl⟩ | exact Or.inl ⟨_, rfl⟩ | exact Or.inr rfl | exact le_b rfl | ((repeat' (first | exact Els.nil _ | refine Els.cons rfl rfl ?_)); done) | exact Els.map (fun _ => ⟨rfl, rfl⟩)  | kernel_rfl) ?_) )
  try (conv => whnf)
  refine BrK.mk (fun hb => ?_) (fun hb => ?_) <;> (try rw [hb])
  · have hkt : k < D.length := by simpa using hb
    obtain ⟨d, hgd⟩ := getLt hkt
    have hmd := getMap (f := Del.av) hgd
    have hwk : IntKind.i64.wrap ((k : Int) + 1) = ((k + 1 : Nat) : Int) := by rw [w64] <;> omega
    obtain ⟨i, f, hO⟩ := honce d (List.mem_of_getElem? hgd)
    have hil := (List.getElem?_eq_some_iff.1 hO.get).1
    have hmf := getMap (f := Flow.av) hO.get
    have hfirst := once_first hun hgd
    have hby := hO.by_
    obtain ⟨w1, w2, w3⟩ := hO.win
    repeat ((conv => whnf); first | (refine And.intro (by first | rfl | exact ⟨rfl, rfl⟩ | exact Or.inl ⟨_, rfl⟩ | exact Or.inr rfl | exact le_b rfl | ((repeat' (first | exact Els.nil _ | refine Els.cons rfl rfl ?_)); done) | exact Els.map (fun _ => ⟨rfl, rfl⟩) | exact inbMap hkt | kernel_rfl) ?_) | rw [hmd])
    try (conv => whnf)
    first | refine CallK.data rfl (c_Find LW l d.flow hl) rfl ?_ | refine CallP.data rfl (c_Find LW l d.flow hl) rfl ?_
    rw [hO.at_]
    repeat ((conv => whnf); first | (refine And.intro (by first | rfl | exact ⟨rfl, rfl⟩ | exact Or.inl ⟨_, rfl⟩ | exact Or.inr rfl | exact le_b rfl | ((repeat' (first | exact Els.nil _ | refine Els.cons rfl rfl ?_)); done) | exact Els.map (fun _ => ⟨rfl, rfl⟩)  | kernel_rfl) ?_) )
    try (conv => whnf)
    rw [show decide (((l.map Flow.av).length : Int) ≤ (i : Int)) = false from by simp; omega]
    repeat ((conv => whnf); first | (refine And.intro (by first | rfl | exact ⟨rfl, rfl⟩ | exact Or.inl ⟨_, rfl⟩ | exact Or.inr rfl | exact le_b rfl | ((repeat' (first | exact Els.nil _ | refine Els.cons rfl rfl ?_)); done) | exact Els.map (fun _ => ⟨rfl, rfl⟩) | exact Els.map (f := Del.av) (fun _ => ⟨rfl, rfl⟩) | exact (show InC (k : Int) (D.map Del.av).length from ⟨by omega, by simp; omega⟩) | kernel_rfl) ?_) )
    try (conv => whnf)
    have htk : List.drop 0 (List.take (k : Int).toNat (D.map Del.av)) = (D.take k).map Del.av := by rw [List.drop_zero, Int.toNat_natCast, List.map_take]
    rw [htk]
    first | refine CallK.box rfl (c_ContainsFuncDel LW (D.take k) (fun o => o.flow == d.flow && o.frame == d.frame) 32 [.cptr d.av 0] (by rw [List.length_take]; omega) rfl rfl (fun o _ => c_once1 LW d o)) rfl rfl ?_ | refine CallP.box rfl (c_ContainsFuncDel LW (D.take k) (fun o => o.flow == d.flow && o.frame == d.frame) 32 [.cptr d.av 0] (by rw [List.length_take]; omega) rfl rfl (fun o _ => c_once1 LW d o)) rfl rfl ?_
    rw [hfirst]
    repeat ((conv => whnf); first | (refine And.intro (by first | rfl | exact ⟨rfl, rfl⟩ | exact Or.inl ⟨_, rfl⟩ | exact Or.inr rfl | exact le_b rfl | ((repeat' (first | exact Els.nil _ | refine Els.cons rfl rfl ?_)); done) | exact Els.map (fun _ => ⟨rfl, rfl⟩) | exact trivial | exact inbMap hil | kernel_rfl) ?_) | rw [hmf])
    try (conv => whnf)
    first | refine CallK.data rfl (c_Window LW f d.frame) rfl ?_ | refine CallP.data rfl (c_Window LW f d.frame) rfl ?_
    rw [w1]
    obtain ⟨wa, hwa⟩ : ∃ a, a = (winM f d.frame).1.1 := ⟨_, rfl⟩
    obtain ⟨wb, hwb⟩ : ∃ a, a = (winM f d.frame).1.2 := ⟨_, rfl⟩
    rw [← hwa] at w2 ⊢
    rw [← hwb] at w3 ⊢
    repeat ((conv => whnf); first | (refine And.intro (by first | rfl | exact ⟨rfl, rfl⟩ | exact Or.inl ⟨_, rfl⟩ | exact Or.inr rfl | exact le_b rfl | ((repeat' (first | exact Els.nil _ | refine Els.cons rfl rfl ?_)); done) | exact Els.map (fun _ => ⟨rfl, rfl⟩) | exact trivial | kernel_rfl) ?_) )
    try (conv => whnf)
    first | refine CallK.box rfl (c_ContainsFuncAtt LW R (fun a => a.slot == d.slot && (a.frame == d.frame && (a.cell.flow == d.flow && (a.cell.dst == f.dst && a.out != 3)))) 35 [.cptr d.av 0, .cptr (.agg [encFlows l]) 0, .cptr (.agg [.int .i64 i]) 0] (by omega) rfl rfl (fun a _ => c_once2 LW a d l i f hO.get)) rfl rfl ?_ | refine CallP.box rfl (c_ContainsFuncAtt LW R (fun a => a.slot == d.slot && (a.frame == d.frame && (a.cell.flow == d.flow && (a.cell.dst == f.dst && a.out != 3)))) 35 [.cptr d.av 0, .cptr (.agg [encFlows l]) 0, .cptr (.agg [.int .i64 i]) 0] (by omega) rfl rfl (fun a _ => c_once2 LW a d l i f hO.get)) rfl rfl ?_
    rw [hby]
    repeat ((conv => whnf); first | (refine And.intro (by first | rfl | exact ⟨rfl, rfl⟩ | exact Or.inl ⟨_, rfl⟩ | exact Or.inr rfl | exact le_b rfl | ((repeat' (first | exact Els.nil _ | refine Els.cons rfl rfl ?_)); done) | exact Els.map (fun _ => ⟨rfl, rfl⟩) | exact trivial | kernel_rfl) ?_) )
    try (conv => whnf)
    rw [show decide (d.slot < wa) = false from by simp; omega]
    repeat ((conv => whnf); first | (refine And.intro (by first | rfl | exact ⟨rfl, rfl⟩ | exact Or.inl ⟨_, rfl⟩ | exact Or.inr rfl | exact le_b rfl | ((repeat' (first | exact Els.nil _ | refine Els.cons rfl rfl ?_)); done) | exact Els.map (fun _ => ⟨rfl, rfl⟩) | exact trivial | kernel_rfl) ?_) )
    try (conv => whnf)
    rw [show decide (wb < d.slot) = false from by simp; omega]
    repeat ((conv => whnf); first | (refine And.intro (by first | rfl | exact ⟨rfl, rfl⟩ | exact Or.inl ⟨_, rfl⟩ | exact Or.inr rfl | exact le_b rfl | ((repeat' (first | exact Els.nil _ | refine Els.cons rfl rfl ?_)); done) | exact Els.map (fun _ => ⟨rfl, rfl⟩) | exact trivial | kernel_rfl) ?_) )
    try (conv => whnf)
    refine ⟨k + 1, by omega, by omega, ?_⟩
    refine Fits.mk' rfl rfl rfl rfl ?_ ?_ ?_ ?_ ?_ <;> repeat' (first | exact trivial | refine And.intro ?_ ?_ | exact Sees.of_eq rfl | exact lt_b rfl | rfl | exact SeesL.rfl' _ | exact Sees.int hwk)
  · have hkn : k = D.length := by simp at hb; omega
    subst hkn
    repeat ((conv => whnf); first | (refine And.intro (by first | rfl | exact ⟨rfl, rfl⟩ | exact Or.inl ⟨_, rfl⟩ | exact Or.inr rfl | exact le_b rfl | ((repeat' (first | exact Els.nil _ | refine Els.cons rfl rfl ?_)); done) | exact Els.map (fun _ => ⟨rfl, rfl⟩)  | kernel_rfl) ?_) )
    try (conv => whnf)
    refine LoopK.run mixed [] (fun (k : Nat) => k ≤ R.length) (fun k => [(4, .int .i64 slots), (5, .ptr 0 0), (11, .ptr 2 0), (116, encAtts R), (117, .int .i64 R.length), (118, .int .i64 k)]) (fun _ => ⟨onB l s R D, [], 0, 0, fun _ => 0⟩) (fun k => R.length - k) 0 (by omega) ?_ ?_
    · refine Fits.mk' rfl rfl rfl rfl ?_ ?_ ?_ ?_ ?_ <;> repeat' (first | exact trivial | refine And.intro ?_ ?_ | exact Sees.of_eq rfl | exact lt_b rfl | rfl | exact SeesL.rfl' _ | exact Sees.int (by simp))
    rintro k hk
    repeat ((conv => whnf); first | (refine And.intro (by first | rfl | exact ⟨rfl, rfl⟩ | exact Or.inl ⟨_, rfl⟩ | exact Or.inr rfl | exact le_b rfl | ((repeat' (first | exact Els.nil _ | refine Els.cons rfl rfl ?_)); done) | exact Els.map (fun _ => ⟨rfl, rfl⟩)  | kernel_rfl) ?_) )
    try (conv => whnf)
    refine BrK.mk (fun hb => ?_) (fun hb => ?_) <;> (try rw [hb])
    · have hkt : k < R.length := by simpa using hb
      obtain ⟨a, hga⟩ := getLt hkt
      have hma := getMap (f := Att.av) hga
      have hwk : IntKind.i64.wrap ((k : Int) + 1) = ((k + 1 : Nat) : Int) := by rw [w64] <;> omega
      obtain ⟨i, f, v1, v2, v3, v4, v5⟩ := hatt a (List.mem_of_getElem? hga)
      have hil := (List.getElem?_eq_some_iff.1 v2).1
      have hmf := getMap (f := Flow.av) v2
      repeat ((conv => whnf); first | (refine And.intro (by first | rfl | exact ⟨rfl, rfl⟩ | exact Or.inl ⟨_, rfl⟩ | exact Or.inr rfl | exact le_b rfl | ((repeat' (first | exact Els.nil _ | refine Els.cons rfl rfl ?_)); done) | exact Els.map (fun _ => ⟨rfl, rfl⟩) | exact inbMap hkt | kernel_rfl) ?_) | rw [hma])
      try (conv => whnf)
      first | refine CallK.data rfl (c_Find LW l a.cell.flow hl) rfl ?_ | refine CallP.data rfl (c_Find LW l a.cell.flow hl) rfl ?_
      rw [v1]
      repeat ((conv => whnf); first | (refine And.intro (by first | rfl | exact ⟨rfl, rfl⟩ | exact Or.inl ⟨_, rfl⟩ | exact Or.inr rfl | exact le_b rfl | ((repeat' (first | exact Els.nil _ | refine Els.cons rfl rfl ?_)); done) | exact Els.map (fun _ => ⟨rfl, rfl⟩)  | kernel_rfl) ?_) )
      try (conv => whnf)
      rw [show decide (((l.map Flow.av).length : Int) ≤ (i : Int)) = false from by simp; omega]
      repeat ((conv => whnf); first | (refine And.intro (by first | rfl | exact ⟨rfl, rfl⟩ | exact Or.inl ⟨_, rfl⟩ | exact Or.inr rfl | exact le_b rfl | ((repeat' (first | exact Els.nil _ | refine Els.cons rfl rfl ?_)); done) | exact Els.map (fun _ => ⟨rfl, rfl⟩)  | kernel_rfl) ?_) )
      try (conv => whnf)
      rw [show decide (a.slot < 0) = false from by simp; omega]
      repeat ((conv => whnf); first | (refine And.intro (by first | rfl | exact ⟨rfl, rfl⟩ | exact Or.inl ⟨_, rfl⟩ | exact Or.inr rfl | exact le_b rfl | ((repeat' (first | exact Els.nil _ | refine Els.cons rfl rfl ?_)); done) | exact Els.map (fun _ => ⟨rfl, rfl⟩)  | kernel_rfl) ?_) )
      try (conv => whnf)
      rw [show decide (slots ≤ a.slot) = false from by simp; omega]
      repeat ((conv => whnf); first | (refine And.intro (by first | rfl | exact ⟨rfl, rfl⟩ | exact Or.inl ⟨_, rfl⟩ | exact Or.inr rfl | exact le_b rfl | ((repeat' (first | exact Els.nil _ | refine Els.cons rfl rfl ?_)); done) | exact Els.map (fun _ => ⟨rfl, rfl⟩)  | kernel_rfl) ?_) )
      try (conv => whnf)
      first | refine CallK.data rfl (c_Delivered LW ⟨R, D⟩ a.cell.flow a.frame (by simp only; omega)) rfl ?_ | refine CallP.data rfl (c_Delivered LW ⟨R, D⟩ a.cell.flow a.frame (by simp only; omega)) rfl ?_
      obtain ⟨da, hda⟩ : ∃ z, z = (delivM ⟨R, D⟩ a.cell.flow a.frame).1 := ⟨_, rfl⟩
      obtain ⟨db, hdb⟩ : ∃ z, z = (delivM ⟨R, D⟩ a.cell.flow a.frame).2 := ⟨_, rfl⟩
      rw [← hda, ← hdb] at v5 ⊢
      repeat ((conv => whnf); first | (refine And.intro (by first | rfl | exact ⟨rfl, rfl⟩ | exact Or.inl ⟨_, rfl⟩ | exact Or.inr rfl | exact le_b rfl | ((repeat' (first | exact Els.nil _ | refine Els.cons rfl rfl ?_)); done) | exact Els.map (fun _ => ⟨rfl, rfl⟩) | exact inbMap hil | kernel_rfl) ?_) | rw [hmf])
      try (conv => whnf)
      refine BrK.mk (fun g1 => ?_) (fun g1 => ?_) <;> (try rw [g1])
      · repeat ((conv => whnf); first | (refine And.intro (by first | rfl | exact ⟨rfl, rfl⟩ | exact Or.inl ⟨_, rfl⟩ | exact Or.inr rfl | exact le_b rfl | ((repeat' (first | exact Els.nil _ | refine Els.cons rfl rfl ?_)); done) | exact Els.map (fun _ => ⟨rfl, rfl⟩)  | kernel_rfl) ?_) )
        try (conv => whnf)
        refine BrK.mk (fun g2 => ?_) (fun g2 => ?_) <;> (try rw [g2])
        · obtain ⟨z1, z2⟩ := v5 (by simpa using g1) (by simpa using g2)
          rw [z1]
          repeat ((conv => whnf); first | (refine And.intro (by first | rfl | exact ⟨rfl, rfl⟩ | exact Or.inl ⟨_, rfl⟩ | exact Or.inr rfl | exact le_b rfl | ((repeat' (first | exact Els.nil _ | refine Els.cons rfl rfl ?_)); done) | exact Els.map (fun _ => ⟨rfl, rfl⟩)  | kernel_rfl) ?_) )
          try (conv => whnf)
          rw [show decide (a.slot < da) = false from by simp; omega]
          repeat ((conv => whnf); first | (refine And.intro (by first | rfl | exact ⟨rfl, rfl⟩ | exact Or.inl ⟨_, rfl⟩ | exact Or.inr rfl | exact le_b rfl | ((repeat' (first | exact Els.nil _ | refine Els.cons rfl rfl ?_)); done) | exact Els.map (fun _ => ⟨rfl, rfl⟩)  | kernel_rfl) ?_) )
          try (conv => whnf)
          refine ⟨k + 1, by omega, by omega, ?_⟩
          refine Fits.mk' rfl rfl rfl rfl ?_ ?_ ?_ ?_ ?_ <;> repeat' (first | exact trivial | refine And.intro ?_ ?_ | exact Sees.of_eq rfl | exact lt_b rfl | rfl | exact SeesL.rfl' _ | exact Sees.int hwk)
        · repeat ((conv => whnf); first | (refine And.intro (by first | rfl | exact ⟨rfl, rfl⟩ | exact Or.inl ⟨_, rfl⟩ | exact Or.inr rfl | exact le_b rfl | ((repeat' (first | exact Els.nil _ | refine Els.cons rfl rfl ?_)); done) | exact Els.map (fun _ => ⟨rfl, rfl⟩)  | kernel_rfl) ?_) )
          try (conv => whnf)
          refine ⟨k + 1, by omega, by omega, ?_⟩
          refine Fits.mk' rfl rfl rfl rfl ?_ ?_ ?_ ?_ ?_ <;> repeat' (first | exact trivial | refine And.intro ?_ ?_ | exact Sees.of_eq rfl | exact lt_b rfl | rfl | exact SeesL.rfl' _ | exact Sees.int hwk)
      · repeat ((conv => whnf); first | (refine And.intro (by first | rfl | exact ⟨rfl, rfl⟩ | exact Or.inl ⟨_, rfl⟩ | exact Or.inr rfl | exact le_b rfl | ((repeat' (first | exact Els.nil _ | refine Els.cons rfl rfl ?_)); done) | exact Els.map (fun _ => ⟨rfl, rfl⟩)  | kernel_rfl) ?_) )
        try (conv => whnf)
        refine ⟨k + 1, by omega, by omega, ?_⟩
        refine Fits.mk' rfl rfl rfl rfl ?_ ?_ ?_ ?_ ?_ <;> repeat' (first | exact trivial | refine And.intro ?_ ?_ | exact Sees.of_eq rfl | exact lt_b rfl | rfl | exact SeesL.rfl' _ | exact Sees.int hwk)
    · repeat ((conv => whnf); first | (refine And.intro (by first | rfl | exact ⟨rfl, rfl⟩ | exact Or.inl ⟨_, rfl⟩ | exact Or.inr rfl | exact le_b rfl | ((repeat' (first | exact Els.nil _ | refine Els.cons rfl rfl ?_)); done) | exact Els.map (fun _ => ⟨rfl, rfl⟩)  | kernel_rfl) ?_) )
      try (conv => whnf)
      exact resP.mk rfl (Sees.bool rfl)
end HM
