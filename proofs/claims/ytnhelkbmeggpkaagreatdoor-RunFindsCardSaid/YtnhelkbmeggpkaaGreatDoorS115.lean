/- The law on what a run finds. -/
import Derived.Test.YtnhelkbmeggpkaaGreatDoorS114
import Derived.Test.YtnhelkbmeggpkaaGreatDoorS110
import Derived.Test.YtnhelkbmeggpkaaGreatDoorS113
import Derived.Test.YtnhelkbmeggpkaaGreatDoorS84
import Derived.Test.YtnhelkbmeggpkaaGreatDoorS99

set_option maxRecDepth 100000
namespace HM
open Go Go.RowKit Go.Proofs

set_option maxHeartbeats 4000000 in
theorem c_RunFinds (n : Net) (l : List Flow) (a b : RunL) (id frame slots : Int) (hn : n.small) (hl : l.length ≤ 281474976710656) (ha : a.atts.length ≤ 140737488355328) (ha2 : a.dels.length ≤ 140737488355328) (hb : b.atts.length ≤ 140737488355328) (hb2 : b.dels.length ≤ 140737488355328) :
    PCall Tryz.prog LW 4 [n.av, encFlows l, a.av, b.av, .int .i64 id, .int .i64 frame, .int .i64 slots] (.bool true) := by
  refine PCall.intro mixed [] (nt := 123) Tryz.func4 rfl rfl (by simp) ?_
  refine Wk ?_
  first | refine CallK.data rfl (c_awake36) rfl ?_ | refine CallP.data rfl (c_awake36) rfl ?_
  refine Wk ?_
  first | refine CallK.data rfl (c_Few31 LW n hn) rfl ?_ | refine CallP.data rfl (c_Few31 LW n hn) rfl ?_
  cases hf : few31 n with
  | false =>
    refine Wk ?_
    exact resP.mk rfl (Sees.bool rfl)
  | true =>
  refine Wk ?_
  rw [List.length_map]
  cases h1 : decide ((16 : Int) < l.length) with
  | true =>
    refine Wk ?_
    exact resP.mk rfl (Sees.bool rfl)
  | false =>
  have w1 : IntKind.i64.wrap (((a.atts.map Att.av).length : Int) + ((b.atts.map Att.av).length : Int)) = (a.atts.length : Int) + b.atts.length := by simp only [List.length_map]; exact w64 (by omega) (by omega)
  have w2 : IntKind.i64.wrap ((a.atts.length : Int) + b.atts.length + ((a.dels.map Del.av).length : Int)) = (a.atts.length : Int) + b.atts.length + a.dels.length := by simp only [List.length_map]; exact w64 (by omega) (by omega)
  have w3 : IntKind.i64.wrap ((a.atts.length : Int) + b.atts.length + a.dels.length + ((b.dels.map Del.av).length : Int)) = (a.atts.length : Int) + b.atts.length + a.dels.length + b.dels.length := by simp only [List.length_map]; exact w64 (by omega) (by omega)
  repeat ((conv => whnf); first | refine sJ ?_ | refine And.intro (by first | exact trivial | kernel_rfl) ?_ | rw [w1] | rw [w2] | rw [w3])
  try (conv => whnf)
  cases h2 : decide ((200 : Int) < (a.atts.length : Int) + b.atts.length + a.dels.length + b.dels.length) with
  | true =>
    refine Wk ?_
    exact resP.mk rfl (Sees.bool rfl)
  | false =>
  have h2' : (a.atts.length : Int) + b.atts.length + a.dels.length + b.dels.length ≤ 200 := by simpa using h2
  have hxl : (brcsM n a).length ≤ 281474976710656 := by unfold brcsM; split; have := refB_len n a.atts a.atts.length; omega; simp
  have hxs : ∀ x ∈ brcsM n a, x.slots.length ≤ 281474976710656 := fun x hx => by
    have := brcsM_slots hx
    omega
  refine Wk ?_
  have hlm : (lateM l a slots).1.length ≤ 281474976710656 := by
    unfold lateM
    split
    · simp
    split
    · simp
    split
    · simp
    · simp only; omega
  by_cases hgo : 200 < slots ∧ slots ≤ 4096
  · rw [decide_eq_true hgo.1]
    refine Wk ?_
    rw [decide_eq_true hgo.2]
    refine Wk ?_
    exact resP.mk rfl (Sees.bool rfl)
  rcases (show decide (200 < slots) = false ∨ (decide (200 < slots) = true ∧ decide (slots ≤ 4096) = false) by simp; omega) with h3 | ⟨h3, h4⟩
  · rw [h3]
    refine Wk ?_
    first | refine CallK.data rfl (c_Delivered LW a id frame (by omega)) rfl ?_ | refine CallP.data rfl (c_Delivered LW a id frame (by omega)) rfl ?_
    refine Wk ?_
    first | refine CallK.data rfl (c_Deliv36 LW a id frame (by omega)) rfl ?_ | refine CallP.data rfl (c_Deliv36 LW a id frame (by omega)) rfl ?_
    refine Wk ?_
    first | refine CallK.data rfl (c_Late LW l a slots hl (by omega)) rfl ?_ | refine CallP.data rfl (c_Late LW l a slots hl (by omega)) rfl ?_
    refine Wk ?_
    first | refine CallK.data rfl (c_Late36 LW l a slots hl (by omega)) rfl ?_ | refine CallP.data rfl (c_Late36 LW l a slots hl (by omega)) rfl ?_
    refine Wk ?_
    first | refine CallK.data rfl (c_Breaches LW n hn a (by omega)) rfl ?_ | refine CallP.data rfl (c_Breaches LW n hn a (by omega)) rfl ?_
    refine Wk ?_
    first | refine CallK.data rfl (c_Breaches36 LW n hn hn.2.2.1 a (by omega)) rfl ?_ | refine CallP.data rfl (c_Breaches36 LW n hn hn.2.2.1 a (by omega)) rfl ?_
    refine Wk ?_
    first | refine CallK.data rfl (c_SameBrc36 LW (brcsM n a) (brcsM n a) hxl hxs) rfl ?_ | refine CallP.data rfl (c_SameBrc36 LW (brcsM n a) (brcsM n a) hxl hxs) rfl ?_
    rw [decide_eq_true rfl]
    repeat ((conv => whnf); first | refine sJ ?_ | refine And.intro (by first | exact trivial | kernel_rfl) ?_ | rw [beq_self_eq_true])
    try (conv => whnf)
    first | refine CallK.data rfl (c_SameDel36 LW (lateM l a slots).1 (lateM l a slots).1 hlm) rfl ?_ | refine CallP.data rfl (c_SameDel36 LW (lateM l a slots).1 (lateM l a slots).1 hlm) rfl ?_
    rw [decide_eq_true rfl]
    repeat ((conv => whnf); first | refine sJ ?_ | refine And.intro (by first | exact trivial | kernel_rfl) ?_ | rw [beq_self_eq_true])
    try (conv => whnf)
    first | refine CallK.data rfl (c_Same LW a b (by omega) (by omega) (by omega)) rfl ?_ | refine CallP.data rfl (c_Same LW a b (by omega) (by omega) (by omega)) rfl ?_
    refine Wk ?_
    first | refine CallK.data rfl (c_Same36 LW a b (by omega) (by omega) (by omega)) rfl ?_ | refine CallP.data rfl (c_Same36 LW a b (by omega) (by omega) (by omega)) rfl ?_
    repeat ((conv => whnf); first | refine sJ ?_ | refine And.intro (by first | exact trivial | kernel_rfl) ?_ | rw [beq_self_eq_true])
    try (conv => whnf)
    exact resP.mk rfl (Sees.bool (by simp))
  · rw [h3]
    refine Wk ?_
    rw [h4]
    refine Wk ?_
    first | refine CallK.data rfl (c_Delivered LW a id frame (by omega)) rfl ?_ | refine CallP.data rfl (c_Delivered LW a id frame (by omega)) rfl ?_
    refine Wk ?_
    first | refine CallK.data rfl (c_Deliv36 LW a id frame (by omega)) rfl ?_ | refine CallP.data rfl (c_Deliv36 LW a id frame (by omega)) rfl ?_
    refine Wk ?_
    first | refine CallK.data rfl (c_Late LW l a slots hl (by omega)) rfl ?_ | refine CallP.data rfl (c_Late LW l a slots hl (by omega)) rfl ?_
    refine Wk ?_
    first | refine CallK.data rfl (c_Late36 LW l a slots hl (by omega)) rfl ?_ | refine CallP.data rfl (c_Late36 LW l a slots hl (by omega)) rfl ?_
    refine Wk ?_
    first | refine CallK.data rfl (c_Breaches LW n hn a (by omega)) rfl ?_ | refine CallP.data rfl (c_Breaches LW n hn a (by omega)) rfl ?_
    refine Wk ?_
    first | refine CallK.data rfl (c_Breaches36 LW n hn hn.2.2.1 a (by omega)) rfl ?_ | refine CallP.data rfl (c_Breaches36 LW n hn hn.2.2.1 a (by omega)) rfl ?_
    refine Wk ?_
    first | refine CallK.data rfl (c_SameBrc36 LW (brcsM n a) (brcsM n a) hxl hxs) rfl ?_ | refine CallP.data rfl (c_SameBrc36 LW (brcsM n a) (brcsM n a) hxl hxs) rfl ?_
    rw [decide_eq_true rfl]
    repeat ((conv => whnf); first | refine sJ ?_ | refine And.intro (by first | exact trivial | kernel_rfl) ?_ | rw [beq_self_eq_true])
    try (conv => whnf)
    first | refine CallK.data rfl (c_SameDel36 LW (lateM l a slots).1 (lateM l a slots).1 hlm) rfl ?_ | refine CallP.data rfl (c_SameDel36 LW (lateM l a slots).1 (lateM l a slots).1 hlm) rfl ?_
    rw [decide_eq_true rfl]
    repeat ((conv => whnf); first | refine sJ ?_ | refine And.intro (by first | exact trivial | kernel_rfl) ?_ | rw [beq_self_eq_true])
    try (conv => whnf)
    first | refine CallK.data rfl (c_Same LW a b (by omega) (by omega) (by omega)) rfl ?_ | refine CallP.data rfl (c_Same LW a b (by omega) (by omega) (by omega)) rfl ?_
    refine Wk ?_
    first | refine CallK.data rfl (c_Same36 LW a b (by omega) (by omega) (by omega)) rfl ?_ | refine CallP.data rfl (c_Same36 LW a b (by omega) (by omega) (by omega)) rfl ?_
    repeat ((conv => whnf); first | refine sJ ?_ | refine And.intro (by first | exact trivial | kernel_rfl) ?_ | rw [beq_self_eq_true])
    try (conv => whnf)
    exact resP.mk rfl (Sees.bool (by simp))
end HM
