/- The reference's Change and Play; the law on runs. -/
import Derived.Test.YtnhelkbmeggpkaaGreatDoorS106
import Derived.Test.YtnhelkbmeggpkaaGreatDoorS94
import Derived.Test.YtnhelkbmeggpkaaGreatDoorS84
import Derived.Test.YtnhelkbmeggpkaaGreatDoorS99

set_option maxRecDepth 100000
namespace HM
open Go Go.RowKit Go.Proofs

structure Rc36 (S : St) (s : Sched) (R : RunL) : Prop where
  b0 : S.bx[0]? = some (.cells s.av.cells 30)
  b1 : S.bx[1]? = some (.cells [.nils, .nils] 41)
  b2 : S.bx[2]? = some (.cells [.own (R.atts.map Att.av) 0, .sl false (R.dels.map Del.av)] 41)
  fr : S.fr[0]? = some (R.atts.length, 8)
  ty : S.ty 0 = 53
theorem Rc36.put {S S2 : St} {s : Sched} {R R' : RunL} (h : Rc36 S s R) (hx : ∀ (id : Nat) (o : Ob), S.bx[id]? = some o → S2.bx[id]? = some o) (hf : S2.fr[0]? = some (R'.atts.length, 8)) (ht : S2.ty 0 = 53) : Rc36 (S2.setB 2 (.cells [.own (R'.atts.map Att.av) 0, .sl false (R'.dels.map Del.av)] 41)) s R' :=
  ⟨by rw [St.setB_ne (by decide)]; exact hx _ _ h.b0, by rw [St.setB_ne (by decide)]; exact hx _ _ h.b1, St.setB_get (hx _ _ h.b2), hf, ht⟩

section
variable (L : World → Prop)
set_option maxHeartbeats 8000000 in
theorem c_Change36 (l : List Flow) (s : Sched) (cs : List Chg) (x : List Rule) (slots : Int) (hl : l.length ≤ 281474976710656) (hx : ∀ r ∈ x, r.outs.length ≤ 281474976710656) (hxl : x.length ≤ 281474976710656) :
    PCall Tryz.prog L 29 [encFlows l, s.av, encChgs cs, encScript x, .int .i64 slots] (.tup [(changeM l s cs x slots).1.av, .int .i64 (changeM l s cs x slots).2]) := by
  refine PCall.intro mixed [] (nt := 56) Tryz.func29 rfl rfl (by simp) ?_
  refine Wk ?_
  first | refine CallK.data rfl (c_args36 L l s x slots hl hx hxl) rfl ?_ | refine CallP.data rfl (c_args36 L l s x slots hl hx hxl) rfl ?_
  refine Wk ?_
  refine BrK.mk (fun h1 => ?_) (fun h1 => ?_) <;> (try rw [h1])
  · have hpm : changeM l s cs x slots = (⟨[], []⟩, readyM l s x slots) := by rw [changeM, if_pos (by simpa using h1)]
    refine Wk ?_
    rw [hpm]
    exact resP.mk rfl (Sees.of_eq rfl)
  have h1' : readyM l s x slots = 0 := by simpa using h1
  obtain ⟨r1, r2, r3, r4, r5⟩ := ready_all h1'
  have hch := change_app (cs := cs) h1'
  refine Wk ?_
  first | refine CallK.data rfl (c_Apply36 L s cs 0) rfl ?_ | refine CallP.data rfl (c_Apply36 L s cs 0) rfl ?_
  refine Wk ?_
  refine BrK.mk (fun h2 => ?_) (fun h2 => ?_) <;> (try rw [h2])
  · rw [if_pos (by simpa using h2)] at hch
    refine Wk ?_
    rw [hch]
    exact resP.mk rfl (Sees.of_eq rfl)
  have h2' : (applyM s cs 0).2 = 0 := by simpa using h2
  rw [if_neg (by simpa using h2)] at hch
  obtain ⟨sc, hsc⟩ : ∃ sc : Nat → Sched, sc = fun n : Nat => nowM s cs (n : Int) := ⟨_, rfl⟩
  have hscf : ∀ n, formB (sc n) = true := fun n => by rw [hsc]; exact now_form r2 cs n
  have hscl : ∀ n, (sc n).cells.length ≤ 512 := fun n => (form_all (hscf n)).2.1
  rw [← hsc] at hch
  rw [hch]
  refine Wk ?_
  refine LoopK.bornC 2 0 8 53 rfl rfl ?_
  refine LoopK.recast (id := 2) (.cells [.own [] 0, .sl false []] 41) rfl rfl ⟨rfl, Sees.of_eq rfl, Sees.elems rfl, trivial⟩ ?_
  refine LoopK.runS mixed [] (fun (k : Nat) S2 => (k : Int) ≤ slots ∧ Rc36 S2 s (playR l sc x k)) (fun k => [(0, encFlows l), (2, encChgs cs), (3, encScript x), (4, .int .i64 slots), (6, .ptr 0 0), (10, .ptr 1 0), (13, .ptr 2 0), (14, .int .i64 k)]) (fun k => slots.toNat - k) 0 ⟨by omega, ⟨rfl, rfl, rfl, rfl, rfl⟩⟩ ?_ ?_
  · exact ⟨Sees.of_eq rfl, Sees.of_eq rfl, Sees.of_eq rfl, Sees.of_eq rfl, Sees.of_eq rfl, Sees.of_eq rfl, Sees.of_eq rfl, Sees.of_eq rfl, trivial⟩
  rintro k S2 ⟨hk, hA⟩
  have b0 := hA.b0
  have b1 := hA.b1
  have b2 := hA.b2
  repeat ((conv => whnf); first | refine sJ ?_ | refine And.intro (by first | exact trivial | kernel_rfl) ?_ )
  try (conv => whnf)
  refine BrK.mk (fun hb => ?_) (fun hb => ?_) <;> (try rw [hb])
  · have hlt : (k : Int) < slots := by simpa using hb
    have hwk : IntKind.i64.wrap ((k : Int) + 1) = ((k + 1 : Nat) : Int) := by rw [w64] <;> omega
    have hap := apply_now h2' (k : Int)
    have hsk : nowM s cs (k : Int) = sc k := by rw [hsc]
    rw [hsk] at hap
    have hlen := playR_len l sc x (m := 512) hscl k
    repeat ((conv => whnf); first | refine sJ ?_ | refine And.intro (by first | exact trivial | kernel_rfl) ?_ | rw [St.flush_nil] | rw [b0])
    try (conv => whnf)
    first | refine CallK.data rfl (c_Apply36 L s cs k) rfl ?_ | refine CallP.data rfl (c_Apply36 L s cs k) rfl ?_
    rw [hap]
    have hx3 : ∀ (z w : Ob) (id : Nat) (o : Ob), S2.bx[id]? = some o → ((S2.addB z).setB S2.bx.length w).bx[id]? = some o := fun z w id o ho => by
      have := (List.getElem?_eq_some_iff.1 ho).1
      rw [St.setB_ne (by omega)]; exact St.addB_old ho
    have c2 := fun z w => hx3 z w _ _ b2
    have cn : ∀ z w, ((S2.addB z).setB S2.bx.length w).bx[S2.bx.length]? = some w := fun z w => St.setB_get (St.addB_get S2 z)
    repeat ((conv => whnf); first | refine sJ ?_ | refine And.intro (by first | exact trivial | kernel_rfl) ?_ | rw [St.flush_nil] | rw [St.addB_get] | rw [c2] | rw [cn])
    try (conv => whnf)
    refine CallK.inl rfl ?_
    refine i_slotOf36 L _ 0 l (sc k) x (playR l sc x k) k hl r3 hx hxl (hscf k) (by omega) (by omega) (by omega) hA.fr hA.ty fun S3 hold hfr3 hty3 => ?_
    have hold2 : ∀ (id : Nat) (o : Ob), S2.bx[id]? = some o → S3.bx[id]? = some o := fun id o ho => hold id o (hx3 _ _ id o ho)
    have e2 := hold2 _ _ b2
    repeat ((conv => whnf); first | refine sJ ?_ | refine And.intro (by first | exact trivial | kernel_rfl) ?_ | rw [St.flush_nil] | rw [e2])
    try (conv => whnf)
    exact ⟨k + 1, ⟨by omega, hA.put hold2 hfr3 hty3⟩, by omega, Sees.of_eq rfl, Sees.of_eq rfl, Sees.of_eq rfl, Sees.of_eq rfl, Sees.of_eq rfl, Sees.of_eq rfl, Sees.of_eq rfl, Sees.int hwk, trivial⟩
  · have hk' : (k : Int) = slots := by simp at hb; omega
    have hkn : slots.toNat = k := by omega
    rw [hkn]
    repeat ((conv => whnf); first | refine sJ ?_ | refine And.intro (by first | exact trivial | kernel_rfl) ?_ | rw [St.flush_nil] | rw [b2] | rw [b1] | rw [St.setB_get b1])
    try (conv => whnf)
    exact resP.mk rfl (Sees.of_eq rfl)

theorem c_Play36 (l : List Flow) (s : Sched) (x : List Rule) (slots : Int) (hl : l.length ≤ 281474976710656) (hx : ∀ r ∈ x, r.outs.length ≤ 281474976710656) (hxl : x.length ≤ 281474976710656) :
    PCall Tryz.prog L 27 [encFlows l, s.av, encScript x, .int .i64 slots] (.tup [(playM l s x slots).1.av, .int .i64 (playM l s x slots).2]) := by
  refine PCall.intro mixed [] (nt := 17) Tryz.func27 rfl rfl (by simp) ?_
  refine Wk ?_
  first | refine CallK.data rfl (c_Change36 L l s [] x slots hl hx hxl) rfl ?_ | refine CallP.data rfl (c_Change36 L l s [] x slots hl hx hxl) rfl ?_
  rw [change_none]
  refine Wk ?_
  exact resP.mk rfl (Sees.of_eq rfl)
end

theorem changeM_len {l : List Flow} {s : Sched} {cs : List Chg} {x : List Rule} {slots : Int} : (changeM l s cs x slots).1.atts.length ≤ 2097152 ∧ (changeM l s cs x slots).1.dels.length ≤ 2097152 := by
  by_cases h : (changeM l s cs x slots).2 = 0
  · obtain ⟨h1, h2, h3⟩ := change_ok h
    obtain ⟨r1, r2, r3, r4, r5⟩ := ready_all h1
    have := playR_len l (fun n : Nat => nowM s cs (n : Int)) x (m := 512) (fun n => (form_all (now_form r2 cs n)).2.1) slots.toNat
    rw [h3]
    simp only
    omega
  · rw [change_bad h]; simp

set_option maxHeartbeats 4000000 in
theorem c_RunPlays (l : List Flow) (s : Sched) (cs : List Chg) (x : List Rule) (slots : Int) (hl : l.length ≤ 281474976710656) (hcs : cs.length ≤ 281474976710656) (hx : ∀ r ∈ x, r.outs.length ≤ 281474976710656) (hxl : x.length ≤ 281474976710656) :
    PCall Tryz.prog LW 5 [encFlows l, s.av, encChgs cs, encScript x, .int .i64 slots] (.bool true) := by
  refine PCall.intro mixed [] (nt := 82) Tryz.func5 rfl rfl (by simp) ?_
  refine Wk ?_
  first | refine CallK.data rfl (c_awake36) rfl ?_ | refine CallP.data rfl (c_awake36) rfl ?_
  refine Wk ?_
  first | refine CallK.data rfl (c_Few36 LW l s (cs.map Chg.av) x slots) rfl ?_ | refine CallP.data rfl (c_Few36 LW l s (cs.map Chg.av) x slots) rfl ?_
  refine Wk ?_
  refine BrK.mk (fun hfew => ?_) (fun hfew => ?_) <;> (try rw [hfew])
  · refine Wk ?_
    exact resP.mk rfl (Sees.bool rfl)
  refine Wk ?_
  first | refine CallK.data rfl (c_Play l s x slots hl hx hxl) rfl ?_ | refine CallP.data rfl (c_Play l s x slots hl hx hxl) rfl ?_
  obtain ⟨A, hA⟩ : ∃ A, A = (playM l s x slots).1 := ⟨_, rfl⟩
  obtain ⟨ea, hea⟩ : ∃ e, e = (playM l s x slots).2 := ⟨_, rfl⟩
  rw [← hA, ← hea]
  refine Wk ?_
  first | refine CallK.data rfl (c_Play36 LW l s x slots hl hx hxl) rfl ?_ | refine CallP.data rfl (c_Play36 LW l s x slots hl hx hxl) rfl ?_
  rw [← hA, ← hea]
  refine Wk ?_
  first | refine CallK.data rfl (c_Change l s cs x slots hl hcs hx hxl) rfl ?_ | refine CallP.data rfl (c_Change l s cs x slots hl hcs hx hxl) rfl ?_
  obtain ⟨B, hB⟩ : ∃ A, A = (changeM l s cs x slots).1 := ⟨_, rfl⟩
  obtain ⟨eb, heb⟩ : ∃ e, e = (changeM l s cs x slots).2 := ⟨_, rfl⟩
  rw [← hB, ← heb]
  refine Wk ?_
  first | refine CallK.data rfl (c_Change36 LW l s cs x slots hl hx hxl) rfl ?_ | refine CallP.data rfl (c_Change36 LW l s cs x slots hl hx hxl) rfl ?_
  rw [← hB, ← heb]
  have hlA := playM_len (l := l) (s := s) (x := x) (slots := slots)
  have hlB := changeM_len (l := l) (s := s) (cs := cs) (x := x) (slots := slots)
  rw [← hA] at hlA
  rw [← hB] at hlB
  refine Wk ?_
  first | refine CallK.data rfl (c_Same36 LW A A (by omega) (by omega) (by omega)) rfl ?_ | refine CallP.data rfl (c_Same36 LW A A (by omega) (by omega) (by omega)) rfl ?_
  rw [sameM_refl]
  refine Wk ?_
  rw [show (ea == ea) = true from by simp]
  refine Wk ?_
  first | refine CallK.data rfl (c_Same36 LW B B (by omega) (by omega) (by omega)) rfl ?_ | refine CallP.data rfl (c_Same36 LW B B (by omega) (by omega) (by omega)) rfl ?_
  rw [sameM_refl]
  refine Wk ?_
  exact resP.mk rfl (Sees.bool (by simp))
end HM
