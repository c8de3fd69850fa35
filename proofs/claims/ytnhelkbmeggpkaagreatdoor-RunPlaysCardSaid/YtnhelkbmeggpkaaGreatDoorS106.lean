/- The reference's run. -/
import Derived.Test.YtnhelkbmeggpkaaGreatDoorS105
import Derived.Test.YtnhelkbmeggpkaaGreatDoorS103
import Derived.Test.YtnhelkbmeggpkaaGreatDoorDb

set_option maxRecDepth 100000
namespace HM
open Go Go.RowKit Go.Proofs

section
variable (L : World → Prop)

theorem c_args36 (l : List Flow) (s : Sched) (x : List Rule) (slots : Int) (hl : l.length ≤ 281474976710656) (hx : ∀ r ∈ x, r.outs.length ≤ 281474976710656) (hxl : x.length ≤ 281474976710656) : PCall Tryz.prog L 68 [encFlows l, s.av, encScript x, .int .i64 slots] (.int .i64 (readyM l s x slots)) := by
  refine PCall.intro mixed [] (nt := 37) Tryz.func68 rfl rfl (by simp) ?_
  refine Wk ?_
  first | refine CallK.data rfl (c_FCheck32 L 32 l hl) rfl ?_ | refine CallP.data rfl (c_FCheck32 L 32 l hl) rfl ?_
  refine Wk ?_
  first | refine CallK.data rfl (c_Check36 L x hx hxl) rfl ?_ | refine CallP.data rfl (c_Check36 L x hx hxl) rfl ?_
  refine Wk ?_
  refine BrK.mk (fun h1 => ?_) (fun h1 => ?_) <;> (try rw [h1])
  · refine Wk ?_
    exact resP.mk rfl (Sees.int (by unfold readyM; rw [if_pos (.inl (by simpa using h1))]))
  refine Wk ?_
  refine BrK.mk (fun h2 => ?_) (fun h2 => ?_) <;> (try rw [h2])
  · refine Wk ?_
    exact resP.mk rfl (Sees.int (by unfold readyM; rw [if_pos (.inr (.inr (by simpa using h2)))]))
  refine Wk ?_
  first | refine CallK.data rfl (c_Formed L s) rfl ?_ | refine CallP.data rfl (c_Formed L s) rfl ?_
  refine Wk ?_
  refine BrK.mk (fun h3 => ?_) (fun h3 => ?_) <;> (try rw [h3])
  · refine Wk ?_
    exact resP.mk rfl (Sees.int (by unfold readyM; rw [if_pos (.inr (.inl (by simpa using h3)))]))
  have hn : ¬ ((flowsE 32 l).2 ≠ 0 ∨ formB s = false ∨ (scriptM x).2 ≠ 0) := by
    simp at h1 h2 h3
    simp [h1, h2, h3]
  refine Wk ?_
  first | refine CallK.data rfl (c_in36 L slots 0 4096) rfl ?_ | refine CallP.data rfl (c_in36 L slots 0 4096) rfl ?_
  refine Wk ?_
  refine BrK.mk (fun h4 => ?_) (fun h4 => ?_) <;> (try rw [h4])
  · refine Wk ?_
    exact resP.mk rfl (Sees.int (by unfold readyM; rw [if_neg hn, if_pos (by simp [inB36] at h4; omega)]))
  · refine Wk ?_
    exact resP.mk rfl (Sees.int (by unfold readyM; rw [if_neg hn, if_neg (by simp [inB36] at h4; omega)]))

structure Sl36 (S S1 : St) (ch : Nat) (s : Sched) (R : RunL) : Prop where
  old : ∀ (id : Nat) (o : Ob), S.bx[id]? = some o → S1.bx[id]? = some o
  b6 : S1.bx[S.bx.length]? = some (.cells s.av.cells 30)
  b8 : S1.bx[S.bx.length + 1]? = some (.cells [.own (R.atts.map Att.av) ch, .sl false (R.dels.map Del.av)] 41)
  b10 : S1.bx[S.bx.length + 2]? = some (.cells [.nils, .nils] 41)
  fr : S1.fr[ch]? = some (R.atts.length, 8)
  ty : S1.ty ch = 53
theorem Sl36.fin {S S1 : St} {ch : Nat} {s : Sched} {R : RunL} (h : Sl36 S S1 ch s R) (o : Ob) : ∀ (id : Nat) (o' : Ob), S.bx[id]? = some o' → (S1.setB (S.bx.length + 2) o).bx[id]? = some o' := fun id o' ho => by
  have := (List.getElem?_eq_some_iff.1 ho).1
  rw [St.setB_ne (by omega)]; exact h.old id o' ho
theorem Sl36.put {S S1 S2 : St} {ch : Nat} {s : Sched} {R R' : RunL} (h : Sl36 S S1 ch s R) (hx : ∀ (id : Nat) (o : Ob), S1.bx[id]? = some o → S2.bx[id]? = some o) (hf : S2.fr[ch]? = some (R'.atts.length, 8)) (ht : S2.ty ch = 53) : Sl36 S (S2.setB (S.bx.length + 1) (.cells [.own (R'.atts.map Att.av) ch, .sl false (R'.dels.map Del.av)] 41)) ch s R' := by
  refine ⟨fun id o ho => ?_, ?_, St.setB_get (hx _ _ h.b8), ?_, hf, ht⟩
  · have := (List.getElem?_eq_some_iff.1 ho).1
    rw [St.setB_ne (by omega)]; exact hx _ _ (h.old id o ho)
  · rw [St.setB_ne (by omega)]; exact hx _ _ h.b6
  · rw [St.setB_ne (by omega)]; exact hx _ _ h.b10

set_option maxHeartbeats 8000000 in
theorem i_slotOf36 (S : St) (ch : Nat) (l : List Flow) (s : Sched) (x : List Rule) (R : RunL) (slot : Int) {K : AV → St → Prop} (hl : l.length ≤ 281474976710656) (hs : (scriptM x).2 = 0) (hx : ∀ r ∈ x, r.outs.length ≤ 281474976710656) (hxl : x.length ≤ 281474976710656) (hform : formB s = true) (hslot : 0 ≤ slot)
    (hRa : R.atts.length ≤ 536870912) (hRd : R.dels.length ≤ 536870912) (hch : S.fr[ch]? = some (R.atts.length, 8)) (hty : S.ty ch = 53)
    (hK : ∀ S', (∀ (id : Nat) (o : Ob), S.bx[id]? = some o → S'.bx[id]? = some o) → S'.fr[ch]? = some ((slotR l s x R slot).atts.length, 8) → S'.ty ch = 53 → K (.agg [.own ((slotR l s x R slot).atts.map Att.av) ch, .sl false ((slotR l s x R slot).dels.map Del.av)]) S') :
    ICall Tryz.prog L 70 [encFlows l, s.av, encScript x, .agg [.own (R.atts.map Att.av) ch, .sl false (R.dels.map Del.av)], .int .i64 slot] S K := by
  obtain ⟨f1, f2, f3⟩ := form_all hform
  obtain ⟨z1, z2, z3, z4⟩ := sized_bd f1
  refine ICall.intro mixed [1] (nt := 41) Tryz.func70 rfl rfl (by simp) ?_
  repeat ((conv => whnf); first | refine sJ ?_ | refine And.intro (by first | exact trivial | kernel_rfl) ?_ )
  try (conv => whnf)
  refine SeqK.cutN mixed [] [] (fun (_ : Unit) S1 => Sl36 S S1 ch s R) (fun _ => [(0, encFlows l), (2, encScript x), (4, .int .i64 slot), (6, .ptr S.bx.length 0), (8, .ptr (S.bx.length + 1) 0), (10, .ptr (S.bx.length + 2) 0)]) ?_ ?_
  · repeat ((conv => whnf); first | refine sJ ?_ | refine And.intro (by first | exact trivial | kernel_rfl) ?_ )
    try (conv => whnf)
    refine ⟨(), ⟨fun id o ho => St.addB_old (St.addB_old (St.addB_old (S := S.inner) ho)), ?_, ?_, ?_, hch, hty⟩, Sees.of_eq rfl, Sees.of_eq rfl, Sees.of_eq rfl, Sees.of_eq rfl, Sees.of_eq ?_, Sees.of_eq ?_, trivial⟩
    · exact St.addB_old (St.addB_old (St.addB_get S.inner _))
    · have h9 := St.addB_get (S.inner.addB (.cells s.av.cells 30)) (.cells [.own (R.atts.map Att.av) ch, .sl false (R.dels.map Del.av)] 41)
      rw [St.addB_len] at h9
      exact St.addB_old h9
    · have h9 := St.addB_get ((S.inner.addB (.cells s.av.cells 30)).addB (.cells [.own (R.atts.map Att.av) ch, .sl false (R.dels.map Del.av)] 41)) (.cells [.nils, .nils] 41)
      rw [St.addB_len, St.addB_len] at h9
      exact h9
    · simp only [St.addB_len]; rfl
    · simp only [St.addB_len]; rfl
  rintro ⟨⟩ S1 hA
  rw [slotR_fold l s x R hform hslot] at hK
  repeat ((conv => whnf); first | refine sJ ?_ | refine And.intro (by first | exact trivial | kernel_rfl) ?_ )
  try (conv => whnf)
  refine LoopK.runS mixed [10005] (fun (k : Nat) S2 => k ≤ s.cells.length ∧ Sl36 S S2 ch s (((s.cells.take k).filter fun c => c.slot == slot % s.len).foldl (attemptR l x slot) R)) (fun k => [(0, encFlows l), (2, encScript x), (4, .int .i64 slot), (6, .ptr S.bx.length 0), (8, .ptr (S.bx.length + 1) 0), (10, .ptr (S.bx.length + 2) 0), (11, .int .i64 k)]) (fun k => s.cells.length - k) 0 ⟨by omega, hA⟩ ?_ ?_
  · exact ⟨Sees.of_eq rfl, Sees.of_eq rfl, Sees.of_eq rfl, Sees.of_eq rfl, Sees.of_eq rfl, Sees.of_eq rfl, Sees.of_eq rfl, trivial⟩
  rintro k S2 ⟨hk, hA2⟩
  have b6 := hA2.b6
  have b8 := hA2.b8
  have b10 := hA2.b10
  repeat ((conv => whnf); first | refine sJ ?_ | refine And.intro (by first | exact trivial | kernel_rfl) ?_ | rw [St.flush_nil] | rw [b6])
  try (conv => whnf)
  refine BrK.mk (fun hb => ?_) (fun hb => ?_) <;> (try rw [hb])
  · have hkt : k < s.cells.length := by simpa using hb
    obtain ⟨c, hgc⟩ := getLt hkt
    have hmc := getMap (f := Cell.av) hgc
    have hwk : IntKind.i64.wrap ((k : Int) + 1) = ((k + 1 : Nat) : Int) := by rw [w64] <;> omega
    have hlen := foldR_len l x slot ((s.cells.take k).filter fun c => c.slot == slot % s.len) R
    have hfl := List.length_filter_le (fun c : Cell => c.slot == slot % s.len) (s.cells.take k)
    rw [List.length_take] at hfl
    have htm : slot.tmod s.len = slot % s.len := Int.tmod_eq_emod_of_nonneg hslot
    repeat ((conv => whnf); first | refine sJ ?_ | refine And.intro (by first | exact trivial | exact inbMap hkt | exact (show s.len ≠ 0 by omega) | kernel_rfl) ?_ | rw [St.flush_nil] | rw [b6] | rw [hmc])
    try (conv => whnf)
    rw [htm]
    obtain ⟨Rk, hRk⟩ : ∃ Rk, Rk = ((s.cells.take k).filter fun c => c.slot == slot % s.len).foldl (attemptR l x slot) R := ⟨_, rfl⟩
    rw [← hRk] at hlen hA2 b8
    refine BrK.mk (fun g1 => ?_) (fun g1 => ?_) <;> (try rw [g1])
    · have hstep := fold_hit (f := attemptR l x slot) (p := fun c : Cell => c.slot == slot % s.len) (r := R) hgc g1
      rw [← hRk] at hstep
      repeat ((conv => whnf); first | refine sJ ?_ | refine And.intro (by first | exact trivial | kernel_rfl) ?_ )
      try (conv => whnf)
      refine SemK.regionFin mixed (fun X => X.bx[S.bx.length]? = some (.cells s.av.cells 30)) [0, 1, 3, 4, 5, 6, 7, 8] 3 rfl rfl (by decide) rfl b6 ?_
      iterate 8
        conv => whnf
        apply exJ
        · intro S' K' hI' hh
          repeat ((conv => whnf); first | refine sJ ?_ | refine And.intro (by first | exact trivial | exact inbMap hkt | kernel_rfl) ?_ | rw [hI'] | rw [hmc])
          try (conv => whnf)
          exact hh
      conv => whnf
      repeat' ((conv => whnf); first | exact trivial | refine sJ ?_ | refine And.intro (by first | exact trivial | exact b6 | exact Or.inr b6 | kernel_rfl) ?_ | refine And.intro ?_ ?_ | rw [b8])
      refine CallK.inl rfl ?_
      refine i_attempt36 L S2 ch l x Rk c slot hl hs hx hxl (by omega) (by omega) (by omega) hA2.fr hA2.ty fun S3 hold hfr3 hty3 => ?_
      have b8' := hold _ _ b8
      refine And.intro (Or.inr (hold _ _ b6)) ?_
      repeat' ((conv => whnf); first | exact trivial | refine sJ ?_ | refine And.intro (by first | exact trivial | (refine Or.inl ?_; kernel_rfl) | kernel_rfl) ?_ | refine And.intro ?_ ?_ | rw [b8'])
      conv => whnf
      exact ⟨k + 1, ⟨by omega, by rw [hstep]; exact hA2.put hold hfr3 hty3⟩, by omega, Sees.of_eq rfl, Sees.of_eq rfl, Sees.of_eq rfl, Sees.of_eq rfl, Sees.of_eq rfl, Sees.of_eq rfl, Sees.int hwk, trivial⟩
    · have hstep := fold_miss (f := attemptR l x slot) (p := fun c : Cell => c.slot == slot % s.len) (r := R) hgc g1
      rw [← hRk] at hstep
      repeat ((conv => whnf); first | refine sJ ?_ | refine And.intro (by first | exact trivial | kernel_rfl) ?_ )
      try (conv => whnf)
      exact ⟨k + 1, ⟨by omega, by rw [hstep]; exact hA2⟩, by omega, Sees.of_eq rfl, Sees.of_eq rfl, Sees.of_eq rfl, Sees.of_eq rfl, Sees.of_eq rfl, Sees.of_eq rfl, Sees.int hwk, trivial⟩
  · have hkn : k = s.cells.length := by simp at hb; omega
    subst hkn
    rw [List.take_length] at hA2 b8
    repeat ((conv => whnf); first | refine sJ ?_ | refine And.intro (by first | exact trivial | kernel_rfl) ?_ | rw [St.flush_nil] | rw [b8] | rw [b10] | rw [St.setB_get b10])
    try (conv => whnf)
    exact hK _ (hA2.fin _) hA2.fr hA2.ty
end
end HM
