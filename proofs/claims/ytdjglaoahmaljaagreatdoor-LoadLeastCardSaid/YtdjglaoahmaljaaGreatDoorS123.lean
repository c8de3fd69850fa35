/- What slices.Compact leaves of sorted links. -/
import Derived.Test.YtdjglaoahmaljaaGreatDoorS122
import Derived.Test.YtdjglaoahmaljaaGreatDoorFh

set_option maxRecDepth 100000
namespace HM
open Go Go.RowKit Go.Proofs
section
variable (L : World → Prop)

set_option maxHeartbeats 4000000 in
theorem i_Compact (S : St) (b : Nat) (l : List Link) (ex : List AV) {K : AV → St → Prop} (hl : l.length ≤ 281474976710656) (hb : S.bx[b]? = some (.cells (flatE (l.map Link.av) ++ ex) 56))
    (hK : ∀ S' ex', (∀ (j : Nat) (o : Ob), j ≠ b → S.bx[j]? = some o → S'.bx[j]? = some o) → S'.bx[b]? = some (.cells (flatE ((compact l).map Link.av) ++ ex') 56) → K (.vsl b 0 (compact l).length 3) S') :
    ICall Tryz.prog L 117 [.vsl b 0 l.length 3] S K := by
  refine ICall.intro mixed [] (nt := 61) Tryz.func117 rfl rfl (by simp) ?_
  refine Wk ?_
  refine BrK.mk (fun h1 => ?_) (fun h1 => ?_) <;> (try rw [h1])
  · have h1' : l.length < 2 := by simp at h1; omega
    refine Wk ?_
    have := hK S ex (fun _ _ _ h => h) (by rw [compact_short h1']; exact hb)
    rw [compact_short h1'] at this
    exact this
  have h1' : ¬ l.length < 2 := by simp at h1; omega
  refine Wk ?_
  refine LoopK.runS mixed [] (fun (k : Nat) (S1 : St) => 1 ≤ k ∧ k ≤ l.length ∧ compact (l.take k) = l.take k ∧ ∀ (j : Nat) (o : Ob), S.bx[j]? = some o → S1.bx[j]? = some o) (fun k => [(0, .vsl b 0 l.length 3), (3, .int .i64 k)]) (fun k => l.length - k) 1 ⟨by omega, by omega, ?_, fun _ _ h => h⟩ ?_ ?_
  · obtain ⟨x, hx⟩ := getLt (l := l) (k := 0) (by omega)
    exact compact_one hx
  · exact ⟨Sees.of_eq rfl, Sees.of_eq rfl, trivial⟩
  rintro k S1 ⟨hk1, hk2, hc, hS1⟩
  have hb1 := hS1 _ _ hb
  obtain ⟨m, rfl⟩ : ∃ m, k = m + 1 := ⟨k - 1, by omega⟩
  have hw : IntKind.i64.wrap (((m + 1 : Nat) : Int) - 1) = (m : Int) := by rw [w64] <;> omega
  refine Wk ?_
  refine BrK.mk (fun h2 => ?_) (fun h2 => ?_) <;> (try rw [h2])
  · have hlt : m + 1 < l.length := by simp at h2; omega
    obtain ⟨y, hgy⟩ := getLt hlt
    obtain ⟨x, hgx⟩ := getLt (l := l) (k := m) (by omega)
    repeat ((conv => whnf); first | refine sJ ?_ | refine And.intro (by first | exact ⟨by omega, by omega⟩ | (rw [hw]; exact ⟨by omega, by omega⟩) | kernel_rfl) ?_ | rw [hw] | rw [hb1])
    try (conv => whnf)
    refine And.intro (show 0 + ((m + 1 : Nat) : Int).toNat * 3 + 3 ≤ _ from linkOk.fit1 ex hlt) ?_
    rw [linkOk.ldr _ hgy _ _ (by kernel_rfl) (by kernel_rfl)]
    repeat ((conv => whnf); first | refine sJ ?_ | refine And.intro (by first | (rw [hw]; exact ⟨by omega, by omega⟩) | kernel_rfl) ?_ | rw [hw] | rw [hb1])
    try (conv => whnf)
    refine And.intro (show 0 + (m : Int).toNat * 3 + 3 ≤ _ from linkOk.fit1 ex (by omega)) ?_
    rw [linkOk.ldr _ hgx _ _ (by kernel_rfl) (by kernel_rfl)]
    have hdec : (y.src == x.src && (y.dst == x.dst && (y.loss == x.loss && true))) = decide (y = x) := by
      rw [Bool.eq_iff_iff]
      simp only [Bool.and_eq_true, beq_iff_eq, and_true, decide_eq_true_eq]
      constructor
      · rintro ⟨h1, h2, h3⟩
        cases x; cases y
        simp only at h1 h2 h3
        subst h1; subst h2; subst h3; rfl
      · rintro rfl; exact ⟨rfl, rfl, rfl⟩
    refine Wk ?_
    refine BrK.mk (fun h3 => ?_) (fun h3 => ?_) <;> (try rw [h3])
    · have h3' : y = x := by rw [hdec] at h3; simpa using h3
      repeat ((conv => whnf); first | refine sJ ?_ | refine And.intro (by first | (show InC _ _; exact ⟨by omega, by omega⟩) | kernel_rfl) ?_ | rw [hb1])
      try (conv => whnf)
      refine LoopK.runS mixed [] (fun (s : List Link × Nat × Nat) (S2 : St) => 1 ≤ s.2.2 ∧ Cpt l s.1 s.2.1 (m + 1 + s.2.2) ∧ (∀ (j : Nat) (o : Ob), j ≠ b → S.bx[j]? = some o → S2.bx[j]? = some o) ∧ S2.bx[b]? = some (.cells (flatE (s.1.map Link.av) ++ ex) 56)) (fun s => [(0, .vsl b 0 l.length 3), (3, .int .i64 s.2.1), (4, .vsl b (0 + ((m + 1 : Nat) : Int).toNat * 3) (l.length - ((m + 1 : Nat) : Int).toNat) 3), (5, .int .i64 s.2.2)]) (fun s => l.length - s.2.2) (l, m + 1, 1) ⟨by simp, Cpt.start hgx hgy h3' hc, fun _ _ _ h => hS1 _ _ h, hb1⟩ ?_ ?_
      · exact ⟨Sees.of_eq rfl, Sees.of_eq rfl, Sees.of_eq rfl, Sees.of_eq rfl, trivial⟩
      rintro ⟨a, i, t⟩ S2 ⟨ht, hcp, hu, hb2⟩
      simp only at ht hcp hb2
      have hij := hcp.ij
      have hjl := hcp.jl
      have hal := hcp.len
      refine Wk ?_
      refine BrK.mk (fun h4 => ?_) (fun h4 => ?_) <;> (try rw [h4])
      · have h4' : m + 1 + t < l.length := by simp at h4; omega
        obtain ⟨t, rfl⟩ : ∃ u, t = u + 1 := ⟨t - 1, by omega⟩
        have hw2 : IntKind.i64.wrap (((t + 1 : Nat) : Int) - 1) = (t : Int) := by rw [w64] <;> omega
        obtain ⟨v, hgv⟩ := getLt h4'
        obtain ⟨u, hgu⟩ := getLt (l := l) (k := m + 1 + t) (by omega)
        have hav : a[m + 1 + (t + 1)]? = some v := by rw [hcp.get (by omega)]; exact hgv
        have hau : a[m + 1 + t]? = some u := by rw [hcp.get (by omega)]; exact hgu
        repeat ((conv => whnf); first | refine sJ ?_ | refine And.intro (by first | exact (show InB ((t + 1 : Nat) : Int) (l.length - (m + 1)) from ⟨by omega, by omega⟩) | kernel_rfl) ?_ | rw [hw2] | rw [hb2] | rw [show (S2.flush []).bx[b]? = _ from hb2])
        try (conv => whnf)
        refine And.intro (show 0 + ((m + 1 : Nat) : Int).toNat * 3 + ((t + 1 : Nat) : Int).toNat * 3 + 3 ≤ _ from linkOk.fit2 ex (by omega)) ?_
        rw [linkOk.ldr2 _ hav _ _ _ (by kernel_rfl) (by kernel_rfl) (by kernel_rfl)]
        repeat ((conv => whnf); first | refine sJ ?_ | refine And.intro (by first | (rw [hw2]; exact (show InB (t : Int) (l.length - (m + 1)) from ⟨by omega, by omega⟩)) | kernel_rfl) ?_ | rw [hw2] | rw [hb2] | rw [show (S2.flush []).bx[b]? = _ from hb2])
        try (conv => whnf)
        refine And.intro (show 0 + ((m + 1 : Nat) : Int).toNat * 3 + (t : Int).toNat * 3 + 3 ≤ _ from linkOk.fit2 ex (by omega)) ?_
        rw [linkOk.ldr2 _ hau _ _ _ (by kernel_rfl) (by kernel_rfl) (by kernel_rfl)]
        have hdec2 : (!(v.src == u.src && (v.dst == u.dst && (v.loss == u.loss && true)))) = !decide (v = u) := by
          congr 1
          rw [Bool.eq_iff_iff]
          simp only [Bool.and_eq_true, beq_iff_eq, and_true, decide_eq_true_eq]
          constructor
          · rintro ⟨h1, h2, h3⟩
            cases v; cases u
            simp only at h1 h2 h3
            subst h1; subst h2; subst h3; rfl
          · rintro rfl; exact ⟨rfl, rfl, rfl⟩
        refine Wk ?_
        refine BrK.mk (fun h5 => ?_) (fun h5 => ?_) <;> (try rw [h5])
        · have h5' : v ≠ u := by rw [hdec2] at h5; simpa using h5
          have hk2 := hcp.keep (x := u) (y := v) hgu hgv h5'
          have hst := linkOk.st v ex (l := a) (k := i) (by omega)
          repeat ((conv => whnf); first | refine sJ ?_ | refine And.intro (by first | exact (show InB ((t + 1 : Nat) : Int) (l.length - (m + 1)) from ⟨by omega, by omega⟩) | exact (show InB (i : Int) l.length from ⟨by omega, by omega⟩) | kernel_rfl) ?_ | rw [hb2] | rw [show (S2.flush []).bx[b]? = _ from hb2])
          try (conv => whnf)
          refine And.intro (show 0 + ((m + 1 : Nat) : Int).toNat * 3 + ((t + 1 : Nat) : Int).toNat * 3 + 3 ≤ _ from linkOk.fit2 ex (by omega)) ?_
          rw [linkOk.ldr2 _ hav _ _ _ (by kernel_rfl) (by kernel_rfl) (by kernel_rfl)]
          repeat ((conv => whnf); first | refine sJ ?_ | refine And.intro (by first | exact (show InB (i : Int) l.length from ⟨by omega, by omega⟩) | kernel_rfl) ?_ | rw [hb2] | rw [show (S2.flush []).bx[b]? = _ from hb2])
          try (conv => whnf)
          refine And.intro (show 0 + (i : Int).toNat * 3 + 3 ≤ _ from linkOk.fit1 ex (by omega)) ?_
          refine Wk ?_
          refine ⟨(a.set i v, i + 1, t + 2), ⟨by simp only; omega, hk2, fun j o hne h => ?_, ?_⟩, by simp only; omega, Sees.of_eq rfl, Sees.int (by simp only; rw [w64] <;> omega), Sees.of_eq rfl, Sees.int (by simp only; rw [w64] <;> omega), trivial⟩
          · rw [St.setB_ne hne.symm]; exact hu j o hne h
          · rw [St.setB_get (show (S2.flush []).bx[b]? = _ from hb2)]
            rw [← hst, Nat.zero_add, Int.toNat_natCast]
            rfl
        · have h5' : v = u := by rw [hdec2] at h5; simpa using h5
          refine Wk ?_
          refine ⟨(a, i, t + 2), ⟨by simp only; omega, hcp.drop (x := u) (y := v) hgu hgv h5', hu, hb2⟩, by simp only; omega, Sees.of_eq rfl, Sees.of_eq rfl, Sees.of_eq rfl, Sees.int (by simp only; rw [w64] <;> omega), trivial⟩
      · have hjn : m + 1 + t = l.length := by simp at h4; omega
        rw [hjn] at hcp
        have hfin := hcp.fin
        have hflen := linkOk.flen a
        have hcl : 0 + (i : Int).toNat * 3 + (l.length - (i : Int).toNat) * 3 ≤ (flatE (a.map Link.av) ++ ex).length := by
          rw [List.length_append, hflen, Int.toNat_natCast, Nat.zero_add, ← Nat.add_mul, show i + (l.length - i) = l.length by omega, hal]
          exact Nat.le_add_right _ _
        have hfl : (compact l).length = i := by rw [← hfin, List.length_take]; omega
        repeat ((conv => whnf); first | refine sJ ?_ | refine And.intro (by first | exact (show InC (i : Int) l.length from ⟨by omega, by omega⟩) | exact ⟨rfl, rfl, Nat.le_of_ble_eq_true rfl, hcl⟩ | kernel_rfl) ?_ | rw [hb2] | rw [St.setB_get hb2])
        try (conv => whnf)
        rw [linkOk.clr' (l := a) (k := i) _ _ _ _ (by kernel_rfl) (by rw [Int.toNat_natCast, hal]) (by omega) rfl]
        refine And.intro ⟨by omega, ?_⟩ ?_
        · unfold upTo?
          rw [St.setB_get hb2]
          exact ⟨linkOk.headLe (k := i) _ _ rfl (by omega), by decide⟩
        refine Wk ?_
        have hK2 := hK
        rw [hfl] at hK2
        refine hK2 _ (repL (l.length - (i : Int).toNat) [.int .i64 0, .int .i64 0, .int .i64 0] ++ ex) (fun j o hne h => ?_) ?_
        · show (S2.setB b _).bx[j]? = _
          rw [St.setB_ne hne.symm]; exact hu j o hne h
        · show (S2.setB b _).bx[b]? = _
          rw [St.setB_get hb2, ← hfin]
          rfl
    · have h3' : ¬ y = x := by rw [hdec] at h3; simpa using h3
      refine Wk ?_
      refine ⟨m + 2, ⟨by omega, by omega, ?_, hS1⟩, by omega, Sees.of_eq rfl, Sees.int (by rw [w64] <;> omega), trivial⟩
      rw [compact_new hgx hgy h3', hc, ← take_succ hgy]
  · have hm : m + 1 = l.length := by simp at h2; omega
    rw [hm, List.take_length] at hc
    refine Wk ?_
    have := hK (S1.outer S) ex (fun _ _ _ h => hS1 _ _ h) (by rw [hc]; exact hb1)
    rw [hc] at this
    exact this
end
end HM
