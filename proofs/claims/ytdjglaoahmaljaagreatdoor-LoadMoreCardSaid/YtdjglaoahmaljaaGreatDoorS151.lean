/- Whether links are a group: the program. -/
import Derived.Test.YtdjglaoahmaljaaGreatDoorS139
import Derived.Test.YtdjglaoahmaljaaGreatDoorS140

set_option maxRecDepth 100000
namespace HM
open Go Go.RowKit Go.Proofs
section
variable (L : World → Prop)

theorem c_apart1 (n : Net) (hn : n.small) (q : List Req) (len offs : Int) (m k : Link) : PCall Tryz.prog L 88 [k.av, .cptr (qnAv n q len offs) 0, .cptr m.av 0] (.bool (togB n k m)) := by
  refine PCall.intro mixed [] (nt := 10) Tryz.func88 rfl rfl (by simp) ?_
  refine Wk ?_
  first | refine CallK.data rfl (c_Together L n hn k m) rfl ?_ | refine CallP.data rfl (c_Together L n hn k m) rfl ?_
  refine Wk ?_
  exact resP.mk rfl (Sees.bool rfl)

theorem apart_no {n : Net} {q : List Req} {ls : List Link} {k : Nat} (hk : k < ls.length) (h : apAt n q ls k = false) : apartB n q ls = false := by
  unfold apartB
  rw [range_not hk h]; rfl

set_option maxHeartbeats 2000000 in
theorem c_apart (n : Net) (hn : n.small) (q : List Req) (hx : ∀ x ∈ q, x.small) (len offs : Int) (hQ : QOk n q len) (ls : List Link) (hl : ls.length ≤ 281474976710656) : PCall Tryz.prog L 45 [qnAv n q len offs, encLinks ls] (.bool (apartB n q ls)) := by
  have hal0 : (allM n q).length ≤ 281474976710656 := by
    have h1 := (all_sub n q).length_le
    have h2 := hQ.net.many
    omega
  obtain ⟨al, hal⟩ : ∃ al, al = allM n q := ⟨_, rfl⟩
  have hca := c_qall L n hn q hx len offs hQ
  rw [← hal] at hca hal0
  refine PCall.intro mixed [] (nt := 44) Tryz.func45 rfl rfl (by simp) ?_
  refine Wk ?_
  first | refine CallK.data rfl (hca) rfl ?_ | refine CallP.data rfl (hca) rfl ?_
  refine Wk ?_
  refine LoopK.run mixed [] (fun (k : Nat) => k ≤ ls.length ∧ ∀ j, j < k → apAt n q ls j = true) (fun k => [(1, encLinks ls), (2, .ptr 0 0), (5, encLinks al), (10, encLinks ls), (11, .int .i64 ls.length), (12, .int .i64 k)]) (fun k => ⟨[.cells (qnCs n q len offs) 68], [], 0, 0, fun _ => 0⟩) (fun k => ls.length - k) 0 ⟨by simp, by simp⟩ ?_ ?_
  · refine Fits.mk' rfl rfl rfl rfl ?_ ?_ ?_ ?_ ?_ <;> repeat' (first | exact trivial | refine And.intro ?_ ?_ | exact Sees.of_eq rfl | exact lt_b rfl | rfl | exact SeesL.rfl' _ | exact Sees.int (by simp))
  rintro k ⟨hk, hinv⟩
  refine Wk ?_
  refine BrK.mk (fun hb => ?_) (fun hb => ?_) <;> (try rw [hb])
  · have hlt : k < ls.length := by simpa using hb
    obtain ⟨m, hgm⟩ := getLt hlt
    have hmm := getMap (f := Link.av) hgm
    have hF : apAt n q ls k = (decide (m ∈ al) && (match k with
      | 0 => true
      | j + 1 => match ls[j]? with
        | some p => decide (p.cmp m < 0)
        | none => true) && !(ls.take k).any (fun k => togB n k m)) := by unfold apAt; rw [hgm, hal]; cases k <;> rfl
    have nxt : apAt n q ls k = true → ∀ j, j < k + 1 → apAt n q ls j = true := fun h j hj => by
      rcases Nat.lt_succ_iff_lt_or_eq.1 hj with h' | rfl
      · exact hinv j h'
      · exact h
    repeat ((conv => whnf); first | refine sJ ?_ | refine And.intro (by first | exact inbMap hlt | kernel_rfl) ?_ | rw [hmm])
    try (conv => whnf)
    first | refine CallK.data rfl (c_ContainsLk L al m hal0) rfl ?_ | refine CallP.data rfl (c_ContainsLk L al m hal0) rfl ?_
    cases h1 : decide (m ∈ al) with
    | false =>
      rw [h1] at hF
      refine Wk ?_
      exact resP.mk rfl (Sees.bool (by rw [apart_no hlt (by rw [hF]; first | done | rfl)]))
    | true =>
      rw [h1, Bool.true_and] at hF
      by_cases hk0 : k = 0
      · subst hk0
        simp only [Bool.true_and] at hF
        repeat ((conv => whnf); first | refine sJ ?_ | refine And.intro (by first | exact Els.map (f := Link.av) (fun x => ⟨linkOk.len x, linkOk.cell x⟩) | exact (show InC ((0 : Nat) : Int) _ from ⟨by omega, by omega⟩) | kernel_rfl) ?_ )
        try (conv => whnf)
        have htk : List.drop 0 (List.take ((0 : Nat) : Int).toNat (ls.map Link.av)) = (ls.take (0)).map Link.av := by rw [List.drop_zero, Int.toNat_natCast, List.map_take]
        refine CallK.sees (args' := [encLinks (ls.take (0)), .fn 88 [.ptr 0 0, .ptr 1 0]]) ⟨Sees.sl htk, Sees.of_eq rfl, trivial⟩ ?_
        refine CallK.box rfl (c_ContainsFuncLk L (ls.take (0)) (fun y => togB n y m) 88 [.cptr (qnAv n q len offs) 0, .cptr m.av 0] (by rw [List.length_take]; omega) rfl rfl (fun y _ => c_apart1 L n hn q len offs m y)) rfl rfl ?_
        cases h5 : (ls.take (0)).any fun y => togB n y m with
        | true =>
          rw [h5] at hF
          refine Wk ?_
          exact resP.mk rfl (Sees.bool (by rw [apart_no hlt (by rw [hF]; first | done | rfl)]))
        | false =>
          rw [h5] at hF
          refine Wk ?_
          refine ⟨0 + 1, ⟨by omega, nxt (by rw [hF]; rfl)⟩, by omega, ?_⟩
          refine Fits.mk' rfl rfl rfl rfl ?_ ?_ ?_ ?_ ?_ <;> repeat' (first | exact trivial | refine And.intro ?_ ?_ | exact Sees.of_eq rfl | exact lt_b rfl | rfl | exact SeesL.rfl' _ | exact Sees.int (by rw [w64] <;> omega))
      · obtain ⟨i, rfl⟩ : ∃ i, k = i + 1 := ⟨k - 1, by omega⟩
        obtain ⟨p, hgp⟩ := getLt (l := ls) (k := i) (by omega)
        have hmp := getMap (f := Link.av) hgp
        have hw : IntKind.i64.wrap (((i + 1 : Nat) : Int) - 1) = (i : Int) := by rw [w64] <;> omega
        have hg : decide ((0 : Int) < ((i + 1 : Nat) : Int)) = true := decide_eq_true (by omega)
        simp only [hgp] at hF
        repeat ((conv => whnf); first | refine sJ ?_ | refine And.intro (by first | exact trivial | (rw [hw]; exact inbMap (by omega)) | kernel_rfl) ?_ | rw [hg] | rw [hw] | rw [hmp])
        try (conv => whnf)
        first | refine CallK.data rfl (c_lcompare L p m) rfl ?_ | refine CallP.data rfl (c_lcompare L p m) rfl ?_
        by_cases h4 : p.cmp m < 0
        · have g4 : decide ((0 : Int) ≤ p.cmp m) = false := by simp; omega
          rw [decide_eq_true h4, Bool.true_and] at hF
          repeat ((conv => whnf); first | refine sJ ?_ | refine And.intro (by first | exact trivial | exact Els.map (f := Link.av) (fun x => ⟨linkOk.len x, linkOk.cell x⟩) | exact (show InC ((i + 1 : Nat) : Int) _ from ⟨by omega, by simp; omega⟩) | kernel_rfl) ?_ | rw [g4])
          try (conv => whnf)
          have htk : List.drop 0 (List.take ((i + 1 : Nat) : Int).toNat (ls.map Link.av)) = (ls.take (i + 1)).map Link.av := by rw [List.drop_zero, Int.toNat_natCast, List.map_take]
          refine CallK.sees (args' := [encLinks (ls.take (i + 1)), .fn 88 [.ptr 0 0, .ptr 1 0]]) ⟨Sees.sl htk, Sees.of_eq rfl, trivial⟩ ?_
          refine CallK.box rfl (c_ContainsFuncLk L (ls.take (i + 1)) (fun y => togB n y m) 88 [.cptr (qnAv n q len offs) 0, .cptr m.av 0] (by rw [List.length_take]; omega) rfl rfl (fun y _ => c_apart1 L n hn q len offs m y)) rfl rfl ?_
          cases h5 : (ls.take (i + 1)).any fun y => togB n y m with
          | true =>
            rw [h5] at hF
            refine Wk ?_
            exact resP.mk rfl (Sees.bool (by rw [apart_no hlt (by rw [hF]; first | done | rfl)]))
          | false =>
            rw [h5] at hF
            refine Wk ?_
            refine ⟨i + 1 + 1, ⟨by omega, nxt (by rw [hF]; rfl)⟩, by omega, ?_⟩
            refine Fits.mk' rfl rfl rfl rfl ?_ ?_ ?_ ?_ ?_ <;> repeat' (first | exact trivial | refine And.intro ?_ ?_ | exact Sees.of_eq rfl | exact lt_b rfl | rfl | exact SeesL.rfl' _ | exact Sees.int (by rw [w64] <;> omega))
        · have g4 : decide ((0 : Int) ≤ p.cmp m) = true := by simp; omega
          rw [decide_eq_false h4, Bool.false_and] at hF
          repeat ((conv => whnf); first | refine sJ ?_ | refine And.intro (by first | exact trivial | kernel_rfl) ?_ | rw [g4])
          try (conv => whnf)
          exact resP.mk rfl (Sees.bool (by rw [apart_no hlt (by rw [hF])]))
  · have hkn : k = ls.length := by simp at hb; omega
    subst hkn
    refine Wk ?_
    exact resP.mk rfl (Sees.bool (by unfold apartB; rw [range_all hinv]; simp))
end
end HM
