/- The links of all requests; groups: the program. -/
import Derived.Test.YtdjglaoahmaljaaGreatDoorS137
import Derived.Test.YtdjglaoahmaljaaGreatDoorS129
import Derived.Test.YtdjglaoahmaljaaGreatDoorDa
import Derived.Test.YtdjglaoahmaljaaGreatDoorFh

set_option maxRecDepth 100000
namespace HM
open Go Go.RowKit Go.Proofs
/-- a slice that has grown -/
def GN (S : St) (v : AV) (l : List Link) : Prop := (v = .nils ∧ l = []) ∨ ∃ id d, v = .vsl id 0 l.length 3 ∧ S.bx[id]? = some (.cells (flatE (l.map Link.av) ++ List.replicate (d * 3) .undef) 56)
section
variable (L : World → Prop)

set_option maxHeartbeats 4000000 in
theorem c_qall (n : Net) (hn : n.small) (q : List Req) (hx : ∀ x ∈ q, x.small) (len offs : Int) (hQ : QOk n q len) : PCall Tryz.prog L 75 [qnAv n q len offs] (encLinks (allM n q)) := by
  have hok := hQ.net
  have h0 := hQ.n0
  have hq16 := hQ.q16
  refine PCall.intro mixed [2, 7] (nt := 24) Tryz.func75 rfl rfl (by simp) ?_
  refine Wk ?_
  refine SeqK.sem mixed [] ?_
  refine Wk ?_
  refine SemK.freezeB 0 rfl rfl ?_
  refine twC_sound (ct := [7]) mixed _ _ _ _ ?_
  refine Wk ?_
  refine SeqK.cutN mixed [] [] (fun (v : AV) (S1 : St) => GN S1 v (flatM n q)) (fun v => [(3, v)]) ?_ ?_
  · refine Wk ?_
    refine LoopK.runS mixed [] (fun (s : Nat × AV) (S1 : St) => s.1 ≤ q.length ∧ GV S1 s.2 (flatM n (q.take s.1))) (fun s => [(1, .cptr (qnAv n q len offs) 0), (3, s.2), (7, encReqs q), (8, .int .i64 q.length), (9, .int .i64 s.1)]) (fun s => q.length - s.1) (0, .grown .nils 0) ⟨by simp, .inl ⟨rfl, by simp [flatM]⟩⟩ ?_ ?_
    · exact ⟨Sees.of_eq rfl, Sees.nilG, Sees.of_eq rfl, Sees.int (by simp), Sees.of_eq rfl, trivial⟩
    rintro ⟨k, v⟩ S1 ⟨hk, hgv⟩
    simp only at hk hgv
    have hfl16 : (flatM n (q.take k)).length ≤ k * 128 := by
      clear hgv
      induction k with
      | zero => simp [flatM]
      | succ k ih =>
        obtain ⟨x, hgx⟩ := getLt (l := q) (k := k) (by omega)
        rw [flatM_take hgx, List.length_append]
        have := linksQ_len hok x
        have := ih (by omega)
        omega
    refine Wk ?_
    refine BrK.mk (fun hb => ?_) (fun hb => ?_) <;> (try rw [hb])
    · have hlt : k < q.length := by simpa using hb
      obtain ⟨x, hgx⟩ := getLt hlt
      have hmx := getMap (f := Req.av) hgx
      have hxm := List.mem_of_getElem? hgx
      have hxo := hQ.req x hxm
      have hF := flatM_take (n := n) hgx
      obtain ⟨ls, hls⟩ : ∃ ls, ls = linksQ n x := ⟨_, rfl⟩
      have hlsl := linksQ_len hok x
      have hlp : 0 < ls.length := by rw [hls]; exact List.length_pos_iff.2 (linksQ_ne hok hxo)
      have hcl := c_llinks L n hn h0 x (hx x hxm) hxo
      obtain ⟨out, hout⟩ : ∃ out, out = flatM n (q.take k) := ⟨_, rfl⟩
      rw [← hls] at hlsl hF hcl
      rw [← hout] at hF hgv hfl16
      have hA : ∀ (S : St) o, (S.addB o).bx[S.bx.length]? = some o := fun S o => St.addB_get S o
      have hA2 : ∀ (S : St) o o', ((S.addB o).setB S.bx.length o').bx[S.bx.length]? = some o' := fun S o o' => St.setB_get (St.addB_get S o)
      have hEl : Els (2 + 1) (ls.map Link.av) := linkOk.els ls
      rcases hgv with ⟨rfl, ho⟩ | ⟨id, d, rfl, hbx⟩
      · have hn1 : flatM n (q.take (k + 1)) = ls := by rw [hF, ho]; rfl
        repeat ((conv => whnf); first | refine sJ ?_ | refine And.intro (by first | exact inbMap hlt | exact trivial | kernel_rfl) ?_ | rw [hmx] | rw [hA] | rw [hA2])
        try (conv => whnf)
        first | refine CallK.data rfl (hcl) rfl ?_ | refine CallP.data rfl (hcl) rfl ?_
        repeat ((conv => whnf); first | refine sJ ?_ | refine And.intro (by first | exact trivial | kernel_rfl) ?_ | refine And.intro ⟨rfl, hEl, (by rw [List.length_map]; exact hlp), (show _ * 24 ≤ _ by rw [List.length_map]; omega), (show _ ≤ maxLen by rw [List.length_map]; simp only [maxLen]; omega)⟩ ?_)
        try (conv => whnf)
        intro d2
        refine Wk ?_
        have hlen : ∀ o o' : Ob, S1.bx.length + 1 = ((S1.addB o).setB S1.bx.length o').bx.length := fun o o' => by rw [St.setB_len, St.addB_len]
        refine ⟨(k + 1, .vsl (S1.bx.length + 1) 0 ls.length 3), ⟨by simp only; omega, .inr ⟨S1.bx.length + 1, d2, by simp only [hn1], ?_⟩⟩, by simp only; omega, Sees.of_eq rfl, Sees.of_eq (by show AV.vsl _ 0 (List.length (ls.map Link.av)) 3 = _; rw [List.length_map, hlen]), Sees.of_eq rfl, Sees.of_eq rfl, Sees.int (by simp only; rw [w64] <;> omega), trivial⟩
        simp only [hn1]
        rw [hlen]
        show (St.addB _ _).bx[_]? = _
        rw [St.addB_get]
      · have hfl := linkOk.flen out
        have hil := (List.getElem?_eq_some_iff.1 hbx).1
        have hBx : ∀ o o' : Ob, ((S1.addB o).setB S1.bx.length o').bx[id]? = some (.cells (flatE (out.map Link.av) ++ List.replicate (d * 3) .undef) 56) := fun o o' => by rw [St.setB_ne (by omega)]; exact St.addB_old hbx
        have hlen : ∀ o o' : Ob, S1.bx.length + 1 = ((S1.addB o).setB S1.bx.length o').bx.length := fun o o' => by rw [St.setB_len, St.addB_len]
        repeat ((conv => whnf); first | refine sJ ?_ | refine And.intro (by first | exact inbMap hlt | exact trivial | kernel_rfl) ?_ | rw [hmx] | rw [hA] | rw [hA2])
        try (conv => whnf)
        first | refine CallK.data rfl (hcl) rfl ?_ | refine CallP.data rfl (hcl) rfl ?_
        repeat ((conv => whnf); first | refine sJ ?_ | refine And.intro (by first | exact trivial | kernel_rfl) ?_ | rw [hBx])
        try (conv => whnf)
        refine And.intro ⟨rfl, rfl, hEl, (by rw [List.length_map]; exact hlp), (show (_ + _) * 24 ≤ _ by rw [List.length_map]; omega), (show _ + _ ≤ maxLen by rw [List.length_map]; simp only [maxLen]; omega), (by rw [List.length_append, hfl]; exact Nat.le_add_right _ _)⟩ ?_
        have hcut := linkOk.cut out (List.replicate (d * 3) .undef)
        have hml : (ls.map Link.av).length = ls.length := List.length_map ..
        refine AppK.mk (fun hroom => ?_) (fun _ => ?_)
        · rw [hml] at hroom
          refine Wk ?_
          refine ⟨(k + 1, .vsl id 0 (out.length + ls.length) 3), ⟨by simp only; omega, .inr ⟨id, d - ls.length, by simp only [hF, List.length_append], ?_⟩⟩, by simp only; omega, Sees.of_eq rfl, Sees.of_eq (by show AV.vsl id 0 (out.length + (ls.map Link.av).length) 3 = _; rw [hml]), Sees.of_eq rfl, Sees.of_eq rfl, Sees.int (by simp only; rw [w64] <;> omega), trivial⟩
          show (St.setB _ id _).bx[id]? = _
          rw [St.setB_get (hBx _ _)]
          simp only [hF]
          rw [← linkOk.pushL out ls d hroom]
        · intro d2
          refine Wk ?_
          refine ⟨(k + 1, .vsl (S1.bx.length + 1) 0 (out.length + ls.length) 3), ⟨by simp only; omega, .inr ⟨S1.bx.length + 1, d2, by simp only [hF, List.length_append], ?_⟩⟩, by simp only; omega, Sees.of_eq rfl, Sees.of_eq (by show AV.vsl _ 0 (out.length + (ls.map Link.av).length) 3 = _; rw [hml, hlen]), Sees.of_eq rfl, Sees.of_eq rfl, Sees.int (by simp only; rw [w64] <;> omega), trivial⟩
          rw [hlen]
          show (St.addB _ _).bx[_]? = _
          rw [St.addB_get]
          simp only [hF]
          rw [← flatE_pushL]
          show some (Ob.cells (List.take (out.length * 3) _ ++ _ ++ _) _) = _
          rw [hcut]
    · have hkl : k = q.length := by simp at hb; omega
      subst hkl
      rw [List.take_length] at hgv
      refine Wk ?_
      rcases hgv with ⟨rfl, ho⟩ | hgv
      · exact ⟨.nils, .inl ⟨rfl, ho⟩, Sees.gNil, trivial⟩
      · exact ⟨v, .inr hgv, Sees.of_eq rfl, trivial⟩
  · rintro v S1 hgv
    have hfl16 : (flatM n q).length ≤ 2048 := by
      have : ∀ k, k ≤ q.length → (flatM n (q.take k)).length ≤ k * 128 := by
        intro k hk
        induction k with
        | zero => simp [flatM]
        | succ k ih =>
          obtain ⟨x, hgx⟩ := getLt (l := q) (k := k) (by omega)
          rw [flatM_take hgx, List.length_append]
          have := linksQ_len hok x
          have := ih (by omega)
          omega
      have h1 := this q.length (Nat.le_refl _)
      rw [List.take_length] at h1
      omega
    rcases hgv with ⟨rfl, ho⟩ | ⟨id, d, rfl, hbx⟩
    · have hfin := all_eq hok (ds := []) (by rw [ho]) List.Pairwise.nil
      refine Wk ?_
      refine CallK.inl rfl (ICall.sort0 k_sortLk0 ?_)
      refine Wk ?_
      refine CallK.inl rfl (ICall.intro mixed [] (nt := 61) Tryz.func117 rfl rfl (by simp) ?_)
      refine Wk ?_
      exact resP.mk rfl (Sees.of_eq (by rw [← hfin]; rfl))
    · refine Wk ?_
      refine CallK.inl rfl (i_sortLk hbx (by omega) rfl fun ds hp hs => ?_)
      have hds := hp.length_eq
      have hfin := all_eq hok hp hs
      refine Wk ?_
      rw [show (flatM n q).length = ds.length from hds.symm]
      refine CallK.inl rfl (i_Compact L _ id ds _ (by omega) (St.setB_get hbx) fun S3 ex _ h3 => ?_)
      refine Wk ?_
      exact resP.mk (linkOk.fzb h3 rfl) (Sees.of_eq (by rw [hfin]; rfl))
end
end HM
