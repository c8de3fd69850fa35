/- The links of a request. -/
import Derived.Test.YtdjglaoahmaljaaGreatDoorS123
import Derived.Test.YtdjglaoahmaljaaGreatDoorS31
import Derived.Test.YtdjglaoahmaljaaGreatDoorFh

set_option maxRecDepth 100000
namespace HM
open Go Go.RowKit Go.Proofs
/-- a slice that grows: nothing yet, or a box of its own -/
def GV (S : St) (v : AV) (l : List Link) : Prop := (v = .grown .nils 0 ∧ l = []) ∨ ∃ id d, v = .vsl id 0 l.length 3 ∧ S.bx[id]? = some (.cells (flatE (l.map Link.av) ++ List.replicate (d * 3) .undef) 56)
section
variable (L : World → Prop)

set_option maxHeartbeats 4000000 in
theorem c_llinks (n : Net) (hn : n.small) (h0 : netE n = 0) (x : Req) (_ : x.small) (hxo : ReqOk n x) : PCall Tryz.prog L 100 [n.av, x.av] (encLinks (linksQ n x)) := by
  have hok := netE_ok h0
  obtain ⟨hl1, hl2⟩ := hxo.len
  have hr9 : ∀ r ∈ x.routes, 2 ≤ r.length ∧ r.length ≤ 9 := fun r hr => (routeF_ok (hxo.route r hr)).1
  refine PCall.intro mixed [2] (nt := 45) Tryz.func100 rfl rfl (by simp) ?_
  refine Wk ?_
  refine SeqK.sem mixed [] ?_
  refine Wk ?_
  refine SemK.freezeB 0 rfl rfl ?_
  refine SemK.freezeB 1 rfl rfl ?_
  refine twC_sound (ct := []) mixed _ _ _ _ ?_
  refine Wk ?_
  refine LoopK.runS mixed [] (fun (s : Nat × AV) (S1 : St) => s.1 ≤ x.routes.length ∧ GV S1 s.2 (linksF n (x.routes.take s.1))) (fun s => [(2, .cptr n.av 0), (3, .cptr x.av 0), (5, s.2), (10, encRows x.routes), (11, .int .i64 x.routes.length), (12, .int .i64 s.1)]) (fun s => x.routes.length - s.1) (0, .grown .nils 0) ⟨by simp, .inl ⟨rfl, by simp [linksF]⟩⟩ ?_ ?_
  · exact ⟨Sees.of_eq rfl, Sees.of_eq rfl, Sees.nilG, Sees.of_eq rfl, Sees.int (by simp), Sees.of_eq rfl, trivial⟩
  rintro ⟨k, v⟩ S1 ⟨hk, hgv⟩
  simp only at hk hgv
  refine Wk ?_
  refine BrK.mk (fun hb => ?_) (fun hb => ?_) <;> (try rw [hb])
  · have hlt : k < x.routes.length := by simpa using hb
    obtain ⟨r, hgr⟩ := getLt hlt
    have hmr := getMap (f := encIs) hgr
    have hrm := List.mem_of_getElem? hgr
    obtain ⟨hr2, hr9'⟩ := hr9 r hrm
    have hhop := (routeF_ok (hxo.route r hrm)).2.1
    have hF := linksF_take (n := n) hgr
    have hlF := linksF_len n (l := x.routes.take k) fun y hy => (hr9 y (List.mem_of_mem_take hy)).2
    rw [List.length_take] at hlF
    repeat ((conv => whnf); first | refine sJ ?_ | refine And.intro (by first | exact inbMap hlt | kernel_rfl) ?_ | rw [hmr])
    try (conv => whnf)
    refine LoopK.runS mixed [] (fun (s : Nat × AV) (S2 : St) => 1 ≤ s.1 ∧ s.1 ≤ r.length ∧ GV S2 s.2 (linksF n (x.routes.take k) ++ linksR n r (s.1 - 1))) (fun s => [(2, .cptr n.av 0), (3, .cptr x.av 0), (5, s.2), (7, encIs r), (8, .int .i64 s.1), (10, encRows x.routes), (11, .int .i64 x.routes.length), (12, .int .i64 k)]) (fun s => r.length - s.1) (1, v) ⟨by simp, by simp only; omega, by simpa [linksR] using hgv⟩ ?_ ?_
    · exact ⟨Sees.of_eq rfl, Sees.of_eq rfl, Sees.of_eq rfl, Sees.of_eq rfl, Sees.of_eq rfl, Sees.of_eq rfl, Sees.of_eq rfl, Sees.of_eq rfl, trivial⟩
    rintro ⟨i, u⟩ S2 ⟨hi1, hi2, hgu⟩
    simp only at hi1 hi2 hgu
    obtain ⟨i, rfl⟩ : ∃ j, i = j + 1 := ⟨i - 1, by omega⟩
    rw [Nat.add_sub_cancel] at hgu
    refine Wk ?_
    refine BrK.mk (fun h2 => ?_) (fun h2 => ?_) <;> (try rw [h2])
    · have hit : i + 1 < r.length := by simp at h2; omega
      have hw : IntKind.i64.wrap (((i + 1 : Nat) : Int) - 1) = (i : Int) := by rw [w64] <;> omega
      obtain ⟨a, hga⟩ := getLt (l := r) (k := i) (by omega)
      obtain ⟨b, hgb⟩ := getLt hit
      have hma := getMap (f := encI) hga
      have hmb := getMap (f := encI) hgb
      have hg := hhop i hit
      have ha : r.getD i 0 = a := by rw [List.getD_eq_getElem?_getD, hga]; rfl
      have hb' : r.getD (i + 1) 0 = b := by rw [List.getD_eq_getElem?_getD, hgb]; rfl
      have hls := linksR_succ n r i
      rw [ha, hb'] at hg hls
      obtain ⟨p, hp, hgp⟩ := lnkAt_get (good_find hg)
      have hmp := getMap (f := Link.av) hgp
      have hpl := (List.getElem?_eq_some_iff.1 hgp).1
      have hidx : indexN n a b = (p : Int) := by rw [indexN, if_pos h0, hp]
      obtain ⟨out, hout⟩ : ∃ out, out = linksF n (x.routes.take k) ++ linksR n r i := ⟨_, rfl⟩
      have hol : out.length ≤ 32 := by rw [hout, List.length_append, linksR_len]; omega
      have hnx : linksF n (x.routes.take k) ++ linksR n r (i + 1) = out ++ [lnkAt n a b] := by rw [hls, hout, List.append_assoc]
      obtain ⟨e, he⟩ : ∃ e, e = lnkAt n a b := ⟨_, rfl⟩
      rw [← he] at hmp hnx
      rw [← hout] at hgu
      rcases hgu with ⟨rfl, ho⟩ | ⟨id, d, rfl, hbx⟩
      · repeat ((conv => whnf); first | refine sJ ?_ | refine And.intro (by first | exact inbMap hit | (rw [hw]; exact inbMap (by omega)) | kernel_rfl) ?_ | rw [hw] | rw [hma] | rw [hmb])
        try (conv => whnf)
        first | refine CallK.data rfl (c_index L n hn a b) rfl ?_ | refine CallP.data rfl (c_index L n hn a b) rfl ?_
        rw [hidx]
        repeat ((conv => whnf); first | refine sJ ?_ | refine And.intro (by first | exact inbMap hpl | kernel_rfl) ?_ | rw [hmp] | refine And.intro ⟨rfl, Els.of_b rfl, Nat.succ_pos _, Nat.le_of_ble_eq_true rfl, Nat.le_of_ble_eq_true rfl⟩ ?_)
        try (conv => whnf)
        intro d2
        refine Wk ?_
        have hn1 : linksF n (x.routes.take k) ++ linksR n r (i + 2 - 1) = [e] := by rw [show i + 2 - 1 = i + 1 from rfl, hnx, ho]; rfl
        refine ⟨(i + 2, .vsl S2.bx.length 0 1 3), ⟨by simp only; omega, by simp only; omega, .inr ⟨S2.bx.length, d2, by simp only [hn1]; rfl, ?_⟩⟩, by simp only; omega, Sees.of_eq rfl, Sees.of_eq rfl, Sees.of_eq rfl, Sees.of_eq rfl, Sees.int (by simp only; rw [w64] <;> omega), Sees.of_eq rfl, Sees.of_eq rfl, Sees.of_eq rfl, trivial⟩
        show (S2.addB _).bx[S2.bx.length]? = _
        rw [St.addB_get]
        simp only [hn1]
        rfl
      · have hfl := linkOk.flen out
        repeat ((conv => whnf); first | refine sJ ?_ | refine And.intro (by first | exact inbMap hit | (rw [hw]; exact inbMap (by omega)) | kernel_rfl) ?_ | rw [hw] | rw [hma] | rw [hmb])
        try (conv => whnf)
        first | refine CallK.data rfl (c_index L n hn a b) rfl ?_ | refine CallP.data rfl (c_index L n hn a b) rfl ?_
        rw [hidx]
        repeat ((conv => whnf); first | refine sJ ?_ | refine And.intro (by first | exact inbMap hpl | kernel_rfl) ?_ | rw [hmp] | rw [show (S2.flush []).bx[id]? = _ from hbx])
        try (conv => whnf)
        refine And.intro ⟨rfl, rfl, Els.of_b rfl, Nat.succ_pos _, (show (_ + 1) * 24 ≤ _ by omega), (show _ + 1 ≤ maxLen by simp only [maxLen]; omega), (by rw [List.length_append, hfl]; exact Nat.le_add_right _ _)⟩ ?_
        have hpush := linkOk.push out e d
        have hcut := linkOk.cut out (List.replicate (d * 3) .undef)
        rw [List.length_append, hfl] at hpush
        refine AppK.mk (fun hroom => ?_) (fun _ => ?_)
        · rw [List.length_append, hfl] at hroom
          refine Wk ?_
          refine ⟨(i + 2, .vsl id 0 (out.length + 1) 3), ⟨by simp only; omega, by simp only; omega, .inr ⟨id, d - 1, ?_, ?_⟩⟩, by simp only; omega, Sees.of_eq rfl, Sees.of_eq rfl, Sees.of_eq rfl, Sees.of_eq rfl, Sees.int (by simp only; rw [w64] <;> omega), Sees.of_eq rfl, Sees.of_eq rfl, Sees.of_eq rfl, trivial⟩
          · simp only [show i + 2 - 1 = i + 1 from rfl, hnx, List.length_append, List.length_singleton]
          · show (S2.setB id _).bx[id]? = _
            rw [St.setB_get hbx]
            simp only [show i + 2 - 1 = i + 1 from rfl, hnx]
            rw [← hpush hroom]
            rfl
        · intro d2
          refine Wk ?_
          refine ⟨(i + 2, .vsl S2.bx.length 0 (out.length + 1) 3), ⟨by simp only; omega, by simp only; omega, .inr ⟨S2.bx.length, d2, ?_, ?_⟩⟩, by simp only; omega, Sees.of_eq rfl, Sees.of_eq rfl, Sees.of_eq rfl, Sees.of_eq rfl, Sees.int (by simp only; rw [w64] <;> omega), Sees.of_eq rfl, Sees.of_eq rfl, Sees.of_eq rfl, trivial⟩
          · simp only [show i + 2 - 1 = i + 1 from rfl, hnx, List.length_append, List.length_singleton]
          · show (S2.addB _).bx[S2.bx.length]? = _
            rw [St.addB_get]
            simp only [show i + 2 - 1 = i + 1 from rfl, hnx]
            rw [← flatE_push]
            show some (Ob.cells (List.take (out.length * 3) _ ++ _ ++ _) _) = _
            rw [hcut]; rfl
    · have hir : i + 1 = r.length := by simp at h2; omega
      rw [show i = r.length - 1 by omega, ← hF] at hgu
      refine Wk ?_
      exact ⟨(k + 1, u), ⟨by simp only; omega, hgu⟩, by simp only; omega, Sees.of_eq rfl, Sees.of_eq rfl, Sees.of_eq rfl, Sees.of_eq rfl, Sees.of_eq rfl, Sees.int (succI hlt (by omega)), trivial⟩
  · have hkl : k = x.routes.length := by simp at hb; omega
    subst hkl
    rw [List.take_length] at hgv
    have hlF := linksF_len n (l := x.routes) fun y hy => (hr9 y hy).2
    have hne := linksF_pos (n := n) (l := x.routes) hl1 fun y hy => (hr9 y hy).1
    rcases hgv with ⟨_, ho⟩ | ⟨id, d, rfl, hbx⟩
    · exact absurd ho hne
    refine Wk ?_
    refine CallK.inl rfl (i_sortLk hbx (by omega) rfl fun ds hp hs => ?_)
    have hds := hp.length_eq
    have hfin := links_eq hok hxo hp hs
    refine Wk ?_
    rw [show (linksF n x.routes).length = ds.length from hds.symm]
    refine CallK.inl rfl (i_Compact L _ id ds _ (by omega) (St.setB_get hbx) fun S3 ex _ h3 => ?_)
    refine Wk ?_
    exact resP.mk (linkOk.fzb h3 rfl) (Sees.of_eq (by rw [hfin]; rfl))
end
end HM
