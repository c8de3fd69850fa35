/- The links of all requests; groups: the program. -/
import Derived.Test.YtnckbcjkmbhgbaaGreatDoorS136
import Derived.Test.YtnckbcjkmbhgbaaGreatDoorS128
import Derived.Test.YtnckbcjkmbhgbaaGreatDoorDa
import Derived.Test.YtnckbcjkmbhgbaaGreatDoorFh
import Derived.Test.YtnckbcjkmbhgbaaGreatDoorDb
/- The links of all requests; groups: the program. -/
set_option maxRecDepth 100000
namespace HM
open Go Go.RowKit Go.Proofs
/-- a slice that has grown -/
def GN (S : St) (v : AV) (l : List Link) : Prop := (v = .nils ∧ l = []) ∨ ∃ id d, v = .vsl id 0 l.length 3 ∧ S.bx[id]? = some (.cells (flatE (l.map Link.av) ++ List.replicate (d * 3) .undef) 47)
section
variable (L : World → Prop)

set_option maxHeartbeats 4000000 in
theorem c_qall (n : Net) (hn : n.small) (q : List Req) (hx : ∀ x ∈ q, x.small) (len offs : Int) (hQ : QOk n q len) : PCall Tryz.prog L 252 [qnAv n q len offs] (encLinks (allM n q)) := by
  have hok := hQ.net
  have h0 := hQ.n0
  have hq16 := hQ.q16
  refine PCall.intro mixed [2, 7] (nt := 24) Tryz.func252 rfl rfl (by simp) ?_
  refine Wk ?_
  refine SeqK.sem mixed [] ?_
  refine Wk ?_
  refine SemK.freezeB 0 rfl rfl ?_
  refine twC_sound (ct := [7]) mixed _ _ _ _ ?_
  refine Wk ?_
  refine SeqK.cutN mixed [] [] (fun (v : AV) (S1 : St) => GN S1 v (flatM n q)) (fun v => [(3, v)]) ?_ ?_
  · refine Wk ?_
    refine LoopK.runS mixed [] (fun (s : Nat × AV) (S1 : St) => s.1 ≤ q.length ∧ GV S1 s.2 (flatM n (q.take s.1))) (fun s => [(1, .cptr (qnAv n q len offs) 0), (3, s.2), (7, encReqs q), (8, .int .i64 q.length), (9, .int .i64 s.1)]) (fun s => q.length - s.1) (0, .grown .nils 0) ⟨by simp, .inl ⟨rfl, by simp [flatM]⟩⟩ ?_ ?_
    · exact ⟨Sees.of_eq rfl, Sees.nilG, Sees.of_eq rfl, Sees.int (by simp), Sees.of_eq rfl, trivial⟩
    rintro ⟨k, v⟩ S1 ⟨hk, hgv⟩
    simp only at hk hgv
    have hfl16 : (flatM n (q.take k)).length ≤ k * 128 := by
      clear hgv
      induction k with
      | zero => simp [flatM]
      | succ k ih =>
        obtain ⟨x, hgx⟩ := getLt (l := q) (k := k) (by omega)
        rw [flatM_take hgx, List.length_append]
        have := linksQ_len hok x
        have := ih (by omega)
        omega
    refine Wk ?_
    refine BrK.mk (fun hb => ?_) (fun hb => ?_) <;> (try rw [hb])
    · have hlt : k < q.length := by simpa using hb
      obtain ⟨x, hgx⟩ := getLt hlt
      have hmx := getMap (f := Req.av) hgx
      have hxm := List.mem_of_getElem? hgx
      have hxo := hQ.req x hxm
      have hF := flatM_take (n := n) hgx
      obtain ⟨ls, hls⟩ : ∃ ls, ls = linksQ n x := ⟨_, rfl⟩
      have hlsl := linksQ_len hok x
      have hlp : 0 < ls.length := by rw [hls]; exact List.length_pos_iff.2 (linksQ_ne hok hxo)
      have hcl := c_llinks L n hn h0 x (hx x hxm) hxo
      obtain ⟨out, hout⟩ : ∃ out, out = flatM n (q.take k) := ⟨_, rfl⟩
      rw [← hls] at hlsl hF hcl
      rw [← hout] at hF hgv hfl16
      have hA : ∀ (S : St) o, (S.addB o).bx[S.bx.length]? = some o := fun S o => St.addB_get S o
      have hA2 : ∀ (S : St) o o', ((S.addB o).setB S.bx.length o').bx[S.bx.length]? = some o' := fun S o o' => St.setB_get (St.addB_get S o)
      have hEl : Els (2 + 1) (ls.map Link.av) := linkOk.els ls
      rcases hgv with ⟨rfl, ho⟩ | ⟨id, d, rfl, hbx⟩
      · have hn1 : flatM n (q.take (k + 1)) = ls := by rw [hF, ho]; rfl
        repeat ((conv => whnf); first | refine sJ ?_ | refine And.intro (by first | exact inbMap hlt | exact trivial | kernel_rfl) ?_ | rw [hmx] | rw [hA] | rw [hA2])
        try (conv => whnf)
        first | refine CallK.data rfl (hcl) rfl ?_ | refine CallP.data rfl (hcl) rfl ?_
        repeat ((conv => whnf); first | refine sJ ?_ | refine And.intro (by first | exact trivial | kernel_rfl) ?_ | refine And.intro ⟨rfl, hEl, (by rw [List.length_map]; exact hlp), (show _ * 24 ≤ _ by rw [List.length_map]; omega), (show _ ≤ maxLen by rw [List.length_map]; simp only [maxLen]; omega)⟩ ?_)
        try (conv => whnf)
        intro d2
        refine Wk ?_
        have hlen : ∀ o o' : Ob, S1.bx.length + 1 = ((S1.addB o).setB S1.bx.length o').bx.length := fun o o' => by rw [St.setB_len, St.addB_len]
        refine ⟨(k + 1, .vsl (S1.bx.length + 1) 0 ls.length 3), ⟨by simp only; omega, .inr ⟨S1.bx.length + 1, d2, by simp only [hn1], ?_⟩⟩, by simp only; omega, Sees.of_eq rfl, Sees.of_eq (by show AV.vsl _ 0 (List.length (ls.map Link.av)) 3 = _; rw [List.length_map, hlen]), Sees.of_eq rfl, Sees.of_eq rfl, Sees.int (by simp only; rw [w64] <;> omega), trivial⟩
        simp only [hn1]
        rw [hlen]
        show (St.addB _ _).bx[_]? = _
        rw [St.addB_get]
      · have hfl := linkOk.flen out
        have hil := (List.getElem?_eq_some_iff.1 hbx).1
        have hBx : ∀ o o' : Ob, ((S1.addB o).setB S1.bx.length o').bx[id]? = some (.cells (flatE (out.map Link.av) ++ List.replicate (d * 3) .undef) 47) := fun o o' => by rw [St.setB_ne (by omega)]; exact St.addB_old hbx
        have hlen : ∀ o o' : Ob, S1.bx.length + 1 = ((S1.addB o).setB S1.bx.length o').bx.length := fun o o' => by rw [St.setB_len, St.addB_len]
        repeat ((conv => whnf); first | refine sJ ?_ | refine And.intro (by first | exact inbMap hlt | exact trivial | kernel_rfl) ?_ | rw [hmx] | rw [hA] | rw [hA2])
        try (conv => whnf)
        first | refine CallK.data rfl (hcl) rfl ?_ | refine CallP.data rfl (hcl) rfl ?_
        repeat ((conv => whnf); first | refine sJ ?_ | refine And.intro (by first | exact trivial | kernel_rfl) ?_ | rw [hBx])
        try (conv => whnf)
        refine And.intro ⟨rfl, rfl, hEl, (by rw [List.length_map]; exact hlp), (show (_ + _) * 24 ≤ _ by rw [List.length_map]; omega), (show _ + _ ≤ maxLen by rw [List.length_map]; simp only [maxLen]; omega), (by rw [List.length_append, hfl]; exact Nat.le_add_right _ _)⟩ ?_
        have hcut := linkOk.cut out (List.replicate (d * 3) .undef)
        have hml : (ls.map Link.av).length = ls.length := List.length_map ..
        refine AppK.mk (fun hroom => ?_) (fun _ => ?_)
        · rw [hml] at hroom
          refine Wk ?_
          refine ⟨(k + 1, .vsl id 0 (out.length + ls.length) 3), ⟨by simp only; omega, .inr ⟨id, d - ls.length, by simp only [hF, List.length_append], ?_⟩⟩, by simp only; omega, Sees.of_eq rfl, Sees.of_eq (by show AV.vsl id 0 (out.length + (ls.map Link.av).length) 3 = _; rw [hml]), Sees.of_eq rfl, Sees.of_eq rfl, Sees.int (by simp only; rw [w64] <;> omega), trivial⟩
          show (St.setB _ id _).bx[id]? = _
          rw [St.setB_get (hBx _ _)]
          simp only [hF]
          rw [← linkOk.pushL out ls d hroom]
        · intro d2
          refine Wk ?_
          refine ⟨(k + 1, .vsl (S1.bx.length + 1) 0 (out.length + ls.length) 3), ⟨by simp only; omega, .inr ⟨S1.bx.length + 1, d2, by simp only [hF, List.length_append], ?_⟩⟩, by simp only; omega, Sees.of_eq rfl, Sees.of_eq (by show AV.vsl _ 0 (out.length + (ls.map Link.av).length) 3 = _; rw [hml, hlen]), Sees.of_eq rfl, Sees.of_eq rfl, Sees.int (by simp only; rw [w64] <;> omega), trivial⟩
          rw [hlen]
          show (St.addB _ _).bx[_]? = _
          rw [St.addB_get]
          simp only [hF]
          rw [← flatE_pushL]
          show some (Ob.cells (List.take (out.length * 3) _ ++ _ ++ _) _) = _
          rw [hcut]
    · have hkl : k = q.length := by simp at hb; omega
      subst hkl
      rw [List.take_length] at hgv
      refine Wk ?_
      rcases hgv with ⟨rfl, ho⟩ | hgv
      · exact ⟨.nils, .inl ⟨rfl, ho⟩, Sees.gNil, trivial⟩
      · exact ⟨v, .inr hgv, Sees.of_eq rfl, trivial⟩
  · rintro v S1 hgv
    have hfl16 : (flatM n q).length ≤ 2048 := by
      have : ∀ k, k ≤ q.length → (flatM n (q.take k)).length ≤ k * 128 := by
        intro k hk
        induction k with
        | zero => simp [flatM]
        | succ k ih =>
          obtain ⟨x, hgx⟩ := getLt (l := q) (k := k) (by omega)
          rw [flatM_take hgx, List.length_append]
          have := linksQ_len hok x
          have := ih (by omega)
          omega
      have h1 := this q.length (Nat.le_refl _)
      rw [List.take_length] at h1
      omega
    rcases hgv with ⟨rfl, ho⟩ | ⟨id, d, rfl, hbx⟩
    · have hfin := all_eq hok (ds := []) (by rw [ho]) List.Pairwise.nil
      refine Wk ?_
      refine CallK.inl rfl (ICall.sort0 k_sortLk0 ?_)
      refine Wk ?_
      refine CallK.inl rfl (ICall.intro mixed [] (nt := 61) Tryz.func333 rfl rfl (by simp) ?_)
      refine Wk ?_
      exact resP.mk rfl (Sees.of_eq (by rw [← hfin]; rfl))
    · refine Wk ?_
      refine CallK.inl rfl (i_sortLk hbx (by omega) rfl fun ds hp hs => ?_)
      have hds := hp.length_eq
      have hfin := all_eq hok hp hs
      refine Wk ?_
      rw [show (flatM n q).length = ds.length from hds.symm]
      refine CallK.inl rfl (i_Compact L _ id ds _ (by omega) (St.setB_get hbx) fun S3 ex _ h3 => ?_)
      refine Wk ?_
      exact resP.mk (linkOk.fzb h3 rfl) (Sees.of_eq (by rw [hfin]; rfl))
end
end HM

/- Groups of links: lists of links; the reason of a group. -/
set_option maxRecDepth 100000
namespace HM
open Go Go.RowKit Go.Proofs
section
variable (L : World → Prop)

theorem c_IndexLk (l : List Link) (x : Link) (hl : l.length ≤ 281474976710656) : PCall Tryz.prog L 378 [.sl false (l.map Link.av), Link.av x] (.int .i64 (idxF (fun y => decide (x = y)) l)) := by
  refine PCall.intro mixed [] (nt := 19) Tryz.func378 rfl rfl (by simp) ?_
  refine Wk ?_
  refine LoopK.run mixed [] (fun (k : Nat) => k ≤ l.length ∧ ∀ j y, j < k → l[j]? = some y → decide (x = y) = false) (fun k => [(0, .sl false (l.map Link.av)), (3, .ptr 0 0), (7, .int .i64 l.length), (8, .int .i64 k)]) (fun k => ⟨[.cells [.int .i64 x.src, .int .i64 x.dst, .int .i64 x.loss] 47], [], 0, 0, fun _ => 0⟩) (fun k => l.length - k) 0 ⟨by simp, by simp⟩ ?_ ?_
  · refine Fits.mk' rfl rfl rfl rfl ?_ ?_ ?_ ?_ ?_ <;> repeat' (first | exact trivial | refine And.intro ?_ ?_ | exact Sees.of_eq rfl | exact lt_b rfl | rfl | exact Sees.int (by simp) | exact SeesL.rfl' _)
  rintro k ⟨hk, hinv⟩
  refine Wk ?_
  refine BrK.mk (fun hb => ?_) (fun hb => ?_) <;> (try rw [hb])
  · have hlt : k < l.length := by simpa using hb
    obtain ⟨y, hgx⟩ := getLt hlt
    have hmx := getMap (f := Link.av) hgx
    repeat ((conv => whnf); first | refine sJ ?_ | refine And.intro (by first | exact inbMap hlt | kernel_rfl) ?_ | rw [hmx])
    try (conv => whnf)
    have hdec := link_dec x y
    refine BrK.mk (fun h2 => ?_) (fun h2 => ?_) <;> (try rw [h2])
    · have h2' : decide (x = y) = true := by rw [← hdec]; exact h2
      refine Wk ?_
      exact resP.mk rfl (Sees.int (idxF_some hlt hinv hgx h2').symm)
    · have h2' : decide (x = y) = false := by rw [← hdec]; exact h2
      refine Wk ?_
      refine ⟨k + 1, ⟨by omega, fun j z hj hz => ?_⟩, by omega, ?_⟩
      · rcases Nat.lt_succ_iff_lt_or_eq.1 hj with h | rfl
        · exact hinv j z h hz
        · rw [hgx] at hz; injection hz with hz; subst hz; exact h2'
      · refine Fits.mk' rfl rfl rfl rfl ?_ ?_ ?_ ?_ ?_ <;> repeat' (first | exact trivial | refine And.intro ?_ ?_ | exact Sees.of_eq rfl | exact lt_b rfl | rfl | exact Sees.int (succI hlt hl) | exact SeesL.rfl' _)
  · have hk' : k = l.length := by simp at hb; omega
    subst hk'
    refine Wk ?_
    exact resP.mk rfl (Sees.int (idxF_none hinv).symm)

theorem c_ContainsLk (l : List Link) (x : Link) (hl : l.length ≤ 281474976710656) : PCall Tryz.prog L 327 [.sl false (l.map Link.av), Link.av x] (.bool (decide (x ∈ l))) := by
  refine PCall.intro mixed [] (nt := 9) Tryz.func327 rfl rfl (by simp) ?_
  refine Wk ?_
  first | refine CallK.data rfl (c_IndexLk L l x hl) rfl ?_ | refine CallP.data rfl (c_IndexLk L l x hl) rfl ?_
  refine Wk ?_
  exact resP.mk rfl (Sees.bool (by rw [idxF_any, List.any_eq, ← decide_eq_decide.2 (show (∃ y, y ∈ l ∧ decide (x = y) = true) ↔ x ∈ l by simp)]))

theorem c_IndexFuncLk (l : List Link) (p : Link → Bool) (g : Nat) (caps : List AV) (hl : l.length ≤ 281474976710656) (hcb : callable Tryz.prog g = true) (hc : fzs caps = some caps) (hp : ∀ x ∈ l, PCall Tryz.prog L g (Link.av x :: caps) (.bool (p x))) :
    PCall Tryz.prog L 334 [.sl false (l.map Link.av), .fn g caps] (.int .i64 (idxF p l)) := by
  refine PCall.intro mixed [] (nt := 19) Tryz.func334 rfl rfl (by simp) ?_
  refine Wk ?_
  refine LoopK.run mixed [] (fun (k : Nat) => k ≤ l.length ∧ ∀ j x, j < k → l[j]? = some x → p x = false) (fun k => [(0, .sl false (l.map Link.av)), (1, .fn g caps), (7, .int .i64 l.length), (8, .int .i64 k)]) (fun k => St.none) (fun k => l.length - k) 0 ⟨by simp, by simp⟩ ?_ ?_
  · refine Fits.mk' rfl rfl rfl rfl ?_ ?_ ?_ ?_ ?_ <;> repeat' (first | exact trivial | refine And.intro ?_ ?_ | exact Sees.of_eq rfl | exact lt_b rfl | rfl | exact Sees.int (by simp) | exact fzs_okk hc)
  rintro k ⟨hk, hinv⟩
  refine Wk ?_
  refine BrK.mk (fun hb => ?_) (fun hb => ?_) <;> (try rw [hb])
  · have hlt : k < l.length := by simpa using hb
    obtain ⟨x, hgx⟩ := getLt hlt
    have hmx := getMap (f := Link.av) hgx
    repeat ((conv => whnf); first | refine sJ ?_ | refine And.intro (by first | exact inbMap hlt | kernel_rfl) ?_ | rw [hmx])
    try (conv => whnf)
    refine CallK.data hcb (hp x (List.mem_of_getElem? hgx)) (by show (match fz _, fzs caps with | some a, some b => some (a :: b) | _, _ => none) = _; rw [hc]; rfl) ?_
    refine Wk ?_
    refine BrK.mk (fun h2 => ?_) (fun h2 => ?_) <;> (try rw [h2])
    · refine Wk ?_
      exact resP.mk rfl (Sees.int (idxF_some hlt hinv hgx h2).symm)
    · refine Wk ?_
      refine ⟨k + 1, ⟨by omega, fun j y hj hy => ?_⟩, by omega, ?_⟩
      · rcases Nat.lt_succ_iff_lt_or_eq.1 hj with h | rfl
        · exact hinv j y h hy
        · rw [hgx] at hy; injection hy with hy; subst hy; exact h2
      · refine Fits.mk' rfl rfl rfl rfl ?_ ?_ ?_ ?_ ?_ <;> repeat' (first | exact trivial | refine And.intro ?_ ?_ | exact Sees.of_eq rfl | exact lt_b rfl | rfl | exact Sees.int (succI hlt hl) | exact fzs_okk hc)
  · have hk' : k = l.length := by simp at hb; omega
    subst hk'
    refine Wk ?_
    exact resP.mk rfl (Sees.int (idxF_none hinv).symm)

theorem c_ContainsFuncLk (l : List Link) (p : Link → Bool) (g : Nat) (caps : List AV) (hl : l.length ≤ 281474976710656) (hcb : callable Tryz.prog g = true) (hc : fzs caps = some caps) (hp : ∀ x ∈ l, PCall Tryz.prog L g (Link.av x :: caps) (.bool (p x))) :
    PCall Tryz.prog L 254 [.sl false (l.map Link.av), .fn g caps] (.bool (l.any p)) := by
  refine PCall.intro mixed [] (nt := 9) Tryz.func254 rfl rfl (by simp) ?_
  refine Wk ?_
  refine CallK.data rfl (c_IndexFuncLk L l p g caps hl hcb hc hp) (by show (match fz _, fzs [AV.fn g caps] with | some a, some b => some (a :: b) | _, _ => none) = _; rw [show fzs [AV.fn g caps] = some [AV.fn g caps] from by simp [fz, fzs, hc]]; rfl) ?_
  refine Wk ?_
  exact resP.mk rfl (Sees.bool (idxF_any p l))

theorem c_Clone0Lk : PCall Tryz.prog L 257 [.sl false (([] : List Link).map Link.av)] (.sl false (([] : List Link).map Link.av)) := by
  refine PCall.intro mixed [] (nt := 8) Tryz.func257 rfl rfl (by simp) ?_
  refine Wk ?_
  intro b
  cases b
  · repeat ((conv => whnf); first | refine sJ ?_ | refine And.intro (by first | exact Els.map (f := Link.av) (fun x => ⟨(linkOk).len x, (linkOk).cell x⟩) | kernel_rfl) ?_ )
    try (conv => whnf)
    exact resP.mk rfl (Sees.of_eq rfl)
  · refine Wk ?_
    exact resP.mk rfl (Sees.of_eq rfl)

theorem c_CloneP (l : List Link) (hl : l.length ≤ 1099511627776) : PCall Tryz.prog L 257 [encLinks l] (encLinks l) := by
  by_cases hne : l = []
  · subst hne; exact c_Clone0Lk L
  refine PCall.intro mixed [] (nt := 8) Tryz.func257 rfl rfl (by simp) ?_
  refine Wk ?_
  refine BrK.mk (fun h => ?_) (fun h => ?_) <;> (try rw [h])
  · exact absurd (by simpa using h) hne
  · repeat ((conv => whnf); first | refine sJ ?_ | refine And.intro (by first | exact Els.map (f := Link.av) (fun x => ⟨linkOk.len x, linkOk.cell x⟩) | exact (show _ * 24 ≤ _ by simp only [List.length_map, List.length_nil]; omega) | exact (by simp only [List.length_map, List.length_nil, maxLen]; omega) | kernel_rfl) ?_ )
    try (conv => whnf)
    exact resP.mk rfl (Sees.of_eq rfl)

theorem c_qgroup1 (m : Link) (l : List Link) (hl : l.length ≤ 281474976710656) : PCall Tryz.prog L 330 [m.av, .cptr (.agg [encLinks l]) 0] (.bool (decide (m ∈ l))) := by
  refine PCall.intro mixed [] (nt := 7) Tryz.func330 rfl rfl (by simp) ?_
  refine Wk ?_
  first | refine CallK.data rfl (c_ContainsLk L l m hl) rfl ?_ | refine CallP.data rfl (c_ContainsLk L l m hl) rfl ?_
  refine Wk ?_
  exact resP.mk rfl (Sees.bool rfl)

set_option maxHeartbeats 1000000 in
theorem c_qgroup (n : Net) (hn : n.small) (q : List Req) (hx : ∀ x ∈ q, x.small) (len offs : Int) (hQ : QOk n q len) (ho1 : 0 ≤ offs) (ho2 : offs ≤ 16) (l : List Link) (hl : l.length ≤ 1099511627776) : PCall Tryz.prog L 247 [qnAv n q len offs, encLinks l] (groupR n q len offs l).av := by
  refine PCall.intro mixed [] (nt := 23) Tryz.func247 rfl rfl (by simp) ?_
  have h1 := hQ.sz.l1
  have h2 := hQ.sz.l2
  have hmul : 0 ≤ len * offs ∧ len * offs ≤ 8192 := ⟨Int.mul_nonneg (by omega) ho1, Int.le_trans (Int.mul_le_mul h2 ho2 ho1 (by omega)) (by decide)⟩
  have hw : IntKind.i64.wrap (len * offs) = len * offs := by rw [w64] <;> omega
  refine Wk ?_
  first | refine CallK.box rfl (c_lsum L n hn q hx len hQ (fun m => decide (m ∈ l)) 330 [.cptr (.agg [encLinks l]) 0] rfl rfl (fun m _ => c_qgroup1 L m l (by omega))) rfl rfl ?_ | refine CallP.box rfl (c_lsum L n hn q hx len hQ (fun m => decide (m ∈ l)) 330 [.cptr (.agg [encLinks l]) 0] rfl rfl (fun m _ => c_qgroup1 L m l (by omega))) rfl rfl ?_
  refine Wk ?_
  first | refine CallK.data rfl (c_CloneP L l hl) rfl ?_ | refine CallP.data rfl (c_CloneP L l hl) rfl ?_
  repeat ((conv => whnf); first | refine sJ ?_ | refine And.intro (by first | exact trivial | kernel_rfl) ?_ | rw [hw])
  try (conv => whnf)
  exact resP.mk rfl (Sees.of_eq rfl)
end
end HM

/- Groups of links: the search. -/
set_option maxRecDepth 100000
namespace HM
open Go Go.RowKit Go.Proofs
section
variable (L : World → Prop)

theorem c_ext1 (n : Net) (hn : n.small) (q : List Req) (len offs : Int) (al : List Link) (i : Nat) (hi : i < al.length) (m : Link) : PCall Tryz.prog L 255 [m.av, .cptr (qnAv n q len offs) 0, .cptr (.agg [encLinks al]) 0, .cptr (.agg [.int .i64 i]) 0] (.bool (togB n m (al.getD i lk0))) := by
  obtain ⟨x, hgx⟩ := getLt hi
  have hmx := getMap (f := Link.av) hgx
  have hd : al.getD i lk0 = x := by rw [List.getD_eq_getElem?_getD, hgx]; rfl
  rw [hd]
  refine PCall.intro mixed [] (nt := 14) Tryz.func255 rfl rfl (by simp) ?_
  repeat ((conv => whnf); first | refine sJ ?_ | refine And.intro (by first | exact inbMap hi | kernel_rfl) ?_ | rw [hmx])
  try (conv => whnf)
  first | refine CallK.data rfl (c_Together L n hn m x) rfl ?_ | refine CallP.data rfl (c_Together L n hn m x) rfl ?_
  refine Wk ?_
  exact resP.mk rfl (Sees.bool rfl)

set_option maxHeartbeats 1000000 in
theorem i_CloneLk (S : St) (l : List Link) (hl : l.length ≤ 1099511627776) {K : AV → St → Prop} (h0 : l = [] → ∀ S', S'.bx = S.bx → (∀ (c : Nat) x, S.fr[c]? = some x → S'.fr[c]? = some x ∧ S'.ty c = S.ty c) → K .nils S') (hK : ∀ S' ch, S'.bx = S.bx → (∀ (c : Nat) x, S.fr[c]? = some x → S'.fr[c]? = some x ∧ S'.ty c = S.ty c) → S'.fr[ch]? = some (l.length, 3) → S'.ty ch = 47 → K (.own (l.map Link.av) ch) S') : ICall Tryz.prog L 257 [encLinks l] S K := by
  refine ICall.intro mixed [] (nt := 8) Tryz.func257 rfl rfl (by simp) ?_
  have hold : ∀ (x y : Nat × Nat) (e : TypeId) (c : Nat) (z : Nat × Nat), S.fr[c]? = some z → ((S.inner.addF x e).setF S.inner.fr.length y).fr[c]? = some z ∧ ((S.inner.addF x e).setF S.inner.fr.length y).ty c = S.ty c := fun x y e c z hz => by
    have hlt := (List.getElem?_eq_some_iff.1 hz).1
    have hz' : S.inner.fr[c]? = some z := hz
    refine ⟨?_, St.addF_tyo (S := S.inner) (x := x) hz'⟩
    rw [St.setF_ne (show S.inner.fr.length ≠ c by show S.fr.length ≠ c; omega)]
    exact St.addF_old hz'
  by_cases hne : l = []
  · subst hne
    refine Wk ?_
    intro b
    cases b
    · repeat ((conv => whnf); first | refine sJ ?_ | refine And.intro (by first | exact St.addF_get _ _ _ | exact St.addF_ty _ _ _ | exact Els.map (f := Link.av) (fun x => ⟨linkOk.len x, linkOk.cell x⟩) | kernel_rfl) ?_ )
      try (conv => whnf)
      refine hK _ _ rfl (fun c z hz => hold _ _ _ c z hz) ?_ ?_
      · exact St.setF_addF S.inner ([].length, 3) _ _
      · exact St.addF_ty S.inner (0, 3) _
    · refine Wk ?_
      exact h0 rfl _ rfl (fun _ _ h => ⟨h, rfl⟩)
  · refine Wk ?_
    refine BrK.mk (fun h => ?_) (fun h => ?_) <;> (try rw [h])
    · exact absurd (by simpa using h) hne
    · repeat ((conv => whnf); first | refine sJ ?_ | refine And.intro (by first | exact St.addF_get _ _ _ | exact St.addF_ty _ _ _ | exact Els.map (f := Link.av) (fun x => ⟨linkOk.len x, linkOk.cell x⟩) | exact (show _ * 24 ≤ _ by simp only [List.length_map, List.length_nil]; omega) | exact (by simp only [List.length_map, List.length_nil, maxLen]; omega) | kernel_rfl) ?_ )
      try (conv => whnf)
      refine hK _ _ rfl (fun c z hz => hold _ _ _ c z hz) ?_ ?_
      · refine (St.setF_addF S.inner ([].length, 3) _ _).trans ?_
        simp
      · exact St.addF_ty S.inner (0, 3) _

set_option maxHeartbeats 4000000 in
theorem i_extend (n : Net) (hn : n.small) (q : List Req) (hx : ∀ x ∈ q, x.small) (len offs : Int) (hQ : QOk n q len) (ho1 : 0 ≤ offs) (ho2 : offs ≤ 16) (al : List Link) (hal : al = allM n q) (hm : al.length ≤ 10) (B E : Nat) (hBE : B ≠ E) : ∀ (r k : Nat) (_ : k + r = al.length) (S : St) (g b : List Nat) (K : AV → St → Prop)
    (_ : List.Sublist g (List.range k)) (_ : List.Sublist b (List.range al.length))
    (_ : S.bx[B]? = some (.cells (bestC n q len offs b).cs 115))
    (_ : S.bx[E]? = some (.cells [.fn 253 [.cptr (qnAv n q len offs) 0, .ptr B 0, .cptr (.agg [encLinks al]) 0, .ptr E 0]] 308))
    (_ : ∀ S', (∀ (j : Nat) (o : Ob), j ≠ B → S.bx[j]? = some o → S'.bx[j]? = some o) → S'.bx[B]? = some (.cells (bestC n q len offs (loopG (tgI n al) (wI q len al) (List.range' k r) g (updI (wI q len al) g b))).cs 115) → K (.tup []) S'),
    ICall Tryz.prog L 253 [.int .i64 k, encLinks (gL al g), .cptr (qnAv n q len offs) 0, .ptr B 0, .cptr (.agg [encLinks al]) 0, .ptr E 0] S K := by
  intro r
  induction r using Nat.strongRecOn with
  | ind r ih =>
  intro k hkr S g b K hgs hbs hB hE hK
  have hok := hQ.net
  have hBl := (List.getElem?_eq_some_iff.1 hB).1
  have hgm := hgs.trans (range_sub (show k ≤ al.length by omega))
  have hgl : (gL al g).length ≤ 10 := by have := hgs.length_le; rw [List.length_range] at this; rw [gL_len]; omega
  have hcg := c_qgroup L n hn q hx len offs hQ ho1 ho2 (gL al g) (by omega)
  have hRn : (groupR n q len offs (gL al g)).need = wI q len al g := by rw [hal]; exact grp_need hok q len offs (by rw [← hal]; exact hgm)
  have hbn : (bestC n q len offs b).need = wI q len al b := by rw [hal]; exact bestC_need hok q len offs (by rw [← hal]; exact hbs)
  obtain ⟨R, hR⟩ : ∃ R, R = groupR n q len offs (gL al g) := ⟨_, rfl⟩
  rw [← hR] at hcg hRn
  refine ICall.intro mixed [3] (nt := 48) Tryz.func253 rfl rfl (by simp) ?_
  refine Wk ?_
  refine SeqK.cutN mixed [] [] (fun (_ : Unit) (S1 : St) => (∀ (j : Nat) (o : Ob), j ≠ B → S.bx[j]? = some o → S1.bx[j]? = some o) ∧ S1.bx[B]? = some (.cells (bestC n q len offs (updI (wI q len al) g b)).cs 115)) (fun _ => [(0, .int .i64 k), (1, encLinks (gL al g)), (2, .cptr (qnAv n q len offs) 0), (3, .ptr B 0), (4, .cptr (.agg [encLinks al]) 0), (5, .ptr E 0)]) ?_ ?_
  · have hA : ∀ (S : St) o, (S.addB o).bx[S.bx.length]? = some o := fun S o => St.addB_get S o
    have hA2 : ∀ (S : St) o o', ((S.addB o).setB S.bx.length o').bx[S.bx.length]? = some o' := fun S o o' => St.setB_get (St.addB_get S o)
    have hBX : ∀ o o' : Ob, ((S.inner.addB o).setB S.inner.bx.length o').bx[B]? = some (.cells (bestC n q len offs b).cs 115) := fun o o' => by
      rw [St.setB_ne (show S.inner.bx.length ≠ B by show S.bx.length ≠ B; omega)]
      exact St.addB_old hB
    have hO : ∀ (o o' o2 : Ob) (j : Nat), S.bx[j]? = some o2 → ((S.inner.addB o).setB S.inner.bx.length o').bx[j]? = some o2 := fun o o' o2 j hj => by
      have := (List.getElem?_eq_some_iff.1 hj).1
      rw [St.setB_ne (show S.inner.bx.length ≠ j by show S.bx.length ≠ j; omega)]
      exact St.addB_old hj
    refine Wk ?_
    first | refine CallK.data rfl (hcg) rfl ?_ | refine CallP.data rfl (hcg) rfl ?_
    by_cases hg : g = []
    · have g1 : decide ((0 : Int) < (((gL al g).map Link.av).length : Int)) = false := by rw [hg]; simp [gL]
      repeat ((conv => whnf); first | refine sJ ?_ | refine And.intro (by first | exact trivial | kernel_rfl) ?_ | rw [g1] | rw [hA] | rw [hA2] | rw [hBX])
      try (conv => whnf)
      exact ⟨(), ⟨fun j o _ h => hO _ _ _ j h, by rw [hg]; rfl⟩, Sees.of_eq rfl, Sees.of_eq rfl, Sees.of_eq rfl, Sees.of_eq rfl, Sees.of_eq rfl, Sees.of_eq rfl, trivial⟩
    · have g1 : decide ((0 : Int) < (((gL al g).map Link.av).length : Int)) = true := by
        rw [List.length_map, gL_len]
        have := List.length_pos_iff.2 hg
        simpa using this
      repeat ((conv => whnf); first | refine sJ ?_ | refine And.intro (by first | exact trivial | kernel_rfl) ?_ | rw [g1] | rw [hA] | rw [hA2] | rw [hBX])
      try (conv => whnf)
      by_cases hw : wI q len al b < wI q len al g
      · have g2 : decide ((bestC n q len offs b).need < R.need) = true := by rw [hRn, hbn]; simpa using hw
        repeat ((conv => whnf); first | refine sJ ?_ | refine And.intro (by first | exact trivial | kernel_rfl) ?_ | rw [g2] | rw [hA2] | rw [hBX])
        try (conv => whnf)
        have hbc : bestC n q len offs (updI (wI q len al) g b) = R := by
          unfold updI; rw [if_neg hg]
          unfold pickF; rw [if_pos hw]
          unfold bestC; rw [if_neg hg, hR, hal]
        refine ⟨(), ⟨fun j o hj h => ?_, ?_⟩, Sees.of_eq rfl, Sees.of_eq rfl, Sees.of_eq rfl, Sees.of_eq rfl, Sees.of_eq rfl, Sees.of_eq rfl, trivial⟩
        · show (St.setB _ B _).bx[j]? = _
          rw [St.setB_ne (fun e => hj e.symm)]
          exact hO _ _ _ j h
        · show (St.setB _ B _).bx[B]? = _
          rw [St.setB_get (hBX _ _), hbc]
          rfl
      · have g2 : decide ((bestC n q len offs b).need < R.need) = false := by rw [hRn, hbn]; simpa using hw
        have hbc : updI (wI q len al) g b = b := by
          unfold updI; rw [if_neg hg]
          unfold pickF; rw [if_neg hw]
        repeat ((conv => whnf); first | refine sJ ?_ | refine And.intro (by first | exact trivial | kernel_rfl) ?_ | rw [g2])
        try (conv => whnf)
        exact ⟨(), ⟨fun j o _ h => hO _ _ _ j h, by rw [hbc]; exact hBX _ _⟩, Sees.of_eq rfl, Sees.of_eq rfl, Sees.of_eq rfl, Sees.of_eq rfl, Sees.of_eq rfl, Sees.of_eq rfl, trivial⟩
  · rintro _ S1 ⟨hS1, hB1⟩
    obtain ⟨b1, hb1⟩ : ∃ b1, b1 = updI (wI q len al) g b := ⟨_, rfl⟩
    have hb1s : List.Sublist b1 (List.range al.length) := by
      rw [hb1]; unfold updI
      split
      · exact hbs
      · unfold pickF; split
        · exact hgm
        · exact hbs
    rw [← hb1] at hK hB1
    clear hb1 hbs hbn hB hRn hR hcg
    have hBl1 := (List.getElem?_eq_some_iff.1 hB1).1
    have hA : ∀ (S : St) o, (S.addB o).bx[S.bx.length]? = some o := fun S o => St.addB_get S o
    have hA2 : ∀ (S : St) o o', ((S.addB o).setB S.bx.length o').bx[S.bx.length]? = some o' := fun S o o' => St.setB_get (St.addB_get S o)
    have hO : ∀ (S1 : St) (o o' o2 : Ob) (j : Nat), S1.bx[j]? = some o2 → ((S1.addB o).setB S1.bx.length o').bx[j]? = some o2 := fun S1 o o' o2 j hj => by
      have := (List.getElem?_eq_some_iff.1 hj).1
      rw [St.setB_ne (by omega)]
      exact St.addB_old hj
    have hO3 : ∀ (S1 : St) (o o' o3 o2 : Ob) (j : Nat), S1.bx[j]? = some o2 → (((S1.addB o).setB S1.bx.length o').setB S1.bx.length o3).bx[j]? = some o2 := fun S1 o o' o3 o2 j hj => by
      have := (List.getElem?_eq_some_iff.1 hj).1
      rw [St.setB_ne (by omega)]
      exact hO S1 o o' o2 j hj
    repeat ((conv => whnf); first | refine sJ ?_ | refine And.intro (by first | exact trivial | kernel_rfl) ?_ | rw [hA])
    try (conv => whnf)
    refine LoopK.runS mixed [10007] (fun (s : Nat × Nat × List Nat) (S2 : St) => k ≤ s.1 ∧ s.1 ≤ al.length ∧ List.Sublist s.2.2 (List.range al.length) ∧ loopG (tgI n al) (wI q len al) (List.range' s.1 (al.length - s.1)) g s.2.2 = loopG (tgI n al) (wI q len al) (List.range' k r) g b1 ∧ (∀ (j : Nat) (o : Ob), j ≠ B → S.bx[j]? = some o → S2.bx[j]? = some o) ∧ S2.bx[B]? = some (.cells (bestC n q len offs s.2.2).cs 115) ∧ S2.bx[s.2.1]? = some (.cells [.int .i64 s.1] 3) ∧ s.2.1 ≠ B) (fun s => [(1, encLinks (gL al g)), (2, .cptr (qnAv n q len offs) 0), (3, .ptr B 0), (4, .cptr (.agg [encLinks al]) 0), (5, .ptr E 0), (9, .ptr s.2.1 0)]) (fun s => al.length - s.1) (k, S1.bx.length, b1) ⟨by simp, by simp only; omega, hb1s, by simp only; rw [show al.length - k = r by omega], fun j o hj h => hO S1 _ _ _ j (hS1 j o hj h), hO S1 _ _ _ B hB1, St.setB_get (hA S1 _), by simp only; omega⟩ ?_ ?_
    · exact ⟨Sees.of_eq rfl, Sees.of_eq rfl, Sees.of_eq rfl, Sees.of_eq rfl, Sees.of_eq rfl, Sees.of_eq rfl, trivial⟩
    rintro ⟨i, id, b2⟩ S2 ⟨i1, i2, i3, i4, i5, i6, i7, i8⟩
    simp only at i1 i2 i3 i4 i6 i7 i8
    repeat ((conv => whnf); first | refine sJ ?_ | refine And.intro (by first | exact trivial | kernel_rfl) ?_ | rw [i7])
    try (conv => whnf)
    refine BrK.mk (fun hb => ?_) (fun hb => ?_) <;> (try rw [hb])
    · have hlt : i < al.length := by simpa using hb
      have hBl2 := (List.getElem?_eq_some_iff.1 i6).1
      have hE2 := i5 E _ (fun e => hBE e.symm) hE
      obtain ⟨x, hgx⟩ := getLt hlt
      have hmx := getMap (f := Link.av) hgx
      have hxd : al.getD i lk0 = x := by rw [List.getD_eq_getElem?_getD, hgx]; rfl
      have hfz : fzbs S2 [encLinks (gL al g), .fn 255 [.cptr (qnAv n q len offs) 0, .cptr (.agg [encLinks al]) 0, .ptr id 0]] = some [encLinks (gL al g), .fn 255 [.cptr (qnAv n q len offs) 0, .cptr (.agg [encLinks al]) 0, .cptr (.agg [.int .i64 i]) 0]] := by
        simp [fzbs, fzb, fzs, fz, i7, encLinks]
      have hany : ((gL al g).any fun m => togB n m (al.getD i lk0)) = g.any fun m => tgI n al m i := by
        unfold gL; rw [List.any_map]; rfl
      refine Wk ?_
      refine CallK.box rfl (c_ContainsFuncLk L (gL al g) (fun m => togB n m (al.getD i lk0)) 255 [.cptr (qnAv n q len offs) 0, .cptr (.agg [encLinks al]) 0, .cptr (.agg [.int .i64 i]) 0] (by omega) rfl rfl (fun m _ => c_ext1 L n hn q len offs al i hlt m)) hfz rfl ?_
      rw [hany]
      have hwi : IntKind.i64.wrap ((i : Int) + 1) = ((i + 1 : Nat) : Int) := by rw [w64] <;> omega
      have hrng : List.range' i (al.length - i) = i :: List.range' (i + 1) (al.length - (i + 1)) := by
        rw [show al.length - i = (al.length - (i + 1)) + 1 by omega, List.range'_succ]
      cases hh : g.any fun m => tgI n al m i with
      | true =>
        have hst : loopG (tgI n al) (wI q len al) (List.range' i (al.length - i)) g b2 = loopG (tgI n al) (wI q len al) (List.range' (i + 1) (al.length - (i + 1))) g b2 := by
          rw [hrng]; conv => lhs; unfold loopG
          rw [if_pos hh]
        rw [hst] at i4
        repeat ((conv => whnf); first | refine sJ ?_ | refine And.intro (by first | exact trivial | kernel_rfl) ?_ | rw [i7] | rw [hA] | rw [hA2])
        try (conv => whnf)
        refine ⟨(i + 1, S2.bx.length, b2), ⟨by simp only; omega, by simp only; omega, i3, i4, fun j o hj h => hO3 S2 _ _ _ _ j (i5 j o hj h), hO3 S2 _ _ _ _ B i6, (St.setB_get (hA2 S2 _ _)).trans (by rw [hwi]; rfl), by simp only; omega⟩, by simp only; omega, Sees.of_eq rfl, Sees.of_eq rfl, Sees.of_eq rfl, Sees.of_eq rfl, Sees.of_eq rfl, Sees.of_eq rfl, trivial⟩
      | false =>
        have hst : loopG (tgI n al) (wI q len al) (List.range' i (al.length - i)) g b2 = loopG (tgI n al) (wI q len al) (List.range' (i + 1) (al.length - (i + 1))) g (loopG (tgI n al) (wI q len al) (List.range' (i + 1) (al.length - (i + 1))) (g ++ [i]) (pickF (wI q len al) b2 (g ++ [i]))) := by
          rw [hrng]; conv => lhs; unfold loopG
          rw [if_neg (by simp [hh])]
        rw [hst] at i4
        have hgi : List.Sublist (g ++ [i]) (List.range (i + 1)) := sub_snoc (hgs.trans (range_sub i1))
        have hJ : ∀ X : St, X.bx = S2.bx → X.bx[B]? = some (.cells (bestC n q len offs b2).cs 115) ∧ X.bx[E]? = some (.cells [.fn 253 [.cptr (qnAv n q len offs) 0, .ptr B 0, .cptr (.agg [encLinks al]) 0, .ptr E 0]] 308) := fun X h => by rw [h]; exact ⟨i6, hE2⟩
        have hI : ∀ X : St, X.bx = S2.bx → X.bx[E]? = some (.cells [.fn 253 [.cptr (qnAv n q len offs) 0, .ptr B 0, .cptr (.agg [encLinks al]) 0, .ptr E 0]] 308) ∧ X.bx[id]? = some (.cells [.int .i64 i] 3) := fun X h => by rw [h]; exact ⟨hE2, i7⟩
        refine Wk ?_
        refine SemK.regionFin mixed (fun X => X.bx[E]? = some (.cells [.fn 253 [.cptr (qnAv n q len offs) 0, .ptr B 0, .cptr (.agg [encLinks al]) 0, .ptr E 0]] 308) ∧ X.bx[id]? = some (.cells [.int .i64 i] 3)) [0, 1, 2, 3, 5, 6, 7, 8] 4 rfl rfl (by decide) rfl ⟨hE2, i7⟩ ?_
        iterate 8
          conv => whnf
          apply exV
          · rintro S' K' ⟨hI1, hI2⟩ hh
            repeat ((conv => whnf); first | refine sJ ?_ | refine And.intro (by first | exact trivial | exact inbMap hlt | kernel_rfl) ?_ | rw [hI1] | rw [hI2] | rw [hmx])
            try (conv => whnf)
            exact hh
        conv => whnf
        repeat' ((conv => whnf); first | exact trivial | refine sJ ?_ | refine And.intro (by first | exact trivial | exact Or.inr ⟨hE2, i7⟩ | kernel_rfl) ?_ | refine And.intro ?_ ?_ )
        · refine CallK.inl rfl ?_
          refine i_CloneLk L S2 (gL al g) (by omega) (fun h0 S3 h3 k3 => ?_) fun S3 ch h3 k3 f3 t3 => ?_
          · refine And.intro (Or.inr (hI _ h3)) ?_
            repeat' ((conv => whnf); first | exact trivial | refine sJ ?_ | refine And.intro (by first | exact trivial | exact Or.inr (hI _ h3) | exact St.addF_get _ _ _ | exact St.addF_ty _ _ _ | kernel_rfl) ?_ | refine And.intro ?_ ?_ )
            refine CallK.sees (args' := [.int .i64 (i + 1 : Nat), encLinks (gL al (g ++ [i]))]) ⟨Sees.int hwi, Sees.elems (by rw [gL_snoc, h0, hxd]; rfl), trivial⟩ ?_
            refine CallK.inl rfl ?_
            refine ih (al.length - (i + 1)) (by omega) (i + 1) (by omega) _ (g ++ [i]) b2 _ hgi i3 (hJ _ h3).1 (hJ _ h3).2 fun S4 h4 hB4 => ?_
            rw [updI_snoc] at hB4
            have i7'' := h4 id _ i8 (hI _ h3).2
            have hS4 : ∀ (j : Nat) (o : Ob), j ≠ B → S.bx[j]? = some o → S4.bx[j]? = some o := fun j o hj h => h4 j o hj (by show S3.bx[j]? = _; rw [h3]; exact i5 j o hj h)
            have hB4l := (List.getElem?_eq_some_iff.1 hB4).1
            refine And.intro (Or.inr ⟨h4 E _ (fun e => hBE e.symm) (hJ _ h3).2, i7''⟩) ?_
            repeat ((conv => whnf); first | refine sJ ?_ | refine And.intro (by first | exact trivial | kernel_rfl) ?_ | rw [i7''] | rw [hA] | rw [hA2])
            try (conv => whnf)
            refine ⟨(i + 1, S4.bx.length, loopG (tgI n al) (wI q len al) (List.range' (i + 1) (al.length - (i + 1))) (g ++ [i]) (pickF (wI q len al) b2 (g ++ [i]))), ⟨by simp only; omega, by simp only; omega, ?_, i4, fun j o hj h => hO3 S4 _ _ _ _ j (hS4 j o hj h), hO3 S4 _ _ _ _ B hB4, (St.setB_get (hA2 S4 _ _)).trans (by rw [hwi]; rfl), by simp only; omega⟩, by simp only; omega, Sees.of_eq rfl, Sees.of_eq rfl, Sees.of_eq rfl, Sees.of_eq rfl, Sees.of_eq rfl, Sees.of_eq rfl, trivial⟩
            have hls := loopG_subs (tg := tgI n al) (w := wI q len al) (g := g ++ [i]) (b := pickF (wI q len al) b2 (g ++ [i])) (k := i + 1) (r := al.length - (i + 1)) hgi (by
              rw [show i + 1 + (al.length - (i + 1)) = al.length by omega]
              unfold pickF
              split
              · exact hgi.trans (range_sub (by omega))
              · exact i3)
            rw [show i + 1 + (al.length - (i + 1)) = al.length by omega] at hls
            exact hls
          · refine And.intro (Or.inr (hI _ h3)) ?_
            repeat' ((conv => whnf); first | exact trivial | refine sJ ?_ | refine And.intro (by first | exact trivial | exact Or.inr (hI _ h3) | exact St.addF_get _ _ _ | exact St.addF_ty _ _ _ | exact (show (_ + 1) * 24 ≤ _ by rw [List.length_map]; omega) | exact (show _ + 1 ≤ maxLen by rw [List.length_map]; simp only [maxLen]; omega) | exact (St.addF_old f3).trans (by rw [List.length_map]) | exact (St.addF_tyo f3).trans t3 | exact Els.map (f := Link.av) (fun x => ⟨linkOk.len x, linkOk.cell x⟩) | kernel_rfl) ?_ | refine And.intro ?_ ?_ )
            refine CallK.sees (args' := [.int .i64 (i + 1 : Nat), encLinks (gL al (g ++ [i]))]) ⟨Sees.int hwi, Sees.elems (by rw [gL_snoc, hxd, List.map_append]; rfl), trivial⟩ ?_
            refine CallK.inl rfl ?_
            refine ih (al.length - (i + 1)) (by omega) (i + 1) (by omega) _ (g ++ [i]) b2 _ hgi i3 (hJ _ h3).1 (hJ _ h3).2 fun S4 h4 hB4 => ?_
            rw [updI_snoc] at hB4
            have i7'' := h4 id _ i8 (hI _ h3).2
            have hS4 : ∀ (j : Nat) (o : Ob), j ≠ B → S.bx[j]? = some o → S4.bx[j]? = some o := fun j o hj h => h4 j o hj (by show S3.bx[j]? = _; rw [h3]; exact i5 j o hj h)
            have hB4l := (List.getElem?_eq_some_iff.1 hB4).1
            refine And.intro (Or.inr ⟨h4 E _ (fun e => hBE e.symm) (hJ _ h3).2, i7''⟩) ?_
            repeat ((conv => whnf); first | refine sJ ?_ | refine And.intro (by first | exact trivial | kernel_rfl) ?_ | rw [i7''] | rw [hA] | rw [hA2])
            try (conv => whnf)
            refine ⟨(i + 1, S4.bx.length, loopG (tgI n al) (wI q len al) (List.range' (i + 1) (al.length - (i + 1))) (g ++ [i]) (pickF (wI q len al) b2 (g ++ [i]))), ⟨by simp only; omega, by simp only; omega, ?_, i4, fun j o hj h => hO3 S4 _ _ _ _ j (hS4 j o hj h), hO3 S4 _ _ _ _ B hB4, (St.setB_get (hA2 S4 _ _)).trans (by rw [hwi]; rfl), by simp only; omega⟩, by simp only; omega, Sees.of_eq rfl, Sees.of_eq rfl, Sees.of_eq rfl, Sees.of_eq rfl, Sees.of_eq rfl, Sees.of_eq rfl, trivial⟩
            have hls := loopG_subs (tg := tgI n al) (w := wI q len al) (g := g ++ [i]) (b := pickF (wI q len al) b2 (g ++ [i])) (k := i + 1) (r := al.length - (i + 1)) hgi (by
              rw [show i + 1 + (al.length - (i + 1)) = al.length by omega]
              unfold pickF
              split
              · exact hgi.trans (range_sub (by omega))
              · exact i3)
            rw [show i + 1 + (al.length - (i + 1)) = al.length by omega] at hls
            exact hls
        · refine CallK.inl rfl ?_
          refine i_CloneLk L _ (gL al g) (by omega) (fun h0 S3 h3 k3 => ?_) fun S3 ch h3 k3 f3 t3 => ?_
          · refine And.intro (Or.inr (hI _ h3)) ?_
            repeat' ((conv => whnf); first | exact trivial | refine sJ ?_ | refine And.intro (by first | exact trivial | exact Or.inr (hI _ h3) | exact St.addF_get _ _ _ | exact St.addF_ty _ _ _ | kernel_rfl) ?_ | refine And.intro ?_ ?_ )
            refine CallK.sees (args' := [.int .i64 (i + 1 : Nat), encLinks (gL al (g ++ [i]))]) ⟨Sees.int hwi, Sees.elems (by rw [gL_snoc, h0, hxd]; rfl), trivial⟩ ?_
            refine CallK.inl rfl ?_
            refine ih (al.length - (i + 1)) (by omega) (i + 1) (by omega) _ (g ++ [i]) b2 _ hgi i3 (hJ _ h3).1 (hJ _ h3).2 fun S4 h4 hB4 => ?_
            rw [updI_snoc] at hB4
            have i7'' := h4 id _ i8 (hI _ h3).2
            have hS4 : ∀ (j : Nat) (o : Ob), j ≠ B → S.bx[j]? = some o → S4.bx[j]? = some o := fun j o hj h => h4 j o hj (by show S3.bx[j]? = _; rw [h3]; exact i5 j o hj h)
            have hB4l := (List.getElem?_eq_some_iff.1 hB4).1
            refine And.intro (Or.inr ⟨h4 E _ (fun e => hBE e.symm) (hJ _ h3).2, i7''⟩) ?_
            repeat ((conv => whnf); first | refine sJ ?_ | refine And.intro (by first | exact trivial | kernel_rfl) ?_ | rw [i7''] | rw [hA] | rw [hA2])
            try (conv => whnf)
            refine ⟨(i + 1, S4.bx.length, loopG (tgI n al) (wI q len al) (List.range' (i + 1) (al.length - (i + 1))) (g ++ [i]) (pickF (wI q len al) b2 (g ++ [i]))), ⟨by simp only; omega, by simp only; omega, ?_, i4, fun j o hj h => hO3 S4 _ _ _ _ j (hS4 j o hj h), hO3 S4 _ _ _ _ B hB4, (St.setB_get (hA2 S4 _ _)).trans (by rw [hwi]; rfl), by simp only; omega⟩, by simp only; omega, Sees.of_eq rfl, Sees.of_eq rfl, Sees.of_eq rfl, Sees.of_eq rfl, Sees.of_eq rfl, Sees.of_eq rfl, trivial⟩
            have hls := loopG_subs (tg := tgI n al) (w := wI q len al) (g := g ++ [i]) (b := pickF (wI q len al) b2 (g ++ [i])) (k := i + 1) (r := al.length - (i + 1)) hgi (by
              rw [show i + 1 + (al.length - (i + 1)) = al.length by omega]
              unfold pickF
              split
              · exact hgi.trans (range_sub (by omega))
              · exact i3)
            rw [show i + 1 + (al.length - (i + 1)) = al.length by omega] at hls
            exact hls
          · refine And.intro (Or.inr (hI _ h3)) ?_
            repeat' ((conv => whnf); first | exact trivial | refine sJ ?_ | refine And.intro (by first | exact trivial | exact Or.inr (hI _ h3) | exact St.addF_get _ _ _ | exact St.addF_ty _ _ _ | exact (show (_ + 1) * 24 ≤ _ by rw [List.length_map]; omega) | exact (show _ + 1 ≤ maxLen by rw [List.length_map]; simp only [maxLen]; omega) | exact f3.trans (by rw [List.length_map]) | exact t3 | exact Els.map (f := Link.av) (fun x => ⟨linkOk.len x, linkOk.cell x⟩) | kernel_rfl) ?_ | refine And.intro ?_ ?_ )
            refine CallK.sees (args' := [.int .i64 (i + 1 : Nat), encLinks (gL al (g ++ [i]))]) ⟨Sees.int hwi, Sees.elems (by rw [gL_snoc, hxd, List.map_append]; rfl), trivial⟩ ?_
            refine CallK.inl rfl ?_
            refine ih (al.length - (i + 1)) (by omega) (i + 1) (by omega) _ (g ++ [i]) b2 _ hgi i3 (hJ _ h3).1 (hJ _ h3).2 fun S4 h4 hB4 => ?_
            rw [updI_snoc] at hB4
            have i7'' := h4 id _ i8 (hI _ h3).2
            have hS4 : ∀ (j : Nat) (o : Ob), j ≠ B → S.bx[j]? = some o → S4.bx[j]? = some o := fun j o hj h => h4 j o hj (by show S3.bx[j]? = _; rw [h3]; exact i5 j o hj h)
            have hB4l := (List.getElem?_eq_some_iff.1 hB4).1
            refine And.intro (Or.inr ⟨h4 E _ (fun e => hBE e.symm) (hJ _ h3).2, i7''⟩) ?_
            repeat ((conv => whnf); first | refine sJ ?_ | refine And.intro (by first | exact trivial | kernel_rfl) ?_ | rw [i7''] | rw [hA] | rw [hA2])
            try (conv => whnf)
            refine ⟨(i + 1, S4.bx.length, loopG (tgI n al) (wI q len al) (List.range' (i + 1) (al.length - (i + 1))) (g ++ [i]) (pickF (wI q len al) b2 (g ++ [i]))), ⟨by simp only; omega, by simp only; omega, ?_, i4, fun j o hj h => hO3 S4 _ _ _ _ j (hS4 j o hj h), hO3 S4 _ _ _ _ B hB4, (St.setB_get (hA2 S4 _ _)).trans (by rw [hwi]; rfl), by simp only; omega⟩, by simp only; omega, Sees.of_eq rfl, Sees.of_eq rfl, Sees.of_eq rfl, Sees.of_eq rfl, Sees.of_eq rfl, Sees.of_eq rfl, trivial⟩
            have hls := loopG_subs (tg := tgI n al) (w := wI q len al) (g := g ++ [i]) (b := pickF (wI q len al) b2 (g ++ [i])) (k := i + 1) (r := al.length - (i + 1)) hgi (by
              rw [show i + 1 + (al.length - (i + 1)) = al.length by omega]
              unfold pickF
              split
              · exact hgi.trans (range_sub (by omega))
              · exact i3)
            rw [show i + 1 + (al.length - (i + 1)) = al.length by omega] at hls
            exact hls
    · have hil : i = al.length := by simp at hb; omega
      rw [hil, Nat.sub_self] at i4
      have i4 : b2 = loopG (tgI n al) (wI q len al) (List.range' k r) g b1 := i4
      refine Wk ?_
      exact hK _ (fun j o hj h => i5 j o hj h) (by rw [← i4]; exact i6)

set_option maxHeartbeats 2000000 in
theorem c_byGroup (n : Net) (hn : n.small) (q : List Req) (hx : ∀ x ∈ q, x.small) (len offs : Int) (hQ : QOk n q len) (ho1 : 0 ≤ offs) (ho2 : offs ≤ 16) : PCall Tryz.prog L 163 [qnAv n q len offs] (.tup [(grpM n q len offs).1.av, .bool (grpM n q len offs).2]) := by
  obtain ⟨al, hal⟩ : ∃ al, al = allM n q := ⟨_, rfl⟩
  have hca := c_qall L n hn q hx len offs hQ
  rw [← hal] at hca
  refine PCall.intro mixed [1, 2] (nt := 20) Tryz.func163 rfl rfl (by simp) ?_
  refine Wk ?_
  refine SeqK.sem mixed [] ?_
  refine Wk ?_
  refine SemK.freezeB 0 rfl rfl ?_
  refine twC_sound (ct := [2]) mixed _ _ _ _ ?_
  refine Wk ?_
  refine SeqK.sem mixed [] ?_
  refine Wk ?_
  first | refine CallK.data rfl (hca) rfl ?_ | refine CallP.data rfl (hca) rfl ?_
  refine Wk ?_
  refine SemK.freezeB 2 rfl rfl ?_
  refine twC_sound (ct := [7]) mixed _ _ _ _ ?_
  by_cases h1 : 10 < al.length
  · have g1 : decide ((10 : Int) < ((al.map Link.av).length : Int)) = true := by simp; omega
    have hg : grpM n q len offs = (rsn0, false) := by unfold grpM; rw [← hal, if_pos h1]
    rw [hg]
    repeat ((conv => whnf); first | refine sJ ?_ | refine And.intro (by first | exact trivial | kernel_rfl) ?_ | rw [g1])
    try (conv => whnf)
    exact resP.mk rfl (Sees.of_eq rfl)
  have g1 : decide ((10 : Int) < ((al.map Link.av).length : Int)) = false := by simp; omega
  have hg : grpM n q len offs = (bestC n q len offs (bestI n q len), isR (bestC n q len offs (bestI n q len))) := by unfold grpM; rw [← hal, if_neg h1]
  have hbi : bestI n q len = loopG (tgI n al) (wI q len al) (List.range' 0 al.length) [] (updI (wI q len al) [] []) := by
    unfold bestI; rw [← hal, List.range_eq_range']; rfl
  have hb0 : bestC n q len offs [] = rsn0 := by unfold bestC; rw [if_pos rfl]
  rw [hg]
  repeat ((conv => whnf); first | refine sJ ?_ | refine And.intro (by first | exact trivial | kernel_rfl) ?_ | rw [g1])
  try (conv => whnf)
  refine SeqK.cutS mixed [] [(1, .cptr (qnAv n q len offs) 0), (2, .ptr 1 0), (4, .cptr (.agg [encLinks al]) 0), (5, .ptr 3 0), (6, .ptr 4 0)] ⟨[.dead, .cells rsn0.cs 115, .dead, .cells rsn0.cs 115, .cells [.fn 253 [.cptr (qnAv n q len offs) 0, .ptr 3 0, .cptr (.agg [encLinks al]) 0, .ptr 4 0]] 308], [], 0, 0, fun _ => 0⟩ (twC_sound (ct := []) mixed _ _ _ _ ?_) ?_
  · refine Wk ?_
    refine Fits.mk' rfl rfl rfl rfl ?_ ?_ ?_ ?_ ?_ <;> repeat' (first | exact trivial | refine And.intro ?_ ?_ | exact Sees.of_eq rfl | exact lt_b rfl | rfl | exact SeesL.rfl' _ | exact Sees.elems rfl)
  refine Wk ?_
  refine CallK.sees (args' := [.int .i64 (0 : Nat), encLinks (gL al [])]) ⟨Sees.of_eq rfl, Sees.elems rfl, trivial⟩ ?_
  refine CallK.inl rfl ?_
  refine i_extend L n hn q hx len offs hQ ho1 ho2 al hal (by omega) 3 4 (by decide) al.length 0 (by omega) _ [] [] _ (List.nil_sublist _) (List.nil_sublist _) (by rw [hb0]; rfl) rfl fun S' h2 h3 => ?_
  rw [← hbi] at h3
  have h4 := h2 1 _ (by decide) rfl
  obtain ⟨b, hb⟩ : ∃ b, b = bestC n q len offs (bestI n q len) := ⟨_, rfl⟩
  rw [← hb] at h3 ⊢
  repeat ((conv => whnf); first | refine sJ ?_ | refine And.intro (by first | exact trivial | kernel_rfl) ?_ | rw [h3] | rw [h4])
  try (conv => whnf)
  have hset : ∀ o : Ob, (((S'.flush []).setB 1 o).flush []).bx[1]? = some o := fun o => St.setB_get (S := S') h4
  first | refine CallK.data rfl (c_is L b) rfl ?_ | refine CallP.data rfl (c_is L b) rfl ?_
  repeat ((conv => whnf); first | refine sJ ?_ | refine And.intro (by first | exact trivial | kernel_rfl) ?_ | rw [show (S'.flush []).bx[1]? = _ from h4] | rw [hset])
  try (conv => whnf)
  exact resP.mk rfl (Sees.of_eq rfl)
end
end HM
