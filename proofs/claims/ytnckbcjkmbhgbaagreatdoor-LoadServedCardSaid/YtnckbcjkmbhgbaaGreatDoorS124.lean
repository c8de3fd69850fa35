/- The links of a request. -/
import Derived.Test.YtnckbcjkmbhgbaaGreatDoorS120
import Derived.Test.YtnckbcjkmbhgbaaGreatDoorS30
import Derived.Test.YtnckbcjkmbhgbaaGreatDoorFh
import Derived.Test.YtnckbcjkmbhgbaaGreatDoorS33
import Derived.Test.YtnckbcjkmbhgbaaGreatDoorS114
/- The links of a request. -/
set_option maxRecDepth 100000
namespace HM
open Go Go.RowKit Go.Proofs
/-- a slice that grows: nothing yet, or a box of its own -/
def GV (S : St) (v : AV) (l : List Link) : Prop := (v = .grown .nils 0 ∧ l = []) ∨ ∃ id d, v = .vsl id 0 l.length 3 ∧ S.bx[id]? = some (.cells (flatE (l.map Link.av) ++ List.replicate (d * 3) .undef) 47)
section
variable (L : World → Prop)

set_option maxHeartbeats 4000000 in
theorem c_llinks (n : Net) (hn : n.small) (h0 : netE n = 0) (x : Req) (_ : x.small) (hxo : ReqOk n x) : PCall Tryz.prog L 258 [n.av, x.av] (encLinks (linksQ n x)) := by
  have hok := netE_ok h0
  obtain ⟨hl1, hl2⟩ := hxo.len
  have hr9 : ∀ r ∈ x.routes, 2 ≤ r.length ∧ r.length ≤ 9 := fun r hr => (routeF_ok (hxo.route r hr)).1
  refine PCall.intro mixed [2] (nt := 45) Tryz.func258 rfl rfl (by simp) ?_
  refine Wk ?_
  refine SeqK.sem mixed [] ?_
  refine Wk ?_
  refine SemK.freezeB 0 rfl rfl ?_
  refine SemK.freezeB 1 rfl rfl ?_
  refine twC_sound (ct := []) mixed _ _ _ _ ?_
  refine Wk ?_
  refine LoopK.runS mixed [] (fun (s : Nat × AV) (S1 : St) => s.1 ≤ x.routes.length ∧ GV S1 s.2 (linksF n (x.routes.take s.1))) (fun s => [(2, .cptr n.av 0), (3, .cptr x.av 0), (5, s.2), (10, encRows x.routes), (11, .int .i64 x.routes.length), (12, .int .i64 s.1)]) (fun s => x.routes.length - s.1) (0, .grown .nils 0) ⟨by simp, .inl ⟨rfl, by simp [linksF]⟩⟩ ?_ ?_
  · exact ⟨Sees.of_eq rfl, Sees.of_eq rfl, Sees.nilG, Sees.of_eq rfl, Sees.int (by simp), Sees.of_eq rfl, trivial⟩
  rintro ⟨k, v⟩ S1 ⟨hk, hgv⟩
  simp only at hk hgv
  refine Wk ?_
  refine BrK.mk (fun hb => ?_) (fun hb => ?_) <;> (try rw [hb])
  · have hlt : k < x.routes.length := by simpa using hb
    obtain ⟨r, hgr⟩ := getLt hlt
    have hmr := getMap (f := encIs) hgr
    have hrm := List.mem_of_getElem? hgr
    obtain ⟨hr2, hr9'⟩ := hr9 r hrm
    have hhop := (routeF_ok (hxo.route r hrm)).2.1
    have hF := linksF_take (n := n) hgr
    have hlF := linksF_len n (l := x.routes.take k) fun y hy => (hr9 y (List.mem_of_mem_take hy)).2
    rw [List.length_take] at hlF
    repeat ((conv => whnf); first | refine sJ ?_ | refine And.intro (by first | exact inbMap hlt | kernel_rfl) ?_ | rw [hmr])
    try (conv => whnf)
    refine LoopK.runS mixed [] (fun (s : Nat × AV) (S2 : St) => 1 ≤ s.1 ∧ s.1 ≤ r.length ∧ GV S2 s.2 (linksF n (x.routes.take k) ++ linksR n r (s.1 - 1))) (fun s => [(2, .cptr n.av 0), (3, .cptr x.av 0), (5, s.2), (7, encIs r), (8, .int .i64 s.1), (10, encRows x.routes), (11, .int .i64 x.routes.length), (12, .int .i64 k)]) (fun s => r.length - s.1) (1, v) ⟨by simp, by simp only; omega, by simpa [linksR] using hgv⟩ ?_ ?_
    · exact ⟨Sees.of_eq rfl, Sees.of_eq rfl, Sees.of_eq rfl, Sees.of_eq rfl, Sees.of_eq rfl, Sees.of_eq rfl, Sees.of_eq rfl, Sees.of_eq rfl, trivial⟩
    rintro ⟨i, u⟩ S2 ⟨hi1, hi2, hgu⟩
    simp only at hi1 hi2 hgu
    obtain ⟨i, rfl⟩ : ∃ j, i = j + 1 := ⟨i - 1, by omega⟩
    rw [Nat.add_sub_cancel] at hgu
    refine Wk ?_
    refine BrK.mk (fun h2 => ?_) (fun h2 => ?_) <;> (try rw [h2])
    · have hit : i + 1 < r.length := by simp at h2; omega
      have hw : IntKind.i64.wrap (((i + 1 : Nat) : Int) - 1) = (i : Int) := by rw [w64] <;> omega
      obtain ⟨a, hga⟩ := getLt (l := r) (k := i) (by omega)
      obtain ⟨b, hgb⟩ := getLt hit
      have hma := getMap (f := encI) hga
      have hmb := getMap (f := encI) hgb
      have hg := hhop i hit
      have ha : r.getD i 0 = a := by rw [List.getD_eq_getElem?_getD, hga]; rfl
      have hb' : r.getD (i + 1) 0 = b := by rw [List.getD_eq_getElem?_getD, hgb]; rfl
      have hls := linksR_succ n r i
      rw [ha, hb'] at hg hls
      obtain ⟨p, hp, hgp⟩ := lnkAt_get (good_find hg)
      have hmp := getMap (f := Link.av) hgp
      have hpl := (List.getElem?_eq_some_iff.1 hgp).1
      have hidx : indexN n a b = (p : Int) := by rw [indexN, if_pos h0, hp]
      obtain ⟨out, hout⟩ : ∃ out, out = linksF n (x.routes.take k) ++ linksR n r i := ⟨_, rfl⟩
      have hol : out.length ≤ 32 := by rw [hout, List.length_append, linksR_len]; omega
      have hnx : linksF n (x.routes.take k) ++ linksR n r (i + 1) = out ++ [lnkAt n a b] := by rw [hls, hout, List.append_assoc]
      obtain ⟨e, he⟩ : ∃ e, e = lnkAt n a b := ⟨_, rfl⟩
      rw [← he] at hmp hnx
      rw [← hout] at hgu
      rcases hgu with ⟨rfl, ho⟩ | ⟨id, d, rfl, hbx⟩
      · repeat ((conv => whnf); first | refine sJ ?_ | refine And.intro (by first | exact inbMap hit | (rw [hw]; exact inbMap (by omega)) | kernel_rfl) ?_ | rw [hw] | rw [hma] | rw [hmb])
        try (conv => whnf)
        first | refine CallK.data rfl (c_index L n hn a b) rfl ?_ | refine CallP.data rfl (c_index L n hn a b) rfl ?_
        rw [hidx]
        repeat ((conv => whnf); first | refine sJ ?_ | refine And.intro (by first | exact inbMap hpl | kernel_rfl) ?_ | rw [hmp] | refine And.intro ⟨rfl, Els.of_b rfl, Nat.succ_pos _, Nat.le_of_ble_eq_true rfl, Nat.le_of_ble_eq_true rfl⟩ ?_)
        try (conv => whnf)
        intro d2
        refine Wk ?_
        have hn1 : linksF n (x.routes.take k) ++ linksR n r (i + 2 - 1) = [e] := by rw [show i + 2 - 1 = i + 1 from rfl, hnx, ho]; rfl
        refine ⟨(i + 2, .vsl S2.bx.length 0 1 3), ⟨by simp only; omega, by simp only; omega, .inr ⟨S2.bx.length, d2, by simp only [hn1]; rfl, ?_⟩⟩, by simp only; omega, Sees.of_eq rfl, Sees.of_eq rfl, Sees.of_eq rfl, Sees.of_eq rfl, Sees.int (by simp only; rw [w64] <;> omega), Sees.of_eq rfl, Sees.of_eq rfl, Sees.of_eq rfl, trivial⟩
        show (S2.addB _).bx[S2.bx.length]? = _
        rw [St.addB_get]
        simp only [hn1]
        rfl
      · have hfl := linkOk.flen out
        repeat ((conv => whnf); first | refine sJ ?_ | refine And.intro (by first | exact inbMap hit | (rw [hw]; exact inbMap (by omega)) | kernel_rfl) ?_ | rw [hw] | rw [hma] | rw [hmb])
        try (conv => whnf)
        first | refine CallK.data rfl (c_index L n hn a b) rfl ?_ | refine CallP.data rfl (c_index L n hn a b) rfl ?_
        rw [hidx]
        repeat ((conv => whnf); first | refine sJ ?_ | refine And.intro (by first | exact inbMap hpl | kernel_rfl) ?_ | rw [hmp] | rw [show (S2.flush []).bx[id]? = _ from hbx])
        try (conv => whnf)
        refine And.intro ⟨rfl, rfl, Els.of_b rfl, Nat.succ_pos _, (show (_ + 1) * 24 ≤ _ by omega), (show _ + 1 ≤ maxLen by simp only [maxLen]; omega), (by rw [List.length_append, hfl]; exact Nat.le_add_right _ _)⟩ ?_
        have hpush := linkOk.push out e d
        have hcut := linkOk.cut out (List.replicate (d * 3) .undef)
        rw [List.length_append, hfl] at hpush
        refine AppK.mk (fun hroom => ?_) (fun _ => ?_)
        · rw [List.length_append, hfl] at hroom
          refine Wk ?_
          refine ⟨(i + 2, .vsl id 0 (out.length + 1) 3), ⟨by simp only; omega, by simp only; omega, .inr ⟨id, d - 1, ?_, ?_⟩⟩, by simp only; omega, Sees.of_eq rfl, Sees.of_eq rfl, Sees.of_eq rfl, Sees.of_eq rfl, Sees.int (by simp only; rw [w64] <;> omega), Sees.of_eq rfl, Sees.of_eq rfl, Sees.of_eq rfl, trivial⟩
          · simp only [show i + 2 - 1 = i + 1 from rfl, hnx, List.length_append, List.length_singleton]
          · show (S2.setB id _).bx[id]? = _
            rw [St.setB_get hbx]
            simp only [show i + 2 - 1 = i + 1 from rfl, hnx]
            rw [← hpush hroom]
            rfl
        · intro d2
          refine Wk ?_
          refine ⟨(i + 2, .vsl S2.bx.length 0 (out.length + 1) 3), ⟨by simp only; omega, by simp only; omega, .inr ⟨S2.bx.length, d2, ?_, ?_⟩⟩, by simp only; omega, Sees.of_eq rfl, Sees.of_eq rfl, Sees.of_eq rfl, Sees.of_eq rfl, Sees.int (by simp only; rw [w64] <;> omega), Sees.of_eq rfl, Sees.of_eq rfl, Sees.of_eq rfl, trivial⟩
          · simp only [show i + 2 - 1 = i + 1 from rfl, hnx, List.length_append, List.length_singleton]
          · show (S2.addB _).bx[S2.bx.length]? = _
            rw [St.addB_get]
            simp only [show i + 2 - 1 = i + 1 from rfl, hnx]
            rw [← flatE_push]
            show some (Ob.cells (List.take (out.length * 3) _ ++ _ ++ _) _) = _
            rw [hcut]; rfl
    · have hir : i + 1 = r.length := by simp at h2; omega
      rw [show i = r.length - 1 by omega, ← hF] at hgu
      refine Wk ?_
      exact ⟨(k + 1, u), ⟨by simp only; omega, hgu⟩, by simp only; omega, Sees.of_eq rfl, Sees.of_eq rfl, Sees.of_eq rfl, Sees.of_eq rfl, Sees.of_eq rfl, Sees.int (succI hlt (by omega)), trivial⟩
  · have hkl : k = x.routes.length := by simp at hb; omega
    subst hkl
    rw [List.take_length] at hgv
    have hlF := linksF_len n (l := x.routes) fun y hy => (hr9 y hy).2
    have hne := linksF_pos (n := n) (l := x.routes) hl1 fun y hy => (hr9 y hy).1
    rcases hgv with ⟨_, ho⟩ | ⟨id, d, rfl, hbx⟩
    · exact absurd ho hne
    refine Wk ?_
    refine CallK.inl rfl (i_sortLk hbx (by omega) rfl fun ds hp hs => ?_)
    have hds := hp.length_eq
    have hfin := links_eq hok hxo hp hs
    refine Wk ?_
    rw [show (linksF n x.routes).length = ds.length from hds.symm]
    refine CallK.inl rfl (i_Compact L _ id ds _ (by omega) (St.setB_get hbx) fun S3 ex _ h3 => ?_)
    refine Wk ?_
    exact resP.mk (linkOk.fzb h3 rfl) (Sees.of_eq (by rw [hfin]; rfl))
end
end HM

/- How many cells requests need: the program. -/
set_option maxRecDepth 100000
namespace HM
open Go Go.RowKit Go.Proofs
theorem linksQ_mem {n : Net} {x : Req} {l : Link} (h : l ∈ linksQ n x) : l ∈ n.links := (List.mem_filter.1 h).1
theorem link_bd {n : Net} (h : NetOk n) {l : Link} (hl : l ∈ n.links) : 0 ≤ l.loss ∧ l.loss ≤ 7 := by
  obtain ⟨i, hi⟩ := List.getElem?_of_mem hl
  have := linkR_bd (h.link i l hi).1
  omega
theorem sumX_bd {n : Net} (h : NetOk n) {len : Int} (h1 : 1 ≤ len) (h2 : len ≤ 512) {x : Req} (hp : 1 ≤ x.flow.period) (p : Link → Bool) {ls : List Link} (hs : ∀ l ∈ ls, l ∈ n.links) (hl : ls.length ≤ 128) : 0 ≤ sumW (needC len x) (ls.filter p) ∧ sumW (needC len x) (ls.filter p) ≤ 16777216 := by
  have := sumW_bd (f := needC len x) (m := 131072) (by omega) (l := ls.filter p) fun l hl => by
    have hb := link_bd h (hs l (List.mem_filter.1 hl).1)
    have := needC_bd (x := x) (l := l) h1 h2 hp hb.1 (by omega)
    omega
  have hf := List.length_filter_le p ls
  have : ((ls.filter p).length : Int) * 131072 ≤ 128 * 131072 := Int.mul_le_mul_of_nonneg_right (by omega) (by omega)
  omega
theorem linksQ_len {n : Net} (h : NetOk n) (x : Req) : (linksQ n x).length ≤ 128 := Nat.le_trans (List.length_filter_le _ _) h.many
theorem sumQ_bd {n : Net} (h : NetOk n) {len : Int} (h1 : 1 ≤ len) (h2 : len ≤ 512) (p : Link → Bool) {q : List Req} (hq : ∀ x ∈ q, 1 ≤ x.flow.period) (hl : q.length ≤ 16) : 0 ≤ sumW (sumX n len p) q ∧ sumW (sumX n len p) q ≤ 268435456 := by
  have := sumW_bd (f := sumX n len p) (m := 16777216) (by omega) (l := q) fun x hx => sumX_bd h h1 h2 (hq x hx) p (fun l hl => linksQ_mem hl) (linksQ_len h x)
  have : (q.length : Int) * 16777216 ≤ 16 * 16777216 := Int.mul_le_mul_of_nonneg_right (by omega) (by omega)
  omega
structure QOk (n : Net) (q : List Req) (len : Int) : Prop where
  n0 : netE n = 0
  sz : SzOk n q len
  net : NetOk n
  q16 : q.length ≤ 16
  req : ∀ x ∈ q, ReqOk n x
  per : ∀ x ∈ q, 1 ≤ x.flow.period ∧ x.flow.period ≤ 512
theorem SzOk.q {n : Net} {q : List Req} {len : Int} (h : SzOk n q len) : QOk n q len := by
  obtain ⟨h1, h2, h3, h4⟩ := reqE_ok h.req
  refine ⟨?_, h, h1, h2, h3, fun x hx => ?_⟩
  · by_cases hn : netE n = 0
    · exact hn
    · have := h.req
      rw [reqE, if_pos hn] at this; cases this
  · have := flowE_ok (h3 x hx).flow
    omega
section
variable (L : World → Prop)

set_option maxHeartbeats 1000000 in
theorem c_lsum (n : Net) (hn : n.small) (q : List Req) (hx : ∀ x ∈ q, x.small) (len : Int) (hQ : QOk n q len) (p : Link → Bool) (g : Nat) (caps : List AV) (hcb : callable Tryz.prog g = true) (hc : fzs caps = some caps) (hp : ∀ l ∈ n.links, PCall Tryz.prog L g (l.av :: caps) (.bool (p l))) :
    PCall Tryz.prog L 164 [n.av, encReqs q, .int .i64 len, .fn g caps] (.int .i64 (sumQ n q len p)) := by
  obtain ⟨h0, ⟨_, hl1, hl2, hmis⟩, hok, hq16, hreq, hper⟩ := hQ
  refine PCall.intro mixed [] (nt := 45) Tryz.func164 rfl rfl (by simp) ?_
  refine Wk ?_
  refine LoopK.run mixed [] (fun (k : Nat) => k ≤ q.length) (fun k => [(2, .int .i64 len), (3, .fn g caps), (4, .ptr 0 0), (9, .int .i64 (sumW (sumX n len p) (q.take k))), (14, encReqs q), (15, .int .i64 q.length), (16, .int .i64 k)]) (fun k => ⟨[.cells n.cs 26], [], 0, 0, fun _ => 0⟩) (fun k => q.length - k) 0 (by simp) ?_ ?_
  · refine Fits.mk' rfl rfl rfl rfl ?_ ?_ ?_ ?_ ?_ <;> repeat' (first | exact trivial | refine And.intro ?_ ?_ | exact Sees.of_eq rfl | exact lt_b rfl | rfl | exact Sees.int (by simp) | exact SeesL.rfl' _ | exact fzs_okk hc)
  rintro k hk
  have hb1 := sumQ_bd hok hl1 hl2 p (q := q.take k) (fun x h => (hper x (List.mem_of_mem_take h)).1) (by rw [List.length_take]; omega)
  refine Wk ?_
  refine BrK.mk (fun hb => ?_) (fun hb => ?_) <;> (try rw [hb])
  · have hlt : k < q.length := by simpa using hb
    obtain ⟨x, hgx⟩ := getLt hlt
    have hmx := getMap (f := Req.av) hgx
    have hxm := List.mem_of_getElem? hgx
    obtain ⟨hp1, hp2⟩ := hper x hxm
    have hst := sumW_take (sumX n len p) hgx
    repeat ((conv => whnf); first | refine sJ ?_ | refine And.intro (by first | exact inbMap hlt | kernel_rfl) ?_ | rw [hmx])
    try (conv => whnf)
    first | refine CallK.data rfl (c_llinks L n hn h0 x (hx x hxm) (hreq x hxm)) rfl ?_ | refine CallP.data rfl (c_llinks L n hn h0 x (hx x hxm) (hreq x hxm)) rfl ?_
    obtain ⟨ls, hls⟩ : ∃ ls, ls = linksQ n x := ⟨_, rfl⟩
    have hlsl := linksQ_len hok x
    have hlsm : ∀ l ∈ ls, l ∈ n.links := fun l h => linksQ_mem (hls ▸ h)
    have hsx : sumX n len p x = sumW (needC len x) (ls.filter p) := by rw [sumX, hls]
    rw [← hls] at hlsl ⊢
    refine Wk ?_
    refine LoopK.run mixed [] (fun (j : Nat) => j ≤ ls.length) (fun j => [(2, .int .i64 len), (3, .fn g caps), (4, .ptr 0 0), (9, .int .i64 (sumW (sumX n len p) (q.take k) + sumW (needC len x) ((ls.take j).filter p))), (11, .ptr 1 0), (14, encReqs q), (15, .int .i64 q.length), (16, .int .i64 k), (22, encLinks ls), (23, .int .i64 ls.length), (24, .int .i64 j)]) (fun j => ⟨[.cells n.cs 26, .cells x.cs 56], [], 0, 0, fun _ => 0⟩) (fun j => ls.length - j) 0 (by simp) ?_ ?_
    · refine Fits.mk' rfl rfl rfl rfl ?_ ?_ ?_ ?_ ?_ <;> repeat' (first | exact trivial | refine And.intro ?_ ?_ | exact Sees.of_eq rfl | exact lt_b rfl | rfl | exact Sees.int (by simp [sumW]) | exact SeesL.rfl' _ | exact fzs_okk hc)
    rintro j hj
    have hb2 := sumX_bd hok hl1 hl2 hp1 p (ls := ls.take j) (fun l h => hlsm l (List.mem_of_mem_take h)) (by rw [List.length_take]; omega)
    refine Wk ?_
    refine BrK.mk (fun hd => ?_) (fun hd => ?_) <;> (try rw [hd])
    · have hjt : j < ls.length := by simpa using hd
      obtain ⟨l, hgl⟩ := getLt hjt
      have hml := getMap (f := Link.av) hgl
      have hlm := hlsm l (List.mem_of_getElem? hgl)
      obtain ⟨b1, b2⟩ := link_bd hok hlm
      obtain ⟨c1, c2, c3, c4⟩ := needC_bd (x := x) (l := l) hl1 hl2 hp1 b1 (by omega)
      repeat ((conv => whnf); first | refine sJ ?_ | refine And.intro (by first | exact inbMap hjt | kernel_rfl) ?_ | rw [hml])
      try (conv => whnf)
      refine CallK.data hcb (hp l hlm) (by show (match fz _, fzs caps with | some a, some b => some (a :: b) | _, _ => none) = _; rw [hc]; rfl) ?_
      refine Wk ?_
      refine BrK.mk (fun h2 => ?_) (fun h2 => ?_) <;> (try rw [h2])
      · have hfl : (ls.take (j + 1)).filter p = (ls.take j).filter p ++ [l] := by rw [take_succ hgl, List.filter_append]; simp [h2]
        have hw1 : IntKind.i64.wrap (l.loss + 1) = l.loss + 1 := by rw [w64] <;> omega
        have hw2 : IntKind.i64.wrap ((l.loss + 1) * len) = (l.loss + 1) * len := by rw [w64] <;> omega
        have hdv : ((l.loss + 1) * len).tdiv x.flow.period = needC len x l := by rw [needC, Int.tdiv_eq_ediv_of_nonneg c3]
        have hw3 : IntKind.i64.wrap (needC len x l) = needC len x l := by rw [w64] <;> omega
        repeat ((conv => whnf); first | refine sJ ?_ | refine And.intro (by first | exact (show x.flow.period ≠ 0 by omega) | kernel_rfl) ?_ | rw [hw1] | rw [hw2] | rw [hdv] | rw [hw3])
        try (conv => whnf)
        refine ⟨j + 1, by omega, by omega, ?_⟩
        refine Fits.mk' rfl rfl rfl rfl ?_ ?_ ?_ ?_ ?_ <;> repeat' (first | exact trivial | refine And.intro ?_ ?_ | exact Sees.of_eq rfl | exact lt_b rfl | rfl | exact Sees.int (succI hjt (by omega)) | exact SeesL.rfl' _ | exact fzs_okk hc | exact Sees.int (by rw [hfl, sumW_app, w64] <;> (try simp only [sumW]) <;> omega))
      · have hfl : (ls.take (j + 1)).filter p = (ls.take j).filter p := by rw [take_succ hgl, List.filter_append]; simp [h2]
        refine Wk ?_
        refine ⟨j + 1, by omega, by omega, ?_⟩
        rw [hfl]
        refine Fits.mk' rfl rfl rfl rfl ?_ ?_ ?_ ?_ ?_ <;> repeat' (first | exact trivial | refine And.intro ?_ ?_ | exact Sees.of_eq rfl | exact lt_b rfl | rfl | exact Sees.int (succI hjt (by omega)) | exact SeesL.rfl' _ | exact fzs_okk hc)
    · have hj' : j = ls.length := by simp at hd; omega
      subst hj'
      rw [List.take_length, ← hsx, ← hst]
      refine Wk ?_
      refine ⟨k + 1, by omega, by omega, ?_⟩
      refine Fits.mk' rfl rfl rfl rfl ?_ ?_ ?_ ?_ ?_ <;> repeat' (first | exact trivial | refine And.intro ?_ ?_ | exact Sees.of_eq rfl | exact lt_b rfl | rfl | exact Sees.int (succI hlt (by omega)) | exact SeesL.rfl' _ | exact fzs_okk hc)
  · have hk' : k = q.length := by simp at hb; omega
    subst hk'
    rw [List.take_length]
    refine Wk ?_
    exact resP.mk rfl (Sees.int rfl)

theorem c_IndexFuncReq (l : List Req) (p : Req → Bool) (g : Nat) (caps : List AV) (hl : l.length ≤ 281474976710656) (hcb : callable Tryz.prog g = true) (hc : fzs caps = some caps) (hp : ∀ x ∈ l, PCall Tryz.prog L g (Req.av x :: caps) (.bool (p x))) :
    PCall Tryz.prog L 136 [.sl false (l.map Req.av), .fn g caps] (.int .i64 (idxF p l)) := by
  refine PCall.intro mixed [] (nt := 19) Tryz.func136 rfl rfl (by simp) ?_
  refine Wk ?_
  refine LoopK.run mixed [] (fun (k : Nat) => k ≤ l.length ∧ ∀ j x, j < k → l[j]? = some x → p x = false) (fun k => [(0, .sl false (l.map Req.av)), (1, .fn g caps), (7, .int .i64 l.length), (8, .int .i64 k)]) (fun k => St.none) (fun k => l.length - k) 0 ⟨by simp, by simp⟩ ?_ ?_
  · refine Fits.mk' rfl rfl rfl rfl ?_ ?_ ?_ ?_ ?_ <;> repeat' (first | exact trivial | refine And.intro ?_ ?_ | exact Sees.of_eq rfl | exact lt_b rfl | rfl | exact Sees.int (by simp) | exact fzs_okk hc)
  rintro k ⟨hk, hinv⟩
  refine Wk ?_
  refine BrK.mk (fun hb => ?_) (fun hb => ?_) <;> (try rw [hb])
  · have hlt : k < l.length := by simpa using hb
    obtain ⟨x, hgx⟩ := getLt hlt
    have hmx := getMap (f := Req.av) hgx
    repeat ((conv => whnf); first | refine sJ ?_ | refine And.intro (by first | exact inbMap hlt | kernel_rfl) ?_ | rw [hmx])
    try (conv => whnf)
    refine CallK.data hcb (hp x (List.mem_of_getElem? hgx)) (by show (match fz _, fzs caps with | some a, some b => some (a :: b) | _, _ => none) = _; rw [hc]; rfl) ?_
    refine Wk ?_
    refine BrK.mk (fun h2 => ?_) (fun h2 => ?_) <;> (try rw [h2])
    · refine Wk ?_
      exact resP.mk rfl (Sees.int (idxF_some hlt hinv hgx h2).symm)
    · refine Wk ?_
      refine ⟨k + 1, ⟨by omega, fun j y hj hy => ?_⟩, by omega, ?_⟩
      · rcases Nat.lt_succ_iff_lt_or_eq.1 hj with h | rfl
        · exact hinv j y h hy
        · rw [hgx] at hy; injection hy with hy; subst hy; exact h2
      · refine Fits.mk' rfl rfl rfl rfl ?_ ?_ ?_ ?_ ?_ <;> repeat' (first | exact trivial | refine And.intro ?_ ?_ | exact Sees.of_eq rfl | exact lt_b rfl | rfl | exact Sees.int (succI hlt hl) | exact fzs_okk hc)
  · have hk' : k = l.length := by simp at hb; omega
    subst hk'
    refine Wk ?_
    exact resP.mk rfl (Sees.int (idxF_none hinv).symm)

theorem c_ContainsFuncReq (l : List Req) (p : Req → Bool) (g : Nat) (caps : List AV) (hl : l.length ≤ 281474976710656) (hcb : callable Tryz.prog g = true) (hc : fzs caps = some caps) (hp : ∀ x ∈ l, PCall Tryz.prog L g (Req.av x :: caps) (.bool (p x))) :
    PCall Tryz.prog L 49 [.sl false (l.map Req.av), .fn g caps] (.bool (l.any p)) := by
  refine PCall.intro mixed [] (nt := 9) Tryz.func49 rfl rfl (by simp) ?_
  refine Wk ?_
  refine CallK.data rfl (c_IndexFuncReq L l p g caps hl hcb hc hp) (by show (match fz _, fzs [AV.fn g caps] with | some a, some b => some (a :: b) | _, _ => none) = _; rw [show fzs [AV.fn g caps] = some [AV.fn g caps] from by simp [fz, fzs, hc]]; rfl) ?_
  refine Wk ?_
  exact resP.mk rfl (Sees.bool (idxF_any p l))
theorem c_sized1 (x : Req) (len : Int) (h1 : 0 ≤ len) (h2 : 1 ≤ x.flow.period) (h3 : x.flow.period ≤ 512) : PCall Tryz.prog L 251 [x.av, .cptr (.agg [.int .i64 len]) 0] (.bool (mismB len x)) := by
  refine PCall.intro mixed [] (nt := 10) Tryz.func251 rfl rfl (by simp) ?_
  have hm : len.tmod x.flow.period = len % x.flow.period := Int.tmod_eq_emod_of_nonneg h1
  have hm1 := Int.emod_nonneg len (show x.flow.period ≠ 0 by omega)
  have hm2 := Int.emod_lt_of_pos len (show 0 < x.flow.period by omega)
  have hw : IntKind.i64.wrap (len % x.flow.period) = len % x.flow.period := by rw [w64] <;> omega
  repeat ((conv => whnf); first | refine sJ ?_ | refine And.intro (by first | exact (show x.flow.period ≠ 0 by omega) | kernel_rfl) ?_ | rw [hm] | rw [hw])
  try (conv => whnf)
  exact resP.mk rfl (Sees.bool rfl)
theorem c_lsized (n : Net) (hn : n.small) (q : List Req) (hq : q.length ≤ 1099511627776) (hx : ∀ x ∈ q, x.small) (len : Int) : PCall Tryz.prog L 160 [n.av, encReqs q, .int .i64 len] (.int .i64 (sizedQ n q len)) := by
  refine PCall.intro mixed [] (nt := 26) Tryz.func160 rfl rfl (by simp) ?_
  refine Wk ?_
  first | refine CallK.data rfl (c_LCheck L n hn q hq hx) rfl ?_ | refine CallP.data rfl (c_LCheck L n hn q hq hx) rfl ?_
  refine Wk ?_
  refine BrK.mk (fun h1 => ?_) (fun h1 => ?_) <;> (try rw [h1])
  · refine Wk ?_
    exact resP.mk rfl (Sees.int (by rw [sizedQ, if_pos (by simpa using h1)]))
  have h1' : (reqE n q).2 = 0 := by simpa using h1
  refine Wk ?_
  refine BrK.mk (fun h2 => ?_) (fun h2 => ?_) <;> (try rw [h2])
  · refine Wk ?_
    exact resP.mk rfl (Sees.int (by rw [sizedQ, if_neg (by simp [h1']), if_pos (.inl (by simpa using h2))]))
  refine Wk ?_
  refine BrK.mk (fun h3 => ?_) (fun h3 => ?_) <;> (try rw [h3])
  · refine Wk ?_
    exact resP.mk rfl (Sees.int (by rw [sizedQ, if_neg (by simp [h1']), if_pos (.inr (by simpa using h3))]))
  have e2 : ¬ (len < 1 ∨ 512 < len) := by simp at h2 h3; omega
  obtain ⟨_, _, hreq, _⟩ := reqE_ok h1'
  refine Wk ?_
  first | refine CallK.box rfl (c_ContainsFuncReq L q (mismB len) 251 [.cptr (.agg [.int .i64 len]) 0] (by omega) rfl rfl (fun x hxm => c_sized1 L x len (by omega) (by have := flowE_ok (hreq x hxm).flow; omega) (by have := flowE_ok (hreq x hxm).flow; omega))) rfl rfl ?_ | refine CallP.box rfl (c_ContainsFuncReq L q (mismB len) 251 [.cptr (.agg [.int .i64 len]) 0] (by omega) rfl rfl (fun x hxm => c_sized1 L x len (by omega) (by have := flowE_ok (hreq x hxm).flow; omega) (by have := flowE_ok (hreq x hxm).flow; omega))) rfl rfl ?_
  refine Wk ?_
  refine BrK.mk (fun h4 => ?_) (fun h4 => ?_) <;> (try rw [h4])
  · refine Wk ?_
    exact resP.mk rfl (Sees.int (by rw [sizedQ, if_neg (by simp [h1']), if_neg e2, if_pos h4]))
  refine Wk ?_
  exact resP.mk rfl (Sees.int (by rw [sizedQ, if_neg (by simp [h1']), if_neg e2, if_neg (by simp [h4])]))

theorem c_lcells1 (l : Link) : PCall Tryz.prog L 165 [l.av] (.bool true) := by
  refine PCall.intro mixed [] (nt := 3) Tryz.func165 rfl rfl (by simp) ?_
  refine Wk ?_
  exact resP.mk rfl (Sees.bool rfl)
theorem c_Cells (n : Net) (hn : n.small) (q : List Req) (hq : q.length ≤ 1099511627776) (hx : ∀ x ∈ q, x.small) (len : Int) : PCall Tryz.prog L 66 [n.av, encReqs q, .int .i64 len] (.tup [.int .i64 (cellsM n q len).1, .int .i64 (cellsM n q len).2]) := by
  refine PCall.intro mixed [] (nt := 20) Tryz.func66 rfl rfl (by simp) ?_
  refine Wk ?_
  first | refine CallK.data rfl (c_lsized L n hn q hq hx len) rfl ?_ | refine CallP.data rfl (c_lsized L n hn q hq hx len) rfl ?_
  refine Wk ?_
  refine BrK.mk (fun h1 => ?_) (fun h1 => ?_) <;> (try rw [h1])
  · refine Wk ?_
    exact resP.mk rfl (Sees.of_eq (by rw [cellsM, if_pos (by simpa using h1)]))
  have h1' : sizedQ n q len = 0 := by simpa using h1
  refine Wk ?_
  first | refine CallK.data rfl (c_lsum L n hn q hx len (sizedQ_ok h1').q (fun _ => true) 165 [] rfl rfl (fun l _ => c_lcells1 L l)) rfl ?_ | refine CallP.data rfl (c_lsum L n hn q hx len (sizedQ_ok h1').q (fun _ => true) 165 [] rfl rfl (fun l _ => c_lcells1 L l)) rfl ?_
  refine Wk ?_
  exact resP.mk rfl (Sees.of_eq (by rw [cellsM, if_neg (by simp [h1']), sumQ_need, List.filter_eq_self.2 (fun _ _ => rfl)]))
theorem c_at1 (l : Link) (a : Int) : PCall Tryz.prog L 326 [l.av, .cptr (.agg [.int .i64 a]) 0] (.bool (atN a l)) := by
  refine PCall.intro mixed [] (nt := 14) Tryz.func326 rfl rfl (by simp) ?_
  refine Wk ?_
  cases h1 : l.src == a
  · refine Wk ?_
    exact resP.mk rfl (Sees.bool (by rw [atN, h1]; rfl))
  · refine Wk ?_
    exact resP.mk rfl (Sees.bool (by rw [atN, h1]; rfl))
theorem c_at (a : Int) : PCall Tryz.prog L 243 [.int .i64 a] (.fn 326 [.cptr (.agg [.int .i64 a]) 0]) := by
  refine PCall.intro mixed [] (nt := 4) Tryz.func243 rfl rfl (by simp) ?_
  refine Wk ?_
  exact resP.mk rfl (Sees.of_eq rfl)
theorem c_Node (n : Net) (hn : n.small) (q : List Req) (hq : q.length ≤ 1099511627776) (hx : ∀ x ∈ q, x.small) (len a : Int) : PCall Tryz.prog L 157 [n.av, encReqs q, .int .i64 len, .int .i64 a] (.tup [.int .i64 (nodeM n q len a).1, .int .i64 (nodeM n q len a).2]) := by
  refine PCall.intro mixed [] (nt := 32) Tryz.func157 rfl rfl (by simp) ?_
  refine Wk ?_
  first | refine CallK.data rfl (c_lsized L n hn q hq hx len) rfl ?_ | refine CallP.data rfl (c_lsized L n hn q hq hx len) rfl ?_
  refine Wk ?_
  refine BrK.mk (fun h1 => ?_) (fun h1 => ?_) <;> (try rw [h1])
  · refine Wk ?_
    exact resP.mk rfl (Sees.of_eq (by rw [nodeM, if_pos (by simpa using h1)]))
  have h1' : sizedQ n q len = 0 := by simpa using h1
  refine Wk ?_
  refine BrK.mk (fun h2 => ?_) (fun h2 => ?_) <;> (try rw [h2])
  · refine Wk ?_
    exact resP.mk rfl (Sees.of_eq (by rw [nodeM, if_neg (by simp [h1']), if_pos (by simp [insB]; simp at h2; omega)]))
  refine Wk ?_
  refine BrK.mk (fun h3 => ?_) (fun h3 => ?_) <;> (try rw [h3])
  · refine Wk ?_
    exact resP.mk rfl (Sees.of_eq (by rw [nodeM, if_neg (by simp [h1']), if_pos (by simp [insB]; simp at h3; omega)]))
  refine Wk ?_
  first | refine CallK.data rfl (c_at L a) rfl ?_ | refine CallP.data rfl (c_at L a) rfl ?_
  refine Wk ?_
  first | refine CallK.data rfl (c_lsum L n hn q hx len (sizedQ_ok h1').q (atN a) 326 [.cptr (.agg [.int .i64 a]) 0] rfl rfl (fun l _ => c_at1 L l a)) rfl ?_ | refine CallP.data rfl (c_lsum L n hn q hx len (sizedQ_ok h1').q (atN a) 326 [.cptr (.agg [.int .i64 a]) 0] rfl rfl (fun l _ => c_at1 L l a)) rfl ?_
  refine Wk ?_
  exact resP.mk rfl (Sees.of_eq (by rw [nodeM, if_neg (by simp [h1']), if_neg (by simp [insB]; simp at h2 h3; omega), sumQ_need]))
end
end HM

/- Requests: the reference. -/
set_option maxRecDepth 100000
namespace HM
open Go Go.RowKit Go.Proofs
section
variable (L : World → Prop)

end
end HM

/- How many cells requests need: the reference. -/
set_option maxRecDepth 100000
namespace HM
open Go Go.RowKit Go.Proofs
section
variable (L : World → Prop)

def few38 (n : Net) (q : List Req) (s : Sched) : Bool := (q.all fun x => few37 n sched0 x.routes) && (few31 n && decide ((q.length : Int) ≤ 4) && decide ((s.cells.length : Int) ≤ 30))
theorem c_Few38 (n : Net) (hn : n.small) (q : List Req) (hq : q.length ≤ 281474976710656) (hx : ∀ x ∈ q, x.small) (s : Sched) : PCall Tryz.prog L 30 [n.av, encReqs q, s.av] (.bool (few38 n q s)) := by
  refine PCall.intro mixed [] (nt := 36) Tryz.func30 rfl rfl (by simp) ?_
  refine Wk ?_
  refine LoopK.run mixed [] (fun (k : Nat) => k ≤ q.length ∧ ∀ j x, j < k → q[j]? = some x → few37 n sched0 x.routes = true) (fun k => [(1, encReqs q), (3, .ptr 0 0), (5, .ptr 1 0), (7, .int .i64 k)]) (fun k => ⟨[.cells n.cs 26, .cells [.int .i64 s.len, .int .i64 s.offs, encCells s.cells] 29], [], 0, 0, fun _ => 0⟩) (fun k => q.length - k) 0 ⟨by simp, by simp⟩ ?_ ?_
  · refine Fits.mk' rfl rfl rfl rfl ?_ ?_ ?_ ?_ ?_ <;> repeat' (first | exact trivial | refine And.intro ?_ ?_ | exact Sees.of_eq rfl | exact lt_b rfl | rfl | exact SeesL.rfl' _)
  rintro k ⟨hk, hinv⟩
  refine Wk ?_
  refine BrK.mk (fun hb => ?_) (fun hb => ?_) <;> (try rw [hb])
  · have hlt : k < q.length := by simpa using hb
    obtain ⟨x, hgx⟩ := getLt hlt
    have hmx := getMap (f := Req.av) hgx
    have hxm := List.mem_of_getElem? hgx
    repeat ((conv => whnf); first | refine sJ ?_ | refine And.intro (by first | exact inbMap hlt | kernel_rfl) ?_ | rw [hmx])
    try (conv => whnf)
    first | refine CallK.data rfl (c_Few37 L n sched0 x.routes hn (hx x hxm).1) rfl ?_ | refine CallP.data rfl (c_Few37 L n sched0 x.routes hn (hx x hxm).1) rfl ?_
    refine Wk ?_
    refine BrK.mk (fun h1 => ?_) (fun h1 => ?_) <;> (try rw [h1])
    · have h1' : few37 n sched0 x.routes = false := by simpa using h1
      refine Wk ?_
      exact resP.mk rfl (Sees.bool (by rw [few38, show (q.all fun x => few37 n sched0 x.routes) = false from List.all_eq_false.2 ⟨x, hxm, by simp [h1']⟩]; rfl))
    · have h1' : few37 n sched0 x.routes = true := by simpa using h1
      refine Wk ?_
      refine ⟨k + 1, ⟨by omega, fun j y hj hy => ?_⟩, by omega, ?_⟩
      · rcases Nat.lt_succ_iff_lt_or_eq.1 hj with h | rfl
        · exact hinv j y h hy
        · rw [hgx] at hy; injection hy with hy; subst hy; exact h1'
      · refine Fits.mk' rfl rfl rfl rfl ?_ ?_ ?_ ?_ ?_ <;> repeat' (first | exact trivial | refine And.intro ?_ ?_ | exact Sees.of_eq rfl | exact lt_b rfl | rfl | exact Sees.int (succI hlt (by omega)) | exact SeesL.rfl' _)
  · have hk' : k = q.length := by simp at hb; omega
    subst hk'
    have hall : (q.all fun x => few37 n sched0 x.routes) = true := by
      rw [List.all_eq_true]
      intro x hx
      obtain ⟨j, hj⟩ := List.getElem?_of_mem hx
      exact hinv j x (List.getElem?_eq_some_iff.1 hj).1 hj
    refine Wk ?_
    first | refine CallK.data rfl (c_Few31 L n hn) rfl ?_ | refine CallP.data rfl (c_Few31 L n hn) rfl ?_
    repeat' ((conv => whnf); first | refine sJ ?_ | refine And.intro (by first  | kernel_rfl) ?_  | (refine BrK.mk (fun hb => ?_) (fun hb => ?_) <;> (try rw [hb])))
    all_goals try (conv => whnf)
    all_goals exact resP.mk rfl (Sees.bool (by rw [few38, hall]; simp_all <;> omega))
theorem few38_len {n : Net} {q : List Req} {s : Sched} (h : few38 n q s = true) : q.length ≤ 4 ∧ s.cells.length ≤ 30 := by
  unfold few38 at h
  simp only [Bool.and_eq_true, decide_eq_true_eq] at h
  omega
end
end HM
