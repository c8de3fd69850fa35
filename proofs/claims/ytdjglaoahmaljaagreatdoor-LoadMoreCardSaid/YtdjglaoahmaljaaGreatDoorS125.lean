/- How many cells requests need: the program. -/
import Derived.Test.YtdjglaoahmaljaaGreatDoorS124

set_option maxRecDepth 100000
namespace HM
open Go Go.RowKit Go.Proofs
theorem linksQ_mem {n : Net} {x : Req} {l : Link} (h : l ∈ linksQ n x) : l ∈ n.links := (List.mem_filter.1 h).1
theorem link_bd {n : Net} (h : NetOk n) {l : Link} (hl : l ∈ n.links) : 0 ≤ l.loss ∧ l.loss ≤ 7 := by
  obtain ⟨i, hi⟩ := List.getElem?_of_mem hl
  have := linkR_bd (h.link i l hi).1
  omega
theorem sumX_bd {n : Net} (h : NetOk n) {len : Int} (h1 : 1 ≤ len) (h2 : len ≤ 512) {x : Req} (hp : 1 ≤ x.flow.period) (p : Link → Bool) {ls : List Link} (hs : ∀ l ∈ ls, l ∈ n.links) (hl : ls.length ≤ 128) : 0 ≤ sumW (needC len x) (ls.filter p) ∧ sumW (needC len x) (ls.filter p) ≤ 16777216 := by
  have := sumW_bd (f := needC len x) (m := 131072) (by omega) (l := ls.filter p) fun l hl => by
    have hb := link_bd h (hs l (List.mem_filter.1 hl).1)
    have := needC_bd (x := x) (l := l) h1 h2 hp hb.1 (by omega)
    omega
  have hf := List.length_filter_le p ls
  have : ((ls.filter p).length : Int) * 131072 ≤ 128 * 131072 := Int.mul_le_mul_of_nonneg_right (by omega) (by omega)
  omega
theorem linksQ_len {n : Net} (h : NetOk n) (x : Req) : (linksQ n x).length ≤ 128 := Nat.le_trans (List.length_filter_le _ _) h.many
theorem sumQ_bd {n : Net} (h : NetOk n) {len : Int} (h1 : 1 ≤ len) (h2 : len ≤ 512) (p : Link → Bool) {q : List Req} (hq : ∀ x ∈ q, 1 ≤ x.flow.period) (hl : q.length ≤ 16) : 0 ≤ sumW (sumX n len p) q ∧ sumW (sumX n len p) q ≤ 268435456 := by
  have := sumW_bd (f := sumX n len p) (m := 16777216) (by omega) (l := q) fun x hx => sumX_bd h h1 h2 (hq x hx) p (fun l hl => linksQ_mem hl) (linksQ_len h x)
  have : (q.length : Int) * 16777216 ≤ 16 * 16777216 := Int.mul_le_mul_of_nonneg_right (by omega) (by omega)
  omega
structure QOk (n : Net) (q : List Req) (len : Int) : Prop where
  n0 : netE n = 0
  sz : SzOk n q len
  net : NetOk n
  q16 : q.length ≤ 16
  req : ∀ x ∈ q, ReqOk n x
  per : ∀ x ∈ q, 1 ≤ x.flow.period ∧ x.flow.period ≤ 512
theorem SzOk.q {n : Net} {q : List Req} {len : Int} (h : SzOk n q len) : QOk n q len := by
  obtain ⟨h1, h2, h3, h4⟩ := reqE_ok h.req
  refine ⟨?_, h, h1, h2, h3, fun x hx => ?_⟩
  · by_cases hn : netE n = 0
    · exact hn
    · have := h.req
      rw [reqE, if_pos hn] at this; cases this
  · have := flowE_ok (h3 x hx).flow
    omega
section
variable (L : World → Prop)

set_option maxHeartbeats 1000000 in
theorem c_lsum (n : Net) (hn : n.small) (q : List Req) (hx : ∀ x ∈ q, x.small) (len : Int) (hQ : QOk n q len) (p : Link → Bool) (g : Nat) (caps : List AV) (hcb : callable Tryz.prog g = true) (hc : fzs caps = some caps) (hp : ∀ l ∈ n.links, PCall Tryz.prog L g (l.av :: caps) (.bool (p l))) :
    PCall Tryz.prog L 56 [n.av, encReqs q, .int .i64 len, .fn g caps] (.int .i64 (sumQ n q len p)) := by
  obtain ⟨h0, ⟨_, hl1, hl2, hmis⟩, hok, hq16, hreq, hper⟩ := hQ
  refine PCall.intro mixed [] (nt := 45) Tryz.func56 rfl rfl (by simp) ?_
  refine Wk ?_
  refine LoopK.run mixed [] (fun (k : Nat) => k ≤ q.length) (fun k => [(2, .int .i64 len), (3, .fn g caps), (4, .ptr 0 0), (9, .int .i64 (sumW (sumX n len p) (q.take k))), (14, encReqs q), (15, .int .i64 q.length), (16, .int .i64 k)]) (fun k => ⟨[.cells n.cs 26], [], 0, 0, fun _ => 0⟩) (fun k => q.length - k) 0 (by simp) ?_ ?_
  · refine Fits.mk' rfl rfl rfl rfl ?_ ?_ ?_ ?_ ?_ <;> repeat' (first | exact trivial | refine And.intro ?_ ?_ | exact Sees.of_eq rfl | exact lt_b rfl | rfl | exact Sees.int (by simp) | exact SeesL.rfl' _ | exact fzs_okk hc)
  rintro k hk
  have hb1 := sumQ_bd hok hl1 hl2 p (q := q.take k) (fun x h => (hper x (List.mem_of_mem_take h)).1) (by rw [List.length_take]; omega)
  refine Wk ?_
  refine BrK.mk (fun hb => ?_) (fun hb => ?_) <;> (try rw [hb])
  · have hlt : k < q.length := by simpa using hb
    obtain ⟨x, hgx⟩ := getLt hlt
    have hmx := getMap (f := Req.av) hgx
    have hxm := List.mem_of_getElem? hgx
    obtain ⟨hp1, hp2⟩ := hper x hxm
    have hst := sumW_take (sumX n len p) hgx
    repeat ((conv => whnf); first | refine sJ ?_ | refine And.intro (by first | exact inbMap hlt | kernel_rfl) ?_ | rw [hmx])
    try (conv => whnf)
    first | refine CallK.data rfl (c_llinks L n hn h0 x (hx x hxm) (hreq x hxm)) rfl ?_ | refine CallP.data rfl (c_llinks L n hn h0 x (hx x hxm) (hreq x hxm)) rfl ?_
    obtain ⟨ls, hls⟩ : ∃ ls, ls = linksQ n x := ⟨_, rfl⟩
    have hlsl := linksQ_len hok x
    have hlsm : ∀ l ∈ ls, l ∈ n.links := fun l h => linksQ_mem (hls ▸ h)
    have hsx : sumX n len p x = sumW (needC len x) (ls.filter p) := by rw [sumX, hls]
    rw [← hls] at hlsl ⊢
    refine Wk ?_
    refine LoopK.run mixed [] (fun (j : Nat) => j ≤ ls.length) (fun j => [(2, .int .i64 len), (3, .fn g caps), (4, .ptr 0 0), (9, .int .i64 (sumW (sumX n len p) (q.take k) + sumW (needC len x) ((ls.take j).filter p))), (11, .ptr 1 0), (14, encReqs q), (15, .int .i64 q.length), (16, .int .i64 k), (22, encLinks ls), (23, .int .i64 ls.length), (24, .int .i64 j)]) (fun j => ⟨[.cells n.cs 26, .cells x.cs 77], [], 0, 0, fun _ => 0⟩) (fun j => ls.length - j) 0 (by simp) ?_ ?_
    · refine Fits.mk' rfl rfl rfl rfl ?_ ?_ ?_ ?_ ?_ <;> repeat' (first | exact trivial | refine And.intro ?_ ?_ | exact Sees.of_eq rfl | exact lt_b rfl | rfl | exact Sees.int (by simp [sumW]) | exact SeesL.rfl' _ | exact fzs_okk hc)
    rintro j hj
    have hb2 := sumX_bd hok hl1 hl2 hp1 p (ls := ls.take j) (fun l h => hlsm l (List.mem_of_mem_take h)) (by rw [List.length_take]; omega)
    refine Wk ?_
    refine BrK.mk (fun hd => ?_) (fun hd => ?_) <;> (try rw [hd])
    · have hjt : j < ls.length := by simpa using hd
      obtain ⟨l, hgl⟩ := getLt hjt
      have hml := getMap (f := Link.av) hgl
      have hlm := hlsm l (List.mem_of_getElem? hgl)
      obtain ⟨b1, b2⟩ := link_bd hok hlm
      obtain ⟨c1, c2, c3, c4⟩ := needC_bd (x := x) (l := l) hl1 hl2 hp1 b1 (by omega)
      repeat ((conv => whnf); first | refine sJ ?_ | refine And.intro (by first | exact inbMap hjt | kernel_rfl) ?_ | rw [hml])
      try (conv => whnf)
      refine CallK.data hcb (hp l hlm) (by show (match fz _, fzs caps with | some a, some b => some (a :: b) | _, _ => none) = _; rw [hc]; rfl) ?_
      refine Wk ?_
      refine BrK.mk (fun h2 => ?_) (fun h2 => ?_) <;> (try rw [h2])
      · have hfl : (ls.take (j + 1)).filter p = (ls.take j).filter p ++ [l] := by rw [take_succ hgl, List.filter_append]; simp [h2]
        have hw1 : IntKind.i64.wrap (l.loss + 1) = l.loss + 1 := by rw [w64] <;> omega
        have hw2 : IntKind.i64.wrap ((l.loss + 1) * len) = (l.loss + 1) * len := by rw [w64] <;> omega
        have hdv : ((l.loss + 1) * len).tdiv x.flow.period = needC len x l := by rw [needC, Int.tdiv_eq_ediv_of_nonneg c3]
        have hw3 : IntKind.i64.wrap (needC len x l) = needC len x l := by rw [w64] <;> omega
        repeat ((conv => whnf); first | refine sJ ?_ | refine And.intro (by first | exact (show x.flow.period ≠ 0 by omega) | kernel_rfl) ?_ | rw [hw1] | rw [hw2] | rw [hdv] | rw [hw3])
        try (conv => whnf)
        refine ⟨j + 1, by omega, by omega, ?_⟩
        refine Fits.mk' rfl rfl rfl rfl ?_ ?_ ?_ ?_ ?_ <;> repeat' (first | exact trivial | refine And.intro ?_ ?_ | exact Sees.of_eq rfl | exact lt_b rfl | rfl | exact Sees.int (succI hjt (by omega)) | exact SeesL.rfl' _ | exact fzs_okk hc | exact Sees.int (by rw [hfl, sumW_app, w64] <;> (try simp only [sumW]) <;> omega))
      · have hfl : (ls.take (j + 1)).filter p = (ls.take j).filter p := by rw [take_succ hgl, List.filter_append]; simp [h2]
        refine Wk ?_
        refine ⟨j + 1, by omega, by omega, ?_⟩
        rw [hfl]
        refine Fits.mk' rfl rfl rfl rfl ?_ ?_ ?_ ?_ ?_ <;> repeat' (first | exact trivial | refine And.intro ?_ ?_ | exact Sees.of_eq rfl | exact lt_b rfl | rfl | exact Sees.int (succI hjt (by omega)) | exact SeesL.rfl' _ | exact fzs_okk hc)
    · have hj' : j = ls.length := by simp at hd; omega
      subst hj'
      rw [List.take_length, ← hsx, ← hst]
      refine Wk ?_
      refine ⟨k + 1, by omega, by omega, ?_⟩
      refine Fits.mk' rfl rfl rfl rfl ?_ ?_ ?_ ?_ ?_ <;> repeat' (first | exact trivial | refine And.intro ?_ ?_ | exact Sees.of_eq rfl | exact lt_b rfl | rfl | exact Sees.int (succI hlt (by omega)) | exact SeesL.rfl' _ | exact fzs_okk hc)
  · have hk' : k = q.length := by simp at hb; omega
    subst hk'
    rw [List.take_length]
    refine Wk ?_
    exact resP.mk rfl (Sees.int rfl)

theorem c_IndexFuncReq (l : List Req) (p : Req → Bool) (g : Nat) (caps : List AV) (hl : l.length ≤ 281474976710656) (hcb : callable Tryz.prog g = true) (hc : fzs caps = some caps) (hp : ∀ x ∈ l, PCall Tryz.prog L g (Req.av x :: caps) (.bool (p x))) :
    PCall Tryz.prog L 115 [.sl false (l.map Req.av), .fn g caps] (.int .i64 (idxF p l)) := by
  refine PCall.intro mixed [] (nt := 19) Tryz.func115 rfl rfl (by simp) ?_
  refine Wk ?_
  refine LoopK.run mixed [] (fun (k : Nat) => k ≤ l.length ∧ ∀ j x, j < k → l[j]? = some x → p x = false) (fun k => [(0, .sl false (l.map Req.av)), (1, .fn g caps), (7, .int .i64 l.length), (8, .int .i64 k)]) (fun k => St.none) (fun k => l.length - k) 0 ⟨by simp, by simp⟩ ?_ ?_
  · refine Fits.mk' rfl rfl rfl rfl ?_ ?_ ?_ ?_ ?_ <;> repeat' (first | exact trivial | refine And.intro ?_ ?_ | exact Sees.of_eq rfl | exact lt_b rfl | rfl | exact Sees.int (by simp) | exact fzs_okk hc)
  rintro k ⟨hk, hinv⟩
  refine Wk ?_
  refine BrK.mk (fun hb => ?_) (fun hb => ?_) <;> (try rw [hb])
  · have hlt : k < l.length := by simpa using hb
    obtain ⟨x, hgx⟩ := getLt hlt
    have hmx := getMap (f := Req.av) hgx
    repeat ((conv => whnf); first | refine sJ ?_ | refine And.intro (by first | exact inbMap hlt | kernel_rfl) ?_ | rw [hmx])
    try (conv => whnf)
    refine CallK.data hcb (hp x (List.mem_of_getElem? hgx)) (by show (match fz _, fzs caps with | some a, some b => some (a :: b) | _, _ => none) = _; rw [hc]; rfl) ?_
    refine Wk ?_
    refine BrK.mk (fun h2 => ?_) (fun h2 => ?_) <;> (try rw [h2])
    · refine Wk ?_
      exact resP.mk rfl (Sees.int (idxF_some hlt hinv hgx h2).symm)
    · refine Wk ?_
      refine ⟨k + 1, ⟨by omega, fun j y hj hy => ?_⟩, by omega, ?_⟩
      · rcases Nat.lt_succ_iff_lt_or_eq.1 hj with h | rfl
        · exact hinv j y h hy
        · rw [hgx] at hy; injection hy with hy; subst hy; exact h2
      · refine Fits.mk' rfl rfl rfl rfl ?_ ?_ ?_ ?_ ?_ <;> repeat' (first | exact trivial | refine And.intro ?_ ?_ | exact Sees.of_eq rfl | exact lt_b rfl | rfl | exact Sees.int (succI hlt hl) | exact fzs_okk hc)
  · have hk' : k = l.length := by simp at hb; omega
    subst hk'
    refine Wk ?_
    exact resP.mk rfl (Sees.int (idxF_none hinv).symm)

theorem c_ContainsFuncReq (l : List Req) (p : Req → Bool) (g : Nat) (caps : List AV) (hl : l.length ≤ 281474976710656) (hcb : callable Tryz.prog g = true) (hc : fzs caps = some caps) (hp : ∀ x ∈ l, PCall Tryz.prog L g (Req.av x :: caps) (.bool (p x))) :
    PCall Tryz.prog L 73 [.sl false (l.map Req.av), .fn g caps] (.bool (l.any p)) := by
  refine PCall.intro mixed [] (nt := 9) Tryz.func73 rfl rfl (by simp) ?_
  refine Wk ?_
  refine CallK.data rfl (c_IndexFuncReq L l p g caps hl hcb hc hp) (by show (match fz _, fzs [AV.fn g caps] with | some a, some b => some (a :: b) | _, _ => none) = _; rw [show fzs [AV.fn g caps] = some [AV.fn g caps] from by simp [fz, fzs, hc]]; rfl) ?_
  refine Wk ?_
  exact resP.mk rfl (Sees.bool (idxF_any p l))
theorem c_sized1 (x : Req) (len : Int) (h1 : 0 ≤ len) (h2 : 1 ≤ x.flow.period) (h3 : x.flow.period ≤ 512) : PCall Tryz.prog L 74 [x.av, .cptr (.agg [.int .i64 len]) 0] (.bool (mismB len x)) := by
  refine PCall.intro mixed [] (nt := 10) Tryz.func74 rfl rfl (by simp) ?_
  have hm : len.tmod x.flow.period = len % x.flow.period := Int.tmod_eq_emod_of_nonneg h1
  have hm1 := Int.emod_nonneg len (show x.flow.period ≠ 0 by omega)
  have hm2 := Int.emod_lt_of_pos len (show 0 < x.flow.period by omega)
  have hw : IntKind.i64.wrap (len % x.flow.period) = len % x.flow.period := by rw [w64] <;> omega
  repeat ((conv => whnf); first | refine sJ ?_ | refine And.intro (by first | exact (show x.flow.period ≠ 0 by omega) | kernel_rfl) ?_ | rw [hm] | rw [hw])
  try (conv => whnf)
  exact resP.mk rfl (Sees.bool rfl)
theorem c_lsized (n : Net) (hn : n.small) (q : List Req) (hq : q.length ≤ 1099511627776) (hx : ∀ x ∈ q, x.small) (len : Int) : PCall Tryz.prog L 33 [n.av, encReqs q, .int .i64 len] (.int .i64 (sizedQ n q len)) := by
  refine PCall.intro mixed [] (nt := 26) Tryz.func33 rfl rfl (by simp) ?_
  refine Wk ?_
  first | refine CallK.data rfl (c_LCheck L n hn q hq hx) rfl ?_ | refine CallP.data rfl (c_LCheck L n hn q hq hx) rfl ?_
  refine Wk ?_
  refine BrK.mk (fun h1 => ?_) (fun h1 => ?_) <;> (try rw [h1])
  · refine Wk ?_
    exact resP.mk rfl (Sees.int (by rw [sizedQ, if_pos (by simpa using h1)]))
  have h1' : (reqE n q).2 = 0 := by simpa using h1
  refine Wk ?_
  refine BrK.mk (fun h2 => ?_) (fun h2 => ?_) <;> (try rw [h2])
  · refine Wk ?_
    exact resP.mk rfl (Sees.int (by rw [sizedQ, if_neg (by simp [h1']), if_pos (.inl (by simpa using h2))]))
  refine Wk ?_
  refine BrK.mk (fun h3 => ?_) (fun h3 => ?_) <;> (try rw [h3])
  · refine Wk ?_
    exact resP.mk rfl (Sees.int (by rw [sizedQ, if_neg (by simp [h1']), if_pos (.inr (by simpa using h3))]))
  have e2 : ¬ (len < 1 ∨ 512 < len) := by simp at h2 h3; omega
  obtain ⟨_, _, hreq, _⟩ := reqE_ok h1'
  refine Wk ?_
  first | refine CallK.box rfl (c_ContainsFuncReq L q (mismB len) 74 [.cptr (.agg [.int .i64 len]) 0] (by omega) rfl rfl (fun x hxm => c_sized1 L x len (by omega) (by have := flowE_ok (hreq x hxm).flow; omega) (by have := flowE_ok (hreq x hxm).flow; omega))) rfl rfl ?_ | refine CallP.box rfl (c_ContainsFuncReq L q (mismB len) 74 [.cptr (.agg [.int .i64 len]) 0] (by omega) rfl rfl (fun x hxm => c_sized1 L x len (by omega) (by have := flowE_ok (hreq x hxm).flow; omega) (by have := flowE_ok (hreq x hxm).flow; omega))) rfl rfl ?_
  refine Wk ?_
  refine BrK.mk (fun h4 => ?_) (fun h4 => ?_) <;> (try rw [h4])
  · refine Wk ?_
    exact resP.mk rfl (Sees.int (by rw [sizedQ, if_neg (by simp [h1']), if_neg e2, if_pos h4]))
  refine Wk ?_
  exact resP.mk rfl (Sees.int (by rw [sizedQ, if_neg (by simp [h1']), if_neg e2, if_neg (by simp [h4])]))

theorem c_lcells1 (l : Link) : PCall Tryz.prog L 57 [l.av] (.bool true) := by
  refine PCall.intro mixed [] (nt := 3) Tryz.func57 rfl rfl (by simp) ?_
  refine Wk ?_
  exact resP.mk rfl (Sees.bool rfl)
theorem c_Cells (n : Net) (hn : n.small) (q : List Req) (hq : q.length ≤ 1099511627776) (hx : ∀ x ∈ q, x.small) (len : Int) : PCall Tryz.prog L 19 [n.av, encReqs q, .int .i64 len] (.tup [.int .i64 (cellsM n q len).1, .int .i64 (cellsM n q len).2]) := by
  refine PCall.intro mixed [] (nt := 20) Tryz.func19 rfl rfl (by simp) ?_
  refine Wk ?_
  first | refine CallK.data rfl (c_lsized L n hn q hq hx len) rfl ?_ | refine CallP.data rfl (c_lsized L n hn q hq hx len) rfl ?_
  refine Wk ?_
  refine BrK.mk (fun h1 => ?_) (fun h1 => ?_) <;> (try rw [h1])
  · refine Wk ?_
    exact resP.mk rfl (Sees.of_eq (by rw [cellsM, if_pos (by simpa using h1)]))
  have h1' : sizedQ n q len = 0 := by simpa using h1
  refine Wk ?_
  first | refine CallK.data rfl (c_lsum L n hn q hx len (sizedQ_ok h1').q (fun _ => true) 57 [] rfl rfl (fun l _ => c_lcells1 L l)) rfl ?_ | refine CallP.data rfl (c_lsum L n hn q hx len (sizedQ_ok h1').q (fun _ => true) 57 [] rfl rfl (fun l _ => c_lcells1 L l)) rfl ?_
  refine Wk ?_
  exact resP.mk rfl (Sees.of_eq (by rw [cellsM, if_neg (by simp [h1']), sumQ_need, List.filter_eq_self.2 (fun _ _ => rfl)]))
theorem c_at1 (l : Link) (a : Int) : PCall Tryz.prog L 111 [l.av, .cptr (.agg [.int .i64 a]) 0] (.bool (atN a l)) := by
  refine PCall.intro mixed [] (nt := 14) Tryz.func111 rfl rfl (by simp) ?_
  refine Wk ?_
  cases h1 : l.src == a
  · refine Wk ?_
    exact resP.mk rfl (Sees.bool (by rw [atN, h1]; rfl))
  · refine Wk ?_
    exact resP.mk rfl (Sees.bool (by rw [atN, h1]; rfl))
theorem c_at (a : Int) : PCall Tryz.prog L 64 [.int .i64 a] (.fn 111 [.cptr (.agg [.int .i64 a]) 0]) := by
  refine PCall.intro mixed [] (nt := 4) Tryz.func64 rfl rfl (by simp) ?_
  refine Wk ?_
  exact resP.mk rfl (Sees.of_eq rfl)
theorem c_Node (n : Net) (hn : n.small) (q : List Req) (hq : q.length ≤ 1099511627776) (hx : ∀ x ∈ q, x.small) (len a : Int) : PCall Tryz.prog L 24 [n.av, encReqs q, .int .i64 len, .int .i64 a] (.tup [.int .i64 (nodeM n q len a).1, .int .i64 (nodeM n q len a).2]) := by
  refine PCall.intro mixed [] (nt := 32) Tryz.func24 rfl rfl (by simp) ?_
  refine Wk ?_
  first | refine CallK.data rfl (c_lsized L n hn q hq hx len) rfl ?_ | refine CallP.data rfl (c_lsized L n hn q hq hx len) rfl ?_
  refine Wk ?_
  refine BrK.mk (fun h1 => ?_) (fun h1 => ?_) <;> (try rw [h1])
  · refine Wk ?_
    exact resP.mk rfl (Sees.of_eq (by rw [nodeM, if_pos (by simpa using h1)]))
  have h1' : sizedQ n q len = 0 := by simpa using h1
  refine Wk ?_
  refine BrK.mk (fun h2 => ?_) (fun h2 => ?_) <;> (try rw [h2])
  · refine Wk ?_
    exact resP.mk rfl (Sees.of_eq (by rw [nodeM, if_neg (by simp [h1']), if_pos (by simp [insB]; simp at h2; omega)]))
  refine Wk ?_
  refine BrK.mk (fun h3 => ?_) (fun h3 => ?_) <;> (try rw [h3])
  · refine Wk ?_
    exact resP.mk rfl (Sees.of_eq (by rw [nodeM, if_neg (by simp [h1']), if_pos (by simp [insB]; simp at h3; omega)]))
  refine Wk ?_
  first | refine CallK.data rfl (c_at L a) rfl ?_ | refine CallP.data rfl (c_at L a) rfl ?_
  refine Wk ?_
  first | refine CallK.data rfl (c_lsum L n hn q hx len (sizedQ_ok h1').q (atN a) 111 [.cptr (.agg [.int .i64 a]) 0] rfl rfl (fun l _ => c_at1 L l a)) rfl ?_ | refine CallP.data rfl (c_lsum L n hn q hx len (sizedQ_ok h1').q (atN a) 111 [.cptr (.agg [.int .i64 a]) 0] rfl rfl (fun l _ => c_at1 L l a)) rfl ?_
  refine Wk ?_
  exact resP.mk rfl (Sees.of_eq (by rw [nodeM, if_neg (by simp [h1']), if_neg (by simp [insB]; simp at h2 h3; omega), sumQ_need]))
theorem c_link1 (l : Link) (a b : Int) : PCall Tryz.prog L 66 [l.av, .cptr (.agg [.int .i64 a]) 0, .cptr (.agg [.int .i64 b]) 0] (.bool (isL a b l)) := by
  refine PCall.intro mixed [] (nt := 15) Tryz.func66 rfl rfl (by simp) ?_
  refine Wk ?_
  cases h1 : l.src == a
  · refine Wk ?_
    exact resP.mk rfl (Sees.bool (by rw [isL, h1]; rfl))
  · refine Wk ?_
    exact resP.mk rfl (Sees.bool (by rw [isL, h1]; rfl))
theorem link_one {n : Net} (h : NetOk n) {a b : Int} (hf : ¬ findL n a b < 0) (f : Link → Int) : sumW f (n.links.filter (isL a b)) = f (lnkAt n a b) := by
  obtain ⟨hm, e1, e2⟩ := lnkAt_mem (n := n) (a := a) (b := b) (by omega)
  have hu : ∀ l ∈ n.links, isL a b l = true → l = lnkAt n a b := fun l hl he => by
    simp only [isL, Bool.and_eq_true, beq_iff_eq] at he
    have := lnkAt_self h hl
    rw [he.1, he.2] at this
    exact this.symm
  have hs : (n.links.filter (isL a b)).Pairwise fun x y => x.cmp y < 0 := (List.pairwise_iff_getElem.2 fun i j hi hj hij => h.sorted i j _ _ hij (List.getElem?_eq_getElem hi) (List.getElem?_eq_getElem hj)).filter _
  have hall : ∀ l ∈ n.links.filter (isL a b), l = lnkAt n a b := fun l hl => hu l (List.mem_filter.1 hl).1 (List.mem_filter.1 hl).2
  have hin : lnkAt n a b ∈ n.links.filter (isL a b) := List.mem_filter.2 ⟨hm, by simp [isL, e1, e2]⟩
  match hh : n.links.filter (isL a b), hs, hall, hin with
  | [], _, _, hin => cases hin
  | [x], _, hall, _ => rw [hall x (by simp)]; simp [sumW]
  | x :: y :: t, hs, hall, _ =>
    have h1 := hall x (by simp)
    have h2 := hall y (by simp)
    have h3 := (List.pairwise_cons.1 hs).1 y (by simp)
    rw [h1, h2] at h3
    unfold Link.cmp at h3
    rw [cmpL_eq.2 rfl] at h3
    exact absurd h3 (by decide)
theorem c_Link (n : Net) (hn : n.small) (q : List Req) (hq : q.length ≤ 1099511627776) (hx : ∀ x ∈ q, x.small) (len a b : Int) : PCall Tryz.prog L 26 [n.av, encReqs q, .int .i64 len, .int .i64 a, .int .i64 b] (.tup [.int .i64 (linkM n q len a b).1, .int .i64 (linkM n q len a b).2]) := by
  refine PCall.intro mixed [] (nt := 30) Tryz.func26 rfl rfl (by simp) ?_
  refine Wk ?_
  first | refine CallK.data rfl (c_lsized L n hn q hq hx len) rfl ?_ | refine CallP.data rfl (c_lsized L n hn q hq hx len) rfl ?_
  refine Wk ?_
  refine BrK.mk (fun h1 => ?_) (fun h1 => ?_) <;> (try rw [h1])
  · refine Wk ?_
    exact resP.mk rfl (Sees.of_eq (by rw [linkM, if_pos (by simpa using h1)]))
  have h1' : sizedQ n q len = 0 := by simpa using h1
  have hQ := (sizedQ_ok h1').q
  have hidx : indexN n a b = findL n a b := by rw [indexN, if_pos hQ.n0]
  refine Wk ?_
  first | refine CallK.data rfl (c_index L n hn a b) rfl ?_ | refine CallP.data rfl (c_index L n hn a b) rfl ?_
  rw [hidx]
  refine Wk ?_
  refine BrK.mk (fun h2 => ?_) (fun h2 => ?_) <;> (try rw [h2])
  · refine Wk ?_
    exact resP.mk rfl (Sees.of_eq (by rw [linkM, if_neg (by simp [h1']), if_pos (by simpa using h2)]))
  have h2' : ¬ findL n a b < 0 := by simpa using h2
  refine Wk ?_
  first | refine CallK.box rfl (c_lsum L n hn q hx len hQ (isL a b) 66 [.cptr (.agg [.int .i64 a]) 0, .cptr (.agg [.int .i64 b]) 0] rfl rfl (fun l _ => c_link1 L l a b)) rfl rfl ?_ | refine CallP.box rfl (c_lsum L n hn q hx len hQ (isL a b) 66 [.cptr (.agg [.int .i64 a]) 0, .cptr (.agg [.int .i64 b]) 0] rfl rfl (fun l _ => c_link1 L l a b)) rfl rfl ?_
  refine Wk ?_
  exact resP.mk rfl (Sees.of_eq (by rw [linkM, if_neg (by simp [h1']), if_neg h2', sumQ_need, link_one hQ.net h2']))
end
end HM
