/- slices.DeleteFunc of cells behind 3 other objects. -/
import Derived.Test.YtgfboaadhlhjhaaGreatDoorS34
import Derived.Test.YtgfboaadhlhjhaaGreatDoorS190
import Derived.Test.YtgfboaadhlhjhaaGreatDoorS6
set_option maxRecDepth 100000
namespace HM
open Go Go.RowKit Go.Proofs
section
variable (L : World → Prop)
set_option maxHeartbeats 4000000 in
theorem i_DelCell3 (o0 o1 o2 : Ob) (n0 m0 : Nat) (ty : Nat → TypeId) (l : List Cell) (p : Cell → Bool) (g : Nat) (caps fcaps : List AV) (d : Nat) {K : AV → St → Prop} (hl : l.length ≤ 281474976710656) (hcb : callable Tryz.prog g = true) (hc : fzs fcaps = some fcaps) (hok : o0.okk 4 0 ∧ o1.okk 4 0 ∧ o2.okk 4 0 ∧ okks 4 0 caps)
    (hfz : ∀ (x : List Ob) (n m : Nat) (ty' : Nat → TypeId), fzbs ⟨o0 :: o1 :: o2 :: x, [], n, m, ty'⟩ caps = some fcaps) (hp : ∀ x ∈ l, PCall Tryz.prog L g (Cell.av x :: fcaps) (.bool (p x)))
    (hK : ∀ ex : List AV, K (.vsl 3 0 (l.filter fun x => !p x).length 5) ⟨[o0, o1, o2, .cells (flatE ((l.filter fun x => !p x).map Cell.av) ++ ex) 61], [], n0, m0, ty⟩) :
    ICall Tryz.prog L 45 [.vsl 3 0 l.length 5, .fn g caps] ⟨[o0, o1, o2, freshO (l.map Cell.av) 5 d 61], [], n0, m0, ty⟩ K := by
  have hall : ∀ x : Cell, (Cell.av x).cells.length = 5 := fun x => (cellOk).len x
  refine ICall.intro mixed [] (nt := 42) Tryz.func45 rfl rfl (by simp) ?_
  refine Wk ?_
  refine CallK.box rfl (c_IndexFuncCell L l p g fcaps hl hcb hc hp) (fz2 ((cellOk).fzb rfl rfl) (fzf1 (hfz _ _ _ _))) rfl ?_
  refine Wk ?_
  refine BrK.mk (fun h1 => ?_) (fun h1 => ?_) <;> (try rw [h1])
  · refine Wk ?_
    have hnone := idxF_none_iff (p := p) (l := l) (by simpa using h1)
    have hfil : (l.filter fun x => !p x) = l := List.filter_eq_self.2 fun x hx => by
      obtain ⟨j, hj⟩ := List.getElem?_of_mem hx
      simp [hnone j x hj]
    have := hK (List.replicate (d * 5) .undef)
    rw [hfil] at this
    exact this
  obtain ⟨k, x, e1, e2, e3⟩ := idxF_at (p := p) (l := l) (by simpa using h1)
  obtain ⟨_, _, _, e4⟩ := idxF_first e1
  have hklt := (List.getElem?_eq_some_iff.1 e2).1
  rw [e1]
  refine Wk ?_
  refine LoopK.run mixed [] (fun s : List Cell × Nat × Nat => Kept p l s.1 s.2.1 s.2.2) (fun s => [(0, .vsl 3 0 l.length 5), (1, .fn g caps), (5, .int .i64 s.2.1), (6, .int .i64 s.2.2)]) (fun s => ⟨[o0, o1, o2, .cells (flatE (s.1.map Cell.av) ++ List.replicate (d * 5) .undef) 61], [], 4, 0, ty⟩) (fun s => l.length - s.2.2) (l, k, k + 1) (Kept.start e2 e3 e4) ?_ ?_
  · refine Fits.mk' rfl rfl rfl rfl ?_ ?_ ?_ ?_ ?_ <;> repeat' (first | exact trivial | refine And.intro ?_ ?_ | exact Sees.of_eq rfl | exact lt_b rfl | rfl | exact SeesL.rfl' _ | exact SeesO.rfl' _ | exact hok.1 | exact hok.2.1 | exact hok.2.2.1 | exact hok.2.2.2 | exact okks_append ((cellOk).okk _ _ _) (okks_undef _ _ _) | exact Sees.int (succI hklt hl))
  rintro ⟨a, i, j⟩ hkept
  simp only at hkept
  have hij := hkept.ij
  have halen := hkept.len
  refine Wk ?_
  refine BrK.mk (fun hb => ?_) (fun hb => ?_) <;> (try rw [hb])
  · have hlt : j < l.length := by simpa using hb
    obtain ⟨y, hgy⟩ := getLt hlt
    have hay := hkept.get hgy
    have hld := (cellOk).ld (List.replicate (d * 5) .undef) hay
    have hft := (cellOk).fit (l := a) (List.replicate (d * 5) .undef) (k := j) (by omega)
    have hpy := hp y (List.mem_of_getElem? hgy)
    repeat ((conv => whnf); first | refine sJ ?_ | refine And.intro (by first | exact ⟨by omega, by simp; omega⟩ | kernel_rfl) ?_ )
    try (conv => whnf)
    refine And.intro (show 0 + (j : Int).toNat * 5 + 5 ≤ _ by rw [Nat.zero_add, Int.toNat_natCast]; exact hft) ?_
    rw [(cellOk).ldr _ hay _ _ (by kernel_rfl) (by kernel_rfl)]
    refine Wk ?_
    refine CallK.box hcb hpy (fz2 rfl (hfz _ _ _ _)) rfl ?_
    have hfi := (cellOk).fit (l := a) (List.replicate (d * 5) .undef) (k := i) (by omega)
    refine Wk ?_
    refine BrK.mk (fun h2 => ?_) (fun h2 => ?_) <;> (try rw [h2])
    · repeat ((conv => whnf); first | refine sJ ?_ | refine And.intro (by first | exact ⟨by omega, by simp; omega⟩ | exact (show 0 + (i : Int).toNat * 5 + 5 ≤ _ by rw [Nat.zero_add, Int.toNat_natCast]; exact hfi) | kernel_rfl) ?_ )
      try (conv => whnf)
      have hst := (cellOk).st y (List.replicate (d * 5) .undef) (l := a) (k := i) (by omega)
      refine ⟨(a.set i y, i + 1, j + 1), hkept.keep hgy (by simpa using h2), by simp only; omega, ?_⟩
      refine Fits.mk' rfl rfl rfl rfl ?_ ?_ ?_ ?_ ?_ <;> repeat' (first | exact trivial | refine And.intro ?_ ?_ | exact Sees.of_eq rfl | exact lt_b rfl | rfl | exact SeesO.rfl' _ | exact hok.1 | exact hok.2.1 | exact hok.2.2.1 | exact hok.2.2.2 | exact okks_append ((cellOk).okk _ _ _) (okks_undef _ _ _) | exact Sees.int (succI hlt hl) | exact Sees.int (succI (by omega : i < l.length) hl) | exact SeesL.of_eq (by rw [Nat.zero_add, Int.toNat_natCast]; exact hst))
    · refine Wk ?_
      refine ⟨(a, i, j + 1), hkept.skip hgy (by simpa using h2), by simp only; omega, ?_⟩
      refine Fits.mk' rfl rfl rfl rfl ?_ ?_ ?_ ?_ ?_ <;> repeat' (first | exact trivial | refine And.intro ?_ ?_ | exact Sees.of_eq rfl | exact lt_b rfl | rfl | exact SeesL.rfl' _ | exact SeesO.rfl' _ | exact hok.1 | exact hok.2.1 | exact hok.2.2.1 | exact hok.2.2.2 | exact okks_append ((cellOk).okk _ _ _) (okks_undef _ _ _) | exact Sees.int (succI hlt hl))
  · have hj : j = l.length := by simp at hb; omega
    subst hj
    have hfin := hkept.fin
    have hflen := (cellOk).flen a
    have hcl : 0 + (i : Int).toNat * 5 + (l.length - (i : Int).toNat) * 5 ≤ (flatE (a.map Cell.av) ++ List.replicate (d * 5) AV.undef).length := by
      rw [List.length_append, hflen, Int.toNat_natCast, Nat.zero_add, ← Nat.add_mul, show i + (l.length - i) = l.length by omega, halen]
      exact Nat.le_add_right _ _
    have hfl : (l.filter fun x => !p x).length = i := by rw [← hfin, List.length_take]; omega
    repeat ((conv => whnf); first | refine sJ ?_ | refine And.intro (by first | exact (show InC (i : Int) l.length from ⟨by omega, by omega⟩) | exact ⟨rfl, rfl, Nat.le_of_ble_eq_true rfl, hcl⟩ | kernel_rfl) ?_ )
    try (conv => whnf)
    rw [(cellOk).clr' (l := a) (k := i) _ _ _ _ (by kernel_rfl) (by rw [Int.toNat_natCast, halen]) (by omega) rfl]
    repeat ((conv => whnf); first | refine sJ ?_ | refine And.intro (by first | exact ⟨(by omega : (0 : Int) ≤ (i : Int)), (cellOk).headLe (k := i) _ _ rfl (by omega), Nat.le_of_ble_eq_true rfl⟩ | kernel_rfl) ?_ )
    try (conv => whnf)
    have hKK := hK
    rw [hfl] at hKK
    rw [← hfin] at hKK
    exact hKK _
end
end HM
set_option maxRecDepth 100000
namespace HM
open Go Go.RowKit Go.Proofs
section
variable (L : World → Prop)
theorem c_drop1 (c : Cell) (n : Int) : PCall Tryz.prog L 47 [c.av, .cptr (.agg [.int .i64 n]) 0] (.bool (c.flow == n)) := by
  refine PCall.intro mixed [] (nt := 8) Tryz.func47 rfl rfl (by simp) ?_
  refine Wk ?_
  exact resP.mk rfl (Sees.bool rfl)
def dropS (s : Sched) : List Cell → St
  | [] => ⟨[.cells [.int .i64 s.len, .int .i64 s.offs, encCells s.cells] 29, .cells [.int .i64 0, .int .i64 0, .nils] 29, .cells [.int .i64 s.len, .int .i64 s.offs, .nils] 29], [], 0, 0, fun _ => 0⟩
  | c :: cs => ⟨[.cells [.int .i64 s.len, .int .i64 s.offs, encCells s.cells] 29, .cells [.int .i64 0, .int .i64 0, .nils] 29, .cells [.int .i64 s.len, .int .i64 s.offs, .own ((c :: cs).map Cell.av) 0] 29], [((c :: cs).length, 5)], 0, 0, fun _ => 61⟩
def stayL (s : Sched) (id : Int) (k : Nat) : List Cell := (s.cells.take k).filter fun c => c.flow != id
theorem stayL_succ {s : Sched} {id : Int} {k : Nat} {c : Cell} (h : s.cells[k]? = some c) : stayL s id (k + 1) = stayL s id k ++ if (c.flow != id) = true then [c] else [] := by
  unfold stayL
  rw [take_succ h, List.filter_append]
  congr 1
  simp only [List.filter_cons, List.filter_nil]
theorem stayL_len (s : Sched) (id : Int) (k : Nat) : (stayL s id k).length ≤ s.cells.length := Nat.le_trans (List.length_filter_le _ _) (by rw [List.length_take]; omega)
set_option maxHeartbeats 8000000 in
theorem c_Drop41 (s : Sched) (id : Int) (hc : s.cells.length ≤ 281474976710656) : PCall Tryz.prog L 13 [s.av, .int .i64 id] (.tup [(dropM s id).1.av, .int .i64 (dropM s id).2]) := by
  refine PCall.intro mixed [] (nt := 43) Tryz.func13 rfl rfl (by simp) ?_
  refine Wk ?_
  first | refine CallK.data rfl (c_Formed L s) rfl ?_ | refine CallP.data rfl (c_Formed L s) rfl ?_
  cases hf : formB s with
  | false =>
    refine Wk ?_
    rw [show dropM s id = (⟨0, 0, []⟩, 1) from by rw [dropM, if_pos hf]]
    exact resP.mk rfl (Sees.tup ⟨Sees.agg ⟨Sees.of_eq rfl, Sees.of_eq rfl, Sees.elems rfl, trivial⟩, Sees.of_eq rfl, trivial⟩)
  | true =>
  have hcl := (form_all hf).2.1
  have hD : dropM s id = (⟨s.len, s.offs, stayL s id s.cells.length⟩, 0) := by rw [dropM, if_neg (by simp [hf]), stayL, List.take_length]
  rw [hD]
  refine Wk ?_
  refine LoopK.run mixed [] (fun k : Nat => k ≤ s.cells.length) (fun k => [(1, .int .i64 id), (2, .ptr 0 0), (4, .ptr 1 0), (6, .ptr 2 0), (7, .int .i64 k)]) (fun k => dropS s (stayL s id k)) (fun k => s.cells.length - k) 0 (by omega) ?_ ?_
  · refine Fits.mk' rfl rfl rfl rfl ?_ ?_ ?_ ?_ ?_ <;> repeat' (first | exact trivial | refine And.intro ?_ ?_ | exact Sees.of_eq rfl | exact lt_b rfl | rfl | exact SeesL.rfl' _)
  rintro k hk
  have hsl := stayL_len s id k
  by_cases hkt : k < s.cells.length
  · obtain ⟨c, hgc⟩ := getLt hkt
    have hmc := getMap (f := Cell.av) hgc
    have gk : decide ((k : Int) < ((s.cells.map Cell.av).length : Int)) = true := decide_eq_true (by rw [List.length_map]; omega)
    have hnx := stayL_succ (id := id) hgc
    cases hfl : (c.flow != id) with
    | false =>
      rw [hfl, if_neg (by simp), List.append_nil] at hnx
      cases hh : stayL s id k with
      | nil =>
        rw [hh] at hnx
        repeat ((conv => whnf); first | refine sJ ?_ | refine And.intro (by first | exact trivial | exact inbMap hkt | kernel_rfl) ?_ | rw [gk] | rw [hmc] | rw [hfl])
        try (conv => whnf)
        refine ⟨k + 1, by omega, by omega, ?_⟩
        rw [hnx]
        refine Fits.mk' rfl rfl rfl rfl ?_ ?_ ?_ ?_ ?_ <;> repeat' (first | exact trivial | refine And.intro ?_ ?_ | exact Sees.of_eq rfl | exact lt_b rfl | rfl | exact SeesL.rfl' _ | exact Sees.int (succI hkt (by omega)))
      | cons c0 cs0 =>
        rw [hh] at hnx
        repeat ((conv => whnf); first | refine sJ ?_ | refine And.intro (by first | exact trivial | exact inbMap hkt | kernel_rfl) ?_ | rw [gk] | rw [hmc] | rw [hfl])
        try (conv => whnf)
        refine ⟨k + 1, by omega, by omega, ?_⟩
        rw [hnx]
        refine Fits.mk' rfl rfl rfl rfl ?_ ?_ ?_ ?_ ?_ <;> repeat' (first | exact trivial | refine And.intro ?_ ?_ | exact Sees.of_eq rfl | exact lt_b rfl | rfl | exact SeesL.rfl' _ | exact Sees.int (succI hkt (by omega)))
    | true =>
      rw [hfl, if_pos rfl] at hnx
      cases hh : stayL s id k with
      | nil =>
        rw [hh] at hnx hsl
        repeat ((conv => whnf); first | refine sJ ?_ | refine And.intro (by first | exact trivial | exact inbMap hkt | kernel_rfl) ?_ | rw [gk] | rw [hmc] | rw [hfl])
        try (conv => whnf)
        refine ⟨k + 1, by omega, by omega, ?_⟩
        rw [hnx]
        refine Fits.mk' rfl rfl rfl rfl ?_ ?_ ?_ ?_ ?_ <;> repeat' (first | exact trivial | refine And.intro ?_ ?_ | exact Sees.of_eq rfl | exact lt_b rfl | rfl | exact SeesL.rfl' _ | exact Sees.int (succI hkt (by omega)))
      | cons c0 cs0 =>
        rw [hh] at hnx hsl
        repeat ((conv => whnf); first | refine sJ ?_ | refine And.intro (by first | exact trivial | exact inbMap hkt | exact Els.map (f := Cell.av) (fun x => ⟨cellOk.len x, cellOk.cell x⟩) | exact (show _ * 40 ≤ _ by simp only [List.length_map, List.length_cons, List.length_nil]; simp only [List.length_cons] at hsl; omega) | exact (by simp only [List.length_map, List.length_cons, List.length_nil, maxLen]; simp only [List.length_cons] at hsl; omega) | exact (show some (_, _) = some (_, _) by simp only [List.length_map]) | kernel_rfl) ?_ | rw [gk] | rw [hmc] | rw [hfl])
        try (conv => whnf)
        refine ⟨k + 1, by omega, by omega, ?_⟩
        rw [hnx]
        refine Fits.mk' rfl rfl rfl rfl ?_ ?_ ?_ ?_ ?_ <;> repeat' (first | exact trivial | refine And.intro ?_ ?_ | exact Sees.of_eq rfl | exact lt_b rfl | rfl | exact SeesL.rfl' _ | exact Sees.int (succI hkt (by omega)) | exact Sees.own (by show _ = List.map Cell.av ((c0 :: cs0) ++ [c]); rw [List.map_append]; rfl) | (show (_, _) = (((c0 :: cs0) ++ [c]).length, 5); simp only [List.length_append, List.length_map, List.length_cons, List.length_nil]))
  · have hkn : k = s.cells.length := by omega
    subst hkn
    have gk : decide ((s.cells.length : Int) < ((s.cells.map Cell.av).length : Int)) = false := decide_eq_false (by rw [List.length_map]; omega)
    cases hh : stayL s id s.cells.length with
    | nil =>
      repeat ((conv => whnf); first | refine sJ ?_ | refine And.intro (by first | exact trivial | kernel_rfl) ?_ | rw [gk])
      try (conv => whnf)
      exact resP.mk rfl (Sees.tup ⟨Sees.agg ⟨Sees.of_eq rfl, Sees.of_eq rfl, Sees.elems rfl, trivial⟩, Sees.of_eq rfl, trivial⟩)
    | cons c0 cs0 =>
      repeat ((conv => whnf); first | refine sJ ?_ | refine And.intro (by first | exact trivial | kernel_rfl) ?_ | rw [gk])
      try (conv => whnf)
      exact resP.mk rfl (Sees.of_eq rfl)
end
set_option maxHeartbeats 8000000 in
theorem c_Drop (s : Sched) (id : Int) (hc : s.cells.length ≤ 281474976710656) : PCall Tryz.prog LW 12 [s.av, .int .i64 id] (.tup [(dropM s id).1.av, .int .i64 (dropM s id).2]) := by
  refine PCall.intro mixed [] (nt := 23) Tryz.func12 rfl rfl (by simp) ?_
  refine Wk ?_
  first | refine CallK.data rfl (c_Print s) rfl ?_ | refine CallP.data rfl (c_Print s) rfl ?_
  cases hf : formB s with
  | false =>
    refine Wk ?_
    rw [show dropM s id = (⟨0, 0, []⟩, 1) from by rw [dropM, if_pos hf]]
    exact resP.mk rfl (Sees.tup ⟨Sees.agg ⟨Sees.of_eq rfl, Sees.of_eq rfl, Sees.elems rfl, trivial⟩, Sees.of_eq rfl, trivial⟩)
  | true =>
  have hcl := (form_all hf).2.1
  have hD : dropM s id = (⟨s.len, s.offs, s.cells.filter fun c => !(c.flow == id)⟩, 0) := by rw [dropM, if_neg (by simp [hf])]; rfl
  rw [hD]
  by_cases hne : s.cells = []
  · obtain ⟨len, offs, cells⟩ := s
    simp only at hne
    subst hne
    refine Wk ?_
    first | refine CallK.data rfl (c_Clone0Cell LW) rfl ?_ | refine CallP.data rfl (c_Clone0Cell LW) rfl ?_
    refine Wk ?_
    refine CallK.inl rfl (ICall.intro mixed [] (nt := 42) Tryz.func45 rfl rfl (by simp) ?_)
    refine Wk ?_
    refine CallK.box rfl (c_IndexFuncCell LW [] (fun c => c.flow == id) 47 [.cptr (.agg [.int .i64 id]) 0] (by simp) rfl rfl (fun c _ => c_drop1 LW c id)) (fz2 rfl (fzf1 rfl)) rfl ?_
    refine Wk ?_
    exact resP.mk rfl (Sees.of_eq rfl)
  · refine Wk ?_
    refine CallK.fresh rfl (c_CloneCell LW s.cells hne (by omega)) (by rfl) (cellOk.els _) (cellOk.scal (fun _ => rfl) _) (fun h => absurd (by simpa using h) hne) (fun d => ?_)
    refine Wk ?_
    rw [List.length_map]
    refine CallK.inl rfl (i_DelCell3 LW _ _ _ _ _ _ s.cells (fun c => c.flow == id) _ [.ptr 1 0] [.cptr (.agg [.int .i64 id]) 0] d (by omega) rfl rfl ⟨?_, ?_, ?_, ?_⟩ (fun _ _ _ _ => rfl) (fun c _ => c_drop1 LW c id) fun ex => ?_)
    · exact ⟨trivial, trivial, fzs_okk (es := [encCells s.cells]) rfl⟩
    · exact ⟨trivial, trivial⟩
    · exact ⟨trivial, trivial, trivial, trivial⟩
    · exact ⟨(by decide : 1 < 4), trivial⟩
    refine Wk ?_
    have e1 : ∀ X : St, X.bx[3]? = some (Ob.cells (flatE ((s.cells.filter fun c => !(c.flow == id)).map Cell.av) ++ ex) 61) → fzb X (.tup [.agg [.int .i64 s.len, .int .i64 s.offs, .vsl 3 0 (s.cells.filter fun c => !(c.flow == id)).length 5], .int .i64 0]) = some (.tup [.agg [.int .i64 s.len, .int .i64 s.offs, .sl false ((s.cells.filter fun c => !(c.flow == id)).map Cell.av)], .int .i64 0]) := fun X hX => fzAdd (cellOk.fzb hX rfl)
    exact resP.mk (e1 _ rfl) (Sees.of_eq rfl)
end HM
