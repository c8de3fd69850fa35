/- The cells of a flow on a link; the fault of a route. -/
import Derived.Test.YtgfboaadhlhjhaaGreatDoorS6
import Derived.Test.YtgfboaadhlhjhaaGreatDoorS30
import Derived.Test.YtgfboaadhlhjhaaGreatDoorDa
set_option maxRecDepth 100000
namespace HM
open Go Go.RowKit Go.Proofs
section
variable (L : World → Prop)
theorem c_Clone0Cell : PCall Tryz.prog L 46 [.sl false (([] : List Cell).map Cell.av)] (.sl false (([] : List Cell).map Cell.av)) := by
  refine PCall.intro mixed [] (nt := 8) Tryz.func46 rfl rfl (by simp) ?_
  refine Wk ?_
  intro b
  cases b
  · repeat ((conv => whnf); first | refine sJ ?_ | refine aI (by first | exact Els.map (f := Cell.av) (fun x => ⟨(cellOk).len x, (cellOk).cell x⟩) | kernel_rfl) ?_ )
    try (conv => whnf)
    exact resP.mk rfl (Sees.of_eq rfl)
  · refine Wk ?_
    exact resP.mk rfl (Sees.of_eq rfl)
theorem c_CloneCell (l : List Cell) (hne : l ≠ []) (hl : l.length ≤ 1099511627776) : FCall Tryz.prog L 46 [.sl false (l.map Cell.av)] (l.map Cell.av) 5 61 := by
  refine FCall.of_ICall (ICall.intro mixed [] (nt := 8) Tryz.func46 rfl rfl (by simp) ?_)
  refine Wk ?_
  refine BrK.mk (fun h => ?_) (fun h => ?_) <;> (try rw [h])
  · exact absurd (by simpa using h) hne
  · repeat ((conv => whnf); first | refine sJ ?_ | refine aI (by first | exact Els.map (f := Cell.av) (fun x => ⟨(cellOk).len x, (cellOk).cell x⟩) | exact (show _ * 40 ≤ _ by simp only [List.length_map, List.length_nil]; omega) | exact (by simp only [List.length_map, List.length_nil, maxLen]; omega) | kernel_rfl) ?_ )
    try (conv => whnf)
    exact ⟨_, rfl, rfl, rfl⟩
theorem i_DeleteCell (o1 o2 : Ob) (n0 m0 : Nat) (ty : Nat → TypeId) (l : List Cell) (p : Cell → Bool) (g : Nat) (caps fcaps : List AV) (d : Nat) {K : AV → St → Prop} (hl : l.length ≤ 281474976710656) (hcb : callable Tryz.prog g = true) (hc : fzs fcaps = some fcaps) (hok : o1.okk 3 0 ∧ o2.okk 3 0 ∧ okks 3 0 caps)
    (hfz : ∀ (x : List Ob) (n m : Nat) (ty' : Nat → TypeId), fzbs ⟨o1 :: o2 :: x, [], n, m, ty'⟩ caps = some fcaps) (hp : ∀ x ∈ l, PCall Tryz.prog L g (Cell.av x :: fcaps) (.bool (p x)))
    (hK : ∀ ex : List AV, K (.vsl 2 0 (l.filter fun x => !p x).length 5) ⟨[o1, o2, .cells (flatE ((l.filter fun x => !p x).map Cell.av) ++ ex) 61], [], n0, m0, ty⟩) :
    ICall Tryz.prog L 45 [.vsl 2 0 l.length 5, .fn g caps] ⟨[o1, o2, freshO (l.map Cell.av) 5 d 61], [], n0, m0, ty⟩ K := by
  have hall : ∀ x : Cell, (Cell.av x).cells.length = 5 := fun x => (cellOk).len x
  refine ICall.intro mixed [] (nt := 42) Tryz.func45 rfl rfl (by simp) ?_
  refine Wk ?_
  refine CallK.box rfl (c_IndexFuncCell L l p g fcaps hl hcb hc hp) (fz2 ((cellOk).fzb rfl rfl) (fzf1 (hfz _ _ _ _))) rfl ?_
  refine Wk ?_
  refine BrK.mk (fun h1 => ?_) (fun h1 => ?_) <;> (try rw [h1])
  · refine Wk ?_
    have hnone := idxF_none_iff (p := p) (l := l) (by simpa using h1)
    have hfil : (l.filter fun x => !p x) = l := List.filter_eq_self.2 fun x hx => by
      obtain ⟨j, hj⟩ := List.getElem?_of_mem hx
      simp [hnone j x hj]
    have := hK (List.replicate (d * 5) .undef)
    rw [hfil] at this
    exact this
  obtain ⟨k, x, e1, e2, e3⟩ := idxF_at (p := p) (l := l) (by simpa using h1)
  obtain ⟨_, _, _, e4⟩ := idxF_first e1
  have hklt := (List.getElem?_eq_some_iff.1 e2).1
  rw [e1]
  refine Wk ?_
  refine LoopK.run mixed [] (fun s : List Cell × Nat × Nat => Kept p l s.1 s.2.1 s.2.2) (fun s => [(0, .vsl 2 0 l.length 5), (1, .fn g caps), (5, .int .i64 s.2.1), (6, .int .i64 s.2.2)]) (fun s => ⟨[o1, o2, .cells (flatE (s.1.map Cell.av) ++ List.replicate (d * 5) .undef) 61], [], 3, 0, ty⟩) (fun s => l.length - s.2.2) (l, k, k + 1) (Kept.start e2 e3 e4) ?_ ?_
  · refine fM ?_ ?_ ?_ ?_ ?_ <;> repeat' (first | exact fQ | refine And.intro ?_ ?_ | exact SeesL.rfl' _ | exact SeesO.rfl' _ | exact hok.1 | exact hok.2.1 | exact hok.2.2 | exact okks_append ((cellOk).okk _ _ _) (okks_undef _ _ _) | exact Sees.int (succI hklt hl))
  rintro ⟨a, i, j⟩ hkept
  simp only at hkept
  have hij := hkept.ij
  have halen := hkept.len
  refine Wk ?_
  refine BrK.mk (fun hb => ?_) (fun hb => ?_) <;> try rw [hb]
  · have hlt : j < l.length := by simpa using hb
    obtain ⟨y, hgy⟩ := getLt hlt
    have hay := hkept.get hgy
    have hld := (cellOk).ld (List.replicate (d * 5) .undef) hay
    have hft := (cellOk).fit (l := a) (List.replicate (d * 5) .undef) (k := j) (by omega)
    have hpy := hp y (List.mem_of_getElem? hgy)
    repeat ((conv => whnf); first | refine sJ ?_ | refine aI (by first | exact ⟨by omega, by simp; omega⟩ | kernel_rfl) ?_ )
    try (conv => whnf)
    refine And.intro (show 0 + (j : Int).toNat * 5 + 5 ≤ _ by rw [Nat.zero_add, Int.toNat_natCast]; exact hft) ?_
    rw [(cellOk).ldr _ hay _ _ (by kernel_rfl) (by kernel_rfl)]
    refine Wk ?_
    refine CallK.box hcb hpy (fz2 rfl (hfz _ _ _ _)) rfl ?_
    have hfi := (cellOk).fit (l := a) (List.replicate (d * 5) .undef) (k := i) (by omega)
    refine Wk ?_
    refine BrK.mk (fun h2 => ?_) (fun h2 => ?_) <;> (try rw [h2])
    · repeat ((conv => whnf); first | refine sJ ?_ | refine aI (by first | exact ⟨by omega, by simp; omega⟩ | exact (show 0 + (i : Int).toNat * 5 + 5 ≤ _ by rw [Nat.zero_add, Int.toNat_natCast]; exact hfi) | kernel_rfl) ?_ )
      try (conv => whnf)
      have hst := (cellOk).st y (List.replicate (d * 5) .undef) (l := a) (k := i) (by omega)
      refine ⟨(a.set i y, i + 1, j + 1), hkept.keep hgy (by simpa using h2), by simp only; omega, ?_⟩
      refine fM ?_ ?_ ?_ ?_ ?_ <;> repeat' (first | exact fQ | refine And.intro ?_ ?_ | exact SeesO.rfl' _ | exact hok.1 | exact hok.2.1 | exact hok.2.2 | exact okks_append ((cellOk).okk _ _ _) (okks_undef _ _ _) | exact Sees.int (succI hlt hl) | exact Sees.int (succI (by omega : i < l.length) hl) | exact SeesL.of_eq (by rw [Nat.zero_add, Int.toNat_natCast]; exact hst))
    · refine Wk ?_
      refine ⟨(a, i, j + 1), hkept.skip hgy (by simpa using h2), by simp only; omega, ?_⟩
      refine fM ?_ ?_ ?_ ?_ ?_ <;> repeat' (first | exact fQ | refine And.intro ?_ ?_ | exact SeesL.rfl' _ | exact SeesO.rfl' _ | exact hok.1 | exact hok.2.1 | exact hok.2.2 | exact okks_append ((cellOk).okk _ _ _) (okks_undef _ _ _) | exact Sees.int (succI hlt hl))
  · have hj : j = l.length := by simp at hb; omega
    subst hj
    have hfin := hkept.fin
    have hflen := (cellOk).flen a
    have hcl : 0 + (i : Int).toNat * 5 + (l.length - (i : Int).toNat) * 5 ≤ (flatE (a.map Cell.av) ++ List.replicate (d * 5) AV.undef).length := by
      rw [List.length_append, hflen, Int.toNat_natCast, Nat.zero_add, ← Nat.add_mul, show i + (l.length - i) = l.length by omega, halen]
      exact Nat.le_add_right _ _
    have hfl : (l.filter fun x => !p x).length = i := by rw [← hfin, List.length_take]; omega
    repeat ((conv => whnf); first | refine sJ ?_ | refine aI (by first | exact (show InC (i : Int) l.length from ⟨by omega, by omega⟩) | exact ⟨rfl, rfl, Nat.le_of_ble_eq_true rfl, hcl⟩ | kernel_rfl) ?_ )
    try (conv => whnf)
    rw [(cellOk).clr' (l := a) (k := i) _ _ _ _ (by kernel_rfl) (by rw [Int.toNat_natCast, halen]) (by omega) rfl]
    repeat ((conv => whnf); first | refine sJ ?_ | refine aI (by first | exact ⟨(by omega : (0 : Int) ≤ (i : Int)), (cellOk).headLe (k := i) _ _ rfl (by omega), Nat.le_of_ble_eq_true rfl⟩ | kernel_rfl) ?_ )
    try (conv => whnf)
    have hKK := hK
    rw [hfl] at hKK
    rw [← hfin] at hKK
    exact hKK _
theorem c_wcells1 (w : Way) (l : Link) (c : Cell) : PCall Tryz.prog L 201 [c.av, .cptr w.av 0, .cptr l.av 0] (.bool (offL w.f.id l.src l.dst c)) := by
  refine PCall.intro mixed [] (nt := 25) Tryz.func201 rfl rfl (by simp) ?_
  refine Wk ?_
  refine BrK.mk (fun h1 => ?_) (fun h1 => ?_) <;> (try rw [h1])
  · refine Wk ?_
    exact resP.mk rfl (Sees.bool (by unfold offL; rw [h1]; rfl))
  · refine Wk ?_
    refine BrK.mk (fun h2 => ?_) (fun h2 => ?_) <;> (try rw [h2])
    · refine Wk ?_
      exact resP.mk rfl (Sees.bool (by unfold offL; rw [h1, h2]; rfl))
    · refine Wk ?_
      exact resP.mk rfl (Sees.bool (by unfold offL; rw [h1, h2]; rfl))
theorem c_wcells (w : Way) (l : Link) (hl : w.s.cells.length ≤ 1099511627776) : PCall Tryz.prog L 187 [w.av, l.av] (encCells (cellsL w.s w.f l.src l.dst)) := by
  by_cases hne : w.s.cells = []
  · obtain ⟨n, ⟨len, offs, cells⟩, f, r, more⟩ := w
    simp only at hne
    subst hne
    refine PCall.intro mixed [] (nt := 11) Tryz.func187 rfl rfl (by simp) ?_
    refine Wk ?_
    first | refine CallK.data rfl (c_Clone0Cell L) rfl ?_ | refine CallP.data rfl (c_Clone0Cell L) rfl ?_
    refine Wk ?_
    refine CallK.inl rfl (ICall.intro mixed [] (nt := 42) Tryz.func45 rfl rfl (by simp) ?_)
    refine Wk ?_
    refine CallK.box rfl (c_IndexFuncCell L [] (offL f.id l.src l.dst) 201 [.cptr (Way.av ⟨n, ⟨len, offs, []⟩, f, r, more⟩) 0, .cptr l.av 0] (by simp) rfl rfl (fun c _ => c_wcells1 L _ l c)) (fz2 rfl (fzf1 rfl)) rfl ?_
    refine Wk ?_
    exact resP.mk rfl (Sees.of_eq rfl)
  · refine PCall.intro mixed [] (nt := 11) Tryz.func187 rfl rfl (by simp) ?_
    refine Wk ?_
    refine CallK.fresh rfl (c_CloneCell L w.s.cells hne hl) (by rfl) (cellOk.els _) (cellOk.scal (fun _ => rfl) _) (fun h => absurd (by simpa using h) hne) (fun d => ?_)
    refine Wk ?_
    rw [List.length_map]
    refine CallK.inl rfl (i_DeleteCell L _ _ 0 0 _ w.s.cells (offL w.f.id l.src l.dst) _ [.ptr 0 0, .ptr 1 0] [.cptr w.av 0, .cptr l.av 0] d (by omega) rfl rfl ⟨?_, ?_, ?_⟩ (fun _ _ _ _ => rfl) (fun c _ => c_wcells1 L w l c) fun ex => ?_)
    · exact fzs_okk (es := w.av.cells) rfl
    · exact fzs_okk (es := l.av.cells) rfl
    · exact ⟨(by decide : 0 < 3), (by decide : 1 < 3), trivial⟩
    · refine Wk ?_
      exact ⟨_, cellOk.fzb rfl rfl, Sees.rfl' _⟩
theorem flowsE_one {nodes : Int} (h : 2 ≤ nodes ∧ nodes ≤ 32) (f : Flow) : (flowsE nodes [f]).2 = 0 ↔ flowE nodes f = 0 := by
  rw [flowsE, if_neg (by omega), if_neg (by simp), firstAt_ok]
  constructor
  · intro hh
    have := hh 0 (by simp)
    unfold flowAt at this
    simp only [List.getElem?_cons_zero] at this
    by_cases e : flowE nodes f = 0
    · exact e
    · rw [if_pos e] at this; exact absurd this e
  · intro hh j hj
    have : j = 0 := by simpa using hj
    subst this
    unfold flowAt
    simp [hh, flowO]
theorem tmod_eq {a b : Int} (h : 0 ≤ a) : a.tmod b = a % b := Int.tmod_eq_emod_of_nonneg h
end
theorem c_wcheck (w : Way) (hn : w.n.small) (_hc : w.s.cells.length ≤ 281474976710656) (hr : w.r.length ≤ 281474976710656) : PCall Tryz.prog LW 75 [w.av] (.int .i64 (wayE w.n w.s w.f w.r)) := by
  refine PCall.intro mixed [] (nt := 50) Tryz.func75 rfl rfl (by simp) ?_
  refine Wk ?_
  first | refine CallK.data rfl (c_netCheck LW w.n hn) rfl ?_ | refine CallP.data rfl (c_netCheck LW w.n hn) rfl ?_
  refine Wk ?_
  refine BrK.mk (fun h1 => ?_) (fun h1 => ?_) <;> (try rw [h1])
  · refine Wk ?_
    exact resP.mk rfl (Sees.int (by rw [wayE, if_pos (.inl (by simpa using h1))]))
  have h0 : netE w.n = 0 := by simpa using h1
  have hok := netE_ok h0
  refine Wk ?_
  first | refine CallK.data rfl (c_Print w.s) rfl ?_ | refine CallP.data rfl (c_Print w.s) rfl ?_
  refine Wk ?_
  refine BrK.mk (fun h2 => ?_) (fun h2 => ?_) <;> (try rw [h2])
  · refine Wk ?_
    exact resP.mk rfl (Sees.int (by rw [wayE, if_pos (.inr (.inl (by cases hf : formB w.s with | false => rfl | true => simp [hf] at h2)))]))
  have hf : formB w.s = true := by cases hf : formB w.s with | true => rfl | false => simp [hf] at h2
  have hsb := sized_bd (form_all hf).1
  refine Wk ?_
  first | refine CallK.data rfl (c_FCheck LW w.n.nodes [w.f] (by simp)) rfl ?_ | refine CallP.data rfl (c_FCheck LW w.n.nodes [w.f] (by simp)) rfl ?_
  refine Wk ?_
  refine BrK.mk (fun h3 => ?_) (fun h3 => ?_) <;> (try rw [h3])
  · refine Wk ?_
    have h3' : flowE w.n.nodes w.f ≠ 0 := fun h => by rw [(flowsE_one hok.nodes w.f).2 h] at h3; cases h3
    exact resP.mk rfl (Sees.int (by rw [wayE, if_pos (.inr (.inr h3'))]))
  have h3' : flowE w.n.nodes w.f = 0 := (flowsE_one hok.nodes w.f).1 (by simpa using h3)
  have hfb := flowE_ok h3'
  have e1 : ¬ (netE w.n ≠ 0 ∨ formB w.s = false ∨ flowE w.n.nodes w.f ≠ 0) := by simp [h0, hf, h3']
  repeat ((conv => whnf); first | refine sJ ?_ | refine aI (by first | exact (show w.f.period ≠ 0 by omega) | kernel_rfl) ?_ )
  try (conv => whnf)
  rw [tmod_eq (by omega)]
  refine BrK.mk (fun h4 => ?_) (fun h4 => ?_) <;> (try rw [h4])
  · refine Wk ?_
    exact resP.mk rfl (Sees.int (by rw [wayE, if_neg e1, if_pos (by simpa using h4)]))
  refine Wk ?_
  first | refine CallK.data rfl (c_RCheck LW w.n hn w.f.src w.f.dst w.r hr) rfl ?_ | refine CallP.data rfl (c_RCheck LW w.n hn w.f.src w.f.dst w.r hr) rfl ?_
  refine Wk ?_
  exact resP.mk rfl (Sees.int (by rw [wayE, if_neg e1, if_neg (by simpa using h4)]))
theorem c_wlinks (w : Way) : PCall Tryz.prog LW 186 [w.av] (.fn 200 [.cptr w.av 0]) := by
  refine PCall.intro mixed [] (nt := 4) Tryz.func186 rfl rfl (by simp) ?_
  refine Wk ?_
  exact resP.mk rfl (Sees.of_eq rfl)
theorem c_wcounts (w : Way) (rel : Int) : PCall Tryz.prog LW 159 [w.av, .int .i64 rel] (.fn 185 [.cptr (.agg [.int .i64 rel]) 0, .cptr w.av 0]) := by
  refine PCall.intro mixed [] (nt := 6) Tryz.func159 rfl rfl (by simp) ?_
  refine Wk ?_
  exact resP.mk rfl (Sees.of_eq rfl)
end HM
set_option maxRecDepth 100000
namespace HM
open Go Go.RowKit Go.Proofs
section
variable (L : World → Prop)
theorem c_BinCell (l : List Cell) (t : Cell) (g : Nat) (c : Cell → Int) (hl : l.length ≤ 281474976710656) (hcb : callable Tryz.prog g = true) (hm : Mono c l) (hp : ∀ x ∈ l, PCall Tryz.prog L g [Cell.av x, Cell.av t] (.int .i64 (c x))) :
    PCall Tryz.prog L 68 [.sl false (l.map Cell.av), Cell.av t, .fn g []] (.tup [.int .i64 (posB c l), .bool (hasB c l)]) := by
  refine PCall.intro mixed [] (nt := 49) Tryz.func68 rfl rfl (by simp) ?_
  refine Wk ?_
  refine LoopK.run mixed [] (fun s : Nat × Nat => s.1 ≤ s.2 ∧ s.2 ≤ l.length ∧ (∀ i x, i < s.1 → l[i]? = some x → c x < 0) ∧ (∀ x, l[s.2]? = some x → ¬ c x < 0)) (fun s => [(0, .sl false (l.map Cell.av)), (2, .fn g []), (4, .ptr 0 0), (8, .int .i64 l.length), (9, .int .i64 s.1), (10, .int .i64 s.2)]) (fun _ => ⟨[.cells (Cell.av t).cells 61], [], 0, 0, fun _ => 0⟩) (fun s => s.2 - s.1) (0, l.length) ⟨by simp, by simp, by simp, by simp⟩ ?_ ?_
  · refine fM ?_ ?_ ?_ ?_ ?_ <;> repeat' (first | exact fQ | refine And.intro ?_ ?_ | exact Sees.int (by simp))
  rintro ⟨i, j⟩ ⟨h1, h2, h3, h4⟩
  simp only at h1 h2 h3 h4
  refine Wk ?_
  refine BrK.mk (fun hb => ?_) (fun hb => ?_) <;> try rw [hb]
  · have hlt : i < j := by simpa using hb
    have hw1 : IntKind.i64.wrap ((i : Int) + (j : Int)) = ((i + j : Nat) : Int) := by rw [w64] <;> omega
    have hw2 : IntKind.i64.wrap ((IntKind.u64.wrap ((i + j : Nat) : Int)).fdiv (2 ^ (min (1 : Int).toNat IntKind.u64.bits))) = (((i + j) / 2 : Nat) : Int) := half_ok (by omega)
    obtain ⟨m, hmid⟩ : ∃ m, m = (i + j) / 2 := ⟨_, rfl⟩
    have hml : m < l.length := by omega
    obtain ⟨x, hgx⟩ := getLt hml
    have hmx := getMap (f := Cell.av) hgx
    have hpx := hp x (List.mem_of_getElem? hgx)
    rw [← hmid] at hw2
    repeat ((conv => whnf); first | refine sJ ?_ | refine aI (by first | exact (show (0 : Int) ≤ 1 by decide) | exact inbMap hml | kernel_rfl) ?_ | rw [hw1] | rw [hw2] | rw [hmx])
    try (conv => whnf)
    refine CallP.data hcb hpx (by rfl) ?_
    refine Wk ?_
    refine BrK.mk (fun h5 => ?_) (fun h5 => ?_) <;> (try rw [h5])
    · refine Wk ?_
      refine ⟨(m + 1, j), ⟨by simp only; omega, by simp only; omega, fun k y hk hy => ?_, h4⟩, by simp only; omega, ?_⟩
      · rcases Nat.lt_succ_iff_lt_or_eq.1 hk with hk | rfl
        · exact hm k m y x hk hy hgx (by simpa using h5)
        · rw [hgx] at hy; injection hy with hy; subst hy; simpa using h5
      · refine fM ?_ ?_ ?_ ?_ ?_ <;> repeat' (first | exact fQ | refine And.intro ?_ ?_ | exact Sees.int (by rw [w64] <;> omega))
    · refine Wk ?_
      refine ⟨(i, m), ⟨by simp only; omega, by simp only; omega, h3, fun y hy => ?_⟩, by simp only; omega, ?_⟩
      · rw [hgx] at hy; injection hy with hy; subst hy; simpa using h5
      · refine fM ?_ ?_ ?_ ?_ ?_ <;> repeat' (first | exact fQ | refine And.intro ?_ ?_ )
  · have hij : i = j := by simp at hb; omega
    subst hij
    have hpos : posB c l = i := posB_uniq h2 h3 h4
    refine Wk ?_
    refine BrK.mk (fun h6 => ?_) (fun h6 => ?_) <;> (try rw [h6])
    · have hlt : i < l.length := by simpa using h6
      obtain ⟨x, hgx⟩ := getLt hlt
      have hmx := getMap (f := Cell.av) hgx
      have hpx := hp x (List.mem_of_getElem? hgx)
      repeat ((conv => whnf); first | refine sJ ?_ | refine aI (by first | exact inbMap hlt | kernel_rfl) ?_ | rw [hmx])
      try (conv => whnf)
      refine CallP.data hcb hpx (by rfl) ?_
      refine Wk ?_
      exact resP.mk rfl (Sees.of_eq (by simp only [hasB, hpos, hgx]))
    · refine Wk ?_
      have : l.length ≤ i := by simpa using h6
      exact resP.mk rfl (Sees.of_eq (by simp only [hasB, hpos, List.getElem?_eq_none this]))
theorem ins_cells (l : List Cell) (p : Nat) (c : Cell) : flatE ((insAt l p c).map Cell.av) = flatE ((l.take p).map Cell.av) ++ c.av.cells ++ flatE ((l.drop p).map Cell.av) := by
  simp only [insAt, List.map_append, List.map_cons, flatE, List.flatMap_append, List.flatMap_cons, List.append_assoc]
theorem cut_cells (l : List Cell) (p : Nat) : flatE (l.map Cell.av) = flatE ((l.take p).map Cell.av) ++ flatE ((l.drop p).map Cell.av) := by
  conv => lhs; rw [← List.take_append_drop p l]
  simp only [List.map_append, flatE, List.flatMap_append]
theorem splice_len {cs vs : List AV} {off : Nat} (h : off + vs.length ≤ cs.length) : (splice cs off vs).length = cs.length := by
  rw [splice_eq _ _ _ h]; simp; omega
theorem fzAdd {S : St} {a b : Int} {v : AV} {l : List AV} (h : fzb S v = some (.sl false l)) : fzb S (.tup [.agg [.int .i64 a, .int .i64 b, v], .int .i64 0]) = some (.tup [.agg [.int .i64 a, .int .i64 b, .sl false l], .int .i64 0]) := by
  simp [fzb, fzbs, h]
end
end HM
