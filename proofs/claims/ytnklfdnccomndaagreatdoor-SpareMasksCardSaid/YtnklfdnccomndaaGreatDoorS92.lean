/- A cell less: slices.Delete; the schedule behind a change. -/
import Derived.Test.YtnklfdnccomndaaGreatDoorS33
import Derived.Test.YtnklfdnccomndaaGreatDoorDb
import Derived.Test.YtnklfdnccomndaaGreatDoorFh
/- A cell less: slices.Delete; the schedule behind a change. -/
set_option maxRecDepth 100000
namespace HM
open Go Go.RowKit Go.Proofs
section
variable (L : World → Prop)

theorem del_cells (l : List Cell) (p : Nat) (U : List AV) (hp : p < l.length) : splice (flatE (l.map Cell.av) ++ U) (p * 5) (((flatE (l.map Cell.av) ++ U).drop ((p + 1) * 5)).take ((l.length - (p + 1)) * 5)) = flatE ((delAt l p ++ l.drop (l.length - 1)).map Cell.av) ++ U := by
  have hA : ∀ k, k ≤ l.length → (flatE ((l.take k).map Cell.av)).length = k * 5 := fun k hk => by rw [cellOk.flen, List.length_take, Nat.min_eq_left hk]
  have hdrop : ∀ k, k ≤ l.length → (flatE (l.map Cell.av) ++ U).drop (k * 5) = flatE ((l.drop k).map Cell.av) ++ U := fun k hk => by
    rw [cut_cells l k, List.append_assoc, ← hA k hk, List.drop_left]
  have hB : (flatE ((l.drop (p + 1)).map Cell.av)).length = (l.length - (p + 1)) * 5 := by rw [cellOk.flen, List.length_drop]
  have hF : (flatE (l.map Cell.av)).length = l.length * 5 := cellOk.flen l
  rw [hdrop (p + 1) (by omega), ← hB, List.take_left]
  rw [splice_eq _ _ _ (by rw [List.length_append, hF, hB]; omega), hB, show p * 5 + (l.length - (p + 1)) * 5 = (l.length - 1) * 5 by omega, hdrop (l.length - 1) (by omega)]
  have htake : (flatE (l.map Cell.av) ++ U).take (p * 5) = flatE ((l.take p).map Cell.av) := by
    rw [cut_cells l p, List.append_assoc, ← hA p (by omega), List.take_left]
  rw [htake]
  simp only [delAt, List.map_append, flatE_app, List.append_assoc]

theorem i_DelCell (o0 o1 o2 : Ob) (n0 m0 : Nat) (ty : Nat → TypeId) (l : List Cell) (p d : Nat) {K : AV → St → Prop} (hp : p < l.length) (hl : l.length ≤ 512) (n : Nat) (hn : n = l.length)
    (hK : ∀ ex : List AV, K (.vsl 3 0 (l.length - 1) 5) ⟨[o0, o1, o2, .cells (flatE ((delAt l p).map Cell.av) ++ ex) 36], [], n0, m0, ty⟩) :
    ICall Tryz.prog L 76 [.vsl 3 0 n 5, .int .i64 p, .int .i64 ((p + 1 : Nat) : Int)] ⟨[o0, o1, o2, freshO (l.map Cell.av) 5 d 36], [], n0, m0, ty⟩ K := by
  subst hn
  refine ICall.intro mixed [] (nt := 33) Tryz.func76 rfl rfl (by simp) ?_
  have hF : (flatE (l.map Cell.av)).length = l.length * 5 := cellOk.flen l
  have hd : (flatE (l.map Cell.av) ++ List.replicate (d * 5) AV.undef).length = l.length * 5 + d * 5 := by rw [List.length_append, hF, List.length_replicate]
  have hB : (flatE ((l.drop (p + 1)).map Cell.av)).length = (l.length - (p + 1)) * 5 := by rw [cellOk.flen, List.length_drop]
  repeat ((conv => whnf); first | refine sJ ?_ | refine And.intro (by first | exact (show (0 : Int) ≤ (p : Int) ∧ (p : Int) ≤ ((p + 1 : Nat) : Int) ∧ ((p + 1 : Nat) : Int) ≤ (l.length : Int) ∧ (l.length : Int) ≤ ((l.length : Nat) : Int) from ⟨by omega, by omega, by omega, by omega⟩) | kernel_rfl) ?_ )
  try (conv => whnf)
  refine BrK.mk (fun h1 => ?_) (fun h1 => ?_) <;> (try rw [h1])
  · exfalso
    simp at h1
    omega
  repeat ((conv => whnf); first | refine sJ ?_ | refine And.intro (by first | exact ⟨by omega, (show 0 + p * 5 ≤ (flatE (l.map Cell.av) ++ List.replicate (d * 5) AV.undef).length by rw [hd]; omega), by decide⟩ | exact (show InC ((p + 1 : Nat) : Int) l.length from ⟨by omega, by omega⟩) | kernel_rfl) ?_ )
  try (conv => whnf)
  have hT : (l.length - ((p + 1 : Nat) : Int).toNat) = l.length - (p + 1) := rfl
  have hdrop : (flatE (l.map Cell.av) ++ List.replicate (d * 5) AV.undef).drop (0 + ((p + 1 : Nat) : Int).toNat * 5) = flatE ((l.drop (p + 1)).map Cell.av) ++ List.replicate (d * 5) AV.undef := by
    rw [Int.toNat_natCast, Nat.zero_add, cut_cells l (p + 1), List.append_assoc, ← (show (flatE ((l.take (p + 1)).map Cell.av)).length = (p + 1) * 5 by rw [cellOk.flen, List.length_take, Nat.min_eq_left (by omega)]), List.drop_left]
  have htake : ((flatE (l.map Cell.av) ++ List.replicate (d * 5) AV.undef).drop (0 + ((p + 1 : Nat) : Int).toNat * 5)).take ((l.length - ((p + 1 : Nat) : Int).toNat) * 5) = flatE ((l.drop (p + 1)).map Cell.av) := by
    rw [hdrop, hT, ← hB, List.take_left]
  refine And.intro ⟨rfl, rfl, by decide, ?_, ?_, ?_⟩ ?_
  · rw [htake, hT, hB]
  · rw [htake]; exact flatE_cell (cellOk.els _)
  · rw [hd, hT, Int.toNat_natCast]; omega
  have hU := del_cells l p (List.replicate (d * 5) AV.undef) hp
  have hlast : (l.drop (l.length - 1)).length = 1 := by rw [List.length_drop]; omega
  have hal : (delAt l p ++ l.drop (l.length - 1)).length = l.length := by rw [List.length_append, delAt_len hp, hlast]; omega
  have hpl : (p : Int).toNat + (l.length - ((p + 1 : Nat) : Int).toNat) = l.length - 1 := by rw [hT, Int.toNat_natCast]; omega
  rw [hpl]
  rw [show (0 + ((p + 1 : Nat) : Int).toNat * 5) = (p + 1) * 5 from by rw [Nat.zero_add]; rfl, show (l.length - ((p + 1 : Nat) : Int).toNat) = l.length - (p + 1) from rfl, show (p : Int).toNat * 5 = p * 5 from rfl, hU]
  have hd2 : (flatE ((delAt l p ++ l.drop (l.length - 1)).map Cell.av) ++ List.replicate (d * 5) AV.undef).length = l.length * 5 + d * 5 := by rw [List.length_append, cellOk.flen, hal, List.length_replicate]
  have hl1 : (l.length : Int).toNat - ((l.length - 1 : Nat) : Int).toNat = l.length - (l.length - 1) := rfl
  repeat ((conv => whnf); first | refine sJ ?_ | refine And.intro (by first | exact ⟨by omega, (show 0 + l.length * 5 ≤ (flatE ((delAt l p ++ l.drop (l.length - 1)).map Cell.av) ++ List.replicate (d * 5) AV.undef).length by rw [hd2]; omega), by decide⟩ | exact (show InC ((l.length - 1 : Nat) : Int) l.length from ⟨by omega, by omega⟩) | exact ⟨rfl, rfl, by decide, (show 0 + ((l.length - 1 : Nat) : Int).toNat * 5 + ((l.length : Int).toNat - ((l.length - 1 : Nat) : Int).toNat) * 5 ≤ (flatE ((delAt l p ++ l.drop (l.length - 1)).map Cell.av) ++ List.replicate (d * 5) AV.undef).length by rw [hd2, hl1, Int.toNat_natCast]; omega)⟩ | kernel_rfl) ?_ )
  try (conv => whnf)
  rw [cellOk.clr' (l := delAt l p ++ l.drop (l.length - 1)) (k := l.length - 1) _ _ 5 ((l.length : Int).toNat - ((l.length - 1 : Nat) : Int).toNat) rfl (by rw [hal]; rfl) (by omega) rfl]
  rw [show (delAt l p ++ l.drop (l.length - 1)).take (l.length - 1) = delAt l p from by rw [← delAt_len hp, List.take_left]]
  exact hK _

set_option maxHeartbeats 4000000 in
theorem c_Remove (s : Sched) (c : Cell) : PCall Tryz.prog L 55 [s.av, c.av] (.tup [(remM s c).1.av, .int .i64 (remM s c).2]) := by
  refine PCall.intro mixed [] (nt := 31) Tryz.func55 rfl rfl (by simp) ?_
  refine Wk ?_
  first | refine CallK.data rfl (c_form L s) rfl ?_ | refine CallP.data rfl (c_form L s) rfl ?_
  refine Wk ?_
  refine BrK.mk (fun h1 => ?_) (fun h1 => ?_) <;> (try rw [h1])
  · have h1' : formB s = false := by simpa using h1
    refine Wk ?_
    exact resP.mk rfl (Sees.of_eq (by rw [remM, if_pos h1']; rfl))
  have h1' : formB s = true := by simpa using h1
  obtain ⟨f1, f2, f3⟩ := form_all h1'
  refine Wk ?_
  first | refine CallK.data rfl (c_BinCell L s.cells c 67 (cellTo c) (by omega) rfl (formB_mono h1' c) (fun x _ => c_compare L x c)) rfl ?_ | refine CallP.data rfl (c_BinCell L s.cells c 67 (cellTo c) (by omega) rfl (formB_mono h1' c) (fun x _ => c_compare L x c)) rfl ?_
  rw [show posB (cellTo c) s.cells = posC s c from rfl, show hasB (cellTo c) s.cells = hasC s c from rfl]
  refine Wk ?_
  refine BrK.mk (fun h2 => ?_) (fun h2 => ?_) <;> (try rw [h2])
  · have h2' : hasC s c = false := by simpa using h2
    refine Wk ?_
    exact resP.mk rfl (Sees.of_eq (by rw [remM, if_neg (by simp [h1']), if_pos h2']; rfl))
  have h2' : hasC s c = true := by simpa using h2
  have hget := hasC_at h2'
  have hp := (List.getElem?_eq_some_iff.1 hget).1
  have hne : s.cells ≠ [] := by intro h; rw [h] at hp; simp at hp
  have hres : remM s c = (⟨s.len, s.offs, delAt s.cells (posC s c)⟩, 0) := by rw [remM, if_neg (by simp [h1']), if_neg (by simp [h2'])]
  rw [hres]
  clear hres
  refine Wk ?_
  refine CallK.fresh rfl (c_CloneCell L s.cells hne (by omega)) (by rfl) (cellOk.els _) (cellOk.scal (fun _ => rfl) _) (fun h => absurd (by simpa using h) hne) (fun d => ?_)
  have hw : IntKind.i64.wrap ((posC s c : Int) + 1) = ((posC s c + 1 : Nat) : Int) := by rw [w64] <;> omega
  refine Wk ?_
  rw [hw]
  refine CallK.inl rfl ?_
  refine i_DelCell L _ _ _ _ _ _ s.cells (posC s c) d hp f2 _ (by simp) (fun ex => ?_)
  refine Wk ?_
  exact resP.mk (fzAdd (cellOk.fzb rfl (delAt_len hp))) (Sees.rfl' _)

theorem c_changed (s : Sched) (c : Chg) : PCall Tryz.prog L 34 [s.av, c.av] (.tup [(chgM s c).1.av, .int .i64 (chgM s c).2]) := by
  refine PCall.intro mixed [] (nt := 20) Tryz.func34 rfl rfl (by simp) ?_
  refine Wk ?_
  refine BrK.mk (fun h => ?_) (fun h => ?_) <;> (try rw [h])
  · refine Wk ?_
    first | refine CallK.data rfl (c_Add L s c.cell) rfl ?_ | refine CallP.data rfl (c_Add L s c.cell) rfl ?_
    refine Wk ?_
    exact resP.mk rfl (Sees.of_eq (by rw [chgM, if_pos h]; rfl))
  · refine Wk ?_
    first | refine CallK.data rfl (c_Remove L s c.cell) rfl ?_ | refine CallP.data rfl (c_Remove L s c.cell) rfl ?_
    refine Wk ?_
    exact resP.mk rfl (Sees.of_eq (by rw [chgM, if_neg (by simp [h])]; rfl))
end
end HM

/- Changes: how many there are up to a slot. -/
set_option maxRecDepth 100000
namespace HM
open Go Go.RowKit Go.Proofs
section
variable (L : World → Prop)

theorem chgOk : EncOk Chg.av 7 := ⟨fun _ => rfl, fun _ => rfl, fun _ => rfl, fun _ => rfl, by decide⟩

theorem c_Clone0Chg : PCall Tryz.prog L 37 [.sl false (([] : List Chg).map Chg.av)] (.sl false (([] : List Chg).map Chg.av)) := by
  refine PCall.intro mixed [] (nt := 8) Tryz.func37 rfl rfl (by simp) ?_
  refine Wk ?_
  intro b
  cases b
  · repeat ((conv => whnf); first | refine sJ ?_ | refine And.intro (by first | exact Els.map (f := Chg.av) (fun x => ⟨(chgOk).len x, (chgOk).cell x⟩) | kernel_rfl) ?_ )
    try (conv => whnf)
    exact resP.mk rfl (Sees.of_eq rfl)
  · refine Wk ?_
    exact resP.mk rfl (Sees.of_eq rfl)

theorem c_CloneChg (l : List Chg) (hne : l ≠ []) (hl : l.length ≤ 1099511627776) : FCall Tryz.prog L 37 [.sl false (l.map Chg.av)] (l.map Chg.av) 7 52 := by
  refine FCall.of_ICall (ICall.intro mixed [] (nt := 8) Tryz.func37 rfl rfl (by simp) ?_)
  refine Wk ?_
  refine BrK.mk (fun h => ?_) (fun h => ?_) <;> (try rw [h])
  · exact absurd (by simpa using h) hne
  · repeat ((conv => whnf); first | refine sJ ?_ | refine And.intro (by first | exact Els.map (f := Chg.av) (fun x => ⟨(chgOk).len x, (chgOk).cell x⟩) | exact (show _ * 56 ≤ _ by simp only [List.length_map, List.length_nil]; omega) | exact (by simp only [List.length_map, List.length_nil, maxLen]; omega) | kernel_rfl) ?_ )
    try (conv => whnf)
    exact ⟨_, rfl, rfl, rfl⟩

theorem c_IndexFuncChg (l : List Chg) (p : Chg → Bool) (g : Nat) (caps : List AV) (hl : l.length ≤ 281474976710656) (hcb : callable Tryz.prog g = true) (hc : fzs caps = some caps) (hp : ∀ x ∈ l, PCall Tryz.prog L g (Chg.av x :: caps) (.bool (p x))) :
    PCall Tryz.prog L 56 [.sl false (l.map Chg.av), .fn g caps] (.int .i64 (idxF p l)) := by
  refine PCall.intro mixed [] (nt := 19) Tryz.func56 rfl rfl (by simp) ?_
  refine Wk ?_
  refine LoopK.run mixed [] (fun (k : Nat) => k ≤ l.length ∧ ∀ j x, j < k → l[j]? = some x → p x = false) (fun k => [(0, .sl false (l.map Chg.av)), (1, .fn g caps), (7, .int .i64 l.length), (8, .int .i64 k)]) (fun k => St.none) (fun k => l.length - k) 0 ⟨by simp, by simp⟩ ?_ ?_
  · refine Fits.mk' rfl rfl rfl rfl ?_ ?_ ?_ ?_ ?_ <;> repeat' (first | exact trivial | refine And.intro ?_ ?_ | exact Sees.of_eq rfl | exact lt_b rfl | rfl | exact Sees.int (by simp) | exact fzs_okk hc)
  rintro k ⟨hk, hinv⟩
  refine Wk ?_
  refine BrK.mk (fun hb => ?_) (fun hb => ?_) <;> (try rw [hb])
  · have hlt : k < l.length := by simpa using hb
    obtain ⟨x, hgx⟩ := getLt hlt
    have hmx := getMap (f := Chg.av) hgx
    repeat ((conv => whnf); first | refine sJ ?_ | refine And.intro (by first | exact inbMap hlt | kernel_rfl) ?_ | rw [hmx])
    try (conv => whnf)
    refine CallK.data hcb (hp x (List.mem_of_getElem? hgx)) (by show (match fz _, fzs caps with | some a, some b => some (a :: b) | _, _ => none) = _; rw [hc]; rfl) ?_
    refine Wk ?_
    refine BrK.mk (fun h2 => ?_) (fun h2 => ?_) <;> (try rw [h2])
    · refine Wk ?_
      exact resP.mk rfl (Sees.int (idxF_some hlt hinv hgx h2).symm)
    · refine Wk ?_
      refine ⟨k + 1, ⟨by omega, fun j y hj hy => ?_⟩, by omega, ?_⟩
      · rcases Nat.lt_succ_iff_lt_or_eq.1 hj with h | rfl
        · exact hinv j y h hy
        · rw [hgx] at hy; injection hy with hy; subst hy; exact h2
      · refine Fits.mk' rfl rfl rfl rfl ?_ ?_ ?_ ?_ ?_ <;> repeat' (first | exact trivial | refine And.intro ?_ ?_ | exact Sees.of_eq rfl | exact lt_b rfl | rfl | exact Sees.int (succI hlt hl) | exact fzs_okk hc)
  · have hk' : k = l.length := by simp at hb; omega
    subst hk'
    refine Wk ?_
    exact resP.mk rfl (Sees.int (idxF_none hinv).symm)

theorem c_chg1 (c : Chg) (n : Int) : PCall Tryz.prog L 38 [c.av, .cptr (.agg [.int .i64 n]) 0] (.bool (decide (n < c.slot))) := by
  refine PCall.intro mixed [] (nt := 8) Tryz.func38 rfl rfl (by simp) ?_
  refine Wk ?_
  exact resP.mk rfl (Sees.bool rfl)

/-- but for one object the store is the one before, or has more -/
structure Upd (S S1 : St) (b : Nat) : Prop where
  bx : ∀ (id : Nat) (o : Ob), id ≠ b → S.bx[id]? = some o → S1.bx[id]? = some o
  fr : S1.fr = S.fr
  ty : S1.ty = S.ty
theorem Upd.refl (S : St) (b : Nat) : Upd S S b := ⟨fun _ _ _ h => h, rfl, rfl⟩
theorem Upd.setB {S S1 : St} {b : Nat} (h : Upd S S1 b) (o : Ob) : Upd S (S1.setB b o) b := ⟨fun id o' hne h1 => by rw [St.setB_ne hne.symm]; exact h.bx id o' hne h1, h.fr, h.ty⟩
theorem Upd.addB {S S1 : St} {b : Nat} (h : Upd S S1 b) (o : Ob) : Upd S (S1.addB o) b := ⟨fun id o' hne h1 => St.addB_old (h.bx id o' hne h1), h.fr, h.ty⟩

theorem fz_cap {S : St} {nb : Nat} {n : Int} (h : S.bx[nb]? = some (.cells [.int .i64 n] 3)) : fzbs S [.ptr nb 0] = some [.cptr (.agg [.int .i64 n]) 0] := by
  simp [fzbs, fzb, h, fzs, fz]

set_option maxHeartbeats 4000000 in
theorem i_DelChg (S : St) (b nb : Nat) (l : List Chg) (n : Int) (d : Nat) {K : AV → St → Prop} (hl : l.length ≤ 281474976710656) (hb : S.bx[b]? = some (freshO (l.map Chg.av) 7 d 52)) (hn : S.bx[nb]? = some (.cells [.int .i64 n] 3)) (hne : nb ≠ b)
    (hK : ∀ S', Upd S S' b → K (.vsl b 0 (l.filter fun x => !decide (n < x.slot)).length 7) S') :
    ICall Tryz.prog L 36 [.vsl b 0 l.length 7, .fn 38 [.ptr nb 0]] S K := by
  have hp : ∀ x ∈ l, PCall Tryz.prog L 38 (x.av :: [.cptr (.agg [.int .i64 n]) 0]) (.bool (decide (n < x.slot))) := fun x _ => c_chg1 L x n
  refine ICall.intro mixed [] (nt := 42) Tryz.func36 rfl rfl (by simp) ?_
  refine Wk ?_
  refine CallK.box rfl (c_IndexFuncChg L l (fun x => decide (n < x.slot)) 38 [.cptr (.agg [.int .i64 n]) 0] hl rfl rfl hp) (fz2 (chgOk.fzb hb rfl) (fzf1 (fz_cap hn))) rfl ?_
  refine Wk ?_
  refine BrK.mk (fun h1 => ?_) (fun h1 => ?_) <;> (try rw [h1])
  · refine Wk ?_
    have hnone := idxF_none_iff (p := fun x : Chg => decide (n < x.slot)) (l := l) (by simpa using h1)
    have hfil : (l.filter fun x => !decide (n < x.slot)) = l := List.filter_eq_self.2 fun x hx => by
      obtain ⟨j, hj⟩ := List.getElem?_of_mem hx
      simpa using hnone j x hj
    have := hK S (Upd.refl S b)
    rw [hfil] at this
    exact this
  obtain ⟨k, x, e1, e2, e3⟩ := idxF_at (p := fun x : Chg => decide (n < x.slot)) (l := l) (by simpa using h1)
  obtain ⟨_, _, _, e4⟩ := idxF_first e1
  have hklt := (List.getElem?_eq_some_iff.1 e2).1
  rw [e1]
  refine Wk ?_
  refine LoopK.runS mixed [] (fun (s : List Chg × Nat × Nat) S1 => Kept (fun x : Chg => decide (n < x.slot)) l s.1 s.2.1 s.2.2 ∧ Upd S S1 b ∧ S1.bx[b]? = some (.cells (flatE (s.1.map Chg.av) ++ List.replicate (d * 7) AV.undef) 52)) (fun s => [(0, .vsl b 0 l.length 7), (1, .fn 38 [.ptr nb 0]), (5, .int .i64 s.2.1), (6, .int .i64 s.2.2)]) (fun s => l.length - s.2.2) (l, k, k + 1) ⟨Kept.start e2 e3 e4, ⟨fun _ _ _ h => h, rfl, rfl⟩, hb⟩ ?_ ?_
  · exact ⟨Sees.of_eq rfl, Sees.of_eq rfl, Sees.of_eq rfl, Sees.int (succI hklt hl), trivial⟩
  rintro ⟨a, i, j⟩ S1 ⟨hkept, hu, hb1⟩
  simp only at hkept hb1
  have hij := hkept.ij
  have halen := hkept.len
  have hn1 := hu.bx nb _ hne hn
  refine Wk ?_
  refine BrK.mk (fun hb => ?_) (fun hb => ?_) <;> (try rw [hb])
  · have hlt : j < l.length := by simpa using hb
    obtain ⟨y, hgy⟩ := getLt hlt
    have hay := hkept.get hgy
    have hld := chgOk.ld (List.replicate (d * 7) AV.undef) hay
    have hft := chgOk.fit (l := a) (List.replicate (d * 7) AV.undef) (k := j) (by omega)
    have hpy := hp y (List.mem_of_getElem? hgy)
    repeat ((conv => whnf); first | refine sJ ?_ | refine And.intro (by first | exact ⟨by omega, by simp; omega⟩ | kernel_rfl) ?_ | rw [hb1])
    try (conv => whnf)
    refine And.intro (show 0 + (j : Int).toNat * 7 + 7 ≤ _ by rw [Nat.zero_add, Int.toNat_natCast]; exact hft) ?_
    rw [chgOk.ldr _ hay _ _ (by kernel_rfl) (by kernel_rfl)]
    have hA : ∀ o, (S1.addB o).bx[S1.bx.length]? = some o := fun o => St.addB_get S1 o
    have hA2 : ∀ o o', ((S1.addB o).setB S1.bx.length o').bx[S1.bx.length]? = some o' := fun o o' => St.setB_get (St.addB_get S1 o)
    repeat ((conv => whnf); first | refine sJ ?_ | refine And.intro (by first | exact trivial | kernel_rfl) ?_ | rw [hA] | rw [hA2])
    try (conv => whnf)
    have hbl := (List.getElem?_eq_some_iff.1 hb1).1
    have hnl := (List.getElem?_eq_some_iff.1 hn1).1
    have hB : ∀ o o', ((S1.addB o).setB S1.bx.length o').bx[b]? = some (.cells (flatE (a.map Chg.av) ++ List.replicate (d * 7) AV.undef) 52) := fun o o' => by
      rw [St.setB_ne (by omega)]; exact St.addB_old hb1
    have hcap : ∀ o o', fzbs ((S1.addB o).setB S1.bx.length o') [.ptr nb 0] = some [.cptr (.agg [.int .i64 n]) 0] := fun o o' => fz_cap (by
      rw [St.setB_ne (by omega)]; exact St.addB_old hn1)
    have hu2 : ∀ o o', Upd S ((S1.addB o).setB S1.bx.length o') b := fun o o' => ⟨fun id o2 hne h1 => by
      have h2 := hu.bx id o2 hne h1
      have := (List.getElem?_eq_some_iff.1 h2).1
      rw [St.setB_ne (by omega)]; exact St.addB_old h2, hu.fr, hu.ty⟩
    refine CallK.box rfl hpy (fz2 rfl (hcap _ _)) rfl ?_
    have hfi := chgOk.fit (l := a) (List.replicate (d * 7) AV.undef) (k := i) (by omega)
    refine Wk ?_
    refine BrK.mk (fun h2 => ?_) (fun h2 => ?_) <;> (try rw [h2])
    · repeat ((conv => whnf); first | refine sJ ?_ | refine And.intro (by first | exact ⟨by omega, by simp; omega⟩ | kernel_rfl) ?_ | rw [hA2] | rw [hB])
      try (conv => whnf)
      refine And.intro (show 0 + (i : Int).toNat * 7 + 7 ≤ _ by rw [Nat.zero_add, Int.toNat_natCast]; exact hfi) ?_
      have hst := chgOk.st y (List.replicate (d * 7) AV.undef) (l := a) (k := i) (by omega)
      refine Wk ?_
      refine ⟨(a.set i y, i + 1, j + 1), ⟨hkept.keep hgy (by simpa using h2), (hu2 _ _).setB _, ?_⟩, by simp only; omega, ?_⟩
      · rw [St.setB_get (hB _ _)]
        rw [← hst, Nat.zero_add, Int.toNat_natCast]
        rfl
      · exact ⟨Sees.of_eq rfl, Sees.of_eq rfl, Sees.int (succI (by omega : i < l.length) hl), Sees.int (succI hlt hl), trivial⟩
    · refine Wk ?_
      refine ⟨(a, i, j + 1), ⟨hkept.skip hgy (by simpa using h2), hu2 _ _, hB _ _⟩, by simp only; omega, ?_⟩
      exact ⟨Sees.of_eq rfl, Sees.of_eq rfl, Sees.of_eq rfl, Sees.int (succI hlt hl), trivial⟩
  · have hj : j = l.length := by simp at hb; omega
    subst hj
    have hfin := hkept.fin
    have hflen := chgOk.flen a
    have hcl : 0 + (i : Int).toNat * 7 + (l.length - (i : Int).toNat) * 7 ≤ (flatE (a.map Chg.av) ++ List.replicate (d * 7) AV.undef).length := by
      rw [List.length_append, hflen, Int.toNat_natCast, Nat.zero_add, ← Nat.add_mul, show i + (l.length - i) = l.length by omega, halen]
      exact Nat.le_add_right _ _
    have hfl : (l.filter fun x => !decide (n < x.slot)).length = i := by rw [← hfin, List.length_take]; omega
    repeat ((conv => whnf); first | refine sJ ?_ | refine And.intro (by first | exact (show InC (i : Int) l.length from ⟨by omega, by omega⟩) | exact ⟨rfl, rfl, Nat.le_of_ble_eq_true rfl, hcl⟩ | kernel_rfl) ?_ | rw [hb1] | rw [St.setB_get hb1])
    try (conv => whnf)
    rw [chgOk.clr' (l := a) (k := i) _ _ _ _ (by kernel_rfl) (by rw [Int.toNat_natCast, halen]) (by omega) rfl]
    refine And.intro ⟨by omega, ?_⟩ ?_
    · unfold upTo?
      rw [St.setB_get hb1]
      exact ⟨chgOk.headLe (k := i) _ _ rfl (by omega), by decide⟩
    refine Wk ?_
    have hu3 := fun o => hu.setB (S := S) (S1 := S1) o
    have hK2 : ∀ S', Upd S S' b → K (.vsl b 0 i 7) S' := fun S' h => by
      have := hK S' h
      rw [hfl] at this
      exact this
    refine hK2 _ ?_
    exact ⟨(hu3 _).bx, hu.fr, hu.ty⟩
end
end HM
