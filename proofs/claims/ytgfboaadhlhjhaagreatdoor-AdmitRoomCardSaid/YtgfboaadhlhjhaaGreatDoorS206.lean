/- slices.Insert into a clone, over any store. -/
import Derived.Test.YtgfboaadhlhjhaaGreatDoorS190
set_option maxRecDepth 100000
namespace HM
open Go Go.RowKit Go.Proofs
section
variable (L : World → Prop)
theorem Upd.setNew {S S1 : St} {b k : Nat} (h : Upd S S1 b) (hk : S.bx.length ≤ k) (o : Ob) : Upd S (S1.setB k o) b := ⟨fun id o' hne h1 => by
  have := (List.getElem?_eq_some_iff.1 h1).1
  rw [St.setB_ne (by omega)]; exact h.bx id o' hne h1, h.fr, h.ty⟩
set_option maxHeartbeats 8000000 in
theorem i_InsertCellS (S : St) (b ch : Nat) (l : List Cell) (c : Cell) (p d : Nat) {K : AV → St → Prop} (hp : p ≤ l.length) (hl : l.length ≤ 1048576) (n : Nat) (hn : n = l.length) (hb : S.bx[b]? = some (freshO (l.map Cell.av) 5 d 61)) (hch : S.fr[ch]? = some (1, 5))
    (hK : ∀ S' b' ex, Upd S S' b → (b' = b ∨ b' = S.bx.length) → S'.bx[b']? = some (.cells (flatE ((insAt l p c).map Cell.av) ++ ex) 61) → K (.vsl b' 0 (l.length + 1) 5) S') :
    ICall Tryz.prog L 70 [.vsl b 0 n 5, .int .i64 p, .own [c.av] ch] S K := by
  subst hn
  refine ICall.intro mixed [] (nt := 95) Tryz.func70 rfl rfl (by simp) ?_
  have hb0 : S.inner.bx[b]? = some (freshO (l.map Cell.av) 5 d 61) := hb
  have hF : (flatE (l.map Cell.av)).length = l.length * 5 := cellOk.flen l
  have hlen : l.length * 5 ≤ (flatE (l.map Cell.av) ++ List.replicate (d * 5) AV.undef).length := by rw [List.length_append, hF]; omega
  repeat ((conv => whnf); first | refine sJ ?_ | refine And.intro (by first | exact (show InC (p : Int) l.length from ⟨by omega, by omega⟩) | kernel_rfl) ?_ | rw [hb0])
  try (conv => whnf)
  refine BrK.mk (fun h1 => ?_) (fun h1 => ?_) <;> (try rw [h1])
  · have hpn : p = l.length := by simp at h1; omega
    subst hpn
    have hX : (flatE [c.av]).length = 5 := rfl
    repeat ((conv => whnf); first | refine sJ ?_ | refine And.intro (by first | exact ⟨rfl, rfl, Els.cons rfl rfl (Els.nil _), Nat.one_pos, (show (l.length + 1) * 40 ≤ 140737488355328 by omega), (show l.length + 1 ≤ maxLen by simp only [maxLen]; omega), hlen⟩ | kernel_rfl) ?_ | rw [hb0])
    try (conv => whnf)
    refine AppK.mk (fun h => ?_) (fun _ => ?_)
    · repeat ((conv => whnf); first | refine sJ ?_ | refine And.intro (by first | exact trivial | kernel_rfl) ?_ | rw [hb0])
      try (conv => whnf)
      have e : splice (flatE (l.map Cell.av) ++ List.replicate (d * 5) AV.undef) (l.length * 5) (flatE [c.av]) = flatE ((insAt l l.length c).map Cell.av) ++ (List.replicate (d * 5) AV.undef).drop 5 := by
        have h' : (l.length + 1) * 5 ≤ (flatE (l.map Cell.av) ++ List.replicate (d * 5) AV.undef).length := h
        rw [List.length_append, hF] at h'
        rw [splice_eq _ _ _ (by rw [List.length_append, hF, hX]; omega), ins_cells, List.take_length, List.drop_length, ← hF, List.take_left, hX, List.drop_append, List.drop_eq_nil_of_le (by omega), show (flatE (l.map Cell.av)).length + 5 - (flatE (l.map Cell.av)).length = 5 by omega]
        simp [flatE]
      refine hK _ b ((List.replicate (d * 5) AV.undef).drop 5) ?_ (.inl rfl) ?_
      · exact ⟨((Upd.refl S b).setB _).bx, rfl, rfl⟩
      · rw [← e]; exact St.setB_get hb
    · intro d'
      repeat ((conv => whnf); first | refine sJ ?_ | refine And.intro (by first | exact trivial | kernel_rfl) ?_ | rw [hb0])
      try (conv => whnf)
      have e : List.take (l.length * 5) (flatE (l.map Cell.av) ++ List.replicate (d * 5) AV.undef) ++ flatE [c.av] = flatE ((insAt l l.length c).map Cell.av) := by
        rw [ins_cells, List.take_length, List.drop_length, ← hF, List.take_left]
        simp [flatE]
      refine hK _ S.bx.length (List.replicate (d' * 5) AV.undef) ?_ (.inr rfl) ?_
      · exact ⟨((Upd.refl S b).addB _).bx, rfl, rfl⟩
      · rw [← e]; exact St.addB_get S _
  · have hpn : p < l.length := by simp at h1; omega
    have hd : (flatE (l.map Cell.av) ++ List.replicate (d * 5) AV.undef).length = (l.length + d) * 5 := by rw [List.length_append, hF, List.length_replicate]; omega
    repeat ((conv => whnf); first | refine sJ ?_ | refine And.intro (by first | exact trivial | kernel_rfl) ?_ | rw [hb0])
    try (conv => whnf)
    intro c0 hc0
    have hc0' : c0 = l.length + d := by rw [hd] at hc0; omega
    subst hc0'
    have hw : IntKind.i64.wrap ((l.length : Int) + ([c.av].length : Int)) = ((l.length + 1 : Nat) : Int) := by rw [w64] <;> simp <;> omega
    repeat ((conv => whnf); first | refine sJ ?_ | refine And.intro (by first | exact trivial | kernel_rfl) ?_ | rw [hb0])
    try (conv => whnf)
    rw [hw]
    have hbl : b < S.inner.bx.length := (List.getElem?_eq_some_iff.1 hb0).1
    have hN : ∀ o, (S.inner.addB o).bx[S.inner.bx.length]? = some o := fun o => St.addB_get _ o
    have hN2 : ∀ o o', ((S.inner.addB o).setB S.inner.bx.length o').bx[S.inner.bx.length]? = some o' := fun o o' => St.setB_get (St.addB_get _ o)
    have hO : ∀ o, (S.inner.addB o).bx[b]? = some (freshO (l.map Cell.av) 5 d 61) := fun o => St.addB_old hb0
    have hO2 : ∀ o o', ((S.inner.addB o).setB S.inner.bx.length o').bx[b]? = some (freshO (l.map Cell.av) 5 d 61) := fun o o' => by
      rw [St.setB_ne (by omega)]; exact St.addB_old hb0
    have hB1 : ∀ o, (S.inner.setB b o).bx[b]? = some o := fun o => St.setB_get hb0
    have hfl : ∀ (T : St) (i : Nat), (T.flush []).bx[i]? = T.bx[i]? := fun T i => by simp [St.flush]
    have hN2f : ∀ o o', (((S.inner.addB o).setB S.inner.bx.length o').flush []).bx[S.inner.bx.length]? = some o' := fun o o' => by rw [hfl]; exact hN2 o o'
    have hO2f : ∀ o o', (((S.inner.addB o).setB S.inner.bx.length o').flush []).bx[b]? = some (freshO (l.map Cell.av) 5 d 61) := fun o o' => by rw [hfl]; exact hO2 o o'
    have hB1f : ∀ o, ((S.inner.setB b o).flush []).bx[b]? = some o := fun o => by rw [hfl]; exact hB1 o
    have hbf : (S.inner.flush []).bx[b]? = some (freshO (l.map Cell.av) 5 d 61) := by rw [hfl]; exact hb0
    have hB1g : ∀ o, (((S.inner.flush []).setB b o).flush []).bx[b]? = some o := fun o => by rw [hfl]; exact St.setB_get hbf
    have hup : ∀ k : Nat, 0 + k * 5 ≤ (flatE (l.map Cell.av) ++ List.replicate (d * 5) AV.undef).length → upTo? S.inner b 0 5 k := fun k hk => by
      unfold upTo?
      rw [hb0]
      exact ⟨hk, by decide⟩
    refine BrK.mk (fun h2 => ?_) (fun h2 => ?_) <;> (try rw [h2])
    · have hd0 : d = 0 := by simp at h2; omega
      subst hd0
      have hw2 : IntKind.i64.wrap (((l.length + 1 : Nat) : Int) - (p : Int)) = ((l.length + 1 - p : Nat) : Int) := by rw [w64] <;> omega
      have hd2 : (flatE (l.map Cell.av) ++ List.replicate (0 * 5) AV.undef).length = l.length * 5 := by rw [hd]; omega
      have hmul : p * 5 ≤ l.length * 5 := Nat.mul_le_mul_right _ hp
      repeat ((conv => whnf); first | refine sJ ?_ | refine And.intro (by first | exact ⟨by omega, hup _ (by rw [hd2, Int.toNat_natCast]; omega)⟩ | kernel_rfl) ?_ | rw [hw] | rw [hw2] | rw [hb0] | rw [hN] | rw [hO] | rw [hN2] | rw [hO2] | rw [hB1] | rw [hN2f] | rw [hO2f] | rw [hB1f] | rw [hbf])
      try (conv => whnf)
      refine And.intro ?_ ?_
      · refine ⟨rfl, rfl, (by omega), ?_, ?_, ?_, ?_⟩
        · exact (show (((p : Int).toNat : Int) + ((l.length + 1 - p : Nat) : Int)) * ((40 : Nat) : Int) ≤ 140737488355328 by rw [Int.toNat_natCast]; omega)
        · rw [Int.toNat_natCast]; omega
        · exact (show p * 5 ≤ _ by rw [hd2]; exact hmul)
        · rw [hd2, Int.toNat_natCast, Int.toNat_natCast]; exact (show _ < (p + (l.length + 1 - p)) * 5 by omega)
      intro d'
      rw [Int.toNat_natCast, Int.toNat_natCast, show p + (l.length + 1 - p) = l.length + 1 by omega]
      repeat ((conv => whnf); first | refine sJ ?_ | refine And.intro (by first | exact (show InC (p : Int) (l.length + 1) from ⟨by omega, by omega⟩) | kernel_rfl) ?_ | rw [hw] | rw [hw2] | rw [hb0] | rw [hN] | rw [hO] | rw [hN2] | rw [hO2] | rw [hB1] | rw [hN2f] | rw [hO2f] | rw [hB1f] | rw [hbf])
      try (conv => whnf)
      have hmin : min [c.av].length (l.length + 1 - (p : Int).toNat) = 1 := by rw [Int.toNat_natCast]; simp; omega
      have hU : flatE (l.map Cell.av) ++ List.replicate (0 * 5) AV.undef = flatE (l.map Cell.av) := by simp
      have hA : (flatE ((l.take p).map Cell.av)).length = p * 5 := by rw [cellOk.flen, List.length_take, Nat.min_eq_left hp]
      have hB : (flatE ((l.drop p).map Cell.av)).length = (l.length - p) * 5 := by rw [cellOk.flen, List.length_drop]
      have hX : c.av.cells.length = 5 := rfl
      obtain ⟨zs, hzs⟩ : ∃ zs : List AV, zs = [.int .i64 0, .int .i64 0, .int .i64 0, .int .i64 0, .int .i64 0] := ⟨_, rfl⟩
      have hZ : (repL (l.length + 1 - p) zs).length = (l.length + 1 - p) * 5 := by rw [repL_len, hzs]; rfl
      have eA : List.take (p * 5) (flatE (l.map Cell.av) ++ List.replicate (0 * 5) AV.undef) = flatE ((l.take p).map Cell.av) := by rw [hU, cut_cells l p, ← hA, List.take_left]
      have eB : List.take ((l.length - p) * 5) (List.drop (p * 5) (flatE (l.map Cell.av) ++ List.replicate (0 * 5) AV.undef)) = flatE ((l.drop p).map Cell.av) := by rw [hU, cut_cells l p, ← hA, List.drop_left, ← hB, List.take_length]
      have hmin2 : min (l.length - p) (l.length + 1 - (p + 1)) = l.length - p := by omega
      have hw3 : IntKind.i64.wrap ((p : Int) + ([c.av].length : Int)) = ((p + 1 : Nat) : Int) := by rw [w64] <;> simp <;> omega
      rw [hmin]
      refine And.intro ⟨rfl, rfl, ?_⟩ ?_
      · refine (show 0 + p * 5 + 5 ≤ (List.take (p * 5) (flatE (l.map Cell.av) ++ List.replicate (0 * 5) AV.undef) ++ repL (l.length + 1 - p) [.int .i64 0, .int .i64 0, .int .i64 0, .int .i64 0, .int .i64 0] ++ List.replicate (d' * 5) AV.undef).length from ?_)
        rw [eA, ← hzs]
        simp only [List.length_append, hA, hZ, List.length_replicate]
        omega
      repeat ((conv => whnf); first | refine sJ ?_ | refine And.intro (by first | exact (show InC ((p + 1 : Nat) : Int) (l.length + 1) from ⟨by omega, by omega⟩) | exact (show InC (p : Int) l.length from ⟨by omega, by omega⟩) | exact trivial | kernel_rfl) ?_ | rw [hw3] | rw [hb0] | rw [hN] | rw [hO] | rw [hN2] | rw [hO2] | rw [hB1] | rw [hN2f] | rw [hO2f] | rw [hB1f] | rw [hbf])
      try (conv => whnf)
      rw [show min (l.length - (p : Int).toNat) (l.length + 1 - ((p + 1 : Nat) : Int).toNat) = l.length - p from hmin2]
      have hT : 0 + p * 5 + c.av.cells.length ≤ (List.take (p * 5) (flatE (l.map Cell.av) ++ List.replicate (0 * 5) AV.undef) ++ repL (l.length + 1 - p) zs ++ List.replicate (d' * 5) AV.undef).length := by
        rw [eA, hX]
        simp only [List.length_append, hA, hZ, List.length_replicate]
        omega
      conv in (srcCells _ _ _ _) => whnf
      first | rw [hO2f] | rw [hbf]
      conv => whnf
      refine And.intro ⟨?_, ?_, ?_⟩ ?_
      · exact (show (List.take ((l.length - p) * 5) (List.drop (0 + p * 5) (flatE (l.map Cell.av) ++ List.replicate (0 * 5) AV.undef))).length = (l.length - p) * 5 by rw [Nat.zero_add, eB, hB])
      · exact (show (List.take ((l.length - p) * 5) (List.drop (0 + p * 5) (flatE (l.map Cell.av) ++ List.replicate (0 * 5) AV.undef))).all AV.isCell = true by rw [Nat.zero_add, eB]; exact flatE_cell (cellOk.els _))
      · refine (show 0 + (p + 1) * 5 + (List.take ((l.length - p) * 5) (List.drop (0 + p * 5) (flatE (l.map Cell.av) ++ List.replicate (0 * 5) AV.undef))).length ≤ (splice (List.take (p * 5) (flatE (l.map Cell.av) ++ List.replicate (0 * 5) AV.undef) ++ repL (l.length + 1 - p) [.int .i64 0, .int .i64 0, .int .i64 0, .int .i64 0, .int .i64 0] ++ List.replicate (d' * 5) AV.undef) (0 + p * 5) c.av.cells).length from ?_)
        rw [← hzs, splice_len hT, Nat.zero_add (p * 5), eB, hB, eA]
        simp only [List.length_append, hA, hZ, List.length_replicate]
        omega
      repeat ((conv => whnf); first | refine sJ ?_ | refine And.intro (by first | exact trivial | kernel_rfl) ?_ | rw [hb0] | rw [hN] | rw [hO] | rw [hN2] | rw [hO2] | rw [hB1] | rw [hN2f] | rw [hO2f] | rw [hB1f] | rw [hbf])
      try (conv => whnf)
      have e : splice (splice (List.take (p * 5) (flatE (l.map Cell.av) ++ List.replicate (0 * 5) AV.undef) ++ repL (l.length + 1 - p) [.int .i64 0, .int .i64 0, .int .i64 0, .int .i64 0, .int .i64 0] ++ List.replicate (d' * 5) AV.undef) (0 + p * 5) c.av.cells) (0 + (p + 1) * 5) (List.take ((l.length - p) * 5) (List.drop (0 + p * 5) (flatE (l.map Cell.av) ++ List.replicate (0 * 5) AV.undef))) = flatE ((insAt l p c).map Cell.av) ++ List.replicate (d' * 5) AV.undef := by
        rw [← hzs, Nat.zero_add, Nat.zero_add, eA, eB, ins_cells, show (p + 1) * 5 = p * 5 + 5 by omega]
        have ig := ins_grow (A := flatE ((l.take p).map Cell.av)) (B := flatE ((l.drop p).map Cell.av)) (Z := repL (l.length + 1 - p) zs) (U := List.replicate (d' * 5) AV.undef) (X := c.av.cells) (by rw [hZ, hX, hB]; omega)
        rw [hA, hX] at ig
        exact ig
      refine hK _ S.bx.length (List.replicate (d' * 5) AV.undef) ?_ (.inr rfl) ?_
      · exact Upd.mk ((((Upd.refl S b).addB _).setNew (Nat.le_refl _) _).setNew (Nat.le_refl _) _).bx rfl rfl
      · rw [← e]; exact St.setB_get (St.setB_get (St.addB_get S _))
    · have hd1 : 1 ≤ d := by simp at h2; omega
      have hU : 5 ≤ (List.replicate (d * 5) AV.undef).length := by rw [List.length_replicate]; omega
      have hA : (flatE ((l.take p).map Cell.av)).length = p * 5 := by rw [cellOk.flen, List.length_take, Nat.min_eq_left hp]
      have hB : (flatE ((l.drop p).map Cell.av)).length = (l.length - p) * 5 := by rw [cellOk.flen, List.length_drop]
      have hX : c.av.cells.length = 5 := rfl
      have eB : List.take ((l.length - p) * 5) (List.drop (p * 5) (flatE (l.map Cell.av) ++ List.replicate (d * 5) AV.undef)) = flatE ((l.drop p).map Cell.av) := by rw [cut_cells l p, List.append_assoc, ← hA, List.drop_left, ← hB, List.take_left]
      have hw3 : IntKind.i64.wrap ((p : Int) + ([c.av].length : Int)) = ((p + 1 : Nat) : Int) := by rw [w64] <;> simp <;> omega
      have hmin2 : min (l.length + 1 - p) (l.length + 1 - (p + 1)) = l.length - p := by omega
      repeat ((conv => whnf); first | refine sJ ?_ | refine And.intro (by first | exact ⟨by omega, hup _ (by rw [hd]; omega)⟩ | kernel_rfl) ?_ | rw [hw] | rw [hb0] | rw [hN] | rw [hO] | rw [hN2] | rw [hO2] | rw [hB1] | rw [hN2f] | rw [hO2f] | rw [hB1f] | rw [hbf])
      try (conv => whnf)
      rw [show (((l.length + 1 : Nat) : Int)).toNat = l.length + 1 from rfl]
      repeat ((conv => whnf); first | refine sJ ?_ | refine And.intro (by first | exact (show InC ((p + 1 : Nat) : Int) (l.length + 1) from ⟨by omega, by omega⟩) | kernel_rfl) ?_ | rw [hw3] | rw [hb0] | rw [hN] | rw [hO] | rw [hN2] | rw [hO2] | rw [hB1] | rw [hN2f] | rw [hO2f] | rw [hB1f] | rw [hbf])
      try (conv => whnf)
      refine CallK.apart (es := [c.av]) (ch := ch) (e := 61) (t := 27) (tR := 4) Tryz.func118 (by kernel_rfl) (by kernel_rfl) (by kernel_rfl) (by kernel_rfl) rfl (sz := 5) rfl (by exact hch) (by simp) ?_ (by decide) ?_
      · exact (show 0 < l.length + 1 - (p + 1) by omega)
      repeat ((conv => whnf); first | refine sJ ?_ | refine And.intro (by first | exact (show InC ((p + 1 : Nat) : Int) (l.length + 1) from ⟨by omega, by omega⟩) | exact (show InC (p : Int) (l.length + 1) from ⟨by omega, by omega⟩) | exact trivial | kernel_rfl) ?_ | rw [hw3] | rw [hb0] | rw [hN] | rw [hO] | rw [hN2] | rw [hO2] | rw [hB1] | rw [hN2f] | rw [hO2f] | rw [hB1f] | rw [hbf])
      try (conv => whnf)
      have hd3 : (flatE (l.map Cell.av) ++ List.replicate (d * 5) AV.undef).length = l.length * 5 + d * 5 := by rw [hd]; omega
      have hpl : (l.length - p) * 5 + p * 5 = l.length * 5 := by rw [← Nat.add_mul, Nat.sub_add_cancel hp]
      rw [show min (l.length + 1 - (p : Int).toNat) (l.length + 1 - ((p + 1 : Nat) : Int).toNat) = l.length - p from hmin2]
      have hT : 0 + (p + 1) * 5 + (List.take ((l.length - p) * 5) (List.drop (0 + p * 5) (flatE (l.map Cell.av) ++ List.replicate (d * 5) AV.undef))).length ≤ (flatE (l.map Cell.av) ++ List.replicate (d * 5) AV.undef).length := by
        rw [Nat.zero_add (p * 5), eB, hB, hd3]; omega
      conv in (srcCells _ _ _ _) => whnf
      first | rw [hO2f] | rw [hbf]
      conv => whnf
      refine And.intro ⟨?_, ?_, hT⟩ ?_
      · exact (show (List.take ((l.length - p) * 5) (List.drop (0 + p * 5) (flatE (l.map Cell.av) ++ List.replicate (d * 5) AV.undef))).length = (l.length - p) * 5 by rw [Nat.zero_add, eB, hB])
      · exact (show (List.take ((l.length - p) * 5) (List.drop (0 + p * 5) (flatE (l.map Cell.av) ++ List.replicate (d * 5) AV.undef))).all AV.isCell = true by rw [Nat.zero_add, eB]; exact flatE_cell (cellOk.els _))
      have hmin : min [c.av].length (l.length + 1 - (p : Int).toNat) = 1 := by rw [Int.toNat_natCast]; simp; omega
      repeat ((conv => whnf); first | refine sJ ?_ | refine And.intro (by first | exact (show InC (p : Int) (l.length + 1) from ⟨by omega, by omega⟩) | kernel_rfl) ?_ | rw [hb0] | rw [hN] | rw [hO] | rw [hN2] | rw [hO2] | rw [hB1] | rw [hN2f] | rw [hO2f] | rw [hB1f] | rw [hbf])
      try (conv => whnf)
      rw [hmin]
      rw [hB1g]
      conv => whnf
      refine And.intro ⟨rfl, rfl, ?_⟩ ?_
      · refine (show 0 + p * 5 + 5 ≤ (splice (flatE (l.map Cell.av) ++ List.replicate (d * 5) AV.undef) (0 + (p + 1) * 5) (List.take ((l.length - p) * 5) (List.drop (0 + p * 5) (flatE (l.map Cell.av) ++ List.replicate (d * 5) AV.undef)))).length from ?_)
        rw [splice_len hT, hd3]; omega
      repeat ((conv => whnf); first | refine sJ ?_ | refine And.intro (by first | exact trivial | kernel_rfl) ?_ | rw [hb0] | rw [hN] | rw [hO] | rw [hN2] | rw [hO2] | rw [hB1] | rw [hN2f] | rw [hO2f] | rw [hB1f] | rw [hbf])
      try (conv => whnf)
      have e : splice (splice (flatE (l.map Cell.av) ++ List.replicate (d * 5) AV.undef) (0 + (p + 1) * 5) (List.take ((l.length - p) * 5) (List.drop (0 + p * 5) (flatE (l.map Cell.av) ++ List.replicate (d * 5) AV.undef)))) (0 + p * 5) c.av.cells = flatE ((insAt l p c).map Cell.av) ++ (List.replicate (d * 5) AV.undef).drop 5 := by
        rw [Nat.zero_add, Nat.zero_add, eB, ins_cells, show (p + 1) * 5 = p * 5 + 5 by omega, cut_cells l p]
        have ig := ins_room (A := flatE ((l.take p).map Cell.av)) (B := flatE ((l.drop p).map Cell.av)) (U := List.replicate (d * 5) AV.undef) (X := c.av.cells) (by rw [hX]; exact hU)
        rw [hA, hX] at ig
        exact ig
      refine hK _ b ((List.replicate (d * 5) AV.undef).drop 5) ?_ (.inl rfl) ?_
      · exact Upd.mk (((Upd.refl S b).setB _).setB _).bx rfl rfl
      · rw [← e]; exact St.setB_get (St.setB_get hb)
end
end HM
