/- What the texts below also need. -/
import Derived.Test.YtgfboaadhlhjhaaGreatDoorProg
import Derived.Test.YtgfboaadhlhjhaaGreatDoorDa
import Derived.KernelRfl
import Derived.Test.YtgfboaadhlhjhaaGreatDoorSh
import Derived.Lib.ItoaLen
import Derived.Lib.AppendIntMem
import Derived.Test.YtgfboaadhlhjhaaGreatDoorS1
import Derived.Test.YtgfboaadhlhjhaaGreatDoorS30
import Derived.Test.YtgfboaadhlhjhaaGreatDoorS6
import Derived.Test.YtgfboaadhlhjhaaGreatDoorS34
import Derived.Test.YtgfboaadhlhjhaaGreatDoorS114
import Derived.Test.YtgfboaadhlhjhaaGreatDoorFh
import Derived.Shelf.Small.Wraps
import Derived.Handy
import Derived.Deep.RegionHeld3
import Derived.Test.YtgfboaadhlhjhaaGreatDoorS122
import Derived.Test.YtgfboaadhlhjhaaGreatDoorS220
import Derived.Test.YtgfboaadhlhjhaaGreatDoorS208
import Derived.Test.YtgfboaadhlhjhaaGreatDoorS191
import Derived.Test.YtgfboaadhlhjhaaGreatDoorDd
import Derived.Test.YtgfboaadhlhjhaaGreatDoorS223
import Derived.Test.YtgfboaadhlhjhaaGreatDoorX
set_option maxRecDepth 100000
namespace HM
open Go Go.RowKit Go.Proofs
variable (L : World → Prop)
end HM
set_option maxRecDepth 100000
namespace HM
open Go Go.RowKit Go.Proofs
variable (L : World → Prop)
end HM
set_option maxRecDepth 100000
namespace HM
open Go Go.RowKit Go.Proofs
variable (L : World → Prop)
end HM
set_option maxRecDepth 100000
namespace HM
open Go Go.RowKit Go.Proofs
variable (L : World → Prop)
end HM
set_option maxRecDepth 100000
namespace HM
open Go Go.RowKit Go.Proofs
end HM
set_option maxRecDepth 100000
namespace HM
open Go Go.RowKit Go.Proofs
section
variable (L : World → Prop)
end
end HM
set_option maxRecDepth 100000
namespace HM
open Go Go.RowKit Go.Proofs
section
variable (L : World → Prop)
end
end HM
set_option maxRecDepth 100000
namespace HM
open Go Go.RowKit Go.Proofs
section
variable (L : World → Prop)
end
end HM
set_option maxRecDepth 100000
namespace HM
open Go Go.RowKit Go.Proofs
section
variable (L : World → Prop)
end
end HM
set_option maxRecDepth 100000
namespace HM
open Go Go.RowKit Go.Proofs
section
variable (L : World → Prop)
end
end HM
set_option maxRecDepth 100000
namespace HM
open Go Go.RowKit Go.Proofs
section
variable (L : World → Prop)
theorem i_InsertCell (o0 o1 o2 : Ob) (n0 m0 : Nat) (ty : Nat → TypeId) (l : List Cell) (c : Cell) (p d : Nat) {K : AV → St → Prop} (hp : p ≤ l.length) (hl : l.length ≤ 512) (n : Nat) (hn : n = l.length)
    (hK1 : ∀ ex : List AV, K (.vsl 3 0 (l.length + 1) 5) ⟨[o0, o1, o2, .cells (flatE ((insAt l p c).map Cell.av) ++ ex) 61], [(1, 5)], n0, m0, ty⟩)
    (hK2 : ∀ (o : Ob) (ex : List AV), K (.vsl 4 0 (l.length + 1) 5) ⟨[o0, o1, o2, o, .cells (flatE ((insAt l p c).map Cell.av) ++ ex) 61], [(1, 5)], n0, m0, ty⟩) :
    ICall Tryz.prog L 70 [.vsl 3 0 n 5, .int .i64 p, .own [c.av] 0] ⟨[o0, o1, o2, freshO (l.map Cell.av) 5 d 61], [(1, 5)], n0, m0, ty⟩ K := by
  subst hn
  refine ICall.intro mixed [] (nt := 95) Tryz.func70 rfl rfl (by simp) ?_
  have hF : (flatE (l.map Cell.av)).length = l.length * 5 := cellOk.flen l
  have hlen : l.length * 5 ≤ (flatE (l.map Cell.av) ++ List.replicate (d * 5) AV.undef).length := by rw [List.length_append, hF]; omega
  repeat ((conv => whnf); first | refine sJ ?_ | refine And.intro (by first | exact (show InC (p : Int) l.length from ⟨by omega, by omega⟩) | kernel_rfl) ?_ )
  try (conv => whnf)
  refine BrK.mk (fun h1 => ?_) (fun h1 => ?_) <;> (try rw [h1])
  · have hpn : p = l.length := by simp at h1; omega
    subst hpn
    have hX : (flatE [c.av]).length = 5 := rfl
    repeat ((conv => whnf); first | refine sJ ?_ | refine And.intro (by first | exact ⟨rfl, rfl, Els.cons rfl rfl (Els.nil _), Nat.one_pos, (show (l.length + 1) * 40 ≤ 140737488355328 by omega), (show l.length + 1 ≤ maxLen by simp only [maxLen]; omega), hlen⟩ | kernel_rfl) ?_ )
    try (conv => whnf)
    refine AppK.mk (fun h => ?_) (fun _ => ?_)
    · refine Wk ?_
      have hh := hK1 ((List.replicate (d * 5) AV.undef).drop 5)
      have e : splice (flatE (l.map Cell.av) ++ List.replicate (d * 5) AV.undef) (l.length * 5) (flatE [c.av]) = flatE ((insAt l l.length c).map Cell.av) ++ (List.replicate (d * 5) AV.undef).drop 5 := by
        have h' : (l.length + 1) * 5 ≤ (flatE (l.map Cell.av) ++ List.replicate (d * 5) AV.undef).length := h
        rw [List.length_append, hF] at h'
        rw [splice_eq _ _ _ (by rw [List.length_append, hF, hX]; omega), ins_cells, List.take_length, List.drop_length, ← hF, List.take_left, hX, List.drop_append, List.drop_eq_nil_of_le (by omega), show (flatE (l.map Cell.av)).length + 5 - (flatE (l.map Cell.av)).length = 5 by omega]
        simp [flatE]
      rw [← e] at hh
      exact hh
    · intro d'
      refine Wk ?_
      have hh := hK2 (freshO (l.map Cell.av) 5 d 61) (List.replicate (d' * 5) AV.undef)
      have e : List.take (l.length * 5) (flatE (l.map Cell.av) ++ List.replicate (d * 5) AV.undef) ++ flatE [c.av] = flatE ((insAt l l.length c).map Cell.av) := by
        rw [ins_cells, List.take_length, List.drop_length, ← hF, List.take_left]
        simp [flatE]
      rw [← e] at hh
      exact hh
  · have hpn : p < l.length := by simp at h1; omega
    have hd : (flatE (l.map Cell.av) ++ List.replicate (d * 5) AV.undef).length = (l.length + d) * 5 := by rw [List.length_append, hF, List.length_replicate]; omega
    refine Wk ?_
    intro c0 hc0
    have hc0' : c0 = l.length + d := by rw [hd] at hc0; omega
    subst hc0'
    have hw : IntKind.i64.wrap ((l.length : Int) + ([c.av].length : Int)) = ((l.length + 1 : Nat) : Int) := by rw [w64] <;> simp <;> omega
    refine Wk ?_
    rw [hw]
    refine BrK.mk (fun h2 => ?_) (fun h2 => ?_) <;> (try rw [h2])
    · have hd0 : d = 0 := by simp at h2; omega
      subst hd0
      have hw2 : IntKind.i64.wrap (((l.length + 1 : Nat) : Int) - (p : Int)) = ((l.length + 1 - p : Nat) : Int) := by rw [w64] <;> omega
      have hd2 : (flatE (l.map Cell.av) ++ List.replicate (0 * 5) AV.undef).length = l.length * 5 := by rw [hd]; omega
      have hmul : p * 5 ≤ l.length * 5 := Nat.mul_le_mul_right _ hp
      repeat ((conv => whnf); first | refine sJ ?_ | refine And.intro (by first | exact ⟨by omega, (show 0 + p * 5 ≤ (flatE (l.map Cell.av) ++ List.replicate (0 * 5) AV.undef).length by rw [hd2]; omega), by decide⟩ | kernel_rfl) ?_ | rw [hw] | rw [hw2])
      try (conv => whnf)
      refine And.intro ?_ ?_
      · refine ⟨rfl, rfl, (by omega), ?_, ?_, ?_, ?_⟩
        · exact (show (((p : Int).toNat : Int) + ((l.length + 1 - p : Nat) : Int)) * ((40 : Nat) : Int) ≤ 140737488355328 by rw [Int.toNat_natCast]; omega)
        · rw [Int.toNat_natCast]; omega
        · exact (show p * 5 ≤ _ by rw [hd2]; exact hmul)
        · rw [hd2, Int.toNat_natCast, Int.toNat_natCast]; exact (show _ < (p + (l.length + 1 - p)) * 5 by omega)
      intro d'
      rw [Int.toNat_natCast, Int.toNat_natCast, show p + (l.length + 1 - p) = l.length + 1 by omega]
      repeat ((conv => whnf); first | refine sJ ?_ | refine And.intro (by first | exact (show InC (p : Int) (l.length + 1) from ⟨by omega, by omega⟩) | kernel_rfl) ?_ | rw [hw] | rw [hw2])
      try (conv => whnf)
      have hmin : min [c.av].length (l.length + 1 - (p : Int).toNat) = 1 := by rw [Int.toNat_natCast]; simp; omega
      have hU : flatE (l.map Cell.av) ++ List.replicate (0 * 5) AV.undef = flatE (l.map Cell.av) := by simp
      have hA : (flatE ((l.take p).map Cell.av)).length = p * 5 := by rw [cellOk.flen, List.length_take, Nat.min_eq_left hp]
      have hB : (flatE ((l.drop p).map Cell.av)).length = (l.length - p) * 5 := by rw [cellOk.flen, List.length_drop]
      have hX : c.av.cells.length = 5 := rfl
      obtain ⟨zs, hzs⟩ : ∃ zs : List AV, zs = [.int .i64 0, .int .i64 0, .int .i64 0, .int .i64 0, .int .i64 0] := ⟨_, rfl⟩
      have hZ : (repL (l.length + 1 - p) zs).length = (l.length + 1 - p) * 5 := by rw [repL_len, hzs]; rfl
      have eA : List.take (p * 5) (flatE (l.map Cell.av) ++ List.replicate (0 * 5) AV.undef) = flatE ((l.take p).map Cell.av) := by rw [hU, cut_cells l p, ← hA, List.take_left]
      have eB : List.take ((l.length - p) * 5) (List.drop (p * 5) (flatE (l.map Cell.av) ++ List.replicate (0 * 5) AV.undef)) = flatE ((l.drop p).map Cell.av) := by rw [hU, cut_cells l p, ← hA, List.drop_left, ← hB, List.take_length]
      have hmin2 : min (l.length - p) (l.length + 1 - (p + 1)) = l.length - p := by omega
      have hw3 : IntKind.i64.wrap ((p : Int) + ([c.av].length : Int)) = ((p + 1 : Nat) : Int) := by rw [w64] <;> simp <;> omega
      rw [hmin]
      refine And.intro ⟨rfl, rfl, ?_⟩ ?_
      · refine (show 0 + p * 5 + 5 ≤ (List.take (p * 5) (flatE (l.map Cell.av) ++ List.replicate (0 * 5) AV.undef) ++ repL (l.length + 1 - p) [.int .i64 0, .int .i64 0, .int .i64 0, .int .i64 0, .int .i64 0] ++ List.replicate (d' * 5) AV.undef).length from ?_)
        rw [eA, ← hzs]
        simp only [List.length_append, hA, hZ, List.length_replicate]
        omega
      repeat ((conv => whnf); first | refine sJ ?_ | refine And.intro (by first | exact (show InC ((p + 1 : Nat) : Int) (l.length + 1) from ⟨by omega, by omega⟩) | exact (show InC (p : Int) l.length from ⟨by omega, by omega⟩) | exact trivial | kernel_rfl) ?_ | rw [hw3])
      try (conv => whnf)
      rw [show min (l.length - (p : Int).toNat) (l.length + 1 - ((p + 1 : Nat) : Int).toNat) = l.length - p from hmin2]
      have hT : 0 + p * 5 + c.av.cells.length ≤ (List.take (p * 5) (flatE (l.map Cell.av) ++ List.replicate (0 * 5) AV.undef) ++ repL (l.length + 1 - p) zs ++ List.replicate (d' * 5) AV.undef).length := by
        rw [eA, hX]
        simp only [List.length_append, hA, hZ, List.length_replicate]
        omega
      refine And.intro ⟨?_, ?_, ?_⟩ ?_
      · exact (show (List.take ((l.length - p) * 5) (List.drop (0 + p * 5) (flatE (l.map Cell.av) ++ List.replicate (0 * 5) AV.undef))).length = (l.length - p) * 5 by rw [Nat.zero_add, eB, hB])
      · exact (show (List.take ((l.length - p) * 5) (List.drop (0 + p * 5) (flatE (l.map Cell.av) ++ List.replicate (0 * 5) AV.undef))).all AV.isCell = true by rw [Nat.zero_add, eB]; exact flatE_cell (cellOk.els _))
      · refine (show 0 + (p + 1) * 5 + (List.take ((l.length - p) * 5) (List.drop (0 + p * 5) (flatE (l.map Cell.av) ++ List.replicate (0 * 5) AV.undef))).length ≤ (splice (List.take (p * 5) (flatE (l.map Cell.av) ++ List.replicate (0 * 5) AV.undef) ++ repL (l.length + 1 - p) [.int .i64 0, .int .i64 0, .int .i64 0, .int .i64 0, .int .i64 0] ++ List.replicate (d' * 5) AV.undef) (0 + p * 5) c.av.cells).length from ?_)
        rw [← hzs, splice_len hT, Nat.zero_add (p * 5), eB, hB, eA]
        simp only [List.length_append, hA, hZ, List.length_replicate]
        omega
      refine Wk ?_
      have hh := hK2 (freshO (l.map Cell.av) 5 0 61) (List.replicate (d' * 5) AV.undef)
      have e : splice (splice (List.take (p * 5) (flatE (l.map Cell.av) ++ List.replicate (0 * 5) AV.undef) ++ repL (l.length + 1 - p) [.int .i64 0, .int .i64 0, .int .i64 0, .int .i64 0, .int .i64 0] ++ List.replicate (d' * 5) AV.undef) (0 + p * 5) c.av.cells) (0 + (p + 1) * 5) (List.take ((l.length - p) * 5) (List.drop (0 + p * 5) (flatE (l.map Cell.av) ++ List.replicate (0 * 5) AV.undef))) = flatE ((insAt l p c).map Cell.av) ++ List.replicate (d' * 5) AV.undef := by
        rw [← hzs, Nat.zero_add, Nat.zero_add, eA, eB, ins_cells, show (p + 1) * 5 = p * 5 + 5 by omega]
        have ig := ins_grow (A := flatE ((l.take p).map Cell.av)) (B := flatE ((l.drop p).map Cell.av)) (Z := repL (l.length + 1 - p) zs) (U := List.replicate (d' * 5) AV.undef) (X := c.av.cells) (by rw [hZ, hX, hB]; omega)
        rw [hA, hX] at ig
        exact ig
      rw [← e] at hh
      exact hh
    · have hd1 : 1 ≤ d := by simp at h2; omega
      have hU : 5 ≤ (List.replicate (d * 5) AV.undef).length := by rw [List.length_replicate]; omega
      have hA : (flatE ((l.take p).map Cell.av)).length = p * 5 := by rw [cellOk.flen, List.length_take, Nat.min_eq_left hp]
      have hB : (flatE ((l.drop p).map Cell.av)).length = (l.length - p) * 5 := by rw [cellOk.flen, List.length_drop]
      have hX : c.av.cells.length = 5 := rfl
      have eB : List.take ((l.length - p) * 5) (List.drop (p * 5) (flatE (l.map Cell.av) ++ List.replicate (d * 5) AV.undef)) = flatE ((l.drop p).map Cell.av) := by rw [cut_cells l p, List.append_assoc, ← hA, List.drop_left, ← hB, List.take_left]
      have hw3 : IntKind.i64.wrap ((p : Int) + ([c.av].length : Int)) = ((p + 1 : Nat) : Int) := by rw [w64] <;> simp <;> omega
      have hmin2 : min (l.length + 1 - p) (l.length + 1 - (p + 1)) = l.length - p := by omega
      repeat ((conv => whnf); first | refine sJ ?_ | refine And.intro (by first | exact ⟨by omega, (show 0 + (l.length + 1) * 5 ≤ _ by rw [hd]; omega), by decide⟩ | kernel_rfl) ?_ | rw [hw])
      try (conv => whnf)
      rw [show (((l.length + 1 : Nat) : Int)).toNat = l.length + 1 from rfl]
      repeat ((conv => whnf); first | refine sJ ?_ | refine And.intro (by first | exact (show InC ((p + 1 : Nat) : Int) (l.length + 1) from ⟨by omega, by omega⟩) | kernel_rfl) ?_ | rw [hw3])
      try (conv => whnf)
      refine CallK.apart (e := 61) (t := 27) (tR := 4) Tryz.func118 (by kernel_rfl) (by kernel_rfl) (by kernel_rfl) (by kernel_rfl) rfl (sz := 5) rfl rfl (by simp) ?_ (by decide) ?_
      · exact (show 0 < l.length + 1 - (p + 1) by omega)
      repeat ((conv => whnf); first | refine sJ ?_ | refine And.intro (by first | exact (show InC ((p + 1 : Nat) : Int) (l.length + 1) from ⟨by omega, by omega⟩) | exact (show InC (p : Int) (l.length + 1) from ⟨by omega, by omega⟩) | exact trivial | kernel_rfl) ?_ | rw [hw3])
      try (conv => whnf)
      have hd3 : (flatE (l.map Cell.av) ++ List.replicate (d * 5) AV.undef).length = l.length * 5 + d * 5 := by rw [hd]; omega
      have hpl : (l.length - p) * 5 + p * 5 = l.length * 5 := by rw [← Nat.add_mul, Nat.sub_add_cancel hp]
      rw [show min (l.length + 1 - (p : Int).toNat) (l.length + 1 - ((p + 1 : Nat) : Int).toNat) = l.length - p from hmin2]
      have hT : 0 + (p + 1) * 5 + (List.take ((l.length - p) * 5) (List.drop (0 + p * 5) (flatE (l.map Cell.av) ++ List.replicate (d * 5) AV.undef))).length ≤ (flatE (l.map Cell.av) ++ List.replicate (d * 5) AV.undef).length := by
        rw [Nat.zero_add (p * 5), eB, hB, hd3]; omega
      refine And.intro ⟨?_, ?_, hT⟩ ?_
      · exact (show (List.take ((l.length - p) * 5) (List.drop (0 + p * 5) (flatE (l.map Cell.av) ++ List.replicate (d * 5) AV.undef))).length = (l.length - p) * 5 by rw [Nat.zero_add, eB, hB])
      · exact (show (List.take ((l.length - p) * 5) (List.drop (0 + p * 5) (flatE (l.map Cell.av) ++ List.replicate (d * 5) AV.undef))).all AV.isCell = true by rw [Nat.zero_add, eB]; exact flatE_cell (cellOk.els _))
      have hmin : min [c.av].length (l.length + 1 - (p : Int).toNat) = 1 := by rw [Int.toNat_natCast]; simp; omega
      repeat ((conv => whnf); first | refine sJ ?_ | refine And.intro (by first | exact (show InC (p : Int) (l.length + 1) from ⟨by omega, by omega⟩) | kernel_rfl) ?_ )
      try (conv => whnf)
      rw [hmin]
      refine And.intro ⟨rfl, rfl, ?_⟩ ?_
      · refine (show 0 + p * 5 + 5 ≤ (splice (flatE (l.map Cell.av) ++ List.replicate (d * 5) AV.undef) (0 + (p + 1) * 5) (List.take ((l.length - p) * 5) (List.drop (0 + p * 5) (flatE (l.map Cell.av) ++ List.replicate (d * 5) AV.undef)))).length from ?_)
        rw [splice_len hT, hd3]; omega
      refine Wk ?_
      have hh := hK1 ((List.replicate (d * 5) AV.undef).drop 5)
      have e : splice (splice (flatE (l.map Cell.av) ++ List.replicate (d * 5) AV.undef) (0 + (p + 1) * 5) (List.take ((l.length - p) * 5) (List.drop (0 + p * 5) (flatE (l.map Cell.av) ++ List.replicate (d * 5) AV.undef)))) (0 + p * 5) c.av.cells = flatE ((insAt l p c).map Cell.av) ++ (List.replicate (d * 5) AV.undef).drop 5 := by
        rw [Nat.zero_add, Nat.zero_add, eB, ins_cells, show (p + 1) * 5 = p * 5 + 5 by omega, cut_cells l p]
        have ig := ins_room (A := flatE ((l.take p).map Cell.av)) (B := flatE ((l.drop p).map Cell.av)) (U := List.replicate (d * 5) AV.undef) (X := c.av.cells) (by rw [hX]; exact hU)
        rw [hA, hX] at ig
        exact ig
      rw [← e] at hh
      exact hh
set_option maxHeartbeats 4000000 in
theorem c_Add (s : Sched) (c : Cell) : PCall Tryz.prog L 28 [s.av, c.av] (.tup [(addM s c).1.av, .int .i64 (addM s c).2]) := by
  refine PCall.intro mixed [11] (nt := 42) Tryz.func28 rfl rfl (by simp) ?_
  refine Wk ?_
  first | refine CallK.data rfl (c_form L s) rfl ?_ | refine CallP.data rfl (c_form L s) rfl ?_
  refine Wk ?_
  refine BrK.mk (fun h1 => ?_) (fun h1 => ?_) <;> (try rw [h1])
  · have h1' : formB s = false := by simpa using h1
    refine Wk ?_
    exact resP.mk rfl (Sees.of_eq (by rw [addM, if_pos h1']; rfl))
  have h1' : formB s = true := by simpa using h1
  refine Wk ?_
  first | refine CallK.data rfl (c_formed L s c) rfl ?_ | refine CallP.data rfl (c_formed L s c) rfl ?_
  refine Wk ?_
  refine BrK.mk (fun h2 => ?_) (fun h2 => ?_) <;> (try rw [h2])
  · have h2' : formedB s c = false := by simpa using h2
    refine Wk ?_
    exact resP.mk rfl (Sees.of_eq (by rw [addM, if_neg (by simp [h1']), if_pos h2']; rfl))
  have h2' : formedB s c = true := by simpa using h2
  obtain ⟨f1, f2, f3⟩ := form_all h1'
  refine Wk ?_
  first | refine CallK.data rfl (c_BinCell L s.cells c 69 (cellTo c) (by omega) rfl (formB_mono h1' c) (fun x _ => c_compare L x c)) rfl ?_ | refine CallP.data rfl (c_BinCell L s.cells c 69 (cellTo c) (by omega) rfl (formB_mono h1' c) (fun x _ => c_compare L x c)) rfl ?_
  rw [show posB (cellTo c) s.cells = posC s c from rfl, show hasB (cellTo c) s.cells = hasC s c from rfl]
  have hp : posC s c ≤ s.cells.length := posB_le _ _
  refine Wk ?_
  refine BrK.mk (fun h3 => ?_) (fun h3 => ?_) <;> (try rw [h3])
  · refine Wk ?_
    exact resP.mk rfl (Sees.of_eq (by rw [addM, if_neg (by simp [h1']), if_neg (by simp [h2']), if_pos h3]; rfl))
  refine Wk ?_
  refine BrK.mk (fun h4 => ?_) (fun h4 => ?_) <;> (try rw [h4])
  · have h4' : s.cells.length = 512 := by simp at h4; omega
    refine Wk ?_
    exact resP.mk rfl (Sees.of_eq (by rw [addM, if_neg (by simp [h1']), if_neg (by simp [h2']), if_neg (by simp [h3]), if_pos h4']; rfl))
  have h4' : ¬ s.cells.length = 512 := by simp at h4; omega
  refine Wk ?_
  have hres : (addM s c) = (⟨s.len, s.offs, insAt s.cells (posC s c) c⟩, 0) := by rw [addM, if_neg (by simp [h1']), if_neg (by simp [h2']), if_neg (by simp [h3]), if_neg h4']
  rw [hres]
  clear hres
  by_cases hne : s.cells = []
  · obtain ⟨len, offs, cells⟩ := s
    simp only at hne
    subst hne
    rw [show posC ⟨len, offs, []⟩ c = 0 from rfl]
    refine SeqK.semk mixed [] (SemK.regionStil mixed [0, 3] 7 rfl rfl (by decide) rfl ?_)
    iterate 2
      conv => whnf
      apply exV
      · intro S K' hh
        refine Wk ?_
        exact hh
    repeat' ((conv => whnf); first | exact trivial | refine sJ ?_ | refine And.intro (by first | exact trivial | exact ⟨by decide, by decide⟩ | kernel_rfl) ?_ | refine And.intro ?_ ?_ | refine CallK.inl rfl (ICall.intro mixed [] (nt := 8) Tryz.func46 rfl rfl (by simp) ?_) | refine CallK.inl rfl (ICall.intro mixed [] (nt := 95) Tryz.func70 rfl rfl (by simp) ?_) | (refine BrK.mk (fun h => ?_) (fun h => ?_)) | (intro b; cases b))
    all_goals first | exact resP.mk (by rfl) (Sees.of_eq rfl) | exact Int.le_refl 0
  refine SeqK.semk mixed [] (SemK.regionStil mixed [0, 3] 7 rfl rfl (by decide) rfl ?_)
  iterate 2
    conv => whnf
    apply exV
    · intro S K' hh
      refine Wk ?_
      exact hh
  repeat' ((conv => whnf); first | exact trivial | refine sJ ?_ | refine And.intro (by first | exact trivial | kernel_rfl) ?_ | refine And.intro ?_ ?_ | refine CallK.fresh rfl (c_CloneCell L s.cells hne (by omega)) (by rfl) (cellOk.els _) (cellOk.scal (fun _ => rfl) _) (fun h => absurd (by simpa using h) hne) (fun d => ?_) | refine CallK.inl rfl (i_InsertCell L _ _ _ _ _ _ s.cells c (posC s c) _ hp f2 _ (by simp) (fun ex => ?_) (fun o ex => ?_)))
  all_goals exact resP.mk (fzAdd (cellOk.fzb rfl (insAt_len _ _ _))) (Sees.rfl' _)
end
end HM
set_option maxRecDepth 100000
namespace HM
open Go Go.RowKit Go.Proofs
end HM
set_option maxRecDepth 100000
namespace HM
open Go Go.RowKit Go.Proofs
section
variable (L : World → Prop)
end
end HM
set_option maxRecDepth 100000
namespace HM
open Go Go.RowKit Go.Proofs
section
variable (L : World → Prop)
end
end HM
set_option maxRecDepth 100000
namespace HM
open Go Go.RowKit Go.Proofs
section
variable (L : World → Prop)
end
end HM
set_option maxRecDepth 100000
namespace HM
open Go Go.RowKit Go.Proofs
section
variable (L : World → Prop)
end
end HM
set_option maxRecDepth 100000
namespace HM
open Go Go.RowKit Go.Proofs
section
variable (L : World → Prop)
end
end HM
set_option maxRecDepth 100000
namespace HM
open Go Go.RowKit Go.Proofs
section
variable (L : World → Prop)
end
end HM
set_option maxRecDepth 100000
namespace HM
open Go Go.RowKit Go.Proofs
end HM
