/- The text of a schedule. -/
import Derived.Test.YtadgamkgpgiodaaGreatDoorS5
import Derived.Lib.UnsafeStr
import Derived.Lib.FrozenHead
import Derived.RegionTactic
import Derived.ChangeAlike
import Derived.WalkKit

set_option maxRecDepth 100000
namespace HM
open Go Go.RowKit Go.Proofs

theorem bl_String (w : World) (b g : Nat) (p : Value) (cur : Array Value) (cap : Nat) (l : List UInt8) (h0 : l ≠ []) (hbk : w.heap[b]? = some (.cells #[p, .slice (some ⟨g, 0, none⟩) l.length cap] 115 (0, 0)))
    (hg : w.heap[g]? = some (.cells cur 5 (0, 0))) (hnc : l.length ≤ cap) (hsz : l.length ≤ cur.size) (h63 : l.length ≤ 9223372036854775807) (hcell : ∀ j x, l[j]? = some x → w.cell? ⟨g, j, none⟩ = some (.int .u8 x.toNat)) :
    Calls Tryz.prog 54 #[.pointer (some ⟨b, 0, none⟩)] w fun e w' => e = .returned (.string ⟨l.toArray⟩) ∧ w' = w.drew.freeze ⟨g, 0, none⟩ l.length := by
  have hl0 : l.length ≠ 0 := by simpa using h0
  have c1 : w.drew.cell? ⟨b, 1, none⟩ = some (.slice (some ⟨g, 0, none⟩) l.length cap) := by
    have : w.drew.heap[b]? = some (.cells #[p, .slice (some ⟨g, 0, none⟩) l.length cap] 115 (0, 0)) := hbk
    rw [Lib.cell_of_heap this]; rfl
  have hSD : (Builtin.unsafeSliceData_ #[113] 156 #[.slice (some ⟨g, 0, none⟩) l.length cap]).run Tryz.prog w.drew = .ok (.pointer (some ⟨g, 0, none⟩)) w.drew :=
    Lib.run_unsafeSliceData_row _ _ _ _ _ _ (by omega)
  have hUS : (Builtin.unsafeString_ #[156, 3] 9 #[.pointer (some ⟨g, 0, none⟩), .int .i64 l.length]).run Tryz.prog w.drew = .ok (.string ⟨l.toArray⟩) (w.drew.freeze ⟨g, 0, none⟩ l.length) := by
    refine Lib.run_unsafeString_row w.drew 156 3 9 5 (by kernel_rfl) (by kernel_rfl) g cur.size (by have hg' : w.drew.heap[g]? = some (.cells cur 5 (0, 0)) := hg; simp [World.shape?, hg']) l h0 (by omega) h63 ?_
    intro j x hx
    rw [Addr.add_lit, Nat.zero_add]
    exact hcell j x hx
  go_enter Tryz.func54, Tryz.ntmps54
  go_wp2
  go_region
  all_goals (go_wp2; go_ret; exact ⟨rfl, rfl⟩)

def byteL (l : List UInt8) : List AV := l.map fun x => .int .u8 x.toNat
theorem k_String {L : World → Prop} {S : St} {id ch : Nat} {p : AV} {l : List UInt8} {K : AV → St → Prop} (hb : S.bx[id]? = some (.cells [p, .own (byteL l) ch] 115)) (hF : S.fr[ch]? = some (l.length, 1)) (hty : S.ty ch = 5) (h0 : l ≠ [])
    (h63 : l.length ≤ 9223372036854775807) (hK : K (.str ⟨l.toArray⟩) { S with fr := S.fr.set ch (l.length + 1, 1) }) : CallK Tryz.prog L S (.fn 54 []) [.ptr id 0] K := by
  refine ⟨fun ro w0 G w fvv vals hS ⟨cvs, hfe, hcv⟩ hargs => ?_⟩
  subst hfe
  obtain ⟨u, us, rfl, ⟨b, hρ, rfl⟩, hus⟩ := hargs
  obtain rfl : us = [] := hus
  have hcv : cvs.toList = [] := hcv
  have hcv : cvs = #[] := by simpa using hcv
  subst hcv
  refine CallSem.fn rfl ?_
  obtain ⟨b', ob, hr', hheap, arr, rfl, hasz, hv⟩ := hS.bx id _ hb rfl
  rw [hρ] at hr'; injection hr' with hr'; subst hr'
  have hlen2 : arr.size = 2 := by simpa using hasz
  rw [List.take_of_length_le (by simp; omega)] at hv
  obtain ⟨pv, us, hl1, hp, bv, us2, hl2, hown, hl3⟩ := hv
  have hl3 : us2 = [] := hl3
  subst hl3; subst hl2
  have harr : arr = #[pv, bv] := by apply Array.ext'; simpa using hl1
  subst harr
  obtain ⟨F, sz, hF', hle, huni, hv⟩ := hown
  rw [hF] at hF'; injection hF' with hF'; injection hF' with e1 e2; subst e1; subst e2
  have hll : (byteL l).length = l.length := by simp [byteL]
  rcases hv with ⟨_, hn, _⟩ | ⟨g, o, c, rfl, hc, hlt, hok, hm, hal⟩
  · have := congrArg List.length hn; rw [hll] at this; exact absurd (List.eq_nil_of_length_eq_zero this) h0
  obtain ⟨hχ, rfl, cur, tt, hrow, hcs, _⟩ := hal hll
  obtain ⟨_, ⟨cur', fz, hrow'⟩, _⟩ := (hS.ch ch _ _ hF).2 g hχ
  rw [hrow] at hrow'; injection hrow' with hrow'; injection hrow' with f1 f2 f3
  have htt : tt = 5 := f2.trans hty
  subst htt
  have hcell : ∀ j x, l[j]? = some x → w.cell? ⟨g, j, none⟩ = some (.int .u8 x.toNat) := by
    intro j x hx
    obtain ⟨u, hu, hn, ha⟩ := MC.get (sz := 1) (i := j) huni hm (e := .int .u8 x.toNat) (by simp [byteL, hx])
    obtain rfl : u = _ := hu
    have := ha 0 (.int .u8 x.toNat) rfl
    simpa using this
  rw [hll] at hheap hc
  refine (bl_String w b g pv cur c l h0 hheap hrow hc (by omega) h63 hcell).mono fun e w' ⟨he, hw⟩ => ⟨_, he, ?_⟩
  have hfr : (w.drew.freeze ⟨g, 0, none⟩ l.length).os = w.os ∧ (w.drew.freeze ⟨g, 0, none⟩ l.length).tape = w.tape ∧ (w.drew.freeze ⟨g, 0, none⟩ l.length).output = w.output ∧ (w.drew.freeze ⟨g, 0, none⟩ l.length).heap.size = w.heap.size ∧
      (∀ k, k ≠ g → (w.drew.freeze ⟨g, 0, none⟩ l.length).heap[k]? = w.heap[k]?) ∧ ∀ arr t fz, w.heap[g]? = some (.cells arr t fz) → ∃ fz', (w.drew.freeze ⟨g, 0, none⟩ l.length).heap[g]? = some (.cells arr t fz') := by
    unfold World.freeze
    split
    · exact ⟨rfl, rfl, rfl, rfl, fun _ _ => rfl, fun arr t fz h => ⟨fz, h⟩⟩
    · refine ⟨rfl, rfl, rfl, by simp, fun k hk => ?_, fun arr t fz h => ?_⟩
      · simp only [Array.getElem?_modify]
        rw [if_neg (Ne.symm hk)]; rfl
      · simp only [Array.getElem?_modify, if_true]
        have h' : w.drew.heap[g]? = some (.cells arr t fz) := h
        rw [h']
        exact ⟨_, rfl⟩
  rw [← hw] at hfr
  obtain ⟨q1, q2, q3, q4, q5, q6⟩ := hfr
  obtain ⟨g1, g2⟩ := hS.froze hF hχ w' q1 q2 q3 q4 q5 q6
  exact ⟨G, _, .str ⟨l.toArray⟩, g1, g2, rfl, hK⟩
end HM
