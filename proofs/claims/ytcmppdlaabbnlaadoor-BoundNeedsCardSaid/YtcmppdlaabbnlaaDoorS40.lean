/- The reference's Release, Route, Least and Slack. -/
import Derived.Test.YtcmppdlaabbnlaaDoorS39

set_option maxRecDepth 100000
namespace HM
open Go Go.RowKit Go.Proofs
section
variable (L : World → Prop)

theorem relR_none {n : Net} {s : Sched} {f : Flow} {r : List Int} {more rel : Int} (h : slotsW n s f r rel more = none) : relR n s f r more rel = none := by rw [relR, h]; rfl
theorem slotsW_some {n : Net} {s : Sched} {f : Flow} {r : List Int} {more rel : Int} {l : List Int} (hw : WayOk n s f r) (hm0 : 0 ≤ more) (hm1 : more ≤ 8) (h : slotsW n s f r rel more = some l) :
    ∃ z, l.getLast? = some z ∧ relR n s f r more rel = some (z - rel + 1, l.map (· - rel)) ∧ rel ≤ z ∧ z < rel + f.period ∧ l.length ≤ 144 ∧ l ≠ [] ∧ ∀ x ∈ l, rel ≤ x ∧ x < rel + f.period := by
  have hl := hw.len
  have hfl := hw.flow
  unfold slotsW at h
  cases hu : slotsUp n s f r rel more (r.length - 1) with
  | none => rw [hu] at h; cases h
  | some oa =>
    obtain ⟨o, a⟩ := oa
    rw [hu] at h
    injection h with h
    simp only at h
    subst h
    obtain ⟨u1, u2, u3, u4⟩ := slotsUp_ok (by omega) hu
    have hnu := hw.need hm0 hm1 (k := r.length - 1) (Nat.le_refl _)
    obtain ⟨_, l, _, _, _, _, g1, g2, g3⟩ := hw.at (i := 0) (by omega)
    have h1 : needUp n r more 1 ≤ needUp n r more (r.length - 1) := needUp_mono (by omega)
    have h2 : 0 < needAt n r more 0 := by unfold needAt; rw [g3]; omega
    have h3 : needUp n r more 1 = needAt n r more 0 := by simp [needUp]
    have hne : o ≠ [] := by rintro rfl; simp at u1; omega
    obtain ⟨z, hz⟩ := Option.isSome_iff_exists.1 (List.getLast?_isSome.2 hne)
    have hzb := u4 z (List.mem_of_getLast? hz)
    exact ⟨z, hz, by rw [relR, slotsW, hu]; simp [List.getLastD_eq_getLast?, hz], hzb.1, hzb.2, by omega, hne, u4⟩

