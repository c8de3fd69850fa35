/- A cell less: slices.Delete; the schedule behind a change. -/
import Derived.Test.YtgfboaadhlhjhaaGreatDoorS34
import Derived.Test.YtgfboaadhlhjhaaGreatDoorDb
import Derived.Test.YtgfboaadhlhjhaaGreatDoorFh
set_option maxRecDepth 100000
namespace HM
open Go Go.RowKit Go.Proofs
section
variable (L : World → Prop)
end
end HM
set_option maxRecDepth 100000
namespace HM
open Go Go.RowKit Go.Proofs
section
variable (L : World → Prop)
structure Upd (S S1 : St) (b : Nat) : Prop where
  bx : ∀ (id : Nat) (o : Ob), id ≠ b → S.bx[id]? = some o → S1.bx[id]? = some o
  fr : S1.fr = S.fr
  ty : S1.ty = S.ty
theorem Upd.refl (S : St) (b : Nat) : Upd S S b := ⟨fun _ _ _ h => h, rfl, rfl⟩
theorem Upd.setB {S S1 : St} {b : Nat} (h : Upd S S1 b) (o : Ob) : Upd S (S1.setB b o) b := ⟨fun id o' hne h1 => by rw [St.setB_ne hne.symm]; exact h.bx id o' hne h1, h.fr, h.ty⟩
theorem Upd.addB {S S1 : St} {b : Nat} (h : Upd S S1 b) (o : Ob) : Upd S (S1.addB o) b := ⟨fun id o' hne h1 => St.addB_old (h.bx id o' hne h1), h.fr, h.ty⟩
end
end HM
