/- The references on networks, flows and routes. -/
import Derived.Test.YtnhelkbmeggpkaaDoorS32

set_option maxRecDepth 100000
namespace HM
open Go Go.RowKit Go.Proofs
section
variable (L : World → Prop)





theorem link_lt {p l : Link} : decide (p.cmp l < 0) = !(decide (l.src < p.src) || (p.src == l.src && decide (l.dst ≤ p.dst))) := by
  unfold Link.cmp Link.key cmpL cmpL cmpL
  rw [Bool.eq_iff_iff]
  by_cases h1 : p.src = l.src
  · rw [if_pos (cmpI_eq.2 h1)]
    by_cases h2 : p.dst = l.dst
    · rw [if_pos (cmpI_eq.2 h2)]; simp [h1, h2]
    · rw [if_neg (fun h => h2 (cmpI_eq.1 h))]
      simp [cmpI_lt, h1] <;> omega
  · rw [if_neg (fun h => h1 (cmpI_eq.1 h))]
    simp [cmpI_lt, h1] <;> omega





















