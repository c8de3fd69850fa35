/- Requests with one more, as the reference finds them. -/
import Derived.Test.YtgfboaadhlhjhaaGreatDoorDc
namespace HM
open Go Go.RowKit
theorem posQ_at {q : List Req} {x : Req} (hs : q.Pairwise fun a b => a.flow.id < b.flow.id) (hno : hasQ q x.flow.id = false) {k : Nat} {y : Req} (hk : q[k]? = some y) : x.flow.id < y.flow.id ↔ posQ x q ≤ k := by
  constructor
  · intro h
    rcases Nat.lt_or_ge k (posQ x q) with h1 | h1
    · have this : cmpI y.flow.id x.flow.id < 0 := posB_lt (c := fun y : Req => cmpI y.flow.id x.flow.id) h1 hk
      unfold cmpI at this
      rw [if_neg (by omega), if_pos h] at this
      omega
    · exact h1
  · intro h
    have hkl := (List.getElem?_eq_some_iff.1 hk).1
    obtain ⟨z, hz⟩ := getLt (l := q) (k := posQ x q) (by omega)
    have h1 : ¬ cmpI z.flow.id x.flow.id < 0 := posB_ge (c := fun y : Req => cmpI y.flow.id x.flow.id) hz
    have h2 : z.flow.id ≠ x.flow.id := fun he => by
      have := List.any_eq_false.1 hno z (List.mem_of_getElem? hz)
      simp [he] at this
    have h3 : x.flow.id < z.flow.id := by
      unfold cmpI at h1
      split at h1
      · omega
      · split at h1 <;> omega
    rcases Nat.lt_or_eq_of_le h with h4 | h4
    · have h5 := List.pairwise_iff_getElem.1 hs (posQ x q) k (List.getElem?_eq_some_iff.1 hz).1 hkl h4
      rw [(List.getElem?_eq_some_iff.1 hz).2, (List.getElem?_eq_some_iff.1 hk).2] at h5
      omega
    · subst h4
      rw [hz] at hk; injection hk with hk; subst hk
      exact h3
def withQ (q : List Req) (x : Req) (k : Nat) : List Req := if k ≤ posQ x q then q.take k else insAt (q.take k) (posQ x q) x
theorem withQ_succ {q : List Req} {x : Req} {k : Nat} {y : Req} (hk : q[k]? = some y) : withQ q x (k + 1) = withQ q x k ++ if k = posQ x q then [x, y] else [y] := by
  unfold withQ
  have hkl := (List.getElem?_eq_some_iff.1 hk).1
  have ht := take_succ hk
  have hl : (q.take k).length = k := by rw [List.length_take]; omega
  rcases Nat.lt_trichotomy k (posQ x q) with h | h | h
  · rw [if_pos (by omega), if_pos (by omega), if_neg (by omega), ht]
  · rw [if_neg (by omega), if_pos (by omega), if_pos h, ht, ← h]
    unfold insAt
    rw [List.take_append_of_le_length (by omega), List.take_of_length_le (by omega), List.drop_append_of_le_length (by omega), List.drop_of_length_le (by omega)]
    rfl
  · rw [if_neg (by omega), if_neg (by omega), if_neg (by omega), ht]
    unfold insAt
    rw [List.take_append_of_le_length (by omega), List.drop_append_of_le_length (by omega), List.append_assoc]
    rfl
theorem withQ_end {q : List Req} {x : Req} : insQ q x = if posQ x q < q.length then withQ q x q.length else withQ q x q.length ++ [x] := by
  have hp : posQ x q ≤ q.length := posB_le _ _
  unfold withQ insQ
  rw [List.take_length]
  split
  · rw [if_neg (by omega)]
  · rw [if_pos (by omega)]
    have : posQ x q = q.length := by omega
    unfold insAt
    rw [this, List.take_length, List.drop_length]
theorem withQ_len (q : List Req) (x : Req) (k : Nat) : (withQ q x k).length ≤ q.length + 1 := by
  unfold withQ
  split
  · rw [List.length_take]; omega
  · rw [insAt_len, List.length_take]; omega
theorem withQ_zero (q : List Req) (x : Req) : withQ q x 0 = [] := by
  unfold withQ
  rw [if_pos (by omega)]; simp
end HM
