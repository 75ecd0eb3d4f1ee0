/- One changed byte changes the checksum: plain facts. -/
import Derived.Test.YtlcgpldngooekaaSum
namespace Go.Proofs.Ytlcgpldngooekaa
open Go.RowKit
theorem stS_sum (l : List Int) : (stS l).1 = (1 + l.sum) % 65521 := by
  rw [← List.take_length (l := l)]
  generalize l.length = n
  induction n generalizing l with
  | zero => simp [stS]
  | succ n ih =>
    rcases h : l[n]? with _ | z
    · have : l.take (n + 1) = l.take n := by
        rw [List.take_of_length_le, List.take_of_length_le] <;> (have := List.getElem?_eq_none_iff.1 h; omega)
      rw [this]; exact ih l
    · rw [take_snoc h, stS_snoc, List.sum_append]
      unfold stepS
      simp only [ih l, List.sum_cons, List.sum_nil]
      omega
theorem set_parts (l : List Int) (k : Nat) (z x : Int) (h : l[k]? = some z) : l.set k x = l.take k ++ x :: l.drop (k + 1) ∧ l = l.take k ++ z :: l.drop (k + 1) := by
  refine ⟨List.set_eq_take_append_cons_drop.trans (if_pos (List.getElem?_eq_some_iff.1 h).1), ?_⟩
  rw [← drop_cons h, List.take_append_drop]
theorem sumV_set (l : List Int) (k : Nat) (z x : Int) (h : l[k]? = some z) (hz : 0 ≤ z ∧ z ≤ 255) (hx : 0 ≤ x ∧ x ≤ 255) : (sumV (l.set k x) == sumV l) = (z == x) := by
  obtain ⟨e1, e2⟩ := set_parts l k z x h
  by_cases hzx : z = x
  · subst hzx
    rw [e1, ← e2]; simp
  · have h1 := stS_sum (l.set k x)
    have h2 := stS_sum l
    have s1 : (l.set k x).sum = (l.take k).sum + (x + (l.drop (k + 1)).sum) := by rw [e1, List.sum_append, List.sum_cons]
    have s2 : l.sum = (l.take k).sum + (z + (l.drop (k + 1)).sum) := by
      conv => lhs; rw [e2]
      rw [List.sum_append, List.sum_cons]
    have b1 := stS_bd (l.set k x)
    have b2 := stS_bd l
    have : sumV (l.set k x) ≠ sumV l := by unfold sumV; omega
    rw [beq_eq_false_iff_ne.2 this, beq_eq_false_iff_ne.2 hzx]
theorem bytes_set {l : List Int} {k : Nat} {x : Int} (h : Bytes l) (hx : 0 ≤ x ∧ x ≤ 255) : Bytes (l.set k x) := by
  intro y hy
  rcases List.mem_or_eq_of_mem_set hy with hy | rfl
  · exact h y hy
  · exact hx
end Go.Proofs.Ytlcgpldngooekaa
