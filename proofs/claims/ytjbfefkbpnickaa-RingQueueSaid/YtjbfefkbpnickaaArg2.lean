/- A list of items as an argument, its bounds too. -/
import Derived.Test.YtjbfefkbpnickaaArg
namespace Go.Proofs.Ytjbfefkbpnickaa
open Go.RowKit Go.ChangeShapes Go.WideShapes Go.Deep Go.Joins
set_option linter.unusedVariables false
section
variable {H : Type} {enc : TypeId × Value → H} {W : World} {base : Nat} {spare : Nat → Bool} {held : Bool}
theorem arg_items2 {fuel : Nat} {v : Value} {x : DataW H × List MemPlace} (h : DataW.trod enc Try.prog W base spare held fuel 22 [v] = some x) :
    ∃ A n c l, v = .slice A n c ∧ Sl2 W W.heap.size A n l ∧ n ≤ c ∧ c ≤ maxLen := by
  rcases open_slice_pairs Try.underlying22 Try.underlying33 (by kernel_rfl) rfl rfl (by kernel_rfl) (by kernel_rfl) h with ⟨hcs, _⟩ | ⟨a, len, cap, m, n, V0, V1, D0, D1, P0, P1, hcs, _, hl, hm, hmm, _, hx⟩
  · simp at hcs
    exact ⟨none, 0, 0, [], hcs, Sl2.none_, Nat.le_refl _, Nat.zero_le _⟩
  · simp at hcs
    have hlm : len ≤ m := by rw [hmm]; split <;> omega
    refine ⟨some a, len, cap, (List.range len).map fun i => (intOf (V0 i), intOf (V1 i)), hcs, ⟨by simp, fun hn => ?_⟩, hl, hm⟩
    have hi : ∀ i, i < len → W.cell? (a.add (i * 2)) = some (.int .i64 (intOf (V0 i))) ∧ W.cell? (a.add (i * 2 + 1)) = some (.int .i64 (intOf (V1 i))) := by
      intro i hi
      obtain ⟨h1, h2, h3, h4⟩ := hx i (by omega)
      obtain ⟨z1, e1, _, _⟩ := DataW.trod_int Try.underlying2 h3
      obtain ⟨z2, e2, _, _⟩ := DataW.trod_int Try.underlying2 h4
      simp at e1 e2
      rw [h1, h2, e1, e2]; exact ⟨rfl, rfl⟩
    obtain ⟨b, o, s⟩ := a
    have h0 := (hi 0 hn).1
    obtain rfl : s = none := by simpa [Addr.add] using World.cell?_spot h0
    have hadd : ∀ j, (⟨b, o, none⟩ : Addr).add j = ⟨b, o + j, none⟩ := by
      intro j
      unfold Addr.add
      split
      · have hj : j = 0 := by assumption
        subst hj; rfl
      · rfl
    refine ⟨b, o, rfl, ?_, fun i p hp => ?_⟩
    · rw [hadd] at h0; exact cell_lt h0
    · rw [List.getElem?_map] at hp
      rcases Nat.lt_or_ge i len with hil | hil
      · rw [List.getElem?_range hil] at hp
        simp at hp; subst hp
        have := hi i hil
        rw [hadd, hadd, ← Nat.add_assoc] at this
        exact this
      · rw [List.getElem?_eq_none (by simp; omega)] at hp; simp at hp
end
end Go.Proofs.Ytjbfefkbpnickaa
