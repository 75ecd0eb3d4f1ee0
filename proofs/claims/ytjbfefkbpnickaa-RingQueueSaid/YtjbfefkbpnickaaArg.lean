/- A buffer, an item and a list of items as arguments: what the reading of them says of memory. -/
import Derived.Test.YtjbfefkbpnickaaItem
import Derived.Deep.SlicePairs
import Derived.Lib.SmallJoins
namespace Go.Proofs.Ytjbfefkbpnickaa
open Go.RowKit Go.ChangeShapes Go.WideShapes Go.Deep Go.Joins
set_option linter.unusedVariables false
section
variable {H : Type} {enc : TypeId × Value → H} {W : World} {base : Nat} {spare : Nat → Bool} {held : Bool}
theorem arg_items {fuel : Nat} {v : Value} {x : DataW H × List MemPlace} (h : DataW.trod enc Try.prog W base spare held fuel 22 [v] = some x) :
    ∃ A n c l, v = .slice A n c ∧ Sl2 W W.heap.size A n l := by
  rcases open_slice_pairs Try.underlying22 Try.underlying33 (by kernel_rfl) rfl rfl (by kernel_rfl) (by kernel_rfl) h with ⟨hcs, _⟩ | ⟨a, len, cap, m, n, V0, V1, D0, D1, P0, P1, hcs, _, hl, hm, hmm, _, hx⟩
  · simp at hcs
    exact ⟨none, 0, 0, [], hcs, Sl2.none_⟩
  · simp at hcs
    have hlm : len ≤ m := by rw [hmm]; split <;> omega
    refine ⟨some a, len, cap, (List.range len).map fun i => (intOf (V0 i), intOf (V1 i)), hcs, by simp, fun hn => ?_⟩
    have hi : ∀ i, i < len → W.cell? (a.add (i * 2)) = some (.int .i64 (intOf (V0 i))) ∧ W.cell? (a.add (i * 2 + 1)) = some (.int .i64 (intOf (V1 i))) := by
      intro i hi
      obtain ⟨h1, h2, h3, h4⟩ := hx i (by omega)
      obtain ⟨z1, e1, _, _⟩ := DataW.trod_int Try.underlying2 h3
      obtain ⟨z2, e2, _, _⟩ := DataW.trod_int Try.underlying2 h4
      simp at e1 e2
      rw [h1, h2, e1, e2]; exact ⟨rfl, rfl⟩
    obtain ⟨b, o, s⟩ := a
    have h0 := (hi 0 hn).1
    obtain rfl : s = none := by simpa [Addr.add] using World.cell?_spot h0
    have hadd : ∀ j, (⟨b, o, none⟩ : Addr).add j = ⟨b, o + j, none⟩ := by
      intro j
      unfold Addr.add
      split
      · have hj : j = 0 := by assumption
        subst hj; rfl
      · rfl
    refine ⟨b, o, rfl, ?_, fun i p hp => ?_⟩
    · rw [hadd] at h0; exact cell_lt h0
    · rw [List.getElem?_map] at hp
      rcases Nat.lt_or_ge i len with hil | hil
      · rw [List.getElem?_range hil] at hp
        simp at hp; subst hp
        have := hi i hil
        rw [hadd, hadd, ← Nat.add_assoc] at this
        exact this
      · rw [List.getElem?_eq_none (by simp; omega)] at hp; simp at hp
theorem arg_ring {r : Reach} {b0 : Nat} {v : Value} {d : DataW H} {p : List MemPlace} (hv : Value.okWide Try.prog W r b0 24 v) (h : DataW.Trod enc Try.prog W base spare held 24 v d p) :
    ∃ cap head len A n c l, v = ringV cap head len A n c ∧ Sl2 W W.heap.size A n l := by
  obtain ⟨v0, v1, v2, v3, y0, y1, y2, y3, n, rfl, _, _, t0, t1, t2, t3⟩ := open_agg4 Try.underlying24 (by kernel_rfl) (by kernel_rfl) hv h
  obtain ⟨z0, e0, _, _⟩ := DataW.trod_int Try.underlying3 t0
  obtain ⟨z1, e1, _, _⟩ := DataW.trod_int Try.underlying3 t1
  obtain ⟨z2, e2, _, _⟩ := DataW.trod_int Try.underlying3 t2
  obtain ⟨A, k, c, l, e3, hs⟩ := arg_items t3
  simp at e0 e1 e2
  subst e0 e1 e2 e3
  exact ⟨z0, z1, z2, A, k, c, l, rfl, hs⟩
theorem arg_item {r : Reach} {b0 : Nat} {v : Value} {d : DataW H} {p : List MemPlace} (hv : Value.okWide Try.prog W r b0 33 v) (h : DataW.Trod enc Try.prog W base spare held 33 v d p) :
    ∃ q : Int × Int, v = itV q := by
  obtain ⟨v0, v1, y0, y1, n, rfl, _, _, t0, t1⟩ := open_agg2 Try.underlying33 (by kernel_rfl) (by kernel_rfl) hv h
  obtain ⟨z0, e0, _, _⟩ := DataW.trod_int Try.underlying2 t0
  obtain ⟨z1, e1, _, _⟩ := DataW.trod_int Try.underlying2 t1
  simp at e0 e1
  subst e0 e1
  exact ⟨(z0, z1), rfl⟩
end
end Go.Proofs.Ytjbfefkbpnickaa
