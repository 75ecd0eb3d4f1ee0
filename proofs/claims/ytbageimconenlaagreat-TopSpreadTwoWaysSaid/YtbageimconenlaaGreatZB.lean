/- A list of items as an argument: what the reading of it says of memory. -/
import Derived.Test.YtbageimconenlaaGreatNT
import Derived.Deep.SlicePairs
import Derived.Lib.SmallJoins
namespace Go.Proofs.YtbageimconenlaaGreat
open Go.RowKit Go.ChangeShapes Go.WideShapes Go.Deep Go.Joins En
set_option linter.unusedVariables false
theorem itL_range (f g : Nat → Int) : ∀ n, itL ((List.range n).map fun i => (⟨f i, g i⟩ : It)) = (List.range n).flatMap fun i => [.int .i64 (f i), .int .i64 (g i)]
  | 0 => rfl
  | n + 1 => by
    rw [List.range_succ, List.map_append, List.flatMap_append, itL_append, itL_range f g n]; rfl
section
variable {H : Type} {enc : TypeId × Value → H} {W : World} {base : Nat} {spare : Nat → Bool} {held : Bool}
theorem wf_r {z : Int} (h : (Lit.int .i64 z).wf = true) : -9223372036854775808 ≤ z ∧ z ≤ 9223372036854775807 := by
  have h1 : IntKind.i64.min ≤ z ∧ z ≤ 9223372036854775807 := by simpa [Lit.wf] using h
  exact ⟨h1.1, h1.2⟩
theorem arg_its {fuel : Nat} {v : Value} {x : DataW H × List MemPlace} (h : DataW.trod enc Tryz.prog W base spare held fuel 26 [v] = some x) :
    ∃ A n c l, v = .slice A n c ∧ SL W A n c 2 (itL l) ∧ l.length = n ∧ ∀ x ∈ l, R64 x := by
  rcases open_slice_pairs Tryz.underlying26 Tryz.underlying88 (by kernel_rfl) rfl rfl (by kernel_rfl) (by kernel_rfl) h with ⟨hcs, _⟩ | ⟨a, len, cap, m, n, V0, V1, D0, D1, P0, P1, hcs, _, hl, hm, hmm, _, hx⟩
  · simp at hcs
    exact ⟨none, 0, 0, [], hcs, ⟨⟨rfl, fun hn => absurd hn (Nat.lt_irrefl _)⟩, Nat.le_refl _, Nat.zero_le _⟩, rfl, fun x hx => absurd hx List.not_mem_nil⟩
  · simp at hcs
    have hlm : len ≤ m := by rw [hmm]; split <;> omega
    have hi : ∀ i, i < len → (∃ z1 z2 : Int, W.cell? (a.add (i * 2)) = some (.int .i64 z1) ∧ W.cell? (a.add (i * 2 + 1)) = some (.int .i64 z2) ∧ R64 ⟨z1, z2⟩) := by
      intro i hi
      obtain ⟨h1, h2, h3, h4⟩ := hx i (by omega)
      obtain ⟨z1, e1, _, w1⟩ := DataW.trod_int Tryz.underlying2 h3
      obtain ⟨z2, e2, _, w2⟩ := DataW.trod_int Tryz.underlying2 h4
      simp at e1 e2
      exact ⟨z1, z2, by rw [h1, e1], by rw [h2, e2], wf_r w1, wf_r w2⟩
    let ff : Nat → It := fun i => if hlt : i < len then ⟨(hi i hlt).choose, (hi i hlt).choose_spec.choose⟩ else ⟨0, 0⟩
    have hff : ∀ i, i < len → W.cell? (a.add (i * 2)) = some (.int .i64 (ff i).t) ∧ W.cell? (a.add (i * 2 + 1)) = some (.int .i64 (ff i).v) ∧ R64 (ff i) := fun i hlt => by
      have e : ff i = ⟨(hi i hlt).choose, (hi i hlt).choose_spec.choose⟩ := dif_pos hlt
      rw [e]
      exact (hi i hlt).choose_spec.choose_spec
    clear_value ff
    refine ⟨some a, len, cap, (List.range len).map ff, hcs, ⟨⟨by rw [itL_len]; simp, fun hn => ?_⟩, hl, hm⟩, by simp, fun x hx => ?_⟩
    · obtain ⟨b, o, s⟩ := a
      have h0 := (hff 0 hn).1
      obtain rfl : s = none := by simpa [Addr.add] using World.cell?_spot h0
      have hadd : ∀ j, (⟨b, o, none⟩ : Addr).add j = ⟨b, o + j, none⟩ := by
        intro j
        unfold Addr.add
        split
        · have hj : j = 0 := by assumption
          subst hj; rfl
        · rfl
      refine ⟨b, o, rfl, ?_, fun i u hu => ?_⟩
      · rw [hadd] at h0; exact cell_lt h0
      · have hil : i < len * 2 := by
          have := (List.getElem?_eq_some_iff.1 hu).1
          rw [itL_len] at this; simpa using this
        have hq : i / 2 < len := by omega
        have hg := hff (i / 2) hq
        have ha : (List.map ff (List.range len))[i / 2]? = some (ff (i / 2)) := by rw [List.getElem?_map, List.getElem?_range hq]; rfl
        have hc := itL_at _ (i / 2) (i % 2) _ ha (Nat.mod_lt _ (by decide))
        rw [show i / 2 * 2 + i % 2 = i by omega, hu] at hc
        rw [hadd, hadd] at hg
        rcases Nat.mod_two_eq_zero_or_one i with e | e
        · rw [e] at hc
          cases hc
          rw [show o + i = o + i / 2 * 2 by omega]; exact hg.1
        · rw [e] at hc
          cases hc
          rw [show o + i = o + (i / 2 * 2 + 1) by omega]; exact hg.2.1
    · obtain ⟨i, hi, rfl⟩ := List.mem_map.1 hx
      exact (hff i (by simpa using hi)).2.2
end
end Go.Proofs.YtbageimconenlaaGreat
