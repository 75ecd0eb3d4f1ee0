/- Numbers read one behind the other: what is left to read. Plain. -/
import Derived.Test.YtlcgpldngooekaaNums
import Derived.Test.YtlcgpldngooekaaVA
namespace Go.Proofs.Ytlcgpldngooekaa
theorem numsF_fuel {l : List Int} (hl : ∀ x ∈ l, 0 ≤ x ∧ x ≤ 255) : ∀ (f g a : Nat), l.length - a ≤ f → l.length - a ≤ g → numsF f l (a : Int) = numsF g l (a : Int)
  | 0, g, a, hf, _ => by rw [numsF_end (by omega), numsF_end (by omega)]
  | f + 1, g, a, hf, hg => by
    by_cases h : (a : Int) < l.length
    · rcases readV_only (a := (a : Int)) hl with hv | ⟨k, m, x, hk, hv, hm1, hm2, _, _, _⟩
      · rw [numsF_bad h (by rw [hv]), numsF_bad h (by rw [hv])]
      · obtain ⟨g', rfl⟩ : ∃ g', g = g' + 1 := ⟨g - 1, by omega⟩
        rw [numsF_step h hv, numsF_step h hv, show ((k : Int) + (m : Int)) = ((k + m : Nat) : Int) by omega, numsF_fuel hl f g' (k + m) (by omega) (by omega)]
    · rw [numsF_end h, numsF_end h]
theorem numsF_some_len {l : List Int} (hl : ∀ x ∈ l, 0 ≤ x ∧ x ≤ 255) : ∀ (f a : Nat) (xs : List Int), numsF f l (a : Int) = some xs → a ≤ l.length → xs.length + a ≤ l.length
  | 0, a, xs, h, ha => by
    unfold numsF at h
    split at h
    · cases h
    · injection h with h; subst h; simpa using ha
  | f + 1, a, xs, h, ha => by
    by_cases hlt : (a : Int) < l.length
    · rcases readV_only (a := (a : Int)) hl with hv | ⟨k, m, x, hk, hv, hm1, hm2, _, _, _⟩
      · rw [numsF_bad hlt (by rw [hv])] at h; cases h
      · rw [numsF_step hlt hv, show ((k : Int) + (m : Int)) = ((k + m : Nat) : Int) by omega] at h
        rcases hn : numsF f l ((k + m : Nat) : Int) with _ | ys
        · rw [hn] at h; cases h
        · rw [hn] at h
          injection h with h; subst h
          have := numsF_some_len hl f (k + m) ys hn (by omega)
          simp; omega
    · rw [numsF_end hlt] at h
      injection h with h; subst h; simpa using ha
/-- the numbers left to read from place a on; none where they can't be read, or reading has failed -/
def leftV (l : List Int) (a : Nat) (bad : Bool) : Option (List Int) := if bad then none else numsF l.length l (a : Int)
theorem left_bad (l : List Int) (a : Nat) : leftV l a true = none := rfl
theorem left_zero (l : List Int) : leftV l 0 false = numsF l.length l 0 := rfl
theorem left_end {l : List Int} {a : Nat} (h : a = l.length) : leftV l a false = some [] := by
  unfold leftV; rw [if_neg (by simp)]; exact numsF_end (by omega)
theorem left_end_only {l : List Int} {a : Nat} (ha : a ≤ l.length) {bad : Bool} (hl : ∀ x ∈ l, 0 ≤ x ∧ x ≤ 255) (h : leftV l a bad = some []) : bad = false ∧ a = l.length := by
  cases bad with
  | true => cases h
  | false =>
    refine ⟨rfl, ?_⟩
    by_cases hlt : a < l.length
    · have h' : numsF l.length l (a : Int) = some [] := h
      rcases readV_only (a := (a : Int)) hl with hv | ⟨k, m, x, hk, hv, hm1, hm2, _, _, _⟩
      · rw [numsF_bad (by omega) (by rw [hv])] at h'; cases h'
      · obtain ⟨f, hf⟩ : ∃ f, l.length = f + 1 := ⟨l.length - 1, by omega⟩
        have h2 := h'
        rw [hf, numsF_step (by omega) hv] at h2
        rcases hn : numsF f l ((k : Int) + (m : Int)) with _ | ys
        · rw [hn] at h2; cases h2
        · rw [hn] at h2; simp at h2
    · omega
/-- one number was read, or reading has failed -/
def StepI (l : List Int) (a : Nat) (bad : Bool) (x : Int) (a' : Nat) (bad' : Bool) : Prop :=
  a' ≤ l.length ∧ (∀ R, leftV l a' bad' = some R → leftV l a bad = some (x :: R)) ∧ (∀ y R, leftV l a bad = some (y :: R) → leftV l a' bad' = some R)
theorem stepI_bad {l : List Int} {a : Nat} {x : Int} (ha : a ≤ l.length) : StepI l a true x a true := ⟨ha, fun R h => (by cases h), fun y R h => (by cases h)⟩
theorem stepI_no {l : List Int} {a : Nat} {x : Int} (ha : a ≤ l.length) (hv : (readV l (a : Int)).2.2 = false) : StepI l a false x a true := by
  refine ⟨ha, fun R h => by (cases h), fun y R h => ?_⟩
  have h' : numsF l.length l (a : Int) = some (y :: R) := h
  by_cases hlt : (a : Int) < l.length
  · rw [numsF_bad hlt hv] at h'; cases h'
  · rw [numsF_end hlt] at h'; cases h'
theorem left_read {l : List Int} {a m : Nat} {x : Int} (hl : ∀ x ∈ l, 0 ≤ x ∧ x ≤ 255) (hv : readV l (a : Int) = (x, ((a : Int) + (m : Int)), true)) (hm1 : 1 ≤ m) (hm2 : a + m ≤ l.length) : leftV l a false = (leftV l (a + m) false).map (x :: ·) := by
  show numsF l.length l (a : Int) = (numsF l.length l ((a + m : Nat) : Int)).map (x :: ·)
  obtain ⟨f, hf⟩ : ∃ f, l.length = f + 1 := ⟨l.length - 1, by omega⟩
  rw [numsF_fuel hl l.length (f + 1) a (by omega) (by omega), numsF_step (by omega) hv, show ((a : Int) + (m : Int)) = ((a + m : Nat) : Int) by omega, numsF_fuel hl f l.length (a + m) (by omega) (by omega)]
theorem stepI_yes {l : List Int} {a m : Nat} {x : Int} (hl : ∀ x ∈ l, 0 ≤ x ∧ x ≤ 255) (hv : readV l (a : Int) = (x, ((a : Int) + (m : Int)), true)) (hm1 : 1 ≤ m) (hm2 : a + m ≤ l.length) : StepI l a false x (a + m) false := by
  have h := left_read hl hv hm1 hm2
  refine ⟨hm2, fun R hr => by rw [h, hr]; rfl, fun y R hr => ?_⟩
  rw [h] at hr
  rcases hn : leftV l (a + m) false with _ | ys
  · rw [hn] at hr; cases hr
  · rw [hn] at hr
    injection hr with hr
    injection hr with _ hr
    rw [hr]
theorem left_len {l : List Int} {a : Nat} {bad : Bool} {R : List Int} (hl : ∀ x ∈ l, 0 ≤ x ∧ x ≤ 255) (ha : a ≤ l.length) (h : leftV l a bad = some R) : R.length + a ≤ l.length ∧ bad = false := by
  cases bad with
  | true => cases h
  | false => exact ⟨numsF_some_len hl _ a R h ha, rfl⟩
end Go.Proofs.Ytlcgpldngooekaa
