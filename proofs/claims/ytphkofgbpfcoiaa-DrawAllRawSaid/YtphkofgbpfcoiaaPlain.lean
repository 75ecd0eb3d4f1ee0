/- Plain facts on numbers: no program in sight. -/
import Derived.IntWalk
namespace Go.Proofs.Ytphkofgbpfcoiaa
/-- the numbers of int64 -/
def Fit (n : Int) : Prop := -9223372036854775808 ≤ n ∧ n ≤ 9223372036854775807
instance (n : Int) : Decidable (Fit n) := by unfold Fit; infer_instance
def fitV (n : Int) : Int := if Fit n then n else 0
def fitB (n : Int) : Bool := decide (Fit n)
theorem fitV_yes {n : Int} (h : Fit n) : fitV n = n := if_pos h
theorem fitV_no {n : Int} (h : ¬ Fit n) : fitV n = 0 := if_neg h
theorem fitB_yes {n : Int} (h : Fit n) : fitB n = true := decide_eq_true h
theorem fitB_no {n : Int} (h : ¬ Fit n) : fitB n = false := decide_eq_false h
theorem natAbs_mul_cases (a b : Int) : a * b = if decide (a < 0) ≠ decide (b < 0) then - ((a.natAbs * b.natAbs : Nat) : Int) else ((a.natAbs * b.natAbs : Nat) : Int) := by
  have h := Int.natAbs_mul a b
  rw [← h]
  by_cases ha : a < 0 <;> by_cases hb : b < 0 <;> simp only [ha, hb]
  · have := Int.mul_pos_of_neg_of_neg ha hb; simp; omega
  · have := Int.mul_nonpos_of_nonpos_of_nonneg (a := a) (b := b) (by omega) (by omega); simp; omega
  · have := Int.mul_nonpos_of_nonneg_of_nonpos (a := a) (b := b) (by omega) (by omega); simp; omega
  · have := Int.mul_nonneg (a := a) (b := b) (by omega) (by omega); simp; omega

end Go.Proofs.Ytphkofgbpfcoiaa
