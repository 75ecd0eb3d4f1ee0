/- Contracts of the sums and differences. -/
import Derived.Test.YtegfchjnkkobcaaPlain
import Derived.Test.YtegfchjnkkobcaaProg
import Derived.WalkKit
namespace Go.Proofs.Ytegfchjnkkobcaa
open Go.RowKit
theorem over_up {n : Int} (h : 9223372036854775807 < n) (h2 : n ≤ 18446744073709551615) : decide (0 ≤ wrap64 n) = false := by rw [decide_eq_false_iff_not]; unfold wrap64; omega
theorem over_down {n : Int} (h : n < -9223372036854775808) (h2 : -18446744073709551616 ≤ n) : decide (0 ≤ wrap64 n) = true := by rw [decide_eq_true_iff]; unfold wrap64; omega
theorem dec_cases (p : Prop) [Decidable p] : (p ∧ decide p = true) ∨ (¬ p ∧ decide p = false) := by by_cases h : p <;> simp [h]
theorem add_any (a b : Int) (ha : Fit a) (hb : Fit b) (w : World) :
    Calls Try.prog 13 #[.int .i64 a, .int .i64 b] w fun e w' => e = .returned (.tuple #[.int .i64 (fitV (a + b)), .bool (fitB (a + b))]) ∧ w = w' := by
  by_cases hf : Fit (a + b)
  · rw [fitV_yes hf, fitB_yes hf]
    unfold Fit at *
    rcases dec_cases (0 ≤ a) with ⟨h1, d1⟩ | ⟨h1, d1⟩ <;> rcases dec_cases (0 ≤ b) with ⟨h2, d2⟩ | ⟨h2, d2⟩ <;> rcases dec_cases (0 ≤ a + b) with ⟨h3, d3⟩ | ⟨h3, d3⟩
    all_goals first
      | (exfalso; omega)
      | (go_enter Try.func13, Try.ntmps13
         go_wp2
         go_ret2
         exact ⟨rfl, rfl⟩)
  · rw [fitV_no hf, fitB_no hf]
    unfold Fit at *
    rcases (show 9223372036854775807 < a + b ∨ a + b < -9223372036854775808 by omega) with h | h
    · have d1 := decide_eq_true (p := 0 ≤ a) (by omega)
      have d2 := decide_eq_true (p := 0 ≤ b) (by omega)
      have d3 := over_up h (by omega)
      go_enter Try.func13, Try.ntmps13
      go_wp2
      go_ret2
      exact ⟨rfl, rfl⟩
    · have d1 := decide_eq_false (p := 0 ≤ a) (by omega)
      have d2 := decide_eq_false (p := 0 ≤ b) (by omega)
      have d3 := over_down h (by omega)
      go_enter Try.func13, Try.ntmps13
      go_wp2
      go_ret2
      exact ⟨rfl, rfl⟩
theorem radd_any (a b : Int) (ha : Fit a) (hb : Fit b) (w : World) :
    Calls Try.prog 14 #[.int .i64 a, .int .i64 b] w fun e w' => e = .returned (.tuple #[.int .i64 (fitV (a + b)), .bool (fitB (a + b))]) ∧ w = w' := by
  by_cases hf : Fit (a + b)
  · rw [fitV_yes hf, fitB_yes hf]
    unfold Fit at *
    rcases (show b < 0 ∨ b = 0 ∨ 0 < b by omega) with h1 | rfl | h1
    all_goals
      go_enter Try.func14, Try.ntmps14
      go_wp2
      go_ret2
      exact ⟨by simp, rfl⟩
  · rw [fitV_no hf, fitB_no hf]
    unfold Fit at *
    rcases (show b < 0 ∨ 0 < b by omega) with h1 | h1
    all_goals
      go_enter Try.func14, Try.ntmps14
      go_wp2
      go_ret2
      exact ⟨rfl, rfl⟩
theorem sub_any (a b : Int) (ha : Fit a) (hb : Fit b) (w : World) :
    Calls Try.prog 24 #[.int .i64 a, .int .i64 b] w fun e w' => e = .returned (.tuple #[.int .i64 (fitV (a - b)), .bool (fitB (a - b))]) ∧ w = w' := by
  by_cases hf : Fit (a - b)
  · rw [fitV_yes hf, fitB_yes hf]
    unfold Fit at *
    rcases dec_cases (0 ≤ a) with ⟨h1, d1⟩ | ⟨h1, d1⟩ <;> rcases dec_cases (0 ≤ b) with ⟨h2, d2⟩ | ⟨h2, d2⟩ <;> rcases dec_cases (b ≤ a) with ⟨h3, d3⟩ | ⟨h3, d3⟩
    all_goals first
      | (exfalso; omega)
      | (go_enter Try.func24, Try.ntmps24
         go_wp2
         go_ret2
         exact ⟨rfl, rfl⟩)
  · rw [fitV_no hf, fitB_no hf]
    unfold Fit at *
    rcases (show 9223372036854775807 < a - b ∨ a - b < -9223372036854775808 by omega) with h | h
    · have d1 := decide_eq_true (p := 0 ≤ a) (by omega)
      have d2 := decide_eq_false (p := 0 ≤ b) (by omega)
      have d3 := over_up h (by omega)
      go_enter Try.func24, Try.ntmps24
      go_wp2
      go_ret2
      exact ⟨rfl, rfl⟩
    · have d1 := decide_eq_false (p := 0 ≤ a) (by omega)
      have d2 := decide_eq_true (p := 0 ≤ b) (by omega)
      have d3 := over_down h (by omega)
      go_enter Try.func24, Try.ntmps24
      go_wp2
      go_ret2
      exact ⟨rfl, rfl⟩
theorem rsub_any (a b : Int) (ha : Fit a) (hb : Fit b) (w : World) :
    Calls Try.prog 25 #[.int .i64 a, .int .i64 b] w fun e w' => e = .returned (.tuple #[.int .i64 (fitV (a - b)), .bool (fitB (a - b))]) ∧ w = w' := by
  by_cases hf : Fit (a - b)
  · rw [fitV_yes hf, fitB_yes hf]
    unfold Fit at *
    rcases (show b < 0 ∨ b = 0 ∨ 0 < b by omega) with h1 | rfl | h1
    all_goals
      go_enter Try.func25, Try.ntmps25
      go_wp2
      go_ret2
      exact ⟨by simp, rfl⟩
  · rw [fitV_no hf, fitB_no hf]
    unfold Fit at *
    rcases (show b < 0 ∨ 0 < b by omega) with h1 | h1
    all_goals
      go_enter Try.func25, Try.ntmps25
      go_wp2
      go_ret2
      exact ⟨rfl, rfl⟩
end Go.Proofs.Ytegfchjnkkobcaa
