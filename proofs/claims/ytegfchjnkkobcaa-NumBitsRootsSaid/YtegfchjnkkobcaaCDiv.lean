/- Contracts of the divisions. -/
import Derived.Test.YtegfchjnkkobcaaPlain
import Derived.Test.YtegfchjnkkobcaaProg
import Derived.Test.YtegfchjnkkobcaaBase
import Derived.WalkKit
namespace Go.Proofs.Ytegfchjnkkobcaa
open Go.RowKit
theorem mod_b {a b : Int} : (a.tmod b != 0) = true ↔ a.tmod b ≠ 0 := by simp
theorem fdiv_any (a b : Int) (ha : Fit a) (hb : Fit b) (w : World) :
    Calls Try.prog 18 #[.int .i64 a, .int .i64 b] w fun e w' => e = .returned (.tuple #[.int .i64 (fdV a b), .bool (divB a b)]) ∧ w = w' := by
  rcases two (b == 0) with h0 | h0
  · obtain rfl : b = 0 := by simpa using h0
    have e1 : divB a 0 = false := by simp [divB]
    have e2 : fdV a 0 = 0 := by simp [fdV, e1]
    rw [e1, e2]
    clear ha hb e1 e2
    go_enter Try.func18, Try.ntmps18
    go_wp2
    go_ret2
    exact ⟨rfl, rfl⟩
  · by_cases hx : a = -9223372036854775808 ∧ b = -1
    · obtain ⟨rfl, rfl⟩ := hx
      have e1 : divB (-9223372036854775808) (-1) = false := by simp [divB]
      have e2 : fdV (-9223372036854775808) (-1) = 0 := by simp [fdV, e1]
      rw [e1, e2]
      clear ha hb e1 e2
      go_enter Try.func18, Try.ntmps18
      go_wp2
      go_ret2
      exact ⟨rfl, rfl⟩
    · have hb0 : b ≠ 0 := by simpa using h0
      have e1 : divB a b = true := by simp only [divB, h0, Bool.false_or, Bool.not_eq_true', Bool.and_eq_false_iff, beq_eq_false_iff_ne]; exact Classical.not_and_iff_not_or_not.1 hx
      have e2 : fdV a b = fq a b := by simp [fdV, e1]
      have hd := tdiv_bd a b ha hb0 hx
      rcases two (a == -9223372036854775808) with h1 | h1 <;> rcases two (b == -1) with h2 | h2 <;> rcases two (a.tmod b != 0) with h3 | h3 <;> rcases two (decide (a < 0)) with h4 | h4 <;> rcases two (decide (b < 0)) with h5 | h5
      all_goals first
        | (exfalso; exact hx ⟨by simpa using h1, by simpa using h2⟩)
        | (have e3 : fq a b = a.tdiv b := by simp [fq, h3, h4, h5]
           rw [e1, e2, e3]
           clear ha hb e1 e2 e3 hx
           go_enter Try.func18, Try.ntmps18
           go_wp2
           go_ret2
           exact ⟨rfl, rfl⟩)
        | (have hd2 := tdiv_in a b ha (mod_b.1 h3)
           have e3 : fq a b = a.tdiv b - 1 := by simp [fq, h3, h4, h5]
           rw [e1, e2, e3]
           clear ha hb e1 e2 e3 hx
           go_enter Try.func18, Try.ntmps18
           go_wp2
           go_ret2
           exact ⟨rfl, rfl⟩)
theorem rfdiv_any (a b : Int) (ha : Fit a) (hb : Fit b) (w : World) :
    Calls Try.prog 26 #[.int .i64 a, .int .i64 b] w fun e w' => e = .returned (.tuple #[.int .i64 (fdV a b), .bool (divB a b)]) ∧ w = w' := by
  rcases two (b == 0) with h0 | h0
  · obtain rfl : b = 0 := by simpa using h0
    have e1 : divB a 0 = false := by simp [divB]
    have e2 : fdV a 0 = 0 := by simp [fdV, e1]
    rw [e1, e2]
    clear ha hb e1 e2
    go_enter Try.func26, Try.ntmps26
    go_wp2
    go_ret2
    exact ⟨rfl, rfl⟩
  · by_cases hx : a = -9223372036854775808 ∧ b = -1
    · obtain ⟨rfl, rfl⟩ := hx
      have e1 : divB (-9223372036854775808) (-1) = false := by simp [divB]
      have e2 : fdV (-9223372036854775808) (-1) = 0 := by simp [fdV, e1]
      rw [e1, e2]
      clear ha hb e1 e2
      go_enter Try.func26, Try.ntmps26
      go_wp2
      go_ret2
      exact ⟨rfl, rfl⟩
    · have hb0 : b ≠ 0 := by simpa using h0
      have e1 : divB a b = true := by simp only [divB, h0, Bool.false_or, Bool.not_eq_true', Bool.and_eq_false_iff, beq_eq_false_iff_ne]; exact Classical.not_and_iff_not_or_not.1 hx
      have e2 : fdV a b = fq a b := by simp [fdV, e1]
      have hd := tdiv_bd a b ha hb0 hx
      rcases two (a == -9223372036854775808) with h1 | h1 <;> rcases two (b == -1) with h2 | h2 <;> rcases two (a.tmod b != 0) with h3 | h3 <;> rcases two (decide (a < 0)) with h4 | h4 <;> rcases two (decide (b < 0)) with h5 | h5
      all_goals first
        | (exfalso; exact hx ⟨by simpa using h1, by simpa using h2⟩)
        | (have e3 : fq a b = a.tdiv b := by simp [fq, h3, h4, h5]
           rw [e1, e2, e3]
           clear ha hb e1 e2 e3 hx
           go_enter Try.func26, Try.ntmps26
           go_wp2
           go_ret2
           exact ⟨rfl, rfl⟩)
        | (have hd2 := tdiv_in a b ha (mod_b.1 h3)
           have e3 : fq a b = a.tdiv b - 1 := by simp [fq, h3, h4, h5]
           rw [e1, e2, e3]
           clear ha hb e1 e2 e3 hx
           go_enter Try.func26, Try.ntmps26
           go_wp2
           go_ret2
           exact ⟨rfl, rfl⟩)
theorem cdiv_any (a b : Int) (ha : Fit a) (hb : Fit b) (w : World) :
    Calls Try.prog 27 #[.int .i64 a, .int .i64 b] w fun e w' => e = .returned (.tuple #[.int .i64 (cdV a b), .bool (divB a b)]) ∧ w = w' := by
  rcases two (b == 0) with h0 | h0
  · obtain rfl : b = 0 := by simpa using h0
    have e1 : divB a 0 = false := by simp [divB]
    have e2 : cdV a 0 = 0 := by simp [cdV, e1]
    rw [e1, e2]
    clear ha hb e1 e2
    go_enter Try.func27, Try.ntmps27
    go_wp2
    go_ret2
    exact ⟨rfl, rfl⟩
  · by_cases hx : a = -9223372036854775808 ∧ b = -1
    · obtain ⟨rfl, rfl⟩ := hx
      have e1 : divB (-9223372036854775808) (-1) = false := by simp [divB]
      have e2 : cdV (-9223372036854775808) (-1) = 0 := by simp [cdV, e1]
      rw [e1, e2]
      clear ha hb e1 e2
      go_enter Try.func27, Try.ntmps27
      go_wp2
      go_ret2
      exact ⟨rfl, rfl⟩
    · have hb0 : b ≠ 0 := by simpa using h0
      have e1 : divB a b = true := by simp only [divB, h0, Bool.false_or, Bool.not_eq_true', Bool.and_eq_false_iff, beq_eq_false_iff_ne]; exact Classical.not_and_iff_not_or_not.1 hx
      have e2 : cdV a b = cq a b := by simp [cdV, e1]
      have hd := tdiv_bd a b ha hb0 hx
      rcases two (a == -9223372036854775808) with h1 | h1 <;> rcases two (b == -1) with h2 | h2 <;> rcases two (a.tmod b != 0) with h3 | h3 <;> rcases two (decide (a < 0)) with h4 | h4 <;> rcases two (decide (b < 0)) with h5 | h5
      all_goals first
        | (exfalso; exact hx ⟨by simpa using h1, by simpa using h2⟩)
        | (have e3 : cq a b = a.tdiv b := by simp [cq, h3, h4, h5]
           rw [e1, e2, e3]
           clear ha hb e1 e2 e3 hx
           go_enter Try.func27, Try.ntmps27
           go_wp2
           go_ret2
           exact ⟨rfl, rfl⟩)
        | (have hd2 := tdiv_in a b ha (mod_b.1 h3)
           have e3 : cq a b = a.tdiv b + 1 := by simp [cq, h3, h4, h5]
           rw [e1, e2, e3]
           clear ha hb e1 e2 e3 hx
           go_enter Try.func27, Try.ntmps27
           go_wp2
           go_ret2
           exact ⟨rfl, rfl⟩)
theorem rcdiv_any (a b : Int) (ha : Fit a) (hb : Fit b) (w : World) :
    Calls Try.prog 28 #[.int .i64 a, .int .i64 b] w fun e w' => e = .returned (.tuple #[.int .i64 (cdV a b), .bool (divB a b)]) ∧ w = w' := by
  rcases two (b == 0) with h0 | h0
  · obtain rfl : b = 0 := by simpa using h0
    have e1 : divB a 0 = false := by simp [divB]
    have e2 : cdV a 0 = 0 := by simp [cdV, e1]
    rw [e1, e2]
    clear ha hb e1 e2
    go_enter Try.func28, Try.ntmps28
    go_wp2
    go_ret2
    exact ⟨rfl, rfl⟩
  · by_cases hx : a = -9223372036854775808 ∧ b = -1
    · obtain ⟨rfl, rfl⟩ := hx
      have e1 : divB (-9223372036854775808) (-1) = false := by simp [divB]
      have e2 : cdV (-9223372036854775808) (-1) = 0 := by simp [cdV, e1]
      rw [e1, e2]
      clear ha hb e1 e2
      go_enter Try.func28, Try.ntmps28
      go_wp2
      go_ret2
      exact ⟨rfl, rfl⟩
    · have hb0 : b ≠ 0 := by simpa using h0
      have e1 : divB a b = true := by simp only [divB, h0, Bool.false_or, Bool.not_eq_true', Bool.and_eq_false_iff, beq_eq_false_iff_ne]; exact Classical.not_and_iff_not_or_not.1 hx
      have e2 : cdV a b = cq a b := by simp [cdV, e1]
      have hd := tdiv_bd a b ha hb0 hx
      rcases two (a == -9223372036854775808) with h1 | h1 <;> rcases two (b == -1) with h2 | h2 <;> rcases two (a.tmod b != 0) with h3 | h3 <;> rcases two (decide (a < 0)) with h4 | h4 <;> rcases two (decide (b < 0)) with h5 | h5
      all_goals first
        | (exfalso; exact hx ⟨by simpa using h1, by simpa using h2⟩)
        | (have e3 : cq a b = a.tdiv b := by simp [cq, h3, h4, h5]
           rw [e1, e2, e3]
           clear ha hb e1 e2 e3 hx
           go_enter Try.func28, Try.ntmps28
           go_wp2
           go_ret2
           exact ⟨rfl, rfl⟩)
        | (have hd2 := tdiv_in a b ha (mod_b.1 h3)
           have e3 : cq a b = a.tdiv b + 1 := by simp [cq, h3, h4, h5]
           rw [e1, e2, e3]
           clear ha hb e1 e2 e3 hx
           go_enter Try.func28, Try.ntmps28
           go_wp2
           go_ret2
           exact ⟨rfl, rfl⟩)
theorem mod_any (a b : Int) (ha : Fit a) (hb : Fit b) (w : World) :
    Calls Try.prog 19 #[.int .i64 a, .int .i64 b] w fun e w' => e = .returned (.tuple #[.int .i64 (mdV a b), .bool (mdB b)]) ∧ w = w' := by
  rcases two (b == 0) with h0 | h0
  · obtain rfl : b = 0 := by simpa using h0
    have e1 : mdB 0 = false := rfl
    have e2 : mdV a 0 = 0 := rfl
    rw [e1, e2]
    clear ha hb e1 e2
    go_enter Try.func19, Try.ntmps19
    go_wp2
    go_ret2
    exact ⟨rfl, rfl⟩
  · have hb0 : b ≠ 0 := by simpa using h0
    have e1 : mdB b = true := by simp [mdB, hb0]
    have e2 : mdV a b = md a b := by simp [mdV, hb0]
    rw [e1, e2]
    rcases two (b == -1) with h2 | h2
    · obtain rfl : b = -1 := by simpa using h2
      have e3 : md a (-1) = 0 := by simp [md, Int.tmod_neg]
      rw [e3]
      clear ha hb e1 e2 e3
      go_enter Try.func19, Try.ntmps19
      go_wp2
      go_ret2
      exact ⟨rfl, rfl⟩
    · have hd := tmod_in a b ha hb hb0
      rcases two (a.tmod b != 0) with h3 | h3 <;> rcases two (decide (a.tmod b < 0)) with h4 | h4 <;> rcases two (decide (b < 0)) with h5 | h5
      all_goals first
        | (have e3 : md a b = a.tmod b := by simp [md, h3, h4, h5]
           rw [e3]
           clear ha hb e1 e2 e3
           go_enter Try.func19, Try.ntmps19
           go_wp2
           go_ret2
           exact ⟨rfl, rfl⟩)
        | (have hd2 := md_in a b ha hb hb0 (by rw [h4, h5]; simp)
           have e3 : md a b = a.tmod b + b := by simp [md, h3, h4, h5]
           rw [e3]
           clear ha hb e1 e2 e3
           go_enter Try.func19, Try.ntmps19
           go_wp2
           go_ret2
           exact ⟨rfl, rfl⟩)
theorem rmod_any (a b : Int) (ha : Fit a) (hb : Fit b) (w : World) :
    Calls Try.prog 29 #[.int .i64 a, .int .i64 b] w fun e w' => e = .returned (.tuple #[.int .i64 (mdV a b), .bool (mdB b)]) ∧ w = w' := by
  rcases two (b == 0) with h0 | h0
  · obtain rfl : b = 0 := by simpa using h0
    have e1 : mdB 0 = false := rfl
    have e2 : mdV a 0 = 0 := rfl
    rw [e1, e2]
    clear ha hb e1 e2
    go_enter Try.func29, Try.ntmps29
    go_wp2
    go_ret2
    exact ⟨rfl, rfl⟩
  · have hb0 : b ≠ 0 := by simpa using h0
    have e1 : mdB b = true := by simp [mdB, hb0]
    have e2 : mdV a b = md a b := by simp [mdV, hb0]
    rw [e1, e2]
    rcases two (b == -1) with h2 | h2
    · obtain rfl : b = -1 := by simpa using h2
      have e3 : md a (-1) = 0 := by simp [md, Int.tmod_neg]
      rw [e3]
      clear ha hb e1 e2 e3
      go_enter Try.func29, Try.ntmps29
      go_wp2
      go_ret2
      exact ⟨rfl, rfl⟩
    · have hd := tmod_in a b ha hb hb0
      rcases two (a.tmod b != 0) with h3 | h3 <;> rcases two (decide (a.tmod b < 0)) with h4 | h4 <;> rcases two (decide (b < 0)) with h5 | h5
      all_goals first
        | (have e3 : md a b = a.tmod b := by simp [md, h3, h4, h5]
           rw [e3]
           clear ha hb e1 e2 e3
           go_enter Try.func29, Try.ntmps29
           go_wp2
           go_ret2
           exact ⟨rfl, rfl⟩)
        | (have hd2 := md_in a b ha hb hb0 (by rw [h4, h5]; simp)
           have e3 : md a b = a.tmod b + b := by simp [md, h3, h4, h5]
           rw [e3]
           clear ha hb e1 e2 e3
           go_enter Try.func29, Try.ntmps29
           go_wp2
           go_ret2
           exact ⟨rfl, rfl⟩)
end Go.Proofs.Ytegfchjnkkobcaa
