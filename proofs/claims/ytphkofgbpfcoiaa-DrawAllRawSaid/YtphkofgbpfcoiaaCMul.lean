/- Contracts of the products. -/
import Derived.Test.YtphkofgbpfcoiaaPlain
import Derived.Test.YtphkofgbpfcoiaaShelf
import Derived.WalkKit
import Derived.Outline
import Derived.Test.YtphkofgbpfcoiaaWords
namespace Go.Proofs.Ytphkofgbpfcoiaa
open Go.RowKit
theorem ret_int2 {k : IntKind} {a b : Int} {v : Value} (h : a = b) : Ending.returned (.tuple #[.int k a, v]) = .returned (.tuple #[.int k b, v]) := by rw [h]
def hiN (x y : Nat) : Nat := x * y / 18446744073709551616
def loN (x y : Nat) : Nat := x * y % 18446744073709551616
theorem mul64_any (x y : Nat) (hx : x ≤ 9223372036854775808) (hy : y ≤ 9223372036854775808) (w : World) :
    Calls Try.prog 22 #[.int .u64 x, .int .u64 y] w fun e w' => e = .returned (.tuple #[.int .u64 (hiN x y : Nat), .int .u64 (loN x y : Nat)]) ∧ w = w' :=
  (Try.bits_Mul64 x y (by omega) (by omega) w).mono fun _ _ ⟨h1, h2⟩ => ⟨h1, h2.symm⟩
theorem neg_u64 {a : Int} (h : a < 0) (hb : -9223372036854775808 ≤ a) : IntKind.u64.wrap (-IntKind.u64.wrap a) = -a := by rw [IntKind.wrap_u64, IntKind.wrap_u64]; omega
theorem size_any (a : Int) (ha : Fit a) (w : World) : Calls Try.prog 23 #[.int .i64 a] w fun e w' => e = .returned (.int .u64 (a.natAbs : Nat)) ∧ w = w' := by
  unfold Fit at ha
  by_cases h0 : a < 0
  · go_enter Try.func23, Try.ntmps23
    go_wp2
    go_ret
    exact ⟨by rw [show ((a.natAbs : Nat) : Int) = -a by omega, ← neg_u64 h0 ha.1]; rfl, rfl⟩
  · go_enter Try.func23, Try.ntmps23
    go_wp2
    go_ret
    exact ⟨by rw [show ((a.natAbs : Nat) : Int) = a by omega]; rfl, rfl⟩
theorem hiN_zero (x y : Nat) (h : hiN x y = 0) : loN x y = x * y := by unfold hiN at h; unfold loN; omega
theorem loN_lt (x y : Nat) : loN x y < 18446744073709551616 := by unfold loN; omega
theorem hiN_pos (x y : Nat) (h : hiN x y ≠ 0) : 18446744073709551616 ≤ x * y := by unfold hiN at h; omega
theorem natAbs_fit {a : Int} (ha : Fit a) : a.natAbs ≤ 9223372036854775808 := by unfold Fit at ha; omega
theorem wrap_neg (l : Nat) (h : l ≤ 9223372036854775808) : wrap64 (IntKind.u64.wrap (-(l : Int))) = -(l : Int) := by unfold wrap64; rw [IntKind.wrap_u64]; omega
theorem mul_any (a b : Int) (ha : Fit a) (hb : Fit b) (w : World) :
    Calls Try.prog 21 #[.int .i64 a, .int .i64 b] w fun e w' => e = .returned (.tuple #[.int .i64 (fitV (a * b)), .bool (fitB (a * b))]) ∧ w = w' := by
  have hm := natAbs_mul_cases a b
  have hx := natAbs_fit ha
  have hy := natAbs_fit hb
  have cs := size_any a ha
  have ct := size_any b hb
  generalize a.natAbs = x at *
  generalize b.natAbs = y at *
  have cm := mul64_any x y hx hy
  have hl := loN_lt x y
  have HS := hide cs
  have HT := hide ct
  have HM := hide cm
  clear cs ct cm
  generalize a * b = p at *
  rcases two ((hiN x y : Int) != 0) with h1 | h1
  · have e1 := hiN_pos x y (by simpa using h1)
    have hp : ¬ Fit p := by
      unfold Fit; rw [hm]; split <;> omega
    rw [fitV_no hp, fitB_no hp]
    clear ha hb hm hp e1
    rcases two (decide (a < 0)) with h4 | h4 <;> rcases two (decide (b < 0)) with h5 | h5
    all_goals
      go_enter Try.func21, Try.ntmps21
      go_wp2_with fail
      refine (HS.out _).mono ?_; rintro e1 w1 ⟨rfl, rfl⟩
      go_wp2_with fail
      refine (HT.out _).mono ?_; rintro e1 w1 ⟨rfl, rfl⟩
      go_wp2_with fail
      refine (HM.out _).mono ?_; rintro e1 w1 ⟨rfl, rfl⟩
      go_wp2
      go_ret2
      exact ⟨rfl, rfl⟩
  · have e1 := hiN_zero x y (by simpa using h1)
    rw [← e1] at hm
    clear e1
    rcases two (decide (a < 0)) with h4 | h4 <;> rcases two (decide (b < 0)) with h5 | h5
    · rw [h4, h5] at hm
      simp at hm
      by_cases h6 : (loN x y : Int) ≤ 9223372036854775807
      · rw [fitV_yes (by unfold Fit; omega), fitB_yes (by unfold Fit; omega)]
        have HP := hide hm
        clear hm ha hb
        go_enter Try.func21, Try.ntmps21
        go_wp2_with fail
        refine (HS.out _).mono ?_; rintro e1 w1 ⟨rfl, rfl⟩
        go_wp2_with fail
        refine (HT.out _).mono ?_; rintro e1 w1 ⟨rfl, rfl⟩
        go_wp2_with fail
        refine (HM.out _).mono ?_; rintro e1 w1 ⟨rfl, rfl⟩
        go_wp2
        go_ret2
        exact ⟨by rw [HP.out]; rfl, rfl⟩
      · rw [fitV_no (by unfold Fit; omega), fitB_no (by unfold Fit; omega)]
        clear hm ha hb
        go_enter Try.func21, Try.ntmps21
        go_wp2_with fail
        refine (HS.out _).mono ?_; rintro e1 w1 ⟨rfl, rfl⟩
        go_wp2_with fail
        refine (HT.out _).mono ?_; rintro e1 w1 ⟨rfl, rfl⟩
        go_wp2_with fail
        refine (HM.out _).mono ?_; rintro e1 w1 ⟨rfl, rfl⟩
        go_wp2
        go_ret2
        exact ⟨rfl, rfl⟩
    · rw [h4, h5] at hm
      simp at hm
      by_cases h6 : (loN x y : Int) ≤ 9223372036854775808
      · rw [fitV_yes (by unfold Fit; omega), fitB_yes (by unfold Fit; omega)]
        have HP := hide hm
        clear hm ha hb
        go_enter Try.func21, Try.ntmps21
        go_wp2_with fail
        refine (HS.out _).mono ?_; rintro e1 w1 ⟨rfl, rfl⟩
        go_wp2_with fail
        refine (HT.out _).mono ?_; rintro e1 w1 ⟨rfl, rfl⟩
        go_wp2_with fail
        refine (HM.out _).mono ?_; rintro e1 w1 ⟨rfl, rfl⟩
        go_wp2
        go_ret2
        exact ⟨by rw [HP.out]; exact ret_int2 (wrap_neg _ (by omega)), rfl⟩
      · rw [fitV_no (by unfold Fit; omega), fitB_no (by unfold Fit; omega)]
        clear hm ha hb
        go_enter Try.func21, Try.ntmps21
        go_wp2_with fail
        refine (HS.out _).mono ?_; rintro e1 w1 ⟨rfl, rfl⟩
        go_wp2_with fail
        refine (HT.out _).mono ?_; rintro e1 w1 ⟨rfl, rfl⟩
        go_wp2_with fail
        refine (HM.out _).mono ?_; rintro e1 w1 ⟨rfl, rfl⟩
        go_wp2
        go_ret2
        exact ⟨rfl, rfl⟩
    · rw [h4, h5] at hm
      simp at hm
      by_cases h6 : (loN x y : Int) ≤ 9223372036854775808
      · rw [fitV_yes (by unfold Fit; omega), fitB_yes (by unfold Fit; omega)]
        have HP := hide hm
        clear hm ha hb
        go_enter Try.func21, Try.ntmps21
        go_wp2_with fail
        refine (HS.out _).mono ?_; rintro e1 w1 ⟨rfl, rfl⟩
        go_wp2_with fail
        refine (HT.out _).mono ?_; rintro e1 w1 ⟨rfl, rfl⟩
        go_wp2_with fail
        refine (HM.out _).mono ?_; rintro e1 w1 ⟨rfl, rfl⟩
        go_wp2
        go_ret2
        exact ⟨by rw [HP.out]; exact ret_int2 (wrap_neg _ (by omega)), rfl⟩
      · rw [fitV_no (by unfold Fit; omega), fitB_no (by unfold Fit; omega)]
        clear hm ha hb
        go_enter Try.func21, Try.ntmps21
        go_wp2_with fail
        refine (HS.out _).mono ?_; rintro e1 w1 ⟨rfl, rfl⟩
        go_wp2_with fail
        refine (HT.out _).mono ?_; rintro e1 w1 ⟨rfl, rfl⟩
        go_wp2_with fail
        refine (HM.out _).mono ?_; rintro e1 w1 ⟨rfl, rfl⟩
        go_wp2
        go_ret2
        exact ⟨rfl, rfl⟩
    · rw [h4, h5] at hm
      simp at hm
      by_cases h6 : (loN x y : Int) ≤ 9223372036854775807
      · rw [fitV_yes (by unfold Fit; omega), fitB_yes (by unfold Fit; omega)]
        have HP := hide hm
        clear hm ha hb
        go_enter Try.func21, Try.ntmps21
        go_wp2_with fail
        refine (HS.out _).mono ?_; rintro e1 w1 ⟨rfl, rfl⟩
        go_wp2_with fail
        refine (HT.out _).mono ?_; rintro e1 w1 ⟨rfl, rfl⟩
        go_wp2_with fail
        refine (HM.out _).mono ?_; rintro e1 w1 ⟨rfl, rfl⟩
        go_wp2
        go_ret2
        exact ⟨by rw [HP.out]; rfl, rfl⟩
      · rw [fitV_no (by unfold Fit; omega), fitB_no (by unfold Fit; omega)]
        clear hm ha hb
        go_enter Try.func21, Try.ntmps21
        go_wp2_with fail
        refine (HS.out _).mono ?_; rintro e1 w1 ⟨rfl, rfl⟩
        go_wp2_with fail
        refine (HT.out _).mono ?_; rintro e1 w1 ⟨rfl, rfl⟩
        go_wp2_with fail
        refine (HM.out _).mono ?_; rintro e1 w1 ⟨rfl, rfl⟩
        go_wp2
        go_ret2
        exact ⟨rfl, rfl⟩
end Go.Proofs.Ytphkofgbpfcoiaa
