/- The contract of the remainder that is never below 0. -/
import Derived.Test.YtphkofgbpfcoiaaWords
import Derived.Test.YtphkofgbpfcoiaaProg
namespace Go.Proofs.Ytphkofgbpfcoiaa
open Go.RowKit
set_option linter.unusedVariables false
theorem emod_of {a n : Int} (hn : 1 ≤ n) : a % n = if a.tmod n < 0 then a.tmod n + n else a.tmod n := by
  rw [Int.tmod_eq_emod (a := a) (b := n)]
  have h1 := Int.emod_lt_of_pos a (b := n) (by omega)
  have h0 := Int.emod_nonneg a (b := n) (by omega)
  by_cases h : 0 ≤ a ∨ n ∣ a
  · simp only [h, if_true]
    rw [if_neg (by omega)]; omega
  · simp only [h, if_false]
    rw [if_pos (by omega)]; omega
theorem tmod_bd (a b : Int) (hb : 1 ≤ b) : a.tmod b < b ∧ - b < a.tmod b := ⟨Int.tmod_lt_of_pos a (by omega), Int.lt_tmod_of_pos a (by omega)⟩
set_option maxRecDepth 100000 in
theorem made_mod (a n : Int) (hn : 1 ≤ n) (hn2 : n ≤ 9223372036854775807) (w : World) :
    Calls Try.prog 19 #[.int .i64 a, .int .i64 n] w fun e w' => e = .returned (.int .i64 (a % n)) ∧ w = w' := by
  have hb := tmod_bd a n hn
  have he := emod_of (a := a) hn
  have HE := hide he
  have hne : n ≠ 0 := by omega
  clear he hn
  rcases two (decide (a.tmod n < 0)) with h4 | h4
  · have h5 : a.tmod n < 0 := by simpa using h4
    go_enter Try.func19, Try.ntmps19
    go_wp2
    go_ret
    exact ⟨ret_int (by rw [HE.out, if_pos h5]), rfl⟩
  · have h5 : ¬ a.tmod n < 0 := by simpa using h4
    go_enter Try.func19, Try.ntmps19
    go_wp2
    go_ret
    exact ⟨ret_int (by rw [HE.out, if_neg (by omega)]), rfl⟩
end Go.Proofs.Ytphkofgbpfcoiaa
