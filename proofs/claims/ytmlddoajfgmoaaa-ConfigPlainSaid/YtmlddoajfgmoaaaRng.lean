/- The reference's ranges of numbers: the contracts. -/
import Derived.Test.YtmlddoajfgmoaaaVal
namespace Go.Proofs.Ytmlddoajfgmoaaa
open Go.RowKit
set_option linter.unusedVariables false
def BoolEnd (b : Bool) (w : World) (e : Ending) (w' : World) : Prop := e = .returned (.bool b) ∧ w = w'
theorem mayK11_yes (n : Int) (w : World) (h : 1 ≤ n ∧ n ≤ 64) : Calls Try.prog 27 #[.int .i64 n] w (BoolEnd true w) := by
  obtain ⟨h1, h2⟩ := h
  have d1 : decide (1 ≤ n) = true := by simpa using h1
  have d2 : decide (n ≤ 64) = true := by simpa using h2
  go_enter Try.func27, Try.ntmps27
  go_wp2
  go_ret
  exact ⟨rfl, rfl⟩
theorem mayK11_no (n : Int) (w : World) (h : ¬ (1 ≤ n ∧ n ≤ 64)) : Calls Try.prog 27 #[.int .i64 n] w (BoolEnd false w) := by
  by_cases h1 : 1 ≤ n
  · have d1 : decide (1 ≤ n) = true := by simpa using h1
    have d2 : decide (n ≤ 64) = false := by simp; omega
    clear h
    go_enter Try.func27, Try.ntmps27
    go_wp2
    go_ret
    exact ⟨rfl, rfl⟩
  · have d1 : decide (1 ≤ n) = false := by simpa using h1
    clear h
    go_enter Try.func27, Try.ntmps27
    go_wp2
    go_ret
    exact ⟨rfl, rfl⟩
theorem mayK11_any (n : Int) (w : World) : Calls Try.prog 27 #[.int .i64 n] w (BoolEnd (decide (1 ≤ n ∧ n ≤ 64)) w) := by
  by_cases h : 1 ≤ n ∧ n ≤ 64
  · rw [decide_eq_true h]; exact mayK11_yes n w h
  · rw [decide_eq_false h]; exact mayK11_no n w h
theorem mayAgg_yes (n : Int) (w : World) (h : 1 ≤ n ∧ n ≤ 4) : Calls Try.prog 28 #[.int .i64 n] w (BoolEnd true w) := by
  obtain ⟨h1, h2⟩ := h
  have d1 : decide (1 ≤ n) = true := by simpa using h1
  have d2 : decide (n ≤ 4) = true := by simpa using h2
  go_enter Try.func28, Try.ntmps28
  go_wp2
  go_ret
  exact ⟨rfl, rfl⟩
theorem mayAgg_no (n : Int) (w : World) (h : ¬ (1 ≤ n ∧ n ≤ 4)) : Calls Try.prog 28 #[.int .i64 n] w (BoolEnd false w) := by
  by_cases h1 : 1 ≤ n
  · have d1 : decide (1 ≤ n) = true := by simpa using h1
    have d2 : decide (n ≤ 4) = false := by simp; omega
    clear h
    go_enter Try.func28, Try.ntmps28
    go_wp2
    go_ret
    exact ⟨rfl, rfl⟩
  · have d1 : decide (1 ≤ n) = false := by simpa using h1
    clear h
    go_enter Try.func28, Try.ntmps28
    go_wp2
    go_ret
    exact ⟨rfl, rfl⟩
theorem mayAgg_any (n : Int) (w : World) : Calls Try.prog 28 #[.int .i64 n] w (BoolEnd (decide (1 ≤ n ∧ n ≤ 4)) w) := by
  by_cases h : 1 ≤ n ∧ n ≤ 4
  · rw [decide_eq_true h]; exact mayAgg_yes n w h
  · rw [decide_eq_false h]; exact mayAgg_no n w h
theorem mayK10_yes (n : Int) (w : World) (h : 1 ≤ n ∧ n ≤ 128) : Calls Try.prog 33 #[.int .i64 n] w (BoolEnd true w) := by
  obtain ⟨h1, h2⟩ := h
  have d1 : decide (1 ≤ n) = true := by simpa using h1
  have d2 : decide (n ≤ 128) = true := by simpa using h2
  go_enter Try.func33, Try.ntmps33
  go_wp2
  go_ret
  exact ⟨rfl, rfl⟩
theorem mayK10_no (n : Int) (w : World) (h : ¬ (1 ≤ n ∧ n ≤ 128)) : Calls Try.prog 33 #[.int .i64 n] w (BoolEnd false w) := by
  by_cases h1 : 1 ≤ n
  · have d1 : decide (1 ≤ n) = true := by simpa using h1
    have d2 : decide (n ≤ 128) = false := by simp; omega
    clear h
    go_enter Try.func33, Try.ntmps33
    go_wp2
    go_ret
    exact ⟨rfl, rfl⟩
  · have d1 : decide (1 ≤ n) = false := by simpa using h1
    clear h
    go_enter Try.func33, Try.ntmps33
    go_wp2
    go_ret
    exact ⟨rfl, rfl⟩
theorem mayK10_any (n : Int) (w : World) : Calls Try.prog 33 #[.int .i64 n] w (BoolEnd (decide (1 ≤ n ∧ n ≤ 128)) w) := by
  by_cases h : 1 ≤ n ∧ n ≤ 128
  · rw [decide_eq_true h]; exact mayK10_yes n w h
  · rw [decide_eq_false h]; exact mayK10_no n w h
theorem win_yes (n : Int) (w : World) (h : 1 ≤ n ∧ n ≤ 1048576) : Calls Try.prog 36 #[.int .i64 n] w (BoolEnd true w) := by
  obtain ⟨h1, h2⟩ := h
  have d1 : decide (1 ≤ n) = true := by simpa using h1
  have d2 : decide (n ≤ 1048576) = true := by simpa using h2
  go_enter Try.func36, Try.ntmps36
  go_wp2
  go_ret
  exact ⟨rfl, rfl⟩
theorem win_no (n : Int) (w : World) (h : ¬ (1 ≤ n ∧ n ≤ 1048576)) : Calls Try.prog 36 #[.int .i64 n] w (BoolEnd false w) := by
  by_cases h1 : 1 ≤ n
  · have d1 : decide (1 ≤ n) = true := by simpa using h1
    have d2 : decide (n ≤ 1048576) = false := by simp; omega
    clear h
    go_enter Try.func36, Try.ntmps36
    go_wp2
    go_ret
    exact ⟨rfl, rfl⟩
  · have d1 : decide (1 ≤ n) = false := by simpa using h1
    clear h
    go_enter Try.func36, Try.ntmps36
    go_wp2
    go_ret
    exact ⟨rfl, rfl⟩
theorem win_any (n : Int) (w : World) : Calls Try.prog 36 #[.int .i64 n] w (BoolEnd (decide (1 ≤ n ∧ n ≤ 1048576)) w) := by
  by_cases h : 1 ≤ n ∧ n ≤ 1048576
  · rw [decide_eq_true h]; exact win_yes n w h
  · rw [decide_eq_false h]; exact win_no n w h
theorem tick_yes (n : Int) (w : World) (h : 0 ≤ n ∧ n ≤ 16777216) : Calls Try.prog 37 #[.int .i64 n] w (BoolEnd true w) := by
  obtain ⟨h1, h2⟩ := h
  have d1 : decide (0 ≤ n) = true := by simpa using h1
  have d2 : decide (n ≤ 16777216) = true := by simpa using h2
  go_enter Try.func37, Try.ntmps37
  go_wp2
  go_ret
  exact ⟨rfl, rfl⟩
theorem tick_no (n : Int) (w : World) (h : ¬ (0 ≤ n ∧ n ≤ 16777216)) : Calls Try.prog 37 #[.int .i64 n] w (BoolEnd false w) := by
  by_cases h1 : 0 ≤ n
  · have d1 : decide (0 ≤ n) = true := by simpa using h1
    have d2 : decide (n ≤ 16777216) = false := by simp; omega
    clear h
    go_enter Try.func37, Try.ntmps37
    go_wp2
    go_ret
    exact ⟨rfl, rfl⟩
  · have d1 : decide (0 ≤ n) = false := by simpa using h1
    clear h
    go_enter Try.func37, Try.ntmps37
    go_wp2
    go_ret
    exact ⟨rfl, rfl⟩
theorem tick_any (n : Int) (w : World) : Calls Try.prog 37 #[.int .i64 n] w (BoolEnd (decide (0 ≤ n ∧ n ≤ 16777216)) w) := by
  by_cases h : 0 ≤ n ∧ n ≤ 16777216
  · rw [decide_eq_true h]; exact tick_yes n w h
  · rw [decide_eq_false h]; exact tick_no n w h
theorem may_yes (W cap : Int) (w : World) (h : 1 ≤ W ∧ W ≤ 1048576) (k : 1 ≤ cap ∧ cap ≤ 65536) : Calls Try.prog 26 #[.int .i64 W, .int .i64 cap, .int .i64 0] w (BoolEnd true w) := by
  have C36 := hide (fun w0 => win_yes W w0 h)
  have C37 := hide (fun w0 => tick_yes 0 w0 (by omega))
  unfold BoolEnd at C36 C37
  obtain ⟨h1, h2⟩ := k
  have d1 : decide (1 ≤ cap) = true := by simpa using h1
  have d2 : decide (cap ≤ 65536) = true := by simpa using h2
  clear h
  go_enter Try.func26, Try.ntmps26
  go_wp2_with (fail)
  refine (C36.out _).mono ?_
  rintro e w1 ⟨rfl, rfl⟩
  go_wp2_with (fail)
  refine (C37.out _).mono ?_
  rintro e w1 ⟨rfl, rfl⟩
  go_wp2
  go_ret
  exact ⟨rfl, rfl⟩
theorem may_noW (W cap : Int) (w : World) (h : ¬ (1 ≤ W ∧ W ≤ 1048576)) : Calls Try.prog 26 #[.int .i64 W, .int .i64 cap, .int .i64 0] w (BoolEnd false w) := by
  have C36 := hide (fun w0 => win_no W w0 h)
  unfold BoolEnd at C36
  clear h
  go_enter Try.func26, Try.ntmps26
  go_wp2_with (fail)
  refine (C36.out _).mono ?_
  rintro e w1 ⟨rfl, rfl⟩
  go_wp2
  go_ret
  exact ⟨rfl, rfl⟩
theorem may_noC (W cap : Int) (w : World) (h : 1 ≤ W ∧ W ≤ 1048576) (k : ¬ (1 ≤ cap ∧ cap ≤ 65536)) : Calls Try.prog 26 #[.int .i64 W, .int .i64 cap, .int .i64 0] w (BoolEnd false w) := by
  have C36 := hide (fun w0 => win_yes W w0 h)
  unfold BoolEnd at C36
  clear h
  by_cases h1 : 1 ≤ cap
  · have d1 : decide (1 ≤ cap) = true := by simpa using h1
    have d2 : decide (cap ≤ 65536) = false := by simp; omega
    clear k
    go_enter Try.func26, Try.ntmps26
    go_wp2_with (fail)
    refine (C36.out _).mono ?_
    rintro e w1 ⟨rfl, rfl⟩
    go_wp2
    go_ret
    exact ⟨rfl, rfl⟩
  · have d1 : decide (1 ≤ cap) = false := by simpa using h1
    clear k
    go_enter Try.func26, Try.ntmps26
    go_wp2_with (fail)
    refine (C36.out _).mono ?_
    rintro e w1 ⟨rfl, rfl⟩
    go_wp2
    go_ret
    exact ⟨rfl, rfl⟩
theorem may_any (W cap : Int) (w : World) : Calls Try.prog 26 #[.int .i64 W, .int .i64 cap, .int .i64 0] w (BoolEnd (decide ((1 ≤ W ∧ W ≤ 1048576) ∧ 1 ≤ cap ∧ cap ≤ 65536)) w) := by
  by_cases h : 1 ≤ W ∧ W ≤ 1048576
  · by_cases k : 1 ≤ cap ∧ cap ≤ 65536
    · rw [decide_eq_true ⟨h, k⟩]; exact may_yes W cap w h k
    · rw [decide_eq_false (fun c => k c.2)]; exact may_noC W cap w h k
  · rw [decide_eq_false (fun c => h c.1)]; exact may_noW W cap w h
end Go.Proofs.Ytmlddoajfgmoaaa
