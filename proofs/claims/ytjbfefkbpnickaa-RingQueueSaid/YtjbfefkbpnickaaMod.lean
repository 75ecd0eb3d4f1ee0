/- Numbers into a range: the contracts. -/
import Derived.Test.YtjbfefkbpnickaaWords
import Derived.Outline
import Derived.Test.YtjbfefkbpnickaaProg
namespace Go.Proofs.Ytjbfefkbpnickaa
open Go.RowKit
set_option linter.unusedVariables false
theorem tmod_pos {a n : Int} (h : 0 ≤ a.tmod n) (hn : 0 < n) : a % n = a.tmod n := by
  rw [Int.tmod_eq_emod] at h ⊢
  split
  · simp
  · rw [if_neg (by assumption)] at h
    have := Int.emod_lt_of_pos a hn
    omega
theorem tmod_neg {a n : Int} (h : a.tmod n < 0) (hn : 0 < n) : a % n = a.tmod n + n := by
  rw [Int.tmod_eq_emod] at h ⊢
  split
  · rw [if_pos (by assumption)] at h
    have := Int.emod_nonneg a (show n ≠ 0 by omega)
    omega
  · have : (n.natAbs : Int) = n := by omega
    omega
theorem tmod_bound {a n : Int} (hn : 0 < n) : -n < a.tmod n ∧ a.tmod n < n := by
  rw [Int.tmod_eq_emod]
  have h1 := Int.emod_nonneg a (show n ≠ 0 by omega)
  have h2 := Int.emod_lt_of_pos a hn
  split <;> omega
def ModEnd (a n : Int) (w : World) (e : Ending) (w' : World) : Prop := e = .returned (.int .i64 (a % n)) ∧ w = w'
set_option maxRecDepth 100000 in
theorem mod_any (a n : Int) (w : World) (hn : 0 < n) (hn2 : n ≤ 1000000) : Calls Try.prog 28 #[.int .i64 a, .int .i64 n] w (ModEnd a n w) := by
  have hb := tmod_bound (a := a) hn
  obtain ⟨hb1, hb2⟩ := hb
  have hn0 : ¬ n = 0 := by omega
  by_cases h : a.tmod n < 0
  · have H := hide (tmod_neg h hn)
    go_enter Try.func28, Try.ntmps28
    go_wp2
    go_ret
    exact ⟨ret_int (by rw [H.out]), rfl⟩
  · have H := hide (tmod_pos (a := a) (n := n) (by omega) hn)
    have h' : 0 ≤ a.tmod n := by omega
    go_enter Try.func28, Try.ntmps28
    go_wp2
    go_ret
    exact ⟨ret_int (by rw [H.out]), rfl⟩
end Go.Proofs.Ytjbfefkbpnickaa
