/- Small words shared by the walks. -/
import Derived.Below
import Derived.Calls
namespace Go.Proofs.Ytegfchjnkkobcaa
open Go.RowKit
theorem hide {p : Prop} (h : p) : Hid p := h
theorem ret_int {k : IntKind} {a b : Int} (h : a = b) : Ending.returned (.int k a) = .returned (.int k b) := by rw [h]
theorem ret_int2 {k : IntKind} {a b : Int} {v : Value} (h : a = b) : Ending.returned (.tuple #[.int k a, v]) = .returned (.tuple #[.int k b, v]) := by rw [h]
theorem two (p : Bool) : p = true ∨ p = false := by cases p <;> simp
end Go.Proofs.Ytegfchjnkkobcaa
