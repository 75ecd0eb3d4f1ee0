/- Is a buffer small enough: the contract. -/
import Derived.Test.YtjbfefkbpnickaaItem
namespace Go.Proofs.Ytjbfefkbpnickaa
open Go.RowKit
set_option linter.unusedVariables false
def FewEnd (n : Nat) (w : World) (e : Ending) (w' : World) : Prop := e = .returned (.bool (decide ((n : Int) ≤ 200))) ∧ Below w.heap.size w w'
set_option maxRecDepth 100000 in
theorem few_any (cap head len : Int) (A : Option Addr) (n c : Nat) (w : World) : Calls Try.prog 14 #[ringV cap head len A n c] w (FewEnd n w) := by
  unfold ringV
  go_enter Try.func14, Try.ntmps14
  go_wp2
  go_ret
  exact ⟨rfl, (Below.refl _ _).alloc (Nat.le_refl _) _⟩
end Go.Proofs.Ytjbfefkbpnickaa
