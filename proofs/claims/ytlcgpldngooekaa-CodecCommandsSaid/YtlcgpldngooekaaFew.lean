/- Whether a command is small: the contract. -/
import Derived.Test.YtlcgpldngooekaaRE
namespace Go.Proofs.Ytlcgpldngooekaa
open Go.RowKit
set_option linter.unusedVariables false
set_option maxRecDepth 100000
def FewR (b : Bool) (w : World) (e : Ending) (w' : World) : Prop := e = .returned (.bool b) ∧ Below w.heap.size w w'
theorem few_any (x : CmdD) (A1 : Option Addr) (c1 : Nat) (A2 : Option Addr) (c2 : Nat) (w : World) : Calls Try.prog 26 #[.agg (x.cells A1 c1 A2 c2)] w (FewR (decide (x.ds.length ≤ 200 ∧ x.bs.length ≤ 500)) w) := by
  by_cases h1 : x.ds.length ≤ 200
  · have d1 : decide ((x.ds.length : Int) ≤ 200) = true := by simp; omega
    by_cases h2 : x.bs.length ≤ 500
    · have d2 : decide ((x.bs.length : Int) ≤ 500) = true := by simp; omega
      have HH := hide (show decide (x.ds.length ≤ 200 ∧ x.bs.length ≤ 500) = true by simp [h1, h2])
      unfold CmdD.cells
      go_enter Try.func26, Try.ntmps26
      go_wp2
      go_ret
      exact ⟨by rw [HH.out]; rfl, (Below.refl _ w).alloc (Nat.le_refl _) _⟩
    · have d2 : decide ((x.bs.length : Int) ≤ 500) = false := by simp; omega
      have HH := hide (show decide (x.ds.length ≤ 200 ∧ x.bs.length ≤ 500) = false by simp [h2])
      unfold CmdD.cells
      go_enter Try.func26, Try.ntmps26
      go_wp2
      go_ret
      exact ⟨by rw [HH.out]; rfl, (Below.refl _ w).alloc (Nat.le_refl _) _⟩
  · have d1 : decide ((x.ds.length : Int) ≤ 200) = false := by simp; omega
    have HH := hide (show decide (x.ds.length ≤ 200 ∧ x.bs.length ≤ 500) = false by simp [h1])
    unfold CmdD.cells
    go_enter Try.func26, Try.ntmps26
    go_wp2
    go_ret
    exact ⟨by rw [HH.out]; rfl, (Below.refl _ w).alloc (Nat.le_refl _) _⟩
end Go.Proofs.Ytlcgpldngooekaa
