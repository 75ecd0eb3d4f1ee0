/- The test of a configuration: the contract for every kind. -/
import Derived.Test.YtmlddoajfgmoaaaValA
import Derived.Test.YtmlddoajfgmoaaaValB
import Derived.Test.YtmlddoajfgmoaaaValC
import Derived.Test.YtmlddoajfgmoaaaValD
import Derived.Test.YtmlddoajfgmoaaaValE
namespace Go.Proofs.Ytmlddoajfgmoaaa
open Go.RowKit
set_option linter.unusedVariables false
set_option maxRecDepth 100000 in
set_option maxHeartbeats 1000000 in
theorem val_other (kind agg W k cap p ch mx : Int) (w : World) (h : kind < 1 ∨ 11 < kind) : Calls Try.prog 7 #[cfgV kind agg W k cap p ch mx] w (ValEnd kind agg W k cap p ch mx w) := by
  have HN := hide (vC_no kind agg W k cap p ch mx h)
  have e1 : (kind == 1) = false := by simp; omega
  have e2 : (kind == 2) = false := by simp; omega
  have e3 : (kind == 3) = false := by simp; omega
  have e4 : (kind == 4) = false := by simp; omega
  have e5 : (kind == 5) = false := by simp; omega
  have e6 : (kind == 6) = false := by simp; omega
  have e7 : (kind == 7) = false := by simp; omega
  have e8 : (kind == 8) = false := by simp; omega
  have e9 : (kind == 9) = false := by simp; omega
  have e10 : (kind == 10) = false := by simp; omega
  have e11 : (kind == 11) = false := by simp; omega
  clear h
  unfold cfgV
  go_enter Try.func7, Try.ntmps7
  go_wp2
  go_ret
  refine ⟨(congrArg (fun z => Ending.returned (.int .i64 z)) HN.out).symm, ?_⟩
  repeat (first | exact Below.refl _ _ | refine Bl.alloc' ?_ _)
theorem validate_any (kind agg W k cap p ch mx : Int) (w : World) : Calls Try.prog 7 #[cfgV kind agg W k cap p ch mx] w (ValEnd kind agg W k cap p ch mx w) := by
  by_cases h : kind < 1 ∨ 11 < kind
  · exact val_other kind agg W k cap p ch mx w h
  · rcases (show kind = 1 ∨ kind = 2 ∨ kind = 3 ∨ kind = 4 ∨ kind = 5 ∨ kind = 6 ∨ kind = 7 ∨ kind = 8 ∨ kind = 9 ∨ kind = 10 ∨ kind = 11 by omega) with rfl | rfl | rfl | rfl | rfl | rfl | rfl | rfl | rfl | rfl | rfl
    · exact val_1 agg W k cap p ch mx w
    · exact val_2 agg W k cap p ch mx w
    · exact val_3 agg W k cap p ch mx w
    · exact val_4 agg W k cap p ch mx w
    · exact val_5 agg W k cap p ch mx w
    · exact val_6 agg W k cap p ch mx w
    · exact val_7 agg W k cap p ch mx w
    · exact val_8 agg W k cap p ch mx w
    · exact val_9 agg W k cap p ch mx w
    · exact val_10 agg W k cap p ch mx w
    · exact val_11 agg W k cap p ch mx w
end Go.Proofs.Ytmlddoajfgmoaaa
