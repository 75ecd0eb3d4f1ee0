/- The walk of the law ConfigPlain. -/
import Derived.Test.YtmlddoajfgmoaaaLPl0
import Derived.Test.YtmlddoajfgmoaaaLPl1
import Derived.Test.YtmlddoajfgmoaaaLPl2
import Derived.Test.YtmlddoajfgmoaaaLPl3
import Derived.Test.YtmlddoajfgmoaaaLPl4
import Derived.Test.YtmlddoajfgmoaaaLPl5
import Derived.Test.YtmlddoajfgmoaaaLPl6
import Derived.Test.YtmlddoajfgmoaaaLPl7
namespace Go.Proofs.Ytmlddoajfgmoaaa
open Go.RowKit Go.ChangeShapes Go.WideShapes
set_option linter.unusedVariables false
theorem configPlain_walk (kind agg W k cap p ch mx field value : Int) (w : World) (hf : (Lit.int .i64 field).wf = true) (hv : (Lit.int .i64 value).wf = true) : Calls Try.prog 5 #[cfgV kind agg W k cap p ch mx, .int .i64 field, .int .i64 value] w fun e w' => e = .returned (.bool true) ∧ Below w.heap.size w w' := by
  rcases vC_two kind agg W k cap p ch mx with h | h
  rotate_left
  · exact cp_bad kind agg W k cap p ch mx field value w h
  by_cases hz : value = 0
  · subst hz
    exact cp_nil kind agg W k cap p ch mx field w h
  by_cases h0 : bits .and .i64 field 7 = 0
  · exact cp_0 kind agg W k cap p ch mx field value w h hz h0
  by_cases h1 : bits .and .i64 field 7 = 1
  · exact cp_1 kind agg W k cap p ch mx field value w h hz h1
  by_cases h2 : bits .and .i64 field 7 = 2
  · exact cp_2 kind agg W k cap p ch mx field value w h hz h2
  by_cases h3 : bits .and .i64 field 7 = 3
  · exact cp_3 kind agg W k cap p ch mx field value w h hz h3
  by_cases h4 : bits .and .i64 field 7 = 4
  · exact cp_4 kind agg W k cap p ch mx field value w h hz h4
  by_cases h5 : bits .and .i64 field 7 = 5
  · exact cp_5 kind agg W k cap p ch mx field value w h hz h5
  by_cases h6 : bits .and .i64 field 7 = 6
  · exact cp_6 kind agg W k cap p ch mx field value w h hz h6
  exact cp_7 kind agg W k cap p ch mx field value w h hz h0 h1 h2 h3 h4 h5 h6
end Go.Proofs.Ytmlddoajfgmoaaa
