/- Which questions a kind answers: joined. -/
import Derived.Test.YtmlddoajfgmoaaaAnsB
import Derived.Test.YtmlddoajfgmoaaaRec
namespace Go.Proofs.Ytmlddoajfgmoaaa
open Go.RowKit
set_option linter.unusedVariables false
def AnsEnd (b : Bool) (w : World) (e : Ending) (w' : World) : Prop := e = .returned (.bool b) ∧ Below w.heap.size w w'
theorem answers_same (kind agg W k cap p ch mx op : Int) (hf1 : -9223372036854775808 ≤ op) (hf2 : op ≤ 9223372036854775807) : ∃ b, (∀ w, Calls Try.prog 13 #[cfgV kind agg W k cap p ch mx, .int .i64 op] w (AnsEnd b w)) ∧ (∀ w, Calls Try.prog 14 #[cfgV kind agg W k cap p ch mx, .int .i64 op] w (AnsEnd b w)) := by
  unfold AnsEnd
  rcases vC_two kind agg W k cap p ch mx with h | h
  rotate_left
  · exact ⟨false, fun w => ans13_no kind agg W k cap p ch mx op w h, fun w => ans14_no kind agg W k cap p ch mx op w h⟩
  have ho := okP_of h
  unfold okP at ho
  rcases ho with ⟨rfl, ho⟩ | ⟨rfl, ho⟩ | ⟨rfl, ho⟩ | ⟨rfl, ho⟩ | ⟨rfl, ho⟩ | ⟨rfl, ho⟩ | ⟨rfl, ho⟩ | ⟨rfl, ho⟩ | ⟨rfl, ho⟩ | ⟨rfl, ho⟩ | ⟨rfl, ho⟩
  · by_cases h1 : 1 ≤ op
    · by_cases h2 : op ≤ 8
      · exact ⟨true, fun w => ans13_1_in agg W k cap p ch mx op w h h1 h2, fun w => ans14_1_in agg W k cap p ch mx op w h h1 h2⟩
      · exact ⟨false, fun w => ans13_1_hi agg W k cap p ch mx op w h h1 (by omega), fun w => ans14_1_hi agg W k cap p ch mx op w h h1 (by omega)⟩
    · exact ⟨false, fun w => ans13_1_lo agg W k cap p ch mx op w h (by omega), fun w => ans14_1_lo agg W k cap p ch mx op w h (by omega)⟩
  · by_cases h1 : op = 1
    · exact ⟨true, fun w => ans13_2_y agg W k cap p ch mx op w h h1, fun w => ans14_2_y agg W k cap p ch mx op w h h1⟩
    · exact ⟨false, fun w => ans13_2_n agg W k cap p ch mx op w h h1, fun w => ans14_2_n agg W k cap p ch mx op w h h1⟩
  · by_cases h1 : op = 2
    · exact ⟨true, fun w => ans13_3_y agg W k cap p ch mx op w h h1, fun w => ans14_3_y agg W k cap p ch mx op w h h1⟩
    · exact ⟨false, fun w => ans13_3_n agg W k cap p ch mx op w h h1, fun w => ans14_3_n agg W k cap p ch mx op w h h1⟩
  · by_cases h1 : op = agg
    · exact ⟨true, fun w => ans13_4_y agg W k cap p ch mx op w h (by omega) h1.symm, fun w => ans14_4_y agg W k cap p ch mx op w h (by omega) h1.symm⟩
    · exact ⟨false, fun w => ans13_4_n agg W k cap p ch mx op w h (by omega) hf1 hf2 h1, fun w => ans14_4_n agg W k cap p ch mx op w h (by omega) hf1 hf2 h1⟩
  · by_cases h1 : op = 5
    · exact ⟨true, fun w => ans13_5_y agg W k cap p ch mx op w h h1, fun w => ans14_5_y agg W k cap p ch mx op w h h1⟩
    · exact ⟨false, fun w => ans13_5_n agg W k cap p ch mx op w h h1, fun w => ans14_5_n agg W k cap p ch mx op w h h1⟩
  · by_cases h1 : op = 9
    · exact ⟨true, fun w => ans13_6_y agg W k cap p ch mx op w h h1, fun w => ans14_6_y agg W k cap p ch mx op w h h1⟩
    · exact ⟨false, fun w => ans13_6_n agg W k cap p ch mx op w h h1, fun w => ans14_6_n agg W k cap p ch mx op w h h1⟩
  · by_cases h1 : op = 9
    · exact ⟨true, fun w => ans13_7_y agg W k cap p ch mx op w h h1, fun w => ans14_7_y agg W k cap p ch mx op w h h1⟩
    · exact ⟨false, fun w => ans13_7_n agg W k cap p ch mx op w h h1, fun w => ans14_7_n agg W k cap p ch mx op w h h1⟩
  · by_cases h1 : op = 6
    · exact ⟨true, fun w => ans13_8_y agg W k cap p ch mx op w h h1, fun w => ans14_8_y agg W k cap p ch mx op w h h1⟩
    · exact ⟨false, fun w => ans13_8_n agg W k cap p ch mx op w h h1, fun w => ans14_8_n agg W k cap p ch mx op w h h1⟩
  · by_cases h1 : op = 10
    · exact ⟨true, fun w => ans13_9_y agg W k cap p ch mx op w h h1, fun w => ans14_9_y agg W k cap p ch mx op w h h1⟩
    · exact ⟨false, fun w => ans13_9_n agg W k cap p ch mx op w h h1, fun w => ans14_9_n agg W k cap p ch mx op w h h1⟩
  · by_cases h1 : op = 7
    · exact ⟨true, fun w => ans13_10_y7 agg W k cap p ch mx op w h h1, fun w => ans14_10_y7 agg W k cap p ch mx op w h h1⟩
    · by_cases h2 : op = 8
      · exact ⟨true, fun w => ans13_10_y8 agg W k cap p ch mx op w h h2, fun w => ans14_10_y8 agg W k cap p ch mx op w h h2⟩
      · exact ⟨false, fun w => ans13_10_n agg W k cap p ch mx op w h h1 h2, fun w => ans14_10_n agg W k cap p ch mx op w h h1 h2⟩
  · by_cases h1 : op = 7
    · exact ⟨true, fun w => ans13_11_y7 agg W k cap p ch mx op w h h1, fun w => ans14_11_y7 agg W k cap p ch mx op w h h1⟩
    · by_cases h2 : op = 8
      · exact ⟨true, fun w => ans13_11_y8 agg W k cap p ch mx op w h h2, fun w => ans14_11_y8 agg W k cap p ch mx op w h h2⟩
      · exact ⟨false, fun w => ans13_11_n agg W k cap p ch mx op w h h1 h2, fun w => ans14_11_n agg W k cap p ch mx op w h h1 h2⟩
end Go.Proofs.Ytmlddoajfgmoaaa
