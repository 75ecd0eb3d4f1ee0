/- The greatest numbers of records are the same; the example of the chapter. -/
import Derived.Test.YtmlddoajfgmoaaaRecA
import Derived.Test.YtmlddoajfgmoaaaRecB
namespace Go.Proofs.Ytmlddoajfgmoaaa
open Go.RowKit
set_option linter.unusedVariables false
def RecEnd (r : Int) (w : World) (e : Ending) (w' : World) : Prop := e = .returned (.int .i64 r) ∧ Below w.heap.size w w'
theorem vC_two (kind agg W k cap p ch mx : Int) : vC kind agg W k cap p ch mx = 0 ∨ vC kind agg W k cap p ch mx = 1 := by
  unfold vC; split
  · exact Or.inl rfl
  · exact Or.inr rfl
theorem okP_of {kind agg W k cap p ch mx : Int} (h : vC kind agg W k cap p ch mx = 0) : okP kind agg W k cap p ch mx := by
  unfold vC at h; split at h
  · assumption
  · cases h
theorem records_same (kind agg W k cap p ch mx : Int) : ∃ r, (vC kind agg W k cap p ch mx = 1 → r = 0) ∧ (∀ w, Calls Try.prog 10 #[cfgV kind agg W k cap p ch mx] w (RecEnd r w)) ∧ (∀ w, Calls Try.prog 11 #[cfgV kind agg W k cap p ch mx] w (RecEnd r w)) := by
  unfold RecEnd
  rcases vC_two kind agg W k cap p ch mx with h | h
  rotate_left
  · exact ⟨0, fun _ => rfl, fun w => rec10_no kind agg W k cap p ch mx w h, fun w => rec11_no kind agg W k cap p ch mx w h⟩
  have ho := okP_of h
  have hn : ¬ vC kind agg W k cap p ch mx = 1 := by omega
  unfold okP at ho
  rcases ho with ⟨rfl, ho⟩ | ⟨rfl, ho⟩ | ⟨rfl, ho⟩ | ⟨rfl, ho⟩ | ⟨rfl, ho⟩ | ⟨rfl, ho⟩ | ⟨rfl, ho⟩ | ⟨rfl, ho⟩ | ⟨rfl, ho⟩ | ⟨rfl, ho⟩ | ⟨rfl, ho⟩
  · exact ⟨cap, fun c => absurd c hn, fun w => rec10_1 agg W k cap p ch mx w h , fun w => rec11_1 agg W k cap p ch mx w h ⟩
  · exact ⟨most10 k cap, fun c => absurd c hn, fun w => rec10_2 agg W k cap p ch mx w h (by omega) (by omega), fun w => rec11_2 agg W k cap p ch mx w h (by omega) (by omega)⟩
  · exact ⟨most10 k cap, fun c => absurd c hn, fun w => rec10_3 agg W k cap p ch mx w h (by omega) (by omega), fun w => rec11_3 agg W k cap p ch mx w h (by omega) (by omega)⟩
  · exact ⟨most13 agg k cap, fun c => absurd c hn, fun w => rec10_4 agg W k cap p ch mx w h (by omega) (by omega) (by omega), fun w => rec11_4 agg W k cap p ch mx w h (by omega) (by omega) (by omega)⟩
  · exact ⟨most14 k cap, fun c => absurd c hn, fun w => rec10_5 agg W k cap p ch mx w h (by omega) (by omega), fun w => rec11_5 agg W k cap p ch mx w h (by omega) (by omega)⟩
  · exact ⟨p + 1, fun c => absurd c hn, fun w => rec10_6 agg W k cap p ch mx w h (by omega), fun w => rec11_6 agg W k cap p ch mx w h (by omega)⟩
  · exact ⟨W, fun c => absurd c hn, fun w => rec10_7 agg W k cap p ch mx w h (by omega), fun w => rec11_7 agg W k cap p ch mx w h (by omega)⟩
  · exact ⟨min W cap, fun c => absurd c hn, fun w => rec10_8 agg W k cap p ch mx w h (by omega) (by omega), fun w => rec11_8 agg W k cap p ch mx w h (by omega) (by omega)⟩
  · exact ⟨ch * cap, fun c => absurd c hn, fun w => rec10_9 agg W k cap p ch mx w h (by omega) (by omega), fun w => rec11_9 agg W k cap p ch mx w h (by omega) (by omega)⟩
  · exact ⟨cap, fun c => absurd c hn, fun w => rec10_10 agg W k cap p ch mx w h , fun w => rec11_10 agg W k cap p ch mx w h ⟩
  · exact ⟨most23 k cap, fun c => absurd c hn, fun w => rec10_11 agg W k cap p ch mx w h (by omega) (by omega), fun w => rec11_11 agg W k cap p ch mx w h (by omega) (by omega)⟩
theorem awake_any (w : World) : Calls Try.prog 9 #[] w fun e w' => e = .returned (.bool true) ∧ Below w.heap.size w w' := by
  have hv : vC 2 0 10 2 100 0 0 0 = 0 := (vC_2 0 10 2 100 0 0 0).1 (by decide)
  have hr : most10 2 100 = 21 := by decide
  have C10 := hide (fun w0 => rec10_2 0 10 2 100 0 0 0 w0 hv (by decide) (by decide))
  unfold cfgV at C10
  simp only [hr] at C10
  clear hv hr
  go_enter Try.func9, Try.ntmps9
  go_wp2_with (go_at_call 10; refine (C10.out _).mono ?_; rintro e w1 ⟨rfl, hb⟩)
  go_ret
  exact ⟨rfl, hb⟩
end Go.Proofs.Ytmlddoajfgmoaaa
