/- The test of a configuration, kind by kind: the contract. -/
import Derived.Test.YtmlddoajfgmoaaaOk
import Derived.Test.YtmlddoajfgmoaaaTake
namespace Go.Proofs.Ytmlddoajfgmoaaa
open Go.RowKit
set_option linter.unusedVariables false
def cfgV (kind agg W k cap p ch mx : Int) : Value := .agg #[.int .i64 kind, .int .i64 agg, .int .i64 W, .int .i64 k, .int .i64 cap, .int .i64 p, .int .i64 ch, .int .i64 mx]
def ValEnd (kind agg W k cap p ch mx : Int) (w : World) (e : Ending) (w' : World) : Prop := e = .returned (.int .i64 (vC kind agg W k cap p ch mx)) ∧ Below w.heap.size w w'
set_option maxRecDepth 100000 in
set_option maxHeartbeats 1000000 in
theorem val_6_0 (agg W k cap p ch mx : Int) (w : World)  (h0 : ¬ (0 ≤ p ∧ p ≤ 4)) : Calls Try.prog 7 #[cfgV 6 agg W k cap p ch mx] w (ValEnd 6 agg W k cap p ch mx w) := by
  have C16 := hide in_any
  have CT1 := hide take1
  have CT2 := hide take2
  unfold InEnd at C16
  unfold TakeEnd at CT1 CT2
  have HN := hide ((vC_6 agg W k cap p ch mx).2 (fun c => h0 c.1))
  have C16_0 := hide (fun w0 => C16.out p 0 4 w0)
  rw [decide_eq_false h0] at C16_0
  clear C16 h0
  unfold cfgV
  go_enter Try.func7, Try.ntmps7
  go_wp2_with (fail)
  refine (C16_0.out _).mono ?_
  rintro e w1 ⟨rfl, rfl⟩
  go_wp2_with (fail)
  refine (CT1.out true false (w.heap.size + 1 + 1) (w.heap.size + 1) w.heap.size 5 (.int .i64 p) _ ?_ ?_ ?_ ?_ ?_ ?_ ?_ ?_).mono ?_
  · refine Blk.cell (t := 4) (cs := #[.bool true]) ?_ 0; (repeat (first | ((with_reducible refine Blk.new_at ?_ _ _); simp; done) | with_reducible refine Blk.alloc ?_ _))
  · refine Blk.frozen (t := 4) (cs := #[.bool true]) ?_ 0; (repeat (first | ((with_reducible refine Blk.new_at ?_ _ _); simp; done) | with_reducible refine Blk.alloc ?_ _))
  · refine Blk.cell (t := 33) (cs := #[.pointer (some ⟨w.heap.size, 5, none⟩)]) ?_ 0; (repeat (first | ((with_reducible refine Blk.new_at ?_ _ _); simp; done) | with_reducible refine Blk.alloc ?_ _))
  · refine Blk.cell (t := 23) (cs := #[.int .i64 6, .int .i64 agg, .int .i64 W, .int .i64 k, .int .i64 cap, .int .i64 p, .int .i64 ch, .int .i64 mx]) ?_ 5; (repeat (first | ((with_reducible refine Blk.new_at ?_ _ _); simp; done) | with_reducible refine Blk.alloc ?_ _))
  · refine Blk.frozen (t := 23) (cs := #[.int .i64 6, .int .i64 agg, .int .i64 W, .int .i64 k, .int .i64 cap, .int .i64 p, .int .i64 ch, .int .i64 mx]) ?_ 5; (repeat (first | ((with_reducible refine Blk.new_at ?_ _ _); simp; done) | with_reducible refine Blk.alloc ?_ _))
  · omega
  · omega
  · omega
  rintro e w1 ⟨rfl, rfl⟩
  go_wp2
  go_ret
  refine ⟨(congrArg (fun z => Ending.returned (.int .i64 z)) (HN.out)).symm, ?_⟩
  (· repeat (first | exact Below.refl _ _ | refine Bl.alloc' ?_ _))
set_option maxRecDepth 100000 in
set_option maxHeartbeats 1000000 in
theorem val_6_a (agg W k cap p ch mx : Int) (w : World) (h0 : 0 ≤ p ∧ p ≤ 4) : Calls Try.prog 7 #[cfgV 6 agg W k cap p ch mx] w (ValEnd 6 agg W k cap p ch mx w) := by
  have C16 := hide in_any
  have CT1 := hide take1
  have CT2 := hide take2
  unfold InEnd at C16
  unfold TakeEnd at CT1 CT2
  have HV := hide (fun (hz : agg = 0 ∧ W = 0 ∧ k = 0 ∧ cap = 0 ∧ ch = 0 ∧ mx = 0) => (vC_6 agg W k cap p ch mx).1 ⟨h0, hz⟩)
  have HN := hide (fun (hz : ¬ (agg = 0 ∧ W = 0 ∧ k = 0 ∧ cap = 0 ∧ ch = 0 ∧ mx = 0)) => (vC_6 agg W k cap p ch mx).2 (fun c => hz c.2))
  have C16_0 := hide (fun w0 => C16.out p 0 4 w0)
  rw [decide_eq_true h0] at C16_0
  clear C16 h0
  unfold cfgV
  go_enter Try.func7, Try.ntmps7
  go_wp2_with (fail)
  refine (C16_0.out _).mono ?_
  rintro e w1 ⟨rfl, rfl⟩
  go_wp2_with (fail)
  refine (CT1.out true true (w.heap.size + 1 + 1) (w.heap.size + 1) w.heap.size 5 (.int .i64 p) _ ?_ ?_ ?_ ?_ ?_ ?_ ?_ ?_).mono ?_
  · refine Blk.cell (t := 4) (cs := #[.bool true]) ?_ 0; (repeat (first | ((with_reducible refine Blk.new_at ?_ _ _); simp; done) | with_reducible refine Blk.alloc ?_ _))
  · refine Blk.frozen (t := 4) (cs := #[.bool true]) ?_ 0; (repeat (first | ((with_reducible refine Blk.new_at ?_ _ _); simp; done) | with_reducible refine Blk.alloc ?_ _))
  · refine Blk.cell (t := 33) (cs := #[.pointer (some ⟨w.heap.size, 5, none⟩)]) ?_ 0; (repeat (first | ((with_reducible refine Blk.new_at ?_ _ _); simp; done) | with_reducible refine Blk.alloc ?_ _))
  · refine Blk.cell (t := 23) (cs := #[.int .i64 6, .int .i64 agg, .int .i64 W, .int .i64 k, .int .i64 cap, .int .i64 p, .int .i64 ch, .int .i64 mx]) ?_ 5; (repeat (first | ((with_reducible refine Blk.new_at ?_ _ _); simp; done) | with_reducible refine Blk.alloc ?_ _))
  · refine Blk.frozen (t := 23) (cs := #[.int .i64 6, .int .i64 agg, .int .i64 W, .int .i64 k, .int .i64 cap, .int .i64 p, .int .i64 ch, .int .i64 mx]) ?_ 5; (repeat (first | ((with_reducible refine Blk.new_at ?_ _ _); simp; done) | with_reducible refine Blk.alloc ?_ _))
  · omega
  · omega
  · omega
  rintro e w1 ⟨rfl, rfl⟩
  go_wp2
  all_goals
    go_ret
    first
      | (refine ⟨(congrArg (fun z => Ending.returned (.int .i64 z)) (HV.out ?_)).symm, ?_⟩; (· refine ⟨?_, ?_, ?_, ?_, ?_, ?_⟩ <;> assumption); (· repeat (first | exact Below.refl _ _ | refine Bl.alloc' ?_ _)))
      | (refine ⟨(congrArg (fun z => Ending.returned (.int .i64 z)) (HN.out ?_)).symm, ?_⟩; (· rintro ⟨q0, q1, q2, q3, q4, q5⟩; contradiction); (· repeat (first | exact Below.refl _ _ | refine Bl.alloc' ?_ _)))
theorem val_6 (agg W k cap p ch mx : Int) (w : World) : Calls Try.prog 7 #[cfgV 6 agg W k cap p ch mx] w (ValEnd 6 agg W k cap p ch mx w) := by
  by_cases h0 : 0 ≤ p ∧ p ≤ 4
  rotate_left
  · exact val_6_0 agg W k cap p ch mx w h0
  exact val_6_a agg W k cap p ch mx w h0
set_option maxRecDepth 100000 in
set_option maxHeartbeats 1000000 in
theorem val_1_0 (agg W k cap p ch mx : Int) (w : World)  (h0 : ¬ (1 ≤ cap ∧ cap ≤ 65536)) : Calls Try.prog 7 #[cfgV 1 agg W k cap p ch mx] w (ValEnd 1 agg W k cap p ch mx w) := by
  have C16 := hide in_any
  have CT1 := hide take1
  have CT2 := hide take2
  unfold InEnd at C16
  unfold TakeEnd at CT1 CT2
  have HN := hide ((vC_1 agg W k cap p ch mx).2 (fun c => h0 c.1))
  have C16_0 := hide (fun w0 => C16.out cap 1 65536 w0)
  rw [decide_eq_false h0] at C16_0
  have C16_1 := hide (fun w0 => C16.out W 1 1048576 w0)
  generalize decide (1 ≤ W ∧ W ≤ 1048576) = r1 at *
  clear C16 h0
  unfold cfgV
  go_enter Try.func7, Try.ntmps7
  go_wp2_with (fail)
  refine (C16_0.out _).mono ?_
  rintro e w1 ⟨rfl, rfl⟩
  go_wp2_with (fail)
  refine (CT1.out true false (w.heap.size + 1 + 1) (w.heap.size + 1) w.heap.size 4 (.int .i64 cap) _ ?_ ?_ ?_ ?_ ?_ ?_ ?_ ?_).mono ?_
  · refine Blk.cell (t := 4) (cs := #[.bool true]) ?_ 0; (repeat (first | ((with_reducible refine Blk.new_at ?_ _ _); simp; done) | with_reducible refine Blk.alloc ?_ _))
  · refine Blk.frozen (t := 4) (cs := #[.bool true]) ?_ 0; (repeat (first | ((with_reducible refine Blk.new_at ?_ _ _); simp; done) | with_reducible refine Blk.alloc ?_ _))
  · refine Blk.cell (t := 33) (cs := #[.pointer (some ⟨w.heap.size, 4, none⟩)]) ?_ 0; (repeat (first | ((with_reducible refine Blk.new_at ?_ _ _); simp; done) | with_reducible refine Blk.alloc ?_ _))
  · refine Blk.cell (t := 23) (cs := #[.int .i64 1, .int .i64 agg, .int .i64 W, .int .i64 k, .int .i64 cap, .int .i64 p, .int .i64 ch, .int .i64 mx]) ?_ 4; (repeat (first | ((with_reducible refine Blk.new_at ?_ _ _); simp; done) | with_reducible refine Blk.alloc ?_ _))
  · refine Blk.frozen (t := 23) (cs := #[.int .i64 1, .int .i64 agg, .int .i64 W, .int .i64 k, .int .i64 cap, .int .i64 p, .int .i64 ch, .int .i64 mx]) ?_ 4; (repeat (first | ((with_reducible refine Blk.new_at ?_ _ _); simp; done) | with_reducible refine Blk.alloc ?_ _))
  · omega
  · omega
  · omega
  rintro e w1 ⟨rfl, rfl⟩
  go_wp2
  go_ret
  refine ⟨(congrArg (fun z => Ending.returned (.int .i64 z)) (HN.out)).symm, ?_⟩
  (· repeat (first | exact Below.refl _ _ | refine Bl.alloc' ?_ _))
set_option maxRecDepth 100000 in
set_option maxHeartbeats 1000000 in
theorem val_1_1 (agg W k cap p ch mx : Int) (w : World) (h0 : 1 ≤ cap ∧ cap ≤ 65536) (h1 : ¬ (1 ≤ W ∧ W ≤ 1048576)) : Calls Try.prog 7 #[cfgV 1 agg W k cap p ch mx] w (ValEnd 1 agg W k cap p ch mx w) := by
  have C16 := hide in_any
  have CT1 := hide take1
  have CT2 := hide take2
  unfold InEnd at C16
  unfold TakeEnd at CT1 CT2
  have HN := hide ((vC_1 agg W k cap p ch mx).2 (fun c => h1 c.2.1))
  have C16_0 := hide (fun w0 => C16.out cap 1 65536 w0)
  rw [decide_eq_true h0] at C16_0
  have C16_1 := hide (fun w0 => C16.out W 1 1048576 w0)
  rw [decide_eq_false h1] at C16_1
  clear C16 h0 h1
  unfold cfgV
  go_enter Try.func7, Try.ntmps7
  go_wp2_with (fail)
  refine (C16_0.out _).mono ?_
  rintro e w1 ⟨rfl, rfl⟩
  go_wp2_with (fail)
  refine (CT1.out true true (w.heap.size + 1 + 1) (w.heap.size + 1) w.heap.size 4 (.int .i64 cap) _ ?_ ?_ ?_ ?_ ?_ ?_ ?_ ?_).mono ?_
  · refine Blk.cell (t := 4) (cs := #[.bool true]) ?_ 0; (repeat (first | ((with_reducible refine Blk.new_at ?_ _ _); simp; done) | with_reducible refine Blk.alloc ?_ _))
  · refine Blk.frozen (t := 4) (cs := #[.bool true]) ?_ 0; (repeat (first | ((with_reducible refine Blk.new_at ?_ _ _); simp; done) | with_reducible refine Blk.alloc ?_ _))
  · refine Blk.cell (t := 33) (cs := #[.pointer (some ⟨w.heap.size, 4, none⟩)]) ?_ 0; (repeat (first | ((with_reducible refine Blk.new_at ?_ _ _); simp; done) | with_reducible refine Blk.alloc ?_ _))
  · refine Blk.cell (t := 23) (cs := #[.int .i64 1, .int .i64 agg, .int .i64 W, .int .i64 k, .int .i64 cap, .int .i64 p, .int .i64 ch, .int .i64 mx]) ?_ 4; (repeat (first | ((with_reducible refine Blk.new_at ?_ _ _); simp; done) | with_reducible refine Blk.alloc ?_ _))
  · refine Blk.frozen (t := 23) (cs := #[.int .i64 1, .int .i64 agg, .int .i64 W, .int .i64 k, .int .i64 cap, .int .i64 p, .int .i64 ch, .int .i64 mx]) ?_ 4; (repeat (first | ((with_reducible refine Blk.new_at ?_ _ _); simp; done) | with_reducible refine Blk.alloc ?_ _))
  · omega
  · omega
  · omega
  rintro e w1 ⟨rfl, rfl⟩
  go_wp2_with (fail)
  refine (C16_1.out _).mono ?_
  rintro e w1 ⟨rfl, rfl⟩
  go_wp2
  go_ret
  refine ⟨(congrArg (fun z => Ending.returned (.int .i64 z)) (HN.out)).symm, ?_⟩
  (· repeat (first | exact Below.refl _ _ | refine Bl.alloc' ?_ _))
set_option maxRecDepth 100000 in
set_option maxHeartbeats 1000000 in
theorem val_1_a (agg W k cap p ch mx : Int) (w : World) (h0 : 1 ≤ cap ∧ cap ≤ 65536) (h1 : 1 ≤ W ∧ W ≤ 1048576) : Calls Try.prog 7 #[cfgV 1 agg W k cap p ch mx] w (ValEnd 1 agg W k cap p ch mx w) := by
  have C16 := hide in_any
  have CT1 := hide take1
  have CT2 := hide take2
  unfold InEnd at C16
  unfold TakeEnd at CT1 CT2
  have HV := hide (fun (hz : agg = 0 ∧ k = 0 ∧ p = 0 ∧ ch = 0 ∧ mx = 0) => (vC_1 agg W k cap p ch mx).1 ⟨h0, h1, hz⟩)
  have HN := hide (fun (hz : ¬ (agg = 0 ∧ k = 0 ∧ p = 0 ∧ ch = 0 ∧ mx = 0)) => (vC_1 agg W k cap p ch mx).2 (fun c => hz c.2.2))
  have C16_0 := hide (fun w0 => C16.out cap 1 65536 w0)
  rw [decide_eq_true h0] at C16_0
  have C16_1 := hide (fun w0 => C16.out W 1 1048576 w0)
  rw [decide_eq_true h1] at C16_1
  clear C16 h0 h1
  unfold cfgV
  go_enter Try.func7, Try.ntmps7
  go_wp2_with (fail)
  refine (C16_0.out _).mono ?_
  rintro e w1 ⟨rfl, rfl⟩
  go_wp2_with (fail)
  refine (CT1.out true true (w.heap.size + 1 + 1) (w.heap.size + 1) w.heap.size 4 (.int .i64 cap) _ ?_ ?_ ?_ ?_ ?_ ?_ ?_ ?_).mono ?_
  · refine Blk.cell (t := 4) (cs := #[.bool true]) ?_ 0; (repeat (first | ((with_reducible refine Blk.new_at ?_ _ _); simp; done) | with_reducible refine Blk.alloc ?_ _))
  · refine Blk.frozen (t := 4) (cs := #[.bool true]) ?_ 0; (repeat (first | ((with_reducible refine Blk.new_at ?_ _ _); simp; done) | with_reducible refine Blk.alloc ?_ _))
  · refine Blk.cell (t := 33) (cs := #[.pointer (some ⟨w.heap.size, 4, none⟩)]) ?_ 0; (repeat (first | ((with_reducible refine Blk.new_at ?_ _ _); simp; done) | with_reducible refine Blk.alloc ?_ _))
  · refine Blk.cell (t := 23) (cs := #[.int .i64 1, .int .i64 agg, .int .i64 W, .int .i64 k, .int .i64 cap, .int .i64 p, .int .i64 ch, .int .i64 mx]) ?_ 4; (repeat (first | ((with_reducible refine Blk.new_at ?_ _ _); simp; done) | with_reducible refine Blk.alloc ?_ _))
  · refine Blk.frozen (t := 23) (cs := #[.int .i64 1, .int .i64 agg, .int .i64 W, .int .i64 k, .int .i64 cap, .int .i64 p, .int .i64 ch, .int .i64 mx]) ?_ 4; (repeat (first | ((with_reducible refine Blk.new_at ?_ _ _); simp; done) | with_reducible refine Blk.alloc ?_ _))
  · omega
  · omega
  · omega
  rintro e w1 ⟨rfl, rfl⟩
  go_wp2_with (fail)
  refine (C16_1.out _).mono ?_
  rintro e w1 ⟨rfl, rfl⟩
  go_wp2
  all_goals
    go_ret
    first
      | (refine ⟨(congrArg (fun z => Ending.returned (.int .i64 z)) (HV.out ?_)).symm, ?_⟩; (· refine ⟨?_, ?_, ?_, ?_, ?_⟩ <;> assumption); (· repeat (first | exact Below.refl _ _ | refine Bl.alloc' ?_ _)))
      | (refine ⟨(congrArg (fun z => Ending.returned (.int .i64 z)) (HN.out ?_)).symm, ?_⟩; (· rintro ⟨q0, q1, q2, q3, q4⟩; contradiction); (· repeat (first | exact Below.refl _ _ | refine Bl.alloc' ?_ _)))
theorem val_1 (agg W k cap p ch mx : Int) (w : World) : Calls Try.prog 7 #[cfgV 1 agg W k cap p ch mx] w (ValEnd 1 agg W k cap p ch mx w) := by
  by_cases h0 : 1 ≤ cap ∧ cap ≤ 65536
  rotate_left
  · exact val_1_0 agg W k cap p ch mx w h0
  by_cases h1 : 1 ≤ W ∧ W ≤ 1048576
  rotate_left
  · exact val_1_1 agg W k cap p ch mx w h0 h1
  exact val_1_a agg W k cap p ch mx w h0 h1
set_option maxRecDepth 100000 in
set_option maxHeartbeats 1000000 in
theorem val_7_0 (agg W k cap p ch mx : Int) (w : World)  (h0 : ¬ (1 ≤ W ∧ W ≤ 64)) : Calls Try.prog 7 #[cfgV 7 agg W k cap p ch mx] w (ValEnd 7 agg W k cap p ch mx w) := by
  have C16 := hide in_any
  have CT1 := hide take1
  have CT2 := hide take2
  unfold InEnd at C16
  unfold TakeEnd at CT1 CT2
  have HN := hide ((vC_7 agg W k cap p ch mx).2 (fun c => h0 c.1))
  have C16_0 := hide (fun w0 => C16.out W 1 64 w0)
  rw [decide_eq_false h0] at C16_0
  clear C16 h0
  unfold cfgV
  go_enter Try.func7, Try.ntmps7
  go_wp2_with (fail)
  refine (C16_0.out _).mono ?_
  rintro e w1 ⟨rfl, rfl⟩
  go_wp2
  go_ret
  refine ⟨(congrArg (fun z => Ending.returned (.int .i64 z)) (HN.out)).symm, ?_⟩
  (· repeat (first | exact Below.refl _ _ | refine Bl.alloc' ?_ _))
set_option maxRecDepth 100000 in
set_option maxHeartbeats 1000000 in
theorem val_7_a (agg W k cap p ch mx : Int) (w : World) (h0 : 1 ≤ W ∧ W ≤ 64) : Calls Try.prog 7 #[cfgV 7 agg W k cap p ch mx] w (ValEnd 7 agg W k cap p ch mx w) := by
  have C16 := hide in_any
  have CT1 := hide take1
  have CT2 := hide take2
  unfold InEnd at C16
  unfold TakeEnd at CT1 CT2
  have HV := hide (fun (hz : agg = 0 ∧ k = 0 ∧ cap = 0 ∧ p = 0 ∧ ch = 0 ∧ mx = 0) => (vC_7 agg W k cap p ch mx).1 ⟨h0, hz⟩)
  have HN := hide (fun (hz : ¬ (agg = 0 ∧ k = 0 ∧ cap = 0 ∧ p = 0 ∧ ch = 0 ∧ mx = 0)) => (vC_7 agg W k cap p ch mx).2 (fun c => hz c.2))
  have C16_0 := hide (fun w0 => C16.out W 1 64 w0)
  rw [decide_eq_true h0] at C16_0
  clear C16 h0
  unfold cfgV
  go_enter Try.func7, Try.ntmps7
  go_wp2_with (fail)
  refine (C16_0.out _).mono ?_
  rintro e w1 ⟨rfl, rfl⟩
  go_wp2
  all_goals
    go_ret
    first
      | (refine ⟨(congrArg (fun z => Ending.returned (.int .i64 z)) (HV.out ?_)).symm, ?_⟩; (· refine ⟨?_, ?_, ?_, ?_, ?_, ?_⟩ <;> assumption); (· repeat (first | exact Below.refl _ _ | refine Bl.alloc' ?_ _)))
      | (refine ⟨(congrArg (fun z => Ending.returned (.int .i64 z)) (HN.out ?_)).symm, ?_⟩; (· rintro ⟨q0, q1, q2, q3, q4, q5⟩; contradiction); (· repeat (first | exact Below.refl _ _ | refine Bl.alloc' ?_ _)))
theorem val_7 (agg W k cap p ch mx : Int) (w : World) : Calls Try.prog 7 #[cfgV 7 agg W k cap p ch mx] w (ValEnd 7 agg W k cap p ch mx w) := by
  by_cases h0 : 1 ≤ W ∧ W ≤ 64
  rotate_left
  · exact val_7_0 agg W k cap p ch mx w h0
  exact val_7_a agg W k cap p ch mx w h0
end Go.Proofs.Ytmlddoajfgmoaaa
