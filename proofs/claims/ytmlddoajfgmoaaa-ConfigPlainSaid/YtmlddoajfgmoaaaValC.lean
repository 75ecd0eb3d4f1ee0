/- The test of a configuration, kind by kind: the contract. -/
import Derived.Test.YtmlddoajfgmoaaaOk
import Derived.Test.YtmlddoajfgmoaaaTake
import Derived.Test.YtmlddoajfgmoaaaValA
namespace Go.Proofs.Ytmlddoajfgmoaaa
open Go.RowKit
set_option linter.unusedVariables false
set_option maxRecDepth 100000 in
set_option maxHeartbeats 1000000 in
theorem val_8_0 (agg W k cap p ch mx : Int) (w : World)  (h0 : ¬ (0 ≤ mx ∧ mx ≤ 1)) : Calls Try.prog 7 #[cfgV 8 agg W k cap p ch mx] w (ValEnd 8 agg W k cap p ch mx w) := by
  have C16 := hide in_any
  have CT1 := hide take1
  have CT2 := hide take2
  unfold InEnd at C16
  unfold TakeEnd at CT1 CT2
  have HN := hide ((vC_8 agg W k cap p ch mx).2 (fun c => h0 c.1))
  have C16_0 := hide (fun w0 => C16.out mx 0 1 w0)
  rw [decide_eq_false h0] at C16_0
  have C16_1 := hide (fun w0 => C16.out cap 1 65536 w0)
  generalize decide (1 ≤ cap ∧ cap ≤ 65536) = r1 at *
  have C16_2 := hide (fun w0 => C16.out W 1 1048576 w0)
  generalize decide (1 ≤ W ∧ W ≤ 1048576) = r2 at *
  clear C16 h0
  unfold cfgV
  go_enter Try.func7, Try.ntmps7
  go_wp2_with (fail)
  refine (C16_0.out _).mono ?_
  rintro e w1 ⟨rfl, rfl⟩
  go_wp2_with (fail)
  refine (C16_1.out _).mono ?_
  rintro e w1 ⟨rfl, rfl⟩
  go_wp2_with (fail)
  refine (CT1.out false r1 (w.heap.size + 1 + 1) (w.heap.size + 1) w.heap.size 4 (.int .i64 cap) _ ?_ ?_ ?_ ?_ ?_ ?_ ?_ ?_).mono ?_
  · refine Blk.cell (t := 4) (cs := #[.bool false]) ?_ 0; (repeat (first | ((with_reducible refine Blk.new_at ?_ _ _); simp; done) | with_reducible refine Blk.alloc ?_ _))
  · refine Blk.frozen (t := 4) (cs := #[.bool false]) ?_ 0; (repeat (first | ((with_reducible refine Blk.new_at ?_ _ _); simp; done) | with_reducible refine Blk.alloc ?_ _))
  · refine Blk.cell (t := 33) (cs := #[.pointer (some ⟨w.heap.size, 4, none⟩)]) ?_ 0; (repeat (first | ((with_reducible refine Blk.new_at ?_ _ _); simp; done) | with_reducible refine Blk.alloc ?_ _))
  · refine Blk.cell (t := 23) (cs := #[.int .i64 8, .int .i64 agg, .int .i64 W, .int .i64 k, .int .i64 cap, .int .i64 p, .int .i64 ch, .int .i64 0]) ?_ 4; (repeat (first | ((with_reducible refine Blk.new_at ?_ _ _); simp; done) | with_reducible refine Blk.alloc ?_ _))
  · refine Blk.frozen (t := 23) (cs := #[.int .i64 8, .int .i64 agg, .int .i64 W, .int .i64 k, .int .i64 cap, .int .i64 p, .int .i64 ch, .int .i64 0]) ?_ 4; (repeat (first | ((with_reducible refine Blk.new_at ?_ _ _); simp; done) | with_reducible refine Blk.alloc ?_ _))
  · omega
  · omega
  · omega
  rintro e w1 ⟨rfl, rfl⟩
  go_wp2
  go_ret
  refine ⟨(congrArg (fun z => Ending.returned (.int .i64 z)) (HN.out)).symm, ?_⟩
  (· repeat (first | exact Below.refl _ _ | refine Bl.alloc' ?_ _))
set_option maxRecDepth 100000 in
set_option maxHeartbeats 1000000 in
theorem val_8_1 (agg W k cap p ch mx : Int) (w : World) (h0 : 0 ≤ mx ∧ mx ≤ 1) (h1 : ¬ (1 ≤ cap ∧ cap ≤ 65536)) : Calls Try.prog 7 #[cfgV 8 agg W k cap p ch mx] w (ValEnd 8 agg W k cap p ch mx w) := by
  have C16 := hide in_any
  have CT1 := hide take1
  have CT2 := hide take2
  unfold InEnd at C16
  unfold TakeEnd at CT1 CT2
  have HN := hide ((vC_8 agg W k cap p ch mx).2 (fun c => h1 c.2.1))
  have C16_0 := hide (fun w0 => C16.out mx 0 1 w0)
  rw [decide_eq_true h0] at C16_0
  have C16_1 := hide (fun w0 => C16.out cap 1 65536 w0)
  rw [decide_eq_false h1] at C16_1
  have C16_2 := hide (fun w0 => C16.out W 1 1048576 w0)
  generalize decide (1 ≤ W ∧ W ≤ 1048576) = r2 at *
  clear C16 h0 h1
  unfold cfgV
  go_enter Try.func7, Try.ntmps7
  go_wp2_with (fail)
  refine (C16_0.out _).mono ?_
  rintro e w1 ⟨rfl, rfl⟩
  go_wp2_with (fail)
  refine (C16_1.out _).mono ?_
  rintro e w1 ⟨rfl, rfl⟩
  go_wp2_with (fail)
  refine (CT1.out true false (w.heap.size + 1 + 1) (w.heap.size + 1) w.heap.size 4 (.int .i64 cap) _ ?_ ?_ ?_ ?_ ?_ ?_ ?_ ?_).mono ?_
  · refine Blk.cell (t := 4) (cs := #[.bool true]) ?_ 0; (repeat (first | ((with_reducible refine Blk.new_at ?_ _ _); simp; done) | with_reducible refine Blk.alloc ?_ _))
  · refine Blk.frozen (t := 4) (cs := #[.bool true]) ?_ 0; (repeat (first | ((with_reducible refine Blk.new_at ?_ _ _); simp; done) | with_reducible refine Blk.alloc ?_ _))
  · refine Blk.cell (t := 33) (cs := #[.pointer (some ⟨w.heap.size, 4, none⟩)]) ?_ 0; (repeat (first | ((with_reducible refine Blk.new_at ?_ _ _); simp; done) | with_reducible refine Blk.alloc ?_ _))
  · refine Blk.cell (t := 23) (cs := #[.int .i64 8, .int .i64 agg, .int .i64 W, .int .i64 k, .int .i64 cap, .int .i64 p, .int .i64 ch, .int .i64 0]) ?_ 4; (repeat (first | ((with_reducible refine Blk.new_at ?_ _ _); simp; done) | with_reducible refine Blk.alloc ?_ _))
  · refine Blk.frozen (t := 23) (cs := #[.int .i64 8, .int .i64 agg, .int .i64 W, .int .i64 k, .int .i64 cap, .int .i64 p, .int .i64 ch, .int .i64 0]) ?_ 4; (repeat (first | ((with_reducible refine Blk.new_at ?_ _ _); simp; done) | with_reducible refine Blk.alloc ?_ _))
  · omega
  · omega
  · omega
  rintro e w1 ⟨rfl, rfl⟩
  go_wp2
  go_ret
  refine ⟨(congrArg (fun z => Ending.returned (.int .i64 z)) (HN.out)).symm, ?_⟩
  (· repeat (first | exact Below.refl _ _ | refine Bl.alloc' ?_ _))
set_option maxRecDepth 100000 in
set_option maxHeartbeats 1000000 in
theorem val_8_2 (agg W k cap p ch mx : Int) (w : World) (h0 : 0 ≤ mx ∧ mx ≤ 1) (h1 : 1 ≤ cap ∧ cap ≤ 65536) (h2 : ¬ (1 ≤ W ∧ W ≤ 1048576)) : Calls Try.prog 7 #[cfgV 8 agg W k cap p ch mx] w (ValEnd 8 agg W k cap p ch mx w) := by
  have C16 := hide in_any
  have CT1 := hide take1
  have CT2 := hide take2
  unfold InEnd at C16
  unfold TakeEnd at CT1 CT2
  have HN := hide ((vC_8 agg W k cap p ch mx).2 (fun c => h2 c.2.2.1))
  have C16_0 := hide (fun w0 => C16.out mx 0 1 w0)
  rw [decide_eq_true h0] at C16_0
  have C16_1 := hide (fun w0 => C16.out cap 1 65536 w0)
  rw [decide_eq_true h1] at C16_1
  have C16_2 := hide (fun w0 => C16.out W 1 1048576 w0)
  rw [decide_eq_false h2] at C16_2
  clear C16 h0 h1 h2
  unfold cfgV
  go_enter Try.func7, Try.ntmps7
  go_wp2_with (fail)
  refine (C16_0.out _).mono ?_
  rintro e w1 ⟨rfl, rfl⟩
  go_wp2_with (fail)
  refine (C16_1.out _).mono ?_
  rintro e w1 ⟨rfl, rfl⟩
  go_wp2_with (fail)
  refine (CT1.out true true (w.heap.size + 1 + 1) (w.heap.size + 1) w.heap.size 4 (.int .i64 cap) _ ?_ ?_ ?_ ?_ ?_ ?_ ?_ ?_).mono ?_
  · refine Blk.cell (t := 4) (cs := #[.bool true]) ?_ 0; (repeat (first | ((with_reducible refine Blk.new_at ?_ _ _); simp; done) | with_reducible refine Blk.alloc ?_ _))
  · refine Blk.frozen (t := 4) (cs := #[.bool true]) ?_ 0; (repeat (first | ((with_reducible refine Blk.new_at ?_ _ _); simp; done) | with_reducible refine Blk.alloc ?_ _))
  · refine Blk.cell (t := 33) (cs := #[.pointer (some ⟨w.heap.size, 4, none⟩)]) ?_ 0; (repeat (first | ((with_reducible refine Blk.new_at ?_ _ _); simp; done) | with_reducible refine Blk.alloc ?_ _))
  · refine Blk.cell (t := 23) (cs := #[.int .i64 8, .int .i64 agg, .int .i64 W, .int .i64 k, .int .i64 cap, .int .i64 p, .int .i64 ch, .int .i64 0]) ?_ 4; (repeat (first | ((with_reducible refine Blk.new_at ?_ _ _); simp; done) | with_reducible refine Blk.alloc ?_ _))
  · refine Blk.frozen (t := 23) (cs := #[.int .i64 8, .int .i64 agg, .int .i64 W, .int .i64 k, .int .i64 cap, .int .i64 p, .int .i64 ch, .int .i64 0]) ?_ 4; (repeat (first | ((with_reducible refine Blk.new_at ?_ _ _); simp; done) | with_reducible refine Blk.alloc ?_ _))
  · omega
  · omega
  · omega
  rintro e w1 ⟨rfl, rfl⟩
  go_wp2_with (fail)
  refine (C16_2.out _).mono ?_
  rintro e w1 ⟨rfl, rfl⟩
  go_wp2
  go_ret
  refine ⟨(congrArg (fun z => Ending.returned (.int .i64 z)) (HN.out)).symm, ?_⟩
  (· repeat (first | exact Below.refl _ _ | refine Bl.alloc' ?_ _))
set_option maxRecDepth 100000 in
set_option maxHeartbeats 1000000 in
theorem val_8_a (agg W k cap p ch mx : Int) (w : World) (h0 : 0 ≤ mx ∧ mx ≤ 1) (h1 : 1 ≤ cap ∧ cap ≤ 65536) (h2 : 1 ≤ W ∧ W ≤ 1048576) : Calls Try.prog 7 #[cfgV 8 agg W k cap p ch mx] w (ValEnd 8 agg W k cap p ch mx w) := by
  have C16 := hide in_any
  have CT1 := hide take1
  have CT2 := hide take2
  unfold InEnd at C16
  unfold TakeEnd at CT1 CT2
  have HV := hide (fun (hz : agg = 0 ∧ k = 0 ∧ p = 0 ∧ ch = 0) => (vC_8 agg W k cap p ch mx).1 ⟨h0, h1, h2, hz⟩)
  have HN := hide (fun (hz : ¬ (agg = 0 ∧ k = 0 ∧ p = 0 ∧ ch = 0)) => (vC_8 agg W k cap p ch mx).2 (fun c => hz c.2.2.2))
  have C16_0 := hide (fun w0 => C16.out mx 0 1 w0)
  rw [decide_eq_true h0] at C16_0
  have C16_1 := hide (fun w0 => C16.out cap 1 65536 w0)
  rw [decide_eq_true h1] at C16_1
  have C16_2 := hide (fun w0 => C16.out W 1 1048576 w0)
  rw [decide_eq_true h2] at C16_2
  clear C16 h0 h1 h2
  unfold cfgV
  go_enter Try.func7, Try.ntmps7
  go_wp2_with (fail)
  refine (C16_0.out _).mono ?_
  rintro e w1 ⟨rfl, rfl⟩
  go_wp2_with (fail)
  refine (C16_1.out _).mono ?_
  rintro e w1 ⟨rfl, rfl⟩
  go_wp2_with (fail)
  refine (CT1.out true true (w.heap.size + 1 + 1) (w.heap.size + 1) w.heap.size 4 (.int .i64 cap) _ ?_ ?_ ?_ ?_ ?_ ?_ ?_ ?_).mono ?_
  · refine Blk.cell (t := 4) (cs := #[.bool true]) ?_ 0; (repeat (first | ((with_reducible refine Blk.new_at ?_ _ _); simp; done) | with_reducible refine Blk.alloc ?_ _))
  · refine Blk.frozen (t := 4) (cs := #[.bool true]) ?_ 0; (repeat (first | ((with_reducible refine Blk.new_at ?_ _ _); simp; done) | with_reducible refine Blk.alloc ?_ _))
  · refine Blk.cell (t := 33) (cs := #[.pointer (some ⟨w.heap.size, 4, none⟩)]) ?_ 0; (repeat (first | ((with_reducible refine Blk.new_at ?_ _ _); simp; done) | with_reducible refine Blk.alloc ?_ _))
  · refine Blk.cell (t := 23) (cs := #[.int .i64 8, .int .i64 agg, .int .i64 W, .int .i64 k, .int .i64 cap, .int .i64 p, .int .i64 ch, .int .i64 0]) ?_ 4; (repeat (first | ((with_reducible refine Blk.new_at ?_ _ _); simp; done) | with_reducible refine Blk.alloc ?_ _))
  · refine Blk.frozen (t := 23) (cs := #[.int .i64 8, .int .i64 agg, .int .i64 W, .int .i64 k, .int .i64 cap, .int .i64 p, .int .i64 ch, .int .i64 0]) ?_ 4; (repeat (first | ((with_reducible refine Blk.new_at ?_ _ _); simp; done) | with_reducible refine Blk.alloc ?_ _))
  · omega
  · omega
  · omega
  rintro e w1 ⟨rfl, rfl⟩
  go_wp2_with (fail)
  refine (C16_2.out _).mono ?_
  rintro e w1 ⟨rfl, rfl⟩
  go_wp2
  all_goals
    go_ret
    first
      | (refine ⟨(congrArg (fun z => Ending.returned (.int .i64 z)) (HV.out ?_)).symm, ?_⟩; (· refine ⟨?_, ?_, ?_, ?_⟩ <;> assumption); (· repeat (first | exact Below.refl _ _ | refine Bl.alloc' ?_ _)))
      | (refine ⟨(congrArg (fun z => Ending.returned (.int .i64 z)) (HN.out ?_)).symm, ?_⟩; (· rintro ⟨q0, q1, q2, q3⟩; contradiction); (· repeat (first | exact Below.refl _ _ | refine Bl.alloc' ?_ _)))
theorem val_8 (agg W k cap p ch mx : Int) (w : World) : Calls Try.prog 7 #[cfgV 8 agg W k cap p ch mx] w (ValEnd 8 agg W k cap p ch mx w) := by
  by_cases h0 : 0 ≤ mx ∧ mx ≤ 1
  rotate_left
  · exact val_8_0 agg W k cap p ch mx w h0
  by_cases h1 : 1 ≤ cap ∧ cap ≤ 65536
  rotate_left
  · exact val_8_1 agg W k cap p ch mx w h0 h1
  by_cases h2 : 1 ≤ W ∧ W ≤ 1048576
  rotate_left
  · exact val_8_2 agg W k cap p ch mx w h0 h1 h2
  exact val_8_a agg W k cap p ch mx w h0 h1 h2
set_option maxRecDepth 100000 in
set_option maxHeartbeats 1000000 in
theorem val_9_0 (agg W k cap p ch mx : Int) (w : World)  (h0 : ¬ (1 ≤ ch ∧ ch ≤ 16)) : Calls Try.prog 7 #[cfgV 9 agg W k cap p ch mx] w (ValEnd 9 agg W k cap p ch mx w) := by
  have C16 := hide in_any
  have CT1 := hide take1
  have CT2 := hide take2
  unfold InEnd at C16
  unfold TakeEnd at CT1 CT2
  have HN := hide ((vC_9 agg W k cap p ch mx).2 (fun c => h0 c.1))
  have C16_0 := hide (fun w0 => C16.out ch 1 16 w0)
  rw [decide_eq_false h0] at C16_0
  have C16_1 := hide (fun w0 => C16.out cap 1 64 w0)
  generalize decide (1 ≤ cap ∧ cap ≤ 64) = r1 at *
  have C16_2 := hide (fun w0 => C16.out W 1 1048576 w0)
  generalize decide (1 ≤ W ∧ W ≤ 1048576) = r2 at *
  clear C16 h0
  unfold cfgV
  go_enter Try.func7, Try.ntmps7
  go_wp2_with (fail)
  refine (C16_0.out _).mono ?_
  rintro e w1 ⟨rfl, rfl⟩
  go_wp2_with (fail)
  refine (CT2.out true false (w.heap.size + 1 + 1) (w.heap.size + 1) w.heap.size 6 4 (.int .i64 ch) (.int .i64 cap) _ ?_ ?_ ?_ ?_ ?_ ?_ ?_ ?_ ?_ ?_ ?_ ?_).mono ?_
  · refine Blk.cell (t := 4) (cs := #[.bool true]) ?_ 0; (repeat (first | ((with_reducible refine Blk.new_at ?_ _ _); simp; done) | with_reducible refine Blk.alloc ?_ _))
  · refine Blk.frozen (t := 4) (cs := #[.bool true]) ?_ 0; (repeat (first | ((with_reducible refine Blk.new_at ?_ _ _); simp; done) | with_reducible refine Blk.alloc ?_ _))
  · refine Blk.cell (t := 33) (cs := #[.pointer (some ⟨w.heap.size, 6, none⟩), .pointer (some ⟨w.heap.size, 4, none⟩)]) ?_ 0; (repeat (first | ((with_reducible refine Blk.new_at ?_ _ _); simp; done) | with_reducible refine Blk.alloc ?_ _))
  · refine Blk.cell (t := 23) (cs := #[.int .i64 9, .int .i64 agg, .int .i64 W, .int .i64 k, .int .i64 cap, .int .i64 p, .int .i64 ch, .int .i64 mx]) ?_ 6; (repeat (first | ((with_reducible refine Blk.new_at ?_ _ _); simp; done) | with_reducible refine Blk.alloc ?_ _))
  · refine Blk.frozen (t := 23) (cs := #[.int .i64 9, .int .i64 agg, .int .i64 W, .int .i64 k, .int .i64 cap, .int .i64 p, .int .i64 ch, .int .i64 mx]) ?_ 6; (repeat (first | ((with_reducible refine Blk.new_at ?_ _ _); simp; done) | with_reducible refine Blk.alloc ?_ _))
  · refine Blk.cell (t := 33) (cs := #[.pointer (some ⟨w.heap.size, 6, none⟩), .pointer (some ⟨w.heap.size, 4, none⟩)]) ?_ 1; (repeat (first | ((with_reducible refine Blk.new_at ?_ _ _); simp; done) | with_reducible refine Blk.alloc ?_ _))
  · refine Blk.cell (t := 23) (cs := #[.int .i64 9, .int .i64 agg, .int .i64 W, .int .i64 k, .int .i64 cap, .int .i64 p, .int .i64 ch, .int .i64 mx]) ?_ 4; (repeat (first | ((with_reducible refine Blk.new_at ?_ _ _); simp; done) | with_reducible refine Blk.alloc ?_ _))
  · refine Blk.frozen (t := 23) (cs := #[.int .i64 9, .int .i64 agg, .int .i64 W, .int .i64 k, .int .i64 cap, .int .i64 p, .int .i64 ch, .int .i64 mx]) ?_ 4; (repeat (first | ((with_reducible refine Blk.new_at ?_ _ _); simp; done) | with_reducible refine Blk.alloc ?_ _))
  · omega
  · omega
  · omega
  · omega
  rintro e w1 ⟨rfl, rfl⟩
  go_wp2
  go_ret
  refine ⟨(congrArg (fun z => Ending.returned (.int .i64 z)) (HN.out)).symm, ?_⟩
  (· repeat (first | exact Below.refl _ _ | refine Bl.alloc' ?_ _))
set_option maxRecDepth 100000 in
set_option maxHeartbeats 1000000 in
theorem val_9_1 (agg W k cap p ch mx : Int) (w : World) (h0 : 1 ≤ ch ∧ ch ≤ 16) (h1 : ¬ (1 ≤ cap ∧ cap ≤ 64)) : Calls Try.prog 7 #[cfgV 9 agg W k cap p ch mx] w (ValEnd 9 agg W k cap p ch mx w) := by
  have C16 := hide in_any
  have CT1 := hide take1
  have CT2 := hide take2
  unfold InEnd at C16
  unfold TakeEnd at CT1 CT2
  have HN := hide ((vC_9 agg W k cap p ch mx).2 (fun c => h1 c.2.1))
  have C16_0 := hide (fun w0 => C16.out ch 1 16 w0)
  rw [decide_eq_true h0] at C16_0
  have C16_1 := hide (fun w0 => C16.out cap 1 64 w0)
  rw [decide_eq_false h1] at C16_1
  have C16_2 := hide (fun w0 => C16.out W 1 1048576 w0)
  generalize decide (1 ≤ W ∧ W ≤ 1048576) = r2 at *
  clear C16 h0 h1
  unfold cfgV
  go_enter Try.func7, Try.ntmps7
  go_wp2_with (fail)
  refine (C16_0.out _).mono ?_
  rintro e w1 ⟨rfl, rfl⟩
  go_wp2_with (fail)
  refine (C16_1.out _).mono ?_
  rintro e w1 ⟨rfl, rfl⟩
  go_wp2_with (fail)
  refine (CT2.out true false (w.heap.size + 1 + 1) (w.heap.size + 1) w.heap.size 6 4 (.int .i64 ch) (.int .i64 cap) _ ?_ ?_ ?_ ?_ ?_ ?_ ?_ ?_ ?_ ?_ ?_ ?_).mono ?_
  · refine Blk.cell (t := 4) (cs := #[.bool true]) ?_ 0; (repeat (first | ((with_reducible refine Blk.new_at ?_ _ _); simp; done) | with_reducible refine Blk.alloc ?_ _))
  · refine Blk.frozen (t := 4) (cs := #[.bool true]) ?_ 0; (repeat (first | ((with_reducible refine Blk.new_at ?_ _ _); simp; done) | with_reducible refine Blk.alloc ?_ _))
  · refine Blk.cell (t := 33) (cs := #[.pointer (some ⟨w.heap.size, 6, none⟩), .pointer (some ⟨w.heap.size, 4, none⟩)]) ?_ 0; (repeat (first | ((with_reducible refine Blk.new_at ?_ _ _); simp; done) | with_reducible refine Blk.alloc ?_ _))
  · refine Blk.cell (t := 23) (cs := #[.int .i64 9, .int .i64 agg, .int .i64 W, .int .i64 k, .int .i64 cap, .int .i64 p, .int .i64 ch, .int .i64 mx]) ?_ 6; (repeat (first | ((with_reducible refine Blk.new_at ?_ _ _); simp; done) | with_reducible refine Blk.alloc ?_ _))
  · refine Blk.frozen (t := 23) (cs := #[.int .i64 9, .int .i64 agg, .int .i64 W, .int .i64 k, .int .i64 cap, .int .i64 p, .int .i64 ch, .int .i64 mx]) ?_ 6; (repeat (first | ((with_reducible refine Blk.new_at ?_ _ _); simp; done) | with_reducible refine Blk.alloc ?_ _))
  · refine Blk.cell (t := 33) (cs := #[.pointer (some ⟨w.heap.size, 6, none⟩), .pointer (some ⟨w.heap.size, 4, none⟩)]) ?_ 1; (repeat (first | ((with_reducible refine Blk.new_at ?_ _ _); simp; done) | with_reducible refine Blk.alloc ?_ _))
  · refine Blk.cell (t := 23) (cs := #[.int .i64 9, .int .i64 agg, .int .i64 W, .int .i64 k, .int .i64 cap, .int .i64 p, .int .i64 ch, .int .i64 mx]) ?_ 4; (repeat (first | ((with_reducible refine Blk.new_at ?_ _ _); simp; done) | with_reducible refine Blk.alloc ?_ _))
  · refine Blk.frozen (t := 23) (cs := #[.int .i64 9, .int .i64 agg, .int .i64 W, .int .i64 k, .int .i64 cap, .int .i64 p, .int .i64 ch, .int .i64 mx]) ?_ 4; (repeat (first | ((with_reducible refine Blk.new_at ?_ _ _); simp; done) | with_reducible refine Blk.alloc ?_ _))
  · omega
  · omega
  · omega
  · omega
  rintro e w1 ⟨rfl, rfl⟩
  go_wp2
  go_ret
  refine ⟨(congrArg (fun z => Ending.returned (.int .i64 z)) (HN.out)).symm, ?_⟩
  (· repeat (first | exact Below.refl _ _ | refine Bl.alloc' ?_ _))
set_option maxRecDepth 100000 in
set_option maxHeartbeats 1000000 in
theorem val_9_2 (agg W k cap p ch mx : Int) (w : World) (h0 : 1 ≤ ch ∧ ch ≤ 16) (h1 : 1 ≤ cap ∧ cap ≤ 64) (h2 : ¬ (1 ≤ W ∧ W ≤ 1048576)) : Calls Try.prog 7 #[cfgV 9 agg W k cap p ch mx] w (ValEnd 9 agg W k cap p ch mx w) := by
  have C16 := hide in_any
  have CT1 := hide take1
  have CT2 := hide take2
  unfold InEnd at C16
  unfold TakeEnd at CT1 CT2
  have HN := hide ((vC_9 agg W k cap p ch mx).2 (fun c => h2 c.2.2.1))
  have C16_0 := hide (fun w0 => C16.out ch 1 16 w0)
  rw [decide_eq_true h0] at C16_0
  have C16_1 := hide (fun w0 => C16.out cap 1 64 w0)
  rw [decide_eq_true h1] at C16_1
  have C16_2 := hide (fun w0 => C16.out W 1 1048576 w0)
  rw [decide_eq_false h2] at C16_2
  clear C16 h0 h1 h2
  unfold cfgV
  go_enter Try.func7, Try.ntmps7
  go_wp2_with (fail)
  refine (C16_0.out _).mono ?_
  rintro e w1 ⟨rfl, rfl⟩
  go_wp2_with (fail)
  refine (C16_1.out _).mono ?_
  rintro e w1 ⟨rfl, rfl⟩
  go_wp2_with (fail)
  refine (CT2.out true true (w.heap.size + 1 + 1) (w.heap.size + 1) w.heap.size 6 4 (.int .i64 ch) (.int .i64 cap) _ ?_ ?_ ?_ ?_ ?_ ?_ ?_ ?_ ?_ ?_ ?_ ?_).mono ?_
  · refine Blk.cell (t := 4) (cs := #[.bool true]) ?_ 0; (repeat (first | ((with_reducible refine Blk.new_at ?_ _ _); simp; done) | with_reducible refine Blk.alloc ?_ _))
  · refine Blk.frozen (t := 4) (cs := #[.bool true]) ?_ 0; (repeat (first | ((with_reducible refine Blk.new_at ?_ _ _); simp; done) | with_reducible refine Blk.alloc ?_ _))
  · refine Blk.cell (t := 33) (cs := #[.pointer (some ⟨w.heap.size, 6, none⟩), .pointer (some ⟨w.heap.size, 4, none⟩)]) ?_ 0; (repeat (first | ((with_reducible refine Blk.new_at ?_ _ _); simp; done) | with_reducible refine Blk.alloc ?_ _))
  · refine Blk.cell (t := 23) (cs := #[.int .i64 9, .int .i64 agg, .int .i64 W, .int .i64 k, .int .i64 cap, .int .i64 p, .int .i64 ch, .int .i64 mx]) ?_ 6; (repeat (first | ((with_reducible refine Blk.new_at ?_ _ _); simp; done) | with_reducible refine Blk.alloc ?_ _))
  · refine Blk.frozen (t := 23) (cs := #[.int .i64 9, .int .i64 agg, .int .i64 W, .int .i64 k, .int .i64 cap, .int .i64 p, .int .i64 ch, .int .i64 mx]) ?_ 6; (repeat (first | ((with_reducible refine Blk.new_at ?_ _ _); simp; done) | with_reducible refine Blk.alloc ?_ _))
  · refine Blk.cell (t := 33) (cs := #[.pointer (some ⟨w.heap.size, 6, none⟩), .pointer (some ⟨w.heap.size, 4, none⟩)]) ?_ 1; (repeat (first | ((with_reducible refine Blk.new_at ?_ _ _); simp; done) | with_reducible refine Blk.alloc ?_ _))
  · refine Blk.cell (t := 23) (cs := #[.int .i64 9, .int .i64 agg, .int .i64 W, .int .i64 k, .int .i64 cap, .int .i64 p, .int .i64 ch, .int .i64 mx]) ?_ 4; (repeat (first | ((with_reducible refine Blk.new_at ?_ _ _); simp; done) | with_reducible refine Blk.alloc ?_ _))
  · refine Blk.frozen (t := 23) (cs := #[.int .i64 9, .int .i64 agg, .int .i64 W, .int .i64 k, .int .i64 cap, .int .i64 p, .int .i64 ch, .int .i64 mx]) ?_ 4; (repeat (first | ((with_reducible refine Blk.new_at ?_ _ _); simp; done) | with_reducible refine Blk.alloc ?_ _))
  · omega
  · omega
  · omega
  · omega
  rintro e w1 ⟨rfl, rfl⟩
  go_wp2_with (fail)
  refine (C16_2.out _).mono ?_
  rintro e w1 ⟨rfl, rfl⟩
  go_wp2
  go_ret
  refine ⟨(congrArg (fun z => Ending.returned (.int .i64 z)) (HN.out)).symm, ?_⟩
  (· repeat (first | exact Below.refl _ _ | refine Bl.alloc' ?_ _))
set_option maxRecDepth 100000 in
set_option maxHeartbeats 1000000 in
theorem val_9_a (agg W k cap p ch mx : Int) (w : World) (h0 : 1 ≤ ch ∧ ch ≤ 16) (h1 : 1 ≤ cap ∧ cap ≤ 64) (h2 : 1 ≤ W ∧ W ≤ 1048576) : Calls Try.prog 7 #[cfgV 9 agg W k cap p ch mx] w (ValEnd 9 agg W k cap p ch mx w) := by
  have C16 := hide in_any
  have CT1 := hide take1
  have CT2 := hide take2
  unfold InEnd at C16
  unfold TakeEnd at CT1 CT2
  have HV := hide (fun (hz : agg = 0 ∧ k = 0 ∧ p = 0 ∧ mx = 0) => (vC_9 agg W k cap p ch mx).1 ⟨h0, h1, h2, hz⟩)
  have HN := hide (fun (hz : ¬ (agg = 0 ∧ k = 0 ∧ p = 0 ∧ mx = 0)) => (vC_9 agg W k cap p ch mx).2 (fun c => hz c.2.2.2))
  have C16_0 := hide (fun w0 => C16.out ch 1 16 w0)
  rw [decide_eq_true h0] at C16_0
  have C16_1 := hide (fun w0 => C16.out cap 1 64 w0)
  rw [decide_eq_true h1] at C16_1
  have C16_2 := hide (fun w0 => C16.out W 1 1048576 w0)
  rw [decide_eq_true h2] at C16_2
  clear C16 h0 h1 h2
  unfold cfgV
  go_enter Try.func7, Try.ntmps7
  go_wp2_with (fail)
  refine (C16_0.out _).mono ?_
  rintro e w1 ⟨rfl, rfl⟩
  go_wp2_with (fail)
  refine (C16_1.out _).mono ?_
  rintro e w1 ⟨rfl, rfl⟩
  go_wp2_with (fail)
  refine (CT2.out true true (w.heap.size + 1 + 1) (w.heap.size + 1) w.heap.size 6 4 (.int .i64 ch) (.int .i64 cap) _ ?_ ?_ ?_ ?_ ?_ ?_ ?_ ?_ ?_ ?_ ?_ ?_).mono ?_
  · refine Blk.cell (t := 4) (cs := #[.bool true]) ?_ 0; (repeat (first | ((with_reducible refine Blk.new_at ?_ _ _); simp; done) | with_reducible refine Blk.alloc ?_ _))
  · refine Blk.frozen (t := 4) (cs := #[.bool true]) ?_ 0; (repeat (first | ((with_reducible refine Blk.new_at ?_ _ _); simp; done) | with_reducible refine Blk.alloc ?_ _))
  · refine Blk.cell (t := 33) (cs := #[.pointer (some ⟨w.heap.size, 6, none⟩), .pointer (some ⟨w.heap.size, 4, none⟩)]) ?_ 0; (repeat (first | ((with_reducible refine Blk.new_at ?_ _ _); simp; done) | with_reducible refine Blk.alloc ?_ _))
  · refine Blk.cell (t := 23) (cs := #[.int .i64 9, .int .i64 agg, .int .i64 W, .int .i64 k, .int .i64 cap, .int .i64 p, .int .i64 ch, .int .i64 mx]) ?_ 6; (repeat (first | ((with_reducible refine Blk.new_at ?_ _ _); simp; done) | with_reducible refine Blk.alloc ?_ _))
  · refine Blk.frozen (t := 23) (cs := #[.int .i64 9, .int .i64 agg, .int .i64 W, .int .i64 k, .int .i64 cap, .int .i64 p, .int .i64 ch, .int .i64 mx]) ?_ 6; (repeat (first | ((with_reducible refine Blk.new_at ?_ _ _); simp; done) | with_reducible refine Blk.alloc ?_ _))
  · refine Blk.cell (t := 33) (cs := #[.pointer (some ⟨w.heap.size, 6, none⟩), .pointer (some ⟨w.heap.size, 4, none⟩)]) ?_ 1; (repeat (first | ((with_reducible refine Blk.new_at ?_ _ _); simp; done) | with_reducible refine Blk.alloc ?_ _))
  · refine Blk.cell (t := 23) (cs := #[.int .i64 9, .int .i64 agg, .int .i64 W, .int .i64 k, .int .i64 cap, .int .i64 p, .int .i64 ch, .int .i64 mx]) ?_ 4; (repeat (first | ((with_reducible refine Blk.new_at ?_ _ _); simp; done) | with_reducible refine Blk.alloc ?_ _))
  · refine Blk.frozen (t := 23) (cs := #[.int .i64 9, .int .i64 agg, .int .i64 W, .int .i64 k, .int .i64 cap, .int .i64 p, .int .i64 ch, .int .i64 mx]) ?_ 4; (repeat (first | ((with_reducible refine Blk.new_at ?_ _ _); simp; done) | with_reducible refine Blk.alloc ?_ _))
  · omega
  · omega
  · omega
  · omega
  rintro e w1 ⟨rfl, rfl⟩
  go_wp2_with (fail)
  refine (C16_2.out _).mono ?_
  rintro e w1 ⟨rfl, rfl⟩
  go_wp2
  all_goals
    go_ret
    first
      | (refine ⟨(congrArg (fun z => Ending.returned (.int .i64 z)) (HV.out ?_)).symm, ?_⟩; (· refine ⟨?_, ?_, ?_, ?_⟩ <;> assumption); (· repeat (first | exact Below.refl _ _ | refine Bl.alloc' ?_ _)))
      | (refine ⟨(congrArg (fun z => Ending.returned (.int .i64 z)) (HN.out ?_)).symm, ?_⟩; (· rintro ⟨q0, q1, q2, q3⟩; contradiction); (· repeat (first | exact Below.refl _ _ | refine Bl.alloc' ?_ _)))
theorem val_9 (agg W k cap p ch mx : Int) (w : World) : Calls Try.prog 7 #[cfgV 9 agg W k cap p ch mx] w (ValEnd 9 agg W k cap p ch mx w) := by
  by_cases h0 : 1 ≤ ch ∧ ch ≤ 16
  rotate_left
  · exact val_9_0 agg W k cap p ch mx w h0
  by_cases h1 : 1 ≤ cap ∧ cap ≤ 64
  rotate_left
  · exact val_9_1 agg W k cap p ch mx w h0 h1
  by_cases h2 : 1 ≤ W ∧ W ≤ 1048576
  rotate_left
  · exact val_9_2 agg W k cap p ch mx w h0 h1 h2
  exact val_9_a agg W k cap p ch mx w h0 h1 h2
set_option maxRecDepth 100000 in
set_option maxHeartbeats 1000000 in
theorem val_10_0 (agg W k cap p ch mx : Int) (w : World)  (h0 : ¬ (1 ≤ k ∧ k ≤ 64)) : Calls Try.prog 7 #[cfgV 10 agg W k cap p ch mx] w (ValEnd 10 agg W k cap p ch mx w) := by
  have C16 := hide in_any
  have CT1 := hide take1
  have CT2 := hide take2
  unfold InEnd at C16
  unfold TakeEnd at CT1 CT2
  have HN := hide ((vC_10 agg W k cap p ch mx).2 (fun c => h0 c.1))
  have C16_0 := hide (fun w0 => C16.out k 1 64 w0)
  rw [decide_eq_false h0] at C16_0
  have C16_1 := hide (fun w0 => C16.out cap 2 65536 w0)
  generalize decide (2 ≤ cap ∧ cap ≤ 65536) = r1 at *
  clear C16 h0
  unfold cfgV
  go_enter Try.func7, Try.ntmps7
  go_wp2_with (fail)
  refine (C16_0.out _).mono ?_
  rintro e w1 ⟨rfl, rfl⟩
  go_wp2_with (fail)
  refine (CT2.out true false (w.heap.size + 1 + 1) (w.heap.size + 1) w.heap.size 3 4 (.int .i64 k) (.int .i64 cap) _ ?_ ?_ ?_ ?_ ?_ ?_ ?_ ?_ ?_ ?_ ?_ ?_).mono ?_
  · refine Blk.cell (t := 4) (cs := #[.bool true]) ?_ 0; (repeat (first | ((with_reducible refine Blk.new_at ?_ _ _); simp; done) | with_reducible refine Blk.alloc ?_ _))
  · refine Blk.frozen (t := 4) (cs := #[.bool true]) ?_ 0; (repeat (first | ((with_reducible refine Blk.new_at ?_ _ _); simp; done) | with_reducible refine Blk.alloc ?_ _))
  · refine Blk.cell (t := 33) (cs := #[.pointer (some ⟨w.heap.size, 3, none⟩), .pointer (some ⟨w.heap.size, 4, none⟩)]) ?_ 0; (repeat (first | ((with_reducible refine Blk.new_at ?_ _ _); simp; done) | with_reducible refine Blk.alloc ?_ _))
  · refine Blk.cell (t := 23) (cs := #[.int .i64 10, .int .i64 agg, .int .i64 W, .int .i64 k, .int .i64 cap, .int .i64 p, .int .i64 ch, .int .i64 mx]) ?_ 3; (repeat (first | ((with_reducible refine Blk.new_at ?_ _ _); simp; done) | with_reducible refine Blk.alloc ?_ _))
  · refine Blk.frozen (t := 23) (cs := #[.int .i64 10, .int .i64 agg, .int .i64 W, .int .i64 k, .int .i64 cap, .int .i64 p, .int .i64 ch, .int .i64 mx]) ?_ 3; (repeat (first | ((with_reducible refine Blk.new_at ?_ _ _); simp; done) | with_reducible refine Blk.alloc ?_ _))
  · refine Blk.cell (t := 33) (cs := #[.pointer (some ⟨w.heap.size, 3, none⟩), .pointer (some ⟨w.heap.size, 4, none⟩)]) ?_ 1; (repeat (first | ((with_reducible refine Blk.new_at ?_ _ _); simp; done) | with_reducible refine Blk.alloc ?_ _))
  · refine Blk.cell (t := 23) (cs := #[.int .i64 10, .int .i64 agg, .int .i64 W, .int .i64 k, .int .i64 cap, .int .i64 p, .int .i64 ch, .int .i64 mx]) ?_ 4; (repeat (first | ((with_reducible refine Blk.new_at ?_ _ _); simp; done) | with_reducible refine Blk.alloc ?_ _))
  · refine Blk.frozen (t := 23) (cs := #[.int .i64 10, .int .i64 agg, .int .i64 W, .int .i64 k, .int .i64 cap, .int .i64 p, .int .i64 ch, .int .i64 mx]) ?_ 4; (repeat (first | ((with_reducible refine Blk.new_at ?_ _ _); simp; done) | with_reducible refine Blk.alloc ?_ _))
  · omega
  · omega
  · omega
  · omega
  rintro e w1 ⟨rfl, rfl⟩
  go_wp2
  go_ret
  refine ⟨(congrArg (fun z => Ending.returned (.int .i64 z)) (HN.out)).symm, ?_⟩
  (· repeat (first | exact Below.refl _ _ | refine Bl.alloc' ?_ _))
set_option maxRecDepth 100000 in
set_option maxHeartbeats 1000000 in
theorem val_10_1 (agg W k cap p ch mx : Int) (w : World) (h0 : 1 ≤ k ∧ k ≤ 64) (h1 : ¬ (2 ≤ cap ∧ cap ≤ 65536)) : Calls Try.prog 7 #[cfgV 10 agg W k cap p ch mx] w (ValEnd 10 agg W k cap p ch mx w) := by
  have C16 := hide in_any
  have CT1 := hide take1
  have CT2 := hide take2
  unfold InEnd at C16
  unfold TakeEnd at CT1 CT2
  have HN := hide ((vC_10 agg W k cap p ch mx).2 (fun c => h1 c.2.1))
  have C16_0 := hide (fun w0 => C16.out k 1 64 w0)
  rw [decide_eq_true h0] at C16_0
  have C16_1 := hide (fun w0 => C16.out cap 2 65536 w0)
  rw [decide_eq_false h1] at C16_1
  clear C16 h0 h1
  unfold cfgV
  go_enter Try.func7, Try.ntmps7
  go_wp2_with (fail)
  refine (C16_0.out _).mono ?_
  rintro e w1 ⟨rfl, rfl⟩
  go_wp2_with (fail)
  refine (C16_1.out _).mono ?_
  rintro e w1 ⟨rfl, rfl⟩
  go_wp2_with (fail)
  refine (CT2.out true false (w.heap.size + 1 + 1) (w.heap.size + 1) w.heap.size 3 4 (.int .i64 k) (.int .i64 cap) _ ?_ ?_ ?_ ?_ ?_ ?_ ?_ ?_ ?_ ?_ ?_ ?_).mono ?_
  · refine Blk.cell (t := 4) (cs := #[.bool true]) ?_ 0; (repeat (first | ((with_reducible refine Blk.new_at ?_ _ _); simp; done) | with_reducible refine Blk.alloc ?_ _))
  · refine Blk.frozen (t := 4) (cs := #[.bool true]) ?_ 0; (repeat (first | ((with_reducible refine Blk.new_at ?_ _ _); simp; done) | with_reducible refine Blk.alloc ?_ _))
  · refine Blk.cell (t := 33) (cs := #[.pointer (some ⟨w.heap.size, 3, none⟩), .pointer (some ⟨w.heap.size, 4, none⟩)]) ?_ 0; (repeat (first | ((with_reducible refine Blk.new_at ?_ _ _); simp; done) | with_reducible refine Blk.alloc ?_ _))
  · refine Blk.cell (t := 23) (cs := #[.int .i64 10, .int .i64 agg, .int .i64 W, .int .i64 k, .int .i64 cap, .int .i64 p, .int .i64 ch, .int .i64 mx]) ?_ 3; (repeat (first | ((with_reducible refine Blk.new_at ?_ _ _); simp; done) | with_reducible refine Blk.alloc ?_ _))
  · refine Blk.frozen (t := 23) (cs := #[.int .i64 10, .int .i64 agg, .int .i64 W, .int .i64 k, .int .i64 cap, .int .i64 p, .int .i64 ch, .int .i64 mx]) ?_ 3; (repeat (first | ((with_reducible refine Blk.new_at ?_ _ _); simp; done) | with_reducible refine Blk.alloc ?_ _))
  · refine Blk.cell (t := 33) (cs := #[.pointer (some ⟨w.heap.size, 3, none⟩), .pointer (some ⟨w.heap.size, 4, none⟩)]) ?_ 1; (repeat (first | ((with_reducible refine Blk.new_at ?_ _ _); simp; done) | with_reducible refine Blk.alloc ?_ _))
  · refine Blk.cell (t := 23) (cs := #[.int .i64 10, .int .i64 agg, .int .i64 W, .int .i64 k, .int .i64 cap, .int .i64 p, .int .i64 ch, .int .i64 mx]) ?_ 4; (repeat (first | ((with_reducible refine Blk.new_at ?_ _ _); simp; done) | with_reducible refine Blk.alloc ?_ _))
  · refine Blk.frozen (t := 23) (cs := #[.int .i64 10, .int .i64 agg, .int .i64 W, .int .i64 k, .int .i64 cap, .int .i64 p, .int .i64 ch, .int .i64 mx]) ?_ 4; (repeat (first | ((with_reducible refine Blk.new_at ?_ _ _); simp; done) | with_reducible refine Blk.alloc ?_ _))
  · omega
  · omega
  · omega
  · omega
  rintro e w1 ⟨rfl, rfl⟩
  go_wp2
  go_ret
  refine ⟨(congrArg (fun z => Ending.returned (.int .i64 z)) (HN.out)).symm, ?_⟩
  (· repeat (first | exact Below.refl _ _ | refine Bl.alloc' ?_ _))
set_option maxRecDepth 100000 in
set_option maxHeartbeats 1000000 in
theorem val_10_a (agg W k cap p ch mx : Int) (w : World) (h0 : 1 ≤ k ∧ k ≤ 64) (h1 : 2 ≤ cap ∧ cap ≤ 65536) : Calls Try.prog 7 #[cfgV 10 agg W k cap p ch mx] w (ValEnd 10 agg W k cap p ch mx w) := by
  have C16 := hide in_any
  have CT1 := hide take1
  have CT2 := hide take2
  unfold InEnd at C16
  unfold TakeEnd at CT1 CT2
  have HV := hide (fun (hz : agg = 0 ∧ W = 0 ∧ p = 0 ∧ ch = 0 ∧ mx = 0) => (vC_10 agg W k cap p ch mx).1 ⟨h0, h1, hz⟩)
  have HN := hide (fun (hz : ¬ (agg = 0 ∧ W = 0 ∧ p = 0 ∧ ch = 0 ∧ mx = 0)) => (vC_10 agg W k cap p ch mx).2 (fun c => hz c.2.2))
  have C16_0 := hide (fun w0 => C16.out k 1 64 w0)
  rw [decide_eq_true h0] at C16_0
  have C16_1 := hide (fun w0 => C16.out cap 2 65536 w0)
  rw [decide_eq_true h1] at C16_1
  clear C16 h0 h1
  unfold cfgV
  go_enter Try.func7, Try.ntmps7
  go_wp2_with (fail)
  refine (C16_0.out _).mono ?_
  rintro e w1 ⟨rfl, rfl⟩
  go_wp2_with (fail)
  refine (C16_1.out _).mono ?_
  rintro e w1 ⟨rfl, rfl⟩
  go_wp2_with (fail)
  refine (CT2.out true true (w.heap.size + 1 + 1) (w.heap.size + 1) w.heap.size 3 4 (.int .i64 k) (.int .i64 cap) _ ?_ ?_ ?_ ?_ ?_ ?_ ?_ ?_ ?_ ?_ ?_ ?_).mono ?_
  · refine Blk.cell (t := 4) (cs := #[.bool true]) ?_ 0; (repeat (first | ((with_reducible refine Blk.new_at ?_ _ _); simp; done) | with_reducible refine Blk.alloc ?_ _))
  · refine Blk.frozen (t := 4) (cs := #[.bool true]) ?_ 0; (repeat (first | ((with_reducible refine Blk.new_at ?_ _ _); simp; done) | with_reducible refine Blk.alloc ?_ _))
  · refine Blk.cell (t := 33) (cs := #[.pointer (some ⟨w.heap.size, 3, none⟩), .pointer (some ⟨w.heap.size, 4, none⟩)]) ?_ 0; (repeat (first | ((with_reducible refine Blk.new_at ?_ _ _); simp; done) | with_reducible refine Blk.alloc ?_ _))
  · refine Blk.cell (t := 23) (cs := #[.int .i64 10, .int .i64 agg, .int .i64 W, .int .i64 k, .int .i64 cap, .int .i64 p, .int .i64 ch, .int .i64 mx]) ?_ 3; (repeat (first | ((with_reducible refine Blk.new_at ?_ _ _); simp; done) | with_reducible refine Blk.alloc ?_ _))
  · refine Blk.frozen (t := 23) (cs := #[.int .i64 10, .int .i64 agg, .int .i64 W, .int .i64 k, .int .i64 cap, .int .i64 p, .int .i64 ch, .int .i64 mx]) ?_ 3; (repeat (first | ((with_reducible refine Blk.new_at ?_ _ _); simp; done) | with_reducible refine Blk.alloc ?_ _))
  · refine Blk.cell (t := 33) (cs := #[.pointer (some ⟨w.heap.size, 3, none⟩), .pointer (some ⟨w.heap.size, 4, none⟩)]) ?_ 1; (repeat (first | ((with_reducible refine Blk.new_at ?_ _ _); simp; done) | with_reducible refine Blk.alloc ?_ _))
  · refine Blk.cell (t := 23) (cs := #[.int .i64 10, .int .i64 agg, .int .i64 W, .int .i64 k, .int .i64 cap, .int .i64 p, .int .i64 ch, .int .i64 mx]) ?_ 4; (repeat (first | ((with_reducible refine Blk.new_at ?_ _ _); simp; done) | with_reducible refine Blk.alloc ?_ _))
  · refine Blk.frozen (t := 23) (cs := #[.int .i64 10, .int .i64 agg, .int .i64 W, .int .i64 k, .int .i64 cap, .int .i64 p, .int .i64 ch, .int .i64 mx]) ?_ 4; (repeat (first | ((with_reducible refine Blk.new_at ?_ _ _); simp; done) | with_reducible refine Blk.alloc ?_ _))
  · omega
  · omega
  · omega
  · omega
  rintro e w1 ⟨rfl, rfl⟩
  go_wp2
  all_goals
    go_ret
    first
      | (refine ⟨(congrArg (fun z => Ending.returned (.int .i64 z)) (HV.out ?_)).symm, ?_⟩; (· refine ⟨?_, ?_, ?_, ?_, ?_⟩ <;> assumption); (· repeat (first | exact Below.refl _ _ | refine Bl.alloc' ?_ _)))
      | (refine ⟨(congrArg (fun z => Ending.returned (.int .i64 z)) (HN.out ?_)).symm, ?_⟩; (· rintro ⟨q0, q1, q2, q3, q4⟩; contradiction); (· repeat (first | exact Below.refl _ _ | refine Bl.alloc' ?_ _)))
theorem val_10 (agg W k cap p ch mx : Int) (w : World) : Calls Try.prog 7 #[cfgV 10 agg W k cap p ch mx] w (ValEnd 10 agg W k cap p ch mx w) := by
  by_cases h0 : 1 ≤ k ∧ k ≤ 64
  rotate_left
  · exact val_10_0 agg W k cap p ch mx w h0
  by_cases h1 : 2 ≤ cap ∧ cap ≤ 65536
  rotate_left
  · exact val_10_1 agg W k cap p ch mx w h0 h1
  exact val_10_a agg W k cap p ch mx w h0 h1
end Go.Proofs.Ytmlddoajfgmoaaa
