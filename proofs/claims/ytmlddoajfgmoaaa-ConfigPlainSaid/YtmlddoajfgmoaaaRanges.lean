/- Whether the fields of a kind are in their ranges: the contract. -/
import Derived.Test.YtmlddoajfgmoaaaRng
namespace Go.Proofs.Ytmlddoajfgmoaaa
open Go.RowKit
set_option linter.unusedVariables false
def RngEnd (b : Bool) (w : World) (e : Ending) (w' : World) : Prop := e = .returned (.bool b) ∧ Below w.heap.size w w'
set_option maxRecDepth 100000 in
theorem ranges_1_0 (agg W k cap p ch mx : Int) (w : World)  (h0 : ¬ ((1 ≤ W ∧ W ≤ 1048576) ∧ 1 ≤ cap ∧ cap ≤ 65536)) : Calls Try.prog 17 #[cfgV 1 agg W k cap p ch mx] w (RngEnd false w) := by
  have C26 := hide (fun w0 => may_any W cap w0)
  have C27 := hide (fun w0 => mayK11_any k w0)
  have C28 := hide (fun w0 => mayAgg_any agg w0)
  unfold BoolEnd at C26 C27 C28
  rw [decide_eq_false h0] at C26
  clear h0
  unfold cfgV
  go_enter Try.func17, Try.ntmps17
  go_wp2_with (first | (go_at_call 26; refine (C26.out _).mono ?_; rintro e w1 ⟨rfl, rfl⟩) | (go_at_call 27; refine (C27.out _).mono ?_; rintro e w1 ⟨rfl, rfl⟩) | (go_at_call 28; refine (C28.out _).mono ?_; rintro e w1 ⟨rfl, rfl⟩))
  all_goals
    go_ret
    refine ⟨rfl, ?_⟩
    repeat (first | exact Below.refl _ _ | refine Bl.alloc' ?_ _)
set_option maxRecDepth 100000 in
theorem ranges_1_p (agg W k cap p ch mx : Int) (w : World) (h0 : ((1 ≤ W ∧ W ≤ 1048576) ∧ 1 ≤ cap ∧ cap ≤ 65536)) : Calls Try.prog 17 #[cfgV 1 agg W k cap p ch mx] w (RngEnd true w) := by
  have C26 := hide (fun w0 => may_any W cap w0)
  have C27 := hide (fun w0 => mayK11_any k w0)
  have C28 := hide (fun w0 => mayAgg_any agg w0)
  unfold BoolEnd at C26 C27 C28
  rw [decide_eq_true h0] at C26
  clear h0
  unfold cfgV
  go_enter Try.func17, Try.ntmps17
  go_wp2_with (first | (go_at_call 26; refine (C26.out _).mono ?_; rintro e w1 ⟨rfl, rfl⟩) | (go_at_call 27; refine (C27.out _).mono ?_; rintro e w1 ⟨rfl, rfl⟩) | (go_at_call 28; refine (C28.out _).mono ?_; rintro e w1 ⟨rfl, rfl⟩))
  all_goals
    go_ret
    refine ⟨rfl, ?_⟩
    repeat (first | exact Below.refl _ _ | refine Bl.alloc' ?_ _)
theorem ranges_1 (agg W k cap p ch mx : Int) (w : World) (b : Bool) (hb : b = true ↔ ((1 ≤ W ∧ W ≤ 1048576) ∧ 1 ≤ cap ∧ cap ≤ 65536)) : Calls Try.prog 17 #[cfgV 1 agg W k cap p ch mx] w (RngEnd b w) := by
  by_cases h0 : ((1 ≤ W ∧ W ≤ 1048576) ∧ 1 ≤ cap ∧ cap ≤ 65536)
  rotate_left
  · obtain rfl : b = false := Bool.eq_false_iff.2 (fun c => h0 (hb.1 c))
    exact ranges_1_0 agg W k cap p ch mx w  h0
  obtain rfl : b = true := hb.2 h0
  exact ranges_1_p agg W k cap p ch mx w h0
set_option maxRecDepth 100000 in
theorem ranges_2_0 (agg W k cap p ch mx : Int) (w : World)  (h0 : ¬ ((1 ≤ W ∧ W ≤ 1048576) ∧ 1 ≤ cap ∧ cap ≤ 65536)) : Calls Try.prog 17 #[cfgV 2 agg W k cap p ch mx] w (RngEnd false w) := by
  have C26 := hide (fun w0 => may_any W cap w0)
  have C27 := hide (fun w0 => mayK11_any k w0)
  have C28 := hide (fun w0 => mayAgg_any agg w0)
  unfold BoolEnd at C26 C27 C28
  rw [decide_eq_false h0] at C26
  clear h0
  unfold cfgV
  go_enter Try.func17, Try.ntmps17
  go_wp2_with (first | (go_at_call 26; refine (C26.out _).mono ?_; rintro e w1 ⟨rfl, rfl⟩) | (go_at_call 27; refine (C27.out _).mono ?_; rintro e w1 ⟨rfl, rfl⟩) | (go_at_call 28; refine (C28.out _).mono ?_; rintro e w1 ⟨rfl, rfl⟩))
  all_goals
    go_ret
    refine ⟨rfl, ?_⟩
    repeat (first | exact Below.refl _ _ | refine Bl.alloc' ?_ _)
set_option maxRecDepth 100000 in
theorem ranges_2_1 (agg W k cap p ch mx : Int) (w : World) (h0 : ((1 ≤ W ∧ W ≤ 1048576) ∧ 1 ≤ cap ∧ cap ≤ 65536)) (h1 : ¬ (1 ≤ k ∧ k ≤ 64)) : Calls Try.prog 17 #[cfgV 2 agg W k cap p ch mx] w (RngEnd false w) := by
  have C26 := hide (fun w0 => may_any W cap w0)
  have C27 := hide (fun w0 => mayK11_any k w0)
  have C28 := hide (fun w0 => mayAgg_any agg w0)
  unfold BoolEnd at C26 C27 C28
  rw [decide_eq_true h0] at C26
  rw [decide_eq_false h1] at C27
  clear h0 h1
  unfold cfgV
  go_enter Try.func17, Try.ntmps17
  go_wp2_with (first | (go_at_call 26; refine (C26.out _).mono ?_; rintro e w1 ⟨rfl, rfl⟩) | (go_at_call 27; refine (C27.out _).mono ?_; rintro e w1 ⟨rfl, rfl⟩) | (go_at_call 28; refine (C28.out _).mono ?_; rintro e w1 ⟨rfl, rfl⟩))
  all_goals
    go_ret
    refine ⟨rfl, ?_⟩
    repeat (first | exact Below.refl _ _ | refine Bl.alloc' ?_ _)
set_option maxRecDepth 100000 in
theorem ranges_2_p (agg W k cap p ch mx : Int) (w : World) (h0 : ((1 ≤ W ∧ W ≤ 1048576) ∧ 1 ≤ cap ∧ cap ≤ 65536)) (h1 : (1 ≤ k ∧ k ≤ 64)) : Calls Try.prog 17 #[cfgV 2 agg W k cap p ch mx] w (RngEnd true w) := by
  have C26 := hide (fun w0 => may_any W cap w0)
  have C27 := hide (fun w0 => mayK11_any k w0)
  have C28 := hide (fun w0 => mayAgg_any agg w0)
  unfold BoolEnd at C26 C27 C28
  rw [decide_eq_true h0] at C26
  rw [decide_eq_true h1] at C27
  clear h0 h1
  unfold cfgV
  go_enter Try.func17, Try.ntmps17
  go_wp2_with (first | (go_at_call 26; refine (C26.out _).mono ?_; rintro e w1 ⟨rfl, rfl⟩) | (go_at_call 27; refine (C27.out _).mono ?_; rintro e w1 ⟨rfl, rfl⟩) | (go_at_call 28; refine (C28.out _).mono ?_; rintro e w1 ⟨rfl, rfl⟩))
  all_goals
    go_ret
    refine ⟨rfl, ?_⟩
    repeat (first | exact Below.refl _ _ | refine Bl.alloc' ?_ _)
theorem ranges_2 (agg W k cap p ch mx : Int) (w : World) (b : Bool) (hb : b = true ↔ ((1 ≤ W ∧ W ≤ 1048576) ∧ 1 ≤ cap ∧ cap ≤ 65536) ∧ (1 ≤ k ∧ k ≤ 64)) : Calls Try.prog 17 #[cfgV 2 agg W k cap p ch mx] w (RngEnd b w) := by
  by_cases h0 : ((1 ≤ W ∧ W ≤ 1048576) ∧ 1 ≤ cap ∧ cap ≤ 65536)
  rotate_left
  · obtain rfl : b = false := Bool.eq_false_iff.2 (fun c => h0 (hb.1 c).1)
    exact ranges_2_0 agg W k cap p ch mx w  h0
  by_cases h1 : (1 ≤ k ∧ k ≤ 64)
  rotate_left
  · obtain rfl : b = false := Bool.eq_false_iff.2 (fun c => h1 (hb.1 c).2)
    exact ranges_2_1 agg W k cap p ch mx w h0 h1
  obtain rfl : b = true := hb.2 ⟨h0, h1⟩
  exact ranges_2_p agg W k cap p ch mx w h0 h1
set_option maxRecDepth 100000 in
theorem ranges_3_0 (agg W k cap p ch mx : Int) (w : World)  (h0 : ¬ ((1 ≤ W ∧ W ≤ 1048576) ∧ 1 ≤ cap ∧ cap ≤ 65536)) : Calls Try.prog 17 #[cfgV 3 agg W k cap p ch mx] w (RngEnd false w) := by
  have C26 := hide (fun w0 => may_any W cap w0)
  have C27 := hide (fun w0 => mayK11_any k w0)
  have C28 := hide (fun w0 => mayAgg_any agg w0)
  unfold BoolEnd at C26 C27 C28
  rw [decide_eq_false h0] at C26
  clear h0
  unfold cfgV
  go_enter Try.func17, Try.ntmps17
  go_wp2_with (first | (go_at_call 26; refine (C26.out _).mono ?_; rintro e w1 ⟨rfl, rfl⟩) | (go_at_call 27; refine (C27.out _).mono ?_; rintro e w1 ⟨rfl, rfl⟩) | (go_at_call 28; refine (C28.out _).mono ?_; rintro e w1 ⟨rfl, rfl⟩))
  all_goals
    go_ret
    refine ⟨rfl, ?_⟩
    repeat (first | exact Below.refl _ _ | refine Bl.alloc' ?_ _)
set_option maxRecDepth 100000 in
theorem ranges_3_1 (agg W k cap p ch mx : Int) (w : World) (h0 : ((1 ≤ W ∧ W ≤ 1048576) ∧ 1 ≤ cap ∧ cap ≤ 65536)) (h1 : ¬ (1 ≤ k ∧ k ≤ 64)) : Calls Try.prog 17 #[cfgV 3 agg W k cap p ch mx] w (RngEnd false w) := by
  have C26 := hide (fun w0 => may_any W cap w0)
  have C27 := hide (fun w0 => mayK11_any k w0)
  have C28 := hide (fun w0 => mayAgg_any agg w0)
  unfold BoolEnd at C26 C27 C28
  rw [decide_eq_true h0] at C26
  rw [decide_eq_false h1] at C27
  clear h0 h1
  unfold cfgV
  go_enter Try.func17, Try.ntmps17
  go_wp2_with (first | (go_at_call 26; refine (C26.out _).mono ?_; rintro e w1 ⟨rfl, rfl⟩) | (go_at_call 27; refine (C27.out _).mono ?_; rintro e w1 ⟨rfl, rfl⟩) | (go_at_call 28; refine (C28.out _).mono ?_; rintro e w1 ⟨rfl, rfl⟩))
  all_goals
    go_ret
    refine ⟨rfl, ?_⟩
    repeat (first | exact Below.refl _ _ | refine Bl.alloc' ?_ _)
set_option maxRecDepth 100000 in
theorem ranges_3_2a (agg W k cap p ch mx : Int) (w : World) (h0 : ((1 ≤ W ∧ W ≤ 1048576) ∧ 1 ≤ cap ∧ cap ≤ 65536)) (h1 : (1 ≤ k ∧ k ≤ 64)) (h2 : ¬ (1 ≤ mx ∧ mx ≤ 1024)) (s2 : mx < 1) : Calls Try.prog 17 #[cfgV 3 agg W k cap p ch mx] w (RngEnd false w) := by
  have C26 := hide (fun w0 => may_any W cap w0)
  have C27 := hide (fun w0 => mayK11_any k w0)
  have C28 := hide (fun w0 => mayAgg_any agg w0)
  unfold BoolEnd at C26 C27 C28
  rw [decide_eq_true h0] at C26
  rw [decide_eq_true h1] at C27
  have a2 : decide (1 ≤ mx) = false := by simp; omega
  clear h0 h1 h2 s2
  unfold cfgV
  go_enter Try.func17, Try.ntmps17
  go_wp2_with (first | (go_at_call 26; refine (C26.out _).mono ?_; rintro e w1 ⟨rfl, rfl⟩) | (go_at_call 27; refine (C27.out _).mono ?_; rintro e w1 ⟨rfl, rfl⟩) | (go_at_call 28; refine (C28.out _).mono ?_; rintro e w1 ⟨rfl, rfl⟩))
  all_goals
    go_ret
    refine ⟨rfl, ?_⟩
    repeat (first | exact Below.refl _ _ | refine Bl.alloc' ?_ _)
set_option maxRecDepth 100000 in
theorem ranges_3_2b (agg W k cap p ch mx : Int) (w : World) (h0 : ((1 ≤ W ∧ W ≤ 1048576) ∧ 1 ≤ cap ∧ cap ≤ 65536)) (h1 : (1 ≤ k ∧ k ≤ 64)) (h2 : ¬ (1 ≤ mx ∧ mx ≤ 1024)) (s2 : 1024 < mx) : Calls Try.prog 17 #[cfgV 3 agg W k cap p ch mx] w (RngEnd false w) := by
  have C26 := hide (fun w0 => may_any W cap w0)
  have C27 := hide (fun w0 => mayK11_any k w0)
  have C28 := hide (fun w0 => mayAgg_any agg w0)
  unfold BoolEnd at C26 C27 C28
  rw [decide_eq_true h0] at C26
  rw [decide_eq_true h1] at C27
  have a2 : decide (1 ≤ mx) = true := by simp; omega
  have b2 : decide (mx ≤ 1024) = false := by simp; omega
  clear h0 h1 h2 s2
  unfold cfgV
  go_enter Try.func17, Try.ntmps17
  go_wp2_with (first | (go_at_call 26; refine (C26.out _).mono ?_; rintro e w1 ⟨rfl, rfl⟩) | (go_at_call 27; refine (C27.out _).mono ?_; rintro e w1 ⟨rfl, rfl⟩) | (go_at_call 28; refine (C28.out _).mono ?_; rintro e w1 ⟨rfl, rfl⟩))
  all_goals
    go_ret
    refine ⟨rfl, ?_⟩
    repeat (first | exact Below.refl _ _ | refine Bl.alloc' ?_ _)
set_option maxRecDepth 100000 in
theorem ranges_3_p (agg W k cap p ch mx : Int) (w : World) (h0 : ((1 ≤ W ∧ W ≤ 1048576) ∧ 1 ≤ cap ∧ cap ≤ 65536)) (h1 : (1 ≤ k ∧ k ≤ 64)) (h2 : (1 ≤ mx ∧ mx ≤ 1024)) : Calls Try.prog 17 #[cfgV 3 agg W k cap p ch mx] w (RngEnd true w) := by
  have C26 := hide (fun w0 => may_any W cap w0)
  have C27 := hide (fun w0 => mayK11_any k w0)
  have C28 := hide (fun w0 => mayAgg_any agg w0)
  unfold BoolEnd at C26 C27 C28
  rw [decide_eq_true h0] at C26
  rw [decide_eq_true h1] at C27
  have a2 : decide (1 ≤ mx) = true := by simp; omega
  have b2 : decide (mx ≤ 1024) = true := by simp; omega
  clear h0 h1 h2
  unfold cfgV
  go_enter Try.func17, Try.ntmps17
  go_wp2_with (first | (go_at_call 26; refine (C26.out _).mono ?_; rintro e w1 ⟨rfl, rfl⟩) | (go_at_call 27; refine (C27.out _).mono ?_; rintro e w1 ⟨rfl, rfl⟩) | (go_at_call 28; refine (C28.out _).mono ?_; rintro e w1 ⟨rfl, rfl⟩))
  all_goals
    go_ret
    refine ⟨rfl, ?_⟩
    repeat (first | exact Below.refl _ _ | refine Bl.alloc' ?_ _)
theorem ranges_3 (agg W k cap p ch mx : Int) (w : World) (b : Bool) (hb : b = true ↔ ((1 ≤ W ∧ W ≤ 1048576) ∧ 1 ≤ cap ∧ cap ≤ 65536) ∧ (1 ≤ k ∧ k ≤ 64) ∧ (1 ≤ mx ∧ mx ≤ 1024)) : Calls Try.prog 17 #[cfgV 3 agg W k cap p ch mx] w (RngEnd b w) := by
  by_cases h0 : ((1 ≤ W ∧ W ≤ 1048576) ∧ 1 ≤ cap ∧ cap ≤ 65536)
  rotate_left
  · obtain rfl : b = false := Bool.eq_false_iff.2 (fun c => h0 (hb.1 c).1)
    exact ranges_3_0 agg W k cap p ch mx w  h0
  by_cases h1 : (1 ≤ k ∧ k ≤ 64)
  rotate_left
  · obtain rfl : b = false := Bool.eq_false_iff.2 (fun c => h1 (hb.1 c).2.1)
    exact ranges_3_1 agg W k cap p ch mx w h0 h1
  by_cases h2 : (1 ≤ mx ∧ mx ≤ 1024)
  rotate_left
  · obtain rfl : b = false := Bool.eq_false_iff.2 (fun c => h2 (hb.1 c).2.2)
    by_cases s : mx < 1
    · exact ranges_3_2a agg W k cap p ch mx w h0 h1 h2 s
    · exact ranges_3_2b agg W k cap p ch mx w h0 h1 h2 (by omega)
  obtain rfl : b = true := hb.2 ⟨h0, h1, h2⟩
  exact ranges_3_p agg W k cap p ch mx w h0 h1 h2
set_option maxRecDepth 100000 in
theorem ranges_4_0 (agg W k cap p ch mx : Int) (w : World)  (h0 : ¬ ((1 ≤ W ∧ W ≤ 1048576) ∧ 1 ≤ cap ∧ cap ≤ 65536)) : Calls Try.prog 17 #[cfgV 4 agg W k cap p ch mx] w (RngEnd false w) := by
  have C26 := hide (fun w0 => may_any W cap w0)
  have C27 := hide (fun w0 => mayK11_any k w0)
  have C28 := hide (fun w0 => mayAgg_any agg w0)
  unfold BoolEnd at C26 C27 C28
  rw [decide_eq_false h0] at C26
  clear h0
  unfold cfgV
  go_enter Try.func17, Try.ntmps17
  go_wp2_with (first | (go_at_call 26; refine (C26.out _).mono ?_; rintro e w1 ⟨rfl, rfl⟩) | (go_at_call 27; refine (C27.out _).mono ?_; rintro e w1 ⟨rfl, rfl⟩) | (go_at_call 28; refine (C28.out _).mono ?_; rintro e w1 ⟨rfl, rfl⟩))
  all_goals
    go_ret
    refine ⟨rfl, ?_⟩
    repeat (first | exact Below.refl _ _ | refine Bl.alloc' ?_ _)
set_option maxRecDepth 100000 in
theorem ranges_4_1 (agg W k cap p ch mx : Int) (w : World) (h0 : ((1 ≤ W ∧ W ≤ 1048576) ∧ 1 ≤ cap ∧ cap ≤ 65536)) (h1 : ¬ (1 ≤ k ∧ k ≤ 64)) : Calls Try.prog 17 #[cfgV 4 agg W k cap p ch mx] w (RngEnd false w) := by
  have C26 := hide (fun w0 => may_any W cap w0)
  have C27 := hide (fun w0 => mayK11_any k w0)
  have C28 := hide (fun w0 => mayAgg_any agg w0)
  unfold BoolEnd at C26 C27 C28
  rw [decide_eq_true h0] at C26
  rw [decide_eq_false h1] at C27
  clear h0 h1
  unfold cfgV
  go_enter Try.func17, Try.ntmps17
  go_wp2_with (first | (go_at_call 26; refine (C26.out _).mono ?_; rintro e w1 ⟨rfl, rfl⟩) | (go_at_call 27; refine (C27.out _).mono ?_; rintro e w1 ⟨rfl, rfl⟩) | (go_at_call 28; refine (C28.out _).mono ?_; rintro e w1 ⟨rfl, rfl⟩))
  all_goals
    go_ret
    refine ⟨rfl, ?_⟩
    repeat (first | exact Below.refl _ _ | refine Bl.alloc' ?_ _)
set_option maxRecDepth 100000 in
theorem ranges_4_2 (agg W k cap p ch mx : Int) (w : World) (h0 : ((1 ≤ W ∧ W ≤ 1048576) ∧ 1 ≤ cap ∧ cap ≤ 65536)) (h1 : (1 ≤ k ∧ k ≤ 64)) (h2 : ¬ (1 ≤ agg ∧ agg ≤ 4)) : Calls Try.prog 17 #[cfgV 4 agg W k cap p ch mx] w (RngEnd false w) := by
  have C26 := hide (fun w0 => may_any W cap w0)
  have C27 := hide (fun w0 => mayK11_any k w0)
  have C28 := hide (fun w0 => mayAgg_any agg w0)
  unfold BoolEnd at C26 C27 C28
  rw [decide_eq_true h0] at C26
  rw [decide_eq_true h1] at C27
  rw [decide_eq_false h2] at C28
  clear h0 h1 h2
  unfold cfgV
  go_enter Try.func17, Try.ntmps17
  go_wp2_with (first | (go_at_call 26; refine (C26.out _).mono ?_; rintro e w1 ⟨rfl, rfl⟩) | (go_at_call 27; refine (C27.out _).mono ?_; rintro e w1 ⟨rfl, rfl⟩) | (go_at_call 28; refine (C28.out _).mono ?_; rintro e w1 ⟨rfl, rfl⟩))
  all_goals
    go_ret
    refine ⟨rfl, ?_⟩
    repeat (first | exact Below.refl _ _ | refine Bl.alloc' ?_ _)
set_option maxRecDepth 100000 in
theorem ranges_4_p (agg W k cap p ch mx : Int) (w : World) (h0 : ((1 ≤ W ∧ W ≤ 1048576) ∧ 1 ≤ cap ∧ cap ≤ 65536)) (h1 : (1 ≤ k ∧ k ≤ 64)) (h2 : (1 ≤ agg ∧ agg ≤ 4)) : Calls Try.prog 17 #[cfgV 4 agg W k cap p ch mx] w (RngEnd true w) := by
  have C26 := hide (fun w0 => may_any W cap w0)
  have C27 := hide (fun w0 => mayK11_any k w0)
  have C28 := hide (fun w0 => mayAgg_any agg w0)
  unfold BoolEnd at C26 C27 C28
  rw [decide_eq_true h0] at C26
  rw [decide_eq_true h1] at C27
  rw [decide_eq_true h2] at C28
  clear h0 h1 h2
  unfold cfgV
  go_enter Try.func17, Try.ntmps17
  go_wp2_with (first | (go_at_call 26; refine (C26.out _).mono ?_; rintro e w1 ⟨rfl, rfl⟩) | (go_at_call 27; refine (C27.out _).mono ?_; rintro e w1 ⟨rfl, rfl⟩) | (go_at_call 28; refine (C28.out _).mono ?_; rintro e w1 ⟨rfl, rfl⟩))
  all_goals
    go_ret
    refine ⟨rfl, ?_⟩
    repeat (first | exact Below.refl _ _ | refine Bl.alloc' ?_ _)
theorem ranges_4 (agg W k cap p ch mx : Int) (w : World) (b : Bool) (hb : b = true ↔ ((1 ≤ W ∧ W ≤ 1048576) ∧ 1 ≤ cap ∧ cap ≤ 65536) ∧ (1 ≤ k ∧ k ≤ 64) ∧ (1 ≤ agg ∧ agg ≤ 4)) : Calls Try.prog 17 #[cfgV 4 agg W k cap p ch mx] w (RngEnd b w) := by
  by_cases h0 : ((1 ≤ W ∧ W ≤ 1048576) ∧ 1 ≤ cap ∧ cap ≤ 65536)
  rotate_left
  · obtain rfl : b = false := Bool.eq_false_iff.2 (fun c => h0 (hb.1 c).1)
    exact ranges_4_0 agg W k cap p ch mx w  h0
  by_cases h1 : (1 ≤ k ∧ k ≤ 64)
  rotate_left
  · obtain rfl : b = false := Bool.eq_false_iff.2 (fun c => h1 (hb.1 c).2.1)
    exact ranges_4_1 agg W k cap p ch mx w h0 h1
  by_cases h2 : (1 ≤ agg ∧ agg ≤ 4)
  rotate_left
  · obtain rfl : b = false := Bool.eq_false_iff.2 (fun c => h2 (hb.1 c).2.2)
    exact ranges_4_2 agg W k cap p ch mx w h0 h1 h2
  obtain rfl : b = true := hb.2 ⟨h0, h1, h2⟩
  exact ranges_4_p agg W k cap p ch mx w h0 h1 h2
set_option maxRecDepth 100000 in
theorem ranges_5_0 (agg W k cap p ch mx : Int) (w : World)  (h0 : ¬ ((1 ≤ W ∧ W ≤ 1048576) ∧ 1 ≤ cap ∧ cap ≤ 65536)) : Calls Try.prog 17 #[cfgV 5 agg W k cap p ch mx] w (RngEnd false w) := by
  have C26 := hide (fun w0 => may_any W cap w0)
  have C27 := hide (fun w0 => mayK11_any k w0)
  have C28 := hide (fun w0 => mayAgg_any agg w0)
  unfold BoolEnd at C26 C27 C28
  rw [decide_eq_false h0] at C26
  clear h0
  unfold cfgV
  go_enter Try.func17, Try.ntmps17
  go_wp2_with (first | (go_at_call 26; refine (C26.out _).mono ?_; rintro e w1 ⟨rfl, rfl⟩) | (go_at_call 27; refine (C27.out _).mono ?_; rintro e w1 ⟨rfl, rfl⟩) | (go_at_call 28; refine (C28.out _).mono ?_; rintro e w1 ⟨rfl, rfl⟩))
  all_goals
    go_ret
    refine ⟨rfl, ?_⟩
    repeat (first | exact Below.refl _ _ | refine Bl.alloc' ?_ _)
set_option maxRecDepth 100000 in
theorem ranges_5_1 (agg W k cap p ch mx : Int) (w : World) (h0 : ((1 ≤ W ∧ W ≤ 1048576) ∧ 1 ≤ cap ∧ cap ≤ 65536)) (h1 : ¬ (1 ≤ k ∧ k ≤ 64)) : Calls Try.prog 17 #[cfgV 5 agg W k cap p ch mx] w (RngEnd false w) := by
  have C26 := hide (fun w0 => may_any W cap w0)
  have C27 := hide (fun w0 => mayK11_any k w0)
  have C28 := hide (fun w0 => mayAgg_any agg w0)
  unfold BoolEnd at C26 C27 C28
  rw [decide_eq_true h0] at C26
  rw [decide_eq_false h1] at C27
  clear h0 h1
  unfold cfgV
  go_enter Try.func17, Try.ntmps17
  go_wp2_with (first | (go_at_call 26; refine (C26.out _).mono ?_; rintro e w1 ⟨rfl, rfl⟩) | (go_at_call 27; refine (C27.out _).mono ?_; rintro e w1 ⟨rfl, rfl⟩) | (go_at_call 28; refine (C28.out _).mono ?_; rintro e w1 ⟨rfl, rfl⟩))
  all_goals
    go_ret
    refine ⟨rfl, ?_⟩
    repeat (first | exact Below.refl _ _ | refine Bl.alloc' ?_ _)
set_option maxRecDepth 100000 in
theorem ranges_5_p (agg W k cap p ch mx : Int) (w : World) (h0 : ((1 ≤ W ∧ W ≤ 1048576) ∧ 1 ≤ cap ∧ cap ≤ 65536)) (h1 : (1 ≤ k ∧ k ≤ 64)) : Calls Try.prog 17 #[cfgV 5 agg W k cap p ch mx] w (RngEnd true w) := by
  have C26 := hide (fun w0 => may_any W cap w0)
  have C27 := hide (fun w0 => mayK11_any k w0)
  have C28 := hide (fun w0 => mayAgg_any agg w0)
  unfold BoolEnd at C26 C27 C28
  rw [decide_eq_true h0] at C26
  rw [decide_eq_true h1] at C27
  clear h0 h1
  unfold cfgV
  go_enter Try.func17, Try.ntmps17
  go_wp2_with (first | (go_at_call 26; refine (C26.out _).mono ?_; rintro e w1 ⟨rfl, rfl⟩) | (go_at_call 27; refine (C27.out _).mono ?_; rintro e w1 ⟨rfl, rfl⟩) | (go_at_call 28; refine (C28.out _).mono ?_; rintro e w1 ⟨rfl, rfl⟩))
  all_goals
    go_ret
    refine ⟨rfl, ?_⟩
    repeat (first | exact Below.refl _ _ | refine Bl.alloc' ?_ _)
theorem ranges_5 (agg W k cap p ch mx : Int) (w : World) (b : Bool) (hb : b = true ↔ ((1 ≤ W ∧ W ≤ 1048576) ∧ 1 ≤ cap ∧ cap ≤ 65536) ∧ (1 ≤ k ∧ k ≤ 64)) : Calls Try.prog 17 #[cfgV 5 agg W k cap p ch mx] w (RngEnd b w) := by
  by_cases h0 : ((1 ≤ W ∧ W ≤ 1048576) ∧ 1 ≤ cap ∧ cap ≤ 65536)
  rotate_left
  · obtain rfl : b = false := Bool.eq_false_iff.2 (fun c => h0 (hb.1 c).1)
    exact ranges_5_0 agg W k cap p ch mx w  h0
  by_cases h1 : (1 ≤ k ∧ k ≤ 64)
  rotate_left
  · obtain rfl : b = false := Bool.eq_false_iff.2 (fun c => h1 (hb.1 c).2)
    exact ranges_5_1 agg W k cap p ch mx w h0 h1
  obtain rfl : b = true := hb.2 ⟨h0, h1⟩
  exact ranges_5_p agg W k cap p ch mx w h0 h1
set_option maxRecDepth 100000 in
theorem ranges_6_0a (agg W k cap p ch mx : Int) (w : World)  (h0 : ¬ (0 ≤ p ∧ p ≤ 4)) (s0 : p < 0) : Calls Try.prog 17 #[cfgV 6 agg W k cap p ch mx] w (RngEnd false w) := by
  have C26 := hide (fun w0 => may_any W cap w0)
  have C27 := hide (fun w0 => mayK11_any k w0)
  have C28 := hide (fun w0 => mayAgg_any agg w0)
  unfold BoolEnd at C26 C27 C28
  have a0 : decide (0 ≤ p) = false := by simp; omega
  generalize decide ((1 ≤ W ∧ W ≤ 1048576) ∧ 1 ≤ cap ∧ cap ≤ 65536) = r26 at *
  clear h0 s0
  unfold cfgV
  go_enter Try.func17, Try.ntmps17
  go_wp2_with (first | (go_at_call 26; refine (C26.out _).mono ?_; rintro e w1 ⟨rfl, rfl⟩) | (go_at_call 27; refine (C27.out _).mono ?_; rintro e w1 ⟨rfl, rfl⟩) | (go_at_call 28; refine (C28.out _).mono ?_; rintro e w1 ⟨rfl, rfl⟩))
  all_goals
    go_ret
    refine ⟨rfl, ?_⟩
    repeat (first | exact Below.refl _ _ | refine Bl.alloc' ?_ _)
set_option maxRecDepth 100000 in
theorem ranges_6_0b (agg W k cap p ch mx : Int) (w : World)  (h0 : ¬ (0 ≤ p ∧ p ≤ 4)) (s0 : 4 < p) : Calls Try.prog 17 #[cfgV 6 agg W k cap p ch mx] w (RngEnd false w) := by
  have C26 := hide (fun w0 => may_any W cap w0)
  have C27 := hide (fun w0 => mayK11_any k w0)
  have C28 := hide (fun w0 => mayAgg_any agg w0)
  unfold BoolEnd at C26 C27 C28
  have a0 : decide (0 ≤ p) = true := by simp; omega
  have b0 : decide (p ≤ 4) = false := by simp; omega
  generalize decide ((1 ≤ W ∧ W ≤ 1048576) ∧ 1 ≤ cap ∧ cap ≤ 65536) = r26 at *
  clear h0 s0
  unfold cfgV
  go_enter Try.func17, Try.ntmps17
  go_wp2_with (first | (go_at_call 26; refine (C26.out _).mono ?_; rintro e w1 ⟨rfl, rfl⟩) | (go_at_call 27; refine (C27.out _).mono ?_; rintro e w1 ⟨rfl, rfl⟩) | (go_at_call 28; refine (C28.out _).mono ?_; rintro e w1 ⟨rfl, rfl⟩))
  all_goals
    go_ret
    refine ⟨rfl, ?_⟩
    repeat (first | exact Below.refl _ _ | refine Bl.alloc' ?_ _)
set_option maxRecDepth 100000 in
theorem ranges_6_p (agg W k cap p ch mx : Int) (w : World) (h0 : (0 ≤ p ∧ p ≤ 4)) : Calls Try.prog 17 #[cfgV 6 agg W k cap p ch mx] w (RngEnd true w) := by
  have C26 := hide (fun w0 => may_any W cap w0)
  have C27 := hide (fun w0 => mayK11_any k w0)
  have C28 := hide (fun w0 => mayAgg_any agg w0)
  unfold BoolEnd at C26 C27 C28
  have a0 : decide (0 ≤ p) = true := by simp; omega
  have b0 : decide (p ≤ 4) = true := by simp; omega
  generalize decide ((1 ≤ W ∧ W ≤ 1048576) ∧ 1 ≤ cap ∧ cap ≤ 65536) = r26 at *
  clear h0
  unfold cfgV
  go_enter Try.func17, Try.ntmps17
  go_wp2_with (first | (go_at_call 26; refine (C26.out _).mono ?_; rintro e w1 ⟨rfl, rfl⟩) | (go_at_call 27; refine (C27.out _).mono ?_; rintro e w1 ⟨rfl, rfl⟩) | (go_at_call 28; refine (C28.out _).mono ?_; rintro e w1 ⟨rfl, rfl⟩))
  all_goals
    go_ret
    refine ⟨rfl, ?_⟩
    repeat (first | exact Below.refl _ _ | refine Bl.alloc' ?_ _)
theorem ranges_6 (agg W k cap p ch mx : Int) (w : World) (b : Bool) (hb : b = true ↔ (0 ≤ p ∧ p ≤ 4)) : Calls Try.prog 17 #[cfgV 6 agg W k cap p ch mx] w (RngEnd b w) := by
  by_cases h0 : (0 ≤ p ∧ p ≤ 4)
  rotate_left
  · obtain rfl : b = false := Bool.eq_false_iff.2 (fun c => h0 (hb.1 c))
    by_cases s : p < 0
    · exact ranges_6_0a agg W k cap p ch mx w  h0 s
    · exact ranges_6_0b agg W k cap p ch mx w  h0 (by omega)
  obtain rfl : b = true := hb.2 h0
  exact ranges_6_p agg W k cap p ch mx w h0
set_option maxRecDepth 100000 in
theorem ranges_7_0a (agg W k cap p ch mx : Int) (w : World)  (h0 : ¬ (1 ≤ W ∧ W ≤ 64)) (s0 : W < 1) : Calls Try.prog 17 #[cfgV 7 agg W k cap p ch mx] w (RngEnd false w) := by
  have C26 := hide (fun w0 => may_any W cap w0)
  have C27 := hide (fun w0 => mayK11_any k w0)
  have C28 := hide (fun w0 => mayAgg_any agg w0)
  unfold BoolEnd at C26 C27 C28
  have a0 : decide (1 ≤ W) = false := by simp; omega
  generalize decide ((1 ≤ W ∧ W ≤ 1048576) ∧ 1 ≤ cap ∧ cap ≤ 65536) = r26 at *
  clear h0 s0
  unfold cfgV
  go_enter Try.func17, Try.ntmps17
  go_wp2_with (first | (go_at_call 26; refine (C26.out _).mono ?_; rintro e w1 ⟨rfl, rfl⟩) | (go_at_call 27; refine (C27.out _).mono ?_; rintro e w1 ⟨rfl, rfl⟩) | (go_at_call 28; refine (C28.out _).mono ?_; rintro e w1 ⟨rfl, rfl⟩))
  all_goals
    go_ret
    refine ⟨rfl, ?_⟩
    repeat (first | exact Below.refl _ _ | refine Bl.alloc' ?_ _)
set_option maxRecDepth 100000 in
theorem ranges_7_0b (agg W k cap p ch mx : Int) (w : World)  (h0 : ¬ (1 ≤ W ∧ W ≤ 64)) (s0 : 64 < W) : Calls Try.prog 17 #[cfgV 7 agg W k cap p ch mx] w (RngEnd false w) := by
  have C26 := hide (fun w0 => may_any W cap w0)
  have C27 := hide (fun w0 => mayK11_any k w0)
  have C28 := hide (fun w0 => mayAgg_any agg w0)
  unfold BoolEnd at C26 C27 C28
  have a0 : decide (1 ≤ W) = true := by simp; omega
  have b0 : decide (W ≤ 64) = false := by simp; omega
  generalize decide ((1 ≤ W ∧ W ≤ 1048576) ∧ 1 ≤ cap ∧ cap ≤ 65536) = r26 at *
  clear h0 s0
  unfold cfgV
  go_enter Try.func17, Try.ntmps17
  go_wp2_with (first | (go_at_call 26; refine (C26.out _).mono ?_; rintro e w1 ⟨rfl, rfl⟩) | (go_at_call 27; refine (C27.out _).mono ?_; rintro e w1 ⟨rfl, rfl⟩) | (go_at_call 28; refine (C28.out _).mono ?_; rintro e w1 ⟨rfl, rfl⟩))
  all_goals
    go_ret
    refine ⟨rfl, ?_⟩
    repeat (first | exact Below.refl _ _ | refine Bl.alloc' ?_ _)
set_option maxRecDepth 100000 in
theorem ranges_7_p (agg W k cap p ch mx : Int) (w : World) (h0 : (1 ≤ W ∧ W ≤ 64)) : Calls Try.prog 17 #[cfgV 7 agg W k cap p ch mx] w (RngEnd true w) := by
  have C26 := hide (fun w0 => may_any W cap w0)
  have C27 := hide (fun w0 => mayK11_any k w0)
  have C28 := hide (fun w0 => mayAgg_any agg w0)
  unfold BoolEnd at C26 C27 C28
  have a0 : decide (1 ≤ W) = true := by simp; omega
  have b0 : decide (W ≤ 64) = true := by simp; omega
  generalize decide ((1 ≤ W ∧ W ≤ 1048576) ∧ 1 ≤ cap ∧ cap ≤ 65536) = r26 at *
  clear h0
  unfold cfgV
  go_enter Try.func17, Try.ntmps17
  go_wp2_with (first | (go_at_call 26; refine (C26.out _).mono ?_; rintro e w1 ⟨rfl, rfl⟩) | (go_at_call 27; refine (C27.out _).mono ?_; rintro e w1 ⟨rfl, rfl⟩) | (go_at_call 28; refine (C28.out _).mono ?_; rintro e w1 ⟨rfl, rfl⟩))
  all_goals
    go_ret
    refine ⟨rfl, ?_⟩
    repeat (first | exact Below.refl _ _ | refine Bl.alloc' ?_ _)
theorem ranges_7 (agg W k cap p ch mx : Int) (w : World) (b : Bool) (hb : b = true ↔ (1 ≤ W ∧ W ≤ 64)) : Calls Try.prog 17 #[cfgV 7 agg W k cap p ch mx] w (RngEnd b w) := by
  by_cases h0 : (1 ≤ W ∧ W ≤ 64)
  rotate_left
  · obtain rfl : b = false := Bool.eq_false_iff.2 (fun c => h0 (hb.1 c))
    by_cases s : W < 1
    · exact ranges_7_0a agg W k cap p ch mx w  h0 s
    · exact ranges_7_0b agg W k cap p ch mx w  h0 (by omega)
  obtain rfl : b = true := hb.2 h0
  exact ranges_7_p agg W k cap p ch mx w h0
set_option maxRecDepth 100000 in
theorem ranges_8_0 (agg W k cap p ch mx : Int) (w : World)  (h0 : ¬ ((1 ≤ W ∧ W ≤ 1048576) ∧ 1 ≤ cap ∧ cap ≤ 65536)) : Calls Try.prog 17 #[cfgV 8 agg W k cap p ch mx] w (RngEnd false w) := by
  have C26 := hide (fun w0 => may_any W cap w0)
  have C27 := hide (fun w0 => mayK11_any k w0)
  have C28 := hide (fun w0 => mayAgg_any agg w0)
  unfold BoolEnd at C26 C27 C28
  rw [decide_eq_false h0] at C26
  clear h0
  unfold cfgV
  go_enter Try.func17, Try.ntmps17
  go_wp2_with (first | (go_at_call 26; refine (C26.out _).mono ?_; rintro e w1 ⟨rfl, rfl⟩) | (go_at_call 27; refine (C27.out _).mono ?_; rintro e w1 ⟨rfl, rfl⟩) | (go_at_call 28; refine (C28.out _).mono ?_; rintro e w1 ⟨rfl, rfl⟩))
  all_goals
    go_ret
    refine ⟨rfl, ?_⟩
    repeat (first | exact Below.refl _ _ | refine Bl.alloc' ?_ _)
set_option maxRecDepth 100000 in
theorem ranges_8_1 (agg W k cap p ch mx : Int) (w : World) (h0 : ((1 ≤ W ∧ W ≤ 1048576) ∧ 1 ≤ cap ∧ cap ≤ 65536)) (h1 : ¬ (0 ≤ mx ∧ mx ≤ 1)) : Calls Try.prog 17 #[cfgV 8 agg W k cap p ch mx] w (RngEnd false w) := by
  have C26 := hide (fun w0 => may_any W cap w0)
  have C27 := hide (fun w0 => mayK11_any k w0)
  have C28 := hide (fun w0 => mayAgg_any agg w0)
  unfold BoolEnd at C26 C27 C28
  rw [decide_eq_true h0] at C26
  have a1 : (mx == 0) = false := by simp; omega
  have b1 : (mx == 1) = false := by simp; omega
  clear h0 h1
  unfold cfgV
  go_enter Try.func17, Try.ntmps17
  go_wp2_with (first | (go_at_call 26; refine (C26.out _).mono ?_; rintro e w1 ⟨rfl, rfl⟩) | (go_at_call 27; refine (C27.out _).mono ?_; rintro e w1 ⟨rfl, rfl⟩) | (go_at_call 28; refine (C28.out _).mono ?_; rintro e w1 ⟨rfl, rfl⟩))
  all_goals
    go_ret
    refine ⟨rfl, ?_⟩
    repeat (first | exact Below.refl _ _ | refine Bl.alloc' ?_ _)
set_option maxRecDepth 100000 in
theorem ranges_8_p (agg W k cap p ch mx : Int) (w : World) (h0 : ((1 ≤ W ∧ W ≤ 1048576) ∧ 1 ≤ cap ∧ cap ≤ 65536)) (h1 : (0 ≤ mx ∧ mx ≤ 1)) (s1 : mx = 0) : Calls Try.prog 17 #[cfgV 8 agg W k cap p ch mx] w (RngEnd true w) := by
  have C26 := hide (fun w0 => may_any W cap w0)
  have C27 := hide (fun w0 => mayK11_any k w0)
  have C28 := hide (fun w0 => mayAgg_any agg w0)
  unfold BoolEnd at C26 C27 C28
  rw [decide_eq_true h0] at C26
  have a1 : (mx == 0) = true := by simp; omega
  clear h0 h1 s1
  unfold cfgV
  go_enter Try.func17, Try.ntmps17
  go_wp2_with (first | (go_at_call 26; refine (C26.out _).mono ?_; rintro e w1 ⟨rfl, rfl⟩) | (go_at_call 27; refine (C27.out _).mono ?_; rintro e w1 ⟨rfl, rfl⟩) | (go_at_call 28; refine (C28.out _).mono ?_; rintro e w1 ⟨rfl, rfl⟩))
  all_goals
    go_ret
    refine ⟨rfl, ?_⟩
    repeat (first | exact Below.refl _ _ | refine Bl.alloc' ?_ _)
set_option maxRecDepth 100000 in
theorem ranges_8_q (agg W k cap p ch mx : Int) (w : World) (h0 : ((1 ≤ W ∧ W ≤ 1048576) ∧ 1 ≤ cap ∧ cap ≤ 65536)) (h1 : (0 ≤ mx ∧ mx ≤ 1)) (s1 : mx = 1) : Calls Try.prog 17 #[cfgV 8 agg W k cap p ch mx] w (RngEnd true w) := by
  have C26 := hide (fun w0 => may_any W cap w0)
  have C27 := hide (fun w0 => mayK11_any k w0)
  have C28 := hide (fun w0 => mayAgg_any agg w0)
  unfold BoolEnd at C26 C27 C28
  rw [decide_eq_true h0] at C26
  have a1 : (mx == 0) = false := by simp; omega
  have b1 : (mx == 1) = true := by simp; omega
  clear h0 h1 s1
  unfold cfgV
  go_enter Try.func17, Try.ntmps17
  go_wp2_with (first | (go_at_call 26; refine (C26.out _).mono ?_; rintro e w1 ⟨rfl, rfl⟩) | (go_at_call 27; refine (C27.out _).mono ?_; rintro e w1 ⟨rfl, rfl⟩) | (go_at_call 28; refine (C28.out _).mono ?_; rintro e w1 ⟨rfl, rfl⟩))
  all_goals
    go_ret
    refine ⟨rfl, ?_⟩
    repeat (first | exact Below.refl _ _ | refine Bl.alloc' ?_ _)
theorem ranges_8 (agg W k cap p ch mx : Int) (w : World) (b : Bool) (hb : b = true ↔ ((1 ≤ W ∧ W ≤ 1048576) ∧ 1 ≤ cap ∧ cap ≤ 65536) ∧ (0 ≤ mx ∧ mx ≤ 1)) : Calls Try.prog 17 #[cfgV 8 agg W k cap p ch mx] w (RngEnd b w) := by
  by_cases h0 : ((1 ≤ W ∧ W ≤ 1048576) ∧ 1 ≤ cap ∧ cap ≤ 65536)
  rotate_left
  · obtain rfl : b = false := Bool.eq_false_iff.2 (fun c => h0 (hb.1 c).1)
    exact ranges_8_0 agg W k cap p ch mx w  h0
  by_cases h1 : (0 ≤ mx ∧ mx ≤ 1)
  rotate_left
  · obtain rfl : b = false := Bool.eq_false_iff.2 (fun c => h1 (hb.1 c).2)
    exact ranges_8_1 agg W k cap p ch mx w h0 h1
  obtain rfl : b = true := hb.2 ⟨h0, h1⟩
  rcases (show mx = 0 ∨ mx = 1 by omega) with s | s
  · exact ranges_8_p agg W k cap p ch mx w h0 h1 s
  · exact ranges_8_q agg W k cap p ch mx w h0 h1 s
set_option maxRecDepth 100000 in
theorem ranges_9_0a (agg W k cap p ch mx : Int) (w : World)  (h0 : ¬ (1 ≤ ch ∧ ch ≤ 16)) (s0 : ch < 1) : Calls Try.prog 17 #[cfgV 9 agg W k cap p ch mx] w (RngEnd false w) := by
  have C26 := hide (fun w0 => may_any W cap w0)
  have C27 := hide (fun w0 => mayK11_any k w0)
  have C28 := hide (fun w0 => mayAgg_any agg w0)
  unfold BoolEnd at C26 C27 C28
  have a0 : decide (1 ≤ ch) = false := by simp; omega
  generalize decide ((1 ≤ W ∧ W ≤ 1048576) ∧ 1 ≤ cap ∧ cap ≤ 65536) = r26 at *
  clear h0 s0
  unfold cfgV
  go_enter Try.func17, Try.ntmps17
  go_wp2_with (first | (go_at_call 26; refine (C26.out _).mono ?_; rintro e w1 ⟨rfl, rfl⟩) | (go_at_call 27; refine (C27.out _).mono ?_; rintro e w1 ⟨rfl, rfl⟩) | (go_at_call 28; refine (C28.out _).mono ?_; rintro e w1 ⟨rfl, rfl⟩))
  all_goals
    go_ret
    refine ⟨rfl, ?_⟩
    repeat (first | exact Below.refl _ _ | refine Bl.alloc' ?_ _)
set_option maxRecDepth 100000 in
theorem ranges_9_0b (agg W k cap p ch mx : Int) (w : World)  (h0 : ¬ (1 ≤ ch ∧ ch ≤ 16)) (s0 : 16 < ch) : Calls Try.prog 17 #[cfgV 9 agg W k cap p ch mx] w (RngEnd false w) := by
  have C26 := hide (fun w0 => may_any W cap w0)
  have C27 := hide (fun w0 => mayK11_any k w0)
  have C28 := hide (fun w0 => mayAgg_any agg w0)
  unfold BoolEnd at C26 C27 C28
  have a0 : decide (1 ≤ ch) = true := by simp; omega
  have b0 : decide (ch ≤ 16) = false := by simp; omega
  generalize decide ((1 ≤ W ∧ W ≤ 1048576) ∧ 1 ≤ cap ∧ cap ≤ 65536) = r26 at *
  clear h0 s0
  unfold cfgV
  go_enter Try.func17, Try.ntmps17
  go_wp2_with (first | (go_at_call 26; refine (C26.out _).mono ?_; rintro e w1 ⟨rfl, rfl⟩) | (go_at_call 27; refine (C27.out _).mono ?_; rintro e w1 ⟨rfl, rfl⟩) | (go_at_call 28; refine (C28.out _).mono ?_; rintro e w1 ⟨rfl, rfl⟩))
  all_goals
    go_ret
    refine ⟨rfl, ?_⟩
    repeat (first | exact Below.refl _ _ | refine Bl.alloc' ?_ _)
set_option maxRecDepth 100000 in
theorem ranges_9_1a (agg W k cap p ch mx : Int) (w : World) (h0 : (1 ≤ ch ∧ ch ≤ 16)) (h1 : ¬ (1 ≤ W ∧ W ≤ 1048576)) (s1 : W < 1) : Calls Try.prog 17 #[cfgV 9 agg W k cap p ch mx] w (RngEnd false w) := by
  have C26 := hide (fun w0 => may_any W cap w0)
  have C27 := hide (fun w0 => mayK11_any k w0)
  have C28 := hide (fun w0 => mayAgg_any agg w0)
  unfold BoolEnd at C26 C27 C28
  have a0 : decide (1 ≤ ch) = true := by simp; omega
  have b0 : decide (ch ≤ 16) = true := by simp; omega
  have a1 : decide (1 ≤ W) = false := by simp; omega
  generalize decide ((1 ≤ W ∧ W ≤ 1048576) ∧ 1 ≤ cap ∧ cap ≤ 65536) = r26 at *
  clear h0 h1 s1
  unfold cfgV
  go_enter Try.func17, Try.ntmps17
  go_wp2_with (first | (go_at_call 26; refine (C26.out _).mono ?_; rintro e w1 ⟨rfl, rfl⟩) | (go_at_call 27; refine (C27.out _).mono ?_; rintro e w1 ⟨rfl, rfl⟩) | (go_at_call 28; refine (C28.out _).mono ?_; rintro e w1 ⟨rfl, rfl⟩))
  all_goals
    go_ret
    refine ⟨rfl, ?_⟩
    repeat (first | exact Below.refl _ _ | refine Bl.alloc' ?_ _)
set_option maxRecDepth 100000 in
theorem ranges_9_1b (agg W k cap p ch mx : Int) (w : World) (h0 : (1 ≤ ch ∧ ch ≤ 16)) (h1 : ¬ (1 ≤ W ∧ W ≤ 1048576)) (s1 : 1048576 < W) : Calls Try.prog 17 #[cfgV 9 agg W k cap p ch mx] w (RngEnd false w) := by
  have C26 := hide (fun w0 => may_any W cap w0)
  have C27 := hide (fun w0 => mayK11_any k w0)
  have C28 := hide (fun w0 => mayAgg_any agg w0)
  unfold BoolEnd at C26 C27 C28
  have a0 : decide (1 ≤ ch) = true := by simp; omega
  have b0 : decide (ch ≤ 16) = true := by simp; omega
  have a1 : decide (1 ≤ W) = true := by simp; omega
  have b1 : decide (W ≤ 1048576) = false := by simp; omega
  generalize decide ((1 ≤ W ∧ W ≤ 1048576) ∧ 1 ≤ cap ∧ cap ≤ 65536) = r26 at *
  clear h0 h1 s1
  unfold cfgV
  go_enter Try.func17, Try.ntmps17
  go_wp2_with (first | (go_at_call 26; refine (C26.out _).mono ?_; rintro e w1 ⟨rfl, rfl⟩) | (go_at_call 27; refine (C27.out _).mono ?_; rintro e w1 ⟨rfl, rfl⟩) | (go_at_call 28; refine (C28.out _).mono ?_; rintro e w1 ⟨rfl, rfl⟩))
  all_goals
    go_ret
    refine ⟨rfl, ?_⟩
    repeat (first | exact Below.refl _ _ | refine Bl.alloc' ?_ _)
set_option maxRecDepth 100000 in
theorem ranges_9_2a (agg W k cap p ch mx : Int) (w : World) (h0 : (1 ≤ ch ∧ ch ≤ 16)) (h1 : (1 ≤ W ∧ W ≤ 1048576)) (h2 : ¬ (1 ≤ cap ∧ cap ≤ 64)) (s2 : cap < 1) : Calls Try.prog 17 #[cfgV 9 agg W k cap p ch mx] w (RngEnd false w) := by
  have C26 := hide (fun w0 => may_any W cap w0)
  have C27 := hide (fun w0 => mayK11_any k w0)
  have C28 := hide (fun w0 => mayAgg_any agg w0)
  unfold BoolEnd at C26 C27 C28
  have a0 : decide (1 ≤ ch) = true := by simp; omega
  have b0 : decide (ch ≤ 16) = true := by simp; omega
  have a1 : decide (1 ≤ W) = true := by simp; omega
  have b1 : decide (W ≤ 1048576) = true := by simp; omega
  have a2 : decide (1 ≤ cap) = false := by simp; omega
  generalize decide ((1 ≤ W ∧ W ≤ 1048576) ∧ 1 ≤ cap ∧ cap ≤ 65536) = r26 at *
  clear h0 h1 h2 s2
  unfold cfgV
  go_enter Try.func17, Try.ntmps17
  go_wp2_with (first | (go_at_call 26; refine (C26.out _).mono ?_; rintro e w1 ⟨rfl, rfl⟩) | (go_at_call 27; refine (C27.out _).mono ?_; rintro e w1 ⟨rfl, rfl⟩) | (go_at_call 28; refine (C28.out _).mono ?_; rintro e w1 ⟨rfl, rfl⟩))
  all_goals
    go_ret
    refine ⟨rfl, ?_⟩
    repeat (first | exact Below.refl _ _ | refine Bl.alloc' ?_ _)
set_option maxRecDepth 100000 in
theorem ranges_9_2b (agg W k cap p ch mx : Int) (w : World) (h0 : (1 ≤ ch ∧ ch ≤ 16)) (h1 : (1 ≤ W ∧ W ≤ 1048576)) (h2 : ¬ (1 ≤ cap ∧ cap ≤ 64)) (s2 : 64 < cap) : Calls Try.prog 17 #[cfgV 9 agg W k cap p ch mx] w (RngEnd false w) := by
  have C26 := hide (fun w0 => may_any W cap w0)
  have C27 := hide (fun w0 => mayK11_any k w0)
  have C28 := hide (fun w0 => mayAgg_any agg w0)
  unfold BoolEnd at C26 C27 C28
  have a0 : decide (1 ≤ ch) = true := by simp; omega
  have b0 : decide (ch ≤ 16) = true := by simp; omega
  have a1 : decide (1 ≤ W) = true := by simp; omega
  have b1 : decide (W ≤ 1048576) = true := by simp; omega
  have a2 : decide (1 ≤ cap) = true := by simp; omega
  have b2 : decide (cap ≤ 64) = false := by simp; omega
  generalize decide ((1 ≤ W ∧ W ≤ 1048576) ∧ 1 ≤ cap ∧ cap ≤ 65536) = r26 at *
  clear h0 h1 h2 s2
  unfold cfgV
  go_enter Try.func17, Try.ntmps17
  go_wp2_with (first | (go_at_call 26; refine (C26.out _).mono ?_; rintro e w1 ⟨rfl, rfl⟩) | (go_at_call 27; refine (C27.out _).mono ?_; rintro e w1 ⟨rfl, rfl⟩) | (go_at_call 28; refine (C28.out _).mono ?_; rintro e w1 ⟨rfl, rfl⟩))
  all_goals
    go_ret
    refine ⟨rfl, ?_⟩
    repeat (first | exact Below.refl _ _ | refine Bl.alloc' ?_ _)
set_option maxRecDepth 100000 in
theorem ranges_9_p (agg W k cap p ch mx : Int) (w : World) (h0 : (1 ≤ ch ∧ ch ≤ 16)) (h1 : (1 ≤ W ∧ W ≤ 1048576)) (h2 : (1 ≤ cap ∧ cap ≤ 64)) : Calls Try.prog 17 #[cfgV 9 agg W k cap p ch mx] w (RngEnd true w) := by
  have C26 := hide (fun w0 => may_any W cap w0)
  have C27 := hide (fun w0 => mayK11_any k w0)
  have C28 := hide (fun w0 => mayAgg_any agg w0)
  unfold BoolEnd at C26 C27 C28
  have a0 : decide (1 ≤ ch) = true := by simp; omega
  have b0 : decide (ch ≤ 16) = true := by simp; omega
  have a1 : decide (1 ≤ W) = true := by simp; omega
  have b1 : decide (W ≤ 1048576) = true := by simp; omega
  have a2 : decide (1 ≤ cap) = true := by simp; omega
  have b2 : decide (cap ≤ 64) = true := by simp; omega
  generalize decide ((1 ≤ W ∧ W ≤ 1048576) ∧ 1 ≤ cap ∧ cap ≤ 65536) = r26 at *
  clear h0 h1 h2
  unfold cfgV
  go_enter Try.func17, Try.ntmps17
  go_wp2_with (first | (go_at_call 26; refine (C26.out _).mono ?_; rintro e w1 ⟨rfl, rfl⟩) | (go_at_call 27; refine (C27.out _).mono ?_; rintro e w1 ⟨rfl, rfl⟩) | (go_at_call 28; refine (C28.out _).mono ?_; rintro e w1 ⟨rfl, rfl⟩))
  all_goals
    go_ret
    refine ⟨rfl, ?_⟩
    repeat (first | exact Below.refl _ _ | refine Bl.alloc' ?_ _)
theorem ranges_9 (agg W k cap p ch mx : Int) (w : World) (b : Bool) (hb : b = true ↔ (1 ≤ ch ∧ ch ≤ 16) ∧ (1 ≤ W ∧ W ≤ 1048576) ∧ (1 ≤ cap ∧ cap ≤ 64)) : Calls Try.prog 17 #[cfgV 9 agg W k cap p ch mx] w (RngEnd b w) := by
  by_cases h0 : (1 ≤ ch ∧ ch ≤ 16)
  rotate_left
  · obtain rfl : b = false := Bool.eq_false_iff.2 (fun c => h0 (hb.1 c).1)
    by_cases s : ch < 1
    · exact ranges_9_0a agg W k cap p ch mx w  h0 s
    · exact ranges_9_0b agg W k cap p ch mx w  h0 (by omega)
  by_cases h1 : (1 ≤ W ∧ W ≤ 1048576)
  rotate_left
  · obtain rfl : b = false := Bool.eq_false_iff.2 (fun c => h1 (hb.1 c).2.1)
    by_cases s : W < 1
    · exact ranges_9_1a agg W k cap p ch mx w h0 h1 s
    · exact ranges_9_1b agg W k cap p ch mx w h0 h1 (by omega)
  by_cases h2 : (1 ≤ cap ∧ cap ≤ 64)
  rotate_left
  · obtain rfl : b = false := Bool.eq_false_iff.2 (fun c => h2 (hb.1 c).2.2)
    by_cases s : cap < 1
    · exact ranges_9_2a agg W k cap p ch mx w h0 h1 h2 s
    · exact ranges_9_2b agg W k cap p ch mx w h0 h1 h2 (by omega)
  obtain rfl : b = true := hb.2 ⟨h0, h1, h2⟩
  exact ranges_9_p agg W k cap p ch mx w h0 h1 h2
set_option maxRecDepth 100000 in
theorem ranges_10_0 (agg W k cap p ch mx : Int) (w : World)  (h0 : ¬ (1 ≤ k ∧ k ≤ 64)) : Calls Try.prog 17 #[cfgV 10 agg W k cap p ch mx] w (RngEnd false w) := by
  have C26 := hide (fun w0 => may_any W cap w0)
  have C27 := hide (fun w0 => mayK11_any k w0)
  have C28 := hide (fun w0 => mayAgg_any agg w0)
  unfold BoolEnd at C26 C27 C28
  rw [decide_eq_false h0] at C27
  generalize decide ((1 ≤ W ∧ W ≤ 1048576) ∧ 1 ≤ cap ∧ cap ≤ 65536) = r26 at *
  clear h0
  unfold cfgV
  go_enter Try.func17, Try.ntmps17
  go_wp2_with (first | (go_at_call 26; refine (C26.out _).mono ?_; rintro e w1 ⟨rfl, rfl⟩) | (go_at_call 27; refine (C27.out _).mono ?_; rintro e w1 ⟨rfl, rfl⟩) | (go_at_call 28; refine (C28.out _).mono ?_; rintro e w1 ⟨rfl, rfl⟩))
  all_goals
    go_ret
    refine ⟨rfl, ?_⟩
    repeat (first | exact Below.refl _ _ | refine Bl.alloc' ?_ _)
set_option maxRecDepth 100000 in
theorem ranges_10_1a (agg W k cap p ch mx : Int) (w : World) (h0 : (1 ≤ k ∧ k ≤ 64)) (h1 : ¬ (2 ≤ cap ∧ cap ≤ 65536)) (s1 : cap < 2) : Calls Try.prog 17 #[cfgV 10 agg W k cap p ch mx] w (RngEnd false w) := by
  have C26 := hide (fun w0 => may_any W cap w0)
  have C27 := hide (fun w0 => mayK11_any k w0)
  have C28 := hide (fun w0 => mayAgg_any agg w0)
  unfold BoolEnd at C26 C27 C28
  rw [decide_eq_true h0] at C27
  have a1 : decide (2 ≤ cap) = false := by simp; omega
  generalize decide ((1 ≤ W ∧ W ≤ 1048576) ∧ 1 ≤ cap ∧ cap ≤ 65536) = r26 at *
  clear h0 h1 s1
  unfold cfgV
  go_enter Try.func17, Try.ntmps17
  go_wp2_with (first | (go_at_call 26; refine (C26.out _).mono ?_; rintro e w1 ⟨rfl, rfl⟩) | (go_at_call 27; refine (C27.out _).mono ?_; rintro e w1 ⟨rfl, rfl⟩) | (go_at_call 28; refine (C28.out _).mono ?_; rintro e w1 ⟨rfl, rfl⟩))
  all_goals
    go_ret
    refine ⟨rfl, ?_⟩
    repeat (first | exact Below.refl _ _ | refine Bl.alloc' ?_ _)
set_option maxRecDepth 100000 in
theorem ranges_10_1b (agg W k cap p ch mx : Int) (w : World) (h0 : (1 ≤ k ∧ k ≤ 64)) (h1 : ¬ (2 ≤ cap ∧ cap ≤ 65536)) (s1 : 65536 < cap) : Calls Try.prog 17 #[cfgV 10 agg W k cap p ch mx] w (RngEnd false w) := by
  have C26 := hide (fun w0 => may_any W cap w0)
  have C27 := hide (fun w0 => mayK11_any k w0)
  have C28 := hide (fun w0 => mayAgg_any agg w0)
  unfold BoolEnd at C26 C27 C28
  rw [decide_eq_true h0] at C27
  have a1 : decide (2 ≤ cap) = true := by simp; omega
  have b1 : decide (cap ≤ 65536) = false := by simp; omega
  generalize decide ((1 ≤ W ∧ W ≤ 1048576) ∧ 1 ≤ cap ∧ cap ≤ 65536) = r26 at *
  clear h0 h1 s1
  unfold cfgV
  go_enter Try.func17, Try.ntmps17
  go_wp2_with (first | (go_at_call 26; refine (C26.out _).mono ?_; rintro e w1 ⟨rfl, rfl⟩) | (go_at_call 27; refine (C27.out _).mono ?_; rintro e w1 ⟨rfl, rfl⟩) | (go_at_call 28; refine (C28.out _).mono ?_; rintro e w1 ⟨rfl, rfl⟩))
  all_goals
    go_ret
    refine ⟨rfl, ?_⟩
    repeat (first | exact Below.refl _ _ | refine Bl.alloc' ?_ _)
set_option maxRecDepth 100000 in
theorem ranges_10_p (agg W k cap p ch mx : Int) (w : World) (h0 : (1 ≤ k ∧ k ≤ 64)) (h1 : (2 ≤ cap ∧ cap ≤ 65536)) : Calls Try.prog 17 #[cfgV 10 agg W k cap p ch mx] w (RngEnd true w) := by
  have C26 := hide (fun w0 => may_any W cap w0)
  have C27 := hide (fun w0 => mayK11_any k w0)
  have C28 := hide (fun w0 => mayAgg_any agg w0)
  unfold BoolEnd at C26 C27 C28
  rw [decide_eq_true h0] at C27
  have a1 : decide (2 ≤ cap) = true := by simp; omega
  have b1 : decide (cap ≤ 65536) = true := by simp; omega
  generalize decide ((1 ≤ W ∧ W ≤ 1048576) ∧ 1 ≤ cap ∧ cap ≤ 65536) = r26 at *
  clear h0 h1
  unfold cfgV
  go_enter Try.func17, Try.ntmps17
  go_wp2_with (first | (go_at_call 26; refine (C26.out _).mono ?_; rintro e w1 ⟨rfl, rfl⟩) | (go_at_call 27; refine (C27.out _).mono ?_; rintro e w1 ⟨rfl, rfl⟩) | (go_at_call 28; refine (C28.out _).mono ?_; rintro e w1 ⟨rfl, rfl⟩))
  all_goals
    go_ret
    refine ⟨rfl, ?_⟩
    repeat (first | exact Below.refl _ _ | refine Bl.alloc' ?_ _)
theorem ranges_10 (agg W k cap p ch mx : Int) (w : World) (b : Bool) (hb : b = true ↔ (1 ≤ k ∧ k ≤ 64) ∧ (2 ≤ cap ∧ cap ≤ 65536)) : Calls Try.prog 17 #[cfgV 10 agg W k cap p ch mx] w (RngEnd b w) := by
  by_cases h0 : (1 ≤ k ∧ k ≤ 64)
  rotate_left
  · obtain rfl : b = false := Bool.eq_false_iff.2 (fun c => h0 (hb.1 c).1)
    exact ranges_10_0 agg W k cap p ch mx w  h0
  by_cases h1 : (2 ≤ cap ∧ cap ≤ 65536)
  rotate_left
  · obtain rfl : b = false := Bool.eq_false_iff.2 (fun c => h1 (hb.1 c).2)
    by_cases s : cap < 2
    · exact ranges_10_1a agg W k cap p ch mx w h0 h1 s
    · exact ranges_10_1b agg W k cap p ch mx w h0 h1 (by omega)
  obtain rfl : b = true := hb.2 ⟨h0, h1⟩
  exact ranges_10_p agg W k cap p ch mx w h0 h1
set_option maxRecDepth 100000 in
theorem ranges_11_0 (agg W k cap p ch mx : Int) (w : World)  (h0 : ¬ ((1 ≤ W ∧ W ≤ 1048576) ∧ 1 ≤ cap ∧ cap ≤ 65536)) : Calls Try.prog 17 #[cfgV 11 agg W k cap p ch mx] w (RngEnd false w) := by
  have C26 := hide (fun w0 => may_any W cap w0)
  have C27 := hide (fun w0 => mayK11_any k w0)
  have C28 := hide (fun w0 => mayAgg_any agg w0)
  unfold BoolEnd at C26 C27 C28
  rw [decide_eq_false h0] at C26
  clear h0
  unfold cfgV
  go_enter Try.func17, Try.ntmps17
  go_wp2_with (first | (go_at_call 26; refine (C26.out _).mono ?_; rintro e w1 ⟨rfl, rfl⟩) | (go_at_call 27; refine (C27.out _).mono ?_; rintro e w1 ⟨rfl, rfl⟩) | (go_at_call 28; refine (C28.out _).mono ?_; rintro e w1 ⟨rfl, rfl⟩))
  all_goals
    go_ret
    refine ⟨rfl, ?_⟩
    repeat (first | exact Below.refl _ _ | refine Bl.alloc' ?_ _)
set_option maxRecDepth 100000 in
theorem ranges_11_1 (agg W k cap p ch mx : Int) (w : World) (h0 : ((1 ≤ W ∧ W ≤ 1048576) ∧ 1 ≤ cap ∧ cap ≤ 65536)) (h1 : ¬ (1 ≤ k ∧ k ≤ 64)) : Calls Try.prog 17 #[cfgV 11 agg W k cap p ch mx] w (RngEnd false w) := by
  have C26 := hide (fun w0 => may_any W cap w0)
  have C27 := hide (fun w0 => mayK11_any k w0)
  have C28 := hide (fun w0 => mayAgg_any agg w0)
  unfold BoolEnd at C26 C27 C28
  rw [decide_eq_true h0] at C26
  rw [decide_eq_false h1] at C27
  clear h0 h1
  unfold cfgV
  go_enter Try.func17, Try.ntmps17
  go_wp2_with (first | (go_at_call 26; refine (C26.out _).mono ?_; rintro e w1 ⟨rfl, rfl⟩) | (go_at_call 27; refine (C27.out _).mono ?_; rintro e w1 ⟨rfl, rfl⟩) | (go_at_call 28; refine (C28.out _).mono ?_; rintro e w1 ⟨rfl, rfl⟩))
  all_goals
    go_ret
    refine ⟨rfl, ?_⟩
    repeat (first | exact Below.refl _ _ | refine Bl.alloc' ?_ _)
set_option maxRecDepth 100000 in
theorem ranges_11_p (agg W k cap p ch mx : Int) (w : World) (h0 : ((1 ≤ W ∧ W ≤ 1048576) ∧ 1 ≤ cap ∧ cap ≤ 65536)) (h1 : (1 ≤ k ∧ k ≤ 64)) : Calls Try.prog 17 #[cfgV 11 agg W k cap p ch mx] w (RngEnd true w) := by
  have C26 := hide (fun w0 => may_any W cap w0)
  have C27 := hide (fun w0 => mayK11_any k w0)
  have C28 := hide (fun w0 => mayAgg_any agg w0)
  unfold BoolEnd at C26 C27 C28
  rw [decide_eq_true h0] at C26
  rw [decide_eq_true h1] at C27
  clear h0 h1
  unfold cfgV
  go_enter Try.func17, Try.ntmps17
  go_wp2_with (first | (go_at_call 26; refine (C26.out _).mono ?_; rintro e w1 ⟨rfl, rfl⟩) | (go_at_call 27; refine (C27.out _).mono ?_; rintro e w1 ⟨rfl, rfl⟩) | (go_at_call 28; refine (C28.out _).mono ?_; rintro e w1 ⟨rfl, rfl⟩))
  all_goals
    go_ret
    refine ⟨rfl, ?_⟩
    repeat (first | exact Below.refl _ _ | refine Bl.alloc' ?_ _)
theorem ranges_11 (agg W k cap p ch mx : Int) (w : World) (b : Bool) (hb : b = true ↔ ((1 ≤ W ∧ W ≤ 1048576) ∧ 1 ≤ cap ∧ cap ≤ 65536) ∧ (1 ≤ k ∧ k ≤ 64)) : Calls Try.prog 17 #[cfgV 11 agg W k cap p ch mx] w (RngEnd b w) := by
  by_cases h0 : ((1 ≤ W ∧ W ≤ 1048576) ∧ 1 ≤ cap ∧ cap ≤ 65536)
  rotate_left
  · obtain rfl : b = false := Bool.eq_false_iff.2 (fun c => h0 (hb.1 c).1)
    exact ranges_11_0 agg W k cap p ch mx w  h0
  by_cases h1 : (1 ≤ k ∧ k ≤ 64)
  rotate_left
  · obtain rfl : b = false := Bool.eq_false_iff.2 (fun c => h1 (hb.1 c).2)
    exact ranges_11_1 agg W k cap p ch mx w h0 h1
  obtain rfl : b = true := hb.2 ⟨h0, h1⟩
  exact ranges_11_p agg W k cap p ch mx w h0 h1
end Go.Proofs.Ytmlddoajfgmoaaa
