/- A kind that is none: Plain and ranges. -/
import Derived.Test.YtmlddoajfgmoaaaRv0
namespace Go.Proofs.Ytmlddoajfgmoaaa
open Go.RowKit
set_option linter.unusedVariables false
set_option maxRecDepth 100000 in
set_option maxHeartbeats 1000000 in
theorem plain_other (kind agg W k cap p ch mx : Int) (w : World) (h : kind < 1 ∨ 11 < kind) : Calls Try.prog 12 #[cfgV kind agg W k cap p ch mx] w (PlainEnd (cfgV kind 0 0 0 0 0 0 0) w) := by
  have e1 : (kind == 1) = false := by simp; omega
  have e2 : (kind == 2) = false := by simp; omega
  have e3 : (kind == 3) = false := by simp; omega
  have e4 : (kind == 4) = false := by simp; omega
  have e5 : (kind == 5) = false := by simp; omega
  have e6 : (kind == 6) = false := by simp; omega
  have e7 : (kind == 7) = false := by simp; omega
  have e8 : (kind == 8) = false := by simp; omega
  have e9 : (kind == 9) = false := by simp; omega
  have e10 : (kind == 10) = false := by simp; omega
  have e11 : (kind == 11) = false := by simp; omega
  clear h
  unfold cfgV
  go_enter Try.func12, Try.ntmps12
  go_wp2
  refine bodyPost_ret (res23 (g := w.heap.size + 1) (t := 23) (a := .int .i64 kind) (b := .int .i64 0) (c := .int .i64 0) (d := .int .i64 0) (e := .int .i64 0) (f := .int .i64 0) (i := .int .i64 0) (j := .int .i64 0) rfl _ rfl ?_) rfl ?_
  rotate_left
  · refine ⟨rfl, ?_⟩
    (repeat (first | exact Below.refl _ _ | with_reducible refine Below.drew ?_ | with_reducible refine Bl.alloc' ?_ _))
  · (repeat (first | with_reducible refine Blk.drew ?_ | ((with_reducible refine Blk.new_at ?_ _ _); simp; done) | with_reducible refine Blk.alloc ?_ _))
set_option maxRecDepth 100000 in
theorem ranges_other (kind agg W k cap p ch mx : Int) (w : World) (h : kind < 1 ∨ 11 < kind) : Calls Try.prog 17 #[cfgV kind agg W k cap p ch mx] w (RngEnd false w) := by
  have e1 : (kind == 1) = false := by simp; omega
  have e2 : (kind == 2) = false := by simp; omega
  have e3 : (kind == 3) = false := by simp; omega
  have e4 : (kind == 4) = false := by simp; omega
  have e5 : (kind == 5) = false := by simp; omega
  have e6 : (kind == 6) = false := by simp; omega
  have e7 : (kind == 7) = false := by simp; omega
  have e8 : (kind == 8) = false := by simp; omega
  have e9 : (kind == 9) = false := by simp; omega
  have e10 : (kind == 10) = false := by simp; omega
  have e11 : (kind == 11) = false := by simp; omega
  have C26 := hide (fun w0 => may_any W cap w0)
  unfold BoolEnd at C26
  generalize decide ((1 ≤ W ∧ W ≤ 1048576) ∧ 1 ≤ cap ∧ cap ≤ 65536) = r26 at *
  clear h
  unfold cfgV
  go_enter Try.func17, Try.ntmps17
  go_wp2_with (go_at_call 26; refine (C26.out _).mono ?_; rintro e w1 ⟨rfl, rfl⟩)
  go_ret
  refine ⟨rfl, ?_⟩
  repeat (first | exact Below.refl _ _ | refine Bl.alloc' ?_ _)
end Go.Proofs.Ytmlddoajfgmoaaa
