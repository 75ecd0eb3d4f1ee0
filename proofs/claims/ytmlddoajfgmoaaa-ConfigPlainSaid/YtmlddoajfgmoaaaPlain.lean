/- A configuration with the fields of its kind alone: the contract. -/
import Derived.Test.YtmlddoajfgmoaaaVal
import Derived.RegionTactic
import Derived.ChangeAlike
import Derived.BigRegion
namespace Go.Proofs.Ytmlddoajfgmoaaa
open Go.RowKit
set_option linter.unusedVariables false
theorem size23 : (Try.prog.info? 23).map (·.size) = some 8 := by kernel_rfl
theorem load23 {w : World} {g : Nat} {t : TypeId} {a b c d e f i j : Value} (h : Blk w g t #[a, b, c, d, e, f, i, j]) : (loadVar 23 ⟨g, 0, none⟩).run Try.prog w = .ok (.agg #[a, b, c, d, e, f, i, j]) w :=
  run_loadVar_row w g t 23 _ (0, 0) _ h Try.underlying23 rfl size23
theorem res23 {fn : Func} {p : Tmp} (h : fn.results = #[.cell p 23]) (tmps : Array Value) {w : World} {g : Nat} {t : TypeId} {a b c d e f i j : Value} (hp : tmps.getD p undef = .pointer (some ⟨g, 0, none⟩)) (hg : Blk w g t #[a, b, c, d, e, f, i, j]) :
    (results fn tmps).run Try.prog w = .ok (.agg #[a, b, c, d, e, f, i, j]) w := by
  have hp' : tmps[p]?.getD undef = .pointer (some ⟨g, 0, none⟩) := by simpa using hp
  simp [results, h, hp', asAddr, load23 hg]
def PlainEnd (v : Value) (w : World) (e : Ending) (w' : World) : Prop := e = .returned v ∧ Below w.heap.size w w'
set_option maxRecDepth 100000 in
set_option maxHeartbeats 1000000 in
theorem plain_1 (agg W k cap p ch mx : Int) (w : World) : Calls Try.prog 12 #[cfgV 1 agg W k cap p ch mx] w (PlainEnd (cfgV 1 0 W 0 cap 0 0 0) w) := by
  unfold cfgV
  go_enter Try.func12, Try.ntmps12
  go_wp2
  go_region
  all_goals go_wp2
  all_goals
    refine bodyPost_ret (res23 (g := w.heap.size + 1) (t := 23) (a := .int .i64 1) (b := .int .i64 0) (c := .int .i64 W) (d := .int .i64 0) (e := .int .i64 cap) (f := .int .i64 0) (i := .int .i64 0) (j := .int .i64 0) rfl _ rfl ?_) rfl ?_
    rotate_left
    · refine ⟨rfl, ?_⟩
      (repeat (first | exact Below.refl _ _ | with_reducible refine Below.drew ?_ | with_reducible refine Bl.alloc' ?_ _))
    · (repeat (first | with_reducible refine Blk.drew ?_ | ((with_reducible refine Blk.new_at ?_ _ _); simp; done) | with_reducible refine Blk.alloc ?_ _))
set_option maxRecDepth 100000 in
set_option maxHeartbeats 1000000 in
theorem plain_2 (agg W k cap p ch mx : Int) (w : World) : Calls Try.prog 12 #[cfgV 2 agg W k cap p ch mx] w (PlainEnd (cfgV 2 0 W k cap 0 0 0) w) := by
  unfold cfgV
  go_enter Try.func12, Try.ntmps12
  go_wp2
  go_region
  all_goals go_wp2
  all_goals
    refine bodyPost_ret (res23 (g := w.heap.size + 1) (t := 23) (a := .int .i64 2) (b := .int .i64 0) (c := .int .i64 W) (d := .int .i64 k) (e := .int .i64 cap) (f := .int .i64 0) (i := .int .i64 0) (j := .int .i64 0) rfl _ rfl ?_) rfl ?_
    rotate_left
    · refine ⟨rfl, ?_⟩
      (repeat (first | exact Below.refl _ _ | with_reducible refine Below.drew ?_ | with_reducible refine Bl.alloc' ?_ _))
    · (repeat (first | with_reducible refine Blk.drew ?_ | ((with_reducible refine Blk.new_at ?_ _ _); simp; done) | with_reducible refine Blk.alloc ?_ _))
set_option maxRecDepth 100000 in
set_option maxHeartbeats 1000000 in
theorem plain_3 (agg W k cap p ch mx : Int) (w : World) : Calls Try.prog 12 #[cfgV 3 agg W k cap p ch mx] w (PlainEnd (cfgV 3 0 W k cap 0 0 mx) w) := by
  unfold cfgV
  go_enter Try.func12, Try.ntmps12
  go_wp2
  go_region
  all_goals go_wp2
  all_goals
    refine bodyPost_ret (res23 (g := w.heap.size + 1) (t := 23) (a := .int .i64 3) (b := .int .i64 0) (c := .int .i64 W) (d := .int .i64 k) (e := .int .i64 cap) (f := .int .i64 0) (i := .int .i64 0) (j := .int .i64 mx) rfl _ rfl ?_) rfl ?_
    rotate_left
    · refine ⟨rfl, ?_⟩
      (repeat (first | exact Below.refl _ _ | with_reducible refine Below.drew ?_ | with_reducible refine Bl.alloc' ?_ _))
    · (repeat (first | with_reducible refine Blk.drew ?_ | ((with_reducible refine Blk.new_at ?_ _ _); simp; done) | with_reducible refine Blk.alloc ?_ _))
set_option maxRecDepth 100000 in
set_option maxHeartbeats 1000000 in
theorem plain_4 (agg W k cap p ch mx : Int) (w : World) : Calls Try.prog 12 #[cfgV 4 agg W k cap p ch mx] w (PlainEnd (cfgV 4 agg W k cap 0 0 0) w) := by
  unfold cfgV
  go_enter Try.func12, Try.ntmps12
  go_wp2
  go_region
  all_goals go_wp2
  all_goals
    refine bodyPost_ret (res23 (g := w.heap.size + 1) (t := 23) (a := .int .i64 4) (b := .int .i64 agg) (c := .int .i64 W) (d := .int .i64 k) (e := .int .i64 cap) (f := .int .i64 0) (i := .int .i64 0) (j := .int .i64 0) rfl _ rfl ?_) rfl ?_
    rotate_left
    · refine ⟨rfl, ?_⟩
      (repeat (first | exact Below.refl _ _ | with_reducible refine Below.drew ?_ | with_reducible refine Bl.alloc' ?_ _))
    · (repeat (first | with_reducible refine Blk.drew ?_ | ((with_reducible refine Blk.new_at ?_ _ _); simp; done) | with_reducible refine Blk.alloc ?_ _))
set_option maxRecDepth 100000 in
set_option maxHeartbeats 1000000 in
theorem plain_5 (agg W k cap p ch mx : Int) (w : World) : Calls Try.prog 12 #[cfgV 5 agg W k cap p ch mx] w (PlainEnd (cfgV 5 0 W k cap 0 0 0) w) := by
  unfold cfgV
  go_enter Try.func12, Try.ntmps12
  go_wp2
  go_region
  all_goals go_wp2
  all_goals
    refine bodyPost_ret (res23 (g := w.heap.size + 1) (t := 23) (a := .int .i64 5) (b := .int .i64 0) (c := .int .i64 W) (d := .int .i64 k) (e := .int .i64 cap) (f := .int .i64 0) (i := .int .i64 0) (j := .int .i64 0) rfl _ rfl ?_) rfl ?_
    rotate_left
    · refine ⟨rfl, ?_⟩
      (repeat (first | exact Below.refl _ _ | with_reducible refine Below.drew ?_ | with_reducible refine Bl.alloc' ?_ _))
    · (repeat (first | with_reducible refine Blk.drew ?_ | ((with_reducible refine Blk.new_at ?_ _ _); simp; done) | with_reducible refine Blk.alloc ?_ _))
set_option maxRecDepth 100000 in
set_option maxHeartbeats 1000000 in
theorem plain_6 (agg W k cap p ch mx : Int) (w : World) : Calls Try.prog 12 #[cfgV 6 agg W k cap p ch mx] w (PlainEnd (cfgV 6 0 0 0 0 p 0 0) w) := by
  unfold cfgV
  go_enter Try.func12, Try.ntmps12
  go_wp2
  all_goals
    refine bodyPost_ret (res23 (g := w.heap.size + 1) (t := 23) (a := .int .i64 6) (b := .int .i64 0) (c := .int .i64 0) (d := .int .i64 0) (e := .int .i64 0) (f := .int .i64 p) (i := .int .i64 0) (j := .int .i64 0) rfl _ rfl ?_) rfl ?_
    rotate_left
    · refine ⟨rfl, ?_⟩
      (repeat (first | exact Below.refl _ _ | with_reducible refine Below.drew ?_ | with_reducible refine Bl.alloc' ?_ _))
    · (repeat (first | with_reducible refine Blk.drew ?_ | ((with_reducible refine Blk.new_at ?_ _ _); simp; done) | with_reducible refine Blk.alloc ?_ _))
set_option maxRecDepth 100000 in
set_option maxHeartbeats 1000000 in
theorem plain_7 (agg W k cap p ch mx : Int) (w : World) : Calls Try.prog 12 #[cfgV 7 agg W k cap p ch mx] w (PlainEnd (cfgV 7 0 W 0 0 0 0 0) w) := by
  unfold cfgV
  go_enter Try.func12, Try.ntmps12
  go_wp2
  all_goals
    refine bodyPost_ret (res23 (g := w.heap.size + 1) (t := 23) (a := .int .i64 7) (b := .int .i64 0) (c := .int .i64 W) (d := .int .i64 0) (e := .int .i64 0) (f := .int .i64 0) (i := .int .i64 0) (j := .int .i64 0) rfl _ rfl ?_) rfl ?_
    rotate_left
    · refine ⟨rfl, ?_⟩
      (repeat (first | exact Below.refl _ _ | with_reducible refine Below.drew ?_ | with_reducible refine Bl.alloc' ?_ _))
    · (repeat (first | with_reducible refine Blk.drew ?_ | ((with_reducible refine Blk.new_at ?_ _ _); simp; done) | with_reducible refine Blk.alloc ?_ _))
set_option maxRecDepth 100000 in
set_option maxHeartbeats 1000000 in
theorem plain_8 (agg W k cap p ch mx : Int) (w : World) : Calls Try.prog 12 #[cfgV 8 agg W k cap p ch mx] w (PlainEnd (cfgV 8 0 W 0 cap 0 0 mx) w) := by
  unfold cfgV
  go_enter Try.func12, Try.ntmps12
  go_wp2
  go_region
  all_goals go_wp2
  all_goals
    refine bodyPost_ret (res23 (g := w.heap.size + 1) (t := 23) (a := .int .i64 8) (b := .int .i64 0) (c := .int .i64 W) (d := .int .i64 0) (e := .int .i64 cap) (f := .int .i64 0) (i := .int .i64 0) (j := .int .i64 mx) rfl _ rfl ?_) rfl ?_
    rotate_left
    · refine ⟨rfl, ?_⟩
      (repeat (first | exact Below.refl _ _ | with_reducible refine Below.drew ?_ | with_reducible refine Bl.alloc' ?_ _))
    · (repeat (first | with_reducible refine Blk.drew ?_ | ((with_reducible refine Blk.new_at ?_ _ _); simp; done) | with_reducible refine Blk.alloc ?_ _))
set_option maxRecDepth 100000 in
set_option maxHeartbeats 1000000 in
theorem plain_9 (agg W k cap p ch mx : Int) (w : World) : Calls Try.prog 12 #[cfgV 9 agg W k cap p ch mx] w (PlainEnd (cfgV 9 0 W 0 cap 0 ch 0) w) := by
  unfold cfgV
  go_enter Try.func12, Try.ntmps12
  go_wp2
  go_region
  all_goals go_wp2
  all_goals
    refine bodyPost_ret (res23 (g := w.heap.size + 1) (t := 23) (a := .int .i64 9) (b := .int .i64 0) (c := .int .i64 W) (d := .int .i64 0) (e := .int .i64 cap) (f := .int .i64 0) (i := .int .i64 ch) (j := .int .i64 0) rfl _ rfl ?_) rfl ?_
    rotate_left
    · refine ⟨rfl, ?_⟩
      (repeat (first | exact Below.refl _ _ | with_reducible refine Below.drew ?_ | with_reducible refine Bl.alloc' ?_ _))
    · (repeat (first | with_reducible refine Blk.drew ?_ | ((with_reducible refine Blk.new_at ?_ _ _); simp; done) | with_reducible refine Blk.alloc ?_ _))
set_option maxRecDepth 100000 in
set_option maxHeartbeats 1000000 in
theorem plain_10 (agg W k cap p ch mx : Int) (w : World) : Calls Try.prog 12 #[cfgV 10 agg W k cap p ch mx] w (PlainEnd (cfgV 10 0 0 k cap 0 0 0) w) := by
  unfold cfgV
  go_enter Try.func12, Try.ntmps12
  go_wp2
  go_region
  all_goals go_wp2
  all_goals
    refine bodyPost_ret (res23 (g := w.heap.size + 1) (t := 23) (a := .int .i64 10) (b := .int .i64 0) (c := .int .i64 0) (d := .int .i64 k) (e := .int .i64 cap) (f := .int .i64 0) (i := .int .i64 0) (j := .int .i64 0) rfl _ rfl ?_) rfl ?_
    rotate_left
    · refine ⟨rfl, ?_⟩
      (repeat (first | exact Below.refl _ _ | with_reducible refine Below.drew ?_ | with_reducible refine Bl.alloc' ?_ _))
    · (repeat (first | with_reducible refine Blk.drew ?_ | ((with_reducible refine Blk.new_at ?_ _ _); simp; done) | with_reducible refine Blk.alloc ?_ _))
set_option maxRecDepth 100000 in
set_option maxHeartbeats 1000000 in
theorem plain_11 (agg W k cap p ch mx : Int) (w : World) : Calls Try.prog 12 #[cfgV 11 agg W k cap p ch mx] w (PlainEnd (cfgV 11 0 W k cap 0 0 0) w) := by
  unfold cfgV
  go_enter Try.func12, Try.ntmps12
  go_wp2
  go_region
  all_goals go_wp2
  all_goals
    refine bodyPost_ret (res23 (g := w.heap.size + 1) (t := 23) (a := .int .i64 11) (b := .int .i64 0) (c := .int .i64 W) (d := .int .i64 k) (e := .int .i64 cap) (f := .int .i64 0) (i := .int .i64 0) (j := .int .i64 0) rfl _ rfl ?_) rfl ?_
    rotate_left
    · refine ⟨rfl, ?_⟩
      (repeat (first | exact Below.refl _ _ | with_reducible refine Below.drew ?_ | with_reducible refine Bl.alloc' ?_ _))
    · (repeat (first | with_reducible refine Blk.drew ?_ | ((with_reducible refine Blk.new_at ?_ _ _); simp; done) | with_reducible refine Blk.alloc ?_ _))
end Go.Proofs.Ytmlddoajfgmoaaa
