/- What the sign of life reaches: small functions at given numbers. -/
import Derived.Test.YtbageimconenlaaGreatCa
namespace Go.Proofs.YtbageimconenlaaGreat
open Go.RowKit
set_option linter.unusedVariables false
set_option linter.unusedSimpArgs false
theorem Blk.castA {w : World} {g : Nat} {t : TypeId} {C C' : Array Value} (h : Blk w g t C) (e : C = C') : Blk w g t C' := e ▸ h
section
variable {P : Program}
theorem run_loadB {T t : TypeId} {d : TypeDesc} {C : Array Value} {w : World} {g : Nat} (hB : Blk w g t C) (hu : P.underlying T = some d) (hd : d.isRow = true) (hi : (P.info? T).map (·.size) = some C.size) : (loadVar T ⟨g, 0, none⟩).run P w = .ok (.agg C) w := by
  have h := run_loadVar_mid w g 0 T C.toList d (fun j v hv => by rw [Nat.zero_add]; exact hB.cell j |>.trans (by simpa using hv)) hu hd (by simpa using hi)
  rwa [Array.toArray_toList] at h
theorem resB1 {fn : Func} {p : Tmp} {T t : TypeId} (h : fn.results = #[.cell p T]) (tmps : Array Value) {w : World} {g : Nat} {C : Array Value} {d : TypeDesc} (hp : tmps.getD p undef = .pointer (some ⟨g, 0, none⟩)) (hB : Blk w g t C) (hu : P.underlying T = some d) (hd : d.isRow = true) (hi : (P.info? T).map (·.size) = some C.size) : (results fn tmps).run P w = .ok (.agg C) w := by
  have hp' : tmps[p]?.getD undef = .pointer (some ⟨g, 0, none⟩) := by simpa using hp
  simp [results, h, hp', asAddr, run_loadB hB hu hd hi]
theorem resB2 {fn : Func} {p q : Tmp} {T t : TypeId} (h : fn.results = #[.cell p T, .tmp q]) (tmps : Array Value) {w : World} {g : Nat} {C : Array Value} {d : TypeDesc} (hp : tmps.getD p undef = .pointer (some ⟨g, 0, none⟩)) (hB : Blk w g t C) (hu : P.underlying T = some d) (hd : d.isRow = true) (hi : (P.info? T).map (·.size) = some C.size) : (results fn tmps).run P w = .ok (.tuple #[.agg C, tmps.getD q undef]) w := by
  have hp' : tmps[p]?.getD undef = .pointer (some ⟨g, 0, none⟩) := by simpa using hp
  simp [results, h, hp', asAddr, run_loadB hB hu hd hi]
theorem resB2' {fn : Func} {p q : Tmp} {T t : TypeId} (h : fn.results = #[.tmp q, .cell p T]) (tmps : Array Value) {w : World} {g : Nat} {C : Array Value} {d : TypeDesc} (hp : tmps.getD p undef = .pointer (some ⟨g, 0, none⟩)) (hB : Blk w g t C) (hu : P.underlying T = some d) (hd : d.isRow = true) (hi : (P.info? T).map (·.size) = some C.size) : (results fn tmps).run P w = .ok (.tuple #[tmps.getD q undef, .agg C]) w := by
  have hp' : tmps[p]?.getD undef = .pointer (some ⟨g, 0, none⟩) := by simpa using hp
  simp [results, h, hp', asAddr, run_loadB hB hu hd hi]
theorem resB3 {fn : Func} {p p2 q : Tmp} {T T2 t t2 : TypeId} (h : fn.results = #[.cell p T, .cell p2 T2, .tmp q]) (tmps : Array Value) {w : World} {g g2 : Nat} {C C2 : Array Value} {d d2 : TypeDesc} (hp : tmps.getD p undef = .pointer (some ⟨g, 0, none⟩)) (hB : Blk w g t C) (hu : P.underlying T = some d) (hd : d.isRow = true) (hi : (P.info? T).map (·.size) = some C.size) (hp2 : tmps.getD p2 undef = .pointer (some ⟨g2, 0, none⟩)) (hB2 : Blk w g2 t2 C2) (hu2 : P.underlying T2 = some d2) (hd2 : d2.isRow = true) (hi2 : (P.info? T2).map (·.size) = some C2.size) : (results fn tmps).run P w = .ok (.tuple #[.agg C, .agg C2, tmps.getD q undef]) w := by
  have hp' : tmps[p]?.getD undef = .pointer (some ⟨g, 0, none⟩) := by simpa using hp
  have hp2' : tmps[p2]?.getD undef = .pointer (some ⟨g2, 0, none⟩) := by simpa using hp2
  simp [results, h, hp', hp2', asAddr, run_loadB hB hu hd hi, run_loadB hB2 hu2 hd2 hi2]
end
theorem size68 : (Tryz.prog.info? 68).map (·.size) = some 2 := by kernel_rfl
theorem size70 : (Tryz.prog.info? 70).map (·.size) = some 6 := by kernel_rfl
theorem size73 : (Tryz.prog.info? 73).map (·.size) = some 2 := by kernel_rfl
set_option maxRecDepth 100000 in
theorem aw_of (x : Int) (w : World) : Calls Tryz.prog 67 #[.int .i64 x] w (RetB (.agg #[.int .i64 x, .int .i64 1]) w) := by
  unfold RetB
  go_enter Tryz.func67, Tryz.ntmps67
  go_wp2
  refine bodyPost_ret (resB1 (t := 68) (C := #[.int .i64 x, .int .i64 1]) rfl _ rfl (by refine Blk.castA (C := ?c) ?h ?e; rotate_left; (· (repeat (first | with_reducible exact Blk.new _ _ _ | (with_reducible refine Blk.new_at ?_ _ _; (simp; done)) | with_reducible refine Blk.alloc ?_ _ | with_reducible refine Blk.drew ?_ | with_reducible refine Blk.set_ ?_ _ _ | with_reducible refine Blk.far ?_ (by simp; try omega) _))); (· rfl)) Tryz.underlying68 rfl size68) rfl ?_
  exact ⟨by rfl, by (repeat (first | with_reducible exact Below.refl _ _ | with_reducible refine Bl.alloc' ?_ _ | with_reducible refine Below.drew ?_ | with_reducible refine Bl.set' ?_ (by simp; try omega) _))⟩
set_option maxRecDepth 100000 in
theorem aw_wof (x : Int) (w : World) : Calls Tryz.prog 118 #[.int .u64 x] w (RetB (.agg #[.int .u64 0, .int .u64 x]) w) := by
  unfold RetB
  go_enter Tryz.func118, Tryz.ntmps118
  go_wp2
  refine bodyPost_ret (resB1 (t := 73) (C := #[.int .u64 0, .int .u64 x]) rfl _ rfl (by refine Blk.castA (C := ?c) ?h ?e; rotate_left; (· (repeat (first | with_reducible exact Blk.new _ _ _ | (with_reducible refine Blk.new_at ?_ _ _; (simp; done)) | with_reducible refine Blk.alloc ?_ _ | with_reducible refine Blk.drew ?_ | with_reducible refine Blk.set_ ?_ _ _ | with_reducible refine Blk.far ?_ (by simp; try omega) _))); (· rfl)) Tryz.underlying73 rfl size73) rfl ?_
  exact ⟨by rfl, by (repeat (first | with_reducible exact Below.refl _ _ | with_reducible refine Bl.alloc' ?_ _ | with_reducible refine Below.drew ?_ | with_reducible refine Bl.set' ?_ (by simp; try omega) _))⟩
set_option maxRecDepth 100000 in
theorem aw_good (w : World) : Calls Tryz.prog 86 #[.int .i64 5, .int .i64 1, .int .i64 5, .int .i64 0] w (RetB (.bool true) w) := by
  unfold RetB
  go_enter Tryz.func86, Tryz.ntmps86
  go_wp2
  go_ret
  exact ⟨by first | rfl | kernel_rfl, by (repeat (first | with_reducible exact Below.refl _ _ | with_reducible refine Bl.alloc' ?_ _ | with_reducible refine Below.drew ?_ | with_reducible refine Bl.set' ?_ (by simp; try omega) _))⟩
set_option maxRecDepth 100000 in
theorem aw_tick (w : World) : Calls Tryz.prog 211 #[.int .i64 0] w (RetB (.bool true) w) := by
  unfold RetB
  go_enter Tryz.func211, Tryz.ntmps211
  go_wp2
  go_ret
  exact ⟨by first | rfl | kernel_rfl, by (repeat (first | with_reducible exact Below.refl _ _ | with_reducible refine Bl.alloc' ?_ _ | with_reducible refine Below.drew ?_ | with_reducible refine Bl.set' ?_ (by simp; try omega) _))⟩
set_option maxRecDepth 100000 in
theorem aw_level (w : World) : Calls Tryz.prog 175 #[.int .i64 0] w (RetB (.bool true) w) := by
  unfold RetB
  go_enter Tryz.func175, Tryz.ntmps175
  go_wp2
  go_ret
  exact ⟨by first | rfl | kernel_rfl, by (repeat (first | with_reducible exact Below.refl _ _ | with_reducible refine Bl.alloc' ?_ _ | with_reducible refine Below.drew ?_ | with_reducible refine Bl.set' ?_ (by simp; try omega) _))⟩
set_option maxRecDepth 100000 in
theorem aw_live (w : World) : Calls Tryz.prog 138 #[.int .i64 0, .int .i64 5, .int .i64 0] w (RetB (.bool true) w) := by
  unfold RetB
  go_enter Tryz.func138, Tryz.ntmps138
  go_wp2
  go_ret
  exact ⟨by first | rfl | kernel_rfl, by (repeat (first | with_reducible exact Below.refl _ _ | with_reducible refine Bl.alloc' ?_ _ | with_reducible refine Below.drew ?_ | with_reducible refine Bl.set' ?_ (by simp; try omega) _))⟩
set_option maxRecDepth 100000 in
theorem aw_zero0 (w : World) : Calls Tryz.prog 196 #[.agg #[.int .u64 0, .int .u64 0]] w (RetB (.bool true) w) := by
  unfold RetB
  go_enter Tryz.func196, Tryz.ntmps196
  go_wp2
  go_ret
  exact ⟨by first | rfl | kernel_rfl, by (repeat (first | with_reducible exact Below.refl _ _ | with_reducible refine Bl.alloc' ?_ _ | with_reducible refine Below.drew ?_ | with_reducible refine Bl.set' ?_ (by simp; try omega) _))⟩
set_option maxRecDepth 100000 in
theorem aw_zero1 (w : World) : Calls Tryz.prog 196 #[.agg #[.int .u64 0, .int .u64 1]] w (RetB (.bool false) w) := by
  unfold RetB
  go_enter Tryz.func196, Tryz.ntmps196
  go_wp2
  go_ret
  exact ⟨by first | rfl | kernel_rfl, by (repeat (first | with_reducible exact Below.refl _ _ | with_reducible refine Bl.alloc' ?_ _ | with_reducible refine Below.drew ?_ | with_reducible refine Bl.set' ?_ (by simp; try omega) _))⟩
set_option maxRecDepth 100000 in
theorem aw_bits1 (w : World) : Calls Tryz.prog 197 #[.agg #[.int .u64 0, .int .u64 1]] w (RetB (.int .i64 1) w) := by
  unfold RetB
  go_enter Tryz.func197, Tryz.ntmps197
  go_wp2
  go_ret
  exact ⟨by first | rfl | kernel_rfl, by (repeat (first | with_reducible exact Below.refl _ _ | with_reducible refine Bl.alloc' ?_ _ | with_reducible refine Below.drew ?_ | with_reducible refine Bl.set' ?_ (by simp; try omega) _))⟩
set_option maxRecDepth 100000 in
theorem aw_cmp11 (w : World) : Calls Tryz.prog 159 #[.agg #[.int .u64 0, .int .u64 1], .agg #[.int .u64 0, .int .u64 1]] w (RetB (.int .i64 0) w) := by
  unfold RetB
  go_enter Tryz.func159, Tryz.ntmps159
  go_wp2
  go_ret
  exact ⟨by first | rfl | kernel_rfl, by (repeat (first | with_reducible exact Below.refl _ _ | with_reducible refine Bl.alloc' ?_ _ | with_reducible refine Below.drew ?_ | with_reducible refine Bl.set' ?_ (by simp; try omega) _))⟩
set_option maxRecDepth 100000 in
theorem aw_prod (w : World) : Calls Tryz.prog 180 #[.int .u64 1, .int .u64 1] w (RetB (.agg #[.int .u64 0, .int .u64 1]) w) := by
  unfold RetB
  go_enter Tryz.func180, Tryz.ntmps180
  go_wp2
  refine bodyPost_ret (resB1 (t := 73) (C := #[.int .u64 0, .int .u64 1]) rfl _ rfl (by refine Blk.castA (C := ?c) ?h ?e; rotate_left; (· (repeat (first | with_reducible exact Blk.new _ _ _ | (with_reducible refine Blk.new_at ?_ _ _; (simp; done)) | with_reducible refine Blk.alloc ?_ _ | with_reducible refine Blk.drew ?_ | with_reducible refine Blk.set_ ?_ _ _ | with_reducible refine Blk.far ?_ (by simp; try omega) _))); (· kernel_rfl)) Tryz.underlying73 rfl size73) rfl ?_
  exact ⟨by kernel_rfl, by (repeat (first | with_reducible exact Below.refl _ _ | with_reducible refine Bl.alloc' ?_ _ | with_reducible refine Below.drew ?_ | with_reducible refine Bl.set' ?_ (by simp; try omega) _))⟩
end Go.Proofs.YtbageimconenlaaGreat
