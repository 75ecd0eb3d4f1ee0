/- The reference's test of a configuration of no kind; and of every configuration. -/
import Derived.Test.YtmlddoajfgmoaaaRvJ
namespace Go.Proofs.Ytmlddoajfgmoaaa
open Go.RowKit
set_option linter.unusedVariables false
set_option maxRecDepth 100000 in
set_option maxHeartbeats 1000000 in
theorem rval_other_0 (kind : Int) (agg W k cap p ch mx : Int) (w : World) (h : kind < 1 ∨ 11 < kind) (hz : ¬ agg = 0) : Calls Try.prog 8 #[cfgV kind agg W k cap p ch mx] w (fun e w' => e = .returned (.int .i64 1) ∧ Below w.heap.size w w') := by
  have C12 := hide (fun w0 => plain_other kind agg W k cap p ch mx w0 h)
  have C17 := hide (fun w0 => ranges_other kind agg W k cap p ch mx w0 h)
  unfold PlainEnd cfgV at C12
  unfold RngEnd cfgV at C17
  clear h
  have e1 : (agg == 0) = false := by simpa using hz
  unfold cfgV
  go_enter Try.func8, Try.ntmps8
  go_upto_region 1 with (fail)
  have qR : Blk (w.alloc (.cells #[.int .i64 kind, .int .i64 agg, .int .i64 W, .int .i64 k, .int .i64 cap, .int .i64 p, .int .i64 ch, .int .i64 mx] 23)) w.heap.size 23 #[.int .i64 kind, .int .i64 agg, .int .i64 W, .int .i64 k, .int .i64 cap, .int .i64 p, .int .i64 ch, .int .i64 mx] := Blk.new _ _ _
  have qB : Below w.heap.size w (w.alloc (.cells #[.int .i64 kind, .int .i64 agg, .int .i64 W, .int .i64 k, .int .i64 cap, .int .i64 p, .int .i64 ch, .int .i64 mx] 23)) := Bl.alloc' (Below.refl _ _) _
  generalize (w.alloc (.cells #[.int .i64 kind, .int .i64 agg, .int .i64 W, .int .i64 k, .int .i64 cap, .int .i64 p, .int .i64 ch, .int .i64 mx] 23)) = w1 at *
  have R1 := hide qR
  have B1 := hide qB
  clear qR qB
  obtain ⟨p0, p1, p2, p3, p4, p5, p6, p7⟩ := R1.out.eight
  go_region_with (go_at_call 12; refine (C12.out _).mono ?_; rintro e w2 ⟨rfl, hbx⟩; have hby : Below w1.heap.size w1 w2 := below_undrew hbx; have R2 := hide (R1.out.below hby R1.out.lt); have B2 := hide (Bl.call' B1.out hby); obtain ⟨e0, e1, e2, e3, e4, e5, e6, e7⟩ := R2.out.eight; clear hbx hby)
  all_goals
    go_wp2
    go_ret
    exact ⟨rfl, B2.out⟩
set_option maxRecDepth 100000 in
set_option maxHeartbeats 1000000 in
theorem rval_other_1 (kind : Int) (W k cap p ch mx : Int) (w : World) (h : kind < 1 ∨ 11 < kind) (hz : ¬ W = 0) : Calls Try.prog 8 #[cfgV kind 0 W k cap p ch mx] w (fun e w' => e = .returned (.int .i64 1) ∧ Below w.heap.size w w') := by
  have C12 := hide (fun w0 => plain_other kind 0 W k cap p ch mx w0 h)
  have C17 := hide (fun w0 => ranges_other kind 0 W k cap p ch mx w0 h)
  unfold PlainEnd cfgV at C12
  unfold RngEnd cfgV at C17
  clear h
  have e1 : (W == 0) = false := by simpa using hz
  unfold cfgV
  go_enter Try.func8, Try.ntmps8
  go_upto_region 1 with (fail)
  have qR : Blk (w.alloc (.cells #[.int .i64 kind, .int .i64 0, .int .i64 W, .int .i64 k, .int .i64 cap, .int .i64 p, .int .i64 ch, .int .i64 mx] 23)) w.heap.size 23 #[.int .i64 kind, .int .i64 0, .int .i64 W, .int .i64 k, .int .i64 cap, .int .i64 p, .int .i64 ch, .int .i64 mx] := Blk.new _ _ _
  have qB : Below w.heap.size w (w.alloc (.cells #[.int .i64 kind, .int .i64 0, .int .i64 W, .int .i64 k, .int .i64 cap, .int .i64 p, .int .i64 ch, .int .i64 mx] 23)) := Bl.alloc' (Below.refl _ _) _
  generalize (w.alloc (.cells #[.int .i64 kind, .int .i64 0, .int .i64 W, .int .i64 k, .int .i64 cap, .int .i64 p, .int .i64 ch, .int .i64 mx] 23)) = w1 at *
  have R1 := hide qR
  have B1 := hide qB
  clear qR qB
  obtain ⟨p0, p1, p2, p3, p4, p5, p6, p7⟩ := R1.out.eight
  go_region_with (go_at_call 12; refine (C12.out _).mono ?_; rintro e w2 ⟨rfl, hbx⟩; have hby : Below w1.heap.size w1 w2 := below_undrew hbx; have R2 := hide (R1.out.below hby R1.out.lt); have B2 := hide (Bl.call' B1.out hby); obtain ⟨e0, e1, e2, e3, e4, e5, e6, e7⟩ := R2.out.eight; clear hbx hby)
  all_goals
    go_wp2
    go_ret
    exact ⟨rfl, B2.out⟩
set_option maxRecDepth 100000 in
set_option maxHeartbeats 1000000 in
theorem rval_other_2 (kind : Int) (k cap p ch mx : Int) (w : World) (h : kind < 1 ∨ 11 < kind) (hz : ¬ k = 0) : Calls Try.prog 8 #[cfgV kind 0 0 k cap p ch mx] w (fun e w' => e = .returned (.int .i64 1) ∧ Below w.heap.size w w') := by
  have C12 := hide (fun w0 => plain_other kind 0 0 k cap p ch mx w0 h)
  have C17 := hide (fun w0 => ranges_other kind 0 0 k cap p ch mx w0 h)
  unfold PlainEnd cfgV at C12
  unfold RngEnd cfgV at C17
  clear h
  have e1 : (k == 0) = false := by simpa using hz
  unfold cfgV
  go_enter Try.func8, Try.ntmps8
  go_upto_region 1 with (fail)
  have qR : Blk (w.alloc (.cells #[.int .i64 kind, .int .i64 0, .int .i64 0, .int .i64 k, .int .i64 cap, .int .i64 p, .int .i64 ch, .int .i64 mx] 23)) w.heap.size 23 #[.int .i64 kind, .int .i64 0, .int .i64 0, .int .i64 k, .int .i64 cap, .int .i64 p, .int .i64 ch, .int .i64 mx] := Blk.new _ _ _
  have qB : Below w.heap.size w (w.alloc (.cells #[.int .i64 kind, .int .i64 0, .int .i64 0, .int .i64 k, .int .i64 cap, .int .i64 p, .int .i64 ch, .int .i64 mx] 23)) := Bl.alloc' (Below.refl _ _) _
  generalize (w.alloc (.cells #[.int .i64 kind, .int .i64 0, .int .i64 0, .int .i64 k, .int .i64 cap, .int .i64 p, .int .i64 ch, .int .i64 mx] 23)) = w1 at *
  have R1 := hide qR
  have B1 := hide qB
  clear qR qB
  obtain ⟨p0, p1, p2, p3, p4, p5, p6, p7⟩ := R1.out.eight
  go_region_with (go_at_call 12; refine (C12.out _).mono ?_; rintro e w2 ⟨rfl, hbx⟩; have hby : Below w1.heap.size w1 w2 := below_undrew hbx; have R2 := hide (R1.out.below hby R1.out.lt); have B2 := hide (Bl.call' B1.out hby); obtain ⟨e0, e1, e2, e3, e4, e5, e6, e7⟩ := R2.out.eight; clear hbx hby)
  all_goals
    go_wp2
    go_ret
    exact ⟨rfl, B2.out⟩
set_option maxRecDepth 100000 in
set_option maxHeartbeats 1000000 in
theorem rval_other_3 (kind : Int) (cap p ch mx : Int) (w : World) (h : kind < 1 ∨ 11 < kind) (hz : ¬ cap = 0) : Calls Try.prog 8 #[cfgV kind 0 0 0 cap p ch mx] w (fun e w' => e = .returned (.int .i64 1) ∧ Below w.heap.size w w') := by
  have C12 := hide (fun w0 => plain_other kind 0 0 0 cap p ch mx w0 h)
  have C17 := hide (fun w0 => ranges_other kind 0 0 0 cap p ch mx w0 h)
  unfold PlainEnd cfgV at C12
  unfold RngEnd cfgV at C17
  clear h
  have e1 : (cap == 0) = false := by simpa using hz
  unfold cfgV
  go_enter Try.func8, Try.ntmps8
  go_upto_region 1 with (fail)
  have qR : Blk (w.alloc (.cells #[.int .i64 kind, .int .i64 0, .int .i64 0, .int .i64 0, .int .i64 cap, .int .i64 p, .int .i64 ch, .int .i64 mx] 23)) w.heap.size 23 #[.int .i64 kind, .int .i64 0, .int .i64 0, .int .i64 0, .int .i64 cap, .int .i64 p, .int .i64 ch, .int .i64 mx] := Blk.new _ _ _
  have qB : Below w.heap.size w (w.alloc (.cells #[.int .i64 kind, .int .i64 0, .int .i64 0, .int .i64 0, .int .i64 cap, .int .i64 p, .int .i64 ch, .int .i64 mx] 23)) := Bl.alloc' (Below.refl _ _) _
  generalize (w.alloc (.cells #[.int .i64 kind, .int .i64 0, .int .i64 0, .int .i64 0, .int .i64 cap, .int .i64 p, .int .i64 ch, .int .i64 mx] 23)) = w1 at *
  have R1 := hide qR
  have B1 := hide qB
  clear qR qB
  obtain ⟨p0, p1, p2, p3, p4, p5, p6, p7⟩ := R1.out.eight
  go_region_with (go_at_call 12; refine (C12.out _).mono ?_; rintro e w2 ⟨rfl, hbx⟩; have hby : Below w1.heap.size w1 w2 := below_undrew hbx; have R2 := hide (R1.out.below hby R1.out.lt); have B2 := hide (Bl.call' B1.out hby); obtain ⟨e0, e1, e2, e3, e4, e5, e6, e7⟩ := R2.out.eight; clear hbx hby)
  all_goals
    go_wp2
    go_ret
    exact ⟨rfl, B2.out⟩
set_option maxRecDepth 100000 in
set_option maxHeartbeats 1000000 in
theorem rval_other_4 (kind : Int) (p ch mx : Int) (w : World) (h : kind < 1 ∨ 11 < kind) (hz : ¬ p = 0) : Calls Try.prog 8 #[cfgV kind 0 0 0 0 p ch mx] w (fun e w' => e = .returned (.int .i64 1) ∧ Below w.heap.size w w') := by
  have C12 := hide (fun w0 => plain_other kind 0 0 0 0 p ch mx w0 h)
  have C17 := hide (fun w0 => ranges_other kind 0 0 0 0 p ch mx w0 h)
  unfold PlainEnd cfgV at C12
  unfold RngEnd cfgV at C17
  clear h
  have e1 : (p == 0) = false := by simpa using hz
  unfold cfgV
  go_enter Try.func8, Try.ntmps8
  go_upto_region 1 with (fail)
  have qR : Blk (w.alloc (.cells #[.int .i64 kind, .int .i64 0, .int .i64 0, .int .i64 0, .int .i64 0, .int .i64 p, .int .i64 ch, .int .i64 mx] 23)) w.heap.size 23 #[.int .i64 kind, .int .i64 0, .int .i64 0, .int .i64 0, .int .i64 0, .int .i64 p, .int .i64 ch, .int .i64 mx] := Blk.new _ _ _
  have qB : Below w.heap.size w (w.alloc (.cells #[.int .i64 kind, .int .i64 0, .int .i64 0, .int .i64 0, .int .i64 0, .int .i64 p, .int .i64 ch, .int .i64 mx] 23)) := Bl.alloc' (Below.refl _ _) _
  generalize (w.alloc (.cells #[.int .i64 kind, .int .i64 0, .int .i64 0, .int .i64 0, .int .i64 0, .int .i64 p, .int .i64 ch, .int .i64 mx] 23)) = w1 at *
  have R1 := hide qR
  have B1 := hide qB
  clear qR qB
  obtain ⟨p0, p1, p2, p3, p4, p5, p6, p7⟩ := R1.out.eight
  go_region_with (go_at_call 12; refine (C12.out _).mono ?_; rintro e w2 ⟨rfl, hbx⟩; have hby : Below w1.heap.size w1 w2 := below_undrew hbx; have R2 := hide (R1.out.below hby R1.out.lt); have B2 := hide (Bl.call' B1.out hby); obtain ⟨e0, e1, e2, e3, e4, e5, e6, e7⟩ := R2.out.eight; clear hbx hby)
  all_goals
    go_wp2
    go_ret
    exact ⟨rfl, B2.out⟩
set_option maxRecDepth 100000 in
set_option maxHeartbeats 1000000 in
theorem rval_other_5 (kind : Int) (ch mx : Int) (w : World) (h : kind < 1 ∨ 11 < kind) (hz : ¬ ch = 0) : Calls Try.prog 8 #[cfgV kind 0 0 0 0 0 ch mx] w (fun e w' => e = .returned (.int .i64 1) ∧ Below w.heap.size w w') := by
  have C12 := hide (fun w0 => plain_other kind 0 0 0 0 0 ch mx w0 h)
  have C17 := hide (fun w0 => ranges_other kind 0 0 0 0 0 ch mx w0 h)
  unfold PlainEnd cfgV at C12
  unfold RngEnd cfgV at C17
  clear h
  have e1 : (ch == 0) = false := by simpa using hz
  unfold cfgV
  go_enter Try.func8, Try.ntmps8
  go_upto_region 1 with (fail)
  have qR : Blk (w.alloc (.cells #[.int .i64 kind, .int .i64 0, .int .i64 0, .int .i64 0, .int .i64 0, .int .i64 0, .int .i64 ch, .int .i64 mx] 23)) w.heap.size 23 #[.int .i64 kind, .int .i64 0, .int .i64 0, .int .i64 0, .int .i64 0, .int .i64 0, .int .i64 ch, .int .i64 mx] := Blk.new _ _ _
  have qB : Below w.heap.size w (w.alloc (.cells #[.int .i64 kind, .int .i64 0, .int .i64 0, .int .i64 0, .int .i64 0, .int .i64 0, .int .i64 ch, .int .i64 mx] 23)) := Bl.alloc' (Below.refl _ _) _
  generalize (w.alloc (.cells #[.int .i64 kind, .int .i64 0, .int .i64 0, .int .i64 0, .int .i64 0, .int .i64 0, .int .i64 ch, .int .i64 mx] 23)) = w1 at *
  have R1 := hide qR
  have B1 := hide qB
  clear qR qB
  obtain ⟨p0, p1, p2, p3, p4, p5, p6, p7⟩ := R1.out.eight
  go_region_with (go_at_call 12; refine (C12.out _).mono ?_; rintro e w2 ⟨rfl, hbx⟩; have hby : Below w1.heap.size w1 w2 := below_undrew hbx; have R2 := hide (R1.out.below hby R1.out.lt); have B2 := hide (Bl.call' B1.out hby); obtain ⟨e0, e1, e2, e3, e4, e5, e6, e7⟩ := R2.out.eight; clear hbx hby)
  all_goals
    go_wp2
    go_ret
    exact ⟨rfl, B2.out⟩
set_option maxRecDepth 100000 in
set_option maxHeartbeats 1000000 in
theorem rval_other_6 (kind : Int) (mx : Int) (w : World) (h : kind < 1 ∨ 11 < kind) (hz : ¬ mx = 0) : Calls Try.prog 8 #[cfgV kind 0 0 0 0 0 0 mx] w (fun e w' => e = .returned (.int .i64 1) ∧ Below w.heap.size w w') := by
  have C12 := hide (fun w0 => plain_other kind 0 0 0 0 0 0 mx w0 h)
  have C17 := hide (fun w0 => ranges_other kind 0 0 0 0 0 0 mx w0 h)
  unfold PlainEnd cfgV at C12
  unfold RngEnd cfgV at C17
  clear h
  have e1 : (mx == 0) = false := by simpa using hz
  unfold cfgV
  go_enter Try.func8, Try.ntmps8
  go_upto_region 1 with (fail)
  have qR : Blk (w.alloc (.cells #[.int .i64 kind, .int .i64 0, .int .i64 0, .int .i64 0, .int .i64 0, .int .i64 0, .int .i64 0, .int .i64 mx] 23)) w.heap.size 23 #[.int .i64 kind, .int .i64 0, .int .i64 0, .int .i64 0, .int .i64 0, .int .i64 0, .int .i64 0, .int .i64 mx] := Blk.new _ _ _
  have qB : Below w.heap.size w (w.alloc (.cells #[.int .i64 kind, .int .i64 0, .int .i64 0, .int .i64 0, .int .i64 0, .int .i64 0, .int .i64 0, .int .i64 mx] 23)) := Bl.alloc' (Below.refl _ _) _
  generalize (w.alloc (.cells #[.int .i64 kind, .int .i64 0, .int .i64 0, .int .i64 0, .int .i64 0, .int .i64 0, .int .i64 0, .int .i64 mx] 23)) = w1 at *
  have R1 := hide qR
  have B1 := hide qB
  clear qR qB
  obtain ⟨p0, p1, p2, p3, p4, p5, p6, p7⟩ := R1.out.eight
  go_region_with (go_at_call 12; refine (C12.out _).mono ?_; rintro e w2 ⟨rfl, hbx⟩; have hby : Below w1.heap.size w1 w2 := below_undrew hbx; have R2 := hide (R1.out.below hby R1.out.lt); have B2 := hide (Bl.call' B1.out hby); obtain ⟨e0, e1, e2, e3, e4, e5, e6, e7⟩ := R2.out.eight; clear hbx hby)
  all_goals
    go_wp2
    go_ret
    exact ⟨rfl, B2.out⟩
set_option maxRecDepth 100000 in
set_option maxHeartbeats 1000000 in
theorem rval_other_7 (kind : Int) (w : World) (h : kind < 1 ∨ 11 < kind) : Calls Try.prog 8 #[cfgV kind 0 0 0 0 0 0 0] w (fun e w' => e = .returned (.int .i64 1) ∧ Below w.heap.size w w') := by
  have C12 := hide (fun w0 => plain_other kind 0 0 0 0 0 0 0 w0 h)
  have C17 := hide (fun w0 => ranges_other kind 0 0 0 0 0 0 0 w0 h)
  unfold PlainEnd cfgV at C12
  unfold RngEnd cfgV at C17
  clear h
  unfold cfgV
  go_enter Try.func8, Try.ntmps8
  go_upto_region 1 with (fail)
  have qR : Blk (w.alloc (.cells #[.int .i64 kind, .int .i64 0, .int .i64 0, .int .i64 0, .int .i64 0, .int .i64 0, .int .i64 0, .int .i64 0] 23)) w.heap.size 23 #[.int .i64 kind, .int .i64 0, .int .i64 0, .int .i64 0, .int .i64 0, .int .i64 0, .int .i64 0, .int .i64 0] := Blk.new _ _ _
  have qB : Below w.heap.size w (w.alloc (.cells #[.int .i64 kind, .int .i64 0, .int .i64 0, .int .i64 0, .int .i64 0, .int .i64 0, .int .i64 0, .int .i64 0] 23)) := Bl.alloc' (Below.refl _ _) _
  generalize (w.alloc (.cells #[.int .i64 kind, .int .i64 0, .int .i64 0, .int .i64 0, .int .i64 0, .int .i64 0, .int .i64 0, .int .i64 0] 23)) = w1 at *
  have R1 := hide qR
  have B1 := hide qB
  clear qR qB
  obtain ⟨p0, p1, p2, p3, p4, p5, p6, p7⟩ := R1.out.eight
  go_region_held3 (fun w' => w'.cell? ⟨w.heap.size, 0, none⟩ = some (.int .i64 kind) ∧ w'.cell? ⟨w.heap.size, 1, none⟩ = some (.int .i64 0) ∧ w'.cell? ⟨w.heap.size, 2, none⟩ = some (.int .i64 0) ∧ w'.cell? ⟨w.heap.size, 3, none⟩ = some (.int .i64 0) ∧ w'.cell? ⟨w.heap.size, 4, none⟩ = some (.int .i64 0) ∧ w'.cell? ⟨w.heap.size, 5, none⟩ = some (.int .i64 0) ∧ w'.cell? ⟨w.heap.size, 6, none⟩ = some (.int .i64 0) ∧ w'.cell? ⟨w.heap.size, 7, none⟩ = some (.int .i64 0)) (first | exact ⟨p0, p1, p2, p3, p4, p5, p6, p7⟩ | exact ⟨e0, e1, e2, e3, e4, e5, e6, e7⟩ | exact ⟨f0, f1, f2, f3, f4, f5, f6, f7⟩) (first | (go_at_call 12; refine (C12.out _).mono ?_; rintro e w2 ⟨rfl, hbx⟩; have hby : Below w1.heap.size w1 w2 := below_undrew hbx; have R2 := hide (R1.out.below hby R1.out.lt); have B2 := hide (Bl.call' B1.out hby); obtain ⟨e0, e1, e2, e3, e4, e5, e6, e7⟩ := R2.out.eight; clear hbx hby) | (go_at_call 17; refine (C17.out _).mono ?_; rintro e w3 ⟨rfl, hbx⟩; have R3 := hide (R2.out.below hbx R2.out.lt); have B3 := hide (Bl.call' B2.out hbx); obtain ⟨f0, f1, f2, f3, f4, f5, f6, f7⟩ := R3.out.eight; clear hbx))
  go_wp2
  go_ret
  exact ⟨rfl, B3.out⟩
theorem rvalidate_other (kind agg W k cap p ch mx : Int) (w : World) (h : kind < 1 ∨ 11 < kind) : Calls Try.prog 8 #[cfgV kind agg W k cap p ch mx] w (ValEnd kind agg W k cap p ch mx w) := by
  by_cases z0 : agg = 0
  rotate_left
  · refine (rval_other_0 kind agg W k cap p ch mx w h z0).mono ?_
    rintro e w1 ⟨rfl, hb⟩
    exact ⟨by rw [vC_no _ _ _ _ _ _ _ _ h], hb⟩
  subst z0
  by_cases z1 : W = 0
  rotate_left
  · refine (rval_other_1 kind W k cap p ch mx w h z1).mono ?_
    rintro e w1 ⟨rfl, hb⟩
    exact ⟨by rw [vC_no _ _ _ _ _ _ _ _ h], hb⟩
  subst z1
  by_cases z2 : k = 0
  rotate_left
  · refine (rval_other_2 kind k cap p ch mx w h z2).mono ?_
    rintro e w1 ⟨rfl, hb⟩
    exact ⟨by rw [vC_no _ _ _ _ _ _ _ _ h], hb⟩
  subst z2
  by_cases z3 : cap = 0
  rotate_left
  · refine (rval_other_3 kind cap p ch mx w h z3).mono ?_
    rintro e w1 ⟨rfl, hb⟩
    exact ⟨by rw [vC_no _ _ _ _ _ _ _ _ h], hb⟩
  subst z3
  by_cases z4 : p = 0
  rotate_left
  · refine (rval_other_4 kind p ch mx w h z4).mono ?_
    rintro e w1 ⟨rfl, hb⟩
    exact ⟨by rw [vC_no _ _ _ _ _ _ _ _ h], hb⟩
  subst z4
  by_cases z5 : ch = 0
  rotate_left
  · refine (rval_other_5 kind ch mx w h z5).mono ?_
    rintro e w1 ⟨rfl, hb⟩
    exact ⟨by rw [vC_no _ _ _ _ _ _ _ _ h], hb⟩
  subst z5
  by_cases z6 : mx = 0
  rotate_left
  · refine (rval_other_6 kind mx w h z6).mono ?_
    rintro e w1 ⟨rfl, hb⟩
    exact ⟨by rw [vC_no _ _ _ _ _ _ _ _ h], hb⟩
  subst z6
  refine (rval_other_7 kind w h).mono ?_
  rintro e w1 ⟨rfl, hb⟩
  exact ⟨by rw [vC_no _ _ _ _ _ _ _ _ h], hb⟩
theorem rvalidate_any (kind agg W k cap p ch mx : Int) (w : World) : Calls Try.prog 8 #[cfgV kind agg W k cap p ch mx] w (ValEnd kind agg W k cap p ch mx w) := by
  by_cases h : kind < 1 ∨ 11 < kind
  · exact rvalidate_other kind agg W k cap p ch mx w h
  · rcases (show kind = 1 ∨ kind = 2 ∨ kind = 3 ∨ kind = 4 ∨ kind = 5 ∨ kind = 6 ∨ kind = 7 ∨ kind = 8 ∨ kind = 9 ∨ kind = 10 ∨ kind = 11 by omega) with rfl | rfl | rfl | rfl | rfl | rfl | rfl | rfl | rfl | rfl | rfl
    · exact rvalidate_1 agg W k cap p ch mx w
    · exact rvalidate_2 agg W k cap p ch mx w
    · exact rvalidate_3 agg W k cap p ch mx w
    · exact rvalidate_4 agg W k cap p ch mx w
    · exact rvalidate_5 agg W k cap p ch mx w
    · exact rvalidate_6 agg W k cap p ch mx w
    · exact rvalidate_7 agg W k cap p ch mx w
    · exact rvalidate_8 agg W k cap p ch mx w
    · exact rvalidate_9 agg W k cap p ch mx w
    · exact rvalidate_10 agg W k cap p ch mx w
    · exact rvalidate_11 agg W k cap p ch mx w
end Go.Proofs.Ytmlddoajfgmoaaa
