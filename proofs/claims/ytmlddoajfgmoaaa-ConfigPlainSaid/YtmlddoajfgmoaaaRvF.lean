/- The reference's test of a configuration, some kinds: the contract. -/
import Derived.Test.YtmlddoajfgmoaaaRv0
namespace Go.Proofs.Ytmlddoajfgmoaaa
open Go.RowKit
set_option linter.unusedVariables false
set_option maxRecDepth 100000 in
set_option maxHeartbeats 1000000 in
theorem rval_2_z0 (agg W k cap p ch mx : Int) (w : World) (hz : ¬ agg = 0) : Calls Try.prog 8 #[cfgV 2 agg W k cap p ch mx] w (fun e w' => e = .returned (.int .i64 1) ∧ Below w.heap.size w w') := by
  have C12 := hide (fun w0 => plain_2 agg W k cap p ch mx w0)
  unfold PlainEnd cfgV at C12
  have e1 : (agg == 0) = false := by simpa using hz
  unfold cfgV
  go_enter Try.func8, Try.ntmps8
  go_upto_region 1 with (fail)
  have qR : Blk (w.alloc (.cells #[.int .i64 2, .int .i64 agg, .int .i64 W, .int .i64 k, .int .i64 cap, .int .i64 p, .int .i64 ch, .int .i64 mx] 23)) w.heap.size 23 #[.int .i64 2, .int .i64 agg, .int .i64 W, .int .i64 k, .int .i64 cap, .int .i64 p, .int .i64 ch, .int .i64 mx] := Blk.new _ _ _
  have qB : Below w.heap.size w (w.alloc (.cells #[.int .i64 2, .int .i64 agg, .int .i64 W, .int .i64 k, .int .i64 cap, .int .i64 p, .int .i64 ch, .int .i64 mx] 23)) := Bl.alloc' (Below.refl _ _) _
  generalize (w.alloc (.cells #[.int .i64 2, .int .i64 agg, .int .i64 W, .int .i64 k, .int .i64 cap, .int .i64 p, .int .i64 ch, .int .i64 mx] 23)) = w1 at *
  have R1 := hide qR
  have B1 := hide qB
  clear qR qB
  obtain ⟨p0, p1, p2, p3, p4, p5, p6, p7⟩ := R1.out.eight
  go_region_with (go_at_call 12; refine (C12.out _).mono ?_; rintro e w2 ⟨rfl, hbx⟩; have hby : Below w1.heap.size w1 w2 := below_undrew hbx; have R2 := hide (R1.out.below hby R1.out.lt); have B2 := hide (Bl.call' B1.out hby); obtain ⟨e0, e1, e2, e3, e4, e5, e6, e7⟩ := R2.out.eight; clear hbx hby)
  all_goals
    go_wp2
    go_ret
    exact ⟨rfl, B2.out⟩
set_option maxRecDepth 100000 in
set_option maxHeartbeats 1000000 in
theorem rval_2_z1 (W k cap p ch mx : Int) (w : World) (hz : ¬ p = 0) : Calls Try.prog 8 #[cfgV 2 0 W k cap p ch mx] w (fun e w' => e = .returned (.int .i64 1) ∧ Below w.heap.size w w') := by
  have C12 := hide (fun w0 => plain_2 0 W k cap p ch mx w0)
  unfold PlainEnd cfgV at C12
  have e1 : (p == 0) = false := by simpa using hz
  unfold cfgV
  go_enter Try.func8, Try.ntmps8
  go_upto_region 1 with (fail)
  have qR : Blk (w.alloc (.cells #[.int .i64 2, .int .i64 0, .int .i64 W, .int .i64 k, .int .i64 cap, .int .i64 p, .int .i64 ch, .int .i64 mx] 23)) w.heap.size 23 #[.int .i64 2, .int .i64 0, .int .i64 W, .int .i64 k, .int .i64 cap, .int .i64 p, .int .i64 ch, .int .i64 mx] := Blk.new _ _ _
  have qB : Below w.heap.size w (w.alloc (.cells #[.int .i64 2, .int .i64 0, .int .i64 W, .int .i64 k, .int .i64 cap, .int .i64 p, .int .i64 ch, .int .i64 mx] 23)) := Bl.alloc' (Below.refl _ _) _
  generalize (w.alloc (.cells #[.int .i64 2, .int .i64 0, .int .i64 W, .int .i64 k, .int .i64 cap, .int .i64 p, .int .i64 ch, .int .i64 mx] 23)) = w1 at *
  have R1 := hide qR
  have B1 := hide qB
  clear qR qB
  obtain ⟨p0, p1, p2, p3, p4, p5, p6, p7⟩ := R1.out.eight
  go_region_with (go_at_call 12; refine (C12.out _).mono ?_; rintro e w2 ⟨rfl, hbx⟩; have hby : Below w1.heap.size w1 w2 := below_undrew hbx; have R2 := hide (R1.out.below hby R1.out.lt); have B2 := hide (Bl.call' B1.out hby); obtain ⟨e0, e1, e2, e3, e4, e5, e6, e7⟩ := R2.out.eight; clear hbx hby)
  all_goals
    go_wp2
    go_ret
    exact ⟨rfl, B2.out⟩
set_option maxRecDepth 100000 in
set_option maxHeartbeats 1000000 in
theorem rval_2_z2 (W k cap ch mx : Int) (w : World) (hz : ¬ ch = 0) : Calls Try.prog 8 #[cfgV 2 0 W k cap 0 ch mx] w (fun e w' => e = .returned (.int .i64 1) ∧ Below w.heap.size w w') := by
  have C12 := hide (fun w0 => plain_2 0 W k cap 0 ch mx w0)
  unfold PlainEnd cfgV at C12
  have e1 : (ch == 0) = false := by simpa using hz
  unfold cfgV
  go_enter Try.func8, Try.ntmps8
  go_upto_region 1 with (fail)
  have qR : Blk (w.alloc (.cells #[.int .i64 2, .int .i64 0, .int .i64 W, .int .i64 k, .int .i64 cap, .int .i64 0, .int .i64 ch, .int .i64 mx] 23)) w.heap.size 23 #[.int .i64 2, .int .i64 0, .int .i64 W, .int .i64 k, .int .i64 cap, .int .i64 0, .int .i64 ch, .int .i64 mx] := Blk.new _ _ _
  have qB : Below w.heap.size w (w.alloc (.cells #[.int .i64 2, .int .i64 0, .int .i64 W, .int .i64 k, .int .i64 cap, .int .i64 0, .int .i64 ch, .int .i64 mx] 23)) := Bl.alloc' (Below.refl _ _) _
  generalize (w.alloc (.cells #[.int .i64 2, .int .i64 0, .int .i64 W, .int .i64 k, .int .i64 cap, .int .i64 0, .int .i64 ch, .int .i64 mx] 23)) = w1 at *
  have R1 := hide qR
  have B1 := hide qB
  clear qR qB
  obtain ⟨p0, p1, p2, p3, p4, p5, p6, p7⟩ := R1.out.eight
  go_region_with (go_at_call 12; refine (C12.out _).mono ?_; rintro e w2 ⟨rfl, hbx⟩; have hby : Below w1.heap.size w1 w2 := below_undrew hbx; have R2 := hide (R1.out.below hby R1.out.lt); have B2 := hide (Bl.call' B1.out hby); obtain ⟨e0, e1, e2, e3, e4, e5, e6, e7⟩ := R2.out.eight; clear hbx hby)
  all_goals
    go_wp2
    go_ret
    exact ⟨rfl, B2.out⟩
set_option maxRecDepth 100000 in
set_option maxHeartbeats 1000000 in
theorem rval_2_z3 (W k cap mx : Int) (w : World) (hz : ¬ mx = 0) : Calls Try.prog 8 #[cfgV 2 0 W k cap 0 0 mx] w (fun e w' => e = .returned (.int .i64 1) ∧ Below w.heap.size w w') := by
  have C12 := hide (fun w0 => plain_2 0 W k cap 0 0 mx w0)
  unfold PlainEnd cfgV at C12
  have e1 : (mx == 0) = false := by simpa using hz
  unfold cfgV
  go_enter Try.func8, Try.ntmps8
  go_upto_region 1 with (fail)
  have qR : Blk (w.alloc (.cells #[.int .i64 2, .int .i64 0, .int .i64 W, .int .i64 k, .int .i64 cap, .int .i64 0, .int .i64 0, .int .i64 mx] 23)) w.heap.size 23 #[.int .i64 2, .int .i64 0, .int .i64 W, .int .i64 k, .int .i64 cap, .int .i64 0, .int .i64 0, .int .i64 mx] := Blk.new _ _ _
  have qB : Below w.heap.size w (w.alloc (.cells #[.int .i64 2, .int .i64 0, .int .i64 W, .int .i64 k, .int .i64 cap, .int .i64 0, .int .i64 0, .int .i64 mx] 23)) := Bl.alloc' (Below.refl _ _) _
  generalize (w.alloc (.cells #[.int .i64 2, .int .i64 0, .int .i64 W, .int .i64 k, .int .i64 cap, .int .i64 0, .int .i64 0, .int .i64 mx] 23)) = w1 at *
  have R1 := hide qR
  have B1 := hide qB
  clear qR qB
  obtain ⟨p0, p1, p2, p3, p4, p5, p6, p7⟩ := R1.out.eight
  go_region_with (go_at_call 12; refine (C12.out _).mono ?_; rintro e w2 ⟨rfl, hbx⟩; have hby : Below w1.heap.size w1 w2 := below_undrew hbx; have R2 := hide (R1.out.below hby R1.out.lt); have B2 := hide (Bl.call' B1.out hby); obtain ⟨e0, e1, e2, e3, e4, e5, e6, e7⟩ := R2.out.eight; clear hbx hby)
  all_goals
    go_wp2
    go_ret
    exact ⟨rfl, B2.out⟩
set_option maxRecDepth 100000 in
set_option maxHeartbeats 1000000 in
theorem rval_2_rb (W k cap : Int) (w : World) (b : Bool) (hb : b = true ↔ ((1 ≤ W ∧ W ≤ 1048576) ∧ 1 ≤ cap ∧ cap ≤ 65536) ∧ (1 ≤ k ∧ k ≤ 64)) : Calls Try.prog 8 #[cfgV 2 0 W k cap 0 0 0] w (fun e w' => e = .returned (.int .i64 (if b then 0 else 1)) ∧ Below w.heap.size w w') := by
  have C12 := hide (fun w0 => plain_2 0 W k cap 0 0 0 w0)
  unfold PlainEnd cfgV at C12
  have C17 := hide (fun w0 => ranges_2 0 W k cap 0 0 0 w0 b hb)
  unfold RngEnd cfgV at C17
  clear hb
  unfold cfgV
  go_enter Try.func8, Try.ntmps8
  go_upto_region 1 with (fail)
  have qR : Blk (w.alloc (.cells #[.int .i64 2, .int .i64 0, .int .i64 W, .int .i64 k, .int .i64 cap, .int .i64 0, .int .i64 0, .int .i64 0] 23)) w.heap.size 23 #[.int .i64 2, .int .i64 0, .int .i64 W, .int .i64 k, .int .i64 cap, .int .i64 0, .int .i64 0, .int .i64 0] := Blk.new _ _ _
  have qB : Below w.heap.size w (w.alloc (.cells #[.int .i64 2, .int .i64 0, .int .i64 W, .int .i64 k, .int .i64 cap, .int .i64 0, .int .i64 0, .int .i64 0] 23)) := Bl.alloc' (Below.refl _ _) _
  generalize (w.alloc (.cells #[.int .i64 2, .int .i64 0, .int .i64 W, .int .i64 k, .int .i64 cap, .int .i64 0, .int .i64 0, .int .i64 0] 23)) = w1 at *
  have R1 := hide qR
  have B1 := hide qB
  clear qR qB
  obtain ⟨p0, p1, p2, p3, p4, p5, p6, p7⟩ := R1.out.eight
  rcases two b with rfl | rfl
  all_goals
    go_region_held3 (fun w' => w'.cell? ⟨w.heap.size, 0, none⟩ = some (.int .i64 2) ∧ w'.cell? ⟨w.heap.size, 1, none⟩ = some (.int .i64 0) ∧ w'.cell? ⟨w.heap.size, 2, none⟩ = some (.int .i64 W) ∧ w'.cell? ⟨w.heap.size, 3, none⟩ = some (.int .i64 k) ∧ w'.cell? ⟨w.heap.size, 4, none⟩ = some (.int .i64 cap) ∧ w'.cell? ⟨w.heap.size, 5, none⟩ = some (.int .i64 0) ∧ w'.cell? ⟨w.heap.size, 6, none⟩ = some (.int .i64 0) ∧ w'.cell? ⟨w.heap.size, 7, none⟩ = some (.int .i64 0)) (first | exact ⟨p0, p1, p2, p3, p4, p5, p6, p7⟩ | exact ⟨e0, e1, e2, e3, e4, e5, e6, e7⟩ | exact ⟨f0, f1, f2, f3, f4, f5, f6, f7⟩) (first | (go_at_call 12; refine (C12.out _).mono ?_; rintro e w2 ⟨rfl, hbx⟩; have hby : Below w1.heap.size w1 w2 := below_undrew hbx; have R2 := hide (R1.out.below hby R1.out.lt); have B2 := hide (Bl.call' B1.out hby); obtain ⟨e0, e1, e2, e3, e4, e5, e6, e7⟩ := R2.out.eight; clear hbx hby) | (go_at_call 17; refine (C17.out _).mono ?_; rintro e w3 ⟨rfl, hbx⟩; have R3 := hide (R2.out.below hbx R2.out.lt); have B3 := hide (Bl.call' B2.out hbx); obtain ⟨f0, f1, f2, f3, f4, f5, f6, f7⟩ := R3.out.eight; clear hbx))
    go_wp2
    go_ret
    exact ⟨rfl, B3.out⟩
set_option maxRecDepth 100000 in
set_option maxHeartbeats 1000000 in
theorem rval_3_z0 (agg W k cap p ch mx : Int) (w : World) (hz : ¬ agg = 0) : Calls Try.prog 8 #[cfgV 3 agg W k cap p ch mx] w (fun e w' => e = .returned (.int .i64 1) ∧ Below w.heap.size w w') := by
  have C12 := hide (fun w0 => plain_3 agg W k cap p ch mx w0)
  unfold PlainEnd cfgV at C12
  have e1 : (agg == 0) = false := by simpa using hz
  unfold cfgV
  go_enter Try.func8, Try.ntmps8
  go_upto_region 1 with (fail)
  have qR : Blk (w.alloc (.cells #[.int .i64 3, .int .i64 agg, .int .i64 W, .int .i64 k, .int .i64 cap, .int .i64 p, .int .i64 ch, .int .i64 mx] 23)) w.heap.size 23 #[.int .i64 3, .int .i64 agg, .int .i64 W, .int .i64 k, .int .i64 cap, .int .i64 p, .int .i64 ch, .int .i64 mx] := Blk.new _ _ _
  have qB : Below w.heap.size w (w.alloc (.cells #[.int .i64 3, .int .i64 agg, .int .i64 W, .int .i64 k, .int .i64 cap, .int .i64 p, .int .i64 ch, .int .i64 mx] 23)) := Bl.alloc' (Below.refl _ _) _
  generalize (w.alloc (.cells #[.int .i64 3, .int .i64 agg, .int .i64 W, .int .i64 k, .int .i64 cap, .int .i64 p, .int .i64 ch, .int .i64 mx] 23)) = w1 at *
  have R1 := hide qR
  have B1 := hide qB
  clear qR qB
  obtain ⟨p0, p1, p2, p3, p4, p5, p6, p7⟩ := R1.out.eight
  go_region_with (go_at_call 12; refine (C12.out _).mono ?_; rintro e w2 ⟨rfl, hbx⟩; have hby : Below w1.heap.size w1 w2 := below_undrew hbx; have R2 := hide (R1.out.below hby R1.out.lt); have B2 := hide (Bl.call' B1.out hby); obtain ⟨e0, e1, e2, e3, e4, e5, e6, e7⟩ := R2.out.eight; clear hbx hby)
  all_goals
    go_wp2
    go_ret
    exact ⟨rfl, B2.out⟩
set_option maxRecDepth 100000 in
set_option maxHeartbeats 1000000 in
theorem rval_3_z1 (W k cap p ch mx : Int) (w : World) (hz : ¬ p = 0) : Calls Try.prog 8 #[cfgV 3 0 W k cap p ch mx] w (fun e w' => e = .returned (.int .i64 1) ∧ Below w.heap.size w w') := by
  have C12 := hide (fun w0 => plain_3 0 W k cap p ch mx w0)
  unfold PlainEnd cfgV at C12
  have e1 : (p == 0) = false := by simpa using hz
  unfold cfgV
  go_enter Try.func8, Try.ntmps8
  go_upto_region 1 with (fail)
  have qR : Blk (w.alloc (.cells #[.int .i64 3, .int .i64 0, .int .i64 W, .int .i64 k, .int .i64 cap, .int .i64 p, .int .i64 ch, .int .i64 mx] 23)) w.heap.size 23 #[.int .i64 3, .int .i64 0, .int .i64 W, .int .i64 k, .int .i64 cap, .int .i64 p, .int .i64 ch, .int .i64 mx] := Blk.new _ _ _
  have qB : Below w.heap.size w (w.alloc (.cells #[.int .i64 3, .int .i64 0, .int .i64 W, .int .i64 k, .int .i64 cap, .int .i64 p, .int .i64 ch, .int .i64 mx] 23)) := Bl.alloc' (Below.refl _ _) _
  generalize (w.alloc (.cells #[.int .i64 3, .int .i64 0, .int .i64 W, .int .i64 k, .int .i64 cap, .int .i64 p, .int .i64 ch, .int .i64 mx] 23)) = w1 at *
  have R1 := hide qR
  have B1 := hide qB
  clear qR qB
  obtain ⟨p0, p1, p2, p3, p4, p5, p6, p7⟩ := R1.out.eight
  go_region_with (go_at_call 12; refine (C12.out _).mono ?_; rintro e w2 ⟨rfl, hbx⟩; have hby : Below w1.heap.size w1 w2 := below_undrew hbx; have R2 := hide (R1.out.below hby R1.out.lt); have B2 := hide (Bl.call' B1.out hby); obtain ⟨e0, e1, e2, e3, e4, e5, e6, e7⟩ := R2.out.eight; clear hbx hby)
  all_goals
    go_wp2
    go_ret
    exact ⟨rfl, B2.out⟩
set_option maxRecDepth 100000 in
set_option maxHeartbeats 1000000 in
theorem rval_3_z2 (W k cap ch mx : Int) (w : World) (hz : ¬ ch = 0) : Calls Try.prog 8 #[cfgV 3 0 W k cap 0 ch mx] w (fun e w' => e = .returned (.int .i64 1) ∧ Below w.heap.size w w') := by
  have C12 := hide (fun w0 => plain_3 0 W k cap 0 ch mx w0)
  unfold PlainEnd cfgV at C12
  have e1 : (ch == 0) = false := by simpa using hz
  unfold cfgV
  go_enter Try.func8, Try.ntmps8
  go_upto_region 1 with (fail)
  have qR : Blk (w.alloc (.cells #[.int .i64 3, .int .i64 0, .int .i64 W, .int .i64 k, .int .i64 cap, .int .i64 0, .int .i64 ch, .int .i64 mx] 23)) w.heap.size 23 #[.int .i64 3, .int .i64 0, .int .i64 W, .int .i64 k, .int .i64 cap, .int .i64 0, .int .i64 ch, .int .i64 mx] := Blk.new _ _ _
  have qB : Below w.heap.size w (w.alloc (.cells #[.int .i64 3, .int .i64 0, .int .i64 W, .int .i64 k, .int .i64 cap, .int .i64 0, .int .i64 ch, .int .i64 mx] 23)) := Bl.alloc' (Below.refl _ _) _
  generalize (w.alloc (.cells #[.int .i64 3, .int .i64 0, .int .i64 W, .int .i64 k, .int .i64 cap, .int .i64 0, .int .i64 ch, .int .i64 mx] 23)) = w1 at *
  have R1 := hide qR
  have B1 := hide qB
  clear qR qB
  obtain ⟨p0, p1, p2, p3, p4, p5, p6, p7⟩ := R1.out.eight
  go_region_with (go_at_call 12; refine (C12.out _).mono ?_; rintro e w2 ⟨rfl, hbx⟩; have hby : Below w1.heap.size w1 w2 := below_undrew hbx; have R2 := hide (R1.out.below hby R1.out.lt); have B2 := hide (Bl.call' B1.out hby); obtain ⟨e0, e1, e2, e3, e4, e5, e6, e7⟩ := R2.out.eight; clear hbx hby)
  all_goals
    go_wp2
    go_ret
    exact ⟨rfl, B2.out⟩
set_option maxRecDepth 100000 in
set_option maxHeartbeats 1000000 in
theorem rval_3_rb (W k cap mx : Int) (w : World) (b : Bool) (hb : b = true ↔ ((1 ≤ W ∧ W ≤ 1048576) ∧ 1 ≤ cap ∧ cap ≤ 65536) ∧ (1 ≤ k ∧ k ≤ 64) ∧ (1 ≤ mx ∧ mx ≤ 1024)) : Calls Try.prog 8 #[cfgV 3 0 W k cap 0 0 mx] w (fun e w' => e = .returned (.int .i64 (if b then 0 else 1)) ∧ Below w.heap.size w w') := by
  have C12 := hide (fun w0 => plain_3 0 W k cap 0 0 mx w0)
  unfold PlainEnd cfgV at C12
  have C17 := hide (fun w0 => ranges_3 0 W k cap 0 0 mx w0 b hb)
  unfold RngEnd cfgV at C17
  clear hb
  unfold cfgV
  go_enter Try.func8, Try.ntmps8
  go_upto_region 1 with (fail)
  have qR : Blk (w.alloc (.cells #[.int .i64 3, .int .i64 0, .int .i64 W, .int .i64 k, .int .i64 cap, .int .i64 0, .int .i64 0, .int .i64 mx] 23)) w.heap.size 23 #[.int .i64 3, .int .i64 0, .int .i64 W, .int .i64 k, .int .i64 cap, .int .i64 0, .int .i64 0, .int .i64 mx] := Blk.new _ _ _
  have qB : Below w.heap.size w (w.alloc (.cells #[.int .i64 3, .int .i64 0, .int .i64 W, .int .i64 k, .int .i64 cap, .int .i64 0, .int .i64 0, .int .i64 mx] 23)) := Bl.alloc' (Below.refl _ _) _
  generalize (w.alloc (.cells #[.int .i64 3, .int .i64 0, .int .i64 W, .int .i64 k, .int .i64 cap, .int .i64 0, .int .i64 0, .int .i64 mx] 23)) = w1 at *
  have R1 := hide qR
  have B1 := hide qB
  clear qR qB
  obtain ⟨p0, p1, p2, p3, p4, p5, p6, p7⟩ := R1.out.eight
  rcases two b with rfl | rfl
  all_goals
    go_region_held3 (fun w' => w'.cell? ⟨w.heap.size, 0, none⟩ = some (.int .i64 3) ∧ w'.cell? ⟨w.heap.size, 1, none⟩ = some (.int .i64 0) ∧ w'.cell? ⟨w.heap.size, 2, none⟩ = some (.int .i64 W) ∧ w'.cell? ⟨w.heap.size, 3, none⟩ = some (.int .i64 k) ∧ w'.cell? ⟨w.heap.size, 4, none⟩ = some (.int .i64 cap) ∧ w'.cell? ⟨w.heap.size, 5, none⟩ = some (.int .i64 0) ∧ w'.cell? ⟨w.heap.size, 6, none⟩ = some (.int .i64 0) ∧ w'.cell? ⟨w.heap.size, 7, none⟩ = some (.int .i64 mx)) (first | exact ⟨p0, p1, p2, p3, p4, p5, p6, p7⟩ | exact ⟨e0, e1, e2, e3, e4, e5, e6, e7⟩ | exact ⟨f0, f1, f2, f3, f4, f5, f6, f7⟩) (first | (go_at_call 12; refine (C12.out _).mono ?_; rintro e w2 ⟨rfl, hbx⟩; have hby : Below w1.heap.size w1 w2 := below_undrew hbx; have R2 := hide (R1.out.below hby R1.out.lt); have B2 := hide (Bl.call' B1.out hby); obtain ⟨e0, e1, e2, e3, e4, e5, e6, e7⟩ := R2.out.eight; clear hbx hby) | (go_at_call 17; refine (C17.out _).mono ?_; rintro e w3 ⟨rfl, hbx⟩; have R3 := hide (R2.out.below hbx R2.out.lt); have B3 := hide (Bl.call' B2.out hbx); obtain ⟨f0, f1, f2, f3, f4, f5, f6, f7⟩ := R3.out.eight; clear hbx))
    go_wp2
    go_ret
    exact ⟨rfl, B3.out⟩
end Go.Proofs.Ytmlddoajfgmoaaa
