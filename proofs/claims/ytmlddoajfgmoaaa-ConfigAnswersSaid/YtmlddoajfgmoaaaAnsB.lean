/- Which questions a kind answers: the reference's function. -/
import Derived.Test.YtmlddoajfgmoaaaAnsA
namespace Go.Proofs.Ytmlddoajfgmoaaa
open Go.RowKit
set_option linter.unusedVariables false
set_option maxRecDepth 100000 in
set_option maxHeartbeats 1000000 in
theorem ans14_no (kind agg W k cap p ch mx op : Int) (w : World) (h : vC kind agg W k cap p ch mx = 1) : Calls Try.prog 14 #[cfgV kind agg W k cap p ch mx, .int .i64 op] w (fun e w' => e = .returned (.bool false) ∧ Below w.heap.size w w') := by
  have C7 := hide (fun w0 => rvalidate_any kind agg W k cap p ch mx w0)
  unfold ValEnd at C7
  simp only [h] at C7
  clear h
  unfold cfgV at C7 ⊢
  go_enter Try.func14, Try.ntmps14
  go_upto_region 1 with (fail)
  have qR : Blk (w.alloc (.cells #[.int .i64 kind, .int .i64 agg, .int .i64 W, .int .i64 k, .int .i64 cap, .int .i64 p, .int .i64 ch, .int .i64 mx] 23)) w.heap.size 23 #[.int .i64 kind, .int .i64 agg, .int .i64 W, .int .i64 k, .int .i64 cap, .int .i64 p, .int .i64 ch, .int .i64 mx] := Blk.new _ _ _
  have qB : Below w.heap.size w (w.alloc (.cells #[.int .i64 kind, .int .i64 agg, .int .i64 W, .int .i64 k, .int .i64 cap, .int .i64 p, .int .i64 ch, .int .i64 mx] 23)) := Bl.alloc' (Below.refl _ _) _
  generalize (w.alloc (.cells #[.int .i64 kind, .int .i64 agg, .int .i64 W, .int .i64 k, .int .i64 cap, .int .i64 p, .int .i64 ch, .int .i64 mx] 23)) = w1 at *
  have R1 := hide qR
  have B1 := hide qB
  clear qR qB
  obtain ⟨p0, p1, p2, p3, p4, p5, p6, p7⟩ := R1.out.eight
  go_wp2_with (first | (go_at_call 8; refine (C7.out _).mono ?_; rintro e w2 ⟨rfl, hbx⟩; have hby : Below w1.heap.size w1 w2 := hbx; have R2 := hide (R1.out.below hby R1.out.lt); have B2 := hide (Bl.call' B1.out hby); obtain ⟨e0, e1, e2, e3, e4, e5, e6, e7⟩ := R2.out.eight; clear hbx hby))
  all_goals
    go_ret
    exact ⟨rfl, B2.out⟩
set_option maxRecDepth 100000 in
set_option maxHeartbeats 1000000 in
theorem ans14_1_in (agg W k cap p ch mx op : Int) (w : World) (h : vC 1 agg W k cap p ch mx = 0) (h1 : 1 ≤ op) (h2 : op ≤ 8) : Calls Try.prog 14 #[cfgV 1 agg W k cap p ch mx, .int .i64 op] w (fun e w' => e = .returned (.bool true) ∧ Below w.heap.size w w') := by
  have C7 := hide (fun w0 => rvalidate_any 1 agg W k cap p ch mx w0)
  unfold ValEnd at C7
  simp only [h] at C7
  clear h
  unfold cfgV at C7 ⊢
  go_enter Try.func14, Try.ntmps14
  go_upto_region 1 with (fail)
  have qR : Blk (w.alloc (.cells #[.int .i64 1, .int .i64 agg, .int .i64 W, .int .i64 k, .int .i64 cap, .int .i64 p, .int .i64 ch, .int .i64 mx] 23)) w.heap.size 23 #[.int .i64 1, .int .i64 agg, .int .i64 W, .int .i64 k, .int .i64 cap, .int .i64 p, .int .i64 ch, .int .i64 mx] := Blk.new _ _ _
  have qB : Below w.heap.size w (w.alloc (.cells #[.int .i64 1, .int .i64 agg, .int .i64 W, .int .i64 k, .int .i64 cap, .int .i64 p, .int .i64 ch, .int .i64 mx] 23)) := Bl.alloc' (Below.refl _ _) _
  generalize (w.alloc (.cells #[.int .i64 1, .int .i64 agg, .int .i64 W, .int .i64 k, .int .i64 cap, .int .i64 p, .int .i64 ch, .int .i64 mx] 23)) = w1 at *
  have R1 := hide qR
  have B1 := hide qB
  clear qR qB
  obtain ⟨p0, p1, p2, p3, p4, p5, p6, p7⟩ := R1.out.eight
  go_wp2_with (first | (go_at_call 8; refine (C7.out _).mono ?_; rintro e w2 ⟨rfl, hbx⟩; have hby : Below w1.heap.size w1 w2 := hbx; have R2 := hide (R1.out.below hby R1.out.lt); have B2 := hide (Bl.call' B1.out hby); obtain ⟨e0, e1, e2, e3, e4, e5, e6, e7⟩ := R2.out.eight; clear hbx hby))
  all_goals
    go_ret
    exact ⟨rfl, B2.out⟩
set_option maxRecDepth 100000 in
set_option maxHeartbeats 1000000 in
theorem ans14_1_lo (agg W k cap p ch mx op : Int) (w : World) (h : vC 1 agg W k cap p ch mx = 0) (h1 : op < 1) : Calls Try.prog 14 #[cfgV 1 agg W k cap p ch mx, .int .i64 op] w (fun e w' => e = .returned (.bool false) ∧ Below w.heap.size w w') := by
  have C7 := hide (fun w0 => rvalidate_any 1 agg W k cap p ch mx w0)
  unfold ValEnd at C7
  simp only [h] at C7
  clear h
  unfold cfgV at C7 ⊢
  go_enter Try.func14, Try.ntmps14
  go_upto_region 1 with (fail)
  have qR : Blk (w.alloc (.cells #[.int .i64 1, .int .i64 agg, .int .i64 W, .int .i64 k, .int .i64 cap, .int .i64 p, .int .i64 ch, .int .i64 mx] 23)) w.heap.size 23 #[.int .i64 1, .int .i64 agg, .int .i64 W, .int .i64 k, .int .i64 cap, .int .i64 p, .int .i64 ch, .int .i64 mx] := Blk.new _ _ _
  have qB : Below w.heap.size w (w.alloc (.cells #[.int .i64 1, .int .i64 agg, .int .i64 W, .int .i64 k, .int .i64 cap, .int .i64 p, .int .i64 ch, .int .i64 mx] 23)) := Bl.alloc' (Below.refl _ _) _
  generalize (w.alloc (.cells #[.int .i64 1, .int .i64 agg, .int .i64 W, .int .i64 k, .int .i64 cap, .int .i64 p, .int .i64 ch, .int .i64 mx] 23)) = w1 at *
  have R1 := hide qR
  have B1 := hide qB
  clear qR qB
  obtain ⟨p0, p1, p2, p3, p4, p5, p6, p7⟩ := R1.out.eight
  go_wp2_with (first | (go_at_call 8; refine (C7.out _).mono ?_; rintro e w2 ⟨rfl, hbx⟩; have hby : Below w1.heap.size w1 w2 := hbx; have R2 := hide (R1.out.below hby R1.out.lt); have B2 := hide (Bl.call' B1.out hby); obtain ⟨e0, e1, e2, e3, e4, e5, e6, e7⟩ := R2.out.eight; clear hbx hby))
  all_goals
    go_ret
    exact ⟨rfl, B2.out⟩
set_option maxRecDepth 100000 in
set_option maxHeartbeats 1000000 in
theorem ans14_1_hi (agg W k cap p ch mx op : Int) (w : World) (h : vC 1 agg W k cap p ch mx = 0) (h1 : 1 ≤ op) (h2 : 8 < op) : Calls Try.prog 14 #[cfgV 1 agg W k cap p ch mx, .int .i64 op] w (fun e w' => e = .returned (.bool false) ∧ Below w.heap.size w w') := by
  have C7 := hide (fun w0 => rvalidate_any 1 agg W k cap p ch mx w0)
  unfold ValEnd at C7
  simp only [h] at C7
  clear h
  unfold cfgV at C7 ⊢
  go_enter Try.func14, Try.ntmps14
  go_upto_region 1 with (fail)
  have qR : Blk (w.alloc (.cells #[.int .i64 1, .int .i64 agg, .int .i64 W, .int .i64 k, .int .i64 cap, .int .i64 p, .int .i64 ch, .int .i64 mx] 23)) w.heap.size 23 #[.int .i64 1, .int .i64 agg, .int .i64 W, .int .i64 k, .int .i64 cap, .int .i64 p, .int .i64 ch, .int .i64 mx] := Blk.new _ _ _
  have qB : Below w.heap.size w (w.alloc (.cells #[.int .i64 1, .int .i64 agg, .int .i64 W, .int .i64 k, .int .i64 cap, .int .i64 p, .int .i64 ch, .int .i64 mx] 23)) := Bl.alloc' (Below.refl _ _) _
  generalize (w.alloc (.cells #[.int .i64 1, .int .i64 agg, .int .i64 W, .int .i64 k, .int .i64 cap, .int .i64 p, .int .i64 ch, .int .i64 mx] 23)) = w1 at *
  have R1 := hide qR
  have B1 := hide qB
  clear qR qB
  obtain ⟨p0, p1, p2, p3, p4, p5, p6, p7⟩ := R1.out.eight
  go_wp2_with (first | (go_at_call 8; refine (C7.out _).mono ?_; rintro e w2 ⟨rfl, hbx⟩; have hby : Below w1.heap.size w1 w2 := hbx; have R2 := hide (R1.out.below hby R1.out.lt); have B2 := hide (Bl.call' B1.out hby); obtain ⟨e0, e1, e2, e3, e4, e5, e6, e7⟩ := R2.out.eight; clear hbx hby))
  all_goals
    go_ret
    exact ⟨ret_bool (by simp; omega), B2.out⟩
set_option maxRecDepth 100000 in
set_option maxHeartbeats 1000000 in
theorem ans14_2_y (agg W k cap p ch mx op : Int) (w : World) (h : vC 2 agg W k cap p ch mx = 0) (h1 : op = 1) : Calls Try.prog 14 #[cfgV 2 agg W k cap p ch mx, .int .i64 op] w (fun e w' => e = .returned (.bool true) ∧ Below w.heap.size w w') := by
  subst h1
  have C7 := hide (fun w0 => rvalidate_any 2 agg W k cap p ch mx w0)
  unfold ValEnd at C7
  simp only [h] at C7
  clear h
  unfold cfgV at C7 ⊢
  go_enter Try.func14, Try.ntmps14
  go_upto_region 1 with (fail)
  have qR : Blk (w.alloc (.cells #[.int .i64 2, .int .i64 agg, .int .i64 W, .int .i64 k, .int .i64 cap, .int .i64 p, .int .i64 ch, .int .i64 mx] 23)) w.heap.size 23 #[.int .i64 2, .int .i64 agg, .int .i64 W, .int .i64 k, .int .i64 cap, .int .i64 p, .int .i64 ch, .int .i64 mx] := Blk.new _ _ _
  have qB : Below w.heap.size w (w.alloc (.cells #[.int .i64 2, .int .i64 agg, .int .i64 W, .int .i64 k, .int .i64 cap, .int .i64 p, .int .i64 ch, .int .i64 mx] 23)) := Bl.alloc' (Below.refl _ _) _
  generalize (w.alloc (.cells #[.int .i64 2, .int .i64 agg, .int .i64 W, .int .i64 k, .int .i64 cap, .int .i64 p, .int .i64 ch, .int .i64 mx] 23)) = w1 at *
  have R1 := hide qR
  have B1 := hide qB
  clear qR qB
  obtain ⟨p0, p1, p2, p3, p4, p5, p6, p7⟩ := R1.out.eight
  go_wp2_with (first | (go_at_call 8; refine (C7.out _).mono ?_; rintro e w2 ⟨rfl, hbx⟩; have hby : Below w1.heap.size w1 w2 := hbx; have R2 := hide (R1.out.below hby R1.out.lt); have B2 := hide (Bl.call' B1.out hby); obtain ⟨e0, e1, e2, e3, e4, e5, e6, e7⟩ := R2.out.eight; clear hbx hby))
  all_goals
    go_ret
    exact ⟨rfl, B2.out⟩
set_option maxRecDepth 100000 in
set_option maxHeartbeats 1000000 in
theorem ans14_2_n (agg W k cap p ch mx op : Int) (w : World) (h : vC 2 agg W k cap p ch mx = 0) (h1 : ¬ op = 1) : Calls Try.prog 14 #[cfgV 2 agg W k cap p ch mx, .int .i64 op] w (fun e w' => e = .returned (.bool false) ∧ Below w.heap.size w w') := by
  have e1 : (op == 1) = false := by simpa using h1
  have C7 := hide (fun w0 => rvalidate_any 2 agg W k cap p ch mx w0)
  unfold ValEnd at C7
  simp only [h] at C7
  clear h
  unfold cfgV at C7 ⊢
  go_enter Try.func14, Try.ntmps14
  go_upto_region 1 with (fail)
  have qR : Blk (w.alloc (.cells #[.int .i64 2, .int .i64 agg, .int .i64 W, .int .i64 k, .int .i64 cap, .int .i64 p, .int .i64 ch, .int .i64 mx] 23)) w.heap.size 23 #[.int .i64 2, .int .i64 agg, .int .i64 W, .int .i64 k, .int .i64 cap, .int .i64 p, .int .i64 ch, .int .i64 mx] := Blk.new _ _ _
  have qB : Below w.heap.size w (w.alloc (.cells #[.int .i64 2, .int .i64 agg, .int .i64 W, .int .i64 k, .int .i64 cap, .int .i64 p, .int .i64 ch, .int .i64 mx] 23)) := Bl.alloc' (Below.refl _ _) _
  generalize (w.alloc (.cells #[.int .i64 2, .int .i64 agg, .int .i64 W, .int .i64 k, .int .i64 cap, .int .i64 p, .int .i64 ch, .int .i64 mx] 23)) = w1 at *
  have R1 := hide qR
  have B1 := hide qB
  clear qR qB
  obtain ⟨p0, p1, p2, p3, p4, p5, p6, p7⟩ := R1.out.eight
  go_wp2_with (first | (go_at_call 8; refine (C7.out _).mono ?_; rintro e w2 ⟨rfl, hbx⟩; have hby : Below w1.heap.size w1 w2 := hbx; have R2 := hide (R1.out.below hby R1.out.lt); have B2 := hide (Bl.call' B1.out hby); obtain ⟨e0, e1, e2, e3, e4, e5, e6, e7⟩ := R2.out.eight; clear hbx hby))
  all_goals
    go_ret
    exact ⟨rfl, B2.out⟩
set_option maxRecDepth 100000 in
set_option maxHeartbeats 1000000 in
theorem ans14_3_y (agg W k cap p ch mx op : Int) (w : World) (h : vC 3 agg W k cap p ch mx = 0) (h1 : op = 2) : Calls Try.prog 14 #[cfgV 3 agg W k cap p ch mx, .int .i64 op] w (fun e w' => e = .returned (.bool true) ∧ Below w.heap.size w w') := by
  subst h1
  have C7 := hide (fun w0 => rvalidate_any 3 agg W k cap p ch mx w0)
  unfold ValEnd at C7
  simp only [h] at C7
  clear h
  unfold cfgV at C7 ⊢
  go_enter Try.func14, Try.ntmps14
  go_upto_region 1 with (fail)
  have qR : Blk (w.alloc (.cells #[.int .i64 3, .int .i64 agg, .int .i64 W, .int .i64 k, .int .i64 cap, .int .i64 p, .int .i64 ch, .int .i64 mx] 23)) w.heap.size 23 #[.int .i64 3, .int .i64 agg, .int .i64 W, .int .i64 k, .int .i64 cap, .int .i64 p, .int .i64 ch, .int .i64 mx] := Blk.new _ _ _
  have qB : Below w.heap.size w (w.alloc (.cells #[.int .i64 3, .int .i64 agg, .int .i64 W, .int .i64 k, .int .i64 cap, .int .i64 p, .int .i64 ch, .int .i64 mx] 23)) := Bl.alloc' (Below.refl _ _) _
  generalize (w.alloc (.cells #[.int .i64 3, .int .i64 agg, .int .i64 W, .int .i64 k, .int .i64 cap, .int .i64 p, .int .i64 ch, .int .i64 mx] 23)) = w1 at *
  have R1 := hide qR
  have B1 := hide qB
  clear qR qB
  obtain ⟨p0, p1, p2, p3, p4, p5, p6, p7⟩ := R1.out.eight
  go_wp2_with (first | (go_at_call 8; refine (C7.out _).mono ?_; rintro e w2 ⟨rfl, hbx⟩; have hby : Below w1.heap.size w1 w2 := hbx; have R2 := hide (R1.out.below hby R1.out.lt); have B2 := hide (Bl.call' B1.out hby); obtain ⟨e0, e1, e2, e3, e4, e5, e6, e7⟩ := R2.out.eight; clear hbx hby))
  all_goals
    go_ret
    exact ⟨rfl, B2.out⟩
set_option maxRecDepth 100000 in
set_option maxHeartbeats 1000000 in
theorem ans14_3_n (agg W k cap p ch mx op : Int) (w : World) (h : vC 3 agg W k cap p ch mx = 0) (h1 : ¬ op = 2) : Calls Try.prog 14 #[cfgV 3 agg W k cap p ch mx, .int .i64 op] w (fun e w' => e = .returned (.bool false) ∧ Below w.heap.size w w') := by
  have e1 : (op == 2) = false := by simpa using h1
  have C7 := hide (fun w0 => rvalidate_any 3 agg W k cap p ch mx w0)
  unfold ValEnd at C7
  simp only [h] at C7
  clear h
  unfold cfgV at C7 ⊢
  go_enter Try.func14, Try.ntmps14
  go_upto_region 1 with (fail)
  have qR : Blk (w.alloc (.cells #[.int .i64 3, .int .i64 agg, .int .i64 W, .int .i64 k, .int .i64 cap, .int .i64 p, .int .i64 ch, .int .i64 mx] 23)) w.heap.size 23 #[.int .i64 3, .int .i64 agg, .int .i64 W, .int .i64 k, .int .i64 cap, .int .i64 p, .int .i64 ch, .int .i64 mx] := Blk.new _ _ _
  have qB : Below w.heap.size w (w.alloc (.cells #[.int .i64 3, .int .i64 agg, .int .i64 W, .int .i64 k, .int .i64 cap, .int .i64 p, .int .i64 ch, .int .i64 mx] 23)) := Bl.alloc' (Below.refl _ _) _
  generalize (w.alloc (.cells #[.int .i64 3, .int .i64 agg, .int .i64 W, .int .i64 k, .int .i64 cap, .int .i64 p, .int .i64 ch, .int .i64 mx] 23)) = w1 at *
  have R1 := hide qR
  have B1 := hide qB
  clear qR qB
  obtain ⟨p0, p1, p2, p3, p4, p5, p6, p7⟩ := R1.out.eight
  go_wp2_with (first | (go_at_call 8; refine (C7.out _).mono ?_; rintro e w2 ⟨rfl, hbx⟩; have hby : Below w1.heap.size w1 w2 := hbx; have R2 := hide (R1.out.below hby R1.out.lt); have B2 := hide (Bl.call' B1.out hby); obtain ⟨e0, e1, e2, e3, e4, e5, e6, e7⟩ := R2.out.eight; clear hbx hby))
  all_goals
    go_ret
    exact ⟨rfl, B2.out⟩
set_option maxRecDepth 100000 in
set_option maxHeartbeats 1000000 in
theorem ans14_5_y (agg W k cap p ch mx op : Int) (w : World) (h : vC 5 agg W k cap p ch mx = 0) (h1 : op = 5) : Calls Try.prog 14 #[cfgV 5 agg W k cap p ch mx, .int .i64 op] w (fun e w' => e = .returned (.bool true) ∧ Below w.heap.size w w') := by
  subst h1
  have C7 := hide (fun w0 => rvalidate_any 5 agg W k cap p ch mx w0)
  unfold ValEnd at C7
  simp only [h] at C7
  clear h
  unfold cfgV at C7 ⊢
  go_enter Try.func14, Try.ntmps14
  go_upto_region 1 with (fail)
  have qR : Blk (w.alloc (.cells #[.int .i64 5, .int .i64 agg, .int .i64 W, .int .i64 k, .int .i64 cap, .int .i64 p, .int .i64 ch, .int .i64 mx] 23)) w.heap.size 23 #[.int .i64 5, .int .i64 agg, .int .i64 W, .int .i64 k, .int .i64 cap, .int .i64 p, .int .i64 ch, .int .i64 mx] := Blk.new _ _ _
  have qB : Below w.heap.size w (w.alloc (.cells #[.int .i64 5, .int .i64 agg, .int .i64 W, .int .i64 k, .int .i64 cap, .int .i64 p, .int .i64 ch, .int .i64 mx] 23)) := Bl.alloc' (Below.refl _ _) _
  generalize (w.alloc (.cells #[.int .i64 5, .int .i64 agg, .int .i64 W, .int .i64 k, .int .i64 cap, .int .i64 p, .int .i64 ch, .int .i64 mx] 23)) = w1 at *
  have R1 := hide qR
  have B1 := hide qB
  clear qR qB
  obtain ⟨p0, p1, p2, p3, p4, p5, p6, p7⟩ := R1.out.eight
  go_wp2_with (first | (go_at_call 8; refine (C7.out _).mono ?_; rintro e w2 ⟨rfl, hbx⟩; have hby : Below w1.heap.size w1 w2 := hbx; have R2 := hide (R1.out.below hby R1.out.lt); have B2 := hide (Bl.call' B1.out hby); obtain ⟨e0, e1, e2, e3, e4, e5, e6, e7⟩ := R2.out.eight; clear hbx hby))
  all_goals
    go_ret
    exact ⟨rfl, B2.out⟩
set_option maxRecDepth 100000 in
set_option maxHeartbeats 1000000 in
theorem ans14_5_n (agg W k cap p ch mx op : Int) (w : World) (h : vC 5 agg W k cap p ch mx = 0) (h1 : ¬ op = 5) : Calls Try.prog 14 #[cfgV 5 agg W k cap p ch mx, .int .i64 op] w (fun e w' => e = .returned (.bool false) ∧ Below w.heap.size w w') := by
  have e1 : (op == 5) = false := by simpa using h1
  have C7 := hide (fun w0 => rvalidate_any 5 agg W k cap p ch mx w0)
  unfold ValEnd at C7
  simp only [h] at C7
  clear h
  unfold cfgV at C7 ⊢
  go_enter Try.func14, Try.ntmps14
  go_upto_region 1 with (fail)
  have qR : Blk (w.alloc (.cells #[.int .i64 5, .int .i64 agg, .int .i64 W, .int .i64 k, .int .i64 cap, .int .i64 p, .int .i64 ch, .int .i64 mx] 23)) w.heap.size 23 #[.int .i64 5, .int .i64 agg, .int .i64 W, .int .i64 k, .int .i64 cap, .int .i64 p, .int .i64 ch, .int .i64 mx] := Blk.new _ _ _
  have qB : Below w.heap.size w (w.alloc (.cells #[.int .i64 5, .int .i64 agg, .int .i64 W, .int .i64 k, .int .i64 cap, .int .i64 p, .int .i64 ch, .int .i64 mx] 23)) := Bl.alloc' (Below.refl _ _) _
  generalize (w.alloc (.cells #[.int .i64 5, .int .i64 agg, .int .i64 W, .int .i64 k, .int .i64 cap, .int .i64 p, .int .i64 ch, .int .i64 mx] 23)) = w1 at *
  have R1 := hide qR
  have B1 := hide qB
  clear qR qB
  obtain ⟨p0, p1, p2, p3, p4, p5, p6, p7⟩ := R1.out.eight
  go_wp2_with (first | (go_at_call 8; refine (C7.out _).mono ?_; rintro e w2 ⟨rfl, hbx⟩; have hby : Below w1.heap.size w1 w2 := hbx; have R2 := hide (R1.out.below hby R1.out.lt); have B2 := hide (Bl.call' B1.out hby); obtain ⟨e0, e1, e2, e3, e4, e5, e6, e7⟩ := R2.out.eight; clear hbx hby))
  all_goals
    go_ret
    exact ⟨rfl, B2.out⟩
set_option maxRecDepth 100000 in
set_option maxHeartbeats 1000000 in
theorem ans14_6_y (agg W k cap p ch mx op : Int) (w : World) (h : vC 6 agg W k cap p ch mx = 0) (h1 : op = 9) : Calls Try.prog 14 #[cfgV 6 agg W k cap p ch mx, .int .i64 op] w (fun e w' => e = .returned (.bool true) ∧ Below w.heap.size w w') := by
  subst h1
  have C7 := hide (fun w0 => rvalidate_any 6 agg W k cap p ch mx w0)
  unfold ValEnd at C7
  simp only [h] at C7
  clear h
  unfold cfgV at C7 ⊢
  go_enter Try.func14, Try.ntmps14
  go_upto_region 1 with (fail)
  have qR : Blk (w.alloc (.cells #[.int .i64 6, .int .i64 agg, .int .i64 W, .int .i64 k, .int .i64 cap, .int .i64 p, .int .i64 ch, .int .i64 mx] 23)) w.heap.size 23 #[.int .i64 6, .int .i64 agg, .int .i64 W, .int .i64 k, .int .i64 cap, .int .i64 p, .int .i64 ch, .int .i64 mx] := Blk.new _ _ _
  have qB : Below w.heap.size w (w.alloc (.cells #[.int .i64 6, .int .i64 agg, .int .i64 W, .int .i64 k, .int .i64 cap, .int .i64 p, .int .i64 ch, .int .i64 mx] 23)) := Bl.alloc' (Below.refl _ _) _
  generalize (w.alloc (.cells #[.int .i64 6, .int .i64 agg, .int .i64 W, .int .i64 k, .int .i64 cap, .int .i64 p, .int .i64 ch, .int .i64 mx] 23)) = w1 at *
  have R1 := hide qR
  have B1 := hide qB
  clear qR qB
  obtain ⟨p0, p1, p2, p3, p4, p5, p6, p7⟩ := R1.out.eight
  go_wp2_with (first | (go_at_call 8; refine (C7.out _).mono ?_; rintro e w2 ⟨rfl, hbx⟩; have hby : Below w1.heap.size w1 w2 := hbx; have R2 := hide (R1.out.below hby R1.out.lt); have B2 := hide (Bl.call' B1.out hby); obtain ⟨e0, e1, e2, e3, e4, e5, e6, e7⟩ := R2.out.eight; clear hbx hby))
  all_goals
    go_ret
    exact ⟨rfl, B2.out⟩
set_option maxRecDepth 100000 in
set_option maxHeartbeats 1000000 in
theorem ans14_6_n (agg W k cap p ch mx op : Int) (w : World) (h : vC 6 agg W k cap p ch mx = 0) (h1 : ¬ op = 9) : Calls Try.prog 14 #[cfgV 6 agg W k cap p ch mx, .int .i64 op] w (fun e w' => e = .returned (.bool false) ∧ Below w.heap.size w w') := by
  have e1 : (op == 9) = false := by simpa using h1
  have C7 := hide (fun w0 => rvalidate_any 6 agg W k cap p ch mx w0)
  unfold ValEnd at C7
  simp only [h] at C7
  clear h
  unfold cfgV at C7 ⊢
  go_enter Try.func14, Try.ntmps14
  go_upto_region 1 with (fail)
  have qR : Blk (w.alloc (.cells #[.int .i64 6, .int .i64 agg, .int .i64 W, .int .i64 k, .int .i64 cap, .int .i64 p, .int .i64 ch, .int .i64 mx] 23)) w.heap.size 23 #[.int .i64 6, .int .i64 agg, .int .i64 W, .int .i64 k, .int .i64 cap, .int .i64 p, .int .i64 ch, .int .i64 mx] := Blk.new _ _ _
  have qB : Below w.heap.size w (w.alloc (.cells #[.int .i64 6, .int .i64 agg, .int .i64 W, .int .i64 k, .int .i64 cap, .int .i64 p, .int .i64 ch, .int .i64 mx] 23)) := Bl.alloc' (Below.refl _ _) _
  generalize (w.alloc (.cells #[.int .i64 6, .int .i64 agg, .int .i64 W, .int .i64 k, .int .i64 cap, .int .i64 p, .int .i64 ch, .int .i64 mx] 23)) = w1 at *
  have R1 := hide qR
  have B1 := hide qB
  clear qR qB
  obtain ⟨p0, p1, p2, p3, p4, p5, p6, p7⟩ := R1.out.eight
  go_wp2_with (first | (go_at_call 8; refine (C7.out _).mono ?_; rintro e w2 ⟨rfl, hbx⟩; have hby : Below w1.heap.size w1 w2 := hbx; have R2 := hide (R1.out.below hby R1.out.lt); have B2 := hide (Bl.call' B1.out hby); obtain ⟨e0, e1, e2, e3, e4, e5, e6, e7⟩ := R2.out.eight; clear hbx hby))
  all_goals
    go_ret
    exact ⟨rfl, B2.out⟩
set_option maxRecDepth 100000 in
set_option maxHeartbeats 1000000 in
theorem ans14_7_y (agg W k cap p ch mx op : Int) (w : World) (h : vC 7 agg W k cap p ch mx = 0) (h1 : op = 9) : Calls Try.prog 14 #[cfgV 7 agg W k cap p ch mx, .int .i64 op] w (fun e w' => e = .returned (.bool true) ∧ Below w.heap.size w w') := by
  subst h1
  have C7 := hide (fun w0 => rvalidate_any 7 agg W k cap p ch mx w0)
  unfold ValEnd at C7
  simp only [h] at C7
  clear h
  unfold cfgV at C7 ⊢
  go_enter Try.func14, Try.ntmps14
  go_upto_region 1 with (fail)
  have qR : Blk (w.alloc (.cells #[.int .i64 7, .int .i64 agg, .int .i64 W, .int .i64 k, .int .i64 cap, .int .i64 p, .int .i64 ch, .int .i64 mx] 23)) w.heap.size 23 #[.int .i64 7, .int .i64 agg, .int .i64 W, .int .i64 k, .int .i64 cap, .int .i64 p, .int .i64 ch, .int .i64 mx] := Blk.new _ _ _
  have qB : Below w.heap.size w (w.alloc (.cells #[.int .i64 7, .int .i64 agg, .int .i64 W, .int .i64 k, .int .i64 cap, .int .i64 p, .int .i64 ch, .int .i64 mx] 23)) := Bl.alloc' (Below.refl _ _) _
  generalize (w.alloc (.cells #[.int .i64 7, .int .i64 agg, .int .i64 W, .int .i64 k, .int .i64 cap, .int .i64 p, .int .i64 ch, .int .i64 mx] 23)) = w1 at *
  have R1 := hide qR
  have B1 := hide qB
  clear qR qB
  obtain ⟨p0, p1, p2, p3, p4, p5, p6, p7⟩ := R1.out.eight
  go_wp2_with (first | (go_at_call 8; refine (C7.out _).mono ?_; rintro e w2 ⟨rfl, hbx⟩; have hby : Below w1.heap.size w1 w2 := hbx; have R2 := hide (R1.out.below hby R1.out.lt); have B2 := hide (Bl.call' B1.out hby); obtain ⟨e0, e1, e2, e3, e4, e5, e6, e7⟩ := R2.out.eight; clear hbx hby))
  all_goals
    go_ret
    exact ⟨rfl, B2.out⟩
set_option maxRecDepth 100000 in
set_option maxHeartbeats 1000000 in
theorem ans14_7_n (agg W k cap p ch mx op : Int) (w : World) (h : vC 7 agg W k cap p ch mx = 0) (h1 : ¬ op = 9) : Calls Try.prog 14 #[cfgV 7 agg W k cap p ch mx, .int .i64 op] w (fun e w' => e = .returned (.bool false) ∧ Below w.heap.size w w') := by
  have e1 : (op == 9) = false := by simpa using h1
  have C7 := hide (fun w0 => rvalidate_any 7 agg W k cap p ch mx w0)
  unfold ValEnd at C7
  simp only [h] at C7
  clear h
  unfold cfgV at C7 ⊢
  go_enter Try.func14, Try.ntmps14
  go_upto_region 1 with (fail)
  have qR : Blk (w.alloc (.cells #[.int .i64 7, .int .i64 agg, .int .i64 W, .int .i64 k, .int .i64 cap, .int .i64 p, .int .i64 ch, .int .i64 mx] 23)) w.heap.size 23 #[.int .i64 7, .int .i64 agg, .int .i64 W, .int .i64 k, .int .i64 cap, .int .i64 p, .int .i64 ch, .int .i64 mx] := Blk.new _ _ _
  have qB : Below w.heap.size w (w.alloc (.cells #[.int .i64 7, .int .i64 agg, .int .i64 W, .int .i64 k, .int .i64 cap, .int .i64 p, .int .i64 ch, .int .i64 mx] 23)) := Bl.alloc' (Below.refl _ _) _
  generalize (w.alloc (.cells #[.int .i64 7, .int .i64 agg, .int .i64 W, .int .i64 k, .int .i64 cap, .int .i64 p, .int .i64 ch, .int .i64 mx] 23)) = w1 at *
  have R1 := hide qR
  have B1 := hide qB
  clear qR qB
  obtain ⟨p0, p1, p2, p3, p4, p5, p6, p7⟩ := R1.out.eight
  go_wp2_with (first | (go_at_call 8; refine (C7.out _).mono ?_; rintro e w2 ⟨rfl, hbx⟩; have hby : Below w1.heap.size w1 w2 := hbx; have R2 := hide (R1.out.below hby R1.out.lt); have B2 := hide (Bl.call' B1.out hby); obtain ⟨e0, e1, e2, e3, e4, e5, e6, e7⟩ := R2.out.eight; clear hbx hby))
  all_goals
    go_ret
    exact ⟨rfl, B2.out⟩
set_option maxRecDepth 100000 in
set_option maxHeartbeats 1000000 in
theorem ans14_8_y (agg W k cap p ch mx op : Int) (w : World) (h : vC 8 agg W k cap p ch mx = 0) (h1 : op = 6) : Calls Try.prog 14 #[cfgV 8 agg W k cap p ch mx, .int .i64 op] w (fun e w' => e = .returned (.bool true) ∧ Below w.heap.size w w') := by
  subst h1
  have C7 := hide (fun w0 => rvalidate_any 8 agg W k cap p ch mx w0)
  unfold ValEnd at C7
  simp only [h] at C7
  clear h
  unfold cfgV at C7 ⊢
  go_enter Try.func14, Try.ntmps14
  go_upto_region 1 with (fail)
  have qR : Blk (w.alloc (.cells #[.int .i64 8, .int .i64 agg, .int .i64 W, .int .i64 k, .int .i64 cap, .int .i64 p, .int .i64 ch, .int .i64 mx] 23)) w.heap.size 23 #[.int .i64 8, .int .i64 agg, .int .i64 W, .int .i64 k, .int .i64 cap, .int .i64 p, .int .i64 ch, .int .i64 mx] := Blk.new _ _ _
  have qB : Below w.heap.size w (w.alloc (.cells #[.int .i64 8, .int .i64 agg, .int .i64 W, .int .i64 k, .int .i64 cap, .int .i64 p, .int .i64 ch, .int .i64 mx] 23)) := Bl.alloc' (Below.refl _ _) _
  generalize (w.alloc (.cells #[.int .i64 8, .int .i64 agg, .int .i64 W, .int .i64 k, .int .i64 cap, .int .i64 p, .int .i64 ch, .int .i64 mx] 23)) = w1 at *
  have R1 := hide qR
  have B1 := hide qB
  clear qR qB
  obtain ⟨p0, p1, p2, p3, p4, p5, p6, p7⟩ := R1.out.eight
  go_wp2_with (first | (go_at_call 8; refine (C7.out _).mono ?_; rintro e w2 ⟨rfl, hbx⟩; have hby : Below w1.heap.size w1 w2 := hbx; have R2 := hide (R1.out.below hby R1.out.lt); have B2 := hide (Bl.call' B1.out hby); obtain ⟨e0, e1, e2, e3, e4, e5, e6, e7⟩ := R2.out.eight; clear hbx hby))
  all_goals
    go_ret
    exact ⟨rfl, B2.out⟩
set_option maxRecDepth 100000 in
set_option maxHeartbeats 1000000 in
theorem ans14_8_n (agg W k cap p ch mx op : Int) (w : World) (h : vC 8 agg W k cap p ch mx = 0) (h1 : ¬ op = 6) : Calls Try.prog 14 #[cfgV 8 agg W k cap p ch mx, .int .i64 op] w (fun e w' => e = .returned (.bool false) ∧ Below w.heap.size w w') := by
  have e1 : (op == 6) = false := by simpa using h1
  have C7 := hide (fun w0 => rvalidate_any 8 agg W k cap p ch mx w0)
  unfold ValEnd at C7
  simp only [h] at C7
  clear h
  unfold cfgV at C7 ⊢
  go_enter Try.func14, Try.ntmps14
  go_upto_region 1 with (fail)
  have qR : Blk (w.alloc (.cells #[.int .i64 8, .int .i64 agg, .int .i64 W, .int .i64 k, .int .i64 cap, .int .i64 p, .int .i64 ch, .int .i64 mx] 23)) w.heap.size 23 #[.int .i64 8, .int .i64 agg, .int .i64 W, .int .i64 k, .int .i64 cap, .int .i64 p, .int .i64 ch, .int .i64 mx] := Blk.new _ _ _
  have qB : Below w.heap.size w (w.alloc (.cells #[.int .i64 8, .int .i64 agg, .int .i64 W, .int .i64 k, .int .i64 cap, .int .i64 p, .int .i64 ch, .int .i64 mx] 23)) := Bl.alloc' (Below.refl _ _) _
  generalize (w.alloc (.cells #[.int .i64 8, .int .i64 agg, .int .i64 W, .int .i64 k, .int .i64 cap, .int .i64 p, .int .i64 ch, .int .i64 mx] 23)) = w1 at *
  have R1 := hide qR
  have B1 := hide qB
  clear qR qB
  obtain ⟨p0, p1, p2, p3, p4, p5, p6, p7⟩ := R1.out.eight
  go_wp2_with (first | (go_at_call 8; refine (C7.out _).mono ?_; rintro e w2 ⟨rfl, hbx⟩; have hby : Below w1.heap.size w1 w2 := hbx; have R2 := hide (R1.out.below hby R1.out.lt); have B2 := hide (Bl.call' B1.out hby); obtain ⟨e0, e1, e2, e3, e4, e5, e6, e7⟩ := R2.out.eight; clear hbx hby))
  all_goals
    go_ret
    exact ⟨rfl, B2.out⟩
set_option maxRecDepth 100000 in
set_option maxHeartbeats 1000000 in
theorem ans14_9_y (agg W k cap p ch mx op : Int) (w : World) (h : vC 9 agg W k cap p ch mx = 0) (h1 : op = 10) : Calls Try.prog 14 #[cfgV 9 agg W k cap p ch mx, .int .i64 op] w (fun e w' => e = .returned (.bool true) ∧ Below w.heap.size w w') := by
  subst h1
  have C7 := hide (fun w0 => rvalidate_any 9 agg W k cap p ch mx w0)
  unfold ValEnd at C7
  simp only [h] at C7
  clear h
  unfold cfgV at C7 ⊢
  go_enter Try.func14, Try.ntmps14
  go_upto_region 1 with (fail)
  have qR : Blk (w.alloc (.cells #[.int .i64 9, .int .i64 agg, .int .i64 W, .int .i64 k, .int .i64 cap, .int .i64 p, .int .i64 ch, .int .i64 mx] 23)) w.heap.size 23 #[.int .i64 9, .int .i64 agg, .int .i64 W, .int .i64 k, .int .i64 cap, .int .i64 p, .int .i64 ch, .int .i64 mx] := Blk.new _ _ _
  have qB : Below w.heap.size w (w.alloc (.cells #[.int .i64 9, .int .i64 agg, .int .i64 W, .int .i64 k, .int .i64 cap, .int .i64 p, .int .i64 ch, .int .i64 mx] 23)) := Bl.alloc' (Below.refl _ _) _
  generalize (w.alloc (.cells #[.int .i64 9, .int .i64 agg, .int .i64 W, .int .i64 k, .int .i64 cap, .int .i64 p, .int .i64 ch, .int .i64 mx] 23)) = w1 at *
  have R1 := hide qR
  have B1 := hide qB
  clear qR qB
  obtain ⟨p0, p1, p2, p3, p4, p5, p6, p7⟩ := R1.out.eight
  go_wp2_with (first | (go_at_call 8; refine (C7.out _).mono ?_; rintro e w2 ⟨rfl, hbx⟩; have hby : Below w1.heap.size w1 w2 := hbx; have R2 := hide (R1.out.below hby R1.out.lt); have B2 := hide (Bl.call' B1.out hby); obtain ⟨e0, e1, e2, e3, e4, e5, e6, e7⟩ := R2.out.eight; clear hbx hby))
  all_goals
    go_ret
    exact ⟨rfl, B2.out⟩
set_option maxRecDepth 100000 in
set_option maxHeartbeats 1000000 in
theorem ans14_9_n (agg W k cap p ch mx op : Int) (w : World) (h : vC 9 agg W k cap p ch mx = 0) (h1 : ¬ op = 10) : Calls Try.prog 14 #[cfgV 9 agg W k cap p ch mx, .int .i64 op] w (fun e w' => e = .returned (.bool false) ∧ Below w.heap.size w w') := by
  have e1 : (op == 10) = false := by simpa using h1
  have C7 := hide (fun w0 => rvalidate_any 9 agg W k cap p ch mx w0)
  unfold ValEnd at C7
  simp only [h] at C7
  clear h
  unfold cfgV at C7 ⊢
  go_enter Try.func14, Try.ntmps14
  go_upto_region 1 with (fail)
  have qR : Blk (w.alloc (.cells #[.int .i64 9, .int .i64 agg, .int .i64 W, .int .i64 k, .int .i64 cap, .int .i64 p, .int .i64 ch, .int .i64 mx] 23)) w.heap.size 23 #[.int .i64 9, .int .i64 agg, .int .i64 W, .int .i64 k, .int .i64 cap, .int .i64 p, .int .i64 ch, .int .i64 mx] := Blk.new _ _ _
  have qB : Below w.heap.size w (w.alloc (.cells #[.int .i64 9, .int .i64 agg, .int .i64 W, .int .i64 k, .int .i64 cap, .int .i64 p, .int .i64 ch, .int .i64 mx] 23)) := Bl.alloc' (Below.refl _ _) _
  generalize (w.alloc (.cells #[.int .i64 9, .int .i64 agg, .int .i64 W, .int .i64 k, .int .i64 cap, .int .i64 p, .int .i64 ch, .int .i64 mx] 23)) = w1 at *
  have R1 := hide qR
  have B1 := hide qB
  clear qR qB
  obtain ⟨p0, p1, p2, p3, p4, p5, p6, p7⟩ := R1.out.eight
  go_wp2_with (first | (go_at_call 8; refine (C7.out _).mono ?_; rintro e w2 ⟨rfl, hbx⟩; have hby : Below w1.heap.size w1 w2 := hbx; have R2 := hide (R1.out.below hby R1.out.lt); have B2 := hide (Bl.call' B1.out hby); obtain ⟨e0, e1, e2, e3, e4, e5, e6, e7⟩ := R2.out.eight; clear hbx hby))
  all_goals
    go_ret
    exact ⟨rfl, B2.out⟩
set_option maxRecDepth 100000 in
set_option maxHeartbeats 1000000 in
theorem ans14_10_y7 (agg W k cap p ch mx op : Int) (w : World) (h : vC 10 agg W k cap p ch mx = 0) (h1 : op = 7) : Calls Try.prog 14 #[cfgV 10 agg W k cap p ch mx, .int .i64 op] w (fun e w' => e = .returned (.bool true) ∧ Below w.heap.size w w') := by
  subst h1
  have C7 := hide (fun w0 => rvalidate_any 10 agg W k cap p ch mx w0)
  unfold ValEnd at C7
  simp only [h] at C7
  clear h
  unfold cfgV at C7 ⊢
  go_enter Try.func14, Try.ntmps14
  go_upto_region 1 with (fail)
  have qR : Blk (w.alloc (.cells #[.int .i64 10, .int .i64 agg, .int .i64 W, .int .i64 k, .int .i64 cap, .int .i64 p, .int .i64 ch, .int .i64 mx] 23)) w.heap.size 23 #[.int .i64 10, .int .i64 agg, .int .i64 W, .int .i64 k, .int .i64 cap, .int .i64 p, .int .i64 ch, .int .i64 mx] := Blk.new _ _ _
  have qB : Below w.heap.size w (w.alloc (.cells #[.int .i64 10, .int .i64 agg, .int .i64 W, .int .i64 k, .int .i64 cap, .int .i64 p, .int .i64 ch, .int .i64 mx] 23)) := Bl.alloc' (Below.refl _ _) _
  generalize (w.alloc (.cells #[.int .i64 10, .int .i64 agg, .int .i64 W, .int .i64 k, .int .i64 cap, .int .i64 p, .int .i64 ch, .int .i64 mx] 23)) = w1 at *
  have R1 := hide qR
  have B1 := hide qB
  clear qR qB
  obtain ⟨p0, p1, p2, p3, p4, p5, p6, p7⟩ := R1.out.eight
  go_wp2_with (first | (go_at_call 8; refine (C7.out _).mono ?_; rintro e w2 ⟨rfl, hbx⟩; have hby : Below w1.heap.size w1 w2 := hbx; have R2 := hide (R1.out.below hby R1.out.lt); have B2 := hide (Bl.call' B1.out hby); obtain ⟨e0, e1, e2, e3, e4, e5, e6, e7⟩ := R2.out.eight; clear hbx hby))
  all_goals
    go_ret
    exact ⟨rfl, B2.out⟩
set_option maxRecDepth 100000 in
set_option maxHeartbeats 1000000 in
theorem ans14_10_y8 (agg W k cap p ch mx op : Int) (w : World) (h : vC 10 agg W k cap p ch mx = 0) (h1 : op = 8) : Calls Try.prog 14 #[cfgV 10 agg W k cap p ch mx, .int .i64 op] w (fun e w' => e = .returned (.bool true) ∧ Below w.heap.size w w') := by
  subst h1
  have C7 := hide (fun w0 => rvalidate_any 10 agg W k cap p ch mx w0)
  unfold ValEnd at C7
  simp only [h] at C7
  clear h
  unfold cfgV at C7 ⊢
  go_enter Try.func14, Try.ntmps14
  go_upto_region 1 with (fail)
  have qR : Blk (w.alloc (.cells #[.int .i64 10, .int .i64 agg, .int .i64 W, .int .i64 k, .int .i64 cap, .int .i64 p, .int .i64 ch, .int .i64 mx] 23)) w.heap.size 23 #[.int .i64 10, .int .i64 agg, .int .i64 W, .int .i64 k, .int .i64 cap, .int .i64 p, .int .i64 ch, .int .i64 mx] := Blk.new _ _ _
  have qB : Below w.heap.size w (w.alloc (.cells #[.int .i64 10, .int .i64 agg, .int .i64 W, .int .i64 k, .int .i64 cap, .int .i64 p, .int .i64 ch, .int .i64 mx] 23)) := Bl.alloc' (Below.refl _ _) _
  generalize (w.alloc (.cells #[.int .i64 10, .int .i64 agg, .int .i64 W, .int .i64 k, .int .i64 cap, .int .i64 p, .int .i64 ch, .int .i64 mx] 23)) = w1 at *
  have R1 := hide qR
  have B1 := hide qB
  clear qR qB
  obtain ⟨p0, p1, p2, p3, p4, p5, p6, p7⟩ := R1.out.eight
  go_wp2_with (first | (go_at_call 8; refine (C7.out _).mono ?_; rintro e w2 ⟨rfl, hbx⟩; have hby : Below w1.heap.size w1 w2 := hbx; have R2 := hide (R1.out.below hby R1.out.lt); have B2 := hide (Bl.call' B1.out hby); obtain ⟨e0, e1, e2, e3, e4, e5, e6, e7⟩ := R2.out.eight; clear hbx hby))
  all_goals
    go_ret
    exact ⟨rfl, B2.out⟩
set_option maxRecDepth 100000 in
set_option maxHeartbeats 1000000 in
theorem ans14_10_n (agg W k cap p ch mx op : Int) (w : World) (h : vC 10 agg W k cap p ch mx = 0) (h1 : ¬ op = 7) (h2 : ¬ op = 8) : Calls Try.prog 14 #[cfgV 10 agg W k cap p ch mx, .int .i64 op] w (fun e w' => e = .returned (.bool false) ∧ Below w.heap.size w w') := by
  have e1 : (op == 7) = false := by simpa using h1
  have e2 : (op == 8) = false := by simpa using h2
  have C7 := hide (fun w0 => rvalidate_any 10 agg W k cap p ch mx w0)
  unfold ValEnd at C7
  simp only [h] at C7
  clear h
  unfold cfgV at C7 ⊢
  go_enter Try.func14, Try.ntmps14
  go_upto_region 1 with (fail)
  have qR : Blk (w.alloc (.cells #[.int .i64 10, .int .i64 agg, .int .i64 W, .int .i64 k, .int .i64 cap, .int .i64 p, .int .i64 ch, .int .i64 mx] 23)) w.heap.size 23 #[.int .i64 10, .int .i64 agg, .int .i64 W, .int .i64 k, .int .i64 cap, .int .i64 p, .int .i64 ch, .int .i64 mx] := Blk.new _ _ _
  have qB : Below w.heap.size w (w.alloc (.cells #[.int .i64 10, .int .i64 agg, .int .i64 W, .int .i64 k, .int .i64 cap, .int .i64 p, .int .i64 ch, .int .i64 mx] 23)) := Bl.alloc' (Below.refl _ _) _
  generalize (w.alloc (.cells #[.int .i64 10, .int .i64 agg, .int .i64 W, .int .i64 k, .int .i64 cap, .int .i64 p, .int .i64 ch, .int .i64 mx] 23)) = w1 at *
  have R1 := hide qR
  have B1 := hide qB
  clear qR qB
  obtain ⟨p0, p1, p2, p3, p4, p5, p6, p7⟩ := R1.out.eight
  go_wp2_with (first | (go_at_call 8; refine (C7.out _).mono ?_; rintro e w2 ⟨rfl, hbx⟩; have hby : Below w1.heap.size w1 w2 := hbx; have R2 := hide (R1.out.below hby R1.out.lt); have B2 := hide (Bl.call' B1.out hby); obtain ⟨e0, e1, e2, e3, e4, e5, e6, e7⟩ := R2.out.eight; clear hbx hby))
  all_goals
    go_ret
    exact ⟨rfl, B2.out⟩
set_option maxRecDepth 100000 in
set_option maxHeartbeats 1000000 in
theorem ans14_11_y7 (agg W k cap p ch mx op : Int) (w : World) (h : vC 11 agg W k cap p ch mx = 0) (h1 : op = 7) : Calls Try.prog 14 #[cfgV 11 agg W k cap p ch mx, .int .i64 op] w (fun e w' => e = .returned (.bool true) ∧ Below w.heap.size w w') := by
  subst h1
  have C7 := hide (fun w0 => rvalidate_any 11 agg W k cap p ch mx w0)
  unfold ValEnd at C7
  simp only [h] at C7
  clear h
  unfold cfgV at C7 ⊢
  go_enter Try.func14, Try.ntmps14
  go_upto_region 1 with (fail)
  have qR : Blk (w.alloc (.cells #[.int .i64 11, .int .i64 agg, .int .i64 W, .int .i64 k, .int .i64 cap, .int .i64 p, .int .i64 ch, .int .i64 mx] 23)) w.heap.size 23 #[.int .i64 11, .int .i64 agg, .int .i64 W, .int .i64 k, .int .i64 cap, .int .i64 p, .int .i64 ch, .int .i64 mx] := Blk.new _ _ _
  have qB : Below w.heap.size w (w.alloc (.cells #[.int .i64 11, .int .i64 agg, .int .i64 W, .int .i64 k, .int .i64 cap, .int .i64 p, .int .i64 ch, .int .i64 mx] 23)) := Bl.alloc' (Below.refl _ _) _
  generalize (w.alloc (.cells #[.int .i64 11, .int .i64 agg, .int .i64 W, .int .i64 k, .int .i64 cap, .int .i64 p, .int .i64 ch, .int .i64 mx] 23)) = w1 at *
  have R1 := hide qR
  have B1 := hide qB
  clear qR qB
  obtain ⟨p0, p1, p2, p3, p4, p5, p6, p7⟩ := R1.out.eight
  go_wp2_with (first | (go_at_call 8; refine (C7.out _).mono ?_; rintro e w2 ⟨rfl, hbx⟩; have hby : Below w1.heap.size w1 w2 := hbx; have R2 := hide (R1.out.below hby R1.out.lt); have B2 := hide (Bl.call' B1.out hby); obtain ⟨e0, e1, e2, e3, e4, e5, e6, e7⟩ := R2.out.eight; clear hbx hby))
  all_goals
    go_ret
    exact ⟨rfl, B2.out⟩
set_option maxRecDepth 100000 in
set_option maxHeartbeats 1000000 in
theorem ans14_11_y8 (agg W k cap p ch mx op : Int) (w : World) (h : vC 11 agg W k cap p ch mx = 0) (h1 : op = 8) : Calls Try.prog 14 #[cfgV 11 agg W k cap p ch mx, .int .i64 op] w (fun e w' => e = .returned (.bool true) ∧ Below w.heap.size w w') := by
  subst h1
  have C7 := hide (fun w0 => rvalidate_any 11 agg W k cap p ch mx w0)
  unfold ValEnd at C7
  simp only [h] at C7
  clear h
  unfold cfgV at C7 ⊢
  go_enter Try.func14, Try.ntmps14
  go_upto_region 1 with (fail)
  have qR : Blk (w.alloc (.cells #[.int .i64 11, .int .i64 agg, .int .i64 W, .int .i64 k, .int .i64 cap, .int .i64 p, .int .i64 ch, .int .i64 mx] 23)) w.heap.size 23 #[.int .i64 11, .int .i64 agg, .int .i64 W, .int .i64 k, .int .i64 cap, .int .i64 p, .int .i64 ch, .int .i64 mx] := Blk.new _ _ _
  have qB : Below w.heap.size w (w.alloc (.cells #[.int .i64 11, .int .i64 agg, .int .i64 W, .int .i64 k, .int .i64 cap, .int .i64 p, .int .i64 ch, .int .i64 mx] 23)) := Bl.alloc' (Below.refl _ _) _
  generalize (w.alloc (.cells #[.int .i64 11, .int .i64 agg, .int .i64 W, .int .i64 k, .int .i64 cap, .int .i64 p, .int .i64 ch, .int .i64 mx] 23)) = w1 at *
  have R1 := hide qR
  have B1 := hide qB
  clear qR qB
  obtain ⟨p0, p1, p2, p3, p4, p5, p6, p7⟩ := R1.out.eight
  go_wp2_with (first | (go_at_call 8; refine (C7.out _).mono ?_; rintro e w2 ⟨rfl, hbx⟩; have hby : Below w1.heap.size w1 w2 := hbx; have R2 := hide (R1.out.below hby R1.out.lt); have B2 := hide (Bl.call' B1.out hby); obtain ⟨e0, e1, e2, e3, e4, e5, e6, e7⟩ := R2.out.eight; clear hbx hby))
  all_goals
    go_ret
    exact ⟨rfl, B2.out⟩
set_option maxRecDepth 100000 in
set_option maxHeartbeats 1000000 in
theorem ans14_11_n (agg W k cap p ch mx op : Int) (w : World) (h : vC 11 agg W k cap p ch mx = 0) (h1 : ¬ op = 7) (h2 : ¬ op = 8) : Calls Try.prog 14 #[cfgV 11 agg W k cap p ch mx, .int .i64 op] w (fun e w' => e = .returned (.bool false) ∧ Below w.heap.size w w') := by
  have e1 : (op == 7) = false := by simpa using h1
  have e2 : (op == 8) = false := by simpa using h2
  have C7 := hide (fun w0 => rvalidate_any 11 agg W k cap p ch mx w0)
  unfold ValEnd at C7
  simp only [h] at C7
  clear h
  unfold cfgV at C7 ⊢
  go_enter Try.func14, Try.ntmps14
  go_upto_region 1 with (fail)
  have qR : Blk (w.alloc (.cells #[.int .i64 11, .int .i64 agg, .int .i64 W, .int .i64 k, .int .i64 cap, .int .i64 p, .int .i64 ch, .int .i64 mx] 23)) w.heap.size 23 #[.int .i64 11, .int .i64 agg, .int .i64 W, .int .i64 k, .int .i64 cap, .int .i64 p, .int .i64 ch, .int .i64 mx] := Blk.new _ _ _
  have qB : Below w.heap.size w (w.alloc (.cells #[.int .i64 11, .int .i64 agg, .int .i64 W, .int .i64 k, .int .i64 cap, .int .i64 p, .int .i64 ch, .int .i64 mx] 23)) := Bl.alloc' (Below.refl _ _) _
  generalize (w.alloc (.cells #[.int .i64 11, .int .i64 agg, .int .i64 W, .int .i64 k, .int .i64 cap, .int .i64 p, .int .i64 ch, .int .i64 mx] 23)) = w1 at *
  have R1 := hide qR
  have B1 := hide qB
  clear qR qB
  obtain ⟨p0, p1, p2, p3, p4, p5, p6, p7⟩ := R1.out.eight
  go_wp2_with (first | (go_at_call 8; refine (C7.out _).mono ?_; rintro e w2 ⟨rfl, hbx⟩; have hby : Below w1.heap.size w1 w2 := hbx; have R2 := hide (R1.out.below hby R1.out.lt); have B2 := hide (Bl.call' B1.out hby); obtain ⟨e0, e1, e2, e3, e4, e5, e6, e7⟩ := R2.out.eight; clear hbx hby))
  all_goals
    go_ret
    exact ⟨rfl, B2.out⟩
set_option maxRecDepth 100000 in
set_option maxHeartbeats 1000000 in
theorem ans14_4_y (agg W k cap p ch mx op : Int) (w : World) (h : vC 4 agg W k cap p ch mx = 0) (ha : 1 ≤ agg ∧ agg ≤ 4) (h1 : agg = op) : Calls Try.prog 14 #[cfgV 4 agg W k cap p ch mx, .int .i64 op] w (fun e w' => e = .returned (.bool true) ∧ Below w.heap.size w w') := by
  subst h1
  have C7 := hide (fun w0 => rvalidate_any 4 agg W k cap p ch mx w0)
  unfold ValEnd at C7
  simp only [h] at C7
  clear h
  unfold cfgV at C7 ⊢
  go_enter Try.func14, Try.ntmps14
  go_upto_region 1 with (fail)
  have qR : Blk (w.alloc (.cells #[.int .i64 4, .int .i64 agg, .int .i64 W, .int .i64 k, .int .i64 cap, .int .i64 p, .int .i64 ch, .int .i64 mx] 23)) w.heap.size 23 #[.int .i64 4, .int .i64 agg, .int .i64 W, .int .i64 k, .int .i64 cap, .int .i64 p, .int .i64 ch, .int .i64 mx] := Blk.new _ _ _
  have qB : Below w.heap.size w (w.alloc (.cells #[.int .i64 4, .int .i64 agg, .int .i64 W, .int .i64 k, .int .i64 cap, .int .i64 p, .int .i64 ch, .int .i64 mx] 23)) := Bl.alloc' (Below.refl _ _) _
  generalize (w.alloc (.cells #[.int .i64 4, .int .i64 agg, .int .i64 W, .int .i64 k, .int .i64 cap, .int .i64 p, .int .i64 ch, .int .i64 mx] 23)) = w1 at *
  have R1 := hide qR
  have B1 := hide qB
  clear qR qB
  obtain ⟨p0, p1, p2, p3, p4, p5, p6, p7⟩ := R1.out.eight
  go_wp2_with (first | (go_at_call 8; refine (C7.out _).mono ?_; rintro e w2 ⟨rfl, hbx⟩; have hby : Below w1.heap.size w1 w2 := hbx; have R2 := hide (R1.out.below hby R1.out.lt); have B2 := hide (Bl.call' B1.out hby); obtain ⟨e0, e1, e2, e3, e4, e5, e6, e7⟩ := R2.out.eight; clear hbx hby))
  all_goals
    go_ret
    exact ⟨rfl, B2.out⟩
set_option maxRecDepth 100000 in
set_option maxHeartbeats 1000000 in
theorem ans14_4_n (agg W k cap p ch mx op : Int) (w : World) (h : vC 4 agg W k cap p ch mx = 0) (ha : 1 ≤ agg ∧ agg ≤ 4) (hf1 : -9223372036854775808 ≤ op) (hf2 : op ≤ 9223372036854775807) (h1 : ¬ op = agg) : Calls Try.prog 14 #[cfgV 4 agg W k cap p ch mx, .int .i64 op] w (fun e w' => e = .returned (.bool false) ∧ Below w.heap.size w w') := by
  have e1 : (op == agg) = false := by simpa using h1
  have C7 := hide (fun w0 => rvalidate_any 4 agg W k cap p ch mx w0)
  unfold ValEnd at C7
  simp only [h] at C7
  clear h
  unfold cfgV at C7 ⊢
  go_enter Try.func14, Try.ntmps14
  go_upto_region 1 with (fail)
  have qR : Blk (w.alloc (.cells #[.int .i64 4, .int .i64 agg, .int .i64 W, .int .i64 k, .int .i64 cap, .int .i64 p, .int .i64 ch, .int .i64 mx] 23)) w.heap.size 23 #[.int .i64 4, .int .i64 agg, .int .i64 W, .int .i64 k, .int .i64 cap, .int .i64 p, .int .i64 ch, .int .i64 mx] := Blk.new _ _ _
  have qB : Below w.heap.size w (w.alloc (.cells #[.int .i64 4, .int .i64 agg, .int .i64 W, .int .i64 k, .int .i64 cap, .int .i64 p, .int .i64 ch, .int .i64 mx] 23)) := Bl.alloc' (Below.refl _ _) _
  generalize (w.alloc (.cells #[.int .i64 4, .int .i64 agg, .int .i64 W, .int .i64 k, .int .i64 cap, .int .i64 p, .int .i64 ch, .int .i64 mx] 23)) = w1 at *
  have R1 := hide qR
  have B1 := hide qB
  clear qR qB
  obtain ⟨p0, p1, p2, p3, p4, p5, p6, p7⟩ := R1.out.eight
  go_wp2_with (first | (go_at_call 8; refine (C7.out _).mono ?_; rintro e w2 ⟨rfl, hbx⟩; have hby : Below w1.heap.size w1 w2 := hbx; have R2 := hide (R1.out.below hby R1.out.lt); have B2 := hide (Bl.call' B1.out hby); obtain ⟨e0, e1, e2, e3, e4, e5, e6, e7⟩ := R2.out.eight; clear hbx hby))
  all_goals
    go_ret
    exact ⟨rfl, B2.out⟩
end Go.Proofs.Ytmlddoajfgmoaaa
