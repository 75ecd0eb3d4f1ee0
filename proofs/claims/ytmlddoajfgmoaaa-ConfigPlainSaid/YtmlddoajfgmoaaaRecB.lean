/- The greatest number of records of a configuration: the reference's function. -/
import Derived.Test.YtmlddoajfgmoaaaRvAll
import Derived.Test.YtmlddoajfgmoaaaMostB
namespace Go.Proofs.Ytmlddoajfgmoaaa
open Go.RowKit
set_option linter.unusedVariables false
set_option maxRecDepth 100000 in
set_option maxHeartbeats 1000000 in
theorem rec11_no (kind agg W k cap p ch mx : Int) (w : World) (h : vC kind agg W k cap p ch mx = 1) : Calls Try.prog 11 #[cfgV kind agg W k cap p ch mx] w (fun e w' => e = .returned (.int .i64 0) ∧ Below w.heap.size w w') := by
  have C7 := hide (fun w0 => rvalidate_any kind agg W k cap p ch mx w0)
  unfold ValEnd at C7
  simp only [h] at C7
  clear h
  unfold cfgV at C7 ⊢
  go_enter Try.func11, Try.ntmps11
  go_upto_region 1 with (fail)
  have qR : Blk (w.alloc (.cells #[.int .i64 kind, .int .i64 agg, .int .i64 W, .int .i64 k, .int .i64 cap, .int .i64 p, .int .i64 ch, .int .i64 mx] 23)) w.heap.size 23 #[.int .i64 kind, .int .i64 agg, .int .i64 W, .int .i64 k, .int .i64 cap, .int .i64 p, .int .i64 ch, .int .i64 mx] := Blk.new _ _ _
  have qB : Below w.heap.size w (w.alloc (.cells #[.int .i64 kind, .int .i64 agg, .int .i64 W, .int .i64 k, .int .i64 cap, .int .i64 p, .int .i64 ch, .int .i64 mx] 23)) := Bl.alloc' (Below.refl _ _) _
  generalize (w.alloc (.cells #[.int .i64 kind, .int .i64 agg, .int .i64 W, .int .i64 k, .int .i64 cap, .int .i64 p, .int .i64 ch, .int .i64 mx] 23)) = w1 at *
  have R1 := hide qR
  have B1 := hide qB
  clear qR qB
  obtain ⟨p0, p1, p2, p3, p4, p5, p6, p7⟩ := R1.out.eight
  go_wp2_with (first | (go_at_call 8; refine (C7.out _).mono ?_; rintro e w2 ⟨rfl, hbx⟩; have hby : Below w1.heap.size w1 w2 := hbx; have R2 := hide (R1.out.below hby R1.out.lt); have B2 := hide (Bl.call' B1.out hby); obtain ⟨e0, e1, e2, e3, e4, e5, e6, e7⟩ := R2.out.eight; clear hbx hby))
  all_goals
    go_ret
    exact ⟨rfl, B2.out⟩
set_option maxRecDepth 100000 in
set_option maxHeartbeats 1000000 in
theorem rec11_1 (agg W k cap p ch mx : Int) (w : World) (h : vC 1 agg W k cap p ch mx = 0) : Calls Try.prog 11 #[cfgV 1 agg W k cap p ch mx] w (fun e w' => e = .returned (.int .i64 (cap)) ∧ Below w.heap.size w w') := by
  have C7 := hide (fun w0 => rvalidate_any 1 agg W k cap p ch mx w0)
  unfold ValEnd at C7
  simp only [h] at C7
  clear h
  unfold cfgV at C7 ⊢
  go_enter Try.func11, Try.ntmps11
  go_upto_region 1 with (fail)
  have qR : Blk (w.alloc (.cells #[.int .i64 1, .int .i64 agg, .int .i64 W, .int .i64 k, .int .i64 cap, .int .i64 p, .int .i64 ch, .int .i64 mx] 23)) w.heap.size 23 #[.int .i64 1, .int .i64 agg, .int .i64 W, .int .i64 k, .int .i64 cap, .int .i64 p, .int .i64 ch, .int .i64 mx] := Blk.new _ _ _
  have qB : Below w.heap.size w (w.alloc (.cells #[.int .i64 1, .int .i64 agg, .int .i64 W, .int .i64 k, .int .i64 cap, .int .i64 p, .int .i64 ch, .int .i64 mx] 23)) := Bl.alloc' (Below.refl _ _) _
  generalize (w.alloc (.cells #[.int .i64 1, .int .i64 agg, .int .i64 W, .int .i64 k, .int .i64 cap, .int .i64 p, .int .i64 ch, .int .i64 mx] 23)) = w1 at *
  have R1 := hide qR
  have B1 := hide qB
  clear qR qB
  obtain ⟨p0, p1, p2, p3, p4, p5, p6, p7⟩ := R1.out.eight
  go_wp2_with (first | (go_at_call 8; refine (C7.out _).mono ?_; rintro e w2 ⟨rfl, hbx⟩; have hby : Below w1.heap.size w1 w2 := hbx; have R2 := hide (R1.out.below hby R1.out.lt); have B2 := hide (Bl.call' B1.out hby); obtain ⟨e0, e1, e2, e3, e4, e5, e6, e7⟩ := R2.out.eight; clear hbx hby))
  all_goals
    go_ret
    exact ⟨rfl, B2.out⟩
set_option maxRecDepth 100000 in
set_option maxHeartbeats 1000000 in
theorem rec11_2 (agg W k cap p ch mx : Int) (w : World) (h : vC 2 agg W k cap p ch mx = 0) (hk : 1 ≤ k ∧ k ≤ 64) (hc : 1 ≤ cap ∧ cap ≤ 65536) : Calls Try.prog 11 #[cfgV 2 agg W k cap p ch mx] w (fun e w' => e = .returned (.int .i64 (most10 k cap)) ∧ Below w.heap.size w w') := by
  have CM := hide (fun w0 => most22 k cap w0 hk hc)
  unfold NumEnd at CM
  generalize most10 k cap = res at *
  have C7 := hide (fun w0 => rvalidate_any 2 agg W k cap p ch mx w0)
  unfold ValEnd at C7
  simp only [h] at C7
  clear h
  unfold cfgV at C7 ⊢
  go_enter Try.func11, Try.ntmps11
  go_upto_region 1 with (fail)
  have qR : Blk (w.alloc (.cells #[.int .i64 2, .int .i64 agg, .int .i64 W, .int .i64 k, .int .i64 cap, .int .i64 p, .int .i64 ch, .int .i64 mx] 23)) w.heap.size 23 #[.int .i64 2, .int .i64 agg, .int .i64 W, .int .i64 k, .int .i64 cap, .int .i64 p, .int .i64 ch, .int .i64 mx] := Blk.new _ _ _
  have qB : Below w.heap.size w (w.alloc (.cells #[.int .i64 2, .int .i64 agg, .int .i64 W, .int .i64 k, .int .i64 cap, .int .i64 p, .int .i64 ch, .int .i64 mx] 23)) := Bl.alloc' (Below.refl _ _) _
  generalize (w.alloc (.cells #[.int .i64 2, .int .i64 agg, .int .i64 W, .int .i64 k, .int .i64 cap, .int .i64 p, .int .i64 ch, .int .i64 mx] 23)) = w1 at *
  have R1 := hide qR
  have B1 := hide qB
  clear qR qB
  obtain ⟨p0, p1, p2, p3, p4, p5, p6, p7⟩ := R1.out.eight
  go_wp2_with (first | (go_at_call 8; refine (C7.out _).mono ?_; rintro e w2 ⟨rfl, hbx⟩; have hby : Below w1.heap.size w1 w2 := hbx; have R2 := hide (R1.out.below hby R1.out.lt); have B2 := hide (Bl.call' B1.out hby); obtain ⟨e0, e1, e2, e3, e4, e5, e6, e7⟩ := R2.out.eight; clear hbx hby) | (go_at_call 22; refine (CM.out _).mono ?_; rintro e w3 ⟨rfl, rfl⟩))
  all_goals
    go_ret
    exact ⟨rfl, B2.out⟩
set_option maxRecDepth 100000 in
set_option maxHeartbeats 1000000 in
theorem rec11_3 (agg W k cap p ch mx : Int) (w : World) (h : vC 3 agg W k cap p ch mx = 0) (hk : 1 ≤ k ∧ k ≤ 64) (hc : 1 ≤ cap ∧ cap ≤ 65536) : Calls Try.prog 11 #[cfgV 3 agg W k cap p ch mx] w (fun e w' => e = .returned (.int .i64 (most10 k cap)) ∧ Below w.heap.size w w') := by
  have CM := hide (fun w0 => most22 k cap w0 hk hc)
  unfold NumEnd at CM
  generalize most10 k cap = res at *
  have C7 := hide (fun w0 => rvalidate_any 3 agg W k cap p ch mx w0)
  unfold ValEnd at C7
  simp only [h] at C7
  clear h
  unfold cfgV at C7 ⊢
  go_enter Try.func11, Try.ntmps11
  go_upto_region 1 with (fail)
  have qR : Blk (w.alloc (.cells #[.int .i64 3, .int .i64 agg, .int .i64 W, .int .i64 k, .int .i64 cap, .int .i64 p, .int .i64 ch, .int .i64 mx] 23)) w.heap.size 23 #[.int .i64 3, .int .i64 agg, .int .i64 W, .int .i64 k, .int .i64 cap, .int .i64 p, .int .i64 ch, .int .i64 mx] := Blk.new _ _ _
  have qB : Below w.heap.size w (w.alloc (.cells #[.int .i64 3, .int .i64 agg, .int .i64 W, .int .i64 k, .int .i64 cap, .int .i64 p, .int .i64 ch, .int .i64 mx] 23)) := Bl.alloc' (Below.refl _ _) _
  generalize (w.alloc (.cells #[.int .i64 3, .int .i64 agg, .int .i64 W, .int .i64 k, .int .i64 cap, .int .i64 p, .int .i64 ch, .int .i64 mx] 23)) = w1 at *
  have R1 := hide qR
  have B1 := hide qB
  clear qR qB
  obtain ⟨p0, p1, p2, p3, p4, p5, p6, p7⟩ := R1.out.eight
  go_wp2_with (first | (go_at_call 8; refine (C7.out _).mono ?_; rintro e w2 ⟨rfl, hbx⟩; have hby : Below w1.heap.size w1 w2 := hbx; have R2 := hide (R1.out.below hby R1.out.lt); have B2 := hide (Bl.call' B1.out hby); obtain ⟨e0, e1, e2, e3, e4, e5, e6, e7⟩ := R2.out.eight; clear hbx hby) | (go_at_call 22; refine (CM.out _).mono ?_; rintro e w3 ⟨rfl, rfl⟩))
  all_goals
    go_ret
    exact ⟨rfl, B2.out⟩
set_option maxRecDepth 100000 in
set_option maxHeartbeats 1000000 in
theorem rec11_4 (agg W k cap p ch mx : Int) (w : World) (h : vC 4 agg W k cap p ch mx = 0) (ha : 1 ≤ agg ∧ agg ≤ 4) (hk : 1 ≤ k ∧ k ≤ 64) (hc : 1 ≤ cap ∧ cap ≤ 65536) : Calls Try.prog 11 #[cfgV 4 agg W k cap p ch mx] w (fun e w' => e = .returned (.int .i64 (most13 agg k cap)) ∧ Below w.heap.size w w') := by
  have CM := hide (fun w0 => most23r agg k cap w0 ha hk hc)
  unfold NumEnd at CM
  generalize most13 agg k cap = res at *
  have C7 := hide (fun w0 => rvalidate_any 4 agg W k cap p ch mx w0)
  unfold ValEnd at C7
  simp only [h] at C7
  clear h
  unfold cfgV at C7 ⊢
  go_enter Try.func11, Try.ntmps11
  go_upto_region 1 with (fail)
  have qR : Blk (w.alloc (.cells #[.int .i64 4, .int .i64 agg, .int .i64 W, .int .i64 k, .int .i64 cap, .int .i64 p, .int .i64 ch, .int .i64 mx] 23)) w.heap.size 23 #[.int .i64 4, .int .i64 agg, .int .i64 W, .int .i64 k, .int .i64 cap, .int .i64 p, .int .i64 ch, .int .i64 mx] := Blk.new _ _ _
  have qB : Below w.heap.size w (w.alloc (.cells #[.int .i64 4, .int .i64 agg, .int .i64 W, .int .i64 k, .int .i64 cap, .int .i64 p, .int .i64 ch, .int .i64 mx] 23)) := Bl.alloc' (Below.refl _ _) _
  generalize (w.alloc (.cells #[.int .i64 4, .int .i64 agg, .int .i64 W, .int .i64 k, .int .i64 cap, .int .i64 p, .int .i64 ch, .int .i64 mx] 23)) = w1 at *
  have R1 := hide qR
  have B1 := hide qB
  clear qR qB
  obtain ⟨p0, p1, p2, p3, p4, p5, p6, p7⟩ := R1.out.eight
  go_wp2_with (first | (go_at_call 8; refine (C7.out _).mono ?_; rintro e w2 ⟨rfl, hbx⟩; have hby : Below w1.heap.size w1 w2 := hbx; have R2 := hide (R1.out.below hby R1.out.lt); have B2 := hide (Bl.call' B1.out hby); obtain ⟨e0, e1, e2, e3, e4, e5, e6, e7⟩ := R2.out.eight; clear hbx hby) | (go_at_call 23; refine (CM.out _).mono ?_; rintro e w3 ⟨rfl, rfl⟩))
  all_goals
    go_ret
    exact ⟨rfl, B2.out⟩
set_option maxRecDepth 100000 in
set_option maxHeartbeats 1000000 in
theorem rec11_5 (agg W k cap p ch mx : Int) (w : World) (h : vC 5 agg W k cap p ch mx = 0) (hk : 1 ≤ k ∧ k ≤ 64) (hc : 1 ≤ cap ∧ cap ≤ 65536) : Calls Try.prog 11 #[cfgV 5 agg W k cap p ch mx] w (fun e w' => e = .returned (.int .i64 (most14 k cap)) ∧ Below w.heap.size w w') := by
  have CM := hide (fun w0 => most24 k cap w0 hk hc)
  unfold NumEnd at CM
  generalize most14 k cap = res at *
  have C7 := hide (fun w0 => rvalidate_any 5 agg W k cap p ch mx w0)
  unfold ValEnd at C7
  simp only [h] at C7
  clear h
  unfold cfgV at C7 ⊢
  go_enter Try.func11, Try.ntmps11
  go_upto_region 1 with (fail)
  have qR : Blk (w.alloc (.cells #[.int .i64 5, .int .i64 agg, .int .i64 W, .int .i64 k, .int .i64 cap, .int .i64 p, .int .i64 ch, .int .i64 mx] 23)) w.heap.size 23 #[.int .i64 5, .int .i64 agg, .int .i64 W, .int .i64 k, .int .i64 cap, .int .i64 p, .int .i64 ch, .int .i64 mx] := Blk.new _ _ _
  have qB : Below w.heap.size w (w.alloc (.cells #[.int .i64 5, .int .i64 agg, .int .i64 W, .int .i64 k, .int .i64 cap, .int .i64 p, .int .i64 ch, .int .i64 mx] 23)) := Bl.alloc' (Below.refl _ _) _
  generalize (w.alloc (.cells #[.int .i64 5, .int .i64 agg, .int .i64 W, .int .i64 k, .int .i64 cap, .int .i64 p, .int .i64 ch, .int .i64 mx] 23)) = w1 at *
  have R1 := hide qR
  have B1 := hide qB
  clear qR qB
  obtain ⟨p0, p1, p2, p3, p4, p5, p6, p7⟩ := R1.out.eight
  go_wp2_with (first | (go_at_call 8; refine (C7.out _).mono ?_; rintro e w2 ⟨rfl, hbx⟩; have hby : Below w1.heap.size w1 w2 := hbx; have R2 := hide (R1.out.below hby R1.out.lt); have B2 := hide (Bl.call' B1.out hby); obtain ⟨e0, e1, e2, e3, e4, e5, e6, e7⟩ := R2.out.eight; clear hbx hby) | (go_at_call 24; refine (CM.out _).mono ?_; rintro e w3 ⟨rfl, rfl⟩))
  all_goals
    go_ret
    exact ⟨rfl, B2.out⟩
set_option maxRecDepth 100000 in
set_option maxHeartbeats 1000000 in
theorem rec11_6 (agg W k cap p ch mx : Int) (w : World) (h : vC 6 agg W k cap p ch mx = 0) (hp : 0 ≤ p ∧ p ≤ 4) : Calls Try.prog 11 #[cfgV 6 agg W k cap p ch mx] w (fun e w' => e = .returned (.int .i64 (p + 1)) ∧ Below w.heap.size w w') := by
  have C7 := hide (fun w0 => rvalidate_any 6 agg W k cap p ch mx w0)
  unfold ValEnd at C7
  simp only [h] at C7
  clear h
  unfold cfgV at C7 ⊢
  go_enter Try.func11, Try.ntmps11
  go_upto_region 1 with (fail)
  have qR : Blk (w.alloc (.cells #[.int .i64 6, .int .i64 agg, .int .i64 W, .int .i64 k, .int .i64 cap, .int .i64 p, .int .i64 ch, .int .i64 mx] 23)) w.heap.size 23 #[.int .i64 6, .int .i64 agg, .int .i64 W, .int .i64 k, .int .i64 cap, .int .i64 p, .int .i64 ch, .int .i64 mx] := Blk.new _ _ _
  have qB : Below w.heap.size w (w.alloc (.cells #[.int .i64 6, .int .i64 agg, .int .i64 W, .int .i64 k, .int .i64 cap, .int .i64 p, .int .i64 ch, .int .i64 mx] 23)) := Bl.alloc' (Below.refl _ _) _
  generalize (w.alloc (.cells #[.int .i64 6, .int .i64 agg, .int .i64 W, .int .i64 k, .int .i64 cap, .int .i64 p, .int .i64 ch, .int .i64 mx] 23)) = w1 at *
  have R1 := hide qR
  have B1 := hide qB
  clear qR qB
  obtain ⟨p0, p1, p2, p3, p4, p5, p6, p7⟩ := R1.out.eight
  go_wp2_with (first | (go_at_call 8; refine (C7.out _).mono ?_; rintro e w2 ⟨rfl, hbx⟩; have hby : Below w1.heap.size w1 w2 := hbx; have R2 := hide (R1.out.below hby R1.out.lt); have B2 := hide (Bl.call' B1.out hby); obtain ⟨e0, e1, e2, e3, e4, e5, e6, e7⟩ := R2.out.eight; clear hbx hby))
  all_goals
    go_ret
    exact ⟨rfl, B2.out⟩
set_option maxRecDepth 100000 in
set_option maxHeartbeats 1000000 in
theorem rec11_7 (agg W k cap p ch mx : Int) (w : World) (h : vC 7 agg W k cap p ch mx = 0) (hw : 1 ≤ W ∧ W ≤ 64) : Calls Try.prog 11 #[cfgV 7 agg W k cap p ch mx] w (fun e w' => e = .returned (.int .i64 (W)) ∧ Below w.heap.size w w') := by
  have C7 := hide (fun w0 => rvalidate_any 7 agg W k cap p ch mx w0)
  unfold ValEnd at C7
  simp only [h] at C7
  clear h
  unfold cfgV at C7 ⊢
  go_enter Try.func11, Try.ntmps11
  go_upto_region 1 with (fail)
  have qR : Blk (w.alloc (.cells #[.int .i64 7, .int .i64 agg, .int .i64 W, .int .i64 k, .int .i64 cap, .int .i64 p, .int .i64 ch, .int .i64 mx] 23)) w.heap.size 23 #[.int .i64 7, .int .i64 agg, .int .i64 W, .int .i64 k, .int .i64 cap, .int .i64 p, .int .i64 ch, .int .i64 mx] := Blk.new _ _ _
  have qB : Below w.heap.size w (w.alloc (.cells #[.int .i64 7, .int .i64 agg, .int .i64 W, .int .i64 k, .int .i64 cap, .int .i64 p, .int .i64 ch, .int .i64 mx] 23)) := Bl.alloc' (Below.refl _ _) _
  generalize (w.alloc (.cells #[.int .i64 7, .int .i64 agg, .int .i64 W, .int .i64 k, .int .i64 cap, .int .i64 p, .int .i64 ch, .int .i64 mx] 23)) = w1 at *
  have R1 := hide qR
  have B1 := hide qB
  clear qR qB
  obtain ⟨p0, p1, p2, p3, p4, p5, p6, p7⟩ := R1.out.eight
  go_wp2_with (first | (go_at_call 8; refine (C7.out _).mono ?_; rintro e w2 ⟨rfl, hbx⟩; have hby : Below w1.heap.size w1 w2 := hbx; have R2 := hide (R1.out.below hby R1.out.lt); have B2 := hide (Bl.call' B1.out hby); obtain ⟨e0, e1, e2, e3, e4, e5, e6, e7⟩ := R2.out.eight; clear hbx hby))
  all_goals
    go_ret
    exact ⟨rfl, B2.out⟩
set_option maxRecDepth 100000 in
set_option maxHeartbeats 1000000 in
theorem rec11_8 (agg W k cap p ch mx : Int) (w : World) (h : vC 8 agg W k cap p ch mx = 0) (hc : 1 ≤ cap ∧ cap ≤ 65536) (hw : 1 ≤ W ∧ W ≤ 1048576) : Calls Try.prog 11 #[cfgV 8 agg W k cap p ch mx] w (fun e w' => e = .returned (.int .i64 (min W cap)) ∧ Below w.heap.size w w') := by
  have C7 := hide (fun w0 => rvalidate_any 8 agg W k cap p ch mx w0)
  unfold ValEnd at C7
  simp only [h] at C7
  clear h
  unfold cfgV at C7 ⊢
  go_enter Try.func11, Try.ntmps11
  go_upto_region 1 with (fail)
  have qR : Blk (w.alloc (.cells #[.int .i64 8, .int .i64 agg, .int .i64 W, .int .i64 k, .int .i64 cap, .int .i64 p, .int .i64 ch, .int .i64 mx] 23)) w.heap.size 23 #[.int .i64 8, .int .i64 agg, .int .i64 W, .int .i64 k, .int .i64 cap, .int .i64 p, .int .i64 ch, .int .i64 mx] := Blk.new _ _ _
  have qB : Below w.heap.size w (w.alloc (.cells #[.int .i64 8, .int .i64 agg, .int .i64 W, .int .i64 k, .int .i64 cap, .int .i64 p, .int .i64 ch, .int .i64 mx] 23)) := Bl.alloc' (Below.refl _ _) _
  generalize (w.alloc (.cells #[.int .i64 8, .int .i64 agg, .int .i64 W, .int .i64 k, .int .i64 cap, .int .i64 p, .int .i64 ch, .int .i64 mx] 23)) = w1 at *
  have R1 := hide qR
  have B1 := hide qB
  clear qR qB
  obtain ⟨p0, p1, p2, p3, p4, p5, p6, p7⟩ := R1.out.eight
  go_wp2_with (first | (go_at_call 8; refine (C7.out _).mono ?_; rintro e w2 ⟨rfl, hbx⟩; have hby : Below w1.heap.size w1 w2 := hbx; have R2 := hide (R1.out.below hby R1.out.lt); have B2 := hide (Bl.call' B1.out hby); obtain ⟨e0, e1, e2, e3, e4, e5, e6, e7⟩ := R2.out.eight; clear hbx hby))
  all_goals
    go_ret
    exact ⟨rfl, B2.out⟩
set_option maxRecDepth 100000 in
set_option maxHeartbeats 1000000 in
theorem rec11_9 (agg W k cap p ch mx : Int) (w : World) (h : vC 9 agg W k cap p ch mx = 0) (hh : 1 ≤ ch ∧ ch ≤ 16) (hc : 1 ≤ cap ∧ cap ≤ 64) : Calls Try.prog 11 #[cfgV 9 agg W k cap p ch mx] w (fun e w' => e = .returned (.int .i64 (ch * cap)) ∧ Below w.heap.size w w') := by
  have hm := mul_bd (a := ch) (b := cap) (A := 16) (B := 64) (by omega) (by omega) (by omega) (by omega)
  have C7 := hide (fun w0 => rvalidate_any 9 agg W k cap p ch mx w0)
  unfold ValEnd at C7
  simp only [h] at C7
  clear h
  unfold cfgV at C7 ⊢
  go_enter Try.func11, Try.ntmps11
  go_upto_region 1 with (fail)
  have qR : Blk (w.alloc (.cells #[.int .i64 9, .int .i64 agg, .int .i64 W, .int .i64 k, .int .i64 cap, .int .i64 p, .int .i64 ch, .int .i64 mx] 23)) w.heap.size 23 #[.int .i64 9, .int .i64 agg, .int .i64 W, .int .i64 k, .int .i64 cap, .int .i64 p, .int .i64 ch, .int .i64 mx] := Blk.new _ _ _
  have qB : Below w.heap.size w (w.alloc (.cells #[.int .i64 9, .int .i64 agg, .int .i64 W, .int .i64 k, .int .i64 cap, .int .i64 p, .int .i64 ch, .int .i64 mx] 23)) := Bl.alloc' (Below.refl _ _) _
  generalize (w.alloc (.cells #[.int .i64 9, .int .i64 agg, .int .i64 W, .int .i64 k, .int .i64 cap, .int .i64 p, .int .i64 ch, .int .i64 mx] 23)) = w1 at *
  have R1 := hide qR
  have B1 := hide qB
  clear qR qB
  obtain ⟨p0, p1, p2, p3, p4, p5, p6, p7⟩ := R1.out.eight
  go_wp2_with (first | (go_at_call 8; refine (C7.out _).mono ?_; rintro e w2 ⟨rfl, hbx⟩; have hby : Below w1.heap.size w1 w2 := hbx; have R2 := hide (R1.out.below hby R1.out.lt); have B2 := hide (Bl.call' B1.out hby); obtain ⟨e0, e1, e2, e3, e4, e5, e6, e7⟩ := R2.out.eight; clear hbx hby))
  all_goals
    go_ret
    exact ⟨rfl, B2.out⟩
set_option maxRecDepth 100000 in
set_option maxHeartbeats 1000000 in
theorem rec11_10 (agg W k cap p ch mx : Int) (w : World) (h : vC 10 agg W k cap p ch mx = 0) : Calls Try.prog 11 #[cfgV 10 agg W k cap p ch mx] w (fun e w' => e = .returned (.int .i64 (cap)) ∧ Below w.heap.size w w') := by
  have C7 := hide (fun w0 => rvalidate_any 10 agg W k cap p ch mx w0)
  unfold ValEnd at C7
  simp only [h] at C7
  clear h
  unfold cfgV at C7 ⊢
  go_enter Try.func11, Try.ntmps11
  go_upto_region 1 with (fail)
  have qR : Blk (w.alloc (.cells #[.int .i64 10, .int .i64 agg, .int .i64 W, .int .i64 k, .int .i64 cap, .int .i64 p, .int .i64 ch, .int .i64 mx] 23)) w.heap.size 23 #[.int .i64 10, .int .i64 agg, .int .i64 W, .int .i64 k, .int .i64 cap, .int .i64 p, .int .i64 ch, .int .i64 mx] := Blk.new _ _ _
  have qB : Below w.heap.size w (w.alloc (.cells #[.int .i64 10, .int .i64 agg, .int .i64 W, .int .i64 k, .int .i64 cap, .int .i64 p, .int .i64 ch, .int .i64 mx] 23)) := Bl.alloc' (Below.refl _ _) _
  generalize (w.alloc (.cells #[.int .i64 10, .int .i64 agg, .int .i64 W, .int .i64 k, .int .i64 cap, .int .i64 p, .int .i64 ch, .int .i64 mx] 23)) = w1 at *
  have R1 := hide qR
  have B1 := hide qB
  clear qR qB
  obtain ⟨p0, p1, p2, p3, p4, p5, p6, p7⟩ := R1.out.eight
  go_wp2_with (first | (go_at_call 8; refine (C7.out _).mono ?_; rintro e w2 ⟨rfl, hbx⟩; have hby : Below w1.heap.size w1 w2 := hbx; have R2 := hide (R1.out.below hby R1.out.lt); have B2 := hide (Bl.call' B1.out hby); obtain ⟨e0, e1, e2, e3, e4, e5, e6, e7⟩ := R2.out.eight; clear hbx hby))
  all_goals
    go_ret
    exact ⟨rfl, B2.out⟩
set_option maxRecDepth 100000 in
set_option maxHeartbeats 1000000 in
theorem rec11_11 (agg W k cap p ch mx : Int) (w : World) (h : vC 11 agg W k cap p ch mx = 0) (hk : 1 ≤ k ∧ k ≤ 64) (hc : 1 ≤ cap ∧ cap ≤ 65536) : Calls Try.prog 11 #[cfgV 11 agg W k cap p ch mx] w (fun e w' => e = .returned (.int .i64 (most23 k cap)) ∧ Below w.heap.size w w') := by
  have CM := hide (fun w0 => most25 k cap w0 hk hc)
  unfold NumEnd at CM
  generalize most23 k cap = res at *
  have C7 := hide (fun w0 => rvalidate_any 11 agg W k cap p ch mx w0)
  unfold ValEnd at C7
  simp only [h] at C7
  clear h
  unfold cfgV at C7 ⊢
  go_enter Try.func11, Try.ntmps11
  go_upto_region 1 with (fail)
  have qR : Blk (w.alloc (.cells #[.int .i64 11, .int .i64 agg, .int .i64 W, .int .i64 k, .int .i64 cap, .int .i64 p, .int .i64 ch, .int .i64 mx] 23)) w.heap.size 23 #[.int .i64 11, .int .i64 agg, .int .i64 W, .int .i64 k, .int .i64 cap, .int .i64 p, .int .i64 ch, .int .i64 mx] := Blk.new _ _ _
  have qB : Below w.heap.size w (w.alloc (.cells #[.int .i64 11, .int .i64 agg, .int .i64 W, .int .i64 k, .int .i64 cap, .int .i64 p, .int .i64 ch, .int .i64 mx] 23)) := Bl.alloc' (Below.refl _ _) _
  generalize (w.alloc (.cells #[.int .i64 11, .int .i64 agg, .int .i64 W, .int .i64 k, .int .i64 cap, .int .i64 p, .int .i64 ch, .int .i64 mx] 23)) = w1 at *
  have R1 := hide qR
  have B1 := hide qB
  clear qR qB
  obtain ⟨p0, p1, p2, p3, p4, p5, p6, p7⟩ := R1.out.eight
  go_wp2_with (first | (go_at_call 8; refine (C7.out _).mono ?_; rintro e w2 ⟨rfl, hbx⟩; have hby : Below w1.heap.size w1 w2 := hbx; have R2 := hide (R1.out.below hby R1.out.lt); have B2 := hide (Bl.call' B1.out hby); obtain ⟨e0, e1, e2, e3, e4, e5, e6, e7⟩ := R2.out.eight; clear hbx hby) | (go_at_call 25; refine (CM.out _).mono ?_; rintro e w3 ⟨rfl, rfl⟩))
  all_goals
    go_ret
    exact ⟨rfl, B2.out⟩
end Go.Proofs.Ytmlddoajfgmoaaa
