/- The greatest number of records of a configuration: the laws' walks, part 4, a case. -/
import Derived.Test.YtmlddoajfgmoaaaLPl
namespace Go.Proofs.Ytmlddoajfgmoaaa
open Go.RowKit
set_option linter.unusedVariables false
set_option maxRecDepth 100000 in
set_option maxHeartbeats 10000000 in
theorem cp_4 (kind agg W k cap p ch mx field value : Int) (w : World) (h : vC kind agg W k cap p ch mx = 0) (hz : ¬ value = 0) (hx : bits .and .i64 field 7 = 4) : Calls Try.prog 5 #[cfgV kind agg W k cap p ch mx, .int .i64 field, .int .i64 value] w fun e w' => e = .returned (.bool true) ∧ Below w.heap.size w w' := by
  have CV := hide (fun (w0 : World) (hk : Kp w #[.int .i64 kind, .int .i64 agg, .int .i64 W, .int .i64 k, .int .i64 cap, .int .i64 p, .int .i64 ch, .int .i64 mx] w0) => (validate_any kind agg W k cap p ch mx w0).mono (R' := fun e w' => e = .returned (.int .i64 (vC kind agg W k cap p ch mx)) ∧ Kp w #[.int .i64 kind, .int .i64 agg, .int .i64 W, .int .i64 k, .int .i64 cap, .int .i64 p, .int .i64 ch, .int .i64 mx] w') fun e w' h => ⟨h.1, hk.step h.2⟩)
  simp only [h] at CV
  have ez : (value == 0) = false := by simpa using hz
  have C9 := hide (fun (w0 : World) (hk : Kp w #[.int .i64 kind, .int .i64 agg, .int .i64 W, .int .i64 k, .int .i64 cap, .int .i64 p, .int .i64 ch, .int .i64 mx] w0) => (awake_any w0).mono (R' := fun e w' => e = .returned (.bool true) ∧ Kp w #[.int .i64 kind, .int .i64 agg, .int .i64 W, .int .i64 k, .int .i64 cap, .int .i64 p, .int .i64 ch, .int .i64 mx] w') fun e w' h => ⟨h.1, hk.step h.2⟩)
  unfold cfgV at CV ⊢
  go_enter Try.func5, Try.ntmps5
  go_upto_region 1 with (fail)
  have K1 := hide (Kp.new (w := w) (cs := #[.int .i64 kind, .int .i64 agg, .int .i64 W, .int .i64 k, .int .i64 cap, .int .i64 p, .int .i64 ch, .int .i64 mx]))
  generalize (w.alloc (.cells #[.int .i64 kind, .int .i64 agg, .int .i64 W, .int .i64 k, .int .i64 cap, .int .i64 p, .int .i64 ch, .int .i64 mx] 23)) = w1 at *
  obtain ⟨a0, a1, a2, a3, a4, a5, a6, a7⟩ := K1.out.eight
  go_upto_region 4 with (first | (go_at_call 7; refine (CV.out _ ?_).mono ?_; (· exact K1.out); rintro e w2 ⟨rfl, hK⟩; have K2 := hide hK; clear hK; obtain ⟨b0, b1, b2, b3, b4, b5, b6, b7⟩ := K2.out.eight) | (go_at_call 9; refine (C9.out _ ?_).mono ?_; (· exact K2.out); rintro e w3 ⟨rfl, hK⟩; have K3 := hide hK; clear hK; obtain ⟨c0, c1, c2, c3, c4, c5, c6, c7⟩ := K3.out.eight))
  clear CV
  have qD : Blk (w2.alloc (.cells #[.int .i64 kind, .int .i64 agg, .int .i64 W, .int .i64 k, .int .i64 cap, .int .i64 p, .int .i64 ch, .int .i64 mx] 23)) w2.heap.size 23 #[.int .i64 kind, .int .i64 agg, .int .i64 W, .int .i64 k, .int .i64 cap, .int .i64 p, .int .i64 ch, .int .i64 mx] := Blk.new _ _ _
  have qK : Kp w #[.int .i64 kind, .int .i64 agg, .int .i64 W, .int .i64 k, .int .i64 cap, .int .i64 p, .int .i64 ch, .int .i64 mx] (w2.alloc (.cells #[.int .i64 kind, .int .i64 agg, .int .i64 W, .int .i64 k, .int .i64 cap, .int .i64 p, .int .i64 ch, .int .i64 mx] 23)) := ⟨Bl.alloc' K2.out.1 _, K2.out.2.alloc _⟩
  have hlt : w.heap.size < w2.heap.size := K2.out.2.lt
  generalize (w2.alloc (.cells #[.int .i64 kind, .int .i64 agg, .int .i64 W, .int .i64 k, .int .i64 cap, .int .i64 p, .int .i64 ch, .int .i64 mx] 23)) = wd at *
  generalize w2.heap.size = gd at *
  have D1 := hide qD
  have K3 := hide qK
  clear qD qK K1 K2 a0 a1 a2 a3 a4 a5 a6 a7 b0 b1 b2 b3 b4 b5 b6 b7
  go_upto_region 5 with (fail)
  generalize (bits .and .i64 field 7) = x at *
  subst hx
  next =>
    have dc := D1.out.cell 5
    have df := D1.out.frozen 5
    go_upto_region 19 with (fail)
    have qD : Blk (wd.setCell ⟨gd, 5, none⟩ (.int .i64 value)) gd 23 #[.int .i64 kind, .int .i64 agg, .int .i64 W, .int .i64 k, .int .i64 cap, .int .i64 value, .int .i64 ch, .int .i64 mx] := D1.out.set_ 5 _
    have qK : Kp w #[.int .i64 kind, .int .i64 agg, .int .i64 W, .int .i64 k, .int .i64 cap, .int .i64 p, .int .i64 ch, .int .i64 mx] (wd.setCell ⟨gd, 5, none⟩ (.int .i64 value)) := ⟨K3.out.1.setCell (Nat.le_of_lt hlt) _, K3.out.2.far (Nat.ne_of_lt hlt) _⟩
    generalize (wd.setCell ⟨gd, 5, none⟩ (.int .i64 value)) = we at *
    have T1 := hide (Two.mk qK qD hlt)
    clear qD qK D1 K3 dc df
    obtain ⟨pa, pb, pc, pd, pe, pf, pg, hP, h12⟩ := plain_any kind agg W k cap value ch mx
    obtain ⟨r, hr, h10, _⟩ := records_same kind agg W k cap value ch mx
    have C12 := hide (fun (w0 : World) (hk : Two w gd #[.int .i64 kind, .int .i64 agg, .int .i64 W, .int .i64 k, .int .i64 cap, .int .i64 p, .int .i64 ch, .int .i64 mx] #[.int .i64 kind, .int .i64 agg, .int .i64 W, .int .i64 k, .int .i64 cap, .int .i64 value, .int .i64 ch, .int .i64 mx] w0) => (h12 w0).mono (R' := fun e w' => e = .returned (cfgV kind pa pb pc pd pe pf pg) ∧ Two w gd #[.int .i64 kind, .int .i64 agg, .int .i64 W, .int .i64 k, .int .i64 cap, .int .i64 p, .int .i64 ch, .int .i64 mx] #[.int .i64 kind, .int .i64 agg, .int .i64 W, .int .i64 k, .int .i64 cap, .int .i64 value, .int .i64 ch, .int .i64 mx] w') fun e w' h => ⟨h.1, hk.step h.2⟩)
    have CV := hide (fun (w0 : World) (hk : Two w gd #[.int .i64 kind, .int .i64 agg, .int .i64 W, .int .i64 k, .int .i64 cap, .int .i64 p, .int .i64 ch, .int .i64 mx] #[.int .i64 kind, .int .i64 agg, .int .i64 W, .int .i64 k, .int .i64 cap, .int .i64 value, .int .i64 ch, .int .i64 mx] w0) => (validate_any kind agg W k cap value ch mx w0).mono (R' := fun e w' => e = .returned (.int .i64 (vC kind agg W k cap value ch mx)) ∧ Two w gd #[.int .i64 kind, .int .i64 agg, .int .i64 W, .int .i64 k, .int .i64 cap, .int .i64 p, .int .i64 ch, .int .i64 mx] #[.int .i64 kind, .int .i64 agg, .int .i64 W, .int .i64 k, .int .i64 cap, .int .i64 value, .int .i64 ch, .int .i64 mx] w') fun e w' h => ⟨h.1, hk.step h.2⟩)
    have C10 := hide (fun (w0 : World) (hk : Two w gd #[.int .i64 kind, .int .i64 agg, .int .i64 W, .int .i64 k, .int .i64 cap, .int .i64 p, .int .i64 ch, .int .i64 mx] #[.int .i64 kind, .int .i64 agg, .int .i64 W, .int .i64 k, .int .i64 cap, .int .i64 value, .int .i64 ch, .int .i64 mx] w0) => (h10 w0).mono (R' := fun e w' => e = .returned (.int .i64 r) ∧ Two w gd #[.int .i64 kind, .int .i64 agg, .int .i64 W, .int .i64 k, .int .i64 cap, .int .i64 p, .int .i64 ch, .int .i64 mx] #[.int .i64 kind, .int .i64 agg, .int .i64 W, .int .i64 k, .int .i64 cap, .int .i64 value, .int .i64 ch, .int .i64 mx] w') fun e w' h => ⟨h.1, hk.step h.2⟩)
    have CA := hide (fun (w0 : World) (hk : Two w gd #[.int .i64 kind, .int .i64 agg, .int .i64 W, .int .i64 k, .int .i64 cap, .int .i64 p, .int .i64 ch, .int .i64 mx] #[.int .i64 kind, .int .i64 agg, .int .i64 W, .int .i64 k, .int .i64 cap, .int .i64 value, .int .i64 ch, .int .i64 mx] w0) => (awake_any w0).mono (R' := fun e w' => e = .returned (.bool true) ∧ Two w gd #[.int .i64 kind, .int .i64 agg, .int .i64 W, .int .i64 k, .int .i64 cap, .int .i64 p, .int .i64 ch, .int .i64 mx] #[.int .i64 kind, .int .i64 agg, .int .i64 W, .int .i64 k, .int .i64 cap, .int .i64 value, .int .i64 ch, .int .i64 mx] w') fun e w' h => ⟨h.1, hk.step h.2⟩)
    unfold cfgV at C12 CV C10
    clear h12 h10 C9
    obtain ⟨⟨g0, g1, g2, g3, g4, g5, g6, g7⟩, ⟨p0, p1, p2, p3, p4, p5, p6, p7⟩⟩ := T1.out.cells
    rcases vC_two kind agg W k cap value ch mx with hv | hv
    · obtain ⟨rfl, rfl, rfl, rfl, rfl, rfl, rfl⟩ := hP hv
      simp only [hv] at CV
      clear hv hr h hP
      by_cases hq : p = value
      · subst hq
        go_region_held3 (fun w' => w'.cell? ⟨w.heap.size, 0, none⟩ = some (.int .i64 kind) ∧ w'.cell? ⟨w.heap.size, 1, none⟩ = some (.int .i64 agg) ∧ w'.cell? ⟨w.heap.size, 2, none⟩ = some (.int .i64 W) ∧ w'.cell? ⟨w.heap.size, 3, none⟩ = some (.int .i64 k) ∧ w'.cell? ⟨w.heap.size, 4, none⟩ = some (.int .i64 cap) ∧ w'.cell? ⟨w.heap.size, 5, none⟩ = some (.int .i64 p) ∧ w'.cell? ⟨w.heap.size, 6, none⟩ = some (.int .i64 ch) ∧ w'.cell? ⟨w.heap.size, 7, none⟩ = some (.int .i64 mx) ∧ w'.cell? ⟨gd, 0, none⟩ = some (.int .i64 kind) ∧ w'.cell? ⟨gd, 1, none⟩ = some (.int .i64 agg) ∧ w'.cell? ⟨gd, 2, none⟩ = some (.int .i64 W) ∧ w'.cell? ⟨gd, 3, none⟩ = some (.int .i64 k) ∧ w'.cell? ⟨gd, 4, none⟩ = some (.int .i64 cap) ∧ w'.cell? ⟨gd, 5, none⟩ = some (.int .i64 p) ∧ w'.cell? ⟨gd, 6, none⟩ = some (.int .i64 ch) ∧ w'.cell? ⟨gd, 7, none⟩ = some (.int .i64 mx)) (first | exact ⟨g0, g1, g2, g3, g4, g5, g6, g7, p0, p1, p2, p3, p4, p5, p6, p7⟩ | exact ⟨h0, h1, h2, h3, h4, h5, h6, h7, q0, q1, q2, q3, q4, q5, q6, q7⟩ | exact ⟨i0, i1, i2, i3, i4, i5, i6, i7, r0, r1, r2, r3, r4, r5, r6, r7⟩ | exact ⟨j0, j1, j2, j3, j4, j5, j6, j7, s0, s1, s2, s3, s4, s5, s6, s7⟩) (first | (go_at_call 12; refine (C12.out _ ?_).mono ?_; (· first | exact T1.out | exact T1.out.drew); rintro e w2 ⟨rfl, hT⟩; have T2 := hide hT; clear hT; obtain ⟨⟨h0, h1, h2, h3, h4, h5, h6, h7⟩, ⟨q0, q1, q2, q3, q4, q5, q6, q7⟩⟩ := T2.out.cells))
        all_goals
          go_wp2_with (go_at_call 9; refine (CA.out _ ?_).mono ?_; (· first | exact T2.out | exact T2.out.drew); rintro e w3 ⟨rfl, hT⟩; have T3 := hide hT; clear hT; obtain ⟨⟨i0, i1, i2, i3, i4, i5, i6, i7⟩, ⟨r0, r1, r2, r3, r4, r5, r6, r7⟩⟩ := T3.out.cells)
          go_ret
          exact ⟨rfl, T3.out.1.1⟩
      · have hq2 : (value == p) = false := by simp; exact fun c => hq c.symm
        go_region_with (go_at_call 12; refine (C12.out _ ?_).mono ?_; (· first | exact T1.out | exact T1.out.drew); rintro e w2 ⟨rfl, hT⟩; have T2 := hide hT; clear hT; obtain ⟨⟨h0, h1, h2, h3, h4, h5, h6, h7⟩, ⟨q0, q1, q2, q3, q4, q5, q6, q7⟩⟩ := T2.out.cells)
        all_goals
          go_wp2_with (go_at_call 9; refine (CA.out _ ?_).mono ?_; (· first | exact T2.out | exact T2.out.drew); rintro e w3 ⟨rfl, hT⟩; have T3 := hide hT; clear hT; obtain ⟨⟨i0, i1, i2, i3, i4, i5, i6, i7⟩, ⟨r0, r1, r2, r3, r4, r5, r6, r7⟩⟩ := T3.out.cells)
          go_ret
          exact ⟨rfl, T3.out.1.1⟩
    · have hr2 := hr hv
      subst hr2
      simp only [hv] at CV
      clear hv hr h hP
      by_cases q0 : agg = pa
      rotate_left
      · have hq2 : (pa == agg) = false := by simp; exact fun c => q0 c.symm
        go_region_with (go_at_call 12; refine (C12.out _ ?_).mono ?_; (· first | exact T1.out | exact T1.out.drew); rintro e w2 ⟨rfl, hT⟩; have T2 := hide hT; clear hT; obtain ⟨⟨h0, h1, h2, h3, h4, h5, h6, h7⟩, ⟨q0, q1, q2, q3, q4, q5, q6, q7⟩⟩ := T2.out.cells)
        all_goals
          go_wp2_with (go_at_call 9; refine (CA.out _ ?_).mono ?_; (· first | exact T2.out | exact T2.out.drew); rintro e w3 ⟨rfl, hT⟩; have T3 := hide hT; clear hT; obtain ⟨⟨i0, i1, i2, i3, i4, i5, i6, i7⟩, ⟨r0, r1, r2, r3, r4, r5, r6, r7⟩⟩ := T3.out.cells)
          go_ret
          exact ⟨rfl, T3.out.1.1⟩
      subst q0
      by_cases q1 : W = pb
      rotate_left
      · have hq2 : (pb == W) = false := by simp; exact fun c => q1 c.symm
        go_region_with (go_at_call 12; refine (C12.out _ ?_).mono ?_; (· first | exact T1.out | exact T1.out.drew); rintro e w2 ⟨rfl, hT⟩; have T2 := hide hT; clear hT; obtain ⟨⟨h0, h1, h2, h3, h4, h5, h6, h7⟩, ⟨q0, q1, q2, q3, q4, q5, q6, q7⟩⟩ := T2.out.cells)
        all_goals
          go_wp2_with (go_at_call 9; refine (CA.out _ ?_).mono ?_; (· first | exact T2.out | exact T2.out.drew); rintro e w3 ⟨rfl, hT⟩; have T3 := hide hT; clear hT; obtain ⟨⟨i0, i1, i2, i3, i4, i5, i6, i7⟩, ⟨r0, r1, r2, r3, r4, r5, r6, r7⟩⟩ := T3.out.cells)
          go_ret
          exact ⟨rfl, T3.out.1.1⟩
      subst q1
      by_cases q2 : k = pc
      rotate_left
      · have hq2 : (pc == k) = false := by simp; exact fun c => q2 c.symm
        go_region_with (go_at_call 12; refine (C12.out _ ?_).mono ?_; (· first | exact T1.out | exact T1.out.drew); rintro e w2 ⟨rfl, hT⟩; have T2 := hide hT; clear hT; obtain ⟨⟨h0, h1, h2, h3, h4, h5, h6, h7⟩, ⟨q0, q1, q2, q3, q4, q5, q6, q7⟩⟩ := T2.out.cells)
        all_goals
          go_wp2_with (go_at_call 9; refine (CA.out _ ?_).mono ?_; (· first | exact T2.out | exact T2.out.drew); rintro e w3 ⟨rfl, hT⟩; have T3 := hide hT; clear hT; obtain ⟨⟨i0, i1, i2, i3, i4, i5, i6, i7⟩, ⟨r0, r1, r2, r3, r4, r5, r6, r7⟩⟩ := T3.out.cells)
          go_ret
          exact ⟨rfl, T3.out.1.1⟩
      subst q2
      by_cases q3 : cap = pd
      rotate_left
      · have hq2 : (pd == cap) = false := by simp; exact fun c => q3 c.symm
        go_region_with (go_at_call 12; refine (C12.out _ ?_).mono ?_; (· first | exact T1.out | exact T1.out.drew); rintro e w2 ⟨rfl, hT⟩; have T2 := hide hT; clear hT; obtain ⟨⟨h0, h1, h2, h3, h4, h5, h6, h7⟩, ⟨q0, q1, q2, q3, q4, q5, q6, q7⟩⟩ := T2.out.cells)
        all_goals
          go_wp2_with (go_at_call 9; refine (CA.out _ ?_).mono ?_; (· first | exact T2.out | exact T2.out.drew); rintro e w3 ⟨rfl, hT⟩; have T3 := hide hT; clear hT; obtain ⟨⟨i0, i1, i2, i3, i4, i5, i6, i7⟩, ⟨r0, r1, r2, r3, r4, r5, r6, r7⟩⟩ := T3.out.cells)
          go_ret
          exact ⟨rfl, T3.out.1.1⟩
      subst q3
      by_cases q4 : p = pe
      rotate_left
      · have hq2 : (pe == p) = false := by simp; exact fun c => q4 c.symm
        go_region_with (go_at_call 12; refine (C12.out _ ?_).mono ?_; (· first | exact T1.out | exact T1.out.drew); rintro e w2 ⟨rfl, hT⟩; have T2 := hide hT; clear hT; obtain ⟨⟨h0, h1, h2, h3, h4, h5, h6, h7⟩, ⟨q0, q1, q2, q3, q4, q5, q6, q7⟩⟩ := T2.out.cells)
        all_goals
          go_wp2_with (go_at_call 9; refine (CA.out _ ?_).mono ?_; (· first | exact T2.out | exact T2.out.drew); rintro e w3 ⟨rfl, hT⟩; have T3 := hide hT; clear hT; obtain ⟨⟨i0, i1, i2, i3, i4, i5, i6, i7⟩, ⟨r0, r1, r2, r3, r4, r5, r6, r7⟩⟩ := T3.out.cells)
          go_ret
          exact ⟨rfl, T3.out.1.1⟩
      subst q4
      by_cases q5 : ch = pf
      rotate_left
      · have hq2 : (pf == ch) = false := by simp; exact fun c => q5 c.symm
        go_region_with (go_at_call 12; refine (C12.out _ ?_).mono ?_; (· first | exact T1.out | exact T1.out.drew); rintro e w2 ⟨rfl, hT⟩; have T2 := hide hT; clear hT; obtain ⟨⟨h0, h1, h2, h3, h4, h5, h6, h7⟩, ⟨q0, q1, q2, q3, q4, q5, q6, q7⟩⟩ := T2.out.cells)
        all_goals
          go_wp2_with (go_at_call 9; refine (CA.out _ ?_).mono ?_; (· first | exact T2.out | exact T2.out.drew); rintro e w3 ⟨rfl, hT⟩; have T3 := hide hT; clear hT; obtain ⟨⟨i0, i1, i2, i3, i4, i5, i6, i7⟩, ⟨r0, r1, r2, r3, r4, r5, r6, r7⟩⟩ := T3.out.cells)
          go_ret
          exact ⟨rfl, T3.out.1.1⟩
      subst q5
      by_cases q6 : mx = pg
      rotate_left
      · have hq2 : (pg == mx) = false := by simp; exact fun c => q6 c.symm
        go_region_with (go_at_call 12; refine (C12.out _ ?_).mono ?_; (· first | exact T1.out | exact T1.out.drew); rintro e w2 ⟨rfl, hT⟩; have T2 := hide hT; clear hT; obtain ⟨⟨h0, h1, h2, h3, h4, h5, h6, h7⟩, ⟨q0, q1, q2, q3, q4, q5, q6, q7⟩⟩ := T2.out.cells)
        all_goals
          go_wp2_with (go_at_call 9; refine (CA.out _ ?_).mono ?_; (· first | exact T2.out | exact T2.out.drew); rintro e w3 ⟨rfl, hT⟩; have T3 := hide hT; clear hT; obtain ⟨⟨i0, i1, i2, i3, i4, i5, i6, i7⟩, ⟨r0, r1, r2, r3, r4, r5, r6, r7⟩⟩ := T3.out.cells)
          go_ret
          exact ⟨rfl, T3.out.1.1⟩
      subst q6
      by_cases hq : p = value
      · subst hq
        go_region_held3 (fun w' => w'.cell? ⟨w.heap.size, 0, none⟩ = some (.int .i64 kind) ∧ w'.cell? ⟨w.heap.size, 1, none⟩ = some (.int .i64 agg) ∧ w'.cell? ⟨w.heap.size, 2, none⟩ = some (.int .i64 W) ∧ w'.cell? ⟨w.heap.size, 3, none⟩ = some (.int .i64 k) ∧ w'.cell? ⟨w.heap.size, 4, none⟩ = some (.int .i64 cap) ∧ w'.cell? ⟨w.heap.size, 5, none⟩ = some (.int .i64 p) ∧ w'.cell? ⟨w.heap.size, 6, none⟩ = some (.int .i64 ch) ∧ w'.cell? ⟨w.heap.size, 7, none⟩ = some (.int .i64 mx) ∧ w'.cell? ⟨gd, 0, none⟩ = some (.int .i64 kind) ∧ w'.cell? ⟨gd, 1, none⟩ = some (.int .i64 agg) ∧ w'.cell? ⟨gd, 2, none⟩ = some (.int .i64 W) ∧ w'.cell? ⟨gd, 3, none⟩ = some (.int .i64 k) ∧ w'.cell? ⟨gd, 4, none⟩ = some (.int .i64 cap) ∧ w'.cell? ⟨gd, 5, none⟩ = some (.int .i64 p) ∧ w'.cell? ⟨gd, 6, none⟩ = some (.int .i64 ch) ∧ w'.cell? ⟨gd, 7, none⟩ = some (.int .i64 mx)) (first | exact ⟨g0, g1, g2, g3, g4, g5, g6, g7, p0, p1, p2, p3, p4, p5, p6, p7⟩ | exact ⟨h0, h1, h2, h3, h4, h5, h6, h7, q0, q1, q2, q3, q4, q5, q6, q7⟩ | exact ⟨i0, i1, i2, i3, i4, i5, i6, i7, r0, r1, r2, r3, r4, r5, r6, r7⟩ | exact ⟨j0, j1, j2, j3, j4, j5, j6, j7, s0, s1, s2, s3, s4, s5, s6, s7⟩) (first | (go_at_call 12; refine (C12.out _ ?_).mono ?_; (· first | exact T1.out | exact T1.out.drew); rintro e w2 ⟨rfl, hT⟩; have T2 := hide hT; clear hT; obtain ⟨⟨h0, h1, h2, h3, h4, h5, h6, h7⟩, ⟨q0, q1, q2, q3, q4, q5, q6, q7⟩⟩ := T2.out.cells))
        all_goals
          go_wp2_with (go_at_call 9; refine (CA.out _ ?_).mono ?_; (· first | exact T2.out | exact T2.out.drew); rintro e w3 ⟨rfl, hT⟩; have T3 := hide hT; clear hT; obtain ⟨⟨i0, i1, i2, i3, i4, i5, i6, i7⟩, ⟨r0, r1, r2, r3, r4, r5, r6, r7⟩⟩ := T3.out.cells)
          go_ret
          exact ⟨rfl, T3.out.1.1⟩
      · have hq2 : (value == p) = false := by simp; exact fun c => hq c.symm
        go_region_held3 (fun w' => w'.cell? ⟨w.heap.size, 0, none⟩ = some (.int .i64 kind) ∧ w'.cell? ⟨w.heap.size, 1, none⟩ = some (.int .i64 agg) ∧ w'.cell? ⟨w.heap.size, 2, none⟩ = some (.int .i64 W) ∧ w'.cell? ⟨w.heap.size, 3, none⟩ = some (.int .i64 k) ∧ w'.cell? ⟨w.heap.size, 4, none⟩ = some (.int .i64 cap) ∧ w'.cell? ⟨w.heap.size, 5, none⟩ = some (.int .i64 p) ∧ w'.cell? ⟨w.heap.size, 6, none⟩ = some (.int .i64 ch) ∧ w'.cell? ⟨w.heap.size, 7, none⟩ = some (.int .i64 mx) ∧ w'.cell? ⟨gd, 0, none⟩ = some (.int .i64 kind) ∧ w'.cell? ⟨gd, 1, none⟩ = some (.int .i64 agg) ∧ w'.cell? ⟨gd, 2, none⟩ = some (.int .i64 W) ∧ w'.cell? ⟨gd, 3, none⟩ = some (.int .i64 k) ∧ w'.cell? ⟨gd, 4, none⟩ = some (.int .i64 cap) ∧ w'.cell? ⟨gd, 5, none⟩ = some (.int .i64 value) ∧ w'.cell? ⟨gd, 6, none⟩ = some (.int .i64 ch) ∧ w'.cell? ⟨gd, 7, none⟩ = some (.int .i64 mx)) (first | exact ⟨g0, g1, g2, g3, g4, g5, g6, g7, p0, p1, p2, p3, p4, p5, p6, p7⟩ | exact ⟨h0, h1, h2, h3, h4, h5, h6, h7, q0, q1, q2, q3, q4, q5, q6, q7⟩ | exact ⟨i0, i1, i2, i3, i4, i5, i6, i7, r0, r1, r2, r3, r4, r5, r6, r7⟩ | exact ⟨j0, j1, j2, j3, j4, j5, j6, j7, s0, s1, s2, s3, s4, s5, s6, s7⟩) (first | (go_at_call 12; refine (C12.out _ ?_).mono ?_; (· first | exact T1.out | exact T1.out.drew); rintro e w2 ⟨rfl, hT⟩; have T2 := hide hT; clear hT; obtain ⟨⟨h0, h1, h2, h3, h4, h5, h6, h7⟩, ⟨q0, q1, q2, q3, q4, q5, q6, q7⟩⟩ := T2.out.cells))
        all_goals
          go_wp2_with (first | (go_at_call 7; refine (CV.out _ ?_).mono ?_; (· first | exact T2.out | exact T2.out.drew); rintro e w3 ⟨rfl, hT⟩; have T3 := hide hT; clear hT; obtain ⟨⟨i0, i1, i2, i3, i4, i5, i6, i7⟩, ⟨r0, r1, r2, r3, r4, r5, r6, r7⟩⟩ := T3.out.cells) | (go_at_call 10; refine (C10.out _ ?_).mono ?_; (· first | exact T3.out | exact T3.out.drew); rintro e w4 ⟨rfl, hT⟩; have T4 := hide hT; clear hT; obtain ⟨⟨j0, j1, j2, j3, j4, j5, j6, j7⟩, ⟨s0, s1, s2, s3, s4, s5, s6, s7⟩⟩ := T4.out.cells) | (go_at_call 9; refine (CA.out _ ?_).mono ?_; (· first | exact T4.out | exact T4.out.drew); rintro e w5 ⟨rfl, hT⟩; have T5 := hide hT; clear hT; obtain ⟨⟨k0, k1, k2, k3, k4, k5, k6, k7⟩, ⟨t0, t1, t2, t3, t4, t5, t6, t7⟩⟩ := T5.out.cells))
          go_ret
          exact ⟨rfl, T5.out.1.1⟩
end Go.Proofs.Ytmlddoajfgmoaaa
