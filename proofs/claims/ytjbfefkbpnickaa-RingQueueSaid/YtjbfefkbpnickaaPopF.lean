/- The first element taken: the contract where there is one. -/
import Derived.Test.YtjbfefkbpnickaaPop
import Derived.RegionTactic
import Derived.ChangeAlike
namespace Go.Proofs.Ytjbfefkbpnickaa
open Go.RowKit
set_option linter.unusedVariables false
set_option maxRecDepth 100000 in
set_option maxHeartbeats 4000000 in
theorem popfront_ok (C H : Nat) (ys : List (Int × Int)) (x : Int × Int) (A : Option Addr) (c B : Nat) (w : World) (h : Sl2 w B A C (cellsL C H (x :: ys))) (hB : B ≤ w.heap.size) (hr : Rg C H ((ys.length : Int) + 1) (cellsL C H (x :: ys)) C H (x :: ys)) :
    Calls Try.prog 25 #[ringV C H ((ys.length : Int) + 1) A C c] w (PopEnd C ((H + 1) % C) ys x w) := by
  have C13 := hide (fun w1 (hb : Below w.heap.size w w1) => validate_any C H ((ys.length : Int) + 1) A C c w.heap.size (cellsL C H (x :: ys)) w1 ((h.more hB).below hb) hb.size)
  have C30 := hide (fun w1 (hb : Below w.heap.size w w1) => copied_any C H ((ys.length : Int) + 1) A C c w.heap.size (cellsL C H (x :: ys)) w1 ((h.more hB).below hb) hb.size (by have := hr.max; omega))
  unfold VEnd at C13
  rw [vV_yes hr.ok] at C13
  have hC1 := hr.one
  have hC2 := hr.max
  have hH := hr.hd
  have hL : ys.length < C := by have := hr.fits; simp at this; omega
  have HPB := hide (pop_front (x := x) hH hL)
  have HEL := hide (show (cellsL C H (x :: ys))[H]? = some x by
    have := cellsL_elem (xs := x :: ys) (i := 0) hH (by omega)
    rw [Nat.add_zero, Nat.mod_eq_of_lt hH] at this
    simpa using this)
  have hk1 := next_fact ⟨hC1, hC2⟩ hH
  have hk : (H + 1) % C < C := Nat.mod_lt _ (by omega)
  obtain ⟨x1, x2⟩ := x
  generalize hl : ys.length = L at *
  have HL := hide hl
  clear hr h hl
  unfold ringV at C13 C30
  unfold ringV
  generalize (H + 1) % C = k at *
  have HK1 := hide hk1
  clear hk1
  have hne : ((L : Int) + 1 == 0) = false := by simp; omega
  go_enter Try.func25, Try.ntmps25
  go_upto_region 1 with (fail)
  have qR : Blk (((w.alloc (.cells #[.int .i64 C, .int .i64 H, .int .i64 ((L : Int) + 1), .slice A C c] 24)).alloc (.cells #[.int .i64 0, .int .i64 0, .int .i64 0, .slice none 0 0] 24)).alloc (.cells #[.int .i64 0, .int .i64 0] 33)) (w.heap.size) 24 #[.int .i64 C, .int .i64 H, .int .i64 ((L : Int) + 1), .slice A C c] := ((Blk.new _ _ _).alloc _).alloc _
  have qZ : Blk (((w.alloc (.cells #[.int .i64 C, .int .i64 H, .int .i64 ((L : Int) + 1), .slice A C c] 24)).alloc (.cells #[.int .i64 0, .int .i64 0, .int .i64 0, .slice none 0 0] 24)).alloc (.cells #[.int .i64 0, .int .i64 0] 33)) (w.heap.size + 1) 24 #[.int .i64 0, .int .i64 0, .int .i64 0, .slice none 0 0] := (Blk.new_at (by simp) _ _).alloc _
  have qY : Blk (((w.alloc (.cells #[.int .i64 C, .int .i64 H, .int .i64 ((L : Int) + 1), .slice A C c] 24)).alloc (.cells #[.int .i64 0, .int .i64 0, .int .i64 0, .slice none 0 0] 24)).alloc (.cells #[.int .i64 0, .int .i64 0] 33)) (w.heap.size + 1 + 1) 33 #[.int .i64 0, .int .i64 0] := Blk.new_at (by simp) _ _
  have qB : Below w.heap.size w (((w.alloc (.cells #[.int .i64 C, .int .i64 H, .int .i64 ((L : Int) + 1), .slice A C c] 24)).alloc (.cells #[.int .i64 0, .int .i64 0, .int .i64 0, .slice none 0 0] 24)).alloc (.cells #[.int .i64 0, .int .i64 0] 33)) := Bl.alloc' (Bl.alloc' (Bl.alloc' (Below.refl _ _) _) _) _
  have z1 : (((w.alloc (.cells #[.int .i64 C, .int .i64 H, .int .i64 ((L : Int) + 1), .slice A C c] 24)).alloc (.cells #[.int .i64 0, .int .i64 0, .int .i64 0, .slice none 0 0] 24)).alloc (.cells #[.int .i64 0, .int .i64 0] 33)).heap.size = w.heap.size + 3 := by simp
  generalize (((w.alloc (.cells #[.int .i64 C, .int .i64 H, .int .i64 ((L : Int) + 1), .slice A C c] 24)).alloc (.cells #[.int .i64 0, .int .i64 0, .int .i64 0, .slice none 0 0] 24)).alloc (.cells #[.int .i64 0, .int .i64 0] 33)) = w1 at *
  have zi1 : w1.heap.size ≤ w.heap.size + 3 ∧ w.heap.size + 3 ≤ w1.heap.size := by omega
  clear z1
  have R1 := hide qR
  have Z1 := hide qZ
  have Y1 := hide qY
  have B1 := hide qB
  clear qR qZ qY qB
  obtain ⟨p0, p1, p2, p3, p4, p5, p6, p7⟩ := R1.out.four
  go_wp2_with (fail)
  refine (C13.out _ B1.out).mono ?_
  rintro e w2 ⟨rfl, hb⟩
  have zs2 := hb.size
  clear p0 p1 p2 p3 p4 p5 p6 p7
  have qR : Blk w2 (w.heap.size) 24 #[.int .i64 C, .int .i64 H, .int .i64 ((L : Int) + 1), .slice A C c] := R1.out.below hb R1.out.lt
  have qZ : Blk w2 (w.heap.size + 1) 24 #[.int .i64 0, .int .i64 0, .int .i64 0, .slice none 0 0] := Z1.out.below hb Z1.out.lt
  have qY : Blk w2 (w.heap.size + 1 + 1) 33 #[.int .i64 0, .int .i64 0] := Y1.out.below hb Y1.out.lt
  have qB : Below w.heap.size w w2 := Bl.call' B1.out hb
  clear R1 Z1 Y1 B1
  have R2 := hide qR
  have Z2 := hide qZ
  have Y2 := hide qY
  have B2 := hide qB
  clear qR qZ qY qB
  clear hb
  obtain ⟨p0, p1, p2, p3, p4, p5, p6, p7⟩ := R2.out.four
  go_wp2_with (fail)
  refine (C30.out _ B2.out).mono ?_
  rintro e w3 ⟨A2, c2, rfl, hown, hb⟩
  obtain ⟨g, cap', hv2, hg1, hg2, hg3, hg4⟩ := own_form2 hown (by omega)
  obtain ⟨rfl, rfl⟩ : A2 = some ⟨g, 0, none⟩ ∧ c2 = cap' := by simpa using hv2
  clear hv2
  have zs3 := hb.size
  clear p0 p1 p2 p3 p4 p5 p6 p7
  have qR : Blk w3 (w.heap.size) 24 #[.int .i64 C, .int .i64 H, .int .i64 ((L : Int) + 1), .slice A C c] := R2.out.below hb R2.out.lt
  have qZ : Blk w3 (w.heap.size + 1) 24 #[.int .i64 0, .int .i64 0, .int .i64 0, .slice none 0 0] := Z2.out.below hb Z2.out.lt
  have qY : Blk w3 (w.heap.size + 1 + 1) 33 #[.int .i64 0, .int .i64 0] := Y2.out.below hb Y2.out.lt
  have qB : Below w.heap.size w w3 := Bl.call' B2.out hb
  have qO : World.ownsRow w3 (w2.heap.size) 33 2 (.slice (some ⟨g, 0, none⟩) C c2) (C) (flat (cellsL C H ((x1, x2) :: ys))) := hown
  clear R2 Z2 Y2 B2
  have R3 := hide qR
  have Z3 := hide qZ
  have Y3 := hide qY
  have B3 := hide qB
  have O3 := hide qO
  clear qR qZ qY qB qO
  clear hb
  clear hown
  obtain ⟨p0, p1, p2, p3, p4, p5, p6, p7⟩ := R3.out.four
  go_upto_region 7 with (fail)
  clear p0 p1 p2 p3 p4 p5 p6 p7
  have qR : Blk (((((w3.setCell ⟨w.heap.size, 0, none⟩ (.int .i64 C)).setCell ⟨w.heap.size, 1, none⟩ (.int .i64 H)).setCell ⟨w.heap.size, 2, none⟩ (.int .i64 ((L : Int) + 1))).setCell ⟨w.heap.size, 3, none⟩ (.slice (some ⟨g, 0, none⟩) C c2))) (w.heap.size) 24 #[.int .i64 C, .int .i64 H, .int .i64 ((L : Int) + 1), .slice (some ⟨g, 0, none⟩) C c2] := R3.out.store4 _ _ _ _
  have qZ : Blk (((((w3.setCell ⟨w.heap.size, 0, none⟩ (.int .i64 C)).setCell ⟨w.heap.size, 1, none⟩ (.int .i64 H)).setCell ⟨w.heap.size, 2, none⟩ (.int .i64 ((L : Int) + 1))).setCell ⟨w.heap.size, 3, none⟩ (.slice (some ⟨g, 0, none⟩) C c2))) (w.heap.size + 1) 24 #[.int .i64 0, .int .i64 0, .int .i64 0, .slice none 0 0] := Z3.out.far4 (by omega) _ _ _ _
  have qY : Blk (((((w3.setCell ⟨w.heap.size, 0, none⟩ (.int .i64 C)).setCell ⟨w.heap.size, 1, none⟩ (.int .i64 H)).setCell ⟨w.heap.size, 2, none⟩ (.int .i64 ((L : Int) + 1))).setCell ⟨w.heap.size, 3, none⟩ (.slice (some ⟨g, 0, none⟩) C c2))) (w.heap.size + 1 + 1) 33 #[.int .i64 0, .int .i64 0] := Y3.out.far4 (by omega) _ _ _ _
  have qB : Below w.heap.size w (((((w3.setCell ⟨w.heap.size, 0, none⟩ (.int .i64 C)).setCell ⟨w.heap.size, 1, none⟩ (.int .i64 H)).setCell ⟨w.heap.size, 2, none⟩ (.int .i64 ((L : Int) + 1))).setCell ⟨w.heap.size, 3, none⟩ (.slice (some ⟨g, 0, none⟩) C c2))) := Bl.set4 B3.out (by omega) _ _ _ _
  have qO : World.ownsRow (((((w3.setCell ⟨w.heap.size, 0, none⟩ (.int .i64 C)).setCell ⟨w.heap.size, 1, none⟩ (.int .i64 H)).setCell ⟨w.heap.size, 2, none⟩ (.int .i64 ((L : Int) + 1))).setCell ⟨w.heap.size, 3, none⟩ (.slice (some ⟨g, 0, none⟩) C c2))) (w2.heap.size) 33 2 (.slice (some ⟨g, 0, none⟩) C c2) (C) (flat (cellsL C H ((x1, x2) :: ys))) := own_far4 O3.out (by omega) _ _ _ _
  have z4 : (((((w3.setCell ⟨w.heap.size, 0, none⟩ (.int .i64 C)).setCell ⟨w.heap.size, 1, none⟩ (.int .i64 H)).setCell ⟨w.heap.size, 2, none⟩ (.int .i64 ((L : Int) + 1))).setCell ⟨w.heap.size, 3, none⟩ (.slice (some ⟨g, 0, none⟩) C c2))).heap.size = w3.heap.size := by simp
  clear R3 Z3 Y3 B3 O3
  generalize (((((w3.setCell ⟨w.heap.size, 0, none⟩ (.int .i64 C)).setCell ⟨w.heap.size, 1, none⟩ (.int .i64 H)).setCell ⟨w.heap.size, 2, none⟩ (.int .i64 ((L : Int) + 1))).setCell ⟨w.heap.size, 3, none⟩ (.slice (some ⟨g, 0, none⟩) C c2))) = w4 at *
  have R4 := hide qR
  have Z4 := hide qZ
  have Y4 := hide qY
  have B4 := hide qB
  have O4 := hide qO
  clear qR qZ qY qB qO
  have zi4 : w4.heap.size ≤ w3.heap.size ∧ w3.heap.size ≤ w4.heap.size := by omega
  clear z4
  obtain ⟨p0, p1, p2, p3, p4, p5, p6, p7⟩ := R4.out.four
  obtain ⟨r0, r1, r2, r3⟩ := row_cells O4.out HEL.out
  go_upto_region 8 with (fail)
  clear p0 p1 p2 p3 p4 p5 p6 p7 r0 r1 r2 r3
  have qR : Blk (w4.alloc (.cells #[.int .i64 x1, .int .i64 x2] 33)) (w.heap.size) 24 #[.int .i64 C, .int .i64 H, .int .i64 ((L : Int) + 1), .slice (some ⟨g, 0, none⟩) C c2] := R4.out.alloc _
  have qZ : Blk (w4.alloc (.cells #[.int .i64 x1, .int .i64 x2] 33)) (w.heap.size + 1) 24 #[.int .i64 0, .int .i64 0, .int .i64 0, .slice none 0 0] := Z4.out.alloc _
  have qY : Blk (w4.alloc (.cells #[.int .i64 x1, .int .i64 x2] 33)) (w.heap.size + 1 + 1) 33 #[.int .i64 0, .int .i64 0] := Y4.out.alloc _
  have qB : Below w.heap.size w (w4.alloc (.cells #[.int .i64 x1, .int .i64 x2] 33)) := Bl.alloc' B4.out _
  have qO : World.ownsRow (w4.alloc (.cells #[.int .i64 x1, .int .i64 x2] 33)) (w2.heap.size) 33 2 (.slice (some ⟨g, 0, none⟩) C c2) (C) (flat (cellsL C H ((x1, x2) :: ys))) := O4.out.alloc _
  have qX : Blk (w4.alloc (.cells #[.int .i64 x1, .int .i64 x2] 33)) (w4.heap.size) 33 #[.int .i64 x1, .int .i64 x2] := Blk.new _ _ _
  have z5 : (w4.alloc (.cells #[.int .i64 x1, .int .i64 x2] 33)).heap.size = w4.heap.size + 1 := by simp
  clear R4 Z4 Y4 B4 O4
  generalize (w4.alloc (.cells #[.int .i64 x1, .int .i64 x2] 33)) = w5 at *
  have R5 := hide qR
  have Z5 := hide qZ
  have Y5 := hide qY
  have B5 := hide qB
  have O5 := hide qO
  have X5 := hide qX
  clear qR qZ qY qB qO qX
  have zi5 : w5.heap.size ≤ w4.heap.size + 1 ∧ w4.heap.size < w5.heap.size := by omega
  clear z5
  obtain ⟨p0, p1, p2, p3, p4, p5, p6, p7⟩ := R5.out.four
  obtain ⟨r0, r1, r2, r3⟩ := row_cells O5.out HEL.out
  go_upto_region 9 with (fail)
  clear p0 p1 p2 p3 p4 p5 p6 p7 r0 r1 r2 r3
  have qR : Blk ((w5.setCell ⟨g, H * 2, none⟩ (.int .i64 0)).setCell ⟨g, H * 2 + 1, none⟩ (.int .i64 0)) (w.heap.size) 24 #[.int .i64 C, .int .i64 H, .int .i64 ((L : Int) + 1), .slice (some ⟨g, 0, none⟩) C c2] := R5.out.far2 (by omega) _ _ _ _
  have qZ : Blk ((w5.setCell ⟨g, H * 2, none⟩ (.int .i64 0)).setCell ⟨g, H * 2 + 1, none⟩ (.int .i64 0)) (w.heap.size + 1) 24 #[.int .i64 0, .int .i64 0, .int .i64 0, .slice none 0 0] := Z5.out.far2 (by omega) _ _ _ _
  have qY : Blk ((w5.setCell ⟨g, H * 2, none⟩ (.int .i64 0)).setCell ⟨g, H * 2 + 1, none⟩ (.int .i64 0)) (w.heap.size + 1 + 1) 33 #[.int .i64 0, .int .i64 0] := Y5.out.far2 (by omega) _ _ _ _
  have qB : Below w.heap.size w ((w5.setCell ⟨g, H * 2, none⟩ (.int .i64 0)).setCell ⟨g, H * 2 + 1, none⟩ (.int .i64 0)) := below_far2 B5.out (by omega) _ _ _ _
  have qO : World.ownsRow ((w5.setCell ⟨g, H * 2, none⟩ (.int .i64 0)).setCell ⟨g, H * 2 + 1, none⟩ (.int .i64 0)) (w2.heap.size) 33 2 (.slice (some ⟨g, 0, none⟩) C c2) (C) (flat (cellsL C k ys)) := by have q := stored2 O5.out H (0, 0); rw [HPB.out] at q; exact q
  have qX : Blk ((w5.setCell ⟨g, H * 2, none⟩ (.int .i64 0)).setCell ⟨g, H * 2 + 1, none⟩ (.int .i64 0)) (w4.heap.size) 33 #[.int .i64 x1, .int .i64 x2] := X5.out.far2 (by omega) _ _ _ _
  have z6 : ((w5.setCell ⟨g, H * 2, none⟩ (.int .i64 0)).setCell ⟨g, H * 2 + 1, none⟩ (.int .i64 0)).heap.size = w5.heap.size := by simp
  clear R5 Z5 Y5 B5 O5 X5
  generalize ((w5.setCell ⟨g, H * 2, none⟩ (.int .i64 0)).setCell ⟨g, H * 2 + 1, none⟩ (.int .i64 0)) = w6 at *
  have R6 := hide qR
  have Z6 := hide qZ
  have Y6 := hide qY
  have B6 := hide qB
  have O6 := hide qO
  have X6 := hide qX
  clear qR qZ qY qB qO qX
  have zi6 : w6.heap.size ≤ w5.heap.size ∧ w5.heap.size ≤ w6.heap.size := by omega
  clear z6
  obtain ⟨p0, p1, p2, p3, p4, p5, p6, p7⟩ := R6.out.four
  have hk1 := HK1.out
  go_upto_region 10 with (fail)
  clear hk1
  clear p0 p1 p2 p3 p4 p5 p6 p7
  have qR : Blk (w6.setCell ⟨w.heap.size, 1, none⟩ (.int .i64 k)) (w.heap.size) 24 #[.int .i64 C, .int .i64 k, .int .i64 ((L : Int) + 1), .slice (some ⟨g, 0, none⟩) C c2] := R6.out.set_ 1 _
  have qZ : Blk (w6.setCell ⟨w.heap.size, 1, none⟩ (.int .i64 k)) (w.heap.size + 1) 24 #[.int .i64 0, .int .i64 0, .int .i64 0, .slice none 0 0] := Z6.out.far (show w.heap.size + 1 ≠ w.heap.size by omega) _
  have qY : Blk (w6.setCell ⟨w.heap.size, 1, none⟩ (.int .i64 k)) (w.heap.size + 1 + 1) 33 #[.int .i64 0, .int .i64 0] := Y6.out.far (show w.heap.size + 1 + 1 ≠ w.heap.size by omega) _
  have qB : Below w.heap.size w (w6.setCell ⟨w.heap.size, 1, none⟩ (.int .i64 k)) := Bl.set' B6.out (by first | (simp; done) | (simp; omega)) _
  have qO : World.ownsRow (w6.setCell ⟨w.heap.size, 1, none⟩ (.int .i64 k)) (w2.heap.size) 33 2 (.slice (some ⟨g, 0, none⟩) C c2) (C) (flat (cellsL C k ys)) := own_far O6.out (by intro q hq; have := (O6.out.lt q hq).1; simp; omega) _
  have qX : Blk (w6.setCell ⟨w.heap.size, 1, none⟩ (.int .i64 k)) (w4.heap.size) 33 #[.int .i64 x1, .int .i64 x2] := X6.out.far (show w4.heap.size ≠ w.heap.size by omega) _
  have z7 : (w6.setCell ⟨w.heap.size, 1, none⟩ (.int .i64 k)).heap.size = w6.heap.size := by simp
  clear R6 Z6 Y6 B6 O6 X6
  generalize (w6.setCell ⟨w.heap.size, 1, none⟩ (.int .i64 k)) = w7 at *
  have R7 := hide qR
  have Z7 := hide qZ
  have Y7 := hide qY
  have B7 := hide qB
  have O7 := hide qO
  have X7 := hide qX
  clear qR qZ qY qB qO qX
  have zi7 : w7.heap.size ≤ w6.heap.size ∧ w6.heap.size ≤ w7.heap.size := by omega
  clear z7
  obtain ⟨p0, p1, p2, p3, p4, p5, p6, p7⟩ := R7.out.four
  go_upto_region 11 with (fail)
  clear p0 p1 p2 p3 p4 p5 p6 p7
  have qR : Blk (w7.setCell ⟨w.heap.size, 2, none⟩ (.int .i64 L)) (w.heap.size) 24 #[.int .i64 C, .int .i64 k, .int .i64 L, .slice (some ⟨g, 0, none⟩) C c2] := R7.out.set_ 2 _
  have qZ : Blk (w7.setCell ⟨w.heap.size, 2, none⟩ (.int .i64 L)) (w.heap.size + 1) 24 #[.int .i64 0, .int .i64 0, .int .i64 0, .slice none 0 0] := Z7.out.far (show w.heap.size + 1 ≠ w.heap.size by omega) _
  have qY : Blk (w7.setCell ⟨w.heap.size, 2, none⟩ (.int .i64 L)) (w.heap.size + 1 + 1) 33 #[.int .i64 0, .int .i64 0] := Y7.out.far (show w.heap.size + 1 + 1 ≠ w.heap.size by omega) _
  have qB : Below w.heap.size w (w7.setCell ⟨w.heap.size, 2, none⟩ (.int .i64 L)) := Bl.set' B7.out (by first | (simp; done) | (simp; omega)) _
  have qO : World.ownsRow (w7.setCell ⟨w.heap.size, 2, none⟩ (.int .i64 L)) (w2.heap.size) 33 2 (.slice (some ⟨g, 0, none⟩) C c2) (C) (flat (cellsL C k ys)) := own_far O7.out (by intro q hq; have := (O7.out.lt q hq).1; simp; omega) _
  have qX : Blk (w7.setCell ⟨w.heap.size, 2, none⟩ (.int .i64 L)) (w4.heap.size) 33 #[.int .i64 x1, .int .i64 x2] := X7.out.far (show w4.heap.size ≠ w.heap.size by omega) _
  have z8 : (w7.setCell ⟨w.heap.size, 2, none⟩ (.int .i64 L)).heap.size = w7.heap.size := by simp
  clear R7 Z7 Y7 B7 O7 X7
  generalize (w7.setCell ⟨w.heap.size, 2, none⟩ (.int .i64 L)) = w8 at *
  have R8 := hide qR
  have Z8 := hide qZ
  have Y8 := hide qY
  have B8 := hide qB
  have O8 := hide qO
  have X8 := hide qX
  clear qR qZ qY qB qO qX
  have zi8 : w8.heap.size ≤ w7.heap.size ∧ w7.heap.size ≤ w8.heap.size := by omega
  clear z8
  obtain ⟨p0, p1, p2, p3, p4, p5, p6, p7⟩ := R8.out.four
  obtain ⟨y0, y1, y2, y3⟩ := X8.out.two
  obtain ⟨u0, u1, u2, u3, u4, u5, u6, u7⟩ := Z8.out.four
  obtain ⟨v0, v1, v2, v3⟩ := Y8.out.two
  have n1 : w.heap.size ≠ w.heap.size + 1 := by omega
  have n2 : w.heap.size ≠ w.heap.size + 1 + 1 := by omega
  have n3 : w4.heap.size ≠ w.heap.size + 1 := by omega
  have n4 : w4.heap.size ≠ w.heap.size + 1 + 1 := by omega
  go_region
  clear p0 p1 p2 p3 p4 p5 p6 p7 y0 y1 y2 y3 u0 u1 u2 u3 u4 u5 u6 u7 v0 v1 v2 v3
  have qZ : Blk ((((((w8.setCell ⟨w.heap.size + 1, 0, none⟩ (.int .i64 C)).setCell ⟨w.heap.size + 1, 1, none⟩ (.int .i64 k)).setCell ⟨w.heap.size + 1, 2, none⟩ (.int .i64 L)).setCell ⟨w.heap.size + 1, 3, none⟩ (.slice (some ⟨g, 0, none⟩) C c2)).setCell ⟨w.heap.size + 1 + 1, 0, none⟩ (.int .i64 x1)).setCell ⟨w.heap.size + 1 + 1, 1, none⟩ (.int .i64 x2)) (w.heap.size + 1) 24 #[.int .i64 C, .int .i64 k, .int .i64 L, .slice (some ⟨g, 0, none⟩) C c2] := (Z8.out.store4 _ _ _ _).far2 (by omega) _ _ _ _
  have qY : Blk ((((((w8.setCell ⟨w.heap.size + 1, 0, none⟩ (.int .i64 C)).setCell ⟨w.heap.size + 1, 1, none⟩ (.int .i64 k)).setCell ⟨w.heap.size + 1, 2, none⟩ (.int .i64 L)).setCell ⟨w.heap.size + 1, 3, none⟩ (.slice (some ⟨g, 0, none⟩) C c2)).setCell ⟨w.heap.size + 1 + 1, 0, none⟩ (.int .i64 x1)).setCell ⟨w.heap.size + 1 + 1, 1, none⟩ (.int .i64 x2)) (w.heap.size + 1 + 1) 33 #[.int .i64 x1, .int .i64 x2] := (Y8.out.far4 (by omega) _ _ _ _).store2 _ _
  have qB : Below w.heap.size w ((((((w8.setCell ⟨w.heap.size + 1, 0, none⟩ (.int .i64 C)).setCell ⟨w.heap.size + 1, 1, none⟩ (.int .i64 k)).setCell ⟨w.heap.size + 1, 2, none⟩ (.int .i64 L)).setCell ⟨w.heap.size + 1, 3, none⟩ (.slice (some ⟨g, 0, none⟩) C c2)).setCell ⟨w.heap.size + 1 + 1, 0, none⟩ (.int .i64 x1)).setCell ⟨w.heap.size + 1 + 1, 1, none⟩ (.int .i64 x2)) := below_far2 (below_far4 B8.out (by omega) _ _ _ _) (by omega) _ _ _ _
  have qO : World.ownsRow ((((((w8.setCell ⟨w.heap.size + 1, 0, none⟩ (.int .i64 C)).setCell ⟨w.heap.size + 1, 1, none⟩ (.int .i64 k)).setCell ⟨w.heap.size + 1, 2, none⟩ (.int .i64 L)).setCell ⟨w.heap.size + 1, 3, none⟩ (.slice (some ⟨g, 0, none⟩) C c2)).setCell ⟨w.heap.size + 1 + 1, 0, none⟩ (.int .i64 x1)).setCell ⟨w.heap.size + 1 + 1, 1, none⟩ (.int .i64 x2)) (w2.heap.size) 33 2 (.slice (some ⟨g, 0, none⟩) C c2) (C) (flat (cellsL C k ys)) := own_far2 (own_far4 O8.out (by omega) _ _ _ _) (by omega) _ _ _ _
  clear R8 Z8 Y8 B8 O8 X8
  generalize ((((((w8.setCell ⟨w.heap.size + 1, 0, none⟩ (.int .i64 C)).setCell ⟨w.heap.size + 1, 1, none⟩ (.int .i64 k)).setCell ⟨w.heap.size + 1, 2, none⟩ (.int .i64 L)).setCell ⟨w.heap.size + 1, 3, none⟩ (.slice (some ⟨g, 0, none⟩) C c2)).setCell ⟨w.heap.size + 1 + 1, 0, none⟩ (.int .i64 x1)).setCell ⟨w.heap.size + 1 + 1, 1, none⟩ (.int .i64 x2)) = w9 at *
  have Z9 := hide qZ
  have Y9 := hide qY
  have B9 := hide qB
  have O9 := hide qO
  clear qZ qY qB qO
  go_wp2
  refine bodyPost_ret (res3 rfl _ rfl Z9.out.drew rfl Y9.out.drew) rfl ?_
  exact ⟨_, c2, by rw [HL.out]; rfl, own_more O9.out.drew (by omega), B9.out.drew⟩
end Go.Proofs.Ytjbfefkbpnickaa
