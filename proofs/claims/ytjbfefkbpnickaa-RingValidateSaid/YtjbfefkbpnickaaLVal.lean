/- The walk of the law on valid buffers and their elements. -/
import Derived.Test.YtjbfefkbpnickaaLPush
import Derived.Test.YtjbfefkbpnickaaAt
namespace Go.Proofs.Ytjbfefkbpnickaa
open Go.RowKit
set_option linter.unusedVariables false
set_option maxRecDepth 100000 in
theorem lval_many (cap head len : Int) (A : Option Addr) (n c : Nat) (i : Int) (w : World) (hn : 200 < n) :
    Calls Try.prog 7 #[ringV cap head len A n c, .int .i64 i] w (TrueEnd w) := by
  have C12 := hide awake_any
  have C14 := hide (fun w0 => few_any cap head len A n c w0)
  unfold FewEnd at C14
  rw [decide_eq_false (by omega)] at C14
  unfold ringV at C14
  unfold ringV
  go_enter Try.func7, Try.ntmps7
  go_upto_region 1 with (fail)
  have qR : Blk (w.alloc (.cells #[.int .i64 cap, .int .i64 head, .int .i64 len, .slice A n c] 24)) (w.heap.size) 24 #[.int .i64 cap, .int .i64 head, .int .i64 len, .slice A n c] := Blk.new _ _ _
  have qB : Below w.heap.size w (w.alloc (.cells #[.int .i64 cap, .int .i64 head, .int .i64 len, .slice A n c] 24)) := Bl.alloc' (Below.refl _ _) _
  have z1 : (w.alloc (.cells #[.int .i64 cap, .int .i64 head, .int .i64 len, .slice A n c] 24)).heap.size = w.heap.size + 1 := by simp
  generalize (w.alloc (.cells #[.int .i64 cap, .int .i64 head, .int .i64 len, .slice A n c] 24)) = w1 at *
  have zi1 : w1.heap.size ≤ w.heap.size + 1 ∧ w.heap.size + 1 ≤ w1.heap.size := by omega
  clear z1
  have R1 := hide qR
  have B1 := hide qB
  clear qR qB
  obtain ⟨p0, p1, p2, p3, p4, p5, p6, p7⟩ := R1.out.four
  go_wp2_with (fail)
  refine (C14.out _).mono ?_
  rintro e w2 ⟨rfl, hb⟩
  have zs2 := hb.size
  clear p0 p1 p2 p3 p4 p5 p6 p7
  have qR : Blk w2 (w.heap.size) 24 #[.int .i64 cap, .int .i64 head, .int .i64 len, .slice A n c] := R1.out.below hb R1.out.lt
  have qB : Below w.heap.size w w2 := Bl.call' B1.out hb
  clear R1 B1
  have R2 := hide qR
  have B2 := hide qB
  clear qR qB
  clear hb
  go_wp2_with (fail)
  refine (C12.out _).mono ?_
  rintro e w3 ⟨rfl, hb⟩
  have zs3 := hb.size
  have qR : Blk w3 (w.heap.size) 24 #[.int .i64 cap, .int .i64 head, .int .i64 len, .slice A n c] := R2.out.below hb R2.out.lt
  have qB : Below w.heap.size w w3 := Bl.call' B2.out hb
  clear R2 B2
  have R3 := hide qR
  have B3 := hide qB
  clear qR qB
  clear hb
  go_wp2
  go_ret
  exact ⟨rfl, B3.out⟩
set_option maxRecDepth 100000 in
set_option maxHeartbeats 1000000 in
theorem lval_bad (cap head len : Int) (A : Option Addr) (n c : Nat) (l : List (Int × Int)) (i : Int) (w : World) (h : Sl2 w w.heap.size A n l) (hn : n ≤ 200) (hv : ¬ VOk cap head len l) :
    Calls Try.prog 7 #[ringV cap head len A n c, .int .i64 i] w (TrueEnd w) := by
  have C12 := hide awake_any
  have C14 := hide (fun w0 => few_any cap head len A n c w0)
  unfold FewEnd at C14
  rw [decide_eq_true (by omega)] at C14
  have C17 := hide (fun w0 (hb : Below w.heap.size w w0) => rvalidate_any cap head len A n c _ l w0 (h.below hb) hb.size)
  have C13 := hide (fun w0 (hb : Below w.heap.size w w0) => validate_any cap head len A n c _ l w0 (h.below hb) hb.size)
  unfold VEnd at C13 C17
  rw [vV_no hv] at C13 C17
  have C18 := hide (fun w0 (hb : Below w.heap.size w w0) => ritems_bad cap head len A n c _ l w0 (h.below hb) hb.size hv)
  have C24 := hide (fun w0 (hb : Below w.heap.size w w0) => items_bad cap head len A n c _ l w0 (h.below hb) hb.size hv)
  unfold NilEnd at C18 C24
  have C22 := hide (fun w0 (hb : Below w.heap.size w w0) => at_bad cap head len A n c _ l i w0 (h.below hb) hb.size hv)
  unfold AtEnd at C22
  clear h hv
  unfold ringV at C14 C13 C17 C18 C22 C24
  unfold itV at C22
  unfold ringV
  go_enter Try.func7, Try.ntmps7
  go_upto_region 1 with (fail)
  have qR : Blk (w.alloc (.cells #[.int .i64 cap, .int .i64 head, .int .i64 len, .slice A n c] 24)) (w.heap.size) 24 #[.int .i64 cap, .int .i64 head, .int .i64 len, .slice A n c] := Blk.new _ _ _
  have qB : Below w.heap.size w (w.alloc (.cells #[.int .i64 cap, .int .i64 head, .int .i64 len, .slice A n c] 24)) := Bl.alloc' (Below.refl _ _) _
  have z1 : (w.alloc (.cells #[.int .i64 cap, .int .i64 head, .int .i64 len, .slice A n c] 24)).heap.size = w.heap.size + 1 := by simp
  generalize (w.alloc (.cells #[.int .i64 cap, .int .i64 head, .int .i64 len, .slice A n c] 24)) = w1 at *
  have zi1 : w1.heap.size ≤ w.heap.size + 1 ∧ w.heap.size + 1 ≤ w1.heap.size := by omega
  clear z1
  have R1 := hide qR
  have B1 := hide qB
  clear qR qB
  obtain ⟨p0, p1, p2, p3, p4, p5, p6, p7⟩ := R1.out.four
  go_wp2_with (fail)
  refine (C14.out _).mono ?_
  rintro e w2 ⟨rfl, hb⟩
  have zs2 := hb.size
  clear p0 p1 p2 p3 p4 p5 p6 p7
  have qR : Blk w2 (w.heap.size) 24 #[.int .i64 cap, .int .i64 head, .int .i64 len, .slice A n c] := R1.out.below hb R1.out.lt
  have qB : Below w.heap.size w w2 := Bl.call' B1.out hb
  clear R1 B1
  have R2 := hide qR
  have B2 := hide qB
  clear qR qB
  clear hb
  obtain ⟨p0, p1, p2, p3, p4, p5, p6, p7⟩ := R2.out.four
  go_wp2_with (fail)
  refine (C17.out _ B2.out).mono ?_
  rintro e w3 ⟨rfl, hb⟩
  have zs3 := hb.size
  clear p0 p1 p2 p3 p4 p5 p6 p7
  have qR : Blk w3 (w.heap.size) 24 #[.int .i64 cap, .int .i64 head, .int .i64 len, .slice A n c] := R2.out.below hb R2.out.lt
  have qB : Below w.heap.size w w3 := Bl.call' B2.out hb
  clear R2 B2
  have R3 := hide qR
  have B3 := hide qB
  clear qR qB
  clear hb
  obtain ⟨p0, p1, p2, p3, p4, p5, p6, p7⟩ := R3.out.four
  go_wp2_with (fail)
  refine (C18.out _ B3.out).mono ?_
  rintro e w4 ⟨rfl, hb⟩
  have zs4 := hb.size
  clear p0 p1 p2 p3 p4 p5 p6 p7
  have qR : Blk w4 (w.heap.size) 24 #[.int .i64 cap, .int .i64 head, .int .i64 len, .slice A n c] := R3.out.below hb R3.out.lt
  have qB : Below w.heap.size w w4 := Bl.call' B3.out hb
  clear R3 B3
  have R4 := hide qR
  have B4 := hide qB
  clear qR qB
  clear hb
  obtain ⟨p0, p1, p2, p3, p4, p5, p6, p7⟩ := R4.out.four
  go_wp2_with (fail)
  refine (C22.out _ B4.out).mono ?_
  rintro e w5 ⟨rfl, hb⟩
  have zs5 := hb.size
  clear p0 p1 p2 p3 p4 p5 p6 p7
  have qR : Blk w5 (w.heap.size) 24 #[.int .i64 cap, .int .i64 head, .int .i64 len, .slice A n c] := R4.out.below hb R4.out.lt
  have qB : Below w.heap.size w w5 := Bl.call' B4.out hb
  clear R4 B4
  have R5 := hide qR
  have B5 := hide qB
  clear qR qB
  clear hb
  go_upto_region 6 with (fail)
  have qR : Blk (w5.alloc (.cells #[.int .i64 0, .int .i64 0] 33)) (w.heap.size) 24 #[.int .i64 cap, .int .i64 head, .int .i64 len, .slice A n c] := R5.out.alloc _
  have qB : Below w.heap.size w (w5.alloc (.cells #[.int .i64 0, .int .i64 0] 33)) := Bl.alloc' B5.out _
  have qX : Blk (w5.alloc (.cells #[.int .i64 0, .int .i64 0] 33)) (w5.heap.size) 33 #[.int .i64 0, .int .i64 0] := Blk.new _ _ _
  have z6 : (w5.alloc (.cells #[.int .i64 0, .int .i64 0] 33)).heap.size = w5.heap.size + 1 := by simp
  clear R5 B5
  generalize (w5.alloc (.cells #[.int .i64 0, .int .i64 0] 33)) = w6 at *
  have R6 := hide qR
  have B6 := hide qB
  have X6 := hide qX
  clear qR qB qX
  have zi6 : w6.heap.size ≤ w5.heap.size + 1 ∧ w5.heap.size < w6.heap.size := by omega
  clear z6
  obtain ⟨p0, p1, p2, p3, p4, p5, p6, p7⟩ := R6.out.four
  go_wp2_with (fail)
  refine (C13.out _ B6.out).mono ?_
  rintro e w7 ⟨rfl, hb⟩
  have zs7 := hb.size
  clear p0 p1 p2 p3 p4 p5 p6 p7
  have qR : Blk w7 (w.heap.size) 24 #[.int .i64 cap, .int .i64 head, .int .i64 len, .slice A n c] := R6.out.below hb R6.out.lt
  have qB : Below w.heap.size w w7 := Bl.call' B6.out hb
  have qX : Blk w7 (w5.heap.size) 33 #[.int .i64 0, .int .i64 0] := X6.out.below hb X6.out.lt
  clear R6 B6 X6
  have R7 := hide qR
  have B7 := hide qB
  have X7 := hide qX
  clear qR qB qX
  clear hb
  obtain ⟨p0, p1, p2, p3, p4, p5, p6, p7⟩ := R7.out.four
  go_wp2_with (fail)
  refine (C24.out _ B7.out).mono ?_
  rintro e w8 ⟨rfl, hb⟩
  have zs8 := hb.size
  clear p0 p1 p2 p3 p4 p5 p6 p7
  have qR : Blk w8 (w.heap.size) 24 #[.int .i64 cap, .int .i64 head, .int .i64 len, .slice A n c] := R7.out.below hb R7.out.lt
  have qB : Below w.heap.size w w8 := Bl.call' B7.out hb
  have qX : Blk w8 (w5.heap.size) 33 #[.int .i64 0, .int .i64 0] := X7.out.below hb X7.out.lt
  clear R7 B7 X7
  have R8 := hide qR
  have B8 := hide qB
  have X8 := hide qX
  clear qR qB qX
  clear hb
  have C23 := hide (same_any none none 0 0 0 0 0 0 [] [] w8 Sl2.none_ (by omega) Sl2.none_ (by omega))
  unfold SameEnd at C23
  rw [decide_eq_true rfl] at C23
  go_wp2_with (fail)
  refine C23.out.mono ?_
  rintro e w9 ⟨rfl, q, hq⟩
  have hb : Below w8.heap.size w8 w9 := by rw [hq]; exact below_drewN (Below.refl _ _) _
  clear hq C23
  have qR : Blk w9 (w.heap.size) 24 #[.int .i64 cap, .int .i64 head, .int .i64 len, .slice A n c] := R8.out.below hb R8.out.lt
  have qB : Below w.heap.size w w9 := Bl.call' B8.out hb
  have qX : Blk w9 (w5.heap.size) 33 #[.int .i64 0, .int .i64 0] := X8.out.below hb X8.out.lt
  clear R8 B8 X8
  have R9 := hide qR
  have B9 := hide qB
  have X9 := hide qX
  clear qR qB qX
  clear hb
  obtain ⟨y0, y1, y2, y3⟩ := X9.out.two
  go_wp2_with (fail)
  refine (C12.out _).mono ?_
  rintro e w10 ⟨rfl, hb⟩
  have zs10 := hb.size
  clear y0 y1 y2 y3
  have qR : Blk w10 (w.heap.size) 24 #[.int .i64 cap, .int .i64 head, .int .i64 len, .slice A n c] := R9.out.below hb R9.out.lt
  have qB : Below w.heap.size w w10 := Bl.call' B9.out hb
  have qX : Blk w10 (w5.heap.size) 33 #[.int .i64 0, .int .i64 0] := X9.out.below hb X9.out.lt
  clear R9 B9 X9
  have R10 := hide qR
  have B10 := hide qB
  have X10 := hide qX
  clear qR qB qX
  clear hb
  go_wp2
  go_ret
  exact ⟨rfl, B10.out⟩
set_option maxRecDepth 100000 in
set_option maxHeartbeats 1000000 in
theorem lval_neg (C H : Nat) (xs : List (Int × Int)) (A : Option Addr) (c : Nat) (i : Int) (hi : i < 0) (w : World) (h : Sl2 w w.heap.size A C (cellsL C H xs)) (hn : C ≤ 200) (hr : Rg C H xs.length (cellsL C H xs) C H xs) :
    Calls Try.prog 7 #[ringV C H xs.length A C c, .int .i64 i] w (TrueEnd w) := by
  have C12 := hide awake_any
  have C14 := hide (fun w0 => few_any C H xs.length A C c w0)
  unfold FewEnd at C14
  rw [decide_eq_true (by omega)] at C14
  have C17 := hide (fun w0 (hb : Below w.heap.size w w0) => rvalidate_any C H xs.length A C c _ (cellsL C H xs) w0 (h.below hb) hb.size)
  have C13 := hide (fun w0 (hb : Below w.heap.size w w0) => validate_any C H xs.length A C c _ (cellsL C H xs) w0 (h.below hb) hb.size)
  unfold VEnd at C13 C17
  rw [vV_yes hr.ok] at C13 C17
  have C18 := hide (fun w0 (hb : Below w.heap.size w w0) => ritems_ok C H xs A c _ w0 (h.below hb) hb.size hr)
  have C24 := hide (fun w0 (hb : Below w.heap.size w w0) => items_ok C H xs A c _ w0 (h.below hb) hb.size hr)
  unfold ListEnd at C18 C24
  have C22 := hide (fun w0 (hb : Below w.heap.size w w0) => at_neg C H xs.length A C c _ (cellsL C H xs) i w0 (h.below hb) hb.size hr.ok hi)
  unfold AtEnd at C22
  have hd : decide (i < 0) = true := by simpa using hi
  have hlx : xs.length ≤ 200 := Nat.le_trans hr.fits hn
  clear h hr
  have HXL := hide (show xs.length = xs.length from rfl)
  generalize hl : xs.length = L at *
  have HL := hide hl
  clear hl HXL
  unfold ringV at C14 C13 C17 C18 C22 C24
  unfold itV at C22
  unfold ringV
  go_enter Try.func7, Try.ntmps7
  go_upto_region 1 with (fail)
  have qR : Blk (w.alloc (.cells #[.int .i64 C, .int .i64 H, .int .i64 L, .slice A C c] 24)) (w.heap.size) 24 #[.int .i64 C, .int .i64 H, .int .i64 L, .slice A C c] := Blk.new _ _ _
  have qB : Below w.heap.size w (w.alloc (.cells #[.int .i64 C, .int .i64 H, .int .i64 L, .slice A C c] 24)) := Bl.alloc' (Below.refl _ _) _
  have z1 : (w.alloc (.cells #[.int .i64 C, .int .i64 H, .int .i64 L, .slice A C c] 24)).heap.size = w.heap.size + 1 := by simp
  generalize (w.alloc (.cells #[.int .i64 C, .int .i64 H, .int .i64 L, .slice A C c] 24)) = w1 at *
  have zi1 : w1.heap.size ≤ w.heap.size + 1 ∧ w.heap.size + 1 ≤ w1.heap.size := by omega
  clear z1
  have R1 := hide qR
  have B1 := hide qB
  clear qR qB
  obtain ⟨p0, p1, p2, p3, p4, p5, p6, p7⟩ := R1.out.four
  go_wp2_with (fail)
  refine (C14.out _).mono ?_
  rintro e w2 ⟨rfl, hb⟩
  have zs2 := hb.size
  clear p0 p1 p2 p3 p4 p5 p6 p7
  have qR : Blk w2 (w.heap.size) 24 #[.int .i64 C, .int .i64 H, .int .i64 L, .slice A C c] := R1.out.below hb R1.out.lt
  have qB : Below w.heap.size w w2 := Bl.call' B1.out hb
  clear R1 B1
  have R2 := hide qR
  have B2 := hide qB
  clear qR qB
  clear hb
  obtain ⟨p0, p1, p2, p3, p4, p5, p6, p7⟩ := R2.out.four
  go_wp2_with (fail)
  refine (C17.out _ B2.out).mono ?_
  rintro e w3 ⟨rfl, hb⟩
  have zs3 := hb.size
  clear p0 p1 p2 p3 p4 p5 p6 p7
  have qR : Blk w3 (w.heap.size) 24 #[.int .i64 C, .int .i64 H, .int .i64 L, .slice A C c] := R2.out.below hb R2.out.lt
  have qB : Below w.heap.size w w3 := Bl.call' B2.out hb
  clear R2 B2
  have R3 := hide qR
  have B3 := hide qB
  clear qR qB
  clear hb
  obtain ⟨p0, p1, p2, p3, p4, p5, p6, p7⟩ := R3.out.four
  go_wp2_with (fail)
  refine (C18.out _ B3.out).mono ?_
  rintro e w4 ⟨A1, c1, rfl, hown, hb⟩
  have zs4 := hb.size
  clear p0 p1 p2 p3 p4 p5 p6 p7
  have qR : Blk w4 (w.heap.size) 24 #[.int .i64 C, .int .i64 H, .int .i64 L, .slice A C c] := R3.out.below hb R3.out.lt
  have qB : Below w.heap.size w w4 := Bl.call' B3.out hb
  have qS : Sl2 w4 w4.heap.size A1 (L) xs := Sl2.own_h hown
  clear R3 B3
  have R4 := hide qR
  have B4 := hide qB
  have S4 := hide qS
  clear qR qB qS
  clear hb
  clear hown
  obtain ⟨p0, p1, p2, p3, p4, p5, p6, p7⟩ := R4.out.four
  go_wp2_with (fail)
  refine (C22.out _ B4.out).mono ?_
  rintro e w5 ⟨rfl, hb⟩
  have zs5 := hb.size
  clear p0 p1 p2 p3 p4 p5 p6 p7
  have qR : Blk w5 (w.heap.size) 24 #[.int .i64 C, .int .i64 H, .int .i64 L, .slice A C c] := R4.out.below hb R4.out.lt
  have qB : Below w.heap.size w w5 := Bl.call' B4.out hb
  have qS : Sl2 w5 w5.heap.size A1 (L) xs := Sl2.below_h hb S4.out
  clear R4 B4 S4
  have R5 := hide qR
  have B5 := hide qB
  have S5 := hide qS
  clear qR qB qS
  clear hb
  go_upto_region 6 with (fail)
  have qR : Blk (w5.alloc (.cells #[.int .i64 0, .int .i64 0] 33)) (w.heap.size) 24 #[.int .i64 C, .int .i64 H, .int .i64 L, .slice A C c] := R5.out.alloc _
  have qB : Below w.heap.size w (w5.alloc (.cells #[.int .i64 0, .int .i64 0] 33)) := Bl.alloc' B5.out _
  have qS : Sl2 (w5.alloc (.cells #[.int .i64 0, .int .i64 0] 33)) (w5.alloc (.cells #[.int .i64 0, .int .i64 0] 33)).heap.size A1 (L) xs := Sl2.alloc_h S5.out _
  have qX : Blk (w5.alloc (.cells #[.int .i64 0, .int .i64 0] 33)) (w5.heap.size) 33 #[.int .i64 0, .int .i64 0] := Blk.new _ _ _
  have z6 : (w5.alloc (.cells #[.int .i64 0, .int .i64 0] 33)).heap.size = w5.heap.size + 1 := by simp
  clear R5 B5 S5
  generalize (w5.alloc (.cells #[.int .i64 0, .int .i64 0] 33)) = w6 at *
  have R6 := hide qR
  have B6 := hide qB
  have S6 := hide qS
  have X6 := hide qX
  clear qR qB qS qX
  have zi6 : w6.heap.size ≤ w5.heap.size + 1 ∧ w5.heap.size < w6.heap.size := by omega
  clear z6
  obtain ⟨p0, p1, p2, p3, p4, p5, p6, p7⟩ := R6.out.four
  go_wp2_with (fail)
  refine (C13.out _ B6.out).mono ?_
  rintro e w7 ⟨rfl, hb⟩
  have zs7 := hb.size
  clear p0 p1 p2 p3 p4 p5 p6 p7
  have qR : Blk w7 (w.heap.size) 24 #[.int .i64 C, .int .i64 H, .int .i64 L, .slice A C c] := R6.out.below hb R6.out.lt
  have qB : Below w.heap.size w w7 := Bl.call' B6.out hb
  have qS : Sl2 w7 w7.heap.size A1 (L) xs := Sl2.below_h hb S6.out
  have qX : Blk w7 (w5.heap.size) 33 #[.int .i64 0, .int .i64 0] := X6.out.below hb X6.out.lt
  clear R6 B6 S6 X6
  have R7 := hide qR
  have B7 := hide qB
  have S7 := hide qS
  have X7 := hide qX
  clear qR qB qS qX
  clear hb
  obtain ⟨p0, p1, p2, p3, p4, p5, p6, p7⟩ := R7.out.four
  go_wp2_with (fail)
  refine (C24.out _ B7.out).mono ?_
  rintro e w8 ⟨A2, c2, rfl, hown, hb⟩
  have zs8 := hb.size
  clear p0 p1 p2 p3 p4 p5 p6 p7
  have qR : Blk w8 (w.heap.size) 24 #[.int .i64 C, .int .i64 H, .int .i64 L, .slice A C c] := R7.out.below hb R7.out.lt
  have qB : Below w.heap.size w w8 := Bl.call' B7.out hb
  have qS : Sl2 w8 w8.heap.size A1 (L) xs := Sl2.below_h hb S7.out
  have qX : Blk w8 (w5.heap.size) 33 #[.int .i64 0, .int .i64 0] := X7.out.below hb X7.out.lt
  have qT : Sl2 w8 w8.heap.size A2 (L) xs := Sl2.own_h hown
  clear R7 B7 S7 X7
  have R8 := hide qR
  have B8 := hide qB
  have S8 := hide qS
  have X8 := hide qX
  have T8 := hide qT
  clear qR qB qS qX qT
  clear hb
  clear hown
  have C23 := hide (same_any A2 A1 L c2 _ L c1 _ xs xs w8 T8.out (by omega) S8.out (by omega))
  unfold SameEnd at C23
  rw [decide_eq_true rfl] at C23
  go_wp2_with (fail)
  refine C23.out.mono ?_
  rintro e w9 ⟨rfl, q, hq⟩
  have hb : Below w8.heap.size w8 w9 := by rw [hq]; exact below_drewN (Below.refl _ _) _
  clear hq C23
  have qR : Blk w9 (w.heap.size) 24 #[.int .i64 C, .int .i64 H, .int .i64 L, .slice A C c] := R8.out.below hb R8.out.lt
  have qB : Below w.heap.size w w9 := Bl.call' B8.out hb
  have qS : Sl2 w9 w9.heap.size A1 (L) xs := Sl2.below_h hb S8.out
  have qX : Blk w9 (w5.heap.size) 33 #[.int .i64 0, .int .i64 0] := X8.out.below hb X8.out.lt
  have qT : Sl2 w9 w9.heap.size A2 (L) xs := Sl2.below_h hb T8.out
  clear R8 B8 S8 X8 T8
  have R9 := hide qR
  have B9 := hide qB
  have S9 := hide qS
  have X9 := hide qX
  have T9 := hide qT
  clear qR qB qS qX qT
  clear hb
  obtain ⟨y0, y1, y2, y3⟩ := X9.out.two
  go_wp2_with (fail)
  refine (C12.out _).mono ?_
  rintro e w10 ⟨rfl, hb⟩
  have zs10 := hb.size
  clear y0 y1 y2 y3
  have qR : Blk w10 (w.heap.size) 24 #[.int .i64 C, .int .i64 H, .int .i64 L, .slice A C c] := R9.out.below hb R9.out.lt
  have qB : Below w.heap.size w w10 := Bl.call' B9.out hb
  have qS : Sl2 w10 w10.heap.size A1 (L) xs := Sl2.below_h hb S9.out
  have qX : Blk w10 (w5.heap.size) 33 #[.int .i64 0, .int .i64 0] := X9.out.below hb X9.out.lt
  have qT : Sl2 w10 w10.heap.size A2 (L) xs := Sl2.below_h hb T9.out
  clear R9 B9 S9 X9 T9
  have R10 := hide qR
  have B10 := hide qB
  have S10 := hide qS
  have X10 := hide qX
  have T10 := hide qT
  clear qR qB qS qX qT
  clear hb
  go_wp2
  go_ret
  exact ⟨rfl, B10.out⟩
set_option maxRecDepth 100000 in
set_option maxHeartbeats 1000000 in
theorem lval_over (C H : Nat) (xs : List (Int × Int)) (A : Option Addr) (c : Nat) (i : Int) (hi : 0 ≤ i) (hi2 : (xs.length : Int) ≤ i) (w : World) (h : Sl2 w w.heap.size A C (cellsL C H xs)) (hn : C ≤ 200) (hr : Rg C H xs.length (cellsL C H xs) C H xs) :
    Calls Try.prog 7 #[ringV C H xs.length A C c, .int .i64 i] w (TrueEnd w) := by
  have C12 := hide awake_any
  have C14 := hide (fun w0 => few_any C H xs.length A C c w0)
  unfold FewEnd at C14
  rw [decide_eq_true (by omega)] at C14
  have C17 := hide (fun w0 (hb : Below w.heap.size w w0) => rvalidate_any C H xs.length A C c _ (cellsL C H xs) w0 (h.below hb) hb.size)
  have C13 := hide (fun w0 (hb : Below w.heap.size w w0) => validate_any C H xs.length A C c _ (cellsL C H xs) w0 (h.below hb) hb.size)
  unfold VEnd at C13 C17
  rw [vV_yes hr.ok] at C13 C17
  have C18 := hide (fun w0 (hb : Below w.heap.size w w0) => ritems_ok C H xs A c _ w0 (h.below hb) hb.size hr)
  have C24 := hide (fun w0 (hb : Below w.heap.size w w0) => items_ok C H xs A c _ w0 (h.below hb) hb.size hr)
  unfold ListEnd at C18 C24
  have C22 := hide (fun w0 (hb : Below w.heap.size w w0) => at_over C H xs.length A C c _ (cellsL C H xs) i w0 (h.below hb) hb.size hr.ok hi hi2)
  unfold AtEnd at C22
  have hd : decide (i < 0) = false := by simpa using hi
  have hd2 : decide ((xs.length : Int) ≤ i) = true := by simpa using hi2
  have hlx : xs.length ≤ 200 := Nat.le_trans hr.fits hn
  clear h hr
  have HXL := hide (show xs.length = xs.length from rfl)
  generalize hl : xs.length = L at *
  have HL := hide hl
  clear hl HXL
  unfold ringV at C14 C13 C17 C18 C22 C24
  unfold itV at C22
  unfold ringV
  go_enter Try.func7, Try.ntmps7
  go_upto_region 1 with (fail)
  have qR : Blk (w.alloc (.cells #[.int .i64 C, .int .i64 H, .int .i64 L, .slice A C c] 24)) (w.heap.size) 24 #[.int .i64 C, .int .i64 H, .int .i64 L, .slice A C c] := Blk.new _ _ _
  have qB : Below w.heap.size w (w.alloc (.cells #[.int .i64 C, .int .i64 H, .int .i64 L, .slice A C c] 24)) := Bl.alloc' (Below.refl _ _) _
  have z1 : (w.alloc (.cells #[.int .i64 C, .int .i64 H, .int .i64 L, .slice A C c] 24)).heap.size = w.heap.size + 1 := by simp
  generalize (w.alloc (.cells #[.int .i64 C, .int .i64 H, .int .i64 L, .slice A C c] 24)) = w1 at *
  have zi1 : w1.heap.size ≤ w.heap.size + 1 ∧ w.heap.size + 1 ≤ w1.heap.size := by omega
  clear z1
  have R1 := hide qR
  have B1 := hide qB
  clear qR qB
  obtain ⟨p0, p1, p2, p3, p4, p5, p6, p7⟩ := R1.out.four
  go_wp2_with (fail)
  refine (C14.out _).mono ?_
  rintro e w2 ⟨rfl, hb⟩
  have zs2 := hb.size
  clear p0 p1 p2 p3 p4 p5 p6 p7
  have qR : Blk w2 (w.heap.size) 24 #[.int .i64 C, .int .i64 H, .int .i64 L, .slice A C c] := R1.out.below hb R1.out.lt
  have qB : Below w.heap.size w w2 := Bl.call' B1.out hb
  clear R1 B1
  have R2 := hide qR
  have B2 := hide qB
  clear qR qB
  clear hb
  obtain ⟨p0, p1, p2, p3, p4, p5, p6, p7⟩ := R2.out.four
  go_wp2_with (fail)
  refine (C17.out _ B2.out).mono ?_
  rintro e w3 ⟨rfl, hb⟩
  have zs3 := hb.size
  clear p0 p1 p2 p3 p4 p5 p6 p7
  have qR : Blk w3 (w.heap.size) 24 #[.int .i64 C, .int .i64 H, .int .i64 L, .slice A C c] := R2.out.below hb R2.out.lt
  have qB : Below w.heap.size w w3 := Bl.call' B2.out hb
  clear R2 B2
  have R3 := hide qR
  have B3 := hide qB
  clear qR qB
  clear hb
  obtain ⟨p0, p1, p2, p3, p4, p5, p6, p7⟩ := R3.out.four
  go_wp2_with (fail)
  refine (C18.out _ B3.out).mono ?_
  rintro e w4 ⟨A1, c1, rfl, hown, hb⟩
  have zs4 := hb.size
  clear p0 p1 p2 p3 p4 p5 p6 p7
  have qR : Blk w4 (w.heap.size) 24 #[.int .i64 C, .int .i64 H, .int .i64 L, .slice A C c] := R3.out.below hb R3.out.lt
  have qB : Below w.heap.size w w4 := Bl.call' B3.out hb
  have qS : Sl2 w4 w4.heap.size A1 (L) xs := Sl2.own_h hown
  clear R3 B3
  have R4 := hide qR
  have B4 := hide qB
  have S4 := hide qS
  clear qR qB qS
  clear hb
  clear hown
  obtain ⟨p0, p1, p2, p3, p4, p5, p6, p7⟩ := R4.out.four
  go_wp2_with (fail)
  refine (C22.out _ B4.out).mono ?_
  rintro e w5 ⟨rfl, hb⟩
  have zs5 := hb.size
  clear p0 p1 p2 p3 p4 p5 p6 p7
  have qR : Blk w5 (w.heap.size) 24 #[.int .i64 C, .int .i64 H, .int .i64 L, .slice A C c] := R4.out.below hb R4.out.lt
  have qB : Below w.heap.size w w5 := Bl.call' B4.out hb
  have qS : Sl2 w5 w5.heap.size A1 (L) xs := Sl2.below_h hb S4.out
  clear R4 B4 S4
  have R5 := hide qR
  have B5 := hide qB
  have S5 := hide qS
  clear qR qB qS
  clear hb
  go_upto_region 6 with (fail)
  have qR : Blk (w5.alloc (.cells #[.int .i64 0, .int .i64 0] 33)) (w.heap.size) 24 #[.int .i64 C, .int .i64 H, .int .i64 L, .slice A C c] := R5.out.alloc _
  have qB : Below w.heap.size w (w5.alloc (.cells #[.int .i64 0, .int .i64 0] 33)) := Bl.alloc' B5.out _
  have qS : Sl2 (w5.alloc (.cells #[.int .i64 0, .int .i64 0] 33)) (w5.alloc (.cells #[.int .i64 0, .int .i64 0] 33)).heap.size A1 (L) xs := Sl2.alloc_h S5.out _
  have qX : Blk (w5.alloc (.cells #[.int .i64 0, .int .i64 0] 33)) (w5.heap.size) 33 #[.int .i64 0, .int .i64 0] := Blk.new _ _ _
  have z6 : (w5.alloc (.cells #[.int .i64 0, .int .i64 0] 33)).heap.size = w5.heap.size + 1 := by simp
  clear R5 B5 S5
  generalize (w5.alloc (.cells #[.int .i64 0, .int .i64 0] 33)) = w6 at *
  have R6 := hide qR
  have B6 := hide qB
  have S6 := hide qS
  have X6 := hide qX
  clear qR qB qS qX
  have zi6 : w6.heap.size ≤ w5.heap.size + 1 ∧ w5.heap.size < w6.heap.size := by omega
  clear z6
  obtain ⟨p0, p1, p2, p3, p4, p5, p6, p7⟩ := R6.out.four
  go_wp2_with (fail)
  refine (C13.out _ B6.out).mono ?_
  rintro e w7 ⟨rfl, hb⟩
  have zs7 := hb.size
  clear p0 p1 p2 p3 p4 p5 p6 p7
  have qR : Blk w7 (w.heap.size) 24 #[.int .i64 C, .int .i64 H, .int .i64 L, .slice A C c] := R6.out.below hb R6.out.lt
  have qB : Below w.heap.size w w7 := Bl.call' B6.out hb
  have qS : Sl2 w7 w7.heap.size A1 (L) xs := Sl2.below_h hb S6.out
  have qX : Blk w7 (w5.heap.size) 33 #[.int .i64 0, .int .i64 0] := X6.out.below hb X6.out.lt
  clear R6 B6 S6 X6
  have R7 := hide qR
  have B7 := hide qB
  have S7 := hide qS
  have X7 := hide qX
  clear qR qB qS qX
  clear hb
  obtain ⟨p0, p1, p2, p3, p4, p5, p6, p7⟩ := R7.out.four
  go_wp2_with (fail)
  refine (C24.out _ B7.out).mono ?_
  rintro e w8 ⟨A2, c2, rfl, hown, hb⟩
  have zs8 := hb.size
  clear p0 p1 p2 p3 p4 p5 p6 p7
  have qR : Blk w8 (w.heap.size) 24 #[.int .i64 C, .int .i64 H, .int .i64 L, .slice A C c] := R7.out.below hb R7.out.lt
  have qB : Below w.heap.size w w8 := Bl.call' B7.out hb
  have qS : Sl2 w8 w8.heap.size A1 (L) xs := Sl2.below_h hb S7.out
  have qX : Blk w8 (w5.heap.size) 33 #[.int .i64 0, .int .i64 0] := X7.out.below hb X7.out.lt
  have qT : Sl2 w8 w8.heap.size A2 (L) xs := Sl2.own_h hown
  clear R7 B7 S7 X7
  have R8 := hide qR
  have B8 := hide qB
  have S8 := hide qS
  have X8 := hide qX
  have T8 := hide qT
  clear qR qB qS qX qT
  clear hb
  clear hown
  have C23 := hide (same_any A2 A1 L c2 _ L c1 _ xs xs w8 T8.out (by omega) S8.out (by omega))
  unfold SameEnd at C23
  rw [decide_eq_true rfl] at C23
  go_wp2_with (fail)
  refine C23.out.mono ?_
  rintro e w9 ⟨rfl, q, hq⟩
  have hb : Below w8.heap.size w8 w9 := by rw [hq]; exact below_drewN (Below.refl _ _) _
  clear hq C23
  have qR : Blk w9 (w.heap.size) 24 #[.int .i64 C, .int .i64 H, .int .i64 L, .slice A C c] := R8.out.below hb R8.out.lt
  have qB : Below w.heap.size w w9 := Bl.call' B8.out hb
  have qS : Sl2 w9 w9.heap.size A1 (L) xs := Sl2.below_h hb S8.out
  have qX : Blk w9 (w5.heap.size) 33 #[.int .i64 0, .int .i64 0] := X8.out.below hb X8.out.lt
  have qT : Sl2 w9 w9.heap.size A2 (L) xs := Sl2.below_h hb T8.out
  clear R8 B8 S8 X8 T8
  have R9 := hide qR
  have B9 := hide qB
  have S9 := hide qS
  have X9 := hide qX
  have T9 := hide qT
  clear qR qB qS qX qT
  clear hb
  obtain ⟨y0, y1, y2, y3⟩ := X9.out.two
  go_wp2_with (fail)
  refine (C12.out _).mono ?_
  rintro e w10 ⟨rfl, hb⟩
  have zs10 := hb.size
  clear y0 y1 y2 y3
  have qR : Blk w10 (w.heap.size) 24 #[.int .i64 C, .int .i64 H, .int .i64 L, .slice A C c] := R9.out.below hb R9.out.lt
  have qB : Below w.heap.size w w10 := Bl.call' B9.out hb
  have qS : Sl2 w10 w10.heap.size A1 (L) xs := Sl2.below_h hb S9.out
  have qX : Blk w10 (w5.heap.size) 33 #[.int .i64 0, .int .i64 0] := X9.out.below hb X9.out.lt
  have qT : Sl2 w10 w10.heap.size A2 (L) xs := Sl2.below_h hb T9.out
  clear R9 B9 S9 X9 T9
  have R10 := hide qR
  have B10 := hide qB
  have S10 := hide qS
  have X10 := hide qX
  have T10 := hide qT
  clear qR qB qS qX qT
  clear hb
  go_wp2
  go_ret
  exact ⟨rfl, B10.out⟩
set_option maxRecDepth 100000 in
set_option maxHeartbeats 1000000 in
theorem lval_in (C H : Nat) (xs : List (Int × Int)) (A : Option Addr) (c : Nat) (i : Nat) (p : Int × Int) (hp : xs[i]? = some p) (w : World) (h : Sl2 w w.heap.size A C (cellsL C H xs)) (hn : C ≤ 200) (hr : Rg C H xs.length (cellsL C H xs) C H xs) :
    Calls Try.prog 7 #[ringV C H xs.length A C c, .int .i64 i] w (TrueEnd w) := by
  have C12 := hide awake_any
  have C14 := hide (fun w0 => few_any C H xs.length A C c w0)
  unfold FewEnd at C14
  rw [decide_eq_true (by omega)] at C14
  have C17 := hide (fun w0 (hb : Below w.heap.size w w0) => rvalidate_any C H xs.length A C c _ (cellsL C H xs) w0 (h.below hb) hb.size)
  have C13 := hide (fun w0 (hb : Below w.heap.size w w0) => validate_any C H xs.length A C c _ (cellsL C H xs) w0 (h.below hb) hb.size)
  unfold VEnd at C13 C17
  rw [vV_yes hr.ok] at C13 C17
  have C18 := hide (fun w0 (hb : Below w.heap.size w w0) => ritems_ok C H xs A c _ w0 (h.below hb) hb.size hr)
  have C24 := hide (fun w0 (hb : Below w.heap.size w w0) => items_ok C H xs A c _ w0 (h.below hb) hb.size hr)
  unfold ListEnd at C18 C24
  have C22 := hide (fun w0 (hb : Below w.heap.size w w0) => at_in C H xs A c _ i p w0 (h.below hb) hb.size hr hp)
  unfold AtEnd at C22
  have hil : i < xs.length := (List.getElem?_eq_some_iff.1 hp).1
  have HP := hide hp
  have hd : decide ((i : Int) < 0) = false := by simp
  have hd2 : decide ((xs.length : Int) ≤ i) = false := by simp; omega
  have hi0 : (0 : Int) ≤ i := by omega
  have hi1 : (i : Int) < xs.length := by omega
  clear hp
  have hlx : xs.length ≤ 200 := Nat.le_trans hr.fits hn
  clear h hr
  have HXL := hide (show xs.length = xs.length from rfl)
  generalize hl : xs.length = L at *
  have HL := hide hl
  clear hl HXL
  unfold ringV at C14 C13 C17 C18 C22 C24
  unfold itV at C22
  unfold ringV
  go_enter Try.func7, Try.ntmps7
  go_upto_region 1 with (fail)
  have qR : Blk (w.alloc (.cells #[.int .i64 C, .int .i64 H, .int .i64 L, .slice A C c] 24)) (w.heap.size) 24 #[.int .i64 C, .int .i64 H, .int .i64 L, .slice A C c] := Blk.new _ _ _
  have qB : Below w.heap.size w (w.alloc (.cells #[.int .i64 C, .int .i64 H, .int .i64 L, .slice A C c] 24)) := Bl.alloc' (Below.refl _ _) _
  have z1 : (w.alloc (.cells #[.int .i64 C, .int .i64 H, .int .i64 L, .slice A C c] 24)).heap.size = w.heap.size + 1 := by simp
  generalize (w.alloc (.cells #[.int .i64 C, .int .i64 H, .int .i64 L, .slice A C c] 24)) = w1 at *
  have zi1 : w1.heap.size ≤ w.heap.size + 1 ∧ w.heap.size + 1 ≤ w1.heap.size := by omega
  clear z1
  have R1 := hide qR
  have B1 := hide qB
  clear qR qB
  obtain ⟨p0, p1, p2, p3, p4, p5, p6, p7⟩ := R1.out.four
  go_wp2_with (fail)
  refine (C14.out _).mono ?_
  rintro e w2 ⟨rfl, hb⟩
  have zs2 := hb.size
  clear p0 p1 p2 p3 p4 p5 p6 p7
  have qR : Blk w2 (w.heap.size) 24 #[.int .i64 C, .int .i64 H, .int .i64 L, .slice A C c] := R1.out.below hb R1.out.lt
  have qB : Below w.heap.size w w2 := Bl.call' B1.out hb
  clear R1 B1
  have R2 := hide qR
  have B2 := hide qB
  clear qR qB
  clear hb
  obtain ⟨p0, p1, p2, p3, p4, p5, p6, p7⟩ := R2.out.four
  go_wp2_with (fail)
  refine (C17.out _ B2.out).mono ?_
  rintro e w3 ⟨rfl, hb⟩
  have zs3 := hb.size
  clear p0 p1 p2 p3 p4 p5 p6 p7
  have qR : Blk w3 (w.heap.size) 24 #[.int .i64 C, .int .i64 H, .int .i64 L, .slice A C c] := R2.out.below hb R2.out.lt
  have qB : Below w.heap.size w w3 := Bl.call' B2.out hb
  clear R2 B2
  have R3 := hide qR
  have B3 := hide qB
  clear qR qB
  clear hb
  obtain ⟨p0, p1, p2, p3, p4, p5, p6, p7⟩ := R3.out.four
  go_wp2_with (fail)
  refine (C18.out _ B3.out).mono ?_
  rintro e w4 ⟨A1, c1, rfl, hown, hb⟩
  have zs4 := hb.size
  clear p0 p1 p2 p3 p4 p5 p6 p7
  have qR : Blk w4 (w.heap.size) 24 #[.int .i64 C, .int .i64 H, .int .i64 L, .slice A C c] := R3.out.below hb R3.out.lt
  have qB : Below w.heap.size w w4 := Bl.call' B3.out hb
  have qS : Sl2 w4 w4.heap.size A1 (L) xs := Sl2.own_h hown
  clear R3 B3
  have R4 := hide qR
  have B4 := hide qB
  have S4 := hide qS
  clear qR qB qS
  clear hb
  clear hown
  obtain ⟨p0, p1, p2, p3, p4, p5, p6, p7⟩ := R4.out.four
  go_wp2_with (fail)
  refine (C22.out _ B4.out).mono ?_
  rintro e w5 ⟨rfl, hb⟩
  have zs5 := hb.size
  clear p0 p1 p2 p3 p4 p5 p6 p7
  have qR : Blk w5 (w.heap.size) 24 #[.int .i64 C, .int .i64 H, .int .i64 L, .slice A C c] := R4.out.below hb R4.out.lt
  have qB : Below w.heap.size w w5 := Bl.call' B4.out hb
  have qS : Sl2 w5 w5.heap.size A1 (L) xs := Sl2.below_h hb S4.out
  clear R4 B4 S4
  have R5 := hide qR
  have B5 := hide qB
  have S5 := hide qS
  clear qR qB qS
  clear hb
  go_upto_region 6 with (fail)
  have qR : Blk (w5.alloc (.cells #[.int .i64 p.1, .int .i64 p.2] 33)) (w.heap.size) 24 #[.int .i64 C, .int .i64 H, .int .i64 L, .slice A C c] := R5.out.alloc _
  have qB : Below w.heap.size w (w5.alloc (.cells #[.int .i64 p.1, .int .i64 p.2] 33)) := Bl.alloc' B5.out _
  have qS : Sl2 (w5.alloc (.cells #[.int .i64 p.1, .int .i64 p.2] 33)) (w5.alloc (.cells #[.int .i64 p.1, .int .i64 p.2] 33)).heap.size A1 (L) xs := Sl2.alloc_h S5.out _
  have qX : Blk (w5.alloc (.cells #[.int .i64 p.1, .int .i64 p.2] 33)) (w5.heap.size) 33 #[.int .i64 p.1, .int .i64 p.2] := Blk.new _ _ _
  have z6 : (w5.alloc (.cells #[.int .i64 p.1, .int .i64 p.2] 33)).heap.size = w5.heap.size + 1 := by simp
  clear R5 B5 S5
  generalize (w5.alloc (.cells #[.int .i64 p.1, .int .i64 p.2] 33)) = w6 at *
  have R6 := hide qR
  have B6 := hide qB
  have S6 := hide qS
  have X6 := hide qX
  clear qR qB qS qX
  have zi6 : w6.heap.size ≤ w5.heap.size + 1 ∧ w5.heap.size < w6.heap.size := by omega
  clear z6
  obtain ⟨p0, p1, p2, p3, p4, p5, p6, p7⟩ := R6.out.four
  go_wp2_with (fail)
  refine (C13.out _ B6.out).mono ?_
  rintro e w7 ⟨rfl, hb⟩
  have zs7 := hb.size
  clear p0 p1 p2 p3 p4 p5 p6 p7
  have qR : Blk w7 (w.heap.size) 24 #[.int .i64 C, .int .i64 H, .int .i64 L, .slice A C c] := R6.out.below hb R6.out.lt
  have qB : Below w.heap.size w w7 := Bl.call' B6.out hb
  have qS : Sl2 w7 w7.heap.size A1 (L) xs := Sl2.below_h hb S6.out
  have qX : Blk w7 (w5.heap.size) 33 #[.int .i64 p.1, .int .i64 p.2] := X6.out.below hb X6.out.lt
  clear R6 B6 S6 X6
  have R7 := hide qR
  have B7 := hide qB
  have S7 := hide qS
  have X7 := hide qX
  clear qR qB qS qX
  clear hb
  obtain ⟨p0, p1, p2, p3, p4, p5, p6, p7⟩ := R7.out.four
  go_wp2_with (fail)
  refine (C24.out _ B7.out).mono ?_
  rintro e w8 ⟨A2, c2, rfl, hown, hb⟩
  have zs8 := hb.size
  clear p0 p1 p2 p3 p4 p5 p6 p7
  have qR : Blk w8 (w.heap.size) 24 #[.int .i64 C, .int .i64 H, .int .i64 L, .slice A C c] := R7.out.below hb R7.out.lt
  have qB : Below w.heap.size w w8 := Bl.call' B7.out hb
  have qS : Sl2 w8 w8.heap.size A1 (L) xs := Sl2.below_h hb S7.out
  have qX : Blk w8 (w5.heap.size) 33 #[.int .i64 p.1, .int .i64 p.2] := X7.out.below hb X7.out.lt
  have qT : Sl2 w8 w8.heap.size A2 (L) xs := Sl2.own_h hown
  clear R7 B7 S7 X7
  have R8 := hide qR
  have B8 := hide qB
  have S8 := hide qS
  have X8 := hide qX
  have T8 := hide qT
  clear qR qB qS qX qT
  clear hb
  clear hown
  have C23 := hide (same_any A2 A1 L c2 _ L c1 _ xs xs w8 T8.out (by omega) S8.out (by omega))
  unfold SameEnd at C23
  rw [decide_eq_true rfl] at C23
  go_wp2_with (fail)
  refine C23.out.mono ?_
  rintro e w9 ⟨rfl, q, hq⟩
  have hb : Below w8.heap.size w8 w9 := by rw [hq]; exact below_drewN (Below.refl _ _) _
  clear hq C23
  have qR : Blk w9 (w.heap.size) 24 #[.int .i64 C, .int .i64 H, .int .i64 L, .slice A C c] := R8.out.below hb R8.out.lt
  have qB : Below w.heap.size w w9 := Bl.call' B8.out hb
  have qS : Sl2 w9 w9.heap.size A1 (L) xs := Sl2.below_h hb S8.out
  have qX : Blk w9 (w5.heap.size) 33 #[.int .i64 p.1, .int .i64 p.2] := X8.out.below hb X8.out.lt
  have qT : Sl2 w9 w9.heap.size A2 (L) xs := Sl2.below_h hb T8.out
  clear R8 B8 S8 X8 T8
  have R9 := hide qR
  have B9 := hide qB
  have S9 := hide qS
  have X9 := hide qX
  have T9 := hide qT
  clear qR qB qS qX qT
  clear hb
  obtain ⟨y0, y1, y2, y3⟩ := X9.out.two
  go_upto_region 12 with (fail)
  obtain ⟨b, o, z1, z2, hA1, hbB, hz, d1, d2⟩ := S9.out.at_ hil
  subst hA1
  obtain ⟨rfl, rfl⟩ : z1 = p.1 ∧ z2 = p.2 := by have := HP.out; rw [hz] at this; injection this with this; subst this; exact ⟨rfl, rfl⟩
  clear hz
  have hq0 := X9.out.lt
  have HC0 := hide (show w9.cell? ⟨w5.heap.size, 0, none⟩ = some (.int .i64 p.1) ∧ w9.cell? ⟨w5.heap.size, 1, none⟩ = some (.int .i64 p.2) ∧ w9.cell? ⟨b, o + i * 2, none⟩ = some (.int .i64 p.1) ∧ w9.cell? ⟨b, o + i * 2 + 1, none⟩ = some (.int .i64 p.2) from ⟨y0, y1, d1, d2⟩)
  go_region_held3 (fun w' => w'.cell? ⟨w5.heap.size, 0, none⟩ = some (.int .i64 p.1) ∧ w'.cell? ⟨w5.heap.size, 1, none⟩ = some (.int .i64 p.2) ∧ w'.cell? ⟨b, o + i * 2, none⟩ = some (.int .i64 p.1) ∧ w'.cell? ⟨b, o + i * 2 + 1, none⟩ = some (.int .i64 p.2)) ((refine held4_below HC0.out ?_ hq0 hq0 hbB hbB; (repeat (first | with_reducible exact Below.refl _ _ | with_reducible exact hbz | with_reducible refine Below.drew ?_)))) (first | (go_at_call 12; refine (C12.out _).mono ?_; rintro e wz ⟨rfl, hbzx⟩; have hbz : Below w9.heap.size w9 wz := below_undrew hbzx; clear hbzx))
  go_wp2
  go_ret
  exact ⟨rfl, Bl.call' B9.out hbz⟩
theorem ringValidate_walk (cap head len : Int) (A : Option Addr) (n c : Nat) (l : List (Int × Int)) (i : Int) (w : World) (h : Sl2 w w.heap.size A n l) :
    Calls Try.prog 7 #[ringV cap head len A n c, .int .i64 i] w (TrueEnd w) := by
  rcases Nat.lt_or_ge 200 n with hn | hn
  · exact lval_many cap head len A n c i w hn
  · by_cases hv : VOk cap head len l
    · obtain ⟨C, H, xs, hr⟩ := Rg.of_ok hv
      have hr2 := hr
      obtain ⟨rfl, rfl, rfl, h1, h2, h3, h4, rfl⟩ := hr
      have hl := h.1
      rw [cellsL_len] at hl
      subst hl
      by_cases hi : i < 0
      · exact lval_neg C H xs A c i hi w h hn hr2
      · by_cases hi2 : (xs.length : Int) ≤ i
        · exact lval_over C H xs A c i (by omega) hi2 w h hn hr2
        · obtain ⟨j, rfl⟩ := Int.eq_ofNat_of_zero_le (a := i) (by omega)
          exact lval_in C H xs A c j _ (List.getElem?_eq_getElem (by omega)) w h hn hr2
    · exact lval_bad cap head len A n c l i w h hn hv
end Go.Proofs.Ytjbfefkbpnickaa
