/- The walk of the law on taking the first and the last element. -/
import Derived.Test.YtjbfefkbpnickaaLPush
import Derived.Test.YtjbfefkbpnickaaPopF
import Derived.Test.YtjbfefkbpnickaaPopB
namespace Go.Proofs.Ytjbfefkbpnickaa
open Go.RowKit
set_option linter.unusedVariables false
set_option maxRecDepth 100000 in
theorem lpop_many (cap head len : Int) (A : Option Addr) (n c : Nat) (w : World) (hn : 200 < n) :
    Calls Try.prog 8 #[ringV cap head len A n c] w (TrueEnd w) := by
  have C12 := hide awake_any
  have C14 := hide (fun w0 => few_any cap head len A n c w0)
  unfold FewEnd at C14
  rw [decide_eq_false (by omega)] at C14
  unfold ringV at C14
  unfold ringV
  go_enter Try.func8, Try.ntmps8
  go_upto_region 1 with (fail)
  have qR : Blk (w.alloc (.cells #[.int .i64 cap, .int .i64 head, .int .i64 len, .slice A n c] 24)) (w.heap.size) 24 #[.int .i64 cap, .int .i64 head, .int .i64 len, .slice A n c] := Blk.new _ _ _
  have qB : Below w.heap.size w (w.alloc (.cells #[.int .i64 cap, .int .i64 head, .int .i64 len, .slice A n c] 24)) := Bl.alloc' (Below.refl _ _) _
  have z1 : (w.alloc (.cells #[.int .i64 cap, .int .i64 head, .int .i64 len, .slice A n c] 24)).heap.size = w.heap.size + 1 := by simp
  generalize (w.alloc (.cells #[.int .i64 cap, .int .i64 head, .int .i64 len, .slice A n c] 24)) = w1 at *
  have zi1 : w1.heap.size ≤ w.heap.size + 1 ∧ w.heap.size + 1 ≤ w1.heap.size := by omega
  clear z1
  have R1 := hide qR
  have B1 := hide qB
  clear qR qB
  obtain ⟨p0, p1, p2, p3, p4, p5, p6, p7⟩ := R1.out.four
  go_wp2_with (fail)
  refine (C14.out _).mono ?_
  rintro e w2 ⟨rfl, hb⟩
  have zs2 := hb.size
  clear p0 p1 p2 p3 p4 p5 p6 p7
  have qR : Blk w2 (w.heap.size) 24 #[.int .i64 cap, .int .i64 head, .int .i64 len, .slice A n c] := R1.out.below hb R1.out.lt
  have qB : Below w.heap.size w w2 := Bl.call' B1.out hb
  clear R1 B1
  have R2 := hide qR
  have B2 := hide qB
  clear qR qB
  clear hb
  go_wp2_with (fail)
  refine (C12.out _).mono ?_
  rintro e w3 ⟨rfl, hb⟩
  have zs3 := hb.size
  have qR : Blk w3 (w.heap.size) 24 #[.int .i64 cap, .int .i64 head, .int .i64 len, .slice A n c] := R2.out.below hb R2.out.lt
  have qB : Below w.heap.size w w3 := Bl.call' B2.out hb
  clear R2 B2
  have R3 := hide qR
  have B3 := hide qB
  clear qR qB
  clear hb
  go_wp2
  go_ret
  exact ⟨rfl, B3.out⟩
set_option maxRecDepth 100000 in
set_option maxHeartbeats 1000000 in
theorem lpop_bad (cap head len : Int) (A : Option Addr) (n c : Nat) (l : List (Int × Int)) (w : World) (h : Sl2 w w.heap.size A n l) (hn : n ≤ 200) (hv : ¬ VOk cap head len l) :
    Calls Try.prog 8 #[ringV cap head len A n c] w (TrueEnd w) := by
  have C12 := hide awake_any
  have C11 := hide same_zero
  have C14 := hide (fun w0 => few_any cap head len A n c w0)
  unfold FewEnd at C14
  rw [decide_eq_true (by omega)] at C14
  have C17 := hide (fun w0 (hb : Below w.heap.size w w0) => rvalidate_any cap head len A n c _ l w0 (h.below hb) hb.size)
  unfold VEnd at C17
  rw [vV_no hv] at C17
  have C25 := hide (fun w0 (hb : Below w.heap.size w w0) => popfront_bad cap head len A n c _ l w0 (h.below hb) hb.size hv)
  have C26 := hide (fun w0 (hb : Below w.heap.size w w0) => popback_bad cap head len A n c _ l w0 (h.below hb) hb.size hv)
  have C18 := hide (fun w0 (hb : Below w.heap.size w w0) => ritems_bad cap head len A n c _ l w0 (h.below hb) hb.size hv)
  unfold NilEnd at C18
  clear h hv
  unfold PopErr at C25 C26
  unfold itV at C25 C26
  unfold ringV at C14 C17 C18 C25 C26
  unfold ringV
  go_enter Try.func8, Try.ntmps8
  go_upto_region 1 with (fail)
  have qR : Blk (w.alloc (.cells #[.int .i64 cap, .int .i64 head, .int .i64 len, .slice A n c] 24)) (w.heap.size) 24 #[.int .i64 cap, .int .i64 head, .int .i64 len, .slice A n c] := Blk.new _ _ _
  have qB : Below w.heap.size w (w.alloc (.cells #[.int .i64 cap, .int .i64 head, .int .i64 len, .slice A n c] 24)) := Bl.alloc' (Below.refl _ _) _
  have z1 : (w.alloc (.cells #[.int .i64 cap, .int .i64 head, .int .i64 len, .slice A n c] 24)).heap.size = w.heap.size + 1 := by simp
  generalize (w.alloc (.cells #[.int .i64 cap, .int .i64 head, .int .i64 len, .slice A n c] 24)) = w1 at *
  have zi1 : w1.heap.size ≤ w.heap.size + 1 ∧ w.heap.size + 1 ≤ w1.heap.size := by omega
  clear z1
  have R1 := hide qR
  have B1 := hide qB
  clear qR qB
  obtain ⟨p0, p1, p2, p3, p4, p5, p6, p7⟩ := R1.out.four
  go_wp2_with (fail)
  refine (C14.out _).mono ?_
  rintro e w2 ⟨rfl, hb⟩
  have zs2 := hb.size
  clear p0 p1 p2 p3 p4 p5 p6 p7
  have qR : Blk w2 (w.heap.size) 24 #[.int .i64 cap, .int .i64 head, .int .i64 len, .slice A n c] := R1.out.below hb R1.out.lt
  have qB : Below w.heap.size w w2 := Bl.call' B1.out hb
  clear R1 B1
  have R2 := hide qR
  have B2 := hide qB
  clear qR qB
  clear hb
  obtain ⟨p0, p1, p2, p3, p4, p5, p6, p7⟩ := R2.out.four
  go_wp2_with (fail)
  refine (C25.out _ B2.out).mono ?_
  rintro e w3 ⟨rfl, hb⟩
  have zs3 := hb.size
  clear p0 p1 p2 p3 p4 p5 p6 p7
  have qR : Blk w3 (w.heap.size) 24 #[.int .i64 cap, .int .i64 head, .int .i64 len, .slice A n c] := R2.out.below hb R2.out.lt
  have qB : Below w.heap.size w w3 := Bl.call' B2.out hb
  clear R2 B2
  have R3 := hide qR
  have B3 := hide qB
  clear qR qB
  clear hb
  go_upto_region 4 with (fail)
  have qR : Blk ((w3.alloc (.cells #[.int .i64 0, .int .i64 0, .int .i64 0, .slice none 0 0] 24)).alloc (.cells #[.int .i64 0, .int .i64 0] 33)) (w.heap.size) 24 #[.int .i64 cap, .int .i64 head, .int .i64 len, .slice A n c] := (R3.out.alloc _).alloc _
  have qB : Below w.heap.size w ((w3.alloc (.cells #[.int .i64 0, .int .i64 0, .int .i64 0, .slice none 0 0] 24)).alloc (.cells #[.int .i64 0, .int .i64 0] 33)) := Bl.alloc' (Bl.alloc' B3.out _) _
  have qP : Blk ((w3.alloc (.cells #[.int .i64 0, .int .i64 0, .int .i64 0, .slice none 0 0] 24)).alloc (.cells #[.int .i64 0, .int .i64 0] 33)) (w3.heap.size) 24 #[.int .i64 0, .int .i64 0, .int .i64 0, .slice none 0 0] := (Blk.new _ _ _).alloc _
  have qX : Blk ((w3.alloc (.cells #[.int .i64 0, .int .i64 0, .int .i64 0, .slice none 0 0] 24)).alloc (.cells #[.int .i64 0, .int .i64 0] 33)) (w3.heap.size + 1) 33 #[.int .i64 0, .int .i64 0] := Blk.new_at (by simp) _ _
  have z4 : ((w3.alloc (.cells #[.int .i64 0, .int .i64 0, .int .i64 0, .slice none 0 0] 24)).alloc (.cells #[.int .i64 0, .int .i64 0] 33)).heap.size = w3.heap.size + 2 := by simp
  clear R3 B3
  generalize ((w3.alloc (.cells #[.int .i64 0, .int .i64 0, .int .i64 0, .slice none 0 0] 24)).alloc (.cells #[.int .i64 0, .int .i64 0] 33)) = w4 at *
  have R4 := hide qR
  have B4 := hide qB
  have P4 := hide qP
  have X4 := hide qX
  clear qR qB qP qX
  have zi4 : w4.heap.size ≤ w3.heap.size + 2 ∧ w3.heap.size + 2 ≤ w4.heap.size := by omega
  clear z4
  obtain ⟨p0, p1, p2, p3, p4, p5, p6, p7⟩ := R4.out.four
  go_wp2_with (fail)
  refine (C26.out _ B4.out).mono ?_
  rintro e w5 ⟨rfl, hb⟩
  have zs5 := hb.size
  clear p0 p1 p2 p3 p4 p5 p6 p7
  have qR : Blk w5 (w.heap.size) 24 #[.int .i64 cap, .int .i64 head, .int .i64 len, .slice A n c] := R4.out.below hb R4.out.lt
  have qB : Below w.heap.size w w5 := Bl.call' B4.out hb
  have qP : Blk w5 (w3.heap.size) 24 #[.int .i64 0, .int .i64 0, .int .i64 0, .slice none 0 0] := P4.out.below hb P4.out.lt
  have qX : Blk w5 (w3.heap.size + 1) 33 #[.int .i64 0, .int .i64 0] := X4.out.below hb X4.out.lt
  clear R4 B4 P4 X4
  have R5 := hide qR
  have B5 := hide qB
  have P5 := hide qP
  have X5 := hide qX
  clear qR qB qP qX
  clear hb
  go_upto_region 5 with (fail)
  have qR : Blk ((w5.alloc (.cells #[.int .i64 0, .int .i64 0, .int .i64 0, .slice none 0 0] 24)).alloc (.cells #[.int .i64 0, .int .i64 0] 33)) (w.heap.size) 24 #[.int .i64 cap, .int .i64 head, .int .i64 len, .slice A n c] := (R5.out.alloc _).alloc _
  have qB : Below w.heap.size w ((w5.alloc (.cells #[.int .i64 0, .int .i64 0, .int .i64 0, .slice none 0 0] 24)).alloc (.cells #[.int .i64 0, .int .i64 0] 33)) := Bl.alloc' (Bl.alloc' B5.out _) _
  have qP : Blk ((w5.alloc (.cells #[.int .i64 0, .int .i64 0, .int .i64 0, .slice none 0 0] 24)).alloc (.cells #[.int .i64 0, .int .i64 0] 33)) (w3.heap.size) 24 #[.int .i64 0, .int .i64 0, .int .i64 0, .slice none 0 0] := (P5.out.alloc _).alloc _
  have qX : Blk ((w5.alloc (.cells #[.int .i64 0, .int .i64 0, .int .i64 0, .slice none 0 0] 24)).alloc (.cells #[.int .i64 0, .int .i64 0] 33)) (w3.heap.size + 1) 33 #[.int .i64 0, .int .i64 0] := (X5.out.alloc _).alloc _
  have qQ : Blk ((w5.alloc (.cells #[.int .i64 0, .int .i64 0, .int .i64 0, .slice none 0 0] 24)).alloc (.cells #[.int .i64 0, .int .i64 0] 33)) (w5.heap.size) 24 #[.int .i64 0, .int .i64 0, .int .i64 0, .slice none 0 0] := (Blk.new _ _ _).alloc _
  have qY : Blk ((w5.alloc (.cells #[.int .i64 0, .int .i64 0, .int .i64 0, .slice none 0 0] 24)).alloc (.cells #[.int .i64 0, .int .i64 0] 33)) (w5.heap.size + 1) 33 #[.int .i64 0, .int .i64 0] := Blk.new_at (by simp) _ _
  have z6 : ((w5.alloc (.cells #[.int .i64 0, .int .i64 0, .int .i64 0, .slice none 0 0] 24)).alloc (.cells #[.int .i64 0, .int .i64 0] 33)).heap.size = w5.heap.size + 2 := by simp
  clear R5 B5 P5 X5
  generalize ((w5.alloc (.cells #[.int .i64 0, .int .i64 0, .int .i64 0, .slice none 0 0] 24)).alloc (.cells #[.int .i64 0, .int .i64 0] 33)) = w6 at *
  have R6 := hide qR
  have B6 := hide qB
  have P6 := hide qP
  have X6 := hide qX
  have Q6 := hide qQ
  have Y6 := hide qY
  clear qR qB qP qX qQ qY
  have zi6 : w6.heap.size ≤ w5.heap.size + 2 ∧ w5.heap.size + 2 ≤ w6.heap.size := by omega
  clear z6
  obtain ⟨p0, p1, p2, p3, p4, p5, p6, p7⟩ := R6.out.four
  go_upto_region 5 with (fail)
  go_region_held3 (fun w' => w'.cell? ⟨w.heap.size, 0, none⟩ = some (.int .i64 cap) ∧ w'.cell? ⟨w.heap.size, 1, none⟩ = some (.int .i64 head) ∧ w'.cell? ⟨w.heap.size, 2, none⟩ = some (.int .i64 len) ∧ w'.cell? ⟨w.heap.size, 3, none⟩ = some (.slice A n c)) (first | exact ⟨p0, p1, p2, p3⟩ | exact ⟨e0, e1, e2, e3⟩ | exact ⟨h0, h1, h2, h3⟩) (first | (go_at_call 17; refine (C17.out _ B6.out.drew).mono ?_; rintro e w7 ⟨rfl, hbx⟩; have hby : Below w6.heap.size w6 w7 := below_undrew hbx; have zs7 := hby.size; have R7 := hide (R6.out.below hby R6.out.lt); have B7 := hide (Bl.call' B6.out hby); have P7 := hide (P6.out.below hby P6.out.lt); have X7 := hide (X6.out.below hby X6.out.lt); have Q7 := hide (Q6.out.below hby Q6.out.lt); have Y7 := hide (Y6.out.below hby Y6.out.lt); obtain ⟨e0, e1, e2, e3, _, _, _, _⟩ := R7.out.four; clear hbx hby) | (go_at_call 18; refine (C18.out _ B7.out).mono ?_; rintro e w8 ⟨rfl, hbx⟩; have zs8 := hbx.size; have R8 := hide (R7.out.below hbx R7.out.lt); have B8 := hide (Bl.call' B7.out hbx); have P8 := hide (P7.out.below hbx P7.out.lt); have X8 := hide (X7.out.below hbx X7.out.lt); have Q8 := hide (Q7.out.below hbx Q7.out.lt); have Y8 := hide (Y7.out.below hbx Y7.out.lt); obtain ⟨h0, h1, h2, h3, _, _, _, _⟩ := R8.out.four; clear hbx))
  clear p0 p1 p2 p3 e0 e1 e2 e3 h0 h1 h2 h3
  clear R6 R7 B6 B7 P6 P7 X6 X7 Q6 Q7 Y6 Y7
  obtain ⟨a0, a1, a2, a3, a4, a5, a6, a7⟩ := P8.out.four
  obtain ⟨b0, b1, b2, b3⟩ := X8.out.two
  obtain ⟨d0, d1, d2, d3, d4, d5, d6, d7⟩ := Q8.out.four
  obtain ⟨f0, f1, f2, f3⟩ := Y8.out.two
  go_wp2_with (fail)
  refine (C11.out _).mono ?_
  rintro e w9 ⟨rfl, hb⟩
  have zs9 := hb.size
  clear a0 a1 a2 a3 a4 a5 a6 a7 b0 b1 b2 b3 d0 d1 d2 d3 d4 d5 d6 d7 f0 f1 f2 f3
  have qR : Blk w9 (w.heap.size) 24 #[.int .i64 cap, .int .i64 head, .int .i64 len, .slice A n c] := R8.out.below hb R8.out.lt
  have qB : Below w.heap.size w w9 := Bl.call' B8.out hb
  have qP : Blk w9 (w3.heap.size) 24 #[.int .i64 0, .int .i64 0, .int .i64 0, .slice none 0 0] := P8.out.below hb P8.out.lt
  have qX : Blk w9 (w3.heap.size + 1) 33 #[.int .i64 0, .int .i64 0] := X8.out.below hb X8.out.lt
  have qQ : Blk w9 (w5.heap.size) 24 #[.int .i64 0, .int .i64 0, .int .i64 0, .slice none 0 0] := Q8.out.below hb Q8.out.lt
  have qY : Blk w9 (w5.heap.size + 1) 33 #[.int .i64 0, .int .i64 0] := Y8.out.below hb Y8.out.lt
  clear R8 B8 P8 X8 Q8 Y8
  have R9 := hide qR
  have B9 := hide qB
  have P9 := hide qP
  have X9 := hide qX
  have Q9 := hide qQ
  have Y9 := hide qY
  clear qR qB qP qX qQ qY
  clear hb
  obtain ⟨d0, d1, d2, d3, d4, d5, d6, d7⟩ := Q9.out.four
  go_wp2_with (fail)
  refine (C11.out _).mono ?_
  rintro e w10 ⟨rfl, hb⟩
  have zs10 := hb.size
  clear d0 d1 d2 d3 d4 d5 d6 d7
  have qR : Blk w10 (w.heap.size) 24 #[.int .i64 cap, .int .i64 head, .int .i64 len, .slice A n c] := R9.out.below hb R9.out.lt
  have qB : Below w.heap.size w w10 := Bl.call' B9.out hb
  have qP : Blk w10 (w3.heap.size) 24 #[.int .i64 0, .int .i64 0, .int .i64 0, .slice none 0 0] := P9.out.below hb P9.out.lt
  have qX : Blk w10 (w3.heap.size + 1) 33 #[.int .i64 0, .int .i64 0] := X9.out.below hb X9.out.lt
  have qQ : Blk w10 (w5.heap.size) 24 #[.int .i64 0, .int .i64 0, .int .i64 0, .slice none 0 0] := Q9.out.below hb Q9.out.lt
  have qY : Blk w10 (w5.heap.size + 1) 33 #[.int .i64 0, .int .i64 0] := Y9.out.below hb Y9.out.lt
  clear R9 B9 P9 X9 Q9 Y9
  have R10 := hide qR
  have B10 := hide qB
  have P10 := hide qP
  have X10 := hide qX
  have Q10 := hide qQ
  have Y10 := hide qY
  clear qR qB qP qX qQ qY
  clear hb
  go_wp2_with (fail)
  refine (C12.out _).mono ?_
  rintro e w11 ⟨rfl, hb⟩
  have zs11 := hb.size
  have qR : Blk w11 (w.heap.size) 24 #[.int .i64 cap, .int .i64 head, .int .i64 len, .slice A n c] := R10.out.below hb R10.out.lt
  have qB : Below w.heap.size w w11 := Bl.call' B10.out hb
  have qP : Blk w11 (w3.heap.size) 24 #[.int .i64 0, .int .i64 0, .int .i64 0, .slice none 0 0] := P10.out.below hb P10.out.lt
  have qX : Blk w11 (w3.heap.size + 1) 33 #[.int .i64 0, .int .i64 0] := X10.out.below hb X10.out.lt
  have qQ : Blk w11 (w5.heap.size) 24 #[.int .i64 0, .int .i64 0, .int .i64 0, .slice none 0 0] := Q10.out.below hb Q10.out.lt
  have qY : Blk w11 (w5.heap.size + 1) 33 #[.int .i64 0, .int .i64 0] := Y10.out.below hb Y10.out.lt
  clear R10 B10 P10 X10 Q10 Y10
  have R11 := hide qR
  have B11 := hide qB
  have P11 := hide qP
  have X11 := hide qX
  have Q11 := hide qQ
  have Y11 := hide qY
  clear qR qB qP qX qQ qY
  clear hb
  go_wp2
  go_ret
  exact ⟨rfl, B11.out⟩
set_option maxRecDepth 100000 in
set_option maxHeartbeats 1000000 in
theorem lpop_empty (C H : Nat) (A : Option Addr) (c : Nat) (w : World) (h : Sl2 w w.heap.size A C (cellsL C H [])) (hn : C ≤ 200) (hr : Rg C H 0 (cellsL C H []) C H []) :
    Calls Try.prog 8 #[ringV C H 0 A C c] w (TrueEnd w) := by
  have C12 := hide awake_any
  have C11 := hide same_zero
  have C14 := hide (fun w0 => few_any C H 0 A C c w0)
  unfold FewEnd at C14
  rw [decide_eq_true (by omega)] at C14
  have C17 := hide (fun w0 (hb : Below w.heap.size w w0) => rvalidate_any C H 0 A C c _ (cellsL C H []) w0 (h.below hb) hb.size)
  unfold VEnd at C17
  rw [vV_yes hr.ok] at C17
  have C25 := hide (fun w0 (hb : Below w.heap.size w w0) => popfront_empty C H A C c _ (cellsL C H []) w0 (h.below hb) hb.size hr.ok)
  have C26 := hide (fun w0 (hb : Below w.heap.size w w0) => popback_empty C H A C c _ (cellsL C H []) w0 (h.below hb) hb.size hr.ok)
  have C18 := hide (fun w0 (hb : Below w.heap.size w w0) => ritems_ok C H [] A c _ w0 (h.below hb) hb.size hr)
  unfold ListEnd at C18
  clear h hr
  unfold PopErr at C25 C26
  unfold itV at C25 C26
  unfold ringV at C14 C17 C18 C25 C26
  unfold ringV
  go_enter Try.func8, Try.ntmps8
  go_upto_region 1 with (fail)
  have qR : Blk (w.alloc (.cells #[.int .i64 C, .int .i64 H, .int .i64 0, .slice A C c] 24)) (w.heap.size) 24 #[.int .i64 C, .int .i64 H, .int .i64 0, .slice A C c] := Blk.new _ _ _
  have qB : Below w.heap.size w (w.alloc (.cells #[.int .i64 C, .int .i64 H, .int .i64 0, .slice A C c] 24)) := Bl.alloc' (Below.refl _ _) _
  have z1 : (w.alloc (.cells #[.int .i64 C, .int .i64 H, .int .i64 0, .slice A C c] 24)).heap.size = w.heap.size + 1 := by simp
  generalize (w.alloc (.cells #[.int .i64 C, .int .i64 H, .int .i64 0, .slice A C c] 24)) = w1 at *
  have zi1 : w1.heap.size ≤ w.heap.size + 1 ∧ w.heap.size + 1 ≤ w1.heap.size := by omega
  clear z1
  have R1 := hide qR
  have B1 := hide qB
  clear qR qB
  obtain ⟨p0, p1, p2, p3, p4, p5, p6, p7⟩ := R1.out.four
  go_wp2_with (fail)
  refine (C14.out _).mono ?_
  rintro e w2 ⟨rfl, hb⟩
  have zs2 := hb.size
  clear p0 p1 p2 p3 p4 p5 p6 p7
  have qR : Blk w2 (w.heap.size) 24 #[.int .i64 C, .int .i64 H, .int .i64 0, .slice A C c] := R1.out.below hb R1.out.lt
  have qB : Below w.heap.size w w2 := Bl.call' B1.out hb
  clear R1 B1
  have R2 := hide qR
  have B2 := hide qB
  clear qR qB
  clear hb
  obtain ⟨p0, p1, p2, p3, p4, p5, p6, p7⟩ := R2.out.four
  go_wp2_with (fail)
  refine (C25.out _ B2.out).mono ?_
  rintro e w3 ⟨rfl, hb⟩
  have zs3 := hb.size
  clear p0 p1 p2 p3 p4 p5 p6 p7
  have qR : Blk w3 (w.heap.size) 24 #[.int .i64 C, .int .i64 H, .int .i64 0, .slice A C c] := R2.out.below hb R2.out.lt
  have qB : Below w.heap.size w w3 := Bl.call' B2.out hb
  clear R2 B2
  have R3 := hide qR
  have B3 := hide qB
  clear qR qB
  clear hb
  go_upto_region 4 with (fail)
  have qR : Blk ((w3.alloc (.cells #[.int .i64 0, .int .i64 0, .int .i64 0, .slice none 0 0] 24)).alloc (.cells #[.int .i64 0, .int .i64 0] 33)) (w.heap.size) 24 #[.int .i64 C, .int .i64 H, .int .i64 0, .slice A C c] := (R3.out.alloc _).alloc _
  have qB : Below w.heap.size w ((w3.alloc (.cells #[.int .i64 0, .int .i64 0, .int .i64 0, .slice none 0 0] 24)).alloc (.cells #[.int .i64 0, .int .i64 0] 33)) := Bl.alloc' (Bl.alloc' B3.out _) _
  have qP : Blk ((w3.alloc (.cells #[.int .i64 0, .int .i64 0, .int .i64 0, .slice none 0 0] 24)).alloc (.cells #[.int .i64 0, .int .i64 0] 33)) (w3.heap.size) 24 #[.int .i64 0, .int .i64 0, .int .i64 0, .slice none 0 0] := (Blk.new _ _ _).alloc _
  have qX : Blk ((w3.alloc (.cells #[.int .i64 0, .int .i64 0, .int .i64 0, .slice none 0 0] 24)).alloc (.cells #[.int .i64 0, .int .i64 0] 33)) (w3.heap.size + 1) 33 #[.int .i64 0, .int .i64 0] := Blk.new_at (by simp) _ _
  have z4 : ((w3.alloc (.cells #[.int .i64 0, .int .i64 0, .int .i64 0, .slice none 0 0] 24)).alloc (.cells #[.int .i64 0, .int .i64 0] 33)).heap.size = w3.heap.size + 2 := by simp
  clear R3 B3
  generalize ((w3.alloc (.cells #[.int .i64 0, .int .i64 0, .int .i64 0, .slice none 0 0] 24)).alloc (.cells #[.int .i64 0, .int .i64 0] 33)) = w4 at *
  have R4 := hide qR
  have B4 := hide qB
  have P4 := hide qP
  have X4 := hide qX
  clear qR qB qP qX
  have zi4 : w4.heap.size ≤ w3.heap.size + 2 ∧ w3.heap.size + 2 ≤ w4.heap.size := by omega
  clear z4
  obtain ⟨p0, p1, p2, p3, p4, p5, p6, p7⟩ := R4.out.four
  go_wp2_with (fail)
  refine (C26.out _ B4.out).mono ?_
  rintro e w5 ⟨rfl, hb⟩
  have zs5 := hb.size
  clear p0 p1 p2 p3 p4 p5 p6 p7
  have qR : Blk w5 (w.heap.size) 24 #[.int .i64 C, .int .i64 H, .int .i64 0, .slice A C c] := R4.out.below hb R4.out.lt
  have qB : Below w.heap.size w w5 := Bl.call' B4.out hb
  have qP : Blk w5 (w3.heap.size) 24 #[.int .i64 0, .int .i64 0, .int .i64 0, .slice none 0 0] := P4.out.below hb P4.out.lt
  have qX : Blk w5 (w3.heap.size + 1) 33 #[.int .i64 0, .int .i64 0] := X4.out.below hb X4.out.lt
  clear R4 B4 P4 X4
  have R5 := hide qR
  have B5 := hide qB
  have P5 := hide qP
  have X5 := hide qX
  clear qR qB qP qX
  clear hb
  go_upto_region 5 with (fail)
  have qR : Blk ((w5.alloc (.cells #[.int .i64 0, .int .i64 0, .int .i64 0, .slice none 0 0] 24)).alloc (.cells #[.int .i64 0, .int .i64 0] 33)) (w.heap.size) 24 #[.int .i64 C, .int .i64 H, .int .i64 0, .slice A C c] := (R5.out.alloc _).alloc _
  have qB : Below w.heap.size w ((w5.alloc (.cells #[.int .i64 0, .int .i64 0, .int .i64 0, .slice none 0 0] 24)).alloc (.cells #[.int .i64 0, .int .i64 0] 33)) := Bl.alloc' (Bl.alloc' B5.out _) _
  have qP : Blk ((w5.alloc (.cells #[.int .i64 0, .int .i64 0, .int .i64 0, .slice none 0 0] 24)).alloc (.cells #[.int .i64 0, .int .i64 0] 33)) (w3.heap.size) 24 #[.int .i64 0, .int .i64 0, .int .i64 0, .slice none 0 0] := (P5.out.alloc _).alloc _
  have qX : Blk ((w5.alloc (.cells #[.int .i64 0, .int .i64 0, .int .i64 0, .slice none 0 0] 24)).alloc (.cells #[.int .i64 0, .int .i64 0] 33)) (w3.heap.size + 1) 33 #[.int .i64 0, .int .i64 0] := (X5.out.alloc _).alloc _
  have qQ : Blk ((w5.alloc (.cells #[.int .i64 0, .int .i64 0, .int .i64 0, .slice none 0 0] 24)).alloc (.cells #[.int .i64 0, .int .i64 0] 33)) (w5.heap.size) 24 #[.int .i64 0, .int .i64 0, .int .i64 0, .slice none 0 0] := (Blk.new _ _ _).alloc _
  have qY : Blk ((w5.alloc (.cells #[.int .i64 0, .int .i64 0, .int .i64 0, .slice none 0 0] 24)).alloc (.cells #[.int .i64 0, .int .i64 0] 33)) (w5.heap.size + 1) 33 #[.int .i64 0, .int .i64 0] := Blk.new_at (by simp) _ _
  have z6 : ((w5.alloc (.cells #[.int .i64 0, .int .i64 0, .int .i64 0, .slice none 0 0] 24)).alloc (.cells #[.int .i64 0, .int .i64 0] 33)).heap.size = w5.heap.size + 2 := by simp
  clear R5 B5 P5 X5
  generalize ((w5.alloc (.cells #[.int .i64 0, .int .i64 0, .int .i64 0, .slice none 0 0] 24)).alloc (.cells #[.int .i64 0, .int .i64 0] 33)) = w6 at *
  have R6 := hide qR
  have B6 := hide qB
  have P6 := hide qP
  have X6 := hide qX
  have Q6 := hide qQ
  have Y6 := hide qY
  clear qR qB qP qX qQ qY
  have zi6 : w6.heap.size ≤ w5.heap.size + 2 ∧ w5.heap.size + 2 ≤ w6.heap.size := by omega
  clear z6
  obtain ⟨p0, p1, p2, p3, p4, p5, p6, p7⟩ := R6.out.four
  go_upto_region 5 with (fail)
  go_region_held3 (fun w' => w'.cell? ⟨w.heap.size, 0, none⟩ = some (.int .i64 C) ∧ w'.cell? ⟨w.heap.size, 1, none⟩ = some (.int .i64 H) ∧ w'.cell? ⟨w.heap.size, 2, none⟩ = some (.int .i64 0) ∧ w'.cell? ⟨w.heap.size, 3, none⟩ = some (.slice A C c)) (first | exact ⟨p0, p1, p2, p3⟩ | exact ⟨e0, e1, e2, e3⟩ | exact ⟨h0, h1, h2, h3⟩) (first | (go_at_call 17; refine (C17.out _ B6.out.drew).mono ?_; rintro e w7 ⟨rfl, hbx⟩; have hby : Below w6.heap.size w6 w7 := below_undrew hbx; have zs7 := hby.size; have R7 := hide (R6.out.below hby R6.out.lt); have B7 := hide (Bl.call' B6.out hby); have P7 := hide (P6.out.below hby P6.out.lt); have X7 := hide (X6.out.below hby X6.out.lt); have Q7 := hide (Q6.out.below hby Q6.out.lt); have Y7 := hide (Y6.out.below hby Y6.out.lt); obtain ⟨e0, e1, e2, e3, _, _, _, _⟩ := R7.out.four; clear hbx hby) | (go_at_call 18; refine (C18.out _ B7.out).mono ?_; rintro e w8 ⟨A1, c1, rfl, hown, hbx⟩; have zs8 := hbx.size; have R8 := hide (R7.out.below hbx R7.out.lt); have B8 := hide (Bl.call' B7.out hbx); have P8 := hide (P7.out.below hbx P7.out.lt); have X8 := hide (X7.out.below hbx X7.out.lt); have Q8 := hide (Q7.out.below hbx Q7.out.lt); have Y8 := hide (Y7.out.below hbx Y7.out.lt); have hlc := own_cap hown; have S8 := hide (Sl2.own_h hown); obtain ⟨h0, h1, h2, h3, _, _, _, _⟩ := R8.out.four; clear hbx hown))
  clear p0 p1 p2 p3 e0 e1 e2 e3 h0 h1 h2 h3
  clear R6 R7 B6 B7 P6 P7 X6 X7 Q6 Q7 Y6 Y7
  obtain ⟨a0, a1, a2, a3, a4, a5, a6, a7⟩ := P8.out.four
  obtain ⟨b0, b1, b2, b3⟩ := X8.out.two
  obtain ⟨d0, d1, d2, d3, d4, d5, d6, d7⟩ := Q8.out.four
  obtain ⟨f0, f1, f2, f3⟩ := Y8.out.two
  go_wp2_with (fail)
  refine (C11.out _).mono ?_
  rintro e w9 ⟨rfl, hb⟩
  have zs9 := hb.size
  clear a0 a1 a2 a3 a4 a5 a6 a7 b0 b1 b2 b3 d0 d1 d2 d3 d4 d5 d6 d7 f0 f1 f2 f3
  have qR : Blk w9 (w.heap.size) 24 #[.int .i64 C, .int .i64 H, .int .i64 0, .slice A C c] := R8.out.below hb R8.out.lt
  have qB : Below w.heap.size w w9 := Bl.call' B8.out hb
  have qP : Blk w9 (w3.heap.size) 24 #[.int .i64 0, .int .i64 0, .int .i64 0, .slice none 0 0] := P8.out.below hb P8.out.lt
  have qX : Blk w9 (w3.heap.size + 1) 33 #[.int .i64 0, .int .i64 0] := X8.out.below hb X8.out.lt
  have qQ : Blk w9 (w5.heap.size) 24 #[.int .i64 0, .int .i64 0, .int .i64 0, .slice none 0 0] := Q8.out.below hb Q8.out.lt
  have qY : Blk w9 (w5.heap.size + 1) 33 #[.int .i64 0, .int .i64 0] := Y8.out.below hb Y8.out.lt
  have qS : Sl2 w9 w9.heap.size A1 (0) [] := Sl2.below_h hb S8.out
  clear R8 B8 P8 X8 Q8 Y8 S8
  have R9 := hide qR
  have B9 := hide qB
  have P9 := hide qP
  have X9 := hide qX
  have Q9 := hide qQ
  have Y9 := hide qY
  have S9 := hide qS
  clear qR qB qP qX qQ qY qS
  clear hb
  obtain ⟨d0, d1, d2, d3, d4, d5, d6, d7⟩ := Q9.out.four
  go_wp2_with (fail)
  refine (C11.out _).mono ?_
  rintro e w10 ⟨rfl, hb⟩
  have zs10 := hb.size
  clear d0 d1 d2 d3 d4 d5 d6 d7
  have qR : Blk w10 (w.heap.size) 24 #[.int .i64 C, .int .i64 H, .int .i64 0, .slice A C c] := R9.out.below hb R9.out.lt
  have qB : Below w.heap.size w w10 := Bl.call' B9.out hb
  have qP : Blk w10 (w3.heap.size) 24 #[.int .i64 0, .int .i64 0, .int .i64 0, .slice none 0 0] := P9.out.below hb P9.out.lt
  have qX : Blk w10 (w3.heap.size + 1) 33 #[.int .i64 0, .int .i64 0] := X9.out.below hb X9.out.lt
  have qQ : Blk w10 (w5.heap.size) 24 #[.int .i64 0, .int .i64 0, .int .i64 0, .slice none 0 0] := Q9.out.below hb Q9.out.lt
  have qY : Blk w10 (w5.heap.size + 1) 33 #[.int .i64 0, .int .i64 0] := Y9.out.below hb Y9.out.lt
  have qS : Sl2 w10 w10.heap.size A1 (0) [] := Sl2.below_h hb S9.out
  clear R9 B9 P9 X9 Q9 Y9 S9
  have R10 := hide qR
  have B10 := hide qB
  have P10 := hide qP
  have X10 := hide qX
  have Q10 := hide qQ
  have Y10 := hide qY
  have S10 := hide qS
  clear qR qB qP qX qQ qY qS
  clear hb
  go_wp2_with (fail)
  refine (C12.out _).mono ?_
  rintro e w11 ⟨rfl, hb⟩
  have zs11 := hb.size
  have qR : Blk w11 (w.heap.size) 24 #[.int .i64 C, .int .i64 H, .int .i64 0, .slice A C c] := R10.out.below hb R10.out.lt
  have qB : Below w.heap.size w w11 := Bl.call' B10.out hb
  have qP : Blk w11 (w3.heap.size) 24 #[.int .i64 0, .int .i64 0, .int .i64 0, .slice none 0 0] := P10.out.below hb P10.out.lt
  have qX : Blk w11 (w3.heap.size + 1) 33 #[.int .i64 0, .int .i64 0] := X10.out.below hb X10.out.lt
  have qQ : Blk w11 (w5.heap.size) 24 #[.int .i64 0, .int .i64 0, .int .i64 0, .slice none 0 0] := Q10.out.below hb Q10.out.lt
  have qY : Blk w11 (w5.heap.size + 1) 33 #[.int .i64 0, .int .i64 0] := Y10.out.below hb Y10.out.lt
  have qS : Sl2 w11 w11.heap.size A1 (0) [] := Sl2.below_h hb S10.out
  clear R10 B10 P10 X10 Q10 Y10 S10
  have R11 := hide qR
  have B11 := hide qB
  have P11 := hide qP
  have X11 := hide qX
  have Q11 := hide qQ
  have Y11 := hide qY
  have S11 := hide qS
  clear qR qB qP qX qQ qY qS
  clear hb
  go_wp2
  go_ret
  exact ⟨rfl, B11.out⟩
end Go.Proofs.Ytjbfefkbpnickaa
