/- The walk of the law on a greater buffer. -/
import Derived.Test.YtjbfefkbpnickaaLPush
import Derived.Test.YtjbfefkbpnickaaGrow
import Derived.Test.YtjbfefkbpnickaaPop
namespace Go.Proofs.Ytjbfefkbpnickaa
open Go.RowKit
set_option linter.unusedVariables false
theorem Sl2.of_below {w w' : World} {n : Nat} {A : Option Addr} {l : List (Int × Int)} (h : Sl2 w w.heap.size A n l) (hb : Below w.heap.size w w') : Sl2 w' w'.heap.size A n l := Sl2.below_h hb h
set_option maxRecDepth 100000 in
theorem lgrow_many (cap head len : Int) (A : Option Addr) (n c : Nat) (D : Int) (w : World) (hn : 200 < n) :
    Calls Try.prog 6 #[ringV cap head len A n c, .int .i64 D] w (TrueEnd w) := by
  have C12 := hide awake_any
  have C14 := hide (fun w0 => few_any cap head len A n c w0)
  unfold FewEnd at C14
  rw [decide_eq_false (by omega)] at C14
  unfold ringV at C14
  unfold ringV
  go_enter Try.func6, Try.ntmps6
  go_upto_region 1 with (fail)
  have qR : Blk (w.alloc (.cells #[.int .i64 cap, .int .i64 head, .int .i64 len, .slice A n c] 24)) (w.heap.size) 24 #[.int .i64 cap, .int .i64 head, .int .i64 len, .slice A n c] := Blk.new _ _ _
  have qB : Below w.heap.size w (w.alloc (.cells #[.int .i64 cap, .int .i64 head, .int .i64 len, .slice A n c] 24)) := Bl.alloc' (Below.refl _ _) _
  have z1 : (w.alloc (.cells #[.int .i64 cap, .int .i64 head, .int .i64 len, .slice A n c] 24)).heap.size = w.heap.size + 1 := by simp
  generalize (w.alloc (.cells #[.int .i64 cap, .int .i64 head, .int .i64 len, .slice A n c] 24)) = w1 at *
  have zi1 : w1.heap.size ≤ w.heap.size + 1 ∧ w.heap.size + 1 ≤ w1.heap.size := by omega
  clear z1
  have R1 := hide qR
  have B1 := hide qB
  clear qR qB
  obtain ⟨p0, p1, p2, p3, p4, p5, p6, p7⟩ := R1.out.four
  go_wp2_with (fail)
  refine (C14.out _).mono ?_
  rintro e w2 ⟨rfl, hb⟩
  have zs2 := hb.size
  clear p0 p1 p2 p3 p4 p5 p6 p7
  have qR : Blk w2 (w.heap.size) 24 #[.int .i64 cap, .int .i64 head, .int .i64 len, .slice A n c] := R1.out.below hb R1.out.lt
  have qB : Below w.heap.size w w2 := Bl.call' B1.out hb
  clear R1 B1
  have R2 := hide qR
  have B2 := hide qB
  clear qR qB
  clear hb
  go_wp2_with (fail)
  refine (C12.out _).mono ?_
  rintro e w3 ⟨rfl, hb⟩
  have zs3 := hb.size
  have qR : Blk w3 (w.heap.size) 24 #[.int .i64 cap, .int .i64 head, .int .i64 len, .slice A n c] := R2.out.below hb R2.out.lt
  have qB : Below w.heap.size w w3 := Bl.call' B2.out hb
  clear R2 B2
  have R3 := hide qR
  have B3 := hide qB
  clear qR qB
  clear hb
  go_wp2
  go_ret
  exact ⟨rfl, B3.out⟩
set_option maxRecDepth 100000 in
theorem lgrow_mid (cap head len : Int) (A : Option Addr) (n c : Nat) (D : Int) (w : World) (hn : n ≤ 200) (h1 : 300 < D) (h2 : D < 65536) :
    Calls Try.prog 6 #[ringV cap head len A n c, .int .i64 D] w (TrueEnd w) := by
  have C12 := hide awake_any
  have C14 := hide (fun w0 => few_any cap head len A n c w0)
  unfold FewEnd at C14
  rw [decide_eq_true (by omega)] at C14
  have h3 : decide (300 < D) = true := by simpa using h1
  have h4 : decide (D < 65536) = true := by simpa using h2
  unfold ringV at C14
  unfold ringV
  go_enter Try.func6, Try.ntmps6
  go_upto_region 1 with (fail)
  have qR : Blk (w.alloc (.cells #[.int .i64 cap, .int .i64 head, .int .i64 len, .slice A n c] 24)) (w.heap.size) 24 #[.int .i64 cap, .int .i64 head, .int .i64 len, .slice A n c] := Blk.new _ _ _
  have qB : Below w.heap.size w (w.alloc (.cells #[.int .i64 cap, .int .i64 head, .int .i64 len, .slice A n c] 24)) := Bl.alloc' (Below.refl _ _) _
  have z1 : (w.alloc (.cells #[.int .i64 cap, .int .i64 head, .int .i64 len, .slice A n c] 24)).heap.size = w.heap.size + 1 := by simp
  generalize (w.alloc (.cells #[.int .i64 cap, .int .i64 head, .int .i64 len, .slice A n c] 24)) = w1 at *
  have zi1 : w1.heap.size ≤ w.heap.size + 1 ∧ w.heap.size + 1 ≤ w1.heap.size := by omega
  clear z1
  have R1 := hide qR
  have B1 := hide qB
  clear qR qB
  obtain ⟨p0, p1, p2, p3, p4, p5, p6, p7⟩ := R1.out.four
  go_wp2_with (fail)
  refine (C14.out _).mono ?_
  rintro e w2 ⟨rfl, hb⟩
  have zs2 := hb.size
  clear p0 p1 p2 p3 p4 p5 p6 p7
  have qR : Blk w2 (w.heap.size) 24 #[.int .i64 cap, .int .i64 head, .int .i64 len, .slice A n c] := R1.out.below hb R1.out.lt
  have qB : Below w.heap.size w w2 := Bl.call' B1.out hb
  clear R1 B1
  have R2 := hide qR
  have B2 := hide qB
  clear qR qB
  clear hb
  go_wp2_with (fail)
  refine (C12.out _).mono ?_
  rintro e w3 ⟨rfl, hb⟩
  have zs3 := hb.size
  have qR : Blk w3 (w.heap.size) 24 #[.int .i64 cap, .int .i64 head, .int .i64 len, .slice A n c] := R2.out.below hb R2.out.lt
  have qB : Below w.heap.size w w3 := Bl.call' B2.out hb
  clear R2 B2
  have R3 := hide qR
  have B3 := hide qB
  clear qR qB
  clear hb
  go_wp2
  go_ret
  exact ⟨rfl, B3.out⟩
set_option maxRecDepth 100000 in
set_option maxHeartbeats 2000000 in
theorem lgrow_bad_l (cap head len : Int) (A : Option Addr) (n c : Nat) (l : List (Int × Int)) (D : Int) (w : World) (h : Sl2 w w.heap.size A n l) (hn : n ≤ 200) (hv : ¬ VOk cap head len l) (h300 : D ≤ 300) :
    Calls Try.prog 6 #[ringV cap head len A n c, .int .i64 D] w (TrueEnd w) := by
  have C12 := hide awake_any
  have C11 := hide same_zero
  have C14 := hide (fun w0 => few_any cap head len A n c w0)
  unfold FewEnd at C14
  rw [decide_eq_true (by omega)] at C14
  have C17 := hide (fun w0 (hb : Below w.heap.size w w0) => rvalidate_any cap head len A n c _ l w0 (h.below hb) hb.size)
  unfold VEnd at C17
  have C21 := hide (fun w0 (hb : Below w.heap.size w w0) => grow_bad cap head len A n c _ l D w0 (h.below hb) hb.size hv)
  rw [vV_no hv] at C17
  have C18 := hide (fun w0 (hb : Below w.heap.size w w0) => ritems_bad cap head len A n c _ l w0 (h.below hb) hb.size hv)
  unfold NilEnd at C18
  unfold ErrEnd at C21
  have h3 : decide (300 < D) = false := by simpa using h300
  clear h hv
  unfold ringV at C14 C17 C18 C21
  unfold ringV
  go_enter Try.func6, Try.ntmps6
  go_upto_region 1 with (fail)
  have qR : Blk (w.alloc (.cells #[.int .i64 cap, .int .i64 head, .int .i64 len, .slice A n c] 24)) (w.heap.size) 24 #[.int .i64 cap, .int .i64 head, .int .i64 len, .slice A n c] := Blk.new _ _ _
  have qB : Below w.heap.size w (w.alloc (.cells #[.int .i64 cap, .int .i64 head, .int .i64 len, .slice A n c] 24)) := Bl.alloc' (Below.refl _ _) _
  have z1 : (w.alloc (.cells #[.int .i64 cap, .int .i64 head, .int .i64 len, .slice A n c] 24)).heap.size = w.heap.size + 1 := by simp
  generalize (w.alloc (.cells #[.int .i64 cap, .int .i64 head, .int .i64 len, .slice A n c] 24)) = w1 at *
  have zi1 : w1.heap.size ≤ w.heap.size + 1 ∧ w.heap.size + 1 ≤ w1.heap.size := by omega
  clear z1
  have R1 := hide qR
  have B1 := hide qB
  clear qR qB
  obtain ⟨p0, p1, p2, p3, p4, p5, p6, p7⟩ := R1.out.four
  go_wp2_with (fail)
  refine (C14.out _).mono ?_
  rintro e w2 ⟨rfl, hb⟩
  have zs2 := hb.size
  clear p0 p1 p2 p3 p4 p5 p6 p7
  have qR : Blk w2 (w.heap.size) 24 #[.int .i64 cap, .int .i64 head, .int .i64 len, .slice A n c] := R1.out.below hb R1.out.lt
  have qB : Below w.heap.size w w2 := Bl.call' B1.out hb
  clear R1 B1
  have R2 := hide qR
  have B2 := hide qB
  clear qR qB
  clear hb
  obtain ⟨p0, p1, p2, p3, p4, p5, p6, p7⟩ := R2.out.four
  go_wp2_with (fail)
  refine (C21.out _ B2.out).mono ?_
  rintro e w3 ⟨rfl, hb⟩
  have zs3 := hb.size
  clear p0 p1 p2 p3 p4 p5 p6 p7
  have qR : Blk w3 (w.heap.size) 24 #[.int .i64 cap, .int .i64 head, .int .i64 len, .slice A n c] := R2.out.below hb R2.out.lt
  have qB : Below w.heap.size w w3 := Bl.call' B2.out hb
  clear R2 B2
  have R3 := hide qR
  have B3 := hide qB
  clear qR qB
  clear hb
  go_upto_region 4 with (fail)
  have qR : Blk (w3.alloc (.cells #[.int .i64 0, .int .i64 0, .int .i64 0, .slice none 0 0] 24)) (w.heap.size) 24 #[.int .i64 cap, .int .i64 head, .int .i64 len, .slice A n c] := R3.out.alloc _
  have qB : Below w.heap.size w (w3.alloc (.cells #[.int .i64 0, .int .i64 0, .int .i64 0, .slice none 0 0] 24)) := Bl.alloc' B3.out _
  have qP : Blk (w3.alloc (.cells #[.int .i64 0, .int .i64 0, .int .i64 0, .slice none 0 0] 24)) (w3.heap.size) 24 #[.int .i64 0, .int .i64 0, .int .i64 0, .slice none 0 0] := Blk.new _ _ _
  have z4 : (w3.alloc (.cells #[.int .i64 0, .int .i64 0, .int .i64 0, .slice none 0 0] 24)).heap.size = w3.heap.size + 1 := by simp
  clear R3 B3
  generalize (w3.alloc (.cells #[.int .i64 0, .int .i64 0, .int .i64 0, .slice none 0 0] 24)) = w4 at *
  have R4 := hide qR
  have B4 := hide qB
  have P4 := hide qP
  clear qR qB qP
  have zi4 : w4.heap.size ≤ w3.heap.size + 1 ∧ w3.heap.size < w4.heap.size := by omega
  clear z4
  obtain ⟨p0, p1, p2, p3, p4, p5, p6, p7⟩ := R4.out.four
  go_upto_region 4 with (fail)
  go_region_held3 (fun w' => w'.cell? ⟨w.heap.size, 0, none⟩ = some (.int .i64 cap) ∧ w'.cell? ⟨w.heap.size, 1, none⟩ = some (.int .i64 head) ∧ w'.cell? ⟨w.heap.size, 2, none⟩ = some (.int .i64 len) ∧ w'.cell? ⟨w.heap.size, 3, none⟩ = some (.slice A n c)) (first | exact ⟨p0, p1, p2, p3⟩ | exact ⟨e0, e1, e2, e3⟩ | exact ⟨h0, h1, h2, h3⟩) (first | (go_at_call 17; refine (C17.out _ B4.out.drew).mono ?_; rintro e w5 ⟨rfl, hbx⟩; have hby : Below w4.heap.size w4 w5 := below_undrew hbx; have zs5 := hby.size; have R5 := hide (R4.out.below hby R4.out.lt); have B5 := hide (Bl.call' B4.out hby); have P5 := hide (P4.out.below hby P4.out.lt); obtain ⟨e0, e1, e2, e3, _, _, _, _⟩ := R5.out.four; clear hbx hby) | (go_at_call 18; refine (C18.out _ B5.out).mono ?_; rintro e w6 ⟨rfl, hbx⟩; have zs6 := hbx.size; have R6 := hide (R5.out.below hbx R5.out.lt); have B6 := hide (Bl.call' B5.out hbx); have P6 := hide (P5.out.below hbx P5.out.lt); obtain ⟨h0, h1, h2, h3, _, _, _, _⟩ := R6.out.four; clear hbx))
  clear p0 p1 p2 p3 e0 e1 e2 e3 h0 h1 h2 h3
  clear R4 R5 B4 B5 P4 P5
  obtain ⟨a0, a1, a2, a3, a4, a5, a6, a7⟩ := P6.out.four
  go_wp2_with (fail)
  refine (C11.out _).mono ?_
  rintro e w7 ⟨rfl, hb⟩
  have zs7 := hb.size
  clear a0 a1 a2 a3 a4 a5 a6 a7
  have qR : Blk w7 (w.heap.size) 24 #[.int .i64 cap, .int .i64 head, .int .i64 len, .slice A n c] := R6.out.below hb R6.out.lt
  have qB : Below w.heap.size w w7 := Bl.call' B6.out hb
  have qP : Blk w7 (w3.heap.size) 24 #[.int .i64 0, .int .i64 0, .int .i64 0, .slice none 0 0] := P6.out.below hb P6.out.lt
  clear R6 B6 P6
  have R7 := hide qR
  have B7 := hide qB
  have P7 := hide qP
  clear qR qB qP
  clear hb
  go_wp2_with (fail)
  refine (C12.out _).mono ?_
  rintro e w8 ⟨rfl, hb⟩
  have zs8 := hb.size
  have qR : Blk w8 (w.heap.size) 24 #[.int .i64 cap, .int .i64 head, .int .i64 len, .slice A n c] := R7.out.below hb R7.out.lt
  have qB : Below w.heap.size w w8 := Bl.call' B7.out hb
  have qP : Blk w8 (w3.heap.size) 24 #[.int .i64 0, .int .i64 0, .int .i64 0, .slice none 0 0] := P7.out.below hb P7.out.lt
  clear R7 B7 P7
  have R8 := hide qR
  have B8 := hide qB
  have P8 := hide qP
  clear qR qB qP
  clear hb
  go_wp2
  go_ret
  exact ⟨rfl, B8.out⟩
set_option maxRecDepth 100000 in
set_option maxHeartbeats 2000000 in
theorem lgrow_bad_h (cap head len : Int) (A : Option Addr) (n c : Nat) (l : List (Int × Int)) (D : Int) (w : World) (h : Sl2 w w.heap.size A n l) (hn : n ≤ 200) (hv : ¬ VOk cap head len l) (h300 : 65536 ≤ D) :
    Calls Try.prog 6 #[ringV cap head len A n c, .int .i64 D] w (TrueEnd w) := by
  have C12 := hide awake_any
  have C11 := hide same_zero
  have C14 := hide (fun w0 => few_any cap head len A n c w0)
  unfold FewEnd at C14
  rw [decide_eq_true (by omega)] at C14
  have C17 := hide (fun w0 (hb : Below w.heap.size w w0) => rvalidate_any cap head len A n c _ l w0 (h.below hb) hb.size)
  unfold VEnd at C17
  have C21 := hide (fun w0 (hb : Below w.heap.size w w0) => grow_bad cap head len A n c _ l D w0 (h.below hb) hb.size hv)
  rw [vV_no hv] at C17
  have C18 := hide (fun w0 (hb : Below w.heap.size w w0) => ritems_bad cap head len A n c _ l w0 (h.below hb) hb.size hv)
  unfold NilEnd at C18
  unfold ErrEnd at C21
  have h3 : decide (300 < D) = true := by simp; omega
  have h4 : decide (D < 65536) = false := by simp; omega
  clear h hv
  unfold ringV at C14 C17 C18 C21
  unfold ringV
  go_enter Try.func6, Try.ntmps6
  go_upto_region 1 with (fail)
  have qR : Blk (w.alloc (.cells #[.int .i64 cap, .int .i64 head, .int .i64 len, .slice A n c] 24)) (w.heap.size) 24 #[.int .i64 cap, .int .i64 head, .int .i64 len, .slice A n c] := Blk.new _ _ _
  have qB : Below w.heap.size w (w.alloc (.cells #[.int .i64 cap, .int .i64 head, .int .i64 len, .slice A n c] 24)) := Bl.alloc' (Below.refl _ _) _
  have z1 : (w.alloc (.cells #[.int .i64 cap, .int .i64 head, .int .i64 len, .slice A n c] 24)).heap.size = w.heap.size + 1 := by simp
  generalize (w.alloc (.cells #[.int .i64 cap, .int .i64 head, .int .i64 len, .slice A n c] 24)) = w1 at *
  have zi1 : w1.heap.size ≤ w.heap.size + 1 ∧ w.heap.size + 1 ≤ w1.heap.size := by omega
  clear z1
  have R1 := hide qR
  have B1 := hide qB
  clear qR qB
  obtain ⟨p0, p1, p2, p3, p4, p5, p6, p7⟩ := R1.out.four
  go_wp2_with (fail)
  refine (C14.out _).mono ?_
  rintro e w2 ⟨rfl, hb⟩
  have zs2 := hb.size
  clear p0 p1 p2 p3 p4 p5 p6 p7
  have qR : Blk w2 (w.heap.size) 24 #[.int .i64 cap, .int .i64 head, .int .i64 len, .slice A n c] := R1.out.below hb R1.out.lt
  have qB : Below w.heap.size w w2 := Bl.call' B1.out hb
  clear R1 B1
  have R2 := hide qR
  have B2 := hide qB
  clear qR qB
  clear hb
  obtain ⟨p0, p1, p2, p3, p4, p5, p6, p7⟩ := R2.out.four
  go_wp2_with (fail)
  refine (C21.out _ B2.out).mono ?_
  rintro e w3 ⟨rfl, hb⟩
  have zs3 := hb.size
  clear p0 p1 p2 p3 p4 p5 p6 p7
  have qR : Blk w3 (w.heap.size) 24 #[.int .i64 cap, .int .i64 head, .int .i64 len, .slice A n c] := R2.out.below hb R2.out.lt
  have qB : Below w.heap.size w w3 := Bl.call' B2.out hb
  clear R2 B2
  have R3 := hide qR
  have B3 := hide qB
  clear qR qB
  clear hb
  go_upto_region 4 with (fail)
  have qR : Blk (w3.alloc (.cells #[.int .i64 0, .int .i64 0, .int .i64 0, .slice none 0 0] 24)) (w.heap.size) 24 #[.int .i64 cap, .int .i64 head, .int .i64 len, .slice A n c] := R3.out.alloc _
  have qB : Below w.heap.size w (w3.alloc (.cells #[.int .i64 0, .int .i64 0, .int .i64 0, .slice none 0 0] 24)) := Bl.alloc' B3.out _
  have qP : Blk (w3.alloc (.cells #[.int .i64 0, .int .i64 0, .int .i64 0, .slice none 0 0] 24)) (w3.heap.size) 24 #[.int .i64 0, .int .i64 0, .int .i64 0, .slice none 0 0] := Blk.new _ _ _
  have z4 : (w3.alloc (.cells #[.int .i64 0, .int .i64 0, .int .i64 0, .slice none 0 0] 24)).heap.size = w3.heap.size + 1 := by simp
  clear R3 B3
  generalize (w3.alloc (.cells #[.int .i64 0, .int .i64 0, .int .i64 0, .slice none 0 0] 24)) = w4 at *
  have R4 := hide qR
  have B4 := hide qB
  have P4 := hide qP
  clear qR qB qP
  have zi4 : w4.heap.size ≤ w3.heap.size + 1 ∧ w3.heap.size < w4.heap.size := by omega
  clear z4
  obtain ⟨p0, p1, p2, p3, p4, p5, p6, p7⟩ := R4.out.four
  go_upto_region 4 with (fail)
  go_region_held3 (fun w' => w'.cell? ⟨w.heap.size, 0, none⟩ = some (.int .i64 cap) ∧ w'.cell? ⟨w.heap.size, 1, none⟩ = some (.int .i64 head) ∧ w'.cell? ⟨w.heap.size, 2, none⟩ = some (.int .i64 len) ∧ w'.cell? ⟨w.heap.size, 3, none⟩ = some (.slice A n c)) (first | exact ⟨p0, p1, p2, p3⟩ | exact ⟨e0, e1, e2, e3⟩ | exact ⟨h0, h1, h2, h3⟩) (first | (go_at_call 17; refine (C17.out _ B4.out.drew).mono ?_; rintro e w5 ⟨rfl, hbx⟩; have hby : Below w4.heap.size w4 w5 := below_undrew hbx; have zs5 := hby.size; have R5 := hide (R4.out.below hby R4.out.lt); have B5 := hide (Bl.call' B4.out hby); have P5 := hide (P4.out.below hby P4.out.lt); obtain ⟨e0, e1, e2, e3, _, _, _, _⟩ := R5.out.four; clear hbx hby) | (go_at_call 18; refine (C18.out _ B5.out).mono ?_; rintro e w6 ⟨rfl, hbx⟩; have zs6 := hbx.size; have R6 := hide (R5.out.below hbx R5.out.lt); have B6 := hide (Bl.call' B5.out hbx); have P6 := hide (P5.out.below hbx P5.out.lt); obtain ⟨h0, h1, h2, h3, _, _, _, _⟩ := R6.out.four; clear hbx))
  clear p0 p1 p2 p3 e0 e1 e2 e3 h0 h1 h2 h3
  clear R4 R5 B4 B5 P4 P5
  obtain ⟨a0, a1, a2, a3, a4, a5, a6, a7⟩ := P6.out.four
  go_wp2_with (fail)
  refine (C11.out _).mono ?_
  rintro e w7 ⟨rfl, hb⟩
  have zs7 := hb.size
  clear a0 a1 a2 a3 a4 a5 a6 a7
  have qR : Blk w7 (w.heap.size) 24 #[.int .i64 cap, .int .i64 head, .int .i64 len, .slice A n c] := R6.out.below hb R6.out.lt
  have qB : Below w.heap.size w w7 := Bl.call' B6.out hb
  have qP : Blk w7 (w3.heap.size) 24 #[.int .i64 0, .int .i64 0, .int .i64 0, .slice none 0 0] := P6.out.below hb P6.out.lt
  clear R6 B6 P6
  have R7 := hide qR
  have B7 := hide qB
  have P7 := hide qP
  clear qR qB qP
  clear hb
  go_wp2_with (fail)
  refine (C12.out _).mono ?_
  rintro e w8 ⟨rfl, hb⟩
  have zs8 := hb.size
  have qR : Blk w8 (w.heap.size) 24 #[.int .i64 cap, .int .i64 head, .int .i64 len, .slice A n c] := R7.out.below hb R7.out.lt
  have qB : Below w.heap.size w w8 := Bl.call' B7.out hb
  have qP : Blk w8 (w3.heap.size) 24 #[.int .i64 0, .int .i64 0, .int .i64 0, .slice none 0 0] := P7.out.below hb P7.out.lt
  clear R7 B7 P7
  have R8 := hide qR
  have B8 := hide qB
  have P8 := hide qP
  clear qR qB qP
  clear hb
  go_wp2
  go_ret
  exact ⟨rfl, B8.out⟩
set_option maxRecDepth 100000 in
set_option maxHeartbeats 2000000 in
theorem lgrow_less (C H : Nat) (xs : List (Int × Int)) (A : Option Addr) (c : Nat) (D : Int) (w : World) (h : Sl2 w w.heap.size A C (cellsL C H xs)) (hn : C ≤ 200) (hr : Rg C H xs.length (cellsL C H xs) C H xs) (h300 : D ≤ 300) (hD : D < xs.length) :
    Calls Try.prog 6 #[ringV C H xs.length A C c, .int .i64 D] w (TrueEnd w) := by
  have C12 := hide awake_any
  have C11 := hide same_zero
  have C14 := hide (fun w0 => few_any C H xs.length A C c w0)
  unfold FewEnd at C14
  rw [decide_eq_true (by omega)] at C14
  have C17 := hide (fun w0 (hb : Below w.heap.size w w0) => rvalidate_any C H xs.length A C c _ (cellsL C H xs) w0 (h.below hb) hb.size)
  unfold VEnd at C17
  have C21 := hide (fun w0 (hb : Below w.heap.size w w0) => grow_less C H xs.length A C c _ (cellsL C H xs) D w0 (h.below hb) hb.size hr.ok hD)
  rw [vV_yes hr.ok] at C17
  have C18 := hide (fun w0 (hb : Below w.heap.size w w0) => ritems_ok C H xs A c _ w0 (h.below hb) hb.size hr)
  unfold ListEnd at C18
  have hlx : xs.length ≤ 200 := Nat.le_trans hr.fits hn
  unfold ErrEnd at C21
  have h3 : decide (300 < D) = false := by simpa using h300
  have hd : decide (D < (xs.length : Int)) = true := by simpa using hD
  clear h hr
  generalize hl : xs.length = L at *
  have HL := hide hl
  clear hl
  unfold ringV at C14 C17 C18 C21
  unfold ringV
  go_enter Try.func6, Try.ntmps6
  go_upto_region 1 with (fail)
  have qR : Blk (w.alloc (.cells #[.int .i64 C, .int .i64 H, .int .i64 L, .slice A C c] 24)) (w.heap.size) 24 #[.int .i64 C, .int .i64 H, .int .i64 L, .slice A C c] := Blk.new _ _ _
  have qB : Below w.heap.size w (w.alloc (.cells #[.int .i64 C, .int .i64 H, .int .i64 L, .slice A C c] 24)) := Bl.alloc' (Below.refl _ _) _
  have z1 : (w.alloc (.cells #[.int .i64 C, .int .i64 H, .int .i64 L, .slice A C c] 24)).heap.size = w.heap.size + 1 := by simp
  generalize (w.alloc (.cells #[.int .i64 C, .int .i64 H, .int .i64 L, .slice A C c] 24)) = w1 at *
  have zi1 : w1.heap.size ≤ w.heap.size + 1 ∧ w.heap.size + 1 ≤ w1.heap.size := by omega
  clear z1
  have R1 := hide qR
  have B1 := hide qB
  clear qR qB
  obtain ⟨p0, p1, p2, p3, p4, p5, p6, p7⟩ := R1.out.four
  go_wp2_with (fail)
  refine (C14.out _).mono ?_
  rintro e w2 ⟨rfl, hb⟩
  have zs2 := hb.size
  clear p0 p1 p2 p3 p4 p5 p6 p7
  have qR : Blk w2 (w.heap.size) 24 #[.int .i64 C, .int .i64 H, .int .i64 L, .slice A C c] := R1.out.below hb R1.out.lt
  have qB : Below w.heap.size w w2 := Bl.call' B1.out hb
  clear R1 B1
  have R2 := hide qR
  have B2 := hide qB
  clear qR qB
  clear hb
  obtain ⟨p0, p1, p2, p3, p4, p5, p6, p7⟩ := R2.out.four
  go_wp2_with (fail)
  refine (C21.out _ B2.out).mono ?_
  rintro e w3 ⟨rfl, hb⟩
  have zs3 := hb.size
  clear p0 p1 p2 p3 p4 p5 p6 p7
  have qR : Blk w3 (w.heap.size) 24 #[.int .i64 C, .int .i64 H, .int .i64 L, .slice A C c] := R2.out.below hb R2.out.lt
  have qB : Below w.heap.size w w3 := Bl.call' B2.out hb
  clear R2 B2
  have R3 := hide qR
  have B3 := hide qB
  clear qR qB
  clear hb
  go_upto_region 4 with (fail)
  have qR : Blk (w3.alloc (.cells #[.int .i64 0, .int .i64 0, .int .i64 0, .slice none 0 0] 24)) (w.heap.size) 24 #[.int .i64 C, .int .i64 H, .int .i64 L, .slice A C c] := R3.out.alloc _
  have qB : Below w.heap.size w (w3.alloc (.cells #[.int .i64 0, .int .i64 0, .int .i64 0, .slice none 0 0] 24)) := Bl.alloc' B3.out _
  have qP : Blk (w3.alloc (.cells #[.int .i64 0, .int .i64 0, .int .i64 0, .slice none 0 0] 24)) (w3.heap.size) 24 #[.int .i64 0, .int .i64 0, .int .i64 0, .slice none 0 0] := Blk.new _ _ _
  have z4 : (w3.alloc (.cells #[.int .i64 0, .int .i64 0, .int .i64 0, .slice none 0 0] 24)).heap.size = w3.heap.size + 1 := by simp
  clear R3 B3
  generalize (w3.alloc (.cells #[.int .i64 0, .int .i64 0, .int .i64 0, .slice none 0 0] 24)) = w4 at *
  have R4 := hide qR
  have B4 := hide qB
  have P4 := hide qP
  clear qR qB qP
  have zi4 : w4.heap.size ≤ w3.heap.size + 1 ∧ w3.heap.size < w4.heap.size := by omega
  clear z4
  obtain ⟨p0, p1, p2, p3, p4, p5, p6, p7⟩ := R4.out.four
  go_upto_region 4 with (fail)
  go_region_held3 (fun w' => w'.cell? ⟨w.heap.size, 0, none⟩ = some (.int .i64 C) ∧ w'.cell? ⟨w.heap.size, 1, none⟩ = some (.int .i64 H) ∧ w'.cell? ⟨w.heap.size, 2, none⟩ = some (.int .i64 L) ∧ w'.cell? ⟨w.heap.size, 3, none⟩ = some (.slice A C c)) (first | exact ⟨p0, p1, p2, p3⟩ | exact ⟨e0, e1, e2, e3⟩ | exact ⟨h0, h1, h2, h3⟩) (first | (go_at_call 17; refine (C17.out _ B4.out.drew).mono ?_; rintro e w5 ⟨rfl, hbx⟩; have hby : Below w4.heap.size w4 w5 := below_undrew hbx; have zs5 := hby.size; have R5 := hide (R4.out.below hby R4.out.lt); have B5 := hide (Bl.call' B4.out hby); have P5 := hide (P4.out.below hby P4.out.lt); obtain ⟨e0, e1, e2, e3, _, _, _, _⟩ := R5.out.four; clear hbx hby) | (go_at_call 18; refine (C18.out _ B5.out).mono ?_; rintro e w6 ⟨A1, c1, rfl, hown, hbx⟩; have zs6 := hbx.size; have R6 := hide (R5.out.below hbx R5.out.lt); have B6 := hide (Bl.call' B5.out hbx); have P6 := hide (P5.out.below hbx P5.out.lt); have hlc := own_cap hown; have S6 := hide (Sl2.own_h hown); obtain ⟨h0, h1, h2, h3, _, _, _, _⟩ := R6.out.four; clear hbx hown))
  clear p0 p1 p2 p3 e0 e1 e2 e3 h0 h1 h2 h3
  clear R4 R5 B4 B5 P4 P5
  obtain ⟨a0, a1, a2, a3, a4, a5, a6, a7⟩ := P6.out.four
  go_wp2_with (fail)
  refine (C11.out _).mono ?_
  rintro e w7 ⟨rfl, hb⟩
  have zs7 := hb.size
  clear a0 a1 a2 a3 a4 a5 a6 a7
  have qR : Blk w7 (w.heap.size) 24 #[.int .i64 C, .int .i64 H, .int .i64 L, .slice A C c] := R6.out.below hb R6.out.lt
  have qB : Below w.heap.size w w7 := Bl.call' B6.out hb
  have qP : Blk w7 (w3.heap.size) 24 #[.int .i64 0, .int .i64 0, .int .i64 0, .slice none 0 0] := P6.out.below hb P6.out.lt
  have qS : Sl2 w7 w7.heap.size A1 (L) xs := Sl2.below_h hb S6.out
  clear R6 B6 P6 S6
  have R7 := hide qR
  have B7 := hide qB
  have P7 := hide qP
  have S7 := hide qS
  clear qR qB qP qS
  clear hb
  go_wp2_with (fail)
  refine (C12.out _).mono ?_
  rintro e w8 ⟨rfl, hb⟩
  have zs8 := hb.size
  have qR : Blk w8 (w.heap.size) 24 #[.int .i64 C, .int .i64 H, .int .i64 L, .slice A C c] := R7.out.below hb R7.out.lt
  have qB : Below w.heap.size w w8 := Bl.call' B7.out hb
  have qP : Blk w8 (w3.heap.size) 24 #[.int .i64 0, .int .i64 0, .int .i64 0, .slice none 0 0] := P7.out.below hb P7.out.lt
  have qS : Sl2 w8 w8.heap.size A1 (L) xs := Sl2.below_h hb S7.out
  clear R7 B7 P7 S7
  have R8 := hide qR
  have B8 := hide qB
  have P8 := hide qP
  have S8 := hide qS
  clear qR qB qP qS
  clear hb
  go_wp2
  go_ret
  exact ⟨rfl, B8.out⟩
set_option maxRecDepth 100000 in
set_option maxHeartbeats 2000000 in
theorem lgrow_one (C H : Nat) (xs : List (Int × Int)) (A : Option Addr) (c : Nat) (D : Int) (w : World) (h : Sl2 w w.heap.size A C (cellsL C H xs)) (hn : C ≤ 200) (hr : Rg C H xs.length (cellsL C H xs) C H xs) (h300 : D ≤ 300) (hD : (xs.length : Int) ≤ D) (hD1 : D < 1) :
    Calls Try.prog 6 #[ringV C H xs.length A C c, .int .i64 D] w (TrueEnd w) := by
  have C12 := hide awake_any
  have C11 := hide same_zero
  have C14 := hide (fun w0 => few_any C H xs.length A C c w0)
  unfold FewEnd at C14
  rw [decide_eq_true (by omega)] at C14
  have C17 := hide (fun w0 (hb : Below w.heap.size w w0) => rvalidate_any C H xs.length A C c _ (cellsL C H xs) w0 (h.below hb) hb.size)
  unfold VEnd at C17
  have C21 := hide (fun w0 (hb : Below w.heap.size w w0) => grow_one C H xs.length A C c _ (cellsL C H xs) D w0 (h.below hb) hb.size hr.ok hD hD1)
  rw [vV_yes hr.ok] at C17
  have C18 := hide (fun w0 (hb : Below w.heap.size w w0) => ritems_ok C H xs A c _ w0 (h.below hb) hb.size hr)
  unfold ListEnd at C18
  have hlx : xs.length ≤ 200 := Nat.le_trans hr.fits hn
  unfold ErrEnd at C21
  have h3 : decide (300 < D) = false := by simpa using h300
  have hd : decide (D < (xs.length : Int)) = false := by simpa using hD
  have hd1 : decide (D < 1) = true := by simpa using hD1
  clear h hr
  generalize hl : xs.length = L at *
  have HL := hide hl
  clear hl
  unfold ringV at C14 C17 C18 C21
  unfold ringV
  go_enter Try.func6, Try.ntmps6
  go_upto_region 1 with (fail)
  have qR : Blk (w.alloc (.cells #[.int .i64 C, .int .i64 H, .int .i64 L, .slice A C c] 24)) (w.heap.size) 24 #[.int .i64 C, .int .i64 H, .int .i64 L, .slice A C c] := Blk.new _ _ _
  have qB : Below w.heap.size w (w.alloc (.cells #[.int .i64 C, .int .i64 H, .int .i64 L, .slice A C c] 24)) := Bl.alloc' (Below.refl _ _) _
  have z1 : (w.alloc (.cells #[.int .i64 C, .int .i64 H, .int .i64 L, .slice A C c] 24)).heap.size = w.heap.size + 1 := by simp
  generalize (w.alloc (.cells #[.int .i64 C, .int .i64 H, .int .i64 L, .slice A C c] 24)) = w1 at *
  have zi1 : w1.heap.size ≤ w.heap.size + 1 ∧ w.heap.size + 1 ≤ w1.heap.size := by omega
  clear z1
  have R1 := hide qR
  have B1 := hide qB
  clear qR qB
  obtain ⟨p0, p1, p2, p3, p4, p5, p6, p7⟩ := R1.out.four
  go_wp2_with (fail)
  refine (C14.out _).mono ?_
  rintro e w2 ⟨rfl, hb⟩
  have zs2 := hb.size
  clear p0 p1 p2 p3 p4 p5 p6 p7
  have qR : Blk w2 (w.heap.size) 24 #[.int .i64 C, .int .i64 H, .int .i64 L, .slice A C c] := R1.out.below hb R1.out.lt
  have qB : Below w.heap.size w w2 := Bl.call' B1.out hb
  clear R1 B1
  have R2 := hide qR
  have B2 := hide qB
  clear qR qB
  clear hb
  obtain ⟨p0, p1, p2, p3, p4, p5, p6, p7⟩ := R2.out.four
  go_wp2_with (fail)
  refine (C21.out _ B2.out).mono ?_
  rintro e w3 ⟨rfl, hb⟩
  have zs3 := hb.size
  clear p0 p1 p2 p3 p4 p5 p6 p7
  have qR : Blk w3 (w.heap.size) 24 #[.int .i64 C, .int .i64 H, .int .i64 L, .slice A C c] := R2.out.below hb R2.out.lt
  have qB : Below w.heap.size w w3 := Bl.call' B2.out hb
  clear R2 B2
  have R3 := hide qR
  have B3 := hide qB
  clear qR qB
  clear hb
  go_upto_region 4 with (fail)
  have qR : Blk (w3.alloc (.cells #[.int .i64 0, .int .i64 0, .int .i64 0, .slice none 0 0] 24)) (w.heap.size) 24 #[.int .i64 C, .int .i64 H, .int .i64 L, .slice A C c] := R3.out.alloc _
  have qB : Below w.heap.size w (w3.alloc (.cells #[.int .i64 0, .int .i64 0, .int .i64 0, .slice none 0 0] 24)) := Bl.alloc' B3.out _
  have qP : Blk (w3.alloc (.cells #[.int .i64 0, .int .i64 0, .int .i64 0, .slice none 0 0] 24)) (w3.heap.size) 24 #[.int .i64 0, .int .i64 0, .int .i64 0, .slice none 0 0] := Blk.new _ _ _
  have z4 : (w3.alloc (.cells #[.int .i64 0, .int .i64 0, .int .i64 0, .slice none 0 0] 24)).heap.size = w3.heap.size + 1 := by simp
  clear R3 B3
  generalize (w3.alloc (.cells #[.int .i64 0, .int .i64 0, .int .i64 0, .slice none 0 0] 24)) = w4 at *
  have R4 := hide qR
  have B4 := hide qB
  have P4 := hide qP
  clear qR qB qP
  have zi4 : w4.heap.size ≤ w3.heap.size + 1 ∧ w3.heap.size < w4.heap.size := by omega
  clear z4
  obtain ⟨p0, p1, p2, p3, p4, p5, p6, p7⟩ := R4.out.four
  go_upto_region 4 with (fail)
  go_region_held3 (fun w' => w'.cell? ⟨w.heap.size, 0, none⟩ = some (.int .i64 C) ∧ w'.cell? ⟨w.heap.size, 1, none⟩ = some (.int .i64 H) ∧ w'.cell? ⟨w.heap.size, 2, none⟩ = some (.int .i64 L) ∧ w'.cell? ⟨w.heap.size, 3, none⟩ = some (.slice A C c)) (first | exact ⟨p0, p1, p2, p3⟩ | exact ⟨e0, e1, e2, e3⟩ | exact ⟨h0, h1, h2, h3⟩) (first | (go_at_call 17; refine (C17.out _ B4.out.drew).mono ?_; rintro e w5 ⟨rfl, hbx⟩; have hby : Below w4.heap.size w4 w5 := below_undrew hbx; have zs5 := hby.size; have R5 := hide (R4.out.below hby R4.out.lt); have B5 := hide (Bl.call' B4.out hby); have P5 := hide (P4.out.below hby P4.out.lt); obtain ⟨e0, e1, e2, e3, _, _, _, _⟩ := R5.out.four; clear hbx hby) | (go_at_call 18; refine (C18.out _ B5.out).mono ?_; rintro e w6 ⟨A1, c1, rfl, hown, hbx⟩; have zs6 := hbx.size; have R6 := hide (R5.out.below hbx R5.out.lt); have B6 := hide (Bl.call' B5.out hbx); have P6 := hide (P5.out.below hbx P5.out.lt); have hlc := own_cap hown; have S6 := hide (Sl2.own_h hown); obtain ⟨h0, h1, h2, h3, _, _, _, _⟩ := R6.out.four; clear hbx hown))
  clear p0 p1 p2 p3 e0 e1 e2 e3 h0 h1 h2 h3
  clear R4 R5 B4 B5 P4 P5
  obtain ⟨a0, a1, a2, a3, a4, a5, a6, a7⟩ := P6.out.four
  go_wp2_with (fail)
  refine (C11.out _).mono ?_
  rintro e w7 ⟨rfl, hb⟩
  have zs7 := hb.size
  clear a0 a1 a2 a3 a4 a5 a6 a7
  have qR : Blk w7 (w.heap.size) 24 #[.int .i64 C, .int .i64 H, .int .i64 L, .slice A C c] := R6.out.below hb R6.out.lt
  have qB : Below w.heap.size w w7 := Bl.call' B6.out hb
  have qP : Blk w7 (w3.heap.size) 24 #[.int .i64 0, .int .i64 0, .int .i64 0, .slice none 0 0] := P6.out.below hb P6.out.lt
  have qS : Sl2 w7 w7.heap.size A1 (L) xs := Sl2.below_h hb S6.out
  clear R6 B6 P6 S6
  have R7 := hide qR
  have B7 := hide qB
  have P7 := hide qP
  have S7 := hide qS
  clear qR qB qP qS
  clear hb
  go_wp2_with (fail)
  refine (C12.out _).mono ?_
  rintro e w8 ⟨rfl, hb⟩
  have zs8 := hb.size
  have qR : Blk w8 (w.heap.size) 24 #[.int .i64 C, .int .i64 H, .int .i64 L, .slice A C c] := R7.out.below hb R7.out.lt
  have qB : Below w.heap.size w w8 := Bl.call' B7.out hb
  have qP : Blk w8 (w3.heap.size) 24 #[.int .i64 0, .int .i64 0, .int .i64 0, .slice none 0 0] := P7.out.below hb P7.out.lt
  have qS : Sl2 w8 w8.heap.size A1 (L) xs := Sl2.below_h hb S7.out
  clear R7 B7 P7 S7
  have R8 := hide qR
  have B8 := hide qB
  have P8 := hide qP
  have S8 := hide qS
  clear qR qB qP qS
  clear hb
  go_wp2
  go_ret
  exact ⟨rfl, B8.out⟩
set_option maxRecDepth 100000 in
set_option maxHeartbeats 2000000 in
theorem lgrow_max (C H : Nat) (xs : List (Int × Int)) (A : Option Addr) (c : Nat) (D : Int) (w : World) (h : Sl2 w w.heap.size A C (cellsL C H xs)) (hn : C ≤ 200) (hr : Rg C H xs.length (cellsL C H xs) C H xs) (h300 : 65536 ≤ D) (hD : (xs.length : Int) ≤ D) (hD1 : 65536 < D) :
    Calls Try.prog 6 #[ringV C H xs.length A C c, .int .i64 D] w (TrueEnd w) := by
  have C12 := hide awake_any
  have C11 := hide same_zero
  have C14 := hide (fun w0 => few_any C H xs.length A C c w0)
  unfold FewEnd at C14
  rw [decide_eq_true (by omega)] at C14
  have C17 := hide (fun w0 (hb : Below w.heap.size w w0) => rvalidate_any C H xs.length A C c _ (cellsL C H xs) w0 (h.below hb) hb.size)
  unfold VEnd at C17
  have C21 := hide (fun w0 (hb : Below w.heap.size w w0) => grow_max C H xs.length A C c _ (cellsL C H xs) D w0 (h.below hb) hb.size hr.ok hD (by omega) hD1)
  rw [vV_yes hr.ok] at C17
  have C18 := hide (fun w0 (hb : Below w.heap.size w w0) => ritems_ok C H xs A c _ w0 (h.below hb) hb.size hr)
  unfold ListEnd at C18
  have hlx : xs.length ≤ 200 := Nat.le_trans hr.fits hn
  unfold ErrEnd at C21
  have h3 : decide (300 < D) = true := by simp; omega
  have h4 : decide (D < 65536) = false := by simp; omega
  have hd : decide (D < (xs.length : Int)) = false := by simpa using hD
  have hd1 : decide (D < 1) = false := by simp; omega
  have hd2 : decide (65536 < D) = true := by simpa using hD1
  clear h hr
  generalize hl : xs.length = L at *
  have HL := hide hl
  clear hl
  unfold ringV at C14 C17 C18 C21
  unfold ringV
  go_enter Try.func6, Try.ntmps6
  go_upto_region 1 with (fail)
  have qR : Blk (w.alloc (.cells #[.int .i64 C, .int .i64 H, .int .i64 L, .slice A C c] 24)) (w.heap.size) 24 #[.int .i64 C, .int .i64 H, .int .i64 L, .slice A C c] := Blk.new _ _ _
  have qB : Below w.heap.size w (w.alloc (.cells #[.int .i64 C, .int .i64 H, .int .i64 L, .slice A C c] 24)) := Bl.alloc' (Below.refl _ _) _
  have z1 : (w.alloc (.cells #[.int .i64 C, .int .i64 H, .int .i64 L, .slice A C c] 24)).heap.size = w.heap.size + 1 := by simp
  generalize (w.alloc (.cells #[.int .i64 C, .int .i64 H, .int .i64 L, .slice A C c] 24)) = w1 at *
  have zi1 : w1.heap.size ≤ w.heap.size + 1 ∧ w.heap.size + 1 ≤ w1.heap.size := by omega
  clear z1
  have R1 := hide qR
  have B1 := hide qB
  clear qR qB
  obtain ⟨p0, p1, p2, p3, p4, p5, p6, p7⟩ := R1.out.four
  go_wp2_with (fail)
  refine (C14.out _).mono ?_
  rintro e w2 ⟨rfl, hb⟩
  have zs2 := hb.size
  clear p0 p1 p2 p3 p4 p5 p6 p7
  have qR : Blk w2 (w.heap.size) 24 #[.int .i64 C, .int .i64 H, .int .i64 L, .slice A C c] := R1.out.below hb R1.out.lt
  have qB : Below w.heap.size w w2 := Bl.call' B1.out hb
  clear R1 B1
  have R2 := hide qR
  have B2 := hide qB
  clear qR qB
  clear hb
  obtain ⟨p0, p1, p2, p3, p4, p5, p6, p7⟩ := R2.out.four
  go_wp2_with (fail)
  refine (C21.out _ B2.out).mono ?_
  rintro e w3 ⟨rfl, hb⟩
  have zs3 := hb.size
  clear p0 p1 p2 p3 p4 p5 p6 p7
  have qR : Blk w3 (w.heap.size) 24 #[.int .i64 C, .int .i64 H, .int .i64 L, .slice A C c] := R2.out.below hb R2.out.lt
  have qB : Below w.heap.size w w3 := Bl.call' B2.out hb
  clear R2 B2
  have R3 := hide qR
  have B3 := hide qB
  clear qR qB
  clear hb
  go_upto_region 4 with (fail)
  have qR : Blk (w3.alloc (.cells #[.int .i64 0, .int .i64 0, .int .i64 0, .slice none 0 0] 24)) (w.heap.size) 24 #[.int .i64 C, .int .i64 H, .int .i64 L, .slice A C c] := R3.out.alloc _
  have qB : Below w.heap.size w (w3.alloc (.cells #[.int .i64 0, .int .i64 0, .int .i64 0, .slice none 0 0] 24)) := Bl.alloc' B3.out _
  have qP : Blk (w3.alloc (.cells #[.int .i64 0, .int .i64 0, .int .i64 0, .slice none 0 0] 24)) (w3.heap.size) 24 #[.int .i64 0, .int .i64 0, .int .i64 0, .slice none 0 0] := Blk.new _ _ _
  have z4 : (w3.alloc (.cells #[.int .i64 0, .int .i64 0, .int .i64 0, .slice none 0 0] 24)).heap.size = w3.heap.size + 1 := by simp
  clear R3 B3
  generalize (w3.alloc (.cells #[.int .i64 0, .int .i64 0, .int .i64 0, .slice none 0 0] 24)) = w4 at *
  have R4 := hide qR
  have B4 := hide qB
  have P4 := hide qP
  clear qR qB qP
  have zi4 : w4.heap.size ≤ w3.heap.size + 1 ∧ w3.heap.size < w4.heap.size := by omega
  clear z4
  obtain ⟨p0, p1, p2, p3, p4, p5, p6, p7⟩ := R4.out.four
  go_upto_region 4 with (fail)
  go_region_held3 (fun w' => w'.cell? ⟨w.heap.size, 0, none⟩ = some (.int .i64 C) ∧ w'.cell? ⟨w.heap.size, 1, none⟩ = some (.int .i64 H) ∧ w'.cell? ⟨w.heap.size, 2, none⟩ = some (.int .i64 L) ∧ w'.cell? ⟨w.heap.size, 3, none⟩ = some (.slice A C c)) (first | exact ⟨p0, p1, p2, p3⟩ | exact ⟨e0, e1, e2, e3⟩ | exact ⟨h0, h1, h2, h3⟩) (first | (go_at_call 17; refine (C17.out _ B4.out.drew).mono ?_; rintro e w5 ⟨rfl, hbx⟩; have hby : Below w4.heap.size w4 w5 := below_undrew hbx; have zs5 := hby.size; have R5 := hide (R4.out.below hby R4.out.lt); have B5 := hide (Bl.call' B4.out hby); have P5 := hide (P4.out.below hby P4.out.lt); obtain ⟨e0, e1, e2, e3, _, _, _, _⟩ := R5.out.four; clear hbx hby) | (go_at_call 18; refine (C18.out _ B5.out).mono ?_; rintro e w6 ⟨A1, c1, rfl, hown, hbx⟩; have zs6 := hbx.size; have R6 := hide (R5.out.below hbx R5.out.lt); have B6 := hide (Bl.call' B5.out hbx); have P6 := hide (P5.out.below hbx P5.out.lt); have hlc := own_cap hown; have S6 := hide (Sl2.own_h hown); obtain ⟨h0, h1, h2, h3, _, _, _, _⟩ := R6.out.four; clear hbx hown))
  clear p0 p1 p2 p3 e0 e1 e2 e3 h0 h1 h2 h3
  clear R4 R5 B4 B5 P4 P5
  obtain ⟨a0, a1, a2, a3, a4, a5, a6, a7⟩ := P6.out.four
  go_wp2_with (fail)
  refine (C11.out _).mono ?_
  rintro e w7 ⟨rfl, hb⟩
  have zs7 := hb.size
  clear a0 a1 a2 a3 a4 a5 a6 a7
  have qR : Blk w7 (w.heap.size) 24 #[.int .i64 C, .int .i64 H, .int .i64 L, .slice A C c] := R6.out.below hb R6.out.lt
  have qB : Below w.heap.size w w7 := Bl.call' B6.out hb
  have qP : Blk w7 (w3.heap.size) 24 #[.int .i64 0, .int .i64 0, .int .i64 0, .slice none 0 0] := P6.out.below hb P6.out.lt
  have qS : Sl2 w7 w7.heap.size A1 (L) xs := Sl2.below_h hb S6.out
  clear R6 B6 P6 S6
  have R7 := hide qR
  have B7 := hide qB
  have P7 := hide qP
  have S7 := hide qS
  clear qR qB qP qS
  clear hb
  go_wp2_with (fail)
  refine (C12.out _).mono ?_
  rintro e w8 ⟨rfl, hb⟩
  have zs8 := hb.size
  have qR : Blk w8 (w.heap.size) 24 #[.int .i64 C, .int .i64 H, .int .i64 L, .slice A C c] := R7.out.below hb R7.out.lt
  have qB : Below w.heap.size w w8 := Bl.call' B7.out hb
  have qP : Blk w8 (w3.heap.size) 24 #[.int .i64 0, .int .i64 0, .int .i64 0, .slice none 0 0] := P7.out.below hb P7.out.lt
  have qS : Sl2 w8 w8.heap.size A1 (L) xs := Sl2.below_h hb S7.out
  clear R7 B7 P7 S7
  have R8 := hide qR
  have B8 := hide qB
  have P8 := hide qP
  have S8 := hide qS
  clear qR qB qP qS
  clear hb
  go_wp2
  go_ret
  exact ⟨rfl, B8.out⟩
set_option maxRecDepth 100000 in
set_option maxHeartbeats 2000000 in
theorem lgrow_ok_l (C H : Nat) (xs : List (Int × Int)) (A : Option Addr) (c : Nat) (D : Nat) (w : World) (h : Sl2 w w.heap.size A C (cellsL C H xs)) (hn : C ≤ 200) (hr : Rg C H xs.length (cellsL C H xs) C H xs) (h300 : D ≤ 300) (hD : xs.length ≤ D) (hD1 : 1 ≤ D) (hD2 : D ≤ 65536) :
    Calls Try.prog 6 #[ringV C H xs.length A C c, .int .i64 D] w (TrueEnd w) := by
  have C12 := hide awake_any
  have C11 := hide same_zero
  have C14 := hide (fun w0 => few_any C H xs.length A C c w0)
  unfold FewEnd at C14
  rw [decide_eq_true (by omega)] at C14
  have C17 := hide (fun w0 (hb : Below w.heap.size w w0) => rvalidate_any C H xs.length A C c _ (cellsL C H xs) w0 (h.below hb) hb.size)
  unfold VEnd at C17
  have C21 := hide (fun w0 (hb : Below w.heap.size w w0) => grow_ok C H D xs A c _ w0 (h.below hb) hb.size hr hD hD1 hD2)
  rw [vV_yes hr.ok] at C17
  have C18 := hide (fun w0 (hb : Below w.heap.size w w0) => ritems_ok C H xs A c _ w0 (h.below hb) hb.size hr)
  unfold ListEnd at C18
  have hlx : xs.length ≤ 200 := Nat.le_trans hr.fits hn
  unfold PushEnd at C21
  have hlD := hD
  have COf := hide (fun (A' : Option Addr) (c' : Nat) (w0 : World) (hs : Sl2 w0 w0.heap.size A' xs.length xs) => of_any D 0 xs A' xs.length c' _ w0 hs (Nat.le_refl _) ⟨hD1, hD2⟩ (by omega) hD)
  unfold RingEnd ringV at COf
  have h3 : decide ((300 : Int) < D) = false := by simp; omega
  have hdi : decide ((D : Int) < xs.length) = false := by simp; omega
  have hdn : decide (D < xs.length) = false := by simp; omega
  have hd1 : decide ((D : Int) < 1) = false := by simp; omega
  have hd2 : decide ((65536 : Int) < D) = false := by simp; omega
  clear h hr
  generalize hl : xs.length = L at *
  have HL := hide hl
  clear hl
  unfold ringV at C14 C17 C18 C21
  unfold ringV
  go_enter Try.func6, Try.ntmps6
  go_upto_region 1 with (fail)
  have qR : Blk (w.alloc (.cells #[.int .i64 C, .int .i64 H, .int .i64 L, .slice A C c] 24)) (w.heap.size) 24 #[.int .i64 C, .int .i64 H, .int .i64 L, .slice A C c] := Blk.new _ _ _
  have qB : Below w.heap.size w (w.alloc (.cells #[.int .i64 C, .int .i64 H, .int .i64 L, .slice A C c] 24)) := Bl.alloc' (Below.refl _ _) _
  have z1 : (w.alloc (.cells #[.int .i64 C, .int .i64 H, .int .i64 L, .slice A C c] 24)).heap.size = w.heap.size + 1 := by simp
  generalize (w.alloc (.cells #[.int .i64 C, .int .i64 H, .int .i64 L, .slice A C c] 24)) = w1 at *
  have zi1 : w1.heap.size ≤ w.heap.size + 1 ∧ w.heap.size + 1 ≤ w1.heap.size := by omega
  clear z1
  have R1 := hide qR
  have B1 := hide qB
  clear qR qB
  obtain ⟨p0, p1, p2, p3, p4, p5, p6, p7⟩ := R1.out.four
  go_wp2_with (fail)
  refine (C14.out _).mono ?_
  rintro e w2 ⟨rfl, hb⟩
  have zs2 := hb.size
  clear p0 p1 p2 p3 p4 p5 p6 p7
  have qR : Blk w2 (w.heap.size) 24 #[.int .i64 C, .int .i64 H, .int .i64 L, .slice A C c] := R1.out.below hb R1.out.lt
  have qB : Below w.heap.size w w2 := Bl.call' B1.out hb
  clear R1 B1
  have R2 := hide qR
  have B2 := hide qB
  clear qR qB
  clear hb
  obtain ⟨p0, p1, p2, p3, p4, p5, p6, p7⟩ := R2.out.four
  go_wp2_with (fail)
  refine (C21.out _ B2.out).mono ?_
  rintro e w3 ⟨A2, c2, rfl, hown, hb⟩
  have zs3 := hb.size
  clear p0 p1 p2 p3 p4 p5 p6 p7
  have qR : Blk w3 (w.heap.size) 24 #[.int .i64 C, .int .i64 H, .int .i64 L, .slice A C c] := R2.out.below hb R2.out.lt
  have qB : Below w.heap.size w w3 := Bl.call' B2.out hb
  have qO : World.ownsRow w3 (w.heap.size) 33 2 (.slice A2 D c2) (D) (flat (cellsL D 0 xs)) := own_more hown (by omega)
  clear R2 B2
  have R3 := hide qR
  have B3 := hide qB
  have O3 := hide qO
  clear qR qB qO
  clear hb
  clear hown
  go_upto_region 4 with (fail)
  have qR : Blk (w3.alloc (.cells #[.int .i64 D, .int .i64 0, .int .i64 L, .slice A2 D c2] 24)) (w.heap.size) 24 #[.int .i64 C, .int .i64 H, .int .i64 L, .slice A C c] := R3.out.alloc _
  have qB : Below w.heap.size w (w3.alloc (.cells #[.int .i64 D, .int .i64 0, .int .i64 L, .slice A2 D c2] 24)) := Bl.alloc' B3.out _
  have qO : World.ownsRow (w3.alloc (.cells #[.int .i64 D, .int .i64 0, .int .i64 L, .slice A2 D c2] 24)) (w.heap.size) 33 2 (.slice A2 D c2) (D) (flat (cellsL D 0 xs)) := O3.out.alloc _
  have qP : Blk (w3.alloc (.cells #[.int .i64 D, .int .i64 0, .int .i64 L, .slice A2 D c2] 24)) (w3.heap.size) 24 #[.int .i64 D, .int .i64 0, .int .i64 L, .slice A2 D c2] := Blk.new _ _ _
  have z4 : (w3.alloc (.cells #[.int .i64 D, .int .i64 0, .int .i64 L, .slice A2 D c2] 24)).heap.size = w3.heap.size + 1 := by simp
  clear R3 B3 O3
  generalize (w3.alloc (.cells #[.int .i64 D, .int .i64 0, .int .i64 L, .slice A2 D c2] 24)) = w4 at *
  have R4 := hide qR
  have B4 := hide qB
  have O4 := hide qO
  have P4 := hide qP
  clear qR qB qO qP
  have zi4 : w4.heap.size ≤ w3.heap.size + 1 ∧ w3.heap.size < w4.heap.size := by omega
  clear z4
  obtain ⟨p0, p1, p2, p3, p4, p5, p6, p7⟩ := R4.out.four
  go_upto_region 4 with (fail)
  go_region_held3 (fun w' => w'.cell? ⟨w.heap.size, 0, none⟩ = some (.int .i64 C) ∧ w'.cell? ⟨w.heap.size, 1, none⟩ = some (.int .i64 H) ∧ w'.cell? ⟨w.heap.size, 2, none⟩ = some (.int .i64 L) ∧ w'.cell? ⟨w.heap.size, 3, none⟩ = some (.slice A C c)) (first | exact ⟨p0, p1, p2, p3⟩ | exact ⟨e0, e1, e2, e3⟩ | exact ⟨h0, h1, h2, h3⟩) (first | (go_at_call 17; refine (C17.out _ B4.out.drew).mono ?_; rintro e w5 ⟨rfl, hbx⟩; have hby : Below w4.heap.size w4 w5 := below_undrew hbx; have zs5 := hby.size; have R5 := hide (R4.out.below hby R4.out.lt); have B5 := hide (Bl.call' B4.out hby); have O5 := hide (own_below O4.out hby); have P5 := hide (P4.out.below hby P4.out.lt); obtain ⟨e0, e1, e2, e3, _, _, _, _⟩ := R5.out.four; clear hbx hby) | (go_at_call 18; refine (C18.out _ B5.out).mono ?_; rintro e w6 ⟨A1, c1, rfl, hown, hbx⟩; have zs6 := hbx.size; have R6 := hide (R5.out.below hbx R5.out.lt); have B6 := hide (Bl.call' B5.out hbx); have O6 := hide (own_below O5.out hbx); have P6 := hide (P5.out.below hbx P5.out.lt); have hlc := own_cap hown; have S6 := hide (Sl2.own_h hown); obtain ⟨h0, h1, h2, h3, _, _, _, _⟩ := R6.out.four; clear hbx hown))
  clear p0 p1 p2 p3 e0 e1 e2 e3 h0 h1 h2 h3
  clear R4 R5 B4 B5 O4 O5 P4 P5
  obtain ⟨a0, a1, a2, a3, _, _, _, _⟩ := P6.out.four
  have lP := P6.out.lt
  have HC := hide (show w6.cell? ⟨w3.heap.size, 0, none⟩ = some (.int .i64 D) ∧ w6.cell? ⟨w3.heap.size, 1, none⟩ = some (.int .i64 0) ∧ w6.cell? ⟨w3.heap.size, 2, none⟩ = some (.int .i64 L) ∧ w6.cell? ⟨w3.heap.size, 3, none⟩ = some (.slice A2 D c2) from ⟨a0, a1, a2, a3⟩)
  clear a0 a1 a2 a3
  have hs0 := S6.out
  have HS0 := hide hs0
  clear hs0
  go_upto_region 9 with (fail)
  go_region_held3 (fun w' => w'.cell? ⟨w3.heap.size, 0, none⟩ = some (.int .i64 D) ∧ w'.cell? ⟨w3.heap.size, 1, none⟩ = some (.int .i64 0) ∧ w'.cell? ⟨w3.heap.size, 2, none⟩ = some (.int .i64 L) ∧ w'.cell? ⟨w3.heap.size, 3, none⟩ = some (.slice A2 D c2)) ((refine held4_below HC.out ?_ lP lP lP lP; (repeat (first | with_reducible exact Below.refl _ _ | with_reducible exact hbC | with_reducible exact hbB2 | with_reducible exact hbA | with_reducible refine Below.drew ?_)))) (first | (go_at_call 19; refine (COf.out _ _ _ ?_).mono ?_; (· refine Sl2.of_below HS0.out ?_; (repeat (first | with_reducible exact Below.refl _ _ | with_reducible exact hbC | with_reducible exact hbB2 | with_reducible exact hbA | with_reducible refine Below.drew ?_))); rintro e wA ⟨A8, c8, rfl, hown8, hbx⟩; have hbA : Below w6.heap.size w6 wA := below_undrew hbx; have hoA := Sl2.own_h hown8; have hoP := Sl2.own_h (own_below O6.out hbA); clear hbx) | (go_at_call 11; refine (same_ring _ _ _ _ _ _ _ _ _ _ _ _ _ _ _ _ _ hoP (Nat.le_refl _) hoA (Nat.le_refl _) (by omega) (by omega) rfl rfl rfl rfl).mono ?_; rintro e wB ⟨rfl, hbx⟩; have hbB2 : Below w6.heap.size w6 wB := Bl.call' hbA hbx; clear hbx) | (go_at_call 12; refine (C12.out _).mono ?_; rintro e wE ⟨rfl, hbx⟩; have hbC : Below w6.heap.size w6 wE := Bl.call' hbB2 hbx; clear hbx))
  go_wp2
  go_ret
  exact ⟨rfl, Bl.call' B6.out hbC⟩
set_option maxRecDepth 100000 in
set_option maxHeartbeats 2000000 in
theorem lgrow_ok_h (C H : Nat) (xs : List (Int × Int)) (A : Option Addr) (c : Nat) (D : Nat) (w : World) (h : Sl2 w w.heap.size A C (cellsL C H xs)) (hn : C ≤ 200) (hr : Rg C H xs.length (cellsL C H xs) C H xs) (h300 : 65536 ≤ D) (hD : xs.length ≤ D) (hD1 : 1 ≤ D) (hD2 : D ≤ 65536) :
    Calls Try.prog 6 #[ringV C H xs.length A C c, .int .i64 D] w (TrueEnd w) := by
  have C12 := hide awake_any
  have C11 := hide same_zero
  have C14 := hide (fun w0 => few_any C H xs.length A C c w0)
  unfold FewEnd at C14
  rw [decide_eq_true (by omega)] at C14
  have C17 := hide (fun w0 (hb : Below w.heap.size w w0) => rvalidate_any C H xs.length A C c _ (cellsL C H xs) w0 (h.below hb) hb.size)
  unfold VEnd at C17
  have C21 := hide (fun w0 (hb : Below w.heap.size w w0) => grow_ok C H D xs A c _ w0 (h.below hb) hb.size hr hD hD1 hD2)
  rw [vV_yes hr.ok] at C17
  have C18 := hide (fun w0 (hb : Below w.heap.size w w0) => ritems_ok C H xs A c _ w0 (h.below hb) hb.size hr)
  unfold ListEnd at C18
  have hlx : xs.length ≤ 200 := Nat.le_trans hr.fits hn
  unfold PushEnd at C21
  have hlD := hD
  have COf := hide (fun (A' : Option Addr) (c' : Nat) (w0 : World) (hs : Sl2 w0 w0.heap.size A' xs.length xs) => of_any D 0 xs A' xs.length c' _ w0 hs (Nat.le_refl _) ⟨hD1, hD2⟩ (by omega) hD)
  unfold RingEnd ringV at COf
  have h3 : decide ((300 : Int) < D) = true := by simp; omega
  have h4 : decide ((D : Int) < 65536) = false := by simp; omega
  have hdi : decide ((D : Int) < xs.length) = false := by simp; omega
  have hdn : decide (D < xs.length) = false := by simp; omega
  have hd1 : decide ((D : Int) < 1) = false := by simp; omega
  have hd2 : decide ((65536 : Int) < D) = false := by simp; omega
  clear h hr
  generalize hl : xs.length = L at *
  have HL := hide hl
  clear hl
  unfold ringV at C14 C17 C18 C21
  unfold ringV
  go_enter Try.func6, Try.ntmps6
  go_upto_region 1 with (fail)
  have qR : Blk (w.alloc (.cells #[.int .i64 C, .int .i64 H, .int .i64 L, .slice A C c] 24)) (w.heap.size) 24 #[.int .i64 C, .int .i64 H, .int .i64 L, .slice A C c] := Blk.new _ _ _
  have qB : Below w.heap.size w (w.alloc (.cells #[.int .i64 C, .int .i64 H, .int .i64 L, .slice A C c] 24)) := Bl.alloc' (Below.refl _ _) _
  have z1 : (w.alloc (.cells #[.int .i64 C, .int .i64 H, .int .i64 L, .slice A C c] 24)).heap.size = w.heap.size + 1 := by simp
  generalize (w.alloc (.cells #[.int .i64 C, .int .i64 H, .int .i64 L, .slice A C c] 24)) = w1 at *
  have zi1 : w1.heap.size ≤ w.heap.size + 1 ∧ w.heap.size + 1 ≤ w1.heap.size := by omega
  clear z1
  have R1 := hide qR
  have B1 := hide qB
  clear qR qB
  obtain ⟨p0, p1, p2, p3, p4, p5, p6, p7⟩ := R1.out.four
  go_wp2_with (fail)
  refine (C14.out _).mono ?_
  rintro e w2 ⟨rfl, hb⟩
  have zs2 := hb.size
  clear p0 p1 p2 p3 p4 p5 p6 p7
  have qR : Blk w2 (w.heap.size) 24 #[.int .i64 C, .int .i64 H, .int .i64 L, .slice A C c] := R1.out.below hb R1.out.lt
  have qB : Below w.heap.size w w2 := Bl.call' B1.out hb
  clear R1 B1
  have R2 := hide qR
  have B2 := hide qB
  clear qR qB
  clear hb
  obtain ⟨p0, p1, p2, p3, p4, p5, p6, p7⟩ := R2.out.four
  go_wp2_with (fail)
  refine (C21.out _ B2.out).mono ?_
  rintro e w3 ⟨A2, c2, rfl, hown, hb⟩
  have zs3 := hb.size
  clear p0 p1 p2 p3 p4 p5 p6 p7
  have qR : Blk w3 (w.heap.size) 24 #[.int .i64 C, .int .i64 H, .int .i64 L, .slice A C c] := R2.out.below hb R2.out.lt
  have qB : Below w.heap.size w w3 := Bl.call' B2.out hb
  have qO : World.ownsRow w3 (w.heap.size) 33 2 (.slice A2 D c2) (D) (flat (cellsL D 0 xs)) := own_more hown (by omega)
  clear R2 B2
  have R3 := hide qR
  have B3 := hide qB
  have O3 := hide qO
  clear qR qB qO
  clear hb
  clear hown
  go_upto_region 4 with (fail)
  have qR : Blk (w3.alloc (.cells #[.int .i64 D, .int .i64 0, .int .i64 L, .slice A2 D c2] 24)) (w.heap.size) 24 #[.int .i64 C, .int .i64 H, .int .i64 L, .slice A C c] := R3.out.alloc _
  have qB : Below w.heap.size w (w3.alloc (.cells #[.int .i64 D, .int .i64 0, .int .i64 L, .slice A2 D c2] 24)) := Bl.alloc' B3.out _
  have qO : World.ownsRow (w3.alloc (.cells #[.int .i64 D, .int .i64 0, .int .i64 L, .slice A2 D c2] 24)) (w.heap.size) 33 2 (.slice A2 D c2) (D) (flat (cellsL D 0 xs)) := O3.out.alloc _
  have qP : Blk (w3.alloc (.cells #[.int .i64 D, .int .i64 0, .int .i64 L, .slice A2 D c2] 24)) (w3.heap.size) 24 #[.int .i64 D, .int .i64 0, .int .i64 L, .slice A2 D c2] := Blk.new _ _ _
  have z4 : (w3.alloc (.cells #[.int .i64 D, .int .i64 0, .int .i64 L, .slice A2 D c2] 24)).heap.size = w3.heap.size + 1 := by simp
  clear R3 B3 O3
  generalize (w3.alloc (.cells #[.int .i64 D, .int .i64 0, .int .i64 L, .slice A2 D c2] 24)) = w4 at *
  have R4 := hide qR
  have B4 := hide qB
  have O4 := hide qO
  have P4 := hide qP
  clear qR qB qO qP
  have zi4 : w4.heap.size ≤ w3.heap.size + 1 ∧ w3.heap.size < w4.heap.size := by omega
  clear z4
  obtain ⟨p0, p1, p2, p3, p4, p5, p6, p7⟩ := R4.out.four
  go_upto_region 4 with (fail)
  go_region_held3 (fun w' => w'.cell? ⟨w.heap.size, 0, none⟩ = some (.int .i64 C) ∧ w'.cell? ⟨w.heap.size, 1, none⟩ = some (.int .i64 H) ∧ w'.cell? ⟨w.heap.size, 2, none⟩ = some (.int .i64 L) ∧ w'.cell? ⟨w.heap.size, 3, none⟩ = some (.slice A C c)) (first | exact ⟨p0, p1, p2, p3⟩ | exact ⟨e0, e1, e2, e3⟩ | exact ⟨h0, h1, h2, h3⟩) (first | (go_at_call 17; refine (C17.out _ B4.out.drew).mono ?_; rintro e w5 ⟨rfl, hbx⟩; have hby : Below w4.heap.size w4 w5 := below_undrew hbx; have zs5 := hby.size; have R5 := hide (R4.out.below hby R4.out.lt); have B5 := hide (Bl.call' B4.out hby); have O5 := hide (own_below O4.out hby); have P5 := hide (P4.out.below hby P4.out.lt); obtain ⟨e0, e1, e2, e3, _, _, _, _⟩ := R5.out.four; clear hbx hby) | (go_at_call 18; refine (C18.out _ B5.out).mono ?_; rintro e w6 ⟨A1, c1, rfl, hown, hbx⟩; have zs6 := hbx.size; have R6 := hide (R5.out.below hbx R5.out.lt); have B6 := hide (Bl.call' B5.out hbx); have O6 := hide (own_below O5.out hbx); have P6 := hide (P5.out.below hbx P5.out.lt); have hlc := own_cap hown; have S6 := hide (Sl2.own_h hown); obtain ⟨h0, h1, h2, h3, _, _, _, _⟩ := R6.out.four; clear hbx hown))
  clear p0 p1 p2 p3 e0 e1 e2 e3 h0 h1 h2 h3
  clear R4 R5 B4 B5 O4 O5 P4 P5
  obtain ⟨a0, a1, a2, a3, _, _, _, _⟩ := P6.out.four
  have lP := P6.out.lt
  have HC := hide (show w6.cell? ⟨w3.heap.size, 0, none⟩ = some (.int .i64 D) ∧ w6.cell? ⟨w3.heap.size, 1, none⟩ = some (.int .i64 0) ∧ w6.cell? ⟨w3.heap.size, 2, none⟩ = some (.int .i64 L) ∧ w6.cell? ⟨w3.heap.size, 3, none⟩ = some (.slice A2 D c2) from ⟨a0, a1, a2, a3⟩)
  clear a0 a1 a2 a3
  have hs0 := S6.out
  have HS0 := hide hs0
  clear hs0
  go_upto_region 9 with (fail)
  go_region_held3 (fun w' => w'.cell? ⟨w3.heap.size, 0, none⟩ = some (.int .i64 D) ∧ w'.cell? ⟨w3.heap.size, 1, none⟩ = some (.int .i64 0) ∧ w'.cell? ⟨w3.heap.size, 2, none⟩ = some (.int .i64 L) ∧ w'.cell? ⟨w3.heap.size, 3, none⟩ = some (.slice A2 D c2)) ((refine held4_below HC.out ?_ lP lP lP lP; (repeat (first | with_reducible exact Below.refl _ _ | with_reducible exact hbC | with_reducible exact hbB2 | with_reducible exact hbA | with_reducible refine Below.drew ?_)))) (first | (go_at_call 19; refine (COf.out _ _ _ ?_).mono ?_; (· refine Sl2.of_below HS0.out ?_; (repeat (first | with_reducible exact Below.refl _ _ | with_reducible exact hbC | with_reducible exact hbB2 | with_reducible exact hbA | with_reducible refine Below.drew ?_))); rintro e wA ⟨A8, c8, rfl, hown8, hbx⟩; have hbA : Below w6.heap.size w6 wA := below_undrew hbx; have hoA := Sl2.own_h hown8; have hoP := Sl2.own_h (own_below O6.out hbA); clear hbx) | (go_at_call 11; refine (same_ring _ _ _ _ _ _ _ _ _ _ _ _ _ _ _ _ _ hoP (Nat.le_refl _) hoA (Nat.le_refl _) (by omega) (by omega) rfl rfl rfl rfl).mono ?_; rintro e wB ⟨rfl, hbx⟩; have hbB2 : Below w6.heap.size w6 wB := Bl.call' hbA hbx; clear hbx) | (go_at_call 12; refine (C12.out _).mono ?_; rintro e wE ⟨rfl, hbx⟩; have hbC : Below w6.heap.size w6 wE := Bl.call' hbB2 hbx; clear hbx))
  go_wp2
  go_ret
  exact ⟨rfl, Bl.call' B6.out hbC⟩
theorem ringGrows_walk (cap head len : Int) (A : Option Addr) (n c : Nat) (l : List (Int × Int)) (D : Int) (w : World) (h : Sl2 w w.heap.size A n l) :
    Calls Try.prog 6 #[ringV cap head len A n c, .int .i64 D] w (TrueEnd w) := by
  rcases Nat.lt_or_ge 200 n with hn | hn
  · exact lgrow_many cap head len A n c D w hn
  · rcases (show D ≤ 300 ∨ (300 < D ∧ D < 65536) ∨ 65536 ≤ D by omega) with hd | ⟨hd1, hd2⟩ | hd
    · by_cases hv : VOk cap head len l
      · obtain ⟨C, H, xs, hr⟩ := Rg.of_ok hv
        have hr2 := hr
        obtain ⟨rfl, rfl, rfl, h1, h2, h3, h4, rfl⟩ := hr
        have hl := h.1
        rw [cellsL_len] at hl
        subst hl
        by_cases hD : D < xs.length
        · exact lgrow_less C H xs A c D w h hn hr2 hd hD
        · by_cases hD1 : D < 1
          · exact lgrow_one C H xs A c D w h hn hr2 hd (by omega) hD1
          · obtain ⟨E, rfl⟩ := Int.eq_ofNat_of_zero_le (a := D) (by omega)
            exact lgrow_ok_l C H xs A c E w h hn hr2 (by omega) (by omega) (by omega) (by omega)
      · exact lgrow_bad_l cap head len A n c l D w h hn hv hd
    · exact lgrow_mid cap head len A n c D w hn hd1 hd2
    · by_cases hv : VOk cap head len l
      · obtain ⟨C, H, xs, hr⟩ := Rg.of_ok hv
        have hr2 := hr
        obtain ⟨rfl, rfl, rfl, h1, h2, h3, h4, rfl⟩ := hr
        have hl := h.1
        rw [cellsL_len] at hl
        subst hl
        by_cases hD1 : 65536 < D
        · exact lgrow_max C H xs A c D w h hn hr2 hd (by omega) hD1
        · obtain ⟨E, rfl⟩ := Int.eq_ofNat_of_zero_le (a := D) (by omega)
          exact lgrow_ok_h C H xs A c E w h hn hr2 (by omega) (by omega) (by omega) (by omega)
      · exact lgrow_bad_h cap head len A n c l D w h hn hv hd
end Go.Proofs.Ytjbfefkbpnickaa
