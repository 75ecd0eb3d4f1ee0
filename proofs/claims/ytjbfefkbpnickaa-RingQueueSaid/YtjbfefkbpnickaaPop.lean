/- The first and the last element taken: the contracts. -/
import Derived.Test.YtjbfefkbpnickaaHeld
import Derived.Test.YtjbfefkbpnickaaPushF
namespace Go.Proofs.Ytjbfefkbpnickaa
open Go.RowKit
set_option linter.unusedVariables false
def PopEnd (C H : Nat) (ys : List (Int × Int)) (x : Int × Int) (w : World) (e : Ending) (w' : World) : Prop :=
  ∃ A c, e = .returned (.tuple #[ringV C H ys.length A C c, itV x, .int .i64 0]) ∧ w'.ownsRow w.heap.size 33 2 (.slice A C c) C (flat (cellsL C H ys)) ∧ Below w.heap.size w w'
def PopErr (k : Int) (w : World) (e : Ending) (w' : World) : Prop := e = .returned (.tuple #[(ringV 0 0 0 none 0 0), itV (0, 0), .int .i64 k]) ∧ Below w.heap.size w w'
theorem own_cap {w : World} {base e n c k : Nat} {A : Option Addr} {xs : List Value} (h : w.ownsRow base e k (.slice A n c) n xs) : n ≤ c ∧ c ≤ maxLen := by
  rcases h.2 with ⟨hv, h0⟩ | ⟨g, cap, cur, hv, hb, hh, hnc, hm, hs, ht⟩
  · injection hv with _ _ h3; subst h0 h3; exact ⟨Nat.le_refl _, Nat.zero_le _⟩
  · injection hv with _ _ h3; subst h3; exact ⟨hnc, hm⟩
theorem next_fact {C H : Nat} (hC : 1 ≤ C ∧ C ≤ 65536) (hH : H < C) : ((H : Int) + 1) % C = (((H + 1) % C : Nat) : Int) := by simp
set_option maxRecDepth 100000 in
theorem popfront_bad (cap head len : Int) (A : Option Addr) (n c B : Nat) (l : List (Int × Int)) (w : World) (h : Sl2 w B A n l) (hB : B ≤ w.heap.size) (hv : ¬ VOk cap head len l) :
    Calls Try.prog 25 #[ringV cap head len A n c] w (PopErr 2 w) := by
  have C13 := hide (fun w1 (hb : Below w.heap.size w w1) => validate_any cap head len A n c w.heap.size l w1 ((h.more hB).below hb) hb.size)
  unfold VEnd at C13
  rw [vV_no hv] at C13
  clear h hv
  unfold ringV at C13
  unfold ringV
  go_enter Try.func25, Try.ntmps25
  go_upto_region 1 with (fail)
  have qR : Blk (((w.alloc (.cells #[.int .i64 cap, .int .i64 head, .int .i64 len, .slice A n c] 24)).alloc (.cells #[.int .i64 0, .int .i64 0, .int .i64 0, .slice none 0 0] 24)).alloc (.cells #[.int .i64 0, .int .i64 0] 33)) (w.heap.size) 24 #[.int .i64 cap, .int .i64 head, .int .i64 len, .slice A n c] := ((Blk.new _ _ _).alloc _).alloc _
  have qZ : Blk (((w.alloc (.cells #[.int .i64 cap, .int .i64 head, .int .i64 len, .slice A n c] 24)).alloc (.cells #[.int .i64 0, .int .i64 0, .int .i64 0, .slice none 0 0] 24)).alloc (.cells #[.int .i64 0, .int .i64 0] 33)) (w.heap.size + 1) 24 #[.int .i64 0, .int .i64 0, .int .i64 0, .slice none 0 0] := (Blk.new_at (by simp) _ _).alloc _
  have qY : Blk (((w.alloc (.cells #[.int .i64 cap, .int .i64 head, .int .i64 len, .slice A n c] 24)).alloc (.cells #[.int .i64 0, .int .i64 0, .int .i64 0, .slice none 0 0] 24)).alloc (.cells #[.int .i64 0, .int .i64 0] 33)) (w.heap.size + 1 + 1) 33 #[.int .i64 0, .int .i64 0] := Blk.new_at (by simp) _ _
  have qB : Below w.heap.size w (((w.alloc (.cells #[.int .i64 cap, .int .i64 head, .int .i64 len, .slice A n c] 24)).alloc (.cells #[.int .i64 0, .int .i64 0, .int .i64 0, .slice none 0 0] 24)).alloc (.cells #[.int .i64 0, .int .i64 0] 33)) := Bl.alloc' (Bl.alloc' (Bl.alloc' (Below.refl _ _) _) _) _
  have z1 : (((w.alloc (.cells #[.int .i64 cap, .int .i64 head, .int .i64 len, .slice A n c] 24)).alloc (.cells #[.int .i64 0, .int .i64 0, .int .i64 0, .slice none 0 0] 24)).alloc (.cells #[.int .i64 0, .int .i64 0] 33)).heap.size = w.heap.size + 3 := by simp
  generalize (((w.alloc (.cells #[.int .i64 cap, .int .i64 head, .int .i64 len, .slice A n c] 24)).alloc (.cells #[.int .i64 0, .int .i64 0, .int .i64 0, .slice none 0 0] 24)).alloc (.cells #[.int .i64 0, .int .i64 0] 33)) = w1 at *
  have zi1 : w1.heap.size ≤ w.heap.size + 3 ∧ w.heap.size + 3 ≤ w1.heap.size := by omega
  clear z1
  have R1 := hide qR
  have Z1 := hide qZ
  have Y1 := hide qY
  have B1 := hide qB
  clear qR qZ qY qB
  obtain ⟨p0, p1, p2, p3, p4, p5, p6, p7⟩ := R1.out.four
  go_wp2_with (fail)
  refine (C13.out _ B1.out).mono ?_
  rintro e w2 ⟨rfl, hb⟩
  have zs2 := hb.size
  clear p0 p1 p2 p3 p4 p5 p6 p7
  have qR : Blk w2 (w.heap.size) 24 #[.int .i64 cap, .int .i64 head, .int .i64 len, .slice A n c] := R1.out.below hb R1.out.lt
  have qZ : Blk w2 (w.heap.size + 1) 24 #[.int .i64 0, .int .i64 0, .int .i64 0, .slice none 0 0] := Z1.out.below hb Z1.out.lt
  have qY : Blk w2 (w.heap.size + 1 + 1) 33 #[.int .i64 0, .int .i64 0] := Y1.out.below hb Y1.out.lt
  have qB : Below w.heap.size w w2 := Bl.call' B1.out hb
  clear R1 Z1 Y1 B1
  have R2 := hide qR
  have Z2 := hide qZ
  have Y2 := hide qY
  have B2 := hide qB
  clear qR qZ qY qB
  clear hb
  obtain ⟨p0, p1, p2, p3, p4, p5, p6, p7⟩ := R2.out.four
  obtain ⟨g0, g1, g2, g3, g4, g5, g6, g7⟩ := Z2.out.four
  obtain ⟨u0, u1, u2, u3⟩ := Y2.out.two
  go_wp2
  refine bodyPost_ret (res3 rfl _ rfl ((Z2.out.store4 _ _ _ _).far2 (by omega) _ _ _ _) rfl ((Y2.out.far4 (by omega) _ _ _ _).store2 _ _)) rfl ?_
  exact ⟨rfl, below_far2 (below_far4 B2.out (by omega) _ _ _ _) (by omega) _ _ _ _⟩
set_option maxRecDepth 100000 in
theorem popfront_empty (cap head : Int) (A : Option Addr) (n c B : Nat) (l : List (Int × Int)) (w : World) (h : Sl2 w B A n l) (hB : B ≤ w.heap.size) (hv : VOk cap head 0 l) :
    Calls Try.prog 25 #[ringV cap head 0 A n c] w (PopErr 7 w) := by
  have C13 := hide (fun w1 (hb : Below w.heap.size w w1) => validate_any cap head 0 A n c w.heap.size l w1 ((h.more hB).below hb) hb.size)
  unfold VEnd at C13
  rw [vV_yes hv] at C13
  clear h hv
  unfold ringV at C13
  unfold ringV
  go_enter Try.func25, Try.ntmps25
  go_upto_region 1 with (fail)
  have qR : Blk (((w.alloc (.cells #[.int .i64 cap, .int .i64 head, .int .i64 0, .slice A n c] 24)).alloc (.cells #[.int .i64 0, .int .i64 0, .int .i64 0, .slice none 0 0] 24)).alloc (.cells #[.int .i64 0, .int .i64 0] 33)) (w.heap.size) 24 #[.int .i64 cap, .int .i64 head, .int .i64 0, .slice A n c] := ((Blk.new _ _ _).alloc _).alloc _
  have qZ : Blk (((w.alloc (.cells #[.int .i64 cap, .int .i64 head, .int .i64 0, .slice A n c] 24)).alloc (.cells #[.int .i64 0, .int .i64 0, .int .i64 0, .slice none 0 0] 24)).alloc (.cells #[.int .i64 0, .int .i64 0] 33)) (w.heap.size + 1) 24 #[.int .i64 0, .int .i64 0, .int .i64 0, .slice none 0 0] := (Blk.new_at (by simp) _ _).alloc _
  have qY : Blk (((w.alloc (.cells #[.int .i64 cap, .int .i64 head, .int .i64 0, .slice A n c] 24)).alloc (.cells #[.int .i64 0, .int .i64 0, .int .i64 0, .slice none 0 0] 24)).alloc (.cells #[.int .i64 0, .int .i64 0] 33)) (w.heap.size + 1 + 1) 33 #[.int .i64 0, .int .i64 0] := Blk.new_at (by simp) _ _
  have qB : Below w.heap.size w (((w.alloc (.cells #[.int .i64 cap, .int .i64 head, .int .i64 0, .slice A n c] 24)).alloc (.cells #[.int .i64 0, .int .i64 0, .int .i64 0, .slice none 0 0] 24)).alloc (.cells #[.int .i64 0, .int .i64 0] 33)) := Bl.alloc' (Bl.alloc' (Bl.alloc' (Below.refl _ _) _) _) _
  have z1 : (((w.alloc (.cells #[.int .i64 cap, .int .i64 head, .int .i64 0, .slice A n c] 24)).alloc (.cells #[.int .i64 0, .int .i64 0, .int .i64 0, .slice none 0 0] 24)).alloc (.cells #[.int .i64 0, .int .i64 0] 33)).heap.size = w.heap.size + 3 := by simp
  generalize (((w.alloc (.cells #[.int .i64 cap, .int .i64 head, .int .i64 0, .slice A n c] 24)).alloc (.cells #[.int .i64 0, .int .i64 0, .int .i64 0, .slice none 0 0] 24)).alloc (.cells #[.int .i64 0, .int .i64 0] 33)) = w1 at *
  have zi1 : w1.heap.size ≤ w.heap.size + 3 ∧ w.heap.size + 3 ≤ w1.heap.size := by omega
  clear z1
  have R1 := hide qR
  have Z1 := hide qZ
  have Y1 := hide qY
  have B1 := hide qB
  clear qR qZ qY qB
  obtain ⟨p0, p1, p2, p3, p4, p5, p6, p7⟩ := R1.out.four
  go_wp2_with (fail)
  refine (C13.out _ B1.out).mono ?_
  rintro e w2 ⟨rfl, hb⟩
  have zs2 := hb.size
  clear p0 p1 p2 p3 p4 p5 p6 p7
  have qR : Blk w2 (w.heap.size) 24 #[.int .i64 cap, .int .i64 head, .int .i64 0, .slice A n c] := R1.out.below hb R1.out.lt
  have qZ : Blk w2 (w.heap.size + 1) 24 #[.int .i64 0, .int .i64 0, .int .i64 0, .slice none 0 0] := Z1.out.below hb Z1.out.lt
  have qY : Blk w2 (w.heap.size + 1 + 1) 33 #[.int .i64 0, .int .i64 0] := Y1.out.below hb Y1.out.lt
  have qB : Below w.heap.size w w2 := Bl.call' B1.out hb
  clear R1 Z1 Y1 B1
  have R2 := hide qR
  have Z2 := hide qZ
  have Y2 := hide qY
  have B2 := hide qB
  clear qR qZ qY qB
  clear hb
  obtain ⟨p0, p1, p2, p3, p4, p5, p6, p7⟩ := R2.out.four
  obtain ⟨g0, g1, g2, g3, g4, g5, g6, g7⟩ := Z2.out.four
  obtain ⟨u0, u1, u2, u3⟩ := Y2.out.two
  go_wp2
  refine bodyPost_ret (res3 rfl _ rfl ((Z2.out.store4 _ _ _ _).far2 (by omega) _ _ _ _) rfl ((Y2.out.far4 (by omega) _ _ _ _).store2 _ _)) rfl ?_
  exact ⟨rfl, below_far2 (below_far4 B2.out (by omega) _ _ _ _) (by omega) _ _ _ _⟩
set_option maxRecDepth 100000 in
theorem popback_bad (cap head len : Int) (A : Option Addr) (n c B : Nat) (l : List (Int × Int)) (w : World) (h : Sl2 w B A n l) (hB : B ≤ w.heap.size) (hv : ¬ VOk cap head len l) :
    Calls Try.prog 26 #[ringV cap head len A n c] w (PopErr 2 w) := by
  have C13 := hide (fun w1 (hb : Below w.heap.size w w1) => validate_any cap head len A n c w.heap.size l w1 ((h.more hB).below hb) hb.size)
  unfold VEnd at C13
  rw [vV_no hv] at C13
  clear h hv
  unfold ringV at C13
  unfold ringV
  go_enter Try.func26, Try.ntmps26
  go_upto_region 1 with (fail)
  have qR : Blk (((w.alloc (.cells #[.int .i64 cap, .int .i64 head, .int .i64 len, .slice A n c] 24)).alloc (.cells #[.int .i64 0, .int .i64 0, .int .i64 0, .slice none 0 0] 24)).alloc (.cells #[.int .i64 0, .int .i64 0] 33)) (w.heap.size) 24 #[.int .i64 cap, .int .i64 head, .int .i64 len, .slice A n c] := ((Blk.new _ _ _).alloc _).alloc _
  have qZ : Blk (((w.alloc (.cells #[.int .i64 cap, .int .i64 head, .int .i64 len, .slice A n c] 24)).alloc (.cells #[.int .i64 0, .int .i64 0, .int .i64 0, .slice none 0 0] 24)).alloc (.cells #[.int .i64 0, .int .i64 0] 33)) (w.heap.size + 1) 24 #[.int .i64 0, .int .i64 0, .int .i64 0, .slice none 0 0] := (Blk.new_at (by simp) _ _).alloc _
  have qY : Blk (((w.alloc (.cells #[.int .i64 cap, .int .i64 head, .int .i64 len, .slice A n c] 24)).alloc (.cells #[.int .i64 0, .int .i64 0, .int .i64 0, .slice none 0 0] 24)).alloc (.cells #[.int .i64 0, .int .i64 0] 33)) (w.heap.size + 1 + 1) 33 #[.int .i64 0, .int .i64 0] := Blk.new_at (by simp) _ _
  have qB : Below w.heap.size w (((w.alloc (.cells #[.int .i64 cap, .int .i64 head, .int .i64 len, .slice A n c] 24)).alloc (.cells #[.int .i64 0, .int .i64 0, .int .i64 0, .slice none 0 0] 24)).alloc (.cells #[.int .i64 0, .int .i64 0] 33)) := Bl.alloc' (Bl.alloc' (Bl.alloc' (Below.refl _ _) _) _) _
  have z1 : (((w.alloc (.cells #[.int .i64 cap, .int .i64 head, .int .i64 len, .slice A n c] 24)).alloc (.cells #[.int .i64 0, .int .i64 0, .int .i64 0, .slice none 0 0] 24)).alloc (.cells #[.int .i64 0, .int .i64 0] 33)).heap.size = w.heap.size + 3 := by simp
  generalize (((w.alloc (.cells #[.int .i64 cap, .int .i64 head, .int .i64 len, .slice A n c] 24)).alloc (.cells #[.int .i64 0, .int .i64 0, .int .i64 0, .slice none 0 0] 24)).alloc (.cells #[.int .i64 0, .int .i64 0] 33)) = w1 at *
  have zi1 : w1.heap.size ≤ w.heap.size + 3 ∧ w.heap.size + 3 ≤ w1.heap.size := by omega
  clear z1
  have R1 := hide qR
  have Z1 := hide qZ
  have Y1 := hide qY
  have B1 := hide qB
  clear qR qZ qY qB
  obtain ⟨p0, p1, p2, p3, p4, p5, p6, p7⟩ := R1.out.four
  go_wp2_with (fail)
  refine (C13.out _ B1.out).mono ?_
  rintro e w2 ⟨rfl, hb⟩
  have zs2 := hb.size
  clear p0 p1 p2 p3 p4 p5 p6 p7
  have qR : Blk w2 (w.heap.size) 24 #[.int .i64 cap, .int .i64 head, .int .i64 len, .slice A n c] := R1.out.below hb R1.out.lt
  have qZ : Blk w2 (w.heap.size + 1) 24 #[.int .i64 0, .int .i64 0, .int .i64 0, .slice none 0 0] := Z1.out.below hb Z1.out.lt
  have qY : Blk w2 (w.heap.size + 1 + 1) 33 #[.int .i64 0, .int .i64 0] := Y1.out.below hb Y1.out.lt
  have qB : Below w.heap.size w w2 := Bl.call' B1.out hb
  clear R1 Z1 Y1 B1
  have R2 := hide qR
  have Z2 := hide qZ
  have Y2 := hide qY
  have B2 := hide qB
  clear qR qZ qY qB
  clear hb
  obtain ⟨p0, p1, p2, p3, p4, p5, p6, p7⟩ := R2.out.four
  obtain ⟨g0, g1, g2, g3, g4, g5, g6, g7⟩ := Z2.out.four
  obtain ⟨u0, u1, u2, u3⟩ := Y2.out.two
  go_wp2
  refine bodyPost_ret (res3 rfl _ rfl ((Z2.out.store4 _ _ _ _).far2 (by omega) _ _ _ _) rfl ((Y2.out.far4 (by omega) _ _ _ _).store2 _ _)) rfl ?_
  exact ⟨rfl, below_far2 (below_far4 B2.out (by omega) _ _ _ _) (by omega) _ _ _ _⟩
set_option maxRecDepth 100000 in
theorem popback_empty (cap head : Int) (A : Option Addr) (n c B : Nat) (l : List (Int × Int)) (w : World) (h : Sl2 w B A n l) (hB : B ≤ w.heap.size) (hv : VOk cap head 0 l) :
    Calls Try.prog 26 #[ringV cap head 0 A n c] w (PopErr 7 w) := by
  have C13 := hide (fun w1 (hb : Below w.heap.size w w1) => validate_any cap head 0 A n c w.heap.size l w1 ((h.more hB).below hb) hb.size)
  unfold VEnd at C13
  rw [vV_yes hv] at C13
  clear h hv
  unfold ringV at C13
  unfold ringV
  go_enter Try.func26, Try.ntmps26
  go_upto_region 1 with (fail)
  have qR : Blk (((w.alloc (.cells #[.int .i64 cap, .int .i64 head, .int .i64 0, .slice A n c] 24)).alloc (.cells #[.int .i64 0, .int .i64 0, .int .i64 0, .slice none 0 0] 24)).alloc (.cells #[.int .i64 0, .int .i64 0] 33)) (w.heap.size) 24 #[.int .i64 cap, .int .i64 head, .int .i64 0, .slice A n c] := ((Blk.new _ _ _).alloc _).alloc _
  have qZ : Blk (((w.alloc (.cells #[.int .i64 cap, .int .i64 head, .int .i64 0, .slice A n c] 24)).alloc (.cells #[.int .i64 0, .int .i64 0, .int .i64 0, .slice none 0 0] 24)).alloc (.cells #[.int .i64 0, .int .i64 0] 33)) (w.heap.size + 1) 24 #[.int .i64 0, .int .i64 0, .int .i64 0, .slice none 0 0] := (Blk.new_at (by simp) _ _).alloc _
  have qY : Blk (((w.alloc (.cells #[.int .i64 cap, .int .i64 head, .int .i64 0, .slice A n c] 24)).alloc (.cells #[.int .i64 0, .int .i64 0, .int .i64 0, .slice none 0 0] 24)).alloc (.cells #[.int .i64 0, .int .i64 0] 33)) (w.heap.size + 1 + 1) 33 #[.int .i64 0, .int .i64 0] := Blk.new_at (by simp) _ _
  have qB : Below w.heap.size w (((w.alloc (.cells #[.int .i64 cap, .int .i64 head, .int .i64 0, .slice A n c] 24)).alloc (.cells #[.int .i64 0, .int .i64 0, .int .i64 0, .slice none 0 0] 24)).alloc (.cells #[.int .i64 0, .int .i64 0] 33)) := Bl.alloc' (Bl.alloc' (Bl.alloc' (Below.refl _ _) _) _) _
  have z1 : (((w.alloc (.cells #[.int .i64 cap, .int .i64 head, .int .i64 0, .slice A n c] 24)).alloc (.cells #[.int .i64 0, .int .i64 0, .int .i64 0, .slice none 0 0] 24)).alloc (.cells #[.int .i64 0, .int .i64 0] 33)).heap.size = w.heap.size + 3 := by simp
  generalize (((w.alloc (.cells #[.int .i64 cap, .int .i64 head, .int .i64 0, .slice A n c] 24)).alloc (.cells #[.int .i64 0, .int .i64 0, .int .i64 0, .slice none 0 0] 24)).alloc (.cells #[.int .i64 0, .int .i64 0] 33)) = w1 at *
  have zi1 : w1.heap.size ≤ w.heap.size + 3 ∧ w.heap.size + 3 ≤ w1.heap.size := by omega
  clear z1
  have R1 := hide qR
  have Z1 := hide qZ
  have Y1 := hide qY
  have B1 := hide qB
  clear qR qZ qY qB
  obtain ⟨p0, p1, p2, p3, p4, p5, p6, p7⟩ := R1.out.four
  go_wp2_with (fail)
  refine (C13.out _ B1.out).mono ?_
  rintro e w2 ⟨rfl, hb⟩
  have zs2 := hb.size
  clear p0 p1 p2 p3 p4 p5 p6 p7
  have qR : Blk w2 (w.heap.size) 24 #[.int .i64 cap, .int .i64 head, .int .i64 0, .slice A n c] := R1.out.below hb R1.out.lt
  have qZ : Blk w2 (w.heap.size + 1) 24 #[.int .i64 0, .int .i64 0, .int .i64 0, .slice none 0 0] := Z1.out.below hb Z1.out.lt
  have qY : Blk w2 (w.heap.size + 1 + 1) 33 #[.int .i64 0, .int .i64 0] := Y1.out.below hb Y1.out.lt
  have qB : Below w.heap.size w w2 := Bl.call' B1.out hb
  clear R1 Z1 Y1 B1
  have R2 := hide qR
  have Z2 := hide qZ
  have Y2 := hide qY
  have B2 := hide qB
  clear qR qZ qY qB
  clear hb
  obtain ⟨p0, p1, p2, p3, p4, p5, p6, p7⟩ := R2.out.four
  obtain ⟨g0, g1, g2, g3, g4, g5, g6, g7⟩ := Z2.out.four
  obtain ⟨u0, u1, u2, u3⟩ := Y2.out.two
  go_wp2
  refine bodyPost_ret (res3 rfl _ rfl ((Z2.out.store4 _ _ _ _).far2 (by omega) _ _ _ _) rfl ((Y2.out.far4 (by omega) _ _ _ _).store2 _ _)) rfl ?_
  exact ⟨rfl, below_far2 (below_far4 B2.out (by omega) _ _ _ _) (by omega) _ _ _ _⟩
end Go.Proofs.Ytjbfefkbpnickaa
