/- Elements moved from the front to the back: the contract. -/
import Derived.Test.YtjbfefkbpnickaaRotL
import Derived.Test.YtjbfefkbpnickaaHeld
import Derived.Test.YtjbfefkbpnickaaPushF
namespace Go.Proofs.Ytjbfefkbpnickaa
open Go.RowKit
set_option linter.unusedVariables false
theorem rot_next {C H m : Nat} : ((H + 1) % C + m) % C = (H + (m + 1)) % C := by rw [Nat.mod_add_mod, Nat.add_assoc, Nat.add_comm 1 m]
theorem rot_nextI {C H : Nat} : ((H : Int) + 1) % C = (((H + 1) % C : Nat) : Int) := by simp
theorem rot_wrap (K : Nat) (h : K ≤ 65536) : IntKind.i64.wrap (K : Int) = K := by rw [IntKind.wrap_i64]; omega
set_option maxRecDepth 100000 in
theorem rot_bad (cap head len : Int) (A : Option Addr) (n c B : Nat) (l : List (Int × Int)) (D : Int) (w : World) (h : Sl2 w B A n l) (hB : B ≤ w.heap.size) (hv : ¬ VOk cap head len l) :
    Calls Try.prog 20 #[ringV cap head len A n c, .int .i64 D] w (ErrEnd 2 w) := by
  have C13 := hide (fun w1 (hb : Below w.heap.size w w1) => validate_any cap head len A n c w.heap.size l w1 ((h.more hB).below hb) hb.size)
  unfold VEnd at C13
  rw [vV_no hv] at C13
  clear h hv
  unfold ringV at C13
  unfold ringV
  go_enter Try.func20, Try.ntmps20
  go_upto_region 1 with (fail)
  have qR : Blk ((w.alloc (.cells #[.int .i64 cap, .int .i64 head, .int .i64 len, .slice A n c] 24)).alloc (.cells #[.int .i64 0, .int .i64 0, .int .i64 0, .slice none 0 0] 24)) (w.heap.size) 24 #[.int .i64 cap, .int .i64 head, .int .i64 len, .slice A n c] := (Blk.new _ _ _).alloc _
  have qZ : Blk ((w.alloc (.cells #[.int .i64 cap, .int .i64 head, .int .i64 len, .slice A n c] 24)).alloc (.cells #[.int .i64 0, .int .i64 0, .int .i64 0, .slice none 0 0] 24)) (w.heap.size + 1) 24 #[.int .i64 0, .int .i64 0, .int .i64 0, .slice none 0 0] := Blk.new_at (by simp) _ _
  have qB : Below w.heap.size w ((w.alloc (.cells #[.int .i64 cap, .int .i64 head, .int .i64 len, .slice A n c] 24)).alloc (.cells #[.int .i64 0, .int .i64 0, .int .i64 0, .slice none 0 0] 24)) := Bl.alloc' (Bl.alloc' (Below.refl _ _) _) _
  have z1 : ((w.alloc (.cells #[.int .i64 cap, .int .i64 head, .int .i64 len, .slice A n c] 24)).alloc (.cells #[.int .i64 0, .int .i64 0, .int .i64 0, .slice none 0 0] 24)).heap.size = w.heap.size + 2 := by simp
  generalize ((w.alloc (.cells #[.int .i64 cap, .int .i64 head, .int .i64 len, .slice A n c] 24)).alloc (.cells #[.int .i64 0, .int .i64 0, .int .i64 0, .slice none 0 0] 24)) = w1 at *
  have zi1 : w1.heap.size ≤ w.heap.size + 2 ∧ w.heap.size + 2 ≤ w1.heap.size := by omega
  clear z1
  have R1 := hide qR
  have Z1 := hide qZ
  have B1 := hide qB
  clear qR qZ qB
  obtain ⟨p0, p1, p2, p3, p4, p5, p6, p7⟩ := R1.out.four
  go_wp2_with (fail)
  refine (C13.out _ B1.out).mono ?_
  rintro e w2 ⟨rfl, hb⟩
  have zs2 := hb.size
  clear p0 p1 p2 p3 p4 p5 p6 p7
  have qR : Blk w2 (w.heap.size) 24 #[.int .i64 cap, .int .i64 head, .int .i64 len, .slice A n c] := R1.out.below hb R1.out.lt
  have qZ : Blk w2 (w.heap.size + 1) 24 #[.int .i64 0, .int .i64 0, .int .i64 0, .slice none 0 0] := Z1.out.below hb Z1.out.lt
  have qB : Below w.heap.size w w2 := Bl.call' B1.out hb
  clear R1 Z1 B1
  have R2 := hide qR
  have Z2 := hide qZ
  have B2 := hide qB
  clear qR qZ qB
  clear hb
  obtain ⟨p0, p1, p2, p3, p4, p5, p6, p7⟩ := R2.out.four
  obtain ⟨u0, u1, u2, u3, u4, u5, u6, u7⟩ := Z2.out.four
  go_wp2
  refine bodyPost_ret (res2 rfl _ rfl (Z2.out.store4 _ _ _ _)) rfl ?_
  exact ⟨rfl, below_far4 B2.out (by omega) _ _ _ _⟩
set_option maxRecDepth 100000 in
theorem rot_neg (cap head len : Int) (A : Option Addr) (n c B : Nat) (l : List (Int × Int)) (D : Int) (w : World) (h : Sl2 w B A n l) (hB : B ≤ w.heap.size) (hv : VOk cap head len l) (hD : D < 0) :
    Calls Try.prog 20 #[ringV cap head len A n c, .int .i64 D] w (ErrEnd 1 w) := by
  have C13 := hide (fun w1 (hb : Below w.heap.size w w1) => validate_any cap head len A n c w.heap.size l w1 ((h.more hB).below hb) hb.size)
  unfold VEnd at C13
  rw [vV_yes hv] at C13
  have hd : decide (D < 0) = true := by simpa using hD
  clear h hv
  unfold ringV at C13
  unfold ringV
  go_enter Try.func20, Try.ntmps20
  go_upto_region 1 with (fail)
  have qR : Blk ((w.alloc (.cells #[.int .i64 cap, .int .i64 head, .int .i64 len, .slice A n c] 24)).alloc (.cells #[.int .i64 0, .int .i64 0, .int .i64 0, .slice none 0 0] 24)) (w.heap.size) 24 #[.int .i64 cap, .int .i64 head, .int .i64 len, .slice A n c] := (Blk.new _ _ _).alloc _
  have qZ : Blk ((w.alloc (.cells #[.int .i64 cap, .int .i64 head, .int .i64 len, .slice A n c] 24)).alloc (.cells #[.int .i64 0, .int .i64 0, .int .i64 0, .slice none 0 0] 24)) (w.heap.size + 1) 24 #[.int .i64 0, .int .i64 0, .int .i64 0, .slice none 0 0] := Blk.new_at (by simp) _ _
  have qB : Below w.heap.size w ((w.alloc (.cells #[.int .i64 cap, .int .i64 head, .int .i64 len, .slice A n c] 24)).alloc (.cells #[.int .i64 0, .int .i64 0, .int .i64 0, .slice none 0 0] 24)) := Bl.alloc' (Bl.alloc' (Below.refl _ _) _) _
  have z1 : ((w.alloc (.cells #[.int .i64 cap, .int .i64 head, .int .i64 len, .slice A n c] 24)).alloc (.cells #[.int .i64 0, .int .i64 0, .int .i64 0, .slice none 0 0] 24)).heap.size = w.heap.size + 2 := by simp
  generalize ((w.alloc (.cells #[.int .i64 cap, .int .i64 head, .int .i64 len, .slice A n c] 24)).alloc (.cells #[.int .i64 0, .int .i64 0, .int .i64 0, .slice none 0 0] 24)) = w1 at *
  have zi1 : w1.heap.size ≤ w.heap.size + 2 ∧ w.heap.size + 2 ≤ w1.heap.size := by omega
  clear z1
  have R1 := hide qR
  have Z1 := hide qZ
  have B1 := hide qB
  clear qR qZ qB
  obtain ⟨p0, p1, p2, p3, p4, p5, p6, p7⟩ := R1.out.four
  go_wp2_with (fail)
  refine (C13.out _ B1.out).mono ?_
  rintro e w2 ⟨rfl, hb⟩
  have zs2 := hb.size
  clear p0 p1 p2 p3 p4 p5 p6 p7
  have qR : Blk w2 (w.heap.size) 24 #[.int .i64 cap, .int .i64 head, .int .i64 len, .slice A n c] := R1.out.below hb R1.out.lt
  have qZ : Blk w2 (w.heap.size + 1) 24 #[.int .i64 0, .int .i64 0, .int .i64 0, .slice none 0 0] := Z1.out.below hb Z1.out.lt
  have qB : Below w.heap.size w w2 := Bl.call' B1.out hb
  clear R1 Z1 B1
  have R2 := hide qR
  have Z2 := hide qZ
  have B2 := hide qB
  clear qR qZ qB
  clear hb
  obtain ⟨p0, p1, p2, p3, p4, p5, p6, p7⟩ := R2.out.four
  obtain ⟨u0, u1, u2, u3, u4, u5, u6, u7⟩ := Z2.out.four
  go_wp2
  refine bodyPost_ret (res2 rfl _ rfl (Z2.out.store4 _ _ _ _)) rfl ?_
  exact ⟨rfl, below_far4 B2.out (by omega) _ _ _ _⟩
set_option maxRecDepth 100000 in
theorem rot_max (cap head len : Int) (A : Option Addr) (n c B : Nat) (l : List (Int × Int)) (D : Int) (w : World) (h : Sl2 w B A n l) (hB : B ≤ w.heap.size) (hv : VOk cap head len l) (hD : 65536 < D) :
    Calls Try.prog 20 #[ringV cap head len A n c, .int .i64 D] w (ErrEnd 1 w) := by
  have C13 := hide (fun w1 (hb : Below w.heap.size w w1) => validate_any cap head len A n c w.heap.size l w1 ((h.more hB).below hb) hb.size)
  unfold VEnd at C13
  rw [vV_yes hv] at C13
  have hd : decide (D < 0) = false := by simp; omega
  have hd1 : decide (65536 < D) = true := by simpa using hD
  clear h hv
  unfold ringV at C13
  unfold ringV
  go_enter Try.func20, Try.ntmps20
  go_upto_region 1 with (fail)
  have qR : Blk ((w.alloc (.cells #[.int .i64 cap, .int .i64 head, .int .i64 len, .slice A n c] 24)).alloc (.cells #[.int .i64 0, .int .i64 0, .int .i64 0, .slice none 0 0] 24)) (w.heap.size) 24 #[.int .i64 cap, .int .i64 head, .int .i64 len, .slice A n c] := (Blk.new _ _ _).alloc _
  have qZ : Blk ((w.alloc (.cells #[.int .i64 cap, .int .i64 head, .int .i64 len, .slice A n c] 24)).alloc (.cells #[.int .i64 0, .int .i64 0, .int .i64 0, .slice none 0 0] 24)) (w.heap.size + 1) 24 #[.int .i64 0, .int .i64 0, .int .i64 0, .slice none 0 0] := Blk.new_at (by simp) _ _
  have qB : Below w.heap.size w ((w.alloc (.cells #[.int .i64 cap, .int .i64 head, .int .i64 len, .slice A n c] 24)).alloc (.cells #[.int .i64 0, .int .i64 0, .int .i64 0, .slice none 0 0] 24)) := Bl.alloc' (Bl.alloc' (Below.refl _ _) _) _
  have z1 : ((w.alloc (.cells #[.int .i64 cap, .int .i64 head, .int .i64 len, .slice A n c] 24)).alloc (.cells #[.int .i64 0, .int .i64 0, .int .i64 0, .slice none 0 0] 24)).heap.size = w.heap.size + 2 := by simp
  generalize ((w.alloc (.cells #[.int .i64 cap, .int .i64 head, .int .i64 len, .slice A n c] 24)).alloc (.cells #[.int .i64 0, .int .i64 0, .int .i64 0, .slice none 0 0] 24)) = w1 at *
  have zi1 : w1.heap.size ≤ w.heap.size + 2 ∧ w.heap.size + 2 ≤ w1.heap.size := by omega
  clear z1
  have R1 := hide qR
  have Z1 := hide qZ
  have B1 := hide qB
  clear qR qZ qB
  obtain ⟨p0, p1, p2, p3, p4, p5, p6, p7⟩ := R1.out.four
  go_wp2_with (fail)
  refine (C13.out _ B1.out).mono ?_
  rintro e w2 ⟨rfl, hb⟩
  have zs2 := hb.size
  clear p0 p1 p2 p3 p4 p5 p6 p7
  have qR : Blk w2 (w.heap.size) 24 #[.int .i64 cap, .int .i64 head, .int .i64 len, .slice A n c] := R1.out.below hb R1.out.lt
  have qZ : Blk w2 (w.heap.size + 1) 24 #[.int .i64 0, .int .i64 0, .int .i64 0, .slice none 0 0] := Z1.out.below hb Z1.out.lt
  have qB : Below w.heap.size w w2 := Bl.call' B1.out hb
  clear R1 Z1 B1
  have R2 := hide qR
  have Z2 := hide qZ
  have B2 := hide qB
  clear qR qZ qB
  clear hb
  obtain ⟨p0, p1, p2, p3, p4, p5, p6, p7⟩ := R2.out.four
  obtain ⟨u0, u1, u2, u3, u4, u5, u6, u7⟩ := Z2.out.four
  go_wp2
  refine bodyPost_ret (res2 rfl _ rfl (Z2.out.store4 _ _ _ _)) rfl ?_
  exact ⟨rfl, below_far4 B2.out (by omega) _ _ _ _⟩
set_option maxRecDepth 100000 in
set_option maxHeartbeats 2000000 in
theorem rot_empty (C H n : Nat) (A : Option Addr) (c B : Nat) (w : World) (h : Sl2 w B A C (cellsL C H [])) (hB : B ≤ w.heap.size) (hr : Rg C H 0 (cellsL C H []) C H []) (hn : n ≤ 65536)  :
    Calls Try.prog 20 #[ringV C H 0 A C c, .int .i64 n] w (PushEnd C H [] w) := by
  have C13 := hide (fun w1 (hb : Below w.heap.size w w1) => validate_any C H 0 A C c w.heap.size (cellsL C H []) w1 ((h.more hB).below hb) hb.size)
  have C30 := hide (fun w1 (hb : Below w.heap.size w w1) => copied_any C H 0 A C c w.heap.size (cellsL C H []) w1 ((h.more hB).below hb) hb.size (by have := hr.max; omega))
  unfold VEnd at C13
  rw [vV_yes hr.ok] at C13
  have hC1 := hr.one
  have hC2 := hr.max
  have hH := hr.hd
  clear hr h
  unfold ringV at C13 C30
  unfold ringV
  have hd : decide ((n : Int) < 0) = false := by simp
  have hd1 : decide ((65536 : Int) < n) = false := by simp; omega
  go_enter Try.func20, Try.ntmps20
  go_upto_region 1 with (fail)
  have qR : Blk ((w.alloc (.cells #[.int .i64 C, .int .i64 H, .int .i64 0, .slice A C c] 24)).alloc (.cells #[.int .i64 0, .int .i64 0, .int .i64 0, .slice none 0 0] 24)) (w.heap.size) 24 #[.int .i64 C, .int .i64 H, .int .i64 0, .slice A C c] := (Blk.new _ _ _).alloc _
  have qZ : Blk ((w.alloc (.cells #[.int .i64 C, .int .i64 H, .int .i64 0, .slice A C c] 24)).alloc (.cells #[.int .i64 0, .int .i64 0, .int .i64 0, .slice none 0 0] 24)) (w.heap.size + 1) 24 #[.int .i64 0, .int .i64 0, .int .i64 0, .slice none 0 0] := Blk.new_at (by simp) _ _
  have qB : Below w.heap.size w ((w.alloc (.cells #[.int .i64 C, .int .i64 H, .int .i64 0, .slice A C c] 24)).alloc (.cells #[.int .i64 0, .int .i64 0, .int .i64 0, .slice none 0 0] 24)) := Bl.alloc' (Bl.alloc' (Below.refl _ _) _) _
  have z1 : ((w.alloc (.cells #[.int .i64 C, .int .i64 H, .int .i64 0, .slice A C c] 24)).alloc (.cells #[.int .i64 0, .int .i64 0, .int .i64 0, .slice none 0 0] 24)).heap.size = w.heap.size + 2 := by simp
  generalize ((w.alloc (.cells #[.int .i64 C, .int .i64 H, .int .i64 0, .slice A C c] 24)).alloc (.cells #[.int .i64 0, .int .i64 0, .int .i64 0, .slice none 0 0] 24)) = w1 at *
  have zi1 : w1.heap.size ≤ w.heap.size + 2 ∧ w.heap.size + 2 ≤ w1.heap.size := by omega
  clear z1
  have R1 := hide qR
  have Z1 := hide qZ
  have B1 := hide qB
  clear qR qZ qB
  obtain ⟨p0, p1, p2, p3, p4, p5, p6, p7⟩ := R1.out.four
  go_wp2_with (fail)
  refine (C13.out _ B1.out).mono ?_
  rintro e w2 ⟨rfl, hb⟩
  have zs2 := hb.size
  clear p0 p1 p2 p3 p4 p5 p6 p7
  have qR : Blk w2 (w.heap.size) 24 #[.int .i64 C, .int .i64 H, .int .i64 0, .slice A C c] := R1.out.below hb R1.out.lt
  have qZ : Blk w2 (w.heap.size + 1) 24 #[.int .i64 0, .int .i64 0, .int .i64 0, .slice none 0 0] := Z1.out.below hb Z1.out.lt
  have qB : Below w.heap.size w w2 := Bl.call' B1.out hb
  clear R1 Z1 B1
  have R2 := hide qR
  have Z2 := hide qZ
  have B2 := hide qB
  clear qR qZ qB
  clear hb
  obtain ⟨p0, p1, p2, p3, p4, p5, p6, p7⟩ := R2.out.four
  go_wp2_with (fail)
  refine (C30.out _ B2.out).mono ?_
  rintro e w3 ⟨A2, c2, rfl, hown, hb⟩
  obtain ⟨g, cap', hv2, hg1, hg2, hg3, hg4⟩ := own_form2 hown (by omega)
  obtain ⟨rfl, rfl⟩ : A2 = some ⟨g, 0, none⟩ ∧ c2 = cap' := by simpa using hv2
  clear hv2
  have zs3 := hb.size
  clear p0 p1 p2 p3 p4 p5 p6 p7
  have qR : Blk w3 (w.heap.size) 24 #[.int .i64 C, .int .i64 H, .int .i64 0, .slice A C c] := R2.out.below hb R2.out.lt
  have qZ : Blk w3 (w.heap.size + 1) 24 #[.int .i64 0, .int .i64 0, .int .i64 0, .slice none 0 0] := Z2.out.below hb Z2.out.lt
  have qB : Below w.heap.size w w3 := Bl.call' B2.out hb
  have qO : World.ownsRow w3 (w2.heap.size) 33 2 (.slice (some ⟨g, 0, none⟩) C c2) (C) (flat (cellsL C H [])) := hown
  clear R2 Z2 B2
  have R3 := hide qR
  have Z3 := hide qZ
  have B3 := hide qB
  have O3 := hide qO
  clear qR qZ qB qO
  clear hb
  clear hown
  obtain ⟨p0, p1, p2, p3, p4, p5, p6, p7⟩ := R3.out.four
  go_wp2_with (fail)
  clear p0 p1 p2 p3 p4 p5 p6 p7
  have qR : Blk (((((w3.setCell ⟨w.heap.size, 0, none⟩ (.int .i64 C)).setCell ⟨w.heap.size, 1, none⟩ (.int .i64 H)).setCell ⟨w.heap.size, 2, none⟩ (.int .i64 0)).setCell ⟨w.heap.size, 3, none⟩ (.slice (some ⟨g, 0, none⟩) C c2))) (w.heap.size) 24 #[.int .i64 C, .int .i64 H, .int .i64 0, .slice (some ⟨g, 0, none⟩) C c2] := R3.out.store4 _ _ _ _
  have qZ : Blk (((((w3.setCell ⟨w.heap.size, 0, none⟩ (.int .i64 C)).setCell ⟨w.heap.size, 1, none⟩ (.int .i64 H)).setCell ⟨w.heap.size, 2, none⟩ (.int .i64 0)).setCell ⟨w.heap.size, 3, none⟩ (.slice (some ⟨g, 0, none⟩) C c2))) (w.heap.size + 1) 24 #[.int .i64 0, .int .i64 0, .int .i64 0, .slice none 0 0] := Z3.out.far4 (by omega) _ _ _ _
  have qB : Below w.heap.size w (((((w3.setCell ⟨w.heap.size, 0, none⟩ (.int .i64 C)).setCell ⟨w.heap.size, 1, none⟩ (.int .i64 H)).setCell ⟨w.heap.size, 2, none⟩ (.int .i64 0)).setCell ⟨w.heap.size, 3, none⟩ (.slice (some ⟨g, 0, none⟩) C c2))) := Bl.set4 B3.out (by omega) _ _ _ _
  have qO : World.ownsRow (((((w3.setCell ⟨w.heap.size, 0, none⟩ (.int .i64 C)).setCell ⟨w.heap.size, 1, none⟩ (.int .i64 H)).setCell ⟨w.heap.size, 2, none⟩ (.int .i64 0)).setCell ⟨w.heap.size, 3, none⟩ (.slice (some ⟨g, 0, none⟩) C c2))) (w2.heap.size) 33 2 (.slice (some ⟨g, 0, none⟩) C c2) (C) (flat (cellsL C H [])) := own_far4 O3.out (by omega) _ _ _ _
  have z4 : (((((w3.setCell ⟨w.heap.size, 0, none⟩ (.int .i64 C)).setCell ⟨w.heap.size, 1, none⟩ (.int .i64 H)).setCell ⟨w.heap.size, 2, none⟩ (.int .i64 0)).setCell ⟨w.heap.size, 3, none⟩ (.slice (some ⟨g, 0, none⟩) C c2))).heap.size = w3.heap.size := by simp
  clear R3 Z3 B3 O3
  generalize (((((w3.setCell ⟨w.heap.size, 0, none⟩ (.int .i64 C)).setCell ⟨w.heap.size, 1, none⟩ (.int .i64 H)).setCell ⟨w.heap.size, 2, none⟩ (.int .i64 0)).setCell ⟨w.heap.size, 3, none⟩ (.slice (some ⟨g, 0, none⟩) C c2))) = w4 at *
  have R4 := hide qR
  have Z4 := hide qZ
  have B4 := hide qB
  have O4 := hide qO
  clear qR qZ qB qO
  have zi4 : w4.heap.size ≤ w3.heap.size ∧ w3.heap.size ≤ w4.heap.size := by omega
  clear z4
  go_loopw [1] (fun n' wr => ∃ m : Nat, n' = .int .i64 m ∧ wr = w4) (fun n' _ => (intOf n').toNat)
  case atStart => exact ⟨n, rfl, rfl⟩
  case round =>
    obtain ⟨m, rfl, rfl⟩ := hrel
    obtain ⟨p0, p1, p2, p3, p4, p5, p6, p7⟩ := R4.out.four
    obtain ⟨u0, u1, u2, u3, u4, u5, u6, u7⟩ := Z4.out.four
    have h00 : decide ((0 : Int) < 0) = false := by simp
    rcases Nat.eq_zero_or_pos m with h0 | h0
    · subst h0
      go_wp2
      refine bodyPost_ret (res2 rfl _ rfl (Z4.out.store4 _ _ _ _)) rfl ?_
      exact ⟨_, c2, rfl, own_more (own_far4 O4.out (by omega) _ _ _ _) (by omega), below_far4 B4.out (by omega) _ _ _ _⟩
    · have h01 : decide ((0 : Int) < m) = true := by simpa using h0
      go_wp2
      refine bodyPost_ret (res2 rfl _ rfl (Z4.out.store4 _ _ _ _)) rfl ?_
      exact ⟨_, c2, rfl, own_more (own_far4 O4.out (by omega) _ _ _ _) (by omega), below_far4 B4.out (by omega) _ _ _ _⟩
set_option maxRecDepth 100000 in
set_option maxHeartbeats 2000000 in
theorem rot_ok (C H n : Nat) (K : Nat) (xs : List (Int × Int)) (A : Option Addr) (c B : Nat) (w : World) (h : Sl2 w B A C (cellsL C H xs)) (hB : B ≤ w.heap.size) (hr : Rg C H ((K : Int) + 1) (cellsL C H xs) C H xs) (hn : n ≤ 65536) (hL : xs.length = K + 1) :
    Calls Try.prog 20 #[ringV C H ((K : Int) + 1) A C c, .int .i64 n] w (PushEnd C ((H + n) % C) (rotl n xs) w) := by
  have C13 := hide (fun w1 (hb : Below w.heap.size w w1) => validate_any C H ((K : Int) + 1) A C c w.heap.size (cellsL C H xs) w1 ((h.more hB).below hb) hb.size)
  have C30 := hide (fun w1 (hb : Below w.heap.size w w1) => copied_any C H ((K : Int) + 1) A C c w.heap.size (cellsL C H xs) w1 ((h.more hB).below hb) hb.size (by have := hr.max; omega))
  unfold VEnd at C13
  rw [vV_yes hr.ok] at C13
  have hC1 := hr.one
  have hC2 := hr.max
  have hH := hr.hd
  have hKC : K + 1 ≤ C := by have := hr.fits; omega
  have HLX := hide hL
  clear hL
  clear hr h
  unfold ringV at C13 C30
  unfold ringV
  have hd : decide ((n : Int) < 0) = false := by simp
  have hd1 : decide ((65536 : Int) < n) = false := by simp; omega
  go_enter Try.func20, Try.ntmps20
  go_upto_region 1 with (fail)
  have qR : Blk ((w.alloc (.cells #[.int .i64 C, .int .i64 H, .int .i64 ((K : Int) + 1), .slice A C c] 24)).alloc (.cells #[.int .i64 0, .int .i64 0, .int .i64 0, .slice none 0 0] 24)) (w.heap.size) 24 #[.int .i64 C, .int .i64 H, .int .i64 ((K : Int) + 1), .slice A C c] := (Blk.new _ _ _).alloc _
  have qZ : Blk ((w.alloc (.cells #[.int .i64 C, .int .i64 H, .int .i64 ((K : Int) + 1), .slice A C c] 24)).alloc (.cells #[.int .i64 0, .int .i64 0, .int .i64 0, .slice none 0 0] 24)) (w.heap.size + 1) 24 #[.int .i64 0, .int .i64 0, .int .i64 0, .slice none 0 0] := Blk.new_at (by simp) _ _
  have qB : Below w.heap.size w ((w.alloc (.cells #[.int .i64 C, .int .i64 H, .int .i64 ((K : Int) + 1), .slice A C c] 24)).alloc (.cells #[.int .i64 0, .int .i64 0, .int .i64 0, .slice none 0 0] 24)) := Bl.alloc' (Bl.alloc' (Below.refl _ _) _) _
  have z1 : ((w.alloc (.cells #[.int .i64 C, .int .i64 H, .int .i64 ((K : Int) + 1), .slice A C c] 24)).alloc (.cells #[.int .i64 0, .int .i64 0, .int .i64 0, .slice none 0 0] 24)).heap.size = w.heap.size + 2 := by simp
  generalize ((w.alloc (.cells #[.int .i64 C, .int .i64 H, .int .i64 ((K : Int) + 1), .slice A C c] 24)).alloc (.cells #[.int .i64 0, .int .i64 0, .int .i64 0, .slice none 0 0] 24)) = w1 at *
  have zi1 : w1.heap.size ≤ w.heap.size + 2 ∧ w.heap.size + 2 ≤ w1.heap.size := by omega
  clear z1
  have R1 := hide qR
  have Z1 := hide qZ
  have B1 := hide qB
  clear qR qZ qB
  obtain ⟨p0, p1, p2, p3, p4, p5, p6, p7⟩ := R1.out.four
  go_wp2_with (fail)
  refine (C13.out _ B1.out).mono ?_
  rintro e w2 ⟨rfl, hb⟩
  have zs2 := hb.size
  clear p0 p1 p2 p3 p4 p5 p6 p7
  have qR : Blk w2 (w.heap.size) 24 #[.int .i64 C, .int .i64 H, .int .i64 ((K : Int) + 1), .slice A C c] := R1.out.below hb R1.out.lt
  have qZ : Blk w2 (w.heap.size + 1) 24 #[.int .i64 0, .int .i64 0, .int .i64 0, .slice none 0 0] := Z1.out.below hb Z1.out.lt
  have qB : Below w.heap.size w w2 := Bl.call' B1.out hb
  clear R1 Z1 B1
  have R2 := hide qR
  have Z2 := hide qZ
  have B2 := hide qB
  clear qR qZ qB
  clear hb
  obtain ⟨p0, p1, p2, p3, p4, p5, p6, p7⟩ := R2.out.four
  go_wp2_with (fail)
  refine (C30.out _ B2.out).mono ?_
  rintro e w3 ⟨A2, c2, rfl, hown, hb⟩
  obtain ⟨g, cap', hv2, hg1, hg2, hg3, hg4⟩ := own_form2 hown (by omega)
  obtain ⟨rfl, rfl⟩ : A2 = some ⟨g, 0, none⟩ ∧ c2 = cap' := by simpa using hv2
  clear hv2
  have zs3 := hb.size
  clear p0 p1 p2 p3 p4 p5 p6 p7
  have qR : Blk w3 (w.heap.size) 24 #[.int .i64 C, .int .i64 H, .int .i64 ((K : Int) + 1), .slice A C c] := R2.out.below hb R2.out.lt
  have qZ : Blk w3 (w.heap.size + 1) 24 #[.int .i64 0, .int .i64 0, .int .i64 0, .slice none 0 0] := Z2.out.below hb Z2.out.lt
  have qB : Below w.heap.size w w3 := Bl.call' B2.out hb
  have qO : World.ownsRow w3 (w2.heap.size) 33 2 (.slice (some ⟨g, 0, none⟩) C c2) (C) (flat (cellsL C H xs)) := hown
  clear R2 Z2 B2
  have R3 := hide qR
  have Z3 := hide qZ
  have B3 := hide qB
  have O3 := hide qO
  clear qR qZ qB qO
  clear hb
  clear hown
  obtain ⟨p0, p1, p2, p3, p4, p5, p6, p7⟩ := R3.out.four
  go_wp2_with (fail)
  clear p0 p1 p2 p3 p4 p5 p6 p7
  have qR : Blk (((((w3.setCell ⟨w.heap.size, 0, none⟩ (.int .i64 C)).setCell ⟨w.heap.size, 1, none⟩ (.int .i64 H)).setCell ⟨w.heap.size, 2, none⟩ (.int .i64 ((K : Int) + 1))).setCell ⟨w.heap.size, 3, none⟩ (.slice (some ⟨g, 0, none⟩) C c2))) (w.heap.size) 24 #[.int .i64 C, .int .i64 H, .int .i64 ((K : Int) + 1), .slice (some ⟨g, 0, none⟩) C c2] := R3.out.store4 _ _ _ _
  have qZ : Blk (((((w3.setCell ⟨w.heap.size, 0, none⟩ (.int .i64 C)).setCell ⟨w.heap.size, 1, none⟩ (.int .i64 H)).setCell ⟨w.heap.size, 2, none⟩ (.int .i64 ((K : Int) + 1))).setCell ⟨w.heap.size, 3, none⟩ (.slice (some ⟨g, 0, none⟩) C c2))) (w.heap.size + 1) 24 #[.int .i64 0, .int .i64 0, .int .i64 0, .slice none 0 0] := Z3.out.far4 (by omega) _ _ _ _
  have qB : Below w.heap.size w (((((w3.setCell ⟨w.heap.size, 0, none⟩ (.int .i64 C)).setCell ⟨w.heap.size, 1, none⟩ (.int .i64 H)).setCell ⟨w.heap.size, 2, none⟩ (.int .i64 ((K : Int) + 1))).setCell ⟨w.heap.size, 3, none⟩ (.slice (some ⟨g, 0, none⟩) C c2))) := Bl.set4 B3.out (by omega) _ _ _ _
  have qO : World.ownsRow (((((w3.setCell ⟨w.heap.size, 0, none⟩ (.int .i64 C)).setCell ⟨w.heap.size, 1, none⟩ (.int .i64 H)).setCell ⟨w.heap.size, 2, none⟩ (.int .i64 ((K : Int) + 1))).setCell ⟨w.heap.size, 3, none⟩ (.slice (some ⟨g, 0, none⟩) C c2))) (w2.heap.size) 33 2 (.slice (some ⟨g, 0, none⟩) C c2) (C) (flat (cellsL C H xs)) := own_far4 O3.out (by omega) _ _ _ _
  have z4 : (((((w3.setCell ⟨w.heap.size, 0, none⟩ (.int .i64 C)).setCell ⟨w.heap.size, 1, none⟩ (.int .i64 H)).setCell ⟨w.heap.size, 2, none⟩ (.int .i64 ((K : Int) + 1))).setCell ⟨w.heap.size, 3, none⟩ (.slice (some ⟨g, 0, none⟩) C c2))).heap.size = w3.heap.size := by simp
  clear R3 Z3 B3 O3
  generalize (((((w3.setCell ⟨w.heap.size, 0, none⟩ (.int .i64 C)).setCell ⟨w.heap.size, 1, none⟩ (.int .i64 H)).setCell ⟨w.heap.size, 2, none⟩ (.int .i64 ((K : Int) + 1))).setCell ⟨w.heap.size, 3, none⟩ (.slice (some ⟨g, 0, none⟩) C c2))) = w4 at *
  have R4 := hide qR
  have Z4 := hide qZ
  have B4 := hide qB
  have O4 := hide qO
  clear qR qZ qB qO
  have zi4 : w4.heap.size ≤ w3.heap.size ∧ w3.heap.size ≤ w4.heap.size := by omega
  clear z4
  go_loopw [1] (fun n' wr => ∃ (m H' : Nat) (zs : List (Int × Int)), n' = .int .i64 m ∧ m ≤ 65536 ∧ H' < C ∧ zs.length = K + 1 ∧ (H' + m) % C = (H + n) % C ∧ rotl m zs = rotl n xs ∧ w4.heap.size ≤ wr.heap.size ∧ Blk wr w.heap.size 24 #[.int .i64 C, .int .i64 H', .int .i64 ((K : Int) + 1), .slice (some ⟨g, 0, none⟩) C c2] ∧ Blk wr (w.heap.size + 1) 24 #[.int .i64 0, .int .i64 0, .int .i64 0, .slice none 0 0] ∧ wr.ownsRow w2.heap.size 33 2 (.slice (some ⟨g, 0, none⟩) C c2) C (flat (cellsL C H' zs)) ∧ Below w.heap.size w wr) (fun n' _ => (intOf n').toNat)
  case atStart => exact ⟨n, H, xs, rfl, hn, hH, HLX.out, rfl, rfl, Nat.le_refl _, R4.out, Z4.out, O4.out, B4.out⟩
  case round =>
    obtain ⟨m, H', zs, rfl, hm, hH', hzl, hHm, hzr, hzz, hk, hz, ho, hb⟩ := hrel
    obtain ⟨x, t, rfl⟩ : ∃ x t, zs = x :: t := by cases zs with | nil => simp at hzl | cons x t => exact ⟨x, t, rfl⟩
    have htl : t.length = K := by simpa using hzl
    have HHM := hide hHm
    have HZR := hide hzr
    have HTL := hide htl
    clear hzl hHm hzr htl R4 Z4 O4 B4
    rcases Nat.eq_zero_or_pos m with h0 | h0
    · subst h0
      have HK := hide hk
      have HZ := hide hz
      have HO := hide ho
      have HB := hide hb
      obtain ⟨p0, p1, p2, p3, p4, p5, p6, p7⟩ := HK.out.four
      obtain ⟨u0, u1, u2, u3, u4, u5, u6, u7⟩ := HZ.out.four
      have hz1 := HZ.out.lt
      clear hk hz ho hb
      go_wp2
      refine bodyPost_ret (res2 rfl _ rfl (HZ.out.store4 _ _ _ _)) rfl ?_
      have e1 : H' = (H + n) % C := by have := HHM.out; rw [Nat.add_zero, Nat.mod_eq_of_lt hH'] at this; exact this
      have e2 : x :: t = rotl n xs := by have := HZR.out; rw [rotl] at this; exact this
      have e3 : ((K : Int) + 1) = ((rotl n xs).length : Nat) := by rw [← e2]; simp [HTL.out]
      refine ⟨_, c2, by rw [e1, e3]; rfl, ?_, below_far4 HB.out (by omega) _ _ _ _⟩
      rw [← e1, ← e2]
      exact own_more (own_far4 HO.out (by omega) _ _ _ _) (by omega)
    · obtain ⟨m, rfl⟩ : ∃ q, m = q + 1 := ⟨m - 1, by omega⟩
      have HPF := hide (pop_front (C := C) (H := H') (xs := t) (x := x) hH' (by have := HTL.out; omega))
      have hH1 : (H' + 1) % C < C := Nat.mod_lt _ (by omega)
      have HPB := hide (by have := push_back (C := C) (H := (H' + 1) % C) (xs := t) x hH1 (by have := HTL.out; omega); rwa [HTL.out] at this)
      have HEL := hide (show (cellsL C H' (x :: t))[H']? = some x by
        have := cellsL_elem (xs := x :: t) (i := 0) hH' (by omega)
        rw [Nat.add_zero, Nat.mod_eq_of_lt hH'] at this
        simpa using this)
      have HNX := hide (rot_next (C := C) (H := H') (m := m))
      have HNI := hide (rot_nextI (C := C) (H := H'))
      have hwK := rot_wrap K (by omega)
      have C29 := hide (fun (A' : Option Addr) (c' : Nat) (w0 : World) => at_nat C ((H' + 1) % C) ((K : Int) + 1) A' C c' K w0 ⟨hC1, hC2⟩ hH1 (by omega))
      unfold ringV at C29
      have hk2 : ((H' + 1) % C + K) % C < C := Nat.mod_lt _ (by omega)
      generalize (H' + 1) % C = H1 at *
      generalize (H1 + K) % C = k at *
      obtain ⟨x1, x2⟩ := x
      have R0 := hide hk
      have Z0 := hide hz
      have O0 := hide ho
      have B0 := hide hb
      clear hk hz ho hb
      have hm1 : (0 : Int) < (m : Int) + 1 := by omega
      have hK1 : (0 : Int) < (K : Int) + 1 := by omega
      obtain ⟨p0, p1, p2, p3, p4, p5, p6, p7⟩ := R0.out.four
      obtain ⟨r0, r1, r2, r3⟩ := row_cells O0.out HEL.out
      go_upto_region 10 with (fail)
      have R10 := R0
      have Z10 := Z0
      have O10 := O0
      have B10 := B0
      clear R0 Z0 O0 B0
      clear p0 p1 p2 p3 p4 p5 p6 p7 r0 r1 r2 r3
      have qR : Blk (wr.alloc (.cells #[.int .i64 x1, .int .i64 x2] 33)) (w.heap.size) 24 #[.int .i64 C, .int .i64 H', .int .i64 ((K : Int) + 1), .slice (some ⟨g, 0, none⟩) C c2] := R10.out.alloc _
      have qZ : Blk (wr.alloc (.cells #[.int .i64 x1, .int .i64 x2] 33)) (w.heap.size + 1) 24 #[.int .i64 0, .int .i64 0, .int .i64 0, .slice none 0 0] := Z10.out.alloc _
      have qO : World.ownsRow (wr.alloc (.cells #[.int .i64 x1, .int .i64 x2] 33)) (w2.heap.size) 33 2 (.slice (some ⟨g, 0, none⟩) C c2) (C) (flat (cellsL C H' ((x1, x2) :: t))) := O10.out.alloc _
      have qB : Below w.heap.size w (wr.alloc (.cells #[.int .i64 x1, .int .i64 x2] 33)) := Bl.alloc' B10.out _
      have qX : Blk (wr.alloc (.cells #[.int .i64 x1, .int .i64 x2] 33)) (wr.heap.size) 33 #[.int .i64 x1, .int .i64 x2] := Blk.new _ _ _
      have z11 : (wr.alloc (.cells #[.int .i64 x1, .int .i64 x2] 33)).heap.size = wr.heap.size + 1 := by simp
      clear R10 Z10 O10 B10
      generalize (wr.alloc (.cells #[.int .i64 x1, .int .i64 x2] 33)) = w11 at *
      have R11 := hide qR
      have Z11 := hide qZ
      have O11 := hide qO
      have B11 := hide qB
      have X11 := hide qX
      clear qR qZ qO qB qX
      have zi11 : w11.heap.size ≤ wr.heap.size + 1 ∧ wr.heap.size < w11.heap.size := by omega
      clear z11
      obtain ⟨p0, p1, p2, p3, p4, p5, p6, p7⟩ := R11.out.four
      obtain ⟨r0, r1, r2, r3⟩ := row_cells O11.out HEL.out
      go_upto_region 11 with (fail)
      clear p0 p1 p2 p3 p4 p5 p6 p7 r0 r1 r2 r3
      have qR : Blk ((w11.setCell ⟨g, H' * 2, none⟩ (.int .i64 0)).setCell ⟨g, H' * 2 + 1, none⟩ (.int .i64 0)) (w.heap.size) 24 #[.int .i64 C, .int .i64 H', .int .i64 ((K : Int) + 1), .slice (some ⟨g, 0, none⟩) C c2] := R11.out.far2 (by omega) _ _ _ _
      have qZ : Blk ((w11.setCell ⟨g, H' * 2, none⟩ (.int .i64 0)).setCell ⟨g, H' * 2 + 1, none⟩ (.int .i64 0)) (w.heap.size + 1) 24 #[.int .i64 0, .int .i64 0, .int .i64 0, .slice none 0 0] := Z11.out.far2 (by omega) _ _ _ _
      have qO : World.ownsRow ((w11.setCell ⟨g, H' * 2, none⟩ (.int .i64 0)).setCell ⟨g, H' * 2 + 1, none⟩ (.int .i64 0)) (w2.heap.size) 33 2 (.slice (some ⟨g, 0, none⟩) C c2) (C) (flat (cellsL C H1 t)) := by have q := stored2 O11.out H' (0, 0); rw [HPF.out] at q; exact q
      have qB : Below w.heap.size w ((w11.setCell ⟨g, H' * 2, none⟩ (.int .i64 0)).setCell ⟨g, H' * 2 + 1, none⟩ (.int .i64 0)) := below_far2 B11.out (by omega) _ _ _ _
      have qX : Blk ((w11.setCell ⟨g, H' * 2, none⟩ (.int .i64 0)).setCell ⟨g, H' * 2 + 1, none⟩ (.int .i64 0)) (wr.heap.size) 33 #[.int .i64 x1, .int .i64 x2] := X11.out.far2 (by omega) _ _ _ _
      have z12 : ((w11.setCell ⟨g, H' * 2, none⟩ (.int .i64 0)).setCell ⟨g, H' * 2 + 1, none⟩ (.int .i64 0)).heap.size = w11.heap.size := by simp
      clear R11 Z11 O11 B11 X11
      generalize ((w11.setCell ⟨g, H' * 2, none⟩ (.int .i64 0)).setCell ⟨g, H' * 2 + 1, none⟩ (.int .i64 0)) = w12 at *
      have R12 := hide qR
      have Z12 := hide qZ
      have O12 := hide qO
      have B12 := hide qB
      have X12 := hide qX
      clear qR qZ qO qB qX
      have zi12 : w12.heap.size ≤ w11.heap.size ∧ w11.heap.size ≤ w12.heap.size := by omega
      clear z12
      obtain ⟨p0, p1, p2, p3, p4, p5, p6, p7⟩ := R12.out.four
      have hni := HNI.out
      go_upto_region 12 with (fail)
      clear hni
      clear p0 p1 p2 p3 p4 p5 p6 p7
      have qR : Blk (w12.setCell ⟨w.heap.size, 1, none⟩ (.int .i64 H1)) (w.heap.size) 24 #[.int .i64 C, .int .i64 H1, .int .i64 ((K : Int) + 1), .slice (some ⟨g, 0, none⟩) C c2] := R12.out.set_ 1 _
      have qZ : Blk (w12.setCell ⟨w.heap.size, 1, none⟩ (.int .i64 H1)) (w.heap.size + 1) 24 #[.int .i64 0, .int .i64 0, .int .i64 0, .slice none 0 0] := Z12.out.far (show w.heap.size + 1 ≠ w.heap.size by omega) _
      have qO : World.ownsRow (w12.setCell ⟨w.heap.size, 1, none⟩ (.int .i64 H1)) (w2.heap.size) 33 2 (.slice (some ⟨g, 0, none⟩) C c2) (C) (flat (cellsL C H1 t)) := own_far O12.out (by intro q hq; have := (O12.out.lt q hq).1; simp; omega) _
      have qB : Below w.heap.size w (w12.setCell ⟨w.heap.size, 1, none⟩ (.int .i64 H1)) := Bl.set' B12.out (by first | (simp; done) | (simp; omega)) _
      have qX : Blk (w12.setCell ⟨w.heap.size, 1, none⟩ (.int .i64 H1)) (wr.heap.size) 33 #[.int .i64 x1, .int .i64 x2] := X12.out.far (show wr.heap.size ≠ w.heap.size by omega) _
      have z13 : (w12.setCell ⟨w.heap.size, 1, none⟩ (.int .i64 H1)).heap.size = w12.heap.size := by simp
      clear R12 Z12 O12 B12 X12
      generalize (w12.setCell ⟨w.heap.size, 1, none⟩ (.int .i64 H1)) = w13 at *
      have R13 := hide qR
      have Z13 := hide qZ
      have O13 := hide qO
      have B13 := hide qB
      have X13 := hide qX
      clear qR qZ qO qB qX
      have zi13 : w13.heap.size ≤ w12.heap.size ∧ w12.heap.size ≤ w13.heap.size := by omega
      clear z13
      obtain ⟨p0, p1, p2, p3, p4, p5, p6, p7⟩ := R13.out.four
      obtain ⟨y0, y1, y2, y3⟩ := X13.out.two
      have HK3 := hide (List.getElem?_eq_getElem (l := cellsL C H1 t) (i := k) (by rw [cellsL_len]; exact hk2))
      have hx0 : w.heap.size ≠ g := by omega
      have hx1 : wr.heap.size ≠ g := by omega
      go_region_held3 (fun w' => w'.cell? ⟨w.heap.size, 0, none⟩ = some (.int .i64 C) ∧ w'.cell? ⟨w.heap.size, 1, none⟩ = some (.int .i64 H1) ∧ w'.cell? ⟨w.heap.size, 2, none⟩ = some (.int .i64 ((K : Int) + 1)) ∧ w'.cell? ⟨w.heap.size, 3, none⟩ = some (.slice (some ⟨g, 0, none⟩) C c2) ∧ w'.cell? ⟨wr.heap.size, 0, none⟩ = some (.int .i64 x1) ∧ w'.cell? ⟨wr.heap.size, 1, none⟩ = some (.int .i64 x2)) (first | exact ⟨p0, p1, p2, p3, y0, y1⟩ | exact ⟨e0, e1, e2, e3, z0, z1⟩ | exact ⟨cell_far2 hx0 _ _ _ _ _ e0, cell_far2 hx0 _ _ _ _ _ e1, cell_far2 hx0 _ _ _ _ _ e2, cell_far2 hx0 _ _ _ _ _ e3, cell_far2 hx1 _ _ _ _ _ z0, cell_far2 hx1 _ _ _ _ _ z1⟩) (first | (go_at_call 29; refine (C29.out _ _ _).mono ?_; rintro e wz ⟨rfl, hbx⟩; have hbz : Below w13.heap.size w13 wz := below_undrew hbx; have zsz := hbz.size; have Rz := hide (R13.out.below hbz R13.out.lt); have Zz := hide (Z13.out.below hbz Z13.out.lt); have Xz := hide (X13.out.below hbz X13.out.lt); have Oz := hide (own_below O13.out hbz); have Bz := hide (Bl.call' B13.out hbz); obtain ⟨e0, e1, e2, e3, _, _, _, _⟩ := Rz.out.four; obtain ⟨z0, z1, _, _⟩ := Xz.out.two; obtain ⟨r0, r1, r2, r3⟩ := row_cells Oz.out HK3.out; clear hbx hbz))
      clear p0 p1 p2 p3 p4 p5 p6 p7 y0 y1 y2 y3 e0 e1 e2 e3 z0 z1 r0 r1 r2 r3
      have qR : Blk ((wz.setCell ⟨g, k * 2, none⟩ (.int .i64 x1)).setCell ⟨g, k * 2 + 1, none⟩ (.int .i64 x2)) w.heap.size 24 _ := Rz.out.far2 hx0 _ _ _ _
      have qZ : Blk ((wz.setCell ⟨g, k * 2, none⟩ (.int .i64 x1)).setCell ⟨g, k * 2 + 1, none⟩ (.int .i64 x2)) (w.heap.size + 1) 24 _ := Zz.out.far2 (by omega) _ _ _ _
      have qO : World.ownsRow ((wz.setCell ⟨g, k * 2, none⟩ (.int .i64 x1)).setCell ⟨g, k * 2 + 1, none⟩ (.int .i64 x2)) w2.heap.size 33 2 (.slice (some ⟨g, 0, none⟩) C c2) C (flat (cellsL C H1 (t ++ [(x1, x2)]))) := by have q := stored2 Oz.out k (x1, x2); rw [HPB.out] at q; exact q
      have qB : Below w.heap.size w ((wz.setCell ⟨g, k * 2, none⟩ (.int .i64 x1)).setCell ⟨g, k * 2 + 1, none⟩ (.int .i64 x2)) := below_far2 Bz.out (by omega) _ _ _ _
      have qz : ((wz.setCell ⟨g, k * 2, none⟩ (.int .i64 x1)).setCell ⟨g, k * 2 + 1, none⟩ (.int .i64 x2)).heap.size = wz.heap.size := by simp
      clear Rz Zz Xz Oz Bz
      generalize ((wz.setCell ⟨g, k * 2, none⟩ (.int .i64 x1)).setCell ⟨g, k * 2 + 1, none⟩ (.int .i64 x2)) = wy at *
      have Ry := hide qR
      have Zy := hide qZ
      have Oy := hide qO
      have By := hide qB
      have zy1 : wz.heap.size ≤ wy.heap.size := by omega
      clear qR qZ qO qB qz
      go_wp2
      go_roundw
      case rel => exact ⟨m, H1, t ++ [(x1, x2)], by go_num, by omega, hH1, by simp [HTL.out], by rw [HNX.out]; exact HHM.out, by have := HZR.out; rw [rotl] at this; exact this, by omega, Ry.out, Zy.out, Oy.out, By.out⟩
      case measure => simp [intOf]
end Go.Proofs.Ytjbfefkbpnickaa
