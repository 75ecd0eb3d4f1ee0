/- A buffer moved into another capacity: the contract. -/
import Derived.Test.YtjbfefkbpnickaaCopy
import Derived.Test.YtjbfefkbpnickaaItems2
import Derived.Test.YtjbfefkbpnickaaPushF
import Derived.RegionTactic
import Derived.ChangeAlike
namespace Go.Proofs.Ytjbfefkbpnickaa
open Go.RowKit
set_option linter.unusedVariables false
theorem own_made {w : World} {g base D : Nat} {mz : Array Value} {l : List (Int × Int)} (h1 : mz.toList = flat l) (h2 : mz.size = D * 2) (hb : base ≤ g ∧ D ≤ 65536) (hg : w.heap.size = g) : (w.alloc (.cells mz 33)).ownsRow base 33 2 (.slice (some ⟨g, 0, none⟩) D D) D (flat l) := by
  subst hg
  refine ⟨by rw [← h1]; simpa using h2, .inr ⟨w.heap.size, D, mz, rfl, hb.1, heap_alloc_new w _, Nat.le_refl _, by simp only [maxLen]; omega, h2, ?_⟩⟩
  rw [← h1, List.take_of_length_le (by simp [h2])]
set_option maxRecDepth 100000 in
theorem grow_bad (cap head len : Int) (A : Option Addr) (n c B : Nat) (l : List (Int × Int)) (D : Int) (w : World) (h : Sl2 w B A n l) (hB : B ≤ w.heap.size) (hv : ¬ VOk cap head len l) :
    Calls Try.prog 21 #[ringV cap head len A n c, .int .i64 D] w (ErrEnd 2 w) := by
  have C13 := hide (fun w1 (hb : Below w.heap.size w w1) => validate_any cap head len A n c w.heap.size l w1 ((h.more hB).below hb) hb.size)
  unfold VEnd at C13
  rw [vV_no hv] at C13
  clear h hv
  unfold ringV at C13
  unfold ringV
  go_enter Try.func21, Try.ntmps21
  go_upto_region 1 with (fail)
  have qR : Blk ((w.alloc (.cells #[.int .i64 cap, .int .i64 head, .int .i64 len, .slice A n c] 24)).alloc (.cells #[.int .i64 0, .int .i64 0, .int .i64 0, .slice none 0 0] 24)) (w.heap.size) 24 #[.int .i64 cap, .int .i64 head, .int .i64 len, .slice A n c] := (Blk.new _ _ _).alloc _
  have qZ : Blk ((w.alloc (.cells #[.int .i64 cap, .int .i64 head, .int .i64 len, .slice A n c] 24)).alloc (.cells #[.int .i64 0, .int .i64 0, .int .i64 0, .slice none 0 0] 24)) (w.heap.size + 1) 24 #[.int .i64 0, .int .i64 0, .int .i64 0, .slice none 0 0] := Blk.new_at (by simp) _ _
  have qB : Below w.heap.size w ((w.alloc (.cells #[.int .i64 cap, .int .i64 head, .int .i64 len, .slice A n c] 24)).alloc (.cells #[.int .i64 0, .int .i64 0, .int .i64 0, .slice none 0 0] 24)) := Bl.alloc' (Bl.alloc' (Below.refl _ _) _) _
  have z1 : ((w.alloc (.cells #[.int .i64 cap, .int .i64 head, .int .i64 len, .slice A n c] 24)).alloc (.cells #[.int .i64 0, .int .i64 0, .int .i64 0, .slice none 0 0] 24)).heap.size = w.heap.size + 2 := by simp
  generalize ((w.alloc (.cells #[.int .i64 cap, .int .i64 head, .int .i64 len, .slice A n c] 24)).alloc (.cells #[.int .i64 0, .int .i64 0, .int .i64 0, .slice none 0 0] 24)) = w1 at *
  have zi1 : w1.heap.size ≤ w.heap.size + 2 ∧ w.heap.size + 2 ≤ w1.heap.size := by omega
  clear z1
  have R1 := hide qR
  have Z1 := hide qZ
  have B1 := hide qB
  clear qR qZ qB
  obtain ⟨p0, p1, p2, p3, p4, p5, p6, p7⟩ := R1.out.four
  go_wp2_with (fail)
  refine (C13.out _ B1.out).mono ?_
  rintro e w2 ⟨rfl, hb⟩
  have zs2 := hb.size
  clear p0 p1 p2 p3 p4 p5 p6 p7
  have qR : Blk w2 (w.heap.size) 24 #[.int .i64 cap, .int .i64 head, .int .i64 len, .slice A n c] := R1.out.below hb R1.out.lt
  have qZ : Blk w2 (w.heap.size + 1) 24 #[.int .i64 0, .int .i64 0, .int .i64 0, .slice none 0 0] := Z1.out.below hb Z1.out.lt
  have qB : Below w.heap.size w w2 := Bl.call' B1.out hb
  clear R1 Z1 B1
  have R2 := hide qR
  have Z2 := hide qZ
  have B2 := hide qB
  clear qR qZ qB
  clear hb
  obtain ⟨p0, p1, p2, p3, p4, p5, p6, p7⟩ := R2.out.four
  obtain ⟨u0, u1, u2, u3, u4, u5, u6, u7⟩ := Z2.out.four
  go_wp2
  refine bodyPost_ret (res2 rfl _ rfl (Z2.out.store4 _ _ _ _)) rfl ?_
  exact ⟨rfl, below_far4 B2.out (by omega) _ _ _ _⟩
set_option maxRecDepth 100000 in
theorem grow_less (cap head len : Int) (A : Option Addr) (n c B : Nat) (l : List (Int × Int)) (D : Int) (w : World) (h : Sl2 w B A n l) (hB : B ≤ w.heap.size) (hv : VOk cap head len l) (hD : D < len) :
    Calls Try.prog 21 #[ringV cap head len A n c, .int .i64 D] w (ErrEnd 1 w) := by
  have C13 := hide (fun w1 (hb : Below w.heap.size w w1) => validate_any cap head len A n c w.heap.size l w1 ((h.more hB).below hb) hb.size)
  unfold VEnd at C13
  rw [vV_yes hv] at C13
  have hd : decide (D < len) = true := by simpa using hD
  clear h hv
  unfold ringV at C13
  unfold ringV
  go_enter Try.func21, Try.ntmps21
  go_upto_region 1 with (fail)
  have qR : Blk ((w.alloc (.cells #[.int .i64 cap, .int .i64 head, .int .i64 len, .slice A n c] 24)).alloc (.cells #[.int .i64 0, .int .i64 0, .int .i64 0, .slice none 0 0] 24)) (w.heap.size) 24 #[.int .i64 cap, .int .i64 head, .int .i64 len, .slice A n c] := (Blk.new _ _ _).alloc _
  have qZ : Blk ((w.alloc (.cells #[.int .i64 cap, .int .i64 head, .int .i64 len, .slice A n c] 24)).alloc (.cells #[.int .i64 0, .int .i64 0, .int .i64 0, .slice none 0 0] 24)) (w.heap.size + 1) 24 #[.int .i64 0, .int .i64 0, .int .i64 0, .slice none 0 0] := Blk.new_at (by simp) _ _
  have qB : Below w.heap.size w ((w.alloc (.cells #[.int .i64 cap, .int .i64 head, .int .i64 len, .slice A n c] 24)).alloc (.cells #[.int .i64 0, .int .i64 0, .int .i64 0, .slice none 0 0] 24)) := Bl.alloc' (Bl.alloc' (Below.refl _ _) _) _
  have z1 : ((w.alloc (.cells #[.int .i64 cap, .int .i64 head, .int .i64 len, .slice A n c] 24)).alloc (.cells #[.int .i64 0, .int .i64 0, .int .i64 0, .slice none 0 0] 24)).heap.size = w.heap.size + 2 := by simp
  generalize ((w.alloc (.cells #[.int .i64 cap, .int .i64 head, .int .i64 len, .slice A n c] 24)).alloc (.cells #[.int .i64 0, .int .i64 0, .int .i64 0, .slice none 0 0] 24)) = w1 at *
  have zi1 : w1.heap.size ≤ w.heap.size + 2 ∧ w.heap.size + 2 ≤ w1.heap.size := by omega
  clear z1
  have R1 := hide qR
  have Z1 := hide qZ
  have B1 := hide qB
  clear qR qZ qB
  obtain ⟨p0, p1, p2, p3, p4, p5, p6, p7⟩ := R1.out.four
  go_wp2_with (fail)
  refine (C13.out _ B1.out).mono ?_
  rintro e w2 ⟨rfl, hb⟩
  have zs2 := hb.size
  clear p0 p1 p2 p3 p4 p5 p6 p7
  have qR : Blk w2 (w.heap.size) 24 #[.int .i64 cap, .int .i64 head, .int .i64 len, .slice A n c] := R1.out.below hb R1.out.lt
  have qZ : Blk w2 (w.heap.size + 1) 24 #[.int .i64 0, .int .i64 0, .int .i64 0, .slice none 0 0] := Z1.out.below hb Z1.out.lt
  have qB : Below w.heap.size w w2 := Bl.call' B1.out hb
  clear R1 Z1 B1
  have R2 := hide qR
  have Z2 := hide qZ
  have B2 := hide qB
  clear qR qZ qB
  clear hb
  obtain ⟨p0, p1, p2, p3, p4, p5, p6, p7⟩ := R2.out.four
  obtain ⟨u0, u1, u2, u3, u4, u5, u6, u7⟩ := Z2.out.four
  go_wp2
  refine bodyPost_ret (res2 rfl _ rfl (Z2.out.store4 _ _ _ _)) rfl ?_
  exact ⟨rfl, below_far4 B2.out (by omega) _ _ _ _⟩
set_option maxRecDepth 100000 in
theorem grow_one (cap head len : Int) (A : Option Addr) (n c B : Nat) (l : List (Int × Int)) (D : Int) (w : World) (h : Sl2 w B A n l) (hB : B ≤ w.heap.size) (hv : VOk cap head len l) (hD : len ≤ D) (hD1 : D < 1) :
    Calls Try.prog 21 #[ringV cap head len A n c, .int .i64 D] w (ErrEnd 1 w) := by
  have C13 := hide (fun w1 (hb : Below w.heap.size w w1) => validate_any cap head len A n c w.heap.size l w1 ((h.more hB).below hb) hb.size)
  unfold VEnd at C13
  rw [vV_yes hv] at C13
  have hd : decide (D < len) = false := by simpa using hD
  have hd1 : decide (D < 1) = true := by simpa using hD1
  clear h hv
  unfold ringV at C13
  unfold ringV
  go_enter Try.func21, Try.ntmps21
  go_upto_region 1 with (fail)
  have qR : Blk ((w.alloc (.cells #[.int .i64 cap, .int .i64 head, .int .i64 len, .slice A n c] 24)).alloc (.cells #[.int .i64 0, .int .i64 0, .int .i64 0, .slice none 0 0] 24)) (w.heap.size) 24 #[.int .i64 cap, .int .i64 head, .int .i64 len, .slice A n c] := (Blk.new _ _ _).alloc _
  have qZ : Blk ((w.alloc (.cells #[.int .i64 cap, .int .i64 head, .int .i64 len, .slice A n c] 24)).alloc (.cells #[.int .i64 0, .int .i64 0, .int .i64 0, .slice none 0 0] 24)) (w.heap.size + 1) 24 #[.int .i64 0, .int .i64 0, .int .i64 0, .slice none 0 0] := Blk.new_at (by simp) _ _
  have qB : Below w.heap.size w ((w.alloc (.cells #[.int .i64 cap, .int .i64 head, .int .i64 len, .slice A n c] 24)).alloc (.cells #[.int .i64 0, .int .i64 0, .int .i64 0, .slice none 0 0] 24)) := Bl.alloc' (Bl.alloc' (Below.refl _ _) _) _
  have z1 : ((w.alloc (.cells #[.int .i64 cap, .int .i64 head, .int .i64 len, .slice A n c] 24)).alloc (.cells #[.int .i64 0, .int .i64 0, .int .i64 0, .slice none 0 0] 24)).heap.size = w.heap.size + 2 := by simp
  generalize ((w.alloc (.cells #[.int .i64 cap, .int .i64 head, .int .i64 len, .slice A n c] 24)).alloc (.cells #[.int .i64 0, .int .i64 0, .int .i64 0, .slice none 0 0] 24)) = w1 at *
  have zi1 : w1.heap.size ≤ w.heap.size + 2 ∧ w.heap.size + 2 ≤ w1.heap.size := by omega
  clear z1
  have R1 := hide qR
  have Z1 := hide qZ
  have B1 := hide qB
  clear qR qZ qB
  obtain ⟨p0, p1, p2, p3, p4, p5, p6, p7⟩ := R1.out.four
  go_wp2_with (fail)
  refine (C13.out _ B1.out).mono ?_
  rintro e w2 ⟨rfl, hb⟩
  have zs2 := hb.size
  clear p0 p1 p2 p3 p4 p5 p6 p7
  have qR : Blk w2 (w.heap.size) 24 #[.int .i64 cap, .int .i64 head, .int .i64 len, .slice A n c] := R1.out.below hb R1.out.lt
  have qZ : Blk w2 (w.heap.size + 1) 24 #[.int .i64 0, .int .i64 0, .int .i64 0, .slice none 0 0] := Z1.out.below hb Z1.out.lt
  have qB : Below w.heap.size w w2 := Bl.call' B1.out hb
  clear R1 Z1 B1
  have R2 := hide qR
  have Z2 := hide qZ
  have B2 := hide qB
  clear qR qZ qB
  clear hb
  obtain ⟨p0, p1, p2, p3, p4, p5, p6, p7⟩ := R2.out.four
  obtain ⟨u0, u1, u2, u3, u4, u5, u6, u7⟩ := Z2.out.four
  go_wp2
  refine bodyPost_ret (res2 rfl _ rfl (Z2.out.store4 _ _ _ _)) rfl ?_
  exact ⟨rfl, below_far4 B2.out (by omega) _ _ _ _⟩
set_option maxRecDepth 100000 in
theorem grow_max (cap head len : Int) (A : Option Addr) (n c B : Nat) (l : List (Int × Int)) (D : Int) (w : World) (h : Sl2 w B A n l) (hB : B ≤ w.heap.size) (hv : VOk cap head len l) (hD : len ≤ D) (hD1 : 1 ≤ D) (hD2 : 65536 < D) :
    Calls Try.prog 21 #[ringV cap head len A n c, .int .i64 D] w (ErrEnd 1 w) := by
  have C13 := hide (fun w1 (hb : Below w.heap.size w w1) => validate_any cap head len A n c w.heap.size l w1 ((h.more hB).below hb) hb.size)
  unfold VEnd at C13
  rw [vV_yes hv] at C13
  have hd : decide (D < len) = false := by simpa using hD
  have hd1 : decide (D < 1) = false := by simpa using hD1
  have hd2 : decide (65536 < D) = true := by simpa using hD2
  clear h hv
  unfold ringV at C13
  unfold ringV
  go_enter Try.func21, Try.ntmps21
  go_upto_region 1 with (fail)
  have qR : Blk ((w.alloc (.cells #[.int .i64 cap, .int .i64 head, .int .i64 len, .slice A n c] 24)).alloc (.cells #[.int .i64 0, .int .i64 0, .int .i64 0, .slice none 0 0] 24)) (w.heap.size) 24 #[.int .i64 cap, .int .i64 head, .int .i64 len, .slice A n c] := (Blk.new _ _ _).alloc _
  have qZ : Blk ((w.alloc (.cells #[.int .i64 cap, .int .i64 head, .int .i64 len, .slice A n c] 24)).alloc (.cells #[.int .i64 0, .int .i64 0, .int .i64 0, .slice none 0 0] 24)) (w.heap.size + 1) 24 #[.int .i64 0, .int .i64 0, .int .i64 0, .slice none 0 0] := Blk.new_at (by simp) _ _
  have qB : Below w.heap.size w ((w.alloc (.cells #[.int .i64 cap, .int .i64 head, .int .i64 len, .slice A n c] 24)).alloc (.cells #[.int .i64 0, .int .i64 0, .int .i64 0, .slice none 0 0] 24)) := Bl.alloc' (Bl.alloc' (Below.refl _ _) _) _
  have z1 : ((w.alloc (.cells #[.int .i64 cap, .int .i64 head, .int .i64 len, .slice A n c] 24)).alloc (.cells #[.int .i64 0, .int .i64 0, .int .i64 0, .slice none 0 0] 24)).heap.size = w.heap.size + 2 := by simp
  generalize ((w.alloc (.cells #[.int .i64 cap, .int .i64 head, .int .i64 len, .slice A n c] 24)).alloc (.cells #[.int .i64 0, .int .i64 0, .int .i64 0, .slice none 0 0] 24)) = w1 at *
  have zi1 : w1.heap.size ≤ w.heap.size + 2 ∧ w.heap.size + 2 ≤ w1.heap.size := by omega
  clear z1
  have R1 := hide qR
  have Z1 := hide qZ
  have B1 := hide qB
  clear qR qZ qB
  obtain ⟨p0, p1, p2, p3, p4, p5, p6, p7⟩ := R1.out.four
  go_wp2_with (fail)
  refine (C13.out _ B1.out).mono ?_
  rintro e w2 ⟨rfl, hb⟩
  have zs2 := hb.size
  clear p0 p1 p2 p3 p4 p5 p6 p7
  have qR : Blk w2 (w.heap.size) 24 #[.int .i64 cap, .int .i64 head, .int .i64 len, .slice A n c] := R1.out.below hb R1.out.lt
  have qZ : Blk w2 (w.heap.size + 1) 24 #[.int .i64 0, .int .i64 0, .int .i64 0, .slice none 0 0] := Z1.out.below hb Z1.out.lt
  have qB : Below w.heap.size w w2 := Bl.call' B1.out hb
  clear R1 Z1 B1
  have R2 := hide qR
  have Z2 := hide qZ
  have B2 := hide qB
  clear qR qZ qB
  clear hb
  obtain ⟨p0, p1, p2, p3, p4, p5, p6, p7⟩ := R2.out.four
  obtain ⟨u0, u1, u2, u3, u4, u5, u6, u7⟩ := Z2.out.four
  go_wp2
  refine bodyPost_ret (res2 rfl _ rfl (Z2.out.store4 _ _ _ _)) rfl ?_
  exact ⟨rfl, below_far4 B2.out (by omega) _ _ _ _⟩
set_option maxRecDepth 100000 in
set_option maxHeartbeats 2000000 in
theorem grow_ok (C H D : Nat) (xs : List (Int × Int)) (A : Option Addr) (c B : Nat) (w : World) (h : Sl2 w B A C (cellsL C H xs)) (hB : B ≤ w.heap.size) (hr : Rg C H xs.length (cellsL C H xs) C H xs) (hD : xs.length ≤ D) (hD1 : 1 ≤ D) (hD2 : D ≤ 65536) :
    Calls Try.prog 21 #[ringV C H xs.length A C c, .int .i64 D] w (PushEnd D 0 xs w) := by
  have C13 := hide (fun w1 (hb : Below w.heap.size w w1) => validate_any C H xs.length A C c w.heap.size (cellsL C H xs) w1 ((h.more hB).below hb) hb.size)
  unfold VEnd at C13
  rw [vV_yes hr.ok] at C13
  have C31 := hide (fun w1 (hb : Below w.heap.size w w1) => items_in C H xs A c w.heap.size w1 ((h.more hB).below hb) hb.size hr)
  unfold ListEnd at C31
  obtain ⟨i0, hi, hz0, hz1, hz2⟩ := info_parts info33
  obtain ⟨mz, hmz1, hmz2, hmk⟩ : ∃ mz : Array Value, mz.toList = flat (List.replicate D (0, 0)) ∧ mz.size = D * 2 ∧ ∀ w0 : World, (Instr.makeSlice 22 (.int .i64 D) (.int .i64 D)).run Try.prog w0 = .ok (.slice (some ⟨w0.heap.size, 0, none⟩) D D) (w0.alloc (.cells mz 33)) := by
    refine ⟨madeCells (Value.agg #[.int .i64 0, .int .i64 0]).cells (D * 2), made2 D, by simp [madeCells], fun w0 => ?_⟩
    have := run_make (P := Try.prog) w0 22 33 i0 (.agg #[.int .i64 0, .int .i64 0]) Try.underlying22 hi hz0 .i64 .i64 D D (by omega) (Int.le_refl _) (by rw [hz2]; omega) (by omega)
    rw [hz1] at this
    simpa using this
  have HM1 := hide hmz1
  have HM2 := hide hmz2
  have hc0 := hr.cells
  have HL0 := hide (cellsL_zero hD)
  clear h hr hc0 hmz1 hmz2
  generalize hl : xs.length = L at *
  have HL := hide hl
  clear hl
  have hd : decide ((D : Int) < L) = false := by simp; omega
  have hdn : decide (D < L) = false := by simp; omega
  have hd1 : decide ((D : Int) < 1) = false := by simp; omega
  have hd2 : decide ((65536 : Int) < D) = false := by simp; omega
  unfold ringV at C13 C31
  unfold ringV
  go_enter Try.func21, Try.ntmps21
  go_upto_region 1 with (fail)
  have qR : Blk ((w.alloc (.cells #[.int .i64 C, .int .i64 H, .int .i64 L, .slice A C c] 24)).alloc (.cells #[.int .i64 0, .int .i64 0, .int .i64 0, .slice none 0 0] 24)) (w.heap.size) 24 #[.int .i64 C, .int .i64 H, .int .i64 L, .slice A C c] := (Blk.new _ _ _).alloc _
  have qZ : Blk ((w.alloc (.cells #[.int .i64 C, .int .i64 H, .int .i64 L, .slice A C c] 24)).alloc (.cells #[.int .i64 0, .int .i64 0, .int .i64 0, .slice none 0 0] 24)) (w.heap.size + 1) 24 #[.int .i64 0, .int .i64 0, .int .i64 0, .slice none 0 0] := Blk.new_at (by simp) _ _
  have qB : Below w.heap.size w ((w.alloc (.cells #[.int .i64 C, .int .i64 H, .int .i64 L, .slice A C c] 24)).alloc (.cells #[.int .i64 0, .int .i64 0, .int .i64 0, .slice none 0 0] 24)) := Bl.alloc' (Bl.alloc' (Below.refl _ _) _) _
  have z1 : ((w.alloc (.cells #[.int .i64 C, .int .i64 H, .int .i64 L, .slice A C c] 24)).alloc (.cells #[.int .i64 0, .int .i64 0, .int .i64 0, .slice none 0 0] 24)).heap.size = w.heap.size + 2 := by simp
  generalize ((w.alloc (.cells #[.int .i64 C, .int .i64 H, .int .i64 L, .slice A C c] 24)).alloc (.cells #[.int .i64 0, .int .i64 0, .int .i64 0, .slice none 0 0] 24)) = w1 at *
  have zi1 : w1.heap.size ≤ w.heap.size + 2 ∧ w.heap.size + 2 ≤ w1.heap.size := by omega
  clear z1
  have R1 := hide qR
  have Z1 := hide qZ
  have B1 := hide qB
  clear qR qZ qB
  obtain ⟨p0, p1, p2, p3, p4, p5, p6, p7⟩ := R1.out.four
  go_wp2_with (fail)
  refine (C13.out _ B1.out).mono ?_
  rintro e w2 ⟨rfl, hb⟩
  have zs2 := hb.size
  clear p0 p1 p2 p3 p4 p5 p6 p7
  have qR : Blk w2 (w.heap.size) 24 #[.int .i64 C, .int .i64 H, .int .i64 L, .slice A C c] := R1.out.below hb R1.out.lt
  have qZ : Blk w2 (w.heap.size + 1) 24 #[.int .i64 0, .int .i64 0, .int .i64 0, .slice none 0 0] := Z1.out.below hb Z1.out.lt
  have qB : Below w.heap.size w w2 := Bl.call' B1.out hb
  clear R1 Z1 B1
  have R2 := hide qR
  have Z2 := hide qZ
  have B2 := hide qB
  clear qR qZ qB
  clear hb
  obtain ⟨p0, p1, p2, p3, p4, p5, p6, p7⟩ := R2.out.four
  go_upto_region 6 with (fail)
  go_cut [7] from 27 (fun s7 wx => ∃ pa g : Nat, s7 = .pointer (some ⟨pa, 0, none⟩) ∧ w2.heap.size ≤ pa ∧ w2.heap.size ≤ g ∧ Blk wx pa 24 #[.int .i64 D, .int .i64 0, .int .i64 L, .slice (some ⟨g, 0, none⟩) D D] ∧ wx.ownsRow w2.heap.size 33 2 (.slice (some ⟨g, 0, none⟩) D D) D (flat (List.replicate D (0, 0))) ∧ Below w2.heap.size w2 wx)
  case first =>
    have lR2 := R2.out.lt
    have HP := hide p2
    go_region_held3 (fun w' => w'.cell? ⟨w.heap.size, 2, none⟩ = some (.int .i64 L)) ((refine (below_cell (B := w2.heap.size) ?_ lR2).trans HP.out; (repeat (first | with_reducible exact Below.refl _ _ | with_reducible refine Below.drew ?_ | with_reducible refine Bl.alloc' ?_ _ | with_reducible refine Bl.set4 ?_ (by simp) _ _ _ _)))) (first | fail)
    all_goals
      go_wp2_with (fail)
      go_meet
      first
        | (refine ⟨_, w2.heap.size, rfl, ?_, Nat.le_refl _, (Blk.new_at (by simp) _ _).drew, (World.ownsRow.alloc (own_made HM1.out HM2.out ⟨by omega, hD2⟩ rfl) _).drew, (Bl.alloc' (Bl.alloc' (Below.refl _ _) _) _).drew⟩; omega)
        | (refine ⟨_, w2.heap.size + 1, rfl, Nat.le_refl _, ?_, ((Blk.new _ _ _).alloc _).drew, (own_made HM1.out HM2.out ⟨by omega, hD2⟩ (by simp)).drew, (Bl.alloc' (Bl.alloc' (Below.refl _ _) _) _).drew⟩; omega)
  case rest =>
    clear p0 p1 p2 p3 p4 p5 p6 p7
    clear hmk
    obtain ⟨pa, g, rfl, hpa, hga, hk, ho, hb⟩ := hcut
    obtain ⟨w3, rfl⟩ : ∃ w3 : World, w3 = wc := ⟨_, rfl⟩
    have zs3 := hb.size
    have qR : Blk w3 (w.heap.size) 24 #[.int .i64 C, .int .i64 H, .int .i64 L, .slice A C c] := R2.out.below hb R2.out.lt
    have qZ : Blk w3 (w.heap.size + 1) 24 #[.int .i64 0, .int .i64 0, .int .i64 0, .slice none 0 0] := Z2.out.below hb Z2.out.lt
    have qB : Below w.heap.size w w3 := Bl.call' B2.out hb
    have qT : Blk w3 (pa) 24 #[.int .i64 D, .int .i64 0, .int .i64 L, .slice (some ⟨g, 0, none⟩) D D] := hk
    have qO : World.ownsRow w3 (w2.heap.size) 33 2 (.slice (some ⟨g, 0, none⟩) D D) (D) (flat (List.replicate D (0, 0))) := ho
    clear R2 Z2 B2
    have R3 := hide qR
    have Z3 := hide qZ
    have B3 := hide qB
    have T3 := hide qT
    have O3 := hide qO
    clear qR qZ qB qT qO
    clear hk ho hb
    obtain ⟨p0, p1, p2, p3, p4, p5, p6, p7⟩ := R3.out.four
    obtain ⟨t0, t1, t2, t3, t4, t5, t6, t7⟩ := T3.out.four
    go_upto_region 7 with (fail)
    have lR := R3.out.lt
    have lT := T3.out.lt
    go_region_held3 (fun w' => w'.cell? ⟨w.heap.size, 0, none⟩ = some (.int .i64 C) ∧ w'.cell? ⟨w.heap.size, 1, none⟩ = some (.int .i64 H) ∧ w'.cell? ⟨w.heap.size, 2, none⟩ = some (.int .i64 L) ∧ w'.cell? ⟨w.heap.size, 3, none⟩ = some (.slice A C c) ∧ w'.cell? ⟨pa, 3, none⟩ = some (.slice (some ⟨g, 0, none⟩) D D)) (first | exact ⟨p0, p1, p2, p3, t3⟩ | exact ⟨e0, e1, e2, e3, f3⟩ | exact ⟨h0, h1, h2, h3, k3⟩) (first | (go_at_call 31; refine (C31.out _ B3.out.drew).mono ?_; rintro e w4 ⟨A1, c1, rfl, hown, hbx⟩; have hb4 : Below w3.heap.size w3 w4 := below_undrew hbx; have zs4 := hb4.size; have R4 := hide (R3.out.below hb4 lR); have T4 := hide (T3.out.below hb4 lT); have Z4 := hide (Z3.out.below hb4 Z3.out.lt); have O4 := hide (own_below O3.out hb4); have B4 := hide (Bl.call' B3.out hb4); have S4 := hide (Sl2.own_h hown); obtain ⟨e0, e1, e2, e3, _, _, _, _⟩ := R4.out.four; obtain ⟨_, _, _, f3, _, _, _, _⟩ := T4.out.four; clear hbx hown hb4) | (refine step_copy2 _ (by rfl) (.tmp 34) (.tmp 36) 22 22 (by rfl) 33 g D D A1 L c1 w2.heap.size (List.replicate D (0, 0)) xs Try.underlying22 size33 (by rfl) (by rfl) O4.out S4.out hD ?_; intro w5 hown5 hg5; have zs5 := hg5.size; have hnr : ∀ t, t < w2.heap.size → some t ≠ some g := (fun t ht he => by injection he with he; omega); have R5 := hide (R4.out.grown hg5 (hnr _ (by omega))); have Z5 := hide (Z4.out.grown hg5 (hnr _ (by omega))); have T5 := hide (Blk.gro (v := .slice (some ⟨g, 0, none⟩) D D) hg5 (by decide) O4.out T4.out); have B5 := hide (B4.out.grown hg5 B4.out.size (by intro t ht; injection ht with ht; omega)); have O5 := hide hown5; obtain ⟨h0, h1, h2, h3, _, _, _, _⟩ := R5.out.four; obtain ⟨k0, k1, k2, k3, _, _, _, _⟩ := T5.out.four; clear hg5 hown5))
    clear p0 p1 p2 p3 p4 p5 p6 p7 t0 t1 t2 t3 t4 t5 t6 t7 e0 e1 e2 e3 f3 h0 h1 h2 h3
    obtain ⟨s0, s1, s2, s3, v0, v1, v2, v3⟩ := Z5.out.four
    go_wp2
    refine bodyPost_ret (res2 rfl _ rfl (Z5.out.store4 _ _ _ _)) rfl ?_
    refine ⟨_, D, by rw [HL.out]; rfl, ?_, below_far4 B5.out (by omega) _ _ _ _⟩
    have hdr : (List.replicate D ((0, 0) : Int × Int)).drop L = List.replicate (D - L) (0, 0) := by simp
    have ho := O5.out
    rw [hdr] at ho
    rw [HL0.out]
    exact own_more (own_far4 ho (by omega) _ _ _ _) (by omega)
end Go.Proofs.Ytjbfefkbpnickaa
