/- Element i of a buffer: the contract. -/
import Derived.Test.YtjbfefkbpnickaaHeld
import Derived.Test.YtjbfefkbpnickaaPushF
namespace Go.Proofs.Ytjbfefkbpnickaa
open Go.RowKit
set_option linter.unusedVariables false
def AtEnd (p : Int × Int) (k : Int) (w : World) (e : Ending) (w' : World) : Prop := e = .returned (.tuple #[itV p, .int .i64 k]) ∧ Below w.heap.size w w'
set_option maxRecDepth 100000 in
theorem at_bad (cap head len : Int) (A : Option Addr) (n c B : Nat) (l : List (Int × Int)) (i : Int) (w : World) (h : Sl2 w B A n l) (hB : B ≤ w.heap.size) (hv : ¬ VOk cap head len l) :
    Calls Try.prog 22 #[ringV cap head len A n c, .int .i64 i] w (AtEnd (0, 0) 2 w) := by
  have C13 := hide (fun w1 (hb : Below w.heap.size w w1) => validate_any cap head len A n c w.heap.size l w1 ((h.more hB).below hb) hb.size)
  unfold VEnd at C13
  rw [vV_no hv] at C13
  clear h hv
  unfold ringV at C13
  unfold ringV
  go_enter Try.func22, Try.ntmps22
  go_upto_region 1 with (fail)
  have qR : Blk ((w.alloc (.cells #[.int .i64 cap, .int .i64 head, .int .i64 len, .slice A n c] 24)).alloc (.cells #[.int .i64 0, .int .i64 0] 33)) (w.heap.size) 24 #[.int .i64 cap, .int .i64 head, .int .i64 len, .slice A n c] := (Blk.new _ _ _).alloc _
  have qY : Blk ((w.alloc (.cells #[.int .i64 cap, .int .i64 head, .int .i64 len, .slice A n c] 24)).alloc (.cells #[.int .i64 0, .int .i64 0] 33)) (w.heap.size + 1) 33 #[.int .i64 0, .int .i64 0] := Blk.new_at (by simp) _ _
  have qB : Below w.heap.size w ((w.alloc (.cells #[.int .i64 cap, .int .i64 head, .int .i64 len, .slice A n c] 24)).alloc (.cells #[.int .i64 0, .int .i64 0] 33)) := Bl.alloc' (Bl.alloc' (Below.refl _ _) _) _
  have z1 : ((w.alloc (.cells #[.int .i64 cap, .int .i64 head, .int .i64 len, .slice A n c] 24)).alloc (.cells #[.int .i64 0, .int .i64 0] 33)).heap.size = w.heap.size + 2 := by simp
  generalize ((w.alloc (.cells #[.int .i64 cap, .int .i64 head, .int .i64 len, .slice A n c] 24)).alloc (.cells #[.int .i64 0, .int .i64 0] 33)) = w1 at *
  have zi1 : w1.heap.size ≤ w.heap.size + 2 ∧ w.heap.size + 2 ≤ w1.heap.size := by omega
  clear z1
  have R1 := hide qR
  have Y1 := hide qY
  have B1 := hide qB
  clear qR qY qB
  obtain ⟨p0, p1, p2, p3, p4, p5, p6, p7⟩ := R1.out.four
  go_wp2_with (fail)
  refine (C13.out _ B1.out).mono ?_
  rintro e w2 ⟨rfl, hb⟩
  have zs2 := hb.size
  clear p0 p1 p2 p3 p4 p5 p6 p7
  have qR : Blk w2 (w.heap.size) 24 #[.int .i64 cap, .int .i64 head, .int .i64 len, .slice A n c] := R1.out.below hb R1.out.lt
  have qY : Blk w2 (w.heap.size + 1) 33 #[.int .i64 0, .int .i64 0] := Y1.out.below hb Y1.out.lt
  have qB : Below w.heap.size w w2 := Bl.call' B1.out hb
  clear R1 Y1 B1
  have R2 := hide qR
  have Y2 := hide qY
  have B2 := hide qB
  clear qR qY qB
  clear hb
  obtain ⟨p0, p1, p2, p3, p4, p5, p6, p7⟩ := R2.out.four
  obtain ⟨u0, u1, u2, u3⟩ := Y2.out.two
  go_wp2
  refine bodyPost_ret (resI rfl _ rfl (Y2.out.store2 _ _)) rfl ?_
  exact ⟨rfl, below_far2 B2.out (by omega) _ _ _ _⟩
set_option maxRecDepth 100000 in
theorem at_neg (cap head len : Int) (A : Option Addr) (n c B : Nat) (l : List (Int × Int)) (i : Int) (w : World) (h : Sl2 w B A n l) (hB : B ≤ w.heap.size) (hv : VOk cap head len l) (hi : i < 0) :
    Calls Try.prog 22 #[ringV cap head len A n c, .int .i64 i] w (AtEnd (0, 0) 1 w) := by
  have C13 := hide (fun w1 (hb : Below w.heap.size w w1) => validate_any cap head len A n c w.heap.size l w1 ((h.more hB).below hb) hb.size)
  unfold VEnd at C13
  rw [vV_yes hv] at C13
  have hd : decide (i < 0) = true := by simpa using hi
  clear h hv
  unfold ringV at C13
  unfold ringV
  go_enter Try.func22, Try.ntmps22
  go_upto_region 1 with (fail)
  have qR : Blk ((w.alloc (.cells #[.int .i64 cap, .int .i64 head, .int .i64 len, .slice A n c] 24)).alloc (.cells #[.int .i64 0, .int .i64 0] 33)) (w.heap.size) 24 #[.int .i64 cap, .int .i64 head, .int .i64 len, .slice A n c] := (Blk.new _ _ _).alloc _
  have qY : Blk ((w.alloc (.cells #[.int .i64 cap, .int .i64 head, .int .i64 len, .slice A n c] 24)).alloc (.cells #[.int .i64 0, .int .i64 0] 33)) (w.heap.size + 1) 33 #[.int .i64 0, .int .i64 0] := Blk.new_at (by simp) _ _
  have qB : Below w.heap.size w ((w.alloc (.cells #[.int .i64 cap, .int .i64 head, .int .i64 len, .slice A n c] 24)).alloc (.cells #[.int .i64 0, .int .i64 0] 33)) := Bl.alloc' (Bl.alloc' (Below.refl _ _) _) _
  have z1 : ((w.alloc (.cells #[.int .i64 cap, .int .i64 head, .int .i64 len, .slice A n c] 24)).alloc (.cells #[.int .i64 0, .int .i64 0] 33)).heap.size = w.heap.size + 2 := by simp
  generalize ((w.alloc (.cells #[.int .i64 cap, .int .i64 head, .int .i64 len, .slice A n c] 24)).alloc (.cells #[.int .i64 0, .int .i64 0] 33)) = w1 at *
  have zi1 : w1.heap.size ≤ w.heap.size + 2 ∧ w.heap.size + 2 ≤ w1.heap.size := by omega
  clear z1
  have R1 := hide qR
  have Y1 := hide qY
  have B1 := hide qB
  clear qR qY qB
  obtain ⟨p0, p1, p2, p3, p4, p5, p6, p7⟩ := R1.out.four
  go_wp2_with (fail)
  refine (C13.out _ B1.out).mono ?_
  rintro e w2 ⟨rfl, hb⟩
  have zs2 := hb.size
  clear p0 p1 p2 p3 p4 p5 p6 p7
  have qR : Blk w2 (w.heap.size) 24 #[.int .i64 cap, .int .i64 head, .int .i64 len, .slice A n c] := R1.out.below hb R1.out.lt
  have qY : Blk w2 (w.heap.size + 1) 33 #[.int .i64 0, .int .i64 0] := Y1.out.below hb Y1.out.lt
  have qB : Below w.heap.size w w2 := Bl.call' B1.out hb
  clear R1 Y1 B1
  have R2 := hide qR
  have Y2 := hide qY
  have B2 := hide qB
  clear qR qY qB
  clear hb
  obtain ⟨p0, p1, p2, p3, p4, p5, p6, p7⟩ := R2.out.four
  obtain ⟨u0, u1, u2, u3⟩ := Y2.out.two
  go_wp2
  refine bodyPost_ret (resI rfl _ rfl (Y2.out.store2 _ _)) rfl ?_
  exact ⟨rfl, below_far2 B2.out (by omega) _ _ _ _⟩
set_option maxRecDepth 100000 in
theorem at_over (cap head len : Int) (A : Option Addr) (n c B : Nat) (l : List (Int × Int)) (i : Int) (w : World) (h : Sl2 w B A n l) (hB : B ≤ w.heap.size) (hv : VOk cap head len l) (hi : 0 ≤ i) (hi2 : len ≤ i) :
    Calls Try.prog 22 #[ringV cap head len A n c, .int .i64 i] w (AtEnd (0, 0) 1 w) := by
  have C13 := hide (fun w1 (hb : Below w.heap.size w w1) => validate_any cap head len A n c w.heap.size l w1 ((h.more hB).below hb) hb.size)
  unfold VEnd at C13
  rw [vV_yes hv] at C13
  have hd : decide (i < 0) = false := by simpa using hi
  have hd2 : decide (len ≤ i) = true := by simpa using hi2
  clear h hv
  unfold ringV at C13
  unfold ringV
  go_enter Try.func22, Try.ntmps22
  go_upto_region 1 with (fail)
  have qR : Blk ((w.alloc (.cells #[.int .i64 cap, .int .i64 head, .int .i64 len, .slice A n c] 24)).alloc (.cells #[.int .i64 0, .int .i64 0] 33)) (w.heap.size) 24 #[.int .i64 cap, .int .i64 head, .int .i64 len, .slice A n c] := (Blk.new _ _ _).alloc _
  have qY : Blk ((w.alloc (.cells #[.int .i64 cap, .int .i64 head, .int .i64 len, .slice A n c] 24)).alloc (.cells #[.int .i64 0, .int .i64 0] 33)) (w.heap.size + 1) 33 #[.int .i64 0, .int .i64 0] := Blk.new_at (by simp) _ _
  have qB : Below w.heap.size w ((w.alloc (.cells #[.int .i64 cap, .int .i64 head, .int .i64 len, .slice A n c] 24)).alloc (.cells #[.int .i64 0, .int .i64 0] 33)) := Bl.alloc' (Bl.alloc' (Below.refl _ _) _) _
  have z1 : ((w.alloc (.cells #[.int .i64 cap, .int .i64 head, .int .i64 len, .slice A n c] 24)).alloc (.cells #[.int .i64 0, .int .i64 0] 33)).heap.size = w.heap.size + 2 := by simp
  generalize ((w.alloc (.cells #[.int .i64 cap, .int .i64 head, .int .i64 len, .slice A n c] 24)).alloc (.cells #[.int .i64 0, .int .i64 0] 33)) = w1 at *
  have zi1 : w1.heap.size ≤ w.heap.size + 2 ∧ w.heap.size + 2 ≤ w1.heap.size := by omega
  clear z1
  have R1 := hide qR
  have Y1 := hide qY
  have B1 := hide qB
  clear qR qY qB
  obtain ⟨p0, p1, p2, p3, p4, p5, p6, p7⟩ := R1.out.four
  go_wp2_with (fail)
  refine (C13.out _ B1.out).mono ?_
  rintro e w2 ⟨rfl, hb⟩
  have zs2 := hb.size
  clear p0 p1 p2 p3 p4 p5 p6 p7
  have qR : Blk w2 (w.heap.size) 24 #[.int .i64 cap, .int .i64 head, .int .i64 len, .slice A n c] := R1.out.below hb R1.out.lt
  have qY : Blk w2 (w.heap.size + 1) 33 #[.int .i64 0, .int .i64 0] := Y1.out.below hb Y1.out.lt
  have qB : Below w.heap.size w w2 := Bl.call' B1.out hb
  clear R1 Y1 B1
  have R2 := hide qR
  have Y2 := hide qY
  have B2 := hide qB
  clear qR qY qB
  clear hb
  obtain ⟨p0, p1, p2, p3, p4, p5, p6, p7⟩ := R2.out.four
  obtain ⟨u0, u1, u2, u3⟩ := Y2.out.two
  go_wp2
  refine bodyPost_ret (resI rfl _ rfl (Y2.out.store2 _ _)) rfl ?_
  exact ⟨rfl, below_far2 B2.out (by omega) _ _ _ _⟩
set_option maxRecDepth 100000 in
set_option maxHeartbeats 1000000 in
theorem at_in (C H : Nat) (xs : List (Int × Int)) (A : Option Addr) (c B : Nat) (i : Nat) (p : Int × Int) (w : World) (h : Sl2 w B A C (cellsL C H xs)) (hB : B ≤ w.heap.size) (hr : Rg C H xs.length (cellsL C H xs) C H xs) (hp : xs[i]? = some p) :
    Calls Try.prog 22 #[ringV C H xs.length A C c, .int .i64 i] w (AtEnd p 0 w) := by
  have C13 := hide (fun w1 (hb : Below w.heap.size w w1) => validate_any C H xs.length A C c w.heap.size (cellsL C H xs) w1 ((h.more hB).below hb) hb.size)
  unfold VEnd at C13
  rw [vV_yes hr.ok] at C13
  have hC1 := hr.one
  have hC2 := hr.max
  have hH := hr.hd
  have hil : i < xs.length := (List.getElem?_eq_some_iff.1 hp).1
  have hL := hr.fits
  have hcell := cellsL_elem (xs := xs) (i := i) hH (by omega)
  rw [List.getD_eq_getElem?_getD, hp] at hcell
  have hd : decide ((i : Int) < 0) = false := by simp
  have hd2 : decide ((xs.length : Int) ≤ i) = false := by simp; omega
  have HSL := hide (h.more hB)
  have C29 := hide (fun (w0 : World) => at_nat C H xs.length A C c i w0 ⟨hC1, hC2⟩ hH (by omega))
  obtain ⟨x1, x2⟩ := p
  have hk : (H + i) % C < C := Nat.mod_lt _ (by omega)
  generalize (H + i) % C = k at *
  obtain ⟨b, o, y1, y2, rfl, hbB, hp2, hc1, hc2⟩ := HSL.out.at_ hk
  obtain ⟨rfl, rfl⟩ : y1 = x1 ∧ y2 = x2 := by rw [hp2] at hcell; simpa using hcell
  generalize xs.length = L at *
  have hc : w.cell? ⟨b, o + k * 2, none⟩ = some (.int .i64 y1) ∧ w.cell? ⟨b, o + k * 2 + 1, none⟩ = some (.int .i64 y2) := ⟨hc1, hc2⟩
  have HC := hide hc
  clear hr h hc1 hc2 hc hp hp2 hcell HSL
  unfold ringV at C13 C29
  unfold ringV
  go_enter Try.func22, Try.ntmps22
  go_upto_region 1 with (fail)
  have qR : Blk ((w.alloc (.cells #[.int .i64 C, .int .i64 H, .int .i64 L, .slice (some ⟨b, o, none⟩) C c] 24)).alloc (.cells #[.int .i64 0, .int .i64 0] 33)) (w.heap.size) 24 #[.int .i64 C, .int .i64 H, .int .i64 L, .slice (some ⟨b, o, none⟩) C c] := (Blk.new _ _ _).alloc _
  have qY : Blk ((w.alloc (.cells #[.int .i64 C, .int .i64 H, .int .i64 L, .slice (some ⟨b, o, none⟩) C c] 24)).alloc (.cells #[.int .i64 0, .int .i64 0] 33)) (w.heap.size + 1) 33 #[.int .i64 0, .int .i64 0] := Blk.new_at (by simp) _ _
  have qB : Below w.heap.size w ((w.alloc (.cells #[.int .i64 C, .int .i64 H, .int .i64 L, .slice (some ⟨b, o, none⟩) C c] 24)).alloc (.cells #[.int .i64 0, .int .i64 0] 33)) := Bl.alloc' (Bl.alloc' (Below.refl _ _) _) _
  have z1 : ((w.alloc (.cells #[.int .i64 C, .int .i64 H, .int .i64 L, .slice (some ⟨b, o, none⟩) C c] 24)).alloc (.cells #[.int .i64 0, .int .i64 0] 33)).heap.size = w.heap.size + 2 := by simp
  generalize ((w.alloc (.cells #[.int .i64 C, .int .i64 H, .int .i64 L, .slice (some ⟨b, o, none⟩) C c] 24)).alloc (.cells #[.int .i64 0, .int .i64 0] 33)) = w1 at *
  have zi1 : w1.heap.size ≤ w.heap.size + 2 ∧ w.heap.size + 2 ≤ w1.heap.size := by omega
  clear z1
  have R1 := hide qR
  have Y1 := hide qY
  have B1 := hide qB
  clear qR qY qB
  obtain ⟨p0, p1, p2, p3, p4, p5, p6, p7⟩ := R1.out.four
  go_wp2_with (fail)
  refine (C13.out _ B1.out).mono ?_
  rintro e w2 ⟨rfl, hb⟩
  have zs2 := hb.size
  clear p0 p1 p2 p3 p4 p5 p6 p7
  have qR : Blk w2 (w.heap.size) 24 #[.int .i64 C, .int .i64 H, .int .i64 L, .slice (some ⟨b, o, none⟩) C c] := R1.out.below hb R1.out.lt
  have qY : Blk w2 (w.heap.size + 1) 33 #[.int .i64 0, .int .i64 0] := Y1.out.below hb Y1.out.lt
  have qB : Below w.heap.size w w2 := Bl.call' B1.out hb
  clear R1 Y1 B1
  have R2 := hide qR
  have Y2 := hide qY
  have B2 := hide qB
  clear qR qY qB
  clear hb
  obtain ⟨p0, p1, p2, p3, p4, p5, p6, p7⟩ := R2.out.four
  go_upto_region 6 with (fail)
  have hcc : w2.cell? ⟨b, o + k * 2, none⟩ = some (.int .i64 y1) ∧ w2.cell? ⟨b, o + k * 2 + 1, none⟩ = some (.int .i64 y2) := ⟨(below_cell B2.out hbB).trans HC.out.1, (below_cell B2.out hbB).trans HC.out.2⟩
  obtain ⟨c1, c2⟩ := hcc
  have hbs : b < w2.heap.size := by omega
  go_region_held3 (fun w' => w'.cell? ⟨w.heap.size, 0, none⟩ = some (.int .i64 C) ∧ w'.cell? ⟨w.heap.size, 1, none⟩ = some (.int .i64 H) ∧ w'.cell? ⟨w.heap.size, 2, none⟩ = some (.int .i64 L) ∧ w'.cell? ⟨w.heap.size, 3, none⟩ = some (.slice (some ⟨b, o, none⟩) C c) ∧ w'.cell? ⟨b, o + k * 2, none⟩ = some (.int .i64 y1) ∧ w'.cell? ⟨b, o + k * 2 + 1, none⟩ = some (.int .i64 y2)) (first | exact ⟨p0, p1, p2, p3, c1, c2⟩ | exact ⟨e0, e1, e2, e3, d1, d2⟩ | exact ⟨cell_far2 (by omega) _ _ _ _ _ e0, cell_far2 (by omega) _ _ _ _ _ e1, cell_far2 (by omega) _ _ _ _ _ e2, cell_far2 (by omega) _ _ _ _ _ e3, cell_far2 (by omega) _ _ _ _ _ d1, cell_far2 (by omega) _ _ _ _ _ d2⟩) (first | (go_at_call 29; refine (C29.out _).mono ?_; rintro e w3 ⟨rfl, hb4⟩; have hb5 : Below w2.heap.size w2 w3 := below_undrew hb4; have R3 := hide (R2.out.below hb5 R2.out.lt); have Y3 := hide (Y2.out.below hb5 Y2.out.lt); have B3 := hide (Bl.call' B2.out hb5); obtain ⟨e0, e1, e2, e3, _, _, _, _⟩ := R3.out.four; obtain ⟨v0, v1, v2, v3⟩ := Y3.out.two; have d1 := (below_cell hb5 hbs).trans c1; have d2 := (below_cell hb5 hbs).trans c2; clear hb4 hb5))
  go_wp2
  refine bodyPost_ret (resI rfl _ rfl (Y3.out.store2 _ _)) rfl ?_
  exact ⟨rfl, below_far2 B3.out (by omega) _ _ _ _⟩
end Go.Proofs.Ytjbfefkbpnickaa
