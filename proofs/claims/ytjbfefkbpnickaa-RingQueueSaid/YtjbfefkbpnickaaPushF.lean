/- An element put to the front: the contract. -/
import Derived.Test.YtjbfefkbpnickaaPushB
import Derived.Deep.Cut
namespace Go.Proofs.Ytjbfefkbpnickaa
open Go.RowKit
set_option linter.unusedVariables false
set_option maxRecDepth 100000 in
set_option maxHeartbeats 400000 in
theorem pushfront_ok (C H : Nat) (xs : List (Int × Int)) (A : Option Addr) (c B : Nat) (x : (Int × Int)) (w : World) (h : Sl2 w B A C (cellsL C H xs)) (hB : B ≤ w.heap.size) (hr : Rg C H xs.length (cellsL C H xs) C H xs) (hL : xs.length < C) :
    Calls Try.prog 16 #[ringV C H xs.length A C c, itV x] w (PushEnd C ((H + C - 1) % C) (x :: xs) w) := by
  have C13 := hide (fun w1 (hb : Below w.heap.size w w1) => validate_any C H xs.length A C c w.heap.size (cellsL C H xs) w1 ((h.more hB).below hb) hb.size)
  have C30 := hide (fun w1 (hb : Below w.heap.size w w1) => copied_any C H xs.length A C c w.heap.size (cellsL C H xs) w1 ((h.more hB).below hb) hb.size (by have := hr.max; omega))
  unfold VEnd at C13
  rw [vV_yes hr.ok] at C13
  have hC1 := hr.one
  have hC2 := hr.max
  have hH := hr.hd
  have HPB := hide (push_front x hH hL)
  have hne : ((xs.length : Int) == C) = false := by simp; omega
  obtain ⟨x1, x2⟩ := x
  generalize hl : xs.length = L at *
  have HL := hide hl
  have HR := hide hr
  clear hr h hl
  unfold ringV at C13 C30
  unfold ringV itV
  have hb0 : Below w.heap.size w (((w.alloc (.cells #[.int .i64 C, .int .i64 H, .int .i64 L, .slice A C c] 24)).alloc (.cells #[.int .i64 x1, .int .i64 x2] 33)).alloc (.cells #[.int .i64 0, .int .i64 0, .int .i64 0, .slice none 0 0] 24)) := (((Below.refl _ _).alloc (Nat.le_refl _) _).alloc (by simp) _).alloc (by simp; omega) _
  have kr0 : Blk (((w.alloc (.cells #[.int .i64 C, .int .i64 H, .int .i64 L, .slice A C c] 24)).alloc (.cells #[.int .i64 x1, .int .i64 x2] 33)).alloc (.cells #[.int .i64 0, .int .i64 0, .int .i64 0, .slice none 0 0] 24)) w.heap.size 24 #[.int .i64 C, .int .i64 H, .int .i64 L, .slice A C c] := ((Blk.new _ _ _).alloc _).alloc _
  have kx0 : Blk (((w.alloc (.cells #[.int .i64 C, .int .i64 H, .int .i64 L, .slice A C c] 24)).alloc (.cells #[.int .i64 x1, .int .i64 x2] 33)).alloc (.cells #[.int .i64 0, .int .i64 0, .int .i64 0, .slice none 0 0] 24)) (w.heap.size + 1) 33 #[.int .i64 x1, .int .i64 x2] := (Blk.new_at (by simp) _ _).alloc _
  have kz0 : Blk (((w.alloc (.cells #[.int .i64 C, .int .i64 H, .int .i64 L, .slice A C c] 24)).alloc (.cells #[.int .i64 x1, .int .i64 x2] 33)).alloc (.cells #[.int .i64 0, .int .i64 0, .int .i64 0, .slice none 0 0] 24)) (w.heap.size + 1 + 1) 24 #[.int .i64 0, .int .i64 0, .int .i64 0, .slice none 0 0] := Blk.new_at (by simp) _ _
  have HB0 := hide hb0
  have KR0 := hide kr0
  have KX0 := hide kx0
  have KZ0 := hide kz0
  clear hb0 kr0 kx0 kz0
  go_enter Try.func16, Try.ntmps16
  go_wp2_with (fail)
  refine (C13.out _ HB0.out).mono ?_
  rintro e w1 ⟨rfl, hb1⟩
  have hs1 := hb1.size
  have hs0 : (((w.alloc (.cells #[.int .i64 C, .int .i64 H, .int .i64 L, .slice A C c] 24)).alloc (.cells #[.int .i64 x1, .int .i64 x2] 33)).alloc (.cells #[.int .i64 0, .int .i64 0, .int .i64 0, .slice none 0 0] 24)).heap.size = w.heap.size + 3 := by simp
  have kr1 := KR0.out.below hb1 (by simp; omega)
  have kx1 := KX0.out.below hb1 (by simp)
  have kz1 := KZ0.out.below hb1 (by simp)
  have hb01 := HB0.out.trans (hb1.mono HB0.out.size)
  have HB01 := hide hb01
  have KR1 := hide kr1
  have KX1 := hide kx1
  have KZ1 := hide kz1
  obtain ⟨g0, g1, g2, g3, f0, f1, f2, f3⟩ := kr1.four
  rw [hs0] at hs1
  clear hb1 kr1 kx1 kz1 hs0 hb01
  go_wp2_with (fail)
  refine (C30.out _ HB01.out).mono ?_
  rintro e w2 ⟨A2, c2, rfl, hown2, hb2⟩
  obtain ⟨g, cap', hv2, hg1, hg2, hg3, hg4⟩ := own_form2 hown2 (by omega)
  obtain ⟨rfl, rfl⟩ : A2 = some ⟨g, 0, none⟩ ∧ c2 = cap' := by simpa using hv2
  clear hv2
  have hs2 := hb2.size
  have kr2 := KR1.out.below hb2 (by omega)
  have kx2 := KX1.out.below hb2 (by omega)
  have kz2 := KZ1.out.below hb2 (by omega)
  have hb02 := HB01.out.trans (hb2.mono HB01.out.size)
  have HB02 := hide hb02
  have KR2 := hide kr2
  have KX2 := hide kx2
  have KZ2 := hide kz2
  have HO2 := hide hown2
  obtain ⟨p0, p1, p2, p3, q0, q1, q2, q3⟩ := kr2.four
  clear hb2 kr2 kx2 kz2 hb02 hown2 g0 g1 g2 g3 f0 f1 f2 f3
  have hk : (H + C - 1) % C < C := Nat.mod_lt _ (by omega)
  have hk1 : ((H : Int) + C - 1) % C = (((H + C - 1) % C : Nat) : Int) := by rw [show (H : Int) + C - 1 = ((H + C - 1 : Nat) : Int) by omega]; rfl
  generalize (H + C - 1) % C = k at *
  have hx0 : ¬ w.heap.size = g := by omega
  have hx1 : ¬ w.heap.size + 1 = g := by omega
  have hx2 : ¬ w.heap.size + 1 + 1 = g := by omega
  go_upto_region 7 with (fail)
  have kr3 : Blk ((((w2.setCell ⟨w.heap.size, 0, none⟩ (.int .i64 C)).setCell ⟨w.heap.size, 1, none⟩ (.int .i64 H)).setCell ⟨w.heap.size, 2, none⟩ (.int .i64 L)).setCell ⟨w.heap.size, 3, none⟩ (.slice (some ⟨g, 0, none⟩) C c2)) w.heap.size 24 _ := KR2.out.store4 _ _ _ _
  have kx3 : Blk ((((w2.setCell ⟨w.heap.size, 0, none⟩ (.int .i64 C)).setCell ⟨w.heap.size, 1, none⟩ (.int .i64 H)).setCell ⟨w.heap.size, 2, none⟩ (.int .i64 L)).setCell ⟨w.heap.size, 3, none⟩ (.slice (some ⟨g, 0, none⟩) C c2)) (w.heap.size + 1) 33 _ := KX2.out.far4 (by omega) _ _ _ _
  have kz3 : Blk ((((w2.setCell ⟨w.heap.size, 0, none⟩ (.int .i64 C)).setCell ⟨w.heap.size, 1, none⟩ (.int .i64 H)).setCell ⟨w.heap.size, 2, none⟩ (.int .i64 L)).setCell ⟨w.heap.size, 3, none⟩ (.slice (some ⟨g, 0, none⟩) C c2)) (w.heap.size + 1 + 1) 24 _ := KZ2.out.far4 (by omega) _ _ _ _
  have ho3 : (((((w2.setCell ⟨w.heap.size, 0, none⟩ (.int .i64 C)).setCell ⟨w.heap.size, 1, none⟩ (.int .i64 H)).setCell ⟨w.heap.size, 2, none⟩ (.int .i64 L)).setCell ⟨w.heap.size, 3, none⟩ (.slice (some ⟨g, 0, none⟩) C c2))).ownsRow w1.heap.size 33 2 _ _ _ := own_far4 HO2.out (by omega) _ _ _ _
  have hb3 : Below w.heap.size w ((((w2.setCell ⟨w.heap.size, 0, none⟩ (.int .i64 C)).setCell ⟨w.heap.size, 1, none⟩ (.int .i64 H)).setCell ⟨w.heap.size, 2, none⟩ (.int .i64 L)).setCell ⟨w.heap.size, 3, none⟩ (.slice (some ⟨g, 0, none⟩) C c2)) := below_far4 HB02.out (Nat.le_refl _) _ _ _ _
  generalize ((((w2.setCell ⟨w.heap.size, 0, none⟩ (.int .i64 C)).setCell ⟨w.heap.size, 1, none⟩ (.int .i64 H)).setCell ⟨w.heap.size, 2, none⟩ (.int .i64 L)).setCell ⟨w.heap.size, 3, none⟩ (.slice (some ⟨g, 0, none⟩) C c2)) = w3 at *
  have KX3 := hide kx3
  have KR3 := hide kr3
  have KZ3 := hide kz3
  have HO3 := hide ho3
  have HB3 := hide hb3
  clear p0 p1 p2 p3 q0 q1 q2 q3
  obtain ⟨p0, p1, p2, p3, q0, q1, q2, q3⟩ := kr3.four
  clear kx3 kr3 kz3 ho3 hb3
  go_upto_region 8 with (fail)
  have kr4 : Blk (w3.setCell ⟨w.heap.size, 1, none⟩ (.int .i64 k)) w.heap.size 24 #[.int .i64 C, .int .i64 k, .int .i64 L, .slice (some ⟨g, 0, none⟩) C c2] := KR3.out.set_ 1 _
  have kx4 : Blk (w3.setCell ⟨w.heap.size, 1, none⟩ (.int .i64 k)) (w.heap.size + 1) 33 _ := KX3.out.far (show w.heap.size + 1 ≠ w.heap.size by omega) _
  have kz4 : Blk (w3.setCell ⟨w.heap.size, 1, none⟩ (.int .i64 k)) (w.heap.size + 1 + 1) 24 _ := KZ3.out.far (show w.heap.size + 1 + 1 ≠ w.heap.size by omega) _
  have ho4 : ((w3.setCell ⟨w.heap.size, 1, none⟩ (.int .i64 k))).ownsRow w1.heap.size 33 2 _ _ _ := own_far HO3.out (by intro q hq; simp [Value.ownBlock] at hq; simp; omega) _
  have hb4 : Below w.heap.size w (w3.setCell ⟨w.heap.size, 1, none⟩ (.int .i64 k)) := HB3.out.setCell (Nat.le_refl _) _
  generalize (w3.setCell ⟨w.heap.size, 1, none⟩ (.int .i64 k)) = w4 at *
  have KX4 := hide kx4
  have KR4 := hide kr4
  have KZ4 := hide kz4
  have HO4 := hide ho4
  have HB4 := hide hb4
  clear p0 p1 p2 p3 q0 q1 q2 q3
  obtain ⟨p0, p1, p2, p3, q0, q1, q2, q3⟩ := kr4.four
  obtain ⟨y0, y1, _, _⟩ := kx4.two
  obtain ⟨r0, r1, r2, r3⟩ := row_cells HO4.out (List.getElem?_eq_getElem (l := cellsL C H xs) (i := k) (by rw [cellsL_len]; exact hk))
  clear kx4 kr4 kz4 ho4 hb4
  go_upto_region 9 with (fail)
  have kr5 : Blk ((w4.setCell ⟨g, k * 2, none⟩ (.int .i64 x1)).setCell ⟨g, k * 2 + 1, none⟩ (.int .i64 x2)) w.heap.size 24 _ := KR4.out.far2 hx0 _ _ _ _
  have kz5 : Blk ((w4.setCell ⟨g, k * 2, none⟩ (.int .i64 x1)).setCell ⟨g, k * 2 + 1, none⟩ (.int .i64 x2)) (w.heap.size + 1 + 1) 24 _ := KZ4.out.far2 (by omega) _ _ _ _
  have ho5 := stored2 HO4.out k (x1, x2)
  rw [HPB.out] at ho5
  have hb5 : Below w.heap.size w ((w4.setCell ⟨g, k * 2, none⟩ (.int .i64 x1)).setCell ⟨g, k * 2 + 1, none⟩ (.int .i64 x2)) := below_far2 HB4.out (by omega) _ _ _ _
  dsimp only at ho5
  generalize ((w4.setCell ⟨g, k * 2, none⟩ (.int .i64 x1)).setCell ⟨g, k * 2 + 1, none⟩ (.int .i64 x2)) = w5 at *
  have KR5 := hide kr5
  have KZ5 := hide kz5
  have HO5 := hide ho5
  have HB5 := hide hb5
  clear p0 p1 p2 p3 q0 q1 q2 q3 y0 y1 r0 r1 r2 r3
  obtain ⟨u0, u1, u2, u3, v0, v1, v2, v3⟩ := kr5.four
  obtain ⟨s0, s1, s2, s3, t0, t1, t2, t3⟩ := kz5.four
  clear kr5 kz5 ho5 hb5
  go_wp2
  have hL2 : ((((x1, x2) :: xs).length : Nat) : Int) = (L : Int) + 1 := by simp [HL.out]
  refine bodyPost_ret (res2 rfl _ rfl ((KZ5.out.far (show w.heap.size + 1 + 1 ≠ w.heap.size by omega) _).store4 _ _ _ _)) rfl ?_
  refine ⟨_, c2, by unfold ringV; rw [hL2]; rfl, ?_, below_far4 (HB5.out.setCell (Nat.le_refl _) _) (by omega) _ _ _ _⟩
  exact own_more (own_far4 (own_far HO5.out (by intro q hq; simp [Value.ownBlock] at hq; simp; omega) _) (by omega) _ _ _ _) (by omega)
set_option maxRecDepth 100000 in
theorem pushfront_bad (cap head len : Int) (A : Option Addr) (n c B : Nat) (l : List (Int × Int)) (x : (Int × Int)) (w : World) (h : Sl2 w B A n l) (hB : B ≤ w.heap.size) (hv : ¬ VOk cap head len l) :
    Calls Try.prog 16 #[ringV cap head len A n c, itV x] w (ErrEnd 2 w) := by
  have C13 := hide (fun w1 (hb : Below w.heap.size w w1) => validate_any cap head len A n c w.heap.size l w1 ((h.more hB).below hb) hb.size)
  unfold VEnd at C13
  rw [vV_no hv] at C13
  obtain ⟨x1, x2⟩ := x
  clear h hv
  unfold ringV at C13
  unfold ringV itV
  have hb0 : Below w.heap.size w (((w.alloc (.cells #[.int .i64 cap, .int .i64 head, .int .i64 len, .slice A n c] 24)).alloc (.cells #[.int .i64 x1, .int .i64 x2] 33)).alloc (.cells #[.int .i64 0, .int .i64 0, .int .i64 0, .slice none 0 0] 24)) := (((Below.refl _ _).alloc (Nat.le_refl _) _).alloc (by simp) _).alloc (by simp; omega) _
  have kz0 : Blk (((w.alloc (.cells #[.int .i64 cap, .int .i64 head, .int .i64 len, .slice A n c] 24)).alloc (.cells #[.int .i64 x1, .int .i64 x2] 33)).alloc (.cells #[.int .i64 0, .int .i64 0, .int .i64 0, .slice none 0 0] 24)) (w.heap.size + 1 + 1) 24 #[.int .i64 0, .int .i64 0, .int .i64 0, .slice none 0 0] := Blk.new_at (by simp) _ _
  have HB0 := hide hb0
  have KZ0 := hide kz0
  clear hb0 kz0
  go_enter Try.func16, Try.ntmps16
  go_wp2_with (fail)
  refine (C13.out _ HB0.out).mono ?_
  rintro e w1 ⟨rfl, hb1⟩
  have kz1 := KZ0.out.below hb1 (by simp)
  have hb01 := HB0.out.trans (hb1.mono HB0.out.size)
  have HB01 := hide hb01
  have KZ1 := hide kz1
  obtain ⟨g0, g1, g2, g3, f0, f1, f2, f3⟩ := kz1.four
  clear hb1 kz1 hb01
  go_wp2
  refine bodyPost_ret (res2 rfl _ rfl (KZ1.out.store4 _ _ _ _)) rfl ?_
  exact ⟨rfl, below_far4 HB01.out (by omega) _ _ _ _⟩
set_option maxRecDepth 100000 in
theorem pushfront_full (cap head : Int) (A : Option Addr) (n c B : Nat) (l : List (Int × Int)) (x : (Int × Int)) (w : World) (h : Sl2 w B A n l) (hB : B ≤ w.heap.size) (hv : VOk cap head cap l) :
    Calls Try.prog 16 #[ringV cap head cap A n c, itV x] w (ErrEnd 5 w) := by
  have C13 := hide (fun w1 (hb : Below w.heap.size w w1) => validate_any cap head cap A n c w.heap.size l w1 ((h.more hB).below hb) hb.size)
  unfold VEnd at C13
  rw [vV_yes hv] at C13
  obtain ⟨x1, x2⟩ := x
  clear h hv
  unfold ringV at C13
  unfold ringV itV
  have hb0 : Below w.heap.size w (((w.alloc (.cells #[.int .i64 cap, .int .i64 head, .int .i64 cap, .slice A n c] 24)).alloc (.cells #[.int .i64 x1, .int .i64 x2] 33)).alloc (.cells #[.int .i64 0, .int .i64 0, .int .i64 0, .slice none 0 0] 24)) := (((Below.refl _ _).alloc (Nat.le_refl _) _).alloc (by simp) _).alloc (by simp; omega) _
  have kr0 : Blk (((w.alloc (.cells #[.int .i64 cap, .int .i64 head, .int .i64 cap, .slice A n c] 24)).alloc (.cells #[.int .i64 x1, .int .i64 x2] 33)).alloc (.cells #[.int .i64 0, .int .i64 0, .int .i64 0, .slice none 0 0] 24)) w.heap.size 24 #[.int .i64 cap, .int .i64 head, .int .i64 cap, .slice A n c] := ((Blk.new _ _ _).alloc _).alloc _
  have kz0 : Blk (((w.alloc (.cells #[.int .i64 cap, .int .i64 head, .int .i64 cap, .slice A n c] 24)).alloc (.cells #[.int .i64 x1, .int .i64 x2] 33)).alloc (.cells #[.int .i64 0, .int .i64 0, .int .i64 0, .slice none 0 0] 24)) (w.heap.size + 1 + 1) 24 #[.int .i64 0, .int .i64 0, .int .i64 0, .slice none 0 0] := Blk.new_at (by simp) _ _
  have HB0 := hide hb0
  have KR0 := hide kr0
  have KZ0 := hide kz0
  clear hb0 kz0 kr0
  have hee : (cap == cap) = true := by simp
  go_enter Try.func16, Try.ntmps16
  go_wp2_with (fail)
  refine (C13.out _ HB0.out).mono ?_
  rintro e w1 ⟨rfl, hb1⟩
  have kz1 := KZ0.out.below hb1 (by simp)
  have kr1 := KR0.out.below hb1 (by simp; omega)
  have hb01 := HB0.out.trans (hb1.mono HB0.out.size)
  have HB01 := hide hb01
  have KZ1 := hide kz1
  obtain ⟨g0, g1, g2, g3, f0, f1, f2, f3⟩ := kz1.four
  obtain ⟨p0, p1, p2, p3, q0, q1, q2, q3⟩ := kr1.four
  clear hb1 kz1 kr1 hb01
  go_wp2
  refine bodyPost_ret (res2 rfl _ rfl (KZ1.out.store4 _ _ _ _)) rfl ?_
  exact ⟨rfl, below_far4 HB01.out (by omega) _ _ _ _⟩
end Go.Proofs.Ytjbfefkbpnickaa
