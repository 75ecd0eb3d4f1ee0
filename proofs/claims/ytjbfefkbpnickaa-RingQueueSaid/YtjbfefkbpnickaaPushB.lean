/- An element put to the back: the contract. -/
import Derived.Test.YtjbfefkbpnickaaNew
namespace Go.Proofs.Ytjbfefkbpnickaa
open Go.RowKit
set_option linter.unusedVariables false
def PushEnd (C H : Nat) (ys : List (Int × Int)) (w : World) (e : Ending) (w' : World) : Prop :=
  ∃ A c, e = .returned (.tuple #[ringV C H ys.length A C c, .int .i64 0]) ∧ w'.ownsRow w.heap.size 33 2 (.slice A C c) C (flat (cellsL C H ys)) ∧ Below w.heap.size w w'
set_option maxRecDepth 100000 in
set_option maxHeartbeats 400000 in
theorem pushback_ok (C H : Nat) (xs : List (Int × Int)) (A : Option Addr) (c B : Nat) (x : (Int × Int)) (w : World) (h : Sl2 w B A C (cellsL C H xs)) (hB : B ≤ w.heap.size) (hr : Rg C H xs.length (cellsL C H xs) C H xs) (hL : xs.length < C) :
    Calls Try.prog 15 #[ringV C H xs.length A C c, itV x] w (PushEnd C H (xs ++ [x]) w) := by
  have C13 := hide (fun w1 (hb : Below w.heap.size w w1) => validate_any C H xs.length A C c w.heap.size (cellsL C H xs) w1 ((h.more hB).below hb) hb.size)
  have C30 := hide (fun w1 (hb : Below w.heap.size w w1) => copied_any C H xs.length A C c w.heap.size (cellsL C H xs) w1 ((h.more hB).below hb) hb.size (by have := hr.max; omega))
  unfold VEnd at C13
  rw [vV_yes hr.ok] at C13
  have hC1 := hr.one
  have hC2 := hr.max
  have hH := hr.hd
  have HPB := hide (push_back x hH hL)
  have hne : ((xs.length : Int) == C) = false := by simp; omega
  obtain ⟨x1, x2⟩ := x
  generalize hl : xs.length = L at *
  have HL := hide hl
  have HR := hide hr
  clear hr h hl
  unfold ringV at C13 C30
  unfold ringV itV
  have hb0 : Below w.heap.size w (((w.alloc (.cells #[.int .i64 C, .int .i64 H, .int .i64 L, .slice A C c] 24)).alloc (.cells #[.int .i64 x1, .int .i64 x2] 33)).alloc (.cells #[.int .i64 0, .int .i64 0, .int .i64 0, .slice none 0 0] 24)) := (((Below.refl _ _).alloc (Nat.le_refl _) _).alloc (by simp) _).alloc (by simp; omega) _
  have kr0 : Blk (((w.alloc (.cells #[.int .i64 C, .int .i64 H, .int .i64 L, .slice A C c] 24)).alloc (.cells #[.int .i64 x1, .int .i64 x2] 33)).alloc (.cells #[.int .i64 0, .int .i64 0, .int .i64 0, .slice none 0 0] 24)) w.heap.size 24 #[.int .i64 C, .int .i64 H, .int .i64 L, .slice A C c] := ((Blk.new _ _ _).alloc _).alloc _
  have kx0 : Blk (((w.alloc (.cells #[.int .i64 C, .int .i64 H, .int .i64 L, .slice A C c] 24)).alloc (.cells #[.int .i64 x1, .int .i64 x2] 33)).alloc (.cells #[.int .i64 0, .int .i64 0, .int .i64 0, .slice none 0 0] 24)) (w.heap.size + 1) 33 #[.int .i64 x1, .int .i64 x2] := (Blk.new_at (by simp) _ _).alloc _
  have kz0 : Blk (((w.alloc (.cells #[.int .i64 C, .int .i64 H, .int .i64 L, .slice A C c] 24)).alloc (.cells #[.int .i64 x1, .int .i64 x2] 33)).alloc (.cells #[.int .i64 0, .int .i64 0, .int .i64 0, .slice none 0 0] 24)) (w.heap.size + 1 + 1) 24 #[.int .i64 0, .int .i64 0, .int .i64 0, .slice none 0 0] := Blk.new_at (by simp) _ _
  have HB0 := hide hb0
  have KR0 := hide kr0
  have KX0 := hide kx0
  have KZ0 := hide kz0
  clear hb0 kr0 kx0 kz0
  go_enter Try.func15, Try.ntmps15
  go_wp2_with (fail)
  refine (C13.out _ HB0.out).mono ?_
  rintro e w1 ⟨rfl, hb1⟩
  have hs1 := hb1.size
  have hs0 : (((w.alloc (.cells #[.int .i64 C, .int .i64 H, .int .i64 L, .slice A C c] 24)).alloc (.cells #[.int .i64 x1, .int .i64 x2] 33)).alloc (.cells #[.int .i64 0, .int .i64 0, .int .i64 0, .slice none 0 0] 24)).heap.size = w.heap.size + 3 := by simp
  have kr1 := KR0.out.below hb1 (by simp; omega)
  have kx1 := KX0.out.below hb1 (by simp)
  have kz1 := KZ0.out.below hb1 (by simp)
  have hb01 := HB0.out.trans (hb1.mono HB0.out.size)
  have HB01 := hide hb01
  have KR1 := hide kr1
  have KX1 := hide kx1
  have KZ1 := hide kz1
  obtain ⟨g0, g1, g2, g3, f0, f1, f2, f3⟩ := kr1.four
  rw [hs0] at hs1
  clear hb1 kr1 kx1 kz1 hs0 hb01
  go_wp2_with (fail)
  refine (C30.out _ HB01.out).mono ?_
  rintro e w2 ⟨A2, c2, rfl, hown2, hb2⟩
  obtain ⟨g, cap', hv2, hg1, hg2, hg3, hg4⟩ := own_form2 hown2 (by omega)
  obtain ⟨rfl, rfl⟩ : A2 = some ⟨g, 0, none⟩ ∧ c2 = cap' := by simpa using hv2
  clear hv2
  have hs2 := hb2.size
  have kr2 := KR1.out.below hb2 (by omega)
  have kx2 := KX1.out.below hb2 (by omega)
  have kz2 := KZ1.out.below hb2 (by omega)
  have hb02 := HB01.out.trans (hb2.mono HB01.out.size)
  have HB02 := hide hb02
  have KR2 := hide kr2
  have KX2 := hide kx2
  have KZ2 := hide kz2
  have HO2 := hide hown2
  obtain ⟨p0, p1, p2, p3, q0, q1, q2, q3⟩ := kr2.four
  clear hb2 kr2 kx2 kz2 hb02 hown2 g0 g1 g2 g3 f0 f1 f2 f3
  go_wp2_with (fail)
  have kr3 : Blk ((((w2.setCell ⟨w.heap.size, 0, none⟩ (.int .i64 C)).setCell ⟨w.heap.size, 1, none⟩ (.int .i64 H)).setCell ⟨w.heap.size, 2, none⟩ (.int .i64 L)).setCell ⟨w.heap.size, 3, none⟩ (.slice (some ⟨g, 0, none⟩) C c2)) w.heap.size 24 _ := KR2.out.store4 _ _ _ _
  have kx3 : Blk ((((w2.setCell ⟨w.heap.size, 0, none⟩ (.int .i64 C)).setCell ⟨w.heap.size, 1, none⟩ (.int .i64 H)).setCell ⟨w.heap.size, 2, none⟩ (.int .i64 L)).setCell ⟨w.heap.size, 3, none⟩ (.slice (some ⟨g, 0, none⟩) C c2)) (w.heap.size + 1) 33 _ := KX2.out.far4 (by omega) _ _ _ _
  have kz3 : Blk ((((w2.setCell ⟨w.heap.size, 0, none⟩ (.int .i64 C)).setCell ⟨w.heap.size, 1, none⟩ (.int .i64 H)).setCell ⟨w.heap.size, 2, none⟩ (.int .i64 L)).setCell ⟨w.heap.size, 3, none⟩ (.slice (some ⟨g, 0, none⟩) C c2)) (w.heap.size + 1 + 1) 24 _ := KZ2.out.far4 (by omega) _ _ _ _
  have ho3 : (((((w2.setCell ⟨w.heap.size, 0, none⟩ (.int .i64 C)).setCell ⟨w.heap.size, 1, none⟩ (.int .i64 H)).setCell ⟨w.heap.size, 2, none⟩ (.int .i64 L)).setCell ⟨w.heap.size, 3, none⟩ (.slice (some ⟨g, 0, none⟩) C c2))).ownsRow w1.heap.size 33 2 _ _ _ := own_far4 HO2.out (by omega) _ _ _ _
  have hb3 : Below w.heap.size w ((((w2.setCell ⟨w.heap.size, 0, none⟩ (.int .i64 C)).setCell ⟨w.heap.size, 1, none⟩ (.int .i64 H)).setCell ⟨w.heap.size, 2, none⟩ (.int .i64 L)).setCell ⟨w.heap.size, 3, none⟩ (.slice (some ⟨g, 0, none⟩) C c2)) := below_far4 HB02.out (Nat.le_refl _) _ _ _ _
  have hs3 : (((((w2.setCell ⟨w.heap.size, 0, none⟩ (.int .i64 C)).setCell ⟨w.heap.size, 1, none⟩ (.int .i64 H)).setCell ⟨w.heap.size, 2, none⟩ (.int .i64 L)).setCell ⟨w.heap.size, 3, none⟩ (.slice (some ⟨g, 0, none⟩) C c2))).heap.size = w2.heap.size := by simp
  generalize ((((w2.setCell ⟨w.heap.size, 0, none⟩ (.int .i64 C)).setCell ⟨w.heap.size, 1, none⟩ (.int .i64 H)).setCell ⟨w.heap.size, 2, none⟩ (.int .i64 L)).setCell ⟨w.heap.size, 3, none⟩ (.slice (some ⟨g, 0, none⟩) C c2)) = w3 at *
  have KX3 := hide kx3
  have KR3 := hide kr3
  have KZ3 := hide kz3
  have HO3 := hide ho3
  have HB3 := hide hb3
  clear p0 p1 p2 p3 q0 q1 q2 q3
  obtain ⟨p0, p1, p2, p3, q0, q1, q2, q3⟩ := kr3.four
  obtain ⟨y0, y1, _, _⟩ := kx3.two
  clear kx3 kr3 kz3 ho3 hb3
  have C29 := hide (fun w0 => at_nat C H L (some ⟨g, 0, none⟩) C c2 L w0 ⟨hC1, hC2⟩ hH (by omega))
  unfold ringV at C29
  have hk : (H + L) % C < C := Nat.mod_lt _ (by omega)
  generalize (H + L) % C = k at *
  have HEL := hide (List.getElem?_eq_getElem (l := cellsL C H xs) (i := k) (by rw [cellsL_len]; exact hk))
  have hx0 : w.heap.size ≠ g := by omega
  have hx1 : w.heap.size + 1 ≠ g := by omega
  go_region_held3 (fun w' => w'.cell? ⟨w.heap.size, 0, none⟩ = some (.int .i64 C) ∧ w'.cell? ⟨w.heap.size, 1, none⟩ = some (.int .i64 H) ∧ w'.cell? ⟨w.heap.size, 2, none⟩ = some (.int .i64 L) ∧ w'.cell? ⟨w.heap.size, 3, none⟩ = some (.slice (some ⟨g, 0, none⟩) C c2) ∧ w'.cell? ⟨w.heap.size + 1, 0, none⟩ = some (.int .i64 x1) ∧ w'.cell? ⟨w.heap.size + 1, 1, none⟩ = some (.int .i64 x2)) (first | exact ⟨p0, p1, p2, p3, y0, y1⟩ | exact ⟨e0, e1, e2, e3, z0, z1⟩ | exact ⟨cell_far2 hx0 _ _ _ _ _ e0, cell_far2 hx0 _ _ _ _ _ e1, cell_far2 hx0 _ _ _ _ _ e2, cell_far2 hx0 _ _ _ _ _ e3, cell_far2 hx1 _ _ _ _ _ z0, cell_far2 hx1 _ _ _ _ _ z1⟩) (first | (go_at_call 29; refine (C29.out _).mono ?_; rintro e w4 ⟨rfl, hb4⟩; have hb5 : Below w3.heap.size w3 w4 := below_undrew hb4; have hs4 := hb5.size; have kr4 := KR3.out.below hb5 (by omega); have kx4 := KX3.out.below hb5 (by omega); have kz4 := KZ3.out.below hb5 (by omega); have ho4 := own_below HO3.out hb5; obtain ⟨e0, e1, e2, e3, _, _, _, _⟩ := kr4.four; obtain ⟨z0, z1, _, _⟩ := kx4.two; obtain ⟨r0, r1, r2, r3⟩ := row_cells ho4 HEL.out; have KR4 := hide kr4; have KZ4 := hide kz4; have HO4 := hide ho4; have HB4 := hide (HB3.out.trans (hb5.mono HB3.out.size)); clear hb4 hb5 kr4 kx4 kz4 ho4))
  have kr5 : Blk ((w4.setCell ⟨g, k * 2, none⟩ (.int .i64 x1)).setCell ⟨g, k * 2 + 1, none⟩ (.int .i64 x2)) w.heap.size 24 _ := KR4.out.far2 hx0 _ _ _ _
  have kz5 : Blk ((w4.setCell ⟨g, k * 2, none⟩ (.int .i64 x1)).setCell ⟨g, k * 2 + 1, none⟩ (.int .i64 x2)) (w.heap.size + 1 + 1) 24 _ := KZ4.out.far2 (by omega) _ _ _ _
  have ho5 := stored2 HO4.out k (x1, x2)
  rw [HPB.out] at ho5
  have hb5 : Below w.heap.size w ((w4.setCell ⟨g, k * 2, none⟩ (.int .i64 x1)).setCell ⟨g, k * 2 + 1, none⟩ (.int .i64 x2)) := below_far2 HB4.out (by omega) _ _ _ _
  dsimp only at ho5
  generalize ((w4.setCell ⟨g, k * 2, none⟩ (.int .i64 x1)).setCell ⟨g, k * 2 + 1, none⟩ (.int .i64 x2)) = w5 at *
  have KR5 := hide kr5
  have KZ5 := hide kz5
  have HO5 := hide ho5
  have HB5 := hide hb5
  obtain ⟨u0, u1, u2, u3, v0, v1, v2, v3⟩ := kr5.four
  obtain ⟨s0, s1, s2, s3, t0, t1, t2, t3⟩ := kz5.four
  clear p0 p1 p2 p3 q0 q1 q2 q3 e0 e1 e2 e3 y0 y1 z0 z1 r0 r1 r2 r3 kr5 kz5 ho5 hb5
  go_wp2
  have hL2 : (((xs ++ [(x1, x2)]).length : Nat) : Int) = (L : Int) + 1 := by simp [HL.out]
  refine bodyPost_ret (res2 rfl _ rfl ((KZ5.out.far (show w.heap.size + 1 + 1 ≠ w.heap.size by omega) _).store4 _ _ _ _)) rfl ?_
  refine ⟨_, c2, by unfold ringV; rw [hL2]; rfl, ?_, below_far4 (HB5.out.setCell (Nat.le_refl _) _) (by omega) _ _ _ _⟩
  exact own_more (own_far4 (own_far HO5.out (by intro q hq; simp [Value.ownBlock] at hq; simp; omega) _) (by omega) _ _ _ _) (by omega)
def ErrEnd (k : Int) (w : World) (e : Ending) (w' : World) : Prop := e = .returned (.tuple #[(ringV 0 0 0 none 0 0), .int .i64 k]) ∧ Below w.heap.size w w'
set_option maxRecDepth 100000 in
theorem pushback_bad (cap head len : Int) (A : Option Addr) (n c B : Nat) (l : List (Int × Int)) (x : (Int × Int)) (w : World) (h : Sl2 w B A n l) (hB : B ≤ w.heap.size) (hv : ¬ VOk cap head len l) :
    Calls Try.prog 15 #[ringV cap head len A n c, itV x] w (ErrEnd 2 w) := by
  have C13 := hide (fun w1 (hb : Below w.heap.size w w1) => validate_any cap head len A n c w.heap.size l w1 ((h.more hB).below hb) hb.size)
  unfold VEnd at C13
  rw [vV_no hv] at C13
  obtain ⟨x1, x2⟩ := x
  clear h hv
  unfold ringV at C13
  unfold ringV itV
  have hb0 : Below w.heap.size w (((w.alloc (.cells #[.int .i64 cap, .int .i64 head, .int .i64 len, .slice A n c] 24)).alloc (.cells #[.int .i64 x1, .int .i64 x2] 33)).alloc (.cells #[.int .i64 0, .int .i64 0, .int .i64 0, .slice none 0 0] 24)) := (((Below.refl _ _).alloc (Nat.le_refl _) _).alloc (by simp) _).alloc (by simp; omega) _
  have kz0 : Blk (((w.alloc (.cells #[.int .i64 cap, .int .i64 head, .int .i64 len, .slice A n c] 24)).alloc (.cells #[.int .i64 x1, .int .i64 x2] 33)).alloc (.cells #[.int .i64 0, .int .i64 0, .int .i64 0, .slice none 0 0] 24)) (w.heap.size + 1 + 1) 24 #[.int .i64 0, .int .i64 0, .int .i64 0, .slice none 0 0] := Blk.new_at (by simp) _ _
  have HB0 := hide hb0
  have KZ0 := hide kz0
  clear hb0 kz0
  go_enter Try.func15, Try.ntmps15
  go_wp2_with (fail)
  refine (C13.out _ HB0.out).mono ?_
  rintro e w1 ⟨rfl, hb1⟩
  have kz1 := KZ0.out.below hb1 (by simp)
  have hb01 := HB0.out.trans (hb1.mono HB0.out.size)
  have HB01 := hide hb01
  have KZ1 := hide kz1
  obtain ⟨g0, g1, g2, g3, f0, f1, f2, f3⟩ := kz1.four
  clear hb1 kz1 hb01
  go_wp2
  refine bodyPost_ret (res2 rfl _ rfl (KZ1.out.store4 _ _ _ _)) rfl ?_
  exact ⟨rfl, below_far4 HB01.out (by omega) _ _ _ _⟩
set_option maxRecDepth 100000 in
theorem pushback_full (cap head : Int) (A : Option Addr) (n c B : Nat) (l : List (Int × Int)) (x : (Int × Int)) (w : World) (h : Sl2 w B A n l) (hB : B ≤ w.heap.size) (hv : VOk cap head cap l) :
    Calls Try.prog 15 #[ringV cap head cap A n c, itV x] w (ErrEnd 5 w) := by
  have C13 := hide (fun w1 (hb : Below w.heap.size w w1) => validate_any cap head cap A n c w.heap.size l w1 ((h.more hB).below hb) hb.size)
  unfold VEnd at C13
  rw [vV_yes hv] at C13
  obtain ⟨x1, x2⟩ := x
  clear h hv
  unfold ringV at C13
  unfold ringV itV
  have hb0 : Below w.heap.size w (((w.alloc (.cells #[.int .i64 cap, .int .i64 head, .int .i64 cap, .slice A n c] 24)).alloc (.cells #[.int .i64 x1, .int .i64 x2] 33)).alloc (.cells #[.int .i64 0, .int .i64 0, .int .i64 0, .slice none 0 0] 24)) := (((Below.refl _ _).alloc (Nat.le_refl _) _).alloc (by simp) _).alloc (by simp; omega) _
  have kr0 : Blk (((w.alloc (.cells #[.int .i64 cap, .int .i64 head, .int .i64 cap, .slice A n c] 24)).alloc (.cells #[.int .i64 x1, .int .i64 x2] 33)).alloc (.cells #[.int .i64 0, .int .i64 0, .int .i64 0, .slice none 0 0] 24)) w.heap.size 24 #[.int .i64 cap, .int .i64 head, .int .i64 cap, .slice A n c] := ((Blk.new _ _ _).alloc _).alloc _
  have kz0 : Blk (((w.alloc (.cells #[.int .i64 cap, .int .i64 head, .int .i64 cap, .slice A n c] 24)).alloc (.cells #[.int .i64 x1, .int .i64 x2] 33)).alloc (.cells #[.int .i64 0, .int .i64 0, .int .i64 0, .slice none 0 0] 24)) (w.heap.size + 1 + 1) 24 #[.int .i64 0, .int .i64 0, .int .i64 0, .slice none 0 0] := Blk.new_at (by simp) _ _
  have HB0 := hide hb0
  have KR0 := hide kr0
  have KZ0 := hide kz0
  clear hb0 kz0 kr0
  have hee : (cap == cap) = true := by simp
  go_enter Try.func15, Try.ntmps15
  go_wp2_with (fail)
  refine (C13.out _ HB0.out).mono ?_
  rintro e w1 ⟨rfl, hb1⟩
  have kz1 := KZ0.out.below hb1 (by simp)
  have kr1 := KR0.out.below hb1 (by simp; omega)
  have hb01 := HB0.out.trans (hb1.mono HB0.out.size)
  have HB01 := hide hb01
  have KZ1 := hide kz1
  obtain ⟨g0, g1, g2, g3, f0, f1, f2, f3⟩ := kz1.four
  obtain ⟨p0, p1, p2, p3, q0, q1, q2, q3⟩ := kr1.four
  clear hb1 kz1 kr1 hb01
  go_wp2
  refine bodyPost_ret (res2 rfl _ rfl (KZ1.out.store4 _ _ _ _)) rfl ?_
  exact ⟨rfl, below_far4 HB01.out (by omega) _ _ _ _⟩
end Go.Proofs.Ytjbfefkbpnickaa
