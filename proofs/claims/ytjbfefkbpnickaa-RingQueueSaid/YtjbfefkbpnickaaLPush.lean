/- The walk of the law on elements put to the back and to the front, in its cases. -/
import Derived.Test.YtjbfefkbpnickaaLNew
import Derived.Test.YtjbfefkbpnickaaItems2
import Derived.Test.YtjbfefkbpnickaaOf
import Derived.Test.YtjbfefkbpnickaaFew
namespace Go.Proofs.Ytjbfefkbpnickaa
open Go.RowKit
set_option linter.unusedVariables false
def TrueEnd (w : World) (e : Ending) (w' : World) : Prop := e = .returned (.bool true) ∧ Below w.heap.size w w'
set_option maxRecDepth 100000 in
theorem push_many (cap head len : Int) (A : Option Addr) (n c : Nat) (x : Int × Int) (w : World) (hn : 200 < n) :
    Calls Try.prog 4 #[ringV cap head len A n c, itV x] w (TrueEnd w) := by
  have C12 := hide awake_any
  have C14 := hide (fun w0 => few_any cap head len A n c w0)
  unfold FewEnd at C14
  rw [decide_eq_false (by omega)] at C14
  obtain ⟨x1, x2⟩ := x
  unfold ringV at C14
  unfold ringV itV
  go_enter Try.func4, Try.ntmps4
  go_wp2_with (fail)
  have hb0 : Below w.heap.size w ((w.alloc (.cells #[.int .i64 cap, .int .i64 head, .int .i64 len, .slice A n c] 24)).alloc (.cells #[.int .i64 x1, .int .i64 x2] 33)) := ((Below.refl _ _).alloc (Nat.le_refl _) _).alloc (by simp) _
  refine (C14.out _).mono ?_
  rintro e w1 ⟨rfl, hb1⟩
  have hb01 := hb0.trans (hb1.mono hb0.size)
  have HB := hide hb01
  clear hb0 hb1 hb01
  go_wp2_with (fail)
  refine (C12.out _).mono ?_
  rintro e w2 ⟨rfl, hb2⟩
  have hb02 := HB.out.trans (hb2.mono HB.out.size)
  clear hb2
  go_wp2
  go_ret
  exact ⟨rfl, hb02⟩
set_option maxRecDepth 100000 in
set_option maxHeartbeats 800000 in
theorem push_bad (cap head len : Int) (A : Option Addr) (n c : Nat) (l : List (Int × Int)) (x : Int × Int) (w : World) (h : Sl2 w w.heap.size A n l) (hn : n ≤ 200) (hv : ¬ VOk cap head len l) :
    Calls Try.prog 4 #[ringV cap head len A n c, itV x] w (TrueEnd w) := by
  have C12 := hide awake_any
  have C11 := hide same_zero
  have C14 := hide (fun w0 => few_any cap head len A n c w0)
  unfold FewEnd at C14
  rw [decide_eq_true (by omega)] at C14
  have C15 := hide (fun w0 (hb : Below w.heap.size w w0) => pushback_bad cap head len A n c _ l x w0 (h.below hb) hb.size hv)
  have C16 := hide (fun w0 (hb : Below w.heap.size w w0) => pushfront_bad cap head len A n c _ l x w0 (h.below hb) hb.size hv)
  have C17 := hide (fun w0 (hb : Below w.heap.size w w0) => rvalidate_any cap head len A n c _ l w0 (h.below hb) hb.size)
  have C18 := hide (fun w0 (hb : Below w.heap.size w w0) => ritems_bad cap head len A n c _ l w0 (h.below hb) hb.size hv)
  unfold VEnd at C17
  rw [vV_no hv] at C17
  unfold ErrEnd at C15 C16
  obtain ⟨x1, x2⟩ := x
  unfold ringV itV at C15 C16
  unfold ringV at C14 C17 C18
  unfold ringV itV
  clear h hv
  have hb0 : Below w.heap.size w ((w.alloc (.cells #[.int .i64 cap, .int .i64 head, .int .i64 len, .slice A n c] 24)).alloc (.cells #[.int .i64 x1, .int .i64 x2] 33)) := ((Below.refl _ _).alloc (Nat.le_refl _) _).alloc (by simp) _
  have kr0 : Blk ((w.alloc (.cells #[.int .i64 cap, .int .i64 head, .int .i64 len, .slice A n c] 24)).alloc (.cells #[.int .i64 x1, .int .i64 x2] 33)) w.heap.size 24 #[.int .i64 cap, .int .i64 head, .int .i64 len, .slice A n c] := (Blk.new _ _ _).alloc _
  have kx0 : Blk ((w.alloc (.cells #[.int .i64 cap, .int .i64 head, .int .i64 len, .slice A n c] 24)).alloc (.cells #[.int .i64 x1, .int .i64 x2] 33)) (w.heap.size + 1) 33 #[.int .i64 x1, .int .i64 x2] := Blk.new_at (by simp) _ _
  have HB0 := hide hb0
  have KR0 := hide kr0
  have KX0 := hide kx0
  clear hb0 kr0 kx0
  go_enter Try.func4, Try.ntmps4
  go_wp2_with (fail)
  refine (C14.out _).mono ?_
  rintro e w1 ⟨rfl, hb1⟩
  have kr1 := KR0.out.below hb1 KR0.out.lt
  have kx1 := KX0.out.below hb1 KX0.out.lt
  have HB1 := hide (HB0.out.trans (hb1.mono HB0.out.size))
  have KR1 := hide kr1
  have KX1 := hide kx1
  obtain ⟨g0, g1, g2, g3, _, _, _, _⟩ := kr1.four
  obtain ⟨y0, y1, _, _⟩ := kx1.two
  clear hb1 kr1 kx1
  go_wp2_with (fail)
  refine (C15.out _ HB1.out).mono ?_
  rintro e w2 ⟨rfl, hb2⟩
  have kr2 := KR1.out.below hb2 KR1.out.lt
  have kx2 := KX1.out.below hb2 KX1.out.lt
  have HB2 := hide (HB1.out.trans (hb2.mono HB1.out.size))
  have KR2 := hide kr2
  have KX2 := hide kx2
  clear g0 g1 g2 g3 y0 y1 hb2
  go_upto_region 4 with (fail)
  have kra : Blk (w2.alloc (.cells #[.int .i64 0, .int .i64 0, .int .i64 0, .slice none 0 0] 24)) w.heap.size 24 _ := KR2.out.alloc _
  have kxa : Blk (w2.alloc (.cells #[.int .i64 0, .int .i64 0, .int .i64 0, .slice none 0 0] 24)) (w.heap.size + 1) 33 _ := KX2.out.alloc _
  have kaa : Blk (w2.alloc (.cells #[.int .i64 0, .int .i64 0, .int .i64 0, .slice none 0 0] 24)) w2.heap.size 24 #[.int .i64 0, .int .i64 0, .int .i64 0, .slice none 0 0] := Blk.new _ _ _
  have hba : Below w.heap.size w (w2.alloc (.cells #[.int .i64 0, .int .i64 0, .int .i64 0, .slice none 0 0] 24)) := HB2.out.alloc HB2.out.size _
  generalize (w2.alloc (.cells #[.int .i64 0, .int .i64 0, .int .i64 0, .slice none 0 0] 24)) = wa at *
  have KRa := hide kra
  have KXa := hide kxa
  have KAa := hide kaa
  have HBa := hide hba
  clear kra kxa kaa hba
  obtain ⟨g0, g1, g2, g3, _, _, _, _⟩ := KRa.out.four
  obtain ⟨y0, y1, _, _⟩ := KXa.out.two
  go_wp2_with (fail)
  refine (C16.out _ HBa.out).mono ?_
  rintro e w3 ⟨rfl, hb3⟩
  have KR3 := hide (KRa.out.below hb3 KRa.out.lt)
  have KA3 := hide (KAa.out.below hb3 KAa.out.lt)
  have HB3 := hide (HBa.out.trans (hb3.mono HBa.out.size))
  clear g0 g1 g2 g3 y0 y1 hb3
  go_upto_region 5 with (fail)
  have krb : Blk (w3.alloc (.cells #[.int .i64 0, .int .i64 0, .int .i64 0, .slice none 0 0] 24)) w.heap.size 24 _ := KR3.out.alloc _
  have kab : Blk (w3.alloc (.cells #[.int .i64 0, .int .i64 0, .int .i64 0, .slice none 0 0] 24)) w2.heap.size 24 _ := KA3.out.alloc _
  have kbb : Blk (w3.alloc (.cells #[.int .i64 0, .int .i64 0, .int .i64 0, .slice none 0 0] 24)) w3.heap.size 24 #[.int .i64 0, .int .i64 0, .int .i64 0, .slice none 0 0] := Blk.new _ _ _
  have hbb : Below w.heap.size w (w3.alloc (.cells #[.int .i64 0, .int .i64 0, .int .i64 0, .slice none 0 0] 24)) := HB3.out.alloc HB3.out.size _
  generalize (w3.alloc (.cells #[.int .i64 0, .int .i64 0, .int .i64 0, .slice none 0 0] 24)) = wb at *
  have KRb := hide krb
  have KAb := hide kab
  have KBb := hide kbb
  have HBb := hide hbb
  clear krb kab kbb hbb
  obtain ⟨g0, g1, g2, g3, _, _, _, _⟩ := KRb.out.four
  go_region_held3 (fun w' => w'.cell? ⟨w.heap.size, 0, none⟩ = some (.int .i64 cap) ∧ w'.cell? ⟨w.heap.size, 1, none⟩ = some (.int .i64 head) ∧ w'.cell? ⟨w.heap.size, 2, none⟩ = some (.int .i64 len) ∧ w'.cell? ⟨w.heap.size, 3, none⟩ = some (.slice A n c)) (first | exact ⟨g0, g1, g2, g3⟩ | exact ⟨e0, e1, e2, e3⟩ | exact ⟨u0, u1, u2, u3⟩) (first | (go_at_call 17; refine (C17.out _ HBb.out.drew).mono ?_; rintro e w4 ⟨rfl, hb4⟩; have hb5 : Below wb.heap.size wb w4 := below_undrew hb4; have KR4 := hide (KRb.out.below hb5 KRb.out.lt); have KA4 := hide (KAb.out.below hb5 KAb.out.lt); have KB4 := hide (KBb.out.below hb5 KBb.out.lt); have HB4 := hide (HBb.out.trans (hb5.mono HBb.out.size)); obtain ⟨e0, e1, e2, e3, _, _, _, _⟩ := KR4.out.four; clear hb4 hb5) | (go_at_call 18; refine (C18.out _ HB4.out).mono ?_; rintro e w5 ⟨rfl, hb5⟩; have KR5 := hide (KR4.out.below hb5 KR4.out.lt); have KA5 := hide (KA4.out.below hb5 KA4.out.lt); have KB5 := hide (KB4.out.below hb5 KB4.out.lt); have HB5 := hide (HB4.out.trans (hb5.mono HB4.out.size)); obtain ⟨u0, u1, u2, u3, _, _, _, _⟩ := KR5.out.four; clear hb5))
  obtain ⟨a0, a1, a2, a3, _, _, _, _⟩ := KA5.out.four
  clear g0 g1 g2 g3 e0 e1 e2 e3
  go_wp2_with (fail)
  refine (C11.out _).mono ?_
  rintro e w6 ⟨rfl, hb6⟩
  have KB6 := hide (KB5.out.below hb6 KB5.out.lt)
  have HB6 := hide (HB5.out.trans (hb6.mono HB5.out.size))
  clear a0 a1 a2 a3 u0 u1 u2 u3 hb6
  obtain ⟨a0, a1, a2, a3, _, _, _, _⟩ := KB6.out.four
  go_wp2_with (fail)
  refine (C11.out _).mono ?_
  rintro e w7 ⟨rfl, hb7⟩
  have HB7 := hide (HB6.out.trans (hb7.mono HB6.out.size))
  clear a0 a1 a2 a3 hb7
  go_wp2_with (fail)
  refine (C12.out _).mono ?_
  rintro e w8 ⟨rfl, hb8⟩
  have hb9 := HB7.out.trans (hb8.mono HB7.out.size)
  clear hb8
  go_wp2
  go_ret
  exact ⟨rfl, hb9⟩
set_option maxRecDepth 100000 in
set_option maxHeartbeats 800000 in
theorem push_full (C H : Nat) (xs : List (Int × Int)) (A : Option Addr) (c : Nat) (x : Int × Int) (w : World) (h : Sl2 w w.heap.size A C (cellsL C H xs)) (hn : C ≤ 200) (hr : Rg C H C (cellsL C H xs) C H xs) (hl : xs.length = C) :
    Calls Try.prog 4 #[ringV C H C A C c, itV x] w (TrueEnd w) := by
  have C12 := hide awake_any
  have C11 := hide same_zero
  have C14 := hide (fun w0 => few_any C H C A C c w0)
  unfold FewEnd at C14
  rw [decide_eq_true (by omega)] at C14
  have C15 := hide (fun w0 (hb : Below w.heap.size w w0) => pushback_full C H A C c _ (cellsL C H xs) x w0 (h.below hb) hb.size hr.ok)
  have C16 := hide (fun w0 (hb : Below w.heap.size w w0) => pushfront_full C H A C c _ (cellsL C H xs) x w0 (h.below hb) hb.size hr.ok)
  have C17 := hide (fun w0 (hb : Below w.heap.size w w0) => rvalidate_any C H C A C c _ (cellsL C H xs) w0 (h.below hb) hb.size)
  have C18 := hide (fun w0 (hb : Below w.heap.size w w0) => ritems_ok C H xs A c _ w0 (h.below hb) hb.size (by rw [hl]; exact hr))
  unfold VEnd at C17
  rw [vV_yes hr.ok] at C17
  unfold ErrEnd at C15 C16
  unfold ListEnd at C18
  rw [hl] at C18
  have hee : ((C : Int) == C) = true := by simp
  obtain ⟨x1, x2⟩ := x
  unfold ringV itV at C15 C16
  unfold ringV at C14 C17 C18
  unfold ringV itV
  clear h hr hl
  have hb0 : Below w.heap.size w ((w.alloc (.cells #[.int .i64 C, .int .i64 H, .int .i64 C, .slice A C c] 24)).alloc (.cells #[.int .i64 x1, .int .i64 x2] 33)) := ((Below.refl _ _).alloc (Nat.le_refl _) _).alloc (by simp) _
  have kr0 : Blk ((w.alloc (.cells #[.int .i64 C, .int .i64 H, .int .i64 C, .slice A C c] 24)).alloc (.cells #[.int .i64 x1, .int .i64 x2] 33)) w.heap.size 24 #[.int .i64 C, .int .i64 H, .int .i64 C, .slice A C c] := (Blk.new _ _ _).alloc _
  have kx0 : Blk ((w.alloc (.cells #[.int .i64 C, .int .i64 H, .int .i64 C, .slice A C c] 24)).alloc (.cells #[.int .i64 x1, .int .i64 x2] 33)) (w.heap.size + 1) 33 #[.int .i64 x1, .int .i64 x2] := Blk.new_at (by simp) _ _
  have HB0 := hide hb0
  have KR0 := hide kr0
  have KX0 := hide kx0
  clear hb0 kr0 kx0
  go_enter Try.func4, Try.ntmps4
  go_wp2_with (fail)
  refine (C14.out _).mono ?_
  rintro e w1 ⟨rfl, hb1⟩
  have kr1 := KR0.out.below hb1 KR0.out.lt
  have kx1 := KX0.out.below hb1 KX0.out.lt
  have HB1 := hide (HB0.out.trans (hb1.mono HB0.out.size))
  have KR1 := hide kr1
  have KX1 := hide kx1
  obtain ⟨g0, g1, g2, g3, _, _, _, _⟩ := kr1.four
  obtain ⟨y0, y1, _, _⟩ := kx1.two
  clear hb1 kr1 kx1
  go_wp2_with (fail)
  refine (C15.out _ HB1.out).mono ?_
  rintro e w2 ⟨rfl, hb2⟩
  have kr2 := KR1.out.below hb2 KR1.out.lt
  have kx2 := KX1.out.below hb2 KX1.out.lt
  have HB2 := hide (HB1.out.trans (hb2.mono HB1.out.size))
  have KR2 := hide kr2
  have KX2 := hide kx2
  clear g0 g1 g2 g3 y0 y1 hb2
  go_upto_region 4 with (fail)
  have kra : Blk (w2.alloc (.cells #[.int .i64 0, .int .i64 0, .int .i64 0, .slice none 0 0] 24)) w.heap.size 24 _ := KR2.out.alloc _
  have kxa : Blk (w2.alloc (.cells #[.int .i64 0, .int .i64 0, .int .i64 0, .slice none 0 0] 24)) (w.heap.size + 1) 33 _ := KX2.out.alloc _
  have kaa : Blk (w2.alloc (.cells #[.int .i64 0, .int .i64 0, .int .i64 0, .slice none 0 0] 24)) w2.heap.size 24 #[.int .i64 0, .int .i64 0, .int .i64 0, .slice none 0 0] := Blk.new _ _ _
  have hba : Below w.heap.size w (w2.alloc (.cells #[.int .i64 0, .int .i64 0, .int .i64 0, .slice none 0 0] 24)) := HB2.out.alloc HB2.out.size _
  generalize (w2.alloc (.cells #[.int .i64 0, .int .i64 0, .int .i64 0, .slice none 0 0] 24)) = wa at *
  have KRa := hide kra
  have KXa := hide kxa
  have KAa := hide kaa
  have HBa := hide hba
  clear kra kxa kaa hba
  obtain ⟨g0, g1, g2, g3, _, _, _, _⟩ := KRa.out.four
  obtain ⟨y0, y1, _, _⟩ := KXa.out.two
  go_wp2_with (fail)
  refine (C16.out _ HBa.out).mono ?_
  rintro e w3 ⟨rfl, hb3⟩
  have KR3 := hide (KRa.out.below hb3 KRa.out.lt)
  have KA3 := hide (KAa.out.below hb3 KAa.out.lt)
  have HB3 := hide (HBa.out.trans (hb3.mono HBa.out.size))
  clear g0 g1 g2 g3 y0 y1 hb3
  go_upto_region 5 with (fail)
  have krb : Blk (w3.alloc (.cells #[.int .i64 0, .int .i64 0, .int .i64 0, .slice none 0 0] 24)) w.heap.size 24 _ := KR3.out.alloc _
  have kab : Blk (w3.alloc (.cells #[.int .i64 0, .int .i64 0, .int .i64 0, .slice none 0 0] 24)) w2.heap.size 24 _ := KA3.out.alloc _
  have kbb : Blk (w3.alloc (.cells #[.int .i64 0, .int .i64 0, .int .i64 0, .slice none 0 0] 24)) w3.heap.size 24 #[.int .i64 0, .int .i64 0, .int .i64 0, .slice none 0 0] := Blk.new _ _ _
  have hbb : Below w.heap.size w (w3.alloc (.cells #[.int .i64 0, .int .i64 0, .int .i64 0, .slice none 0 0] 24)) := HB3.out.alloc HB3.out.size _
  generalize (w3.alloc (.cells #[.int .i64 0, .int .i64 0, .int .i64 0, .slice none 0 0] 24)) = wb at *
  have KRb := hide krb
  have KAb := hide kab
  have KBb := hide kbb
  have HBb := hide hbb
  clear krb kab kbb hbb
  obtain ⟨g0, g1, g2, g3, _, _, _, _⟩ := KRb.out.four
  go_region_held3 (fun w' => w'.cell? ⟨w.heap.size, 0, none⟩ = some (.int .i64 C) ∧ w'.cell? ⟨w.heap.size, 1, none⟩ = some (.int .i64 H) ∧ w'.cell? ⟨w.heap.size, 2, none⟩ = some (.int .i64 C) ∧ w'.cell? ⟨w.heap.size, 3, none⟩ = some (.slice A C c)) (first | exact ⟨g0, g1, g2, g3⟩ | exact ⟨e0, e1, e2, e3⟩ | exact ⟨u0, u1, u2, u3⟩) (first | (go_at_call 17; refine (C17.out _ HBb.out.drew).mono ?_; rintro e w4 ⟨rfl, hb4⟩; have hb5 : Below wb.heap.size wb w4 := below_undrew hb4; have KR4 := hide (KRb.out.below hb5 KRb.out.lt); have KA4 := hide (KAb.out.below hb5 KAb.out.lt); have KB4 := hide (KBb.out.below hb5 KBb.out.lt); have HB4 := hide (HBb.out.trans (hb5.mono HBb.out.size)); obtain ⟨e0, e1, e2, e3, _, _, _, _⟩ := KR4.out.four; clear hb4 hb5) | (go_at_call 18; refine (C18.out _ HB4.out).mono ?_; rintro e w5 ⟨A5, c5, rfl, hown5, hb5⟩; have KR5 := hide (KR4.out.below hb5 KR4.out.lt); have KA5 := hide (KA4.out.below hb5 KA4.out.lt); have KB5 := hide (KB4.out.below hb5 KB4.out.lt); have HB5 := hide (HB4.out.trans (hb5.mono HB4.out.size)); obtain ⟨u0, u1, u2, u3, _, _, _, _⟩ := KR5.out.four; clear hb5 hown5))
  obtain ⟨a0, a1, a2, a3, _, _, _, _⟩ := KA5.out.four
  clear g0 g1 g2 g3 e0 e1 e2 e3
  go_wp2_with (fail)
  refine (C11.out _).mono ?_
  rintro e w6 ⟨rfl, hb6⟩
  have KB6 := hide (KB5.out.below hb6 KB5.out.lt)
  have HB6 := hide (HB5.out.trans (hb6.mono HB5.out.size))
  clear a0 a1 a2 a3 u0 u1 u2 u3 hb6
  obtain ⟨a0, a1, a2, a3, _, _, _, _⟩ := KB6.out.four
  go_wp2_with (fail)
  refine (C11.out _).mono ?_
  rintro e w7 ⟨rfl, hb7⟩
  have HB7 := hide (HB6.out.trans (hb7.mono HB6.out.size))
  clear a0 a1 a2 a3 hb7
  go_wp2_with (fail)
  refine (C12.out _).mono ?_
  rintro e w8 ⟨rfl, hb8⟩
  have hb9 := HB7.out.trans (hb8.mono HB7.out.size)
  clear hb8
  go_wp2
  go_ret
  exact ⟨rfl, hb9⟩
end Go.Proofs.Ytjbfefkbpnickaa
