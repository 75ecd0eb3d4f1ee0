/- The walk of the law on elements put to the back and to the front: the case of room. -/
import Derived.Test.YtjbfefkbpnickaaLPush
import Derived.Test.YtjbfefkbpnickaaHeld
namespace Go.Proofs.Ytjbfefkbpnickaa
open Go.RowKit
set_option linter.unusedVariables false
set_option maxRecDepth 100000 in
set_option maxHeartbeats 4000000 in
theorem push_ok (C H : Nat) (xs : List (Int × Int)) (A : Option Addr) (c : Nat) (x : Int × Int) (w : World) (h : Sl2 w w.heap.size A C (cellsL C H xs)) (hn : C ≤ 200) (hr : Rg C H xs.length (cellsL C H xs) C H xs) (hl : xs.length < C) :
    Calls Try.prog 4 #[ringV C H xs.length A C c, itV x] w (TrueEnd w) := by
  have C12 := hide awake_any
  have C11 := hide same_zero
  have C14 := hide (fun w0 => few_any C H xs.length A C c w0)
  unfold FewEnd at C14
  rw [decide_eq_true (by omega)] at C14
  have C15 := hide (fun w0 (hb : Below w.heap.size w w0) => pushback_ok C H xs A c _ x w0 (h.below hb) hb.size hr hl)
  have C16 := hide (fun w0 (hb : Below w.heap.size w w0) => pushfront_ok C H xs A c _ x w0 (h.below hb) hb.size hr hl)
  have C17 := hide (fun w0 (hb : Below w.heap.size w w0) => rvalidate_any C H xs.length A C c _ (cellsL C H xs) w0 (h.below hb) hb.size)
  have C18 := hide (fun w0 (hb : Below w.heap.size w w0) => ritems_ok C H xs A c _ w0 (h.below hb) hb.size hr)
  unfold VEnd at C17
  rw [vV_yes hr.ok] at C17
  unfold PushEnd at C15 C16
  unfold ListEnd at C18
  have hne : ((xs.length : Int) == C) = false := by simp; omega
  have hH1 : (H + C - 1) % C < C := Nat.mod_lt _ (by omega)
  have hC1 := hr.one
  have hC2 := hr.max
  have hH := hr.hd
  have hL1 : (xs ++ [x]).length = xs.length + 1 := by simp
  have hL2 : (x :: xs).length = xs.length + 1 := by simp
  rw [hL1] at C15
  rw [hL2] at C16
  have COf1 := hide (fun (A' : Option Addr) (n' c' : Nat) (w0 : World) (hs : Sl2 w0 w0.heap.size A' n' (xs ++ [x])) => of_any C H (xs ++ [x]) A' n' c' _ w0 hs (Nat.le_refl _) ⟨hC1, hC2⟩ hH (by omega))
  have COf2 := hide (fun (A' : Option Addr) (n' c' : Nat) (w0 : World) (hs : Sl2 w0 w0.heap.size A' n' (x :: xs)) => of_any C ((H + C - 1) % C) (x :: xs) A' n' c' _ w0 hs (Nat.le_refl _) ⟨hC1, hC2⟩ hH1 (by omega))
  unfold RingEnd ringV at COf1 COf2
  rw [hL1] at COf1
  rw [hL2] at COf2
  obtain ⟨x1, x2⟩ := x
  unfold ringV itV at C15 C16
  unfold ringV at C14 C17 C18
  unfold ringV itV
  clear h hr
  generalize hK : (H + C - 1) % C = H1 at *
  have HK := hide hK
  clear hK
  generalize hLL : xs.length = L at *
  have HLL := hide hLL
  clear hLL hL1 hL2
  have hb0 : Below w.heap.size w ((w.alloc (.cells #[.int .i64 C, .int .i64 H, .int .i64 L, .slice A C c] 24)).alloc (.cells #[.int .i64 x1, .int .i64 x2] 33)) := ((Below.refl _ _).alloc (Nat.le_refl _) _).alloc (by simp) _
  have kr0 : Blk ((w.alloc (.cells #[.int .i64 C, .int .i64 H, .int .i64 L, .slice A C c] 24)).alloc (.cells #[.int .i64 x1, .int .i64 x2] 33)) w.heap.size 24 #[.int .i64 C, .int .i64 H, .int .i64 L, .slice A C c] := (Blk.new _ _ _).alloc _
  have kx0 : Blk ((w.alloc (.cells #[.int .i64 C, .int .i64 H, .int .i64 L, .slice A C c] 24)).alloc (.cells #[.int .i64 x1, .int .i64 x2] 33)) (w.heap.size + 1) 33 #[.int .i64 x1, .int .i64 x2] := Blk.new_at (by simp) _ _
  have HB0 := hide hb0
  have KR0 := hide kr0
  have KX0 := hide kx0
  clear hb0 kr0 kx0
  go_enter Try.func4, Try.ntmps4
  go_wp2_with (fail)
  refine (C14.out _).mono ?_
  rintro e w1 ⟨rfl, hb1⟩
  have kr1 := KR0.out.below hb1 KR0.out.lt
  have kx1 := KX0.out.below hb1 KX0.out.lt
  have HB1 := hide (HB0.out.trans (hb1.mono HB0.out.size))
  have KR1 := hide kr1
  have KX1 := hide kx1
  obtain ⟨g0, g1, g2, g3, _, _, _, _⟩ := kr1.four
  obtain ⟨y0, y1, _, _⟩ := kx1.two
  clear hb1 kr1 kx1
  go_wp2_with (fail)
  refine (C15.out _ HB1.out).mono ?_
  rintro e w2 ⟨A2, c2, rfl, hown2, hb2⟩
  have kr2 := KR1.out.below hb2 KR1.out.lt
  have kx2 := KX1.out.below hb2 KX1.out.lt
  have HB2 := hide (HB1.out.trans (hb2.mono HB1.out.size))
  have HOA := hide (own_more hown2 HB1.out.size)
  have KR2 := hide kr2
  have KX2 := hide kx2
  clear g0 g1 g2 g3 y0 y1 hb2 hown2
  go_upto_region 4 with (fail)
  have kra : Blk (w2.alloc (.cells #[.int .i64 C, .int .i64 H, .int .i64 ((L : Int) + 1), .slice A2 C c2] 24)) w.heap.size 24 _ := KR2.out.alloc _
  have kxa : Blk (w2.alloc (.cells #[.int .i64 C, .int .i64 H, .int .i64 ((L : Int) + 1), .slice A2 C c2] 24)) (w.heap.size + 1) 33 _ := KX2.out.alloc _
  have kaa : Blk (w2.alloc (.cells #[.int .i64 C, .int .i64 H, .int .i64 ((L : Int) + 1), .slice A2 C c2] 24)) w2.heap.size 24 #[.int .i64 C, .int .i64 H, .int .i64 ((L : Int) + 1), .slice A2 C c2] := Blk.new _ _ _
  have oaa : (w2.alloc (.cells #[.int .i64 C, .int .i64 H, .int .i64 ((L : Int) + 1), .slice A2 C c2] 24)).ownsRow w.heap.size 33 2 _ _ _ := HOA.out.alloc _
  have hba : Below w.heap.size w (w2.alloc (.cells #[.int .i64 C, .int .i64 H, .int .i64 ((L : Int) + 1), .slice A2 C c2] 24)) := HB2.out.alloc HB2.out.size _
  generalize (w2.alloc (.cells #[.int .i64 C, .int .i64 H, .int .i64 ((L : Int) + 1), .slice A2 C c2] 24)) = wa at *
  have KRa := hide kra
  have KXa := hide kxa
  have KAa := hide kaa
  have OAa := hide oaa
  have HBa := hide hba
  clear kra kxa kaa hba oaa
  obtain ⟨g0, g1, g2, g3, _, _, _, _⟩ := KRa.out.four
  obtain ⟨y0, y1, _, _⟩ := KXa.out.two
  go_wp2_with (fail)
  refine (C16.out _ HBa.out).mono ?_
  rintro e w3 ⟨A3, c3, rfl, hown3, hb3⟩
  have KR3 := hide (KRa.out.below hb3 KRa.out.lt)
  have KX3 := hide (KXa.out.below hb3 KXa.out.lt)
  have KA3 := hide (KAa.out.below hb3 KAa.out.lt)
  have OA3 := hide (own_below OAa.out hb3)
  have OB3 := hide (own_more hown3 HBa.out.size)
  have HB3 := hide (HBa.out.trans (hb3.mono HBa.out.size))
  clear g0 g1 g2 g3 y0 y1 hb3 hown3
  go_upto_region 5 with (fail)
  have krb : Blk (w3.alloc (.cells #[.int .i64 C, .int .i64 (H1 : Int), .int .i64 ((L : Int) + 1), .slice A3 C c3] 24)) w.heap.size 24 _ := KR3.out.alloc _
  have kxb : Blk (w3.alloc (.cells #[.int .i64 C, .int .i64 (H1 : Int), .int .i64 ((L : Int) + 1), .slice A3 C c3] 24)) (w.heap.size + 1) 33 _ := KX3.out.alloc _
  have kab : Blk (w3.alloc (.cells #[.int .i64 C, .int .i64 (H1 : Int), .int .i64 ((L : Int) + 1), .slice A3 C c3] 24)) w2.heap.size 24 _ := KA3.out.alloc _
  have kbb : Blk (w3.alloc (.cells #[.int .i64 C, .int .i64 (H1 : Int), .int .i64 ((L : Int) + 1), .slice A3 C c3] 24)) w3.heap.size 24 #[.int .i64 C, .int .i64 (H1 : Int), .int .i64 ((L : Int) + 1), .slice A3 C c3] := Blk.new _ _ _
  have oab : (w3.alloc (.cells #[.int .i64 C, .int .i64 (H1 : Int), .int .i64 ((L : Int) + 1), .slice A3 C c3] 24)).ownsRow w.heap.size 33 2 _ _ _ := OA3.out.alloc _
  have obb : (w3.alloc (.cells #[.int .i64 C, .int .i64 (H1 : Int), .int .i64 ((L : Int) + 1), .slice A3 C c3] 24)).ownsRow w.heap.size 33 2 _ _ _ := OB3.out.alloc _
  have hbb : Below w.heap.size w (w3.alloc (.cells #[.int .i64 C, .int .i64 (H1 : Int), .int .i64 ((L : Int) + 1), .slice A3 C c3] 24)) := HB3.out.alloc HB3.out.size _
  generalize (w3.alloc (.cells #[.int .i64 C, .int .i64 (H1 : Int), .int .i64 ((L : Int) + 1), .slice A3 C c3] 24)) = wb at *
  have KRb := hide krb
  have KXb := hide kxb
  have KAb := hide kab
  have KBb := hide kbb
  have OAb := hide oab
  have OBb := hide obb
  have HBb := hide hbb
  clear krb kxb kab kbb hbb oab obb
  obtain ⟨g0, g1, g2, g3, _, _, _, _⟩ := KRb.out.four
  go_region_held3 (fun w' => w'.cell? ⟨w.heap.size, 0, none⟩ = some (.int .i64 C) ∧ w'.cell? ⟨w.heap.size, 1, none⟩ = some (.int .i64 H) ∧ w'.cell? ⟨w.heap.size, 2, none⟩ = some (.int .i64 L) ∧ w'.cell? ⟨w.heap.size, 3, none⟩ = some (.slice A C c)) (first | exact ⟨g0, g1, g2, g3⟩ | exact ⟨e0, e1, e2, e3⟩ | exact ⟨u0, u1, u2, u3⟩) (first | (go_at_call 17; refine (C17.out _ HBb.out.drew).mono ?_; rintro e w4 ⟨rfl, hb4⟩; have hb5 : Below wb.heap.size wb w4 := below_undrew hb4; have KR4 := hide (KRb.out.below hb5 KRb.out.lt); have KX4 := hide (KXb.out.below hb5 KXb.out.lt); have KA4 := hide (KAb.out.below hb5 KAb.out.lt); have KB4 := hide (KBb.out.below hb5 KBb.out.lt); have OA4 := hide (own_below OAb.out hb5); have OB4 := hide (own_below OBb.out hb5); have HB4 := hide (HBb.out.trans (hb5.mono HBb.out.size)); obtain ⟨e0, e1, e2, e3, _, _, _, _⟩ := KR4.out.four; clear hb4 hb5) | (go_at_call 18; refine (C18.out _ HB4.out).mono ?_; rintro e w5 ⟨A5, c5, rfl, hown5, hb5⟩; have KR5 := hide (KR4.out.below hb5 KR4.out.lt); have KX5 := hide (KX4.out.below hb5 KX4.out.lt); have KA5 := hide (KA4.out.below hb5 KA4.out.lt); have KB5 := hide (KB4.out.below hb5 KB4.out.lt); have OA5 := hide (own_below OA4.out hb5); have OB5 := hide (own_below OB4.out hb5); have HB5 := hide (HB4.out.trans (hb5.mono HB4.out.size)); have HSL5 := hide (Sl2.of_own hown5); obtain ⟨u0, u1, u2, u3, _, _, _, _⟩ := KR5.out.four; clear hb5 hown5))
  clear g0 g1 g2 g3 e0 e1 e2 e3
  go_upto_region 10 with (fail)
  obtain ⟨i0, hi0, hz0, hz1, hz2⟩ := info_parts info33
  obtain ⟨y0, y1, _, _⟩ := KX5.out.two
  have hq0 := KR5.out.lt
  have hq1 := KX5.out.lt
  go_cut [11] from 65 (fun s11 wx => ∃ (pa : Nat) (A8 : Option Addr) (c8 : Nat), s11 = .pointer (some ⟨pa, 0, none⟩) ∧ Blk wx pa 24 #[.int .i64 C, .int .i64 H, .int .i64 ((L : Int) + 1), .slice A8 C c8] ∧ wx.ownsRow w5.heap.size 33 2 (.slice A8 C c8) C (flat (cellsL C H (xs ++ [(x1, x2)]))) ∧ Below w5.heap.size w5 wx)
  case first =>
    have HC0 := hide (show w5.cell? ⟨w.heap.size, 0, none⟩ = some (.int .i64 C) ∧ w5.cell? ⟨w.heap.size, 1, none⟩ = some (.int .i64 H) ∧ w5.cell? ⟨w.heap.size + 1, 0, none⟩ = some (.int .i64 x1) ∧ w5.cell? ⟨w.heap.size + 1, 1, none⟩ = some (.int .i64 x2) from ⟨u0, u1, y0, y1⟩)
    go_region_held3 (fun w' => (w'.cell? ⟨w.heap.size, 0, none⟩ = some (.int .i64 C) ∧ w'.cell? ⟨w.heap.size, 1, none⟩ = some (.int .i64 H) ∧ w'.cell? ⟨w.heap.size + 1, 0, none⟩ = some (.int .i64 x1) ∧ w'.cell? ⟨w.heap.size + 1, 1, none⟩ = some (.int .i64 x2))) ((refine held4_below HC0.out ?_ hq0 hq0 hq1 hq1; (repeat (first | with_reducible exact Below.refl _ _ | with_reducible exact hb8 | with_reducible exact hb7 | with_reducible exact hb6 | with_reducible refine Below.drew ?_ | with_reducible refine Bl.alloc' ?_ _ | with_reducible refine Bl.set4 ?_ (by omega) _ _ _ _)))) (first | (go_at_call 19; refine (COf1.out A7 (L + 1) c7 _ ?_).mono ?_; (· repeat (first | with_reducible exact Sl2.own_h hown7 | with_reducible refine Sl2.drew_h ?_ | with_reducible refine Sl2.alloc_h ?_ _)); rintro e w8 ⟨A8, c8, rfl, hown8, hb8x⟩; refine have_ (p := Below w5.heap.size w5 w8) ?_ ?_; (· refine Bl.call' ?_ hb8x; (· repeat (first | with_reducible exact Below.refl _ _ | with_reducible exact hb7 | with_reducible refine Below.drew ?_ | with_reducible refine Bl.alloc' ?_ _))); intro hb8; have hzz := hb8x.size; refine have_ (p := w8.ownsRow w5.heap.size 33 2 (.slice A8 C c8) C (flat (cellsL C H (xs ++ [(x1, x2)])))) ?_ ?_; (· refine own_more hown8 ?_; have := hb7.size; simp; omega); intro hown9; (first | (refine have_ (p := Blk w8 (w5.heap.size) 24 #[.int .i64 0, .int .i64 0, .int .i64 0, .slice none 0 0]) ?_ ?_; (· refine Blk.call hb8x ?_; (· repeat (first | with_reducible exact k7 | ((with_reducible refine Blk.new_at ?_ _ _); simp; done) | with_reducible refine Blk.drew ?_ | with_reducible refine Blk.alloc ?_ _))); intro k8; have lk8 := k8.lt) | (refine have_ (p := Blk w8 (w5.heap.size + 1) 24 #[.int .i64 0, .int .i64 0, .int .i64 0, .slice none 0 0]) ?_ ?_; (· refine Blk.call hb8x ?_; (· repeat (first | with_reducible exact k7 | ((with_reducible refine Blk.new_at ?_ _ _); simp; done) | with_reducible refine Blk.drew ?_ | with_reducible refine Blk.alloc ?_ _))); intro k8; have lk8 := k8.lt) | (refine have_ (p := Blk w8 (w5.heap.size + 1 + 1) 24 #[.int .i64 0, .int .i64 0, .int .i64 0, .slice none 0 0]) ?_ ?_; (· refine Blk.call hb8x ?_; (· repeat (first | with_reducible exact k7 | ((with_reducible refine Blk.new_at ?_ _ _); simp; done) | with_reducible refine Blk.drew ?_ | with_reducible refine Blk.alloc ?_ _))); intro k8; have lk8 := k8.lt) | (refine have_ (p := Blk w8 (w6.heap.size) 24 #[.int .i64 0, .int .i64 0, .int .i64 0, .slice none 0 0]) ?_ ?_; (· refine Blk.call hb8x ?_; (· repeat (first | with_reducible exact k7 | ((with_reducible refine Blk.new_at ?_ _ _); simp; done) | with_reducible refine Blk.drew ?_ | with_reducible refine Blk.alloc ?_ _))); intro k8; have lk8 := k8.lt) | (refine have_ (p := Blk w8 (w6.heap.size + 1) 24 #[.int .i64 0, .int .i64 0, .int .i64 0, .slice none 0 0]) ?_ ?_; (· refine Blk.call hb8x ?_; (· repeat (first | with_reducible exact k7 | ((with_reducible refine Blk.new_at ?_ _ _); simp; done) | with_reducible refine Blk.drew ?_ | with_reducible refine Blk.alloc ?_ _))); intro k8; have lk8 := k8.lt) | (refine have_ (p := Blk w8 (w7.heap.size) 24 #[.int .i64 0, .int .i64 0, .int .i64 0, .slice none 0 0]) ?_ ?_; (· refine Blk.call hb8x ?_; (· repeat (first | with_reducible exact k7 | ((with_reducible refine Blk.new_at ?_ _ _); simp; done) | with_reducible refine Blk.drew ?_ | with_reducible refine Blk.alloc ?_ _))); intro k8; have lk8 := k8.lt) | skip); (try obtain ⟨s0, s1, s2, s3, t0, t1, t2, t3⟩ := k8.four)) | (refine step_app (o := ⟨some 74, _, _, _, _, _⟩) _ (by rfl) (.tmp 71) (.tmp 73) _ (by rfl) w5 33 i0 _ 16 Try.underlying22 hi0 hz0 hz1 hz2 rfl (.slice A6 L c6) L xs (by rfl) ?_ ?_ _ 1 1 [(x1, x2)] (by rfl) ?_ (L + 1) (by omega) (by simp only [maxLen]; omega) (by omega) ?_; (· repeat (first | with_reducible exact Below.refl _ _ | with_reducible exact hb6 | with_reducible refine Below.drew ?_ | with_reducible refine Bl.alloc' ?_ _)); (· repeat (first | ((with_reducible refine own_empty_h ?_ ?_ _); (· simp); (· omega)) | with_reducible exact hown6 | with_reducible refine World.ownsRow.drew ?_ | with_reducible refine World.ownsRow.alloc ?_ _)); (· repeat (first | ((with_reducible refine Sl2.one_h ?_ (x1, x2) 33); simp; done) | ((with_reducible refine Sl2.gr_h hg6 ?_ ?_); rotate_left; (· intro hh; simp only [Value.ownBlock, Option.some.injEq] at hh; omega)) | with_reducible refine Sl2.drew_h ?_ | with_reducible refine Sl2.alloc_h ?_ _)); intro A7 c7 w7 hown7 hg7 hb7; have hz7 := hb7.size; (first | (refine have_ (p := Blk w7 (w5.heap.size) 24 #[.int .i64 0, .int .i64 0, .int .i64 0, .slice none 0 0]) ?_ ?_; (· refine Blk.gro (base := w5.heap.size) (e := 33) (k := 2) (n := L) (xs := flat xs) hg7 (by decide) ?_ ?_; (· repeat (first | with_reducible exact hown6 | with_reducible refine World.ownsRow.drew ?_ | with_reducible refine World.ownsRow.alloc ?_ _)); (· repeat (first | with_reducible exact k6 | ((with_reducible refine Blk.new_at ?_ _ _); simp; done) | with_reducible refine Blk.drew ?_ | with_reducible refine Blk.alloc ?_ _))); intro k7; have lk7 := k7.lt) | (refine have_ (p := Blk w7 (w5.heap.size + 1) 24 #[.int .i64 0, .int .i64 0, .int .i64 0, .slice none 0 0]) ?_ ?_; (· refine Blk.gro (base := w5.heap.size) (e := 33) (k := 2) (n := L) (xs := flat xs) hg7 (by decide) ?_ ?_; (· repeat (first | with_reducible exact hown6 | with_reducible refine World.ownsRow.drew ?_ | with_reducible refine World.ownsRow.alloc ?_ _)); (· repeat (first | with_reducible exact k6 | ((with_reducible refine Blk.new_at ?_ _ _); simp; done) | with_reducible refine Blk.drew ?_ | with_reducible refine Blk.alloc ?_ _))); intro k7; have lk7 := k7.lt) | (refine have_ (p := Blk w7 (w5.heap.size + 1 + 1) 24 #[.int .i64 0, .int .i64 0, .int .i64 0, .slice none 0 0]) ?_ ?_; (· refine Blk.gro (base := w5.heap.size) (e := 33) (k := 2) (n := L) (xs := flat xs) hg7 (by decide) ?_ ?_; (· repeat (first | with_reducible exact hown6 | with_reducible refine World.ownsRow.drew ?_ | with_reducible refine World.ownsRow.alloc ?_ _)); (· repeat (first | with_reducible exact k6 | ((with_reducible refine Blk.new_at ?_ _ _); simp; done) | with_reducible refine Blk.drew ?_ | with_reducible refine Blk.alloc ?_ _))); intro k7; have lk7 := k7.lt) | (refine have_ (p := Blk w7 (w6.heap.size) 24 #[.int .i64 0, .int .i64 0, .int .i64 0, .slice none 0 0]) ?_ ?_; (· refine Blk.gro (base := w5.heap.size) (e := 33) (k := 2) (n := L) (xs := flat xs) hg7 (by decide) ?_ ?_; (· repeat (first | with_reducible exact hown6 | with_reducible refine World.ownsRow.drew ?_ | with_reducible refine World.ownsRow.alloc ?_ _)); (· repeat (first | with_reducible exact k6 | ((with_reducible refine Blk.new_at ?_ _ _); simp; done) | with_reducible refine Blk.drew ?_ | with_reducible refine Blk.alloc ?_ _))); intro k7; have lk7 := k7.lt) | (refine have_ (p := Blk w7 (w6.heap.size + 1) 24 #[.int .i64 0, .int .i64 0, .int .i64 0, .slice none 0 0]) ?_ ?_; (· refine Blk.gro (base := w5.heap.size) (e := 33) (k := 2) (n := L) (xs := flat xs) hg7 (by decide) ?_ ?_; (· repeat (first | with_reducible exact hown6 | with_reducible refine World.ownsRow.drew ?_ | with_reducible refine World.ownsRow.alloc ?_ _)); (· repeat (first | with_reducible exact k6 | ((with_reducible refine Blk.new_at ?_ _ _); simp; done) | with_reducible refine Blk.drew ?_ | with_reducible refine Blk.alloc ?_ _))); intro k7; have lk7 := k7.lt) | skip)) | (refine step_app (o := ⟨some 71, _, _, _, _, _⟩) _ (by rfl) (.tmp 69) (.tmp 70) _ (by rfl) w5 33 i0 _ 16 Try.underlying22 hi0 hz0 hz1 hz2 rfl (.slice (some ⟨_, 0, none⟩) 0 0) 0 [] (by rfl) ?_ ?_ A5 L c5 xs (by rfl) ?_ L (by omega) (by simp only [maxLen]; omega) (by omega) ?_; (· repeat (first | with_reducible exact Below.refl _ _ | with_reducible refine Below.drew ?_ | with_reducible refine Bl.alloc' ?_ _)); (· repeat (first | ((with_reducible refine own_empty_h ?_ ?_ _); (· simp); (· omega)) | with_reducible refine World.ownsRow.drew ?_ | with_reducible refine World.ownsRow.alloc ?_ _)); (· repeat (first | with_reducible exact HSL5.out | with_reducible refine Sl2.drew_h ?_ | with_reducible refine Sl2.alloc_h ?_ _)); intro A6 c6 w6 hown6 hg6 hb6; rw [List.nil_append] at hown6; have hz6 := hb6.size; (first | (refine have_ (p := Blk w6 (w5.heap.size) 24 #[.int .i64 0, .int .i64 0, .int .i64 0, .slice none 0 0]) ?_ ?_; (· refine Blk.gr hg6 ?_ ?_; (· repeat (first | ((with_reducible refine Blk.new_at ?_ _ _); simp; done) | with_reducible refine Blk.drew ?_ | with_reducible refine Blk.alloc ?_ _)); (· intro hh; simp only [Value.ownBlock, Option.some.injEq] at hh; omega)); intro k6; have lk6 := k6.lt) | (refine have_ (p := Blk w6 (w5.heap.size + 1) 24 #[.int .i64 0, .int .i64 0, .int .i64 0, .slice none 0 0]) ?_ ?_; (· refine Blk.gr hg6 ?_ ?_; (· repeat (first | ((with_reducible refine Blk.new_at ?_ _ _); simp; done) | with_reducible refine Blk.drew ?_ | with_reducible refine Blk.alloc ?_ _)); (· intro hh; simp only [Value.ownBlock, Option.some.injEq] at hh; omega)); intro k6; have lk6 := k6.lt) | (refine have_ (p := Blk w6 (w5.heap.size + 1 + 1) 24 #[.int .i64 0, .int .i64 0, .int .i64 0, .slice none 0 0]) ?_ ?_; (· refine Blk.gr hg6 ?_ ?_; (· repeat (first | ((with_reducible refine Blk.new_at ?_ _ _); simp; done) | with_reducible refine Blk.drew ?_ | with_reducible refine Blk.alloc ?_ _)); (· intro hh; simp only [Value.ownBlock, Option.some.injEq] at hh; omega)); intro k6; have lk6 := k6.lt) | skip)))
    all_goals
      go_wp2_with (fail)
      go_meet
      first
        | (refine ⟨_, A8, c8, rfl, ?_, ?_, ?_⟩; (· with_reducible exact Blk.new _ _ _); (· exact hown9.alloc _); (· exact Bl.alloc' hb8 _))
        | (refine ⟨_, A8, c8, rfl, k8.store4 _ _ _ _, own_more (own_far4 hown8 ?_ _ _ _ _) ?_, Bl.set4 hb8 ?_ _ _ _ _⟩ <;> first | omega | (simp; done) | (simp; omega))
  case rest =>
    obtain ⟨pa, Ap, cp, rfl, hkp, hop, hbp⟩ := hcut
    obtain ⟨wp, rfl⟩ : ∃ wp : World, wp = wc := ⟨_, rfl⟩
    have KP := hide hkp
    have OP := hide hop
    have HBP := hide (HB5.out.trans (hbp.mono HB5.out.size))
    have KRp := hide (KR5.out.below hbp KR5.out.lt)
    have KXp := hide (KX5.out.below hbp KX5.out.lt)
    have KAp := hide (KA5.out.below hbp KA5.out.lt)
    have KBp := hide (KB5.out.below hbp KB5.out.lt)
    have OAp := hide (own_below OA5.out hbp)
    have OBp := hide (own_below OB5.out hbp)
    have HSLp := hide ((HSL5.out.below hbp).here hbp.size)
    clear u0 u1 u2 u3 y0 y1 hkp hop hbp KR5 KX5 KA5 KB5 OA5 OB5 HSL5 hq0 hq1
    obtain ⟨u0, u1, u2, u3, _, _, _, _⟩ := KRp.out.four
    obtain ⟨y0, y1, _, _⟩ := KXp.out.two
    have hq0 := KRp.out.lt
    have hq1 := KXp.out.lt
    go_upto_region 11 with (fail)
    go_cut [12] from 76 (fun s12 wx => ∃ (pa : Nat) (A8 : Option Addr) (c8 : Nat), s12 = .pointer (some ⟨pa, 0, none⟩) ∧ Blk wx pa 24 #[.int .i64 C, .int .i64 H1, .int .i64 ((L : Int) + 1), .slice A8 C c8] ∧ wx.ownsRow wp.heap.size 33 2 (.slice A8 C c8) C (flat (cellsL C H1 ((x1, x2) :: xs))) ∧ Below wp.heap.size wp wx)
    case first =>
      have HC0 := hide (show wp.cell? ⟨w.heap.size, 0, none⟩ = some (.int .i64 C) ∧ wp.cell? ⟨w.heap.size, 1, none⟩ = some (.int .i64 H) ∧ wp.cell? ⟨w.heap.size + 1, 0, none⟩ = some (.int .i64 x1) ∧ wp.cell? ⟨w.heap.size + 1, 1, none⟩ = some (.int .i64 x2) from ⟨u0, u1, y0, y1⟩)
      have hw1 := push_fact1 HK.out hH hC2
      obtain ⟨hw1, hw2, hw3, hw4, hw5⟩ := hw1
      go_region_held3 (fun w' => (w'.cell? ⟨w.heap.size, 0, none⟩ = some (.int .i64 C) ∧ w'.cell? ⟨w.heap.size, 1, none⟩ = some (.int .i64 H) ∧ w'.cell? ⟨w.heap.size + 1, 0, none⟩ = some (.int .i64 x1) ∧ w'.cell? ⟨w.heap.size + 1, 1, none⟩ = some (.int .i64 x2))) ((refine held4_below HC0.out ?_ hq0 hq0 hq1 hq1; (repeat (first | with_reducible exact Below.refl _ _ | with_reducible exact hb8 | with_reducible exact hb7 | with_reducible refine Below.drew ?_ | with_reducible refine Bl.alloc' ?_ _ | with_reducible refine Bl.set4 ?_ (by omega) _ _ _ _)))) (first | (go_at_call 19; refine (COf2.out A7 (L + 1) c7 _ ?_).mono ?_; (· repeat (first | with_reducible exact Sl2.own_h hown7 | with_reducible refine Sl2.drew_h ?_ | with_reducible refine Sl2.alloc_h ?_ _)); rintro e w8 ⟨A8, c8, rfl, hown8, hb8x⟩; refine have_ (p := Below wp.heap.size wp w8) ?_ ?_; (· refine Bl.call' ?_ hb8x; (· repeat (first | with_reducible exact Below.refl _ _ | with_reducible exact hb7 | with_reducible refine Below.drew ?_ | with_reducible refine Bl.alloc' ?_ _))); intro hb8; have hzz := hb8x.size; refine have_ (p := w8.ownsRow wp.heap.size 33 2 (.slice A8 C c8) C (flat (cellsL C H1 ((x1, x2) :: xs)))) ?_ ?_; (· refine own_more hown8 ?_; have := hb7.size; simp; omega); intro hown9; (first | (refine have_ (p := Blk w8 (wp.heap.size) 24 #[.int .i64 0, .int .i64 0, .int .i64 0, .slice none 0 0]) ?_ ?_; (· refine Blk.call hb8x ?_; (· repeat (first | with_reducible exact k7 | ((with_reducible refine Blk.new_at ?_ _ _); simp; done) | with_reducible refine Blk.drew ?_ | with_reducible refine Blk.alloc ?_ _))); intro k8; have lk8 := k8.lt) | (refine have_ (p := Blk w8 (wp.heap.size + 1) 24 #[.int .i64 0, .int .i64 0, .int .i64 0, .slice none 0 0]) ?_ ?_; (· refine Blk.call hb8x ?_; (· repeat (first | with_reducible exact k7 | ((with_reducible refine Blk.new_at ?_ _ _); simp; done) | with_reducible refine Blk.drew ?_ | with_reducible refine Blk.alloc ?_ _))); intro k8; have lk8 := k8.lt) | (refine have_ (p := Blk w8 (w7.heap.size) 24 #[.int .i64 0, .int .i64 0, .int .i64 0, .slice none 0 0]) ?_ ?_; (· refine Blk.call hb8x ?_; (· repeat (first | with_reducible exact k7 | ((with_reducible refine Blk.new_at ?_ _ _); simp; done) | with_reducible refine Blk.drew ?_ | with_reducible refine Blk.alloc ?_ _))); intro k8; have lk8 := k8.lt) | skip); (try obtain ⟨s0, s1, s2, s3, t0, t1, t2, t3⟩ := k8.four)) | (refine step_app (o := ⟨some 90, _, _, _, _, _⟩) _ (by rfl) (.tmp 88) (.tmp 89) _ (by rfl) wp 33 i0 _ 16 Try.underlying22 hi0 hz0 hz1 hz2 rfl (.slice (some ⟨_, 0, none⟩) 1 1) 1 [(x1, x2)] (by rfl) ?_ ?_ A5 L c5 xs (by rfl) ?_ (L + 1) (by omega) (by simp only [maxLen]; omega) (by omega) ?_; (· repeat (first | with_reducible exact Below.refl _ _ | with_reducible refine Below.drew ?_ | with_reducible refine Bl.alloc' ?_ _)); (· repeat (first | ((with_reducible refine own_one_h ?_ ?_ (x1, x2) _); (· simp); (· omega)) | with_reducible refine World.ownsRow.drew ?_ | with_reducible refine World.ownsRow.alloc ?_ _)); (· repeat (first | with_reducible exact HSLp.out | with_reducible refine Sl2.drew_h ?_ | with_reducible refine Sl2.alloc_h ?_ _)); intro A7 c7 w7 hown7 hg7 hb7; rw [List.singleton_append] at hown7; have hz7 := hb7.size; (first | (refine have_ (p := Blk w7 (wp.heap.size) 24 #[.int .i64 0, .int .i64 0, .int .i64 0, .slice none 0 0]) ?_ ?_; (· refine Blk.gr hg7 ?_ ?_; (· repeat (first | ((with_reducible refine Blk.new_at ?_ _ _); simp; done) | with_reducible refine Blk.drew ?_ | with_reducible refine Blk.alloc ?_ _)); (· intro hh; simp only [Value.ownBlock, Option.some.injEq] at hh; omega)); intro k7; have lk7 := k7.lt) | (refine have_ (p := Blk w7 (wp.heap.size + 1) 24 #[.int .i64 0, .int .i64 0, .int .i64 0, .slice none 0 0]) ?_ ?_; (· refine Blk.gr hg7 ?_ ?_; (· repeat (first | ((with_reducible refine Blk.new_at ?_ _ _); simp; done) | with_reducible refine Blk.drew ?_ | with_reducible refine Blk.alloc ?_ _)); (· intro hh; simp only [Value.ownBlock, Option.some.injEq] at hh; omega)); intro k7; have lk7 := k7.lt) | skip)))
      all_goals
        go_wp2_with (fail)
        go_meet
        first
          | (refine ⟨_, A8, c8, rfl, ?_, ?_, ?_⟩; (· with_reducible exact Blk.new _ _ _); (· exact hown9.alloc _); (· exact Bl.alloc' hb8 _))
          | (refine ⟨_, A8, c8, rfl, k8.store4 _ _ _ _, own_more (own_far4 hown8 ?_ _ _ _ _) ?_, Bl.set4 hb8 ?_ _ _ _ _⟩ <;> first | omega | (simp; done) | (simp; omega))
    case rest =>
      obtain ⟨pb, Aq, cq, rfl, hkq, hoq, hbq⟩ := hcut
      have HBQ := hide (HBP.out.trans (hbq.mono HBP.out.size))
      have hka := KAp.out.below hbq KAp.out.lt
      have hkb := KBp.out.below hbq KBp.out.lt
      have hkp := KP.out.below hbq KP.out.lt
      have hsa := Sl2.own_h (own_below OAp.out hbq)
      have hsb := Sl2.own_h (own_below OBp.out hbq)
      have hsp := Sl2.own_h (own_below OP.out hbq)
      have hsq := Sl2.own_h hoq
      have S1 := hide (fun w1 (hb : Below wc.heap.size wc w1) => same_ring C H ((L : Int) + 1) A2 C c2 wc.heap.size _ C H ((L : Int) + 1) Ap C cp wc.heap.size _ w1 (hsa.below hb) hb.size (hsp.below hb) hb.size (by omega) (by omega) rfl rfl rfl rfl)
      have S2 := hide (fun w1 (hb : Below wc.heap.size wc w1) => same_ring C H1 ((L : Int) + 1) A3 C c3 wc.heap.size _ C H1 ((L : Int) + 1) Aq C cq wc.heap.size _ w1 (hsb.below hb) hb.size (hsq.below hb) hb.size (by omega) (by omega) rfl rfl rfl rfl)
      unfold ringV at S1 S2
      obtain ⟨a0, a1, a2, a3, _, _, _, _⟩ := hka.four
      obtain ⟨p0, p1, p2, p3, _, _, _, _⟩ := hkp.four
      have KBq := hide hkb
      have KQq := hide hkq
      clear hka hkb hkp hkq hsa hsb hsp hsq hoq hbq u0 u1 u2 u3 y0 y1
      go_wp2_with (fail)
      refine (S1.out _ (Below.refl _ _)).mono ?_
      rintro e w9 ⟨rfl, hb9⟩
      have hkb := KBq.out.below hb9 KBq.out.lt
      have hkq := KQq.out.below hb9 KQq.out.lt
      obtain ⟨b0, b1, b2, b3, _, _, _, _⟩ := hkb.four
      obtain ⟨q0, q1, q2, q3, _, _, _, _⟩ := hkq.four
      have HB9 := hide (HBQ.out.trans (hb9.mono HBQ.out.size))
      have HB9' := hide hb9
      clear hkb hkq hb9 a0 a1 a2 a3 p0 p1 p2 p3
      go_wp2_with (fail)
      refine (S2.out _ HB9'.out).mono ?_
      rintro e w10 ⟨rfl, hb10⟩
      have HB10 := hide (HB9.out.trans (hb10.mono HB9.out.size))
      clear hb10 b0 b1 b2 b3 q0 q1 q2 q3
      go_wp2_with (fail)
      refine (C12.out _).mono ?_
      rintro e w11 ⟨rfl, hb11⟩
      have HB11 := hide (HB10.out.trans (hb11.mono HB10.out.size))
      clear hb11
      go_wp2
      go_ret
      exact ⟨rfl, HB11.out⟩
end Go.Proofs.Ytjbfefkbpnickaa
