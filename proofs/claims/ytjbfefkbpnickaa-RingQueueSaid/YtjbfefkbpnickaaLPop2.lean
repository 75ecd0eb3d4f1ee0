/- The walk of the law on taking the first and the last element: the case of some element. -/
import Derived.Test.YtjbfefkbpnickaaLPush
import Derived.Test.YtjbfefkbpnickaaPopF
import Derived.Test.YtjbfefkbpnickaaPopB
import Derived.Test.YtjbfefkbpnickaaLPop
namespace Go.Proofs.Ytjbfefkbpnickaa
open Go.RowKit
set_option linter.unusedVariables false
theorem Sl2.tail {w : World} {n c : Nat} {A : Option Addr} {p : Int × Int} {l : List (Int × Int)} (h : Sl2 w w.heap.size A (n + 1) (p :: l)) (hc : n + 1 ≤ c) : Sl2 w w.heap.size (if c = 1 then A else A.map (·.add 2)) n l := by
  have hl : l.length = n := by have := h.1; simp at this; omega
  refine ⟨hl, fun hn => ?_⟩
  rw [if_neg (by omega)]
  obtain ⟨b, o, rfl, hb, hcell⟩ := h.2 (by omega)
  refine ⟨b, o + 2, by simp [Addr.add], hb, fun i q hq => ?_⟩
  have := hcell (i + 1) q (by simpa using hq)
  rw [show o + 2 + i * 2 = o + (i + 1) * 2 by omega]
  exact this
theorem Sl2.init {w : World} {B n : Nat} {A : Option Addr} {p : Int × Int} {l : List (Int × Int)} (h : Sl2 w B A (n + 1) (l ++ [p])) : Sl2 w B A n l := by
  have hl : l.length = n := by have := h.1; simp at this; omega
  refine ⟨hl, fun hn => ?_⟩
  obtain ⟨b, o, rfl, hb, hcell⟩ := h.2 (by omega)
  exact ⟨b, o, rfl, hb, fun i q hq => hcell i q (by rw [List.getElem?_append_left (List.getElem?_eq_some_iff.1 hq).1]; exact hq)⟩
theorem slice_facts (K : Nat) : (0 : Int) ≤ K ∧ (0 : Int) ≤ (K : Int) + 1 ∧ (1 : Int) ≤ (K : Int) + 1 ∧ (K : Int) < (K : Int) + 1 ∧ (0 : Int) < (K : Int) + 1 ∧ (K : Int) ≤ (K : Int) + 1 ∧ ¬ ((K : Int) < 0) ∧ ¬ ((K : Int) + 1 ≤ K) := by omega
theorem wrap_pred (K : Nat) (h : K ≤ 1000) : IntKind.i64.wrap (K : Int) = K := by rw [IntKind.wrap_i64]; omega
theorem Sl2.of_below {w w' : World} {n : Nat} {A : Option Addr} {l : List (Int × Int)} (h : Sl2 w w.heap.size A n l) (hb : Below w.heap.size w w') : Sl2 w' w'.heap.size A n l := Sl2.below_h hb h
set_option maxRecDepth 100000 in
set_option maxHeartbeats 4000000 in
theorem lpop_ok (C H K : Nat) (x y : Int × Int) (t s : List (Int × Int)) (A : Option Addr) (c : Nat) (w : World) (he : x :: t = s ++ [y]) (ht : t.length = K) (hs : s.length = K) (h : Sl2 w w.heap.size A C (cellsL C H (x :: t))) (hn : C ≤ 200) (hr : Rg C H ((K : Int) + 1) (cellsL C H (x :: t)) C H (x :: t)) :
    Calls Try.prog 8 #[ringV C H ((K : Int) + 1) A C c] w (TrueEnd w) := by
  have C12 := hide awake_any
  have C14 := hide (fun w0 => few_any C H ((K : Int) + 1) A C c w0)
  unfold FewEnd at C14
  rw [decide_eq_true (by omega)] at C14
  have C17 := hide (fun w0 (hb : Below w.heap.size w w0) => rvalidate_any C H ((K : Int) + 1) A C c _ (cellsL C H (x :: t)) w0 (h.below hb) hb.size)
  unfold VEnd at C17
  rw [vV_yes hr.ok] at C17
  have C25 := hide (fun w0 (hb : Below w.heap.size w w0) => popfront_ok C H t x A c _ w0 (h.below hb) hb.size (by rw [ht]; exact hr))
  have C26 := hide (fun w0 (hb : Below w.heap.size w w0) => popback_ok C H s y A c _ w0 (by rw [← he]; exact h.below hb) hb.size (by rw [hs, ← he]; exact hr))
  have hrl : (x :: t).length = K + 1 := by simp [ht]
  have C18 := hide (fun w0 (hb : Below w.heap.size w w0) => ritems_ok C H (x :: t) A c _ w0 (h.below hb) hb.size (by rw [hrl]; exact hr))
  unfold ListEnd at C18
  unfold PopEnd at C25 C26
  rw [hrl] at C18
  rw [ht] at C25
  rw [hs] at C26
  have hC1 := hr.one
  have hC2 := hr.max
  have hH := hr.hd
  have hKC : K + 1 ≤ C := by have := hr.fits; omega
  have hH1 : (H + 1) % C < C := Nat.mod_lt _ (by omega)
  have hk0 : IntKind.i64.wrap ((H : Int) + 1) = (H : Int) + 1 := by rw [IntKind.wrap_i64]; omega
  have hk1 : ((H : Int) + 1).tmod C = (((H + 1) % C : Nat) : Int) := by rw [Int.tmod_eq_emod_of_nonneg (by omega)]; simp
  have hk2 : ((H : Int) + 1) % C = (((H + 1) % C : Nat) : Int) := by simp
  have COf1 := hide (fun (A' : Option Addr) (c' : Nat) (w0 : World) (hs : Sl2 w0 w0.heap.size A' K t) => of_any C ((H + 1) % C) t A' K c' _ w0 hs (Nat.le_refl _) ⟨hC1, hC2⟩ hH1 (by omega))
  have COf2 := hide (fun (A' : Option Addr) (c' : Nat) (w0 : World) (hs : Sl2 w0 w0.heap.size A' K s) => of_any C H s A' K c' _ w0 hs (Nat.le_refl _) ⟨hC1, hC2⟩ hH (by omega))
  unfold RingEnd ringV at COf1 COf2
  rw [ht] at COf1
  rw [hs] at COf2
  have HE := hide he
  clear h hr hrl
  generalize (H + 1) % C = H1 at *
  have HK0 := hide hk0
  have HK1 := hide hk1
  have HK2 := hide hk2
  have HT := hide ht
  have HS := hide hs
  clear hk0 hk1 hk2 he ht hs
  unfold itV at C25 C26
  unfold ringV at C14 C17 C18 C25 C26
  unfold ringV
  have h00 : (((K : Int) + 1) == 0) = false := by simp; omega
  go_enter Try.func8, Try.ntmps8
  go_upto_region 1 with (fail)
  have qR : Blk (w.alloc (.cells #[.int .i64 C, .int .i64 H, .int .i64 ((K : Int) + 1), .slice A C c] 24)) (w.heap.size) 24 #[.int .i64 C, .int .i64 H, .int .i64 ((K : Int) + 1), .slice A C c] := Blk.new _ _ _
  have qB : Below w.heap.size w (w.alloc (.cells #[.int .i64 C, .int .i64 H, .int .i64 ((K : Int) + 1), .slice A C c] 24)) := Bl.alloc' (Below.refl _ _) _
  have z1 : (w.alloc (.cells #[.int .i64 C, .int .i64 H, .int .i64 ((K : Int) + 1), .slice A C c] 24)).heap.size = w.heap.size + 1 := by simp
  generalize (w.alloc (.cells #[.int .i64 C, .int .i64 H, .int .i64 ((K : Int) + 1), .slice A C c] 24)) = w1 at *
  have zi1 : w1.heap.size ≤ w.heap.size + 1 ∧ w.heap.size + 1 ≤ w1.heap.size := by omega
  clear z1
  have R1 := hide qR
  have B1 := hide qB
  clear qR qB
  obtain ⟨p0, p1, p2, p3, p4, p5, p6, p7⟩ := R1.out.four
  go_wp2_with (fail)
  refine (C14.out _).mono ?_
  rintro e w2 ⟨rfl, hb⟩
  have zs2 := hb.size
  clear p0 p1 p2 p3 p4 p5 p6 p7
  have qR : Blk w2 (w.heap.size) 24 #[.int .i64 C, .int .i64 H, .int .i64 ((K : Int) + 1), .slice A C c] := R1.out.below hb R1.out.lt
  have qB : Below w.heap.size w w2 := Bl.call' B1.out hb
  clear R1 B1
  have R2 := hide qR
  have B2 := hide qB
  clear qR qB
  clear hb
  obtain ⟨p0, p1, p2, p3, p4, p5, p6, p7⟩ := R2.out.four
  go_wp2_with (fail)
  refine (C25.out _ B2.out).mono ?_
  rintro e w3 ⟨A2, c2, rfl, hown, hb⟩
  have zs3 := hb.size
  clear p0 p1 p2 p3 p4 p5 p6 p7
  have qR : Blk w3 (w.heap.size) 24 #[.int .i64 C, .int .i64 H, .int .i64 ((K : Int) + 1), .slice A C c] := R2.out.below hb R2.out.lt
  have qB : Below w.heap.size w w3 := Bl.call' B2.out hb
  have qO : World.ownsRow w3 (w.heap.size) 33 2 (.slice A2 C c2) (C) (flat (cellsL C H1 t)) := own_more hown (by omega)
  clear R2 B2
  have R3 := hide qR
  have B3 := hide qB
  have O3 := hide qO
  clear qR qB qO
  clear hb
  clear hown
  go_upto_region 4 with (fail)
  have qR : Blk ((w3.alloc (.cells #[.int .i64 C, .int .i64 H1, .int .i64 K, .slice A2 C c2] 24)).alloc (.cells #[.int .i64 x.1, .int .i64 x.2] 33)) (w.heap.size) 24 #[.int .i64 C, .int .i64 H, .int .i64 ((K : Int) + 1), .slice A C c] := (R3.out.alloc _).alloc _
  have qB : Below w.heap.size w ((w3.alloc (.cells #[.int .i64 C, .int .i64 H1, .int .i64 K, .slice A2 C c2] 24)).alloc (.cells #[.int .i64 x.1, .int .i64 x.2] 33)) := Bl.alloc' (Bl.alloc' B3.out _) _
  have qO : World.ownsRow ((w3.alloc (.cells #[.int .i64 C, .int .i64 H1, .int .i64 K, .slice A2 C c2] 24)).alloc (.cells #[.int .i64 x.1, .int .i64 x.2] 33)) (w.heap.size) 33 2 (.slice A2 C c2) (C) (flat (cellsL C H1 t)) := (O3.out.alloc _).alloc _
  have qP : Blk ((w3.alloc (.cells #[.int .i64 C, .int .i64 H1, .int .i64 K, .slice A2 C c2] 24)).alloc (.cells #[.int .i64 x.1, .int .i64 x.2] 33)) (w3.heap.size) 24 #[.int .i64 C, .int .i64 H1, .int .i64 K, .slice A2 C c2] := (Blk.new _ _ _).alloc _
  have qX : Blk ((w3.alloc (.cells #[.int .i64 C, .int .i64 H1, .int .i64 K, .slice A2 C c2] 24)).alloc (.cells #[.int .i64 x.1, .int .i64 x.2] 33)) (w3.heap.size + 1) 33 #[.int .i64 x.1, .int .i64 x.2] := Blk.new_at (by simp) _ _
  have z4 : ((w3.alloc (.cells #[.int .i64 C, .int .i64 H1, .int .i64 K, .slice A2 C c2] 24)).alloc (.cells #[.int .i64 x.1, .int .i64 x.2] 33)).heap.size = w3.heap.size + 2 := by simp
  clear R3 B3 O3
  generalize ((w3.alloc (.cells #[.int .i64 C, .int .i64 H1, .int .i64 K, .slice A2 C c2] 24)).alloc (.cells #[.int .i64 x.1, .int .i64 x.2] 33)) = w4 at *
  have R4 := hide qR
  have B4 := hide qB
  have O4 := hide qO
  have P4 := hide qP
  have X4 := hide qX
  clear qR qB qO qP qX
  have zi4 : w4.heap.size ≤ w3.heap.size + 2 ∧ w3.heap.size + 2 ≤ w4.heap.size := by omega
  clear z4
  obtain ⟨p0, p1, p2, p3, p4, p5, p6, p7⟩ := R4.out.four
  go_wp2_with (fail)
  refine (C26.out _ B4.out).mono ?_
  rintro e w5 ⟨A3, c3, rfl, hown, hb⟩
  have zs5 := hb.size
  clear p0 p1 p2 p3 p4 p5 p6 p7
  have qR : Blk w5 (w.heap.size) 24 #[.int .i64 C, .int .i64 H, .int .i64 ((K : Int) + 1), .slice A C c] := R4.out.below hb R4.out.lt
  have qB : Below w.heap.size w w5 := Bl.call' B4.out hb
  have qO : World.ownsRow w5 (w.heap.size) 33 2 (.slice A2 C c2) (C) (flat (cellsL C H1 t)) := own_below O4.out hb
  have qP : Blk w5 (w3.heap.size) 24 #[.int .i64 C, .int .i64 H1, .int .i64 K, .slice A2 C c2] := P4.out.below hb P4.out.lt
  have qX : Blk w5 (w3.heap.size + 1) 33 #[.int .i64 x.1, .int .i64 x.2] := X4.out.below hb X4.out.lt
  have qN : World.ownsRow w5 (w.heap.size) 33 2 (.slice A3 C c3) (C) (flat (cellsL C H s)) := own_more hown (by omega)
  clear R4 B4 O4 P4 X4
  have R5 := hide qR
  have B5 := hide qB
  have O5 := hide qO
  have P5 := hide qP
  have X5 := hide qX
  have N5 := hide qN
  clear qR qB qO qP qX qN
  clear hb
  clear hown
  go_upto_region 5 with (fail)
  have qR : Blk ((w5.alloc (.cells #[.int .i64 C, .int .i64 H, .int .i64 K, .slice A3 C c3] 24)).alloc (.cells #[.int .i64 y.1, .int .i64 y.2] 33)) (w.heap.size) 24 #[.int .i64 C, .int .i64 H, .int .i64 ((K : Int) + 1), .slice A C c] := (R5.out.alloc _).alloc _
  have qB : Below w.heap.size w ((w5.alloc (.cells #[.int .i64 C, .int .i64 H, .int .i64 K, .slice A3 C c3] 24)).alloc (.cells #[.int .i64 y.1, .int .i64 y.2] 33)) := Bl.alloc' (Bl.alloc' B5.out _) _
  have qO : World.ownsRow ((w5.alloc (.cells #[.int .i64 C, .int .i64 H, .int .i64 K, .slice A3 C c3] 24)).alloc (.cells #[.int .i64 y.1, .int .i64 y.2] 33)) (w.heap.size) 33 2 (.slice A2 C c2) (C) (flat (cellsL C H1 t)) := (O5.out.alloc _).alloc _
  have qP : Blk ((w5.alloc (.cells #[.int .i64 C, .int .i64 H, .int .i64 K, .slice A3 C c3] 24)).alloc (.cells #[.int .i64 y.1, .int .i64 y.2] 33)) (w3.heap.size) 24 #[.int .i64 C, .int .i64 H1, .int .i64 K, .slice A2 C c2] := (P5.out.alloc _).alloc _
  have qX : Blk ((w5.alloc (.cells #[.int .i64 C, .int .i64 H, .int .i64 K, .slice A3 C c3] 24)).alloc (.cells #[.int .i64 y.1, .int .i64 y.2] 33)) (w3.heap.size + 1) 33 #[.int .i64 x.1, .int .i64 x.2] := (X5.out.alloc _).alloc _
  have qN : World.ownsRow ((w5.alloc (.cells #[.int .i64 C, .int .i64 H, .int .i64 K, .slice A3 C c3] 24)).alloc (.cells #[.int .i64 y.1, .int .i64 y.2] 33)) (w.heap.size) 33 2 (.slice A3 C c3) (C) (flat (cellsL C H s)) := (N5.out.alloc _).alloc _
  have qQ : Blk ((w5.alloc (.cells #[.int .i64 C, .int .i64 H, .int .i64 K, .slice A3 C c3] 24)).alloc (.cells #[.int .i64 y.1, .int .i64 y.2] 33)) (w5.heap.size) 24 #[.int .i64 C, .int .i64 H, .int .i64 K, .slice A3 C c3] := (Blk.new _ _ _).alloc _
  have qY : Blk ((w5.alloc (.cells #[.int .i64 C, .int .i64 H, .int .i64 K, .slice A3 C c3] 24)).alloc (.cells #[.int .i64 y.1, .int .i64 y.2] 33)) (w5.heap.size + 1) 33 #[.int .i64 y.1, .int .i64 y.2] := Blk.new_at (by simp) _ _
  have z6 : ((w5.alloc (.cells #[.int .i64 C, .int .i64 H, .int .i64 K, .slice A3 C c3] 24)).alloc (.cells #[.int .i64 y.1, .int .i64 y.2] 33)).heap.size = w5.heap.size + 2 := by simp
  clear R5 B5 O5 P5 X5 N5
  generalize ((w5.alloc (.cells #[.int .i64 C, .int .i64 H, .int .i64 K, .slice A3 C c3] 24)).alloc (.cells #[.int .i64 y.1, .int .i64 y.2] 33)) = w6 at *
  have R6 := hide qR
  have B6 := hide qB
  have O6 := hide qO
  have P6 := hide qP
  have X6 := hide qX
  have N6 := hide qN
  have Q6 := hide qQ
  have Y6 := hide qY
  clear qR qB qO qP qX qN qQ qY
  have zi6 : w6.heap.size ≤ w5.heap.size + 2 ∧ w5.heap.size + 2 ≤ w6.heap.size := by omega
  clear z6
  obtain ⟨p0, p1, p2, p3, p4, p5, p6, p7⟩ := R6.out.four
  go_upto_region 5 with (fail)
  go_region_held3 (fun w' => w'.cell? ⟨w.heap.size, 0, none⟩ = some (.int .i64 C) ∧ w'.cell? ⟨w.heap.size, 1, none⟩ = some (.int .i64 H) ∧ w'.cell? ⟨w.heap.size, 2, none⟩ = some (.int .i64 ((K : Int) + 1)) ∧ w'.cell? ⟨w.heap.size, 3, none⟩ = some (.slice A C c)) (first | exact ⟨p0, p1, p2, p3⟩ | exact ⟨e0, e1, e2, e3⟩ | exact ⟨h0, h1, h2, h3⟩) (first | (go_at_call 17; refine (C17.out _ B6.out.drew).mono ?_; rintro e w7 ⟨rfl, hbx⟩; have hby : Below w6.heap.size w6 w7 := below_undrew hbx; have zs7 := hby.size; have R7 := hide (R6.out.below hby R6.out.lt); have B7 := hide (Bl.call' B6.out hby); have O7 := hide (own_below O6.out hby); have P7 := hide (P6.out.below hby P6.out.lt); have X7 := hide (X6.out.below hby X6.out.lt); have N7 := hide (own_below N6.out hby); have Q7 := hide (Q6.out.below hby Q6.out.lt); have Y7 := hide (Y6.out.below hby Y6.out.lt); obtain ⟨e0, e1, e2, e3, _, _, _, _⟩ := R7.out.four; clear hbx hby) | (go_at_call 18; refine (C18.out _ B7.out).mono ?_; rintro e w8 ⟨A1, c1, rfl, hown, hbx⟩; have zs8 := hbx.size; have R8 := hide (R7.out.below hbx R7.out.lt); have B8 := hide (Bl.call' B7.out hbx); have O8 := hide (own_below O7.out hbx); have P8 := hide (P7.out.below hbx P7.out.lt); have X8 := hide (X7.out.below hbx X7.out.lt); have N8 := hide (own_below N7.out hbx); have Q8 := hide (Q7.out.below hbx Q7.out.lt); have Y8 := hide (Y7.out.below hbx Y7.out.lt); have hlc := own_cap hown; have S8 := hide (Sl2.own_h hown); obtain ⟨h0, h1, h2, h3, _, _, _, _⟩ := R8.out.four; clear hbx hown))
  clear p0 p1 p2 p3 e0 e1 e2 e3 h0 h1 h2 h3
  clear R6 R7 B6 B7 O6 O7 P6 P7 X6 X7 N6 N7 Q6 Q7 Y6 Y7
  have hst := Sl2.tail S8.out hlc.1
  have hsi : Sl2 w8 w8.heap.size A1 K s := Sl2.init (p := y) (by rw [← HE.out]; exact S8.out)
  obtain ⟨b, o, z1, z2, hA1, hbB, hz, d1, d2⟩ := S8.out.at_ (j := 0) (by omega)
  obtain ⟨b', o', y1, y2, hA1', hbB', hz', f1, f2⟩ := S8.out.at_ (j := K) (by omega)
  subst hA1
  obtain ⟨rfl, rfl⟩ : b = b' ∧ o = o' := by injection hA1' with q; injection q with q1 q2; exact ⟨q1, q2⟩
  obtain ⟨rfl, rfl⟩ : z1 = x.1 ∧ z2 = x.2 := by simp at hz; subst hz; exact ⟨rfl, rfl⟩
  obtain ⟨rfl, rfl⟩ : y1 = y.1 ∧ y2 = y.2 := by rw [HE.out, List.getElem?_append_right (by rw [HS.out]; exact Nat.le_refl _), HS.out] at hz'; simp at hz'; subst hz'; exact ⟨rfl, rfl⟩
  clear hz hz' hA1'
  simp only [Nat.zero_mul, Nat.add_zero] at d1 d2
  obtain ⟨p0, p1, p2, p3, _, _, _, _⟩ := R8.out.four
  obtain ⟨a0, a1, a2, a3, _, _, _, _⟩ := P8.out.four
  obtain ⟨q0, q1, q2, q3, _, _, _, _⟩ := Q8.out.four
  obtain ⟨xx0, xx1, _, _⟩ := X8.out.two
  obtain ⟨yx0, yx1, _, _⟩ := Y8.out.two
  have lR := R8.out.lt
  have lP := P8.out.lt
  have lQ := Q8.out.lt
  have lX := X8.out.lt
  have lY := Y8.out.lt
  have HC := hide (show w8.cell? ⟨w.heap.size, 0, none⟩ = some (.int .i64 C) ∧ w8.cell? ⟨w.heap.size, 1, none⟩ = some (.int .i64 H) ∧ w8.cell? ⟨w3.heap.size, 0, none⟩ = some (.int .i64 C) ∧ w8.cell? ⟨w3.heap.size, 1, none⟩ = some (.int .i64 H1) ∧ w8.cell? ⟨w3.heap.size, 2, none⟩ = some (.int .i64 K) ∧ w8.cell? ⟨w3.heap.size, 3, none⟩ = some (.slice A2 C c2) ∧ w8.cell? ⟨w5.heap.size, 0, none⟩ = some (.int .i64 C) ∧ w8.cell? ⟨w5.heap.size, 1, none⟩ = some (.int .i64 H) ∧ w8.cell? ⟨w5.heap.size, 2, none⟩ = some (.int .i64 K) ∧ w8.cell? ⟨w5.heap.size, 3, none⟩ = some (.slice A3 C c3) ∧ w8.cell? ⟨w3.heap.size + 1, 0, none⟩ = some (.int .i64 x.1) ∧ w8.cell? ⟨w3.heap.size + 1, 1, none⟩ = some (.int .i64 x.2) ∧ w8.cell? ⟨w5.heap.size + 1, 0, none⟩ = some (.int .i64 y.1) ∧ w8.cell? ⟨w5.heap.size + 1, 1, none⟩ = some (.int .i64 y.2) ∧ w8.cell? ⟨b, o, none⟩ = some (.int .i64 x.1) ∧ w8.cell? ⟨b, o + 1, none⟩ = some (.int .i64 x.2) ∧ w8.cell? ⟨b, o + K * 2, none⟩ = some (.int .i64 y.1) ∧ w8.cell? ⟨b, o + K * 2 + 1, none⟩ = some (.int .i64 y.2) from ⟨p0, p1, a0, a1, a2, a3, q0, q1, q2, q3, xx0, xx1, yx0, yx1, d1, d2, f1, f2⟩)
  clear p0 p1 a0 a1 a2 a3 q0 q1 q2 q3 xx0 xx1 yx0 yx1 d1 d2 f1 f2
  obtain ⟨i1, i2, i3, i4, i5, i6, i7, i8⟩ := slice_facts K
  have hwk := wrap_pred K (by omega)
  have hC0 : ¬ ((C : Int) = 0) := by omega
  have hC0n : ¬ (C = 0) := by omega
  have hk0 := HK0.out
  have hk1 := HK1.out
  have hk2 := HK2.out
  go_upto_region 11 with (fail)
  have hcb : (K : Int) ≤ c1 := by omega
  have hcn : K ≤ c1 := by omega
  by_cases hcap : c1 = 1
  · have hcb1 : (K : Int) ≤ 1 := by omega
    have hcn1 : K ≤ 1 := by omega
    simp only [hcap, if_true] at hst
    go_region_held3 (fun w' => w'.cell? ⟨w.heap.size, 0, none⟩ = some (.int .i64 C) ∧ w'.cell? ⟨w.heap.size, 1, none⟩ = some (.int .i64 H) ∧ w'.cell? ⟨w3.heap.size, 0, none⟩ = some (.int .i64 C) ∧ w'.cell? ⟨w3.heap.size, 1, none⟩ = some (.int .i64 H1) ∧ w'.cell? ⟨w3.heap.size, 2, none⟩ = some (.int .i64 K) ∧ w'.cell? ⟨w3.heap.size, 3, none⟩ = some (.slice A2 C c2) ∧ w'.cell? ⟨w5.heap.size, 0, none⟩ = some (.int .i64 C) ∧ w'.cell? ⟨w5.heap.size, 1, none⟩ = some (.int .i64 H) ∧ w'.cell? ⟨w5.heap.size, 2, none⟩ = some (.int .i64 K) ∧ w'.cell? ⟨w5.heap.size, 3, none⟩ = some (.slice A3 C c3) ∧ w'.cell? ⟨w3.heap.size + 1, 0, none⟩ = some (.int .i64 x.1) ∧ w'.cell? ⟨w3.heap.size + 1, 1, none⟩ = some (.int .i64 x.2) ∧ w'.cell? ⟨w5.heap.size + 1, 0, none⟩ = some (.int .i64 y.1) ∧ w'.cell? ⟨w5.heap.size + 1, 1, none⟩ = some (.int .i64 y.2) ∧ w'.cell? ⟨b, o, none⟩ = some (.int .i64 x.1) ∧ w'.cell? ⟨b, o + 1, none⟩ = some (.int .i64 x.2) ∧ w'.cell? ⟨b, o + K * 2, none⟩ = some (.int .i64 y.1) ∧ w'.cell? ⟨b, o + K * 2 + 1, none⟩ = some (.int .i64 y.2)) (first | with_reducible exact HC.out | exact HC.out | with_reducible exact ⟨(below_cell hbE lR).trans HC.out.1, (below_cell hbE lR).trans HC.out.2.1, (below_cell hbE lP).trans HC.out.2.2.1, (below_cell hbE lP).trans HC.out.2.2.2.1, (below_cell hbE lP).trans HC.out.2.2.2.2.1, (below_cell hbE lP).trans HC.out.2.2.2.2.2.1, (below_cell hbE lQ).trans HC.out.2.2.2.2.2.2.1, (below_cell hbE lQ).trans HC.out.2.2.2.2.2.2.2.1, (below_cell hbE lQ).trans HC.out.2.2.2.2.2.2.2.2.1, (below_cell hbE lQ).trans HC.out.2.2.2.2.2.2.2.2.2.1, (below_cell hbE lX).trans HC.out.2.2.2.2.2.2.2.2.2.2.1, (below_cell hbE lX).trans HC.out.2.2.2.2.2.2.2.2.2.2.2.1, (below_cell hbE lY).trans HC.out.2.2.2.2.2.2.2.2.2.2.2.2.1, (below_cell hbE lY).trans HC.out.2.2.2.2.2.2.2.2.2.2.2.2.2.1, (below_cell hbE hbB).trans HC.out.2.2.2.2.2.2.2.2.2.2.2.2.2.2.1, (below_cell hbE hbB).trans HC.out.2.2.2.2.2.2.2.2.2.2.2.2.2.2.2.1, (below_cell hbE hbB).trans HC.out.2.2.2.2.2.2.2.2.2.2.2.2.2.2.2.2.1, (below_cell hbE hbB).trans HC.out.2.2.2.2.2.2.2.2.2.2.2.2.2.2.2.2.2⟩ | with_reducible exact ⟨(below_cell hbD lR).trans HC.out.1, (below_cell hbD lR).trans HC.out.2.1, (below_cell hbD lP).trans HC.out.2.2.1, (below_cell hbD lP).trans HC.out.2.2.2.1, (below_cell hbD lP).trans HC.out.2.2.2.2.1, (below_cell hbD lP).trans HC.out.2.2.2.2.2.1, (below_cell hbD lQ).trans HC.out.2.2.2.2.2.2.1, (below_cell hbD lQ).trans HC.out.2.2.2.2.2.2.2.1, (below_cell hbD lQ).trans HC.out.2.2.2.2.2.2.2.2.1, (below_cell hbD lQ).trans HC.out.2.2.2.2.2.2.2.2.2.1, (below_cell hbD lX).trans HC.out.2.2.2.2.2.2.2.2.2.2.1, (below_cell hbD lX).trans HC.out.2.2.2.2.2.2.2.2.2.2.2.1, (below_cell hbD lY).trans HC.out.2.2.2.2.2.2.2.2.2.2.2.2.1, (below_cell hbD lY).trans HC.out.2.2.2.2.2.2.2.2.2.2.2.2.2.1, (below_cell hbD hbB).trans HC.out.2.2.2.2.2.2.2.2.2.2.2.2.2.2.1, (below_cell hbD hbB).trans HC.out.2.2.2.2.2.2.2.2.2.2.2.2.2.2.2.1, (below_cell hbD hbB).trans HC.out.2.2.2.2.2.2.2.2.2.2.2.2.2.2.2.2.1, (below_cell hbD hbB).trans HC.out.2.2.2.2.2.2.2.2.2.2.2.2.2.2.2.2.2⟩ | with_reducible exact ⟨(below_cell hbC lR).trans HC.out.1, (below_cell hbC lR).trans HC.out.2.1, (below_cell hbC lP).trans HC.out.2.2.1, (below_cell hbC lP).trans HC.out.2.2.2.1, (below_cell hbC lP).trans HC.out.2.2.2.2.1, (below_cell hbC lP).trans HC.out.2.2.2.2.2.1, (below_cell hbC lQ).trans HC.out.2.2.2.2.2.2.1, (below_cell hbC lQ).trans HC.out.2.2.2.2.2.2.2.1, (below_cell hbC lQ).trans HC.out.2.2.2.2.2.2.2.2.1, (below_cell hbC lQ).trans HC.out.2.2.2.2.2.2.2.2.2.1, (below_cell hbC lX).trans HC.out.2.2.2.2.2.2.2.2.2.2.1, (below_cell hbC lX).trans HC.out.2.2.2.2.2.2.2.2.2.2.2.1, (below_cell hbC lY).trans HC.out.2.2.2.2.2.2.2.2.2.2.2.2.1, (below_cell hbC lY).trans HC.out.2.2.2.2.2.2.2.2.2.2.2.2.2.1, (below_cell hbC hbB).trans HC.out.2.2.2.2.2.2.2.2.2.2.2.2.2.2.1, (below_cell hbC hbB).trans HC.out.2.2.2.2.2.2.2.2.2.2.2.2.2.2.2.1, (below_cell hbC hbB).trans HC.out.2.2.2.2.2.2.2.2.2.2.2.2.2.2.2.2.1, (below_cell hbC hbB).trans HC.out.2.2.2.2.2.2.2.2.2.2.2.2.2.2.2.2.2⟩ | with_reducible exact ⟨(below_cell hbB2 lR).trans HC.out.1, (below_cell hbB2 lR).trans HC.out.2.1, (below_cell hbB2 lP).trans HC.out.2.2.1, (below_cell hbB2 lP).trans HC.out.2.2.2.1, (below_cell hbB2 lP).trans HC.out.2.2.2.2.1, (below_cell hbB2 lP).trans HC.out.2.2.2.2.2.1, (below_cell hbB2 lQ).trans HC.out.2.2.2.2.2.2.1, (below_cell hbB2 lQ).trans HC.out.2.2.2.2.2.2.2.1, (below_cell hbB2 lQ).trans HC.out.2.2.2.2.2.2.2.2.1, (below_cell hbB2 lQ).trans HC.out.2.2.2.2.2.2.2.2.2.1, (below_cell hbB2 lX).trans HC.out.2.2.2.2.2.2.2.2.2.2.1, (below_cell hbB2 lX).trans HC.out.2.2.2.2.2.2.2.2.2.2.2.1, (below_cell hbB2 lY).trans HC.out.2.2.2.2.2.2.2.2.2.2.2.2.1, (below_cell hbB2 lY).trans HC.out.2.2.2.2.2.2.2.2.2.2.2.2.2.1, (below_cell hbB2 hbB).trans HC.out.2.2.2.2.2.2.2.2.2.2.2.2.2.2.1, (below_cell hbB2 hbB).trans HC.out.2.2.2.2.2.2.2.2.2.2.2.2.2.2.2.1, (below_cell hbB2 hbB).trans HC.out.2.2.2.2.2.2.2.2.2.2.2.2.2.2.2.2.1, (below_cell hbB2 hbB).trans HC.out.2.2.2.2.2.2.2.2.2.2.2.2.2.2.2.2.2⟩ | with_reducible exact ⟨(below_cell hbA lR).trans HC.out.1, (below_cell hbA lR).trans HC.out.2.1, (below_cell hbA lP).trans HC.out.2.2.1, (below_cell hbA lP).trans HC.out.2.2.2.1, (below_cell hbA lP).trans HC.out.2.2.2.2.1, (below_cell hbA lP).trans HC.out.2.2.2.2.2.1, (below_cell hbA lQ).trans HC.out.2.2.2.2.2.2.1, (below_cell hbA lQ).trans HC.out.2.2.2.2.2.2.2.1, (below_cell hbA lQ).trans HC.out.2.2.2.2.2.2.2.2.1, (below_cell hbA lQ).trans HC.out.2.2.2.2.2.2.2.2.2.1, (below_cell hbA lX).trans HC.out.2.2.2.2.2.2.2.2.2.2.1, (below_cell hbA lX).trans HC.out.2.2.2.2.2.2.2.2.2.2.2.1, (below_cell hbA lY).trans HC.out.2.2.2.2.2.2.2.2.2.2.2.2.1, (below_cell hbA lY).trans HC.out.2.2.2.2.2.2.2.2.2.2.2.2.2.1, (below_cell hbA hbB).trans HC.out.2.2.2.2.2.2.2.2.2.2.2.2.2.2.1, (below_cell hbA hbB).trans HC.out.2.2.2.2.2.2.2.2.2.2.2.2.2.2.2.1, (below_cell hbA hbB).trans HC.out.2.2.2.2.2.2.2.2.2.2.2.2.2.2.2.2.1, (below_cell hbA hbB).trans HC.out.2.2.2.2.2.2.2.2.2.2.2.2.2.2.2.2.2⟩) (first | (go_at_call 11; have _t := tokC; refine (same_ring _ _ _ _ _ _ _ _ _ _ _ _ _ _ _ _ _ hoQ (Nat.le_refl _) hoC (Nat.le_refl _) (by omega) (by omega) rfl rfl rfl rfl).mono ?_; rintro e wD ⟨rfl, hbx⟩; have hbD : Below w8.heap.size w8 wD := Bl.call' hbC hbx; clear hbx) | (go_at_call 19; have _t := tokB; refine (COf2.out _ _ _ ?_).mono ?_; (· refine Sl2.of_below hsi ?_; exact hbB2); rintro e wC ⟨A9, c9, rfl, hown9, hbx⟩; have hbC : Below w8.heap.size w8 wC := Bl.call' hbB2 hbx; have hoC := Sl2.own_h hown9; have hoQ := Sl2.own_h (own_below N8.out hbC); clear hbx; have tokC := trivial) | (go_at_call 12; refine (C12.out _).mono ?_; rintro e wE ⟨rfl, hbx⟩; have hbE : Below w8.heap.size w8 wE := Bl.call' hbD hbx; clear hbx) | (go_at_call 11; refine (same_ring _ _ _ _ _ _ _ _ _ _ _ _ _ _ _ _ _ hoP (Nat.le_refl _) hoA (Nat.le_refl _) (by omega) (by omega) rfl rfl rfl rfl).mono ?_; rintro e wB ⟨rfl, hbx⟩; have hbB2 : Below w8.heap.size w8 wB := Bl.call' hbA hbx; clear hbx; have tokB := trivial) | (go_at_call 19; refine (COf1.out _ _ _ ?_).mono ?_; (· refine Sl2.of_below hst ?_; (repeat (first | with_reducible exact Below.refl _ _ | with_reducible refine Below.drew ?_))); rintro e wA ⟨A8, c8, rfl, hown8, hbx⟩; have hbA : Below w8.heap.size w8 wA := below_undrew hbx; have hoA := Sl2.own_h hown8; have hoP := Sl2.own_h (own_below O8.out hbA); clear hbx; have tokA := trivial))
    go_wp2
    go_ret
    exact ⟨rfl, Bl.call' B8.out hbE⟩
  · simp only [hcap, if_false] at hst
    go_region_held3 (fun w' => w'.cell? ⟨w.heap.size, 0, none⟩ = some (.int .i64 C) ∧ w'.cell? ⟨w.heap.size, 1, none⟩ = some (.int .i64 H) ∧ w'.cell? ⟨w3.heap.size, 0, none⟩ = some (.int .i64 C) ∧ w'.cell? ⟨w3.heap.size, 1, none⟩ = some (.int .i64 H1) ∧ w'.cell? ⟨w3.heap.size, 2, none⟩ = some (.int .i64 K) ∧ w'.cell? ⟨w3.heap.size, 3, none⟩ = some (.slice A2 C c2) ∧ w'.cell? ⟨w5.heap.size, 0, none⟩ = some (.int .i64 C) ∧ w'.cell? ⟨w5.heap.size, 1, none⟩ = some (.int .i64 H) ∧ w'.cell? ⟨w5.heap.size, 2, none⟩ = some (.int .i64 K) ∧ w'.cell? ⟨w5.heap.size, 3, none⟩ = some (.slice A3 C c3) ∧ w'.cell? ⟨w3.heap.size + 1, 0, none⟩ = some (.int .i64 x.1) ∧ w'.cell? ⟨w3.heap.size + 1, 1, none⟩ = some (.int .i64 x.2) ∧ w'.cell? ⟨w5.heap.size + 1, 0, none⟩ = some (.int .i64 y.1) ∧ w'.cell? ⟨w5.heap.size + 1, 1, none⟩ = some (.int .i64 y.2) ∧ w'.cell? ⟨b, o, none⟩ = some (.int .i64 x.1) ∧ w'.cell? ⟨b, o + 1, none⟩ = some (.int .i64 x.2) ∧ w'.cell? ⟨b, o + K * 2, none⟩ = some (.int .i64 y.1) ∧ w'.cell? ⟨b, o + K * 2 + 1, none⟩ = some (.int .i64 y.2)) (first | with_reducible exact HC.out | exact HC.out | with_reducible exact ⟨(below_cell hbE lR).trans HC.out.1, (below_cell hbE lR).trans HC.out.2.1, (below_cell hbE lP).trans HC.out.2.2.1, (below_cell hbE lP).trans HC.out.2.2.2.1, (below_cell hbE lP).trans HC.out.2.2.2.2.1, (below_cell hbE lP).trans HC.out.2.2.2.2.2.1, (below_cell hbE lQ).trans HC.out.2.2.2.2.2.2.1, (below_cell hbE lQ).trans HC.out.2.2.2.2.2.2.2.1, (below_cell hbE lQ).trans HC.out.2.2.2.2.2.2.2.2.1, (below_cell hbE lQ).trans HC.out.2.2.2.2.2.2.2.2.2.1, (below_cell hbE lX).trans HC.out.2.2.2.2.2.2.2.2.2.2.1, (below_cell hbE lX).trans HC.out.2.2.2.2.2.2.2.2.2.2.2.1, (below_cell hbE lY).trans HC.out.2.2.2.2.2.2.2.2.2.2.2.2.1, (below_cell hbE lY).trans HC.out.2.2.2.2.2.2.2.2.2.2.2.2.2.1, (below_cell hbE hbB).trans HC.out.2.2.2.2.2.2.2.2.2.2.2.2.2.2.1, (below_cell hbE hbB).trans HC.out.2.2.2.2.2.2.2.2.2.2.2.2.2.2.2.1, (below_cell hbE hbB).trans HC.out.2.2.2.2.2.2.2.2.2.2.2.2.2.2.2.2.1, (below_cell hbE hbB).trans HC.out.2.2.2.2.2.2.2.2.2.2.2.2.2.2.2.2.2⟩ | with_reducible exact ⟨(below_cell hbD lR).trans HC.out.1, (below_cell hbD lR).trans HC.out.2.1, (below_cell hbD lP).trans HC.out.2.2.1, (below_cell hbD lP).trans HC.out.2.2.2.1, (below_cell hbD lP).trans HC.out.2.2.2.2.1, (below_cell hbD lP).trans HC.out.2.2.2.2.2.1, (below_cell hbD lQ).trans HC.out.2.2.2.2.2.2.1, (below_cell hbD lQ).trans HC.out.2.2.2.2.2.2.2.1, (below_cell hbD lQ).trans HC.out.2.2.2.2.2.2.2.2.1, (below_cell hbD lQ).trans HC.out.2.2.2.2.2.2.2.2.2.1, (below_cell hbD lX).trans HC.out.2.2.2.2.2.2.2.2.2.2.1, (below_cell hbD lX).trans HC.out.2.2.2.2.2.2.2.2.2.2.2.1, (below_cell hbD lY).trans HC.out.2.2.2.2.2.2.2.2.2.2.2.2.1, (below_cell hbD lY).trans HC.out.2.2.2.2.2.2.2.2.2.2.2.2.2.1, (below_cell hbD hbB).trans HC.out.2.2.2.2.2.2.2.2.2.2.2.2.2.2.1, (below_cell hbD hbB).trans HC.out.2.2.2.2.2.2.2.2.2.2.2.2.2.2.2.1, (below_cell hbD hbB).trans HC.out.2.2.2.2.2.2.2.2.2.2.2.2.2.2.2.2.1, (below_cell hbD hbB).trans HC.out.2.2.2.2.2.2.2.2.2.2.2.2.2.2.2.2.2⟩ | with_reducible exact ⟨(below_cell hbC lR).trans HC.out.1, (below_cell hbC lR).trans HC.out.2.1, (below_cell hbC lP).trans HC.out.2.2.1, (below_cell hbC lP).trans HC.out.2.2.2.1, (below_cell hbC lP).trans HC.out.2.2.2.2.1, (below_cell hbC lP).trans HC.out.2.2.2.2.2.1, (below_cell hbC lQ).trans HC.out.2.2.2.2.2.2.1, (below_cell hbC lQ).trans HC.out.2.2.2.2.2.2.2.1, (below_cell hbC lQ).trans HC.out.2.2.2.2.2.2.2.2.1, (below_cell hbC lQ).trans HC.out.2.2.2.2.2.2.2.2.2.1, (below_cell hbC lX).trans HC.out.2.2.2.2.2.2.2.2.2.2.1, (below_cell hbC lX).trans HC.out.2.2.2.2.2.2.2.2.2.2.2.1, (below_cell hbC lY).trans HC.out.2.2.2.2.2.2.2.2.2.2.2.2.1, (below_cell hbC lY).trans HC.out.2.2.2.2.2.2.2.2.2.2.2.2.2.1, (below_cell hbC hbB).trans HC.out.2.2.2.2.2.2.2.2.2.2.2.2.2.2.1, (below_cell hbC hbB).trans HC.out.2.2.2.2.2.2.2.2.2.2.2.2.2.2.2.1, (below_cell hbC hbB).trans HC.out.2.2.2.2.2.2.2.2.2.2.2.2.2.2.2.2.1, (below_cell hbC hbB).trans HC.out.2.2.2.2.2.2.2.2.2.2.2.2.2.2.2.2.2⟩ | with_reducible exact ⟨(below_cell hbB2 lR).trans HC.out.1, (below_cell hbB2 lR).trans HC.out.2.1, (below_cell hbB2 lP).trans HC.out.2.2.1, (below_cell hbB2 lP).trans HC.out.2.2.2.1, (below_cell hbB2 lP).trans HC.out.2.2.2.2.1, (below_cell hbB2 lP).trans HC.out.2.2.2.2.2.1, (below_cell hbB2 lQ).trans HC.out.2.2.2.2.2.2.1, (below_cell hbB2 lQ).trans HC.out.2.2.2.2.2.2.2.1, (below_cell hbB2 lQ).trans HC.out.2.2.2.2.2.2.2.2.1, (below_cell hbB2 lQ).trans HC.out.2.2.2.2.2.2.2.2.2.1, (below_cell hbB2 lX).trans HC.out.2.2.2.2.2.2.2.2.2.2.1, (below_cell hbB2 lX).trans HC.out.2.2.2.2.2.2.2.2.2.2.2.1, (below_cell hbB2 lY).trans HC.out.2.2.2.2.2.2.2.2.2.2.2.2.1, (below_cell hbB2 lY).trans HC.out.2.2.2.2.2.2.2.2.2.2.2.2.2.1, (below_cell hbB2 hbB).trans HC.out.2.2.2.2.2.2.2.2.2.2.2.2.2.2.1, (below_cell hbB2 hbB).trans HC.out.2.2.2.2.2.2.2.2.2.2.2.2.2.2.2.1, (below_cell hbB2 hbB).trans HC.out.2.2.2.2.2.2.2.2.2.2.2.2.2.2.2.2.1, (below_cell hbB2 hbB).trans HC.out.2.2.2.2.2.2.2.2.2.2.2.2.2.2.2.2.2⟩ | with_reducible exact ⟨(below_cell hbA lR).trans HC.out.1, (below_cell hbA lR).trans HC.out.2.1, (below_cell hbA lP).trans HC.out.2.2.1, (below_cell hbA lP).trans HC.out.2.2.2.1, (below_cell hbA lP).trans HC.out.2.2.2.2.1, (below_cell hbA lP).trans HC.out.2.2.2.2.2.1, (below_cell hbA lQ).trans HC.out.2.2.2.2.2.2.1, (below_cell hbA lQ).trans HC.out.2.2.2.2.2.2.2.1, (below_cell hbA lQ).trans HC.out.2.2.2.2.2.2.2.2.1, (below_cell hbA lQ).trans HC.out.2.2.2.2.2.2.2.2.2.1, (below_cell hbA lX).trans HC.out.2.2.2.2.2.2.2.2.2.2.1, (below_cell hbA lX).trans HC.out.2.2.2.2.2.2.2.2.2.2.2.1, (below_cell hbA lY).trans HC.out.2.2.2.2.2.2.2.2.2.2.2.2.1, (below_cell hbA lY).trans HC.out.2.2.2.2.2.2.2.2.2.2.2.2.2.1, (below_cell hbA hbB).trans HC.out.2.2.2.2.2.2.2.2.2.2.2.2.2.2.1, (below_cell hbA hbB).trans HC.out.2.2.2.2.2.2.2.2.2.2.2.2.2.2.2.1, (below_cell hbA hbB).trans HC.out.2.2.2.2.2.2.2.2.2.2.2.2.2.2.2.2.1, (below_cell hbA hbB).trans HC.out.2.2.2.2.2.2.2.2.2.2.2.2.2.2.2.2.2⟩) (first | (go_at_call 11; have _t := tokC; refine (same_ring _ _ _ _ _ _ _ _ _ _ _ _ _ _ _ _ _ hoQ (Nat.le_refl _) hoC (Nat.le_refl _) (by omega) (by omega) rfl rfl rfl rfl).mono ?_; rintro e wD ⟨rfl, hbx⟩; have hbD : Below w8.heap.size w8 wD := Bl.call' hbC hbx; clear hbx) | (go_at_call 19; have _t := tokB; refine (COf2.out _ _ _ ?_).mono ?_; (· refine Sl2.of_below hsi ?_; exact hbB2); rintro e wC ⟨A9, c9, rfl, hown9, hbx⟩; have hbC : Below w8.heap.size w8 wC := Bl.call' hbB2 hbx; have hoC := Sl2.own_h hown9; have hoQ := Sl2.own_h (own_below N8.out hbC); clear hbx; have tokC := trivial) | (go_at_call 12; refine (C12.out _).mono ?_; rintro e wE ⟨rfl, hbx⟩; have hbE : Below w8.heap.size w8 wE := Bl.call' hbD hbx; clear hbx) | (go_at_call 11; refine (same_ring _ _ _ _ _ _ _ _ _ _ _ _ _ _ _ _ _ hoP (Nat.le_refl _) hoA (Nat.le_refl _) (by omega) (by omega) rfl rfl rfl rfl).mono ?_; rintro e wB ⟨rfl, hbx⟩; have hbB2 : Below w8.heap.size w8 wB := Bl.call' hbA hbx; clear hbx; have tokB := trivial) | (go_at_call 19; refine (COf1.out _ _ _ ?_).mono ?_; (· refine Sl2.of_below hst ?_; (repeat (first | with_reducible exact Below.refl _ _ | with_reducible refine Below.drew ?_))); rintro e wA ⟨A8, c8, rfl, hown8, hbx⟩; have hbA : Below w8.heap.size w8 wA := below_undrew hbx; have hoA := Sl2.own_h hown8; have hoP := Sl2.own_h (own_below O8.out hbA); clear hbx; have tokA := trivial))
    go_wp2
    go_ret
    exact ⟨rfl, Bl.call' B8.out hbE⟩
theorem split_last {l : List (Int × Int)} {K : Nat} (h : l.length = K + 1) : ∃ s y, l = s ++ [y] ∧ s.length = K := by
  refine ⟨l.dropLast, l.getLast (by intro c; subst c; simp at h), (List.dropLast_concat_getLast _).symm, by simp; omega⟩
theorem ringPops_walk (cap head len : Int) (A : Option Addr) (n c : Nat) (l : List (Int × Int)) (w : World) (h : Sl2 w w.heap.size A n l) :
    Calls Try.prog 8 #[ringV cap head len A n c] w (TrueEnd w) := by
  rcases Nat.lt_or_ge 200 n with hn | hn
  · exact lpop_many cap head len A n c w hn
  · by_cases hv : VOk cap head len l
    · obtain ⟨C, H, xs, hr⟩ := Rg.of_ok hv
      obtain ⟨rfl, rfl, rfl, h1, h2, h3, h4, rfl⟩ := hr
      have hl := h.1
      rw [cellsL_len] at hl
      subst hl
      rcases xs with _ | ⟨x, t⟩
      · exact lpop_empty C H A c w h hn ⟨rfl, rfl, rfl, h1, h2, h3, h4, rfl⟩
      · obtain ⟨s, y, he, hs⟩ := split_last (l := x :: t) (K := t.length) (by simp)
        have e : (((x :: t).length : Nat) : Int) = (t.length : Int) + 1 := by simp
        rw [e]
        exact lpop_ok C H t.length x y t s A c w he rfl hs h hn ⟨rfl, rfl, e.symm, h1, h2, h3, h4, rfl⟩
    · exact lpop_bad cap head len A n c l w h hn hv
end Go.Proofs.Ytjbfefkbpnickaa
