/- The walk of the law on rotations. -/
import Derived.Test.YtjbfefkbpnickaaLPush
import Derived.Test.YtjbfefkbpnickaaRot
import Derived.Test.YtjbfefkbpnickaaPop
namespace Go.Proofs.Ytjbfefkbpnickaa
open Go.RowKit
set_option linter.unusedVariables false
theorem Sl2.of_below {w w' : World} {n : Nat} {A : Option Addr} {l : List (Int × Int)} (h : Sl2 w w.heap.size A n l) (hb : Below w.heap.size w w') : Sl2 w' w'.heap.size A n l := Sl2.below_h hb h
theorem Sl2.drop_at {w : World} {B n k b o : Nat} {l : List (Int × Int)} (h : Sl2 w B (some ⟨b, o, none⟩) n l) (hk : k ≤ n) : Sl2 w B (some ⟨b, o + k * 2, none⟩) (n - k) (l.drop k) := by
  refine ⟨by rw [List.length_drop, h.1], fun hn => ?_⟩
  obtain ⟨b', o', e, hb, hc⟩ := h.2 (by omega)
  injection e with e
  injection e with e1 e2
  subst e1 e2
  refine ⟨b, o + k * 2, rfl, hb, fun i q hq => ?_⟩
  have := hc (k + i) q (by rw [← hq, List.getElem?_drop])
  rw [show o + k * 2 + i * 2 = o + (k + i) * 2 by omega]
  exact this
theorem Sl2.take_at {w : World} {B n k : Nat} {A : Option Addr} {l : List (Int × Int)} (h : Sl2 w B A n l) (hk : k ≤ n) : Sl2 w B A k (l.take k) := by
  have hl := h.1
  refine ⟨by rw [List.length_take]; omega, fun hn => ?_⟩
  obtain ⟨b, o, e, hb, hc⟩ := h.2 (by omega)
  refine ⟨b, o, e, hb, fun i q hq => hc i q ?_⟩
  rw [List.getElem?_take] at hq
  split at hq
  · exact hq
  · cases hq
theorem turn_facts {H C n K k c1 : Nat} (hH : H < C) (hC : C ≤ 65536) (hn : n ≤ 65536) (hk : k < K + 1) (hc : K + 1 ≤ c1) :
    IntKind.i64.wrap ((H : Int) + n) = (H : Int) + n ∧ ((H : Int) + n).tmod C = (((H + n) % C : Nat) : Int) ∧ ¬ ((C : Int) = 0) ∧ ¬ (C = 0) ∧ (0 : Int) ≤ k ∧ (k : Int) ≤ (K : Int) + 1 ∧ (k : Int) ≤ c1 ∧ (K : Int) + 1 ≤ c1 ∧ ¬ c1 = k ∧ k ≤ K + 1 ∧ k ≤ c1 := by
  refine ⟨by rw [IntKind.wrap_i64]; omega, by rw [Int.tmod_eq_emod_of_nonneg (by omega)]; simp, ?_⟩
  omega
set_option maxRecDepth 100000 in
theorem lrot_many (cap head len : Int) (A : Option Addr) (n c : Nat) (D : Int) (w : World) (hn : 200 < n) :
    Calls Try.prog 5 #[ringV cap head len A n c, .int .i64 D] w (TrueEnd w) := by
  have C12 := hide awake_any
  have C14 := hide (fun w0 => few_any cap head len A n c w0)
  unfold FewEnd at C14
  rw [decide_eq_false (by omega)] at C14
  unfold ringV at C14
  unfold ringV
  go_enter Try.func5, Try.ntmps5
  go_upto_region 1 with (fail)
  have qR : Blk (w.alloc (.cells #[.int .i64 cap, .int .i64 head, .int .i64 len, .slice A n c] 24)) (w.heap.size) 24 #[.int .i64 cap, .int .i64 head, .int .i64 len, .slice A n c] := Blk.new _ _ _
  have qB : Below w.heap.size w (w.alloc (.cells #[.int .i64 cap, .int .i64 head, .int .i64 len, .slice A n c] 24)) := Bl.alloc' (Below.refl _ _) _
  have z1 : (w.alloc (.cells #[.int .i64 cap, .int .i64 head, .int .i64 len, .slice A n c] 24)).heap.size = w.heap.size + 1 := by simp
  generalize (w.alloc (.cells #[.int .i64 cap, .int .i64 head, .int .i64 len, .slice A n c] 24)) = w1 at *
  have zi1 : w1.heap.size ≤ w.heap.size + 1 ∧ w.heap.size + 1 ≤ w1.heap.size := by omega
  clear z1
  have R1 := hide qR
  have B1 := hide qB
  clear qR qB
  obtain ⟨p0, p1, p2, p3, p4, p5, p6, p7⟩ := R1.out.four
  go_wp2_with (fail)
  refine (C14.out _).mono ?_
  rintro e w2 ⟨rfl, hb⟩
  have zs2 := hb.size
  clear p0 p1 p2 p3 p4 p5 p6 p7
  have qR : Blk w2 (w.heap.size) 24 #[.int .i64 cap, .int .i64 head, .int .i64 len, .slice A n c] := R1.out.below hb R1.out.lt
  have qB : Below w.heap.size w w2 := Bl.call' B1.out hb
  clear R1 B1
  have R2 := hide qR
  have B2 := hide qB
  clear qR qB
  clear hb
  go_wp2_with (fail)
  refine (C12.out _).mono ?_
  rintro e w3 ⟨rfl, hb⟩
  have zs3 := hb.size
  have qR : Blk w3 (w.heap.size) 24 #[.int .i64 cap, .int .i64 head, .int .i64 len, .slice A n c] := R2.out.below hb R2.out.lt
  have qB : Below w.heap.size w w3 := Bl.call' B2.out hb
  clear R2 B2
  have R3 := hide qR
  have B3 := hide qB
  clear qR qB
  clear hb
  go_wp2
  go_ret
  exact ⟨rfl, B3.out⟩
set_option maxRecDepth 100000 in
set_option maxHeartbeats 4000000 in
theorem lrot_bad (cap head len : Int) (A : Option Addr) (n c : Nat) (l : List (Int × Int)) (D : Int) (w : World) (h : Sl2 w w.heap.size A n l) (hn : n ≤ 200) (hv : ¬ VOk cap head len l)  :
    Calls Try.prog 5 #[ringV cap head len A n c, .int .i64 D] w (TrueEnd w) := by
  have C12 := hide awake_any
  have C11 := hide same_zero
  have C14 := hide (fun w0 => few_any cap head len A n c w0)
  unfold FewEnd at C14
  rw [decide_eq_true (by omega)] at C14
  have C17 := hide (fun w0 (hb : Below w.heap.size w w0) => rvalidate_any cap head len A n c _ l w0 (h.below hb) hb.size)
  unfold VEnd at C17
  have C20 := hide (fun w0 (hb : Below w.heap.size w w0) => rot_bad cap head len A n c _ l D w0 (h.below hb) hb.size hv)
  rw [vV_no hv] at C17
  have C18 := hide (fun w0 (hb : Below w.heap.size w w0) => ritems_bad cap head len A n c _ l w0 (h.below hb) hb.size hv)
  unfold NilEnd at C18
  unfold ErrEnd at C20
  clear h hv
  unfold ringV at C14 C17 C18 C20
  unfold ringV
  go_enter Try.func5, Try.ntmps5
  go_upto_region 1 with (fail)
  have qR : Blk (w.alloc (.cells #[.int .i64 cap, .int .i64 head, .int .i64 len, .slice A n c] 24)) (w.heap.size) 24 #[.int .i64 cap, .int .i64 head, .int .i64 len, .slice A n c] := Blk.new _ _ _
  have qB : Below w.heap.size w (w.alloc (.cells #[.int .i64 cap, .int .i64 head, .int .i64 len, .slice A n c] 24)) := Bl.alloc' (Below.refl _ _) _
  have z1 : (w.alloc (.cells #[.int .i64 cap, .int .i64 head, .int .i64 len, .slice A n c] 24)).heap.size = w.heap.size + 1 := by simp
  generalize (w.alloc (.cells #[.int .i64 cap, .int .i64 head, .int .i64 len, .slice A n c] 24)) = w1 at *
  have zi1 : w1.heap.size ≤ w.heap.size + 1 ∧ w.heap.size + 1 ≤ w1.heap.size := by omega
  clear z1
  have R1 := hide qR
  have B1 := hide qB
  clear qR qB
  obtain ⟨p0, p1, p2, p3, p4, p5, p6, p7⟩ := R1.out.four
  go_wp2_with (fail)
  refine (C14.out _).mono ?_
  rintro e w2 ⟨rfl, hb⟩
  have zs2 := hb.size
  clear p0 p1 p2 p3 p4 p5 p6 p7
  have qR : Blk w2 (w.heap.size) 24 #[.int .i64 cap, .int .i64 head, .int .i64 len, .slice A n c] := R1.out.below hb R1.out.lt
  have qB : Below w.heap.size w w2 := Bl.call' B1.out hb
  clear R1 B1
  have R2 := hide qR
  have B2 := hide qB
  clear qR qB
  clear hb
  obtain ⟨p0, p1, p2, p3, p4, p5, p6, p7⟩ := R2.out.four
  go_wp2_with (fail)
  refine (C20.out _ B2.out).mono ?_
  rintro e w3 ⟨rfl, hb⟩
  have zs3 := hb.size
  clear p0 p1 p2 p3 p4 p5 p6 p7
  have qR : Blk w3 (w.heap.size) 24 #[.int .i64 cap, .int .i64 head, .int .i64 len, .slice A n c] := R2.out.below hb R2.out.lt
  have qB : Below w.heap.size w w3 := Bl.call' B2.out hb
  clear R2 B2
  have R3 := hide qR
  have B3 := hide qB
  clear qR qB
  clear hb
  go_upto_region 4 with (fail)
  have qR : Blk (w3.alloc (.cells #[.int .i64 0, .int .i64 0, .int .i64 0, .slice none 0 0] 24)) (w.heap.size) 24 #[.int .i64 cap, .int .i64 head, .int .i64 len, .slice A n c] := R3.out.alloc _
  have qB : Below w.heap.size w (w3.alloc (.cells #[.int .i64 0, .int .i64 0, .int .i64 0, .slice none 0 0] 24)) := Bl.alloc' B3.out _
  have qP : Blk (w3.alloc (.cells #[.int .i64 0, .int .i64 0, .int .i64 0, .slice none 0 0] 24)) (w3.heap.size) 24 #[.int .i64 0, .int .i64 0, .int .i64 0, .slice none 0 0] := Blk.new _ _ _
  have z4 : (w3.alloc (.cells #[.int .i64 0, .int .i64 0, .int .i64 0, .slice none 0 0] 24)).heap.size = w3.heap.size + 1 := by simp
  clear R3 B3
  generalize (w3.alloc (.cells #[.int .i64 0, .int .i64 0, .int .i64 0, .slice none 0 0] 24)) = w4 at *
  have R4 := hide qR
  have B4 := hide qB
  have P4 := hide qP
  clear qR qB qP
  have zi4 : w4.heap.size ≤ w3.heap.size + 1 ∧ w3.heap.size < w4.heap.size := by omega
  clear z4
  obtain ⟨p0, p1, p2, p3, p4, p5, p6, p7⟩ := R4.out.four
  go_upto_region 4 with (fail)
  go_region_held3 (fun w' => w'.cell? ⟨w.heap.size, 0, none⟩ = some (.int .i64 cap) ∧ w'.cell? ⟨w.heap.size, 1, none⟩ = some (.int .i64 head) ∧ w'.cell? ⟨w.heap.size, 2, none⟩ = some (.int .i64 len) ∧ w'.cell? ⟨w.heap.size, 3, none⟩ = some (.slice A n c)) (first | exact ⟨p0, p1, p2, p3⟩ | exact ⟨e0, e1, e2, e3⟩ | exact ⟨h0, h1, h2, h3⟩) (first | (go_at_call 17; refine (C17.out _ B4.out.drew).mono ?_; rintro e w5 ⟨rfl, hbx⟩; have hby : Below w4.heap.size w4 w5 := below_undrew hbx; have zs5 := hby.size; have R5 := hide (R4.out.below hby R4.out.lt); have B5 := hide (Bl.call' B4.out hby); have P5 := hide (P4.out.below hby P4.out.lt); obtain ⟨e0, e1, e2, e3, _, _, _, _⟩ := R5.out.four; clear hbx hby) | (go_at_call 18; refine (C18.out _ B5.out).mono ?_; rintro e w6 ⟨rfl, hbx⟩; have zs6 := hbx.size; have R6 := hide (R5.out.below hbx R5.out.lt); have B6 := hide (Bl.call' B5.out hbx); have P6 := hide (P5.out.below hbx P5.out.lt); obtain ⟨h0, h1, h2, h3, _, _, _, _⟩ := R6.out.four; clear hbx))
  clear p0 p1 p2 p3 e0 e1 e2 e3 h0 h1 h2 h3
  clear R4 R5 B4 B5 P4 P5
  obtain ⟨a0, a1, a2, a3, a4, a5, a6, a7⟩ := P6.out.four
  go_wp2_with (fail)
  refine (C11.out _).mono ?_
  rintro e w7 ⟨rfl, hb⟩
  have zs7 := hb.size
  clear a0 a1 a2 a3 a4 a5 a6 a7
  have qR : Blk w7 (w.heap.size) 24 #[.int .i64 cap, .int .i64 head, .int .i64 len, .slice A n c] := R6.out.below hb R6.out.lt
  have qB : Below w.heap.size w w7 := Bl.call' B6.out hb
  have qP : Blk w7 (w3.heap.size) 24 #[.int .i64 0, .int .i64 0, .int .i64 0, .slice none 0 0] := P6.out.below hb P6.out.lt
  clear R6 B6 P6
  have R7 := hide qR
  have B7 := hide qB
  have P7 := hide qP
  clear qR qB qP
  clear hb
  go_wp2_with (fail)
  refine (C12.out _).mono ?_
  rintro e w8 ⟨rfl, hb⟩
  have zs8 := hb.size
  have qR : Blk w8 (w.heap.size) 24 #[.int .i64 cap, .int .i64 head, .int .i64 len, .slice A n c] := R7.out.below hb R7.out.lt
  have qB : Below w.heap.size w w8 := Bl.call' B7.out hb
  have qP : Blk w8 (w3.heap.size) 24 #[.int .i64 0, .int .i64 0, .int .i64 0, .slice none 0 0] := P7.out.below hb P7.out.lt
  clear R7 B7 P7
  have R8 := hide qR
  have B8 := hide qB
  have P8 := hide qP
  clear qR qB qP
  clear hb
  go_wp2
  go_ret
  exact ⟨rfl, B8.out⟩
set_option maxRecDepth 100000 in
set_option maxHeartbeats 4000000 in
theorem lrot_neg (C H : Nat) (xs : List (Int × Int)) (A : Option Addr) (c : Nat) (D : Int) (w : World) (h : Sl2 w w.heap.size A C (cellsL C H xs)) (hn : C ≤ 200) (hr : Rg C H xs.length (cellsL C H xs) C H xs) (hD : D < 0) :
    Calls Try.prog 5 #[ringV C H xs.length A C c, .int .i64 D] w (TrueEnd w) := by
  have C12 := hide awake_any
  have C11 := hide same_zero
  have C14 := hide (fun w0 => few_any C H xs.length A C c w0)
  unfold FewEnd at C14
  rw [decide_eq_true (by omega)] at C14
  have C17 := hide (fun w0 (hb : Below w.heap.size w w0) => rvalidate_any C H xs.length A C c _ (cellsL C H xs) w0 (h.below hb) hb.size)
  unfold VEnd at C17
  have C20 := hide (fun w0 (hb : Below w.heap.size w w0) => rot_neg C H xs.length A C c _ (cellsL C H xs) D w0 (h.below hb) hb.size hr.ok hD)
  rw [vV_yes hr.ok] at C17
  have C18 := hide (fun w0 (hb : Below w.heap.size w w0) => ritems_ok C H xs A c _ w0 (h.below hb) hb.size hr)
  unfold ListEnd at C18
  have hlx : xs.length ≤ 200 := Nat.le_trans hr.fits hn
  unfold ErrEnd at C20
  have hd : decide (D < 0) = true := by simpa using hD
  clear h hr
  generalize hl : xs.length = L at *
  have HL := hide hl
  clear hl
  unfold ringV at C14 C17 C18 C20
  unfold ringV
  go_enter Try.func5, Try.ntmps5
  go_upto_region 1 with (fail)
  have qR : Blk (w.alloc (.cells #[.int .i64 C, .int .i64 H, .int .i64 L, .slice A C c] 24)) (w.heap.size) 24 #[.int .i64 C, .int .i64 H, .int .i64 L, .slice A C c] := Blk.new _ _ _
  have qB : Below w.heap.size w (w.alloc (.cells #[.int .i64 C, .int .i64 H, .int .i64 L, .slice A C c] 24)) := Bl.alloc' (Below.refl _ _) _
  have z1 : (w.alloc (.cells #[.int .i64 C, .int .i64 H, .int .i64 L, .slice A C c] 24)).heap.size = w.heap.size + 1 := by simp
  generalize (w.alloc (.cells #[.int .i64 C, .int .i64 H, .int .i64 L, .slice A C c] 24)) = w1 at *
  have zi1 : w1.heap.size ≤ w.heap.size + 1 ∧ w.heap.size + 1 ≤ w1.heap.size := by omega
  clear z1
  have R1 := hide qR
  have B1 := hide qB
  clear qR qB
  obtain ⟨p0, p1, p2, p3, p4, p5, p6, p7⟩ := R1.out.four
  go_wp2_with (fail)
  refine (C14.out _).mono ?_
  rintro e w2 ⟨rfl, hb⟩
  have zs2 := hb.size
  clear p0 p1 p2 p3 p4 p5 p6 p7
  have qR : Blk w2 (w.heap.size) 24 #[.int .i64 C, .int .i64 H, .int .i64 L, .slice A C c] := R1.out.below hb R1.out.lt
  have qB : Below w.heap.size w w2 := Bl.call' B1.out hb
  clear R1 B1
  have R2 := hide qR
  have B2 := hide qB
  clear qR qB
  clear hb
  obtain ⟨p0, p1, p2, p3, p4, p5, p6, p7⟩ := R2.out.four
  go_wp2_with (fail)
  refine (C20.out _ B2.out).mono ?_
  rintro e w3 ⟨rfl, hb⟩
  have zs3 := hb.size
  clear p0 p1 p2 p3 p4 p5 p6 p7
  have qR : Blk w3 (w.heap.size) 24 #[.int .i64 C, .int .i64 H, .int .i64 L, .slice A C c] := R2.out.below hb R2.out.lt
  have qB : Below w.heap.size w w3 := Bl.call' B2.out hb
  clear R2 B2
  have R3 := hide qR
  have B3 := hide qB
  clear qR qB
  clear hb
  go_upto_region 4 with (fail)
  have qR : Blk (w3.alloc (.cells #[.int .i64 0, .int .i64 0, .int .i64 0, .slice none 0 0] 24)) (w.heap.size) 24 #[.int .i64 C, .int .i64 H, .int .i64 L, .slice A C c] := R3.out.alloc _
  have qB : Below w.heap.size w (w3.alloc (.cells #[.int .i64 0, .int .i64 0, .int .i64 0, .slice none 0 0] 24)) := Bl.alloc' B3.out _
  have qP : Blk (w3.alloc (.cells #[.int .i64 0, .int .i64 0, .int .i64 0, .slice none 0 0] 24)) (w3.heap.size) 24 #[.int .i64 0, .int .i64 0, .int .i64 0, .slice none 0 0] := Blk.new _ _ _
  have z4 : (w3.alloc (.cells #[.int .i64 0, .int .i64 0, .int .i64 0, .slice none 0 0] 24)).heap.size = w3.heap.size + 1 := by simp
  clear R3 B3
  generalize (w3.alloc (.cells #[.int .i64 0, .int .i64 0, .int .i64 0, .slice none 0 0] 24)) = w4 at *
  have R4 := hide qR
  have B4 := hide qB
  have P4 := hide qP
  clear qR qB qP
  have zi4 : w4.heap.size ≤ w3.heap.size + 1 ∧ w3.heap.size < w4.heap.size := by omega
  clear z4
  obtain ⟨p0, p1, p2, p3, p4, p5, p6, p7⟩ := R4.out.four
  go_upto_region 4 with (fail)
  go_region_held3 (fun w' => w'.cell? ⟨w.heap.size, 0, none⟩ = some (.int .i64 C) ∧ w'.cell? ⟨w.heap.size, 1, none⟩ = some (.int .i64 H) ∧ w'.cell? ⟨w.heap.size, 2, none⟩ = some (.int .i64 L) ∧ w'.cell? ⟨w.heap.size, 3, none⟩ = some (.slice A C c)) (first | exact ⟨p0, p1, p2, p3⟩ | exact ⟨e0, e1, e2, e3⟩ | exact ⟨h0, h1, h2, h3⟩) (first | (go_at_call 17; refine (C17.out _ B4.out.drew).mono ?_; rintro e w5 ⟨rfl, hbx⟩; have hby : Below w4.heap.size w4 w5 := below_undrew hbx; have zs5 := hby.size; have R5 := hide (R4.out.below hby R4.out.lt); have B5 := hide (Bl.call' B4.out hby); have P5 := hide (P4.out.below hby P4.out.lt); obtain ⟨e0, e1, e2, e3, _, _, _, _⟩ := R5.out.four; clear hbx hby) | (go_at_call 18; refine (C18.out _ B5.out).mono ?_; rintro e w6 ⟨A1, c1, rfl, hown, hbx⟩; have zs6 := hbx.size; have R6 := hide (R5.out.below hbx R5.out.lt); have B6 := hide (Bl.call' B5.out hbx); have P6 := hide (P5.out.below hbx P5.out.lt); have hlc := own_cap hown; have S6 := hide (Sl2.own_h hown); obtain ⟨h0, h1, h2, h3, _, _, _, _⟩ := R6.out.four; clear hbx hown))
  clear p0 p1 p2 p3 e0 e1 e2 e3 h0 h1 h2 h3
  clear R4 R5 B4 B5 P4 P5
  obtain ⟨a0, a1, a2, a3, a4, a5, a6, a7⟩ := P6.out.four
  go_wp2_with (fail)
  refine (C11.out _).mono ?_
  rintro e w7 ⟨rfl, hb⟩
  have zs7 := hb.size
  clear a0 a1 a2 a3 a4 a5 a6 a7
  have qR : Blk w7 (w.heap.size) 24 #[.int .i64 C, .int .i64 H, .int .i64 L, .slice A C c] := R6.out.below hb R6.out.lt
  have qB : Below w.heap.size w w7 := Bl.call' B6.out hb
  have qP : Blk w7 (w3.heap.size) 24 #[.int .i64 0, .int .i64 0, .int .i64 0, .slice none 0 0] := P6.out.below hb P6.out.lt
  have qS : Sl2 w7 w7.heap.size A1 (L) xs := Sl2.below_h hb S6.out
  clear R6 B6 P6 S6
  have R7 := hide qR
  have B7 := hide qB
  have P7 := hide qP
  have S7 := hide qS
  clear qR qB qP qS
  clear hb
  go_wp2_with (fail)
  refine (C12.out _).mono ?_
  rintro e w8 ⟨rfl, hb⟩
  have zs8 := hb.size
  have qR : Blk w8 (w.heap.size) 24 #[.int .i64 C, .int .i64 H, .int .i64 L, .slice A C c] := R7.out.below hb R7.out.lt
  have qB : Below w.heap.size w w8 := Bl.call' B7.out hb
  have qP : Blk w8 (w3.heap.size) 24 #[.int .i64 0, .int .i64 0, .int .i64 0, .slice none 0 0] := P7.out.below hb P7.out.lt
  have qS : Sl2 w8 w8.heap.size A1 (L) xs := Sl2.below_h hb S7.out
  clear R7 B7 P7 S7
  have R8 := hide qR
  have B8 := hide qB
  have P8 := hide qP
  have S8 := hide qS
  clear qR qB qP qS
  clear hb
  go_wp2
  go_ret
  exact ⟨rfl, B8.out⟩
set_option maxRecDepth 100000 in
set_option maxHeartbeats 4000000 in
theorem lrot_max (C H : Nat) (xs : List (Int × Int)) (A : Option Addr) (c : Nat) (D : Int) (w : World) (h : Sl2 w w.heap.size A C (cellsL C H xs)) (hn : C ≤ 200) (hr : Rg C H xs.length (cellsL C H xs) C H xs) (hD : 65536 < D) :
    Calls Try.prog 5 #[ringV C H xs.length A C c, .int .i64 D] w (TrueEnd w) := by
  have C12 := hide awake_any
  have C11 := hide same_zero
  have C14 := hide (fun w0 => few_any C H xs.length A C c w0)
  unfold FewEnd at C14
  rw [decide_eq_true (by omega)] at C14
  have C17 := hide (fun w0 (hb : Below w.heap.size w w0) => rvalidate_any C H xs.length A C c _ (cellsL C H xs) w0 (h.below hb) hb.size)
  unfold VEnd at C17
  have C20 := hide (fun w0 (hb : Below w.heap.size w w0) => rot_max C H xs.length A C c _ (cellsL C H xs) D w0 (h.below hb) hb.size hr.ok hD)
  rw [vV_yes hr.ok] at C17
  have C18 := hide (fun w0 (hb : Below w.heap.size w w0) => ritems_ok C H xs A c _ w0 (h.below hb) hb.size hr)
  unfold ListEnd at C18
  have hlx : xs.length ≤ 200 := Nat.le_trans hr.fits hn
  unfold ErrEnd at C20
  have hd : decide (D < 0) = false := by simp; omega
  have hd1 : decide (65536 < D) = true := by simpa using hD
  clear h hr
  generalize hl : xs.length = L at *
  have HL := hide hl
  clear hl
  unfold ringV at C14 C17 C18 C20
  unfold ringV
  go_enter Try.func5, Try.ntmps5
  go_upto_region 1 with (fail)
  have qR : Blk (w.alloc (.cells #[.int .i64 C, .int .i64 H, .int .i64 L, .slice A C c] 24)) (w.heap.size) 24 #[.int .i64 C, .int .i64 H, .int .i64 L, .slice A C c] := Blk.new _ _ _
  have qB : Below w.heap.size w (w.alloc (.cells #[.int .i64 C, .int .i64 H, .int .i64 L, .slice A C c] 24)) := Bl.alloc' (Below.refl _ _) _
  have z1 : (w.alloc (.cells #[.int .i64 C, .int .i64 H, .int .i64 L, .slice A C c] 24)).heap.size = w.heap.size + 1 := by simp
  generalize (w.alloc (.cells #[.int .i64 C, .int .i64 H, .int .i64 L, .slice A C c] 24)) = w1 at *
  have zi1 : w1.heap.size ≤ w.heap.size + 1 ∧ w.heap.size + 1 ≤ w1.heap.size := by omega
  clear z1
  have R1 := hide qR
  have B1 := hide qB
  clear qR qB
  obtain ⟨p0, p1, p2, p3, p4, p5, p6, p7⟩ := R1.out.four
  go_wp2_with (fail)
  refine (C14.out _).mono ?_
  rintro e w2 ⟨rfl, hb⟩
  have zs2 := hb.size
  clear p0 p1 p2 p3 p4 p5 p6 p7
  have qR : Blk w2 (w.heap.size) 24 #[.int .i64 C, .int .i64 H, .int .i64 L, .slice A C c] := R1.out.below hb R1.out.lt
  have qB : Below w.heap.size w w2 := Bl.call' B1.out hb
  clear R1 B1
  have R2 := hide qR
  have B2 := hide qB
  clear qR qB
  clear hb
  obtain ⟨p0, p1, p2, p3, p4, p5, p6, p7⟩ := R2.out.four
  go_wp2_with (fail)
  refine (C20.out _ B2.out).mono ?_
  rintro e w3 ⟨rfl, hb⟩
  have zs3 := hb.size
  clear p0 p1 p2 p3 p4 p5 p6 p7
  have qR : Blk w3 (w.heap.size) 24 #[.int .i64 C, .int .i64 H, .int .i64 L, .slice A C c] := R2.out.below hb R2.out.lt
  have qB : Below w.heap.size w w3 := Bl.call' B2.out hb
  clear R2 B2
  have R3 := hide qR
  have B3 := hide qB
  clear qR qB
  clear hb
  go_upto_region 4 with (fail)
  have qR : Blk (w3.alloc (.cells #[.int .i64 0, .int .i64 0, .int .i64 0, .slice none 0 0] 24)) (w.heap.size) 24 #[.int .i64 C, .int .i64 H, .int .i64 L, .slice A C c] := R3.out.alloc _
  have qB : Below w.heap.size w (w3.alloc (.cells #[.int .i64 0, .int .i64 0, .int .i64 0, .slice none 0 0] 24)) := Bl.alloc' B3.out _
  have qP : Blk (w3.alloc (.cells #[.int .i64 0, .int .i64 0, .int .i64 0, .slice none 0 0] 24)) (w3.heap.size) 24 #[.int .i64 0, .int .i64 0, .int .i64 0, .slice none 0 0] := Blk.new _ _ _
  have z4 : (w3.alloc (.cells #[.int .i64 0, .int .i64 0, .int .i64 0, .slice none 0 0] 24)).heap.size = w3.heap.size + 1 := by simp
  clear R3 B3
  generalize (w3.alloc (.cells #[.int .i64 0, .int .i64 0, .int .i64 0, .slice none 0 0] 24)) = w4 at *
  have R4 := hide qR
  have B4 := hide qB
  have P4 := hide qP
  clear qR qB qP
  have zi4 : w4.heap.size ≤ w3.heap.size + 1 ∧ w3.heap.size < w4.heap.size := by omega
  clear z4
  obtain ⟨p0, p1, p2, p3, p4, p5, p6, p7⟩ := R4.out.four
  go_upto_region 4 with (fail)
  go_region_held3 (fun w' => w'.cell? ⟨w.heap.size, 0, none⟩ = some (.int .i64 C) ∧ w'.cell? ⟨w.heap.size, 1, none⟩ = some (.int .i64 H) ∧ w'.cell? ⟨w.heap.size, 2, none⟩ = some (.int .i64 L) ∧ w'.cell? ⟨w.heap.size, 3, none⟩ = some (.slice A C c)) (first | exact ⟨p0, p1, p2, p3⟩ | exact ⟨e0, e1, e2, e3⟩ | exact ⟨h0, h1, h2, h3⟩) (first | (go_at_call 17; refine (C17.out _ B4.out.drew).mono ?_; rintro e w5 ⟨rfl, hbx⟩; have hby : Below w4.heap.size w4 w5 := below_undrew hbx; have zs5 := hby.size; have R5 := hide (R4.out.below hby R4.out.lt); have B5 := hide (Bl.call' B4.out hby); have P5 := hide (P4.out.below hby P4.out.lt); obtain ⟨e0, e1, e2, e3, _, _, _, _⟩ := R5.out.four; clear hbx hby) | (go_at_call 18; refine (C18.out _ B5.out).mono ?_; rintro e w6 ⟨A1, c1, rfl, hown, hbx⟩; have zs6 := hbx.size; have R6 := hide (R5.out.below hbx R5.out.lt); have B6 := hide (Bl.call' B5.out hbx); have P6 := hide (P5.out.below hbx P5.out.lt); have hlc := own_cap hown; have S6 := hide (Sl2.own_h hown); obtain ⟨h0, h1, h2, h3, _, _, _, _⟩ := R6.out.four; clear hbx hown))
  clear p0 p1 p2 p3 e0 e1 e2 e3 h0 h1 h2 h3
  clear R4 R5 B4 B5 P4 P5
  obtain ⟨a0, a1, a2, a3, a4, a5, a6, a7⟩ := P6.out.four
  go_wp2_with (fail)
  refine (C11.out _).mono ?_
  rintro e w7 ⟨rfl, hb⟩
  have zs7 := hb.size
  clear a0 a1 a2 a3 a4 a5 a6 a7
  have qR : Blk w7 (w.heap.size) 24 #[.int .i64 C, .int .i64 H, .int .i64 L, .slice A C c] := R6.out.below hb R6.out.lt
  have qB : Below w.heap.size w w7 := Bl.call' B6.out hb
  have qP : Blk w7 (w3.heap.size) 24 #[.int .i64 0, .int .i64 0, .int .i64 0, .slice none 0 0] := P6.out.below hb P6.out.lt
  have qS : Sl2 w7 w7.heap.size A1 (L) xs := Sl2.below_h hb S6.out
  clear R6 B6 P6 S6
  have R7 := hide qR
  have B7 := hide qB
  have P7 := hide qP
  have S7 := hide qS
  clear qR qB qP qS
  clear hb
  go_wp2_with (fail)
  refine (C12.out _).mono ?_
  rintro e w8 ⟨rfl, hb⟩
  have zs8 := hb.size
  have qR : Blk w8 (w.heap.size) 24 #[.int .i64 C, .int .i64 H, .int .i64 L, .slice A C c] := R7.out.below hb R7.out.lt
  have qB : Below w.heap.size w w8 := Bl.call' B7.out hb
  have qP : Blk w8 (w3.heap.size) 24 #[.int .i64 0, .int .i64 0, .int .i64 0, .slice none 0 0] := P7.out.below hb P7.out.lt
  have qS : Sl2 w8 w8.heap.size A1 (L) xs := Sl2.below_h hb S7.out
  clear R7 B7 P7 S7
  have R8 := hide qR
  have B8 := hide qB
  have P8 := hide qP
  have S8 := hide qS
  clear qR qB qP qS
  clear hb
  go_wp2
  go_ret
  exact ⟨rfl, B8.out⟩
set_option maxRecDepth 100000 in
set_option maxHeartbeats 4000000 in
theorem lrot_empty (C H : Nat) (A : Option Addr) (c : Nat) (D : Nat) (w : World) (h : Sl2 w w.heap.size A C (cellsL C H [])) (hn : C ≤ 200) (hr : Rg C H 0 (cellsL C H []) C H []) (hD : D ≤ 65536) :
    Calls Try.prog 5 #[ringV C H 0 A C c, .int .i64 D] w (TrueEnd w) := by
  have C12 := hide awake_any
  have C11 := hide same_zero
  have C14 := hide (fun w0 => few_any C H 0 A C c w0)
  unfold FewEnd at C14
  rw [decide_eq_true (by omega)] at C14
  have C17 := hide (fun w0 (hb : Below w.heap.size w w0) => rvalidate_any C H 0 A C c _ (cellsL C H []) w0 (h.below hb) hb.size)
  unfold VEnd at C17
  have C20 := hide (fun w0 (hb : Below w.heap.size w w0) => rot_empty C H D A c _ w0 (h.below hb) hb.size hr hD)
  rw [vV_yes hr.ok] at C17
  have C18 := hide (fun w0 (hb : Below w.heap.size w w0) => ritems_ok C H [] A c _ w0 (h.below hb) hb.size hr)
  unfold ListEnd at C18
  unfold PushEnd at C20
  have hC1 := hr.one
  have hC2 := hr.max
  have HA := hide h
  have hd : decide ((D : Int) < 0) = false := by simp
  have hd1 : decide ((65536 : Int) < D) = false := by simp; omega
  clear h hr
  unfold ringV at C14 C17 C18 C20
  unfold ringV
  go_enter Try.func5, Try.ntmps5
  go_upto_region 1 with (fail)
  have qR : Blk (w.alloc (.cells #[.int .i64 C, .int .i64 H, .int .i64 0, .slice A C c] 24)) (w.heap.size) 24 #[.int .i64 C, .int .i64 H, .int .i64 0, .slice A C c] := Blk.new _ _ _
  have qB : Below w.heap.size w (w.alloc (.cells #[.int .i64 C, .int .i64 H, .int .i64 0, .slice A C c] 24)) := Bl.alloc' (Below.refl _ _) _
  have z1 : (w.alloc (.cells #[.int .i64 C, .int .i64 H, .int .i64 0, .slice A C c] 24)).heap.size = w.heap.size + 1 := by simp
  generalize (w.alloc (.cells #[.int .i64 C, .int .i64 H, .int .i64 0, .slice A C c] 24)) = w1 at *
  have zi1 : w1.heap.size ≤ w.heap.size + 1 ∧ w.heap.size + 1 ≤ w1.heap.size := by omega
  clear z1
  have R1 := hide qR
  have B1 := hide qB
  clear qR qB
  obtain ⟨p0, p1, p2, p3, p4, p5, p6, p7⟩ := R1.out.four
  go_wp2_with (fail)
  refine (C14.out _).mono ?_
  rintro e w2 ⟨rfl, hb⟩
  have zs2 := hb.size
  clear p0 p1 p2 p3 p4 p5 p6 p7
  have qR : Blk w2 (w.heap.size) 24 #[.int .i64 C, .int .i64 H, .int .i64 0, .slice A C c] := R1.out.below hb R1.out.lt
  have qB : Below w.heap.size w w2 := Bl.call' B1.out hb
  clear R1 B1
  have R2 := hide qR
  have B2 := hide qB
  clear qR qB
  clear hb
  obtain ⟨p0, p1, p2, p3, p4, p5, p6, p7⟩ := R2.out.four
  go_wp2_with (fail)
  refine (C20.out _ B2.out).mono ?_
  rintro e w3 ⟨A2, c2, rfl, hown, hb⟩
  have zs3 := hb.size
  clear p0 p1 p2 p3 p4 p5 p6 p7
  have qR : Blk w3 (w.heap.size) 24 #[.int .i64 C, .int .i64 H, .int .i64 0, .slice A C c] := R2.out.below hb R2.out.lt
  have qB : Below w.heap.size w w3 := Bl.call' B2.out hb
  have qO : World.ownsRow w3 (w.heap.size) 33 2 (.slice A2 C c2) (C) (flat (cellsL C H [])) := own_more hown (by omega)
  clear R2 B2
  have R3 := hide qR
  have B3 := hide qB
  have O3 := hide qO
  clear qR qB qO
  clear hb
  clear hown
  go_upto_region 4 with (fail)
  have qR : Blk (w3.alloc (.cells #[.int .i64 C, .int .i64 H, .int .i64 0, .slice A2 C c2] 24)) (w.heap.size) 24 #[.int .i64 C, .int .i64 H, .int .i64 0, .slice A C c] := R3.out.alloc _
  have qB : Below w.heap.size w (w3.alloc (.cells #[.int .i64 C, .int .i64 H, .int .i64 0, .slice A2 C c2] 24)) := Bl.alloc' B3.out _
  have qO : World.ownsRow (w3.alloc (.cells #[.int .i64 C, .int .i64 H, .int .i64 0, .slice A2 C c2] 24)) (w.heap.size) 33 2 (.slice A2 C c2) (C) (flat (cellsL C H [])) := O3.out.alloc _
  have qP : Blk (w3.alloc (.cells #[.int .i64 C, .int .i64 H, .int .i64 0, .slice A2 C c2] 24)) (w3.heap.size) 24 #[.int .i64 C, .int .i64 H, .int .i64 0, .slice A2 C c2] := Blk.new _ _ _
  have z4 : (w3.alloc (.cells #[.int .i64 C, .int .i64 H, .int .i64 0, .slice A2 C c2] 24)).heap.size = w3.heap.size + 1 := by simp
  clear R3 B3 O3
  generalize (w3.alloc (.cells #[.int .i64 C, .int .i64 H, .int .i64 0, .slice A2 C c2] 24)) = w4 at *
  have R4 := hide qR
  have B4 := hide qB
  have O4 := hide qO
  have P4 := hide qP
  clear qR qB qO qP
  have zi4 : w4.heap.size ≤ w3.heap.size + 1 ∧ w3.heap.size < w4.heap.size := by omega
  clear z4
  obtain ⟨p0, p1, p2, p3, p4, p5, p6, p7⟩ := R4.out.four
  go_upto_region 4 with (fail)
  go_region_held3 (fun w' => w'.cell? ⟨w.heap.size, 0, none⟩ = some (.int .i64 C) ∧ w'.cell? ⟨w.heap.size, 1, none⟩ = some (.int .i64 H) ∧ w'.cell? ⟨w.heap.size, 2, none⟩ = some (.int .i64 0) ∧ w'.cell? ⟨w.heap.size, 3, none⟩ = some (.slice A C c)) (first | exact ⟨p0, p1, p2, p3⟩ | exact ⟨e0, e1, e2, e3⟩ | exact ⟨h0, h1, h2, h3⟩) (first | (go_at_call 17; refine (C17.out _ B4.out.drew).mono ?_; rintro e w5 ⟨rfl, hbx⟩; have hby : Below w4.heap.size w4 w5 := below_undrew hbx; have zs5 := hby.size; have R5 := hide (R4.out.below hby R4.out.lt); have B5 := hide (Bl.call' B4.out hby); have O5 := hide (own_below O4.out hby); have P5 := hide (P4.out.below hby P4.out.lt); obtain ⟨e0, e1, e2, e3, _, _, _, _⟩ := R5.out.four; clear hbx hby) | (go_at_call 18; refine (C18.out _ B5.out).mono ?_; rintro e w6 ⟨A1, c1, rfl, hown, hbx⟩; have zs6 := hbx.size; have R6 := hide (R5.out.below hbx R5.out.lt); have B6 := hide (Bl.call' B5.out hbx); have O6 := hide (own_below O5.out hbx); have P6 := hide (P5.out.below hbx P5.out.lt); have hlc := own_cap hown; have S6 := hide (Sl2.own_h hown); obtain ⟨h0, h1, h2, h3, _, _, _, _⟩ := R6.out.four; clear hbx hown))
  clear p0 p1 p2 p3 e0 e1 e2 e3 h0 h1 h2 h3
  clear R4 R5 B4 B5 O4 O5 P4 P5
  obtain ⟨a0, a1, a2, a3, a4, a5, a6, a7⟩ := P6.out.four
  obtain ⟨p0, p1, p2, p3, p4, p5, p6, p7⟩ := R6.out.four
  have CS := hide (same_ring C H 0 A2 C c2 _ _ C H 0 A C c _ _ w6 (Sl2.own_h O6.out) (Nat.le_refl _) (HA.out.below B6.out) B6.out.size (by omega) (by omega) rfl rfl rfl rfl)
  unfold ringV at CS
  go_wp2_with (fail)
  refine (CS.out).mono ?_
  rintro e w7 ⟨rfl, hb⟩
  have zs7 := hb.size
  clear a0 a1 a2 a3 a4 a5 a6 a7 p0 p1 p2 p3 p4 p5 p6 p7
  have qR : Blk w7 (w.heap.size) 24 #[.int .i64 C, .int .i64 H, .int .i64 0, .slice A C c] := R6.out.below hb R6.out.lt
  have qB : Below w.heap.size w w7 := Bl.call' B6.out hb
  have qO : World.ownsRow w7 (w.heap.size) 33 2 (.slice A2 C c2) (C) (flat (cellsL C H [])) := own_below O6.out hb
  have qP : Blk w7 (w3.heap.size) 24 #[.int .i64 C, .int .i64 H, .int .i64 0, .slice A2 C c2] := P6.out.below hb P6.out.lt
  have qS : Sl2 w7 w7.heap.size A1 (0) [] := Sl2.below_h hb S6.out
  clear R6 B6 O6 P6 S6
  have R7 := hide qR
  have B7 := hide qB
  have O7 := hide qO
  have P7 := hide qP
  have S7 := hide qS
  clear qR qB qO qP qS
  clear hb
  skip
  go_wp2_with (fail)
  refine (C12.out _).mono ?_
  rintro e w8 ⟨rfl, hb⟩
  have zs8 := hb.size
  have qR : Blk w8 (w.heap.size) 24 #[.int .i64 C, .int .i64 H, .int .i64 0, .slice A C c] := R7.out.below hb R7.out.lt
  have qB : Below w.heap.size w w8 := Bl.call' B7.out hb
  have qO : World.ownsRow w8 (w.heap.size) 33 2 (.slice A2 C c2) (C) (flat (cellsL C H [])) := own_below O7.out hb
  have qP : Blk w8 (w3.heap.size) 24 #[.int .i64 C, .int .i64 H, .int .i64 0, .slice A2 C c2] := P7.out.below hb P7.out.lt
  have qS : Sl2 w8 w8.heap.size A1 (0) [] := Sl2.below_h hb S7.out
  clear R7 B7 O7 P7 S7
  have R8 := hide qR
  have B8 := hide qB
  have O8 := hide qO
  have P8 := hide qP
  have S8 := hide qS
  clear qR qB qO qP qS
  clear hb
  go_wp2
  go_ret
  exact ⟨rfl, B8.out⟩
set_option maxRecDepth 100000 in
set_option maxHeartbeats 4000000 in
theorem lrot_ok (C H : Nat) (xs : List (Int × Int)) (A : Option Addr) (c : Nat) (K D : Nat) (w : World) (h : Sl2 w w.heap.size A C (cellsL C H xs)) (hn : C ≤ 200) (hr : Rg C H ((K : Int) + 1) (cellsL C H xs) C H xs) (hD : D ≤ 65536) (hL : xs.length = K + 1) :
    Calls Try.prog 5 #[ringV C H ((K : Int) + 1) A C c, .int .i64 D] w (TrueEnd w) := by
  have C12 := hide awake_any
  have C11 := hide same_zero
  have C14 := hide (fun w0 => few_any C H ((K : Int) + 1) A C c w0)
  unfold FewEnd at C14
  rw [decide_eq_true (by omega)] at C14
  have C17 := hide (fun w0 (hb : Below w.heap.size w w0) => rvalidate_any C H ((K : Int) + 1) A C c _ (cellsL C H xs) w0 (h.below hb) hb.size)
  unfold VEnd at C17
  have C20 := hide (fun w0 (hb : Below w.heap.size w w0) => rot_ok C H D K xs A c _ w0 (h.below hb) hb.size hr hD hL)
  rw [vV_yes hr.ok] at C17
  have C18 := hide (fun w0 (hb : Below w.heap.size w w0) => ritems_ok C H xs A c _ w0 (h.below hb) hb.size (by rw [hL]; exact hr))
  unfold ListEnd at C18
  rw [hL] at C18
  unfold PushEnd at C20
  rw [rotl_len, hL] at C20
  have hC1 := hr.one
  have hC2 := hr.max
  have hH := hr.hd
  have hKC : K + 1 ≤ C := by have := hr.fits; omega
  have hH1 : (H + D) % C < C := Nat.mod_lt _ (by omega)
  have COf := hide (fun (A' : Option Addr) (c' : Nat) (w0 : World) (hs : Sl2 w0 w0.heap.size A' (K + 1) (rotl D xs)) => of_any C ((H + D) % C) (rotl D xs) A' (K + 1) c' _ w0 hs (Nat.le_refl _) ⟨hC1, hC2⟩ hH1 (by rw [rotl_len]; omega))
  unfold RingEnd ringV at COf
  rw [rotl_len, hL] at COf
  have HCUT := hide (rotl_cut D (l := xs) (by omega))
  have hkk : (D : Int) % ((K : Int) + 1) = ((D % (K + 1) : Nat) : Int) := by simp
  have hk : D % (K + 1) < K + 1 := Nat.mod_lt _ (by omega)
  rw [hL] at HCUT
  have HL := hide hL
  clear hL
  generalize hke : D % (K + 1) = k at *
  clear hke
  generalize hH2 : (H + D) % C = H2 at *
  have HH2 := hide hH2
  clear hH2
  have HKK := hide hkk
  clear hkk
  have hd : decide ((D : Int) < 0) = false := by simp
  have hd1 : decide ((65536 : Int) < D) = false := by simp; omega
  have hl0 : (((K : Int) + 1) == 0) = false := by simp; omega
  clear h hr
  unfold ringV at C14 C17 C18 C20
  unfold ringV
  go_enter Try.func5, Try.ntmps5
  go_upto_region 1 with (fail)
  have qR : Blk (w.alloc (.cells #[.int .i64 C, .int .i64 H, .int .i64 ((K : Int) + 1), .slice A C c] 24)) (w.heap.size) 24 #[.int .i64 C, .int .i64 H, .int .i64 ((K : Int) + 1), .slice A C c] := Blk.new _ _ _
  have qB : Below w.heap.size w (w.alloc (.cells #[.int .i64 C, .int .i64 H, .int .i64 ((K : Int) + 1), .slice A C c] 24)) := Bl.alloc' (Below.refl _ _) _
  have z1 : (w.alloc (.cells #[.int .i64 C, .int .i64 H, .int .i64 ((K : Int) + 1), .slice A C c] 24)).heap.size = w.heap.size + 1 := by simp
  generalize (w.alloc (.cells #[.int .i64 C, .int .i64 H, .int .i64 ((K : Int) + 1), .slice A C c] 24)) = w1 at *
  have zi1 : w1.heap.size ≤ w.heap.size + 1 ∧ w.heap.size + 1 ≤ w1.heap.size := by omega
  clear z1
  have R1 := hide qR
  have B1 := hide qB
  clear qR qB
  obtain ⟨p0, p1, p2, p3, p4, p5, p6, p7⟩ := R1.out.four
  go_wp2_with (fail)
  refine (C14.out _).mono ?_
  rintro e w2 ⟨rfl, hb⟩
  have zs2 := hb.size
  clear p0 p1 p2 p3 p4 p5 p6 p7
  have qR : Blk w2 (w.heap.size) 24 #[.int .i64 C, .int .i64 H, .int .i64 ((K : Int) + 1), .slice A C c] := R1.out.below hb R1.out.lt
  have qB : Below w.heap.size w w2 := Bl.call' B1.out hb
  clear R1 B1
  have R2 := hide qR
  have B2 := hide qB
  clear qR qB
  clear hb
  obtain ⟨p0, p1, p2, p3, p4, p5, p6, p7⟩ := R2.out.four
  go_wp2_with (fail)
  refine (C20.out _ B2.out).mono ?_
  rintro e w3 ⟨A2, c2, rfl, hown, hb⟩
  have zs3 := hb.size
  clear p0 p1 p2 p3 p4 p5 p6 p7
  have qR : Blk w3 (w.heap.size) 24 #[.int .i64 C, .int .i64 H, .int .i64 ((K : Int) + 1), .slice A C c] := R2.out.below hb R2.out.lt
  have qB : Below w.heap.size w w3 := Bl.call' B2.out hb
  have qO : World.ownsRow w3 (w.heap.size) 33 2 (.slice A2 C c2) (C) (flat (cellsL C H2 (rotl D xs))) := own_more hown (by omega)
  clear R2 B2
  have R3 := hide qR
  have B3 := hide qB
  have O3 := hide qO
  clear qR qB qO
  clear hb
  clear hown
  go_upto_region 4 with (fail)
  have qR : Blk (w3.alloc (.cells #[.int .i64 C, .int .i64 H2, .int .i64 ((K : Int) + 1), .slice A2 C c2] 24)) (w.heap.size) 24 #[.int .i64 C, .int .i64 H, .int .i64 ((K : Int) + 1), .slice A C c] := R3.out.alloc _
  have qB : Below w.heap.size w (w3.alloc (.cells #[.int .i64 C, .int .i64 H2, .int .i64 ((K : Int) + 1), .slice A2 C c2] 24)) := Bl.alloc' B3.out _
  have qO : World.ownsRow (w3.alloc (.cells #[.int .i64 C, .int .i64 H2, .int .i64 ((K : Int) + 1), .slice A2 C c2] 24)) (w.heap.size) 33 2 (.slice A2 C c2) (C) (flat (cellsL C H2 (rotl D xs))) := O3.out.alloc _
  have qP : Blk (w3.alloc (.cells #[.int .i64 C, .int .i64 H2, .int .i64 ((K : Int) + 1), .slice A2 C c2] 24)) (w3.heap.size) 24 #[.int .i64 C, .int .i64 H2, .int .i64 ((K : Int) + 1), .slice A2 C c2] := Blk.new _ _ _
  have z4 : (w3.alloc (.cells #[.int .i64 C, .int .i64 H2, .int .i64 ((K : Int) + 1), .slice A2 C c2] 24)).heap.size = w3.heap.size + 1 := by simp
  clear R3 B3 O3
  generalize (w3.alloc (.cells #[.int .i64 C, .int .i64 H2, .int .i64 ((K : Int) + 1), .slice A2 C c2] 24)) = w4 at *
  have R4 := hide qR
  have B4 := hide qB
  have O4 := hide qO
  have P4 := hide qP
  clear qR qB qO qP
  have zi4 : w4.heap.size ≤ w3.heap.size + 1 ∧ w3.heap.size < w4.heap.size := by omega
  clear z4
  obtain ⟨p0, p1, p2, p3, p4, p5, p6, p7⟩ := R4.out.four
  go_upto_region 4 with (fail)
  go_region_held3 (fun w' => w'.cell? ⟨w.heap.size, 0, none⟩ = some (.int .i64 C) ∧ w'.cell? ⟨w.heap.size, 1, none⟩ = some (.int .i64 H) ∧ w'.cell? ⟨w.heap.size, 2, none⟩ = some (.int .i64 ((K : Int) + 1)) ∧ w'.cell? ⟨w.heap.size, 3, none⟩ = some (.slice A C c)) (first | exact ⟨p0, p1, p2, p3⟩ | exact ⟨e0, e1, e2, e3⟩ | exact ⟨h0, h1, h2, h3⟩) (first | (go_at_call 17; refine (C17.out _ B4.out.drew).mono ?_; rintro e w5 ⟨rfl, hbx⟩; have hby : Below w4.heap.size w4 w5 := below_undrew hbx; have zs5 := hby.size; have R5 := hide (R4.out.below hby R4.out.lt); have B5 := hide (Bl.call' B4.out hby); have O5 := hide (own_below O4.out hby); have P5 := hide (P4.out.below hby P4.out.lt); obtain ⟨e0, e1, e2, e3, _, _, _, _⟩ := R5.out.four; clear hbx hby) | (go_at_call 18; refine (C18.out _ B5.out).mono ?_; rintro e w6 ⟨A1, c1, rfl, hown, hbx⟩; have zs6 := hbx.size; have R6 := hide (R5.out.below hbx R5.out.lt); have B6 := hide (Bl.call' B5.out hbx); have O6 := hide (own_below O5.out hbx); have P6 := hide (P5.out.below hbx P5.out.lt); have hlc := own_cap hown; have S6 := hide (Sl2.own_h hown); obtain ⟨h0, h1, h2, h3, _, _, _, _⟩ := R6.out.four; clear hbx hown))
  clear p0 p1 p2 p3 e0 e1 e2 e3 h0 h1 h2 h3
  clear R4 R5 B4 B5 O4 O5 P4 P5
  obtain ⟨b, o, z1, z2, hA1, hbB, hz, d1, d2⟩ := S6.out.at_ (j := 0) (by omega)
  subst hA1
  clear hz d1 d2
  obtain ⟨tf1, tf2, tf3, tf4, tf5, tf6, tf7, tf8, tf9, tf10, tf11⟩ := turn_facts (H := H) (C := C) (n := D) (K := K) (k := k) (c1 := c1) hH hC2 hD hk hlc.1
  rw [HH2.out] at tf2
  have hsd := hide ((S6.out).drop_at (k := k) (by omega))
  have hst := hide ((S6.out).take_at (k := k) (by omega))
  obtain ⟨i0, hi0, hz0, hz1, hz2⟩ := info_parts info33
  go_upto_region 12 with (fail)
  rw [HKK.out]
  go_region_held3 (fun _ => True) (trivial) (first | (refine step_app (o := ⟨some 69, _, _, _, _, _⟩) _ (by rfl) (.tmp 65) (.tmp 68) _ (by rfl) w6 33 i0 _ 16 Try.underlying22 hi0 hz0 hz1 hz2 rfl (.slice (some ⟨_, 0, none⟩) 0 0) 0 [] (by rfl) ?_ ?_ (some ⟨b, o + k * 2, none⟩) (K + 1 - k) (c1 - k) (xs.drop k) (by rfl) ?_ (K + 1 - k) (by omega) (by simp only [maxLen]; omega) (by omega) ?_; (· repeat (first | with_reducible exact Below.refl _ _ | with_reducible refine Below.drew ?_ | with_reducible refine Bl.alloc' ?_ _)); (· repeat (first | ((with_reducible refine own_empty_h ?_ ?_ _); (· simp); (· omega)) | with_reducible refine World.ownsRow.drew ?_ | with_reducible refine World.ownsRow.alloc ?_ _)); (· repeat (first | with_reducible exact hsd.out | with_reducible refine Sl2.drew_h ?_ | with_reducible refine Sl2.alloc_h ?_ _)); intro A6 c6 wP hown6 hg6 hb6; rw [List.nil_append] at hown6) | (refine step_app (o := ⟨some 73, _, _, _, _, _⟩) _ (by rfl) (.tmp 69) (.tmp 72) _ (by rfl) w6 33 i0 _ 16 Try.underlying22 hi0 hz0 hz1 hz2 rfl (.slice A6 (K + 1 - k) c6) (K + 1 - k) (xs.drop k) (by rfl) ?_ ?_ (some ⟨b, o, none⟩) k c1 (xs.take k) (by rfl) ?_ (K + 1) (by omega) (by simp only [maxLen]; omega) (by omega) ?_; (· repeat (first | with_reducible exact Below.refl _ _ | with_reducible exact hb6 | with_reducible refine Below.drew ?_ | with_reducible refine Bl.alloc' ?_ _)); (· repeat (first | ((with_reducible refine own_empty_h ?_ ?_ _); (· simp); (· omega)) | with_reducible exact hown6 | with_reducible refine World.ownsRow.drew ?_ | with_reducible refine World.ownsRow.alloc ?_ _)); (· refine Sl2.of_below hst.out ?_;  repeat (first | with_reducible exact Below.refl _ _ | with_reducible exact hb6 | with_reducible refine Below.drew ?_ | with_reducible refine Bl.alloc' ?_ _)); intro A7 c7 wQ hown7 hg7 hb7; rw [← HCUT.out] at hown7))
  have zs20 := hb7.size
  have qR : Blk wQ (w.heap.size) 24 #[.int .i64 C, .int .i64 H, .int .i64 ((K : Int) + 1), .slice A C c] := R6.out.below hb7 R6.out.lt
  have qB : Below w.heap.size w wQ := Bl.call' B6.out hb7
  have qO : World.ownsRow wQ (w.heap.size) 33 2 (.slice A2 C c2) (C) (flat (cellsL C H2 (rotl D xs))) := own_below O6.out hb7
  have qP : Blk wQ (w3.heap.size) 24 #[.int .i64 C, .int .i64 H2, .int .i64 ((K : Int) + 1), .slice A2 C c2] := P6.out.below hb7 P6.out.lt
  have qT : Sl2 wQ wQ.heap.size A7 (K + 1) (rotl D xs) := Sl2.own_h hown7
  clear R6 B6 O6 P6 S6
  have R7 := hide qR
  have B7 := hide qB
  have O7 := hide qO
  have P7 := hide qP
  have T7 := hide qT
  clear qR qB qO qP qT
  clear hown7 hg7 hb7 hown6 hg6 hb6 hsd hst
  obtain ⟨a0, a1, a2, a3, _, _, _, _⟩ := P7.out.four
  obtain ⟨p0, p1, p2, p3, _, _, _, _⟩ := R7.out.four
  have lP := P7.out.lt
  have lR := R7.out.lt
  have HC := hide (show wQ.cell? ⟨w3.heap.size, 0, none⟩ = some (.int .i64 C) ∧ wQ.cell? ⟨w3.heap.size, 1, none⟩ = some (.int .i64 H2) ∧ wQ.cell? ⟨w3.heap.size, 2, none⟩ = some (.int .i64 ((K : Int) + 1)) ∧ wQ.cell? ⟨w3.heap.size, 3, none⟩ = some (.slice A2 C c2) ∧ wQ.cell? ⟨w.heap.size, 0, none⟩ = some (.int .i64 C) ∧ wQ.cell? ⟨w.heap.size, 1, none⟩ = some (.int .i64 H) from ⟨a0, a1, a2, a3, p0, p1⟩)
  clear a0 a1 a2 a3 p0 p1 p2 p3
  go_upto_region 13 with (fail)
  go_region_held3 (fun w' => w'.cell? ⟨w3.heap.size, 0, none⟩ = some (.int .i64 C) ∧ w'.cell? ⟨w3.heap.size, 1, none⟩ = some (.int .i64 H2) ∧ w'.cell? ⟨w3.heap.size, 2, none⟩ = some (.int .i64 ((K : Int) + 1)) ∧ w'.cell? ⟨w3.heap.size, 3, none⟩ = some (.slice A2 C c2) ∧ w'.cell? ⟨w.heap.size, 0, none⟩ = some (.int .i64 C) ∧ w'.cell? ⟨w.heap.size, 1, none⟩ = some (.int .i64 H)) ((refine (fun hb0 : Below wQ.heap.size wQ _ => ⟨(below_cell hb0 lP).trans HC.out.1, (below_cell hb0 lP).trans HC.out.2.1, (below_cell hb0 lP).trans HC.out.2.2.1, (below_cell hb0 lP).trans HC.out.2.2.2.1, (below_cell hb0 lR).trans HC.out.2.2.2.2.1, (below_cell hb0 lR).trans HC.out.2.2.2.2.2⟩) ?_; (repeat (first | with_reducible exact Below.refl _ _ | with_reducible exact hbC | with_reducible exact hbB2 | with_reducible exact hbA | with_reducible refine Below.drew ?_)))) (first | (go_at_call 19; refine (COf.out _ _ _ ?_).mono ?_; (· refine Sl2.of_below T7.out ?_; (repeat (first | with_reducible exact Below.refl _ _ | with_reducible exact hbC | with_reducible exact hbB2 | with_reducible exact hbA | with_reducible refine Below.drew ?_))); rintro e wA ⟨A8, c8, rfl, hown8, hbx⟩; have hbA : Below wQ.heap.size wQ wA := below_undrew hbx; have hoA := Sl2.own_h hown8; have hoP := Sl2.own_h (own_below O7.out hbA); clear hbx) | (go_at_call 11; refine (same_ring _ _ _ _ _ _ _ _ _ _ _ _ _ _ _ _ _ hoP (Nat.le_refl _) hoA (Nat.le_refl _) (by omega) (by omega) rfl rfl rfl rfl).mono ?_; rintro e wB ⟨rfl, hbx⟩; have hbB2 : Below wQ.heap.size wQ wB := Bl.call' hbA hbx; clear hbx) | (go_at_call 12; refine (C12.out _).mono ?_; rintro e wE ⟨rfl, hbx⟩; have hbC : Below wQ.heap.size wQ wE := Bl.call' hbB2 hbx; clear hbx))
  go_wp2
  go_ret
  exact ⟨rfl, Bl.call' B7.out hbC⟩
theorem ringRotates_walk (cap head len : Int) (A : Option Addr) (n c : Nat) (l : List (Int × Int)) (D : Int) (w : World) (h : Sl2 w w.heap.size A n l) :
    Calls Try.prog 5 #[ringV cap head len A n c, .int .i64 D] w (TrueEnd w) := by
  rcases Nat.lt_or_ge 200 n with hn | hn
  · exact lrot_many cap head len A n c D w hn
  · by_cases hv : VOk cap head len l
    · obtain ⟨C, H, xs, hr⟩ := Rg.of_ok hv
      have hr2 := hr
      obtain ⟨rfl, rfl, rfl, h1, h2, h3, h4, rfl⟩ := hr
      have hl := h.1
      rw [cellsL_len] at hl
      subst hl
      by_cases hD : D < 0
      · exact lrot_neg C H xs A c D w h hn hr2 hD
      · by_cases hD1 : 65536 < D
        · exact lrot_max C H xs A c D w h hn hr2 hD1
        · obtain ⟨E, rfl⟩ := Int.eq_ofNat_of_zero_le (a := D) (by omega)
          rcases xs with _ | ⟨x, t⟩
          · exact lrot_empty C H A c E w h hn hr2 (by omega)
          · have e : (((x :: t).length : Nat) : Int) = (t.length : Int) + 1 := by simp
            rw [e] at hr2 ⊢
            exact lrot_ok C H (x :: t) A c t.length E w h hn hr2 (by omega) (by simp)
    · exact lrot_bad cap head len A n c l D w h hn hv
end Go.Proofs.Ytjbfefkbpnickaa
