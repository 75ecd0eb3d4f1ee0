/- Which buffers are valid: plain facts, and the contracts of both tests. -/
import Derived.Test.YtjbfefkbpnickaaItem
import Derived.Deep.RegionHeld3
namespace Go.Proofs.Ytjbfefkbpnickaa
open Go.RowKit
set_option linter.unusedVariables false
/-- the shape of a buffer -/
def Shape (cap head len : Int) (l : List (Int × Int)) : Prop := 1 ≤ cap ∧ cap ≤ 65536 ∧ (l.length : Int) = cap ∧ 0 ≤ head ∧ head < cap ∧ 0 ≤ len ∧ len ≤ cap
def Zeros (C H L : Nat) (l : List (Int × Int)) (j : Nat) : Prop := ∀ k, L ≤ k → k < j → l[(H + k) % C]? = some (0, 0)
def VOk (cap head len : Int) (l : List (Int × Int)) : Prop := Shape cap head len l ∧ Zeros cap.toNat head.toNat len.toNat l cap.toNat
instance (C H L : Nat) (l : List (Int × Int)) (j : Nat) : Decidable (Zeros C H L l j) := decidable_of_iff (∀ k, k < j → L ≤ k → l[(H + k) % C]? = some (0, 0)) ⟨fun h k a b => h k b a, fun h k a b => h k b a⟩
instance (cap head len : Int) (l : List (Int × Int)) : Decidable (VOk cap head len l) := by unfold VOk Shape; infer_instance
def vV (cap head len : Int) (l : List (Int × Int)) : Int := if VOk cap head len l then 0 else 2
theorem vV_no {cap head len : Int} {l : List (Int × Int)} (h : ¬ VOk cap head len l) : vV cap head len l = 2 := if_neg h
theorem vV_yes {cap head len : Int} {l : List (Int × Int)} (h : VOk cap head len l) : vV cap head len l = 0 := if_pos h
theorem vV_shape {cap head len : Int} {l : List (Int × Int)} (h : ¬ Shape cap head len l) : vV cap head len l = 2 := vV_no fun c => h c.1
theorem zeros_step {C H L : Nat} {l : List (Int × Int)} {j : Nat} (h : Zeros C H L l j) (h1 : l[(H + j) % C]? = some (0, 0)) : Zeros C H L l (j + 1) := by
  intro k hk hk2
  rcases Nat.lt_or_ge k j with hlt | hge
  · exact h k hk hlt
  · obtain rfl : k = j := by omega
    exact h1
theorem below_undrew {B : Nat} {a b : World} (h : Below B a.drew b) : Below B a b := ⟨h.os, h.tape, h.output, h.size, h.block⟩
def VEnd (cap head len : Int) (l : List (Int × Int)) (w : World) (e : Ending) (w' : World) : Prop := e = .returned (.int .i64 (vV cap head len l)) ∧ Below w.heap.size w w'
theorem valid_no {cap head len : Int} {l : List (Int × Int)} {w w' : World} (h : vV cap head len l = 2) (hb : Below w.heap.size w w') : VEnd cap head len l w (.returned (.int .i64 2)) w' := by
  unfold VEnd; rw [h]; exact ⟨rfl, hb⟩
theorem valid_yes {cap head len : Int} {l : List (Int × Int)} {w w' : World} (h : vV cap head len l = 0) (hb : Below w.heap.size w w') : VEnd cap head len l w (.returned (.int .i64 0)) w' := by
  unfold VEnd; rw [h]; exact ⟨rfl, hb⟩
theorem at_nat (C H : Nat) (len : Int) (A : Option Addr) (n c : Nat) (j : Nat) (w : World) (hc : 1 ≤ C ∧ C ≤ 65536) (hh : H < C) (hi : j ≤ C) :
    Calls Try.prog 29 #[ringV C H len A n c, .int .i64 j] w (fun e w' => e = .returned (.int .i64 (((H + j) % C : Nat) : Int)) ∧ Below w.heap.size w w') := by
  have := at_any C H len A n c j w (by omega) (by omega) (by omega)
  rwa [show (((H : Int) + j) % C) = (((H + j) % C : Nat) : Int) by simp] at this
set_option maxRecDepth 100000 in
set_option maxHeartbeats 400000 in
theorem validate_any (cap head len : Int) (A : Option Addr) (n c B : Nat) (l : List (Int × Int)) (w : World) (h : Sl2 w B A n l) (hB : B ≤ w.heap.size) :
    Calls Try.prog 13 #[ringV cap head len A n c] w (VEnd cap head len l w) := by
  have hl := h.1
  unfold ringV
  by_cases h1 : cap < 1
  · have HN := hide (vV_shape (cap := cap) (head := head) (len := len) (l := l) fun c => by unfold Shape at c; omega)
    clear h
    go_enter Try.func13, Try.ntmps13
    go_wp2
    go_ret
    exact valid_no HN.out ((Below.refl _ _).alloc (Nat.le_refl _) _)
  by_cases h2 : 65536 < cap
  · have HN := hide (vV_shape (cap := cap) (head := head) (len := len) (l := l) fun c => by unfold Shape at c; omega)
    clear h
    go_enter Try.func13, Try.ntmps13
    go_wp2
    go_ret
    exact valid_no HN.out ((Below.refl _ _).alloc (Nat.le_refl _) _)
  by_cases h3 : ¬ (n : Int) = cap
  · have HN := hide (vV_shape (cap := cap) (head := head) (len := len) (l := l) fun c => by unfold Shape at c; omega)
    have h3' : ((n : Int) != cap) = true := by simpa using h3
    clear h h3
    go_enter Try.func13, Try.ntmps13
    go_wp2
    go_ret
    exact valid_no HN.out ((Below.refl _ _).alloc (Nat.le_refl _) _)
  obtain rfl : (n : Int) = cap := by omega
  clear h3
  have h3' : ((n : Int) != n) = false := by simp
  by_cases h4 : head < 0
  · have HN := hide (vV_shape (cap := n) (head := head) (len := len) (l := l) fun c => by unfold Shape at c; omega)
    clear h
    go_enter Try.func13, Try.ntmps13
    go_wp2
    go_ret
    exact valid_no HN.out ((Below.refl _ _).alloc (Nat.le_refl _) _)
  by_cases h5 : (n : Int) ≤ head
  · have HN := hide (vV_shape (cap := n) (head := head) (len := len) (l := l) fun c => by unfold Shape at c; omega)
    clear h
    go_enter Try.func13, Try.ntmps13
    go_wp2
    go_ret
    exact valid_no HN.out ((Below.refl _ _).alloc (Nat.le_refl _) _)
  by_cases h6 : len < 0
  · have HN := hide (vV_shape (cap := n) (head := head) (len := len) (l := l) fun c => by unfold Shape at c; omega)
    clear h
    go_enter Try.func13, Try.ntmps13
    go_wp2
    go_ret
    exact valid_no HN.out ((Below.refl _ _).alloc (Nat.le_refl _) _)
  by_cases h7 : (n : Int) < len
  · have HN := hide (vV_shape (cap := n) (head := head) (len := len) (l := l) fun c => by unfold Shape at c; omega)
    clear h
    go_enter Try.func13, Try.ntmps13
    go_wp2
    go_ret
    exact valid_no HN.out ((Below.refl _ _).alloc (Nat.le_refl _) _)
  obtain ⟨H, rfl⟩ := Int.eq_ofNat_of_zero_le (a := head) (by omega)
  obtain ⟨L, rfl⟩ := Int.eq_ofNat_of_zero_le (a := len) (by omega)
  have HS := hide (show Shape n H L l by unfold Shape; omega)
  have hS := hide (h.more hB)
  have d4 : decide ((H : Int) < 0) = false := by simp
  have d6 : decide ((L : Int) < 0) = false := by simp
  clear h
  go_enter Try.func13, Try.ntmps13
  go_wp2
  have hb1 : Below w.heap.size w (w.alloc (.cells #[.int .i64 n, .int .i64 H, .int .i64 L, .slice A n c] 24)) := (Below.refl _ _).alloc (Nat.le_refl _) _
  have HB1 := hide hb1
  clear hb1
  go_loopw [3] (fun i wr => ∃ j : Nat, L ≤ j ∧ j ≤ n ∧ Zeros n H L l j ∧ i = .int .i64 j ∧ Blk wr w.heap.size 24 #[.int .i64 n, .int .i64 H, .int .i64 L, .slice A n c] ∧ Below w.heap.size w wr) (fun i _ => n - (intOf i).toNat)
  case atStart => exact ⟨L, Nat.le_refl _, by omega, fun k h1 h2 => by omega, rfl, Blk.new _ _ _, HB1.out⟩
  case round =>
    obtain ⟨j, hj0, hj, hz, rfl, hblk, hb⟩ := hrel
    have HZ := hide hz
    have HBK := hide hblk
    have HB := hide hb
    have g0 := hblk.cell 0
    have g1 := hblk.cell 1
    have g2 := hblk.cell 2
    have g3 := hblk.cell 3
    simp at g0 g1 g2 g3
    clear hz hblk hb
    by_cases hlt : j < n
    · have C29 := hide (fun w0 => at_nat n H L A n c j w0 (by omega) (by omega) (by omega))
      unfold ringV at C29
      have hk : (H + j) % n < n := Nat.mod_lt _ (by omega)
      generalize hK : (H + j) % n = k at *
      have HK := hide hK
      clear hK
      obtain ⟨b, o, p, q, rfl, hbB, hp, hc1, hc2⟩ := (hS.out.below HB.out).at_ hk
      have hgs := HBK.out.lt
      have hbs : b < wr.heap.size := by have := HB.out.size; omega
      by_cases hpq : p = 0 ∧ q = 0
      · obtain ⟨rfl, rfl⟩ := hpq
        have HZ2 := hide (zeros_step HZ.out (show l[(H + j) % n]? = some (0, 0) by rw [HK.out]; exact hp))
        clear hp
        go_wp2
        go_region_held3 (fun w' => w'.cell? ⟨w.heap.size, 0, none⟩ = some (.int .i64 n) ∧ w'.cell? ⟨w.heap.size, 1, none⟩ = some (.int .i64 H) ∧ w'.cell? ⟨w.heap.size, 2, none⟩ = some (.int .i64 L) ∧ w'.cell? ⟨w.heap.size, 3, none⟩ = some (.slice (some ⟨b, o, none⟩) n c) ∧ w'.cell? ⟨b, o + k * 2, none⟩ = some (.int .i64 0) ∧ w'.cell? ⟨b, o + k * 2 + 1, none⟩ = some (.int .i64 0)) (first | exact ⟨g0, g1, g2, g3, hc1, hc2⟩ | exact ⟨e0, e1, e2, e3, ec, ed⟩) (first | (go_at_call 29; refine (C29.out _).mono ?_; rintro e w1 ⟨rfl, hb1⟩; have hb2 := below_undrew hb1; have e0 := (below_cell (o := 0) hb2 hgs).trans g0; have e1 := (below_cell (o := 1) hb2 hgs).trans g1; have e2 := (below_cell (o := 2) hb2 hgs).trans g2; have e3 := (below_cell (o := 3) hb2 hgs).trans g3; have ec := (below_cell hb2 hbs).trans hc1; have ed := (below_cell hb2 hbs).trans hc2; have HB2 := hide hb2; clear hb1 hb2))
        go_wp2
        go_roundw
        case rel => exact ⟨j + 1, by omega, by omega, HZ2.out, by go_num, HBK.out.below HB2.out hgs, HB.out.trans (HB2.out.mono HB.out.size)⟩
        case measure => simp [intOf]; omega
      · have HN := hide (vV_no (cap := n) (head := H) (len := L) (l := l) fun c => by
          have := c.2 j (by simpa using hj0) (by simpa using hlt)
          simp only [Int.toNat_natCast] at this
          rw [HK.out, hp] at this
          injection this with this
          injection this with h1 h2
          exact hpq ⟨h1, h2⟩)
        clear hp
        rcases (show p ≠ 0 ∨ (p = 0 ∧ q ≠ 0) by omega) with hne | ⟨rfl, hne⟩
        · have hne1 : (p == 0) = false := by simpa using hne
          have hne2 : (p != 0) = true := by simpa using hne
          clear hpq hne
          go_wp2
          go_region_held3 (fun w' => w'.cell? ⟨w.heap.size, 0, none⟩ = some (.int .i64 n) ∧ w'.cell? ⟨w.heap.size, 1, none⟩ = some (.int .i64 H) ∧ w'.cell? ⟨w.heap.size, 2, none⟩ = some (.int .i64 L) ∧ w'.cell? ⟨w.heap.size, 3, none⟩ = some (.slice (some ⟨b, o, none⟩) n c) ∧ w'.cell? ⟨b, o + k * 2, none⟩ = some (.int .i64 p) ∧ w'.cell? ⟨b, o + k * 2 + 1, none⟩ = some (.int .i64 q)) (first | exact ⟨g0, g1, g2, g3, hc1, hc2⟩ | exact ⟨e0, e1, e2, e3, ec, ed⟩) (first | (go_at_call 29; refine (C29.out _).mono ?_; rintro e w1 ⟨rfl, hb1⟩; have hb2 := below_undrew hb1; have e0 := (below_cell (o := 0) hb2 hgs).trans g0; have e1 := (below_cell (o := 1) hb2 hgs).trans g1; have e2 := (below_cell (o := 2) hb2 hgs).trans g2; have e3 := (below_cell (o := 3) hb2 hgs).trans g3; have ec := (below_cell hb2 hbs).trans hc1; have ed := (below_cell hb2 hbs).trans hc2; have HB2 := hide hb2; clear hb1 hb2))
          go_wp2
          go_ret
          exact valid_no HN.out (HB.out.trans (HB2.out.mono HB.out.size))
        · have hne1 : (q == 0) = false := by simpa using hne
          have hne2 : (q != 0) = true := by simpa using hne
          clear hpq hne
          go_wp2
          go_region_held3 (fun w' => w'.cell? ⟨w.heap.size, 0, none⟩ = some (.int .i64 n) ∧ w'.cell? ⟨w.heap.size, 1, none⟩ = some (.int .i64 H) ∧ w'.cell? ⟨w.heap.size, 2, none⟩ = some (.int .i64 L) ∧ w'.cell? ⟨w.heap.size, 3, none⟩ = some (.slice (some ⟨b, o, none⟩) n c) ∧ w'.cell? ⟨b, o + k * 2, none⟩ = some (.int .i64 0) ∧ w'.cell? ⟨b, o + k * 2 + 1, none⟩ = some (.int .i64 q)) (first | exact ⟨g0, g1, g2, g3, hc1, hc2⟩ | exact ⟨e0, e1, e2, e3, ec, ed⟩) (first | (go_at_call 29; refine (C29.out _).mono ?_; rintro e w1 ⟨rfl, hb1⟩; have hb2 := below_undrew hb1; have e0 := (below_cell (o := 0) hb2 hgs).trans g0; have e1 := (below_cell (o := 1) hb2 hgs).trans g1; have e2 := (below_cell (o := 2) hb2 hgs).trans g2; have e3 := (below_cell (o := 3) hb2 hgs).trans g3; have ec := (below_cell hb2 hbs).trans hc1; have ed := (below_cell hb2 hbs).trans hc2; have HB2 := hide hb2; clear hb1 hb2))
          go_wp2
          go_ret
          exact valid_no HN.out (HB.out.trans (HB2.out.mono HB.out.size))
    · obtain rfl : j = n := by omega
      have HN := hide (vV_yes (cap := j) (head := H) (len := L) (l := l) ⟨HS.out, by simpa using HZ.out⟩)
      go_wp2
      go_ret
      exact valid_yes HN.out HB.out
end Go.Proofs.Ytjbfefkbpnickaa
