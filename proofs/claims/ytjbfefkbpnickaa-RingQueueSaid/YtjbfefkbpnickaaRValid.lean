/- The reference's test of a buffer. -/
import Derived.Test.YtjbfefkbpnickaaValid
namespace Go.Proofs.Ytjbfefkbpnickaa
open Go.RowKit
set_option linter.unusedVariables false
theorem at_fact {C H j : Nat} (h0 : 1 ≤ C ∧ C ≤ 65536) (h1 : H ≤ C) (h2 : j ≤ C) : IntKind.i64.wrap ((H : Int) + j) = (H : Int) + j ∧ ((H : Int) + j).tmod C = (((H + j) % C : Nat) : Int) := by
  refine ⟨by rw [IntKind.wrap_i64]; omega, ?_⟩
  rw [Int.tmod_eq_emod_of_nonneg (by omega)]
  simp
set_option maxRecDepth 100000 in
set_option maxHeartbeats 400000 in
theorem rvalidate_any (cap head len : Int) (A : Option Addr) (n c B : Nat) (l : List (Int × Int)) (w : World) (h : Sl2 w B A n l) (hB : B ≤ w.heap.size) :
    Calls Try.prog 17 #[ringV cap head len A n c] w (VEnd cap head len l w) := by
  have hl := h.1
  unfold ringV
  by_cases h1 : cap < 1
  · have HN := hide (vV_shape (cap := cap) (head := head) (len := len) (l := l) fun c => by unfold Shape at c; omega)
    clear h
    go_enter Try.func17, Try.ntmps17
    go_wp2
    go_ret
    exact valid_no HN.out ((Below.refl _ _).alloc (Nat.le_refl _) _)
  by_cases h2 : 65536 < cap
  · have HN := hide (vV_shape (cap := cap) (head := head) (len := len) (l := l) fun c => by unfold Shape at c; omega)
    clear h
    go_enter Try.func17, Try.ntmps17
    go_wp2
    go_ret
    exact valid_no HN.out ((Below.refl _ _).alloc (Nat.le_refl _) _)
  by_cases h3 : ¬ (n : Int) = cap
  · have HN := hide (vV_shape (cap := cap) (head := head) (len := len) (l := l) fun c => by unfold Shape at c; omega)
    have h3' : ((n : Int) != cap) = true := by simpa using h3
    clear h h3
    go_enter Try.func17, Try.ntmps17
    go_wp2
    go_ret
    exact valid_no HN.out ((Below.refl _ _).alloc (Nat.le_refl _) _)
  obtain rfl : (n : Int) = cap := by omega
  clear h3
  have h3' : ((n : Int) != n) = false := by simp
  by_cases h4 : head < 0
  · have HN := hide (vV_shape (cap := n) (head := head) (len := len) (l := l) fun c => by unfold Shape at c; omega)
    clear h
    go_enter Try.func17, Try.ntmps17
    go_wp2
    go_ret
    exact valid_no HN.out ((Below.refl _ _).alloc (Nat.le_refl _) _)
  by_cases h5 : (n : Int) ≤ head
  · have HN := hide (vV_shape (cap := n) (head := head) (len := len) (l := l) fun c => by unfold Shape at c; omega)
    clear h
    go_enter Try.func17, Try.ntmps17
    go_wp2
    go_ret
    exact valid_no HN.out ((Below.refl _ _).alloc (Nat.le_refl _) _)
  by_cases h6 : len < 0
  · have HN := hide (vV_shape (cap := n) (head := head) (len := len) (l := l) fun c => by unfold Shape at c; omega)
    clear h
    go_enter Try.func17, Try.ntmps17
    go_wp2
    go_ret
    exact valid_no HN.out ((Below.refl _ _).alloc (Nat.le_refl _) _)
  by_cases h7 : (n : Int) < len
  · have HN := hide (vV_shape (cap := n) (head := head) (len := len) (l := l) fun c => by unfold Shape at c; omega)
    clear h
    go_enter Try.func17, Try.ntmps17
    go_wp2
    go_ret
    exact valid_no HN.out ((Below.refl _ _).alloc (Nat.le_refl _) _)
  obtain ⟨H, rfl⟩ := Int.eq_ofNat_of_zero_le (a := head) (by omega)
  obtain ⟨L, rfl⟩ := Int.eq_ofNat_of_zero_le (a := len) (by omega)
  have HS := hide (show Shape n H L l by unfold Shape; omega)
  have hS := hide (h.more hB)
  have d4 : decide ((H : Int) < 0) = false := by simp
  have d6 : decide ((L : Int) < 0) = false := by simp
  clear h
  go_enter Try.func17, Try.ntmps17
  go_wp2
  have hb1 : Below w.heap.size w (w.alloc (.cells #[.int .i64 n, .int .i64 H, .int .i64 L, .slice A n c] 24)) := (Below.refl _ _).alloc (Nat.le_refl _) _
  have HB1 := hide hb1
  clear hb1
  go_loopw [3] (fun i wr => ∃ j : Nat, L ≤ j ∧ j ≤ n ∧ Zeros n H L l j ∧ i = .int .i64 j ∧ Blk wr w.heap.size 24 #[.int .i64 n, .int .i64 H, .int .i64 L, .slice A n c] ∧ Below w.heap.size w wr) (fun i _ => n - (intOf i).toNat)
  case atStart => exact ⟨L, Nat.le_refl _, by omega, fun k h1 h2 => by omega, rfl, Blk.new _ _ _, HB1.out⟩
  case round =>
    obtain ⟨j, hj0, hj, hz, rfl, hblk, hb⟩ := hrel
    have HZ := hide hz
    have HBK := hide hblk
    have HB := hide hb
    have g0 := hblk.cell 0
    have g1 := hblk.cell 1
    have g2 := hblk.cell 2
    have g3 := hblk.cell 3
    simp at g0 g1 g2 g3
    clear hz hblk hb
    by_cases hlt : j < n
    · have hk : (H + j) % n < n := Nat.mod_lt _ (by omega)
      obtain ⟨hw1, hw2⟩ := at_fact (C := n) (H := H) (j := j) (by omega) (by omega) (by omega)
      generalize hK : (H + j) % n = k at *
      have HK := hide hK
      clear hK
      obtain ⟨b, o, p, q, rfl, hbB, hp, hc1, hc2⟩ := (hS.out.below HB.out).at_ hk
      have hgs := HBK.out.lt
      have hbs : b < wr.heap.size := by have := HB.out.size; omega
      by_cases hpq : p = 0 ∧ q = 0
      · obtain ⟨rfl, rfl⟩ := hpq
        have HZ2 := hide (zeros_step HZ.out (show l[(H + j) % n]? = some (0, 0) by rw [HK.out]; exact hp))
        clear hp
        go_wp2
        go_quiet (fail)
        go_wp2
        go_roundw
        case rel => exact ⟨j + 1, by omega, by omega, HZ2.out, by go_num, HBK.out.drewN _, below_drewN HB.out _⟩
        case measure => simp [intOf]; omega
      · have HN := hide (vV_no (cap := n) (head := H) (len := L) (l := l) fun c => by
          have := c.2 j (by simpa using hj0) (by simpa using hlt)
          simp only [Int.toNat_natCast] at this
          rw [HK.out, hp] at this
          injection this with this
          injection this with h1 h2
          exact hpq ⟨h1, h2⟩)
        clear hp
        rcases (show p ≠ 0 ∨ (p = 0 ∧ q ≠ 0) by omega) with hne | ⟨rfl, hne⟩
        · have hne1 : (p == 0) = false := by simpa using hne
          have hne2 : (p != 0) = true := by simpa using hne
          clear hpq hne
          go_wp2
          go_quiet (fail)
          go_wp2
          go_ret
          exact valid_no HN.out (below_drewN HB.out _)
        · have hne1 : (q == 0) = false := by simpa using hne
          have hne2 : (q != 0) = true := by simpa using hne
          clear hpq hne
          go_wp2
          go_quiet (fail)
          go_wp2
          go_ret
          exact valid_no HN.out (below_drewN HB.out _)
    · obtain rfl : j = n := by omega
      have HN := hide (vV_yes (cap := j) (head := H) (len := L) (l := l) ⟨HS.out, by simpa using HZ.out⟩)
      go_wp2
      go_ret
      exact valid_yes HN.out HB.out
end Go.Proofs.Ytjbfefkbpnickaa
