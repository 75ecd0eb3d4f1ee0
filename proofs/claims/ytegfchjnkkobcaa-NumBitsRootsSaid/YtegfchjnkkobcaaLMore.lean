/- The walks of the laws on divisors, digits, roots and products: they return true. -/
import Derived.Test.YtegfchjnkkobcaaCGcd
import Derived.Test.YtegfchjnkkobcaaCRoot
import Derived.Test.YtegfchjnkkobcaaCMulR
import Derived.Test.YtegfchjnkkobcaaCBits
import Derived.Test.YtegfchjnkkobcaaWf
namespace Go.Proofs.Ytegfchjnkkobcaa
open Go.RowKit
theorem below_drewN {B : Nat} {a w : World} (h : Below B a w) (n : Nat) : Below B a (w.drewN n) := ⟨h.os, h.tape, h.output, h.size, h.block⟩
theorem gcdV_bd (a b : Int) : 0 ≤ gcdV a b := by unfold gcdV; split <;> omega
theorem gcdV_div (a b : Int) (h : gcdV a b ≠ 0) : a.tmod (gcdV a b) = 0 ∧ b.tmod (gcdV a b) = 0 := by
  unfold gcdV at *
  by_cases hx : a < 0 ∨ b < 0
  · rw [if_pos hx] at h; exact absurd rfl h
  · rw [if_neg hx]
    exact ⟨Int.tmod_eq_zero_of_dvd (Int.gcd_dvd_left ..), Int.tmod_eq_zero_of_dvd (Int.gcd_dvd_right ..)⟩
theorem numGcds_walk (a b : Int) (w : World) (ha0 : (Lit.int .i64 a).wf = true) (hb0 : (Lit.int .i64 b).wf = true) :
    Calls Try.prog 4 #[.int .i64 a, .int .i64 b] w fun e w' => e = .returned (.bool true) ∧ Below w.heap.size w w' := by
  have ha := wf_fit ha0
  have hb := wf_fit hb0
  clear ha0 hb0
  have C1 := hide (gcd_any a b ha hb)
  have C2 := hide (rgcd_any a b ha hb)
  have C4 := hide awake_any
  have hg := gcdV_bd a b
  have hd := gcdV_div a b
  have GE : ∀ w e w', GcdEnd a b w e w' → e = .returned (.int .i64 (gcdV a b)) ∧ ∃ n, w' = w.drewN n := fun _ _ _ h => h
  have HG := hide GE
  clear GE ha hb
  generalize gcdV a b = g at *
  rcases two (g == 0) with h0 | h0
  · clear hd hg
    go_enter Try.func4, Try.ntmps4
    go_wp2_with (first | (go_at_call 16; refine (C1.out _).mono ?_; intro e w1 he1; obtain ⟨rfl, n1, rfl⟩ := HG.out _ _ _ he1; clear he1) | (go_at_call 17; refine (C2.out _).mono ?_; intro e w1 he1; obtain ⟨rfl, n1, rfl⟩ := HG.out _ _ _ he1; clear he1) | (go_at_call 15; refine (C4.out _).mono ?_; rintro e w' ⟨rfl, rfl⟩))
    go_ret
    exact ⟨rfl, below_drewN (Below.refl _ _) _⟩
  · have h1 : g ≠ 0 := by simpa using h0
    obtain ⟨d1, d2⟩ := hd h1
    have t1 : (a.tmod g == 0) = true := by simpa using d1
    have t2 : (b.tmod g == 0) = true := by simpa using d2
    have b1 : -9223372036854775808 ≤ a.tmod g ∧ a.tmod g ≤ 9223372036854775807 := by omega
    have b2 : -9223372036854775808 ≤ b.tmod g ∧ b.tmod g ≤ 9223372036854775807 := by omega
    clear hd hg d1 d2
    go_enter Try.func4, Try.ntmps4
    go_wp2_with (first | (go_at_call 16; refine (C1.out _).mono ?_; intro e w1 he1; obtain ⟨rfl, n1, rfl⟩ := HG.out _ _ _ he1; clear he1) | (go_at_call 17; refine (C2.out _).mono ?_; intro e w1 he1; obtain ⟨rfl, n1, rfl⟩ := HG.out _ _ _ he1; clear he1) | (go_at_call 15; refine (C4.out _).mono ?_; rintro e w' ⟨rfl, rfl⟩))
    go_ret
    exact ⟨rfl, below_drewN (Below.refl _ _) _⟩
theorem numBitsRoots_walk (n : Int) (w : World) (hn0 : (Lit.int .i64 n).wf = true) :
    Calls Try.prog 6 #[.int .i64 n] w fun e w' => e = .returned (.bool true) ∧ Below w.heap.size w w' := by
  have hn := wf_fit hn0
  clear hn0
  have C1 := hide (bits_any n hn)
  have C2 := hide (rbits_any n hn)
  have C3 := hide (root_any n hn)
  have C5 := hide (rroot_any n hn)
  have C4 := hide awake_any
  go_enter Try.func6, Try.ntmps6
  go_wp2_with (first | (go_at_call 20; refine (C1.out _).mono ?_; rintro e w' ⟨rfl, rfl⟩) | (go_at_call 21; refine (C2.out _).mono ?_; rintro e w' ⟨rfl, rfl⟩) | (go_at_call 22; refine (C3.out _).mono ?_; rintro e w' ⟨r, hr, rfl, rfl⟩; have HR := hide hr; clear hr) | (go_at_call 23; refine (C5.out _).mono ?_; rintro e w' ⟨r', hr', rfl, rfl⟩; obtain rfl := isRoot_uniq HR.out hr'; clear hr') | (go_at_call 15; refine (C4.out _).mono ?_; rintro e w' ⟨rfl, rfl⟩))
  go_ret
  exact ⟨rfl, Below.refl _ _⟩
theorem numMultiplies_walk (a b : Int) (w : World) (ha0 : (Lit.int .i64 a).wf = true) (hb0 : (Lit.int .i64 b).wf = true) :
    Calls Try.prog 9 #[.int .i64 a, .int .i64 b] w fun e w' => e = .returned (.bool true) ∧ Below w.heap.size w w' := by
  have ha := wf_fit ha0
  have hb := wf_fit hb0
  clear ha0 hb0
  go_enter Try.func9, Try.ntmps9
  go_wp2_with (first | (go_at_call 30; refine (mul_any _ _ ha hb _).mono ?_; rintro e w' ⟨rfl, rfl⟩) | (go_at_call 31; refine (rmul_any _ _ ha hb _).mono ?_; rintro e w' ⟨rfl, rfl⟩) | (go_at_call 15; refine (awake_any _).mono ?_; rintro e w' ⟨rfl, rfl⟩))
  go_ret
  exact ⟨rfl, Below.refl _ _⟩
end Go.Proofs.Ytegfchjnkkobcaa
