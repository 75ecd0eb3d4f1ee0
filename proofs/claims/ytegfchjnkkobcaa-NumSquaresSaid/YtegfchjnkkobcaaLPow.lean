/- The walks of the laws on powers and squares: they return true. -/
import Derived.Test.YtegfchjnkkobcaaCPow
import Derived.Test.YtegfchjnkkobcaaCRoot
import Derived.Test.YtegfchjnkkobcaaCBits
import Derived.Test.YtegfchjnkkobcaaWf
import Derived.Laws.BitsAllLaws
namespace Go.Proofs.Ytegfchjnkkobcaa
open Go.RowKit
set_option linter.unusedVariables false
theorem numPowers_walk (a n : Int) (w : World) (ha0 : (Lit.int .i64 a).wf = true) (hn0 : (Lit.int .i64 n).wf = true) :
    Calls Try.prog 11 #[.int .i64 a, .int .i64 n] w fun e w' => e = .returned (.bool true) ∧ Below w.heap.size w w' := by
  have ha := wf_fit ha0
  have hn := wf_fit hn0
  clear ha0 hn0
  go_enter Try.func11, Try.ntmps11
  go_wp2_with (first | (go_at_call 32; refine (pow_any _ _ ha hn _).mono ?_; rintro e w' ⟨rfl, rfl⟩) | (go_at_call 33; refine (rpow_any _ _ ha hn _).mono ?_; rintro e w' ⟨rfl, rfl⟩) | (go_at_call 15; refine (awake_any _).mono ?_; rintro e w' ⟨rfl, rfl⟩))
  go_ret
  exact ⟨rfl, Below.refl _ _⟩
theorem isRoot_neg {n r : Int} (h0 : n < 0) (h : IsRoot n r) : r = 0 := by
  rcases h with h | h
  · exact h.2
  · have := sq_mono (a := 0) (b := r) (by omega) h.1
    omega
theorem isRoot_pos {n r : Int} (h0 : ¬ n < 0) (h : IsRoot n r) : 0 ≤ r ∧ r ≤ 3037000499 ∧ r * r ≤ n ∧ n < (r + 1) * (r + 1) := by
  rcases h with h | h
  · exact absurd h.1 h0
  · exact h
theorem sq_fit {r : Int} (h0 : 0 ≤ r) (h1 : r ≤ 3037000499) : Fit (r * r) := by
  have := sq_mono h0 h1
  have := sq_mono (a := 0) (b := r) (by omega) h0
  unfold Fit; omega
theorem numSquares_walk (n : Int) (w : World) (hn0 : (Lit.int .i64 n).wf = true) :
    Calls Try.prog 10 #[.int .i64 n] w fun e w' => e = .returned (.bool true) ∧ Below w.heap.size w w' := by
  have hn := wf_fit hn0
  clear hn0
  have C4 := hide awake_any
  have C1 := hide (root_any n hn)
  by_cases h0 : n < 0
  · go_enter Try.func10, Try.ntmps10
    go_wp2_with fail
    refine (C1.out _).mono ?_
    rintro e w1 ⟨r, hr, rfl, rfl⟩
    obtain rfl := isRoot_neg h0 hr
    clear hr hn
    go_wp2_with (go_at_call 15; refine (C4.out _).mono ?_; rintro e w' ⟨rfl, rfl⟩)
    go_ret
    exact ⟨rfl, Below.refl _ _⟩
  · go_enter Try.func10, Try.ntmps10
    go_wp2_with fail
    refine (C1.out _).mono ?_
    rintro e w1 ⟨r, hr, rfl, rfl⟩
    obtain ⟨r0, r1, r2, r3⟩ : 0 ≤ r ∧ r ≤ 3037000499 ∧ r * r ≤ n ∧ n < (r + 1) * (r + 1) := isRoot_pos (by omega) hr
    have hf := sq_fit r0 r1
    have c2 := mul_any r r (by unfold Fit; omega) (by unfold Fit; omega)
    have c3 := mul_any (r + 1) (r + 1) (by unfold Fit; omega) (by unfold Fit; omega)
    rw [fitV_yes hf, fitB_yes hf] at c2
    have C2 := hide c2
    have d1 := decide_eq_true r2
    by_cases hf2 : Fit ((r + 1) * (r + 1))
    · rw [fitV_yes hf2, fitB_yes hf2] at c3
      have C3 := hide c3
      clear hr c2 c3 hf hf2 hn
      generalize r * r = s at *
      generalize (r + 1) * (r + 1) = t at *
      go_wp2_with fail
      refine (C2.out _).mono ?_; rintro e w' ⟨rfl, rfl⟩
      go_wp2_with fail
      refine (C3.out _).mono ?_; rintro e w' ⟨rfl, rfl⟩
      go_wp2_with (go_at_call 15; refine (C4.out _).mono ?_; rintro e w' ⟨rfl, rfl⟩)
      go_ret
      exact ⟨rfl, Below.refl _ _⟩
    · rw [fitV_no hf2, fitB_no hf2] at c3
      have C3 := hide c3
      clear hr c2 c3 hf hf2 hn
      generalize r * r = s at *
      generalize (r + 1) * (r + 1) = t at *
      go_wp2_with fail
      refine (C2.out _).mono ?_; rintro e w' ⟨rfl, rfl⟩
      go_wp2_with fail
      refine (C3.out _).mono ?_; rintro e w' ⟨rfl, rfl⟩
      go_wp2_with (go_at_call 15; refine (C4.out _).mono ?_; rintro e w' ⟨rfl, rfl⟩)
      go_ret
      exact ⟨rfl, Below.refl _ _⟩
theorem and63 (n : Int) : 0 ≤ bits .and .i64 n 63 ∧ bits .and .i64 n 63 ≤ 63 := by
  have h : bits .and .i64 n 63 = IntKind.i64.wrap ((BitVec.ofInt 64 n &&& BitVec.ofInt 64 63).toNat : Int) := rfl
  rw [h, BitVec.toNat_and]
  have : (BitVec.ofInt 64 n).toNat &&& (BitVec.ofInt 64 63).toNat ≤ 63 := Nat.and_le_right
  rw [IntKind.wrap_i64]; omega
theorem zero_of_step {a : Int} {k : Nat} (h : Fit (a ^ (k + 1))) : Fit (a ^ k) := pow_less' h
theorem numPowerSteps_walk (a n : Int) (w : World) (ha0 : (Lit.int .i64 a).wf = true) (hn0 : (Lit.int .i64 n).wf = true) :
    Calls Try.prog 12 #[.int .i64 a, .int .i64 n] w fun e w' => e = .returned (.bool true) ∧ Below w.heap.size w w' := by
  have ha := wf_fit ha0
  clear ha0 hn0
  have C4 := hide awake_any
  have hm := and63 n
  have c1 := fun m (hm : Fit m) => pow_any a m ha hm
  have c2 := fun p (hp : Fit p) => mul_any p a hp ha
  have C1 := hide c1
  have C2 := hide c2
  clear c1 c2 ha
  go_enter Try.func12, Try.ntmps12
  go_wp2_with fail
  generalize bits .and .i64 n 63 = m at *
  obtain ⟨k, rfl⟩ := Int.eq_ofNat_of_zero_le hm.1
  have hk : k ≤ 63 := by omega
  refine (C1.out _ (by unfold Fit; omega) _).mono ?_
  rintro e w' ⟨rfl, rfl⟩
  go_wp2_with fail
  refine (C1.out _ (by unfold Fit; omega) _).mono ?_
  rintro e w' ⟨rfl, rfl⟩
  have e1 : ((k : Int) + 1).toNat = k + 1 := by omega
  have e2 : ((k : Int)).toNat = k := by omega
  by_cases hf : Fit (a ^ (k + 1))
  · have hf1 := pow_less' hf
    obtain ⟨f1, f2⟩ := powV_fit (a := a) (n := (k : Int) + 1) (by omega) (by rw [e1]) hf
    obtain ⟨f3, f4⟩ := powV_fit (a := a) (n := (k : Int)) (by omega) (by rw [e2]) hf1
    have c3 := C2.out _ hf1
    rw [← Int.pow_succ, fitV_yes hf, fitB_yes hf] at c3
    rw [f1, f2, f3, f4]
    have C3 := hide c3
    clear f1 f2 f3 f4 c3 hf hf1 e1 e2
    generalize a ^ (k + 1) = q at *
    generalize a ^ k = p at *
    go_wp2_with (first | (go_at_call 30; refine (C3.out _).mono ?_; rintro e w' ⟨rfl, rfl⟩) | (go_at_call 15; refine (C4.out _).mono ?_; rintro e w' ⟨rfl, rfl⟩))
    go_ret
    exact ⟨rfl, Below.refl _ _⟩
  · obtain ⟨f1, f2⟩ := powV_over (a := a) (n := (k : Int) + 1) (by omega) (by rw [e1]; exact hf)
    rw [f1, f2]
    clear f1 f2 hf e1 e2
    go_wp2_with (first | (go_at_call 15; refine (C4.out _).mono ?_; rintro e w' ⟨rfl, rfl⟩))
    go_ret
    exact ⟨rfl, Below.refl _ _⟩
end Go.Proofs.Ytegfchjnkkobcaa
