/- The walks of the laws on quotients: they return true. -/
import Derived.Test.YtegfchjnkkobcaaCDiv
import Derived.Test.YtegfchjnkkobcaaCBits
import Derived.Test.YtegfchjnkkobcaaWf
namespace Go.Proofs.Ytegfchjnkkobcaa
open Go.RowKit
theorem numDivides_walk (a b : Int) (w : World) (ha0 : (Lit.int .i64 a).wf = true) (hb0 : (Lit.int .i64 b).wf = true) :
    Calls Try.prog 8 #[.int .i64 a, .int .i64 b] w fun e w' => e = .returned (.bool true) ∧ Below w.heap.size w w' := by
  have ha := wf_fit ha0
  have hb := wf_fit hb0
  clear ha0 hb0
  go_enter Try.func8, Try.ntmps8
  go_wp2_with (first | (go_at_call 18; refine (fdiv_any _ _ ha hb _).mono ?_; rintro e w' ⟨rfl, rfl⟩) | (go_at_call 26; refine (rfdiv_any _ _ ha hb _).mono ?_; rintro e w' ⟨rfl, rfl⟩) | (go_at_call 27; refine (cdiv_any _ _ ha hb _).mono ?_; rintro e w' ⟨rfl, rfl⟩) | (go_at_call 28; refine (rcdiv_any _ _ ha hb _).mono ?_; rintro e w' ⟨rfl, rfl⟩) | (go_at_call 19; refine (mod_any _ _ ha hb _).mono ?_; rintro e w' ⟨rfl, rfl⟩) | (go_at_call 29; refine (rmod_any _ _ ha hb _).mono ?_; rintro e w' ⟨rfl, rfl⟩) | (go_at_call 15; refine (awake_any _).mono ?_; rintro e w' ⟨rfl, rfl⟩))
  go_ret
  exact ⟨rfl, Below.refl _ _⟩
theorem back_eq {a q b m : Int} (ha : Fit a) (h : q * b + m = a) : (wrap64 (wrap64 (q * b) + m) == a) = true := by
  rw [beq_iff_eq]; unfold Fit at ha; unfold wrap64; omega
theorem numRemains_walk (a b : Int) (w : World) (ha0 : (Lit.int .i64 a).wf = true) (hb0 : (Lit.int .i64 b).wf = true) :
    Calls Try.prog 5 #[.int .i64 a, .int .i64 b] w fun e w' => e = .returned (.bool true) ∧ Below w.heap.size w w' := by
  have ha := wf_fit ha0
  have hb := wf_fit hb0
  clear ha0 hb0
  have c1 := fdiv_any a b ha hb
  have c2 := mod_any a b ha hb
  have C4 := hide awake_any
  rcases two (b == 0) with h0 | h0
  · obtain rfl : b = 0 := by simpa using h0
    rw [show fdV a 0 = 0 by simp [fdV, divB], show divB a 0 = false by simp [divB]] at c1
    rw [show mdV a 0 = 0 from rfl, show mdB 0 = false from rfl] at c2
    have C1 := hide c1
    have C2 := hide c2
    clear c1 c2
    go_enter Try.func5, Try.ntmps5
    go_wp2_with (first | (go_at_call 18; refine (C1.out _).mono ?_; rintro e w' ⟨rfl, rfl⟩) | (go_at_call 19; refine (C2.out _).mono ?_; rintro e w' ⟨rfl, rfl⟩) | (go_at_call 15; refine (C4.out _).mono ?_; rintro e w' ⟨rfl, rfl⟩))
    go_ret
    exact ⟨rfl, Below.refl _ _⟩
  · by_cases hx : a = -9223372036854775808 ∧ b = -1
    · obtain ⟨rfl, rfl⟩ := hx
      rw [show fdV (-9223372036854775808) (-1) = 0 by decide, show divB (-9223372036854775808) (-1) = false by decide] at c1
      rw [show mdV (-9223372036854775808) (-1) = 0 by decide, show mdB (-1) = true by decide] at c2
      have C1 := hide c1
      have C2 := hide c2
      clear c1 c2 ha hb
      go_enter Try.func5, Try.ntmps5
      go_wp2_with (first | (go_at_call 18; refine (C1.out _).mono ?_; rintro e w' ⟨rfl, rfl⟩) | (go_at_call 19; refine (C2.out _).mono ?_; rintro e w' ⟨rfl, rfl⟩) | (go_at_call 15; refine (C4.out _).mono ?_; rintro e w' ⟨rfl, rfl⟩))
      go_ret
      exact ⟨rfl, Below.refl _ _⟩
    · have hb0 : b ≠ 0 := by simpa using h0
      have e1 : divB a b = true := by simp only [divB, h0, Bool.false_or, Bool.not_eq_true', Bool.and_eq_false_iff, beq_eq_false_iff_ne]; exact Classical.not_and_iff_not_or_not.1 hx
      have e2 : fdV a b = fq a b := by simp [fdV, e1]
      have e3 : mdV a b = md a b := by simp [mdV, hb0]
      have e4 : mdB b = true := by simp [mdB, hb0]
      obtain ⟨hs, hp, hn⟩ := fq_md a b
      rw [e1, e2] at c1
      rw [e3, e4] at c2
      clear e1 e2 e3 e4 hx
      generalize fq a b = q at *
      generalize md a b = m at *
      have hk := back_eq ha hs
      have C1 := hide c1
      have C2 := hide c2
      clear c1 c2 hs ha hb
      rcases (show 0 < b ∨ b < 0 by omega) with h1 | h1
      · obtain ⟨m1, m2⟩ := hp h1
        have d1 := decide_eq_true (p := 0 < b) h1
        have d2 := decide_eq_false (p := b < 0) (by omega)
        have d3 := decide_eq_false (p := m < 0) (by omega)
        have d4 := decide_eq_false (p := b ≤ m) (by omega)
        clear hp hn
        go_enter Try.func5, Try.ntmps5
        go_wp2_with (first | (go_at_call 18; refine (C1.out _).mono ?_; rintro e w' ⟨rfl, rfl⟩) | (go_at_call 19; refine (C2.out _).mono ?_; rintro e w' ⟨rfl, rfl⟩) | (go_at_call 15; refine (C4.out _).mono ?_; rintro e w' ⟨rfl, rfl⟩))
        go_ret
        exact ⟨rfl, Below.refl _ _⟩
      · obtain ⟨m1, m2⟩ := hn h1
        have d1 := decide_eq_false (p := 0 < b) (by omega)
        have d2 := decide_eq_true (p := b < 0) h1
        have d3 := decide_eq_false (p := 0 < m) (by omega)
        have d4 := decide_eq_false (p := m ≤ b) (by omega)
        clear hp hn
        go_enter Try.func5, Try.ntmps5
        go_wp2_with (first | (go_at_call 18; refine (C1.out _).mono ?_; rintro e w' ⟨rfl, rfl⟩) | (go_at_call 19; refine (C2.out _).mono ?_; rintro e w' ⟨rfl, rfl⟩) | (go_at_call 15; refine (C4.out _).mono ?_; rintro e w' ⟨rfl, rfl⟩))
        go_ret
        exact ⟨rfl, Below.refl _ _⟩
end Go.Proofs.Ytegfchjnkkobcaa
