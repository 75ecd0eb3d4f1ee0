/- The walks of the laws on sums, differences, products, quotients, divisors, digits and roots: they return true. -/
import Derived.Test.YtegfchjnkkobcaaCAdd
import Derived.Test.YtegfchjnkkobcaaCBits
import Derived.Test.YtegfchjnkkobcaaWf
namespace Go.Proofs.Ytegfchjnkkobcaa
open Go.RowKit
theorem numAdds_walk (a b : Int) (w : World) (ha0 : (Lit.int .i64 a).wf = true) (hb0 : (Lit.int .i64 b).wf = true) :
    Calls Try.prog 3 #[.int .i64 a, .int .i64 b] w fun e w' => e = .returned (.bool true) ∧ Below w.heap.size w w' := by
  have ha := wf_fit ha0
  have hb := wf_fit hb0
  clear ha0 hb0
  go_enter Try.func3, Try.ntmps3
  go_wp2_with (first | (go_at_call 13; refine (add_any _ _ ha hb _).mono ?_; rintro e w' ⟨rfl, rfl⟩) | (go_at_call 14; refine (radd_any _ _ ha hb _).mono ?_; rintro e w' ⟨rfl, rfl⟩) | (go_at_call 15; refine (awake_any _).mono ?_; rintro e w' ⟨rfl, rfl⟩))
  go_ret
  exact ⟨rfl, Below.refl _ _⟩
theorem numSubtracts_walk (a b : Int) (w : World) (ha0 : (Lit.int .i64 a).wf = true) (hb0 : (Lit.int .i64 b).wf = true) :
    Calls Try.prog 7 #[.int .i64 a, .int .i64 b] w fun e w' => e = .returned (.bool true) ∧ Below w.heap.size w w' := by
  have ha := wf_fit ha0
  have hb := wf_fit hb0
  clear ha0 hb0
  have c1 := sub_any a b ha hb
  have c2 := rsub_any a b ha hb
  have c4 := awake_any
  by_cases hf : Fit (a - b)
  · have c3 := add_any (a - b) b hf hb
    rw [fitV_yes hf, fitB_yes hf] at c1 c2
    rw [show a - b + b = a by omega, fitV_yes ha, fitB_yes ha] at c3
    have C1 := hide c1
    have C2 := hide c2
    have C3 := hide c3
    have C4 := hide c4
    clear c1 c2 c3 c4 hf
    go_enter Try.func7, Try.ntmps7
    go_wp2_with (first | (go_at_call 24; refine (C1.out _).mono ?_; rintro e w' ⟨rfl, rfl⟩) | (go_at_call 25; refine (C2.out _).mono ?_; rintro e w' ⟨rfl, rfl⟩) | (go_at_call 13; refine (C3.out _).mono ?_; rintro e w' ⟨rfl, rfl⟩) | (go_at_call 15; refine (C4.out _).mono ?_; rintro e w' ⟨rfl, rfl⟩))
    go_ret
    exact ⟨rfl, Below.refl _ _⟩
  · have c3 := add_any 0 b (by decide) hb
    rw [fitV_no hf, fitB_no hf] at c1 c2
    have C1 := hide c1
    have C2 := hide c2
    have C3 := hide c3
    have C4 := hide c4
    clear c1 c2 c3 c4 hf
    go_enter Try.func7, Try.ntmps7
    go_wp2_with (first | (go_at_call 24; refine (C1.out _).mono ?_; rintro e w' ⟨rfl, rfl⟩) | (go_at_call 25; refine (C2.out _).mono ?_; rintro e w' ⟨rfl, rfl⟩) | (go_at_call 13; refine (C3.out _).mono ?_; rintro e w' ⟨rfl, rfl⟩) | (go_at_call 15; refine (C4.out _).mono ?_; rintro e w' ⟨rfl, rfl⟩))
    go_ret
    exact ⟨rfl, Below.refl _ _⟩
end Go.Proofs.Ytegfchjnkkobcaa
