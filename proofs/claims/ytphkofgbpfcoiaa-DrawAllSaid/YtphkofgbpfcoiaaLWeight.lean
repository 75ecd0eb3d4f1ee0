/- The walks of the laws on weights and on the next draw: they return true. -/
import Derived.Test.YtphkofgbpfcoiaaCNumber
import Derived.Test.YtphkofgbpfcoiaaCNext
import Derived.OpenShut
namespace Go.Proofs.Ytphkofgbpfcoiaa
open Go.RowKit Go.ChangeShapes Go.WideShapes
set_option linter.unusedVariables false
theorem wf_fit {n : Int} (h : (Lit.int .i64 n).wf = true) : Fit n := by
  have := bounds_i64 h; unfold Fit; omega
theorem row_fits {w : World} {a : Option Addr} {len cap : Nat} {z : List Int} (w0 : IsRow .i64 w a len cap z) :
    Sl w w.heap.size a len ((z.take len).map (Value.int .i64)) ∧ Fits (z.take len) ∧ len ≤ cap ∧ (z.take len).length = len ∧ cap ≤ 9223372036854775807 := by
  obtain ⟨hsl, hwf, hlc, hcm, hzl⟩ := w0.sl
  exact ⟨hsl, fun y hy => wf_fit (hwf y hy), hlc, hzl, hcm⟩
set_option maxRecDepth 100000 in
theorem drawWeights_walk (A : Option Addr) (len0 cap0 : Nat) (z : List Int) (w : World) (w0 : IsRow .i64 w A len0 cap0 z) :
    Calls Try.prog 3 #[.slice A len0 cap0] w fun e w' => e = .returned (.bool true) ∧ Below w.heap.size w w' := by
  obtain ⟨hsl, hf, hlc, hzl, hcm⟩ := row_fits w0
  have C4 := hide awake_any
  have C1 := hide (weight_any A len0 cap0 w.heap.size (z.take len0) w hsl hf (by omega))
  have C2 := hide (rweight_any A len0 cap0 w.heap.size (z.take len0) w hsl hf (by omega))
  unfold WeightEnd at C1 C2
  clear w0 hsl hf hlc hzl hcm
  go_enter Try.func3, Try.ntmps3
  go_wp2_with (first | (go_at_call 9; refine C1.out.mono ?_; rintro e w' ⟨rfl, rfl⟩) | (go_at_call 10; refine C2.out.mono ?_; rintro e w' ⟨rfl, rfl⟩) | (go_at_call 11; refine (C4.out _).mono ?_; rintro e w' ⟨rfl, hb1⟩))
  go_ret
  exact ⟨rfl, hb1⟩
set_option maxRecDepth 100000 in
theorem drawNext_walk (A : Option Addr) (len0 cap0 : Nat) (z : List Int) (a1 a2 : Int) (w : World) (w0 : IsRow .i64 w A len0 cap0 z) (w1 : (Lit.int .i64 a1).wf = true) (w2 : (Lit.int .i64 a2).wf = true) :
    Calls Try.prog 4 #[.slice A len0 cap0, .int .i64 a1, .int .i64 a2] w fun e w' => e = .returned (.bool true) ∧ Below w.heap.size w w' := by
  obtain ⟨hsl, hf, hlc, hzl, hcm⟩ := row_fits w0
  have C4 := hide awake_any
  have C1 := hide (next_any A len0 cap0 w.heap.size a1 a2 (z.take len0) w hsl (by omega))
  have C2 := hide (rnext_any A len0 cap0 w.heap.size a1 a2 (z.take len0) w hsl (by omega))
  unfold NextEnd at C1 C2
  clear w0 hsl hf hlc hzl hcm w1 w2
  generalize nextV (z.take len0) a1 a2 = r at *
  obtain ⟨r1, r2, r3⟩ := r
  go_enter Try.func4, Try.ntmps4
  go_wp2_with (first | (go_at_call 12; refine C1.out.mono ?_; rintro e w' ⟨rfl, rfl⟩) | (go_at_call 13; refine C2.out.mono ?_; rintro e w' ⟨rfl, rfl⟩) | (go_at_call 11; refine (C4.out _).mono ?_; rintro e w' ⟨rfl, hb1⟩))
  go_ret
  exact ⟨rfl, hb1⟩
end Go.Proofs.Ytphkofgbpfcoiaa
