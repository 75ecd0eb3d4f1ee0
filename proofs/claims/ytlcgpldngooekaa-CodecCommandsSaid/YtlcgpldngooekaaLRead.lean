/- The walk of the law on reading: it returns true. -/
import Derived.Test.YtlcgpldngooekaaRead
import Derived.OpenShut
namespace Go.Proofs.Ytlcgpldngooekaa
open Go.RowKit Go.ChangeShapes Go.WideShapes
set_option linter.unusedVariables false
theorem row_bytes {w : World} {a : Option Addr} {len cap : Nat} {z : List Int} (w0 : IsRow .u8 w a len cap z) :
    Sl w w.heap.size a len ((z.take len).map (Value.int .u8)) ∧ Bytes (z.take len) ∧ len ≤ cap ∧ (z.take len).length = len ∧ cap ≤ 9223372036854775807 := by
  obtain ⟨hsl, hwf, hlc, hcm, hzl⟩ := w0.sl
  exact ⟨hsl, fun y hy => by have := bounds_u8 (hwf y hy); omega, hlc, hzl, hcm⟩
theorem bytes5 : Try.prog.bytesOf 5 = 1 := by kernel_rfl
set_option maxRecDepth 100000 in
theorem codecReads_walk (A : Option Addr) (len0 cap0 : Nat) (z : List Int) (at_ : Int) (w : World) (w0 : IsRow .u8 w A len0 cap0 z) (hcap0 : cap0 * Try.prog.bytesOf 5 ≤ 140737488351232) (w1 : (Lit.int .i64 at_).wf = true) :
    Calls Try.prog 4 #[.slice A len0 cap0, .int .i64 at_] w fun e w' => e = .returned (.bool true) ∧ Below w.heap.size w w' := by
  obtain ⟨hsl, hby, hlc, hzl, hcm⟩ := row_bytes w0
  have hcap : cap0 ≤ 140737488351232 := by rw [bytes5] at hcap0; omega
  have C4 := hide awake_any
  have C1 := hide (cread_any A len0 cap0 w.heap.size at_ (z.take len0) w hsl hby (by omega))
  have C2 := hide (rread_any A len0 cap0 w.heap.size at_ (z.take len0) w hsl hby (by omega))
  clear w0 w1 hsl hby hlc hzl hcm hcap hcap0
  unfold ReadEnd at C1 C2
  generalize readV (z.take len0) at_ = r at *
  obtain ⟨r1, r2, r3⟩ := r
  go_enter Try.func4, Try.ntmps4
  go_wp2_with (first | (go_at_call 16; refine C1.out.mono ?_; rintro e w' ⟨rfl, rfl⟩) | (go_at_call 17; refine C2.out.mono ?_; rintro e w' ⟨rfl, rfl⟩) | (go_at_call 12; refine (C4.out _).mono ?_; rintro e w' ⟨rfl, hb1⟩))
  go_ret
  exact ⟨rfl, hb1⟩
end Go.Proofs.Ytlcgpldngooekaa
