/- Contracts of the number of digits, and bounds of its products. -/
import Derived.Test.YtmlddoajfgmoaaaWords
import Derived.Test.YtmlddoajfgmoaaaShelf
import Derived.Test.YtmlddoajfgmoaaaChecked
import Derived.Lib.BitFns
import Derived.Outline
namespace Go.Proofs.Ytmlddoajfgmoaaa
open Go.RowKit
/-- the number of binary digits -/
def bitsV (n : Int) : Int := if n < 0 then 0 else ((Lib.bitLen n.toNat : Nat) : Int)
theorem bitsV_zero {n : Int} (h : n ≤ 0) : bitsV n = 0 := by
  unfold bitsV; split
  · rfl
  · have : n = 0 := by omega
    subst this; decide
theorem bitsV_half {n : Int} (h : 0 < n) (h2 : n ≤ 9223372036854775807) : bitsV n = 1 + bitsV (n / 2) := by
  unfold bitsV
  rw [if_neg (by omega), if_neg (by omega), Lib.bitLen_half n.toNat (by omega) (by omega)]
  have : (n / 2).toNat = n.toNat / 2 := by omega
  rw [this]; omega
theorem bitsV_bd {n : Int} (h2 : n ≤ 9223372036854775807) : 0 ≤ bitsV n ∧ bitsV n ≤ 64 := by
  unfold bitsV; split
  · omega
  · have := Lib.bitLen_le n.toNat 64 (by omega) (by omega); omega
theorem bits_any (n : Int) (h2 : n ≤ 9223372036854775807) (w : World) : Calls Try.prog 29 #[.int .i64 n] w fun e w' => e = .returned (.int .i64 (bitsV n)) ∧ w = w' := by
  by_cases h0 : n < 0
  · rw [bitsV_zero (by omega)]
    go_enter Try.func29, Try.ntmps29
    go_wp2
    go_ret
    exact ⟨rfl, rfl⟩
  · have HB := hide (show bitsV n = ((Lib.bitLen n.toNat : Nat) : Int) from if_neg h0)
    go_enter Try.func29, Try.ntmps29
    go_wp2_with (go_at_call 38; refine (Try.bits_Len64 _ _ (by omega) (by omega)).mono ?_; rintro e w' ⟨rfl, rfl⟩)
    go_ret
    exact ⟨by rw [HB.out]; rfl, rfl⟩
theorem rbits_any (n : Int) (h2 : n ≤ 9223372036854775807) (w : World) : Calls Try.prog 34 #[.int .i64 n] w fun e w' => e = .returned (.int .i64 (bitsV n)) ∧ w = w' := by
  go_enter Try.func34, Try.ntmps34
  go_wp2
  go_loop [0, 3] (fun x y => ∃ (m k : Int), m ≤ 9223372036854775807 ∧ 0 ≤ k ∧ k + bitsV m = bitsV n ∧ x = .int .i64 m ∧ y = .int .i64 k) (fun x _ => (intOf x).toNat)
  case atStart => exact ⟨n, 0, h2, by omega, by omega, rfl, rfl⟩
  case round =>
    obtain ⟨m, k, hm, hk, he, rfl, rfl⟩ := hrel
    have hb := bitsV_bd (n := n) (by omega)
    have hb2 := bitsV_bd hm
    have hk2 : k ≤ 64 := by omega
    have HE := hide he
    clear he hb hb2
    by_cases h0 : 0 < m
    · go_wp2
      go_round
      case rel => exact ⟨m / 2, k + 1, by omega, by omega, by rw [← HE.out, bitsV_half h0 hm]; omega, by first | rfl | go_num, by first | rfl | go_num⟩
      case measure => simp [intOf]; omega
    · go_wp2
      go_ret
      exact ⟨ret_int (by have := HE.out; rw [bitsV_zero (by omega)] at this; omega), rfl⟩
end Go.Proofs.Ytmlddoajfgmoaaa
