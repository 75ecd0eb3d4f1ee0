/- Contracts of the greatest common divisors. -/
import Derived.Test.YtegfchjnkkobcaaPlain
import Derived.Test.YtegfchjnkkobcaaProg
import Derived.WalkKit
import Derived.Deep.QuietTactic
import Derived.BigQuiet
import Derived.Outline
namespace Go.Proofs.Ytegfchjnkkobcaa
open Go.RowKit
def gcdV (a b : Int) : Int := if a < 0 ∨ b < 0 then 0 else (Int.gcd a b : Int)
theorem gcdV_in {a b : Int} (ha : 0 ≤ a) (hb : 0 ≤ b) : gcdV a b = (Int.gcd a b : Int) := if_neg (by omega)
theorem gcdV_out {a b : Int} (h : a < 0 ∨ b < 0) : gcdV a b = 0 := if_pos h
def GcdEnd (a b : Int) (w : World) (e : Ending) (w' : World) : Prop := e = .returned (.int .i64 (gcdV a b)) ∧ ∃ n, w' = w.drewN n
theorem gcd_any (a b : Int) (ha : Fit a) (hb : Fit b) (w : World) : Calls Try.prog 16 #[.int .i64 a, .int .i64 b] w (GcdEnd a b w) := by
  unfold Fit at ha hb
  by_cases h0 : a < 0
  · go_enter Try.func16, Try.ntmps16
    go_wp2
    go_ret
    exact ⟨by rw [gcdV_out (.inl h0)]; rfl, 0, rfl⟩
  · by_cases h1 : b < 0
    · go_enter Try.func16, Try.ntmps16
      go_wp2
      go_ret
      exact ⟨by rw [gcdV_out (.inr h1)]; rfl, 0, rfl⟩
    · go_enter Try.func16, Try.ntmps16
      go_wp2
      go_loopw [0, 1] (fun x y wr => ∃ (p q : Int), 0 ≤ p ∧ 0 ≤ q ∧ p ≤ 9223372036854775807 ∧ q ≤ 9223372036854775807 ∧ Int.gcd p q = Int.gcd a b ∧ x = .int .i64 p ∧ y = .int .i64 q ∧ ∃ n, wr = w.drewN n) (fun _ y _ => (intOf y).toNat)
      case atStart => exact ⟨a, b, by omega, by omega, ha.2, hb.2, rfl, rfl, rfl, 0, rfl⟩
      case round =>
        obtain ⟨p, q, hp, hq, hp1, hq1, hg, rfl, rfl, n, rfl⟩ := hrel
        have HG : Hid (Int.gcd p q = Int.gcd a b) := hg
        clear hg
        by_cases hz : q = 0
        · subst hz
          go_wp2
          go_ret
          exact ⟨by rw [gcdV_in (by omega) (by omega), ← HG.out]; simp; omega, n, rfl⟩
        · have hm := Int.emod_lt_of_pos p (b := q) (by omega)
          have hm0 := Int.emod_nonneg p (b := q) (by omega)
          go_wp2
          go_quiet (fail)
          go_wp2
          go_roundw
          case rel => exact ⟨q, p % q, hq, hm0, hq1, by omega, by rw [gcd_step hp hq]; exact HG.out, rfl, rfl, _, World.drewN_drewN _ _ _⟩
          case measure => simp [intOf]; omega
theorem rgcd_any (a b : Int) (ha : Fit a) (hb : Fit b) (w : World) : Calls Try.prog 17 #[.int .i64 a, .int .i64 b] w (GcdEnd a b w) := by
  unfold Fit at ha hb
  by_cases h0 : a < 0
  · go_enter Try.func17, Try.ntmps17
    go_wp2
    go_ret
    exact ⟨by rw [gcdV_out (.inl h0)]; rfl, 0, rfl⟩
  · by_cases h1 : b < 0
    · go_enter Try.func17, Try.ntmps17
      go_wp2
      go_ret
      exact ⟨by rw [gcdV_out (.inr h1)]; rfl, 0, rfl⟩
    · go_enter Try.func17, Try.ntmps17
      go_wp2
      go_loopw [0, 1] (fun x y wr => ∃ (p q : Int), 0 ≤ p ∧ 0 ≤ q ∧ p ≤ 9223372036854775807 ∧ q ≤ 9223372036854775807 ∧ Int.gcd p q = Int.gcd a b ∧ x = .int .i64 p ∧ y = .int .i64 q ∧ ∃ n, wr = w.drewN n) (fun _ y _ => (intOf y).toNat)
      case atStart => exact ⟨a, b, by omega, by omega, ha.2, hb.2, rfl, rfl, rfl, 0, rfl⟩
      case round =>
        obtain ⟨p, q, hp, hq, hp1, hq1, hg, rfl, rfl, n, rfl⟩ := hrel
        have HG : Hid (Int.gcd p q = Int.gcd a b) := hg
        clear hg
        by_cases hz : q = 0
        · subst hz
          go_wp2
          go_ret
          exact ⟨by rw [gcdV_in (by omega) (by omega), ← HG.out]; simp; omega, n, rfl⟩
        · have hm := Int.emod_lt_of_pos p (b := q) (by omega)
          have hm0 := Int.emod_nonneg p (b := q) (by omega)
          go_wp2
          go_quiet (fail)
          go_wp2
          go_roundw
          case rel => exact ⟨q, p % q, hq, hm0, hq1, by omega, by rw [gcd_step hp hq]; exact HG.out, rfl, rfl, _, World.drewN_drewN _ _ _⟩
          case measure => simp [intOf]; omega
end Go.Proofs.Ytegfchjnkkobcaa
