/- The walk's own spelling of the codes' bits, as plain numbers. -/
import Derived.Test.YtlcgpldngooekaaCode
import Derived.Laws.BitsAllLaws
import Derived.RowKit
namespace Go.Proofs.Ytlcgpldngooekaa
open Go.RowKit
theorem wraps_u8_8 (n : Int) (h₀ : 0 ≤ n) (h₁ : n < 2 ^ 8) : IntKind.u8.wrap n = n := by rw [IntKind.wrap_u8]; omega
theorem mask127 {c : Int} (h₀ : 0 ≤ c) (h₁ : c ≤ 255) : bits .and .u8 c 127 = c % 128 := bits_mask .u8 8 (by decide) wraps_u8_8 7 (by decide) c h₀ (by omega)
theorem pow7 (k : Nat) : (2 : Int) ^ (7 * k) = 128 ^ k := by rw [Int.pow_mul]; rfl
theorem or_plain (u y : Int) (i : Nat) (h0 : 0 ≤ u) (h1 : u < 2 ^ i) (h2 : 0 ≤ y) (h3 : y * 2 ^ i < 18446744073709551616) (hi : i ≤ 63) : bits .or .u64 u (y * 2 ^ i) = u + y * 2 ^ i := by
  have hp : (2 : Int) ^ i ≤ 2 ^ 63 := by
    have := Nat.pow_le_pow_right (n := 2) (by omega) hi
    exact_mod_cast this
  have hy : 0 ≤ y * 2 ^ i := Int.mul_nonneg h2 (Int.le_of_lt (Int.pow_pos (by omega)))
  rw [u64_or u (y * 2 ^ i) h0 (by omega) hy h3]
  obtain ⟨a, rfl⟩ := Int.eq_ofNat_of_zero_le h0
  obtain ⟨b, rfl⟩ := Int.eq_ofNat_of_zero_le h2
  have e1 : ((b : Int) * 2 ^ i) = ((b * 2 ^ i : Nat) : Int) := by push_cast; rfl
  have e2 : ((2 : Int) ^ i) = ((2 ^ i : Nat) : Int) := by push_cast; rfl
  rw [e1]
  simp only [Int.toNat_natCast]
  rw [Nat.or_comm, nat_join i (b * 2 ^ i) a (Nat.mul_mod_left _ _) (by rw [e2] at h1; exact_mod_cast h1)]
  push_cast; omega
theorem or_step (u z : Int) (k : Nat) (h0 : 0 ≤ u) (h1 : u < 128 ^ k) (hz : 0 ≤ z ∧ z ≤ 255) (hk : k ≤ 9) (h9 : k = 9 → z ≤ 1) :
    bits .or .u64 u (IntKind.u64.wrap (IntKind.u64.wrap (bits .and .u8 z 127) * 2 ^ (7 * k))) = u + z % 128 * 128 ^ k := by
  rw [mask127 hz.1 hz.2]
  have hw : IntKind.u64.wrap (z % 128) = z % 128 := by rw [IntKind.wrap_u64]; omega
  have hlt : z % 128 * 2 ^ (7 * k) < 18446744073709551616 := by
    rcases (show k = 0 ∨ k = 1 ∨ k = 2 ∨ k = 3 ∨ k = 4 ∨ k = 5 ∨ k = 6 ∨ k = 7 ∨ k = 8 ∨ k = 9 by omega) with rfl | rfl | rfl | rfl | rfl | rfl | rfl | rfl | rfl | rfl <;> simp <;> omega
  have h2 : 0 ≤ z % 128 * 2 ^ (7 * k) := Int.mul_nonneg (by omega) (Int.le_of_lt (Int.pow_pos (by omega)))
  have hw2 : IntKind.u64.wrap (z % 128 * 2 ^ (7 * k)) = z % 128 * 2 ^ (7 * k) := by rw [IntKind.wrap_u64]; omega
  rw [hw, hw2, or_plain u (z % 128) (7 * k) h0 (by rw [pow7]; exact h1) (by omega) hlt (by omega), pow7]
/-- a number read so far stays below the next power -/
theorem pow_next (u z : Int) (k : Nat) (h0 : 0 ≤ u) (h1 : u < 128 ^ k) : 0 ≤ u + z % 128 * 128 ^ k ∧ u + z % 128 * 128 ^ k < 128 ^ (k + 1) := by
  have hp : (0 : Int) < 128 ^ k := Int.pow_pos (by omega)
  have h2 : 0 ≤ z % 128 * 128 ^ k := Int.mul_nonneg (by omega) (by omega)
  have h3 : z % 128 * 128 ^ k ≤ 127 * 128 ^ k := Int.mul_le_mul_of_nonneg_right (by omega) (by omega)
  rw [Int.pow_succ]; omega
theorem last_bd (u z : Int) (k : Nat) (h0 : 0 ≤ u) (h1 : u < 128 ^ k) (hz : 0 ≤ z ∧ z ≤ 127) (hk : k ≤ 9) (h9 : k = 9 → z ≤ 1) : 0 ≤ u + z * 128 ^ k ∧ u + z * 128 ^ k ≤ 18446744073709551615 := by
  rcases (show k = 0 ∨ k = 1 ∨ k = 2 ∨ k = 3 ∨ k = 4 ∨ k = 5 ∨ k = 6 ∨ k = 7 ∨ k = 8 ∨ k = 9 by omega) with rfl | rfl | rfl | rfl | rfl | rfl | rfl | rfl | rfl | rfl <;> simp at * <;> omega
end Go.Proofs.Ytlcgpldngooekaa
namespace Go.Proofs.Ytlcgpldngooekaa
open Go.RowKit
theorem and1 (u : Int) (h0 : 0 ≤ u) (h1 : u ≤ 18446744073709551615) : bits .and .u64 u 1 = u % 2 := by
  have := bits_mask .u64 64 (by decide) (fun n a b => by rw [IntKind.wrap_u64]; omega) 1 (by decide) u h0 (by omega)
  exact this
theorem unzig_odd {u : Int} (h : u % 2 = 1) : unzig u = -(u / 2) - 1 := if_pos h
theorem unzig_even {u : Int} (h : u % 2 ≠ 1) : unzig u = u / 2 := if_neg h
-- what a reader's round does
theorem rd_more {k : Nat} {u z : Int} {r : List Int} (hk : k < 9) (hz : 128 ≤ z) : rdF (10 - k) k u (z :: r) = rdF (10 - (k + 1)) (k + 1) (u + z % 128 * 128 ^ k) r := by
  obtain ⟨f, hf⟩ : ∃ f, 10 - k = f + 1 ∧ 10 - (k + 1) = f ∧ f ≠ 0 := ⟨9 - k, by omega, by omega, by omega⟩
  rw [hf.1, hf.2.1, rdF, if_neg (by omega), if_pos hz]
theorem rd_zero {k : Nat} {u : Int} {r : List Int} (hk : k ≤ 9) (h0 : 0 < k) : rdF (10 - k) k u (0 :: r) = none := by
  obtain ⟨f, hf⟩ : ∃ f, 10 - k = f + 1 := ⟨9 - k, by omega⟩
  rw [hf, rdF, if_neg (by omega), if_neg (by omega), if_pos ⟨rfl, h0⟩]
theorem rd_last {k : Nat} {u z : Int} {r : List Int} (hk : k ≤ 9) (h9 : k = 9 → z ≤ 1) (hz : z < 128) (h0 : ¬ (z = 0 ∧ 0 < k)) : rdF (10 - k) k u (z :: r) = some (u + z * 128 ^ k, k + 1) := by
  obtain ⟨f, hf, hf0⟩ : ∃ f, 10 - k = f + 1 ∧ (f = 0 → k = 9) := ⟨9 - k, by omega, by omega⟩
  rw [hf, rdF, if_neg (fun h => by have := h9 (hf0 h.1); omega), if_neg (by omega), if_neg h0]
theorem rd_big {u z : Int} {r : List Int} (hz : 1 < z) : rdF (10 - 9) 9 u (z :: r) = none := by
  show rdF (0 + 1) 9 u (z :: r) = none
  rw [rdF, if_pos ⟨rfl, hz⟩]
theorem rd_ten {u : Int} {r : List Int} : rdF (10 - 10) 10 u r = none := by
  show rdF 0 10 u r = none
  rw [rdF]
theorem rd_end {k : Nat} {u : Int} : rdF (10 - k) k u [] = none := by
  rcases 10 - k with _ | f <;> rfl
end Go.Proofs.Ytlcgpldngooekaa
