/- Plain facts on numbers, for the laws on package num: no program in sight. -/
import Derived.IntWalk
namespace Go.Proofs.Ytegfchjnkkobcaa
/-- the numbers of int64 -/
def Fit (n : Int) : Prop := -9223372036854775808 ≤ n ∧ n ≤ 9223372036854775807
instance (n : Int) : Decidable (Fit n) := by unfold Fit; infer_instance
def fitV (n : Int) : Int := if Fit n then n else 0
def fitB (n : Int) : Bool := decide (Fit n)
theorem fitV_yes {n : Int} (h : Fit n) : fitV n = n := if_pos h
theorem fitV_no {n : Int} (h : ¬ Fit n) : fitV n = 0 := if_neg h
theorem fitB_yes {n : Int} (h : Fit n) : fitB n = true := decide_eq_true h
theorem fitB_no {n : Int} (h : ¬ Fit n) : fitB n = false := decide_eq_false h
end Go.Proofs.Ytegfchjnkkobcaa
namespace Go.Proofs.Ytegfchjnkkobcaa
/-- the quotient next below, the quotient next above, the remainder of the first -/
def fq (a b : Int) : Int := if (a.tmod b != 0 && decide (a < 0) != decide (b < 0)) = true then a.tdiv b - 1 else a.tdiv b
def cq (a b : Int) : Int := if (a.tmod b != 0 && decide (a < 0) == decide (b < 0)) = true then a.tdiv b + 1 else a.tdiv b
def md (a b : Int) : Int := if (a.tmod b != 0 && decide (a.tmod b < 0) != decide (b < 0)) = true then a.tmod b + b else a.tmod b
def divB (a b : Int) : Bool := !(b == 0 || (a == -9223372036854775808 && b == -1))
def fdV (a b : Int) : Int := if divB a b then fq a b else 0
def cdV (a b : Int) : Int := if divB a b then cq a b else 0
def mdV (a b : Int) : Int := if b = 0 then 0 else md a b
def mdB (b : Int) : Bool := b != 0
theorem tmod_bd (a b : Int) : a.tdiv b * b + a.tmod b = a ∧ (0 ≤ a → 0 ≤ a.tmod b) ∧ (a ≤ 0 → a.tmod b ≤ 0) ∧ (0 < b → a.tmod b < b ∧ - b < a.tmod b) ∧ (b < 0 → a.tmod b < - b ∧ b < a.tmod b) := by
  refine ⟨Int.tdiv_mul_add_tmod a b, fun h => Int.tmod_nonneg b h, fun h => ?_, fun h => ⟨Int.tmod_lt_of_pos a h, Int.lt_tmod_of_pos a h⟩, fun h => ?_⟩
  · have := Int.tmod_nonneg (a := -a) b (by omega)
    rw [Int.neg_tmod] at this; omega
  · have h1 := Int.tmod_lt_of_pos a (b := -b) (by omega)
    have h2 := Int.lt_tmod_of_pos a (b := -b) (by omega)
    rw [Int.tmod_neg] at h1 h2; omega
theorem fq_md (a b : Int) : fq a b * b + md a b = a ∧ (0 < b → 0 ≤ md a b ∧ md a b < b) ∧ (b < 0 → b < md a b ∧ md a b ≤ 0) := by
  obtain ⟨h1, h2, h3, h4, h5⟩ := tmod_bd a b
  unfold fq md
  by_cases ha : a < 0 <;> by_cases hr : a.tmod b < 0 <;> by_cases hb' : b < 0 <;> by_cases hm : a.tmod b = 0 <;> simp [ha, hr, hb', hm, Int.sub_mul] <;> omega
theorem tdiv_bd (a b : Int) (ha : Fit a) (hb : b ≠ 0) (hn : ¬ (a = -9223372036854775808 ∧ b = -1)) : -9223372036854775808 ≤ a.tdiv b ∧ a.tdiv b ≤ 9223372036854775807 := by
  unfold Fit at ha
  have h1 : (a.tdiv b).natAbs = a.natAbs / b.natAbs := Int.natAbs_tdiv a b
  have h2 : a.natAbs / b.natAbs ≤ a.natAbs := Nat.div_le_self _ _
  by_cases hb1 : b = -1
  · subst hb1; rw [Int.tdiv_neg, Int.tdiv_one]; omega
  · by_cases hb2 : b = 1
    · subst hb2; rw [Int.tdiv_one]; omega
    · have h3 : a.natAbs / b.natAbs ≤ a.natAbs / 2 := Nat.div_le_div_left (by omega) (by omega)
      omega
/-- where a remainder is left, the quotient is not at the edge -/
theorem tdiv_in (a b : Int) (ha : Fit a) (hm : a.tmod b ≠ 0) : -9223372036854775807 ≤ a.tdiv b ∧ a.tdiv b ≤ 9223372036854775806 := by
  unfold Fit at ha
  have h1 : (a.tdiv b).natAbs = a.natAbs / b.natAbs := Int.natAbs_tdiv a b
  have hb0 : b = 0 → a.tdiv b = 0 := fun h => by subst h; simp
  by_cases hb : b = 0
  · rw [hb0 hb]; omega
  · by_cases hb1 : b = -1
    · subst hb1; rw [Int.tmod_neg, Int.tmod_one] at hm; exact absurd rfl hm
    · by_cases hb2 : b = 1
      · subst hb2; rw [Int.tmod_one] at hm; exact absurd rfl hm
      · have h3 : a.natAbs / b.natAbs ≤ a.natAbs / 2 := Nat.div_le_div_left (by omega) (by omega)
        omega
theorem tmod_in (a b : Int) (ha : Fit a) (hb : Fit b) (h0 : b ≠ 0) : -9223372036854775808 ≤ a.tmod b ∧ a.tmod b ≤ 9223372036854775807 := by
  obtain ⟨_, h2, h3, h4, h5⟩ := tmod_bd a b
  unfold Fit at *; omega
theorem md_in (a b : Int) (ha : Fit a) (hb : Fit b) (h0 : b ≠ 0) (hs : decide (a.tmod b < 0) ≠ decide (b < 0)) : -9223372036854775808 ≤ a.tmod b + b ∧ a.tmod b + b ≤ 9223372036854775807 := by
  obtain ⟨_, h2, h3, h4, h5⟩ := tmod_bd a b
  unfold Fit at *
  by_cases ha : a.tmod b < 0 <;> by_cases hb' : b < 0 <;> simp [ha, hb'] at hs <;> omega
theorem sq_mono {a b : Int} (h0 : 0 ≤ a) (h : a ≤ b) : a * a ≤ b * b := Int.mul_le_mul h h h0 (by omega)
theorem root_lt {a b n : Int} (h1 : a * a ≤ n) (hb : 0 ≤ b) (h2 : n < (b + 1) * (b + 1)) : a ≤ b := by
  rcases Int.lt_or_le b a with h | h
  · have := sq_mono (a := b + 1) (b := a) (by omega) (by omega); omega
  · exact h
theorem root_uniq {a b n : Int} (ha : 0 ≤ a) (h1 : a * a ≤ n) (h2 : n < (a + 1) * (a + 1)) (hb : 0 ≤ b) (h3 : b * b ≤ n) (h4 : n < (b + 1) * (b + 1)) : a = b := by
  have := root_lt h1 hb h4
  have := root_lt h3 ha h2
  omega
/-- the invariant: j more rounds; the bit is 2^j / 2 -/
def RInv (n r b : Int) (j : Nat) : Prop := j ≤ 32 ∧ b = (((2 ^ j : Nat) / 2 : Nat) : Int) ∧ 0 ≤ r ∧ r ≤ 3037000499 ∧ r * r ≤ n ∧ n < (r + (2 ^ j : Nat)) * (r + (2 ^ j : Nat))
theorem RInv.start {n : Int} (h0 : 0 ≤ n) (h1 : n ≤ 9223372036854775807) : RInv n 0 2147483648 32 := by
  refine ⟨Nat.le_refl _, rfl, by omega, by omega, by omega, ?_⟩
  show n < (0 + 4294967296) * (0 + 4294967296)
  omega
theorem RInv.bit_pos {n r b : Int} {j : Nat} (h : RInv n r b j) : (0 < b ↔ 0 < j) ∧ 0 ≤ b ∧ b ≤ 2147483648 := by
  obtain ⟨hj, rfl, _⟩ := h
  rcases j with _ | j
  · simp
  · have h2 : 2 ^ (j + 1) / 2 = 2 ^ j := by rw [Nat.pow_succ]; omega
    have h3 : 0 < 2 ^ j := Nat.pow_pos (by omega)
    have h4 : 2 ^ j ≤ 2 ^ 31 := Nat.pow_le_pow_right (by omega) (by omega)
    rw [h2]; omega
theorem RInv.done {n r b : Int} {j : Nat} (h : RInv n r b j) (hb : ¬ 0 < b) : 0 ≤ r ∧ r ≤ 3037000499 ∧ r * r ≤ n ∧ n < (r + 1) * (r + 1) := by
  have := h.bit_pos
  obtain rfl : j = 0 := by omega
  obtain ⟨_, _, h1, h2, h3, h4⟩ := h
  exact ⟨h1, h2, h3, by simpa using h4⟩
theorem RInv.half {n r b : Int} {j : Nat} (h : RInv n r b j) (hb : 0 < b) : ∃ k, j = k + 1 ∧ b = ((2 ^ k : Nat) : Int) ∧ b / 2 = (((2 ^ k : Nat) / 2 : Nat) : Int) := by
  have := h.bit_pos
  obtain ⟨_, rfl, _⟩ := h
  rcases j with _ | j
  · omega
  · have h2 : 2 ^ (j + 1) / 2 = 2 ^ j := by rw [Nat.pow_succ]; omega
    exact ⟨j, rfl, by rw [h2], by rw [h2]; omega⟩
theorem RInv.yes {n r b : Int} {j : Nat} (h : RInv n r b j) (hb : 0 < b) (hs : r + b ≤ 3037000499) (hq : (r + b) * (r + b) ≤ n) : RInv n (r + b) (b / 2) (j - 1) := by
  obtain ⟨k, rfl, e, e2⟩ := h.half hb
  obtain ⟨hj, _, h1, h2, h3, h4⟩ := h
  refine ⟨by omega, by rw [e2]; rfl, by omega, hs, hq, ?_⟩
  have : r + b + (2 ^ (k + 1 - 1) : Nat) = r + (2 ^ (k + 1) : Nat) := by rw [e, Nat.pow_succ, Nat.add_sub_cancel]; omega
  rw [this]; exact h4
theorem RInv.no {n r b : Int} {j : Nat} (h : RInv n r b j) (hb : 0 < b) (hn : n ≤ 9223372036854775807) (hq : r + b ≤ 3037000499 → ¬ (r + b) * (r + b) ≤ n) : RInv n r (b / 2) (j - 1) := by
  obtain ⟨k, rfl, e, e2⟩ := h.half hb
  obtain ⟨hj, _, h1, h2, h3, h4⟩ := h
  refine ⟨by omega, by rw [e2]; rfl, h1, h2, h3, ?_⟩
  show n < (r + ((2 ^ k : Nat) : Int)) * (r + ((2 ^ k : Nat) : Int))
  rw [← e]
  rcases Int.lt_or_le 3037000499 (r + b) with h | h
  · have := sq_mono (a := 3037000500) (b := r + b) (by omega) (by omega); omega
  · have := hq h; omega
theorem RInv.sq_bd {r b : Int} (h0 : 0 ≤ r + b) (hs : r + b ≤ 3037000499) : 0 ≤ (r + b) * (r + b) ∧ (r + b) * (r + b) ≤ 9223372036854775807 := by
  have := sq_mono h0 hs
  have := sq_mono (a := 0) (b := r + b) (by omega) h0
  omega
-- gcd
theorem gcd_step {a b : Int} (ha : 0 ≤ a) (hb : 0 ≤ b) : Int.gcd b (a % b) = Int.gcd a b := by
  obtain ⟨m, rfl⟩ := Int.eq_ofNat_of_zero_le ha
  obtain ⟨n, rfl⟩ := Int.eq_ofNat_of_zero_le hb
  show Nat.gcd n (m % n) = Nat.gcd m n
  rw [Nat.gcd_comm n, Nat.gcd_comm m, ← Nat.gcd_rec]
-- mul
theorem natAbs_mul_cases (a b : Int) : a * b = if decide (a < 0) ≠ decide (b < 0) then - ((a.natAbs * b.natAbs : Nat) : Int) else ((a.natAbs * b.natAbs : Nat) : Int) := by
  have h := Int.natAbs_mul a b
  rw [← h]
  by_cases ha : a < 0 <;> by_cases hb : b < 0 <;> simp only [ha, hb]
  · have := Int.mul_pos_of_neg_of_neg ha hb; simp; omega
  · have := Int.mul_nonpos_of_nonpos_of_nonneg (a := a) (b := b) (by omega) (by omega); simp; omega
  · have := Int.mul_nonpos_of_nonneg_of_nonpos (a := a) (b := b) (by omega) (by omega); simp; omega
  · have := Int.mul_nonneg (a := a) (b := b) (by omega) (by omega); simp; omega

theorem pow_natAbs (a : Int) (k : Nat) : (a ^ k).natAbs = a.natAbs ^ k := Int.natAbs_pow a k
theorem pow_more {a : Int} {k m : Nat} (ha : 2 ≤ a.natAbs) (h : ¬ Fit (a ^ k)) (hm : k ≤ m) : ¬ Fit (a ^ m) := by
  rcases Nat.eq_or_lt_of_le hm with rfl | hm
  · exact h
  · have e : m = (m - k - 1) + 1 + k := by omega
    have h1 : 9223372036854775808 ≤ (a ^ k).natAbs := by unfold Fit at h; omega
    have h2 : (a ^ m).natAbs = a.natAbs ^ (m - k - 1) * a.natAbs * (a ^ k).natAbs := by
      rw [pow_natAbs, pow_natAbs, ← Nat.pow_succ, ← Nat.pow_add]; congr 1
    have h3 : 1 ≤ a.natAbs ^ (m - k - 1) := Nat.one_le_pow _ _ (by omega)
    have h4 : 1 * 2 ≤ a.natAbs ^ (m - k - 1) * a.natAbs := Nat.mul_le_mul h3 ha
    have h5 : 2 * 9223372036854775808 ≤ (a ^ m).natAbs := by rw [h2]; exact Nat.mul_le_mul h4 h1
    unfold Fit; omega
theorem pow_less {a : Int} {k : Nat} (ha : 2 ≤ a.natAbs) (h : Fit (a ^ (k + 1))) : Fit (a ^ k) := by
  by_cases hk : Fit (a ^ k)
  · exact hk
  · exact absurd h (pow_more ha hk (by omega))
theorem zero_pow_pos {n : Nat} (h : 0 < n) : (0 : Int) ^ n = 0 := Int.zero_pow (by omega)
theorem one_pow' (n : Nat) : (1 : Int) ^ n = 1 := Int.one_pow
theorem neg_one_pow (n : Nat) : (-1 : Int) ^ n = if n % 2 = 1 then -1 else 1 := by
  induction n with
  | zero => rfl
  | succ n ih => rw [Int.pow_succ, ih]; by_cases h : n % 2 = 1 <;> simp [h] <;> omega
def powV (a n : Int) : Int := if n < 0 then 0 else if Fit (a ^ n.toNat) then a ^ n.toNat else 0
def powB (a n : Int) : Bool := if n < 0 then false else decide (Fit (a ^ n.toNat))
theorem small_two {a : Int} (h0 : a ≠ 0) (h1 : a ≠ 1) (h2 : a ≠ -1) : 2 ≤ a.natAbs := by omega
-- the step law: Fit (a^(n+1)) -> Fit (a^n), always, for a power
theorem pow_less' {a : Int} {k : Nat} (h : Fit (a ^ (k + 1))) : Fit (a ^ k) := by
  by_cases h0 : a = 0
  · subst h0
    rcases k with _ | k
    · simp [Fit]
    · rw [zero_pow_pos (by omega)]; simp [Fit]
  · by_cases h1 : a = 1
    · subst h1; rw [one_pow']; simp [Fit]
    · by_cases h2 : a = -1
      · subst h2; rw [neg_one_pow]; split <;> simp [Fit]
      · exact pow_less (small_two h0 h1 h2) h
end Go.Proofs.Ytegfchjnkkobcaa
