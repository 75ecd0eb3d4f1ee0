/- The codes of numbers: plain mathematics, no program in sight. -/
import Derived.IntWalk
namespace Go.Proofs.Ytlcgpldngooekaa
def zig (n : Int) : Int := if n < 0 then -2 * n - 1 else 2 * n
def unzig (u : Int) : Int := if u % 2 = 1 then - (u / 2) - 1 else u / 2
theorem unzig_zig (n : Int) : unzig (zig n) = n := by unfold unzig zig; split <;> split <;> omega
theorem zig_unzig (u : Int) : 0 ≤ u → zig (unzig u) = u := by unfold unzig zig; intro h; split <;> split <;> omega
theorem zig_bd {n : Int} (h : -9223372036854775808 ≤ n ∧ n ≤ 9223372036854775807) : 0 ≤ zig n ∧ zig n ≤ 18446744073709551615 := by unfold zig; split <;> omega
theorem unzig_bd {u : Int} (h : 0 ≤ u ∧ u ≤ 18446744073709551615) : -9223372036854775808 ≤ unzig u ∧ unzig u ≤ 9223372036854775807 := by unfold unzig; split <;> omega
/-- the bytes of a number below 128^(f+1) -/
def codeF : Nat → Int → List Int
  | 0, u => [u]
  | f + 1, u => if u < 128 then [u] else (u % 128 + 128) :: codeF f (u / 128)
def rdF : Nat → Nat → Int → List Int → Option (Int × Nat)
  | 0, _, _, _ => none
  | _ + 1, _, _, [] => none
  | f + 1, i, u, x :: r =>
    if f = 0 ∧ 1 < x then none
    else if 128 ≤ x then rdF f (i + 1) (u + x % 128 * 128 ^ i) r
    else if x = 0 ∧ 0 < i then none
    else some (u + x * 128 ^ i, i + 1)
theorem codeF_len : ∀ f u, (codeF f u).length ≤ f + 1 ∧ 1 ≤ (codeF f u).length
  | 0, u => by simp [codeF]
  | f + 1, u => by
    unfold codeF; split
    · simp
    · have := codeF_len f (u / 128); simp; omega
theorem codeF_bytes : ∀ f u, 0 ≤ u → u < 128 ^ (f + 1) → ∀ x ∈ codeF f u, 0 ≤ x ∧ x ≤ 255
  | 0, u, h0, h1, x, hx => by simp [codeF] at hx; subst hx; simp at h1; omega
  | f + 1, u, h0, h1, x, hx => by
    unfold codeF at hx; split at hx
    · simp at hx; subst hx; omega
    · have h2 : u / 128 < 128 ^ (f + 1) := by
        rw [Int.pow_succ] at h1; omega
      rcases List.mem_cons.1 hx with rfl | hx
      · omega
      · exact codeF_bytes f (u / 128) (by omega) h2 x hx
/-- what is written is read: f bytes more to come, the last of them 0 or 1 -/
theorem rd_code : ∀ (f i : Nat) (u0 u : Int) (rest : List Int), 0 ≤ u → (0 < i → 0 < u) → u < 2 * 128 ^ f → rdF (f + 1) i u0 (codeF f u ++ rest) = some (u0 + u * 128 ^ i, i + (codeF f u).length)
  | 0, i, u0, u, rest, h0, hi, h1 => by
    have h1' : u < 2 := by simpa using h1
    have hn : ¬ (u = 0 ∧ 0 < i) := by omega
    have hn2 : ¬ (1 < u) := by omega
    have hn3 : ¬ (128 ≤ u) := by omega
    simp [codeF, rdF, hn, hn2, hn3]
  | f + 1, i, u0, u, rest, h0, hi, h1 => by
    unfold codeF
    by_cases hu : u < 128
    · have hn : ¬ (u = 0 ∧ 0 < i) := by omega
      have hn3 : ¬ (128 ≤ u) := by omega
      simp [rdF, hn, hn3, hu]
    · have h2 : u / 128 < 2 * 128 ^ f := by rw [Int.pow_succ] at h1; omega
      have ih := rd_code f (i + 1) (u0 + (u % 128) * 128 ^ i) (u / 128) rest (by omega) (by omega) h2
      have hm : (u % 128 + 128) % 128 = u % 128 := by omega
      have h3 : (128 : Int) ≤ u % 128 + 128 := by omega
      rw [if_neg hu]
      simp only [List.cons_append, rdF, h3, hm, if_true, Nat.add_one_ne_zero, false_and, if_false, List.length_cons]
      rw [ih]
      congr 2
      · have e : u = 128 * (u / 128) + u % 128 := by omega
        have e2 : u / 128 * 128 ^ (i + 1) = 128 * (u / 128) * 128 ^ i := by rw [Int.pow_succ, Int.mul_comm (128 ^ i) 128, ← Int.mul_assoc, Int.mul_comm (u / 128) 128]
        rw [e2]
        generalize hp : (128 : Int) ^ i = p
        generalize u / 128 = q at *
        generalize u % 128 = r at *
        subst e
        rw [Int.add_mul]; omega
      · omega
theorem rd_only : ∀ (f i : Nat) (u0 : Int) (l : List Int) (v : Int) (k : Nat), (∀ x ∈ l, 0 ≤ x ∧ x ≤ 255) → rdF (f + 1) i u0 l = some (v, k) →
    ∃ (t : Int) (m : Nat), v = u0 + t * 128 ^ i ∧ k = i + m ∧ 1 ≤ m ∧ m ≤ l.length ∧ 0 ≤ t ∧ (0 < i → 0 < t) ∧ t < 2 * 128 ^ f ∧ codeF f t = l.take m
  | f, i, u0, [], v, k, hl, h => by simp [rdF] at h
  | 0, i, u0, x :: r, v, k, hl, h => by
    have hx := hl x List.mem_cons_self
    have h01 : ¬ 1 < x := fun c => by simp [rdF, c] at h
    have h128 : ¬ 128 ≤ x := by omega
    have hz : ¬ (x = 0 ∧ 0 < i) := fun c => by simp [rdF, c] at h
    simp [rdF, h01, h128, hz] at h
    exact ⟨x, 1, h.1.symm, h.2.symm, by omega, by simp, hx.1, by omega, by simp; omega, by simp [codeF]⟩
  | f + 1, i, u0, x :: r, v, k, hl, h => by
    have hx := hl x List.mem_cons_self
    have hr : ∀ y ∈ r, 0 ≤ y ∧ y ≤ 255 := fun y hy => hl y (List.mem_cons_of_mem _ hy)
    have hp : (1 : Int) ≤ 128 ^ f := by have := Int.pow_pos (n := 128) (m := f) (by omega); omega
    rw [rdF] at h
    split at h
    · simp at h
    · split at h
      · obtain ⟨t, m, e1, e2, h1, h2, h3, h4, h5, h6⟩ := rd_only f (i + 1) _ r v k hr h
        have h4' := h4 (by omega)
        refine ⟨t * 128 + x % 128, m + 1, ?_, by omega, by omega, by simp; omega, by omega, by omega, ?_, ?_⟩
        · rw [e1, Int.pow_succ, Int.add_mul, Int.mul_assoc t 128, Int.mul_comm 128 (128 ^ i)]; omega
        · rw [Int.pow_succ]; omega
        · unfold codeF
          rw [if_neg (by omega)]
          have a1 : (t * 128 + x % 128) % 128 + 128 = x := by omega
          have a2 : (t * 128 + x % 128) / 128 = t := by omega
          rw [a1, a2, h6]; simp
      · split at h
        · simp at h
        · simp only [Option.some.injEq, Prod.mk.injEq] at h
          refine ⟨x, 1, h.1.symm, h.2.symm, by omega, by simp, hx.1, by omega, ?_, ?_⟩
          · rw [Int.pow_succ]; omega
          · unfold codeF; rw [if_pos (by omega)]; simp
/-- what is read at a place -/
def readV (l : List Int) (a : Int) : Int × Int × Bool :=
  if a < 0 ∨ (l.length : Int) < a then (0, 0, false)
  else match rdF 10 0 0 (l.drop a.toNat) with
    | none => (0, 0, false)
    | some (u, k) => (unzig u, a + k, true)
theorem readV_out {l : List Int} {a : Int} (h : a < 0 ∨ (l.length : Int) < a) : readV l a = (0, 0, false) := if_pos h
theorem readV_none {l : List Int} {a : Nat} (ha : a ≤ l.length) (h : rdF 10 0 0 (l.drop a) = none) : readV l a = (0, 0, false) := by
  unfold readV; rw [if_neg (by omega), Int.toNat_natCast, h]
theorem readV_some {l : List Int} {a : Nat} {u : Int} {k : Nat} (ha : a ≤ l.length) (h : rdF 10 0 0 (l.drop a) = some (u, k)) : readV l a = (unzig u, (a : Int) + k, true) := by
  unfold readV; rw [if_neg (by omega), Int.toNat_natCast, h]
end Go.Proofs.Ytlcgpldngooekaa
