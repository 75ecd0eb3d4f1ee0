/- Contracts of the reference's products. -/
import Derived.Test.YtegfchjnkkobcaaCMul
import Derived.Laws.BitsAllLaws
namespace Go.Proofs.Ytegfchjnkkobcaa
open Go.RowKit
theorem wraps_u64_64 (n : Int) (h₀ : 0 ≤ n) (h₁ : n < 2 ^ 64) : IntKind.u64.wrap n = n := by rw [IntKind.wrap_u64]; omega
theorem mask63 (l : Int) (h0 : 0 ≤ l) (h : l < 9223372036854775808) : wrap64 (-wrap64 (bits .and .u64 l 9223372036854775807)) = -l := by
  have := bits_mask .u64 64 (by decide) wraps_u64_64 63 (by decide) l h0 (by omega)
  have e : bits .and .u64 l 9223372036854775807 = l % 9223372036854775808 := this
  rw [e]; unfold wrap64; omega
/-- the number with a sign and a magnitude -/
def sg (neg : Bool) (l : Int) : Int := if neg then -l else l
def SignedEnd (neg : Bool) (l : Int) (w : World) (e : Ending) (w' : World) : Prop := ∃ v, e = .returned (.tuple #[.int .i64 v, .bool (fitB (sg neg l))]) ∧ (Fit (sg neg l) → v = sg neg l) ∧ w = w'
theorem signed_any (neg : Bool) (l : Int) (h0 : 0 ≤ l) (h1 : l < 18446744073709551616) (w : World) :
    Calls Try.prog 39 #[.bool neg, .int .u64 l] w (SignedEnd neg l w) := by
  cases neg
  · by_cases h : l < 9223372036854775808
    · have hf : Fit (sg false l) := by simp [Fit, sg]; omega
      have H := hide hf
      clear hf
      go_enter Try.func39, Try.ntmps39
      go_wp2
      go_ret2
      exact ⟨_, by rw [fitB_yes H.out]; rfl, fun _ => rfl, rfl⟩
    · have hf : ¬ Fit (sg false l) := by simp [Fit, sg]; omega
      have H := hide hf
      clear hf
      go_enter Try.func39, Try.ntmps39
      go_wp2
      go_ret2
      exact ⟨_, by rw [fitB_no H.out]; rfl, fun h => absurd h H.out, rfl⟩
  · rcases (show l < 9223372036854775808 ∨ l = 9223372036854775808 ∨ 9223372036854775808 < l by omega) with h | h | h
    · have hf : Fit (sg true l) := by simp [Fit, sg]; omega
      have H := hide hf
      clear hf
      have hne : (l == 9223372036854775808) = false := by simp; omega
      have hd : decide (l < 9223372036854775808) = true := by simp; omega
      go_enter Try.func39, Try.ntmps39
      go_wp2
      go_ret2
      exact ⟨_, by rw [fitB_yes H.out]; rfl, fun _ => mask63 l h0 h, rfl⟩
    · have hf : Fit (sg true l) := by simp [Fit, sg]; omega
      have H := hide hf
      have HL := hide h
      clear hf h h0 h1
      have hne : (l == 9223372036854775808) = true := by simpa using HL.out
      go_enter Try.func39, Try.ntmps39
      go_wp2
      go_ret2
      exact ⟨_, by rw [fitB_yes H.out]; rfl, fun _ => by rw [HL.out]; rfl, rfl⟩
    · have hf : ¬ Fit (sg true l) := by simp [Fit, sg]; omega
      have H := hide hf
      clear hf
      have hne : (l == 9223372036854775808) = false := by simp; omega
      have hd : decide (l < 9223372036854775808) = false := by simp; omega
      go_enter Try.func39, Try.ntmps39
      go_wp2
      go_ret2
      exact ⟨_, by rw [fitB_no H.out]; rfl, fun h => absurd h H.out, rfl⟩
def fitR (n : Int) (ok : Bool) : Int := if ok then n else 0
theorem close {p v q : Int} (h : q = p) (hv : Fit q → v = q) : Ending.returned (.tuple #[.int .i64 (fitR v (fitB q)), .bool (fitB q)]) = .returned (.tuple #[.int .i64 (fitV p), .bool (fitB p)]) := by
  subst h
  by_cases h : Fit q
  · rw [fitV_yes h, fitB_yes h, hv h]; rfl
  · rw [fitV_no h, fitB_no h]; rfl
theorem fit_any (n : Int) (ok : Bool) (w : World) : Calls Try.prog 38 #[.int .i64 n, .bool ok] w fun e w' => e = .returned (.tuple #[.int .i64 (fitR n ok), .bool ok]) ∧ w = w' := by
  cases ok
  all_goals
    go_enter Try.func38, Try.ntmps38
    go_wp2
    go_ret2
    exact ⟨rfl, rfl⟩
theorem rmul_any (a b : Int) (ha : Fit a) (hb : Fit b) (w : World) :
    Calls Try.prog 31 #[.int .i64 a, .int .i64 b] w fun e w' => e = .returned (.tuple #[.int .i64 (fitV (a * b)), .bool (fitB (a * b))]) ∧ w = w' := by
  have hm := natAbs_mul_cases a b
  have hx := natAbs_fit ha
  have hy := natAbs_fit hb
  have cs := abs_any a ha
  have ct := abs_any b hb
  generalize a.natAbs = x at *
  generalize b.natAbs = y at *
  have cm := mul64_any x y hx hy
  have hl := loN_lt x y
  have cg : ∀ (s : Bool) (w : World), Calls Try.prog 39 #[.bool s, .int .u64 (loN x y : Nat)] w (SignedEnd s (loN x y : Nat) w) := fun s w => signed_any s _ (by omega) (by omega) w
  have HS := hide cs
  have HT := hide ct
  have HM := hide cm
  have HG := hide cg
  clear cs ct cm cg
  generalize a * b = p at *
  rcases two ((hiN x y : Int) != 0) with h1 | h1
  · have e1 := hiN_pos x y (by simpa using h1)
    have hp : ¬ Fit p := by
      unfold Fit; rw [hm]; split <;> omega
    rw [fitV_no hp, fitB_no hp]
    clear ha hb hm hp e1 HG hl
    go_enter Try.func31, Try.ntmps31
    go_wp2_with fail
    refine (HS.out _).mono ?_; rintro e1 w1 ⟨rfl, rfl⟩
    go_wp2_with fail
    refine (HT.out _).mono ?_; rintro e1 w1 ⟨rfl, rfl⟩
    go_wp2_with fail
    refine (HM.out _).mono ?_; rintro e1 w1 ⟨rfl, rfl⟩
    go_wp2
    go_ret2
    exact ⟨rfl, rfl⟩
  · have e1 := hiN_zero x y (by simpa using h1)
    rw [← e1] at hm
    clear e1
    have hs : ∀ s : Bool, (s = (decide (a < 0) != decide (b < 0) && ((loN x y : Int) != 0))) → sg s (loN x y : Nat) = p := by
      rintro s rfl
      rw [hm]
      rcases two (decide (a < 0)) with h4 | h4 <;> rcases two (decide (b < 0)) with h5 | h5 <;> rcases two ((loN x y : Int) != 0) with h7 | h7 <;> simp [sg, h4, h5, h7]
      all_goals simp at h7; omega
    have HP := hide hs
    clear hs hm ha hb
    generalize loN x y = l at *
    rcases two (decide (a < 0)) with h4 | h4 <;> rcases two (decide (b < 0)) with h5 | h5 <;> rcases two ((l : Int) != 0) with h7 | h7
    all_goals
      go_enter Try.func31, Try.ntmps31
      go_wp2_with fail
      refine (HS.out _).mono ?_; rintro e1 w1 ⟨rfl, rfl⟩
      go_wp2_with fail
      refine (HT.out _).mono ?_; rintro e1 w1 ⟨rfl, rfl⟩
      go_wp2_with fail
      refine (HM.out _).mono ?_; rintro e1 w1 ⟨rfl, rfl⟩
      go_wp2_with fail
      refine (HG.out _ _).mono ?_; rintro e1 w1 ⟨v, rfl, hv, rfl⟩
      have HV := hide hv
      clear hv
      go_wp2_with fail
      refine (fit_any _ _ _).mono ?_; rintro e1 w1 ⟨rfl, rfl⟩
      go_wp2
      go_ret2
      exact ⟨close (HP.out _ (by rw [h4, h5, h7]; rfl)) HV.out, rfl⟩
end Go.Proofs.Ytegfchjnkkobcaa
