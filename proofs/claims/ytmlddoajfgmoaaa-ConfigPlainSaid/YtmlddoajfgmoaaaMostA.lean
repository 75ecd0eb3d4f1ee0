/- The greatest numbers of records of a synopsis: the program's functions. -/
import Derived.Test.YtmlddoajfgmoaaaBits
import Derived.Test.YtmlddoajfgmoaaaRng
namespace Go.Proofs.Ytmlddoajfgmoaaa
open Go.RowKit
set_option linter.unusedVariables false
/-- a product of two numbers in ranges -/
theorem mul_bd {a b A B : Int} (ha : 0 ≤ a) (hA : a ≤ A) (hb : 0 ≤ b) (hB : b ≤ B) : 0 ≤ a * b ∧ a * b ≤ A * B :=
  ⟨Int.mul_nonneg ha hb, Int.mul_le_mul hA hB hb (by omega)⟩
def NumEnd (n : Int) (w : World) (e : Ending) (w' : World) : Prop := e = .returned (.int .i64 n) ∧ w = w'
def fV (agg cap : Int) : Int := if agg = 2 then cap * 4096 else if agg = 3 then cap * 16777216 else if agg = 4 then 8192 else cap
def most10 (k cap : Int) : Int := (k + 1) * bitsV cap
def most13 (agg k cap : Int) : Int := 2 * k * bitsV (fV agg cap) + 2
def most14 (k cap : Int) : Int := 12 * k * (3 * bitsV cap + 24) + 4
def sizQ (k cap : Int) : Int := 2 * k * (bitsV cap + 2)
def most23 (k cap : Int) : Int := (2 * k + 1) * bitsV cap * (sizQ k cap + 1)
theorem good31 (k cap : Int) (w : World) (hk : 1 ≤ k ∧ k ≤ 64) (hc : 1 ≤ cap ∧ cap ≤ 65536) : Calls Try.prog 31 #[.int .i64 1, .int .i64 k, .int .i64 cap, .int .i64 0] w (BoolEnd true w) := by
  obtain ⟨h1, h2⟩ := hk
  obtain ⟨h3, h4⟩ := hc
  go_enter Try.func31, Try.ntmps31
  go_wp2
  go_ret
  exact ⟨rfl, rfl⟩
theorem good39 (k cap : Int) (w : World) (hk : 1 ≤ k ∧ k ≤ 64) (hc : 1 ≤ cap ∧ cap ≤ 65536) : Calls Try.prog 39 #[.int .i64 1, .int .i64 k, .int .i64 cap, .int .i64 0] w (BoolEnd true w) := by
  obtain ⟨h1, h2⟩ := hk
  obtain ⟨h3, h4⟩ := hc
  go_enter Try.func39, Try.ntmps39
  go_wp2
  go_ret
  exact ⟨rfl, rfl⟩
theorem good30 (agg k cap : Int) (w : World) (ha : 1 ≤ agg ∧ agg ≤ 4) (hk : 1 ≤ k ∧ k ≤ 64) (hc : 1 ≤ cap ∧ cap ≤ 65536) : Calls Try.prog 30 #[.int .i64 agg, .int .i64 1, .int .i64 k, .int .i64 cap, .int .i64 0] w (BoolEnd true w) := by
  have C31 := hide (fun w0 => good31 k cap w0 hk hc)
  unfold BoolEnd at C31
  obtain ⟨h1, h2⟩ := ha
  clear hk hc
  go_enter Try.func30, Try.ntmps30
  go_wp2_with (go_at_call 31; refine (C31.out _).mono ?_; rintro e w1 ⟨rfl, rfl⟩)
  go_ret
  exact ⟨rfl, rfl⟩
theorem most18 (k cap : Int) (w : World) (hk : 1 ≤ k ∧ k ≤ 64) (hc : 1 ≤ cap ∧ cap ≤ 65536) : Calls Try.prog 18 #[.int .i64 k, .int .i64 cap] w (NumEnd (most10 k cap) w) := by
  obtain ⟨h1, h2⟩ := hk
  obtain ⟨h3, h4⟩ := hc
  have C29 := hide (fun w0 => bits_any cap (by omega) w0)
  have hb := bitsV_bd (n := cap) (by omega)
  have hm := mul_bd (a := k + 1) (b := bitsV cap) (A := 65) (B := 64) (by omega) (by omega) hb.1 hb.2
  unfold most10
  generalize bitsV cap = b at *
  go_enter Try.func18, Try.ntmps18
  go_wp2_with (first | (go_at_call 29; refine (C29.out _).mono ?_; rintro e w1 ⟨rfl, rfl⟩))
  go_ret
  exact ⟨rfl, rfl⟩
theorem most19_1 (k cap : Int) (w : World) (hk : 1 ≤ k ∧ k ≤ 64) (hc : 1 ≤ cap ∧ cap ≤ 65536) : Calls Try.prog 19 #[.int .i64 1, .int .i64 k, .int .i64 cap] w (NumEnd (most13 1 k cap) w) := by
  obtain ⟨h1, h2⟩ := hk
  obtain ⟨h3, h4⟩ := hc
  have C29 := hide (fun w0 => bits_any (cap) (by omega) w0)
  have CG := hide (fun w0 => good30 1 k cap w0 (by omega) (by omega) (by omega))
  unfold BoolEnd at CG
  have hb := bitsV_bd (n := cap) (by omega)
  have hm := mul_bd (a := 2 * k) (b := bitsV (cap)) (A := 128) (B := 64) (by omega) (by omega) hb.1 hb.2
  have hf : fV 1 cap = cap := rfl
  unfold most13
  rw [hf]
  generalize bitsV (cap) = b at *
  clear hf
  go_enter Try.func19, Try.ntmps19
  go_wp2_with (first | (go_at_call 29; refine (C29.out _).mono ?_; rintro e w1 ⟨rfl, rfl⟩) | (go_at_call 30; refine (CG.out _).mono ?_; rintro e w1 ⟨rfl, rfl⟩))
  go_ret
  exact ⟨rfl, rfl⟩
theorem most19_2 (k cap : Int) (w : World) (hk : 1 ≤ k ∧ k ≤ 64) (hc : 1 ≤ cap ∧ cap ≤ 65536) : Calls Try.prog 19 #[.int .i64 2, .int .i64 k, .int .i64 cap] w (NumEnd (most13 2 k cap) w) := by
  obtain ⟨h1, h2⟩ := hk
  obtain ⟨h3, h4⟩ := hc
  have C29 := hide (fun w0 => bits_any (cap * 4096) (by omega) w0)
  have CG := hide (fun w0 => good30 2 k cap w0 (by omega) (by omega) (by omega))
  unfold BoolEnd at CG
  have hb := bitsV_bd (n := cap * 4096) (by omega)
  have hm := mul_bd (a := 2 * k) (b := bitsV (cap * 4096)) (A := 128) (B := 64) (by omega) (by omega) hb.1 hb.2
  have hf : fV 2 cap = cap * 4096 := rfl
  unfold most13
  rw [hf]
  generalize bitsV (cap * 4096) = b at *
  clear hf
  go_enter Try.func19, Try.ntmps19
  go_wp2_with (first | (go_at_call 29; refine (C29.out _).mono ?_; rintro e w1 ⟨rfl, rfl⟩) | (go_at_call 30; refine (CG.out _).mono ?_; rintro e w1 ⟨rfl, rfl⟩))
  go_ret
  exact ⟨rfl, rfl⟩
theorem most19_3 (k cap : Int) (w : World) (hk : 1 ≤ k ∧ k ≤ 64) (hc : 1 ≤ cap ∧ cap ≤ 65536) : Calls Try.prog 19 #[.int .i64 3, .int .i64 k, .int .i64 cap] w (NumEnd (most13 3 k cap) w) := by
  obtain ⟨h1, h2⟩ := hk
  obtain ⟨h3, h4⟩ := hc
  have C29 := hide (fun w0 => bits_any (cap * 16777216) (by omega) w0)
  have CG := hide (fun w0 => good30 3 k cap w0 (by omega) (by omega) (by omega))
  unfold BoolEnd at CG
  have hb := bitsV_bd (n := cap * 16777216) (by omega)
  have hm := mul_bd (a := 2 * k) (b := bitsV (cap * 16777216)) (A := 128) (B := 64) (by omega) (by omega) hb.1 hb.2
  have hf : fV 3 cap = cap * 16777216 := rfl
  unfold most13
  rw [hf]
  generalize bitsV (cap * 16777216) = b at *
  clear hf
  go_enter Try.func19, Try.ntmps19
  go_wp2_with (first | (go_at_call 29; refine (C29.out _).mono ?_; rintro e w1 ⟨rfl, rfl⟩) | (go_at_call 30; refine (CG.out _).mono ?_; rintro e w1 ⟨rfl, rfl⟩))
  go_ret
  exact ⟨rfl, rfl⟩
theorem most19_4 (k cap : Int) (w : World) (hk : 1 ≤ k ∧ k ≤ 64) (hc : 1 ≤ cap ∧ cap ≤ 65536) : Calls Try.prog 19 #[.int .i64 4, .int .i64 k, .int .i64 cap] w (NumEnd (most13 4 k cap) w) := by
  obtain ⟨h1, h2⟩ := hk
  obtain ⟨h3, h4⟩ := hc
  have C29 := hide (fun w0 => bits_any (8192) (by omega) w0)
  have CG := hide (fun w0 => good30 4 k cap w0 (by omega) (by omega) (by omega))
  unfold BoolEnd at CG
  have hb := bitsV_bd (n := 8192) (by omega)
  have hm := mul_bd (a := 2 * k) (b := bitsV (8192)) (A := 128) (B := 64) (by omega) (by omega) hb.1 hb.2
  have hf : fV 4 cap = 8192 := rfl
  unfold most13
  rw [hf]
  generalize bitsV (8192) = b at *
  clear hf
  go_enter Try.func19, Try.ntmps19
  go_wp2_with (first | (go_at_call 29; refine (C29.out _).mono ?_; rintro e w1 ⟨rfl, rfl⟩) | (go_at_call 30; refine (CG.out _).mono ?_; rintro e w1 ⟨rfl, rfl⟩))
  go_ret
  exact ⟨rfl, rfl⟩
theorem most19 (agg k cap : Int) (w : World) (ha : 1 ≤ agg ∧ agg ≤ 4) (hk : 1 ≤ k ∧ k ≤ 64) (hc : 1 ≤ cap ∧ cap ≤ 65536) : Calls Try.prog 19 #[.int .i64 agg, .int .i64 k, .int .i64 cap] w (NumEnd (most13 agg k cap) w) := by
  rcases (show agg = 1 ∨ agg = 2 ∨ agg = 3 ∨ agg = 4 by omega) with rfl | rfl | rfl | rfl
  · exact most19_1 k cap w hk hc
  · exact most19_2 k cap w hk hc
  · exact most19_3 k cap w hk hc
  · exact most19_4 k cap w hk hc
theorem most20 (k cap : Int) (w : World) (hk : 1 ≤ k ∧ k ≤ 64) (hc : 1 ≤ cap ∧ cap ≤ 65536) : Calls Try.prog 20 #[.int .i64 k, .int .i64 cap] w (NumEnd (most14 k cap) w) := by
  obtain ⟨h1, h2⟩ := hk
  obtain ⟨h3, h4⟩ := hc
  have C29 := hide (fun w0 => bits_any cap (by omega) w0)
  have CG := hide (fun w0 => good31 k cap w0 (by omega) (by omega))
  unfold BoolEnd at CG
  have hb := bitsV_bd (n := cap) (by omega)
  have hm := mul_bd (a := 12 * k) (b := 3 * bitsV cap + 24) (A := 768) (B := 216) (by omega) (by omega) (by omega) (by omega)
  unfold most14
  generalize bitsV cap = b at *
  go_enter Try.func20, Try.ntmps20
  go_wp2_with (first | (go_at_call 29; refine (C29.out _).mono ?_; rintro e w1 ⟨rfl, rfl⟩) | (go_at_call 31; refine (CG.out _).mono ?_; rintro e w1 ⟨rfl, rfl⟩))
  go_ret
  exact ⟨rfl, rfl⟩
theorem size32 (k cap : Int) (w : World) (hk : 1 ≤ k ∧ k ≤ 64) (hc : 1 ≤ cap ∧ cap ≤ 65536) : Calls Try.prog 32 #[.int .i64 k, .int .i64 cap] w (NumEnd (sizQ k cap) w) := by
  obtain ⟨h1, h2⟩ := hk
  obtain ⟨h3, h4⟩ := hc
  have C29 := hide (fun w0 => bits_any cap (by omega) w0)
  have CG := hide (fun w0 => good39 k cap w0 (by omega) (by omega))
  unfold BoolEnd at CG
  have hb := bitsV_bd (n := cap) (by omega)
  have hm := mul_bd (a := 2 * k) (b := bitsV cap + 2) (A := 128) (B := 66) (by omega) (by omega) (by omega) (by omega)
  unfold sizQ
  generalize bitsV cap = b at *
  go_enter Try.func32, Try.ntmps32
  go_wp2_with (first | (go_at_call 29; refine (C29.out _).mono ?_; rintro e w1 ⟨rfl, rfl⟩) | (go_at_call 39; refine (CG.out _).mono ?_; rintro e w1 ⟨rfl, rfl⟩))
  go_ret
  exact ⟨rfl, rfl⟩
theorem most21 (k cap : Int) (w : World) (hk : 1 ≤ k ∧ k ≤ 64) (hc : 1 ≤ cap ∧ cap ≤ 65536) : Calls Try.prog 21 #[.int .i64 k, .int .i64 cap] w (NumEnd (most23 k cap) w) := by
  obtain ⟨h1, h2⟩ := hk
  obtain ⟨h3, h4⟩ := hc
  have C29 := hide (fun w0 => bits_any cap (by omega) w0)
  have CS := hide (fun w0 => size32 k cap w0 (by omega) (by omega))
  unfold NumEnd at CS
  have hb := bitsV_bd (n := cap) (by omega)
  have hs : 1 ≤ sizQ k cap ∧ sizQ k cap ≤ 8448 := by
    have a1 : 2 * 2 ≤ 2 * k * (bitsV cap + 2) := Int.mul_le_mul (by omega) (by omega) (by omega) (by omega)
    have a2 := (mul_bd (a := 2 * k) (b := bitsV cap + 2) (A := 128) (B := 66) (by omega) (by omega) (by omega) (by omega)).2
    unfold sizQ
    exact ⟨by omega, by omega⟩
  have hm := mul_bd (a := 2 * k + 1) (b := bitsV cap) (A := 129) (B := 64) (by omega) (by omega) hb.1 hb.2
  have hn := mul_bd (a := (2 * k + 1) * bitsV cap) (b := sizQ k cap + 1) (A := 8256) (B := 8449) (by omega) (by omega) (by omega) (by omega)
  have hz : ¬ sizQ k cap = 0 := by omega
  have hz2 : (sizQ k cap == 0) = false := by simpa using hz
  unfold most23
  generalize sizQ k cap = s at *
  generalize bitsV cap = b at *
  go_enter Try.func21, Try.ntmps21
  go_wp2_with (first | (go_at_call 29; refine (C29.out _).mono ?_; rintro e w1 ⟨rfl, rfl⟩) | (go_at_call 32; refine (CS.out _).mono ?_; rintro e w1 ⟨rfl, rfl⟩))
  go_ret
  exact ⟨rfl, rfl⟩
end Go.Proofs.Ytmlddoajfgmoaaa
