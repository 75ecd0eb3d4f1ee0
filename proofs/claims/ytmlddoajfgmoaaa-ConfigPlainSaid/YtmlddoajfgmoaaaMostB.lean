/- The greatest numbers of records of a synopsis: the reference's functions. -/
import Derived.Test.YtmlddoajfgmoaaaMostA
namespace Go.Proofs.Ytmlddoajfgmoaaa
open Go.RowKit
set_option linter.unusedVariables false
theorem most22 (k cap : Int) (w : World) (hk : 1 ≤ k ∧ k ≤ 64) (hc : 1 ≤ cap ∧ cap ≤ 65536) : Calls Try.prog 22 #[.int .i64 k, .int .i64 cap] w (NumEnd (most10 k cap) w) := by
  obtain ⟨h1, h2⟩ := hk
  obtain ⟨h3, h4⟩ := hc
  have C29 := hide (fun w0 => rbits_any cap (by omega) w0)
  have CK := hide (fun w0 => mayK10_yes k w0 (by omega))
  unfold BoolEnd at CK
  have hb := bitsV_bd (n := cap) (by omega)
  have hm := mul_bd (a := k + 1) (b := bitsV cap) (A := 65) (B := 64) (by omega) (by omega) hb.1 hb.2
  unfold most10
  generalize bitsV cap = b at *
  go_enter Try.func22, Try.ntmps22
  go_wp2_with (first | (go_at_call 34; refine (C29.out _).mono ?_; rintro e w1 ⟨rfl, rfl⟩) | (go_at_call 33; refine (CK.out _).mono ?_; rintro e w1 ⟨rfl, rfl⟩))
  go_ret
  exact ⟨rfl, rfl⟩
theorem most23r_1 (k cap : Int) (w : World) (hk : 1 ≤ k ∧ k ≤ 64) (hc : 1 ≤ cap ∧ cap ≤ 65536) : Calls Try.prog 23 #[.int .i64 1, .int .i64 k, .int .i64 cap] w (NumEnd (most13 1 k cap) w) := by
  obtain ⟨h1, h2⟩ := hk
  obtain ⟨h3, h4⟩ := hc
  have C29 := hide (fun w0 => rbits_any (cap) (by omega) w0)
  have CA := hide (fun w0 => mayAgg_yes 1 w0 (by omega))
  unfold BoolEnd at CA
  have CK := hide (fun w0 => mayK11_yes k w0 (by omega))
  unfold BoolEnd at CK
  have hb := bitsV_bd (n := cap) (by omega)
  have hm := mul_bd (a := 2 * k) (b := bitsV (cap)) (A := 128) (B := 64) (by omega) (by omega) hb.1 hb.2
  have hf : fV 1 cap = cap := rfl
  unfold most13
  rw [hf]
  generalize bitsV (cap) = b at *
  clear hf
  go_enter Try.func23, Try.ntmps23
  go_wp2_with (first | (go_at_call 34; refine (C29.out _).mono ?_; rintro e w1 ⟨rfl, rfl⟩) | (go_at_call 28; refine (CA.out _).mono ?_; rintro e w1 ⟨rfl, rfl⟩) | (go_at_call 27; refine (CK.out _).mono ?_; rintro e w1 ⟨rfl, rfl⟩))
  go_ret
  exact ⟨rfl, rfl⟩
theorem most23r_2 (k cap : Int) (w : World) (hk : 1 ≤ k ∧ k ≤ 64) (hc : 1 ≤ cap ∧ cap ≤ 65536) : Calls Try.prog 23 #[.int .i64 2, .int .i64 k, .int .i64 cap] w (NumEnd (most13 2 k cap) w) := by
  obtain ⟨h1, h2⟩ := hk
  obtain ⟨h3, h4⟩ := hc
  have C29 := hide (fun w0 => rbits_any (cap * 4096) (by omega) w0)
  have CA := hide (fun w0 => mayAgg_yes 2 w0 (by omega))
  unfold BoolEnd at CA
  have CK := hide (fun w0 => mayK11_yes k w0 (by omega))
  unfold BoolEnd at CK
  have hb := bitsV_bd (n := cap * 4096) (by omega)
  have hm := mul_bd (a := 2 * k) (b := bitsV (cap * 4096)) (A := 128) (B := 64) (by omega) (by omega) hb.1 hb.2
  have hf : fV 2 cap = cap * 4096 := rfl
  unfold most13
  rw [hf]
  generalize bitsV (cap * 4096) = b at *
  clear hf
  go_enter Try.func23, Try.ntmps23
  go_wp2_with (first | (go_at_call 34; refine (C29.out _).mono ?_; rintro e w1 ⟨rfl, rfl⟩) | (go_at_call 28; refine (CA.out _).mono ?_; rintro e w1 ⟨rfl, rfl⟩) | (go_at_call 27; refine (CK.out _).mono ?_; rintro e w1 ⟨rfl, rfl⟩))
  go_ret
  exact ⟨rfl, rfl⟩
theorem most23r_3 (k cap : Int) (w : World) (hk : 1 ≤ k ∧ k ≤ 64) (hc : 1 ≤ cap ∧ cap ≤ 65536) : Calls Try.prog 23 #[.int .i64 3, .int .i64 k, .int .i64 cap] w (NumEnd (most13 3 k cap) w) := by
  obtain ⟨h1, h2⟩ := hk
  obtain ⟨h3, h4⟩ := hc
  have C29 := hide (fun w0 => rbits_any (cap * 4096 * 4096) (by omega) w0)
  have he : bitsV (cap * 4096 * 4096) = bitsV (cap * 16777216) := congrArg bitsV (by omega)
  rw [he] at C29
  clear he
  have CA := hide (fun w0 => mayAgg_yes 3 w0 (by omega))
  unfold BoolEnd at CA
  have CK := hide (fun w0 => mayK11_yes k w0 (by omega))
  unfold BoolEnd at CK
  have hb := bitsV_bd (n := cap * 16777216) (by omega)
  have hm := mul_bd (a := 2 * k) (b := bitsV (cap * 16777216)) (A := 128) (B := 64) (by omega) (by omega) hb.1 hb.2
  have hf : fV 3 cap = cap * 16777216 := rfl
  unfold most13
  rw [hf]
  generalize bitsV (cap * 16777216) = b at *
  clear hf
  go_enter Try.func23, Try.ntmps23
  go_wp2_with (first | (go_at_call 34; refine (C29.out _).mono ?_; rintro e w1 ⟨rfl, rfl⟩) | (go_at_call 28; refine (CA.out _).mono ?_; rintro e w1 ⟨rfl, rfl⟩) | (go_at_call 27; refine (CK.out _).mono ?_; rintro e w1 ⟨rfl, rfl⟩))
  go_ret
  exact ⟨rfl, rfl⟩
theorem most23r_4 (k cap : Int) (w : World) (hk : 1 ≤ k ∧ k ≤ 64) (hc : 1 ≤ cap ∧ cap ≤ 65536) : Calls Try.prog 23 #[.int .i64 4, .int .i64 k, .int .i64 cap] w (NumEnd (most13 4 k cap) w) := by
  obtain ⟨h1, h2⟩ := hk
  obtain ⟨h3, h4⟩ := hc
  have C29 := hide (fun w0 => rbits_any (8192) (by omega) w0)
  have CA := hide (fun w0 => mayAgg_yes 4 w0 (by omega))
  unfold BoolEnd at CA
  have CK := hide (fun w0 => mayK11_yes k w0 (by omega))
  unfold BoolEnd at CK
  have hb := bitsV_bd (n := 8192) (by omega)
  have hm := mul_bd (a := 2 * k) (b := bitsV (8192)) (A := 128) (B := 64) (by omega) (by omega) hb.1 hb.2
  have hf : fV 4 cap = 8192 := rfl
  unfold most13
  rw [hf]
  generalize bitsV (8192) = b at *
  clear hf
  go_enter Try.func23, Try.ntmps23
  go_wp2_with (first | (go_at_call 34; refine (C29.out _).mono ?_; rintro e w1 ⟨rfl, rfl⟩) | (go_at_call 28; refine (CA.out _).mono ?_; rintro e w1 ⟨rfl, rfl⟩) | (go_at_call 27; refine (CK.out _).mono ?_; rintro e w1 ⟨rfl, rfl⟩))
  go_ret
  exact ⟨rfl, rfl⟩
theorem most23r (agg k cap : Int) (w : World) (ha : 1 ≤ agg ∧ agg ≤ 4) (hk : 1 ≤ k ∧ k ≤ 64) (hc : 1 ≤ cap ∧ cap ≤ 65536) : Calls Try.prog 23 #[.int .i64 agg, .int .i64 k, .int .i64 cap] w (NumEnd (most13 agg k cap) w) := by
  rcases (show agg = 1 ∨ agg = 2 ∨ agg = 3 ∨ agg = 4 by omega) with rfl | rfl | rfl | rfl
  · exact most23r_1 k cap w hk hc
  · exact most23r_2 k cap w hk hc
  · exact most23r_3 k cap w hk hc
  · exact most23r_4 k cap w hk hc
theorem most24 (k cap : Int) (w : World) (hk : 1 ≤ k ∧ k ≤ 64) (hc : 1 ≤ cap ∧ cap ≤ 65536) : Calls Try.prog 24 #[.int .i64 k, .int .i64 cap] w (NumEnd (most14 k cap) w) := by
  obtain ⟨h1, h2⟩ := hk
  obtain ⟨h3, h4⟩ := hc
  have C29 := hide (fun w0 => rbits_any cap (by omega) w0)
  have CK := hide (fun w0 => mayK11_yes k w0 (by omega))
  unfold BoolEnd at CK
  have hb := bitsV_bd (n := cap) (by omega)
  have hm := mul_bd (a := 12 * k) (b := 3 * bitsV cap + 24) (A := 768) (B := 216) (by omega) (by omega) (by omega) (by omega)
  unfold most14
  generalize bitsV cap = b at *
  go_enter Try.func24, Try.ntmps24
  go_wp2_with (first | (go_at_call 34; refine (C29.out _).mono ?_; rintro e w1 ⟨rfl, rfl⟩) | (go_at_call 27; refine (CK.out _).mono ?_; rintro e w1 ⟨rfl, rfl⟩))
  go_ret
  exact ⟨rfl, rfl⟩
theorem size35 (k cap : Int) (w : World) (hk : 1 ≤ k ∧ k ≤ 64) (hc : 1 ≤ cap ∧ cap ≤ 65536) : Calls Try.prog 35 #[.int .i64 k, .int .i64 cap] w (NumEnd (sizQ k cap) w) := by
  obtain ⟨h1, h2⟩ := hk
  obtain ⟨h3, h4⟩ := hc
  have C29 := hide (fun w0 => rbits_any cap (by omega) w0)
  have CK := hide (fun w0 => mayK11_yes k w0 (by omega))
  unfold BoolEnd at CK
  have hb := bitsV_bd (n := cap) (by omega)
  have hm := mul_bd (a := 2 * k) (b := bitsV cap + 2) (A := 128) (B := 66) (by omega) (by omega) (by omega) (by omega)
  unfold sizQ
  generalize bitsV cap = b at *
  go_enter Try.func35, Try.ntmps35
  go_wp2_with (first | (go_at_call 34; refine (C29.out _).mono ?_; rintro e w1 ⟨rfl, rfl⟩) | (go_at_call 27; refine (CK.out _).mono ?_; rintro e w1 ⟨rfl, rfl⟩))
  go_ret
  exact ⟨rfl, rfl⟩
theorem most25 (k cap : Int) (w : World) (hk : 1 ≤ k ∧ k ≤ 64) (hc : 1 ≤ cap ∧ cap ≤ 65536) : Calls Try.prog 25 #[.int .i64 k, .int .i64 cap] w (NumEnd (most23 k cap) w) := by
  obtain ⟨h1, h2⟩ := hk
  obtain ⟨h3, h4⟩ := hc
  have C29 := hide (fun w0 => rbits_any cap (by omega) w0)
  have CS := hide (fun w0 => size35 k cap w0 (by omega) (by omega))
  unfold NumEnd at CS
  have hb := bitsV_bd (n := cap) (by omega)
  have hs : 1 ≤ sizQ k cap ∧ sizQ k cap ≤ 8448 := by
    have a1 : 2 * 2 ≤ 2 * k * (bitsV cap + 2) := Int.mul_le_mul (by omega) (by omega) (by omega) (by omega)
    have a2 := (mul_bd (a := 2 * k) (b := bitsV cap + 2) (A := 128) (B := 66) (by omega) (by omega) (by omega) (by omega)).2
    unfold sizQ
    exact ⟨by omega, by omega⟩
  have hm := mul_bd (a := 2 * k + 1) (b := bitsV cap) (A := 129) (B := 64) (by omega) (by omega) hb.1 hb.2
  have hn := mul_bd (a := (2 * k + 1) * bitsV cap) (b := sizQ k cap + 1) (A := 8256) (B := 8449) (by omega) (by omega) (by omega) (by omega)
  have hz : ¬ sizQ k cap = 0 := by omega
  have hz2 : (sizQ k cap == 0) = false := by simpa using hz
  unfold most23
  generalize sizQ k cap = s at *
  generalize bitsV cap = b at *
  go_enter Try.func25, Try.ntmps25
  go_wp2_with (first | (go_at_call 34; refine (C29.out _).mono ?_; rintro e w1 ⟨rfl, rfl⟩) | (go_at_call 35; refine (CS.out _).mono ?_; rintro e w1 ⟨rfl, rfl⟩))
  go_ret
  exact ⟨rfl, rfl⟩
end Go.Proofs.Ytmlddoajfgmoaaa
