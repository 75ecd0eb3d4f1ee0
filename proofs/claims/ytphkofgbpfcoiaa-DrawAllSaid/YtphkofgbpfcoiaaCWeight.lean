/- Contracts of the numbers of sequences, and of the next draw. -/
import Derived.Test.YtphkofgbpfcoiaaDraw
import Derived.Test.YtphkofgbpfcoiaaCMul
namespace Go.Proofs.Ytphkofgbpfcoiaa
open Go.RowKit
set_option linter.unusedVariables false
def Fits (l : List Int) : Prop := ∀ x ∈ l, Fit x
def WeightEnd (l : List Int) (w : World) (e : Ending) (w' : World) : Prop := e = .returned (.tuple #[.int .i64 (wV l), .bool (wB l)]) ∧ w = w'
theorem weight_yes {l : List Int} {w : World} {p : Int} (h : WOk l) (hp : p = prodL l) : WeightEnd l w (.returned (.tuple #[.int .i64 p, .bool true])) w := by
  subst hp; unfold WeightEnd; rw [(wV_yes h).1, (wV_yes h).2]; exact ⟨rfl, rfl⟩
theorem weight_no {l : List Int} {w : World} (h : ¬ WOk l) : WeightEnd l w (.returned (.tuple #[.int .i64 0, .bool false])) w := by
  unfold WeightEnd; rw [(wV_no h).1, (wV_no h).2]; exact ⟨rfl, rfl⟩
set_option maxRecDepth 100000 in
theorem weight_any (A : Option Addr) (n c B : Nat) (l : List Int) (w : World) (h : Sl w B A n (l.map (Value.int .i64))) (hf : Fits l) (hn : n ≤ 9223372036854775807) :
    Calls Try.prog 9 #[.slice A n c] w (WeightEnd l w) := by
  have hl := h.len
  have C1 := hide (fun p m hp hm w => mul_any p m hp hm w)
  have HF := hide hf
  clear hf
  go_enter Try.func9, Try.ntmps9
  go_wp2
  go_loop [13] (fun i => ∃ j : Nat, j ≤ n ∧ AllPos (l.take j) ∧ i = .int .i64 j) (fun i => n - (intOf i).toNat)
  case atStart => exact ⟨0, Nat.zero_le _, by intro m hm; simp at hm, rfl⟩
  case round =>
    obtain ⟨j, hj, hp, rfl⟩ := hrel
    have HP := hide hp
    clear hp
    by_cases hlt : j < n
    · obtain ⟨b, o, z, rfl, hbB, hz, hc⟩ := h.int hlt
      have HZ := hide hz
      have hm := mem_of_at hz
      by_cases hz1 : z < 1
      · have HN := hide (wok_small hm hz1)
        clear hz hm h hl
        go_wp2
        go_ret2
        exact weight_no HN.out
      · clear hz hm h hl
        go_wp2
        go_round
        case rel => exact ⟨j + 1, by omega, by rw [take_snoc HZ.out]; exact allPos_snoc HP.out (by omega), by go_num⟩
        case measure => simp [intOf]; omega
    · have hpos : AllPos l := by have := HP.out; rwa [List.take_of_length_le (by omega)] at this
      have HP2 := hide hpos
      clear hpos HP
      go_wp2
      go_loop [4, 22] (fun x i => ∃ (j : Nat) (p : Int), j ≤ n ∧ p = prodL (l.take j) ∧ 1 ≤ p ∧ p ≤ 4611686018427387904 ∧ i = .int .i64 j ∧ x = .int .i64 p) (fun _ i => n - (intOf i).toNat)
      case atStart => exact ⟨0, 1, Nat.zero_le _, rfl, by omega, by omega, rfl, rfl⟩
      case round =>
        obtain ⟨j, p, hj, hp, hp1, hp2, rfl, rfl⟩ := hrel
        have HP := hide hp
        clear hp
        by_cases hlt : j < n
        · obtain ⟨b, o, z, rfl, hbB, hz, hc⟩ := h.int hlt
          have HZ := hide hz
          have hm := mem_of_at hz
          have hz1 := HP2.out z hm
          have hfz := HF.out z hm
          have hnext : prodL (l.take (j + 1)) = p * z := by rw [take_snoc hz, prodL_snoc, ← HP.out]
          have c1 := C1.out p z (by unfold Fit; omega) hfz
          have hge : p ≤ p * z := by have := Int.mul_le_mul_of_nonneg_left hz1 (show 0 ≤ p by omega); omega
          by_cases hfit : Fit (p * z)
          · rw [fitV_yes hfit, fitB_yes hfit] at c1
            have C2 := hide c1
            have HX := hide hnext
            by_cases hbig : 4611686018427387904 < p * z
            · have HN := hide (wok_over' (l := l) (j + 1) (by rw [hnext]; exact hbig))
              clear c1 hz hm h hl hnext hfz hfit
              generalize p * z = q at *
              go_wp2_with (go_at_call 21; refine (C2.out _).mono ?_; rintro e w' ⟨rfl, rfl⟩)
              go_ret2
              exact weight_no HN.out
            · have HQ := hide hge
              clear c1 hz hm h hl hnext hfz hfit hge
              generalize p * z = q at *
              go_wp2_with (go_at_call 21; refine (C2.out _).mono ?_; rintro e w' ⟨rfl, rfl⟩)
              go_round
              case rel => exact ⟨j + 1, q, by omega, HX.out.symm, by have := HQ.out; omega, by omega, by go_num, rfl⟩
              case measure => simp [intOf]; omega
          · have HN := hide (wok_over' (l := l) (j + 1) (by rw [hnext]; unfold Fit at hfit; omega))
            rw [fitV_no hfit, fitB_no hfit] at c1
            have C2 := hide c1
            clear c1 hz hm h hl hnext hfz hfit hge
            go_wp2_with (go_at_call 21; refine (C2.out _).mono ?_; rintro e w' ⟨rfl, rfl⟩)
            go_ret2
            exact weight_no HN.out
        · have hw : WOk l := ⟨HP2.out, by have := HP.out; rw [List.take_of_length_le (by omega)] at this; omega⟩
          have HW := hide hw
          have HE := hide (show p = prodL l by have := HP.out; rwa [List.take_of_length_le (by omega)] at this)
          clear hw h hl
          go_wp2
          go_ret2
          exact weight_yes HW.out HE.out
set_option maxRecDepth 100000 in
theorem rweight_any (A : Option Addr) (n c B : Nat) (l : List Int) (w : World) (h : Sl w B A n (l.map (Value.int .i64))) (hf : Fits l) (hn : n ≤ 9223372036854775807) :
    Calls Try.prog 10 #[.slice A n c] w (WeightEnd l w) := by
  have hl := h.len
  have HF := hide hf
  clear hf
  go_enter Try.func10, Try.ntmps10
  go_wp2
  go_loop [4, 9] (fun x i => ∃ (j : Nat) (p : Int), j ≤ n ∧ AllPos (l.take j) ∧ p = prodL (l.take j) ∧ 1 ≤ p ∧ p ≤ 4611686018427387904 ∧ i = .int .i64 j ∧ x = .int .i64 p) (fun _ i => n - (intOf i).toNat)
  case atStart => exact ⟨0, 1, Nat.zero_le _, by intro m hm; simp at hm, rfl, by omega, by omega, rfl, rfl⟩
  case round =>
    obtain ⟨j, p, hj, hap, hp, hp1, hp2, rfl, rfl⟩ := hrel
    have HP := hide hp
    have HA := hide hap
    clear hp hap
    by_cases hlt : j < n
    · obtain ⟨b, o, z, rfl, hbB, hz, hc⟩ := h.int hlt
      have HZ := hide hz
      have hm := mem_of_at hz
      have hfz := HF.out z hm
      by_cases hz1 : z < 1
      · have HN := hide (wok_small hm hz1)
        clear hz hm h hl hfz
        go_wp2
        go_ret2
        exact weight_no HN.out
      · have hnext : prodL (l.take (j + 1)) = p * z := by rw [take_snoc hz, prodL_snoc, ← HP.out]
        have hq := quo_gt (n := p) (m := z) (by omega)
        have hge : p ≤ p * z := by have := Int.mul_le_mul_of_nonneg_left (show 1 ≤ z by omega) (show 0 ≤ p by omega); omega
        by_cases hbig : 4611686018427387904 < p * z
        · have HN := hide (wok_over' (l := l) (j + 1) (by rw [hnext]; exact hbig))
          have hq2 := hq.2 hbig
          clear hz hm h hl hnext hfz hge hbig hq
          go_wp2
          go_ret2
          exact weight_no HN.out
        · have hq2 : ¬ 4611686018427387904 / z < p := fun c => hbig (hq.1 c)
          have HX := hide hnext
          have HQ := hide hge
          have hb0 : 0 ≤ p * z := by omega
          have hb1 : p * z ≤ 4611686018427387904 := by omega
          clear hz hm h hl hnext hfz hge hq
          go_wp2
          go_round
          case rel => exact ⟨j + 1, p * z, by omega, by rw [take_snoc HZ.out]; exact allPos_snoc HA.out (by omega), HX.out.symm, by have := HQ.out; omega, by omega, by go_num, rfl⟩
          case measure => simp [intOf]; omega
    · have hw : WOk l := ⟨by have := HA.out; rwa [List.take_of_length_le (by omega)] at this, by have := HP.out; rw [List.take_of_length_le (by omega)] at this; omega⟩
      have HW := hide hw
      have HE := hide (show p = prodL l by have := HP.out; rwa [List.take_of_length_le (by omega)] at this)
      clear hw h hl
      go_wp2
      go_ret2
      exact weight_yes HW.out HE.out
end Go.Proofs.Ytphkofgbpfcoiaa
