/- Contracts of the powers. -/
import Derived.Test.YtegfchjnkkobcaaCMulR
import Derived.Outline
namespace Go.Proofs.Ytegfchjnkkobcaa
open Go.RowKit
theorem powV_neg {a n : Int} (h : n < 0) : powV a n = 0 ∧ powB a n = false := ⟨if_pos h, if_pos h⟩
theorem powV_fit {a n v : Int} (h : 0 ≤ n) (hv : a ^ n.toNat = v) (hf : Fit v) : powV a n = v ∧ powB a n = true := by
  subst hv
  refine ⟨?_, ?_⟩
  · unfold powV; rw [if_neg (by omega), if_pos hf]
  · unfold powB; rw [if_neg (by omega), decide_eq_true hf]
theorem powV_over {a n : Int} (h : 0 ≤ n) (hf : ¬ Fit (a ^ n.toNat)) : powV a n = 0 ∧ powB a n = false := by
  refine ⟨?_, ?_⟩
  · unfold powV; rw [if_neg (by omega), if_neg hf]
  · unfold powB; rw [if_neg (by omega), decide_eq_false hf]
theorem tmod_two {n : Int} (h : 0 ≤ n) : n.tmod 2 = n % 2 := Int.tmod_eq_emod_of_nonneg h
theorem pow_any (a n : Int) (ha : Fit a) (hn : Fit n) (w : World) :
    Calls Try.prog 32 #[.int .i64 a, .int .i64 n] w fun e w' => e = .returned (.tuple #[.int .i64 (powV a n), .bool (powB a n)]) ∧ w = w' := by
  by_cases h0 : n < 0
  · rw [(powV_neg h0).1, (powV_neg h0).2]
    go_enter Try.func32, Try.ntmps32
    go_wp2
    go_ret2
    exact ⟨rfl, rfl⟩
  · rcases two (a == 0) with g0 | g0
    · obtain rfl : a = 0 := by simpa using g0
      rcases (show n = 0 ∨ 0 < n by omega) with rfl | h1
      · obtain ⟨e1, e2⟩ := powV_fit (a := 0) (n := 0) (v := 1) (by omega) rfl (by decide)
        rw [e1, e2]
        clear e1 e2 ha hn
        go_enter Try.func32, Try.ntmps32
        go_wp2
        go_ret2
        exact ⟨rfl, rfl⟩
      · obtain ⟨e1, e2⟩ := powV_fit (a := 0) (n := n) (v := 0) (by omega) (zero_pow_pos (by omega)) (by decide)
        rw [e1, e2]
        clear e1 e2 ha hn
        go_enter Try.func32, Try.ntmps32
        go_wp2
        go_ret2
        exact ⟨rfl, rfl⟩
    · rcases two (a == 1) with g1 | g1
      · obtain rfl : a = 1 := by simpa using g1
        obtain ⟨e1, e2⟩ := powV_fit (a := 1) (n := n) (v := 1) (by omega) (one_pow' _) (by decide)
        rw [e1, e2]
        clear e1 e2 ha hn
        go_enter Try.func32, Try.ntmps32
        go_wp2
        go_ret2
        exact ⟨rfl, rfl⟩
      · rcases two (a == -1) with g2 | g2
        · obtain rfl : a = -1 := by simpa using g2
          have hnn : 0 ≤ n := by omega
          rcases (show n % 2 = 1 ∨ n % 2 = 0 by omega) with h2 | h2
          · obtain ⟨e1, e2⟩ := powV_fit (a := -1) (n := n) (v := -1) (by omega) (by rw [neg_one_pow, if_pos (by omega)]) (by decide)
            rw [e1, e2]
            have h3 : (n % 2 == 1) = true := by simpa using h2
            clear e1 e2 ha hn h2
            go_enter Try.func32, Try.ntmps32
            go_wp2
            go_ret2
            exact ⟨rfl, rfl⟩
          · obtain ⟨e1, e2⟩ := powV_fit (a := -1) (n := n) (v := 1) (by omega) (by rw [neg_one_pow, if_neg (by omega)]) (by decide)
            rw [e1, e2]
            have h3 : (n % 2 == 1) = false := by simp; omega
            clear e1 e2 ha hn h2
            go_enter Try.func32, Try.ntmps32
            go_wp2
            go_ret2
            exact ⟨rfl, rfl⟩
        · have hs : 2 ≤ a.natAbs := small_two (by simpa using g0) (by simpa using g1) (by simpa using g2)
          have hn1 : n ≤ 9223372036854775807 := hn.2
          have hnn : 0 ≤ n := by omega
          have HS := hide hs
          have C1 := hide (fun p (hp : Fit p) w => mul_any p a hp ha w)
          clear hs ha hn
          go_enter Try.func32, Try.ntmps32
          go_wp2
          go_loop [1, 6] (fun x y => ∃ k : Nat, (k : Int) ≤ n ∧ Fit (a ^ k) ∧ x = .int .i64 (n - k) ∧ y = .int .i64 (a ^ k)) (fun x _ => (intOf x).toNat)
          case atStart => exact ⟨0, by omega, by simp [Fit], by simp, by rw [Int.pow_zero]⟩
          case round =>
            obtain ⟨k, hk, hf, rfl, rfl⟩ := hrel
            have HF := hide hf
            have c1 := C1.out _ hf
            rw [← Int.pow_succ] at c1
            clear hf
            by_cases h1 : 0 < n - k
            · by_cases h2 : Fit (a ^ (k + 1))
              · rw [fitV_yes h2, fitB_yes h2] at c1
                have C2 := hide c1
                have HF2 := hide h2
                clear c1 h2
                generalize hp : a ^ k = p at *
                generalize hq : a ^ (k + 1) = q at *
                have HP := hide hp
                have HQ := hide hq
                clear hp hq
                go_wp2_with (go_at_call 30; refine (C2.out _).mono ?_; rintro e w' ⟨rfl, rfl⟩)
                go_round
                case rel => exact ⟨k + 1, by omega, by rw [HQ.out]; exact HF2.out, by congr 1; omega, by rw [HQ.out]⟩
                case measure => simp [intOf]; omega
              · have h3 : ¬ Fit (a ^ n.toNat) := pow_more HS.out h2 (by omega)
                obtain ⟨e1, e2⟩ := powV_over hnn h3
                have E1 := hide e1
                have E2 := hide e2
                rw [fitV_no h2, fitB_no h2] at c1
                have C2 := hide c1
                clear c1 h2 h3 e1 e2
                generalize a ^ k = p at *
                go_wp2_with (go_at_call 30; refine (C2.out _).mono ?_; rintro e w' ⟨rfl, rfl⟩)
                go_ret2
                exact ⟨by rw [E1.out, E2.out]; rfl, rfl⟩
            · have hkn : k = n.toNat := by omega
              obtain ⟨e1, e2⟩ := powV_fit (a := a) (n := n) (v := a ^ k) hnn (by rw [hkn]) HF.out
              have E1 := hide e1
              have E2 := hide e2
              clear c1 e1 e2 hkn
              generalize a ^ k = p at *
              go_wp2
              go_ret2
              exact ⟨by rw [E1.out, E2.out]; rfl, rfl⟩
theorem rpow_any (a n : Int) (ha : Fit a) (hn : Fit n) (w : World) :
    Calls Try.prog 33 #[.int .i64 a, .int .i64 n] w fun e w' => e = .returned (.tuple #[.int .i64 (powV a n), .bool (powB a n)]) ∧ w = w' := by
  by_cases h0 : n < 0
  · rw [(powV_neg h0).1, (powV_neg h0).2]
    go_enter Try.func33, Try.ntmps33
    go_wp2
    go_ret2
    exact ⟨rfl, rfl⟩
  · rcases two (a == 0) with g0 | g0
    · obtain rfl : a = 0 := by simpa using g0
      rcases (show n = 0 ∨ 0 < n by omega) with rfl | h1
      · obtain ⟨e1, e2⟩ := powV_fit (a := 0) (n := 0) (v := 1) (by omega) rfl (by decide)
        rw [e1, e2]
        clear e1 e2 ha hn
        go_enter Try.func33, Try.ntmps33
        go_wp2
        go_ret2
        exact ⟨rfl, rfl⟩
      · obtain ⟨e1, e2⟩ := powV_fit (a := 0) (n := n) (v := 0) (by omega) (zero_pow_pos (by omega)) (by decide)
        rw [e1, e2]
        clear e1 e2 ha hn
        go_enter Try.func33, Try.ntmps33
        go_wp2
        go_ret2
        exact ⟨rfl, rfl⟩
    · rcases two (a == 1) with g1 | g1
      · obtain rfl : a = 1 := by simpa using g1
        obtain ⟨e1, e2⟩ := powV_fit (a := 1) (n := n) (v := 1) (by omega) (one_pow' _) (by decide)
        rw [e1, e2]
        clear e1 e2 ha hn
        rcases (show n = 0 ∨ 0 < n by omega) with rfl | h1
        all_goals
          go_enter Try.func33, Try.ntmps33
          go_wp2
          go_ret2
          exact ⟨rfl, rfl⟩
      · rcases two (a == -1) with g2 | g2
        · obtain rfl : a = -1 := by simpa using g2
          have hnn : 0 ≤ n := by omega
          obtain ⟨e1, e2⟩ := powV_fit (a := -1) (n := n) (v := 1 - 2 * (n % 2)) (by omega) (by rw [neg_one_pow]; split <;> omega) (by unfold Fit; omega)
          rw [e1, e2]
          have h3 : 0 ≤ n % 2 ∧ n % 2 ≤ 1 := by omega
          clear e1 e2 ha hn
          go_enter Try.func33, Try.ntmps33
          go_wp2
          go_ret2
          exact ⟨rfl, rfl⟩
        · have hs : 2 ≤ a.natAbs := small_two (by simpa using g0) (by simpa using g1) (by simpa using g2)
          have hn1 : n ≤ 9223372036854775807 := hn.2
          have hnn : 0 ≤ n := by omega
          have HS := hide hs
          have C1 := hide (fun p (hp : Fit p) w => rmul_any p a hp ha w)
          clear hs ha hn
          go_enter Try.func33, Try.ntmps33
          go_wp2
          go_loop [6, 7, 8] (fun x y z => ∃ k : Nat, (k : Int) ≤ n ∧ z = .int .i64 k ∧ ((Fit (a ^ k) ∧ x = .int .i64 (a ^ k) ∧ y = .bool true) ∨ (¬ Fit (a ^ k) ∧ x = .int .i64 0 ∧ y = .bool false))) (fun _ _ z => (n - intOf z).toNat)
          case atStart => exact ⟨0, by omega, rfl, .inl ⟨by simp [Fit], by rw [Int.pow_zero], rfl⟩⟩
          case round =>
            obtain ⟨k, hk, rfl, ⟨hf, rfl, rfl⟩ | ⟨hf, rfl, rfl⟩⟩ := hrel
            · have HF := hide hf
              have c1 := C1.out _ hf
              rw [← Int.pow_succ] at c1
              clear hf
              by_cases h1 : (k : Int) < n
              · by_cases h2 : Fit (a ^ (k + 1))
                · rw [fitV_yes h2, fitB_yes h2] at c1
                  have C2 := hide c1
                  have HF2 := hide h2
                  clear c1 h2
                  generalize hp : a ^ k = p at *
                  generalize hq : a ^ (k + 1) = q at *
                  have HP := hide hp
                  have HQ := hide hq
                  clear hp hq
                  go_wp2_with (go_at_call 31; refine (C2.out _).mono ?_; rintro e w' ⟨rfl, rfl⟩)
                  go_round
                  case rel => exact ⟨k + 1, by omega, by go_num, .inl ⟨by rw [HQ.out]; exact HF2.out, by rw [HQ.out], rfl⟩⟩
                  case measure => simp [intOf]; omega
                · rw [fitV_no h2, fitB_no h2] at c1
                  have C2 := hide c1
                  have HF2 := hide h2
                  clear c1 h2
                  generalize hp : a ^ k = p at *
                  generalize hq : a ^ (k + 1) = q at *
                  have HP := hide hp
                  have HQ := hide hq
                  clear hp hq
                  go_wp2_with (go_at_call 31; refine (C2.out _).mono ?_; rintro e w' ⟨rfl, rfl⟩)
                  go_round
                  case rel => exact ⟨k + 1, by omega, by go_num, .inr ⟨by rw [HQ.out]; exact HF2.out, rfl, rfl⟩⟩
                  case measure => simp [intOf]; omega
              · have hkn : k = n.toNat := by omega
                obtain ⟨e1, e2⟩ := powV_fit (a := a) (n := n) (v := a ^ k) hnn (by rw [hkn]) HF.out
                have E1 := hide e1
                have E2 := hide e2
                clear c1 e1 e2 hkn
                generalize a ^ k = p at *
                go_wp2
                go_ret2
                exact ⟨by rw [E1.out, E2.out]; rfl, rfl⟩
            · have h3 : ¬ Fit (a ^ n.toNat) := pow_more HS.out hf (by omega)
              obtain ⟨e1, e2⟩ := powV_over hnn h3
              have E1 := hide e1
              have E2 := hide e2
              clear hf h3 e1 e2
              by_cases h1 : (k : Int) < n
              all_goals
                go_wp2
                go_ret2
                exact ⟨by rw [E1.out, E2.out]; rfl, rfl⟩
end Go.Proofs.Ytegfchjnkkobcaa
