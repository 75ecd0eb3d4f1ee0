/- The contracts of the readers of one number. -/
import Derived.Test.YtlcgpldngooekaaSum
import Derived.Test.YtlcgpldngooekaaVA
import Derived.Laws.DeepNot64
namespace Go.Proofs.Ytlcgpldngooekaa
open Go.RowKit
set_option linter.unusedVariables false
def ReadEnd (l : List Int) (a : Int) (w : World) (e : Ending) (w' : World) : Prop := e = .returned (.tuple #[.int .i64 (readV l a).1, .int .i64 (readV l a).2.1, .bool (readV l a).2.2]) ∧ w = w'
theorem not_half {v : Int} (h0 : 0 ≤ v) (h1 : v ≤ 18446744073709551615) : bits .xor .i64 (-1) (v / 2) = -(v / 2) - 1 := by
  have := i64_not (v / 2).toNat (by omega)
  rw [Int.toNat_of_nonneg (by omega)] at this
  rw [this]; omega
theorem ret3 {a b c a' b' : Int} {x x' : Bool} (h1 : a = a') (h2 : b = b') (h3 : x = x') : Ending.returned (.tuple #[.int .i64 a, .int .i64 b, .bool x]) = .returned (.tuple #[.int .i64 a', .int .i64 b', .bool x']) := by rw [h1, h2, h3]
theorem read_none {l : List Int} {a : Nat} {w : World} (ha : a ≤ l.length) (h : rdF 10 0 0 (l.drop a) = none) : ReadEnd l a w (.returned (.tuple #[.int .i64 0, .int .i64 0, .bool false])) w := by
  unfold ReadEnd; rw [readV_none ha h]; exact ⟨rfl, rfl⟩
theorem read_some {l : List Int} {a k : Nat} {u p q : Int} {w : World} (ha : a ≤ l.length) (h : rdF 10 0 0 (l.drop a) = some (u, k)) (hp : p = unzig u) (hq : q = a + k) : ReadEnd l a w (.returned (.tuple #[.int .i64 p, .int .i64 q, .bool true])) w := by
  subst hp hq
  unfold ReadEnd; rw [readV_some ha h]; exact ⟨rfl, rfl⟩
theorem tread_in (A : Option Addr) (n c B a : Nat) (l : List Int) (w : World) (h : Sl w B A n (l.map (Value.int .u8))) (hb : Bytes l) (hn : n ≤ 9223372036854775000) (ha : a ≤ n) :
    Calls Try.prog 38 #[.slice A n c, .int .i64 a] w (ReadEnd l a w) := by
  have hl := h.len
  have da : decide ((a : Int) < 0) = false := by simp
  have dn : decide (n < a) = false := by simp; omega
  go_enter Try.func38, Try.ntmps38
  go_wp2
  go_loop [7, 8] (fun x i => ∃ (k : Nat) (u : Int), k ≤ 10 ∧ a + k ≤ n ∧ 0 ≤ u ∧ u < 128 ^ k ∧ rdF 10 0 0 (l.drop a) = rdF (10 - k) k u (l.drop (a + k)) ∧ i = .int .i64 k ∧ x = .int .u64 u) (fun _ i => 10 - (intOf i).toNat)
  case atStart => exact ⟨0, 0, by omega, by omega, by omega, by simp, rfl, rfl, rfl⟩
  case round =>
    obtain ⟨k, u, hk, hj, hu, hu2, hr, rfl, rfl⟩ := hrel
    have HR := hide hr
    clear hr
    by_cases hlt : a + k < n
    · obtain ⟨b, o, z, rfl, hbB, hz, hc⟩ := h.int hlt
      have hzb := hb z (mem_of_at hz)
      have HZ := hide hz
      clear hz h hb
      by_cases h10 : k < 9
      · have d9 : ((k : Int) == 9) = false := by simp; omega
        by_cases h128 : 128 ≤ z
        · have hor := or_step u z k hu hu2 hzb (by omega) (by omega)
          have hnx := pow_next u z k hu hu2
          have hrd := rd_more (k := k) (u := u) (z := z) (r := l.drop (a + k + 1)) h10 h128
          rw [← drop_cons HZ.out, ← HR.out] at hrd
          have HD := hide hrd
          have HN := hide hnx
          clear hrd hu2 hnx
          generalize u + z % 128 * 128 ^ k = v at *
          go_wp2
          go_round
          case rel => exact ⟨k + 1, v, by omega, by omega, HN.out.1, HN.out.2, HD.out, by go_num, rfl⟩
          case measure => simp [intOf]; omega
        · by_cases hzk : z = 0 ∧ 0 < k
          · obtain ⟨rfl, hk0⟩ := hzk
            have hrd := rd_zero (k := k) (u := u) (r := l.drop (a + k + 1)) (by omega) hk0
            rw [← drop_cons HZ.out, ← HR.out] at hrd
            have HD := hide hrd
            clear hrd hu2
            go_wp2
            go_ret3
            exact read_none (by omega) HD.out
          · have dz : (z == 0 && decide (0 < k)) = false := by
              rcases Nat.eq_zero_or_pos k with h | h
              · simp [h]
              · have : z ≠ 0 := fun hz => hzk ⟨hz, h⟩
                simp [this]
            by_cases hz0 : z = 0
            · have hk0 : k = 0 := by omega
              have dz0 : (z == 0) = true := by simpa using hz0
              have dk0 : decide (0 < k) = false := by simp; omega
              clear dz
              have hor := or_step u z k hu hu2 hzb (by omega) (by omega)
              rw [Int.emod_eq_of_lt hzb.1 (by omega)] at hor
              have hbd := last_bd u z k hu hu2 ⟨hzb.1, by omega⟩ (by omega) (by omega)
              have hrd := rd_last (k := k) (u := u) (z := z) (r := l.drop (a + k + 1)) (by omega) (by omega) (by omega) hzk
              rw [← drop_cons HZ.out, ← HR.out] at hrd
              have HD := hide hrd
              clear hrd
              generalize u + z * 128 ^ k = v at *
              have h1 := and1 v hbd.1 hbd.2
              rcases (show v % 2 = 1 ∨ v % 2 = 0 by omega) with hv | hv
              · have ht : (bits .and .u64 v 1 == 1) = true := by rw [h1, hv]; rfl
                have HV := hide hv
                clear h1 hv hu2 hz0 hk0 hzk
                go_wp2
                go_ret3
                exact read_some (by omega) HD.out (by rw [unzig_odd HV.out] <;> first | exact not_half hbd.1 hbd.2 | omega) (by omega)
              · have ht : (bits .and .u64 v 1 == 1) = false := by rw [h1, hv]; rfl
                have HV := hide hv
                clear h1 hv hu2 hz0 hk0 hzk
                go_wp2
                go_ret3
                exact read_some (by omega) HD.out (by rw [unzig_even (by have := HV.out; omega)]) (by omega)
            · have dz0 : (z == 0) = false := by simpa using hz0
              clear dz
              have hor := or_step u z k hu hu2 hzb (by omega) (by omega)
              rw [Int.emod_eq_of_lt hzb.1 (by omega)] at hor
              have hbd := last_bd u z k hu hu2 ⟨hzb.1, by omega⟩ (by omega) (by omega)
              have hrd := rd_last (k := k) (u := u) (z := z) (r := l.drop (a + k + 1)) (by omega) (by omega) (by omega) hzk
              rw [← drop_cons HZ.out, ← HR.out] at hrd
              have HD := hide hrd
              clear hrd
              generalize u + z * 128 ^ k = v at *
              have h1 := and1 v hbd.1 hbd.2
              rcases (show v % 2 = 1 ∨ v % 2 = 0 by omega) with hv | hv
              · have ht : (bits .and .u64 v 1 == 1) = true := by rw [h1, hv]; rfl
                have HV := hide hv
                clear h1 hv hu2
                go_wp2
                go_ret3
                exact read_some (by omega) HD.out (by rw [unzig_odd HV.out] <;> first | exact not_half hbd.1 hbd.2 | omega) (by omega)
              · have ht : (bits .and .u64 v 1 == 1) = false := by rw [h1, hv]; rfl
                have HV := hide hv
                clear h1 hv hu2
                go_wp2
                go_ret3
                exact read_some (by omega) HD.out (by rw [unzig_even (by have := HV.out; omega)]) (by omega)
      · by_cases h9 : k = 9
        · have d9 : ((k : Int) == 9) = true := by simp; omega
          have hk2 : k ≤ 9 := by omega
          by_cases hz1 : 1 < z
          · have hrd : rdF (10 - k) k u (z :: l.drop (a + k + 1)) = none := by rw [h9]; exact rd_big hz1
            rw [← drop_cons HZ.out, ← HR.out] at hrd
            have HD := hide hrd
            have hk1 : 9 ≤ k := by omega
            clear hrd hu2 h9
            go_wp2
            go_ret3
            exact read_none (by omega) HD.out
          · by_cases hz0 : z = 0
            · have hrd : rdF (10 - k) k u (z :: l.drop (a + k + 1)) = none := by rw [hz0]; exact rd_zero (by omega) (by omega)
              rw [← drop_cons HZ.out, ← HR.out] at hrd
              have HD := hide hrd
              have dz0 : (z == 0) = true := by simpa using hz0
              have hk1 : 9 ≤ k := by omega
              have dk0 : decide (0 < k) = true := by simp; omega
              clear hrd hu2 h9 hz0
              go_wp2
              go_ret3
              exact read_none (by omega) HD.out
            · have dz0 : (z == 0) = false := by simpa using hz0
              have hzk : ¬ (z = 0 ∧ 0 < k) := fun h => hz0 h.1
              have hk1 : 9 ≤ k := by omega
              have h128 : ¬ 128 ≤ z := by omega
              have hor := or_step u z k hu hu2 hzb (by omega) (by omega)
              rw [Int.emod_eq_of_lt hzb.1 (by omega)] at hor
              have hbd := last_bd u z k hu hu2 ⟨hzb.1, by omega⟩ (by omega) (by omega)
              have hrd := rd_last (k := k) (u := u) (z := z) (r := l.drop (a + k + 1)) (by omega) (by omega) (by omega) hzk
              rw [← drop_cons HZ.out, ← HR.out] at hrd
              have HD := hide hrd
              clear hrd
              generalize u + z * 128 ^ k = v at *
              have h1 := and1 v hbd.1 hbd.2
              rcases (show v % 2 = 1 ∨ v % 2 = 0 by omega) with hv | hv
              · have ht : (bits .and .u64 v 1 == 1) = true := by rw [h1, hv]; rfl
                have HV := hide hv
                clear h1 hv hu2 h9
                go_wp2
                go_ret3
                exact read_some (by omega) HD.out (by rw [unzig_odd HV.out] <;> first | exact not_half hbd.1 hbd.2 | omega) (by omega)
              · have ht : (bits .and .u64 v 1 == 1) = false := by rw [h1, hv]; rfl
                have HV := hide hv
                clear h1 hv hu2 h9
                go_wp2
                go_ret3
                exact read_some (by omega) HD.out (by rw [unzig_even (by have := HV.out; omega)]) (by omega)
        · obtain rfl : k = 10 := by omega
          have hrd := rd_ten (u := u) (r := l.drop (a + 10))
          rw [← HR.out] at hrd
          have HD := hide hrd
          clear hrd hu2
          go_wp2
          go_ret3
          exact read_none (by omega) HD.out
    · have hrd := rd_end (k := k) (u := u)
      rw [← show l.drop (a + k) = [] from List.drop_eq_nil_of_le (by omega), ← HR.out] at hrd
      have HD := hide hrd
      clear hrd hu2 h hb
      by_cases h10 : k < 10
      · go_wp2
        go_ret3
        exact read_none (by omega) HD.out
      · go_wp2
        go_ret3
        exact read_none (by omega) HD.out
theorem rread_in (A : Option Addr) (n c B a : Nat) (l : List Int) (w : World) (h : Sl w B A n (l.map (Value.int .u8))) (hb : Bytes l) (hn : n ≤ 9223372036854775000) (ha : a ≤ n) :
    Calls Try.prog 17 #[.slice A n c, .int .i64 a] w (ReadEnd l a w) := by
  have hl := h.len
  have da : decide ((a : Int) < 0) = false := by simp
  have dn : decide (n < a) = false := by simp; omega
  go_enter Try.func17, Try.ntmps17
  go_wp2
  go_loop [7, 8] (fun x i => ∃ (k : Nat) (u : Int), k ≤ 10 ∧ a + k ≤ n ∧ 0 ≤ u ∧ u < 128 ^ k ∧ rdF 10 0 0 (l.drop a) = rdF (10 - k) k u (l.drop (a + k)) ∧ i = .int .i64 k ∧ x = .int .u64 u) (fun _ i => 10 - (intOf i).toNat)
  case atStart => exact ⟨0, 0, by omega, by omega, by omega, by simp, rfl, rfl, rfl⟩
  case round =>
    obtain ⟨k, u, hk, hj, hu, hu2, hr, rfl, rfl⟩ := hrel
    have HR := hide hr
    clear hr
    by_cases hlt : a + k < n
    · obtain ⟨b, o, z, rfl, hbB, hz, hc⟩ := h.int hlt
      have hzb := hb z (mem_of_at hz)
      have HZ := hide hz
      clear hz h hb
      by_cases h10 : k < 9
      · have d9 : ((k : Int) == 9) = false := by simp; omega
        by_cases h128 : 128 ≤ z
        · have hor := or_step u z k hu hu2 hzb (by omega) (by omega)
          have hnx := pow_next u z k hu hu2
          have hrd := rd_more (k := k) (u := u) (z := z) (r := l.drop (a + k + 1)) h10 h128
          rw [← drop_cons HZ.out, ← HR.out] at hrd
          have HD := hide hrd
          have HN := hide hnx
          clear hrd hu2 hnx
          generalize u + z % 128 * 128 ^ k = v at *
          go_wp2
          go_round
          case rel => exact ⟨k + 1, v, by omega, by omega, HN.out.1, HN.out.2, HD.out, by go_num, rfl⟩
          case measure => simp [intOf]; omega
        · by_cases hzk : z = 0 ∧ 0 < k
          · obtain ⟨rfl, hk0⟩ := hzk
            have hrd := rd_zero (k := k) (u := u) (r := l.drop (a + k + 1)) (by omega) hk0
            rw [← drop_cons HZ.out, ← HR.out] at hrd
            have HD := hide hrd
            clear hrd hu2
            go_wp2
            go_ret3
            exact read_none (by omega) HD.out
          · have dz : (z == 0 && decide (0 < k)) = false := by
              rcases Nat.eq_zero_or_pos k with h | h
              · simp [h]
              · have : z ≠ 0 := fun hz => hzk ⟨hz, h⟩
                simp [this]
            by_cases hz0 : z = 0
            · have hk0 : k = 0 := by omega
              have dz0 : (z == 0) = true := by simpa using hz0
              have dk0 : decide (0 < k) = false := by simp; omega
              clear dz
              have hor := or_step u z k hu hu2 hzb (by omega) (by omega)
              rw [Int.emod_eq_of_lt hzb.1 (by omega)] at hor
              have hbd := last_bd u z k hu hu2 ⟨hzb.1, by omega⟩ (by omega) (by omega)
              have hrd := rd_last (k := k) (u := u) (z := z) (r := l.drop (a + k + 1)) (by omega) (by omega) (by omega) hzk
              rw [← drop_cons HZ.out, ← HR.out] at hrd
              have HD := hide hrd
              clear hrd
              generalize u + z * 128 ^ k = v at *
              have h1 := and1 v hbd.1 hbd.2
              rcases (show v % 2 = 1 ∨ v % 2 = 0 by omega) with hv | hv
              · have ht : (bits .and .u64 v 1 == 1) = true := by rw [h1, hv]; rfl
                have HV := hide hv
                clear h1 hv hu2 hz0 hk0 hzk
                go_wp2
                go_ret3
                exact read_some (by omega) HD.out (by rw [unzig_odd HV.out] <;> first | exact not_half hbd.1 hbd.2 | omega) (by omega)
              · have ht : (bits .and .u64 v 1 == 1) = false := by rw [h1, hv]; rfl
                have HV := hide hv
                clear h1 hv hu2 hz0 hk0 hzk
                go_wp2
                go_ret3
                exact read_some (by omega) HD.out (by rw [unzig_even (by have := HV.out; omega)]) (by omega)
            · have dz0 : (z == 0) = false := by simpa using hz0
              clear dz
              have hor := or_step u z k hu hu2 hzb (by omega) (by omega)
              rw [Int.emod_eq_of_lt hzb.1 (by omega)] at hor
              have hbd := last_bd u z k hu hu2 ⟨hzb.1, by omega⟩ (by omega) (by omega)
              have hrd := rd_last (k := k) (u := u) (z := z) (r := l.drop (a + k + 1)) (by omega) (by omega) (by omega) hzk
              rw [← drop_cons HZ.out, ← HR.out] at hrd
              have HD := hide hrd
              clear hrd
              generalize u + z * 128 ^ k = v at *
              have h1 := and1 v hbd.1 hbd.2
              rcases (show v % 2 = 1 ∨ v % 2 = 0 by omega) with hv | hv
              · have ht : (bits .and .u64 v 1 == 1) = true := by rw [h1, hv]; rfl
                have HV := hide hv
                clear h1 hv hu2
                go_wp2
                go_ret3
                exact read_some (by omega) HD.out (by rw [unzig_odd HV.out] <;> first | exact not_half hbd.1 hbd.2 | omega) (by omega)
              · have ht : (bits .and .u64 v 1 == 1) = false := by rw [h1, hv]; rfl
                have HV := hide hv
                clear h1 hv hu2
                go_wp2
                go_ret3
                exact read_some (by omega) HD.out (by rw [unzig_even (by have := HV.out; omega)]) (by omega)
      · by_cases h9 : k = 9
        · have d9 : ((k : Int) == 9) = true := by simp; omega
          have hk2 : k ≤ 9 := by omega
          by_cases hz1 : 1 < z
          · have hrd : rdF (10 - k) k u (z :: l.drop (a + k + 1)) = none := by rw [h9]; exact rd_big hz1
            rw [← drop_cons HZ.out, ← HR.out] at hrd
            have HD := hide hrd
            have hk1 : 9 ≤ k := by omega
            clear hrd hu2 h9
            go_wp2
            go_ret3
            exact read_none (by omega) HD.out
          · by_cases hz0 : z = 0
            · have hrd : rdF (10 - k) k u (z :: l.drop (a + k + 1)) = none := by rw [hz0]; exact rd_zero (by omega) (by omega)
              rw [← drop_cons HZ.out, ← HR.out] at hrd
              have HD := hide hrd
              have dz0 : (z == 0) = true := by simpa using hz0
              have hk1 : 9 ≤ k := by omega
              have dk0 : decide (0 < k) = true := by simp; omega
              clear hrd hu2 h9 hz0
              go_wp2
              go_ret3
              exact read_none (by omega) HD.out
            · have dz0 : (z == 0) = false := by simpa using hz0
              have hzk : ¬ (z = 0 ∧ 0 < k) := fun h => hz0 h.1
              have hk1 : 9 ≤ k := by omega
              have h128 : ¬ 128 ≤ z := by omega
              have hor := or_step u z k hu hu2 hzb (by omega) (by omega)
              rw [Int.emod_eq_of_lt hzb.1 (by omega)] at hor
              have hbd := last_bd u z k hu hu2 ⟨hzb.1, by omega⟩ (by omega) (by omega)
              have hrd := rd_last (k := k) (u := u) (z := z) (r := l.drop (a + k + 1)) (by omega) (by omega) (by omega) hzk
              rw [← drop_cons HZ.out, ← HR.out] at hrd
              have HD := hide hrd
              clear hrd
              generalize u + z * 128 ^ k = v at *
              have h1 := and1 v hbd.1 hbd.2
              rcases (show v % 2 = 1 ∨ v % 2 = 0 by omega) with hv | hv
              · have ht : (bits .and .u64 v 1 == 1) = true := by rw [h1, hv]; rfl
                have HV := hide hv
                clear h1 hv hu2 h9
                go_wp2
                go_ret3
                exact read_some (by omega) HD.out (by rw [unzig_odd HV.out] <;> first | exact not_half hbd.1 hbd.2 | omega) (by omega)
              · have ht : (bits .and .u64 v 1 == 1) = false := by rw [h1, hv]; rfl
                have HV := hide hv
                clear h1 hv hu2 h9
                go_wp2
                go_ret3
                exact read_some (by omega) HD.out (by rw [unzig_even (by have := HV.out; omega)]) (by omega)
        · obtain rfl : k = 10 := by omega
          have hrd := rd_ten (u := u) (r := l.drop (a + 10))
          rw [← HR.out] at hrd
          have HD := hide hrd
          clear hrd hu2
          go_wp2
          go_ret3
          exact read_none (by omega) HD.out
    · have hrd := rd_end (k := k) (u := u)
      rw [← show l.drop (a + k) = [] from List.drop_eq_nil_of_le (by omega), ← HR.out] at hrd
      have HD := hide hrd
      clear hrd hu2 h hb
      by_cases h10 : k < 10
      · go_wp2
        go_ret3
        exact read_none (by omega) HD.out
      · go_wp2
        go_ret3
        exact read_none (by omega) HD.out
theorem tread_out (A : Option Addr) (n c : Nat) (a : Int) (l : List Int) (w : World) (hl : l.length = n) (ha : a < 0 ∨ (n : Int) < a) :
    Calls Try.prog 38 #[.slice A n c, .int .i64 a] w (ReadEnd l a w) := by
  have HV := hide (readV_out (l := l) (a := a) (by rw [hl]; exact ha))
  rcases ha with ha | ha
  · have d1 := decide_eq_true ha
    go_enter Try.func38, Try.ntmps38
    go_wp2
    go_ret3
    exact ⟨by rw [HV.out]; rfl, rfl⟩
  · have d1 := decide_eq_false (p := a < 0) (by omega)
    have d2 := decide_eq_true ha
    go_enter Try.func38, Try.ntmps38
    go_wp2
    go_ret3
    exact ⟨by rw [HV.out]; rfl, rfl⟩
theorem tread_any (A : Option Addr) (n c B : Nat) (a : Int) (l : List Int) (w : World) (h : Sl w B A n (l.map (Value.int .u8))) (hb : Bytes l) (hn : n ≤ 9223372036854775000) :
    Calls Try.prog 38 #[.slice A n c, .int .i64 a] w (ReadEnd l a w) := by
  by_cases ha : a < 0 ∨ (n : Int) < a
  · exact tread_out A n c a l w h.len ha
  · obtain ⟨k, rfl⟩ := Int.eq_ofNat_of_zero_le (a := a) (by omega)
    exact tread_in A n c B k l w h hb hn (by omega)
theorem rread_out (A : Option Addr) (n c : Nat) (a : Int) (l : List Int) (w : World) (hl : l.length = n) (ha : a < 0 ∨ (n : Int) < a) :
    Calls Try.prog 17 #[.slice A n c, .int .i64 a] w (ReadEnd l a w) := by
  have HV := hide (readV_out (l := l) (a := a) (by rw [hl]; exact ha))
  rcases ha with ha | ha
  · have d1 := decide_eq_true ha
    go_enter Try.func17, Try.ntmps17
    go_wp2
    go_ret3
    exact ⟨by rw [HV.out]; rfl, rfl⟩
  · have d1 := decide_eq_false (p := a < 0) (by omega)
    have d2 := decide_eq_true ha
    go_enter Try.func17, Try.ntmps17
    go_wp2
    go_ret3
    exact ⟨by rw [HV.out]; rfl, rfl⟩
theorem rread_any (A : Option Addr) (n c B : Nat) (a : Int) (l : List Int) (w : World) (h : Sl w B A n (l.map (Value.int .u8))) (hb : Bytes l) (hn : n ≤ 9223372036854775000) :
    Calls Try.prog 17 #[.slice A n c, .int .i64 a] w (ReadEnd l a w) := by
  by_cases ha : a < 0 ∨ (n : Int) < a
  · exact rread_out A n c a l w h.len ha
  · obtain ⟨k, rfl⟩ := Int.eq_ofNat_of_zero_le (a := a) (by omega)
    exact rread_in A n c B k l w h hb hn (by omega)
theorem cread_any (A : Option Addr) (n c B : Nat) (a : Int) (l : List Int) (w : World) (h : Sl w B A n (l.map (Value.int .u8))) (hb : Bytes l) (hn : n ≤ 9223372036854775000) :
    Calls Try.prog 16 #[.slice A n c, .int .i64 a] w (ReadEnd l a w) := by
  have C1 := hide (tread_any A n c B a l w h hb hn)
  clear h hb hn
  go_enter Try.func16, Try.ntmps16
  go_wp2_with (go_at_call 38; refine C1.out.mono ?_; rintro e w' ⟨rfl, rfl⟩)
  go_ret3
  exact ⟨rfl, rfl⟩
end Go.Proofs.Ytlcgpldngooekaa
