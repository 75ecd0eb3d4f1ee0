/- Contracts of the roots. -/
import Derived.Test.YtegfchjnkkobcaaPlain
import Derived.Test.YtegfchjnkkobcaaProg
import Derived.WalkKit
namespace Go.Proofs.Ytegfchjnkkobcaa
open Go.RowKit
/-- r is the integer root of n, and 0 where n is below 0 -/
def IsRoot (n r : Int) : Prop := (n < 0 ∧ r = 0) ∨ (0 ≤ r ∧ r ≤ 3037000499 ∧ r * r ≤ n ∧ n < (r + 1) * (r + 1))
theorem isRoot_uniq {n a b : Int} (h : IsRoot n a) (k : IsRoot n b) : a = b := by
  rcases h with ⟨h1, h2⟩ | ⟨h1, _, h2, h3⟩ <;> rcases k with ⟨k1, k2⟩ | ⟨k1, _, k2, k3⟩
  · omega
  · have := sq_mono (a := 0) (b := b) (by omega) k1; omega
  · have := sq_mono (a := 0) (b := a) (by omega) h1; omega
  · exact root_uniq h1 h2 h3 k1 k2 k3
/-- what a root function comes to -/
def RootEnd (n : Int) (w : World) (e : Ending) (w' : World) : Prop := ∃ r : Int, IsRoot n r ∧ e = .returned (.int .i64 r) ∧ w = w'
theorem root_any (n : Int) (hn : Fit n) (w : World) : Calls Try.prog 22 #[.int .i64 n] w (RootEnd n w) := by
  unfold Fit at hn
  by_cases h0 : n < 0
  · go_enter Try.func22, Try.ntmps22
    go_wp2
    go_ret
    exact ⟨0, .inl ⟨h0, rfl⟩, rfl, rfl⟩
  · have hs := RInv.start (n := n) (by omega) (by omega)
    go_enter Try.func22, Try.ntmps22
    go_wp2
    go_loop [3, 4] (fun x y => ∃ (j : Nat) (r b : Int), RInv n r b j ∧ x = .int .i64 r ∧ y = .int .i64 b) (fun _ y => (intOf y).toNat)
    case atStart => exact ⟨32, 0, 2147483648, hs, rfl, rfl⟩
    case round =>
      obtain ⟨j, r, b, hi, rfl, rfl⟩ := hrel
      have hb := hi.bit_pos.2
      have hr : 0 ≤ r ∧ r ≤ 3037000499 := ⟨hi.2.2.1, hi.2.2.2.1⟩
      by_cases hp : 0 < b
      · by_cases hc : r + b ≤ 3037000499
        · have hq := RInv.sq_bd (r := r) (b := b) (by omega) hc
          by_cases hd : (r + b) * (r + b) ≤ n
          · go_wp2
            go_round
            case rel => exact ⟨j - 1, r + b, b / 2, hi.yes hp hc hd, by first | rfl | go_num, by first | rfl | go_num⟩
            case measure => simp [intOf]; omega
          · go_wp2
            go_round
            case rel => exact ⟨j - 1, r, b / 2, hi.no hp (by omega) (fun _ => hd), by first | rfl | go_num, by first | rfl | go_num⟩
            case measure => simp [intOf]; omega
        · go_wp2
          go_round
          case rel => exact ⟨j - 1, r, b / 2, hi.no hp (by omega) (fun h => absurd h hc), by first | rfl | go_num, by first | rfl | go_num⟩
          case measure => simp [intOf]; omega
      · go_wp2
        go_ret
        exact ⟨r, .inr (hi.done (by omega)), rfl, rfl⟩
theorem rroot_any (n : Int) (hn : Fit n) (w : World) : Calls Try.prog 23 #[.int .i64 n] w (RootEnd n w) := by
  unfold Fit at hn
  by_cases h0 : n < 0
  · go_enter Try.func23, Try.ntmps23
    go_wp2
    go_ret
    exact ⟨0, .inl ⟨h0, rfl⟩, rfl, rfl⟩
  · have hs := RInv.start (n := n) (by omega) (by omega)
    go_enter Try.func23, Try.ntmps23
    go_wp2
    go_loop [3, 4] (fun x y => ∃ (j : Nat) (r b : Int), RInv n r b j ∧ x = .int .i64 r ∧ y = .int .i64 b) (fun _ y => (intOf y).toNat)
    case atStart => exact ⟨32, 0, 2147483648, hs, rfl, rfl⟩
    case round =>
      obtain ⟨j, r, b, hi, rfl, rfl⟩ := hrel
      have hb := hi.bit_pos.2
      have hr : 0 ≤ r ∧ r ≤ 3037000499 := ⟨hi.2.2.1, hi.2.2.2.1⟩
      by_cases hp : 0 < b
      · by_cases hc : r + b ≤ 3037000499
        · have hq := RInv.sq_bd (r := r) (b := b) (by omega) hc
          by_cases hd : (r + b) * (r + b) ≤ n
          · go_wp2
            go_round
            case rel => exact ⟨j - 1, r + b, b / 2, hi.yes hp hc hd, by first | rfl | go_num, by first | rfl | go_num⟩
            case measure => simp [intOf]; omega
          · go_wp2
            go_round
            case rel => exact ⟨j - 1, r, b / 2, hi.no hp (by omega) (fun _ => hd), by first | rfl | go_num, by first | rfl | go_num⟩
            case measure => simp [intOf]; omega
        · go_wp2
          go_round
          case rel => exact ⟨j - 1, r, b / 2, hi.no hp (by omega) (fun h => absurd h hc), by first | rfl | go_num, by first | rfl | go_num⟩
          case measure => simp [intOf]; omega
      · go_wp2
        go_ret
        exact ⟨r, .inr (hi.done (by omega)), rfl, rfl⟩
end Go.Proofs.Ytegfchjnkkobcaa
