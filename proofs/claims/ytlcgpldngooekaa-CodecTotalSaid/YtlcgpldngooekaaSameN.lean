/- The contract of the comparison of lists of numbers. -/
import Derived.Test.YtlcgpldngooekaaSum
import Derived.BigRegion
import Derived.Deep.QuietTactic
import Derived.BigQuiet
namespace Go.Proofs.Ytlcgpldngooekaa
open Go.RowKit
set_option linter.unusedVariables false
def SameEnd (a b : List Int) (w : World) (e : Ending) (w' : World) : Prop := e = .returned (.bool (decide (a = b))) ∧ ∃ n, w' = w.drewN n
theorem same_no {a b : List Int} {w : World} {n : Nat} (h : a ≠ b) : SameEnd a b w (.returned (.bool false)) (w.drewN n) := ⟨by rw [decide_eq_false h], n, rfl⟩
theorem same_yes {a b : List Int} {w : World} {n : Nat} (h : a = b) : SameEnd a b w (.returned (.bool true)) (w.drewN n) := ⟨by rw [decide_eq_true h], n, rfl⟩
set_option maxRecDepth 100000 in
theorem same_any (A A2 : Option Addr) (n c B n2 c2 B2 : Nat) (a b : List Int) (w : World) (h : Sl w B A n (a.map (Value.int .i64))) (hn : n ≤ 9223372036854775807) (k : Sl w B2 A2 n2 (b.map (Value.int .i64))) (hn2 : n2 ≤ 9223372036854775807) :
    Calls Try.prog 25 #[.slice A n c, .slice A2 n2 c2] w (SameEnd a b w) := by
  have hl := h.len
  have kl := k.len
  by_cases hlen : n = n2
  · subst hlen
    go_enter Try.func25, Try.ntmps25
    go_wp2
    go_loopw [13] (fun i wr => ∃ j : Nat, j ≤ n ∧ a.take j = b.take j ∧ i = .int .i64 j ∧ ∃ q, wr = w.drewN q) (fun i _ => n - (intOf i).toNat)
    case atStart => exact ⟨0, Nat.zero_le _, rfl, rfl, 0, rfl⟩
    case round =>
      obtain ⟨j, hj, he, rfl, q, rfl⟩ := hrel
      have HE := hide he
      clear he
      by_cases hlt : j < n
      · obtain ⟨b1, o1, x, rfl, hb1, hx, hc1⟩ := h.int hlt
        obtain ⟨b2, o2, y, rfl, hb2, hy, hc2⟩ := k.int hlt
        have HX := hide hx
        have HY := hide hy
        by_cases hxy : x = y
        · have hne : (x != y) = false := by simp [hxy]
          have HXY := hide hxy
          clear hx hy h k hl kl hxy
          go_wp2
          go_quiet (fail)
          go_wp2
          go_roundw
          case rel => exact ⟨j + 1, by omega, by rw [take_snoc HX.out, take_snoc HY.out, HE.out, HXY.out], by go_num, _, rfl⟩
          case measure => simp [intOf]; omega
        · have hne : (x != y) = true := by simpa using hxy
          have HN := hide (show a ≠ b from fun c => by subst c; rw [hx] at hy; injection hy with hy; exact hxy hy)
          clear hx hy h k hl kl hxy
          go_wp2
          go_quiet (fail)
          go_wp2
          go_ret
          rw [World.drewN_drewN]
          exact same_no HN.out
      · have HN := hide (show a = b by have := HE.out; rwa [List.take_of_length_le (by omega), List.take_of_length_le (by omega)] at this)
        clear h k hl kl
        go_wp2
        go_ret
        exact same_yes HN.out
  · have HN := hide (show a ≠ b from fun c => by subst c; omega)
    have hne : ((n : Int) != n2) = true := by simp; omega
    clear h k hl kl hlen
    go_enter Try.func25, Try.ntmps25
    go_wp2
    go_ret
    exact same_no (n := 0) HN.out
end Go.Proofs.Ytlcgpldngooekaa
