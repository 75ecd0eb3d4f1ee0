/- Lists of items in memory, the place of an element, and the comparison of lists. -/
import Derived.Test.YtjbfefkbpnickaaWords
import Derived.Outline
import Derived.BigRegion
import Derived.Deep.QuietTactic
import Derived.BigQuiet
import Derived.Test.YtjbfefkbpnickaaProg
namespace Go.Proofs.Ytjbfefkbpnickaa
open Go.RowKit
set_option linter.unusedVariables false
def ringV (cap head len : Int) (A : Option Addr) (n c : Nat) : Value := .agg #[.int .i64 cap, .int .i64 head, .int .i64 len, .slice A n c]
set_option maxRecDepth 100000 in
theorem at_any (cap head len : Int) (A : Option Addr) (n c : Nat) (i : Int) (w : World) (hc : 1 ≤ cap ∧ cap ≤ 65536) (hh : 0 ≤ head ∧ head < cap) (hi : 0 ≤ i ∧ i ≤ cap) :
    Calls Try.prog 29 #[ringV cap head len A n c, .int .i64 i] w (fun e w' => e = .returned (.int .i64 ((head + i) % cap)) ∧ Below w.heap.size w w') := by
  unfold ringV
  go_enter Try.func29, Try.ntmps29
  go_wp2
  go_ret
  exact ⟨rfl, (Below.refl _ _).alloc (Nat.le_refl _) _⟩
def itC (p : (Int × Int)) : List Value := [.int .i64 p.1, .int .i64 p.2]
def itV (p : (Int × Int)) : Value := .agg #[.int .i64 p.1, .int .i64 p.2]
def flat (l : List (Int × Int)) : List Value := l.flatMap itC
/-- the slice of address A and length n holds the items l, in a block below B -/
def Sl2 (w : World) (B : Nat) (A : Option Addr) (n : Nat) (l : List (Int × Int)) : Prop :=
  l.length = n ∧ (0 < n → ∃ b o, A = some ⟨b, o, none⟩ ∧ b < B ∧ ∀ i p, l[i]? = some p → w.cell? ⟨b, o + i * 2, none⟩ = some (.int .i64 p.1) ∧ w.cell? ⟨b, o + i * 2 + 1, none⟩ = some (.int .i64 p.2))
section
variable {w w' : World} {B B' n : Nat} {A : Option Addr} {l : List (Int × Int)}
theorem Sl2.none_ : Sl2 w B A 0 [] := ⟨rfl, fun h => absurd h (by omega)⟩
theorem Sl2.more (h : Sl2 w B A n l) (hB : B ≤ B') : Sl2 w B' A n l :=
  ⟨h.1, fun hn => by
    obtain ⟨b, o, e, hb, hc⟩ := h.2 hn
    exact ⟨b, o, e, by omega, hc⟩⟩
theorem Sl2.below (h : Sl2 w B A n l) (hk : Below B w w') : Sl2 w' B A n l :=
  ⟨h.1, fun hn => by
    obtain ⟨b, o, e, hb, hc⟩ := h.2 hn
    refine ⟨b, o, e, hb, fun i p hp => ?_⟩
    rw [below_cell hk hb, below_cell hk hb]
    exact hc i p hp⟩
theorem Sl2.drewN (h : Sl2 w B A n l) (k : Nat) : Sl2 (w.drewN k) B A n l := h
theorem Sl2.at_ (h : Sl2 w B A n l) {j : Nat} (hj : j < n) : ∃ b o p q, A = some ⟨b, o, none⟩ ∧ b < B ∧ l[j]? = some (p, q) ∧ w.cell? ⟨b, o + j * 2, none⟩ = some (.int .i64 p) ∧ w.cell? ⟨b, o + j * 2 + 1, none⟩ = some (.int .i64 q) := by
  obtain ⟨b, o, e, hb, hc⟩ := h.2 (by omega)
  have hl : j < l.length := by have := h.1; omega
  have hg := List.getElem?_eq_getElem hl
  exact ⟨b, o, l[j].1, l[j].2, e, hb, hg, (hc j _ hg).1, (hc j _ hg).2⟩
end
def SameEnd (a b : List (Int × Int)) (w : World) (e : Ending) (w' : World) : Prop := e = .returned (.bool (decide (a = b))) ∧ ∃ n, w' = w.drewN n
theorem same_no {a b : List (Int × Int)} {w : World} {n : Nat} (h : a ≠ b) : SameEnd a b w (.returned (.bool false)) (w.drewN n) := ⟨by rw [decide_eq_false h], n, rfl⟩
theorem same_yes {a b : List (Int × Int)} {w : World} {n : Nat} (h : a = b) : SameEnd a b w (.returned (.bool true)) (w.drewN n) := ⟨by rw [decide_eq_true h], n, rfl⟩
set_option maxRecDepth 100000 in
theorem same_any (A A2 : Option Addr) (n c B n2 c2 B2 : Nat) (a b : List (Int × Int)) (w : World) (h : Sl2 w B A n a) (hn : n ≤ 1000000000) (k : Sl2 w B2 A2 n2 b) (hn2 : n2 ≤ 1000000000) :
    Calls Try.prog 23 #[.slice A n c, .slice A2 n2 c2] w (SameEnd a b w) := by
  have hl := h.1
  have kl := k.1
  by_cases hlen : n = n2
  · subst hlen
    go_enter Try.func23, Try.ntmps23
    go_wp2
    go_loopw [13] (fun i wr => ∃ j : Nat, j ≤ n ∧ a.take j = b.take j ∧ i = .int .i64 j ∧ ∃ q, wr = w.drewN q) (fun i _ => n - (intOf i).toNat)
    case atStart => exact ⟨0, Nat.zero_le _, rfl, rfl, 0, rfl⟩
    case round =>
      obtain ⟨j, hj, he, rfl, q, rfl⟩ := hrel
      have HE := hide he
      clear he
      by_cases hlt : j < n
      · obtain ⟨b1, o1, x, x2, rfl, hb1, hx, hc1, hd1⟩ := h.at_ hlt
        obtain ⟨b2, o2, y, y2, rfl, hb2, hy, hc2, hd2⟩ := k.at_ hlt
        have HX := hide hx
        have HY := hide hy
        by_cases hxy : x = y ∧ x2 = y2
        · obtain ⟨hx1, hx2⟩ := hxy
          have HXY := hide hx1
          have HXY2 := hide hx2
          clear hx hy h k hl kl
          go_wp2
          go_quiet (fail)
          go_wp2
          go_roundw
          case rel => exact ⟨j + 1, by omega, by rw [take_snoc HX.out, take_snoc HY.out, HE.out, HXY.out, HXY2.out], by go_num, _, rfl⟩
          case measure => simp [intOf]; omega
        · have HN := hide (show a ≠ b from fun c => by subst c; rw [hx] at hy; injection hy with hy; injection hy with hy1 hy2; exact hxy ⟨hy1, hy2⟩)
          clear hx hy h k hl kl
          rcases (show x ≠ y ∨ (x = y ∧ x2 ≠ y2) by omega) with hne | ⟨he1, hne⟩
          · have hne1 : (x == y) = false := by simpa using hne
            have hne2 : (x != y) = true := by simpa using hne
            clear hxy
            go_wp2
            go_quiet (fail)
            go_wp2
            go_ret
            rw [World.drewN_drewN]
            exact same_no HN.out
          · have hne1 : (x2 == y2) = false := by simpa using hne
            have hne2 : (x2 != y2) = true := by simpa using hne
            clear hxy
            go_wp2
            go_quiet (fail)
            go_wp2
            go_ret
            rw [World.drewN_drewN]
            exact same_no HN.out
      · have HN := hide (show a = b by have := HE.out; rwa [List.take_of_length_le (by omega), List.take_of_length_le (by omega)] at this)
        clear h k hl kl
        go_wp2
        go_ret
        exact same_yes HN.out
  · have HN := hide (show a ≠ b from fun c => by subst c; omega)
    have hne : ((n : Int) != n2) = true := by simp; omega
    clear h k hl kl hlen
    go_enter Try.func23, Try.ntmps23
    go_wp2
    go_ret
    exact same_no (n := 0) HN.out
end Go.Proofs.Ytjbfefkbpnickaa
