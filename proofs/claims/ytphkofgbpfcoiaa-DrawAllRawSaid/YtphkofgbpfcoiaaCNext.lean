/- Contracts of the next draw. -/
import Derived.Test.YtphkofgbpfcoiaaCWeight
namespace Go.Proofs.Ytphkofgbpfcoiaa
open Go.RowKit
set_option linter.unusedVariables false
def nextV (l : List Int) (a m : Int) : Int × Int × Int :=
  if m < 1 ∨ a < 0 then (0, 0, 1) else
  match l[a.toNat]? with
  | none => (0, 0, 8)
  | some d => if 0 ≤ d ∧ d < m then (d, a + 1, 0) else (0, 0, 8)
def NextEnd (l : List Int) (a m : Int) (w : World) (e : Ending) (w' : World) : Prop := e = .returned (.tuple #[.int .i64 (nextV l a m).1, .int .i64 (nextV l a m).2.1, .int .i64 (nextV l a m).2.2]) ∧ w = w'
theorem next_at {l : List Int} {a m p q r : Int} {w : World} (h : nextV l a m = (p, q, r)) : NextEnd l a m w (.returned (.tuple #[.int .i64 p, .int .i64 q, .int .i64 r])) w := by
  unfold NextEnd; rw [h]; exact ⟨rfl, rfl⟩
set_option maxRecDepth 100000 in
theorem next_any (A : Option Addr) (n c B : Nat) (a m : Int) (l : List Int) (w : World) (h : Sl w B A n (l.map (Value.int .i64))) (hn : n ≤ 9223372036854775807) :
    Calls Try.prog 12 #[.slice A n c, .int .i64 a, .int .i64 m] w (NextEnd l a m w) := by
  have hl := h.len
  by_cases h1 : m < 1
  · have HN := hide (show nextV l a m = (0, 0, 1) from if_pos (.inl h1))
    clear h hl
    go_enter Try.func12, Try.ntmps12
    go_wp2
    go_ret3
    exact next_at HN.out
  · by_cases h2 : a < 0
    · have HN := hide (show nextV l a m = (0, 0, 1) from if_pos (.inr h2))
      clear h hl
      go_enter Try.func12, Try.ntmps12
      go_wp2
      go_ret3
      exact next_at HN.out
    · obtain ⟨k, rfl⟩ := Int.eq_ofNat_of_zero_le (a := a) (by omega)
      have hv : nextV l k m = match l[k]? with | none => (0, 0, 8) | some d => if 0 ≤ d ∧ d < m then (d, (k : Int) + 1, 0) else (0, 0, 8) := by
        unfold nextV; rw [if_neg (by omega)]; rfl
      by_cases h3 : k < n
      · obtain ⟨b, o, z, rfl, hbB, hz, hc⟩ := h.int h3
        rw [hz] at hv
        by_cases h4 : 0 ≤ z
        · by_cases h5 : z < m
          · have HN := hide (show nextV l k m = (z, (k : Int) + 1, 0) by rw [hv]; exact if_pos ⟨h4, h5⟩)
            clear h hl hv hz
            go_enter Try.func12, Try.ntmps12
            go_wp2
            go_ret3
            exact next_at HN.out
          · have HN := hide (show nextV l k m = (0, 0, 8) by rw [hv]; exact if_neg (fun c => h5 c.2))
            clear h hl hv hz
            go_enter Try.func12, Try.ntmps12
            go_wp2
            go_ret3
            exact next_at HN.out
        · have HN := hide (show nextV l k m = (0, 0, 8) by rw [hv]; exact if_neg (fun c => h4 c.1))
          clear h hl hv hz
          go_enter Try.func12, Try.ntmps12
          go_wp2
          go_ret3
          exact next_at HN.out
      · have hz : l[k]? = none := List.getElem?_eq_none (by omega)
        have HN := hide (show nextV l k m = (0, 0, 8) by rw [hv, hz])
        clear h hl hv hz
        go_enter Try.func12, Try.ntmps12
        go_wp2
        go_ret3
        exact next_at HN.out
set_option maxRecDepth 100000 in
theorem rnext_any (A : Option Addr) (n c B : Nat) (a m : Int) (l : List Int) (w : World) (h : Sl w B A n (l.map (Value.int .i64))) (hn : n ≤ 9223372036854775807) :
    Calls Try.prog 13 #[.slice A n c, .int .i64 a, .int .i64 m] w (NextEnd l a m w) := by
  have hl := h.len
  by_cases h1 : m < 1
  · have HN := hide (show nextV l a m = (0, 0, 1) from if_pos (.inl h1))
    clear h hl
    go_enter Try.func13, Try.ntmps13
    go_wp2
    go_ret3
    exact next_at HN.out
  · by_cases h2 : a < 0
    · have HN := hide (show nextV l a m = (0, 0, 1) from if_pos (.inr h2))
      clear h hl
      go_enter Try.func13, Try.ntmps13
      go_wp2
      go_ret3
      exact next_at HN.out
    · obtain ⟨k, rfl⟩ := Int.eq_ofNat_of_zero_le (a := a) (by omega)
      have hv : nextV l k m = match l[k]? with | none => (0, 0, 8) | some d => if 0 ≤ d ∧ d < m then (d, (k : Int) + 1, 0) else (0, 0, 8) := by
        unfold nextV; rw [if_neg (by omega)]; rfl
      by_cases h3 : k < n
      · obtain ⟨b, o, z, rfl, hbB, hz, hc⟩ := h.int h3
        rw [hz] at hv
        by_cases h4 : 0 ≤ z
        · by_cases h5 : z < m
          · have HN := hide (show nextV l k m = (z, (k : Int) + 1, 0) by rw [hv]; exact if_pos ⟨h4, h5⟩)
            clear h hl hv hz
            go_enter Try.func13, Try.ntmps13
            go_wp2
            go_ret3
            exact next_at HN.out
          · have HN := hide (show nextV l k m = (0, 0, 8) by rw [hv]; exact if_neg (fun c => h5 c.2))
            clear h hl hv hz
            go_enter Try.func13, Try.ntmps13
            go_wp2
            go_ret3
            exact next_at HN.out
        · have HN := hide (show nextV l k m = (0, 0, 8) by rw [hv]; exact if_neg (fun c => h4 c.1))
          clear h hl hv hz
          go_enter Try.func13, Try.ntmps13
          go_wp2
          go_ret3
          exact next_at HN.out
      · have hz : l[k]? = none := List.getElem?_eq_none (by omega)
        have HN := hide (show nextV l k m = (0, 0, 8) by rw [hv, hz])
        clear h hl hv hz
        go_enter Try.func13, Try.ntmps13
        go_wp2
        go_ret3
        exact next_at HN.out
end Go.Proofs.Ytphkofgbpfcoiaa
