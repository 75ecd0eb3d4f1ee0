/- The walk of the law on empty buffers: it returns true. -/
import Derived.Test.YtjbfefkbpnickaaAwake
namespace Go.Proofs.Ytjbfefkbpnickaa
open Go.RowKit
set_option linter.unusedVariables false
theorem same_zero (w : World) : Calls Try.prog 11 #[.agg #[.int .i64 0, .int .i64 0, .int .i64 0, .slice none 0 0], .agg #[.int .i64 0, .int .i64 0, .int .i64 0, .slice none 0 0]] w (fun e w' => e = .returned (.bool true) ∧ Below w.heap.size w w') :=
  same_ring 0 0 0 none 0 0 0 [] 0 0 0 none 0 0 0 [] w Sl2.none_ (Nat.zero_le _) Sl2.none_ (Nat.zero_le _) (by omega) (by omega) rfl rfl rfl rfl
set_option maxRecDepth 100000 in
theorem ringNew_walk (cap : Int) (w : World) (w0 : (Lit.int .i64 cap).wf = true) :
    Calls Try.prog 3 #[.int .i64 cap] w fun e w' => e = .returned (.bool true) ∧ Below w.heap.size w w' := by
  have C12 := hide awake_any
  have C11 := hide same_zero
  clear w0
  by_cases h : cap < 1 ∨ 65536 < cap
  · have C10 := hide (new_bad cap w h)
    unfold ringV at C10
    have hd : cap < 1 ∨ (1 ≤ cap ∧ 65536 < cap) := by omega
    clear h
    rcases hd with h1 | ⟨h0, h1⟩
    all_goals
      go_enter Try.func3, Try.ntmps3
      go_wp2_with (fail)
      refine C10.out.mono ?_
      rintro e w1 ⟨rfl, hb1⟩
      have HB1 := hide hb1
      clear hb1
      go_wp2_with (fail)
      refine (C11.out _).mono ?_
      rintro e w2 ⟨rfl, hb2⟩
      have hb3 : Below w.heap.size w w2 := (HB1.out.alloc HB1.out.size _).trans (hb2.mono (by have := HB1.out.size; simp; omega))
      have HB3 := hide hb3
      clear hb2 hb3
      go_wp2_with (fail)
      refine (C12.out _).mono ?_
      rintro e w3 ⟨rfl, hb4⟩
      have hb5 := HB3.out.trans (hb4.mono HB3.out.size)
      clear hb4
      go_wp2
      go_ret
      exact ⟨rfl, hb5⟩
  · obtain ⟨n, rfl⟩ := Int.eq_ofNat_of_zero_le (a := cap) (by omega)
    have hn : 1 ≤ n ∧ n ≤ 65536 := by omega
    have h1 : 1 ≤ (n : Int) := by omega
    have h2 : (n : Int) ≤ 65536 := by omega
    have C10 := hide (new_ok n w hn)
    unfold ringV at C10
    have hee : ((n : Int) == n) = true := by simp
    have HRG := hide (rg_nil n hn)
    clear h hn
    go_enter Try.func3, Try.ntmps3
    go_wp2_with (fail)
    refine C10.out.mono ?_
    rintro e w1 ⟨A1, c1, rfl, hown1, hb1⟩
    have hs1 := Sl2.of_own hown1
    have C13 := hide (fun w0 (hb : Below w1.heap.size w1 w0) => validate_any n 0 0 A1 n c1 _ (cellsL n 0 []) w0 (hs1.below hb) hb.size)
    unfold VEnd ringV at C13
    have hvok := HRG.out.ok
    rw [vV_yes (by simpa using hvok)] at C13
    have HB1 := hide hb1
    clear hown1 hs1 hb1 hvok
    go_wp2_with (fail)
    refine (C13.out _ ((Below.refl _ _).alloc (Nat.le_refl _) _)).mono ?_
    rintro e w2 ⟨rfl, hb2⟩
    have hb3 : Below w.heap.size w w2 := (HB1.out.alloc HB1.out.size _).trans (hb2.mono (by have := HB1.out.size; simp; omega))
    have HB3 := hide hb3
    clear hb2 hb3
    go_wp2_with (fail)
    refine (C12.out _).mono ?_
    rintro e w3 ⟨rfl, hb4⟩
    have hb5 := HB3.out.trans (hb4.mono HB3.out.size)
    clear hb4
    go_wp2
    go_ret
    exact ⟨rfl, hb5⟩
end Go.Proofs.Ytjbfefkbpnickaa
