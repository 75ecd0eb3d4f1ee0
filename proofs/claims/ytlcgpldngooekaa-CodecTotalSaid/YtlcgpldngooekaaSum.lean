/- The checksum: plain facts, the contracts of both functions, the example, and the walk of the law. -/
import Derived.Test.YtlcgpldngooekaaWords
import Derived.Test.YtlcgpldngooekaaProg
import Derived.Outline
namespace Go.Proofs.Ytlcgpldngooekaa
open Go.RowKit
set_option linter.unusedVariables false
def stepS (s : Int × Int) (x : Int) : Int × Int := ((s.1 + x) % 65521, (s.2 + (s.1 + x) % 65521) % 65521)
def stS (l : List Int) : Int × Int := l.foldl stepS (1, 0)
def sumV (l : List Int) : Int := 65536 * (stS l).2 + (stS l).1
theorem stS_snoc (l : List Int) (x : Int) : stS (l ++ [x]) = stepS (stS l) x := by simp [stS]
theorem stS_bd (l : List Int) : 0 ≤ (stS l).1 ∧ (stS l).1 ≤ 65520 ∧ 0 ≤ (stS l).2 ∧ (stS l).2 ≤ 65520 := by
  rw [← List.take_length (l := l)]
  generalize l.length = n
  induction n generalizing l with
  | zero => simp [stS]
  | succ n ih =>
    rcases h : l[n]? with _ | z
    · have : l.take (n + 1) = l.take n := by
        rw [List.take_of_length_le, List.take_of_length_le] <;> (have := List.getElem?_eq_none_iff.1 h; omega)
      rw [this]; exact ih l
    · rw [take_snoc h, stS_snoc]
      unfold stepS
      simp only []
      omega
def Bytes (l : List Int) : Prop := ∀ x ∈ l, 0 ≤ x ∧ x ≤ 255
def SumEnd (l : List Int) (w : World) (e : Ending) (w' : World) : Prop := e = .returned (.int .i64 (sumV l)) ∧ w = w'
theorem sum_any (A : Option Addr) (n c B : Nat) (l : List Int) (w : World) (h : Sl w B A n (l.map (Value.int .u8))) (hb : Bytes l) (hn : n ≤ 9223372036854775807) :
    Calls Try.prog 13 #[.slice A n c] w (SumEnd l w) := by
  have hl := h.len
  go_enter Try.func13, Try.ntmps13
  go_wp2
  go_loop [3, 4, 9] (fun a b i => ∃ (j : Nat) (p q : Int), j ≤ n ∧ (p, q) = stS (l.take j) ∧ i = .int .i64 j ∧ a = .int .i64 p ∧ b = .int .i64 q) (fun _ _ i => n - (intOf i).toNat)
  case atStart => exact ⟨0, 1, 0, Nat.zero_le _, rfl, rfl, rfl, rfl⟩
  case round =>
    obtain ⟨j, p, q, hj, hpq, rfl, rfl, rfl⟩ := hrel
    have hbd := stS_bd (l.take j)
    rw [← hpq] at hbd
    simp only [] at hbd
    have HP := hide hpq
    clear hpq
    by_cases hlt : j < n
    · obtain ⟨b, o, z, rfl, hbB, hz, hc⟩ := h.int hlt
      have hzb := hb z (mem_of_at hz)
      have HZ := hide hz
      clear hz h hb hl
      go_wp2
      go_round
      case rel => exact ⟨j + 1, (p + z) % 65521, (q + (p + z) % 65521) % 65521, by omega, by rw [take_snoc HZ.out, stS_snoc, ← HP.out]; rfl, by go_num, by first | rfl | go_num, by first | rfl | go_num⟩
      case measure => simp [intOf]; omega
    · go_wp2
      go_ret
      refine ⟨ret_int ?_, rfl⟩
      have e := HP.out
      rw [List.take_of_length_le (by omega)] at e
      unfold sumV
      rw [← e]
theorem rsum_any (A : Option Addr) (n c B : Nat) (l : List Int) (w : World) (h : Sl w B A n (l.map (Value.int .u8))) (hb : Bytes l) (hn : n ≤ 9223372036854775807) :
    Calls Try.prog 14 #[.slice A n c] w (SumEnd l w) := by
  have hl := h.len
  go_enter Try.func14, Try.ntmps14
  go_wp2
  go_loop [3, 4, 9] (fun a b i => ∃ (j : Nat) (p q : Int), j ≤ n ∧ (p, q) = stS (l.take j) ∧ i = .int .i64 j ∧ a = .int .i64 p ∧ b = .int .i64 q) (fun _ _ i => n - (intOf i).toNat)
  case atStart => exact ⟨0, 1, 0, Nat.zero_le _, rfl, rfl, rfl, rfl⟩
  case round =>
    obtain ⟨j, p, q, hj, hpq, rfl, rfl, rfl⟩ := hrel
    have hbd := stS_bd (l.take j)
    rw [← hpq] at hbd
    simp only [] at hbd
    have HP := hide hpq
    clear hpq
    by_cases hlt : j < n
    · obtain ⟨b, o, z, rfl, hbB, hz, hc⟩ := h.int hlt
      have hzb := hb z (mem_of_at hz)
      have HZ := hide hz
      clear hz h hb hl
      go_wp2
      go_round
      case rel => exact ⟨j + 1, (p + z) % 65521, (q + (p + z) % 65521) % 65521, by omega, by rw [take_snoc HZ.out, stS_snoc, ← HP.out]; rfl, by go_num, by first | rfl | go_num, by first | rfl | go_num⟩
      case measure => simp [intOf]; omega
    · go_wp2
      go_ret
      refine ⟨ret_int ?_, rfl⟩
      have e := HP.out
      rw [List.take_of_length_le (by omega)] at e
      unfold sumV
      rw [← e]
def AwakeEnd (w : World) (e : Ending) (w' : World) : Prop := e = .returned (.bool true) ∧ Below w.heap.size w w'
theorem awake_any (w : World) : Calls Try.prog 12 #[] w (AwakeEnd w) := by
  have C1 := hide (fun w : World => sum_any (some ⟨w.heap.size, 0, none⟩) 1 1 (w.heap.size + 1) [1] (w.alloc (.cells #[.int .u8 1] 5)) (Sl.one w _ _) (by intro x hx; simp at hx; subst hx; decide) (by omega))
  have e1 : sumV [1] = 131074 := by decide
  have E1 := hide e1
  clear e1
  go_enter Try.func12, Try.ntmps12
  go_wp2_with (go_at_call 13; refine (C1.out _).mono ?_; rintro e w' ⟨he, rfl⟩; rw [E1.out] at he; subst he)
  go_ret
  exact ⟨rfl, (Below.refl _ _).alloc (Nat.le_refl _) _⟩
theorem emod_of {a n : Int} (hn : 1 ≤ n) : a % n = if a.tmod n < 0 then a.tmod n + n else a.tmod n := by
  rw [Int.tmod_eq_emod (a := a) (b := n)]
  have h1 := Int.emod_lt_of_pos a (b := n) (by omega)
  have h0 := Int.emod_nonneg a (b := n) (by omega)
  by_cases h : 0 ≤ a ∨ n ∣ a
  · simp only [h, if_true]
    rw [if_neg (by omega)]; omega
  · simp only [h, if_false]
    rw [if_pos (by omega)]; omega
theorem tmod_bd (a b : Int) (hb : 1 ≤ b) : a.tmod b < b ∧ - b < a.tmod b := ⟨Int.tmod_lt_of_pos a (by omega), Int.lt_tmod_of_pos a (by omega)⟩
theorem made_mod (a n : Int) (hn : 1 ≤ n) (hn2 : n ≤ 9223372036854775807) (w : World) :
    Calls Try.prog 37 #[.int .i64 a, .int .i64 n] w fun e w' => e = .returned (.int .i64 (a % n)) ∧ w = w' := by
  have hb := tmod_bd a n hn
  have he := emod_of (a := a) hn
  have HE := hide he
  have hne : n ≠ 0 := by omega
  clear he hn
  rcases two (decide (a.tmod n < 0)) with h4 | h4
  · have h5 : a.tmod n < 0 := by simpa using h4
    go_enter Try.func37, Try.ntmps37
    go_wp2
    go_ret
    exact ⟨ret_int (by rw [HE.out, if_pos h5]), rfl⟩
  · have h5 : ¬ a.tmod n < 0 := by simpa using h4
    go_enter Try.func37, Try.ntmps37
    go_wp2
    go_ret
    exact ⟨ret_int (by rw [HE.out, if_neg (by omega)]), rfl⟩
theorem made_int (a n : Int) (hn : 1 ≤ n) (hn2 : n ≤ 9223372036854775807) (w : World) :
    Calls Try.prog 15 #[.int .i64 a, .int .i64 n] w fun e w' => e = .returned (.int .i64 (a % n)) ∧ w = w' := by
  have C1 := hide (made_mod a n hn hn2)
  clear hn hn2
  go_enter Try.func15, Try.ntmps15
  go_wp2_with (go_at_call 37; refine (C1.out _).mono ?_; rintro e w' ⟨rfl, rfl⟩)
  go_ret
  exact ⟨rfl, rfl⟩
end Go.Proofs.Ytlcgpldngooekaa
