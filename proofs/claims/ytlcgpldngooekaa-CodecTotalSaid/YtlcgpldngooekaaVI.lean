/- Whether a command is small: the contract. | What is read is the code of what was read; two readings of the same bytes agree. Plain. -/
import Derived.Test.YtlcgpldngooekaaRE
import Derived.Test.YtlcgpldngooekaaTD
namespace Go.Proofs.Ytlcgpldngooekaa
open Go.RowKit
set_option linter.unusedVariables false
set_option maxRecDepth 100000
def FewR (b : Bool) (w : World) (e : Ending) (w' : World) : Prop := e = .returned (.bool b) ∧ Below w.heap.size w w'
theorem few_any (x : CmdD) (A1 : Option Addr) (c1 : Nat) (A2 : Option Addr) (c2 : Nat) (w : World) : Calls Try.prog 26 #[.agg (x.cells A1 c1 A2 c2)] w (FewR (decide (x.ds.length ≤ 200 ∧ x.bs.length ≤ 500)) w) := by
  by_cases h1 : x.ds.length ≤ 200
  · have d1 : decide ((x.ds.length : Int) ≤ 200) = true := by simp; omega
    by_cases h2 : x.bs.length ≤ 500
    · have d2 : decide ((x.bs.length : Int) ≤ 500) = true := by simp; omega
      have HH := hide (show decide (x.ds.length ≤ 200 ∧ x.bs.length ≤ 500) = true by simp [h1, h2])
      unfold CmdD.cells
      go_enter Try.func26, Try.ntmps26
      go_wp2
      go_ret
      exact ⟨by rw [HH.out]; rfl, (Below.refl _ w).alloc (Nat.le_refl _) _⟩
    · have d2 : decide ((x.bs.length : Int) ≤ 500) = false := by simp; omega
      have HH := hide (show decide (x.ds.length ≤ 200 ∧ x.bs.length ≤ 500) = false by simp [h2])
      unfold CmdD.cells
      go_enter Try.func26, Try.ntmps26
      go_wp2
      go_ret
      exact ⟨by rw [HH.out]; rfl, (Below.refl _ w).alloc (Nat.le_refl _) _⟩
  · have d1 : decide ((x.ds.length : Int) ≤ 200) = false := by simp; omega
    have HH := hide (show decide (x.ds.length ≤ 200 ∧ x.bs.length ≤ 500) = false by simp [h1])
    unfold CmdD.cells
    go_enter Try.func26, Try.ntmps26
    go_wp2
    go_ret
    exact ⟨by rw [HH.out]; rfl, (Below.refl _ w).alloc (Nat.le_refl _) _⟩
end Go.Proofs.Ytlcgpldngooekaa
namespace Go.Proofs.Ytlcgpldngooekaa
open Go.RowKit
set_option linter.unusedVariables false
theorem numsF_code {l : List Int} (hl : ∀ x ∈ l, 0 ≤ x ∧ x ≤ 255) : ∀ (f a : Nat) (xs : List Int), a ≤ l.length → numsF f l (a : Int) = some xs → l.drop a = writeL xs
  | 0, a, xs, ha, h => by
    unfold numsF at h
    split at h
    · cases h
    · injection h with h; subst h
      rw [List.drop_of_length_le (by omega)]; rfl
  | f + 1, a, xs, ha, h => by
    by_cases hlt : (a : Int) < l.length
    · rcases readV_only (a := (a : Int)) hl with hv | ⟨k, m, x, hk, hv, hm1, hm2, hc, _, _⟩
      · rw [numsF_bad hlt (by rw [hv])] at h; cases h
      · obtain rfl : a = k := by omega
        rw [numsF_step hlt hv, show ((a : Int) + (m : Int)) = ((a + m : Nat) : Int) by omega] at h
        rcases hn : numsF f l ((a + m : Nat) : Int) with _ | ys
        · rw [hn] at h; cases h
        · rw [hn] at h
          injection h with h; subst h
          have := numsF_code hl f (a + m) ys (by omega) hn
          rw [writeL_cons, hc, ← this, ← List.drop_drop, List.take_append_drop]
    · rw [numsF_end hlt] at h
      injection h with h; subst h
      rw [List.drop_of_length_le (by omega)]; rfl
/-- what a decoding of l says: its numbers and its code -/
def Says (l : List Int) (x : CmdD) (code : Int) : Prop := (code = 0 ∧ numsF l.length l 0 = some x.flat) ∨ (code = 13 ∧ x = CmdD.zero ∧ ∀ y : CmdD, (∀ d ∈ y.bs, IsByte d) → numsF l.length l 0 ≠ some y.flat)
theorem Says.agree {l : List Int} {x y : CmdD} {f g : Int} (hx : x.Ok) (hy : y.Ok) (h : Says l x f) (k : Says l y g) : f = g ∧ x.flat = y.flat := by
  rcases h with ⟨h1, h2⟩ | ⟨h1, h2, h3⟩
  · rcases k with ⟨k1, k2⟩ | ⟨k1, k2, k3⟩
    · rw [h2] at k2
      injection k2 with k2
      exact ⟨by omega, k2⟩
    · exact absurd h2 (k3 x hx.2.2)
  · rcases k with ⟨k1, k2⟩ | ⟨k1, k2, k3⟩
    · exact absurd k2 (h3 y hy.2.2)
    · exact ⟨by omega, by rw [h2, k2]⟩
theorem Says.only {l : List Int} (hl : ∀ x ∈ l, 0 ≤ x ∧ x ≤ 255) {x c : CmdD} {f : Int} (h : Says l x f) (hf : f = 0) (he : x.flat = c.flat) : l = writeL c.flat := by
  rcases h with ⟨_, h2⟩ | ⟨h1, _, _⟩
  · have := numsF_code hl l.length 0 x.flat (Nat.zero_le _) h2
    rw [List.drop_zero] at this
    rw [this, he]
  · omega
theorem Says.code {l : List Int} {x : CmdD} {f : Int} (h : Says l x f) : f = 0 ∨ f = 13 := by
  rcases h with ⟨h1, _⟩ | ⟨h1, _, _⟩
  · exact .inl h1
  · exact .inr h1
end Go.Proofs.Ytlcgpldngooekaa
