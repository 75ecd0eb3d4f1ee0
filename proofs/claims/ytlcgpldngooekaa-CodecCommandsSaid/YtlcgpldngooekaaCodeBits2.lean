/- The walk's own spelling of the bits of a written code, as plain numbers. -/
import Derived.Test.YtlcgpldngooekaaCodeBits
import Derived.Laws.BitsAllLaws
namespace Go.Proofs.Ytlcgpldngooekaa
open Go.RowKit
theorem or128 (u : Int) (h0 : 0 ≤ u) (h1 : u ≤ 255) : bits .or .u8 u 128 = u % 128 + 128 := by
  obtain ⟨a, rfl⟩ := Int.eq_ofNat_of_zero_le h0
  have ha : a < 256 := by omega
  have h := (by decide +kernel : ∀ a : Fin 256, bits .or .u8 ((a.val : Nat) : Int) 128 = (a.val : Int) % 128 + 128) ⟨a, ha⟩
  exact h
theorem or128w (u : Int) : bits .or .u8 (IntKind.u8.wrap u) 128 = u % 128 + 128 := by
  rw [or128 _ (by rw [IntKind.wrap_u8]; omega) (by rw [IntKind.wrap_u8]; omega), IntKind.wrap_u8]; omega
theorem or128e (u : Int) : bits .or .u8 (u % 256) 128 = u % 128 + 128 := by
  rw [or128 _ (by omega) (by omega)]; omega
theorem or128m (u : Int) : bits .or .u8 (u % 128) 128 = u % 128 + 128 := by
  rw [or128 _ (by omega) (by omega)]; omega
theorem and127 (u : Int) (h0 : 0 ≤ u) (h1 : u ≤ 18446744073709551615) : bits .and .u64 u 127 = u % 128 := by
  have := bits_mask .u64 64 (by decide) (fun n a b => by rw [IntKind.wrap_u64]; omega) 7 (by decide) u h0 (by omega)
  exact this
theorem zig_xor (n : Int) (h0 : -9223372036854775808 ≤ n) (h : n < 0) : bits .xor .u64 IntKind.u64.max (IntKind.u64.wrap (IntKind.u64.wrap n * 2)) = zig n := by
  have e1 : IntKind.u64.wrap (IntKind.u64.wrap n * 2) = 18446744073709551616 + 2 * n := by rw [IntKind.wrap_u64, IntKind.wrap_u64]; omega
  rw [e1]
  obtain ⟨a, ha⟩ := Int.eq_ofNat_of_zero_le (show 0 ≤ 18446744073709551616 + 2 * n by omega)
  rw [ha]
  show IntKind.u64.wrap ((BitVec.ofInt 64 IntKind.u64.max ^^^ BitVec.ofInt 64 (a : Int)).toNat : Int) = _
  have h1 : BitVec.ofInt 64 IntKind.u64.max = BitVec.allOnes 64 := by decide
  rw [h1, BitVec.allOnes_xor, BitVec.toNat_not, ofInt_u64 a (by omega)]
  rw [IntKind.wrap_u64]
  unfold zig
  rw [if_pos h]
  omega
theorem code_pow {u : Int} {f : Nat} (h : u < 128 ^ (f + 1)) (h2 : 128 ≤ u) : ∃ g, f = g + 1 ∧ u / 128 < 128 ^ (g + 1) := by
  rcases f with _ | g
  · simp at h; omega
  · refine ⟨g, rfl, ?_⟩
    rw [Int.pow_succ] at h; omega
theorem code_step {u : Int} {g : Nat} (h2 : 128 ≤ u) : codeF (g + 1) u = (u % 128 + 128) :: codeF g (u / 128) := by
  rw [codeF, if_neg (by omega)]
theorem code_last {u : Int} {f : Nat} (h2 : u < 128) : codeF f u = [u] := by
  rcases f with _ | g
  · rfl
  · rw [codeF, if_pos h2]
/-- the code of a number -/
def codeN (n : Int) : List Int := codeF 9 (zig n)
theorem zig_pow {n : Int} (h : -9223372036854775808 ≤ n ∧ n ≤ 9223372036854775807) : 0 ≤ zig n ∧ zig n < 128 ^ (9 + 1) ∧ zig n < 2 * 128 ^ 9 := by
  have := zig_bd h
  refine ⟨this.1, ?_, ?_⟩
  · have e : (128 : Int) ^ (9 + 1) = 1180591620717411303424 := by decide
    rw [e]; omega
  · have e : (128 : Int) ^ 9 = 9223372036854775808 := by decide
    rw [e]; omega
theorem codeN_len (n : Int) : (codeN n).length ≤ 10 ∧ 1 ≤ (codeN n).length := codeF_len 9 _
theorem codeN_bytes {n : Int} (h : -9223372036854775808 ≤ n ∧ n ≤ 9223372036854775807) : ∀ x ∈ codeN n, 0 ≤ x ∧ x ≤ 255 :=
  codeF_bytes 9 _ (zig_pow h).1 (zig_pow h).2.1
/-- what is written is read, from any place -/
theorem readV_code {n : Int} (h : -9223372036854775808 ≤ n ∧ n ≤ 9223372036854775807) (pre rest : List Int) :
    readV (pre ++ (codeN n ++ rest)) (pre.length : Int) = (n, (pre.length : Int) + (codeN n).length, true) := by
  have hr := rd_code 9 0 0 (zig n) rest (zig_pow h).1 (by omega) (zig_pow h).2.2
  have hd : (pre ++ (codeN n ++ rest)).drop pre.length = codeF 9 (zig n) ++ rest := by simp [codeN]
  have := readV_some (l := pre ++ (codeN n ++ rest)) (a := pre.length) (u := zig n) (k := (codeN n).length) (by simp) (by
    rw [hd]; show rdF (9 + 1) 0 0 _ = _
    rw [hr]; simp [codeN])
  rw [this, unzig_zig]
/-- what is read is the code of the number -/
theorem readV_only {l : List Int} {a : Int} (hl : ∀ x ∈ l, 0 ≤ x ∧ x ≤ 255) :
    (readV l a = (0, 0, false)) ∨ ∃ (k m : Nat) (n : Int), a = k ∧ readV l a = (n, (k : Int) + m, true) ∧ 1 ≤ m ∧ k + m ≤ l.length ∧ codeN n = (l.drop k).take m ∧ -9223372036854775808 ≤ n ∧ n ≤ 9223372036854775807 := by
  by_cases hout : a < 0 ∨ (l.length : Int) < a
  · exact .inl (readV_out hout)
  · obtain ⟨k, rfl⟩ := Int.eq_ofNat_of_zero_le (a := a) (by omega)
    rcases hr : rdF 10 0 0 (l.drop k) with _ | ⟨u, m⟩
    · exact .inl (readV_none (by omega) hr)
    · right
      obtain ⟨t, m', e1, e2, h1, h2, h3, h4, h5, h6⟩ := rd_only 9 0 0 (l.drop k) u m (fun x hx => hl x (List.mem_of_mem_drop hx)) hr
      have e1' : u = t := by simpa using e1
      have e2' : m = m' := by omega
      subst e1' e2'
      have hb : u ≤ 18446744073709551615 := by
        have e : (128 : Int) ^ 9 = 9223372036854775808 := by decide
        rw [e] at h5; omega
      refine ⟨k, m, unzig u, rfl, readV_some (by omega) hr, h1, ?_, ?_, unzig_bd ⟨h3, hb⟩⟩
      · rw [List.length_drop] at h2; omega
      · unfold codeN; rw [zig_unzig u h3, h6]
end Go.Proofs.Ytlcgpldngooekaa
