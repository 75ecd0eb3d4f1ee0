/- A list of numbers taken apart from its front: a number, a list with its length before it. Plain. | The codes of numbers: plain mathematics, no program in sight. | The walk's own spelling of the codes' bits, as plain numbers. | The walk's own spelling of the bits of a written code, as plain numbers. -/
import Derived.IntWalk
import Derived.Laws.BitsAllLaws
import Derived.RowKit
namespace Go.Proofs.Ytlcgpldngooekaa
/-- between s and t the number x was taken, which fulfils P; if t is none, taking has failed -/
def Took (P : Int → Prop) (s t : Option (List Int)) (x : Int) : Prop := (∀ R, t = some R → P x ∧ s = some (x :: R)) ∧ (∀ y R, P y → s = some (y :: R) → t = some R)
def TookL (P : Int → Prop) (s t : Option (List Int)) (ds : List Int) : Prop := (∀ R, t = some R → (∀ d ∈ ds, P d) ∧ s = some ((ds.length : Int) :: (ds ++ R))) ∧ (∀ es R, (∀ d ∈ es, P d) → s = some ((es.length : Int) :: (es ++ R)) → t = some R)
/-- of the n elements whose places begin at s, i have been taken: acc -/
def Going (P : Int → Prop) (s : Option (List Int)) (n i : Nat) (acc : List Int) (t : Option (List Int)) : Prop :=
  acc.length = i ∧ i ≤ n ∧ (∀ R, t = some R → (∀ d ∈ acc, P d) ∧ s = some (acc ++ R)) ∧ (∀ es R, (∀ d ∈ es, P d) → es.length = n → s = some (es ++ R) → t = some (es.drop i ++ R))
variable {P : Int → Prop} {s t u : Option (List Int)} {n i : Nat} {acc : List Int}
theorem Going.start (s : Option (List Int)) (n : Nat) : Going P s n 0 [] s := ⟨rfl, Nat.zero_le _, fun R h => ⟨fun d hd => (by cases hd), h⟩, fun es R _ _ h => h⟩
theorem Going.step (h : Going P s n i acc t) (hi : i < n) {x : Int} (k : Took P t u x) : Going P s n (i + 1) (acc ++ [x]) u := by
  obtain ⟨h1, h2, h3, h4⟩ := h
  refine ⟨by simp [h1], hi, fun R hR => ?_, fun es R he hl hs => ?_⟩
  · obtain ⟨k1, k2⟩ := k.1 R hR
    obtain ⟨k3, k4⟩ := h3 _ k2
    refine ⟨fun d hd => ?_, by rw [k4]; simp⟩
    rcases List.mem_append.1 hd with hd | hd
    · exact k3 d hd
    · obtain rfl : d = x := by simpa using hd
      exact k1
  · have := h4 es R he hl hs
    rw [List.drop_eq_getElem_cons (by omega)] at this
    exact k.2 _ _ (he _ (List.getElem_mem _)) this
theorem Going.dead (h : Going P s n i acc none) : Going P s n i acc none := h
/-- the length was taken and the elements; the loop has ended -/
theorem TookL.mk {s0 s1 s2 : Option (List Int)} {m : Int} (h0 : Took (fun _ => True) s0 s1 m) (hgo : 0 ≤ m → Going P s2 m.toNat i acc t) (hend : (0 ≤ m ∧ i = m.toNat) ∨ t = none)
    (hs : ∀ R, s2 = some R → s1 = some R) (hlen : ∀ es R, s1 = some (es ++ R) → m = (es.length : Int) → s2 = some (es ++ R)) : TookL P s0 t acc := by
  refine ⟨fun R hR => ?_, fun es R he h => ?_⟩
  · rcases hend with ⟨hm, hi⟩ | hn
    · obtain ⟨g1, g2, g3, g4⟩ := hgo hm
      obtain ⟨k1, k2⟩ := g3 R hR
      refine ⟨k1, ?_⟩
      rw [(h0.1 _ (hs _ k2)).2, g1, hi]
      simp; omega
    · rw [hn] at hR; cases hR
  · have h1 := h0.2 _ _ trivial h
    have h2 := (h0.1 _ h1).2
    rw [h] at h2
    injection h2 with h2
    injection h2 with h2 _
    have h3 := hlen es R h1 h2.symm
    obtain ⟨g1, g2, g3, g4⟩ := hgo (by omega)
    have h4 := g4 es R he (by omega) h3
    rcases hend with ⟨hm, hi⟩ | hn
    · rw [h4, hi, List.drop_of_length_le (by omega)]; rfl
    · rw [hn] at h4; cases h4
def flatC (a b c d e f g h i j k l : Int) (ds : List Int) (q r v : Int) (bs : List Int) : List Int :=
  a :: b :: c :: d :: e :: f :: g :: h :: i :: j :: k :: l :: (ds.length : Int) :: (ds ++ (q :: r :: v :: (bs.length : Int) :: bs))
def IsByte (x : Int) : Prop := 0 ≤ x ∧ x ≤ 255
def Any (_ : Int) : Prop := True
theorem took_back {x : Int} (h : Took Any s t x) {R : List Int} (k : t = some R) : s = some (x :: R) := (h.1 R k).2
theorem took_on {x y : Int} (h : Took Any s t x) {R : List Int} (k : s = some (y :: R)) : t = some R := h.2 y R trivial k
theorem chainC {s0 s1 s2 s3 s4 s5 s6 s7 s8 s9 s10 s11 s12 s13 s14 s15 s16 s17 : Option (List Int)} {a b c d e f g h i j k l q r v : Int} {ds bs : List Int}
    (h1 : Took Any s0 s1 a) (h2 : Took Any s1 s2 b) (h3 : Took Any s2 s3 c) (h4 : Took Any s3 s4 d) (h5 : Took Any s4 s5 e) (h6 : Took Any s5 s6 f) (h7 : Took Any s6 s7 g) (h8 : Took Any s7 s8 h) (h9 : Took Any s8 s9 i) (h10 : Took Any s9 s10 j)
    (h11 : Took Any s10 s11 k) (h12 : Took Any s11 s12 l) (h13 : TookL Any s12 s13 ds) (h14 : Took Any s13 s14 q) (h15 : Took Any s14 s15 r) (h16 : Took Any s15 s16 v) (h17 : TookL IsByte s16 s17 bs) :
    (s17 = some [] → (∀ x ∈ bs, IsByte x) ∧ s0 = some (flatC a b c d e f g h i j k l ds q r v bs)) ∧
    (∀ a' b' c' d' e' f' g' h' i' j' k' l' ds' q' r' v' bs', (∀ x ∈ bs', IsByte x) → s0 = some (flatC a' b' c' d' e' f' g' h' i' j' k' l' ds' q' r' v' bs') → s17 = some []) := by
  refine ⟨fun hs => ?_, fun a' b' c' d' e' f' g' h' i' j' k' l' ds' q' r' v' bs' hb hs => ?_⟩
  · obtain ⟨k1, k2⟩ := h17.1 _ hs
    refine ⟨k1, ?_⟩
    have k3 := (h13.1 _ (took_back h14 (took_back h15 (took_back h16 k2)))).2
    have k4 := took_back h1 (took_back h2 (took_back h3 (took_back h4 (took_back h5 (took_back h6 (took_back h7 (took_back h8 (took_back h9 (took_back h10 (took_back h11 (took_back h12 k3)))))))))))
    rw [k4]; simp [flatC]
  · have k1 := took_on h12 (took_on h11 (took_on h10 (took_on h9 (took_on h8 (took_on h7 (took_on h6 (took_on h5 (took_on h4 (took_on h3 (took_on h2 (took_on h1 hs)))))))))))
    have k2 := h13.2 ds' _ (fun _ _ => trivial) k1
    have k3 := took_on h16 (took_on h15 (took_on h14 k2))
    exact h17.2 bs' [] hb (by simpa using k3)
end Go.Proofs.Ytlcgpldngooekaa
namespace Go.Proofs.Ytlcgpldngooekaa
def zig (n : Int) : Int := if n < 0 then -2 * n - 1 else 2 * n
def unzig (u : Int) : Int := if u % 2 = 1 then - (u / 2) - 1 else u / 2
theorem unzig_zig (n : Int) : unzig (zig n) = n := by unfold unzig zig; split <;> split <;> omega
theorem zig_unzig (u : Int) : 0 ≤ u → zig (unzig u) = u := by unfold unzig zig; intro h; split <;> split <;> omega
theorem zig_bd {n : Int} (h : -9223372036854775808 ≤ n ∧ n ≤ 9223372036854775807) : 0 ≤ zig n ∧ zig n ≤ 18446744073709551615 := by unfold zig; split <;> omega
theorem unzig_bd {u : Int} (h : 0 ≤ u ∧ u ≤ 18446744073709551615) : -9223372036854775808 ≤ unzig u ∧ unzig u ≤ 9223372036854775807 := by unfold unzig; split <;> omega
/-- the bytes of a number below 128^(f+1) -/
def codeF : Nat → Int → List Int
  | 0, u => [u]
  | f + 1, u => if u < 128 then [u] else (u % 128 + 128) :: codeF f (u / 128)
def rdF : Nat → Nat → Int → List Int → Option (Int × Nat)
  | 0, _, _, _ => none
  | _ + 1, _, _, [] => none
  | f + 1, i, u, x :: r =>
    if f = 0 ∧ 1 < x then none
    else if 128 ≤ x then rdF f (i + 1) (u + x % 128 * 128 ^ i) r
    else if x = 0 ∧ 0 < i then none
    else some (u + x * 128 ^ i, i + 1)
theorem codeF_len : ∀ f u, (codeF f u).length ≤ f + 1 ∧ 1 ≤ (codeF f u).length
  | 0, u => by simp [codeF]
  | f + 1, u => by
    unfold codeF; split
    · simp
    · have := codeF_len f (u / 128); simp; omega
theorem codeF_bytes : ∀ f u, 0 ≤ u → u < 128 ^ (f + 1) → ∀ x ∈ codeF f u, 0 ≤ x ∧ x ≤ 255
  | 0, u, h0, h1, x, hx => by simp [codeF] at hx; subst hx; simp at h1; omega
  | f + 1, u, h0, h1, x, hx => by
    unfold codeF at hx; split at hx
    · simp at hx; subst hx; omega
    · have h2 : u / 128 < 128 ^ (f + 1) := by
        rw [Int.pow_succ] at h1; omega
      rcases List.mem_cons.1 hx with rfl | hx
      · omega
      · exact codeF_bytes f (u / 128) (by omega) h2 x hx
/-- what is written is read: f bytes more to come, the last of them 0 or 1 -/
theorem rd_code : ∀ (f i : Nat) (u0 u : Int) (rest : List Int), 0 ≤ u → (0 < i → 0 < u) → u < 2 * 128 ^ f → rdF (f + 1) i u0 (codeF f u ++ rest) = some (u0 + u * 128 ^ i, i + (codeF f u).length)
  | 0, i, u0, u, rest, h0, hi, h1 => by
    have h1' : u < 2 := by simpa using h1
    have hn : ¬ (u = 0 ∧ 0 < i) := by omega
    have hn2 : ¬ (1 < u) := by omega
    have hn3 : ¬ (128 ≤ u) := by omega
    simp [codeF, rdF, hn, hn2, hn3]
  | f + 1, i, u0, u, rest, h0, hi, h1 => by
    unfold codeF
    by_cases hu : u < 128
    · have hn : ¬ (u = 0 ∧ 0 < i) := by omega
      have hn3 : ¬ (128 ≤ u) := by omega
      simp [rdF, hn, hn3, hu]
    · have h2 : u / 128 < 2 * 128 ^ f := by rw [Int.pow_succ] at h1; omega
      have ih := rd_code f (i + 1) (u0 + (u % 128) * 128 ^ i) (u / 128) rest (by omega) (by omega) h2
      have hm : (u % 128 + 128) % 128 = u % 128 := by omega
      have h3 : (128 : Int) ≤ u % 128 + 128 := by omega
      rw [if_neg hu]
      simp only [List.cons_append, rdF, h3, hm, if_true, Nat.add_one_ne_zero, false_and, if_false, List.length_cons]
      rw [ih]
      congr 2
      · have e : u = 128 * (u / 128) + u % 128 := by omega
        have e2 : u / 128 * 128 ^ (i + 1) = 128 * (u / 128) * 128 ^ i := by rw [Int.pow_succ, Int.mul_comm (128 ^ i) 128, ← Int.mul_assoc, Int.mul_comm (u / 128) 128]
        rw [e2]
        generalize hp : (128 : Int) ^ i = p
        generalize u / 128 = q at *
        generalize u % 128 = r at *
        subst e
        rw [Int.add_mul]; omega
      · omega
theorem rd_only : ∀ (f i : Nat) (u0 : Int) (l : List Int) (v : Int) (k : Nat), (∀ x ∈ l, 0 ≤ x ∧ x ≤ 255) → rdF (f + 1) i u0 l = some (v, k) →
    ∃ (t : Int) (m : Nat), v = u0 + t * 128 ^ i ∧ k = i + m ∧ 1 ≤ m ∧ m ≤ l.length ∧ 0 ≤ t ∧ (0 < i → 0 < t) ∧ t < 2 * 128 ^ f ∧ codeF f t = l.take m
  | f, i, u0, [], v, k, hl, h => by simp [rdF] at h
  | 0, i, u0, x :: r, v, k, hl, h => by
    have hx := hl x List.mem_cons_self
    have h01 : ¬ 1 < x := fun c => by simp [rdF, c] at h
    have h128 : ¬ 128 ≤ x := by omega
    have hz : ¬ (x = 0 ∧ 0 < i) := fun c => by simp [rdF, c] at h
    simp [rdF, h01, h128, hz] at h
    exact ⟨x, 1, h.1.symm, h.2.symm, by omega, by simp, hx.1, by omega, by simp; omega, by simp [codeF]⟩
  | f + 1, i, u0, x :: r, v, k, hl, h => by
    have hx := hl x List.mem_cons_self
    have hr : ∀ y ∈ r, 0 ≤ y ∧ y ≤ 255 := fun y hy => hl y (List.mem_cons_of_mem _ hy)
    have hp : (1 : Int) ≤ 128 ^ f := by have := Int.pow_pos (n := 128) (m := f) (by omega); omega
    rw [rdF] at h
    split at h
    · simp at h
    · split at h
      · obtain ⟨t, m, e1, e2, h1, h2, h3, h4, h5, h6⟩ := rd_only f (i + 1) _ r v k hr h
        have h4' := h4 (by omega)
        refine ⟨t * 128 + x % 128, m + 1, ?_, by omega, by omega, by simp; omega, by omega, by omega, ?_, ?_⟩
        · rw [e1, Int.pow_succ, Int.add_mul, Int.mul_assoc t 128, Int.mul_comm 128 (128 ^ i)]; omega
        · rw [Int.pow_succ]; omega
        · unfold codeF
          rw [if_neg (by omega)]
          have a1 : (t * 128 + x % 128) % 128 + 128 = x := by omega
          have a2 : (t * 128 + x % 128) / 128 = t := by omega
          rw [a1, a2, h6]; simp
      · split at h
        · simp at h
        · simp only [Option.some.injEq, Prod.mk.injEq] at h
          refine ⟨x, 1, h.1.symm, h.2.symm, by omega, by simp, hx.1, by omega, ?_, ?_⟩
          · rw [Int.pow_succ]; omega
          · unfold codeF; rw [if_pos (by omega)]; simp
/-- what is read at a place -/
def readV (l : List Int) (a : Int) : Int × Int × Bool :=
  if a < 0 ∨ (l.length : Int) < a then (0, 0, false)
  else match rdF 10 0 0 (l.drop a.toNat) with
    | none => (0, 0, false)
    | some (u, k) => (unzig u, a + k, true)
theorem readV_out {l : List Int} {a : Int} (h : a < 0 ∨ (l.length : Int) < a) : readV l a = (0, 0, false) := if_pos h
theorem readV_none {l : List Int} {a : Nat} (ha : a ≤ l.length) (h : rdF 10 0 0 (l.drop a) = none) : readV l a = (0, 0, false) := by
  unfold readV; rw [if_neg (by omega), Int.toNat_natCast, h]
theorem readV_some {l : List Int} {a : Nat} {u : Int} {k : Nat} (ha : a ≤ l.length) (h : rdF 10 0 0 (l.drop a) = some (u, k)) : readV l a = (unzig u, (a : Int) + k, true) := by
  unfold readV; rw [if_neg (by omega), Int.toNat_natCast, h]
end Go.Proofs.Ytlcgpldngooekaa
namespace Go.Proofs.Ytlcgpldngooekaa
open Go.RowKit
theorem wraps_u8_8 (n : Int) (h₀ : 0 ≤ n) (h₁ : n < 2 ^ 8) : IntKind.u8.wrap n = n := by rw [IntKind.wrap_u8]; omega
theorem mask127 {c : Int} (h₀ : 0 ≤ c) (h₁ : c ≤ 255) : bits .and .u8 c 127 = c % 128 := bits_mask .u8 8 (by decide) wraps_u8_8 7 (by decide) c h₀ (by omega)
theorem pow7 (k : Nat) : (2 : Int) ^ (7 * k) = 128 ^ k := by rw [Int.pow_mul]; rfl
theorem or_plain (u y : Int) (i : Nat) (h0 : 0 ≤ u) (h1 : u < 2 ^ i) (h2 : 0 ≤ y) (h3 : y * 2 ^ i < 18446744073709551616) (hi : i ≤ 63) : bits .or .u64 u (y * 2 ^ i) = u + y * 2 ^ i := by
  have hp : (2 : Int) ^ i ≤ 2 ^ 63 := by
    have := Nat.pow_le_pow_right (n := 2) (by omega) hi
    exact_mod_cast this
  have hy : 0 ≤ y * 2 ^ i := Int.mul_nonneg h2 (Int.le_of_lt (Int.pow_pos (by omega)))
  rw [u64_or u (y * 2 ^ i) h0 (by omega) hy h3]
  obtain ⟨a, rfl⟩ := Int.eq_ofNat_of_zero_le h0
  obtain ⟨b, rfl⟩ := Int.eq_ofNat_of_zero_le h2
  have e1 : ((b : Int) * 2 ^ i) = ((b * 2 ^ i : Nat) : Int) := by push_cast; rfl
  have e2 : ((2 : Int) ^ i) = ((2 ^ i : Nat) : Int) := by push_cast; rfl
  rw [e1]
  simp only [Int.toNat_natCast]
  rw [Nat.or_comm, nat_join i (b * 2 ^ i) a (Nat.mul_mod_left _ _) (by rw [e2] at h1; exact_mod_cast h1)]
  push_cast; omega
theorem or_step (u z : Int) (k : Nat) (h0 : 0 ≤ u) (h1 : u < 128 ^ k) (hz : 0 ≤ z ∧ z ≤ 255) (hk : k ≤ 9) (h9 : k = 9 → z ≤ 1) :
    bits .or .u64 u (IntKind.u64.wrap (IntKind.u64.wrap (bits .and .u8 z 127) * 2 ^ (7 * k))) = u + z % 128 * 128 ^ k := by
  rw [mask127 hz.1 hz.2]
  have hw : IntKind.u64.wrap (z % 128) = z % 128 := by rw [IntKind.wrap_u64]; omega
  have hlt : z % 128 * 2 ^ (7 * k) < 18446744073709551616 := by
    rcases (show k = 0 ∨ k = 1 ∨ k = 2 ∨ k = 3 ∨ k = 4 ∨ k = 5 ∨ k = 6 ∨ k = 7 ∨ k = 8 ∨ k = 9 by omega) with rfl | rfl | rfl | rfl | rfl | rfl | rfl | rfl | rfl | rfl <;> simp <;> omega
  have h2 : 0 ≤ z % 128 * 2 ^ (7 * k) := Int.mul_nonneg (by omega) (Int.le_of_lt (Int.pow_pos (by omega)))
  have hw2 : IntKind.u64.wrap (z % 128 * 2 ^ (7 * k)) = z % 128 * 2 ^ (7 * k) := by rw [IntKind.wrap_u64]; omega
  rw [hw, hw2, or_plain u (z % 128) (7 * k) h0 (by rw [pow7]; exact h1) (by omega) hlt (by omega), pow7]
/-- a number read so far stays below the next power -/
theorem pow_next (u z : Int) (k : Nat) (h0 : 0 ≤ u) (h1 : u < 128 ^ k) : 0 ≤ u + z % 128 * 128 ^ k ∧ u + z % 128 * 128 ^ k < 128 ^ (k + 1) := by
  have hp : (0 : Int) < 128 ^ k := Int.pow_pos (by omega)
  have h2 : 0 ≤ z % 128 * 128 ^ k := Int.mul_nonneg (by omega) (by omega)
  have h3 : z % 128 * 128 ^ k ≤ 127 * 128 ^ k := Int.mul_le_mul_of_nonneg_right (by omega) (by omega)
  rw [Int.pow_succ]; omega
theorem last_bd (u z : Int) (k : Nat) (h0 : 0 ≤ u) (h1 : u < 128 ^ k) (hz : 0 ≤ z ∧ z ≤ 127) (hk : k ≤ 9) (h9 : k = 9 → z ≤ 1) : 0 ≤ u + z * 128 ^ k ∧ u + z * 128 ^ k ≤ 18446744073709551615 := by
  rcases (show k = 0 ∨ k = 1 ∨ k = 2 ∨ k = 3 ∨ k = 4 ∨ k = 5 ∨ k = 6 ∨ k = 7 ∨ k = 8 ∨ k = 9 by omega) with rfl | rfl | rfl | rfl | rfl | rfl | rfl | rfl | rfl | rfl <;> simp at * <;> omega
end Go.Proofs.Ytlcgpldngooekaa
namespace Go.Proofs.Ytlcgpldngooekaa
open Go.RowKit
theorem and1 (u : Int) (h0 : 0 ≤ u) (h1 : u ≤ 18446744073709551615) : bits .and .u64 u 1 = u % 2 := by
  have := bits_mask .u64 64 (by decide) (fun n a b => by rw [IntKind.wrap_u64]; omega) 1 (by decide) u h0 (by omega)
  exact this
theorem unzig_odd {u : Int} (h : u % 2 = 1) : unzig u = -(u / 2) - 1 := if_pos h
theorem unzig_even {u : Int} (h : u % 2 ≠ 1) : unzig u = u / 2 := if_neg h
-- what a reader's round does
theorem rd_more {k : Nat} {u z : Int} {r : List Int} (hk : k < 9) (hz : 128 ≤ z) : rdF (10 - k) k u (z :: r) = rdF (10 - (k + 1)) (k + 1) (u + z % 128 * 128 ^ k) r := by
  obtain ⟨f, hf⟩ : ∃ f, 10 - k = f + 1 ∧ 10 - (k + 1) = f ∧ f ≠ 0 := ⟨9 - k, by omega, by omega, by omega⟩
  rw [hf.1, hf.2.1, rdF, if_neg (by omega), if_pos hz]
theorem rd_zero {k : Nat} {u : Int} {r : List Int} (hk : k ≤ 9) (h0 : 0 < k) : rdF (10 - k) k u (0 :: r) = none := by
  obtain ⟨f, hf⟩ : ∃ f, 10 - k = f + 1 := ⟨9 - k, by omega⟩
  rw [hf, rdF, if_neg (by omega), if_neg (by omega), if_pos ⟨rfl, h0⟩]
theorem rd_last {k : Nat} {u z : Int} {r : List Int} (hk : k ≤ 9) (h9 : k = 9 → z ≤ 1) (hz : z < 128) (h0 : ¬ (z = 0 ∧ 0 < k)) : rdF (10 - k) k u (z :: r) = some (u + z * 128 ^ k, k + 1) := by
  obtain ⟨f, hf, hf0⟩ : ∃ f, 10 - k = f + 1 ∧ (f = 0 → k = 9) := ⟨9 - k, by omega, by omega⟩
  rw [hf, rdF, if_neg (fun h => by have := h9 (hf0 h.1); omega), if_neg (by omega), if_neg h0]
theorem rd_big {u z : Int} {r : List Int} (hz : 1 < z) : rdF (10 - 9) 9 u (z :: r) = none := by
  show rdF (0 + 1) 9 u (z :: r) = none
  rw [rdF, if_pos ⟨rfl, hz⟩]
theorem rd_ten {u : Int} {r : List Int} : rdF (10 - 10) 10 u r = none := by
  show rdF 0 10 u r = none
  rw [rdF]
theorem rd_end {k : Nat} {u : Int} : rdF (10 - k) k u [] = none := by
  rcases 10 - k with _ | f <;> rfl
end Go.Proofs.Ytlcgpldngooekaa
namespace Go.Proofs.Ytlcgpldngooekaa
open Go.RowKit
theorem or128 (u : Int) (h0 : 0 ≤ u) (h1 : u ≤ 255) : bits .or .u8 u 128 = u % 128 + 128 := by
  obtain ⟨a, rfl⟩ := Int.eq_ofNat_of_zero_le h0
  have ha : a < 256 := by omega
  have h := (by decide +kernel : ∀ a : Fin 256, bits .or .u8 ((a.val : Nat) : Int) 128 = (a.val : Int) % 128 + 128) ⟨a, ha⟩
  exact h
theorem or128w (u : Int) : bits .or .u8 (IntKind.u8.wrap u) 128 = u % 128 + 128 := by
  rw [or128 _ (by rw [IntKind.wrap_u8]; omega) (by rw [IntKind.wrap_u8]; omega), IntKind.wrap_u8]; omega
theorem or128e (u : Int) : bits .or .u8 (u % 256) 128 = u % 128 + 128 := by
  rw [or128 _ (by omega) (by omega)]; omega
theorem or128m (u : Int) : bits .or .u8 (u % 128) 128 = u % 128 + 128 := by
  rw [or128 _ (by omega) (by omega)]; omega
theorem and127 (u : Int) (h0 : 0 ≤ u) (h1 : u ≤ 18446744073709551615) : bits .and .u64 u 127 = u % 128 := by
  have := bits_mask .u64 64 (by decide) (fun n a b => by rw [IntKind.wrap_u64]; omega) 7 (by decide) u h0 (by omega)
  exact this
theorem zig_xor (n : Int) (h0 : -9223372036854775808 ≤ n) (h : n < 0) : bits .xor .u64 IntKind.u64.max (IntKind.u64.wrap (IntKind.u64.wrap n * 2)) = zig n := by
  have e1 : IntKind.u64.wrap (IntKind.u64.wrap n * 2) = 18446744073709551616 + 2 * n := by rw [IntKind.wrap_u64, IntKind.wrap_u64]; omega
  rw [e1]
  obtain ⟨a, ha⟩ := Int.eq_ofNat_of_zero_le (show 0 ≤ 18446744073709551616 + 2 * n by omega)
  rw [ha]
  show IntKind.u64.wrap ((BitVec.ofInt 64 IntKind.u64.max ^^^ BitVec.ofInt 64 (a : Int)).toNat : Int) = _
  have h1 : BitVec.ofInt 64 IntKind.u64.max = BitVec.allOnes 64 := by decide
  rw [h1, BitVec.allOnes_xor, BitVec.toNat_not, ofInt_u64 a (by omega)]
  rw [IntKind.wrap_u64]
  unfold zig
  rw [if_pos h]
  omega
theorem code_pow {u : Int} {f : Nat} (h : u < 128 ^ (f + 1)) (h2 : 128 ≤ u) : ∃ g, f = g + 1 ∧ u / 128 < 128 ^ (g + 1) := by
  rcases f with _ | g
  · simp at h; omega
  · refine ⟨g, rfl, ?_⟩
    rw [Int.pow_succ] at h; omega
theorem code_step {u : Int} {g : Nat} (h2 : 128 ≤ u) : codeF (g + 1) u = (u % 128 + 128) :: codeF g (u / 128) := by
  rw [codeF, if_neg (by omega)]
theorem code_last {u : Int} {f : Nat} (h2 : u < 128) : codeF f u = [u] := by
  rcases f with _ | g
  · rfl
  · rw [codeF, if_pos h2]
/-- the code of a number -/
def codeN (n : Int) : List Int := codeF 9 (zig n)
theorem zig_pow {n : Int} (h : -9223372036854775808 ≤ n ∧ n ≤ 9223372036854775807) : 0 ≤ zig n ∧ zig n < 128 ^ (9 + 1) ∧ zig n < 2 * 128 ^ 9 := by
  have := zig_bd h
  refine ⟨this.1, ?_, ?_⟩
  · have e : (128 : Int) ^ (9 + 1) = 1180591620717411303424 := by decide
    rw [e]; omega
  · have e : (128 : Int) ^ 9 = 9223372036854775808 := by decide
    rw [e]; omega
theorem codeN_len (n : Int) : (codeN n).length ≤ 10 ∧ 1 ≤ (codeN n).length := codeF_len 9 _
theorem codeN_bytes {n : Int} (h : -9223372036854775808 ≤ n ∧ n ≤ 9223372036854775807) : ∀ x ∈ codeN n, 0 ≤ x ∧ x ≤ 255 :=
  codeF_bytes 9 _ (zig_pow h).1 (zig_pow h).2.1
/-- what is written is read, from any place -/
theorem readV_code {n : Int} (h : -9223372036854775808 ≤ n ∧ n ≤ 9223372036854775807) (pre rest : List Int) :
    readV (pre ++ (codeN n ++ rest)) (pre.length : Int) = (n, (pre.length : Int) + (codeN n).length, true) := by
  have hr := rd_code 9 0 0 (zig n) rest (zig_pow h).1 (by omega) (zig_pow h).2.2
  have hd : (pre ++ (codeN n ++ rest)).drop pre.length = codeF 9 (zig n) ++ rest := by simp [codeN]
  have := readV_some (l := pre ++ (codeN n ++ rest)) (a := pre.length) (u := zig n) (k := (codeN n).length) (by simp) (by
    rw [hd]; show rdF (9 + 1) 0 0 _ = _
    rw [hr]; simp [codeN])
  rw [this, unzig_zig]
/-- what is read is the code of the number -/
theorem readV_only {l : List Int} {a : Int} (hl : ∀ x ∈ l, 0 ≤ x ∧ x ≤ 255) :
    (readV l a = (0, 0, false)) ∨ ∃ (k m : Nat) (n : Int), a = k ∧ readV l a = (n, (k : Int) + m, true) ∧ 1 ≤ m ∧ k + m ≤ l.length ∧ codeN n = (l.drop k).take m ∧ -9223372036854775808 ≤ n ∧ n ≤ 9223372036854775807 := by
  by_cases hout : a < 0 ∨ (l.length : Int) < a
  · exact .inl (readV_out hout)
  · obtain ⟨k, rfl⟩ := Int.eq_ofNat_of_zero_le (a := a) (by omega)
    rcases hr : rdF 10 0 0 (l.drop k) with _ | ⟨u, m⟩
    · exact .inl (readV_none (by omega) hr)
    · right
      obtain ⟨t, m', e1, e2, h1, h2, h3, h4, h5, h6⟩ := rd_only 9 0 0 (l.drop k) u m (fun x hx => hl x (List.mem_of_mem_drop hx)) hr
      have e1' : u = t := by simpa using e1
      have e2' : m = m' := by omega
      subst e1' e2'
      have hb : u ≤ 18446744073709551615 := by
        have e : (128 : Int) ^ 9 = 9223372036854775808 := by decide
        rw [e] at h5; omega
      refine ⟨k, m, unzig u, rfl, readV_some (by omega) hr, h1, ?_, ?_, unzig_bd ⟨h3, hb⟩⟩
      · rw [List.length_drop] at h2; omega
      · unfold codeN; rw [zig_unzig u h3, h6]
end Go.Proofs.Ytlcgpldngooekaa
