/- Numbers of sequences: plain mathematics, no program in sight. -/
import Derived.Test.YtphkofgbpfcoiaaPlain
namespace Go.Proofs.Ytphkofgbpfcoiaa
def prodL : List Int → Int
  | [] => 1
  | m :: r => m * prodL r
def AllPos (l : List Int) : Prop := ∀ m ∈ l, 1 ≤ m
theorem prodL_snoc (l : List Int) (m : Int) : prodL (l ++ [m]) = prodL l * m := by
  induction l with
  | nil => simp [prodL]
  | cons a l ih => simp only [List.cons_append, prodL, ih]; rw [Int.mul_assoc]
theorem prodL_pos {l : List Int} (h : AllPos l) : 1 ≤ prodL l := by
  induction l with
  | nil => simp [prodL]
  | cons a l ih =>
    have h1 := h a List.mem_cons_self
    have h2 := ih fun m hm => h m (List.mem_cons_of_mem _ hm)
    have := Int.mul_le_mul_of_nonneg_left h2 (show 0 ≤ a by omega)
    simp only [prodL]; omega
theorem prodL_append (l r : List Int) : prodL (l ++ r) = prodL l * prodL r := by
  induction l with
  | nil => simp [prodL]
  | cons a l ih => simp only [List.cons_append, prodL, ih]; rw [Int.mul_assoc]
theorem prodL_take {l : List Int} (h : AllPos l) (j : Nat) : prodL (l.take j) ≤ prodL l := by
  have h1 : prodL l = prodL (l.take j) * prodL (l.drop j) := by rw [← prodL_append, List.take_append_drop]
  have h2 : 1 ≤ prodL (l.drop j) := prodL_pos fun m hm => h m (List.mem_of_mem_drop hm)
  have h3 : 1 ≤ prodL (l.take j) := prodL_pos fun m hm => h m (List.mem_of_mem_take hm)
  rw [h1]
  have := Int.mul_le_mul_of_nonneg_left h2 (show 0 ≤ prodL (l.take j) by omega)
  omega
def WOk (l : List Int) : Prop := AllPos l ∧ prodL l ≤ 4611686018427387904
instance (l : List Int) : Decidable (AllPos l) := by unfold AllPos; infer_instance
instance (l : List Int) : Decidable (WOk l) := by unfold WOk; infer_instance
def wV (l : List Int) : Int := if WOk l then prodL l else 0
def wB (l : List Int) : Bool := decide (WOk l)
theorem wV_yes {l : List Int} (h : WOk l) : wV l = prodL l ∧ wB l = true := ⟨if_pos h, decide_eq_true h⟩
theorem wV_no {l : List Int} (h : ¬ WOk l) : wV l = 0 ∧ wB l = false := ⟨if_neg h, decide_eq_false h⟩
theorem wok_small {l : List Int} {m : Int} (hm : m ∈ l) (h : m < 1) : ¬ WOk l := fun c => by have := c.1 m hm; omega
theorem allPos_snoc {l : List Int} {m : Int} (h : AllPos l) (hm : 1 ≤ m) : AllPos (l ++ [m]) := by
  intro x hx
  rcases List.mem_append.1 hx with hx | hx
  · exact h x hx
  · simp at hx; subst hx; exact hm
theorem wok_over {l : List Int} (j : Nat) (h : AllPos l) (hp : 4611686018427387904 < prodL (l.take j)) : ¬ WOk l := fun c => by
  have := prodL_take h j
  have := c.2; omega
theorem wok_over' {l : List Int} (j : Nat) (hp : 4611686018427387904 < prodL (l.take j)) : ¬ WOk l := fun c => by
  have := prodL_take c.1 j
  have := c.2; omega
/-- n > 2^62 / m just where n m > 2^62 -/
theorem quo_gt {n m : Int} (hm : 1 ≤ m) : (4611686018427387904 / m < n) ↔ 4611686018427387904 < n * m := by
  rw [Int.ediv_lt_iff_lt_mul (by omega)]
-- numbers of sequences
def numL : List Int → List Int → Int
  | _ :: rs, d :: ds => d * prodL rs + numL rs ds
  | _, _ => 0
def inL : List Int → List Int → Prop
  | r :: rs, d :: ds => 0 ≤ d ∧ d < r ∧ inL rs ds
  | [], [] => True
  | _, _ => False
def seqL : List Int → Int → List Int
  | [], _ => []
  | r :: rs, n => (n / prodL rs % r) :: seqL rs n
theorem seqL_len (rs : List Int) (n : Int) : (seqL rs n).length = rs.length := by
  induction rs with
  | nil => rfl
  | cons r rs ih => simp [seqL, ih]
theorem inL_len : ∀ {rs ds : List Int}, inL rs ds → ds.length = rs.length
  | [], [], _ => rfl
  | [], _ :: _, h => absurd h id
  | _ :: _, [], h => absurd h id
  | _ :: rs, _ :: ds, h => by simp [inL_len h.2.2]
theorem inL_pos : ∀ {rs ds : List Int}, inL rs ds → AllPos rs
  | [], [], _ => by intro m hm; cases hm
  | [], _ :: _, h => absurd h id
  | _ :: _, [], h => absurd h id
  | r :: rs, d :: ds, h => by
    intro m hm
    rcases List.mem_cons.1 hm with rfl | hm
    · have := h.1; have := h.2.1; omega
    · exact inL_pos h.2.2 m hm
theorem numL_bd : ∀ {rs ds : List Int}, inL rs ds → 0 ≤ numL rs ds ∧ numL rs ds < prodL rs
  | [], [], _ => by simp [numL, prodL]
  | [], _ :: _, h => absurd h id
  | _ :: _, [], h => absurd h id
  | r :: rs, d :: ds, h => by
    obtain ⟨h0, h1, h2⟩ := h
    have ih := numL_bd h2
    have hp := prodL_pos (inL_pos h2)
    have h3 := Int.mul_nonneg h0 (show 0 ≤ prodL rs by omega)
    have h4 := Int.mul_le_mul_of_nonneg_right (show d + 1 ≤ r by omega) (show 0 ≤ prodL rs by omega)
    rw [Int.add_mul] at h4
    simp only [numL, prodL]; omega
theorem seqL_mod : ∀ (rs : List Int) (n k : Int), AllPos rs → seqL rs (n + k * prodL rs) = seqL rs n
  | [], _, _, _ => rfl
  | r :: rs, n, k, h => by
    have hr := h r List.mem_cons_self
    have hrs : AllPos rs := fun m hm => h m (List.mem_cons_of_mem _ hm)
    have hp := prodL_pos hrs
    have e : k * (r * prodL rs) = (k * r) * prodL rs := by rw [Int.mul_assoc]
    simp only [seqL, prodL]
    rw [e, seqL_mod rs n (k * r) hrs, Int.add_mul_ediv_right n (k * r) (show prodL rs ≠ 0 by omega), Int.mul_comm k r, Int.add_mul_emod_self_left]
theorem seqL_numL : ∀ {rs ds : List Int}, inL rs ds → seqL rs (numL rs ds) = ds
  | [], [], _ => rfl
  | [], _ :: _, h => absurd h id
  | _ :: _, [], h => absurd h id
  | r :: rs, d :: ds, h => by
    obtain ⟨h0, h1, h2⟩ := h
    have hb := numL_bd h2
    have hp := prodL_pos (inL_pos h2)
    simp only [numL, seqL]
    rw [Int.add_comm (d * prodL rs), seqL_mod rs _ d (inL_pos h2), seqL_numL h2, Int.add_mul_ediv_right _ d (show prodL rs ≠ 0 by omega), Int.ediv_eq_zero_of_lt hb.1 hb.2, Int.zero_add, Int.emod_eq_of_lt h0 h1]
theorem seqL_in : ∀ {rs : List Int} (n : Int), AllPos rs → inL rs (seqL rs n)
  | [], _, _ => trivial
  | r :: rs, n, h => by
    have hr := h r List.mem_cons_self
    exact ⟨Int.emod_nonneg _ (by omega), Int.emod_lt_of_pos _ (by omega), seqL_in n fun m hm => h m (List.mem_cons_of_mem _ hm)⟩
theorem emod_split (n P r : Int) (hP : 0 < P) (hr : 1 ≤ r) : n % (P * r) = P * (n / P % r) + n % P := by
  have h1 := Int.mul_ediv_add_emod n P
  have h2 := Int.mul_ediv_add_emod (n / P) r
  have h3 := Int.emod_nonneg (n / P) (b := r) (by omega)
  have h4 := Int.emod_lt_of_pos (n / P) (b := r) (by omega)
  have h5 := Int.emod_nonneg n (b := P) (by omega)
  have h6 := Int.emod_lt_of_pos n (b := P) hP
  generalize n / P / r = t at *
  generalize n / P % r = u at *
  generalize n % P = s at *
  generalize n / P = q at *
  have h7 := Int.mul_nonneg (show 0 ≤ P by omega) h3
  have h8 := Int.mul_le_mul_of_nonneg_left (show u + 1 ≤ r by omega) (show 0 ≤ P by omega)
  rw [Int.mul_add, Int.mul_one] at h8
  have e : n = (P * u + s) + (P * r) * t := by
    rw [← h1, ← h2, Int.mul_add, Int.mul_assoc]; omega
  rw [e, Int.add_mul_emod_self_left, Int.emod_eq_of_lt (by omega) (by omega)]
theorem numL_seqL : ∀ {rs : List Int} (n : Int), AllPos rs → numL rs (seqL rs n) = n % prodL rs
  | [], n, _ => by simp [numL, prodL]
  | r :: rs, n, h => by
    have hr := h r List.mem_cons_self
    have hrs : AllPos rs := fun m hm => h m (List.mem_cons_of_mem _ hm)
    have hp := prodL_pos hrs
    simp only [seqL, numL, prodL]
    rw [numL_seqL n hrs, Int.mul_comm r, Int.mul_comm (n / prodL rs % r)]
    exact (emod_split n (prodL rs) r (by omega) hr).symm
end Go.Proofs.Ytphkofgbpfcoiaa
