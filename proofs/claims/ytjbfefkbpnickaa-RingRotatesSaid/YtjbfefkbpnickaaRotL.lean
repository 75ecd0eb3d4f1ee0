/- A list rotated: plain mathematics. -/
import Derived.Test.YtjbfefkbpnickaaCells
namespace Go.Proofs.Ytjbfefkbpnickaa
def rotl : Nat → List (Int × Int) → List (Int × Int)
  | 0, l => l
  | _ + 1, [] => []
  | m + 1, x :: t => rotl m (t ++ [x])
theorem rotl_nil (m : Nat) : rotl m [] = [] := by cases m <;> rfl
theorem rotl_len : ∀ (m : Nat) (l : List (Int × Int)), (rotl m l).length = l.length
  | 0, _ => rfl
  | _ + 1, [] => rfl
  | m + 1, x :: t => by rw [rotl, rotl_len m]; simp
theorem rot_at {x : Int × Int} {t : List (Int × Int)} {j : Nat} (hj : j < t.length + 1) : (t ++ [x])[j]? = (x :: t)[(j + 1) % (t.length + 1)]? := by
  rcases Nat.lt_or_ge j t.length with h | h
  · rw [List.getElem?_append_left h, Nat.mod_eq_of_lt (by omega)]; simp
  · have : j = t.length := by omega
    subst this
    rw [List.getElem?_append_right (Nat.le_refl _)]; simp
theorem rotl_at : ∀ (m : Nat) (l : List (Int × Int)) (i : Nat), i < l.length → (rotl m l)[i]? = l[(i + m) % l.length]?
  | 0, l, i, hi => by rw [rotl, Nat.add_zero, Nat.mod_eq_of_lt hi]
  | m + 1, [], i, hi => by simp at hi
  | m + 1, x :: t, i, hi => by
    have hi' : i < (t ++ [x]).length := by simpa using hi
    rw [rotl, rotl_at m (t ++ [x]) i hi']
    have hl : (t ++ [x]).length = t.length + 1 := by simp
    rw [hl, rot_at (Nat.mod_lt _ (by omega))]
    simp only [List.length_cons]
    congr 1
    rw [Nat.mod_add_mod]; rw [Nat.add_assoc]
theorem rotl_cut {l : List (Int × Int)} (n : Nat) (hl : 0 < l.length) : rotl n l = l.drop (n % l.length) ++ l.take (n % l.length) := by
  have hk : n % l.length < l.length := Nat.mod_lt _ hl
  apply List.ext_getElem?
  intro i
  rcases Nat.lt_or_ge i l.length with hi | hi
  · rw [rotl_at n l i hi]
    have e : (i + n) % l.length = (i + n % l.length) % l.length := by rw [Nat.add_mod_mod]
    rw [e]
    generalize n % l.length = k at *
    rcases Nat.lt_or_ge i (l.length - k) with h | h
    · rw [List.getElem?_append_left (by simpa using h), List.getElem?_drop, Nat.mod_eq_of_lt (by omega), Nat.add_comm]
    · rw [List.getElem?_append_right (by simpa using h), List.getElem?_take, if_pos (by simp; omega), Nat.mod_eq_sub_mod (by omega), Nat.mod_eq_of_lt (by omega)]
      congr 1; simp; omega
  · rw [List.getElem?_eq_none (by rw [rotl_len]; exact hi), List.getElem?_eq_none (by simp; omega)]
end Go.Proofs.Ytjbfefkbpnickaa
