/- The cells of a buffer with a capacity, a head and some elements: plain mathematics. -/
import Derived.Test.YtjbfefkbpnickaaValid
namespace Go.Proofs.Ytjbfefkbpnickaa
def wr (C a : Nat) : Nat := if a < C then a else a - C
theorem mod_wr {C a : Nat} (h : a < 2 * C) : a % C = wr C a := by
  unfold wr
  split
  · exact Nat.mod_eq_of_lt (by assumption)
  · rw [Nat.mod_eq_sub_mod (by omega), Nat.mod_eq_of_lt (by omega)]
def cellsL (C H : Nat) (xs : List (Int × Int)) : List (Int × Int) := (List.range C).map fun k => xs.getD (wr C (k + C - H)) (0, 0)
theorem cellsL_len (C H : Nat) (xs : List (Int × Int)) : (cellsL C H xs).length = C := by simp [cellsL]
theorem cellsL_at {C H : Nat} {xs : List (Int × Int)} {k : Nat} (hk : k < C) : (cellsL C H xs)[k]? = some (xs.getD (wr C (k + C - H)) (0, 0)) := by
  simp [cellsL, hk]
theorem wr_back {C H i : Nat} (hH : H < C) (hi : i < C) : wr C (wr C (H + i) + C - H) = i := by
  unfold wr; split <;> split <;> omega
theorem wr_lt {C a : Nat} (h : a < 2 * C) : wr C a < C := by unfold wr; split <;> omega
theorem cellsL_elem {C H : Nat} {xs : List (Int × Int)} {i : Nat} (hH : H < C) (hi : i < C) : (cellsL C H xs)[(H + i) % C]? = some (xs.getD i (0, 0)) := by
  rw [mod_wr (by omega), cellsL_at (wr_lt (by omega)), wr_back hH hi]
theorem ext_cells {C : Nat} {l m : List (Int × Int)} (hl : l.length = C) (hm : m.length = C) (h : ∀ k, k < C → l[k]? = m[k]?) : l = m := by
  apply List.ext_getElem?
  intro k
  rcases Nat.lt_or_ge k C with hk | hk
  · exact h k hk
  · rw [List.getElem?_eq_none (by omega), List.getElem?_eq_none (by omega)]
/-- one cell set -/
theorem cells_set {C H H' : Nat} {xs ys : List (Int × Int)} {k : Nat} {x : (Int × Int)} (hk : k < C) (hx : ys.getD (wr C (k + C - H')) (0, 0) = x)
    (h : ∀ j, j < C → j ≠ k → xs.getD (wr C (j + C - H)) (0, 0) = ys.getD (wr C (j + C - H')) (0, 0)) : (cellsL C H xs).set k x = cellsL C H' ys := by
  apply ext_cells (C := C) (by simp [cellsL_len]) (cellsL_len _ _ _)
  intro j hj
  rw [List.getElem?_set, cellsL_at (H := H') hj]
  split
  · subst_vars; simp [cellsL_len, hj]
  · rw [cellsL_at hj, h j hj (by omega)]
theorem getD_append_lt {xs ys : List (Int × Int)} {i : Nat} (h : i < xs.length) : (xs ++ ys).getD i (0, 0) = xs.getD i (0, 0) := by
  simp [List.getD_eq_getElem?_getD, List.getElem?_append_left h]
theorem getD_ge {xs : List (Int × Int)} {i : Nat} (h : xs.length ≤ i) : xs.getD i (0, 0) = (0, 0) := by
  simp [List.getD_eq_getElem?_getD, List.getElem?_eq_none h]
theorem getD_snoc {xs : List (Int × Int)} {x : (Int × Int)} : (xs ++ [x]).getD xs.length (0, 0) = x := by
  simp [List.getD_eq_getElem?_getD]
theorem push_back {C H : Nat} {xs : List (Int × Int)} (x : (Int × Int)) (hH : H < C) (hL : xs.length < C) : (cellsL C H xs).set ((H + xs.length) % C) x = cellsL C H (xs ++ [x]) := by
  rw [mod_wr (by omega)]
  apply cells_set (wr_lt (by omega))
  · rw [wr_back hH hL, getD_snoc]
  · intro j hj hne
    rcases Nat.lt_trichotomy (wr C (j + C - H)) xs.length with h | h | h
    · rw [getD_append_lt h]
    · exfalso; unfold wr at h hne; split at h <;> split at hne <;> omega
    · rw [getD_ge (by omega), getD_ge (by simp; omega)]
theorem push_front {C H : Nat} {xs : List (Int × Int)} (x : (Int × Int)) (hH : H < C) (hL : xs.length < C) : (cellsL C H xs).set ((H + C - 1) % C) x = cellsL C ((H + C - 1) % C) (x :: xs) := by
  rw [mod_wr (by omega)]
  have hw : wr C (H + C - 1) < C := wr_lt (by omega)
  apply cells_set hw
  · have : wr C (wr C (H + C - 1) + C - wr C (H + C - 1)) = 0 := by rw [Nat.add_sub_cancel_left]; unfold wr; simp
    rw [this]; rfl
  · intro j hj hne
    have e : wr C (j + C - wr C (H + C - 1)) = wr C (j + C - H) + 1 ∨ (wr C (j + C - H) + 1 = C ∧ wr C (j + C - wr C (H + C - 1)) = 0) := by
      unfold wr at hne ⊢; split at hne <;> (repeat' split) <;> omega
    rcases e with e | ⟨e1, e2⟩
    · rw [e]; simp
    · exfalso; unfold wr at e1 e2 hne; (repeat' split at e1) <;> (repeat' split at hne) <;> (repeat' split at e2) <;> omega
theorem pop_front {C H : Nat} {xs : List (Int × Int)} {x : (Int × Int)} (hH : H < C) (hL : xs.length < C) : (cellsL C H (x :: xs)).set H (0, 0) = cellsL C ((H + 1) % C) xs := by
  rw [mod_wr (by omega)]
  apply cells_set hH
  · apply getD_ge
    unfold wr; (repeat' split) <;> omega
  · intro j hj hne
    have e : wr C (j + C - H) = wr C (j + C - wr C (H + 1)) + 1 := by unfold wr; (repeat' split) <;> omega
    rw [e]; simp
theorem pop_back {C H : Nat} {xs : List (Int × Int)} {x : (Int × Int)} (hH : H < C) (hL : xs.length < C) : (cellsL C H (xs ++ [x])).set ((H + xs.length) % C) (0, 0) = cellsL C H xs := by
  rw [mod_wr (by omega)]
  apply cells_set (wr_lt (by omega))
  · rw [wr_back hH hL, getD_ge (Nat.le_refl _)]
  · intro j hj hne
    rcases Nat.lt_trichotomy (wr C (j + C - H)) xs.length with h | h | h
    · rw [getD_append_lt h]
    · exfalso; unfold wr at h hne; split at h <;> split at hne <;> omega
    · rw [getD_ge (by simp; omega), getD_ge (by omega)]
theorem cellsL_nil {C H : Nat} : cellsL C H [] = List.replicate C (0, 0) := by
  apply ext_cells (cellsL_len _ _ _) (by simp)
  intro k hk
  rw [cellsL_at hk]; simp [hk]
theorem cellsL_zero {C : Nat} {xs : List (Int × Int)} (h : xs.length ≤ C) : cellsL C 0 xs = xs ++ List.replicate (C - xs.length) (0, 0) := by
  apply ext_cells (cellsL_len _ _ _) (by simp; omega)
  intro k hk
  rw [cellsL_at hk]
  have e : wr C (k + C - 0) = k := by unfold wr; split <;> omega
  rw [e]
  rcases Nat.lt_or_ge k xs.length with h1 | h1
  · rw [List.getElem?_append_left h1, List.getD_eq_getElem?_getD, List.getElem?_eq_getElem h1]; rfl
  · rw [List.getElem?_append_right h1, getD_ge h1, List.getElem?_replicate, if_pos (by omega)]
/-- the elements of a buffer -/
def itemsL (C H L : Nat) (l : List (Int × Int)) : List (Int × Int) := (List.range L).map fun i => l.getD ((H + i) % C) (0, 0)
theorem itemsL_len (C H L : Nat) (l : List (Int × Int)) : (itemsL C H L l).length = L := by simp [itemsL]
theorem itemsL_cells {C H : Nat} {xs : List (Int × Int)} (hH : H < C) (hL : xs.length ≤ C) : itemsL C H xs.length (cellsL C H xs) = xs := by
  apply List.ext_getElem (itemsL_len _ _ _ _)
  intro i h1 h2
  have := cellsL_elem (xs := xs) hH (show i < C by omega)
  simp [itemsL, List.getD_eq_getElem?_getD, this, h2]
/-- the valid buffers -/
structure Rg (cap head len : Int) (l : List (Int × Int)) (C H : Nat) (xs : List (Int × Int)) : Prop where
  cap : cap = C
  head : head = H
  len : len = xs.length
  one : 1 ≤ C
  max : C ≤ 65536
  hd : H < C
  fits : xs.length ≤ C
  cells : l = cellsL C H xs
theorem Rg.ok {cap head len : Int} {l : List (Int × Int)} {C H : Nat} {xs : List (Int × Int)} (h : Rg cap head len l C H xs) : VOk cap head len l := by
  obtain ⟨rfl, rfl, rfl, h1, h2, h3, h4, rfl⟩ := h
  refine ⟨⟨by omega, by omega, by rw [cellsL_len], by omega, by omega, by omega, by omega⟩, ?_⟩
  intro k hk hk2
  simp only [Int.toNat_natCast] at hk hk2 ⊢
  rw [cellsL_elem h3 hk2, getD_ge hk]
theorem Rg.of_ok {cap head len : Int} {l : List (Int × Int)} (h : VOk cap head len l) : ∃ C H xs, Rg cap head len l C H xs := by
  obtain ⟨⟨h1, h2, h3, h4, h5, h6, h7⟩, hz⟩ := h
  obtain ⟨C, rfl⟩ := Int.eq_ofNat_of_zero_le (a := cap) (by omega)
  obtain ⟨H, rfl⟩ := Int.eq_ofNat_of_zero_le (a := head) (by omega)
  obtain ⟨L, rfl⟩ := Int.eq_ofNat_of_zero_le (a := len) (by omega)
  simp only [Int.toNat_natCast] at hz
  refine ⟨C, H, itemsL C H L l, rfl, rfl, by rw [itemsL_len], by omega, by omega, by omega, by rw [itemsL_len]; omega, ?_⟩
  apply ext_cells (C := C) (by omega) (cellsL_len _ _ _)
  intro k hk
  have hi : wr C (k + C - H) < C := wr_lt (by omega)
  have hb : (H + wr C (k + C - H)) % C = k := by
    rw [mod_wr (by omega)]
    unfold wr; (repeat' split) <;> omega
  rw [cellsL_at hk]
  generalize wr C (k + C - H) = i at *
  rcases Nat.lt_or_ge i L with h1 | h1
  · have e : (itemsL C H L l).getD i (0, 0) = l.getD ((H + i) % C) (0, 0) := by simp [itemsL, List.getD_eq_getElem?_getD, h1]
    rw [e, hb]
    have hkl : k < l.length := by omega
    simp [List.getD_eq_getElem?_getD, hkl]
  · have := hz i h1 hi
    rw [hb] at this
    rw [this, getD_ge (by rw [itemsL_len]; exact h1)]
end Go.Proofs.Ytjbfefkbpnickaa
