/- Lists of values: number, sum, squares, spread; marks of a list of items. No program in sight. -/
import Derived.Test.YtbageimconenlaaGreatNM
namespace Go.Proofs.YtbageimconenlaaGreat
set_option linter.unusedVariables false
structure It where
  t : Int
  v : Int
def sumI : List Int → Int
  | [] => 0
  | x :: l => x + sumI l
def sqI : List Int → Int
  | [] => 0
  | x :: l => x * x + sqI l
def mnF (a : Int) : List Int → Int
  | [] => a
  | x :: l => mnF (if x < a then x else a) l
def mxF (a : Int) : List Int → Int
  | [] => a
  | x :: l => mxF (if x > a then x else a) l
def mnL : List Int → Int
  | [] => 0
  | a :: l => mnF a l
def mxL : List Int → Int
  | [] => 0
  | a :: l => mxF a l
theorem sumI_app : ∀ (a b : List Int), sumI (a ++ b) = sumI a + sumI b
  | [], b => by simp [sumI]
  | x :: a, b => by rw [List.cons_append, sumI, sumI, sumI_app a b]; omega
theorem sqI_app : ∀ (a b : List Int), sqI (a ++ b) = sqI a + sqI b
  | [], b => by simp [sqI]
  | x :: a, b => by rw [List.cons_append, sqI, sqI, sqI_app a b]; omega
theorem mnF_app (v : Int) : ∀ (l : List Int) (a : Int), mnF a (l ++ [v]) = if v < mnF a l then v else mnF a l
  | [], a => rfl
  | x :: l, a => mnF_app v l _
theorem mxF_app (v : Int) : ∀ (l : List Int) (a : Int), mxF a (l ++ [v]) = if v > mxF a l then v else mxF a l
  | [], a => rfl
  | x :: l, a => mxF_app v l _
theorem mnL_app (v : Int) {l : List Int} (h : l ≠ []) : mnL (l ++ [v]) = if v < mnL l then v else mnL l := by
  cases l with
  | nil => exact absurd rfl h
  | cons a l => exact mnF_app v l a
theorem mxL_app (v : Int) {l : List Int} (h : l ≠ []) : mxL (l ++ [v]) = if v > mxL l then v else mxL l := by
  cases l with
  | nil => exact absurd rfl h
  | cons a l => exact mxF_app v l a
theorem mnF_le : ∀ (l : List Int) (a : Int), mnF a l ≤ a ∧ ∀ x ∈ l, mnF a l ≤ x
  | [], a => ⟨Int.le_refl _, fun x hx => by cases hx⟩
  | y :: l, a => by
    obtain ⟨h1, h2⟩ := mnF_le l (if y < a then y else a)
    have hm : (if y < a then y else a) ≤ y ∧ (if y < a then y else a) ≤ a := by split <;> omega
    rw [mnF]
    generalize (if y < a then y else a) = m at *
    refine ⟨by omega, fun x hx => ?_⟩
    rcases List.mem_cons.1 hx with e | e
    · subst e; omega
    · exact h2 x e
theorem mxF_ge : ∀ (l : List Int) (a : Int), a ≤ mxF a l ∧ ∀ x ∈ l, x ≤ mxF a l
  | [], a => ⟨Int.le_refl _, fun x hx => by cases hx⟩
  | y :: l, a => by
    obtain ⟨h1, h2⟩ := mxF_ge l (if y > a then y else a)
    have hm : y ≤ (if y > a then y else a) ∧ a ≤ (if y > a then y else a) := by split <;> omega
    rw [mxF]
    generalize (if y > a then y else a) = m at *
    refine ⟨by omega, fun x hx => ?_⟩
    rcases List.mem_cons.1 hx with e | e
    · subst e; omega
    · exact h2 x e
theorem mnF_mem : ∀ (l : List Int) (a : Int), mnF a l ∈ a :: l
  | [], a => List.mem_cons_self
  | y :: l, a => by
    have := mnF_mem l (if y < a then y else a)
    rw [mnF]
    rcases List.mem_cons.1 this with e | e
    · rw [e]; split <;> simp
    · exact List.mem_cons_of_mem _ (List.mem_cons_of_mem _ e)
theorem mxF_mem : ∀ (l : List Int) (a : Int), mxF a l ∈ a :: l
  | [], a => List.mem_cons_self
  | y :: l, a => by
    have := mxF_mem l (if y > a then y else a)
    rw [mxF]
    rcases List.mem_cons.1 this with e | e
    · rw [e]; split <;> simp
    · exact List.mem_cons_of_mem _ (List.mem_cons_of_mem _ e)
theorem mnL_le {l : List Int} {x : Int} (h : x ∈ l) : mnL l ≤ x := by
  cases l with
  | nil => cases h
  | cons a l =>
    rcases List.mem_cons.1 h with e | e
    · subst e; exact (mnF_le l x).1
    · exact (mnF_le l a).2 x e
theorem mxL_ge {l : List Int} {x : Int} (h : x ∈ l) : x ≤ mxL l := by
  cases l with
  | nil => cases h
  | cons a l =>
    rcases List.mem_cons.1 h with e | e
    · subst e; exact (mxF_ge l x).1
    · exact (mxF_ge l a).2 x e
theorem mnL_mem {l : List Int} (h : l ≠ []) : mnL l ∈ l := by
  cases l with
  | nil => exact absurd rfl h
  | cons a l => exact mnF_mem l a
theorem mxL_mem {l : List Int} (h : l ≠ []) : mxL l ∈ l := by
  cases l with
  | nil => exact absurd rfl h
  | cons a l => exact mxF_mem l a
theorem sq0 (a : Int) : 0 ≤ a * a := by
  rcases Int.le_total 0 a with h | h
  · exact Int.mul_nonneg h h
  · exact Int.mul_nonneg_of_nonpos_of_nonpos h h
/-- number times squares minus the square of the sum -/
def topI (l : List Int) : Int := (l.length : Int) * sqI l - sumI l * sumI l
theorem topI_cons (x : Int) (l : List Int) : (l.length : Int) * topI (x :: l) = ((l.length : Int) + 1) * topI l + ((l.length : Int) * x - sumI l) * ((l.length : Int) * x - sumI l) := by
  unfold topI
  rw [sumI, sqI, List.length_cons]
  generalize sumI l = s
  generalize sqI l = q
  rw [show ((l.length + 1 : Nat) : Int) = (l.length : Int) + 1 from rfl]
  generalize (l.length : Int) = n
  grind
theorem pos_of_mul {n e : Int} (hn : 0 < n) (h : 0 ≤ n * e) : 0 ≤ e := by
  rcases Int.lt_or_le e 0 with h1 | h1
  · have : n * e ≤ n * (-1) := Int.mul_le_mul_of_nonneg_left (by omega) (by omega)
    omega
  · exact h1
theorem le_of_mul {n a b : Int} (hn : 0 < n) (h : n * a ≤ n * b) : a ≤ b := by
  have := pos_of_mul (n := n) (e := b - a) hn (by rw [Int.mul_sub]; omega)
  omega
theorem topI_nonneg : ∀ l : List Int, 0 ≤ topI l
  | [] => by simp [topI, sumI, sqI]
  | [x] => by simp [topI, sumI, sqI]
  | x :: y :: l => by
    have ih := topI_nonneg (y :: l)
    have h := topI_cons x (y :: l)
    have hn : (0 : Int) < ((y :: l).length : Int) := by rw [List.length_cons]; omega
    refine pos_of_mul hn ?_
    rw [h]
    have h1 : 0 ≤ (((y :: l).length : Int) + 1) * topI (y :: l) := Int.mul_nonneg (by omega) ih
    have h2 := sq0 (((y :: l).length : Int) * x - sumI (y :: l))
    omega
/-- the spread of a longer list is not less -/
theorem topI_mono (b : List Int) (hb : b ≠ []) : ∀ a : List Int, topI b * ((a ++ b).length : Int) ≤ topI (a ++ b) * (b.length : Int)
  | [] => Int.le_refl _
  | x :: a => by
    have ih := topI_mono b hb a
    have hc := topI_cons x (a ++ b)
    have h2 := sq0 (((a ++ b).length : Int) * x - sumI (a ++ b))
    have hbl : 0 < b.length := List.length_pos_iff.2 hb
    have hn : (0 : Int) < ((a ++ b).length : Int) := by simp; omega
    rw [List.cons_append, List.length_cons]
    rw [show ((((a ++ b).length + 1 : Nat)) : Int) = ((a ++ b).length : Int) + 1 from rfl]
    generalize ((a ++ b).length : Int) = n at *
    generalize topI (x :: (a ++ b)) = tx at *
    generalize topI (a ++ b) = ta at *
    generalize topI b = tb at *
    have hm0 : (0 : Int) ≤ (b.length : Int) := by omega
    generalize (b.length : Int) = m at *
    generalize (n * x - sumI (a ++ b)) = z at *
    refine le_of_mul hn ?_
    have e1 : (n + 1) * (tb * n) ≤ (n + 1) * (ta * m) := Int.mul_le_mul_of_nonneg_left ih (by omega)
    have e2 : m * (n * tx) = m * ((n + 1) * ta + z * z) := by rw [hc]
    have e3 : 0 ≤ m * (z * z) := Int.mul_nonneg hm0 h2
    grind
/-- one value more at the end -/
theorem topI_snoc (l : List Int) (x : Int) : topI (l ++ [x]) = topI l + ((l.length : Int) * (x * x) - 2 * x * sumI l + sqI l) := by
  unfold topI
  rw [sumI_app, sqI_app, List.length_append]
  simp only [sumI, sqI, List.length_cons, List.length_nil]
  generalize sumI l = s
  generalize sqI l = q
  rw [show ((l.length + (0 + 1) : Nat) : Int) = (l.length : Int) + 1 from rfl]
  generalize (l.length : Int) = n
  grind
/-- squared differences to one value -/
def difI (x : Int) : List Int → Int
  | [] => 0
  | y :: l => (x - y) * (x - y) + difI x l
theorem difI_app (x : Int) : ∀ (a b : List Int), difI x (a ++ b) = difI x a + difI x b
  | [], b => by simp [difI]
  | y :: a, b => by rw [List.cons_append, difI, difI, difI_app x a b]; omega
theorem difI_eq (x : Int) : ∀ l : List Int, difI x l = (l.length : Int) * (x * x) - 2 * x * sumI l + sqI l
  | [] => by simp [difI, sumI, sqI]
  | y :: l => by
    rw [difI, difI_eq x l, sumI, sqI, List.length_cons]
    generalize sumI l = s
    generalize sqI l = q
    rw [show ((l.length + 1 : Nat) : Int) = (l.length : Int) + 1 from rfl]
    generalize (l.length : Int) = n
    grind
theorem topI_dif (l : List Int) (x : Int) : topI (l ++ [x]) = topI l + difI x l := by rw [topI_snoc, difI_eq]
/-- the bounds of sums -/
theorem fitsL (lo hi : Int) (h1 : -4096 ≤ lo) (h2 : hi ≤ 4096) (h3 : lo ≤ hi) (l : List Int) (hl : l.length ≤ 100) (hb : ∀ x ∈ l, lo ≤ x ∧ x ≤ hi) : Fits l.length lo hi (sumI l) (sqI l) := by
  have key : ∀ l : List Int, (∀ x ∈ l, lo ≤ x ∧ x ≤ hi) → (l.length : Int) * lo ≤ sumI l ∧ sumI l ≤ (l.length : Int) * hi ∧ 0 ≤ sqI l ∧ sqI l ≤ (l.length : Int) * 16777216 := by
    intro l
    induction l with
    | nil => intro _; simp [sumI, sqI]
    | cons x l ih =>
      intro hb
      obtain ⟨a1, a2, a3, a4⟩ := ih fun y hy => hb y (List.mem_cons_of_mem _ hy)
      obtain ⟨b1, b2⟩ := hb x List.mem_cons_self
      obtain ⟨c1, c2⟩ := sq_bd (v := x) (by omega) (by omega)
      rw [sumI, sqI, List.length_cons, show ((l.length + 1 : Nat) : Int) = (l.length : Int) + 1 from rfl, Int.add_mul, Int.add_mul, Int.add_mul]
      refine ⟨?_, ?_, ?_, ?_⟩ <;> omega
  obtain ⟨a1, a2, a3, a4⟩ := key l hb
  have a5 := topI_nonneg l
  unfold topI at a5
  exact ⟨by omega, by omega, h1, h2, h3, a1, a2, a3, a4, by omega⟩
def vals (L : List It) : List Int := L.map It.v
def tAt (L : List It) (j : Nat) : Int := match L[j]? with | some x => x.t | none => 0
/-- the mark of the items from a number on -/
def mkOf (L : List It) (s : Nat) : Mk := ⟨(s : Nat), tAt L (s - 1), ((((vals L).drop (s - 1)).length : Nat) : Int), sumI ((vals L).drop (s - 1)), sqI ((vals L).drop (s - 1)), mnL ((vals L).drop (s - 1)), mxL ((vals L).drop (s - 1))⟩
theorem vals_app (L : List It) (x : It) : vals (L ++ [x]) = vals L ++ [x.v] := by simp [vals]
theorem vals_len (L : List It) : (vals L).length = L.length := by simp [vals]
theorem drop_ne {l : List Int} {n : Nat} (h : n < l.length) : l.drop n ≠ [] := by
  intro e
  have := congrArg List.length e
  simp at this; omega
theorem upM_mkOf (L : List It) (x : It) (s : Nat) (h1 : 1 ≤ s) (h2 : s ≤ L.length) : upM x.v (mkOf L s) = mkOf (L ++ [x]) s := by
  have hne : (vals L).drop (s - 1) ≠ [] := drop_ne (by rw [vals_len]; omega)
  have hd : (vals (L ++ [x])).drop (s - 1) = (vals L).drop (s - 1) ++ [x.v] := by
    rw [vals_app, List.drop_append_of_le_length (by rw [vals_len]; omega)]
  have ht : tAt (L ++ [x]) (s - 1) = tAt L (s - 1) := by
    unfold tAt
    rw [List.getElem?_append_left (by omega)]
  unfold upM mkOf
  simp only [hd, ht, sumI_app, sqI_app, mnL_app x.v hne, mxL_app x.v hne, List.length_append, List.length_cons, List.length_nil, sumI, sqI, Int.add_zero]
  rfl
theorem mkOf_last (L : List It) (x : It) : mkOf (L ++ [x]) (L.length + 1) = ⟨((L.length + 1 : Nat) : Int), x.t, 1, x.v, x.v * x.v, x.v, x.v⟩ := by
  have hd : (vals (L ++ [x])).drop (L.length + 1 - 1) = [x.v] := by
    rw [vals_app, Nat.add_sub_cancel, List.drop_append_of_le_length (by rw [vals_len]; omega), List.drop_of_length_le (by rw [vals_len]; omega)]; rfl
  have ht : tAt (L ++ [x]) (L.length + 1 - 1) = x.t := by
    unfold tAt
    rw [Nat.add_sub_cancel, List.getElem?_append_right (Nat.le_refl _)]
    simp
  unfold mkOf
  rw [hd, ht]
  simp [sumI, sqI, mnL, mxL, mnF, mxF]
/-- the items so far -/
structure Its (L : List It) (now : Int) : Prop where
  len : L.length ≤ 80
  val : ∀ x ∈ L, -4096 ≤ x.v ∧ x.v ≤ 4096
  tick : ∀ x ∈ L, 0 ≤ x.t ∧ x.t ≤ now
  asc : ∀ (i j : Nat), i ≤ j → j < L.length → tAt L i ≤ tAt L j
theorem Its.tat {L : List It} {now : Int} (h : Its L now) {i : Nat} (hi : i < L.length) : 0 ≤ tAt L i ∧ tAt L i ≤ now := by
  unfold tAt
  rw [List.getElem?_eq_getElem hi]
  exact h.tick _ (List.getElem_mem hi)
theorem Its.vals {L : List It} {now : Int} (h : Its L now) {v : Int} (hv : v ∈ vals L) : -4096 ≤ v ∧ v ≤ 4096 := by
  obtain ⟨x, hx, rfl⟩ := List.mem_map.1 hv
  exact h.val x hx
theorem Its.snoc {L : List It} {now : Int} (h : Its L now) (x : It) (hl : L.length < 80) (hv : -4096 ≤ x.v ∧ x.v ≤ 4096) (ht : 0 ≤ x.t) (hn : now ≤ x.t) : Its (L ++ [x]) x.t := by
  refine ⟨by simp; omega, fun y hy => ?_, fun y hy => ?_, fun i j hij hj => ?_⟩
  · rcases List.mem_append.1 hy with e | e
    · exact h.val y e
    · simp at e; subst e; exact hv
  · rcases List.mem_append.1 hy with e | e
    · have := h.tick y e; omega
    · simp at e; subst e; omega
  · simp at hj
    have old : ∀ k, k < L.length → tAt (L ++ [x]) k = tAt L k := fun k hk => by unfold tAt; rw [List.getElem?_append_left hk]
    have new : tAt (L ++ [x]) L.length = x.t := by unfold tAt; rw [List.getElem?_append_right (Nat.le_refl _)]; simp
    by_cases hjl : j < L.length
    · rw [old i (by omega), old j hjl]; exact h.asc i j hij hjl
    · obtain rfl : j = L.length := by omega
      rw [new]
      by_cases hil : i < L.length
      · rw [old i hil]; have := h.tat hil; omega
      · obtain rfl : i = L.length := by omega
        rw [new]; exact Int.le_refl _
theorem mkOf_ok {L : List It} {now : Int} (h : Its L now) {s : Nat} (h1 : 1 ≤ s) (h2 : s ≤ L.length) : MkOK (mkOf L s) ∧ -4096 ≤ (mkOf L s).mn ∧ (mkOf L s).mx ≤ 4096 ∧ (mkOf L s).mn ≤ (mkOf L s).mx ∧ (mkOf L s).n = (L.length : Int) - s + 1 := by
  have hne : (vals L).drop (s - 1) ≠ [] := drop_ne (by rw [vals_len]; omega)
  have hmem : ∀ v ∈ (vals L).drop (s - 1), -4096 ≤ v ∧ v ≤ 4096 := fun v hv => h.vals (List.mem_of_mem_drop hv)
  have hlen : ((vals L).drop (s - 1)).length = L.length - (s - 1) := by rw [List.length_drop, vals_len]
  have a1 := hmem _ (mnL_mem hne)
  have a2 := hmem _ (mxL_mem hne)
  have a3 := mnL_le (mxL_mem hne)
  have a4 := h.len
  refine ⟨⟨?_, ?_⟩, a1.1, a2.2, a3, ?_⟩
  · exact fitsL _ _ a1.1 a2.2 a3 _ (by omega) fun x hx => ⟨mnL_le hx, mxL_ge hx⟩
  · show (1 : Int) ≤ ((((vals L).drop (s - 1)).length : Nat) : Int); omega
  · show ((((vals L).drop (s - 1)).length : Nat) : Int) = _; omega
/-- the numbers of the marks -/
structure Sq (L : List It) (now w0 k : Int) (ss : List Nat) : Prop where
  inc : ss.Pairwise (· < ·)
  rng : ∀ s ∈ ss, 1 ≤ s ∧ s ≤ L.length
  last : ss ≠ [] → ss[ss.length - 1]? = some L.length
  dead : ∀ j, j < L.length → (∀ s, ss[0]? = some s → j + 1 < s) → tAt L j ≤ now - w0
  live : ∀ (i s : Nat), ss[i]? = some s → 0 < i ∨ ss.length = 1 → now - w0 < tAt L (s - 1)
  far : ∀ (i a b : Nat), ss[i]? = some a → ss[i + 2]? = some b → closeB k (mkOf L a) (mkOf L b) = false
def mks (L : List It) (ss : List Nat) : List Mk := ss.map (mkOf L)
theorem mks_len (L : List It) (ss : List Nat) : (mks L ss).length = ss.length := by simp [mks]
theorem mks_at {L : List It} {ss : List Nat} {i : Nat} {m : Mk} (h : (mks L ss)[i]? = some m) : ∃ s, ss[i]? = some s ∧ m = mkOf L s := by
  unfold mks at h
  rw [List.getElem?_map] at h
  cases hs : ss[i]? with
  | none => rw [hs] at h; cases h
  | some s => rw [hs] at h; cases h; exact ⟨s, rfl, rfl⟩
theorem pw_lt {ss : List Nat} (h : ss.Pairwise (· < ·)) {i j a b : Nat} (hi : ss[i]? = some a) (hj : ss[j]? = some b) (hij : i < j) : a < b := by
  obtain ⟨h1, e1⟩ := List.getElem?_eq_some_iff.1 hi
  obtain ⟨h2, e2⟩ := List.getElem?_eq_some_iff.1 hj
  have := List.pairwise_iff_getElem.1 h i j h1 h2 hij
  omega
theorem Sq.valid {L : List It} {now w0 k : Int} {ss : List Nat} (h : Sq L now w0 k ss) (hI : Its L now) : MVL (mks L ss) L.length 1000 now w0 (-4096) := by
  have hl := hI.len
  refine ⟨by omega, by omega, fun i m hm => ?_, fun i o m ho hm => ?_, fun i m hm hi => ?_, fun m hm => ?_⟩
  · obtain ⟨s, hs, rfl⟩ := mks_at hm
    obtain ⟨r1, r2⟩ := h.rng s (List.mem_of_getElem? hs)
    obtain ⟨b1, b2, b3, b4, b5⟩ := mkOf_ok hI r1 r2
    have ht := hI.tat (i := s - 1) (by omega)
    refine ⟨?_, ?_, b5, ?_, ht.1, ht.2, b2, b3, b4, b1⟩
    · show (1 : Int) ≤ (s : Int); omega
    · show (s : Int) ≤ _; omega
    · rw [b5]; omega
  · obtain ⟨a, ha, rfl⟩ := mks_at ho
    obtain ⟨s, hs, rfl⟩ := mks_at hm
    obtain ⟨r1, r2⟩ := h.rng s (List.mem_of_getElem? hs)
    obtain ⟨q1, q2⟩ := h.rng a (List.mem_of_getElem? ha)
    have hlt := pw_lt h.inc ha hs (Nat.lt_succ_self _)
    have hsp : (vals L).drop (a - 1) = ((vals L).drop (a - 1)).take (s - a) ++ (vals L).drop (s - 1) := by
      have e1 : (vals L).drop (s - 1) = ((vals L).drop (a - 1)).drop (s - a) := by rw [List.drop_drop]; congr 1; omega
      rw [e1, List.take_append_drop]
    have hne : (vals L).drop (s - 1) ≠ [] := drop_ne (by rw [vals_len]; omega)
    have hne2 : (vals L).drop (a - 1) ≠ [] := drop_ne (by rw [vals_len]; omega)
    obtain ⟨b1, b2, b3, b4, b5⟩ := mkOf_ok hI q1 q2
    have hlen : (((vals L).drop (a - 1)).take (s - a)).length = s - a := by rw [List.length_take, List.length_drop, vals_len]; omega
    refine ⟨?_, ?_, ?_, ?_, ?_⟩
    · show (a : Int) < (s : Int); omega
    · exact hI.asc _ _ (by omega) (by omega)
    · exact mnL_le (by rw [hsp]; exact List.mem_append_right _ (mnL_mem hne))
    · exact mxL_ge (by rw [hsp]; exact List.mem_append_right _ (mxL_mem hne))
    · have hf := fitsL (mkOf L a).mn (mkOf L a).mx b2 b3 b4 (((vals L).drop (a - 1)).take (s - a)) (by omega) fun x hx => ⟨mnL_le (List.mem_of_mem_take hx), mxL_ge (List.mem_of_mem_take hx)⟩
      have e1 : (mkOf L a).n - (mkOf L s).n = ((((vals L).drop (a - 1)).take (s - a)).length : Nat) := by
        show ((((vals L).drop (a - 1)).length : Nat) : Int) - ((((vals L).drop (s - 1)).length : Nat) : Int) = _
        rw [hlen, List.length_drop, List.length_drop, vals_len]; omega
      have e2 : (mkOf L a).s - (mkOf L s).s = sumI (((vals L).drop (a - 1)).take (s - a)) := by
        show sumI ((vals L).drop (a - 1)) - sumI ((vals L).drop (s - 1)) = _
        have := congrArg sumI hsp
        rw [sumI_app] at this; omega
      have e3 : (mkOf L a).q - (mkOf L s).q = sqI (((vals L).drop (a - 1)).take (s - a)) := by
        show sqI ((vals L).drop (a - 1)) - sqI ((vals L).drop (s - 1)) = _
        have := congrArg sqI hsp
        rw [sqI_app] at this; omega
      rw [e1, e2, e3]
      exact hf
  · obtain ⟨s, hs, rfl⟩ := mks_at hm
    rw [mks_len] at hi
    exact h.live i s hs hi
  · obtain ⟨s, hs, rfl⟩ := mks_at hm
    rw [mks_len] at hs
    have hne : ss ≠ [] := by rintro rfl; simp at hs
    rw [h.last hne] at hs
    cases hs
    have r1 := (h.rng L.length (List.mem_of_getElem? (h.last hne))).1
    have hd : ∃ v, (vals L).drop (L.length - 1) = [v] := by
      have : ((vals L).drop (L.length - 1)).length = 1 := by rw [List.length_drop, vals_len]; omega
      exact List.length_eq_one_iff.1 this
    obtain ⟨v, hd⟩ := hd
    unfold mkOf
    rw [hd]
    simp [sumI, sqI, mnL, mxL, mnF, mxF]
theorem Sq.far' {L : List It} {now w0 k : Int} {ss : List Nat} (h : Sq L now w0 k ss) (i : Nat) (a b : Mk) (ha : (mks L ss)[i]? = some a) (hb : (mks L ss)[i + 2]? = some b) : closeB k a b = false := by
  obtain ⟨s, hs, rfl⟩ := mks_at ha
  obtain ⟨r, hr, rfl⟩ := mks_at hb
  exact h.far i s r hs hr
theorem Sq.start (w0 k : Int) : Sq [] 0 w0 k [] :=
  { inc := .nil, rng := fun s hs => absurd hs List.not_mem_nil, last := fun h => absurd rfl h, dead := fun j hj => absurd hj (Nat.not_lt_zero _), live := fun i s hs => by simp at hs, far := fun i a b ha => by simp at ha }
end Go.Proofs.YtbageimconenlaaGreat
