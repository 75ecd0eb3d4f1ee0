/- Marks of a list of items: the clock moves on, an item comes in; the answer. No program in sight. -/
import Derived.Test.YtbageimconenlaaGreatPA
namespace Go.Proofs.YtbageimconenlaaGreat
set_option linter.unusedVariables false
theorem advM_drop (u w0 : Int) : ∀ l : List Mk, (∀ (i j : Nat) (a b : Mk), i ≤ j → l[i]? = some a → l[j]? = some b → a.t ≤ b.t) →
    ∃ r, r ≤ l.length ∧ advM u w0 l = l.drop r ∧ (∀ (i : Nat) (m : Mk), 0 < i ∨ r = l.length → i ≤ r → l[i]? = some m → m.t ≤ u - w0) ∧ (∀ (i : Nat) (m : Mk), l[r + i]? = some m → 0 < i ∨ r + 1 = l.length → u - w0 < m.t)
  | [], _ => ⟨0, Nat.le_refl _, rfl, fun i m _ _ h => by simp at h, fun i m h => by simp at h⟩
  | [a], hT => by
    by_cases h : u - w0 < a.t
    · refine ⟨0, by simp, by rw [advM, if_pos h]; rfl, fun i m h1 h2 h3 => ?_, fun i m h1 h2 => ?_⟩
      · rcases h1 with h1 | h1
        · omega
        · simp at h1
      · match i, h1 with
        | 0, h1 => simp at h1; subst h1; exact h
        | i + 1, h1 => simp at h1
    · refine ⟨1, by simp, by rw [advM, if_neg h]; rfl, fun i m h1 h2 h3 => ?_, fun i m h1 h2 => ?_⟩
      · match i, h3 with
        | 0, h3 => simp at h3; subst h3; omega
        | i + 1, h3 => simp at h3
      · rw [Nat.add_comm] at h1; simp at h1
  | a :: b :: l, hT => by
    by_cases h : u - w0 < b.t
    · refine ⟨0, by simp, by rw [advM, if_pos h]; rfl, fun i m h1 h2 h3 => ?_, fun i m h1 h2 => ?_⟩
      · rcases h1 with h1 | h1
        · omega
        · simp at h1
      · rw [Nat.zero_add] at h1
        rcases h2 with h2 | h2
        · have := hT 1 i b m (by omega) rfl h1; omega
        · simp at h2
    · obtain ⟨r, h1, h2, h3, h4⟩ := advM_drop u w0 (b :: l) fun i j x y hij hx hy => hT (i + 1) (j + 1) x y (by omega) (by simpa using hx) (by simpa using hy)
      refine ⟨r + 1, by simp at h1 ⊢; omega, by rw [advM, if_neg h, h2]; rfl, fun i m g1 g2 g3 => ?_, fun i m g1 g2 => ?_⟩
      · match i, g3 with
        | 0, g3 => simp at g3; subst g3; have := hT 0 1 a b (by omega) rfl rfl; omega
        | 1, g3 => simp at g3; subst g3; omega
        | i + 2, g3 => exact h3 (i + 1) m (.inl (by omega)) (by omega) (by simpa using g3)
      · have g1' : (b :: l)[r + i]? = some m := by rw [show r + 1 + i = (r + i) + 1 by omega] at g1; simpa using g1
        exact h4 i m g1' (g2.imp id fun e => by simp at e ⊢; omega)
theorem mks_get {L : List It} {ss : List Nat} {i s : Nat} (h : ss[i]? = some s) : (mks L ss)[i]? = some (mkOf L s) := by
  unfold mks; rw [List.getElem?_map, h]; rfl
theorem Its.mono {L : List It} {now u : Int} (h : Its L now) (hu : now ≤ u) : Its L u := ⟨h.len, h.val, fun x hx => by have := h.tick x hx; omega, h.asc⟩
theorem Sq.tasc {L : List It} {now w0 k : Int} {ss : List Nat} (h : Sq L now w0 k ss) (hI : Its L now) (i j : Nat) (a b : Mk) (hij : i ≤ j) (ha : (mks L ss)[i]? = some a) (hb : (mks L ss)[j]? = some b) : a.t ≤ b.t := by
  obtain ⟨s, hs, rfl⟩ := mks_at ha
  obtain ⟨r, hr, rfl⟩ := mks_at hb
  have hr2 := h.rng r (List.mem_of_getElem? hr)
  have hs2 := h.rng s (List.mem_of_getElem? hs)
  by_cases e : i = j
  · subst e; rw [hs] at hr; cases hr; exact Int.le_refl _
  · have := pw_lt h.inc hs hr (by omega)
    exact hI.asc (s - 1) (r - 1) (by omega) (by omega)
/-- the clock moves on -/
theorem Sq.adv {L : List It} {now w0 k u : Int} {ss : List Nat} (h : Sq L now w0 k ss) (hI : Its L now) (hu : now ≤ u) : ∃ ss', advM u w0 (mks L ss) = mks L ss' ∧ Sq L u w0 k ss' := by
  obtain ⟨r, h1, h2, h3, h4⟩ := advM_drop u w0 (mks L ss) fun i j a b hij ha hb => h.tasc hI i j a b hij ha hb
  rw [mks_len] at h1
  refine ⟨ss.drop r, by rw [h2]; unfold mks; rw [List.map_drop], ?_⟩
  have hmem : ∀ s ∈ ss.drop r, s ∈ ss := fun s hs => List.mem_of_mem_drop hs
  refine ⟨h.inc.sublist (List.drop_sublist r ss), fun s hs => h.rng s (hmem s hs), fun hne => ?_, fun j hj hlt => ?_, fun i s hs hi => ?_, fun i a b ha hb => ?_⟩
  · have hlt : r < ss.length := by
      rcases Nat.lt_or_ge r ss.length with g | g
      · exact g
      · exact absurd (List.drop_of_length_le g) hne
    rw [List.getElem?_drop, List.length_drop, show r + (ss.length - r - 1) = ss.length - 1 by omega]
    exact h.last (by rintro rfl; simp at hlt)
  · by_cases hr0 : r = 0
    · subst hr0
      rw [List.drop_zero] at hlt
      have := h.dead j hj hlt
      omega
    · -- a mark that is dead stands behind the item
      by_cases hrl : r = ss.length
      · have hne : ss ≠ [] := by rintro rfl; simp at hrl; omega
        have hl := h.last hne
        have := h3 (ss.length - 1) _ (.inr (by rw [mks_len]; exact hrl)) (by omega) (mks_get hl)
        have e : (mkOf L L.length).t = tAt L (L.length - 1) := rfl
        rw [e] at this
        have := hI.asc j (L.length - 1) (by omega) (by omega)
        omega
      · obtain ⟨s, hs⟩ : ∃ s, ss[r]? = some s := ⟨ss[r]'(by omega), List.getElem?_eq_getElem (by omega)⟩
        have hs' := hlt s (by rw [List.getElem?_drop]; exact hs)
        have := h3 r _ (.inl (by omega)) (Nat.le_refl _) (mks_get hs)
        have e : (mkOf L s).t = tAt L (s - 1) := rfl
        rw [e] at this
        have hr2 := h.rng s (List.mem_of_getElem? hs)
        have := hI.asc j (s - 1) (by omega) (by omega)
        omega
  · rw [List.getElem?_drop] at hs
    have := h4 i _ (mks_get hs) (hi.imp id fun e => by rw [mks_len]; rw [List.length_drop] at e; omega)
    exact this
  · rw [List.getElem?_drop] at ha hb
    exact h.far (r + i) a b ha (by rw [← Nat.add_assoc] at hb; exact hb)
theorem scanI_top (f : Nat → Nat → Bool) (i : Nat) : ∀ j, scanI f i j ≤ i + 1 ∨ scanI f i j ≤ j
  | 0 => .inl (Nat.le_refl _)
  | j + 1 => by
    unfold scanI
    split
    · exact .inl (Nat.le_refl _)
    · split
      · exact .inr (Nat.le_refl _)
      · rcases scanI_top f i j with h | h
        · exact .inl h
        · exact .inr (by omega)
theorem scanI_far (f : Nat → Nat → Bool) (i b : Nat) (hib : i < b) : ∀ j, b ≤ j → scanI f i j < b → f i b = false
  | 0, h, _ => by omega
  | j + 1, h, hlt => by
    unfold scanI at hlt
    split at hlt
    · omega
    · split at hlt
      · omega
      · rename_i h1 h2
        by_cases e : b = j + 1
        · subst e; simpa using h2
        · exact scanI_far f i b hib j (by omega) hlt
structure PrS (f : Nat → Nat → Bool) (n i : Nat) (R : List Nat) : Prop where
  hd : i < n → R[0]? = some i
  rng : ∀ x ∈ R, i ≤ x ∧ x < n
  inc : R.Pairwise (· < ·)
  last : R ≠ [] → R[R.length - 1]? = some (n - 1)
  far : ∀ (j a b : Nat), R[j]? = some a → R[j + 2]? = some b → f a b = false
theorem prune_spec (f : Nat → Nat → Bool) (n : Nat) : ∀ k i, n - i ≤ k → PrS f n i (pruneI f n k i)
  | 0, i, h => ⟨fun g => by omega, fun x hx => (by cases hx), .nil, fun g => absurd rfl g, fun j a b ha => by simp [pruneI] at ha⟩
  | k + 1, i, h => by
    unfold pruneI
    by_cases hi : i < n
    · rw [if_pos hi]
      have hg := scanI_gt f i (n - 1)
      have ht := scanI_top f i (n - 1)
      have ih := prune_spec f n k (scanI f i (n - 1)) (by omega)
      have hfar : ∀ b, scanI f i (n - 1) < b → b < n → f i b = false := fun b h1 h2 => scanI_far f i b (by omega) (n - 1) (by omega) h1
      generalize scanI f i (n - 1) = p at *
      generalize hR : pruneI f n k p = R at *
      refine ⟨fun _ => rfl, fun x hx => ?_, List.pairwise_cons.2 ⟨fun x hx => ?_, ih.inc⟩, fun _ => ?_, fun j a b ha hb => ?_⟩
      · rcases List.mem_cons.1 hx with e | e
        · omega
        · have := ih.rng x e; omega
      · have := ih.rng x hx; omega
      · by_cases hRn : R = []
        · subst hRn
          have : ¬ p < n := fun hp => by have := ih.hd hp; simp at this
          have e : i = n - 1 := by omega
          simp [e]
        · have := ih.last hRn
          have hlen : 0 < R.length := List.length_pos_iff.2 hRn
          rw [List.length_cons, show R.length + 1 - 1 = (R.length - 1) + 1 by omega, List.getElem?_cons_succ]
          exact this
      · match j, ha with
        | 0, ha =>
          simp at ha; subst ha
          have hb' : R[1]? = some b := by simpa using hb
          have h1 := ih.rng b (List.mem_of_getElem? hb')
          have hRn : 0 < R.length := by rcases Nat.lt_or_ge 0 R.length with g | g; exact g; rw [List.getElem?_eq_none (by omega)] at hb'; cases hb'
          have hp : p < n := by omega
          have h0 := ih.hd hp
          have := pw_lt ih.inc h0 hb' (by omega)
          exact hfar b this h1.2
        | j + 1, ha => exact ih.far j a b (by simpa using ha) (by simpa using hb)
    · rw [if_neg hi]
      exact ⟨fun g => absurd g hi, fun x hx => (by cases hx), .nil, fun g => absurd rfl g, fun j a b ha => by simp at ha⟩
theorem pickI_mks (L : List It) (ss : List Nat) : ∀ P : List Nat, (∀ x ∈ P, x < ss.length) → pickI (mks L ss) P = mks L (P.map fun x => ss.getD x 0)
  | [], _ => rfl
  | x :: P, h => by
    have hx := h x List.mem_cons_self
    have hg : ss[x]? = some (ss.getD x 0) := by rw [List.getD_eq_getElem?_getD, List.getElem?_eq_getElem hx]; rfl
    rw [pickI, mks_get hg]
    show _ :: _ = mkOf L _ :: _
    rw [pickI_mks L ss P fun y hy => h y (List.mem_cons_of_mem _ hy)]
    rfl
/-- an item comes in -/
theorem mks_up (L : List It) (x : It) (ss : List Nat) (h : ∀ s ∈ ss, 1 ≤ s ∧ s ≤ L.length) : (mks L ss).map (upM x.v) ++ [⟨((L.length + 1 : Nat) : Int), x.t, 1, x.v, x.v * x.v, x.v, x.v⟩] = mks (L ++ [x]) (ss ++ [L.length + 1]) := by
  unfold mks
  rw [List.map_append, List.map_map]
  congr 1
  · exact List.map_congr_left fun s hs => upM_mkOf L x s (h s hs).1 (h s hs).2
  · rw [List.map_cons, List.map_nil, mkOf_last]
theorem Sq.add {L : List It} {w0 k : Int} {ss : List Nat} (x : It) (h : Sq L x.t w0 k ss) (hI : Its L x.t) (hw : 1 ≤ w0) (n : Nat) (hn : n = ss.length + 1) :
    ∃ ss', pickI (mks (L ++ [x]) (ss ++ [L.length + 1])) (pruneI (nearI k (mks (L ++ [x]) (ss ++ [L.length + 1]))) n n 0) = mks (L ++ [x]) ss' ∧ Sq (L ++ [x]) x.t w0 k ss' := by
  have hs1l : (ss ++ [L.length + 1]).length = n := by simp [hn]
  have hinc1 : (ss ++ [L.length + 1]).Pairwise (· < ·) := by
    refine List.pairwise_append.2 ⟨h.inc, List.pairwise_singleton _ _, fun a ha b hb => ?_⟩
    simp at hb; subst hb
    have := (h.rng a ha).2; omega
  have hrng1 : ∀ s ∈ ss ++ [L.length + 1], 1 ≤ s ∧ s ≤ L.length + 1 := fun s hs => by
    rcases List.mem_append.1 hs with e | e
    · have := h.rng s e; omega
    · simp at e; omega
  have hlast1 : (ss ++ [L.length + 1])[n - 1]? = some (L.length + 1) := by
    rw [List.getElem?_append_right (by omega), show n - 1 - ss.length = 0 by omega]; rfl
  have old : ∀ j, j < L.length → tAt (L ++ [x]) j = tAt L j := fun j hj => by unfold tAt; rw [List.getElem?_append_left hj]
  have new : tAt (L ++ [x]) L.length = x.t := by unfold tAt; rw [List.getElem?_append_right (Nat.le_refl _)]; simp
  have hlive1 : ∀ (i s : Nat), (ss ++ [L.length + 1])[i]? = some s → 0 < i ∨ s = L.length + 1 → x.t - w0 < tAt (L ++ [x]) (s - 1) := fun i s hs hi => by
    by_cases hil : i < ss.length
    · rw [List.getElem?_append_left hil] at hs
      have hr := h.rng s (List.mem_of_getElem? hs)
      rw [old (s - 1) (by omega)]
      rcases hi with hi | hi
      · exact h.live i s hs (.inl hi)
      · omega
    · rw [List.getElem?_append_right (by omega)] at hs
      have e0 : i - ss.length = 0 := by
        rcases Nat.eq_zero_or_pos (i - ss.length) with g | g
        · exact g
        · rw [List.getElem?_eq_none (by simp; omega)] at hs; cases hs
      rw [e0] at hs; cases hs
      rw [Nat.add_sub_cancel, new]; omega
  have hP := prune_spec (nearI k (mks (L ++ [x]) (ss ++ [L.length + 1]))) n n 0 (by omega)
  generalize pruneI (nearI k (mks (L ++ [x]) (ss ++ [L.length + 1]))) n n 0 = R at hP
  have hRn : R ≠ [] := by rintro rfl; have := hP.hd (by omega); simp at this
  have hRg : ∀ (i a : Nat), R[i]? = some a → (ss ++ [L.length + 1])[a]? = some ((ss ++ [L.length + 1]).getD a 0) := fun i a ha => by
    have := hP.rng a (List.mem_of_getElem? ha)
    rw [List.getD_eq_getElem?_getD, List.getElem?_eq_getElem (by omega)]; rfl
  have hget : ∀ (i s : Nat), (R.map fun y => (ss ++ [L.length + 1]).getD y 0)[i]? = some s → ∃ a, R[i]? = some a ∧ (ss ++ [L.length + 1])[a]? = some s := fun i s hs => by
    rw [List.getElem?_map] at hs
    cases hr : R[i]? with
    | none => rw [hr] at hs; cases hs
    | some a => rw [hr] at hs; cases hs; exact ⟨a, rfl, hRg i a hr⟩
  refine ⟨R.map fun y => (ss ++ [L.length + 1]).getD y 0, pickI_mks _ _ _ fun y hy => by have := hP.rng y hy; omega, ?_⟩
  refine ⟨?_, fun s hs => ?_, fun _ => ?_, fun j hj hlt => ?_, fun i s hs hi => ?_, fun i a b ha hb => ?_⟩
  · refine List.pairwise_map.2 (hP.inc.imp_of_mem ?_)
    intro a b ha hb hab
    have ra := hP.rng a ha
    have rb := hP.rng b hb
    refine pw_lt hinc1 (i := a) (j := b) ?_ ?_ hab
    · rw [List.getD_eq_getElem?_getD, List.getElem?_eq_getElem (by omega)]; rfl
    · rw [List.getD_eq_getElem?_getD, List.getElem?_eq_getElem (by omega)]; rfl
  · obtain ⟨a, ha, rfl⟩ := List.mem_map.1 hs
    have ra := hP.rng a ha
    have : (ss ++ [L.length + 1]).getD a 0 ∈ ss ++ [L.length + 1] := by
      rw [List.getD_eq_getElem?_getD, List.getElem?_eq_getElem (by omega)]; exact List.getElem_mem _
    have := hrng1 _ this
    rw [List.length_append]
    exact ⟨this.1, this.2⟩
  · rw [List.length_map, List.getElem?_map, hP.last hRn]
    have := hlast1
    simp only [Option.map_some, List.getD_eq_getElem?_getD, hlast1, Option.getD_some, List.length_append, List.length_cons, List.length_nil]
  · have h0 : (R.map fun y => (ss ++ [L.length + 1]).getD y 0)[0]? = some ((ss ++ [L.length + 1]).getD 0 0) := by rw [List.getElem?_map, hP.hd (by omega)]; rfl
    have hj1 := hlt _ h0
    have hjL : j < L.length := by
      by_cases hs0 : ss = []
      · subst hs0; simp at hj1; omega
      · have hl0 : 0 < ss.length := List.length_pos_iff.2 hs0
        have : (ss ++ [L.length + 1]).getD 0 0 ∈ ss := by
          rw [List.getD_eq_getElem?_getD, List.getElem?_append_left hl0, List.getElem?_eq_getElem hl0]; exact List.getElem_mem _
        have := h.rng _ this
        omega
    rw [old j hjL]
    refine h.dead j hjL fun s hs => ?_
    have hl0 : 0 < ss.length := (List.getElem?_eq_some_iff.1 hs).1
    rw [List.getD_eq_getElem?_getD, List.getElem?_append_left hl0, hs] at hj1
    exact hj1
  · obtain ⟨a, ha, hs'⟩ := hget i s hs
    rcases hi with hi | hi
    · have h0 := hP.hd (by omega)
      have := pw_lt hP.inc h0 ha hi
      exact hlive1 a s hs' (.inl (by omega))
    · rw [List.length_map] at hi
      have hl := hP.last hRn
      rw [hi] at hl
      have hi0 : i = 0 := by
        have := (List.getElem?_eq_some_iff.1 ha).1; omega
      subst hi0
      rw [ha] at hl
      have ea : a = n - 1 := by simpa using hl
      subst ea
      rw [hlast1] at hs'
      cases hs'
      exact hlive1 (n - 1) _ hlast1 (.inr rfl)
  · obtain ⟨p, hp, hp'⟩ := hget i a ha
    obtain ⟨q, hq, hq'⟩ := hget (i + 2) b hb
    have := hP.far i p q hp hq
    unfold nearI at this
    rw [mks_get hp', mks_get hq'] at this
    exact this
/-- the live items are the last ones -/
theorem filt_drop (c : Int) : ∀ (L : List It) (j : Nat), j ≤ L.length → (∀ i, i < j → tAt L i ≤ c) → (∀ i, j ≤ i → i < L.length → c < tAt L i) → L.filter (fun x => decide (c < x.t)) = L.drop j
  | [], j, _, _, _ => by simp
  | x :: L, 0, _, _, h2 => by
    rw [List.drop_zero, List.filter_eq_self.2]
    intro y hy
    obtain ⟨i, hi, e⟩ := List.mem_iff_getElem.1 hy
    have := h2 i (Nat.zero_le _) hi
    unfold tAt at this
    rw [List.getElem?_eq_getElem hi, e] at this
    simpa using this
  | x :: L, j + 1, hj, h1, h2 => by
    have h0 := h1 0 (by omega)
    have h0 : x.t ≤ c := h0
    rw [List.filter_cons_of_neg (by simp; omega), List.drop_succ_cons]
    refine filt_drop c L j (by simpa using hj) (fun i hi => ?_) (fun i hi hl => ?_)
    · have := h1 (i + 1) (by omega); exact this
    · have := h2 (i + 1) (by omega) (by simpa using hl); exact this
theorem cut_at (c : Int) (L : List It) (hasc : ∀ (i j : Nat), i ≤ j → j < L.length → tAt L i ≤ tAt L j) : ∀ m, m ≤ L.length → ∃ j, j ≤ m ∧ (∀ i, i < j → tAt L i ≤ c) ∧ (∀ i, j ≤ i → i < m → c < tAt L i)
  | 0, _ => ⟨0, Nat.le_refl _, fun i h => by omega, fun i _ h => by omega⟩
  | m + 1, h => by
    obtain ⟨j, h1, h2, h3⟩ := cut_at c L hasc m (by omega)
    by_cases hc : c < tAt L m
    · refine ⟨j, by omega, h2, fun i hi hm => ?_⟩
      by_cases e : i = m
      · subst e; exact hc
      · exact h3 i hi (by omega)
    · refine ⟨m + 1, Nat.le_refl _, fun i hi => ?_, fun i h1 h2 => by omega⟩
      have := hasc i m (by omega) (by omega)
      omega
/-- what the marks say of the live items -/
inductive AnsS (L : List It) (now w0 : Int) (ss : List Nat) : Prop
  | none (h : ss = []) (hL : L = [])
  | one (s : Nat) (h : ss[0]? = some s) (h1 : 1 ≤ s) (h2 : s ≤ L.length) (hl : now - w0 < tAt L (s - 1)) (hf : L.filter (fun x => decide (now - w0 < x.t)) = L.drop (s - 1))
  | two (s r j : Nat) (h : ss[0]? = some s) (h' : ss[1]? = some r) (h1 : 1 ≤ s) (hsr : s < r) (h2 : r ≤ L.length) (hd : tAt L (s - 1) ≤ now - w0) (hj1 : s ≤ j) (hj2 : j ≤ r - 1) (hf : L.filter (fun x => decide (now - w0 < x.t)) = L.drop j)
theorem Sq.ans {L : List It} {now w0 k : Int} {ss : List Nat} (h : Sq L now w0 k ss) (hI : Its L now) (hw : 1 ≤ w0) (hnow : L ≠ [] → tAt L (L.length - 1) = now) : AnsS L now w0 ss := by
  cases hs0 : ss[0]? with
  | none =>
    have : ss = [] := by cases ss with | nil => rfl | cons a l => simp at hs0
    subst this
    refine .none rfl ?_
    cases hL : L with
    | nil => rfl
    | cons x l =>
      exfalso
      have hne : L ≠ [] := by rw [hL]; simp
      have hl : 0 < L.length := List.length_pos_iff.2 hne
      have := h.dead (L.length - 1) (by omega) (fun s hs => by simp at hs)
      rw [hnow hne] at this
      omega
  | some s =>
    have hr := h.rng s (List.mem_of_getElem? hs0)
    obtain ⟨j, j1, j2, j3⟩ := cut_at (now - w0) L hI.asc L.length (Nat.le_refl _)
    have hf := filt_drop (now - w0) L j j1 j2 j3
    have hsj : s - 1 ≤ j := by
      rcases Nat.lt_or_ge j (s - 1) with g | g
      · have a1 := j3 j (Nat.le_refl _) (by omega)
        have a2 := h.dead j (by omega) fun s' hs' => by rw [hs0] at hs'; cases hs'; omega
        omega
      · exact g
    by_cases hlv : now - w0 < tAt L (s - 1)
    · have : j = s - 1 := by
        rcases Nat.lt_or_ge (s - 1) j with g | g
        · have := j2 (s - 1) g; omega
        · omega
      subst this
      exact .one s hs0 hr.1 hr.2 hlv hf
    · cases hs1 : ss[1]? with
      | none =>
        have h0 := (List.getElem?_eq_some_iff.1 hs0).1
        have h1 := List.getElem?_eq_none_iff.1 hs1
        have := h.live 0 s hs0 (.inr (by omega))
        omega
      | some r =>
        have hr2 := h.rng r (List.mem_of_getElem? hs1)
        have hlt := pw_lt h.inc hs0 hs1 (by omega)
        have hl1 := h.live 1 r hs1 (.inl (by omega))
        refine .two s r j hs0 hs1 hr.1 hlt hr2.2 (by omega) ?_ ?_ hf
        · rcases Nat.lt_or_ge (s - 1) j with g | g
          · omega
          · have := j3 (s - 1) g (by omega); omega
        · rcases Nat.lt_or_ge (r - 1) j with g | g
          · have := j2 (r - 1) g; omega
          · exact g
theorem cross_red {a b c d : Nat} (hb : 0 < b) (hd : 0 < d) (h : a * d ≤ c * b) : (a / Nat.gcd a b) * (d / Nat.gcd c d) ≤ (c / Nat.gcd c d) * (b / Nat.gcd a b) := by
  obtain ⟨a', ha⟩ := Nat.gcd_dvd_left a b
  obtain ⟨b', hb'⟩ := Nat.gcd_dvd_right a b
  obtain ⟨c', hc⟩ := Nat.gcd_dvd_left c d
  obtain ⟨d', hd'⟩ := Nat.gcd_dvd_right c d
  have hg : 0 < Nat.gcd a b := Nat.gcd_pos_of_pos_right _ hb
  have hh : 0 < Nat.gcd c d := Nat.gcd_pos_of_pos_right _ hd
  generalize Nat.gcd a b = g at *
  generalize Nat.gcd c d = k at *
  subst ha hb' hc hd'
  rw [Nat.mul_div_cancel_left _ hg, Nat.mul_div_cancel_left _ hg, Nat.mul_div_cancel_left _ hh, Nat.mul_div_cancel_left _ hh]
  have e1 : g * a' * (k * d') = (g * k) * (a' * d') := by grind
  have e2 : k * c' * (g * b') = (g * k) * (c' * b') := by grind
  rw [e1, e2] at h
  exact Nat.le_of_mul_le_mul_left h (Nat.mul_pos hg hh)
theorem gcd_red {a b : Nat} (hb : 0 < b) : Nat.gcd (a / Nat.gcd a b) (b / Nat.gcd a b) = 1 := by
  rw [Nat.gcd_div (Nat.gcd_dvd_left a b) (Nat.gcd_dvd_right a b), Nat.div_self (Nat.gcd_pos_of_pos_right _ hb)]
end Go.Proofs.YtbageimconenlaaGreat
