/- A chain and several chains, in plain words: what one more item does to them, and how many draws it takes. Plain. -/
import Derived.Test.YtbageimconenlaaGreatKA
namespace Go.Proofs.YtbageimconenlaaGreat
open Go.RowKit
set_option linter.unusedVariables false
structure Ch where
  i : Int
  nx : Int
  ls : List (Int × Int)
inductive Out where
  | ok (c : Ch) (rest : List Int)
  | need (m : Int)
  | bad
def goM (W cap i v nx : Int) (ls : List (Int × Int)) (taken : Bool) (ds : List Int) : Out :=
  if taken = true then
    if (ls.length : Int) = cap then .bad else
    match ds with
    | [] => .need W
    | d :: ds => if 0 ≤ d ∧ d < W then .ok ⟨i, i + 1 + d, ls ++ [(i, v)]⟩ ds else .bad
  else .ok ⟨i, nx, ls⟩ ds
/-- the sample's head leaves the window with the next item -/
def outM (W : Int) (c : Ch) : Bool := match c.ls with | [] => false | p :: _ => decide (p.1 = c.i + 1 - W)
def addM (W cap : Int) (c : Ch) (v : Int) (ds : List Int) : Out :=
  if outM W c = true then goM W cap (c.i + 1) v c.nx c.ls.tail (decide (c.nx = c.i + 1)) ds else
  match ds with
  | [] => .need (min (c.i + 1) W)
  | d :: ds => if 0 ≤ d ∧ d < min (c.i + 1) W then (if d = 0 then goM W cap (c.i + 1) v c.nx [] true ds else goM W cap (c.i + 1) v c.nx c.ls (decide (c.nx = c.i + 1)) ds) else .bad
/-- a valid chain -/
structure VCh (W cap : Int) (c : Ch) : Prop where
  w1 : 1 ≤ W
  w2 : W ≤ 1048576
  c1 : 1 ≤ cap
  c2 : cap ≤ 64
  len : (c.ls.length : Int) ≤ cap
  i0 : 0 ≤ c.i
  i1 : c.i ≤ 1099511627776
  zero : c.i = 0 → c.ls = [] ∧ c.nx = 0
  pos : 0 < c.i → c.ls ≠ []
  el : ∀ (j : Nat) (p : Int × Int), c.ls[j]? = some p → -4096 ≤ p.2 ∧ p.2 ≤ 4096 ∧ 1 ≤ p.1 ∧ p.1 ≤ c.i ∧ c.i - W < p.1
  up : ∀ (j : Nat) (p q : Int × Int), c.ls[j]? = some p → c.ls[j + 1]? = some q → p.1 < q.1 ∧ q.1 ≤ p.1 + W
  nxt : ∀ (p : Int × Int), c.ls[c.ls.length - 1]? = some p → c.i < c.nx ∧ c.nx ≤ p.1 + W
theorem asc_le {ls : List (Int × Int)} (h : ∀ (j : Nat) (p q : Int × Int), ls[j]? = some p → ls[j + 1]? = some q → p.1 < q.1) : ∀ (k j : Nat) (p q : Int × Int), ls[j]? = some p → ls[j + k]? = some q → p.1 + (k : Int) ≤ q.1
  | 0, j, p, q, hp, hq => by rw [Nat.add_zero, hp] at hq; injection hq with hq; subst hq; simp
  | k + 1, j, p, q, hp, hq => by
    have hlt : j + k + 1 < ls.length := (List.getElem?_eq_some_iff.1 hq).1
    have hm := List.getElem?_eq_getElem (l := ls) (i := j + k) (by omega)
    have h1 := asc_le h k j p _ hp hm
    have h2 := h (j + k) _ q hm hq
    simp only [Int.natCast_add, Int.cast_ofNat_Int]; omega
theorem VCh.len_w {W cap : Int} {c : Ch} (h : VCh W cap c) : (c.ls.length : Int) ≤ W := by
  rcases Nat.eq_zero_or_pos c.ls.length with h0 | h0
  · have := h.w1; omega
  · have hp := List.getElem?_eq_getElem (l := c.ls) (i := 0) h0
    have hq := List.getElem?_eq_getElem (l := c.ls) (i := 0 + (c.ls.length - 1)) (by omega)
    have h1 := asc_le (fun j p q a b => (h.up j p q a b).1) (c.ls.length - 1) 0 _ _ hp hq
    have h2 := h.el _ _ hp
    have h3 := h.el _ _ hq
    omega
/-- what lies in a valid chain is what came: item number p.1 of vals has the value p.2 -/
structure Came (vals : List Int) (c : Ch) : Prop where
  n : c.i = vals.length
  v : ∀ p ∈ c.ls, vals[(p.1 - 1).toNat]? = some p.2
theorem last_append {ls : List (Int × Int)} {x p : Int × Int} (h : (ls ++ [x])[(ls ++ [x]).length - 1]? = some p) : p = x := by
  simp at h; exact h.symm
theorem append_at {ls : List (Int × Int)} {x p : Int × Int} {j : Nat} (h : (ls ++ [x])[j]? = some p) : ls[j]? = some p ∨ (j = ls.length ∧ p = x) := by
  by_cases hj : j < ls.length
  · rw [List.getElem?_append_left hj] at h; exact .inl h
  · have hlt : j < (ls ++ [x]).length := (List.getElem?_eq_some_iff.1 h).1
    simp at hlt
    have : j = ls.length := by omega
    subst this
    simp at h; exact .inr ⟨rfl, h.symm⟩
/-- the links that stay valid when the next item comes, with the number that succeeds them -/
structure Stay (W : Int) (i nx : Int) (ls : List (Int × Int)) : Prop where
  el : ∀ (j : Nat) (p : Int × Int), ls[j]? = some p → -4096 ≤ p.2 ∧ p.2 ≤ 4096 ∧ 1 ≤ p.1 ∧ p.1 < i ∧ i - W < p.1
  up : ∀ (j : Nat) (p q : Int × Int), ls[j]? = some p → ls[j + 1]? = some q → p.1 < q.1 ∧ q.1 ≤ p.1 + W
  nxt : ∀ (p : Int × Int), ls[ls.length - 1]? = some p → i ≤ nx ∧ nx ≤ p.1 + W
theorem goM_valid {W cap i v nx : Int} {ls : List (Int × Int)} {taken : Bool} {ds rest : List Int} {c' : Ch} (h : goM W cap i v nx ls taken ds = .ok c' rest) (hs : Stay W i nx ls)
    (w1 : 1 ≤ W) (w2 : W ≤ 1048576) (c1 : 1 ≤ cap) (c2 : cap ≤ 64) (hl : (ls.length : Int) ≤ cap) (hi : 1 ≤ i) (hi2 : i ≤ 1099511627776) (hv : -4096 ≤ v ∧ v ≤ 4096)
    (ht : taken = true → ls ≠ [] → nx = i) (hn : taken = false → ls ≠ [] ∧ nx ≠ i) : VCh W cap c' := by
  unfold goM at h
  cases taken with
  | true =>
    rw [if_pos rfl] at h
    split at h
    · cases h
    · rename_i hne
      cases ds with
      | nil => cases h
      | cons d ds =>
        simp only [] at h
        split at h
        · rename_i hd
          injection h with h1 h2
          subst h1
          refine ⟨w1, w2, c1, c2, by simp; omega, show (0 : Int) ≤ i by omega, hi2, fun h0 => by simp at h0; omega, fun _ => by simp, fun j p hp => ?_, fun j p q hp hq => ?_, fun p hp => ?_⟩
          · rcases append_at hp with h3 | ⟨_, rfl⟩
            · have := hs.el j p h3; simp only []; omega
            · simp only []; omega
          · rcases append_at hq with h3 | ⟨h3, rfl⟩
            · have hj : j < ls.length := by have := (List.getElem?_eq_some_iff.1 h3).1; omega
              rw [List.getElem?_append_left hj] at hp
              exact hs.up j p q hp h3
            · have hj : j < ls.length := by omega
              rw [List.getElem?_append_left hj] at hp
              have hne2 : ls ≠ [] := by intro e; subst e; simp at hj
              have h4 := ht rfl hne2
              have h5 := hs.nxt p (by rw [show ls.length - 1 = j by omega]; exact hp)
              have h6 := hs.el j p hp
              simp only []; omega
          · have := last_append hp
            subst this
            simp only []; omega
        · cases h
  | false =>
    rw [if_neg (by simp)] at h
    injection h with h1 h2
    subst h1
    obtain ⟨n1, n2⟩ := hn rfl
    refine ⟨w1, w2, c1, c2, hl, by simp only []; omega, hi2, fun h0 => by simp at h0; omega, fun _ => n1, fun j p hp => ?_, fun j p q hp hq => hs.up j p q hp hq, fun p hp => ?_⟩
    · have := hs.el j p hp; simp only []; omega
    · have := hs.nxt p hp; simp only []; omega
theorem outM_head {W : Int} {c : Ch} (h : outM W c = true) : ∃ p t, c.ls = p :: t ∧ p.1 = c.i + 1 - W := by
  unfold outM at h
  split at h
  · cases h
  · rename_i p t e
    exact ⟨p, t, e, by simpa using h⟩
theorem outM_no {W : Int} {c : Ch} (h : outM W c = false) {p : Int × Int} (hp : c.ls[0]? = some p) : p.1 ≠ c.i + 1 - W := by
  unfold outM at h
  split at h
  · rename_i e; rw [e] at hp; cases hp
  · rename_i q t e
    rw [e] at hp; simp at hp; subst hp
    simpa using h
/-- what stays of a valid chain, its head gone -/
theorem stay_tail {W cap : Int} {c : Ch} (h : VCh W cap c) {p : Int × Int} {t : List (Int × Int)} (e : c.ls = p :: t) (hp : p.1 = c.i + 1 - W) : Stay W (c.i + 1) c.nx t := by
  have h0 : c.ls[0]? = some p := by rw [e]; rfl
  have hat : ∀ j, t[j]? = c.ls[j + 1]? := fun j => by rw [e]; rfl
  refine ⟨fun j q hq => ?_, fun j q r hq hr => ?_, fun q hq => ?_⟩
  · rw [hat] at hq
    have h1 := h.el _ _ hq
    have h2 := asc_le (fun j p q a b => (h.up j p q a b).1) (j + 1) 0 p q h0 (by rw [Nat.zero_add]; exact hq)
    simp only [Int.natCast_add, Int.cast_ofNat_Int] at h2; omega
  · rw [hat] at hq hr; exact h.up _ _ _ hq hr
  · rw [hat] at hq
    have hlt := (List.getElem?_eq_some_iff.1 hq).1
    have hl : c.ls.length = t.length + 1 := by rw [e]; rfl
    have hte : t.length - 1 + 1 = c.ls.length - 1 := by
      rcases Nat.eq_zero_or_pos t.length with h3 | h3
      · rw [h3] at hlt; rw [hl, h3] at hlt; simp at hlt
      · omega
    rw [hte] at hq
    have := h.nxt q hq
    omega
/-- what stays of a valid chain, its head kept -/
theorem stay_all {W cap : Int} {c : Ch} (h : VCh W cap c) (ho : outM W c = false) : Stay W (c.i + 1) c.nx c.ls := by
  refine ⟨fun j q hq => ?_, h.up, fun q hq => ?_⟩
  · have h1 := h.el _ _ hq
    have hlt := (List.getElem?_eq_some_iff.1 hq).1
    have h0 := List.getElem?_eq_getElem (l := c.ls) (i := 0) (by omega)
    have h2 := asc_le (fun j p q a b => (h.up j p q a b).1) j 0 _ q h0 (by rw [Nat.zero_add]; exact hq)
    have h3 := outM_no ho h0
    have h4 := h.el _ _ h0
    omega
  · have := h.nxt q hq; omega
theorem stay_nil {W i nx : Int} : Stay W i nx [] := ⟨fun j p h => by simp at h, fun j p q h => by simp at h, fun p h => by simp at h⟩
theorem VCh.last {W cap : Int} {c : Ch} (h : VCh W cap c) (hi : 0 < c.i) : ∃ p, c.ls[c.ls.length - 1]? = some p := by
  have := h.pos hi
  have hl : 0 < c.ls.length := List.length_pos_iff.2 this
  exact ⟨_, List.getElem?_eq_getElem (by omega)⟩
theorem addM_valid {W cap v : Int} {c c' : Ch} {ds rest : List Int} (h : VCh W cap c) (hv : -4096 ≤ v ∧ v ≤ 4096) (hi : c.i < 1099511627776) (ha : addM W cap c v ds = .ok c' rest) : VCh W cap c' := by
  have hw1 := h.w1
  have hi0 := h.i0
  unfold addM at ha
  split at ha
  · rename_i ho
    obtain ⟨p, t, e, hp⟩ := outM_head ho
    rw [e] at ha
    simp only [List.tail_cons] at ha
    have h0 : c.ls[0]? = some p := by rw [e]; rfl
    have hel := h.el _ _ h0
    have hl : c.ls.length = t.length + 1 := by rw [e]; rfl
    have hlen := h.len
    refine goM_valid ha (stay_tail h e hp) hw1 h.w2 h.c1 h.c2 (by omega) (by omega) (by omega) hv (fun ht _ => by simpa using ht) (fun ht => ?_)
    have hnx : c.nx ≠ c.i + 1 := by simpa using ht
    refine ⟨fun ht0 => ?_, hnx⟩
    subst ht0
    have := h.nxt p (by rw [hl]; simpa using h0)
    omega
  · rename_i ho
    have ho' : outM W c = false := by simpa using ho
    cases ds with
    | nil => cases ha
    | cons d ds =>
      simp only [] at ha
      split at ha
      · rename_i hd
        split at ha
        · exact goM_valid ha stay_nil hw1 h.w2 h.c1 h.c2 (by simp; have := h.c1; omega) (by omega) (by omega) hv (fun _ h0 => absurd rfl h0) (fun h0 => by cases h0)
        · rename_i hd0
          have hipos : 0 < c.i := by omega
          refine goM_valid ha (stay_all h ho') hw1 h.w2 h.c1 h.c2 h.len (by omega) (by omega) hv (fun ht _ => by simpa using ht) (fun ht => ⟨h.pos hipos, by simpa using ht⟩)
      · cases ha
theorem came_snoc {vals : List Int} {k : Int} {x v : Int} (h : vals[(k - 1).toNat]? = some x) : (vals ++ [v])[(k - 1).toNat]? = some x := by
  rw [List.getElem?_append_left (List.getElem?_eq_some_iff.1 h).1]; exact h
theorem goM_came {W cap i v nx : Int} {ls : List (Int × Int)} {taken : Bool} {ds rest : List Int} {c' : Ch} {vals : List Int} (h : goM W cap i v nx ls taken ds = .ok c' rest) (hi : i = vals.length + 1) (hls : ∀ p ∈ ls, vals[(p.1 - 1).toNat]? = some p.2) : Came (vals ++ [v]) c' := by
  have hn : (vals ++ [v])[(i - 1).toNat]? = some v := by rw [hi, show ((vals.length : Int) + 1 - 1).toNat = vals.length by omega]; simp
  unfold goM at h
  split at h
  · split at h
    · cases h
    · cases ds with
      | nil => cases h
      | cons d ds =>
        simp only [] at h
        split at h
        · injection h with h1 h2
          subst h1
          refine ⟨by simp; omega, fun p hp => ?_⟩
          rcases List.mem_append.1 hp with hp | hp
          · exact came_snoc (hls p hp)
          · obtain rfl : p = (i, v) := by simpa using hp
            exact hn
        · cases h
  · injection h with h1 h2
    subst h1
    exact ⟨by simp; omega, fun p hp => came_snoc (hls p hp)⟩
theorem addM_came {W cap v : Int} {c c' : Ch} {ds rest : List Int} {vals : List Int} (h : Came vals c) (ha : addM W cap c v ds = .ok c' rest) : Came (vals ++ [v]) c' := by
  have hn := h.n
  unfold addM at ha
  split at ha
  · exact goM_came ha (by omega) (fun p hp => h.v p (List.mem_of_mem_tail hp))
  · cases ds with
    | nil => cases ha
    | cons d ds =>
      simp only [] at ha
      split at ha
      · split at ha
        · exact goM_came ha (by omega) (fun p hp => by cases hp)
        · exact goM_came ha (by omega) h.v
      · cases ha
/-! how many draws -/
theorem goM_ext {W cap i v nx : Int} {ls : List (Int × Int)} {taken : Bool} {ds rest es : List Int} {c' : Ch} (h : goM W cap i v nx ls taken ds = .ok c' rest) : goM W cap i v nx ls taken (ds ++ es) = .ok c' (rest ++ es) ∧ ds.length ≤ rest.length + 1 ∧ rest = ds.drop (ds.length - rest.length) ∧ rest.length ≤ ds.length := by
  unfold goM at h ⊢
  split at h
  · rename_i ht
    rw [if_pos ht]
    split at h
    · cases h
    · rename_i hc
      rw [if_neg hc]
      cases ds with
      | nil => cases h
      | cons d ds =>
        simp only [List.cons_append] at h ⊢
        split at h
        · rename_i hd
          injection h with h1 h2
          subst h1 h2
          rw [if_pos hd]
          exact ⟨rfl, by simp, by simp, by simp⟩
        · cases h
  · rename_i ht
    rw [if_neg ht]
    injection h with h1 h2
    subst h1 h2
    exact ⟨rfl, by omega, by simp, Nat.le_refl _⟩
theorem goM_need {W cap i v nx : Int} {ls : List (Int × Int)} {taken : Bool} {ds : List Int} {m : Int} (h : goM W cap i v nx ls taken ds = .need m) (hw : 1 ≤ W) : ds = [] ∧ 1 ≤ m ∧ ∀ d, 0 ≤ d → d < m → ∃ c', goM W cap i v nx ls taken [d] = .ok c' [] := by
  unfold goM at h ⊢
  split at h
  · rename_i ht
    split at h
    · cases h
    · rename_i hc
      cases ds with
      | nil =>
        simp only [] at h
        injection h with h
        subst h
        refine ⟨rfl, hw, fun d h0 h1 => ?_⟩
        rw [if_pos ht, if_neg hc]
        simp only []
        rw [if_pos ⟨h0, h1⟩]
        exact ⟨_, rfl⟩
      | cons d ds =>
        simp only [] at h
        split at h <;> cases h
  · cases h
theorem goM_small {W cap i v nx : Int} {ls : List (Int × Int)} {taken : Bool} (hl : (ls.length : Int) ≠ cap) : goM W cap i v nx ls taken [] ≠ .bad := by
  unfold goM
  by_cases ht : taken = true
  · rw [if_pos ht, if_neg hl]; simp
  · rw [if_neg ht]; simp
theorem addM_ext {W cap v : Int} {c c' : Ch} {ds rest es : List Int} (h : addM W cap c v ds = .ok c' rest) : addM W cap c v (ds ++ es) = .ok c' (rest ++ es) ∧ ds.length ≤ rest.length + 2 ∧ rest = ds.drop (ds.length - rest.length) ∧ rest.length ≤ ds.length := by
  unfold addM at h ⊢
  split at h
  · rename_i ho
    rw [if_pos ho]
    obtain ⟨h1, h2, h3, h4⟩ := goM_ext (es := es) h
    exact ⟨h1, by omega, h3, h4⟩
  · rename_i ho
    rw [if_neg ho]
    cases ds with
    | nil => cases h
    | cons d ds =>
      simp only [List.cons_append] at h ⊢
      split at h
      · rename_i hd
        rw [if_pos hd]
        split at h
        · rename_i h0
          rw [if_pos h0]
          obtain ⟨h1, h2, h3, h4⟩ := goM_ext (es := es) h
          refine ⟨h1, by simp; omega, ?_, by simp; omega⟩
          rw [List.length_cons, show ds.length + 1 - rest.length = ds.length - rest.length + 1 by omega, List.drop_succ_cons]; exact h3
        · rename_i h0
          rw [if_neg h0]
          obtain ⟨h1, h2, h3, h4⟩ := goM_ext (es := es) h
          refine ⟨h1, by simp; omega, ?_, by simp; omega⟩
          rw [List.length_cons, show ds.length + 1 - rest.length = ds.length - rest.length + 1 by omega, List.drop_succ_cons]; exact h3
      · cases h
/-- a draw that was needed is given: one more is needed, or it is done and none is left -/
def Next1 (o : Out) : Prop := (∃ m, o = .need m) ∨ ∃ c', o = .ok c' []
theorem addM_need {W cap v : Int} {c : Ch} {ds : List Int} {m : Int} (hV : VCh W cap c) (hW : W < cap) (h : addM W cap c v ds = .need m) : 1 ≤ m ∧ ds.length < 2 ∧ ∀ d, 0 ≤ d → d < m → Next1 (addM W cap c v (ds ++ [d])) := by
  have hlw := hV.len_w
  have hw1 := hV.w1
  have hi0 := hV.i0
  unfold addM at h ⊢
  split at h
  · rename_i ho
    obtain ⟨rfl, hm, hd⟩ := goM_need h hw1
    refine ⟨hm, by simp, fun d h0 h1 => ?_⟩
    rw [if_pos ho]
    obtain ⟨c', hc'⟩ := hd d h0 h1
    exact .inr ⟨c', hc'⟩
  · rename_i ho
    cases ds with
    | nil =>
      simp only [] at h
      injection h with h
      subst h
      refine ⟨by omega, by simp, fun d h0 h1 => ?_⟩
      rw [if_neg ho]
      simp only [List.nil_append]
      rw [if_pos ⟨h0, h1⟩]
      split
      · have hb := goM_small (W := W) (cap := cap) (i := c.i + 1) (v := v) (nx := c.nx) (ls := []) (taken := true) (by simp; have := hV.c1; omega)
        rcases hx : goM W cap (c.i + 1) v c.nx [] true [] with ⟨c', r⟩ | m | _
        · have := (goM_ext (es := []) hx).2.2.2
          obtain rfl : r = [] := List.eq_nil_of_length_eq_zero (by simpa using this)
          exact .inr ⟨c', rfl⟩
        · exact .inl ⟨m, rfl⟩
        · exact absurd hx hb
      · have hb := goM_small (W := W) (cap := cap) (i := c.i + 1) (v := v) (nx := c.nx) (ls := c.ls) (taken := decide (c.nx = c.i + 1)) (by omega)
        rcases hx : goM W cap (c.i + 1) v c.nx c.ls (decide (c.nx = c.i + 1)) [] with ⟨c', r⟩ | m | _
        · have := (goM_ext (es := []) hx).2.2.2
          obtain rfl : r = [] := List.eq_nil_of_length_eq_zero (by simpa using this)
          exact .inr ⟨c', rfl⟩
        · exact .inl ⟨m, rfl⟩
        · exact absurd hx hb
    | cons d ds =>
      simp only [] at h
      split at h
      · rename_i hd
        split at h
        · rename_i h0
          obtain ⟨rfl, hm, hdd⟩ := goM_need h hw1
          refine ⟨hm, by simp, fun d' h0' h1 => ?_⟩
          rw [if_neg ho]
          simp only [List.cons_append, List.nil_append]
          rw [if_pos hd, if_pos h0]
          obtain ⟨c', hc'⟩ := hdd d' h0' h1
          exact .inr ⟨c', hc'⟩
        · rename_i h0
          obtain ⟨rfl, hm, hdd⟩ := goM_need h hw1
          refine ⟨hm, by simp, fun d' h0' h1 => ?_⟩
          rw [if_neg ho]
          simp only [List.cons_append, List.nil_append]
          rw [if_pos hd, if_neg h0]
          obtain ⟨c', hc'⟩ := hdd d' h0' h1
          exact .inr ⟨c', hc'⟩
      · cases h
theorem addM_none {W cap v : Int} {c : Ch} (hV : VCh W cap c) (hW : W < cap) : Next1 (addM W cap c v []) := by
  have hlw := hV.len_w
  unfold addM
  split
  · have hb := goM_small (W := W) (cap := cap) (i := c.i + 1) (v := v) (nx := c.nx) (ls := c.ls.tail) (taken := decide (c.nx = c.i + 1)) (by simp; omega)
    rcases hx : goM W cap (c.i + 1) v c.nx c.ls.tail (decide (c.nx = c.i + 1)) [] with ⟨c', r⟩ | m | _
    · have := (goM_ext (es := []) hx).2.2.2
      obtain rfl : r = [] := List.eq_nil_of_length_eq_zero (by simpa using this)
      exact .inr ⟨c', rfl⟩
    · exact .inl ⟨m, rfl⟩
    · exact absurd hx hb
  · exact .inl ⟨_, rfl⟩
/-! several chains -/
inductive OutS where
  | ok (cs : List Ch) (rest : List Int)
  | need (m : Int)
  | bad
def sampM (W cap v : Int) : List Ch → List Int → OutS
  | [], ds => .ok [] ds
  | c :: cs, ds => match addM W cap c v ds with
    | .ok c' r => match sampM W cap v cs r with
      | .ok cs' r' => .ok (c' :: cs') r'
      | .need m => .need m
      | .bad => .bad
    | .need m => .need m
    | .bad => .bad
def Next1S (o : OutS) : Prop := (∃ m, o = .need m) ∨ ∃ cs', o = .ok cs' []
theorem sampM_none {W cap v : Int} (hW : W < cap) : ∀ (cs : List Ch), (∀ c ∈ cs, VCh W cap c) → Next1S (sampM W cap v cs [])
  | [], _ => .inr ⟨[], rfl⟩
  | c :: cs, h => by
    unfold sampM
    rcases addM_none (v := v) (h c List.mem_cons_self) hW with ⟨m, hm⟩ | ⟨c', hc'⟩
    · rw [hm]; exact .inl ⟨m, rfl⟩
    · rw [hc']
      simp only []
      rcases sampM_none (v := v) hW cs (fun x hx => h x (List.mem_cons_of_mem _ hx)) with ⟨m, hm⟩ | ⟨cs', hcs'⟩
      · rw [hm]; exact .inl ⟨m, rfl⟩
      · rw [hcs']; exact .inr ⟨_, rfl⟩
theorem sampM_need {W cap v : Int} (hW : W < cap) : ∀ (cs : List Ch) (ds : List Int) (m : Int), (∀ c ∈ cs, VCh W cap c) → sampM W cap v cs ds = .need m → 1 ≤ m ∧ ds.length < 2 * cs.length ∧ ∀ d, 0 ≤ d → d < m → Next1S (sampM W cap v cs (ds ++ [d]))
  | [], ds, m, _, h => by cases h
  | c :: cs, ds, m, hV, h => by
    unfold sampM at h ⊢
    rcases ha : addM W cap c v ds with ⟨c', r⟩ | m' | _
    · rw [ha] at h
      simp only [] at h
      obtain ⟨_, e2, _, e4⟩ := addM_ext (es := []) ha
      rcases hs : sampM W cap v cs r with ⟨cs', r'⟩ | m'' | _
      · rw [hs] at h; cases h
      · rw [hs] at h
        simp only [] at h
        injection h with h
        subst h
        obtain ⟨h1, h2, h3⟩ := sampM_need hW cs r _ (fun x hx => hV x (List.mem_cons_of_mem _ hx)) hs
        refine ⟨h1, by simp; omega, fun d h0 hd => ?_⟩
        rw [(addM_ext (es := [d]) ha).1]
        simp only []
        rcases h3 d h0 hd with ⟨m, hm⟩ | ⟨cs', hcs'⟩
        · rw [hm]; exact .inl ⟨m, rfl⟩
        · rw [hcs']; exact .inr ⟨_, rfl⟩
      · rw [hs] at h; cases h
    · rw [ha] at h
      simp only [] at h
      injection h with h
      subst h
      obtain ⟨h1, h2, h3⟩ := addM_need (hV c List.mem_cons_self) hW ha
      refine ⟨h1, by simp; omega, fun d h0 hd => ?_⟩
      rcases h3 d h0 hd with ⟨m, hm⟩ | ⟨c', hc'⟩
      · rw [hm]; exact .inl ⟨m, rfl⟩
      · rw [hc']
        simp only []
        rcases sampM_none (v := v) hW cs (fun x hx => hV x (List.mem_cons_of_mem _ hx)) with ⟨m, hm⟩ | ⟨cs', hcs'⟩
        · rw [hm]; exact .inl ⟨m, rfl⟩
        · rw [hcs']; exact .inr ⟨_, rfl⟩
    · rw [ha] at h; cases h
theorem sampM_valid {W cap v : Int} {vals : List Int} (hv : -4096 ≤ v ∧ v ≤ 4096) (hn : (vals.length : Int) < 1099511627776) : ∀ (cs cs' : List Ch) (ds rest : List Int), (∀ c ∈ cs, VCh W cap c ∧ Came vals c) → sampM W cap v cs ds = .ok cs' rest → cs'.length = cs.length ∧ ∀ c ∈ cs', VCh W cap c ∧ Came (vals ++ [v]) c
  | [], cs', ds, rest, _, h => by
    unfold sampM at h
    injection h with h1 h2
    subst h1
    exact ⟨rfl, fun c hc => by cases hc⟩
  | c :: cs, cs', ds, rest, hV, h => by
    unfold sampM at h
    rcases ha : addM W cap c v ds with ⟨c1, r⟩ | m' | _
    · rw [ha] at h
      simp only [] at h
      rcases hs : sampM W cap v cs r with ⟨cs2, r'⟩ | m'' | _
      · rw [hs] at h
        simp only [] at h
        injection h with h1 h2
        subst h1
        obtain ⟨k1, k2⟩ := sampM_valid hv hn cs cs2 r r' (fun x hx => hV x (List.mem_cons_of_mem _ hx)) hs
        obtain ⟨g1, g2⟩ := hV c List.mem_cons_self
        refine ⟨by simp [k1], fun x hx => ?_⟩
        rcases List.mem_cons.1 hx with rfl | hx
        · exact ⟨addM_valid g1 hv (by rw [g2.n]; exact hn) ha, addM_came g2 ha⟩
        · exact k2 x hx
      · rw [hs] at h; cases h
      · rw [hs] at h; cases h
    · rw [ha] at h; cases h
    · rw [ha] at h; cases h
end Go.Proofs.YtbageimconenlaaGreat
