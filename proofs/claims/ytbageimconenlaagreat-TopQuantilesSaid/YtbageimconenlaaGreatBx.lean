/- A region that makes several variables and stores into each, in whatever order: one state behind it. No program in sight. -/
import Derived.Test.YtbageimconenlaaGreatKA
import Derived.OrdersHeld
import Derived.Deep.RegionHeld
import Derived.Deep.MidRow
import Derived.Laws.Tables
namespace Go.Proofs.YtbageimconenlaaGreat
open Go.RowKit
set_option linter.unusedVariables false
structure Bx where
  d : Nat
  ld : Nat
  T : TypeId
  z : Array Value
  c : Array Value
def bxCheck (md : Region.Mode) (ops : Array Oper) (L0 : Array Bool) (n : Nat) (ia is : List Nat) : Bool :=
  L0.size == ops.size && ia.length == n && is.length == n && decide ((ia ++ is).Nodup) &&
  ((List.range ops.size).all fun i => L0.getD i false || ia.contains i || is.contains i) &&
  (List.range n).all fun k => decide (ia.getD k 0 < ops.size) && decide (is.getD k 0 < ops.size) && !L0.getD (ia.getD k 0) false && !L0.getD (is.getD k 0) false &&
    (match ops[ia.getD k 0]? with | some o => o.after.toList.all fun e => !Region.binds md e || L0.getD e.on false | none => false) &&
    (match ops[is.getD k 0]? with | some o => (o.after.toList.all fun e => !Region.binds md e || ia.contains e.on || (is.take k).contains e.on || L0.getD e.on false) && (o.after.toList.any fun e => Region.binds md e && e.on == ia.getD k 0) | none => false)
structure BxOk (md : Region.Mode) (ops : Array Oper) (L0 : Array Bool) (n : Nat) (ia is : List Nat) : Prop where
  size : L0.size = ops.size
  la : ia.length = n
  ls : is.length = n
  nod : (ia ++ is).Nodup
  rest : ∀ i, i < ops.size → L0.getD i false = true ∨ i ∈ ia ∨ i ∈ is
  ina : ∀ k, k < n → ia.getD k 0 < ops.size
  ins : ∀ k, k < n → is.getD k 0 < ops.size
  na : ∀ k, k < n → L0.getD (ia.getD k 0) false = false
  ns : ∀ k, k < n → L0.getD (is.getD k 0) false = false
  opa : ∀ k, k < n → ∃ o, ops[ia.getD k 0]? = some o ∧ ∀ e ∈ o.after, Region.binds md e = true → L0.getD e.on false = true
  opb : ∀ k, k < n → ∃ o, ops[is.getD k 0]? = some o ∧ (∀ e ∈ o.after, Region.binds md e = true → e.on ∈ ia ∨ e.on ∈ is.take k ∨ L0.getD e.on false = true) ∧ ∃ e ∈ o.after, Region.binds md e = true ∧ e.on = ia.getD k 0
theorem bxCheck_ok {md : Region.Mode} {ops : Array Oper} {L0 : Array Bool} {n : Nat} {ia is : List Nat} (h : bxCheck md ops L0 n ia is = true) : BxOk md ops L0 n ia is := by
  unfold bxCheck at h
  simp only [Bool.and_eq_true, beq_iff_eq, decide_eq_true_eq, List.all_eq_true, List.mem_range, Bool.or_eq_true, List.contains_iff_mem, Bool.not_eq_true'] at h
  obtain ⟨⟨⟨⟨⟨h1, h2⟩, h3⟩, h4⟩, h5⟩, h6⟩ := h
  refine ⟨h1, h2, h3, h4, fun i hi => ?_, fun k hk => (h6 k hk).1.1.1.1.1, fun k hk => (h6 k hk).1.1.1.1.2, fun k hk => (h6 k hk).1.1.1.2, fun k hk => (h6 k hk).1.1.2, fun k hk => ?_, fun k hk => ?_⟩
  · rcases h5 i hi with (h | h) | h
    · exact .inl h
    · exact .inr (.inl h)
    · exact .inr (.inr h)
  · have h7 := (h6 k hk).1.2
    rcases ho : ops[ia.getD k 0]? with _ | o
    · rw [ho] at h7; cases h7
    · rw [ho] at h7
      refine ⟨o, rfl, fun e he hb => ?_⟩
      have h8 := List.all_eq_true.1 h7 e (by simpa using he)
      rw [hb] at h8
      simpa using h8
  · have h7 := (h6 k hk).2
    rcases ho : ops[is.getD k 0]? with _ | o
    · rw [ho] at h7; cases h7
    · rw [ho] at h7
      simp only [Bool.and_eq_true] at h7
      obtain ⟨h7, h9⟩ := h7
      refine ⟨o, rfl, fun e he hb => ?_, ?_⟩
      · have h8 := List.all_eq_true.1 h7 e (by simpa using he)
        rw [hb] at h8
        simpa [or_assoc] using h8
      · obtain ⟨e, he, hb⟩ := List.any_eq_true.1 h9
        exact ⟨e, by simpa using he, by simpa using hb⟩
structure BxL (L0 : Array Bool) (n : Nat) (ia is : List Nat) (ss : List Nat) (listed : Array Bool) : Prop where
  size : listed.size = L0.size
  iff : ∀ i, listed.getD i false = true ↔ (L0.getD i false = true ∨ ∃ k, k < n ∧ ((i = ia.getD k 0 ∧ 1 ≤ ss.getD k 0) ∨ (i = is.getD k 0 ∧ 2 ≤ ss.getD k 0)))
theorem bx_nd {ia is : List Nat} {n : Nat} (la : ia.length = n) (ls : is.length = n) (h : (ia ++ is).Nodup) : (∀ j k, j < n → k < n → ia.getD j 0 = ia.getD k 0 → j = k) ∧ (∀ j k, j < n → k < n → is.getD j 0 = is.getD k 0 → j = k) ∧ (∀ j k, j < n → k < n → ia.getD j 0 ≠ is.getD k 0) := by
  obtain ⟨h1, h2, h3⟩ := List.nodup_append.1 h
  have ga : ∀ j, j < n → ∃ hj : j < ia.length, ia.getD j 0 = ia[j] := fun j hj => ⟨by omega, by simp [List.getD_eq_getElem?_getD, la, hj]⟩
  have gs : ∀ j, j < n → ∃ hj : j < is.length, is.getD j 0 = is[j] := fun j hj => ⟨by omega, by simp [List.getD_eq_getElem?_getD, ls, hj]⟩
  refine ⟨fun j k hj hk e => ?_, fun j k hj hk e => ?_, fun j k hj hk e => ?_⟩
  · obtain ⟨a1, e1⟩ := ga j hj; obtain ⟨a2, e2⟩ := ga k hk
    rw [e1, e2] at e
    exact by
      rcases Nat.lt_trichotomy j k with hlt | hlt | hlt
      · exact absurd e (List.pairwise_iff_getElem.1 h1 j k a1 a2 hlt)
      · exact hlt
      · exact absurd e.symm (List.pairwise_iff_getElem.1 h1 k j a2 a1 hlt)
  · obtain ⟨a1, e1⟩ := gs j hj; obtain ⟨a2, e2⟩ := gs k hk
    rw [e1, e2] at e
    exact by
      rcases Nat.lt_trichotomy j k with hlt | hlt | hlt
      · exact absurd e (List.pairwise_iff_getElem.1 h2 j k a1 a2 hlt)
      · exact hlt
      · exact absurd e.symm (List.pairwise_iff_getElem.1 h2 k j a2 a1 hlt)
  · obtain ⟨a1, e1⟩ := ga j hj; obtain ⟨a2, e2⟩ := gs k hk
    rw [e1, e2] at e
    exact h3 _ (List.getElem_mem a1) _ (List.getElem_mem a2) e
theorem getD_set (ss : List Nat) (k j x : Nat) (hk : k < ss.length) : (ss.set k x).getD j 0 = if j = k then x else ss.getD j 0 := by
  simp only [List.getD_eq_getElem?_getD, List.getElem?_set]
  by_cases h : k = j
  · subst h; simp [hk]
  · rw [if_neg h, if_neg (fun e => h e.symm)]
theorem arr_getD_set (l : Array Bool) (i j : Nat) (hi : i < l.size) : (l.setIfInBounds i true).getD j false = true ↔ (j = i ∨ l.getD j false = true) := by
  simp only [Array.getD_eq_getD_getElem?, Array.getElem?_setIfInBounds]
  by_cases h : i = j
  · subst h; simp [hi]
  · rw [if_neg h]; constructor
    · exact fun h => .inr h
    · rintro (rfl | h2); (· exact absurd rfl h); (· exact h2)
theorem getD_tf {l : Array Bool} {i : Nat} (hi : i < l.size) : l.getD i true = l.getD i false := by
  simp [Array.getD_eq_getD_getElem?, hi]
theorem BxL.seta {L0 : Array Bool} {n : Nat} {ia is ss : List Nat} {listed : Array Bool} (h : BxL L0 n ia is ss listed) (k : Nat) (hk : k < n) (hl : ss.length = n) (h0 : ss.getD k 0 = 0) (hi : ia.getD k 0 < L0.size) : BxL L0 n ia is (ss.set k 1) (listed.setIfInBounds (ia.getD k 0) true) := by
  refine ⟨by simp [h.size], fun i => ?_⟩
  rw [arr_getD_set _ _ _ (by rw [h.size]; exact hi), h.iff]
  constructor
  · rintro (rfl | h1 | ⟨j, hj, h1⟩)
    · exact .inr ⟨k, hk, .inl ⟨rfl, by rw [getD_set _ _ _ _ (by omega), if_pos rfl]; omega⟩⟩
    · exact .inl h1
    · refine .inr ⟨j, hj, ?_⟩
      rw [getD_set _ _ _ _ (by omega)]
      by_cases e : j = k
      · subst e; rcases h1 with ⟨_, h1⟩ | ⟨_, h1⟩ <;> omega
      · rw [if_neg e]; exact h1
  · rintro (h1 | ⟨j, hj, h1⟩)
    · exact .inr (.inl h1)
    · rw [getD_set _ _ _ _ (by omega)] at h1
      by_cases e : j = k
      · subst e; rw [if_pos rfl] at h1
        rcases h1 with ⟨h1, _⟩ | ⟨_, h1⟩
        · exact .inl h1
        · omega
      · rw [if_neg e] at h1; exact .inr (.inr ⟨j, hj, h1⟩)
theorem BxL.sets {L0 : Array Bool} {n : Nat} {ia is ss : List Nat} {listed : Array Bool} (h : BxL L0 n ia is ss listed) (k : Nat) (hk : k < n) (hl : ss.length = n) (h0 : ss.getD k 0 = 1) (hi : is.getD k 0 < L0.size) : BxL L0 n ia is (ss.set k 2) (listed.setIfInBounds (is.getD k 0) true) := by
  refine ⟨by simp [h.size], fun i => ?_⟩
  rw [arr_getD_set _ _ _ (by rw [h.size]; exact hi), h.iff]
  constructor
  · rintro (rfl | h1 | ⟨j, hj, h1⟩)
    · exact .inr ⟨k, hk, .inr ⟨rfl, by rw [getD_set _ _ _ _ (by omega), if_pos rfl]; omega⟩⟩
    · exact .inl h1
    · refine .inr ⟨j, hj, ?_⟩
      rw [getD_set _ _ _ _ (by omega)]
      by_cases e : j = k
      · subst e; rw [if_pos rfl]
        rcases h1 with ⟨h1, _⟩ | ⟨_, h1⟩
        · exact .inl ⟨h1, by omega⟩
        · omega
      · rw [if_neg e]; exact h1
  · rintro (h1 | ⟨j, hj, h1⟩)
    · exact .inr (.inl h1)
    · rw [getD_set _ _ _ _ (by omega)] at h1
      by_cases e : j = k
      · subst e; rw [if_pos rfl] at h1
        rcases h1 with ⟨h1, _⟩ | ⟨h1, _⟩
        · exact .inr (.inr ⟨j, hj, .inl ⟨h1, by omega⟩⟩)
        · exact .inl h1
      · rw [if_neg e] at h1; exact .inr (.inr ⟨j, hj, h1⟩)
theorem bx_all {md : Region.Mode} {ops : Array Oper} {L0 : Array Bool} {n : Nat} {ia is : List Nat} (C : BxOk md ops L0 n ia is) {ss : List Nat} {listed : Array Bool} (hl : ss.length = n) (hx : ∀ x ∈ ss, x ≤ 2) (hL : BxL L0 n ia is ss listed) :
    (∀ i ∈ Region.ready md ops listed, ∃ k, k < n ∧ ((ss.getD k 0 = 0 ∧ i = ia.getD k 0) ∨ (ss.getD k 0 = 1 ∧ i = is.getD k 0))) ∧ (Region.ready md ops listed = [] → ss = List.replicate n 2) := by
  obtain ⟨n1, n2, n3⟩ := bx_nd C.la C.ls C.nod
  have hss : ∀ k, k < n → ss.getD k 0 ≤ 2 := fun k hk => by
    have : ss.getD k 0 = ss[k]'(by omega) := by simp [List.getD_eq_getElem?_getD, hl, hk]
    rw [this]; exact hx _ (List.getElem_mem _)
  have nota : ∀ k, k < n → ss.getD k 0 = 0 → listed.getD (ia.getD k 0) false = false := fun k hk h0 => by
    rw [← Bool.not_eq_true, hL.iff]
    rintro (h | ⟨j, hj, ⟨h1, h2⟩ | ⟨h1, _⟩⟩)
    · rw [C.na k hk] at h; cases h
    · have := n1 k j hk hj h1; subst this; omega
    · exact n3 k j hk hj h1
  have nots : ∀ k, k < n → ss.getD k 0 < 2 → listed.getD (is.getD k 0) false = false := fun k hk h0 => by
    rw [← Bool.not_eq_true, hL.iff]
    rintro (h | ⟨j, hj, ⟨h1, _⟩ | ⟨h1, h2⟩⟩)
    · rw [C.ns k hk] at h; cases h
    · exact n3 j k hj hk h1.symm
    · have := n2 k j hk hj h1; subst this; omega
  refine ⟨fun i hi => ?_, fun he => ?_⟩
  · obtain ⟨g1, o, ho, hall⟩ := mem_ready.1 hi
    have hlt : i < ops.size := (Array.getElem?_eq_some_iff.1 ho).1
    rw [getD_tf (by rw [hL.size, C.size]; exact hlt)] at g1
    have hin : ∀ l : List Nat, l.length = n → i ∈ l → ∃ k, k < n ∧ i = l.getD k 0 := fun l hll hm => by
      obtain ⟨k, hk, e⟩ := List.mem_iff_getElem.1 hm
      exact ⟨k, by omega, by rw [← e]; simp [List.getD_eq_getElem?_getD, hk]⟩
    rcases C.rest i hlt with h | h | h
    · have := (hL.iff i).2 (.inl h); rw [g1] at this; cases this
    · obtain ⟨k, hk, rfl⟩ := hin ia C.la h
      refine ⟨k, hk, .inl ⟨?_, rfl⟩⟩
      by_cases h0 : ss.getD k 0 = 0
      · exact h0
      · have := (hL.iff (ia.getD k 0)).2 (.inr ⟨k, hk, .inl ⟨rfl, by omega⟩⟩); rw [g1] at this; cases this
    · obtain ⟨k, hk, rfl⟩ := hin is C.ls h
      refine ⟨k, hk, .inr ⟨?_, rfl⟩⟩
      have h2 : ¬ 2 ≤ ss.getD k 0 := fun h2 => by
        have := (hL.iff (is.getD k 0)).2 (.inr ⟨k, hk, .inr ⟨rfl, h2⟩⟩); rw [g1] at this; cases this
      obtain ⟨o', ho', _, e, he, hb, hon⟩ := C.opb k hk
      rw [ho] at ho'; injection ho' with ho'; subst ho'
      have h3 := hall e he hb
      rw [hon] at h3
      by_cases h0 : ss.getD k 0 = 0
      · rw [nota k hk h0] at h3; cases h3
      · omega
  · have hge : ∀ k, k < n → 1 ≤ ss.getD k 0 := fun k hkn => by
      by_cases h0 : ss.getD k 0 = 0
      · exfalso
        obtain ⟨o, ho, hall⟩ := C.opa k hkn
        have : ia.getD k 0 ∈ Region.ready md ops listed := mem_ready.2 ⟨by rw [getD_tf (by rw [hL.size, C.size]; exact C.ina k hkn)]; exact nota k hkn h0, o, ho, fun e he hb => (hL.iff _).2 (.inl (hall e he hb))⟩
        rw [he] at this; cases this
      · omega
    have h2 : ∀ k, k < n → ss.getD k 0 = 2 := by
      intro k
      induction k using Nat.strongRecOn with
      | ind k ih =>
        intro hkn
        by_cases h1 : ss.getD k 0 = 2
        · exact h1
        · exfalso
          have h3 := hss k hkn
          obtain ⟨o, ho, hall, _⟩ := C.opb k hkn
          have : is.getD k 0 ∈ Region.ready md ops listed := mem_ready.2 ⟨by rw [getD_tf (by rw [hL.size, C.size]; exact C.ins k hkn)]; exact nots k hkn (by omega), o, ho, fun e he hb => by
            rcases hall e he hb with h | h | h
            · obtain ⟨j, hj, e1⟩ := List.mem_iff_getElem.1 h
              have hjn : j < n := by rw [C.la] at hj; exact hj
              exact (hL.iff _).2 (.inr ⟨j, hjn, .inl ⟨by rw [← e1]; simp [List.getD_eq_getElem?_getD, hj], hge j hjn⟩⟩)
            · obtain ⟨j, hj, e1⟩ := List.mem_iff_getElem.1 h
              rw [List.length_take, C.ls] at hj
              have hjn : j < n := by omega
              exact (hL.iff _).2 (.inr ⟨j, hjn, .inr ⟨by rw [← e1]; simp [List.getD_eq_getElem?_getD, C.ls, hjn], by rw [ih j (by omega) hjn]; omega⟩⟩)
            · exact (hL.iff _).2 (.inl h)⟩
          rw [he] at this; cases this
    refine List.eq_replicate_iff.2 ⟨hl, fun x hxm => ?_⟩
    obtain ⟨k, hk, e⟩ := List.mem_iff_getElem.1 hxm
    have hg : ss.getD k 0 = x := by rw [← e]; simp [List.getD_eq_getElem?_getD, hk]
    rw [← hg]; exact h2 k (by omega)
structure BxInv (n : Nat) (b : Nat → Bx) (a0 : Act) (w0 : World) (ss : List Nat) (a : Act) (w : World) (p : Nat → Nat) : Prop where
  defers : a.defers = a0.defers
  size : a.tmps.size = a0.tmps.size
  ptr : ∀ k, k < n → 1 ≤ ss.getD k 0 → a.tmps[(b k).d]? = some (.pointer (some ⟨p k, 0, none⟩))
  oth : ∀ t, (∀ k, k < n → 1 ≤ ss.getD k 0 → t ≠ (b k).d) → a.tmps[t]? = a0.tmps[t]?
  bel : Below w0.heap.size w0 w
  lo : ∀ k, k < n → 1 ≤ ss.getD k 0 → w0.heap.size ≤ p k
  blk : ∀ k, k < n → 1 ≤ ss.getD k 0 → Blk w (p k) (b k).T (if ss.getD k 0 = 1 then (b k).z else (b k).c)
def bxLeft : List Nat → Nat
  | [] => 0
  | x :: l => (2 - x) + bxLeft l
theorem bxLeft_set : ∀ (ss : List Nat) (k x : Nat), k < ss.length → ss.getD k 0 = x → x < 2 → bxLeft (ss.set k (x + 1)) + 1 = bxLeft ss
  | [], k, x, h, _, _ => by simp at h
  | y :: l, 0, x, h, e, hx => by simp at e; subst e; simp [bxLeft]; omega
  | y :: l, k + 1, x, h, e, hx => by
    have := bxLeft_set l k x (by simpa using h) (by simpa using e) hx
    simp only [List.set_cons_succ, bxLeft]; omega
section
variable {P : Program} {md : Region.Mode} {ops : Array Oper} {Q : Exit → Act → World → Prop} {S : World → Prop}
theorem wpAnyH_boxes {n : Nat} {ia is : List Nat} {b : Nat → Bx} {a0 : Act} {w0 : World} {L0 : Array Bool} (hchk : bxCheck md ops L0 n ia is = true)
    (hA : ∀ k, k < n → ∀ (K : Act → World → Prop) (a : Act) (w : World), K (a.put (some (b k).d) (.pointer (some ⟨w.heap.size, 0, none⟩))) (w.alloc (.cells (b k).z (b k).T)) → wpOp P ops Q (ia.getD k 0) K a w)
    (hSt : ∀ k, k < n → ∀ (K : Act → World → Prop) (a : Act) (w : World) (q : Nat), a.eval (.tmp (b k).d) = .pointer (some ⟨q, 0, none⟩) → a.eval (.tmp (b k).ld) = .agg (b k).c → Blk w q (b k).T (b k).z → K a (w.setRow q (b k).c) → wpOp P ops Q (is.getD k 0) K a w)
    (hd : ∀ j k, j < n → k < n → j ≠ k → (b j).d ≠ (b k).d) (hT : ∀ j k, j < n → k < n → j ≠ k → (b j).T ≠ (b k).T) (hld : ∀ j k, j < n → k < n → (b j).ld ≠ (b k).d)
    (hsz : ∀ k, k < n → (b k).d < a0.tmps.size) (hv : ∀ k, k < n → a0.tmps[(b k).ld]? = some (.agg (b k).c)) (hSB : ∀ w, Below w0.heap.size w0 w → S w)
    (hQ : ∀ (a : Act) (w : World) (p : Nat → Nat), BxInv n b a0 w0 (List.replicate n 2) a w p → Q .normal a w) :
    ∀ (fuel : Nat) (ss : List Nat) (listed : Array Bool) (a : Act) (w : World) (p : Nat → Nat), ss.length = n → (∀ x ∈ ss, x ≤ 2) → bxLeft ss ≤ fuel → BxL L0 n ia is ss listed → BxInv n b a0 w0 ss a w p → wpAnyH P md ops Q S fuel listed a w := by
  have C := bxCheck_ok hchk
  intro fuel
  induction fuel with
  | zero =>
    intro ss listed a w p hl hx hf hL hI
    have h2 : ss = List.replicate n 2 := by
      refine List.eq_replicate_iff.2 ⟨hl, fun x hxm => ?_⟩
      have : ∀ (l : List Nat), bxLeft l ≤ 0 → ∀ y ∈ l, 2 ≤ y := by
        intro l
        induction l with
        | nil => intro _ y hy; cases hy
        | cons z l ih =>
          intro hz y hy
          simp only [bxLeft] at hz
          rcases List.mem_cons.1 hy with rfl | hy
          · omega
          · exact ih (by omega) y hy
      have h3 := this ss hf x hxm
      have h4 := hx x hxm
      omega
    have hr : Region.ready md ops listed = [] := by
      rcases hr : Region.ready md ops listed with _ | ⟨i, r⟩
      · rfl
      · exfalso
        obtain ⟨k, hk, h | h⟩ := (bx_all C hl hx hL).1 i (by rw [hr]; exact List.mem_cons_self)
        · have := h.1; rw [h2] at this; simp [List.getD_eq_getElem?_getD, hk] at this
        · have := h.1; rw [h2] at this; simp [List.getD_eq_getElem?_getD, hk] at this
    exact ⟨hr, hQ a w p (by rw [h2] at hI; exact hI)⟩
  | succ fuel ih =>
    intro ss listed a w p hl hx hf hL hI
    refine ⟨fun he => hQ a w p (by have := (bx_all C hl hx hL).2 he; rw [this] at hI; exact hI), fun i hi => ?_⟩
    obtain ⟨k, hk, ⟨h0, rfl⟩ | ⟨h1, rfl⟩⟩ := (bx_all C hl hx hL).1 i hi
    · refine hA k hk _ a w ?_
      have hset : ∀ j, (ss.set k 1).getD j 0 = if j = k then 1 else ss.getD j 0 := fun j => getD_set ss k j 1 (by omega)
      have hwl : w0.heap.size ≤ w.heap.size := hI.bel.size
      have hN : BxInv n b a0 w0 (ss.set k 1) (a.put (some (b k).d) (.pointer (some ⟨w.heap.size, 0, none⟩))) (w.alloc (.cells (b k).z (b k).T)) (fun j => if j = k then w.heap.size else p j) := by
        refine ⟨hI.defers, by simp [Act.put, hI.size], fun j hj hs => ?_, fun t ht => ?_, hI.bel.alloc hwl _, fun j hj hs => ?_, fun j hj hs => ?_⟩
        · rw [hset] at hs
          by_cases hjk : j = k
          · subst hjk
            simp [Act.put, hI.size, hsz j hj]
          · rw [if_neg hjk] at hs
            simp only [Act.put, if_neg hjk]
            rw [Array.getElem?_setIfInBounds_ne (fun e => hd k j hk hj (Ne.symm hjk) e)]
            exact hI.ptr j hj hs
        · have htk : t ≠ (b k).d := ht k hk (by rw [hset, if_pos rfl]; omega)
          simp only [Act.put]
          rw [Array.getElem?_setIfInBounds_ne (Ne.symm htk)]
          exact hI.oth t (fun j hj hs => ht j hj (by rw [hset]; split <;> omega))
        · rw [hset] at hs
          by_cases hjk : j = k
          · simp [hjk, hwl]
          · rw [if_neg hjk] at hs; simp only [if_neg hjk]; exact hI.lo j hj hs
        · rw [hset] at hs ⊢
          by_cases hjk : j = k
          · subst hjk; simp only [if_true]; exact Blk.new _ _ _
          · rw [if_neg hjk] at hs; simp only [if_neg hjk]; exact (hI.blk j hj hs).alloc _
      refine ⟨hSB _ hN.bel, ?_⟩
      exact ih (ss.set k 1) _ _ _ _ (by simpa using hl) (fun x hxm => by rcases List.mem_or_eq_of_mem_set hxm with h | rfl; (· exact hx x h); (· omega)) (by have := bxLeft_set ss k 0 (by omega) h0 (by omega); simp only [Nat.zero_add] at this; omega) (hL.seta k hk hl h0 (by rw [C.size]; exact C.ina k hk)) hN
    · have hpk := hI.ptr k hk (by omega)
      have hbk := hI.blk k hk (by omega)
      rw [if_pos h1] at hbk
      have hvk : a.tmps[(b k).ld]? = some (.agg (b k).c) := by rw [hI.oth _ (fun j hj _ => hld k j hk hj)]; exact hv k hk
      refine hSt k hk _ a w (p k) (by simp [Act.eval, hpk]) (by simp [Act.eval, hvk]) hbk ?_
      have hset : ∀ j, (ss.set k 2).getD j 0 = if j = k then 2 else ss.getD j 0 := fun j => getD_set ss k j 2 (by omega)
      have hN : BxInv n b a0 w0 (ss.set k 2) a (w.setRow (p k) (b k).c) p := by
        refine ⟨hI.defers, hI.size, fun j hj hs => ?_, fun t ht => hI.oth t (fun j hj hs => ht j hj (by rw [hset]; split <;> omega)), ?_, fun j hj hs => ?_, fun j hj hs => ?_⟩
        · rw [hset] at hs
          by_cases hjk : j = k
          · subst hjk; exact hpk
          · rw [if_neg hjk] at hs; exact hI.ptr j hj hs
        · have hlo := hI.lo k hk (by omega)
          exact hI.bel.trans ⟨rfl, rfl, rfl, by simp [World.setRow], fun q hq => setRow_other w (p k) q _ (by omega)⟩
        · rw [hset] at hs
          by_cases hjk : j = k
          · subst hjk; exact hI.lo j hj (by rw [h1]; omega)
          · rw [if_neg hjk] at hs; exact hI.lo j hj hs
        · rw [hset] at hs ⊢
          by_cases hjk : j = k
          · subst hjk
            simp only [if_true]
            rw [if_neg (by omega)]
            exact setRow_heap w (p j) (b j).z (b j).c (b j).T (0, 0) hbk
          · rw [if_neg hjk] at hs; simp only [if_neg hjk]
            have hbj := hI.blk j hj hs
            have hne : p j ≠ p k := by
              intro e
              rw [e] at hbj
              unfold Blk at hbj hbk
              rw [hbj] at hbk
              injection hbk with hbk
              injection hbk with _ ht
              exact hT j k hj hk hjk ht
            exact (setRow_other w (p k) (p j) _ hne).trans hbj
      refine ⟨hSB _ hN.bel, ?_⟩
      exact ih (ss.set k 2) _ _ _ _ (by simpa using hl) (fun x hxm => by rcases List.mem_or_eq_of_mem_set hxm with h | rfl; (· exact hx x h); (· omega)) (by have := bxLeft_set ss k 1 (by omega) h1 (by omega); simp only [Nat.reduceAdd] at this; omega) (hL.sets k hk hl h1 (by rw [C.size]; exact C.ins k hk)) hN
end
theorem BxInv.start (n : Nat) (b : Nat → Bx) (a0 : Act) (w0 : World) (p : Nat → Nat) : BxInv n b a0 w0 (List.replicate n 0) a0 w0 p := by
  have h0 : ∀ k, (List.replicate n 0).getD k 0 = 0 := fun k => by
    rw [List.getD_eq_getElem?_getD, List.getElem?_replicate]; split <;> rfl
  exact ⟨rfl, rfl, fun k _ h => by rw [h0] at h; omega, fun _ _ => rfl, Below.refl _ _, fun k _ h => by rw [h0] at h; omega, fun k _ h => by rw [h0] at h; omega⟩
theorem BxL.start (L0 : Array Bool) (n : Nat) (ia is : List Nat) : BxL L0 n ia is (List.replicate n 0) L0 := by
  have h0 : ∀ k, (List.replicate n 0).getD k 0 = 0 := fun k => by
    rw [List.getD_eq_getElem?_getD, List.getElem?_replicate]; split <;> rfl
  refine ⟨rfl, fun i => ⟨fun h => .inl h, ?_⟩⟩
  rintro (h | ⟨k, _, ⟨_, h⟩ | ⟨_, h⟩⟩)
  · exact h
  · rw [h0] at h; omega
  · rw [h0] at h; omega
theorem act_puts : ∀ (l : List (Nat × Value)) (a a0 : Act), a.defers = a0.defers → a.tmps.size = a0.tmps.size → (l.map (·.1)).Nodup → (∀ x ∈ l, a.tmps[x.1]? = some x.2) → (∀ t, (∀ x ∈ l, t ≠ x.1) → a.tmps[t]? = a0.tmps[t]?) → a = l.foldl (fun a x => a.put (some x.1) x.2) a0
  | [], a, a0, h1, h2, _, _, h5 => by
    obtain ⟨t, d⟩ := a
    obtain ⟨t0, d0⟩ := a0
    simp only [] at h1 h2 h5
    subst h1
    have : t = t0 := Array.ext_getElem? (fun i => h5 i (fun x hx => by cases hx))
    subst this; rfl
  | x :: l, a, a0, h1, h2, h3, h4, h5 => by
    rw [List.foldl_cons]
    rw [List.map_cons, List.nodup_cons] at h3
    refine act_puts l a _ h1 (by simp [Act.put, h2]) h3.2 (fun y hy => h4 y (List.mem_cons_of_mem _ hy)) (fun t ht => ?_)
    by_cases e : t = x.1
    · subst e
      have hx := h4 x List.mem_cons_self
      rw [hx]
      have hlt : x.1 < a0.tmps.size := by rw [← h2]; exact (Array.getElem?_eq_some_iff.1 hx).1
      simp [Act.put, hlt]
    · simp only [Act.put]
      rw [Array.getElem?_setIfInBounds_ne (Ne.symm e)]
      exact h5 t (fun y hy => by
        rcases List.mem_cons.1 hy with rfl | hy
        · exact e
        · exact ht y hy)
end Go.Proofs.YtbageimconenlaaGreat
