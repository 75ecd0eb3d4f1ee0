/- The engine: a region that draws its order comes to the state of the text's order, where what is not ordered does not touch. No program in sight. | The engine: operations that are carried out by reckoning. No program in sight. -/
import Derived.Test.YtbageimconenlaaGreatE0
import Derived.Laws.Tables
import Derived.Deep.MidRow
namespace Go.Proofs.YtbageimconenlaaGreat
open Go.RowKit
set_option linter.unusedVariables false
namespace En
def bef (b : Array Nat) (j i : Nat) : Bool := (b.getD j 0).testBit i
def dis (a b : List Nat) : Bool := a.all fun x => !(b.any (Nat.beq x))
theorem dis_spec {a b : List Nat} (h : dis a b = true) : ∀ x ∈ a, x ∉ b := by
  intro x hx hb
  have := List.all_eq_true.1 h x hx
  simp only [Bool.not_eq_true'] at this
  rw [List.any_eq_true.2 ⟨x, hb, by simp⟩] at this
  cases this
def gtm (ops : Array Oper) (o : Oper) : List Nat := match o.guard with | none => [] | some (j, _) => ((ops[j]?).bind (·.dst)).toList
def rtm (ops : Array Oper) (e : Ent) : List Nat := e.R.tm.map (·.1) ++ gtm ops e.o
def wns (e : Ent) : List Nat := (As e).map (·.1)
def rns (e : Ent) : List Nat := e.R.σ.map (·.1)
def ind (ops : Array Oper) (e f : Ent) : Bool :=
  dis e.o.dst.toList (rtm ops f) && dis f.o.dst.toList (rtm ops e) && dis e.o.dst.toList f.o.dst.toList && dis (wns e) (rns f) && dis (wns f) (rns e) && dis (wns e) (wns f)
structure IndS (ops : Array Oper) (e f : Ent) : Prop where
  a : ∀ t, e.o.dst = some t → t ∉ rtm ops f
  a' : ∀ t, f.o.dst = some t → t ∉ rtm ops e
  b : ∀ t, e.o.dst = some t → f.o.dst ≠ some t
  n : ∀ n, n ∈ wns e → n ∉ rns f
  n' : ∀ n, n ∈ wns f → n ∉ rns e
  m : ∀ n, n ∈ wns e → n ∉ wns f
theorem ind_spec {ops : Array Oper} {e f : Ent} (h : ind ops e f = true) : IndS ops e f := by
  simp only [ind, Bool.and_eq_true] at h
  obtain ⟨⟨⟨⟨⟨h1, h2⟩, h3⟩, h4⟩, h5⟩, h6⟩ := h
  exact ⟨fun t ht => dis_spec h1 t (by simp [ht]), fun t ht => dis_spec h2 t (by simp [ht]), fun t ht hf => dis_spec h3 t (by simp [ht]) (by simp [hf]), dis_spec h4, dis_spec h5, dis_spec h6⟩
theorem IndS.symm {ops : Array Oper} {e f : Ent} (h : IndS ops e f) : IndS ops f e :=
  ⟨h.a', h.a, fun t ht he => h.b t he ht, h.n', h.n, fun n hn he => h.m n he hn⟩
def clo (ops : List Oper) (N : Nat) (b : Array Nat) : Nat → Bool :=
  fun j => (List.range N).all fun i => !bef b j i || (match ops[j]? with | some o => o.after.toList.any fun e => Region.binds .any e && (Nat.beq e.on i || bef b e.on i) | none => false)
def edg (o : Oper) (j : Nat) : Bool := o.after.toList.all fun e => !Region.binds .any e || Nat.blt e.on j
def edgs : List Oper → Nat → Bool
  | [], _ => true
  | o :: r, j => edg o j && edgs r (j + 1)
def prs (ops : Array Oper) (b : Array Nat) (e : Ent) : List Ent → Bool
  | [] => true
  | f :: r => (bef b f.i e.i || ind ops e f) && prs ops b e r
def pairs (ops : Array Oper) (b : Array Nat) : List Ent → Bool
  | [] => true
  | e :: r => prs ops b e r && pairs ops b r
def idxB : Nat → List Ent → Bool
  | _, [] => true
  | k, e :: r => Nat.beq e.i k && idxB (k + 1) r
theorem idxB_spec : ∀ {L : List Ent} {k : Nat}, idxB k L = true → Idx k L
  | [], k, _ => trivial
  | e :: r, k, h => by
    simp only [idxB, Bool.and_eq_true] at h
    exact ⟨Nat.eq_of_beq_eq_true h.1, idxB_spec h.2⟩
def chk (ops : Array Oper) (L : List Ent) : Bool :=
  let b := Region.before ops
  (List.range L.length).all (clo ops.toList L.length b) && edgs ops.toList 0 && pairs ops b L && idxB 0 L && Nat.beq L.length ops.toList.length
theorem edgs_spec : ∀ {l : List Oper} {k j : Nat} {o : Oper}, edgs l k = true → l[j]? = some o → ∀ e ∈ o.after, Region.binds .any e = true → e.on < k + j
  | [], k, j, o, _, h => by simp at h
  | x :: r, k, 0, o, h, ho => by
    simp at ho; subst ho
    simp only [edgs, Bool.and_eq_true] at h
    intro e he hb
    have := List.all_eq_true.1 h.1 e (by simpa using he)
    rw [hb] at this
    simpa using this
  | x :: r, k, j + 1, o, h, ho => by
    simp only [edgs, Bool.and_eq_true] at h
    intro e he hb
    have := edgs_spec h.2 (by simpa using ho) e he hb
    omega
theorem prs_spec {ops : Array Oper} {b : Array Nat} {e : Ent} : ∀ {L : List Ent}, prs ops b e L = true → ∀ f ∈ L, bef b f.i e.i = true ∨ IndS ops e f
  | [], _, f, hf => by cases hf
  | g :: r, h, f, hf => by
    simp only [prs, Bool.and_eq_true, Bool.or_eq_true] at h
    rcases List.mem_cons.1 hf with rfl | hf
    · exact h.1.imp id ind_spec
    · exact prs_spec h.2 f hf
theorem pairs_spec {ops : Array Oper} {b : Array Nat} : ∀ {L : List Ent} {k : Nat}, pairs ops b L = true → Idx k L → ∀ e ∈ L, ∀ f ∈ L, e.i < f.i → bef b f.i e.i = true ∨ IndS ops e f
  | [], k, _, _, e, he, _, _, _ => by cases he
  | g :: r, k, h, hI, e, he, f, hf, hlt => by
    simp only [pairs, Bool.and_eq_true] at h
    rcases List.mem_cons.1 he with he1 | he1
    · rcases List.mem_cons.1 hf with hf1 | hf1
      · subst he1 hf1; omega
      · subst he1; exact prs_spec h.1 f hf1
    · rcases List.mem_cons.1 hf with hf1 | hf1
      · subst hf1
        obtain ⟨j, _, hj⟩ := hI.2.mem he1
        have := hI.1
        omega
      · exact pairs_spec h.2 hI.2 e he1 f hf1 hlt
theorem lkAt_none {f : Ent} {t : Nat} (h : f.o.dst ≠ some t) : lk (At f) t = none := by
  unfold At
  cases hd : f.o.dst with
  | none => rfl
  | some x =>
    simp only [lk_cons]
    rw [if_neg (by rintro rfl; exact h hd)]; rfl
theorem lkAt_some {f : Ent} {t : Nat} {v : Value} (h : lk (At f) t = some v) : f.o.dst = some t := by
  rcases Classical.em (f.o.dst = some t) with e | e
  · exact e
  · rw [lkAt_none e] at h; cases h
theorem lkAs_none {f : Ent} {n : Nat} (h : n ∉ wns f) : lk (As f) n = none := by
  cases hl : lk (As f) n with
  | none => rfl
  | some b => exact absurd (List.mem_map.2 ⟨_, lk_mem hl, rfl⟩) h
theorem lkAs_some {f : Ent} {n : Nat} {b : Box} (h : lk (As f) n = some b) : n ∈ wns f := List.mem_map.2 ⟨_, lk_mem h, rfl⟩
theorem pl_more {α : Type} {A : Ent → List (Nat × α)} {L : List Ent} {D D' : Nat → Bool} {l : List (Nat × α)} {e : Ent} {j n : Nat} (hI : Idx 0 L) (hj : L[j]? = some e) (hD : D j = false) (hD' : D' j = true) (hne : ∀ i, i ≠ j → D' i = D i)
    (hA : ∀ f ∈ L, j < f.i → D f.i = true → lk (A e) n ≠ none → lk (A f) n = none) : lk (pl A L D' l) n = lk (A e ++ pl A L D l) n := by
  have hei : e.i = j := by have := hI.at_ hj; omega
  rw [lk_append]
  cases he : lk (A e) n with
  | none =>
    rw [Option.none_or]
    refine pl_agree (fun f hf => ?_) rfl
    by_cases hfi : f.i = j
    · left
      obtain ⟨q, hq, hqi⟩ := hI.mem hf
      have : q = j := by omega
      subst this
      rw [hj] at hq; cases hq; exact he
    · exact .inr (hne _ hfi)
  | some v =>
    have hjl : j < L.length := (List.getElem?_eq_some_iff.1 hj).1
    have hsp : L = L.take j ++ e :: L.drop (j + 1) := by
      have h1 : L.drop j = e :: L.drop (j + 1) := drop_cons hj
      rw [← h1, List.take_append_drop]
    rw [hsp]
    show _ = some v
    refine pl_last (by rw [hei]; exact hD') he fun f hf hDf => ?_
    have hfL : f ∈ L := List.mem_of_mem_drop hf
    obtain ⟨q, hq⟩ := List.getElem?_of_mem hf
    rw [List.getElem?_drop] at hq
    have hfi := hI.at_ hq
    exact hA f hfL (by omega) (by rw [← hne f.i (by omega)]; exact hDf) (by rw [he]; exact Option.some_ne_none v)
theorem getD_set {l : Array Bool} {j i : Nat} (hj : j < l.size) : (l.setIfInBounds j true).getD i false = if i = j then true else l.getD i false := by
  rw [Array.getD_eq_getD_getElem?, Array.getD_eq_getD_getElem?, Array.getElem?_setIfInBounds]
  by_cases h : j = i
  · subst h; simp [hj]
  · rw [if_neg h, if_neg (fun e => h e.symm)]
def left (l : Array Bool) : Nat := l.toList.countP (fun b => !b)
theorem left_set {l : Array Bool} {j : Nat} (hj : j < l.size) (h : l.getD j false = false) : left (l.setIfInBounds j true) + 1 = left l := by
  unfold left
  have hjl : j < l.toList.length := by simpa using hj
  have hjb : l.toList[j] = false := by
    have : l[j]?.getD false = false := by rw [← Array.getD_eq_getD_getElem?]; exact h
    simpa [hj] using this
  have key : ∀ (m : List Bool) (j : Nat) (hj : j < m.length), m[j] = false → (m.set j true).countP (fun b => !b) + 1 = m.countP (fun b => !b) := by
    intro m
    induction m with
    | nil => intro j hj; simp at hj
    | cons b m ih =>
      intro j hj hb
      cases j with
      | zero => simp at hb; subst hb; simp
      | succ j =>
        have := ih j (by simpa using hj) (by simpa using hb)
        cases b <;> simp [List.set_cons_succ] <;> omega
  rw [Array.toList_setIfInBounds]
  exact key _ j hjl hjb
theorem wpAny_ents {P : Program} {ops : Array Oper} {c : Cx} {Q : Exit → Act → World → Prop} {L : List Ent} {s0 : St} (hs : Seq P c.B ops L s0) (hc : chk ops L = true)
    (hQ : ∀ ρ a w, Sat c ρ (fin L s0) a w → Q .normal a w) :
    ∀ (fuel : Nat) (l : Array Bool) (ρ : (Nat → Pl)) (a : Act) (w : World), l.size = ops.size → left l ≤ fuel →
      (∀ j i, i < ops.size → l.getD j false = true → bef (Region.before ops) j i = true → l.getD i false = true) →
      Sat c ρ (pt L (fun k => l.getD k false) s0) a w → wpAny P .any ops Q fuel l a w := by
  simp only [chk, Bool.and_eq_true] at hc
  obtain ⟨⟨⟨⟨hclo, hedg⟩, hprs⟩, hidx⟩, hlen⟩ := hc
  have hI := idxB_spec hidx
  have hN : L.length = ops.size := by have := Nat.eq_of_beq_eq_true hlen; simpa using this
  have hP := pairs_spec hprs hI
  have hall : ∀ l : Array Bool, l.size = ops.size → Region.ready .any ops l = [] → ∀ k, k < ops.size → l.getD k false = true := by
    intro l hl hr k
    induction k using Nat.strongRecOn with
    | _ k ih =>
      intro hk
      cases hD : l.getD k false with
      | true => rfl
      | false =>
        exfalso
        have ho : ops[k]? = some ops[k] := by simp [hk]
        have : k ∈ Region.ready .any ops l := mem_ready.2 ⟨by
          rw [Array.getD_eq_getD_getElem?] at hD ⊢
          have hkl : k < l.size := by omega
          simp [hkl] at hD ⊢; exact hD, ops[k], ho, fun e he hb => by
          have := edgs_spec (k := 0) (j := k) (o := ops[k]) hedg (by simp) e he hb
          exact ih e.on (by omega) (by omega)⟩
        rw [hr] at this; cases this
  have hdone : ∀ (l : Array Bool) (ρ : (Nat → Pl)) (a : Act) (w : World), l.size = ops.size → Sat c ρ (pt L (fun k => l.getD k false) s0) a w → Region.ready .any ops l = [] → Q .normal a w := by
    intro l ρ a w hl hsat hr
    have := hall l hl hr
    rw [pt_all (fun f hf => by
      obtain ⟨q, hq, hqi⟩ := hI.mem hf
      have := (List.getElem?_eq_some_iff.1 hq).1
      exact hall l hl hr f.i (by omega))] at hsat
    exact hQ ρ a w hsat
  intro fuel
  induction fuel with
  | zero =>
    intro l ρ a w hl hleft hcl hsat
    have hr : Region.ready .any ops l = [] := by
      rcases hr : Region.ready .any ops l with _ | ⟨j, rs⟩
      · rfl
      · exfalso
        have hj : j ∈ Region.ready .any ops l := by rw [hr]; exact List.mem_cons_self
        obtain ⟨h0, o, ho, _⟩ := mem_ready.1 hj
        have hjs : j < l.size := by rw [hl]; exact (Array.getElem?_eq_some_iff.1 ho).1
        have := left_set hjs (by rw [Array.getD_eq_getD_getElem?] at h0 ⊢; simp [hjs] at h0 ⊢; exact h0)
        omega
    exact ⟨hr, hdone l ρ a w hl hsat hr⟩
  | succ fuel ih =>
    intro l ρ a w hl hleft hcl hsat
    refine ⟨hdone l ρ a w hl hsat, fun j hj => ?_⟩
    obtain ⟨h0, o, ho, hpre⟩ := mem_ready.1 hj
    have hjs : j < ops.size := (Array.getElem?_eq_some_iff.1 ho).1
    have hjl : j < l.size := by omega
    have hDj : l.getD j false = false := by rw [Array.getD_eq_getD_getElem?] at h0 ⊢; simp [hjl] at h0 ⊢; exact h0
    have hjL : L[j]? = some L[j] := by simp [hN, hjs]
    generalize L[j] = e at hjL
    have hei : e.i = j := by have := hI.at_ hjL; omega
    have heL : e ∈ L := List.mem_of_getElem? hjL
    obtain ⟨heo, hok⟩ := seq_at hI hs hjL
    simp only [Nat.zero_add] at hok
    have hpj : ∀ i, i < ops.size → bef (Region.before ops) j i = true → l.getD i false = true := by
      intro i hi hb
      have h1 := List.all_eq_true.1 hclo j (by simp; omega)
      have hoo : ops.toList[j]? = some o := by simpa using ho
      have h2 := List.all_eq_true.1 h1 i (by simp; omega)
      rw [hb, hoo] at h2
      simp only [Bool.not_true, Bool.false_or] at h2
      obtain ⟨ed, hed, h3⟩ := List.any_eq_true.1 h2
      simp only [Bool.and_eq_true, Bool.or_eq_true] at h3
      have h4 := hpre ed (by simpa using hed) h3.1
      rcases h3.2 with h5 | h5
      · rw [← Nat.eq_of_beq_eq_true h5]; exact h4
      · exact hcl ed.on i hi h4 h5
    have hfi : ∀ f ∈ L, f.i < ops.size := fun f hf => by
      obtain ⟨q, hq, hqi⟩ := hI.mem hf
      have := (List.getElem?_eq_some_iff.1 hq).1
      omega
    have hin : ∀ f ∈ L, f.i ≠ j → l.getD f.i false ≠ decide (f.i < j) → IndS ops e f := by
      intro f hf hne hd
      rcases Nat.lt_or_ge f.i j with hlt | hge
      · rw [decide_eq_true hlt] at hd
        rcases hP f hf e heL (by omega) with h | h
        · rw [hei] at h
          exact absurd (hpj f.i (hfi f hf) h) hd
        · exact h.symm
      · rw [decide_eq_false (by omega)] at hd
        rcases hP e heL f hf (by omega) with h | h
        · rw [hei] at h
          have hDf : l.getD f.i false = true := by cases hx : l.getD f.i false with | true => rfl | false => exact absurd hx hd
          have := hcl f.i j hjs hDf h
          rw [this] at hDj; cases hDj
        · exact h
    have hag : ∀ f ∈ L, (IndS ops e f) ∨ l.getD f.i false = decide (f.i < j) := by
      intro f hf
      by_cases h : l.getD f.i false = decide (f.i < j)
      · exact .inr h
      · left
        refine hin f hf (fun hfj => h ?_) h
        rw [hfj, hDj]; simp
    have htm : ∀ t, t ∈ rtm ops e → lk (pl At L (fun k => l.getD k false) s0.tm) t = lk (pl At L (fun i => decide (i < j)) s0.tm) t := fun t ht =>
      pl_agree (fun f hf => (hag f hf).imp (fun h => lkAt_none fun hd => h.a' t hd ht) id) rfl
    have hσ : ∀ n, n ∈ rns e → lk (pl As L (fun k => l.getD k false) s0.σ) n = lk (pl As L (fun i => decide (i < j)) s0.σ) n := fun n hn =>
      pl_agree (fun f hf => (hag f hf).imp (fun h => lkAs_none fun hd => h.n' n hd hn) id) rfl
    have hokD : Ok P c.B ops (pt L (fun k => l.getD k false) s0) e := by
      refine ⟨?_, hok.dst, hok.skip, fun hsk => ⟨(hok.does hsk).1, ?_, ?_⟩, hok.up, hok.dist, ?_⟩
      · have hg := hok.gd
        unfold Gd at hg ⊢
        cases hgd : e.o.guard with
        | none => rw [hgd] at hg; exact hg
        | some jw =>
          obtain ⟨q, want⟩ := jw
          rw [hgd] at hg
          obtain ⟨t, b, h1, h2, h3⟩ := hg
          refine ⟨t, b, h1, ?_, h3⟩
          show lk (pl At L (fun k => l.getD k false) s0.tm) t = _
          rw [htm t (by unfold rtm gtm; rw [hgd]; simp only [h1]; simp)]
          exact h2
      · intro t v hv
        show lk (pl At L (fun k => l.getD k false) s0.tm) t = _
        rw [htm t (List.mem_append_left _ (List.mem_map.2 ⟨_, hv, rfl⟩))]
        exact (hok.does hsk).2.1 t v hv
      · intro n b hb
        show lk (pl As L (fun k => l.getD k false) s0.σ) n = _
        rw [hσ n (List.mem_map.2 ⟨_, hb, rfl⟩)]
        exact (hok.does hsk).2.2 n b hb
      · intro n b hb hm
        have h1 := hok.nw n b hb
        have hm : n ∈ pal L (fun k => l.getD k false) s0.al := hm
        have h1 : n ∉ pal L (fun i => decide (i < j)) s0.al := h1
        rw [pal_mem] at hm h1
        rcases hm with hm | ⟨f, hf, hDf, hm⟩
        · exact h1 (.inl hm)
        · rcases hag f hf with h | h
          · refine h.m n ?_ ?_
            · exact List.mem_map.2 ⟨_, List.mem_append_left _ hb, rfl⟩
            · obtain ⟨x, hx, rfl⟩ := List.mem_map.1 hm
              exact List.mem_map.2 ⟨_, List.mem_append_left _ hx, rfl⟩
          · exact h1 (.inr ⟨f, hf, by rw [← h]; exact hDf, hm⟩)
    have hgs := fun i => getD_set (i := i) hjl
    rw [← hei]
    refine wpOp_ent hsat (by rw [hei]; rw [← hei]; exact heo) hokD fun ρ' a' w' h' => ?_
    rw [hei]
    refine ih _ ρ' a' w' (by rw [Array.size_setIfInBounds]; exact hl) (by have := left_set hjl hDj; omega) ?_ ?_
    · intro k i hi hk hb
      rw [hgs] at hk ⊢
      by_cases hij : i = j
      · rw [if_pos hij]
      · rw [if_neg hij]
        by_cases hkj : k = j
        · subst hkj; exact hpj i hi hb
        · rw [if_neg hkj] at hk; exact hcl k i hi hk hb
    · refine h'.le (Eqv.le ⟨fun t => ?_, fun n => ?_, fun n => ?_, rfl⟩)
      · rw [app_tm]
        refine pl_more hI hjL hDj (by simp only [hgs]; simp) (fun i hi => by simp only [hgs]; rw [if_neg hi]) fun f hf hlt hDf hne => ?_
        rcases hag f hf with h | h
        · refine lkAt_none fun hd => ?_
          cases he : lk (At e) t with
          | none => exact hne he
          | some v => exact h.b t (lkAt_some he) hd
        · rw [hDf, decide_eq_false (by omega)] at h; cases h
      · rw [app_σ]
        refine pl_more hI hjL hDj (by simp only [hgs]; simp) (fun i hi => by simp only [hgs]; rw [if_neg hi]) fun f hf hlt hDf hne => ?_
        rcases hag f hf with h | h
        · refine lkAs_none fun hd => ?_
          cases he : lk (As e) n with
          | none => exact hne he
          | some v => exact h.m n (lkAs_some he) hd
        · rw [hDf, decide_eq_false (by omega)] at h; cases h
      · show n ∈ e.p.nw.map (·.1) ++ pal L (fun k => l.getD k false) s0.al ↔ n ∈ pal L (fun k => (l.setIfInBounds j true).getD k false) s0.al
        rw [List.mem_append, pal_mem, pal_mem]
        constructor
        · rintro (h | h | ⟨f, hf, h1, h2⟩)
          · exact .inr ⟨e, heL, by rw [hgs, if_pos hei], h⟩
          · exact .inl h
          · exact .inr ⟨f, hf, by rw [hgs]; split <;> first | rfl | exact h1, h2⟩
        · rintro (h | ⟨f, hf, h1, h2⟩)
          · exact .inr (.inl h)
          · rw [hgs] at h1
            by_cases hfj : f.i = j
            · obtain ⟨q, hq, hqi⟩ := hI.mem hf
              have : q = j := by omega
              subst this
              rw [hjL] at hq; cases hq
              exact .inl h2
            · rw [if_neg hfj] at h1
              exact .inr (.inr ⟨f, hf, h1, h2⟩)
theorem Sat.drawn {c : Cx} {ρ : (Nat → Pl)} {s : St} {a : Act} {w : World} (h : Sat c ρ s a w) : Sat c ρ s a { w with drawn := w.drawn + 1 } := by
  have hb : ∀ n b, BoxOK c.B ρ w n b → BoxOK c.B ρ { w with drawn := w.drawn + 1 } n b := fun n b hb => by
    cases b <;> exact hb
  exact ⟨h.df, h.nt, ⟨h.bl.os, h.bl.tape, h.bl.output, h.bl.size, h.bl.block⟩, h.hB, h.fx, h.al, h.tm, fun n b hn => ⟨hb n b (h.bx n b hn).1, (h.bx n b hn).2⟩, h.ap⟩
theorem wp_ents {P : Program} {ops : Array Oper} {c : Cx} {Q : Exit → Act → World → Prop} {L : List Ent} {s : St} {ρ : (Nat → Pl)} {a : Act} {w : World} {id : Nat} {draw : Bool} (hm : P.follows .mixedOrders = true) (h : Sat c ρ s a w) (hs : Seq P c.B ops L s) (hi : L.map (·.i) = List.range ops.size)
    (hc : draw = true → chk ops L = true) (hQ : ∀ ρ a w, Sat c ρ (fin L s) a w → Q .normal a w) : (Code.region id ops draw).wp P Q a w := by
  cases draw with
  | false => exact wp_region (by rw [← hi]; exact wpOps_seq h hs hQ)
  | true =>
    refine wp_region_any hm (wpAny_ents hs (hc rfl) hQ ops.size _ ρ a _ (by simp) (by
      unfold left
      have := List.countP_le_length (p := fun b => !b) (l := (Array.replicate ops.size false).toList)
      simpa using this) (fun j i _ hj => ?_) ?_)
    · rw [Array.getD_eq_getD_getElem?, Array.getElem?_replicate] at hj
      split at hj <;> simp at hj
    · have : (fun k => (Array.replicate ops.size false).getD k false) = fun _ => false := by
        funext k
        rw [Array.getD_eq_getD_getElem?, Array.getElem?_replicate]
        split <;> rfl
      rw [this, pt_none]
      exact h.drawn
end En
end Go.Proofs.YtbageimconenlaaGreat
namespace Go.Proofs.YtbageimconenlaaGreat
open Go.RowKit
set_option linter.unusedVariables false
namespace En
section
variable {P : Program} {B : Nat}
theorem no_mem {q : Prop} {n : Nat} {b : Box} (h : (n, b) ∈ ([] : List (Nat × Box))) : q := absurd h List.not_mem_nil
theorem Eff.same (ρ : (Nat → Pl)) (w : World) (v : Value) : Eff B ρ w ⟨v, [], []⟩ ρ w :=
  ⟨rfl, rfl, rfl, Nat.le_refl _, fun _ _ _ => rfl, fun _ _ => rfl, fun n b hb => no_mem hb, fun n b hb => no_mem hb, fun n b hb => no_mem hb, fun n b m b' hb => no_mem hb⟩
def upd (ρ : (Nat → Pl)) (n : Nat) (p : Pl) : (Nat → Pl) := fun m => bif Nat.beq m n then p else ρ m
theorem upd_same (ρ : (Nat → Pl)) (n : Nat) (p : Pl) : upd ρ n p n = p := by simp [upd]
theorem upd_other (ρ : (Nat → Pl)) {n m : Nat} (p : Pl) (h : m ≠ n) : upd ρ n p m = ρ m := by
  unfold upd
  rw [show Nat.beq m n = false from by cases hb : Nat.beq m n with | false => rfl | true => exact absurd (Nat.eq_of_beq_eq_true hb) h]; rfl
theorem upd_agr (ρ : (Nat → Pl)) {n : Nat} {al : List Nat} (p : Pl) (h : n ∉ al) : agr al (upd ρ n p) ρ := fun m hm => upd_other ρ p (by rintro rfl; exact h hm)
theorem Eff.new (ρ : (Nat → Pl)) (w : World) (hB : B ≤ w.heap.size) (v : Value) (n : Nat) (t : TypeId) (C : List Value) (cap : Nat) (b : Box) (hb : BoxOK B (upd ρ n (pl4 w.heap.size 0 cap false)) (w.alloc (.cells (rL (upd ρ n (pl4 w.heap.size 0 cap false)) C).toArray t)) n b) :
    Eff B ρ w ⟨v, [], [(n, b)]⟩ (upd ρ n (pl4 w.heap.size 0 cap false)) (w.alloc (.cells (rL (upd ρ n (pl4 w.heap.size 0 cap false)) C).toArray t)) := by
  refine ⟨rfl, rfl, rfl, by simp, fun g hg _ => Below.heap_alloc w _ g hg, fun m hm => upd_other ρ _ (by rintro rfl; exact hm _ List.mem_cons_self), fun n b hb => no_mem hb, ?_, ?_, ?_⟩
  · intro m b' hm
    simp at hm
    obtain ⟨rfl, rfl⟩ := hm
    exact hb
  · intro m b' hm g hg
    simp at hm
    obtain ⟨rfl, rfl⟩ := hm
    rw [upd_same] at hg
    left
    cases b' with
    | row t C => rw [← show w.heap.size = g from hg]; exact Nat.le_refl _
    | view k C => rw [← show w.heap.size = g from hg.2]; exact Nat.le_refl _
    | vec e k C => rw [← show w.heap.size = g from hg.2]; exact Nat.le_refl _
    | gone => exact hg.elim
    | deep F => exact (show False from hg).elim
  · intro m b' m2 b2 hm hm2 hne
    simp at hm hm2
    exact absurd (hm.1.trans hm2.1.symm) hne
theorem boxrow_new (ρ : (Nat → Pl)) (w : World) (hB : B ≤ w.heap.size) (n : Nat) (t : TypeId) (C : List Value) : BoxOK B (upd ρ n (pl4 w.heap.size 0 0 false)) (w.alloc (.cells (rL (upd ρ n (pl4 w.heap.size 0 0 false)) C).toArray t)) n (.row t C) := by
  unfold BoxOK
  rw [upd_same]
  exact ⟨hB, rfl, rfl, Blk.new w t _⟩
def pureRun (P : Program) {α : Type} : Sem α → Option α
  | .pure a => some a
  | .program k => pureRun P (k P)
  | .mark _ k => pureRun P k
  | _ => none
theorem pureRun_run {α : Type} : ∀ {s : Sem α} {a : α}, pureRun P s = some a → ∀ w, s.run P w = .ok a w
  | .pure x, a, h, w => by cases h; rfl
  | .program k, a, h, w => pureRun_run (s := k P) h w
  | .mark m k, a, h, w => pureRun_run (s := k) h w
  | .load _ _ _, a, h, w => by cases h
  | .store _ _ _ _, a, h, w => by cases h
  | .new _ _, a, h, w => by cases h
  | .shape _ _, a, h, w => by cases h
  | .freeze _ _ _, a, h, w => by cases h
  | .frozen _ _, a, h, w => by cases h
  | .getObj _ _, a, h, w => by cases h
  | .setObj _ _ _, a, h, w => by cases h
  | .choose _ _, a, h, w => by cases h
  | .sys _ _, a, h, w => by cases h
  | .halt _, a, h, w => by cases h
def ev (s : St) : Operand → Option Value
  | .tmp t => lk s.tm t
  | .const v => bif flatV v then some v else none
  | .func f => some (.func (.func f) #[] #[])
  | .global _ => none
def rq (s : St) : List Operand → List (Nat × Value)
  | [] => []
  | .tmp t :: r => match lk s.tm t with | some v => (t, v) :: rq s r | none => rq s r
  | _ :: r => rq s r
def rqK {β : Type} (tm : List (Nat × Value)) : List Operand → (List (Nat × Value) → β) → β
  | [], k => k []
  | .tmp t :: r, k => match lk tm t with | some v => rqK tm r fun l => k ((t, v) :: l) | none => rqK tm r k
  | .const _ :: r, k => rqK tm r k
  | .global _ :: r, k => rqK tm r k
  | .func _ :: r, k => rqK tm r k
theorem rqK_eq {β : Type} {s : St} : ∀ (l : List Operand) (k : List (Nat × Value) → β), rqK s.tm l k = k (rq s l)
  | [], k => rfl
  | .tmp t :: r, k => by
    simp only [rqK, rq]
    cases lk s.tm t with
    | some v => exact rqK_eq r _
    | none => exact rqK_eq r k
  | .const _ :: r, k => rqK_eq r k
  | .global _ :: r, k => rqK_eq r k
  | .func _ :: r, k => rqK_eq r k
theorem rq_mem {s : St} {t : Nat} {v : Value} : ∀ {l : List Operand}, .tmp t ∈ l → lk s.tm t = some v → (t, v) ∈ rq s l
  | x :: r, h, hv => by
    rcases List.mem_cons.1 h with h | h
    · subst h
      simp only [rq, hv]
      exact List.mem_cons_self
    · have := rq_mem h hv
      cases x <;> simp only [rq] <;> try exact this
      split
      · exact List.mem_cons_of_mem _ this
      · exact this
theorem rq_in {s : St} : ∀ {l : List Operand} {t : Nat} {v : Value}, (t, v) ∈ rq s l → lk s.tm t = some v
  | x :: r, t, v, h => by
    cases x with
    | tmp u =>
      simp only [rq] at h
      split at h
      · rename_i y hy
        rcases List.mem_cons.1 h with h | h
        · cases h; exact hy
        · exact rq_in h
      · exact rq_in h
    | const c => exact rq_in (l := r) h
    | global g => exact rq_in (l := r) h
    | func f => exact rq_in (l := r) h
theorem ev_eval {s : St} {l : List Operand} {σ : List (Nat × Box)} {ρ : (Nat → Pl)} {a : Act} {w : World} (h : Met B ρ ⟨rq s l, σ⟩ a w) {x : Operand} {v : Value} (hx : x ∈ l) (hv : ev s x = some v) : a.eval x = rV ρ v := by
  cases x with
  | tmp t =>
    have := h.tm t v (rq_mem hx hv)
    show a.tmps.getD t undef = _
    rw [Array.getD_eq_getD_getElem?, this]; rfl
  | const c =>
    have hv : (bif flatV c then some c else none) = some v := hv
    cases hf : flatV c with
    | false => rw [hf] at hv; cases hv
    | true => rw [hf] at hv; cases hv; exact (rV_flat ρ hf).symm
  | global g => cases hv
  | func f => cases hv; rfl
theorem ev_nb {s : St} {l : List Operand} {σ : List (Nat × Box)} {al : List Nat} (h : RNB al ⟨rq s l, σ⟩) {x : Operand} {v : Value} (hx : x ∈ l) (hv : ev s x = some v) : NB al v := by
  cases x with
  | tmp t => exact h.tm t v (rq_mem hx hv)
  | const c =>
    have hv : (bif flatV c then some c else none) = some v := hv
    cases hf : flatV c with
    | false => rw [hf] at hv; cases hv
    | true => rw [hf] at hv; cases hv; exact NB.flat hf
  | global g => cases hv
  | func f => cases hv; exact NB.flat (by rfl)
theorem PlanNB.val {al : List Nat} {v : Value} (h : NB al v) : PlanNB al ⟨v, [], []⟩ := ⟨h, fun n b hb => no_mem hb, fun n b hb => no_mem hb⟩
theorem wp_value {o : Oper} {a : Act} {w w' : World} {v : Value} {K : Act → World → Prop} {Q : Exit → Act → World → Prop} (h : (execOp a.eval o).run P w = .ok (.value v) w') (hK : K (a.put o.dst v) w') : o.wp P a w K Q := by
  unfold Oper.wp; rw [h]; exact hK
theorem wp_skip {o : Oper} {a : Act} {w w' : World} {K : Act → World → Prop} {Q : Exit → Act → World → Prop} (h : (execOp a.eval o).run P w = .ok .skip w') (hK : K (a.put o.dst undef) w') : o.wp P a w K Q := by
  unfold Oper.wp; rw [h]; exact hK
theorem Does.value {o : Oper} {R : Req} {v : Value} (hn : ∀ al, RNB al R → NB al v) (h : ∀ ρ a w, Met B ρ R a w → (execOp a.eval o).run P w = .ok (.value (rV ρ v)) w) : Does P B o R ⟨v, [], []⟩ :=
  .of (fun al hr => .val (hn al hr)) fun ρ a w al hm _ _ K Q hK => .inl (wp_value (h ρ a w hm) (hK ρ w (Eff.same ρ w v)))
def frcV {β : Type} (v : Value) (k : Value → β) : β :=
  match v with
  | .bool b => k (.bool b)
  | .int i n => k (.int i n)
  | .float i b => k (.float i b)
  | .complex i a b => k (.complex i a b)
  | .string x => k (.string x)
  | .pointer a => k (.pointer a)
  | .slice a n c => k (.slice a n c)
  | .map r => k (.map r)
  | .chan r => k (.chan r)
  | .func f x c => k (.func f x c)
  | .nilFunc => k .nilFunc
  | .iface t v => k (.iface t v)
  | .nilIface => k .nilIface
  | .agg cs => k (.agg cs)
  | .tuple vs => k (.tuple vs)
theorem frcV_eq {β : Type} (v : Value) (k : Value → β) : frcV v k = k v := by cases v <;> rfl
def allFlat (s : St) : List Operand → Bool
  | [] => true
  | x :: r => match ev s x with | some v => flatV v && allFlat s r | none => false
theorem allFlat_spec {s : St} : ∀ {l : List Operand}, allFlat s l = true → ∀ x ∈ l, ∃ v, ev s x = some v ∧ flatV v = true
  | y :: r, h, x, hx => by
    simp only [allFlat] at h
    split at h
    · rename_i v hv
      simp only [Bool.and_eq_true] at h
      rcases List.mem_cons.1 hx with e | e
      · subst e; exact ⟨v, hv, h.1⟩
      · exact allFlat_spec h.2 x e
    · cases h
def noSel : Op → Bool
  | .select _ _ => false
  | _ => true
def aflat (P : Program) (s : St) (o : Oper) : Option (Req × Plan) :=
  bif noSel o.op && allFlat s o.op.operands.toList then
    match pureRun P (execOp (fun x => (ev s x).getD undef) o) with
    | some (.value v) => bif flatV v then rqK s.tm o.op.operands.toList fun l => frcV v fun v' => some (⟨l, []⟩, ⟨v', [], []⟩) else none
    | _ => none
  else none
theorem aflat_does {s : St} {o : Oper} {R : Req} {p : Plan} (h : aflat P s o = some (R, p)) : Does P B o R p ∧ R = ⟨rq s o.op.operands.toList, []⟩ ∧ p.up = [] ∧ p.nw = [] := by
  unfold aflat at h
  cases hc : (noSel o.op && allFlat s o.op.operands.toList) with
  | false => rw [hc] at h; cases h
  | true =>
    rw [hc, cond_true] at h
    simp only [Bool.and_eq_true] at hc
    split at h
    · rename_i v hv
      cases hf : flatV v with
      | false => rw [hf] at h; cases h
      | true =>
        rw [hf, cond_true, rqK_eq, frcV_eq] at h; cases h
        refine ⟨Does.value (fun al _ => NB.flat hf) fun ρ a w hm => ?_, rfl, rfl, rfl⟩
        rw [rV_flat ρ hf]
        have he : execOp a.eval o = execOp (fun x => (ev s x).getD undef) o := execOp_congr o (fun cs b e => by rw [e] at hc; simp [noSel] at hc) fun x hx => by
          obtain ⟨u, hu, hfu⟩ := allFlat_spec hc.2 x (by simpa using hx)
          rw [ev_eval hm (by simpa using hx) hu, hu, rV_flat ρ hfu]; rfl
        rw [he]
        exact pureRun_run hv w
    · cases h
def amove (s : St) (x : Operand) : Option (Req × Plan) :=
  match ev s x with | some v => rqK s.tm [x] fun l => some (⟨l, []⟩, ⟨v, [], []⟩) | none => none
theorem amove_does {s : St} {o : Oper} {x : Operand} {R : Req} {p : Plan} (ho : ∀ a : Act, execOp a.eval o = pure (.value (a.eval x))) (h : amove s x = some (R, p)) : Does P B o R p ∧ R = ⟨rq s [x], []⟩ ∧ p.up = [] ∧ p.nw = [] := by
  unfold amove at h
  split at h
  · rename_i v hv
    rw [rqK_eq] at h
    cases h
    refine ⟨Does.value (fun al hr => ev_nb hr List.mem_cons_self hv) fun ρ a w hm => ?_, rfl, rfl, rfl⟩
    rw [ho, ev_eval hm List.mem_cons_self hv]; rfl
  · cases h
def anil (s : St) (x : Operand) : Option (Req × Plan) :=
  match ev s x with | some (.pointer (some ad)) => rqK s.tm [x] fun l => some (⟨l, []⟩, ⟨.pointer (some ad), [], []⟩) | _ => none
theorem anil_does {s : St} {o : Oper} {x : Operand} {R : Req} {p : Plan} (ho : o.op = .nilCheck x) (h : anil s x = some (R, p)) : Does P B o R p ∧ R = ⟨rq s [x], []⟩ ∧ p.up = [] ∧ p.nw = [] := by
  unfold anil at h
  split at h
  · rename_i ad hv
    rw [rqK_eq] at h
    cases h
    refine ⟨Does.value (fun al hr => ev_nb hr List.mem_cons_self hv) fun ρ a w hm => ?_, rfl, rfl, rfl⟩
    unfold execOp
    simp only [ho, ev_eval hm List.mem_cons_self hv]
    rfl
  · cases h
def aext (s : St) (x : Operand) (i : Nat) : Option (Req × Plan) :=
  match ev s x with
  | some (.tuple vs) => match vs.toList[i]? with | some v => bif (match v with | .tuple _ => false | _ => true) then rqK s.tm [x] fun l => some (⟨l, []⟩, ⟨v, [], []⟩) else none | none => none
  | _ => none
theorem rV_r1 (ρ : (Nat → Pl)) {v : Value} (h : (match v with | .tuple _ => false | _ => true) = true) : rV ρ v = r1 ρ v := by
  cases v <;> first | rfl | cases h
theorem mapA_at (f : Value → Value) (a : Array Value) (i : Nat) : (mapA f a)[i]? = (a.toList[i]?).map f := by
  unfold mapA
  rw [List.getElem?_toArray, List.getElem?_map]
theorem aext_does {s : St} {o : Oper} {x : Operand} {i : Nat} {R : Req} {p : Plan} (ho : o.op = .extract x i) (h : aext s x i = some (R, p)) : Does P B o R p ∧ R = ⟨rq s [x], []⟩ ∧ p.up = [] ∧ p.nw = [] := by
  unfold aext at h
  split at h
  · rename_i vs hv
    split at h
    · rename_i v hi
      cases hc : (match v with | .tuple _ => false | _ => true) with
      | false => rw [hc] at h; cases h
      | true =>
        rw [hc, cond_true, rqK_eq] at h; cases h
        refine ⟨Does.value (fun al hr ρ ρ' ha => ?_) fun ρ a w hm => ?_, rfl, rfl, rfl⟩
        · have h1 := ev_nb hr List.mem_cons_self hv ρ ρ' ha
          have h2 : mapA (r1 ρ) vs = mapA (r1 ρ') vs := by
            have : Value.tuple (mapA (r1 ρ) vs) = Value.tuple (mapA (r1 ρ') vs) := h1
            injection this
          have h3 := congrArg (fun a : Array Value => a[i]?) h2
          simp only [mapA_at, hi, Option.map_some] at h3
          injection h3 with h3
          rw [rV_r1 ρ hc, rV_r1 ρ' hc, h3]
        · unfold execOp
          simp only [ho, ev_eval hm List.mem_cons_self hv]
          have : (mapA (r1 ρ) vs)[i]? = some (r1 ρ v) := by rw [mapA_at, hi]; rfl
          simp only [rV, Instr.extract, this]
          rw [← rV_r1 ρ hc]; rfl
    · cases h
  · cases h
end
end En
end Go.Proofs.YtbageimconenlaaGreat
