/- The engine: a region's operations, in the order of the text and in any order that its edges allow. No program in sight. -/
import Derived.Test.YtbageimconenlaaGreatE1
namespace Go.Proofs.YtbageimconenlaaGreat
open Go.RowKit
set_option linter.unusedVariables false
namespace En
structure Ent where
  i : Nat
  o : Oper
  R : Req
  p : Plan
  sk : Bool
def nowt : Plan := ⟨undef, [], []⟩
def kindOK : Box → Box → Bool
  | .row _ _, .row _ _ => true
  | .row _ _, .gone => true
  | .vec _ _ _, .vec _ _ _ => true
  | .vec _ _ _, .gone => true
  | _, _ => false
def isGone : Box → Bool
  | .gone => true
  | _ => false
def gsk : Value → Bool → Bool
  | .bool b, want => b != want
  | _, _ => true
/-- an operation's guard, decided -/
def Gd (ops : Array Oper) (s : St) (o : Oper) (sk : Bool) : Prop :=
  match o.guard with
  | none => sk = false
  | some (j, want) => ∃ t v, (ops[j]?).bind (·.dst) = some t ∧ lk s.tm t = some v ∧ sk = gsk v want
/-- an entry that may be carried out in a state -/
structure Ok (P : Program) (B : Nat) (ops : Array Oper) (s : St) (e : Ent) : Prop where
  gd : Gd ops s e.o e.sk
  dst : ∀ t, e.o.dst = some t → t < s.nt
  skip : e.sk = true → e.p = nowt
  does : e.sk = false → Does P B e.o e.R e.p ∧ In e.R s
  up : ∀ n b, (n, b) ∈ e.p.up → ∃ b0, (n, b0) ∈ e.R.σ ∧ kindOK b0 b = true
  dist : e.p.nw = [] ∨ ∀ n b, (n, b) ∈ e.p.up → b = .gone
  nw : ∀ n b, (n, b) ∈ e.p.nw → n ∉ s.al
theorem kind_wr {b0 b : Box} {p : Pl} (h : kindOK b0 b = true) : (b.wr p → b0.wr p) ∧ ∀ g, b.hit p g → b0.hit p g := by
  cases b0 <;> cases b <;> simp_all [kindOK, Box.wr, Box.hit]
theorem kind_nil {b0 b : Box} {p : Pl} (h : kindOK b0 b = true) (hn : p.nil = false) : b0.wr p := by
  cases b0 <;> cases b <;> simp_all [kindOK, Box.wr]
theorem Ok.fits {P : Program} {B : Nat} {ops : Array Oper} {s : St} {e : Ent} (h : Ok P B ops s e) (hs : e.sk = false) (ρ : (Nat → Pl)) : Fits s ρ e.p := by
  refine ⟨fun n b hb => ?_, fun hn => h.dist.resolve_left hn, h.nw⟩
  obtain ⟨b0, h0, hk⟩ := h.up n b hb
  exact ⟨b0, (h.does hs).2.2 n b0 h0, (kind_wr hk).1, kind_nil hk, (kind_wr hk).2⟩
theorem rV_notbool (ρ : (Nat → Pl)) {v : Value} (h : ∀ b, v ≠ .bool b) : ∀ b, rV ρ v ≠ .bool b := by
  intro b e
  cases v with
  | pointer a => cases a <;> cases e
  | slice a n c => cases a <;> cases e
  | bool x => exact h x rfl
  | _ => cases e
theorem wanted_of {ops : Array Oper} {c : Cx} {ρ : (Nat → Pl)} {s : St} {a : Act} {w : World} {o : Oper} {sk : Bool} (h : Sat c ρ s a w) (hg : Gd ops s o sk) : Region.wanted o (yielded ops a.tmps) = !sk := by
  unfold Gd at hg
  unfold Region.wanted
  cases hgd : o.guard with
  | none => rw [hgd] at hg; simp only at hg ⊢; rw [hg]; rfl
  | some jw =>
    obtain ⟨j, want⟩ := jw
    rw [hgd] at hg
    obtain ⟨t, v, h1, h2, h3⟩ := hg
    have h4 := (h.tm t _ h2).1
    by_cases hb : ∃ b, v = .bool b
    · obtain ⟨b, rfl⟩ := hb
      have h5 : rV ρ (.bool b) = .bool b := rfl
      rw [h5] at h4
      have hy : yielded ops a.tmps j = some b := by
        unfold yielded
        rw [h1, Option.bind_some, h4]
      simp only [hy]
      subst h3
      cases b <;> cases want <;> rfl
    · have hnb : ∀ b, v ≠ .bool b := fun b e => hb ⟨b, e⟩
      have hy : yielded ops a.tmps j = none := by
        unfold yielded
        rw [h1, Option.bind_some, h4]
        split
        · rename_i b e
          injection e with e
          exact absurd e (rV_notbool ρ hnb b)
        · rfl
      simp only [hy]
      have hg : gsk v want = true := by
        unfold gsk
        split
        · exact absurd rfl (hnb _)
        · rfl
      rw [h3, hg]; rfl
theorem wpOp_ent {P : Program} {ops : Array Oper} {c : Cx} {ρ : (Nat → Pl)} {s : St} {a : Act} {w : World} {e : Ent} {Q : Exit → Act → World → Prop} {K : Act → World → Prop} (h : Sat c ρ s a w) (hi : ops[e.i]? = some e.o) (ho : Ok P c.B ops s e)
    (hK : ∀ ρ' a' w', Sat c ρ' (s.app e.o.dst e.p) a' w' → K a' w') : wpOp P ops Q e.i K a w := by
  unfold wpOp
  rw [hi]
  simp only []
  rw [wanted_of h ho.gd]
  cases hs : e.sk with
  | false =>
    rw [Bool.not_false, if_pos rfl]
    obtain ⟨hd, hin⟩ := ho.does hs
    exact hd.run ρ a w s.al (h.met hin) (h.rnb hin) ho.nw K Q fun ρ' w' he => hK ρ' _ _ (h.app (h.planNB hin hd) (ho.fits hs ρ) he ho.dst)
  | true =>
    rw [Bool.not_true, if_neg (by simp)]
    have hp := ho.skip hs
    have hno : ∀ (n : Nat) (b : Box), (n, b) ∈ ([] : List (Nat × Box)) → False := fun n b hb => by cases hb
    have hnb : PlanNB s.al nowt := ⟨NB.flat (by rfl), fun n b hb => (hno n b hb).elim, fun n b hb => (hno n b hb).elim⟩
    have hft : Fits s ρ nowt := ⟨fun n b hb => (hno n b hb).elim, fun hn => absurd rfl hn, fun n b hb => (hno n b hb).elim⟩
    have hef : Eff c.B ρ w nowt ρ w := ⟨rfl, rfl, rfl, Nat.le_refl _, fun _ _ _ => rfl, fun _ _ => rfl, fun n b hb => (hno n b hb).elim, fun n b hb => (hno n b hb).elim, fun n b hb => (hno n b hb).elim, fun n b m b' hb => (hno n b hb).elim⟩
    have := h.app hnb hft hef ho.dst
    refine hK ρ _ _ ?_
    rw [hp]
    exact this
/-- assignments of the entries that have been carried out, the last ones first -/
def pl {α : Type} (A : Ent → List (Nat × α)) : List Ent → (Nat → Bool) → List (Nat × α) → List (Nat × α)
  | [], _, l => l
  | e :: r, D, l => pl A r D (bif D e.i then A e ++ l else l)
theorem pl_agree {α : Type} {A : Ent → List (Nat × α)} {n : Nat} : ∀ {L : List Ent} {D D' : Nat → Bool} {l l' : List (Nat × α)}, (∀ f ∈ L, lk (A f) n = none ∨ D f.i = D' f.i) → lk l n = lk l' n → lk (pl A L D l) n = lk (pl A L D' l') n
  | [], D, D', l, l', _, h => h
  | e :: r, D, D', l, l', hc, h => by
    refine pl_agree (L := r) (fun f hf => hc f (List.mem_cons_of_mem _ hf)) ?_
    rcases hc e List.mem_cons_self with h1 | h1
    · cases D e.i <;> cases D' e.i <;> simp only [cond_true, cond_false] <;> (try rw [lk_append]) <;> (try rw [lk_append]) <;> (try rw [h1]) <;> simp [h]
    · rw [h1]
      cases D' e.i <;> simp only [cond_true, cond_false]
      · exact h
      · rw [lk_append, lk_append, h]
theorem pl_last {α : Type} {A : Ent → List (Nat × α)} {n : Nat} {v : α} {e : Ent} {D : Nat → Bool} : ∀ {L1 L2 : List Ent} {l : List (Nat × α)}, D e.i = true → lk (A e) n = some v → (∀ f ∈ L2, D f.i = true → lk (A f) n = none) → lk (pl A (L1 ++ e :: L2) D l) n = some v
  | f :: L1, L2, l, hD, he, hf => pl_last (L1 := L1) (L2 := L2) hD he hf
  | [], L2, l, hD, he, hf => by
    show lk (pl A L2 D (bif D e.i then A e ++ l else l)) n = some v
    rw [hD, cond_true]
    have : lk (pl A L2 D (A e ++ l)) n = lk (pl A L2 (fun _ => false) (A e ++ l)) n := pl_agree (fun f hf' => by
      cases hDf : D f.i with
      | false => exact .inr rfl
      | true => exact .inl (hf f hf' hDf)) rfl
    rw [this]
    have hnone : ∀ (L : List Ent) (l : List (Nat × α)), pl A L (fun _ => false) l = l := by
      intro L
      induction L with
      | nil => intro l; rfl
      | cons g r ih => intro l; exact ih l
    rw [hnone, lk_append, he]; rfl
def At (e : Ent) : List (Nat × Value) := match e.o.dst with | some t => [(t, e.p.v)] | none => []
def As (e : Ent) : List (Nat × Box) := e.p.nw ++ e.p.up
def pal : List Ent → (Nat → Bool) → List Nat → List Nat
  | [], _, l => l
  | e :: r, D, l => pal r D (bif D e.i then e.p.nw.map (·.1) ++ l else l)
/-- the state behind the entries D -/
def pt (L : List Ent) (D : Nat → Bool) (s : St) : St := { tm := pl At L D s.tm, σ := pl As L D s.σ, al := pal L D s.al, nt := s.nt }
theorem pal_mem {m : Nat} : ∀ {L : List Ent} {D : Nat → Bool} {l : List Nat}, m ∈ pal L D l ↔ m ∈ l ∨ ∃ f ∈ L, D f.i = true ∧ m ∈ f.p.nw.map (·.1)
  | [], D, l => by simp [pal]
  | e :: r, D, l => by
    show m ∈ pal r D (bif D e.i then e.p.nw.map (·.1) ++ l else l) ↔ _
    rw [pal_mem (L := r)]
    cases hD : D e.i with
    | false =>
      simp only [cond_false]
      constructor
      · rintro (h | ⟨f, hf, h⟩)
        · exact .inl h
        · exact .inr ⟨f, List.mem_cons_of_mem _ hf, h⟩
      · rintro (h | ⟨f, hf, h1, h2⟩)
        · exact .inl h
        · rcases List.mem_cons.1 hf with rfl | hf
          · rw [hD] at h1; cases h1
          · exact .inr ⟨f, hf, h1, h2⟩
    | true =>
      simp only [cond_true]
      constructor
      · rintro (h | ⟨f, hf, h⟩)
        · rcases List.mem_append.1 h with h | h
          · exact .inr ⟨e, List.mem_cons_self, hD, h⟩
          · exact .inl h
        · exact .inr ⟨f, List.mem_cons_of_mem _ hf, h⟩
      · rintro (h | ⟨f, hf, h1, h2⟩)
        · exact .inl (List.mem_append_right _ h)
        · rcases List.mem_cons.1 hf with rfl | hf
          · exact .inl (List.mem_append_left _ h2)
          · exact .inr ⟨f, hf, h1, h2⟩
/-- the entries carried out one behind the other -/
def Seq (P : Program) (B : Nat) (ops : Array Oper) : List Ent → St → Prop
  | [], _ => True
  | e :: r, s => ops[e.i]? = some e.o ∧ Ok P B ops s e ∧ Seq P B ops r (s.app e.o.dst e.p)
def fin : List Ent → St → St
  | [], s => s
  | e :: r, s => fin r (s.app e.o.dst e.p)
theorem wpOps_seq {P : Program} {ops : Array Oper} {c : Cx} {Q : Exit → Act → World → Prop} : ∀ {L : List Ent} {ρ : (Nat → Pl)} {s : St} {a : Act} {w : World}, Sat c ρ s a w → Seq P c.B ops L s →
    (∀ ρ' a' w', Sat c ρ' (fin L s) a' w' → Q .normal a' w') → wpOps P ops Q (L.map (·.i)) a w
  | [], ρ, s, a, w, h, _, hQ => hQ ρ a w h
  | e :: r, ρ, s, a, w, h, hs, hQ => by
    rw [List.map_cons, wpOps_cons]
    exact wpOp_ent h hs.1 hs.2.1 fun ρ' a' w' h' => wpOps_seq h' hs.2.2 hQ
theorem app_tm (s : St) (e : Ent) : (s.app e.o.dst e.p).tm = At e ++ s.tm := by
  unfold St.app St.put At
  cases e.o.dst <;> rfl
theorem app_σ (s : St) (e : Ent) : (s.app e.o.dst e.p).σ = As e ++ s.σ := by
  unfold St.app As
  simp
theorem pt_cons (e : Ent) (r : List Ent) (D : Nat → Bool) (s : St) : pt (e :: r) D s = pt r D (bif D e.i then s.app e.o.dst e.p else s) := by
  unfold pt
  cases hD : D e.i with
  | false => simp [pl, pal, hD]
  | true =>
    have h1 := app_tm s e
    have h2 := app_σ s e
    simp only [cond_true, pl, pal, hD, h1, h2]
    rfl
/-- indices from k on -/
def Idx : Nat → List Ent → Prop
  | _, [] => True
  | k, e :: r => e.i = k ∧ Idx (k + 1) r
theorem Idx.at_ : ∀ {L : List Ent} {k j : Nat} {e : Ent}, Idx k L → L[j]? = some e → e.i = k + j
  | [], k, j, e, _, h => by simp at h
  | f :: r, k, 0, e, hI, h => by simp at h; subst h; exact hI.1
  | f :: r, k, j + 1, e, hI, h => by
    have := hI.2.at_ (j := j) (by simpa using h)
    omega
theorem Idx.mem {L : List Ent} {k : Nat} {e : Ent} (hI : Idx k L) (h : e ∈ L) : ∃ j, L[j]? = some e ∧ e.i = k + j := by
  obtain ⟨j, hj⟩ := List.getElem?_of_mem h
  exact ⟨j, hj, hI.at_ hj⟩
/-- the state ahead of entry j is that behind the entries before it -/
theorem seq_at {P : Program} {B : Nat} {ops : Array Oper} : ∀ {L : List Ent} {k j : Nat} {s : St} {e : Ent}, Idx k L → Seq P B ops L s → L[j]? = some e → ops[e.i]? = some e.o ∧ Ok P B ops (pt L (fun i => decide (i < k + j)) s) e
  | [], k, j, s, e, _, _, h => by simp at h
  | f :: r, k, 0, s, e, hI, hs, h => by
    simp at h; subst h
    refine ⟨hs.1, ?_⟩
    have hnone : ∀ (L : List Ent) (q : Nat) (s : St), Idx q L → k ≤ q → pt L (fun i => decide (i < k + 0)) s = s := by
      intro L
      induction L with
      | nil => intro q s _ _; rfl
      | cons g r ih =>
        intro q s hg hq
        rw [pt_cons, show decide (g.i < k + 0) = false from by simp [hg.1]; omega, cond_false]
        exact ih (q + 1) s hg.2 (by omega)
    rw [hnone (f :: r) k s hI (Nat.le_refl _)]
    exact hs.2.1
  | f :: r, k, j + 1, s, e, hI, hs, h => by
    rw [pt_cons, show decide (f.i < k + (j + 1)) = true from by simp [hI.1], cond_true]
    have := seq_at (L := r) (k := k + 1) (j := j) (s := s.app f.o.dst f.p) (e := e) hI.2 hs.2.2 (by simpa using h)
    rw [show k + 1 + j = k + (j + 1) by omega] at this
    exact this
theorem pt_all : ∀ {L : List Ent} {D : Nat → Bool} {s : St}, (∀ f ∈ L, D f.i = true) → pt L D s = fin L s
  | [], D, s, _ => rfl
  | e :: r, D, s, h => by
    rw [pt_cons, h e List.mem_cons_self, cond_true]
    exact pt_all fun f hf => h f (List.mem_cons_of_mem _ hf)
theorem pt_none : ∀ {L : List Ent} {s : St}, pt L (fun _ => false) s = s
  | [], s => rfl
  | e :: r, s => by rw [pt_cons]; exact pt_none (L := r)
end En
end Go.Proofs.YtbageimconenlaaGreat
