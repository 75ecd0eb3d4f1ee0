/- The engine: what an operation does, and that the state follows it. No program in sight. -/
import Derived.Test.YtbageimconenlaaGreatE0
namespace Go.Proofs.YtbageimconenlaaGreat
open Go.RowKit
set_option linter.unusedVariables false
namespace En
theorem lk_some {α : Type} {l : List (Nat × α)} {n : Nat} {v : α} (h : (n, v) ∈ l) : ∃ u, lk l n = some u := by
  cases hl : lk l n with
  | some u => exact ⟨u, rfl⟩
  | none => exact absurd h (lk_none hl v)
theorem Sat.app {c : Cx} {ρ ρ' : (Nat → Pl)} {s : St} {a : Act} {w w' : World} {p : Plan} {d : Option Tmp} (h : Sat c ρ s a w) (hp : PlanNB s.al p) (hf : Fits s ρ p) (he : Eff c.B ρ w p ρ' w') (hd : ∀ t, d = some t → t < s.nt) :
    Sat c ρ' (s.app d p) (a.put d (rV ρ' p.v)) w' := by
  have hnw : ∀ n ∈ s.al, ρ' n = ρ n := fun n hn => he.env n fun b hb => hf.nw n b hb hn
  have hag : agr s.al ρ' ρ := hnw
  have hsub : ∀ n ∈ s.al, n ∈ p.nw.map (·.1) ++ s.al := fun n hn => List.mem_append_right _ hn
  have hupb : ∀ n b, (n, b) ∈ p.up → n ∈ s.al := fun n b hb => by
    obtain ⟨b0, h0, _⟩ := hf.up n b hb
    exact (h.bx n b0 h0).2.1
  have hupk : ∀ n b, (n, b) ∈ p.up → ∀ m b', lk s.σ m = some b' → n ≠ m → (ρ n).nil = false → ¬ b'.hit (ρ m) (ρ n).b := fun n b hb m b' hm hne hnil => by
    obtain ⟨b0, h0, _, h2, _⟩ := hf.up n b hb
    exact h.ap n m b0 b' h0 hm hne (h2 hnil)
  have cls : ∀ n b, lk (s.app d p).σ n = some b → (n, b) ∈ p.nw ∨ ((n, b) ∈ p.up) ∨ (lk s.σ n = some b ∧ ∀ b', (n, b') ∉ p.up) := fun n b hb => by
    have hb : lk (p.nw ++ (p.up ++ s.σ)) n = some b := hb
    rw [lk_append] at hb
    cases h1 : lk p.nw n with
    | some u => rw [h1] at hb; cases hb; exact .inl (lk_mem h1)
    | none =>
      rw [h1, Option.none_or, lk_append] at hb
      cases h2 : lk p.up n with
      | some u => rw [h2] at hb; cases hb; exact .inr (.inl (lk_mem h2))
      | none => rw [h2, Option.none_or] at hb; exact .inr (.inr ⟨hb, lk_none h2⟩)
  have hold : ∀ n b, lk s.σ n = some b → (∀ b', (n, b') ∉ p.up) → BoxOK c.B ρ' w' n b := fun n b hb hno => by
    obtain ⟨h1, h2, h3⟩ := h.bx n b hb
    refine h1.keep (hnw n h2) (fun v hv => h3 v hv ρ' ρ hag) he.size fun g hs => he.keep _ (h1.lt hs) fun m b' hm hnil e => ?_
    have hne : m ≠ n := by rintro rfl; exact hno b' hm
    rw [e] at hs
    exact hupk m b' hm n b hb hne hnil hs
  refine ⟨?_, ?_, ?_, Nat.le_trans h.hB he.size, ?_, ?_, ?_, ?_, ?_⟩
  · cases d <;> exact h.df
  · cases d with
    | none => exact h.nt
    | some t => show (a.tmps.setIfInBounds t _).size = s.nt; rw [Array.size_setIfInBounds]; exact h.nt
  · refine h.bl.trans ⟨he.os, he.tape, he.output, he.size, fun k hk => he.keep k (Nat.lt_of_lt_of_le hk h.hB) fun n b hb hnil e => ?_⟩
    obtain ⟨b0, h0, _, h2, _⟩ := hf.up n b hb
    have := (h.bx n b0 h0).1.own (h2 hnil)
    omega
  · exact fun n hn => (hnw n (h.al n hn)).trans (h.fx n hn)
  · exact fun n hn => hsub n (h.al n hn)
  · intro t v hv
    have old : ∀ v, lk s.tm t = some v → a.tmps[t]? = some (rV ρ' v) ∧ NB (p.nw.map (·.1) ++ s.al) v := fun v hv => by
      obtain ⟨h1, h2⟩ := h.tm t v hv
      exact ⟨by rw [h1, h2 ρ' ρ hag], h2.mono hsub⟩
    cases d with
    | none => exact old v hv
    | some x =>
      have hx : x < a.tmps.size := by rw [h.nt]; exact hd x rfl
      have hv : lk ((x, p.v) :: s.tm) t = some v := hv
      rw [lk_cons] at hv
      rw [put_at hx]
      split at hv
      · rename_i e
        cases hv
        exact ⟨by rw [if_pos e], hp.v⟩
      · rename_i e
        rw [if_neg e]
        exact old v hv
  · intro n b hb
    rcases cls n b hb with hb | hb | ⟨hb, hno⟩
    · exact ⟨he.nw n b hb, List.mem_append_left _ (mem_nw hb), hp.nw n b hb⟩
    · exact ⟨he.up n b hb, hsub n (hupb n b hb), hp.up n b hb⟩
    · obtain ⟨h1, h2, h3⟩ := h.bx n b hb
      exact ⟨hold n b hb hno, hsub n h2, fun v hv => (h3 v hv).mono hsub⟩
  · intro n m b b' hn hm hne hw hs
    rcases cls n b hn with hn | hn | ⟨hn, hnn⟩
    · rcases cls m b' hm with hm | hm | ⟨hm, hmn⟩
      · exact he.nwd n b m b' hn hm hne hw hs
      · rw [hf.dist (by rintro e; rw [e] at hn; cases hn) m b' hm] at hs
        exact hs.elim
      · have hml : m ∈ s.al := (h.bx m b' hm).2.1
        rw [hnw m hml] at hs
        have hlt := (h.bx m b' hm).1.lt hs
        rcases he.nws n b hn _ (Box.wr_hit hw) with h1 | ⟨k, bk, hk, hnil, h1⟩
        · omega
        · rw [h1] at hs
          exact hupk k bk hk m b' hm (by rintro rfl; exact hmn bk hk) hnil hs
    · have hnl := hupb n b hn
      rw [hnw n hnl] at hw hs
      rcases cls m b' hm with hm | hm | ⟨hm, hmn⟩
      · rw [hf.dist (by rintro e; rw [e] at hm; cases hm) n b hn] at hw
        exact hw.elim
      · obtain ⟨b0, h0, h1, _, _⟩ := hf.up n b hn
        obtain ⟨b0', h0', _, _, h3⟩ := hf.up m b' hm
        rw [hnw m (hupb m b' hm)] at hs
        exact h.ap n m b0 b0' h0 h0' hne (h1 hw) (h3 _ hs)
      · obtain ⟨b0, h0, h1, _, _⟩ := hf.up n b hn
        rw [hnw m (h.bx m b' hm).2.1] at hs
        exact h.ap n m b0 b' h0 hm hne (h1 hw) hs
    · have hnl : n ∈ s.al := (h.bx n b hn).2.1
      rw [hnw n hnl] at hw hs
      rcases cls m b' hm with hm | hm | ⟨hm, hmn⟩
      · have hlt := (h.bx n b hn).1.lt (Box.wr_hit hw)
        rcases he.nws m b' hm _ hs with h1 | ⟨k, bk, hk, hnil, h1⟩
        · omega
        · have h2 := Box.wr_hit hw
          rw [h1] at h2
          exact hupk k bk hk n b hn (by rintro rfl; exact hnn bk hk) hnil h2
      · obtain ⟨b0', h0', _, _, h3⟩ := hf.up m b' hm
        rw [hnw m (hupb m b' hm)] at hs
        exact h.ap n m b b0' hn h0' hne hw (h3 _ hs)
      · rw [hnw m (h.bx m b' hm).2.1] at hs
        exact h.ap n m b b' hn hm hne hw hs
/-- a state that says less -/
structure Le (s' s : St) : Prop where
  tm : ∀ t v, lk s'.tm t = some v → lk s.tm t = some v
  σ : ∀ n b, lk s'.σ n = some b → lk s.σ n = some b
  al : ∀ n, n ∈ s.al ↔ n ∈ s'.al
  nt : s'.nt = s.nt
theorem Sat.le {c : Cx} {ρ : (Nat → Pl)} {s s' : St} {a : Act} {w : World} (h : Sat c ρ s a w) (hl : Le s' s) : Sat c ρ s' a w := by
  have hsub : ∀ n ∈ s.al, n ∈ s'.al := fun n hn => (hl.al n).1 hn
  exact ⟨h.df, h.nt.trans hl.nt.symm, h.bl, h.hB, h.fx, fun n hn => hsub n (h.al n hn),
    fun t v hv => ⟨(h.tm t v (hl.tm t v hv)).1, (h.tm t v (hl.tm t v hv)).2.mono hsub⟩,
    fun n b hb => ⟨(h.bx n b (hl.σ n b hb)).1, hsub n (h.bx n b (hl.σ n b hb)).2.1, fun v hv => ((h.bx n b (hl.σ n b hb)).2.2 v hv).mono hsub⟩,
    fun n m b b' hn hm => h.ap n m b b' (hl.σ n b hn) (hl.σ m b' hm)⟩
/-- two states that say the same -/
structure Eqv (s' s : St) : Prop where
  tm : ∀ t, lk s'.tm t = lk s.tm t
  σ : ∀ n, lk s'.σ n = lk s.σ n
  al : ∀ n, n ∈ s.al ↔ n ∈ s'.al
  nt : s'.nt = s.nt
theorem Eqv.le {s' s : St} (h : Eqv s' s) : Le s' s := ⟨fun t v hv => by rw [← h.tm]; exact hv, fun n b hb => by rw [← h.σ]; exact hb, h.al, h.nt⟩
theorem Eqv.refl (s : St) : Eqv s s := ⟨fun _ => rfl, fun _ => rfl, fun _ => Iff.rfl, rfl⟩
theorem Eqv.trans {a b c : St} (h : Eqv a b) (k : Eqv b c) : Eqv a c := ⟨fun t => (h.tm t).trans (k.tm t), fun t => (h.σ t).trans (k.σ t), fun n => (k.al n).trans (h.al n), h.nt.trans k.nt⟩
theorem Eqv.symm {a b : St} (h : Eqv a b) : Eqv b a := ⟨fun t => (h.tm t).symm, fun t => (h.σ t).symm, fun n => (h.al n).symm, h.nt.symm⟩
/-- what an operation asks of the state -/
structure Req where
  tm : List (Nat × Value)
  σ : List (Nat × Box)
/-- what is asked holds in a world -/
structure Met (B : Nat) (ρ : (Nat → Pl)) (R : Req) (a : Act) (w : World) : Prop where
  df : a.defers = []
  tm : ∀ t v, (t, v) ∈ R.tm → a.tmps[t]? = some (rV ρ v)
  σ : ∀ n b, (n, b) ∈ R.σ → BoxOK B ρ w n b
  hB : B ≤ w.heap.size
  ap : ∀ n m b b', (n, b) ∈ R.σ → (m, b') ∈ R.σ → n ≠ m → b.wr (ρ n) → ¬ b'.hit (ρ m) (ρ n).b
/-- what is asked mentions the names al alone -/
structure RNB (al : List Nat) (R : Req) : Prop where
  tm : ∀ t v, (t, v) ∈ R.tm → NB al v
  σ : ∀ n b, (n, b) ∈ R.σ → n ∈ al ∧ ∀ v ∈ b.cells, NBc al v
/-- an operation that does as the plan says wherever what it asks is met -/
structure Does (P : Program) (B : Nat) (o : Oper) (R : Req) (p : Plan) : Prop where
  nb : ∀ al, RNB al R → PlanNB al p
  run : ∀ (ρ : (Nat → Pl)) (a : Act) (w : World) (al : List Nat), Met B ρ R a w → RNB al R → (∀ n b, (n, b) ∈ p.nw → n ∉ al) → ∀ (K : Act → World → Prop) (Q : Exit → Act → World → Prop),
    (∀ ρ' w', Eff B ρ w p ρ' w' → K (a.put o.dst (rV ρ' p.v)) w') → o.wp P a w K Q ∨ (o.asks P a w ∧ LetsOut Q)
/-- what is asked stands in the state -/
def In (R : Req) (s : St) : Prop := (∀ t v, (t, v) ∈ R.tm → lk s.tm t = some v) ∧ (∀ n b, (n, b) ∈ R.σ → lk s.σ n = some b)
theorem Sat.met {c : Cx} {ρ : (Nat → Pl)} {s : St} {a : Act} {w : World} {R : Req} (h : Sat c ρ s a w) (hi : In R s) : Met c.B ρ R a w :=
  ⟨h.df, fun t v hv => (h.tm t v (hi.1 t v hv)).1, fun n b hb => (h.bx n b (hi.2 n b hb)).1, h.hB, fun n m b b' hn hm => h.ap n m b b' (hi.2 n b hn) (hi.2 m b' hm)⟩
theorem Sat.rnb {c : Cx} {ρ : (Nat → Pl)} {s : St} {a : Act} {w : World} {R : Req} (h : Sat c ρ s a w) (hi : In R s) : RNB s.al R :=
  ⟨fun t v hv => (h.tm t v (hi.1 t v hv)).2, fun n b hb => (h.bx n b (hi.2 n b hb)).2⟩
theorem Sat.planNB {c : Cx} {ρ : (Nat → Pl)} {s : St} {a : Act} {w : World} {R : Req} {P : Program} {B : Nat} {o : Oper} {p : Plan} (h : Sat c ρ s a w) (hi : In R s) (hd : Does P B o R p) : PlanNB s.al p :=
  hd.nb s.al (h.rnb hi)
end En
end Go.Proofs.YtbageimconenlaaGreat
