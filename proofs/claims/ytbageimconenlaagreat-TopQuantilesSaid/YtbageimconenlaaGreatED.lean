/- The engine: names changed or dropped at the head of a loop. No program in sight. -/
import Derived.Test.YtbageimconenlaaGreatEB
namespace Go.Proofs.YtbageimconenlaaGreat
open Go.RowKit
set_option linter.unusedVariables false
namespace En
def mvC (f : Nat → Nat) : Value → Value
  | .pointer (some a) => .pointer (some ⟨f a.block, a.off, a.spot⟩)
  | .slice (some a) n c => .slice (some ⟨f a.block, a.off, a.spot⟩) n c
  | v => v
def mv1 (f : Nat → Nat) : Value → Value
  | .agg cs => .agg (mapA (mvC f) cs)
  | .func g x c => .func g x (mapA (mvC f) c)
  | v => mvC f v
def mvV (f : Nat → Nat) : Value → Value
  | .tuple vs => .tuple (mapA (mv1 f) vs)
  | v => mv1 f v
def mvB (f : Nat → Nat) : Box → Box
  | .row t C => .row t (C.map (mvC f))
  | .view k C => .view k (C.map (mvC f))
  | .vec e k C => .vec e k (C.map (mvC f))
  | b => b
def cmpE (ρ : (Nat → Pl)) (f : Nat → Nat) : (Nat → Pl) := fun n => ρ (f n)
theorem mvC_r (ρ : (Nat → Pl)) (f : Nat → Nat) (v : Value) : rC (cmpE ρ f) v = rC ρ (mvC f v) := by
  cases v with
  | pointer a => cases a <;> rfl
  | slice a n c => cases a <;> rfl
  | iface t u => cases u <;> rfl
  | _ => rfl
theorem mapA_mv {g g' f' : Value → Value} (h : ∀ v, g v = g' (f' v)) (a : Array Value) : mapA g a = mapA g' (mapA f' a) := by
  unfold mapA
  rw [List.map_map]
  congr 1
  exact List.map_congr_left fun v _ => h v
theorem mv1_r (ρ : (Nat → Pl)) (f : Nat → Nat) (v : Value) : r1 (cmpE ρ f) v = r1 ρ (mv1 f v) := by
  cases v with
  | agg cs => show Value.agg _ = Value.agg _; rw [mapA_mv (mvC_r ρ f)]
  | func g x c => show Value.func _ _ _ = Value.func _ _ _; rw [mapA_mv (mvC_r ρ f)]
  | pointer a => cases a <;> rfl
  | slice a n c => cases a <;> rfl
  | iface t u => cases u <;> rfl
  | _ => rfl
theorem mvV_r (ρ : (Nat → Pl)) (f : Nat → Nat) (v : Value) : rV (cmpE ρ f) v = rV ρ (mvV f v) := by
  cases v with
  | tuple vs => show Value.tuple _ = Value.tuple _; rw [mapA_mv (mv1_r ρ f)]
  | agg cs => exact mv1_r ρ f (.agg cs)
  | func g x c => exact mv1_r ρ f (.func g x c)
  | pointer a => cases a <;> rfl
  | slice a n c => cases a <;> rfl
  | iface t u => cases u <;> rfl
  | _ => rfl
theorem mvL_r (ρ : (Nat → Pl)) (f : Nat → Nat) (C : List Value) : rL (cmpE ρ f) C = rL ρ (C.map (mvC f)) := by
  unfold rL
  rw [List.map_map]
  exact List.map_congr_left fun v _ => mvC_r ρ f v
theorem mvB_ok {B : Nat} {ρ : (Nat → Pl)} {w : World} {n : Nat} (f : Nat → Nat) : ∀ {b : Box}, BoxOK B ρ w (f n) (mvB f b) → BoxOK B (cmpE ρ f) w n b
  | .row t C, h => by
    obtain ⟨h1, h2, h3, h4⟩ := h
    exact ⟨h1, h2, h3, by rw [mvL_r]; exact h4⟩
  | .view k C, h => by
    obtain ⟨h1, h2, h3⟩ := h
    refine ⟨h1, by rw [List.length_map] at h2; exact h2, fun j v hv => ?_⟩
    have := h3 j (mvC f v) (by rw [List.getElem?_map, hv]; rfl)
    rw [mvC_r]; exact this
  | .vec e k C, h => by
    obtain ⟨h1, h2⟩ := h
    refine ⟨h1, ?_⟩
    rcases h2 with ⟨a1, a2, a3⟩ | ⟨a1, a2, cur, a3, a4, a5, a6⟩
    · exact .inl ⟨a1, a2, by simpa using a3⟩
    · rw [List.length_map] at a5 a6
      exact .inr ⟨a1, a2, cur, a3, a4, a5, by rw [mvL_r]; exact a6⟩
  | .gone, _ => trivial
  | .deep F, h => h
theorem mvB_wr (p : Pl) (f : Nat → Nat) : ∀ (b : Box), (mvB f b).wr p ↔ b.wr p
  | .row t C => Iff.rfl
  | .view k C => Iff.rfl
  | .vec e k C => Iff.rfl
  | .gone => Iff.rfl
  | .deep F => Iff.rfl
theorem mvB_hit (p : Pl) (f : Nat → Nat) (g : Nat) : ∀ (b : Box), (mvB f b).hit p g ↔ b.hit p g
  | .row t C => Iff.rfl
  | .view k C => by show (C.map (mvC f) ≠ [] ∧ _) ↔ (C ≠ [] ∧ _); simp
  | .vec e k C => Iff.rfl
  | .gone => Iff.rfl
  | .deep F => Iff.rfl
def tmR (s : St) (al : List Nat) (f : Nat → Nat) : List (Nat × Value) → Prop
  | [] => True
  | (t, v) :: r => (lk s.tm t = some (mvV f v) ∧ nbV al v = true) ∧ tmR s al f r
def sgR (s : St) (al : List Nat) (f : Nat → Nat) : List (Nat × Box) → Prop
  | [] => True
  | (n, b) :: r => (lk s.σ (f n) = some (mvB f b) ∧ memB n al = true ∧ allNC al b.cells = true) ∧ sgR s al f r
def injR (f : Nat → Nat) : List (Nat × Box) → Bool
  | [] => true
  | (n, _) :: r => !(memB (f n) (r.map fun x => f x.1)) && injR f r
theorem tmR_spec {s : St} {al : List Nat} {f : Nat → Nat} : ∀ {l : List (Nat × Value)}, tmR s al f l → ∀ t v, (t, v) ∈ l → lk s.tm t = some (mvV f v) ∧ nbV al v = true
  | (t', v') :: r, h, t, v, hm => by
    rcases List.mem_cons.1 hm with e | e
    · injection e with e1 e2; subst e1 e2; exact h.1
    · exact tmR_spec h.2 t v e
theorem sgR_spec {s : St} {al : List Nat} {f : Nat → Nat} : ∀ {l : List (Nat × Box)}, sgR s al f l → ∀ n b, (n, b) ∈ l → lk s.σ (f n) = some (mvB f b) ∧ memB n al = true ∧ allNC al b.cells = true
  | (t', v') :: r, h, t, v, hm => by
    rcases List.mem_cons.1 hm with e | e
    · injection e with e1 e2; subst e1 e2; exact h.1
    · exact sgR_spec h.2 t v e
theorem injR_spec {f : Nat → Nat} : ∀ {l : List (Nat × Box)}, injR f l = true → ∀ n b m b', (n, b) ∈ l → (m, b') ∈ l → f n = f m → n = m
  | (k, c) :: r, h, n, b, m, b', hn, hm, e => by
    simp only [injR, Bool.and_eq_true, Bool.not_eq_true'] at h
    have hno : ∀ x y, (x, y) ∈ r → f k ≠ f x := fun x y hx he => by
      have : f k ∈ r.map fun x => f x.1 := List.mem_map.2 ⟨(x, y), hx, he.symm⟩
      rw [memB_iff.2 this] at h
      exact Bool.noConfusion h.1
    rcases List.mem_cons.1 hn with e1 | e1 <;> rcases List.mem_cons.1 hm with e2 | e2
    · injection e1 with a1 _; injection e2 with a2 _; rw [a1, a2]
    · injection e1 with a1 _; subst a1; exact absurd e (hno m b' e2)
    · injection e2 with a2 _; subst a2; exact absurd e.symm (hno n b e1)
    · exact injR_spec h.2 n b m b' e1 e2 e
def tabF (tab : List (Nat × Nat)) (n : Nat) : Nat := match lk tab n with | some m => m | none => n
theorem Ren.mv {I : Nat} {s s' : St} (f : Nat → Nat) (hnt : s'.nt = s.nt) (hI : ∀ n, n < I → f n = n ∧ memB n s'.al = true) (htm : tmR s s'.al f s'.tm) (hσ : sgR s s'.al f s'.σ) (hin : injR f s'.σ = true) : Ren I s s' := by
  refine ⟨hnt, fun c ρ a w hc hs => ⟨cmpE ρ f, hs.df, hs.nt.trans hnt.symm, hs.bl, hs.hB, fun n hn => ?_, fun n hn => ?_, fun t v hv => ?_, fun n b hb => ?_, fun n m b b' hn hm hne hw hh => ?_⟩⟩
  · rw [hc] at hn
    show ρ (f n) = _
    rw [(hI n hn).1]; exact hs.fx n (by rw [hc]; exact hn)
  · rw [hc] at hn; exact memB_spec (hI n hn).2
  · obtain ⟨h1, h2⟩ := tmR_spec htm t v (lk_mem hv)
    refine ⟨?_, nbV_NB h2⟩
    rw [mvV_r]; exact (hs.tm t _ h1).1
  · obtain ⟨h1, h2, h3⟩ := sgR_spec hσ n b (lk_mem hb)
    exact ⟨mvB_ok f (hs.bx _ _ h1).1, memB_spec h2, fun v hv => allNC_spec h3 v hv⟩
  · obtain ⟨h1, _⟩ := sgR_spec hσ n b (lk_mem hn)
    obtain ⟨h2, _⟩ := sgR_spec hσ m b' (lk_mem hm)
    exact hs.ap (f n) (f m) _ _ h1 h2 (fun e => hne (injR_spec hin n b m b' (lk_mem hn) (lk_mem hm) e)) ((mvB_wr _ f b).2 hw) ((mvB_hit _ f _ b').2 hh)
theorem Ren.trans {I : Nat} {a b c : St} (h : Ren I a b) (k : Ren I b c) : Ren I a c :=
  ⟨k.1.trans h.1, fun cx ρ x w hc hs => by
    obtain ⟨ρ1, h1⟩ := h.2 cx ρ x w hc hs
    exact k.2 cx ρ1 x w hc h1⟩
theorem Ren.vnil {I : Nat} {s : St} (t : Nat) (e k q : Nat) (hq : memB q s.al = false) (h : lk s.tm t = some (.slice none 0 0)) : Ren I s ⟨(t, .slice (some ⟨q, 0, none⟩) 0 0) :: s.tm, (q, .vec e k []) :: s.σ, q :: s.al, s.nt⟩ := by
  have hq' : q ∉ s.al := fun hm => by rw [memB_iff.2 hm] at hq; cases hq
  refine ⟨rfl, fun c ρ a w hc hs => ?_⟩
  have hag : agr s.al (upd ρ q (pl4 0 0 0 true)) ρ := upd_agr ρ _ hq'
  refine ⟨upd ρ q (pl4 0 0 0 true), hs.df, hs.nt, hs.bl, hs.hB, fun n hn => ?_, fun n hn => List.mem_cons_of_mem _ (hs.al n hn), fun t' v hv => ?_, fun n b hb => ?_, fun n m b b' hn hm hne hw hh => ?_⟩
  · rw [hag n (hs.al n hn)]; exact hs.fx n hn
  · replace hv : lk ((t, Value.slice (some ⟨q, 0, none⟩) 0 0) :: s.tm) t' = some v := hv
    rw [lk_cons] at hv
    split at hv
    · rename_i e1; subst e1; cases hv
      refine ⟨?_, nbV_NB (by show memB q (q :: s.al) = true; exact memB_iff.2 List.mem_cons_self)⟩
      rw [(hs.tm t _ h).1]
      show some (Value.slice none 0 0) = some (Value.slice (bif (upd ρ q (pl4 0 0 0 true) q).nil then (upd ρ q (pl4 0 0 0 true) q).alt else some (rA _ _)) 0 (upd ρ q (pl4 0 0 0 true) q).cap)
      rw [upd_same]; rfl
    · obtain ⟨h1, h2⟩ := hs.tm t' v hv
      exact ⟨by rw [h2 _ _ hag]; exact h1, h2.mono fun n hn => List.mem_cons_of_mem _ hn⟩
  · replace hb : lk ((q, Box.vec e k []) :: s.σ) n = some b := hb
    rw [lk_cons] at hb
    split at hb
    · rename_i e1; subst e1; cases hb
      refine ⟨?_, List.mem_cons_self, fun v hv => nomatch hv⟩
      unfold BoxOK
      rw [upd_same]
      exact ⟨Nat.zero_le _, .inl ⟨rfl, ⟨rfl, rfl⟩, rfl⟩⟩
    · obtain ⟨h1, h2, h3⟩ := hs.bx n b hb
      exact ⟨h1.keep (hag n h2) (fun v hv => h3 v hv _ _ hag) (Nat.le_refl _) fun _ _ => rfl, List.mem_cons_of_mem _ h2, fun v hv => (h3 v hv).mono fun n hn => List.mem_cons_of_mem _ hn⟩
  · replace hn : lk ((q, Box.vec e k []) :: s.σ) n = some b := hn
    replace hm : lk ((q, Box.vec e k []) :: s.σ) m = some b' := hm
    rw [lk_cons] at hn hm
    split at hn
    · rename_i e1; subst e1; cases hn
      replace hw : (upd ρ q (pl4 0 0 0 true) q).nil = false := hw
      rw [upd_same] at hw; cases hw
    · split at hm
      · rename_i e1; subst e1; cases hm
        replace hh : (upd ρ q (pl4 0 0 0 true) q).nil = false ∧ _ := hh
        rw [upd_same] at hh; cases hh.1
      · rw [hag n (hs.bx n b hn).2.1] at hw hh
        rw [hag m (hs.bx m b' hm).2.1] at hh
        exact hs.ap n m b b' hn hm hne hw hh
end En
end Go.Proofs.YtbageimconenlaaGreat
