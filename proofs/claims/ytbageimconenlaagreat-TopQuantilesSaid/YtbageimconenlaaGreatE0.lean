/- An engine for walks: abstract states (named boxes, values with names in their addresses) that stand for the worlds of a run. No program in sight. | The engine: what an operation does, and that the state follows it. No program in sight. | The engine: a region's operations, in the order of the text and in any order that its edges allow. No program in sight. -/
import Derived.Test.YtbageimconenlaaGreatKA
import Derived.Orders
namespace Go.Proofs.YtbageimconenlaaGreat
open Go.RowKit
set_option linter.unusedVariables false
namespace En
structure Pl where
  b : Nat
  o : Nat
  cap : Nat
  nil : Bool
  fp : Nat → Prop
  alt : Option Addr
def pl4 (b o cap : Nat) (nil : Bool) : Pl := ⟨b, o, cap, nil, fun _ => False, none⟩
def rA (ρ : (Nat → Pl)) (a : Addr) : Addr := ⟨(ρ a.block).b, (ρ a.block).o + a.off, none⟩
def rC (ρ : (Nat → Pl)) : Value → Value
  | .pointer (some a) => .pointer (some (rA ρ a))
  | .slice (some a) n c => .slice (bif (ρ a.block).nil then (ρ a.block).alt else some (rA ρ a)) n ((ρ a.block).cap - c)
  | .iface _ (.slice a n c) => .slice a n c
  | .iface _ (.pointer a) => .pointer a
  | v => v
def mapA (f : Value → Value) (a : Array Value) : Array Value := (a.toList.map f).toArray
def r1 (ρ : (Nat → Pl)) : Value → Value
  | .agg cs => .agg (mapA (rC ρ) cs)
  | .func f x c => .func f x (mapA (rC ρ) c)
  | v => rC ρ v
def rV (ρ : (Nat → Pl)) : Value → Value
  | .tuple vs => .tuple (mapA (r1 ρ) vs)
  | v => r1 ρ v
def flatC : Value → Bool
  | .pointer (some _) => false
  | .slice (some _) _ _ => false
  | .iface _ _ => false
  | _ => true
def flat1 : Value → Bool
  | .agg cs => cs.toList.all flatC
  | .func _ _ c => c.toList.all flatC
  | v => flatC v
def flatV : Value → Bool
  | .tuple vs => vs.toList.all flat1
  | v => flat1 v
theorem rC_flat (ρ : (Nat → Pl)) : ∀ {v : Value}, flatC v = true → rC ρ v = v := by
  intro v h
  unfold rC
  split
  · cases h
  · cases h
  · cases h
  · cases h
  · rfl
theorem map_flat (ρ : (Nat → Pl)) (f : Value → Value) (p : Value → Bool) (hf : ∀ v, p v = true → f v = v) : ∀ l : List Value, l.all p = true → l.map f = l
  | [], _ => rfl
  | v :: l, h => by
    simp only [List.all_cons, Bool.and_eq_true] at h
    rw [List.map_cons, hf v h.1, map_flat ρ f p hf l h.2]
theorem mapA_flat (ρ : (Nat → Pl)) (f : Value → Value) (p : Value → Bool) (hf : ∀ v, p v = true → f v = v) (a : Array Value) (h : a.toList.all p = true) : mapA f a = a := by
  unfold mapA; rw [map_flat ρ f p hf _ h]
theorem r1_flat (ρ : (Nat → Pl)) {v : Value} (h : flat1 v = true) : r1 ρ v = v := by
  cases v <;> simp only [r1] <;> first | exact rC_flat ρ h | skip
  · rename_i f x c; rw [mapA_flat ρ (rC ρ) flatC (fun v => rC_flat ρ) c h]
  · rename_i cs; rw [mapA_flat ρ (rC ρ) flatC (fun v => rC_flat ρ) cs h]
theorem rV_flat (ρ : (Nat → Pl)) {v : Value} (h : flatV v = true) : rV ρ v = v := by
  cases v <;> simp only [rV] <;> first | exact r1_flat ρ h | skip
  · rename_i vs; rw [mapA_flat ρ (r1 ρ) flat1 (fun v => r1_flat ρ) vs h]
def agr (al : List Nat) (ρ ρ' : (Nat → Pl)) : Prop := ∀ n ∈ al, ρ n = ρ' n
def NBc (al : List Nat) (v : Value) : Prop := ∀ ρ ρ', agr al ρ ρ' → rC ρ v = rC ρ' v
def NB (al : List Nat) (v : Value) : Prop := ∀ ρ ρ', agr al ρ ρ' → rV ρ v = rV ρ' v
theorem agr.mono {al al' : List Nat} {ρ ρ' : (Nat → Pl)} (h : agr al' ρ ρ') (hs : ∀ n ∈ al, n ∈ al') : agr al ρ ρ' := fun n hn => h n (hs n hn)
theorem NB.mono {al al' : List Nat} {v : Value} (h : NB al v) (hs : ∀ n ∈ al, n ∈ al') : NB al' v := fun ρ ρ' ha => h ρ ρ' (ha.mono hs)
theorem NBc.mono {al al' : List Nat} {v : Value} (h : NBc al v) (hs : ∀ n ∈ al, n ∈ al') : NBc al' v := fun ρ ρ' ha => h ρ ρ' (ha.mono hs)
theorem NB.flat {al : List Nat} {v : Value} (h : flatV v = true) : NB al v := fun ρ ρ' _ => by rw [rV_flat ρ h, rV_flat ρ' h]
def rL (ρ : (Nat → Pl)) (l : List Value) : List Value := l.map (rC ρ)
theorem rL_len (ρ : (Nat → Pl)) (l : List Value) : (rL ρ l).length = l.length := by simp [rL]
theorem rL_agr {al : List Nat} {ρ ρ' : (Nat → Pl)} (ha : agr al ρ ρ') : ∀ {l : List Value}, (∀ v ∈ l, NBc al v) → rL ρ l = rL ρ' l := by
  intro l h
  exact List.map_congr_left fun v hv => h v hv ρ ρ' ha
inductive Box where
  | row (t : TypeId) (C : List Value)
  | view (k : Nat) (C : List Value)
  | vec (e : TypeId) (k : Nat) (C : List Value)
  | gone
  | deep (F : Pl → World → Prop)
def Box.cells : Box → List Value
  | .row _ C => C
  | .view _ C => C
  | .vec _ _ C => C
  | .gone => []
  | .deep _ => []
def Box.wr (p : Pl) : Box → Prop
  | .row _ _ => True
  | .vec _ _ _ => p.nil = false
  | _ => False
def Box.hit (p : Pl) : Box → Nat → Prop
  | .row _ _, g => p.b = g
  | .view _ C, g => C ≠ [] ∧ p.b = g
  | .vec _ _ _, g => p.nil = false ∧ p.b = g
  | .gone, _ => False
  | .deep _, g => p.fp g
theorem Box.wr_hit {p : Pl} : ∀ {b : Box}, b.wr p → b.hit p p.b
  | .row _ _, _ => rfl
  | .vec _ _ _, h => ⟨h, rfl⟩
def BoxOK (B : Nat) (ρ : (Nat → Pl)) (w : World) (n : Nat) : Box → Prop
  | .row t C => B ≤ (ρ n).b ∧ (ρ n).o = 0 ∧ (ρ n).nil = false ∧ Blk w (ρ n).b t (rL ρ C).toArray
  | .view k C => (ρ n).cap ≤ maxLen ∧ C.length ≤ (ρ n).cap * k ∧ ∀ j v, C[j]? = some v → (ρ n).nil = false ∧ (ρ n).b < w.heap.size ∧ w.cell? ⟨(ρ n).b, (ρ n).o + j, none⟩ = some (rC ρ v)
  | .vec e k C => (ρ n).cap ≤ maxLen ∧ (((ρ n).nil = true ∧ ((ρ n).cap = 0 ∧ (ρ n).alt = none) ∧ C = []) ∨ ((ρ n).nil = false ∧ B ≤ (ρ n).b ∧ ∃ cur : Array Value, Blk w (ρ n).b e cur ∧ (ρ n).o + (ρ n).cap * k ≤ cur.size ∧ C.length ≤ (ρ n).cap * k ∧ (cur.toList.drop (ρ n).o).take C.length = rL ρ C))
  | .gone => True
  | .deep F => (∀ g, (ρ n).fp g → g < w.heap.size) ∧ ∀ w' : World, w.heap.size ≤ w'.heap.size → (∀ g, (ρ n).fp g → w'.heap[g]? = w.heap[g]?) → F (ρ n) w'
theorem BoxOK.lt {B : Nat} {ρ : (Nat → Pl)} {w : World} {n g : Nat} : ∀ {b : Box}, BoxOK B ρ w n b → b.hit (ρ n) g → g < w.heap.size
  | .row t C, h, hs => by
    have hs : (ρ n).b = g := hs
    rw [← hs]; exact h.2.2.2.lt
  | .view k (v :: C), h, hs => by rw [← hs.2]; exact (h.2.2 0 v rfl).2.1
  | .view k [], _, hs => absurd rfl hs.1
  | .vec e k C, h, hs => by
    rcases h.2 with ⟨hn, _⟩ | ⟨_, _, cur, hB, _⟩
    · rw [hs.1] at hn; cases hn
    · rw [← hs.2]; exact hB.lt
  | .deep F, h, hs => h.1 g hs
theorem BoxOK.own {B : Nat} {ρ : (Nat → Pl)} {w : World} {n : Nat} : ∀ {b : Box}, BoxOK B ρ w n b → b.wr (ρ n) → B ≤ (ρ n).b
  | .row t C, h, _ => h.1
  | .vec e k C, h, hs => by
    rcases h.2 with ⟨hn, _⟩ | ⟨_, hb, _⟩
    · rw [hs] at hn; cases hn
    · exact hb
theorem heap_cell {w w' : World} {g o : Nat} (h : w'.heap[g]? = w.heap[g]?) : w'.cell? ⟨g, o, none⟩ = w.cell? ⟨g, o, none⟩ := World.cell?_of_block (w := w) (a := ⟨g, o, none⟩) h
theorem BoxOK.keep {B : Nat} {ρ ρ' : (Nat → Pl)} {w w' : World} {n : Nat} {b : Box} (h : BoxOK B ρ w n b) (hn : ρ' n = ρ n) (hc : ∀ v ∈ b.cells, rC ρ' v = rC ρ v) (hs : w.heap.size ≤ w'.heap.size)
    (hk : ∀ g, b.hit (ρ n) g → w'.heap[g]? = w.heap[g]?) : BoxOK B ρ' w' n b := by
  have hL : rL ρ' b.cells = rL ρ b.cells := List.map_congr_left fun v hv => hc v hv
  cases b with
  | row t C =>
    obtain ⟨h1, h2, h3, h4⟩ := h
    exact ⟨by rw [hn]; exact h1, by rw [hn]; exact h2, by rw [hn]; exact h3, by rw [hn, show rL ρ' C = rL ρ C from hL]; exact (hk _ rfl).trans h4⟩
  | view k C =>
    refine ⟨by rw [hn]; exact h.1, by rw [hn]; exact h.2.1, ?_⟩
    intro j v hv
    obtain ⟨h1, h2, h3⟩ := h.2.2 j v hv
    have hne : C ≠ [] := by rintro rfl; simp at hv
    refine ⟨by rw [hn]; exact h1, by rw [hn]; omega, ?_⟩
    rw [hn, heap_cell (hk _ ⟨hne, rfl⟩), h3, hc v (List.mem_of_getElem? hv)]
  | vec e k C =>
    obtain ⟨h1, h3⟩ := h
    refine ⟨by rw [hn]; exact h1, ?_⟩
    rcases h3 with ⟨a1, a2, a3⟩ | ⟨a1, a2, cur, a3, a4, a5, a6⟩
    · exact .inl ⟨by rw [hn]; exact a1, by rw [hn]; exact a2, a3⟩
    · exact .inr ⟨by rw [hn]; exact a1, by rw [hn]; exact a2, cur, by rw [hn]; exact (hk _ ⟨a1, rfl⟩).trans a3, by rw [hn]; exact a4, by rw [hn]; exact a5, by rw [hn, show rL ρ' C = rL ρ C from hL]; exact a6⟩
  | gone => trivial
  | deep F =>
    obtain ⟨h1, h2⟩ := h
    refine ⟨fun g hg => ?_, fun w2 hs2 hg2 => ?_⟩
    · rw [hn] at hg; exact Nat.lt_of_lt_of_le (h1 g hg) hs
    · rw [hn] at hg2 ⊢
      exact h2 w2 (Nat.le_trans hs hs2) fun g hg => (hg2 g hg).trans (hk g hg)
structure St where
  tm : List (Nat × Value)
  σ : List (Nat × Box)
  al : List Nat
  nt : Nat
def lk {α : Type} : List (Nat × α) → Nat → Option α
  | [], _ => none
  | (k, v) :: r, n => bif Nat.beq k n then some v else lk r n
theorem lk_cons {α : Type} (k : Nat) (v : α) (r : List (Nat × α)) (n : Nat) : lk ((k, v) :: r) n = if k = n then some v else lk r n := by
  show (bif Nat.beq k n then some v else lk r n) = _
  by_cases h : k = n
  · subst h; simp
  · rw [if_neg h, show Nat.beq k n = false from by cases hb : Nat.beq k n with | false => rfl | true => exact absurd (Nat.eq_of_beq_eq_true hb) h]; rfl
theorem lk_mem {α : Type} : ∀ {l : List (Nat × α)} {n : Nat} {v : α}, lk l n = some v → (n, v) ∈ l
  | (k, u) :: r, n, v, h => by
    rw [lk_cons] at h
    split at h
    · rename_i e; subst e; cases h; exact List.mem_cons_self
    · exact List.mem_cons_of_mem _ (lk_mem h)
theorem lk_append {α : Type} : ∀ (l r : List (Nat × α)) (n : Nat), lk (l ++ r) n = (lk l n).or (lk r n)
  | [], r, n => rfl
  | (k, u) :: l, r, n => by
    rw [List.cons_append, lk_cons, lk_cons]
    split
    · rfl
    · exact lk_append l r n
theorem lk_none {α : Type} : ∀ {l : List (Nat × α)} {n : Nat}, lk l n = none → ∀ v, (n, v) ∉ l
  | (k, u) :: r, n, h, v, hm => by
    rw [lk_cons] at h
    split at h
    · cases h
    · rename_i hne
      rcases List.mem_cons.1 hm with e | e
      · injection e with e1 e2; exact hne e1.symm
      · exact lk_none h v e
structure Plan where
  v : Value
  up : List (Nat × Box)
  nw : List (Nat × Box)
def St.put (s : St) (d : Option Tmp) (v : Value) : St :=
  match d with
  | some t => { s with tm := (t, v) :: s.tm }
  | none => s
def St.app (s : St) (d : Option Tmp) (p : Plan) : St :=
  { tm := (s.put d p.v).tm, σ := p.nw ++ (p.up ++ s.σ), al := p.nw.map (·.1) ++ s.al, nt := s.nt }
structure Cx where
  B : Nat
  w0 : World
  ρ0 : (Nat → Pl)
  I : Nat
structure Sat (c : Cx) (ρ : (Nat → Pl)) (s : St) (a : Act) (w : World) : Prop where
  df : a.defers = []
  nt : a.tmps.size = s.nt
  bl : Below c.B c.w0 w
  hB : c.B ≤ w.heap.size
  fx : ∀ n, n < c.I → ρ n = c.ρ0 n
  al : ∀ n, n < c.I → n ∈ s.al
  tm : ∀ t v, lk s.tm t = some v → a.tmps[t]? = some (rV ρ v) ∧ NB s.al v
  bx : ∀ n b, lk s.σ n = some b → BoxOK c.B ρ w n b ∧ n ∈ s.al ∧ ∀ v ∈ b.cells, NBc s.al v
  ap : ∀ n m b b', lk s.σ n = some b → lk s.σ m = some b' → n ≠ m → b.wr (ρ n) → ¬ b'.hit (ρ m) (ρ n).b
structure Eff (B : Nat) (ρ : (Nat → Pl)) (w : World) (p : Plan) (ρ' : (Nat → Pl)) (w' : World) : Prop where
  os : w'.os = w.os
  tape : w'.tape = w.tape
  output : w'.output = w.output
  size : w.heap.size ≤ w'.heap.size
  keep : ∀ g, g < w.heap.size → (∀ n b, (n, b) ∈ p.up → (ρ n).nil = false → g ≠ (ρ n).b) → w'.heap[g]? = w.heap[g]?
  env : ∀ n, (∀ b, (n, b) ∉ p.nw) → ρ' n = ρ n
  up : ∀ n b, (n, b) ∈ p.up → BoxOK B ρ' w' n b
  nw : ∀ n b, (n, b) ∈ p.nw → BoxOK B ρ' w' n b
  nws : ∀ n b, (n, b) ∈ p.nw → ∀ g, b.hit (ρ' n) g → w.heap.size ≤ g ∨ ∃ m b', (m, b') ∈ p.up ∧ (ρ m).nil = false ∧ g = (ρ m).b
  nwd : ∀ n b m b', (n, b) ∈ p.nw → (m, b') ∈ p.nw → n ≠ m → b.wr (ρ' n) → ¬ b'.hit (ρ' m) (ρ' n).b
structure EffH (H : Nat → Prop) (B : Nat) (ρ : (Nat → Pl)) (w : World) (p : Plan) (ρ' : (Nat → Pl)) (w' : World) : Prop where
  os : w'.os = w.os
  tape : w'.tape = w.tape
  output : w'.output = w.output
  size : w.heap.size ≤ w'.heap.size
  keep : ∀ g, g < w.heap.size → (∀ n b, (n, b) ∈ p.up → (ρ n).nil = false → g ≠ (ρ n).b) → w'.heap[g]? = w.heap[g]?
  env : ∀ n, (∀ b, (n, b) ∉ p.nw) → ρ' n = ρ n
  up : ∀ n b, (n, b) ∈ p.up → BoxOK B ρ' w' n b
  nw : ∀ n b, (n, b) ∈ p.nw → BoxOK B ρ' w' n b
  nws : ∀ n b, (n, b) ∈ p.nw → ∀ g, b.hit (ρ' n) g → w.heap.size ≤ g ∨ (∃ m b', (m, b') ∈ p.up ∧ (ρ m).nil = false ∧ g = (ρ m).b) ∨ (¬ b.wr (ρ' n) ∧ H g)
  nwd : ∀ n b m b', (n, b) ∈ p.nw → (m, b') ∈ p.nw → n ≠ m → b.wr (ρ' n) → ¬ b'.hit (ρ' m) (ρ' n).b
theorem Eff.toH {H : Nat → Prop} {B : Nat} {ρ : (Nat → Pl)} {w : World} {p : Plan} {ρ' : (Nat → Pl)} {w' : World} (h : Eff B ρ w p ρ' w') : EffH H B ρ w p ρ' w' :=
  ⟨h.os, h.tape, h.output, h.size, h.keep, h.env, h.up, h.nw, fun n b hb g hg => (h.nws n b hb g hg).imp id Or.inl, h.nwd⟩
structure PlanNB (al : List Nat) (p : Plan) : Prop where
  v : NB (p.nw.map (·.1) ++ al) p.v
  up : ∀ n b, (n, b) ∈ p.up → ∀ v ∈ b.cells, NBc (p.nw.map (·.1) ++ al) v
  nw : ∀ n b, (n, b) ∈ p.nw → ∀ v ∈ b.cells, NBc (p.nw.map (·.1) ++ al) v
structure Fits (s : St) (ρ : (Nat → Pl)) (p : Plan) : Prop where
  up : ∀ n b, (n, b) ∈ p.up → ∃ b0, lk s.σ n = some b0 ∧ (b.wr (ρ n) → b0.wr (ρ n)) ∧ ((ρ n).nil = false → b0.wr (ρ n)) ∧ (∀ g, b.hit (ρ n) g → b0.hit (ρ n) g)
  dist : p.nw ≠ [] → ∀ n b, (n, b) ∈ p.up → b = .gone
  nw : ∀ n b, (n, b) ∈ p.nw → n ∉ s.al
theorem put_at {a : Act} {d : Tmp} {v : Value} {t : Nat} (hd : d < a.tmps.size) : (a.put (some d) v).tmps[t]? = if d = t then some v else a.tmps[t]? := by
  show (a.tmps.setIfInBounds d v)[t]? = _
  rw [Array.getElem?_setIfInBounds]
  by_cases h : d = t
  · subst h; simp [hd]
  · simp [h]
theorem mem_nw {p : Plan} {n : Nat} {b : Box} (h : (n, b) ∈ p.nw) : n ∈ p.nw.map (·.1) := List.mem_map.2 ⟨_, h, rfl⟩
end En
end Go.Proofs.YtbageimconenlaaGreat
namespace Go.Proofs.YtbageimconenlaaGreat
open Go.RowKit
set_option linter.unusedVariables false
namespace En
theorem Sat.app {c : Cx} {ρ ρ' : (Nat → Pl)} {s : St} {a : Act} {w w' : World} {p : Plan} {d : Option Tmp} (h : Sat c ρ s a w) (hp : PlanNB s.al p) (hf : Fits s ρ p) {H : Nat → Prop} (hH : ∀ g, H g → ∀ n b, lk s.σ n = some b → b.wr (ρ n) → (ρ n).b ≠ g) (he : EffH H c.B ρ w p ρ' w') (hd : ∀ t, d = some t → t < s.nt) :
    Sat c ρ' (s.app d p) (a.put d (rV ρ' p.v)) w' := by
  have hnw : ∀ n ∈ s.al, ρ' n = ρ n := fun n hn => he.env n fun b hb => hf.nw n b hb hn
  have hag : agr s.al ρ' ρ := hnw
  have hsub : ∀ n ∈ s.al, n ∈ p.nw.map (·.1) ++ s.al := fun n hn => List.mem_append_right _ hn
  have hupb : ∀ n b, (n, b) ∈ p.up → n ∈ s.al := fun n b hb => by
    obtain ⟨b0, h0, _⟩ := hf.up n b hb
    exact (h.bx n b0 h0).2.1
  have hupk : ∀ n b, (n, b) ∈ p.up → ∀ m b', lk s.σ m = some b' → n ≠ m → (ρ n).nil = false → ¬ b'.hit (ρ m) (ρ n).b := fun n b hb m b' hm hne hnil => by
    obtain ⟨b0, h0, _, h2, _⟩ := hf.up n b hb
    exact h.ap n m b0 b' h0 hm hne (h2 hnil)
  have cls : ∀ n b, lk (s.app d p).σ n = some b → (n, b) ∈ p.nw ∨ ((n, b) ∈ p.up) ∨ (lk s.σ n = some b ∧ ∀ b', (n, b') ∉ p.up) := fun n b hb => by
    have hb : lk (p.nw ++ (p.up ++ s.σ)) n = some b := hb
    rw [lk_append] at hb
    cases h1 : lk p.nw n with
    | some u => rw [h1] at hb; cases hb; exact .inl (lk_mem h1)
    | none =>
      rw [h1, Option.none_or, lk_append] at hb
      cases h2 : lk p.up n with
      | some u => rw [h2] at hb; cases hb; exact .inr (.inl (lk_mem h2))
      | none => rw [h2, Option.none_or] at hb; exact .inr (.inr ⟨hb, lk_none h2⟩)
  have hold : ∀ n b, lk s.σ n = some b → (∀ b', (n, b') ∉ p.up) → BoxOK c.B ρ' w' n b := fun n b hb hno => by
    obtain ⟨h1, h2, h3⟩ := h.bx n b hb
    refine h1.keep (hnw n h2) (fun v hv => h3 v hv ρ' ρ hag) he.size fun g hs => he.keep _ (h1.lt hs) fun m b' hm hnil e => ?_
    have hne : m ≠ n := by rintro rfl; exact hno b' hm
    rw [e] at hs
    exact hupk m b' hm n b hb hne hnil hs
  refine ⟨?_, ?_, ?_, Nat.le_trans h.hB he.size, ?_, ?_, ?_, ?_, ?_⟩
  · cases d <;> exact h.df
  · cases d with
    | none => exact h.nt
    | some t => show (a.tmps.setIfInBounds t _).size = s.nt; rw [Array.size_setIfInBounds]; exact h.nt
  · refine h.bl.trans ⟨he.os, he.tape, he.output, he.size, fun k hk => he.keep k (Nat.lt_of_lt_of_le hk h.hB) fun n b hb hnil e => ?_⟩
    obtain ⟨b0, h0, _, h2, _⟩ := hf.up n b hb
    have := (h.bx n b0 h0).1.own (h2 hnil)
    omega
  · exact fun n hn => (hnw n (h.al n hn)).trans (h.fx n hn)
  · exact fun n hn => hsub n (h.al n hn)
  · intro t v hv
    have old : ∀ v, lk s.tm t = some v → a.tmps[t]? = some (rV ρ' v) ∧ NB (p.nw.map (·.1) ++ s.al) v := fun v hv => by
      obtain ⟨h1, h2⟩ := h.tm t v hv
      exact ⟨by rw [h1, h2 ρ' ρ hag], h2.mono hsub⟩
    cases d with
    | none => exact old v hv
    | some x =>
      have hx : x < a.tmps.size := by rw [h.nt]; exact hd x rfl
      have hv : lk ((x, p.v) :: s.tm) t = some v := hv
      rw [lk_cons] at hv
      rw [put_at hx]
      split at hv
      · rename_i e
        cases hv
        exact ⟨by rw [if_pos e], hp.v⟩
      · rename_i e
        rw [if_neg e]
        exact old v hv
  · intro n b hb
    rcases cls n b hb with hb | hb | ⟨hb, hno⟩
    · exact ⟨he.nw n b hb, List.mem_append_left _ (mem_nw hb), hp.nw n b hb⟩
    · exact ⟨he.up n b hb, hsub n (hupb n b hb), hp.up n b hb⟩
    · obtain ⟨h1, h2, h3⟩ := h.bx n b hb
      exact ⟨hold n b hb hno, hsub n h2, fun v hv => (h3 v hv).mono hsub⟩
  · intro n m b b' hn hm hne hw hs
    rcases cls n b hn with hn | hn | ⟨hn, hnn⟩
    · rcases cls m b' hm with hm | hm | ⟨hm, hmn⟩
      · exact he.nwd n b m b' hn hm hne hw hs
      · rw [hf.dist (by rintro e; rw [e] at hn; cases hn) m b' hm] at hs
        exact hs.elim
      · have hml : m ∈ s.al := (h.bx m b' hm).2.1
        rw [hnw m hml] at hs
        have hlt := (h.bx m b' hm).1.lt hs
        rcases he.nws n b hn _ (Box.wr_hit hw) with h1 | ⟨k, bk, hk, hnil, h1⟩ | ⟨h1, _⟩
        · omega
        · rw [h1] at hs
          exact hupk k bk hk m b' hm (by rintro rfl; exact hmn bk hk) hnil hs
        · exact h1 hw
    · have hnl := hupb n b hn
      rw [hnw n hnl] at hw hs
      rcases cls m b' hm with hm | hm | ⟨hm, hmn⟩
      · rw [hf.dist (by rintro e; rw [e] at hm; cases hm) n b hn] at hw
        exact hw.elim
      · obtain ⟨b0, h0, h1, _, _⟩ := hf.up n b hn
        obtain ⟨b0', h0', _, _, h3⟩ := hf.up m b' hm
        rw [hnw m (hupb m b' hm)] at hs
        exact h.ap n m b0 b0' h0 h0' hne (h1 hw) (h3 _ hs)
      · obtain ⟨b0, h0, h1, _, _⟩ := hf.up n b hn
        rw [hnw m (h.bx m b' hm).2.1] at hs
        exact h.ap n m b0 b' h0 hm hne (h1 hw) hs
    · have hnl : n ∈ s.al := (h.bx n b hn).2.1
      rw [hnw n hnl] at hw hs
      rcases cls m b' hm with hm | hm | ⟨hm, hmn⟩
      · have hlt := (h.bx n b hn).1.lt (Box.wr_hit hw)
        rcases he.nws m b' hm _ hs with h1 | ⟨k, bk, hk, hnil, h1⟩ | ⟨_, h1⟩
        · omega
        · have h2 := Box.wr_hit hw
          rw [h1] at h2
          exact hupk k bk hk n b hn (by rintro rfl; exact hnn bk hk) hnil h2
        · exact hH _ h1 n b hn hw rfl
      · obtain ⟨b0', h0', _, _, h3⟩ := hf.up m b' hm
        rw [hnw m (hupb m b' hm)] at hs
        exact h.ap n m b b0' hn h0' hne hw (h3 _ hs)
      · rw [hnw m (h.bx m b' hm).2.1] at hs
        exact h.ap n m b b' hn hm hne hw hs
structure Le (s' s : St) : Prop where
  tm : ∀ t v, lk s'.tm t = some v → lk s.tm t = some v
  σ : ∀ n b, lk s'.σ n = some b → lk s.σ n = some b
  al : ∀ n, n ∈ s.al ↔ n ∈ s'.al
  nt : s'.nt = s.nt
theorem Sat.le {c : Cx} {ρ : (Nat → Pl)} {s s' : St} {a : Act} {w : World} (h : Sat c ρ s a w) (hl : Le s' s) : Sat c ρ s' a w := by
  have hsub : ∀ n ∈ s.al, n ∈ s'.al := fun n hn => (hl.al n).1 hn
  exact ⟨h.df, h.nt.trans hl.nt.symm, h.bl, h.hB, h.fx, fun n hn => hsub n (h.al n hn),
    fun t v hv => ⟨(h.tm t v (hl.tm t v hv)).1, (h.tm t v (hl.tm t v hv)).2.mono hsub⟩,
    fun n b hb => ⟨(h.bx n b (hl.σ n b hb)).1, hsub n (h.bx n b (hl.σ n b hb)).2.1, fun v hv => ((h.bx n b (hl.σ n b hb)).2.2 v hv).mono hsub⟩,
    fun n m b b' hn hm => h.ap n m b b' (hl.σ n b hn) (hl.σ m b' hm)⟩
structure Eqv (s' s : St) : Prop where
  tm : ∀ t, lk s'.tm t = lk s.tm t
  σ : ∀ n, lk s'.σ n = lk s.σ n
  al : ∀ n, n ∈ s.al ↔ n ∈ s'.al
  nt : s'.nt = s.nt
theorem Eqv.le {s' s : St} (h : Eqv s' s) : Le s' s := ⟨fun t v hv => by rw [← h.tm]; exact hv, fun n b hb => by rw [← h.σ]; exact hb, h.al, h.nt⟩
theorem Eqv.refl (s : St) : Eqv s s := ⟨fun _ => rfl, fun _ => rfl, fun _ => Iff.rfl, rfl⟩
theorem Eqv.trans {a b c : St} (h : Eqv a b) (k : Eqv b c) : Eqv a c := ⟨fun t => (h.tm t).trans (k.tm t), fun t => (h.σ t).trans (k.σ t), fun n => (k.al n).trans (h.al n), h.nt.trans k.nt⟩
theorem Eqv.symm {a b : St} (h : Eqv a b) : Eqv b a := ⟨fun t => (h.tm t).symm, fun t => (h.σ t).symm, fun n => (h.al n).symm, h.nt.symm⟩
structure Req where
  tm : List (Nat × Value)
  σ : List (Nat × Box)
structure Met (B : Nat) (ρ : (Nat → Pl)) (R : Req) (a : Act) (w : World) : Prop where
  df : a.defers = []
  tm : ∀ t v, (t, v) ∈ R.tm → a.tmps[t]? = some (rV ρ v)
  σ : ∀ n b, (n, b) ∈ R.σ → BoxOK B ρ w n b
  hB : B ≤ w.heap.size
  ap : ∀ n m b b', (n, b) ∈ R.σ → (m, b') ∈ R.σ → n ≠ m → b.wr (ρ n) → ¬ b'.hit (ρ m) (ρ n).b
structure RNB (al : List Nat) (R : Req) : Prop where
  tm : ∀ t v, (t, v) ∈ R.tm → NB al v
  σ : ∀ n b, (n, b) ∈ R.σ → n ∈ al ∧ ∀ v ∈ b.cells, NBc al v
structure Does (P : Program) (B : Nat) (o : Oper) (R : Req) (p : Plan) : Prop where
  nb : ∀ al, RNB al R → PlanNB al p
  run : ∀ (ρ : (Nat → Pl)) (a : Act) (w : World) (al : List Nat), Met B ρ R a w → RNB al R → (∀ n b, (n, b) ∈ p.nw → n ∉ al) → ∀ (H : Nat → Prop), (∀ n b, (n, b) ∈ R.σ → ¬ b.wr (ρ n) → ∀ g, b.hit (ρ n) g → H g) → ∀ (K : Act → World → Prop) (Q : Exit → Act → World → Prop),
    (∀ ρ' w', EffH H B ρ w p ρ' w' → K (a.put o.dst (rV ρ' p.v)) w') → o.wp P a w K Q ∨ (o.asks P a w ∧ LetsOut Q)
theorem Does.of {P : Program} {B : Nat} {o : Oper} {R : Req} {p : Plan} (nb : ∀ al, RNB al R → PlanNB al p)
    (run : ∀ (ρ : (Nat → Pl)) (a : Act) (w : World) (al : List Nat), Met B ρ R a w → RNB al R → (∀ n b, (n, b) ∈ p.nw → n ∉ al) → ∀ (K : Act → World → Prop) (Q : Exit → Act → World → Prop),
    (∀ ρ' w', Eff B ρ w p ρ' w' → K (a.put o.dst (rV ρ' p.v)) w') → o.wp P a w K Q ∨ (o.asks P a w ∧ LetsOut Q)) : Does P B o R p :=
  ⟨nb, fun ρ a w al h1 h2 h3 H _ K Q hK => run ρ a w al h1 h2 h3 K Q fun ρ' w' he => hK ρ' w' he.toH⟩
def In (R : Req) (s : St) : Prop := (∀ t v, (t, v) ∈ R.tm → lk s.tm t = some v) ∧ (∀ n b, (n, b) ∈ R.σ → lk s.σ n = some b)
theorem Sat.met {c : Cx} {ρ : (Nat → Pl)} {s : St} {a : Act} {w : World} {R : Req} (h : Sat c ρ s a w) (hi : In R s) : Met c.B ρ R a w :=
  ⟨h.df, fun t v hv => (h.tm t v (hi.1 t v hv)).1, fun n b hb => (h.bx n b (hi.2 n b hb)).1, h.hB, fun n m b b' hn hm => h.ap n m b b' (hi.2 n b hn) (hi.2 m b' hm)⟩
theorem Sat.rnb {c : Cx} {ρ : (Nat → Pl)} {s : St} {a : Act} {w : World} {R : Req} (h : Sat c ρ s a w) (hi : In R s) : RNB s.al R :=
  ⟨fun t v hv => (h.tm t v (hi.1 t v hv)).2, fun n b hb => (h.bx n b (hi.2 n b hb)).2⟩
theorem Sat.planNB {c : Cx} {ρ : (Nat → Pl)} {s : St} {a : Act} {w : World} {R : Req} {P : Program} {B : Nat} {o : Oper} {p : Plan} (h : Sat c ρ s a w) (hi : In R s) (hd : Does P B o R p) : PlanNB s.al p :=
  hd.nb s.al (h.rnb hi)
end En
end Go.Proofs.YtbageimconenlaaGreat
namespace Go.Proofs.YtbageimconenlaaGreat
open Go.RowKit
set_option linter.unusedVariables false
namespace En
structure Ent where
  i : Nat
  o : Oper
  R : Req
  p : Plan
  sk : Bool
def nowt : Plan := ⟨undef, [], []⟩
def kindOK : Box → Box → Bool
  | .row _ _, .row _ _ => true
  | .row _ _, .gone => true
  | .vec _ _ _, .vec _ _ _ => true
  | .vec _ _ _, .gone => true
  | _, _ => false
def gsk : Value → Bool → Bool
  | .bool b, want => b != want
  | _, _ => true
def Gd (ops : Array Oper) (s : St) (o : Oper) (sk : Bool) : Prop :=
  match o.guard with
  | none => sk = false
  | some (j, want) => ∃ t v, (ops[j]?).bind (·.dst) = some t ∧ lk s.tm t = some v ∧ sk = gsk v want
structure Ok (P : Program) (B : Nat) (ops : Array Oper) (s : St) (e : Ent) : Prop where
  gd : Gd ops s e.o e.sk
  dst : ∀ t, e.o.dst = some t → t < s.nt
  skip : e.sk = true → e.p = nowt
  does : e.sk = false → Does P B e.o e.R e.p ∧ In e.R s
  up : ∀ n b, (n, b) ∈ e.p.up → ∃ b0, (n, b0) ∈ e.R.σ ∧ kindOK b0 b = true
  dist : e.p.nw = [] ∨ ∀ n b, (n, b) ∈ e.p.up → b = .gone
  nw : ∀ n b, (n, b) ∈ e.p.nw → n ∉ s.al
theorem kind_wr {b0 b : Box} {p : Pl} (h : kindOK b0 b = true) : (b.wr p → b0.wr p) ∧ ∀ g, b.hit p g → b0.hit p g := by
  cases b0 <;> cases b <;> simp_all [kindOK, Box.wr, Box.hit]
theorem kind_nil {b0 b : Box} {p : Pl} (h : kindOK b0 b = true) (hn : p.nil = false) : b0.wr p := by
  cases b0 <;> cases b <;> simp_all [kindOK, Box.wr]
theorem Ok.fits {P : Program} {B : Nat} {ops : Array Oper} {s : St} {e : Ent} (h : Ok P B ops s e) (hs : e.sk = false) (ρ : (Nat → Pl)) : Fits s ρ e.p := by
  refine ⟨fun n b hb => ?_, fun hn => h.dist.resolve_left hn, h.nw⟩
  obtain ⟨b0, h0, hk⟩ := h.up n b hb
  exact ⟨b0, (h.does hs).2.2 n b0 h0, (kind_wr hk).1, kind_nil hk, (kind_wr hk).2⟩
theorem rV_notbool (ρ : (Nat → Pl)) {v : Value} (h : ∀ b, v ≠ .bool b) : ∀ b, rV ρ v ≠ .bool b := by
  intro b e
  cases v with
  | pointer a => cases a <;> cases e
  | slice a n c => cases a <;> cases e
  | iface t u => cases u <;> cases e
  | bool x => exact h x rfl
  | _ => cases e
theorem wanted_of {ops : Array Oper} {c : Cx} {ρ : (Nat → Pl)} {s : St} {a : Act} {w : World} {o : Oper} {sk : Bool} (h : Sat c ρ s a w) (hg : Gd ops s o sk) : Region.wanted o (yielded ops a.tmps) = !sk := by
  unfold Gd at hg
  unfold Region.wanted
  cases hgd : o.guard with
  | none => rw [hgd] at hg; simp only at hg ⊢; rw [hg]; rfl
  | some jw =>
    obtain ⟨j, want⟩ := jw
    rw [hgd] at hg
    obtain ⟨t, v, h1, h2, h3⟩ := hg
    have h4 := (h.tm t _ h2).1
    by_cases hb : ∃ b, v = .bool b
    · obtain ⟨b, rfl⟩ := hb
      have h5 : rV ρ (.bool b) = .bool b := rfl
      rw [h5] at h4
      have hy : yielded ops a.tmps j = some b := by
        unfold yielded
        rw [h1, Option.bind_some, h4]
      simp only [hy]
      subst h3
      cases b <;> cases want <;> rfl
    · have hnb : ∀ b, v ≠ .bool b := fun b e => hb ⟨b, e⟩
      have hy : yielded ops a.tmps j = none := by
        unfold yielded
        rw [h1, Option.bind_some, h4]
        split
        · rename_i b e
          injection e with e
          exact absurd e (rV_notbool ρ hnb b)
        · rfl
      simp only [hy]
      have hg : gsk v want = true := by
        unfold gsk
        split
        · exact absurd rfl (hnb _)
        · rfl
      rw [h3, hg]; rfl
theorem wpOp_ent {P : Program} {ops : Array Oper} {c : Cx} {ρ : (Nat → Pl)} {s : St} {a : Act} {w : World} {e : Ent} {Q : Exit → Act → World → Prop} {K : Act → World → Prop} (h : Sat c ρ s a w) (hi : ops[e.i]? = some e.o) (ho : Ok P c.B ops s e)
    (hK : ∀ ρ' a' w', Sat c ρ' (s.app e.o.dst e.p) a' w' → K a' w') : wpOp P ops Q e.i K a w := by
  unfold wpOp
  rw [hi]
  simp only []
  rw [wanted_of h ho.gd]
  cases hs : e.sk with
  | false =>
    rw [Bool.not_false, if_pos rfl]
    obtain ⟨hd, hin⟩ := ho.does hs
    exact hd.run ρ a w s.al (h.met hin) (h.rnb hin) ho.nw (fun g => ∀ n b, lk s.σ n = some b → b.wr (ρ n) → (ρ n).b ≠ g) (fun n b hb hnw g hg m b' hm hw e => by
      by_cases hmn : m = n
      · subst hmn
        rw [hin.2 m b hb] at hm
        cases hm
        exact hnw hw
      · rw [← e] at hg
        exact h.ap m n b' b hm (hin.2 n b hb) hmn hw hg) K Q fun ρ' w' he => hK ρ' _ _ (h.app (h.planNB hin hd) (ho.fits hs ρ) (fun g hg => hg) he ho.dst)
  | true =>
    rw [Bool.not_true, if_neg (by simp)]
    have hp := ho.skip hs
    have hno : ∀ (n : Nat) (b : Box), (n, b) ∈ ([] : List (Nat × Box)) → False := fun n b hb => by cases hb
    have hnb : PlanNB s.al nowt := ⟨NB.flat (by rfl), fun n b hb => (hno n b hb).elim, fun n b hb => (hno n b hb).elim⟩
    have hft : Fits s ρ nowt := ⟨fun n b hb => (hno n b hb).elim, fun hn => absurd rfl hn, fun n b hb => (hno n b hb).elim⟩
    have hef : Eff c.B ρ w nowt ρ w := ⟨rfl, rfl, rfl, Nat.le_refl _, fun _ _ _ => rfl, fun _ _ => rfl, fun n b hb => (hno n b hb).elim, fun n b hb => (hno n b hb).elim, fun n b hb => (hno n b hb).elim, fun n b m b' hb => (hno n b hb).elim⟩
    have := h.app hnb hft (H := fun _ => False) (fun g hg => hg.elim) hef.toH ho.dst
    refine hK ρ _ _ ?_
    rw [hp]
    exact this
def pl {α : Type} (A : Ent → List (Nat × α)) : List Ent → (Nat → Bool) → List (Nat × α) → List (Nat × α)
  | [], _, l => l
  | e :: r, D, l => pl A r D (bif D e.i then A e ++ l else l)
theorem pl_agree {α : Type} {A : Ent → List (Nat × α)} {n : Nat} : ∀ {L : List Ent} {D D' : Nat → Bool} {l l' : List (Nat × α)}, (∀ f ∈ L, lk (A f) n = none ∨ D f.i = D' f.i) → lk l n = lk l' n → lk (pl A L D l) n = lk (pl A L D' l') n
  | [], D, D', l, l', _, h => h
  | e :: r, D, D', l, l', hc, h => by
    refine pl_agree (L := r) (fun f hf => hc f (List.mem_cons_of_mem _ hf)) ?_
    rcases hc e List.mem_cons_self with h1 | h1
    · cases D e.i <;> cases D' e.i <;> simp only [cond_true, cond_false] <;> (try rw [lk_append]) <;> (try rw [lk_append]) <;> (try rw [h1]) <;> simp [h]
    · rw [h1]
      cases D' e.i <;> simp only [cond_true, cond_false]
      · exact h
      · rw [lk_append, lk_append, h]
theorem pl_last {α : Type} {A : Ent → List (Nat × α)} {n : Nat} {v : α} {e : Ent} {D : Nat → Bool} : ∀ {L1 L2 : List Ent} {l : List (Nat × α)}, D e.i = true → lk (A e) n = some v → (∀ f ∈ L2, D f.i = true → lk (A f) n = none) → lk (pl A (L1 ++ e :: L2) D l) n = some v
  | f :: L1, L2, l, hD, he, hf => pl_last (L1 := L1) (L2 := L2) hD he hf
  | [], L2, l, hD, he, hf => by
    show lk (pl A L2 D (bif D e.i then A e ++ l else l)) n = some v
    rw [hD, cond_true]
    have : lk (pl A L2 D (A e ++ l)) n = lk (pl A L2 (fun _ => false) (A e ++ l)) n := pl_agree (fun f hf' => by
      cases hDf : D f.i with
      | false => exact .inr rfl
      | true => exact .inl (hf f hf' hDf)) rfl
    rw [this]
    have hnone : ∀ (L : List Ent) (l : List (Nat × α)), pl A L (fun _ => false) l = l := by
      intro L
      induction L with
      | nil => intro l; rfl
      | cons g r ih => intro l; exact ih l
    rw [hnone, lk_append, he]; rfl
def At (e : Ent) : List (Nat × Value) := match e.o.dst with | some t => [(t, e.p.v)] | none => []
def As (e : Ent) : List (Nat × Box) := e.p.nw ++ e.p.up
def pal : List Ent → (Nat → Bool) → List Nat → List Nat
  | [], _, l => l
  | e :: r, D, l => pal r D (bif D e.i then e.p.nw.map (·.1) ++ l else l)
def pt (L : List Ent) (D : Nat → Bool) (s : St) : St := { tm := pl At L D s.tm, σ := pl As L D s.σ, al := pal L D s.al, nt := s.nt }
theorem pal_mem {m : Nat} : ∀ {L : List Ent} {D : Nat → Bool} {l : List Nat}, m ∈ pal L D l ↔ m ∈ l ∨ ∃ f ∈ L, D f.i = true ∧ m ∈ f.p.nw.map (·.1)
  | [], D, l => by simp [pal]
  | e :: r, D, l => by
    show m ∈ pal r D (bif D e.i then e.p.nw.map (·.1) ++ l else l) ↔ _
    rw [pal_mem (L := r)]
    cases hD : D e.i with
    | false =>
      simp only [cond_false]
      constructor
      · rintro (h | ⟨f, hf, h⟩)
        · exact .inl h
        · exact .inr ⟨f, List.mem_cons_of_mem _ hf, h⟩
      · rintro (h | ⟨f, hf, h1, h2⟩)
        · exact .inl h
        · rcases List.mem_cons.1 hf with rfl | hf
          · rw [hD] at h1; cases h1
          · exact .inr ⟨f, hf, h1, h2⟩
    | true =>
      simp only [cond_true]
      constructor
      · rintro (h | ⟨f, hf, h⟩)
        · rcases List.mem_append.1 h with h | h
          · exact .inr ⟨e, List.mem_cons_self, hD, h⟩
          · exact .inl h
        · exact .inr ⟨f, List.mem_cons_of_mem _ hf, h⟩
      · rintro (h | ⟨f, hf, h1, h2⟩)
        · exact .inl (List.mem_append_right _ h)
        · rcases List.mem_cons.1 hf with rfl | hf
          · exact .inl (List.mem_append_left _ h2)
          · exact .inr ⟨f, hf, h1, h2⟩
def Seq (P : Program) (B : Nat) (ops : Array Oper) : List Ent → St → Prop
  | [], _ => True
  | e :: r, s => ops[e.i]? = some e.o ∧ Ok P B ops s e ∧ Seq P B ops r (s.app e.o.dst e.p)
def fin : List Ent → St → St
  | [], s => s
  | e :: r, s => fin r (s.app e.o.dst e.p)
theorem wpOps_seq {P : Program} {ops : Array Oper} {c : Cx} {Q : Exit → Act → World → Prop} : ∀ {L : List Ent} {ρ : (Nat → Pl)} {s : St} {a : Act} {w : World}, Sat c ρ s a w → Seq P c.B ops L s →
    (∀ ρ' a' w', Sat c ρ' (fin L s) a' w' → Q .normal a' w') → wpOps P ops Q (L.map (·.i)) a w
  | [], ρ, s, a, w, h, _, hQ => hQ ρ a w h
  | e :: r, ρ, s, a, w, h, hs, hQ => by
    rw [List.map_cons, wpOps_cons]
    exact wpOp_ent h hs.1 hs.2.1 fun ρ' a' w' h' => wpOps_seq h' hs.2.2 hQ
theorem app_tm (s : St) (e : Ent) : (s.app e.o.dst e.p).tm = At e ++ s.tm := by
  unfold St.app St.put At
  cases e.o.dst <;> rfl
theorem app_σ (s : St) (e : Ent) : (s.app e.o.dst e.p).σ = As e ++ s.σ := by
  unfold St.app As
  simp
theorem pt_cons (e : Ent) (r : List Ent) (D : Nat → Bool) (s : St) : pt (e :: r) D s = pt r D (bif D e.i then s.app e.o.dst e.p else s) := by
  unfold pt
  cases hD : D e.i with
  | false => simp [pl, pal, hD]
  | true =>
    have h1 := app_tm s e
    have h2 := app_σ s e
    simp only [cond_true, pl, pal, hD, h1, h2]
    rfl
def Idx : Nat → List Ent → Prop
  | _, [] => True
  | k, e :: r => e.i = k ∧ Idx (k + 1) r
theorem Idx.at_ : ∀ {L : List Ent} {k j : Nat} {e : Ent}, Idx k L → L[j]? = some e → e.i = k + j
  | [], k, j, e, _, h => by simp at h
  | f :: r, k, 0, e, hI, h => by simp at h; subst h; exact hI.1
  | f :: r, k, j + 1, e, hI, h => by
    have := hI.2.at_ (j := j) (by simpa using h)
    omega
theorem Idx.mem {L : List Ent} {k : Nat} {e : Ent} (hI : Idx k L) (h : e ∈ L) : ∃ j, L[j]? = some e ∧ e.i = k + j := by
  obtain ⟨j, hj⟩ := List.getElem?_of_mem h
  exact ⟨j, hj, hI.at_ hj⟩
theorem seq_at {P : Program} {B : Nat} {ops : Array Oper} : ∀ {L : List Ent} {k j : Nat} {s : St} {e : Ent}, Idx k L → Seq P B ops L s → L[j]? = some e → ops[e.i]? = some e.o ∧ Ok P B ops (pt L (fun i => decide (i < k + j)) s) e
  | [], k, j, s, e, _, _, h => by simp at h
  | f :: r, k, 0, s, e, hI, hs, h => by
    simp at h; subst h
    refine ⟨hs.1, ?_⟩
    have hnone : ∀ (L : List Ent) (q : Nat) (s : St), Idx q L → k ≤ q → pt L (fun i => decide (i < k + 0)) s = s := by
      intro L
      induction L with
      | nil => intro q s _ _; rfl
      | cons g r ih =>
        intro q s hg hq
        rw [pt_cons, show decide (g.i < k + 0) = false from by simp [hg.1]; omega, cond_false]
        exact ih (q + 1) s hg.2 (by omega)
    rw [hnone (f :: r) k s hI (Nat.le_refl _)]
    exact hs.2.1
  | f :: r, k, j + 1, s, e, hI, hs, h => by
    rw [pt_cons, show decide (f.i < k + (j + 1)) = true from by simp [hI.1], cond_true]
    have := seq_at (L := r) (k := k + 1) (j := j) (s := s.app f.o.dst f.p) (e := e) hI.2 hs.2.2 (by simpa using h)
    rw [show k + 1 + j = k + (j + 1) by omega] at this
    exact this
theorem pt_all : ∀ {L : List Ent} {D : Nat → Bool} {s : St}, (∀ f ∈ L, D f.i = true) → pt L D s = fin L s
  | [], D, s, _ => rfl
  | e :: r, D, s, h => by
    rw [pt_cons, h e List.mem_cons_self, cond_true]
    exact pt_all fun f hf => h f (List.mem_cons_of_mem _ hf)
theorem pt_none : ∀ {L : List Ent} {s : St}, pt L (fun _ => false) s = s
  | [], s => rfl
  | e :: r, s => by rw [pt_cons]; exact pt_none (L := r)
end En
end Go.Proofs.YtbageimconenlaaGreat
