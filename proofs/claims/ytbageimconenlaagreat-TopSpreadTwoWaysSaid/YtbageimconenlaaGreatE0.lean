/- An engine for walks: abstract states (named boxes, values with names in their addresses) that stand for the worlds of a run. No program in sight. -/
import Derived.Test.YtbageimconenlaaGreatKA
import Derived.Orders
namespace Go.Proofs.YtbageimconenlaaGreat
open Go.RowKit
set_option linter.unusedVariables false
namespace En
/-- where a name lies: block, first cell, capacity (of a slice), or nil -/
structure Pl where
  b : Nat
  o : Nat
  cap : Nat
  nil : Bool
  fp : Nat → Prop
  alt : Option Addr
/-- a place without a footprint of its own -/
def pl4 (b o cap : Nat) (nil : Bool) : Pl := ⟨b, o, cap, nil, fun _ => False, none⟩
def rA (ρ : (Nat → Pl)) (a : Addr) : Addr := ⟨(ρ a.block).b, (ρ a.block).o + a.off, none⟩
def rC (ρ : (Nat → Pl)) : Value → Value
  | .pointer (some a) => .pointer (some (rA ρ a))
  | .slice (some a) n c => .slice (bif (ρ a.block).nil then (ρ a.block).alt else some (rA ρ a)) n ((ρ a.block).cap - c)
  | v => v
def mapA (f : Value → Value) (a : Array Value) : Array Value := (a.toList.map f).toArray
def r1 (ρ : (Nat → Pl)) : Value → Value
  | .agg cs => .agg (mapA (rC ρ) cs)
  | .func f x c => .func f x (mapA (rC ρ) c)
  | v => rC ρ v
def rV (ρ : (Nat → Pl)) : Value → Value
  | .tuple vs => .tuple (mapA (r1 ρ) vs)
  | v => r1 ρ v
/-- values without names -/
def flatC : Value → Bool
  | .pointer (some _) => false
  | .slice (some _) _ _ => false
  | _ => true
def flat1 : Value → Bool
  | .agg cs => cs.toList.all flatC
  | .func _ _ c => c.toList.all flatC
  | v => flatC v
def flatV : Value → Bool
  | .tuple vs => vs.toList.all flat1
  | v => flat1 v
theorem rC_flat (ρ : (Nat → Pl)) : ∀ {v : Value}, flatC v = true → rC ρ v = v := by
  intro v h
  unfold rC
  split
  · cases h
  · cases h
  · rfl
theorem map_flat (ρ : (Nat → Pl)) (f : Value → Value) (p : Value → Bool) (hf : ∀ v, p v = true → f v = v) : ∀ l : List Value, l.all p = true → l.map f = l
  | [], _ => rfl
  | v :: l, h => by
    simp only [List.all_cons, Bool.and_eq_true] at h
    rw [List.map_cons, hf v h.1, map_flat ρ f p hf l h.2]
theorem mapA_flat (ρ : (Nat → Pl)) (f : Value → Value) (p : Value → Bool) (hf : ∀ v, p v = true → f v = v) (a : Array Value) (h : a.toList.all p = true) : mapA f a = a := by
  unfold mapA; rw [map_flat ρ f p hf _ h]
theorem r1_flat (ρ : (Nat → Pl)) {v : Value} (h : flat1 v = true) : r1 ρ v = v := by
  cases v <;> simp only [r1] <;> first | exact rC_flat ρ h | skip
  · rename_i f x c; rw [mapA_flat ρ (rC ρ) flatC (fun v => rC_flat ρ) c h]
  · rename_i cs; rw [mapA_flat ρ (rC ρ) flatC (fun v => rC_flat ρ) cs h]
theorem rV_flat (ρ : (Nat → Pl)) {v : Value} (h : flatV v = true) : rV ρ v = v := by
  cases v <;> simp only [rV] <;> first | exact r1_flat ρ h | skip
  · rename_i vs; rw [mapA_flat ρ (r1 ρ) flat1 (fun v => r1_flat ρ) vs h]
/-- two placements agree on the names al -/
def agr (al : List Nat) (ρ ρ' : (Nat → Pl)) : Prop := ∀ n ∈ al, ρ n = ρ' n
def NBc (al : List Nat) (v : Value) : Prop := ∀ ρ ρ', agr al ρ ρ' → rC ρ v = rC ρ' v
def NB (al : List Nat) (v : Value) : Prop := ∀ ρ ρ', agr al ρ ρ' → rV ρ v = rV ρ' v
theorem agr.mono {al al' : List Nat} {ρ ρ' : (Nat → Pl)} (h : agr al' ρ ρ') (hs : ∀ n ∈ al, n ∈ al') : agr al ρ ρ' := fun n hn => h n (hs n hn)
theorem NB.mono {al al' : List Nat} {v : Value} (h : NB al v) (hs : ∀ n ∈ al, n ∈ al') : NB al' v := fun ρ ρ' ha => h ρ ρ' (ha.mono hs)
theorem NBc.mono {al al' : List Nat} {v : Value} (h : NBc al v) (hs : ∀ n ∈ al, n ∈ al') : NBc al' v := fun ρ ρ' ha => h ρ ρ' (ha.mono hs)
theorem NB.flat {al : List Nat} {v : Value} (h : flatV v = true) : NB al v := fun ρ ρ' _ => by rw [rV_flat ρ h, rV_flat ρ' h]
def rL (ρ : (Nat → Pl)) (l : List Value) : List Value := l.map (rC ρ)
theorem rL_len (ρ : (Nat → Pl)) (l : List Value) : (rL ρ l).length = l.length := by simp [rL]
theorem rL_agr {al : List Nat} {ρ ρ' : (Nat → Pl)} (ha : agr al ρ ρ') : ∀ {l : List Value}, (∀ v ∈ l, NBc al v) → rL ρ l = rL ρ' l := by
  intro l h
  exact List.map_congr_left fun v hv => h v hv ρ ρ' ha
/-- a box: a whole row of cells; cells that can be read; a row of the call's own that may grow, its first cells; nothing known -/
inductive Box where
  | row (t : TypeId) (C : List Value)
  | view (k : Nat) (C : List Value)
  | vec (e : TypeId) (k : Nat) (C : List Value)
  | gone
  | deep (F : Pl → World → Prop)
def Box.cells : Box → List Value
  | .row _ C => C
  | .view _ C => C
  | .vec _ _ C => C
  | .gone => []
  | .deep _ => []
/-- may be written -/
def Box.wr (p : Pl) : Box → Prop
  | .row _ _ => True
  | .vec _ _ _ => p.nil = false
  | _ => False
/-- the blocks of which something is known -/
def Box.hit (p : Pl) : Box → Nat → Prop
  | .row _ _, g => p.b = g
  | .view _ C, g => C ≠ [] ∧ p.b = g
  | .vec _ _ _, g => p.nil = false ∧ p.b = g
  | .gone, _ => False
  | .deep _, g => p.fp g
theorem Box.wr_hit {p : Pl} : ∀ {b : Box}, b.wr p → b.hit p p.b
  | .row _ _, _ => rfl
  | .vec _ _ _, h => ⟨h, rfl⟩
def BoxOK (B : Nat) (ρ : (Nat → Pl)) (w : World) (n : Nat) : Box → Prop
  | .row t C => B ≤ (ρ n).b ∧ (ρ n).o = 0 ∧ (ρ n).nil = false ∧ Blk w (ρ n).b t (rL ρ C).toArray
  | .view k C => (ρ n).cap ≤ maxLen ∧ C.length ≤ (ρ n).cap * k ∧ ∀ j v, C[j]? = some v → (ρ n).nil = false ∧ (ρ n).b < w.heap.size ∧ w.cell? ⟨(ρ n).b, (ρ n).o + j, none⟩ = some (rC ρ v)
  | .vec e k C => (ρ n).cap ≤ maxLen ∧ (((ρ n).nil = true ∧ ((ρ n).cap = 0 ∧ (ρ n).alt = none) ∧ C = []) ∨ ((ρ n).nil = false ∧ B ≤ (ρ n).b ∧ ∃ cur : Array Value, Blk w (ρ n).b e cur ∧ (ρ n).o + (ρ n).cap * k ≤ cur.size ∧ C.length ≤ (ρ n).cap * k ∧ (cur.toList.drop (ρ n).o).take C.length = rL ρ C))
  | .gone => True
  | .deep F => (∀ g, (ρ n).fp g → g < w.heap.size) ∧ ∀ w' : World, w.heap.size ≤ w'.heap.size → (∀ g, (ρ n).fp g → w'.heap[g]? = w.heap[g]?) → F (ρ n) w'
theorem BoxOK.lt {B : Nat} {ρ : (Nat → Pl)} {w : World} {n g : Nat} : ∀ {b : Box}, BoxOK B ρ w n b → b.hit (ρ n) g → g < w.heap.size
  | .row t C, h, hs => by
    have hs : (ρ n).b = g := hs
    rw [← hs]; exact h.2.2.2.lt
  | .view k (v :: C), h, hs => by rw [← hs.2]; exact (h.2.2 0 v rfl).2.1
  | .view k [], _, hs => absurd rfl hs.1
  | .vec e k C, h, hs => by
    rcases h.2 with ⟨hn, _⟩ | ⟨_, _, cur, hB, _⟩
    · rw [hs.1] at hn; cases hn
    · rw [← hs.2]; exact hB.lt
  | .deep F, h, hs => h.1 g hs
theorem BoxOK.own {B : Nat} {ρ : (Nat → Pl)} {w : World} {n : Nat} : ∀ {b : Box}, BoxOK B ρ w n b → b.wr (ρ n) → B ≤ (ρ n).b
  | .row t C, h, _ => h.1
  | .vec e k C, h, hs => by
    rcases h.2 with ⟨hn, _⟩ | ⟨_, hb, _⟩
    · rw [hs] at hn; cases hn
    · exact hb
theorem heap_cell {w w' : World} {g o : Nat} (h : w'.heap[g]? = w.heap[g]?) : w'.cell? ⟨g, o, none⟩ = w.cell? ⟨g, o, none⟩ := World.cell?_of_block (w := w) (a := ⟨g, o, none⟩) h
/-- a box whose block has not turned -/
theorem BoxOK.keep {B : Nat} {ρ ρ' : (Nat → Pl)} {w w' : World} {n : Nat} {b : Box} (h : BoxOK B ρ w n b) (hn : ρ' n = ρ n) (hc : ∀ v ∈ b.cells, rC ρ' v = rC ρ v) (hs : w.heap.size ≤ w'.heap.size)
    (hk : ∀ g, b.hit (ρ n) g → w'.heap[g]? = w.heap[g]?) : BoxOK B ρ' w' n b := by
  have hL : rL ρ' b.cells = rL ρ b.cells := List.map_congr_left fun v hv => hc v hv
  cases b with
  | row t C =>
    obtain ⟨h1, h2, h3, h4⟩ := h
    exact ⟨by rw [hn]; exact h1, by rw [hn]; exact h2, by rw [hn]; exact h3, by rw [hn, show rL ρ' C = rL ρ C from hL]; exact (hk _ rfl).trans h4⟩
  | view k C =>
    refine ⟨by rw [hn]; exact h.1, by rw [hn]; exact h.2.1, ?_⟩
    intro j v hv
    obtain ⟨h1, h2, h3⟩ := h.2.2 j v hv
    have hne : C ≠ [] := by rintro rfl; simp at hv
    refine ⟨by rw [hn]; exact h1, by rw [hn]; omega, ?_⟩
    rw [hn, heap_cell (hk _ ⟨hne, rfl⟩), h3, hc v (List.mem_of_getElem? hv)]
  | vec e k C =>
    obtain ⟨h1, h3⟩ := h
    refine ⟨by rw [hn]; exact h1, ?_⟩
    rcases h3 with ⟨a1, a2, a3⟩ | ⟨a1, a2, cur, a3, a4, a5, a6⟩
    · exact .inl ⟨by rw [hn]; exact a1, by rw [hn]; exact a2, a3⟩
    · exact .inr ⟨by rw [hn]; exact a1, by rw [hn]; exact a2, cur, by rw [hn]; exact (hk _ ⟨a1, rfl⟩).trans a3, by rw [hn]; exact a4, by rw [hn]; exact a5, by rw [hn, show rL ρ' C = rL ρ C from hL]; exact a6⟩
  | gone => trivial
  | deep F =>
    obtain ⟨h1, h2⟩ := h
    refine ⟨fun g hg => ?_, fun w2 hs2 hg2 => ?_⟩
    · rw [hn] at hg; exact Nat.lt_of_lt_of_le (h1 g hg) hs
    · rw [hn] at hg2 ⊢
      exact h2 w2 (Nat.le_trans hs hs2) fun g hg => (hg2 g hg).trans (hk g hg)
/-- the state: temporaries that are known, boxes, the names given out, the number of temporaries -/
structure St where
  tm : List (Nat × Value)
  σ : List (Nat × Box)
  al : List Nat
  nt : Nat
def lk {α : Type} : List (Nat × α) → Nat → Option α
  | [], _ => none
  | (k, v) :: r, n => bif Nat.beq k n then some v else lk r n
theorem lk_cons {α : Type} (k : Nat) (v : α) (r : List (Nat × α)) (n : Nat) : lk ((k, v) :: r) n = if k = n then some v else lk r n := by
  show (bif Nat.beq k n then some v else lk r n) = _
  by_cases h : k = n
  · subst h; simp
  · rw [if_neg h, show Nat.beq k n = false from by cases hb : Nat.beq k n with | false => rfl | true => exact absurd (Nat.eq_of_beq_eq_true hb) h]; rfl
theorem lk_mem {α : Type} : ∀ {l : List (Nat × α)} {n : Nat} {v : α}, lk l n = some v → (n, v) ∈ l
  | (k, u) :: r, n, v, h => by
    rw [lk_cons] at h
    split at h
    · rename_i e; subst e; cases h; exact List.mem_cons_self
    · exact List.mem_cons_of_mem _ (lk_mem h)
theorem lk_append {α : Type} : ∀ (l r : List (Nat × α)) (n : Nat), lk (l ++ r) n = (lk l n).or (lk r n)
  | [], r, n => rfl
  | (k, u) :: l, r, n => by
    rw [List.cons_append, lk_cons, lk_cons]
    split
    · rfl
    · exact lk_append l r n
theorem lk_none {α : Type} : ∀ {l : List (Nat × α)} {n : Nat}, lk l n = none → ∀ v, (n, v) ∉ l
  | (k, u) :: r, n, h, v, hm => by
    rw [lk_cons] at h
    split at h
    · cases h
    · rename_i hne
      rcases List.mem_cons.1 hm with e | e
      · injection e with e1 e2; exact hne e1.symm
      · exact lk_none h v e
/-- what an operation does: its value; boxes that turn; new boxes -/
structure Plan where
  v : Value
  up : List (Nat × Box)
  nw : List (Nat × Box)
def St.put (s : St) (d : Option Tmp) (v : Value) : St :=
  match d with
  | some t => { s with tm := (t, v) :: s.tm }
  | none => s
def St.app (s : St) (d : Option Tmp) (p : Plan) : St :=
  { tm := (s.put d p.v).tm, σ := p.nw ++ (p.up ++ s.σ), al := p.nw.map (·.1) ++ s.al, nt := s.nt }
structure Cx where
  B : Nat
  w0 : World
  ρ0 : (Nat → Pl)
  I : Nat
structure Sat (c : Cx) (ρ : (Nat → Pl)) (s : St) (a : Act) (w : World) : Prop where
  df : a.defers = []
  nt : a.tmps.size = s.nt
  bl : Below c.B c.w0 w
  hB : c.B ≤ w.heap.size
  fx : ∀ n, n < c.I → ρ n = c.ρ0 n
  al : ∀ n, n < c.I → n ∈ s.al
  tm : ∀ t v, lk s.tm t = some v → a.tmps[t]? = some (rV ρ v) ∧ NB s.al v
  bx : ∀ n b, lk s.σ n = some b → BoxOK c.B ρ w n b ∧ n ∈ s.al ∧ ∀ v ∈ b.cells, NBc s.al v
  ap : ∀ n m b b', lk s.σ n = some b → lk s.σ m = some b' → n ≠ m → b.wr (ρ n) → ¬ b'.hit (ρ m) (ρ n).b
/-- what the operation did to the world -/
structure Eff (B : Nat) (ρ : (Nat → Pl)) (w : World) (p : Plan) (ρ' : (Nat → Pl)) (w' : World) : Prop where
  os : w'.os = w.os
  tape : w'.tape = w.tape
  output : w'.output = w.output
  size : w.heap.size ≤ w'.heap.size
  keep : ∀ g, g < w.heap.size → (∀ n b, (n, b) ∈ p.up → (ρ n).nil = false → g ≠ (ρ n).b) → w'.heap[g]? = w.heap[g]?
  env : ∀ n, (∀ b, (n, b) ∉ p.nw) → ρ' n = ρ n
  up : ∀ n b, (n, b) ∈ p.up → BoxOK B ρ' w' n b
  nw : ∀ n b, (n, b) ∈ p.nw → BoxOK B ρ' w' n b
  nws : ∀ n b, (n, b) ∈ p.nw → ∀ g, b.hit (ρ' n) g → w.heap.size ≤ g ∨ ∃ m b', (m, b') ∈ p.up ∧ (ρ m).nil = false ∧ g = (ρ m).b
  nwd : ∀ n b m b', (n, b) ∈ p.nw → (m, b') ∈ p.nw → n ≠ m → b.wr (ρ' n) → ¬ b'.hit (ρ' m) (ρ' n).b
/-- the names of a plan: its values mention known names and new ones alone -/
structure PlanNB (al : List Nat) (p : Plan) : Prop where
  v : NB (p.nw.map (·.1) ++ al) p.v
  up : ∀ n b, (n, b) ∈ p.up → ∀ v ∈ b.cells, NBc (p.nw.map (·.1) ++ al) v
  nw : ∀ n b, (n, b) ∈ p.nw → ∀ v ∈ b.cells, NBc (p.nw.map (·.1) ++ al) v
/-- the plan fits the state: what turns may be written, and what turned and lies beneath a new name is not known any more; new names are new -/
structure Fits (s : St) (ρ : (Nat → Pl)) (p : Plan) : Prop where
  up : ∀ n b, (n, b) ∈ p.up → ∃ b0, lk s.σ n = some b0 ∧ (b.wr (ρ n) → b0.wr (ρ n)) ∧ ((ρ n).nil = false → b0.wr (ρ n)) ∧ (∀ g, b.hit (ρ n) g → b0.hit (ρ n) g)
  dist : p.nw ≠ [] → ∀ n b, (n, b) ∈ p.up → b = .gone
  nw : ∀ n b, (n, b) ∈ p.nw → n ∉ s.al
theorem put_at {a : Act} {d : Tmp} {v : Value} {t : Nat} (hd : d < a.tmps.size) : (a.put (some d) v).tmps[t]? = if d = t then some v else a.tmps[t]? := by
  show (a.tmps.setIfInBounds d v)[t]? = _
  rw [Array.getElem?_setIfInBounds]
  by_cases h : d = t
  · subst h; simp [hd]
  · simp [h]
theorem mem_nw {p : Plan} {n : Nat} {b : Box} (h : (n, b) ∈ p.nw) : n ∈ p.nw.map (·.1) := List.mem_map.2 ⟨_, h, rfl⟩
theorem not_nw {p : Plan} {n : Nat} (h : n ∉ p.nw.map (·.1)) : ∀ b, (n, b) ∉ p.nw := fun b hb => h (mem_nw hb)
end En
end Go.Proofs.YtbageimconenlaaGreat
