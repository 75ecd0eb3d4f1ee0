/- Words for memory: a slice that reads as a list; a block known whole; an append onto a row of the call's own. No program in sight. -/
import Derived.WalkKit
import Derived.Below
import Derived.Calls
import Derived.Laws.OwnMore
import Derived.Deep.AppendLies
import Derived.Deep.Draws
import Derived.Laws.Rows
import Derived.Maps.AppendAt
import Derived.OwnWalk
namespace Go.Proofs.YtbageimconenlaaGreat
open Go.RowKit
theorem hide {p : Prop} (h : p) : Hid p := h
theorem ret_int {k : IntKind} {a b : Int} (h : a = b) : Ending.returned (.int k a) = .returned (.int k b) := by rw [h]
theorem two (p : Bool) : p = true ∨ p = false := by cases p <;> simp
theorem below_drewN {B : Nat} {a w : World} (h : Below B a w) (n : Nat) : Below B a (w.drewN n) := ⟨h.os, h.tape, h.output, h.size, h.block⟩
theorem below_cell {B : Nat} {w w' : World} (hb : Below B w w') {b o : Nat} (h : b < B) : w'.cell? ⟨b, o, none⟩ = w.cell? ⟨b, o, none⟩ := hb.cell (p := ⟨b, o, none⟩) h
def Sl (w : World) (B : Nat) (A : Option Addr) (n : Nat) (xs : List Value) : Prop :=
  xs.length = n ∧ (0 < n → ∃ b o, A = some ⟨b, o, none⟩ ∧ b < B ∧ ∀ i u, xs[i]? = some u → w.cell? ⟨b, o + i, none⟩ = some u)
section
variable {w w' : World} {B B' n : Nat} {A : Option Addr} {xs : List Value}
theorem Sl.none_ : Sl w B A 0 [] := ⟨rfl, fun h => absurd h (by omega)⟩
theorem Sl.keep (h : Sl w B A n xs) (hk : ∀ b o, b < B → w'.cell? ⟨b, o, none⟩ = w.cell? ⟨b, o, none⟩) : Sl w' B A n xs :=
  ⟨h.1, fun hn => by
    obtain ⟨b, o, e, hb, hc⟩ := h.2 hn
    exact ⟨b, o, e, hb, fun i u hu => (hk _ _ hb).trans (hc i u hu)⟩⟩
theorem Sl.more (h : Sl w B A n xs) (hB : B ≤ B') : Sl w B' A n xs :=
  ⟨h.1, fun hn => by
    obtain ⟨b, o, e, hb, hc⟩ := h.2 hn
    exact ⟨b, o, e, by omega, hc⟩⟩
theorem Sl.below (h : Sl w B A n xs) (hb : Below B w w') : Sl w' B A n xs := h.keep fun _ _ hp => below_cell hb hp
theorem Sl.drew (h : Sl w B A n xs) : Sl w.drew B A n xs := h
theorem Sl.drewN (h : Sl w B A n xs) (k : Nat) : Sl (w.drewN k) B A n xs := h
theorem Sl.alloc (h : Sl w B A n xs) (hB : B ≤ w.heap.size) (o : Obj) : Sl (w.alloc o) B A n xs := h.below ((Below.refl B w).alloc hB o)
theorem Sl.at_ (h : Sl w B A n xs) {j : Nat} (hj : j < n) : ∃ b o u, A = some ⟨b, o, none⟩ ∧ b < B ∧ xs[j]? = some u ∧ w.cell? ⟨b, o + j, none⟩ = some u := by
  obtain ⟨b, o, e, hb, hc⟩ := h.2 (by omega)
  have hl : j < xs.length := by have := h.1; omega
  exact ⟨b, o, xs[j], e, hb, List.getElem?_eq_getElem hl, hc j _ (List.getElem?_eq_getElem hl)⟩
theorem Sl.int {k : IntKind} {zs : List Int} (h : Sl w B A n (zs.map (Value.int k))) {j : Nat} (hj : j < n) :
    ∃ b o z, A = some ⟨b, o, none⟩ ∧ b < B ∧ zs[j]? = some z ∧ w.cell? ⟨b, o + j, none⟩ = some (.int k z) := by
  obtain ⟨b, o, u, e, hb, hx, hc⟩ := h.at_ hj
  rw [List.getElem?_map] at hx
  rcases hz : zs[j]? with _ | z
  · rw [hz] at hx; cases hx
  · rw [hz] at hx
    simp at hx; subst hx
    exact ⟨b, o, z, e, hb, rfl, hc⟩
theorem Sl.len {k : IntKind} {zs : List Int} (h : Sl w B A n (zs.map (Value.int k))) : zs.length = n := by simpa using h.1
end
theorem drop_cons {α : Type} {zs : List α} {j : Nat} {z : α} (h : zs[j]? = some z) : zs.drop j = z :: zs.drop (j + 1) := by
  obtain ⟨hl, he⟩ := List.getElem?_eq_some_iff.1 h
  rw [List.drop_eq_getElem_cons hl, he]
def Blk (w : World) (g : Nat) (t : TypeId) (cs : Array Value) : Prop := w.heap[g]? = some (.cells cs t (0, 0))
section
variable {w w' : World} {g : Nat} {t : TypeId} {cs : Array Value}
theorem Blk.lt (h : Blk w g t cs) : g < w.heap.size := by
  rcases Nat.lt_or_ge g w.heap.size with hlt | hge
  · exact hlt
  · unfold Blk at h; rw [Array.getElem?_eq_none hge] at h; cases h
theorem Blk.cell (h : Blk w g t cs) (i : Nat) : w.cell? ⟨g, i, none⟩ = cs[i]? := cell_of_row w g i cs t (0, 0) h
theorem Blk.frozen (h : Blk w g t cs) (i : Nat) : w.frozen? ⟨g, i, none⟩ = false := by
  unfold Blk at h
  simp [World.frozen?, h]
theorem Blk.new (w : World) (t : TypeId) (cs : Array Value) : Blk (w.alloc (.cells cs t)) w.heap.size t cs := heap_alloc_new w _
theorem Blk.drew (h : Blk w g t cs) : Blk w.drew g t cs := h
theorem Blk.drewN (h : Blk w g t cs) (n : Nat) : Blk (w.drewN n) g t cs := h
theorem Blk.alloc (h : Blk w g t cs) (o : Obj) : Blk (w.alloc o) g t cs := (Below.heap_alloc w o g h.lt).trans h
theorem Blk.set_ (h : Blk w g t cs) (i : Nat) (u : Value) : Blk (w.setCell ⟨g, i, none⟩ u) g t (cs.setIfInBounds i u) := by
  unfold Blk at h ⊢
  simp [World.setCell, Array.getElem?_modify, h]
theorem Blk.far (h : Blk w g t cs) {p : Addr} (hp : g ≠ p.block) (u : Value) : Blk (w.setCell p u) g t cs := (Below.heap_setCell w p u g hp).trans h
theorem Blk.below {B : Nat} (h : Blk w g t cs) (hb : Below B w w') (hg : g < B) : Blk w' g t cs := (hb.block g hg).trans h
theorem Blk.grown {row : Option Nat} (h : Blk w g t cs) (hb : w.grownBy w' row) (hg : some g ≠ row) : Blk w' g t cs := (hb.block g h.lt hg).trans h
end
section
variable {P : Program} (w : World)
end
theorem Sl.one (w : World) (x : Value) (t : TypeId) : Sl (w.alloc (.cells #[x] t)) (w.heap.size + 1) (some ⟨w.heap.size, 0, none⟩) 1 [x] :=
  ⟨rfl, fun _ => ⟨w.heap.size, 0, rfl, by omega, fun i u hu => by
    match i, hu with
    | 0, hu =>
      simp at hu; subst hu
      exact (Blk.new w t #[x]).cell 0⟩⟩
def IsRow (k : IntKind) (w : World) (a : Option Addr) (len cap : Nat) (zs : List Int) : Prop :=
  (a = none ∧ len = 0 ∧ cap = 0 ∧ zs = []) ∨
  ∃ x, a = some x ∧ len ≤ cap ∧ cap ≤ maxLen ∧ zs.length = cap ∧ (∀ i, i < zs.length → w.cell? (x.add i) = some (.int k (zs.getD i 0))) ∧ ∀ n ∈ zs, (Lit.int k n).wf = true
theorem cell_lt {w : World} {b o : Nat} {u : Value} (h : w.cell? ⟨b, o, none⟩ = some u) : b < w.heap.size := by
  rcases Nat.lt_or_ge b w.heap.size with hlt | hge
  · exact hlt
  · simp [World.cell?, Array.getElem?_eq_none hge] at h
theorem IsRow.sl {k : IntKind} {w : World} {a : Option Addr} {len cap : Nat} {zs : List Int} (h : IsRow k w a len cap zs) :
    Sl w w.heap.size a len ((zs.take len).map (Value.int k)) ∧ (∀ n ∈ zs.take len, (Lit.int k n).wf = true) ∧ len ≤ cap ∧ cap ≤ maxLen ∧ (zs.take len).length = len := by
  rcases h with ⟨rfl, rfl, rfl, rfl⟩ | ⟨x, rfl, hl, hm, hz, hc, hw⟩
  · exact ⟨Sl.none_, by simp, Nat.le_refl _, Nat.zero_le _, rfl⟩
  · have hlen : (zs.take len).length = len := by simp; omega
    refine ⟨⟨by simpa using hlen, fun hn => ?_⟩, fun n hn => hw n (List.mem_of_mem_take hn), hl, hm, hlen⟩
    obtain ⟨b, o, s⟩ := x
    have h0 := hc 0 (by omega)
    obtain rfl : s = none := by simpa [Addr.add] using World.cell?_spot h0
    have hcell : ∀ i, i < zs.length → w.cell? ⟨b, o + i, none⟩ = some (.int k (zs.getD i 0)) := fun i hi => by
      have := hc i hi
      unfold Addr.add at this
      split at this
      · have h0 : i = 0 := by assumption
        subst h0; simpa using this
      · simpa using this
    refine ⟨b, o, rfl, cell_lt (hcell 0 (by omega)), fun i u hu => ?_⟩
    rw [List.getElem?_map, List.getElem?_take] at hu
    split at hu
    · have hi : i < zs.length := by omega
      rw [List.getElem?_eq_getElem hi] at hu
      simp at hu; subst hu
      rw [hcell i hi]; simp [hi]
    · cases hu
end Go.Proofs.YtbageimconenlaaGreat
