/- Helpers for regions that draw their order and make memory. -/
import Derived.Test.YtjbfefkbpnickaaItems
namespace Go.Proofs.Ytjbfefkbpnickaa
open Go.RowKit
set_option linter.unusedVariables false
theorem own_empty_ge {w : World} {g base : Nat} (hg : w.heap.size = g) (hb : base ≤ g) (e : TypeId) : (w.alloc (.cells #[] e)).ownsRow base e 2 (.slice (some ⟨g, 0, none⟩) 0 0) 0 [] := own_more (own_empty_at hg e) hb
theorem Sl2.alloc1 {w : World} {B n : Nat} {A : Option Addr} {l : List (Int × Int)} (h : Sl2 w B A n l) (hB : B ≤ w.heap.size) (o : Obj) : Sl2 (w.alloc o) B A n l := h.below ((Below.refl _ _).alloc hB o)
theorem Sl2.grown {w w' : World} {B n : Nat} {A : Option Addr} {l : List (Int × Int)} {row : Option Nat} (h : Sl2 w B A n l) (hB : B ≤ w.heap.size) (hg : w.grownBy w' row) (hr : ∀ t, row = some t → B ≤ t) : Sl2 w' B A n l :=
  h.below ((Below.refl _ _).grown hg hB hr)
theorem Sl2.one_at {w : World} {g : Nat} (hg : w.heap.size = g) (p : Int × Int) (t : TypeId) : Sl2 (w.alloc (.cells #[.int .i64 p.1, .int .i64 p.2] t)) (g + 1) (some ⟨g, 0, none⟩) 1 [p] := by
  subst hg; exact Sl2.one w p t
theorem held4_alloc {w : World} {b1 o1 b2 o2 b3 o3 b4 o4 : Nat} {v1 v2 v3 v4 : Value} (h : w.cell? ⟨b1, o1, none⟩ = some v1 ∧ w.cell? ⟨b2, o2, none⟩ = some v2 ∧ w.cell? ⟨b3, o3, none⟩ = some v3 ∧ w.cell? ⟨b4, o4, none⟩ = some v4) (o : Obj) :
    (w.alloc o).cell? ⟨b1, o1, none⟩ = some v1 ∧ (w.alloc o).cell? ⟨b2, o2, none⟩ = some v2 ∧ (w.alloc o).cell? ⟨b3, o3, none⟩ = some v3 ∧ (w.alloc o).cell? ⟨b4, o4, none⟩ = some v4 :=
  ⟨cell_alloc h.1 _, cell_alloc h.2.1 _, cell_alloc h.2.2.1 _, cell_alloc h.2.2.2 _⟩
theorem held4_grown {w w' : World} {row : Option Nat} {b1 o1 b2 o2 b3 o3 b4 o4 : Nat} {v1 v2 v3 v4 : Value} (hg : w.grownBy w' row) (B : Nat) (hr : ∀ t, row = some t → B ≤ t) (h : w.cell? ⟨b1, o1, none⟩ = some v1 ∧ w.cell? ⟨b2, o2, none⟩ = some v2 ∧ w.cell? ⟨b3, o3, none⟩ = some v3 ∧ w.cell? ⟨b4, o4, none⟩ = some v4)
    (h1 : b1 < B) (h2 : b2 < B) (h3 : b3 < B) (h4 : b4 < B) :
    w'.cell? ⟨b1, o1, none⟩ = some v1 ∧ w'.cell? ⟨b2, o2, none⟩ = some v2 ∧ w'.cell? ⟨b3, o3, none⟩ = some v3 ∧ w'.cell? ⟨b4, o4, none⟩ = some v4 :=
  ⟨cell_grown hg h.1 (fun e => by have := hr _ e.symm; omega), cell_grown hg h.2.1 (fun e => by have := hr _ e.symm; omega), cell_grown hg h.2.2.1 (fun e => by have := hr _ e.symm; omega), cell_grown hg h.2.2.2 (fun e => by have := hr _ e.symm; omega)⟩
theorem held4_below {w w' : World} {B b1 o1 b2 o2 b3 o3 b4 o4 : Nat} {v1 v2 v3 v4 : Value} (h : w.cell? ⟨b1, o1, none⟩ = some v1 ∧ w.cell? ⟨b2, o2, none⟩ = some v2 ∧ w.cell? ⟨b3, o3, none⟩ = some v3 ∧ w.cell? ⟨b4, o4, none⟩ = some v4) (hb : Below B w w')
    (h1 : b1 < B) (h2 : b2 < B) (h3 : b3 < B) (h4 : b4 < B) :
    w'.cell? ⟨b1, o1, none⟩ = some v1 ∧ w'.cell? ⟨b2, o2, none⟩ = some v2 ∧ w'.cell? ⟨b3, o3, none⟩ = some v3 ∧ w'.cell? ⟨b4, o4, none⟩ = some v4 :=
  ⟨(below_cell hb h1).trans h.1, (below_cell hb h2).trans h.2.1, (below_cell hb h3).trans h.2.2.1, (below_cell hb h4).trans h.2.2.2⟩
theorem Bl.alloc' {a w : World} (h : Below a.heap.size a w) (o : Obj) : Below a.heap.size a (w.alloc o) := h.alloc h.size o
theorem Bl.grow' {a w w' : World} {row : Option Nat} (h : Below a.heap.size a w) (hg : w.grownBy w' row) (hr : ∀ k, row = some k → a.heap.size ≤ k) : Below a.heap.size a w' := h.grown hg h.size hr
theorem Bl.set' {a w : World} (h : Below a.heap.size a w) {p : Addr} (hp : a.heap.size ≤ p.block) (u : Value) : Below a.heap.size a (w.setCell p u) := h.setCell hp u
theorem Bl.call' {a w w' : World} (h : Below a.heap.size a w) (hb : Below w.heap.size w w') : Below a.heap.size a w' := h.trans (hb.mono h.size)
theorem Sl2.gr {w w' : World} {B n b o : Nat} {l : List (Int × Int)} {row : Option Nat} (h : Sl2 w B (some ⟨b, o, none⟩) n l) (hg : w.grownBy w' row) (hne : some b ≠ row) : Sl2 w' B (some ⟨b, o, none⟩) n l :=
  ⟨h.1, fun hn => by
    obtain ⟨b', o', e, hb, hc⟩ := h.2 hn
    injection e with e
    injection e with e1 e2
    subst e1 e2
    refine ⟨b, o, rfl, hb, fun i p hp => ?_⟩
    obtain ⟨c1, c2⟩ := hc i p hp
    exact ⟨cell_grown hg c1 hne, cell_grown hg c2 hne⟩⟩
section
variable {P : Program} (w : World)
/-- append of a list of items onto a row that is younger than the world a0, at a step of a region that draws -/
theorem step_app {ops : Array Oper} {o : Oper} {a : Act} {K : Act → World → Prop} {Q : Exit → Act → World → Prop} {E : Prop} (hgd : o.guard = none) (s x : Operand) (t : TypeId)
    (ho : o.op = .call { callee := .builtin .append, args := #[s, x], argTypes := #[t, t] })
    (a0 : World) (e : TypeId) (i : TypeInfo) (z : Value) (bytes : Nat) (ht : P.underlying t = some (.slice e)) (hi : P.info? e = some i) (hz : i.zero = some z)
    (hsize : i.size = 2) (hby : i.bytes = bytes) (hzs : z.cells.size = 2)
    (v : Value) (n : Nat) (xs : List (Int × Int)) (hs : a.eval s = v) (hb : Below a0.heap.size a0 w) (hown : w.ownsRow a0.heap.size e 2 v n (flat xs))
    (A : Option Addr) (m c : Nat) (news : List (Int × Int)) (hx : a.eval x = .slice A m c) (hr : Sl2 w w.heap.size A m news)
    (q : Nat) (hq : n + m = q) (h63 : q ≤ maxLen) (hbytes : q * bytes ≤ 140737488355328)
    (h : ∀ A' c' w', w'.ownsRow a0.heap.size e 2 (.slice A' q c') q (flat (xs ++ news)) → w.grownBy w' v.ownBlock → Below a0.heap.size a0 w' → K (a.put o.dst (.slice A' q c')) w') :
    if Region.wanted o (yielded ops a.tmps) = true then Oper.wp P o a w K Q else E := by
  subst hq
  exact step_append_sl2 w hgd s x t ho a0.heap.size e i z bytes ht hi hz hsize hby hzs v n (flat xs) hs hown w.heap.size A m c news hx hr h63 hbytes hb.size
    fun A' c' w' h1 h2 _ => h A' c' w' (by rw [flat_append]; exact h1) h2 (hb.grown h2 hb.size fun k hk => (hown.lt k hk).1)
end
theorem Sl2.here {w : World} {B n : Nat} {A : Option Addr} {l : List (Int × Int)} (h : Sl2 w B A n l) (hB : B ≤ w.heap.size) : Sl2 w w.heap.size A n l := h.more hB
theorem Sl2.own1 {w : World} {n c base : Nat} {A : Option Addr} {l : List (Int × Int)} {e : TypeId} (h : w.ownsRow base e 2 (.slice A n c) n (flat l)) (o : Obj) : Sl2 (w.alloc o) (w.alloc o).heap.size A n l :=
  ((Sl2.of_own h).alloc1 (Nat.le_refl _) o).here (by simp)
theorem Sl2.one_h {w : World} {g : Nat} (hg : w.heap.size = g) (p : Int × Int) (t : TypeId) : Sl2 (w.alloc (.cells #[.int .i64 p.1, .int .i64 p.2] t)) (w.alloc (.cells #[.int .i64 p.1, .int .i64 p.2] t)).heap.size (some ⟨g, 0, none⟩) 1 [p] :=
  (Sl2.one_at hg p t).more (by simp; omega)
theorem Sl2.alloc_h {w : World} {n : Nat} {A : Option Addr} {l : List (Int × Int)} (h : Sl2 w w.heap.size A n l) (o : Obj) : Sl2 (w.alloc o) (w.alloc o).heap.size A n l := (h.alloc1 (Nat.le_refl _) o).more (by simp)
theorem Sl2.drew_h {w : World} {n : Nat} {A : Option Addr} {l : List (Int × Int)} (h : Sl2 w w.heap.size A n l) : Sl2 w.drew w.drew.heap.size A n l := h
theorem Sl2.gr_h {w w' : World} {n b o : Nat} {l : List (Int × Int)} {row : Option Nat} (hg : w.grownBy w' row) (h : Sl2 w w.heap.size (some ⟨b, o, none⟩) n l) (hne : some b ≠ row) : Sl2 w' w'.heap.size (some ⟨b, o, none⟩) n l := (h.gr hg hne).more hg.size
theorem Sl2.below_h {w w' : World} {n : Nat} {A : Option Addr} {l : List (Int × Int)} (hb : Below w.heap.size w w') (h : Sl2 w w.heap.size A n l) : Sl2 w' w'.heap.size A n l := (h.below hb).more hb.size
theorem Sl2.own_h {w : World} {n c base : Nat} {A : Option Addr} {l : List (Int × Int)} {e : TypeId} (h : w.ownsRow base e 2 (.slice A n c) n (flat l)) : Sl2 w w.heap.size A n l := Sl2.of_own h
theorem own_empty_h {w : World} {g base : Nat} (hg : w.heap.size = g) (hb : base ≤ g) (e : TypeId) : (w.alloc (.cells #[] e)).ownsRow base e 2 (.slice (some ⟨g, 0, none⟩) 0 0) 0 (flat []) := own_empty_ge hg hb e
theorem own_one_h {w : World} {g base : Nat} (hg : w.heap.size = g) (hb : base ≤ g) (p : Int × Int) (e : TypeId) : (w.alloc (.cells #[.int .i64 p.1, .int .i64 p.2] e)).ownsRow base e 2 (.slice (some ⟨g, 0, none⟩) 1 1) 1 (flat [p]) := by
  subst hg
  exact ⟨by simp [flat_len], .inr ⟨w.heap.size, 1, _, rfl, hb, heap_alloc_new w _, Nat.le_refl _, by simp [maxLen], rfl, by simp [flat, itC]⟩⟩
theorem have_ {p q : Prop} (h : p) (k : p → q) : q := k h
theorem Blk.gr {w w' : World} {row : Option Nat} {g : Nat} {t : TypeId} {cs : Array Value} (hg : w.grownBy w' row) (h : Blk w g t cs) (hne : some g ≠ row) : Blk w' g t cs := h.grown hg hne
theorem Blk.call {w w' : World} {g : Nat} {t : TypeId} {cs : Array Value} (hb : Below w.heap.size w w') (h : Blk w g t cs) : Blk w' g t cs := h.below hb h.lt
theorem Bl.set4 {a w : World} {g : Nat} (h : Below a.heap.size a w) (hp : a.heap.size ≤ g) (u0 u1 u2 u3 : Value) : Below a.heap.size a ((((w.setCell ⟨g, 0, none⟩ u0).setCell ⟨g, 1, none⟩ u1).setCell ⟨g, 2, none⟩ u2).setCell ⟨g, 3, none⟩ u3) := below_far4 h hp _ _ _ _
theorem Blk.gro {w w' : World} {base e k n : Nat} {v : Value} {xs : List Value} {g : Nat} {t : TypeId} {cs : Array Value} (hg : w.grownBy w' v.ownBlock) (hne : e ≠ t) (ho : w.ownsRow base e k v n xs) (h : Blk w g t cs) : Blk w' g t cs := by
  refine h.grown hg fun he => ?_
  rcases ho.2 with ⟨rfl, _⟩ | ⟨g', cap, cur, rfl, _, hh, _⟩
  · simp [Value.ownBlock] at he
  · have : g = g' := by simpa [Value.ownBlock] using he
    subst this
    exact Blk.ne_ (t := e) hh h hne rfl
theorem push_fact1 {C H H1 : Nat} (h : (H + C - 1) % C = H1) (hH : H < C) (hC : C ≤ 65536) : IntKind.i64.wrap ((H : Int) + C) = (H : Int) + C ∧ IntKind.i64.wrap ((H : Int) + C - 1) = (H : Int) + C - 1 ∧ ((H : Int) + C - 1).tmod C = (H1 : Int) ∧ ¬ ((C : Int) = 0) ∧ ¬ (C = 0) := by
  refine ⟨by rw [IntKind.wrap_i64]; omega, by rw [IntKind.wrap_i64]; omega, ?_, by omega, by omega⟩
  rw [Int.tmod_eq_emod_of_nonneg (by omega), ← h]
  have : ((H : Int) + C - 1) = ((H + C - 1 : Nat) : Int) := by omega
  rw [this]; simp
theorem cell_far4 {w : World} {g b : Nat} (h : b ≠ g) {o : Nat} (x y z u : Value) {v : Value} (hc : w.cell? ⟨b, o, none⟩ = some v) : ((((w.setCell ⟨g, 0, none⟩ x).setCell ⟨g, 1, none⟩ y).setCell ⟨g, 2, none⟩ z).setCell ⟨g, 3, none⟩ u).cell? ⟨b, o, none⟩ = some v := by
  have e : ((((w.setCell ⟨g, 0, none⟩ x).setCell ⟨g, 1, none⟩ y).setCell ⟨g, 2, none⟩ z).setCell ⟨g, 3, none⟩ u).heap[b]? = w.heap[b]? := (((Below.heap_setCell _ _ _ b h).trans (Below.heap_setCell _ _ _ b h)).trans (Below.heap_setCell _ _ _ b h)).trans (Below.heap_setCell _ _ _ b h)
  rw [← hc]
  simp only [World.cell?, e]
theorem own_far2 {w : World} {base e k n : Nat} {v : Value} {xs : List Value} (h : w.ownsRow base e k v n xs) {g' : Nat} (hne : g' < base) (i j : Nat) (a b : Value) :
    ((w.setCell ⟨g', i, none⟩ a).setCell ⟨g', j, none⟩ b).ownsRow base e k v n xs := by
  have hp : ∀ g, v.ownBlock = some g → g ≠ g' := fun g hg => by have := (h.lt g hg).1; omega
  exact own_far (p := ⟨g', j, none⟩) (own_far (p := ⟨g', i, none⟩) h hp a) hp b
end Go.Proofs.Ytjbfefkbpnickaa
