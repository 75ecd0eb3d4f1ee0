/- Frames of memory: all but two blocks stands; all but one block and a row of the call's own stands. -/
import Derived.Test.YtlcgpldngooekaaWords
namespace Go.Proofs.Ytlcgpldngooekaa
open Go.RowKit
/-- from w to w' all blocks but tb and g stand -/
structure Keep (tb g : Nat) (w w' : World) : Prop where
  os : w'.os = w.os
  tape : w'.tape = w.tape
  output : w'.output = w.output
  size : w.heap.size ≤ w'.heap.size
  block : ∀ k, k < w.heap.size → k ≠ tb → k ≠ g → w'.heap[k]? = w.heap[k]?
section
variable {tb g h : Nat} {a b c w w' : World}
theorem Keep.refl (tb g : Nat) (w : World) : Keep tb g w w := ⟨rfl, rfl, rfl, Nat.le_refl _, fun _ _ _ _ => rfl⟩
theorem Keep.trans (x : Keep tb g a b) (y : Keep tb g b c) : Keep tb g a c :=
  ⟨y.os.trans x.os, y.tape.trans x.tape, y.output.trans x.output, Nat.le_trans x.size y.size, fun k hk h1 h2 => (y.block k (Nat.lt_of_lt_of_le hk x.size) h1 h2).trans (x.block k hk h1 h2)⟩
/-- a local block h of the call's own may turn -/
theorem Keep.own (x : Keep tb g a b) (y : Keep tb h b c) (hh : a.heap.size ≤ h) : Keep tb g a c :=
  ⟨y.os.trans x.os, y.tape.trans x.tape, y.output.trans x.output, Nat.le_trans x.size y.size, fun k hk h1 h2 => (y.block k (Nat.lt_of_lt_of_le hk x.size) h1 (by omega)).trans (x.block k hk h1 h2)⟩
theorem Keep.alloc (x : Keep tb g a b) (o : Obj) : Keep tb g a (b.alloc o) :=
  ⟨x.os, x.tape, x.output, Nat.le_trans x.size (by simp), fun k hk h1 h2 => (Below.heap_alloc b o k (Nat.lt_of_lt_of_le hk x.size)).trans (x.block k hk h1 h2)⟩
theorem Keep.drew (x : Keep tb g a b) : Keep tb g a b.drew := ⟨x.os, x.tape, x.output, x.size, x.block⟩
theorem Keep.undrew (x : Keep tb g a.drew b) : Keep tb g a b := ⟨x.os, x.tape, x.output, x.size, x.block⟩
theorem Keep.set_tb (x : Keep tb g a b) (i : Nat) (u : Value) : Keep tb g a (b.setCell ⟨tb, i, none⟩ u) :=
  ⟨x.os, x.tape, x.output, by simpa [World.setCell] using x.size, fun k hk h1 h2 => (Below.heap_setCell b ⟨tb, i, none⟩ u k h1).trans (x.block k hk h1 h2)⟩
theorem Keep.set_g (x : Keep tb g a b) (i : Nat) (u : Value) : Keep tb g a (b.setCell ⟨g, i, none⟩ u) :=
  ⟨x.os, x.tape, x.output, by simpa [World.setCell] using x.size, fun k hk h1 h2 => (Below.heap_setCell b ⟨g, i, none⟩ u k h2).trans (x.block k hk h1 h2)⟩
theorem Keep.set_own (x : Keep tb g a b) (hh : a.heap.size ≤ h) (i : Nat) (u : Value) : Keep tb g a (b.setCell ⟨h, i, none⟩ u) :=
  ⟨x.os, x.tape, x.output, by simpa [World.setCell] using x.size, fun k hk h1 h2 => (Below.heap_setCell b ⟨h, i, none⟩ u k (by simp; omega)).trans (x.block k hk h1 h2)⟩
theorem Keep.below {B : Nat} (x : Keep tb g a b) {w : World} (y : Below B w a) (h1 : B ≤ tb) (h2 : B ≤ g) (h3 : B ≤ a.heap.size) : Below B w b :=
  y.trans ⟨x.os, x.tape, x.output, x.size, fun k hk => x.block k (by omega) (by omega) (by omega)⟩
theorem Keep.blk {t : TypeId} {cs : Array Value} (x : Keep tb g a b) {q : Nat} (y : Blk a q t cs) (h1 : q ≠ tb) (h2 : q ≠ g) : Blk b q t cs := (x.block q y.lt h1 h2).trans y
theorem Keep.sl {B n : Nat} {A : Option Addr} {xs : List Value} (x : Keep tb g a b) (y : Sl a B A n xs) (h1 : B ≤ tb) (h2 : B ≤ g) (h3 : B ≤ a.heap.size) : Sl b B A n xs := y.below ⟨x.os, x.tape, x.output, x.size, fun k hk => x.block k (by omega) (by omega) (by omega)⟩
theorem Keep.grown {row : Option Nat} (x : Keep tb g a b) (y : b.grownBy c row) (hr : ∀ k, row = some k → a.heap.size ≤ k) : Keep tb g a c :=
  ⟨y.os.trans x.os, y.tape.trans x.tape, y.output.trans x.output, Nat.le_trans x.size y.size, fun k hk h1 h2 => (y.block k (Nat.lt_of_lt_of_le hk x.size) (fun e => by have := hr k e.symm; omega)).trans (x.block k hk h1 h2)⟩
end
end Go.Proofs.Ytlcgpldngooekaa
