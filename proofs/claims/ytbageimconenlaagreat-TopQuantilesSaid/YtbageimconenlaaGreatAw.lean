/- A chain and several chains, in plain words: what one more item does to them, and how many draws it takes. Plain. | A chain: made, tested, asked: the contracts. | What the sign of life reaches: small functions at given numbers. -/
import Derived.Test.YtbageimconenlaaGreatKA
import Derived.Test.YtbageimconenlaaGreatMa
namespace Go.Proofs.YtbageimconenlaaGreat
open Go.RowKit
set_option linter.unusedVariables false
structure Ch where
  i : Int
  nx : Int
  ls : List (Int × Int)
structure VCh (W cap : Int) (c : Ch) : Prop where
  w1 : 1 ≤ W
  w2 : W ≤ 1048576
  c1 : 1 ≤ cap
  c2 : cap ≤ 64
  len : (c.ls.length : Int) ≤ cap
  i0 : 0 ≤ c.i
  i1 : c.i ≤ 1099511627776
  zero : c.i = 0 → c.ls = [] ∧ c.nx = 0
  pos : 0 < c.i → c.ls ≠ []
  el : ∀ (j : Nat) (p : Int × Int), c.ls[j]? = some p → -4096 ≤ p.2 ∧ p.2 ≤ 4096 ∧ 1 ≤ p.1 ∧ p.1 ≤ c.i ∧ c.i - W < p.1
  up : ∀ (j : Nat) (p q : Int × Int), c.ls[j]? = some p → c.ls[j + 1]? = some q → p.1 < q.1 ∧ q.1 ≤ p.1 + W
  nxt : ∀ (p : Int × Int), c.ls[c.ls.length - 1]? = some p → c.i < c.nx ∧ c.nx ≤ p.1 + W
theorem VCh.last {W cap : Int} {c : Ch} (h : VCh W cap c) (hi : 0 < c.i) : ∃ p, c.ls[c.ls.length - 1]? = some p := by
  have := h.pos hi
  have hl : 0 < c.ls.length := List.length_pos_iff.2 this
  exact ⟨_, List.getElem?_eq_getElem (by omega)⟩
end Go.Proofs.YtbageimconenlaaGreat
namespace Go.Proofs.YtbageimconenlaaGreat
open Go.RowKit
set_option linter.unusedVariables false
def encL (p : Int × Int) : List Value := [.int .i64 p.1, .int .i64 p.2]
def lk (l : List (Int × Int)) : List Value := l.flatMap encL
theorem lk_append (l m : List (Int × Int)) : lk (l ++ m) = lk l ++ lk m := by simp [lk]
def RetB (v : Value) (w : World) (e : Ending) (w' : World) : Prop := e = .returned v ∧ Below w.heap.size w w'
def HCh (w : World) (B : Nat) (W cap : Int) (v : Value) (c : Ch) : Prop := ∃ (A : Option Addr) (k : Nat), v = .agg #[.int .i64 W, .int .i64 cap, .int .i64 c.i, .int .i64 c.nx, .slice A c.ls.length k] ∧ SlK w B A c.ls.length 2 (lk c.ls)
theorem HCh.below {w w' : World} {B : Nat} {W cap : Int} {v : Value} {c : Ch} (h : HCh w B W cap v c) (hb : Below B w w') : HCh w' B W cap v c := by
  obtain ⟨A, k, e, h⟩ := h
  exact ⟨A, k, e, h.below hb⟩
theorem HCh.more {w : World} {B B' : Nat} {W cap : Int} {v : Value} {c : Ch} (h : HCh w B W cap v c) (hb : B ≤ B') : HCh w B' W cap v c := by
  obtain ⟨A, k, e, h⟩ := h
  exact ⟨A, k, e, h.more hb⟩
end Go.Proofs.YtbageimconenlaaGreat
namespace Go.Proofs.YtbageimconenlaaGreat
open Go.RowKit
set_option linter.unusedVariables false
set_option linter.unusedSimpArgs false
theorem Blk.castA {w : World} {g : Nat} {t : TypeId} {C C' : Array Value} (h : Blk w g t C) (e : C = C') : Blk w g t C' := e ▸ h
section
variable {P : Program}
theorem run_loadB {T t : TypeId} {d : TypeDesc} {C : Array Value} {w : World} {g : Nat} (hB : Blk w g t C) (hu : P.underlying T = some d) (hd : d.isRow = true) (hi : (P.info? T).map (·.size) = some C.size) : (loadVar T ⟨g, 0, none⟩).run P w = .ok (.agg C) w := by
  have h := run_loadVar_mid w g 0 T C.toList d (fun j v hv => by rw [Nat.zero_add]; exact hB.cell j |>.trans (by simpa using hv)) hu hd (by simpa using hi)
  rwa [Array.toArray_toList] at h
theorem resB1 {fn : Func} {p : Tmp} {T t : TypeId} (h : fn.results = #[.cell p T]) (tmps : Array Value) {w : World} {g : Nat} {C : Array Value} {d : TypeDesc} (hp : tmps.getD p undef = .pointer (some ⟨g, 0, none⟩)) (hB : Blk w g t C) (hu : P.underlying T = some d) (hd : d.isRow = true) (hi : (P.info? T).map (·.size) = some C.size) : (results fn tmps).run P w = .ok (.agg C) w := by
  have hp' : tmps[p]?.getD undef = .pointer (some ⟨g, 0, none⟩) := by simpa using hp
  simp [results, h, hp', asAddr, run_loadB hB hu hd hi]
theorem resB2 {fn : Func} {p q : Tmp} {T t : TypeId} (h : fn.results = #[.cell p T, .tmp q]) (tmps : Array Value) {w : World} {g : Nat} {C : Array Value} {d : TypeDesc} (hp : tmps.getD p undef = .pointer (some ⟨g, 0, none⟩)) (hB : Blk w g t C) (hu : P.underlying T = some d) (hd : d.isRow = true) (hi : (P.info? T).map (·.size) = some C.size) : (results fn tmps).run P w = .ok (.tuple #[.agg C, tmps.getD q undef]) w := by
  have hp' : tmps[p]?.getD undef = .pointer (some ⟨g, 0, none⟩) := by simpa using hp
  simp [results, h, hp', asAddr, run_loadB hB hu hd hi]
end
theorem size68 : (Tryz.prog.info? 68).map (·.size) = some 2 := by kernel_rfl
theorem size70 : (Tryz.prog.info? 70).map (·.size) = some 6 := by kernel_rfl
set_option maxRecDepth 100000 in
theorem aw_of (x : Int) (w : World) : Calls Tryz.prog 67 #[.int .i64 x] w (RetB (.agg #[.int .i64 x, .int .i64 1]) w) := by
  unfold RetB
  go_enter Tryz.func67, Tryz.ntmps67
  go_wp2
  refine bodyPost_ret (resB1 (t := 68) (C := #[.int .i64 x, .int .i64 1]) rfl _ rfl (by refine Blk.castA (C := ?c) ?h ?e; rotate_left; (· (repeat (first | with_reducible exact Blk.new _ _ _ | (with_reducible refine Blk.new_at ?_ _ _; (simp; done)) | with_reducible refine Blk.alloc ?_ _ | with_reducible refine Blk.drew ?_ | with_reducible refine Blk.set_ ?_ _ _ | with_reducible refine Blk.far ?_ (by simp; try omega) _))); (· rfl)) Tryz.underlying68 rfl size68) rfl ?_
  exact ⟨by rfl, by (repeat (first | with_reducible exact Below.refl _ _ | with_reducible refine Bl.alloc' ?_ _ | with_reducible refine Below.drew ?_ | with_reducible refine Bl.set' ?_ (by simp; try omega) _))⟩
set_option maxRecDepth 100000 in
theorem aw_good (w : World) : Calls Tryz.prog 86 #[.int .i64 5, .int .i64 1, .int .i64 5, .int .i64 0] w (RetB (.bool true) w) := by
  unfold RetB
  go_enter Tryz.func86, Tryz.ntmps86
  go_wp2
  go_ret
  exact ⟨by first | rfl | kernel_rfl, by (repeat (first | with_reducible exact Below.refl _ _ | with_reducible refine Bl.alloc' ?_ _ | with_reducible refine Below.drew ?_ | with_reducible refine Bl.set' ?_ (by simp; try omega) _))⟩
set_option maxRecDepth 100000 in
theorem aw_level (w : World) : Calls Tryz.prog 175 #[.int .i64 0] w (RetB (.bool true) w) := by
  unfold RetB
  go_enter Tryz.func175, Tryz.ntmps175
  go_wp2
  go_ret
  exact ⟨by first | rfl | kernel_rfl, by (repeat (first | with_reducible exact Below.refl _ _ | with_reducible refine Bl.alloc' ?_ _ | with_reducible refine Below.drew ?_ | with_reducible refine Bl.set' ?_ (by simp; try omega) _))⟩
set_option maxRecDepth 100000 in
theorem aw_live (w : World) : Calls Tryz.prog 138 #[.int .i64 0, .int .i64 5, .int .i64 0] w (RetB (.bool true) w) := by
  unfold RetB
  go_enter Tryz.func138, Tryz.ntmps138
  go_wp2
  go_ret
  exact ⟨by first | rfl | kernel_rfl, by (repeat (first | with_reducible exact Below.refl _ _ | with_reducible refine Bl.alloc' ?_ _ | with_reducible refine Below.drew ?_ | with_reducible refine Bl.set' ?_ (by simp; try omega) _))⟩
end Go.Proofs.YtbageimconenlaaGreat
