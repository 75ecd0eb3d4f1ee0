/- One number of another type, or in a range, read from a tape: the contracts. -/
import Derived.Test.YtlcgpldngooekaaTI
namespace Go.Proofs.Ytlcgpldngooekaa
open Go.RowKit
set_option linter.unusedVariables false
theorem TR.alloc {l : List Int} {A : Option Addr} {n c tb a : Nat} {bad : Bool} {w : World} (h : TR l A n c w tb a bad) (o : Obj) : TR l A n c (w.alloc o) tb a bad := ⟨h.1.alloc o, h.2⟩
theorem TR.far {l : List Int} {A : Option Addr} {n c tb a : Nat} {bad : Bool} {w : World} (h : TR l A n c w tb a bad) {p : Addr} (hp : tb ≠ p.block) (u : Value) : TR l A n c (w.setCell p u) tb a bad := ⟨h.1.far hp u, h.2⟩
set_option maxHeartbeats 1000000 in
theorem small_rd {l : List Int} {A : Option Addr} {n c B tb a : Nat} {bad : Bool} {w : World} {g o : Nat} {tg : TypeId} {cs : Array Value} {x : Int} (hT : TR l A n c w tb a bad) (hS : Sl w B A n (l.map (Value.int .u8))) (hB : B ≤ w.heap.size) (hb : Bytes l) (hn : n ≤ 9223372036854775000)
    (hG : Blk w g tg cs) (hx : cs[o]? = some (.int .i64 x)) (hfx : Fit x) (hne : g ≠ tb) :
    Calls Try.prog 56 #[.pointer (some ⟨tb, 0, none⟩), .pointer (some ⟨g, o, none⟩)] w (IntR l A n c tb a bad g o tg cs w) := by
  have hlt := hG.lt
  have htl := hT.1.lt
  have C57 := hide (int_rd (x := x) (hT.alloc (.cells #[.int .i64 x] 2)) (hS.alloc hB (.cells #[.int .i64 x] 2)) hb hn (Blk.new w 2 #[.int .i64 x]) (o := 0) rfl hfx (by omega))
  have g0 : w.cell? ⟨g, o, none⟩ = some (.int .i64 x) := (hG.cell o).trans hx
  have qG : Blk (w.alloc (.cells #[.int .i64 x] 2)) g tg cs := hG.alloc _
  have qK : Keep tb g w (w.alloc (.cells #[.int .i64 x] 2)) := (Keep.refl _ _ _).alloc _
  have HG := hide qG
  have HX := hide hx
  have HK := hide qK
  clear hT hS hG hx hfx qG qK
  unfold IntR at C57
  go_enter Try.func56, Try.ntmps56
  go_wp2_with (fail)
  refine C57.out.mono ?_
  rintro e w2 ⟨rfl, y, a', bad', hfy, hst, hT2, hX2, hK2⟩
  have G2 := hide (hK2.blk HG.out (by omega) (by omega))
  have K2 := hide (HK.out.own hK2 (Nat.le_refl _))
  have x0 : w2.cell? ⟨w.heap.size, 0, none⟩ = some (.int .i64 y) := hX2.cell 0
  have g1 : w2.cell? ⟨g, o, none⟩ = some (.int .i64 x) := (G2.out.cell o).trans HX.out
  have f1 := G2.out.frozen o
  have HST := hide hst
  have HFY := hide hfy
  have HT2 := hide hT2
  clear hst hfy hT2 hX2 hK2
  go_wp2
  go_end0
  exact ⟨rfl, y, a', bad', HFY.out, HST.out, HT2.out.far (by simp; omega) _, G2.out.set_ o _, K2.out.set_g _ _⟩
/-- a number was read, and found bad where it lies outside low to high -/
def WithinR (lo hi : Int) (l : List Int) (A : Option Addr) (n c tb a : Nat) (bad : Bool) (g o : Nat) (tg : TypeId) (cs : Array Value) (w : World) (e : Ending) (w' : World) : Prop :=
  e = .returned (.tuple #[]) ∧ ∃ (x : Int) (a' : Nat) (b1 b2 : Bool), Fit x ∧ StepI l a bad x a' b1 ∧ ((lo ≤ x ∧ x ≤ hi) ∧ b2 = b1 ∨ ¬ (lo ≤ x ∧ x ≤ hi) ∧ b2 = true) ∧ TR l A n c w' tb a' b2 ∧ Blk w' g tg (cs.setIfInBounds o (.int .i64 x)) ∧ Keep tb g w w'
set_option maxHeartbeats 1000000 in
theorem within_rd {l : List Int} {A : Option Addr} {n c B tb a : Nat} {bad : Bool} {w : World} {g o : Nat} {tg : TypeId} {cs : Array Value} {x : Int} (lo hi : Int) (hT : TR l A n c w tb a bad) (hS : Sl w B A n (l.map (Value.int .u8))) (hb : Bytes l) (hn : n ≤ 9223372036854775000)
    (hG : Blk w g tg cs) (hx : cs[o]? = some (.int .i64 x)) (hfx : Fit x) (hne : g ≠ tb) :
    Calls Try.prog 67 #[.pointer (some ⟨tb, 0, none⟩), .pointer (some ⟨g, o, none⟩), .int .i64 lo, .int .i64 hi] w (WithinR lo hi l A n c tb a bad g o tg cs w) := by
  have ho : o < cs.size := (Array.getElem?_eq_some_iff.1 hx).1
  have C57 := hide (int_rd hT hS hb hn hG hx hfx hne)
  clear hT hS hG hx hfx
  unfold IntR at C57
  go_enter Try.func67, Try.ntmps67
  go_wp2_with (fail)
  refine C57.out.mono ?_
  rintro e w2 ⟨rfl, y, a', bad', hfy, hst, hT2, hG2, hK2⟩
  have t2 : w2.cell? ⟨tb, 2, none⟩ = some (.bool true) := hT2.1.cell 2
  have t3 : w2.cell? ⟨tb, 3, none⟩ = some (.bool bad') := hT2.1.cell 3
  have f3 := hT2.1.frozen 3
  have g0 : w2.cell? ⟨g, o, none⟩ = some (.int .i64 y) := (hG2.cell o).trans (by simp [ho])
  have HST := hide hst
  have HFY := hide hfy
  have HT2 := hide hT2
  have HG2 := hide hG2
  have HK2 := hide hK2
  clear hst hfy hT2 hG2 hK2
  by_cases h1 : lo ≤ y
  · have d1 : decide (y < lo) = false := by simp; omega
    by_cases h2 : y ≤ hi
    · have d2 : decide (hi < y) = false := by simp; omega
      have HH := hide (show lo ≤ y ∧ y ≤ hi from ⟨h1, h2⟩)
      clear h1 h2
      go_wp2
      go_end0
      exact ⟨rfl, y, a', bad', bad', HFY.out, HST.out, .inl ⟨HH.out, rfl⟩, HT2.out, HG2.out, HK2.out⟩
    · have d2 : decide (hi < y) = true := by simp; omega
      have HH := hide (show ¬ (lo ≤ y ∧ y ≤ hi) from fun c => h2 c.2)
      clear h1 h2
      go_wp2
      go_end0
      exact ⟨rfl, y, a', bad', true, HFY.out, HST.out, .inr ⟨HH.out, rfl⟩, ⟨HT2.out.1.set_ 3 _, HT2.out.2⟩, HG2.out.far hne _, HK2.out.set_tb _ _⟩
  · have d1 : decide (y < lo) = true := by simp; omega
    have HH := hide (show ¬ (lo ≤ y ∧ y ≤ hi) from fun c => h1 c.1)
    clear h1
    go_wp2
    go_end0
    exact ⟨rfl, y, a', bad', true, HFY.out, HST.out, .inr ⟨HH.out, rfl⟩, ⟨HT2.out.1.set_ 3 _, HT2.out.2⟩, HG2.out.far hne _, HK2.out.set_tb _ _⟩
end Go.Proofs.Ytlcgpldngooekaa
