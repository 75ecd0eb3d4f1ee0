/- One byte of a text, read from a tape: the contract of the closure. -/
import Derived.Test.YtlcgpldngooekaaTS
namespace Go.Proofs.Ytlcgpldngooekaa
open Go.RowKit
set_option linter.unusedVariables false
/-- a byte was read into block g -/
def ByteR (l : List Int) (A : Option Addr) (n c tb a : Nat) (bad : Bool) (g : Nat) (w : World) (e : Ending) (w' : World) : Prop :=
  e = .returned (.tuple #[]) ∧ ∃ (y : Int) (a' : Nat) (bad' : Bool), (0 ≤ y ∧ y ≤ 255) ∧ Took IsByte (leftV l a bad) (leftV l a' bad') y ∧ TR l A n c w' tb a' bad' ∧ Blk w' g 5 #[.int .u8 y] ∧ Keep tb g w w'
theorem byte_took {l : List Int} {a a1 : Nat} {bad b1 b2 : Bool} {m : Int} (hst : StepI l a bad m a1 b1) (hc : (0 ≤ m ∧ m ≤ 255) ∧ b2 = b1 ∨ ¬ (0 ≤ m ∧ m ≤ 255) ∧ b2 = true) : Took IsByte (leftV l a bad) (leftV l a1 b2) (m % 256) := by
  refine ⟨fun R hR => ?_, fun y R hy hs => ?_⟩
  · rcases hc with ⟨h1, h2⟩ | ⟨h1, h2⟩
    · rw [show m % 256 = m by omega]
      exact ⟨h1, hst.2.1 R (by rw [← h2]; exact hR)⟩
    · rw [h2] at hR; cases hR
  · have h1 := hst.2.2 y R hs
    have h2 := hst.2.1 R h1
    rw [hs] at h2
    injection h2 with h2
    injection h2 with h2 _
    rcases hc with ⟨h3, h4⟩ | ⟨h3, h4⟩
    · rw [h4]; exact h1
    · exact absurd (by rw [← h2]; exact hy) h3
theorem elem_rd {l : List Int} {A : Option Addr} {n c B tb a g tc : Nat} {bad : Bool} {w : World} {x : Int} (hT : TR l A n c w tb a bad) (hS : Sl w B A n (l.map (Value.int .u8))) (hB : B ≤ w.heap.size) (hb : Bytes l) (hn : n ≤ 9223372036854775000)
    (hG : Blk w g 5 #[.int .u8 x]) (hx : 0 ≤ x ∧ x ≤ 255) (hC : Blk w tc 76 #[.pointer (some ⟨tb, 0, none⟩)]) (hne : g ≠ tb) (h1 : tc ≠ tb) (h2 : tc ≠ g) :
    Calls Try.prog 66 #[.pointer (some ⟨g, 0, none⟩), .pointer (some ⟨tc, 0, none⟩)] w (ByteR l A n c tb a bad g w) := by
  have hlt := hG.lt
  have htl := hT.1.lt
  have hcl := hC.lt
  have C67 := hide (within_rd (x := x) 0 255 (hT.alloc (.cells #[.int .i64 x] 2)) (hS.alloc hB (.cells #[.int .i64 x] 2)) hb hn (Blk.new w 2 #[.int .i64 x]) (o := 0) rfl ⟨by omega, by omega⟩ (by omega))
  have g0 : w.cell? ⟨g, 0, none⟩ = some (.int .u8 x) := hG.cell 0
  have qG : Blk (w.alloc (.cells #[.int .i64 x] 2)) g 5 #[.int .u8 x] := hG.alloc _
  have c0 : (w.alloc (.cells #[.int .i64 x] 2)).cell? ⟨tc, 0, none⟩ = some (.pointer (some ⟨tb, 0, none⟩)) := (hC.alloc _).cell 0
  have qK : Keep tb g w (w.alloc (.cells #[.int .i64 x] 2)) := (Keep.refl _ _ _).alloc _
  have HG := hide qG
  have HK := hide qK
  have HX := hide hx
  have hw : IntKind.i64.wrap x = x := by
    rw [show IntKind.i64.wrap x = wrap64 x from IntWalk.i64_left _]
    exact IntWalk.wrap64_in _ ⟨by omega, by omega⟩
  clear hT hS hG qG qK hC hx
  unfold WithinR at C67
  go_enter Try.func66, Try.ntmps66
  go_wp2_with (fail)
  refine C67.out.mono ?_
  rintro e w2 ⟨rfl, m, a1, b1, b2, hfm, hst, hcase, hT2, hX2, hK2⟩
  have G2 := hide (hK2.blk HG.out hne (by omega))
  have K2 := hide (HK.out.own hK2 (Nat.le_refl _))
  have x0 : w2.cell? ⟨w.heap.size, 0, none⟩ = some (.int .i64 m) := hX2.cell 0
  have g1 : w2.cell? ⟨g, 0, none⟩ = some (.int .u8 x) := G2.out.cell 0
  have f1 := G2.out.frozen 0
  have HST := hide hst
  have HC := hide hcase
  have HT2 := hide hT2
  clear hst hcase hT2 hX2 hK2 hfm
  go_wp2
  go_end0
  exact ⟨rfl, m % 256, a1, b2, by omega, byte_took HST.out HC.out, HT2.out.far (by simp; omega) _, by simpa using G2.out.set_ 0 (.int .u8 (m % 256)), K2.out.set_g _ _⟩
end Go.Proofs.Ytlcgpldngooekaa
