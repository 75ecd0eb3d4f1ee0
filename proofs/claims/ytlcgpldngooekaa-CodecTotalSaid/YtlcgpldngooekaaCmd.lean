/- Commands as lists of numbers. Plain. -/
import Derived.Test.YtlcgpldngooekaaVB
namespace Go.Proofs.Ytlcgpldngooekaa
open Go.RowKit
/-- the numbers of a command -/
structure CmdD where
  n0 : Int
  n1 : Int
  n2 : Int
  n3 : Int
  n4 : Int
  n5 : Int
  n6 : Int
  n7 : Int
  n8 : Int
  n9 : Int
  n10 : Int
  n11 : Int
  ds : List Int
  n13 : Int
  n14 : Int
  n15 : Int
  bs : List Int
def CmdD.flat (x : CmdD) : List Int := flatC x.n0 x.n1 x.n2 x.n3 x.n4 x.n5 x.n6 x.n7 x.n8 x.n9 x.n10 x.n11 x.ds x.n13 x.n14 x.n15 x.bs
def CmdD.Ok (x : CmdD) : Prop := (Fit x.n0 ∧ Fit x.n1 ∧ Fit x.n2 ∧ Fit x.n3 ∧ Fit x.n4 ∧ Fit x.n5 ∧ Fit x.n6 ∧ Fit x.n7 ∧ Fit x.n8 ∧ Fit x.n9 ∧ Fit x.n10 ∧ Fit x.n11 ∧ Fit x.n13 ∧ Fit x.n14 ∧ Fit x.n15) ∧ (∀ d ∈ x.ds, Fit d) ∧ (∀ d ∈ x.bs, 0 ≤ d ∧ d ≤ 255)
def CmdD.zero : CmdD := ⟨0, 0, 0, 0, 0, 0, 0, 0, 0, 0, 0, 0, [], 0, 0, 0, []⟩
def CmdD.cells (x : CmdD) (A1 : Option Addr) (c1 : Nat) (A2 : Option Addr) (c2 : Nat) : Array Value := #[.int .i64 x.n0, .int .i64 x.n1, .int .i64 x.n2, .int .i64 x.n3, .int .i64 x.n4, .int .i64 x.n5, .int .i64 x.n6, .int .i64 x.n7, .int .i64 x.n8, .int .i64 x.n9, .int .i64 x.n10, .int .i64 x.n11, .slice A1 x.ds.length c1, .int .i64 x.n13, .int .i64 x.n14, .int .i64 x.n15, .slice A2 x.bs.length c2]
/-- a command's value holds the numbers x -/
def HoldsC (w : World) (B : Nat) (v : Value) (x : CmdD) : Prop := ∃ A1 c1 A2 c2, v = .agg (x.cells A1 c1 A2 c2) ∧ Sl w B A1 x.ds.length (x.ds.map (Value.int .i64)) ∧ Sl w B A2 x.bs.length (x.bs.map (Value.int .u8))
theorem CmdD.zero_ok : CmdD.zero.Ok := by
  simp [CmdD.Ok, CmdD.zero, Fit]
theorem HoldsC.keep {w w' : World} {B : Nat} {v : Value} {x : CmdD} (h : HoldsC w B v x) (hb : Below B w w') : HoldsC w' B v x := by
  obtain ⟨A1, c1, A2, c2, e, h1, h2⟩ := h
  exact ⟨A1, c1, A2, c2, e, h1.below hb, h2.below hb⟩
theorem HoldsC.more {w : World} {B B' : Nat} {v : Value} {x : CmdD} (h : HoldsC w B v x) (hb : B ≤ B') : HoldsC w B' v x := by
  obtain ⟨A1, c1, A2, c2, e, h1, h2⟩ := h
  exact ⟨A1, c1, A2, c2, e, h1.more hb, h2.more hb⟩
end Go.Proofs.Ytlcgpldngooekaa
