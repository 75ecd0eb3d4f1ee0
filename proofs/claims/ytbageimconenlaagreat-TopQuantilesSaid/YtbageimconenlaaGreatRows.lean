/-
  No cell of these rows narrows 'for every input' (looked for: loops, veiled, ifaces, maps, wideKeys, modest, calm, conditions, laid).
  DERIVED. THE GIVEN ROWS OF THIS SEAT. 3 by the template 'for every input the law returns true; each argument reads behind the call as it read before'; 0 by the template 'total and deterministic' (their statements: YtbageimconenlaaGreatTotals.lean).
  GIVEN WITH THE SEED: the statements are not yours to turn. If you find one false, say at which input.
  Laid BY PROGRAM, IN A SANDBOX (cutbox-rows.mjs): the forced cells as the released guide's own fill.sh prints them over the translation eb50b6c71d6878f8… (all of the seat's roots in one cut). By AI agents, Wed Nov 11 2026. No macro, syntax, notation, axiom, sorry.
-/
import Derived.Test.YtbageimconenlaaGreatChecked
import GoSem.Claim
import GoSem.ClaimJoined
import GoSem.ClaimMapViews
import Derived.JoinedTies
import Derived.KernelRfl
namespace Go.Proofs.YtbageimconenlaaGreat
/- THE CELL 'sum', in the pinned program and in every row, IS THE sha256 OF THE DUMP (.gsa) THAT YtbageimconenlaaGreatProg.lean LOADS. Nothing in Lean hashes anything: it is a label: what it is worth is what the hold of that sum in a sandbox is worth. -/
noncomputable def Tryz.pinned : Pinned := { name := "ytbageimconenlaagreat", sum := "eb50b6c71d6878f8f4b617473a5ef415a4933cf0742502480794d63d2d033364", checked := Tryz.checked }
namespace Rows
def none {H : Type} : Left H := { results := [], args := [] }

/-- 'windowpanetop.TopSamples': WHATEVER THE INPUT: true; the input reads as it did. -/
def topSamplesSpec : ChangeSpec := { name := "topSamples", fn := fun _ => fun
  | [d1, d2, d3, d4] => { results := [.lit (.bool true)], args := [d1, d2, d3, d4] }
  | _ => none }
def topSamplesRow : OpenClaim := { program := "ytbageimconenlaagreat", sum := "eb50b6c71d6878f8f4b617473a5ef415a4933cf0742502480794d63d2d033364", func := "windowpane/windowpanetop.TopSamples", spec := "topSamples", inPlace := ["math/bits.Add64", "math/bits.Sub64"], unfollowed := true, recurses := true, named := ["math/bits.divideError", "math/bits.overflowError"], apart := false }
def TopSamplesSaid : Prop := topSamplesRow.holds Tryz.pinned (OpenSpec.ofChange topSamplesSpec)

/-- ITS FALSE NEIGHBOUR: 'it returns false'. Refute it at one input. -/
def topSamplesWrong : ChangeSpec := { name := "topSamples", fn := fun _ => fun
  | [d1, d2, d3, d4] => { results := [.lit (.bool false)], args := [d1, d2, d3, d4] }
  | _ => none }
def TopSamplesWrongFalsely : Prop := topSamplesRow.holds Tryz.pinned (OpenSpec.ofChange topSamplesWrong)

/-- 'windowpanetop.TopSpreadTwoWays': WHATEVER THE INPUT: true; the input reads as it did. -/
def topSpreadTwoWaysSpec : ChangeSpec := { name := "topSpreadTwoWays", fn := fun _ => fun
  | [d1, d2, d3] => { results := [.lit (.bool true)], args := [d1, d2, d3] }
  | _ => none }
def topSpreadTwoWaysRow : OpenClaim := { program := "ytbageimconenlaagreat", sum := "eb50b6c71d6878f8f4b617473a5ef415a4933cf0742502480794d63d2d033364", func := "windowpane/windowpanetop.TopSpreadTwoWays", spec := "topSpreadTwoWays", inPlace := ["math/bits.Add64", "math/bits.Sub64"], unfollowed := true, recurses := true, named := ["math/bits.divideError", "math/bits.overflowError"], apart := false }
def TopSpreadTwoWaysSaid : Prop := topSpreadTwoWaysRow.holds Tryz.pinned (OpenSpec.ofChange topSpreadTwoWaysSpec)

/-- ITS FALSE NEIGHBOUR: 'it returns false'. Refute it at one input. -/
def topSpreadTwoWaysWrong : ChangeSpec := { name := "topSpreadTwoWays", fn := fun _ => fun
  | [d1, d2, d3] => { results := [.lit (.bool false)], args := [d1, d2, d3] }
  | _ => none }
def TopSpreadTwoWaysWrongFalsely : Prop := topSpreadTwoWaysRow.holds Tryz.pinned (OpenSpec.ofChange topSpreadTwoWaysWrong)

/-- 'windowpanetop.TopQuantiles': WHATEVER THE INPUT: true; the input reads as it did. -/
def topQuantilesSpec : ChangeSpec := { name := "topQuantiles", fn := fun _ => fun
  | [d1, d2, d3, d4, d5] => { results := [.lit (.bool true)], args := [d1, d2, d3, d4, d5] }
  | _ => none }
def topQuantilesRow : OpenClaim := { program := "ytbageimconenlaagreat", sum := "eb50b6c71d6878f8f4b617473a5ef415a4933cf0742502480794d63d2d033364", func := "windowpane/windowpanetop.TopQuantiles", spec := "topQuantiles", inPlace := ["math/bits.Add64", "math/bits.Sub64"], unfollowed := true, recurses := true, named := ["math/bits.divideError", "math/bits.overflowError"], apart := false }
def TopQuantilesSaid : Prop := topQuantilesRow.holds Tryz.pinned (OpenSpec.ofChange topQuantilesSpec)

/-- ITS FALSE NEIGHBOUR: 'it returns false'. Refute it at one input. -/
def topQuantilesWrong : ChangeSpec := { name := "topQuantiles", fn := fun _ => fun
  | [d1, d2, d3, d4, d5] => { results := [.lit (.bool false)], args := [d1, d2, d3, d4, d5] }
  | _ => none }
def TopQuantilesWrongFalsely : Prop := topQuantilesRow.holds Tryz.pinned (OpenSpec.ofChange topQuantilesWrong)

/- THE SECOND FORM. 'bulk': how many values and letters a reading holds, each counted each time it is reached (what is shared counts as often as it is met; a slice's spare places count too). A statement '..UptoSaid' is the law's where the arguments, and the package variables that the reading takes, are together of bulk at most 1048576: NARROWER than '..Said'. Prove '..Said' where nothing that the law and all that it calls make is longer than what came in: it says more and counts as full. Else prove '..UptoSaid'. A law counts once. -/
mutual
def uptoBulk {H : Type} : DataW H → Nat
  | .lit (.string bytes) => bytes.length + 1
  | .lit _ => 1
  | .nil => 1
  | .ptr d => uptoBulk d + 1
  | .slice elems spare => uptoBulkAll elems + uptoBulkAll spare + 1
  | .agg parts => uptoBulkAll parts + 1
  | .iface _ d => uptoBulk d + 1
  | .map entries => uptoBulkEntries entries + 1
  | .held _ => 1
def uptoBulkAll {H : Type} : List (DataW H) → Nat
  | [] => 0
  | d :: r => uptoBulk d + uptoBulkAll r
def uptoBulkEntries {H : Type} : List (Lit × DataW H) → Nat
  | [] => 0
  | x :: r => uptoBulkEntry x + uptoBulkEntries r
def uptoBulkEntry {H : Type} : Lit × DataW H → Nat
  | (.string bytes, d) => bytes.length + uptoBulk d + 1
  | (_, d) => uptoBulk d + 1
 end
def uptoSmall : (H : Type) → List (DataW H) → Bool := fun _ ds => decide (uptoBulkAll ds ≤ 1048576)
def OpenSpec.upto (s : _root_.Go.ChangeSpec) : _root_.Go.OpenSpec := { _root_.Go.OpenSpec.ofChange s with cond := some uptoSmall }

/-- 'windowpanetop.TopSamples', WHERE WHAT IT READS IS OF BULK AT MOST 1048576: true; the input reads as it did. -/
def topSamplesUptoRow : OpenClaim := { program := "ytbageimconenlaagreat", sum := "eb50b6c71d6878f8f4b617473a5ef415a4933cf0742502480794d63d2d033364", func := "windowpane/windowpanetop.TopSamples", spec := "topSamples", inPlace := ["math/bits.Add64", "math/bits.Sub64"], unfollowed := true, recurses := true, named := ["math/bits.divideError", "math/bits.overflowError"], apart := false, narrowed := true }
def TopSamplesUptoSaid : Prop := topSamplesUptoRow.holds Tryz.pinned (OpenSpec.upto topSamplesSpec)

/-- 'windowpanetop.TopSpreadTwoWays', WHERE WHAT IT READS IS OF BULK AT MOST 1048576: true; the input reads as it did. -/
def topSpreadTwoWaysUptoRow : OpenClaim := { program := "ytbageimconenlaagreat", sum := "eb50b6c71d6878f8f4b617473a5ef415a4933cf0742502480794d63d2d033364", func := "windowpane/windowpanetop.TopSpreadTwoWays", spec := "topSpreadTwoWays", inPlace := ["math/bits.Add64", "math/bits.Sub64"], unfollowed := true, recurses := true, named := ["math/bits.divideError", "math/bits.overflowError"], apart := false, narrowed := true }
def TopSpreadTwoWaysUptoSaid : Prop := topSpreadTwoWaysUptoRow.holds Tryz.pinned (OpenSpec.upto topSpreadTwoWaysSpec)

/-- 'windowpanetop.TopQuantiles', WHERE WHAT IT READS IS OF BULK AT MOST 1048576: true; the input reads as it did. -/
def topQuantilesUptoRow : OpenClaim := { program := "ytbageimconenlaagreat", sum := "eb50b6c71d6878f8f4b617473a5ef415a4933cf0742502480794d63d2d033364", func := "windowpane/windowpanetop.TopQuantiles", spec := "topQuantiles", inPlace := ["math/bits.Add64", "math/bits.Sub64"], unfollowed := true, recurses := true, named := ["math/bits.divideError", "math/bits.overflowError"], apart := false, narrowed := true }
def TopQuantilesUptoSaid : Prop := topQuantilesUptoRow.holds Tryz.pinned (OpenSpec.upto topQuantilesSpec)

end Rows
end Go.Proofs.YtbageimconenlaaGreat
