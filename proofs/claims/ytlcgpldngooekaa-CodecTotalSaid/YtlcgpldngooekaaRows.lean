/-
  No cell of these rows narrows 'for every input' (looked for: loops, veiled, ifaces, maps, wideKeys, modest, calm, conditions, laid).
  DERIVED. THE GIVEN ROWS OF THIS SEAT. 9 by the template 'for every input the law returns true; each argument reads behind the call as it read before'; 0 by the template 'total and deterministic' (their statements: YtlcgpldngooekaaTotals.lean).
  GIVEN WITH THE SEED: the statements are not yours to turn. If you find one false, say at which input.
  Laid BY PROGRAM, IN A SANDBOX (cutbox-rows.mjs): the forced cells as the released guide's own fill.sh prints them over the translation 4f8353377de78d06… (all of the seat's roots in one cut). By AI agents, Wed Nov 11 2026. No macro, syntax, notation, axiom, sorry.
-/
import Derived.Test.YtlcgpldngooekaaChecked
import GoSem.Claim
import GoSem.ClaimJoined
import GoSem.ClaimMapViews
import Derived.JoinedTies
import Derived.KernelRfl
namespace Go.Proofs.Ytlcgpldngooekaa
/- THE CELL 'sum', in the pinned program and in every row, IS THE sha256 OF THE DUMP (.gsa) THAT YtlcgpldngooekaaProg.lean LOADS. Nothing in Lean hashes anything: it is a label: what it is worth is what the hold of that sum in a sandbox is worth. -/
noncomputable def Try.pinned : Pinned := { name := "ytlcgpldngooekaa", sum := "4f8353377de78d06f7f8394a64366ae42cbd03e9c4dc14082819490f1202ea92", checked := Try.checked }
namespace Rows
def none {H : Type} : Left H := { results := [], args := [] }

/-- 'windowpanelaw27.CodecSums': WHATEVER THE INPUT: true; the input reads as it did. -/
def codecSumsSpec : ChangeSpec := { name := "codecSums", fn := fun _ => fun
  | [d1, d2, d3] => { results := [.lit (.bool true)], args := [d1, d2, d3] }
  | _ => none }
def codecSumsRow : OpenClaim := { program := "ytlcgpldngooekaa", sum := "4f8353377de78d06f7f8394a64366ae42cbd03e9c4dc14082819490f1202ea92", func := "windowpane/windowpanelaw27.CodecSums", spec := "codecSums", apart := false }
def CodecSumsSaid : Prop := codecSumsRow.holds Try.pinned (OpenSpec.ofChange codecSumsSpec)

/-- ITS FALSE NEIGHBOUR: 'it returns false'. Refute it at one input. -/
def codecSumsWrong : ChangeSpec := { name := "codecSums", fn := fun _ => fun
  | [d1, d2, d3] => { results := [.lit (.bool false)], args := [d1, d2, d3] }
  | _ => none }
def CodecSumsWrongFalsely : Prop := codecSumsRow.holds Try.pinned (OpenSpec.ofChange codecSumsWrong)

/-- 'windowpanelaw27.CodecReads': WHATEVER THE INPUT: true; the input reads as it did. -/
def codecReadsSpec : ChangeSpec := { name := "codecReads", fn := fun _ => fun
  | [d1, d2] => { results := [.lit (.bool true)], args := [d1, d2] }
  | _ => none }
def codecReadsRow : OpenClaim := { program := "ytlcgpldngooekaa", sum := "4f8353377de78d06f7f8394a64366ae42cbd03e9c4dc14082819490f1202ea92", func := "windowpane/windowpanelaw27.CodecReads", spec := "codecReads", apart := false }
def CodecReadsSaid : Prop := codecReadsRow.holds Try.pinned (OpenSpec.ofChange codecReadsSpec)

/-- ITS FALSE NEIGHBOUR: 'it returns false'. Refute it at one input. -/
def codecReadsWrong : ChangeSpec := { name := "codecReads", fn := fun _ => fun
  | [d1, d2] => { results := [.lit (.bool false)], args := [d1, d2] }
  | _ => none }
def CodecReadsWrongFalsely : Prop := codecReadsRow.holds Try.pinned (OpenSpec.ofChange codecReadsWrong)

/-- 'windowpanelaw27.CodecAppends': WHATEVER THE INPUT: true; the input reads as it did. -/
def codecAppendsSpec : ChangeSpec := { name := "codecAppends", fn := fun _ => fun
  | [d1, d2] => { results := [.lit (.bool true)], args := [d1, d2] }
  | _ => none }
def codecAppendsRow : OpenClaim := { program := "ytlcgpldngooekaa", sum := "4f8353377de78d06f7f8394a64366ae42cbd03e9c4dc14082819490f1202ea92", func := "windowpane/windowpanelaw27.CodecAppends", spec := "codecAppends", apart := false }
def CodecAppendsSaid : Prop := codecAppendsRow.holds Try.pinned (OpenSpec.ofChange codecAppendsSpec)

/-- ITS FALSE NEIGHBOUR: 'it returns false'. Refute it at one input. -/
def codecAppendsWrong : ChangeSpec := { name := "codecAppends", fn := fun _ => fun
  | [d1, d2] => { results := [.lit (.bool false)], args := [d1, d2] }
  | _ => none }
def CodecAppendsWrongFalsely : Prop := codecAppendsRow.holds Try.pinned (OpenSpec.ofChange codecAppendsWrong)

/-- 'windowpanelaw27.CodecUnique': WHATEVER THE INPUT: true; the input reads as it did. -/
def codecUniqueSpec : ChangeSpec := { name := "codecUnique", fn := fun _ => fun
  | [d1, d2] => { results := [.lit (.bool true)], args := [d1, d2] }
  | _ => none }
def codecUniqueRow : OpenClaim := { program := "ytlcgpldngooekaa", sum := "4f8353377de78d06f7f8394a64366ae42cbd03e9c4dc14082819490f1202ea92", func := "windowpane/windowpanelaw27.CodecUnique", spec := "codecUnique", apart := false }
def CodecUniqueSaid : Prop := codecUniqueRow.holds Try.pinned (OpenSpec.ofChange codecUniqueSpec)

/-- ITS FALSE NEIGHBOUR: 'it returns false'. Refute it at one input. -/
def codecUniqueWrong : ChangeSpec := { name := "codecUnique", fn := fun _ => fun
  | [d1, d2] => { results := [.lit (.bool false)], args := [d1, d2] }
  | _ => none }
def CodecUniqueWrongFalsely : Prop := codecUniqueRow.holds Try.pinned (OpenSpec.ofChange codecUniqueWrong)

/-- 'windowpanelaw27.CodecNumbers': WHATEVER THE INPUT: true; the input reads as it did. -/
def codecNumbersSpec : ChangeSpec := { name := "codecNumbers", fn := fun _ => fun
  | [d1, d2] => { results := [.lit (.bool true)], args := [d1, d2] }
  | _ => none }
def codecNumbersRow : OpenClaim := { program := "ytlcgpldngooekaa", sum := "4f8353377de78d06f7f8394a64366ae42cbd03e9c4dc14082819490f1202ea92", func := "windowpane/windowpanelaw27.CodecNumbers", spec := "codecNumbers", apart := false }
def CodecNumbersSaid : Prop := codecNumbersRow.holds Try.pinned (OpenSpec.ofChange codecNumbersSpec)

/-- ITS FALSE NEIGHBOUR: 'it returns false'. Refute it at one input. -/
def codecNumbersWrong : ChangeSpec := { name := "codecNumbers", fn := fun _ => fun
  | [d1, d2] => { results := [.lit (.bool false)], args := [d1, d2] }
  | _ => none }
def CodecNumbersWrongFalsely : Prop := codecNumbersRow.holds Try.pinned (OpenSpec.ofChange codecNumbersWrong)

/-- 'windowpanelaw27.CodecDamaged': WHATEVER THE INPUT: true; the input reads as it did. -/
def codecDamagedSpec : ChangeSpec := { name := "codecDamaged", fn := fun _ => fun
  | [d1, d2, d3, d4] => { results := [.lit (.bool true)], args := [d1, d2, d3, d4] }
  | _ => none }
def codecDamagedRow : OpenClaim := { program := "ytlcgpldngooekaa", sum := "4f8353377de78d06f7f8394a64366ae42cbd03e9c4dc14082819490f1202ea92", func := "windowpane/windowpanelaw27.CodecDamaged", spec := "codecDamaged", unfollowed := true, recurses := true, apart := false }
def CodecDamagedSaid : Prop := codecDamagedRow.holds Try.pinned (OpenSpec.ofChange codecDamagedSpec)

/-- ITS FALSE NEIGHBOUR: 'it returns false'. Refute it at one input. -/
def codecDamagedWrong : ChangeSpec := { name := "codecDamaged", fn := fun _ => fun
  | [d1, d2, d3, d4] => { results := [.lit (.bool false)], args := [d1, d2, d3, d4] }
  | _ => none }
def CodecDamagedWrongFalsely : Prop := codecDamagedRow.holds Try.pinned (OpenSpec.ofChange codecDamagedWrong)

/-- 'windowpanelaw27.CodecCommands': WHATEVER THE INPUT: true; the input reads as it did. -/
def codecCommandsSpec : ChangeSpec := { name := "codecCommands", fn := fun _ => fun
  | [d] => { results := [.lit (.bool true)], args := [d] }
  | _ => none }
def codecCommandsRow : OpenClaim := { program := "ytlcgpldngooekaa", sum := "4f8353377de78d06f7f8394a64366ae42cbd03e9c4dc14082819490f1202ea92", func := "windowpane/windowpanelaw27.CodecCommands", spec := "codecCommands", unfollowed := true, recurses := true, apart := false }
def CodecCommandsSaid : Prop := codecCommandsRow.holds Try.pinned (OpenSpec.ofChange codecCommandsSpec)

/-- ITS FALSE NEIGHBOUR: 'it returns false'. Refute it at one input. -/
def codecCommandsWrong : ChangeSpec := { name := "codecCommands", fn := fun _ => fun
  | [d] => { results := [.lit (.bool false)], args := [d] }
  | _ => none }
def CodecCommandsWrongFalsely : Prop := codecCommandsRow.holds Try.pinned (OpenSpec.ofChange codecCommandsWrong)

/-- 'windowpanelaw27.CodecReplies': WHATEVER THE INPUT: true; the input reads as it did. -/
def codecRepliesSpec : ChangeSpec := { name := "codecReplies", fn := fun _ => fun
  | [d] => { results := [.lit (.bool true)], args := [d] }
  | _ => none }
def codecRepliesRow : OpenClaim := { program := "ytlcgpldngooekaa", sum := "4f8353377de78d06f7f8394a64366ae42cbd03e9c4dc14082819490f1202ea92", func := "windowpane/windowpanelaw27.CodecReplies", spec := "codecReplies", unfollowed := true, recurses := true, apart := false }
def CodecRepliesSaid : Prop := codecRepliesRow.holds Try.pinned (OpenSpec.ofChange codecRepliesSpec)

/-- ITS FALSE NEIGHBOUR: 'it returns false'. Refute it at one input. -/
def codecRepliesWrong : ChangeSpec := { name := "codecReplies", fn := fun _ => fun
  | [d] => { results := [.lit (.bool false)], args := [d] }
  | _ => none }
def CodecRepliesWrongFalsely : Prop := codecRepliesRow.holds Try.pinned (OpenSpec.ofChange codecRepliesWrong)

/-- 'windowpanelaw27.CodecTotal': WHATEVER THE INPUT: true; the input reads as it did. -/
def codecTotalSpec : ChangeSpec := { name := "codecTotal", fn := fun _ => fun
  | [d] => { results := [.lit (.bool true)], args := [d] }
  | _ => none }
def codecTotalRow : OpenClaim := { program := "ytlcgpldngooekaa", sum := "4f8353377de78d06f7f8394a64366ae42cbd03e9c4dc14082819490f1202ea92", func := "windowpane/windowpanelaw27.CodecTotal", spec := "codecTotal", unfollowed := true, recurses := true, apart := false }
def CodecTotalSaid : Prop := codecTotalRow.holds Try.pinned (OpenSpec.ofChange codecTotalSpec)

/-- ITS FALSE NEIGHBOUR: 'it returns false'. Refute it at one input. -/
def codecTotalWrong : ChangeSpec := { name := "codecTotal", fn := fun _ => fun
  | [d] => { results := [.lit (.bool false)], args := [d] }
  | _ => none }
def CodecTotalWrongFalsely : Prop := codecTotalRow.holds Try.pinned (OpenSpec.ofChange codecTotalWrong)

/- THE SECOND FORM. 'bulk': how many values and letters a reading holds, each counted each time it is reached (what is shared counts as often as it is met; a slice's spare places count too). A statement '..UptoSaid' is the law's where the arguments, and the package variables that the reading takes, are together of bulk at most 1048576: NARROWER than '..Said'. Prove '..Said' where nothing that the law and all that it calls make is longer than what came in: it says more and counts as full. Else prove '..UptoSaid'. A law counts once. -/
mutual
def uptoBulk {H : Type} : DataW H → Nat
  | .lit (.string bytes) => bytes.length + 1
  | .lit _ => 1
  | .nil => 1
  | .ptr d => uptoBulk d + 1
  | .slice elems spare => uptoBulkAll elems + uptoBulkAll spare + 1
  | .agg parts => uptoBulkAll parts + 1
  | .iface _ d => uptoBulk d + 1
  | .map entries => uptoBulkEntries entries + 1
  | .held _ => 1
def uptoBulkAll {H : Type} : List (DataW H) → Nat
  | [] => 0
  | d :: r => uptoBulk d + uptoBulkAll r
def uptoBulkEntries {H : Type} : List (Lit × DataW H) → Nat
  | [] => 0
  | x :: r => uptoBulkEntry x + uptoBulkEntries r
def uptoBulkEntry {H : Type} : Lit × DataW H → Nat
  | (.string bytes, d) => bytes.length + uptoBulk d + 1
  | (_, d) => uptoBulk d + 1
 end
def uptoSmall : (H : Type) → List (DataW H) → Bool := fun _ ds => decide (uptoBulkAll ds ≤ 1048576)
def OpenSpec.upto (s : _root_.Go.ChangeSpec) : _root_.Go.OpenSpec := { _root_.Go.OpenSpec.ofChange s with cond := some uptoSmall }

/-- 'windowpanelaw27.CodecSums', WHERE WHAT IT READS IS OF BULK AT MOST 1048576: true; the input reads as it did. -/
def codecSumsUptoRow : OpenClaim := { program := "ytlcgpldngooekaa", sum := "4f8353377de78d06f7f8394a64366ae42cbd03e9c4dc14082819490f1202ea92", func := "windowpane/windowpanelaw27.CodecSums", spec := "codecSums", apart := false, narrowed := true }
def CodecSumsUptoSaid : Prop := codecSumsUptoRow.holds Try.pinned (OpenSpec.upto codecSumsSpec)

/-- 'windowpanelaw27.CodecReads', WHERE WHAT IT READS IS OF BULK AT MOST 1048576: true; the input reads as it did. -/
def codecReadsUptoRow : OpenClaim := { program := "ytlcgpldngooekaa", sum := "4f8353377de78d06f7f8394a64366ae42cbd03e9c4dc14082819490f1202ea92", func := "windowpane/windowpanelaw27.CodecReads", spec := "codecReads", apart := false, narrowed := true }
def CodecReadsUptoSaid : Prop := codecReadsUptoRow.holds Try.pinned (OpenSpec.upto codecReadsSpec)

/-- 'windowpanelaw27.CodecAppends', WHERE WHAT IT READS IS OF BULK AT MOST 1048576: true; the input reads as it did. -/
def codecAppendsUptoRow : OpenClaim := { program := "ytlcgpldngooekaa", sum := "4f8353377de78d06f7f8394a64366ae42cbd03e9c4dc14082819490f1202ea92", func := "windowpane/windowpanelaw27.CodecAppends", spec := "codecAppends", apart := false, narrowed := true }
def CodecAppendsUptoSaid : Prop := codecAppendsUptoRow.holds Try.pinned (OpenSpec.upto codecAppendsSpec)

/-- 'windowpanelaw27.CodecUnique', WHERE WHAT IT READS IS OF BULK AT MOST 1048576: true; the input reads as it did. -/
def codecUniqueUptoRow : OpenClaim := { program := "ytlcgpldngooekaa", sum := "4f8353377de78d06f7f8394a64366ae42cbd03e9c4dc14082819490f1202ea92", func := "windowpane/windowpanelaw27.CodecUnique", spec := "codecUnique", apart := false, narrowed := true }
def CodecUniqueUptoSaid : Prop := codecUniqueUptoRow.holds Try.pinned (OpenSpec.upto codecUniqueSpec)

/-- 'windowpanelaw27.CodecNumbers', WHERE WHAT IT READS IS OF BULK AT MOST 1048576: true; the input reads as it did. -/
def codecNumbersUptoRow : OpenClaim := { program := "ytlcgpldngooekaa", sum := "4f8353377de78d06f7f8394a64366ae42cbd03e9c4dc14082819490f1202ea92", func := "windowpane/windowpanelaw27.CodecNumbers", spec := "codecNumbers", apart := false, narrowed := true }
def CodecNumbersUptoSaid : Prop := codecNumbersUptoRow.holds Try.pinned (OpenSpec.upto codecNumbersSpec)

/-- 'windowpanelaw27.CodecDamaged', WHERE WHAT IT READS IS OF BULK AT MOST 1048576: true; the input reads as it did. -/
def codecDamagedUptoRow : OpenClaim := { program := "ytlcgpldngooekaa", sum := "4f8353377de78d06f7f8394a64366ae42cbd03e9c4dc14082819490f1202ea92", func := "windowpane/windowpanelaw27.CodecDamaged", spec := "codecDamaged", unfollowed := true, recurses := true, apart := false, narrowed := true }
def CodecDamagedUptoSaid : Prop := codecDamagedUptoRow.holds Try.pinned (OpenSpec.upto codecDamagedSpec)

/-- 'windowpanelaw27.CodecCommands', WHERE WHAT IT READS IS OF BULK AT MOST 1048576: true; the input reads as it did. -/
def codecCommandsUptoRow : OpenClaim := { program := "ytlcgpldngooekaa", sum := "4f8353377de78d06f7f8394a64366ae42cbd03e9c4dc14082819490f1202ea92", func := "windowpane/windowpanelaw27.CodecCommands", spec := "codecCommands", unfollowed := true, recurses := true, apart := false, narrowed := true }
def CodecCommandsUptoSaid : Prop := codecCommandsUptoRow.holds Try.pinned (OpenSpec.upto codecCommandsSpec)

/-- 'windowpanelaw27.CodecReplies', WHERE WHAT IT READS IS OF BULK AT MOST 1048576: true; the input reads as it did. -/
def codecRepliesUptoRow : OpenClaim := { program := "ytlcgpldngooekaa", sum := "4f8353377de78d06f7f8394a64366ae42cbd03e9c4dc14082819490f1202ea92", func := "windowpane/windowpanelaw27.CodecReplies", spec := "codecReplies", unfollowed := true, recurses := true, apart := false, narrowed := true }
def CodecRepliesUptoSaid : Prop := codecRepliesUptoRow.holds Try.pinned (OpenSpec.upto codecRepliesSpec)

/-- 'windowpanelaw27.CodecTotal', WHERE WHAT IT READS IS OF BULK AT MOST 1048576: true; the input reads as it did. -/
def codecTotalUptoRow : OpenClaim := { program := "ytlcgpldngooekaa", sum := "4f8353377de78d06f7f8394a64366ae42cbd03e9c4dc14082819490f1202ea92", func := "windowpane/windowpanelaw27.CodecTotal", spec := "codecTotal", unfollowed := true, recurses := true, apart := false, narrowed := true }
def CodecTotalUptoSaid : Prop := codecTotalUptoRow.holds Try.pinned (OpenSpec.upto codecTotalSpec)

end Rows
end Go.Proofs.Ytlcgpldngooekaa
