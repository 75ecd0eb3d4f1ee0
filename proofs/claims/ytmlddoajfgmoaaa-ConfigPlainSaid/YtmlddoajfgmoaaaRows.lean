/-
  No cell of these rows narrows 'for every input' (looked for: loops, veiled, ifaces, maps, wideKeys, modest, calm, conditions, laid).
  DERIVED. THE GIVEN ROWS OF THIS SEAT. 4 by the template 'for every input the law returns true; each argument reads behind the call as it read before'; 0 by the template 'total and deterministic' (their statements: YtmlddoajfgmoaaaTotals.lean).
  GIVEN WITH THE SEED: the statements are not yours to turn. If you find one false, say at which input.
  Laid BY PROGRAM, IN A SANDBOX (cutbox-rows.mjs): the forced cells as the released guide's own fill.sh prints them over the translation d4d3f1308a24f3d0… (all of the seat's roots in one cut). By AI agents, Wed Nov 11 2026. No macro, syntax, notation, axiom, sorry.
-/
import Derived.Test.YtmlddoajfgmoaaaChecked
import GoSem.Claim
import GoSem.ClaimJoined
import GoSem.ClaimMapViews
import Derived.JoinedTies
import Derived.KernelRfl
namespace Go.Proofs.Ytmlddoajfgmoaaa
/- THE CELL 'sum', in the pinned program and in every row, IS THE sha256 OF THE DUMP (.gsa) THAT YtmlddoajfgmoaaaProg.lean LOADS. Nothing in Lean hashes anything: it is a label: what it is worth is what the hold of that sum in a sandbox is worth. -/
noncomputable def Try.pinned : Pinned := { name := "ytmlddoajfgmoaaa", sum := "d4d3f1308a24f3d0a9840bc1379b7a76964eba252a9792e005cc01b09c0c14f7", checked := Try.checked }
namespace Rows
def none {H : Type} : Left H := { results := [], args := [] }

/-- 'windowpanelaw24.ConfigValidate': WHATEVER THE INPUT: true; the input reads as it did. -/
def configValidateSpec : ChangeSpec := { name := "configValidate", fn := fun _ => fun
  | [d] => { results := [.lit (.bool true)], args := [d] }
  | _ => none }
def configValidateRow : OpenClaim := { program := "ytmlddoajfgmoaaa", sum := "d4d3f1308a24f3d0a9840bc1379b7a76964eba252a9792e005cc01b09c0c14f7", func := "windowpane/windowpanelaw24.ConfigValidate", spec := "configValidate", unfollowed := true, recurses := true, apart := false }
def ConfigValidateSaid : Prop := configValidateRow.holds Try.pinned (OpenSpec.ofChange configValidateSpec)

/-- ITS FALSE NEIGHBOUR: 'it returns false'. Refute it at one input. -/
def configValidateWrong : ChangeSpec := { name := "configValidate", fn := fun _ => fun
  | [d] => { results := [.lit (.bool false)], args := [d] }
  | _ => none }
def ConfigValidateWrongFalsely : Prop := configValidateRow.holds Try.pinned (OpenSpec.ofChange configValidateWrong)

/-- 'windowpanelaw24.ConfigRecords': WHATEVER THE INPUT: true; the input reads as it did. -/
def configRecordsSpec : ChangeSpec := { name := "configRecords", fn := fun _ => fun
  | [d] => { results := [.lit (.bool true)], args := [d] }
  | _ => none }
def configRecordsRow : OpenClaim := { program := "ytmlddoajfgmoaaa", sum := "d4d3f1308a24f3d0a9840bc1379b7a76964eba252a9792e005cc01b09c0c14f7", func := "windowpane/windowpanelaw24.ConfigRecords", spec := "configRecords", unfollowed := true, recurses := true, apart := false }
def ConfigRecordsSaid : Prop := configRecordsRow.holds Try.pinned (OpenSpec.ofChange configRecordsSpec)

/-- ITS FALSE NEIGHBOUR: 'it returns false'. Refute it at one input. -/
def configRecordsWrong : ChangeSpec := { name := "configRecords", fn := fun _ => fun
  | [d] => { results := [.lit (.bool false)], args := [d] }
  | _ => none }
def ConfigRecordsWrongFalsely : Prop := configRecordsRow.holds Try.pinned (OpenSpec.ofChange configRecordsWrong)

/-- 'windowpanelaw24.ConfigPlain': WHATEVER THE INPUT: true; the input reads as it did. -/
def configPlainSpec : ChangeSpec := { name := "configPlain", fn := fun _ => fun
  | [d1, d2, d3] => { results := [.lit (.bool true)], args := [d1, d2, d3] }
  | _ => none }
def configPlainRow : OpenClaim := { program := "ytmlddoajfgmoaaa", sum := "d4d3f1308a24f3d0a9840bc1379b7a76964eba252a9792e005cc01b09c0c14f7", func := "windowpane/windowpanelaw24.ConfigPlain", spec := "configPlain", unfollowed := true, recurses := true, apart := false }
def ConfigPlainSaid : Prop := configPlainRow.holds Try.pinned (OpenSpec.ofChange configPlainSpec)

/-- ITS FALSE NEIGHBOUR: 'it returns false'. Refute it at one input. -/
def configPlainWrong : ChangeSpec := { name := "configPlain", fn := fun _ => fun
  | [d1, d2, d3] => { results := [.lit (.bool false)], args := [d1, d2, d3] }
  | _ => none }
def ConfigPlainWrongFalsely : Prop := configPlainRow.holds Try.pinned (OpenSpec.ofChange configPlainWrong)

/-- 'windowpanelaw24.ConfigAnswers': WHATEVER THE INPUT: true; the input reads as it did. -/
def configAnswersSpec : ChangeSpec := { name := "configAnswers", fn := fun _ => fun
  | [d1, d2] => { results := [.lit (.bool true)], args := [d1, d2] }
  | _ => none }
def configAnswersRow : OpenClaim := { program := "ytmlddoajfgmoaaa", sum := "d4d3f1308a24f3d0a9840bc1379b7a76964eba252a9792e005cc01b09c0c14f7", func := "windowpane/windowpanelaw24.ConfigAnswers", spec := "configAnswers", unfollowed := true, recurses := true, apart := false }
def ConfigAnswersSaid : Prop := configAnswersRow.holds Try.pinned (OpenSpec.ofChange configAnswersSpec)

/-- ITS FALSE NEIGHBOUR: 'it returns false'. Refute it at one input. -/
def configAnswersWrong : ChangeSpec := { name := "configAnswers", fn := fun _ => fun
  | [d1, d2] => { results := [.lit (.bool false)], args := [d1, d2] }
  | _ => none }
def ConfigAnswersWrongFalsely : Prop := configAnswersRow.holds Try.pinned (OpenSpec.ofChange configAnswersWrong)

/- THE SECOND FORM. 'bulk': how many values and letters a reading holds, each counted each time it is reached (what is shared counts as often as it is met; a slice's spare places count too). A statement '..UptoSaid' is the law's where the arguments, and the package variables that the reading takes, are together of bulk at most 1048576: NARROWER than '..Said'. Prove '..Said' where nothing that the law and all that it calls make is longer than what came in: it says more and counts as full. Else prove '..UptoSaid'. A law counts once. -/
mutual
def uptoBulk {H : Type} : DataW H → Nat
  | .lit (.string bytes) => bytes.length + 1
  | .lit _ => 1
  | .nil => 1
  | .ptr d => uptoBulk d + 1
  | .slice elems spare => uptoBulkAll elems + uptoBulkAll spare + 1
  | .agg parts => uptoBulkAll parts + 1
  | .iface _ d => uptoBulk d + 1
  | .map entries => uptoBulkEntries entries + 1
  | .held _ => 1
def uptoBulkAll {H : Type} : List (DataW H) → Nat
  | [] => 0
  | d :: r => uptoBulk d + uptoBulkAll r
def uptoBulkEntries {H : Type} : List (Lit × DataW H) → Nat
  | [] => 0
  | x :: r => uptoBulkEntry x + uptoBulkEntries r
def uptoBulkEntry {H : Type} : Lit × DataW H → Nat
  | (.string bytes, d) => bytes.length + uptoBulk d + 1
  | (_, d) => uptoBulk d + 1
 end
def uptoSmall : (H : Type) → List (DataW H) → Bool := fun _ ds => decide (uptoBulkAll ds ≤ 1048576)
def OpenSpec.upto (s : _root_.Go.ChangeSpec) : _root_.Go.OpenSpec := { _root_.Go.OpenSpec.ofChange s with cond := some uptoSmall }

/-- 'windowpanelaw24.ConfigValidate', WHERE WHAT IT READS IS OF BULK AT MOST 1048576: true; the input reads as it did. -/
def configValidateUptoRow : OpenClaim := { program := "ytmlddoajfgmoaaa", sum := "d4d3f1308a24f3d0a9840bc1379b7a76964eba252a9792e005cc01b09c0c14f7", func := "windowpane/windowpanelaw24.ConfigValidate", spec := "configValidate", unfollowed := true, recurses := true, apart := false, narrowed := true }
def ConfigValidateUptoSaid : Prop := configValidateUptoRow.holds Try.pinned (OpenSpec.upto configValidateSpec)

/-- 'windowpanelaw24.ConfigRecords', WHERE WHAT IT READS IS OF BULK AT MOST 1048576: true; the input reads as it did. -/
def configRecordsUptoRow : OpenClaim := { program := "ytmlddoajfgmoaaa", sum := "d4d3f1308a24f3d0a9840bc1379b7a76964eba252a9792e005cc01b09c0c14f7", func := "windowpane/windowpanelaw24.ConfigRecords", spec := "configRecords", unfollowed := true, recurses := true, apart := false, narrowed := true }
def ConfigRecordsUptoSaid : Prop := configRecordsUptoRow.holds Try.pinned (OpenSpec.upto configRecordsSpec)

/-- 'windowpanelaw24.ConfigPlain', WHERE WHAT IT READS IS OF BULK AT MOST 1048576: true; the input reads as it did. -/
def configPlainUptoRow : OpenClaim := { program := "ytmlddoajfgmoaaa", sum := "d4d3f1308a24f3d0a9840bc1379b7a76964eba252a9792e005cc01b09c0c14f7", func := "windowpane/windowpanelaw24.ConfigPlain", spec := "configPlain", unfollowed := true, recurses := true, apart := false, narrowed := true }
def ConfigPlainUptoSaid : Prop := configPlainUptoRow.holds Try.pinned (OpenSpec.upto configPlainSpec)

/-- 'windowpanelaw24.ConfigAnswers', WHERE WHAT IT READS IS OF BULK AT MOST 1048576: true; the input reads as it did. -/
def configAnswersUptoRow : OpenClaim := { program := "ytmlddoajfgmoaaa", sum := "d4d3f1308a24f3d0a9840bc1379b7a76964eba252a9792e005cc01b09c0c14f7", func := "windowpane/windowpanelaw24.ConfigAnswers", spec := "configAnswers", unfollowed := true, recurses := true, apart := false, narrowed := true }
def ConfigAnswersUptoSaid : Prop := configAnswersUptoRow.holds Try.pinned (OpenSpec.upto configAnswersSpec)

end Rows
end Go.Proofs.Ytmlddoajfgmoaaa
