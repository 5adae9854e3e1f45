/-
  No cell of these rows narrows 'for every input' (looked for: loops, veiled, ifaces, maps, wideKeys, modest, calm, conditions, laid).
  DERIVED. THE GIVEN ROWS OF THIS SEAT. 6 by the template 'for every input the law returns true; each argument reads behind the call as it read before'; 0 by the template 'total and deterministic' (their statements: YtpdpcgmkpgfblaaGreatTotals.lean).
  GIVEN WITH THE SEED: the statements are not yours to turn. If you find one false, say at which input.
  Laid BY PROGRAM, IN A SANDBOX (cutbox-rows.mjs): the forced cells as the released guide's own fill.sh prints them over the translation 9f147911c04aea85… (all of the seat's roots in one cut). By AI agents, Wed Nov 11 2026. No macro, syntax, notation, axiom, sorry.
-/
import Derived.Test.YtpdpcgmkpgfblaaGreatChecked
import GoSem.Claim
import GoSem.ClaimJoined
import GoSem.ClaimMapViews
import Derived.JoinedTies
import Derived.KernelRfl
namespace Go.Proofs.YtpdpcgmkpgfblaaGreat
/- THE CELL 'sum', in the pinned program and in every row, IS THE sha256 OF THE DUMP (.gsa) THAT YtpdpcgmkpgfblaaGreatProg.lean LOADS. Nothing in Lean hashes anything: it is a label: what it is worth is what the hold of that sum in a sandbox is worth. -/
noncomputable def Tryz.pinned : Pinned := { name := "ytpdpcgmkpgfblaagreat", sum := "9f147911c04aea85ff49fb9c2563d3c5597f33c8e8421df7244374718f9e1dba", checked := Tryz.checked }
namespace Rows
def none {H : Type} : Left H := { results := [], args := [] }

/-- 'scriniumlaw12.VersionNext': WHATEVER THE INPUT: true; the input reads as it did. -/
def versionNextSpec : ChangeSpec := { name := "versionNext", fn := fun _ => fun
  | [d1, d2] => { results := [.lit (.bool true)], args := [d1, d2] }
  | _ => none }
def versionNextRow : OpenClaim := { program := "ytpdpcgmkpgfblaagreat", sum := "9f147911c04aea85ff49fb9c2563d3c5597f33c8e8421df7244374718f9e1dba", func := "scrinium/scriniumlaw12.VersionNext", spec := "versionNext", unfollowed := true, recurses := true, apart := false }
def VersionNextSaid : Prop := versionNextRow.holds Tryz.pinned (OpenSpec.ofChange versionNextSpec)

/-- ITS FALSE NEIGHBOUR: 'it returns false'. Refute it at one input. -/
def versionNextWrong : ChangeSpec := { name := "versionNext", fn := fun _ => fun
  | [d1, d2] => { results := [.lit (.bool false)], args := [d1, d2] }
  | _ => none }
def VersionNextWrongFalsely : Prop := versionNextRow.holds Tryz.pinned (OpenSpec.ofChange versionNextWrong)

/-- 'scriniumlaw12.VersionNone': WHATEVER THE INPUT: true; the input reads as it did. -/
def versionNoneSpec : ChangeSpec := { name := "versionNone", fn := fun _ => fun
  | [d1, d2] => { results := [.lit (.bool true)], args := [d1, d2] }
  | _ => none }
def versionNoneRow : OpenClaim := { program := "ytpdpcgmkpgfblaagreat", sum := "9f147911c04aea85ff49fb9c2563d3c5597f33c8e8421df7244374718f9e1dba", func := "scrinium/scriniumlaw12.VersionNone", spec := "versionNone", unfollowed := true, recurses := true, apart := false }
def VersionNoneSaid : Prop := versionNoneRow.holds Tryz.pinned (OpenSpec.ofChange versionNoneSpec)

/-- ITS FALSE NEIGHBOUR: 'it returns false'. Refute it at one input. -/
def versionNoneWrong : ChangeSpec := { name := "versionNone", fn := fun _ => fun
  | [d1, d2] => { results := [.lit (.bool false)], args := [d1, d2] }
  | _ => none }
def VersionNoneWrongFalsely : Prop := versionNoneRow.holds Tryz.pinned (OpenSpec.ofChange versionNoneWrong)

/-- 'scriniumlaw12.VersionMarks': WHATEVER THE INPUT: true; the input reads as it did. -/
def versionMarksSpec : ChangeSpec := { name := "versionMarks", fn := fun _ => fun
  | [d1, d2] => { results := [.lit (.bool true)], args := [d1, d2] }
  | _ => none }
def versionMarksRow : OpenClaim := { program := "ytpdpcgmkpgfblaagreat", sum := "9f147911c04aea85ff49fb9c2563d3c5597f33c8e8421df7244374718f9e1dba", func := "scrinium/scriniumlaw12.VersionMarks", spec := "versionMarks", unfollowed := true, recurses := true, apart := false }
def VersionMarksSaid : Prop := versionMarksRow.holds Tryz.pinned (OpenSpec.ofChange versionMarksSpec)

/-- ITS FALSE NEIGHBOUR: 'it returns false'. Refute it at one input. -/
def versionMarksWrong : ChangeSpec := { name := "versionMarks", fn := fun _ => fun
  | [d1, d2] => { results := [.lit (.bool false)], args := [d1, d2] }
  | _ => none }
def VersionMarksWrongFalsely : Prop := versionMarksRow.holds Tryz.pinned (OpenSpec.ofChange versionMarksWrong)

/-- 'scriniumlaw13.PutEmpty': WHATEVER THE INPUT: true; the input reads as it did. -/
def putEmptySpec : ChangeSpec := { name := "putEmpty", fn := fun _ => fun
  | [d1, d2] => { results := [.lit (.bool true)], args := [d1, d2] }
  | _ => none }
def putEmptyRow : OpenClaim := { program := "ytpdpcgmkpgfblaagreat", sum := "9f147911c04aea85ff49fb9c2563d3c5597f33c8e8421df7244374718f9e1dba", func := "scrinium/scriniumlaw13.PutEmpty", spec := "putEmpty", unfollowed := true, recurses := true, apart := false }
def PutEmptySaid : Prop := putEmptyRow.holds Tryz.pinned (OpenSpec.ofChange putEmptySpec)

/-- ITS FALSE NEIGHBOUR: 'it returns false'. Refute it at one input. -/
def putEmptyWrong : ChangeSpec := { name := "putEmpty", fn := fun _ => fun
  | [d1, d2] => { results := [.lit (.bool false)], args := [d1, d2] }
  | _ => none }
def PutEmptyWrongFalsely : Prop := putEmptyRow.holds Tryz.pinned (OpenSpec.ofChange putEmptyWrong)

/-- 'scriniumlaw13.PutRefused': WHATEVER THE INPUT: true; the input reads as it did. -/
def putRefusedSpec : ChangeSpec := { name := "putRefused", fn := fun _ => fun
  | [d1, d2, d3] => { results := [.lit (.bool true)], args := [d1, d2, d3] }
  | _ => none }
def putRefusedRow : OpenClaim := { program := "ytpdpcgmkpgfblaagreat", sum := "9f147911c04aea85ff49fb9c2563d3c5597f33c8e8421df7244374718f9e1dba", func := "scrinium/scriniumlaw13.PutRefused", spec := "putRefused", unfollowed := true, recurses := true, apart := false }
def PutRefusedSaid : Prop := putRefusedRow.holds Tryz.pinned (OpenSpec.ofChange putRefusedSpec)

/-- ITS FALSE NEIGHBOUR: 'it returns false'. Refute it at one input. -/
def putRefusedWrong : ChangeSpec := { name := "putRefused", fn := fun _ => fun
  | [d1, d2, d3] => { results := [.lit (.bool false)], args := [d1, d2, d3] }
  | _ => none }
def PutRefusedWrongFalsely : Prop := putRefusedRow.holds Tryz.pinned (OpenSpec.ofChange putRefusedWrong)

/-- 'scriniumlaw14.CutRefused': WHATEVER THE INPUT: true; the input reads as it did. -/
def cutRefusedSpec : ChangeSpec := { name := "cutRefused", fn := fun _ => fun
  | [d1, d2] => { results := [.lit (.bool true)], args := [d1, d2] }
  | _ => none }
def cutRefusedRow : OpenClaim := { program := "ytpdpcgmkpgfblaagreat", sum := "9f147911c04aea85ff49fb9c2563d3c5597f33c8e8421df7244374718f9e1dba", func := "scrinium/scriniumlaw14.CutRefused", spec := "cutRefused", unfollowed := true, recurses := true, apart := false }
def CutRefusedSaid : Prop := cutRefusedRow.holds Tryz.pinned (OpenSpec.ofChange cutRefusedSpec)

/-- ITS FALSE NEIGHBOUR: 'it returns false'. Refute it at one input. -/
def cutRefusedWrong : ChangeSpec := { name := "cutRefused", fn := fun _ => fun
  | [d1, d2] => { results := [.lit (.bool false)], args := [d1, d2] }
  | _ => none }
def CutRefusedWrongFalsely : Prop := cutRefusedRow.holds Tryz.pinned (OpenSpec.ofChange cutRefusedWrong)

/- THE SECOND FORM. 'bulk': how many values and letters a reading holds, each counted each time it is reached (what is shared counts as often as it is met; a slice's spare places count too). A statement '..UptoSaid' is the law's where the arguments, and the package variables that the reading takes, are together of bulk at most 1048576: NARROWER than '..Said'. Prove '..Said' where nothing that the law and all that it calls make is longer than what came in: it says more and counts as full. Else prove '..UptoSaid'. A law counts once. -/
mutual
def uptoBulk {H : Type} : DataW H → Nat
  | .lit (.string bytes) => bytes.length + 1
  | .lit _ => 1
  | .nil => 1
  | .ptr d => uptoBulk d + 1
  | .slice elems spare => uptoBulkAll elems + uptoBulkAll spare + 1
  | .agg parts => uptoBulkAll parts + 1
  | .iface _ d => uptoBulk d + 1
  | .map entries => uptoBulkEntries entries + 1
  | .held _ => 1
def uptoBulkAll {H : Type} : List (DataW H) → Nat
  | [] => 0
  | d :: r => uptoBulk d + uptoBulkAll r
def uptoBulkEntries {H : Type} : List (Lit × DataW H) → Nat
  | [] => 0
  | x :: r => uptoBulkEntry x + uptoBulkEntries r
def uptoBulkEntry {H : Type} : Lit × DataW H → Nat
  | (.string bytes, d) => bytes.length + uptoBulk d + 1
  | (_, d) => uptoBulk d + 1
 end
def uptoSmall : (H : Type) → List (DataW H) → Bool := fun _ ds => decide (uptoBulkAll ds ≤ 1048576)
def OpenSpec.upto (s : _root_.Go.ChangeSpec) : _root_.Go.OpenSpec := { _root_.Go.OpenSpec.ofChange s with cond := some uptoSmall }

/-- 'scriniumlaw12.VersionNext', WHERE WHAT IT READS IS OF BULK AT MOST 1048576: true; the input reads as it did. -/
def versionNextUptoRow : OpenClaim := { program := "ytpdpcgmkpgfblaagreat", sum := "9f147911c04aea85ff49fb9c2563d3c5597f33c8e8421df7244374718f9e1dba", func := "scrinium/scriniumlaw12.VersionNext", spec := "versionNext", unfollowed := true, recurses := true, apart := false, narrowed := true }
def VersionNextUptoSaid : Prop := versionNextUptoRow.holds Tryz.pinned (OpenSpec.upto versionNextSpec)

/-- 'scriniumlaw12.VersionNone', WHERE WHAT IT READS IS OF BULK AT MOST 1048576: true; the input reads as it did. -/
def versionNoneUptoRow : OpenClaim := { program := "ytpdpcgmkpgfblaagreat", sum := "9f147911c04aea85ff49fb9c2563d3c5597f33c8e8421df7244374718f9e1dba", func := "scrinium/scriniumlaw12.VersionNone", spec := "versionNone", unfollowed := true, recurses := true, apart := false, narrowed := true }
def VersionNoneUptoSaid : Prop := versionNoneUptoRow.holds Tryz.pinned (OpenSpec.upto versionNoneSpec)

/-- 'scriniumlaw12.VersionMarks', WHERE WHAT IT READS IS OF BULK AT MOST 1048576: true; the input reads as it did. -/
def versionMarksUptoRow : OpenClaim := { program := "ytpdpcgmkpgfblaagreat", sum := "9f147911c04aea85ff49fb9c2563d3c5597f33c8e8421df7244374718f9e1dba", func := "scrinium/scriniumlaw12.VersionMarks", spec := "versionMarks", unfollowed := true, recurses := true, apart := false, narrowed := true }
def VersionMarksUptoSaid : Prop := versionMarksUptoRow.holds Tryz.pinned (OpenSpec.upto versionMarksSpec)

/-- 'scriniumlaw13.PutEmpty', WHERE WHAT IT READS IS OF BULK AT MOST 1048576: true; the input reads as it did. -/
def putEmptyUptoRow : OpenClaim := { program := "ytpdpcgmkpgfblaagreat", sum := "9f147911c04aea85ff49fb9c2563d3c5597f33c8e8421df7244374718f9e1dba", func := "scrinium/scriniumlaw13.PutEmpty", spec := "putEmpty", unfollowed := true, recurses := true, apart := false, narrowed := true }
def PutEmptyUptoSaid : Prop := putEmptyUptoRow.holds Tryz.pinned (OpenSpec.upto putEmptySpec)

/-- 'scriniumlaw13.PutRefused', WHERE WHAT IT READS IS OF BULK AT MOST 1048576: true; the input reads as it did. -/
def putRefusedUptoRow : OpenClaim := { program := "ytpdpcgmkpgfblaagreat", sum := "9f147911c04aea85ff49fb9c2563d3c5597f33c8e8421df7244374718f9e1dba", func := "scrinium/scriniumlaw13.PutRefused", spec := "putRefused", unfollowed := true, recurses := true, apart := false, narrowed := true }
def PutRefusedUptoSaid : Prop := putRefusedUptoRow.holds Tryz.pinned (OpenSpec.upto putRefusedSpec)

/-- 'scriniumlaw14.CutRefused', WHERE WHAT IT READS IS OF BULK AT MOST 1048576: true; the input reads as it did. -/
def cutRefusedUptoRow : OpenClaim := { program := "ytpdpcgmkpgfblaagreat", sum := "9f147911c04aea85ff49fb9c2563d3c5597f33c8e8421df7244374718f9e1dba", func := "scrinium/scriniumlaw14.CutRefused", spec := "cutRefused", unfollowed := true, recurses := true, apart := false, narrowed := true }
def CutRefusedUptoSaid : Prop := cutRefusedUptoRow.holds Tryz.pinned (OpenSpec.upto cutRefusedSpec)

end Rows
end Go.Proofs.YtpdpcgmkpgfblaaGreat
