/-
  No cell of these rows narrows 'for every input' (looked for: loops, veiled, ifaces, maps, wideKeys, modest, calm, conditions, laid).
  DERIVED. THE GIVEN ROWS OF THIS SEAT. 3 by the template 'for every input the law returns true; each argument reads behind the call as it read before'; 0 by the template 'total and deterministic' (their statements: YtpdpcgmkpgfblaaTotals.lean).
  GIVEN WITH THE SEED: the statements are not yours to turn. If you find one false, say at which input.
  Laid BY PROGRAM, IN A SANDBOX (cutbox-rows.mjs): the forced cells as the released guide's own fill.sh prints them over the translation 943c4c1dc8e29e17… (all of the seat's roots in one cut). By AI agents, Wed Nov 11 2026. No macro, syntax, notation, axiom, sorry.
-/
import Derived.Test.YtpdpcgmkpgfblaaChecked
import GoSem.Claim
import GoSem.ClaimJoined
import GoSem.ClaimMapViews
import Derived.JoinedTies
import Derived.KernelRfl
namespace Go.Proofs.Ytpdpcgmkpgfblaa
/- THE CELL 'sum', in the pinned program and in every row, IS THE sha256 OF THE DUMP (.gsa) THAT YtpdpcgmkpgfblaaProg.lean LOADS. Nothing in Lean hashes anything: it is a label: what it is worth is what the hold of that sum in a sandbox is worth. -/
noncomputable def Try.pinned : Pinned := { name := "ytpdpcgmkpgfblaa", sum := "943c4c1dc8e29e1707a3a5d6529307db5f7c6aa76cab110133e4106a8dbdf183", checked := Try.checked }
namespace Rows
def none {H : Type} : Left H := { results := [], args := [] }

/-- 'scriniumlaw16.PullParts': WHATEVER THE INPUT: true; the input reads as it did. -/
def pullPartsSpec : ChangeSpec := { name := "pullParts", fn := fun _ => fun
  | [d1, d2, d3] => { results := [.lit (.bool true)], args := [d1, d2, d3] }
  | _ => none }
def pullPartsRow : OpenClaim := { program := "ytpdpcgmkpgfblaa", sum := "943c4c1dc8e29e1707a3a5d6529307db5f7c6aa76cab110133e4106a8dbdf183", func := "scrinium/scriniumlaw16.PullParts", spec := "pullParts", inPlace := ["math.Float64bits"], unfollowed := true, recurses := true, apart := false }
def PullPartsSaid : Prop := pullPartsRow.holds Try.pinned (OpenSpec.ofChange pullPartsSpec)

/-- ITS FALSE NEIGHBOUR: 'it returns false'. Refute it at one input. -/
def pullPartsWrong : ChangeSpec := { name := "pullParts", fn := fun _ => fun
  | [d1, d2, d3] => { results := [.lit (.bool false)], args := [d1, d2, d3] }
  | _ => none }
def PullPartsWrongFalsely : Prop := pullPartsRow.holds Try.pinned (OpenSpec.ofChange pullPartsWrong)

/-- 'scriniumlaw16.PullWalks': WHATEVER THE INPUT: true; the input reads as it did. -/
def pullWalksSpec : ChangeSpec := { name := "pullWalks", fn := fun _ => fun
  | [d1, d2, d3] => { results := [.lit (.bool true)], args := [d1, d2, d3] }
  | _ => none }
def pullWalksRow : OpenClaim := { program := "ytpdpcgmkpgfblaa", sum := "943c4c1dc8e29e1707a3a5d6529307db5f7c6aa76cab110133e4106a8dbdf183", func := "scrinium/scriniumlaw16.PullWalks", spec := "pullWalks", inPlace := ["math.Float64bits"], unfollowed := true, recurses := true, apart := false }
def PullWalksSaid : Prop := pullWalksRow.holds Try.pinned (OpenSpec.ofChange pullWalksSpec)

/-- ITS FALSE NEIGHBOUR: 'it returns false'. Refute it at one input. -/
def pullWalksWrong : ChangeSpec := { name := "pullWalks", fn := fun _ => fun
  | [d1, d2, d3] => { results := [.lit (.bool false)], args := [d1, d2, d3] }
  | _ => none }
def PullWalksWrongFalsely : Prop := pullWalksRow.holds Try.pinned (OpenSpec.ofChange pullWalksWrong)

/-- 'scriniumlaw16.PullLens': WHATEVER THE INPUT: true; the input reads as it did. -/
def pullLensSpec : ChangeSpec := { name := "pullLens", fn := fun _ => fun
  | [d1, d2] => { results := [.lit (.bool true)], args := [d1, d2] }
  | _ => none }
def pullLensRow : OpenClaim := { program := "ytpdpcgmkpgfblaa", sum := "943c4c1dc8e29e1707a3a5d6529307db5f7c6aa76cab110133e4106a8dbdf183", func := "scrinium/scriniumlaw16.PullLens", spec := "pullLens", unfollowed := true, recurses := true, apart := false }
def PullLensSaid : Prop := pullLensRow.holds Try.pinned (OpenSpec.ofChange pullLensSpec)

/-- ITS FALSE NEIGHBOUR: 'it returns false'. Refute it at one input. -/
def pullLensWrong : ChangeSpec := { name := "pullLens", fn := fun _ => fun
  | [d1, d2] => { results := [.lit (.bool false)], args := [d1, d2] }
  | _ => none }
def PullLensWrongFalsely : Prop := pullLensRow.holds Try.pinned (OpenSpec.ofChange pullLensWrong)

/- THE SECOND FORM. 'bulk': how many values and letters a reading holds, each counted each time it is reached (what is shared counts as often as it is met; a slice's spare places count too). A statement '..UptoSaid' is the law's where the arguments, and the package variables that the reading takes, are together of bulk at most 1048576: NARROWER than '..Said'. Prove '..Said' where nothing that the law and all that it calls make is longer than what came in: it says more and counts as full. Else prove '..UptoSaid'. A law counts once. -/
mutual
def uptoBulk {H : Type} : DataW H → Nat
  | .lit (.string bytes) => bytes.length + 1
  | .lit _ => 1
  | .nil => 1
  | .ptr d => uptoBulk d + 1
  | .slice elems spare => uptoBulkAll elems + uptoBulkAll spare + 1
  | .agg parts => uptoBulkAll parts + 1
  | .iface _ d => uptoBulk d + 1
  | .map entries => uptoBulkEntries entries + 1
  | .held _ => 1
def uptoBulkAll {H : Type} : List (DataW H) → Nat
  | [] => 0
  | d :: r => uptoBulk d + uptoBulkAll r
def uptoBulkEntries {H : Type} : List (Lit × DataW H) → Nat
  | [] => 0
  | x :: r => uptoBulkEntry x + uptoBulkEntries r
def uptoBulkEntry {H : Type} : Lit × DataW H → Nat
  | (.string bytes, d) => bytes.length + uptoBulk d + 1
  | (_, d) => uptoBulk d + 1
 end
def uptoSmall : (H : Type) → List (DataW H) → Bool := fun _ ds => decide (uptoBulkAll ds ≤ 1048576)
def OpenSpec.upto (s : _root_.Go.ChangeSpec) : _root_.Go.OpenSpec := { _root_.Go.OpenSpec.ofChange s with cond := some uptoSmall }

/-- 'scriniumlaw16.PullParts', WHERE WHAT IT READS IS OF BULK AT MOST 1048576: true; the input reads as it did. -/
def pullPartsUptoRow : OpenClaim := { program := "ytpdpcgmkpgfblaa", sum := "943c4c1dc8e29e1707a3a5d6529307db5f7c6aa76cab110133e4106a8dbdf183", func := "scrinium/scriniumlaw16.PullParts", spec := "pullParts", inPlace := ["math.Float64bits"], unfollowed := true, recurses := true, apart := false, narrowed := true }
def PullPartsUptoSaid : Prop := pullPartsUptoRow.holds Try.pinned (OpenSpec.upto pullPartsSpec)

/-- 'scriniumlaw16.PullWalks', WHERE WHAT IT READS IS OF BULK AT MOST 1048576: true; the input reads as it did. -/
def pullWalksUptoRow : OpenClaim := { program := "ytpdpcgmkpgfblaa", sum := "943c4c1dc8e29e1707a3a5d6529307db5f7c6aa76cab110133e4106a8dbdf183", func := "scrinium/scriniumlaw16.PullWalks", spec := "pullWalks", inPlace := ["math.Float64bits"], unfollowed := true, recurses := true, apart := false, narrowed := true }
def PullWalksUptoSaid : Prop := pullWalksUptoRow.holds Try.pinned (OpenSpec.upto pullWalksSpec)

/-- 'scriniumlaw16.PullLens', WHERE WHAT IT READS IS OF BULK AT MOST 1048576: true; the input reads as it did. -/
def pullLensUptoRow : OpenClaim := { program := "ytpdpcgmkpgfblaa", sum := "943c4c1dc8e29e1707a3a5d6529307db5f7c6aa76cab110133e4106a8dbdf183", func := "scrinium/scriniumlaw16.PullLens", spec := "pullLens", unfollowed := true, recurses := true, apart := false, narrowed := true }
def PullLensUptoSaid : Prop := pullLensUptoRow.holds Try.pinned (OpenSpec.upto pullLensSpec)

end Rows
end Go.Proofs.Ytpdpcgmkpgfblaa
