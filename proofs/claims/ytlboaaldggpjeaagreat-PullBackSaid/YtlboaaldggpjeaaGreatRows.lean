/-
  No cell of these rows narrows 'for every input' (looked for: loops, veiled, ifaces, maps, wideKeys, modest, calm, conditions, laid).
  DERIVED. THE GIVEN ROWS OF THIS SEAT. 12 by the template 'for every input the law returns true; each argument reads behind the call as it read before'; 0 by the template 'total and deterministic' (their statements: YtlboaaldggpjeaaGreatTotals.lean).
  GIVEN WITH THE SEED: the statements are not yours to turn. If you find one false, say at which input.
  Laid BY PROGRAM, IN A SANDBOX (cutbox-rows.mjs): the forced cells as the released guide's own fill.sh prints them over the translation 1a7e4386e6b12c8f… (all of the seat's roots in one cut). By AI agents, Wed Nov 11 2026. No macro, syntax, notation, axiom, sorry.
-/
import Derived.Test.YtlboaaldggpjeaaGreatChecked
import GoSem.Claim
import GoSem.ClaimJoined
import GoSem.ClaimMapViews
import Derived.JoinedTies
import Derived.KernelRfl
namespace Go.Proofs.YtlboaaldggpjeaaGreat
/- THE CELL 'sum', in the pinned program and in every row, IS THE sha256 OF THE DUMP (.gsa) THAT YtlboaaldggpjeaaGreatProg.lean LOADS. Nothing in Lean hashes anything: it is a label: what it is worth is what the hold of that sum in a sandbox is worth. -/
noncomputable def Tryz.pinned : Pinned := { name := "ytlboaaldggpjeaagreat", sum := "1a7e4386e6b12c8f9b1b0bbbb284a51a7159e98074b5c601d44c5608dae5fc31", checked := Tryz.checked }
namespace Rows
def none {H : Type} : Left H := { results := [], args := [] }

/-- 'scriniumlaw12.VersionOther': WHATEVER THE INPUT: true; the input reads as it did. -/
def versionOtherSpec : ChangeSpec := { name := "versionOther", fn := fun _ => fun
  | [d1, d2, d3, d4] => { results := [.lit (.bool true)], args := [d1, d2, d3, d4] }
  | _ => none }
def versionOtherRow : OpenClaim := { program := "ytlboaaldggpjeaagreat", sum := "1a7e4386e6b12c8f9b1b0bbbb284a51a7159e98074b5c601d44c5608dae5fc31", func := "scrinium/scriniumlaw12.VersionOther", spec := "versionOther", unfollowed := true, recurses := true, apart := false }
def VersionOtherSaid : Prop := versionOtherRow.holds Tryz.pinned (OpenSpec.ofChange versionOtherSpec)

/-- ITS FALSE NEIGHBOUR: 'it returns false'. Refute it at one input. -/
def versionOtherWrong : ChangeSpec := { name := "versionOther", fn := fun _ => fun
  | [d1, d2, d3, d4] => { results := [.lit (.bool false)], args := [d1, d2, d3, d4] }
  | _ => none }
def VersionOtherWrongFalsely : Prop := versionOtherRow.holds Tryz.pinned (OpenSpec.ofChange versionOtherWrong)

/-- 'scriniumlaw16.PullBack': WHATEVER THE INPUT: true; the input reads as it did. -/
def pullBackSpec : ChangeSpec := { name := "pullBack", fn := fun _ => fun
  | [d1, d2] => { results := [.lit (.bool true)], args := [d1, d2] }
  | _ => none }
def pullBackRow : OpenClaim := { program := "ytlboaaldggpjeaagreat", sum := "1a7e4386e6b12c8f9b1b0bbbb284a51a7159e98074b5c601d44c5608dae5fc31", func := "scrinium/scriniumlaw16.PullBack", spec := "pullBack", unfollowed := true, recurses := true, apart := false }
def PullBackSaid : Prop := pullBackRow.holds Tryz.pinned (OpenSpec.ofChange pullBackSpec)

/-- ITS FALSE NEIGHBOUR: 'it returns false'. Refute it at one input. -/
def pullBackWrong : ChangeSpec := { name := "pullBack", fn := fun _ => fun
  | [d1, d2] => { results := [.lit (.bool false)], args := [d1, d2] }
  | _ => none }
def PullBackWrongFalsely : Prop := pullBackRow.holds Tryz.pinned (OpenSpec.ofChange pullBackWrong)

/-- 'scriniumlaw12.VersionTells': WHATEVER THE INPUT: true; the input reads as it did. -/
def versionTellsSpec : ChangeSpec := { name := "versionTells", fn := fun _ => fun
  | [d1, d2, d3, d4, d5] => { results := [.lit (.bool true)], args := [d1, d2, d3, d4, d5] }
  | _ => none }
def versionTellsRow : OpenClaim := { program := "ytlboaaldggpjeaagreat", sum := "1a7e4386e6b12c8f9b1b0bbbb284a51a7159e98074b5c601d44c5608dae5fc31", func := "scrinium/scriniumlaw12.VersionTells", spec := "versionTells", unfollowed := true, recurses := true, apart := false }
def VersionTellsSaid : Prop := versionTellsRow.holds Tryz.pinned (OpenSpec.ofChange versionTellsSpec)

/-- ITS FALSE NEIGHBOUR: 'it returns false'. Refute it at one input. -/
def versionTellsWrong : ChangeSpec := { name := "versionTells", fn := fun _ => fun
  | [d1, d2, d3, d4, d5] => { results := [.lit (.bool false)], args := [d1, d2, d3, d4, d5] }
  | _ => none }
def VersionTellsWrongFalsely : Prop := versionTellsRow.holds Tryz.pinned (OpenSpec.ofChange versionTellsWrong)

/-- 'scriniumlaw13.PutFull': WHATEVER THE INPUT: true; the input reads as it did. -/
def putFullSpec : ChangeSpec := { name := "putFull", fn := fun _ => fun
  | [d1, d2, d3, d4] => { results := [.lit (.bool true)], args := [d1, d2, d3, d4] }
  | _ => none }
def putFullRow : OpenClaim := { program := "ytlboaaldggpjeaagreat", sum := "1a7e4386e6b12c8f9b1b0bbbb284a51a7159e98074b5c601d44c5608dae5fc31", func := "scrinium/scriniumlaw13.PutFull", spec := "putFull", unfollowed := true, recurses := true, apart := false }
def PutFullSaid : Prop := putFullRow.holds Tryz.pinned (OpenSpec.ofChange putFullSpec)

/-- ITS FALSE NEIGHBOUR: 'it returns false'. Refute it at one input. -/
def putFullWrong : ChangeSpec := { name := "putFull", fn := fun _ => fun
  | [d1, d2, d3, d4] => { results := [.lit (.bool false)], args := [d1, d2, d3, d4] }
  | _ => none }
def PutFullWrongFalsely : Prop := putFullRow.holds Tryz.pinned (OpenSpec.ofChange putFullWrong)

/-- 'scriniumlaw14.CutSteps': WHATEVER THE INPUT: true; the input reads as it did. -/
def cutStepsSpec : ChangeSpec := { name := "cutSteps", fn := fun _ => fun
  | [d1, d2, d3] => { results := [.lit (.bool true)], args := [d1, d2, d3] }
  | _ => none }
def cutStepsRow : OpenClaim := { program := "ytlboaaldggpjeaagreat", sum := "1a7e4386e6b12c8f9b1b0bbbb284a51a7159e98074b5c601d44c5608dae5fc31", func := "scrinium/scriniumlaw14.CutSteps", spec := "cutSteps", unfollowed := true, recurses := true, apart := false }
def CutStepsSaid : Prop := cutStepsRow.holds Tryz.pinned (OpenSpec.ofChange cutStepsSpec)

/-- ITS FALSE NEIGHBOUR: 'it returns false'. Refute it at one input. -/
def cutStepsWrong : ChangeSpec := { name := "cutSteps", fn := fun _ => fun
  | [d1, d2, d3] => { results := [.lit (.bool false)], args := [d1, d2, d3] }
  | _ => none }
def CutStepsWrongFalsely : Prop := cutStepsRow.holds Tryz.pinned (OpenSpec.ofChange cutStepsWrong)

/-- 'scriniumlaw14.CutTwins': WHATEVER THE INPUT: true; the input reads as it did. -/
def cutTwinsSpec : ChangeSpec := { name := "cutTwins", fn := fun _ => fun
  | [d1, d2, d3, d4] => { results := [.lit (.bool true)], args := [d1, d2, d3, d4] }
  | _ => none }
def cutTwinsRow : OpenClaim := { program := "ytlboaaldggpjeaagreat", sum := "1a7e4386e6b12c8f9b1b0bbbb284a51a7159e98074b5c601d44c5608dae5fc31", func := "scrinium/scriniumlaw14.CutTwins", spec := "cutTwins", unfollowed := true, recurses := true, apart := false }
def CutTwinsSaid : Prop := cutTwinsRow.holds Tryz.pinned (OpenSpec.ofChange cutTwinsSpec)

/-- ITS FALSE NEIGHBOUR: 'it returns false'. Refute it at one input. -/
def cutTwinsWrong : ChangeSpec := { name := "cutTwins", fn := fun _ => fun
  | [d1, d2, d3, d4] => { results := [.lit (.bool false)], args := [d1, d2, d3, d4] }
  | _ => none }
def CutTwinsWrongFalsely : Prop := cutTwinsRow.holds Tryz.pinned (OpenSpec.ofChange cutTwinsWrong)

/-- 'scriniumlaw14.CutTells': WHATEVER THE INPUT: true; the input reads as it did. -/
def cutTellsSpec : ChangeSpec := { name := "cutTells", fn := fun _ => fun
  | [d1, d2, d3] => { results := [.lit (.bool true)], args := [d1, d2, d3] }
  | _ => none }
def cutTellsRow : OpenClaim := { program := "ytlboaaldggpjeaagreat", sum := "1a7e4386e6b12c8f9b1b0bbbb284a51a7159e98074b5c601d44c5608dae5fc31", func := "scrinium/scriniumlaw14.CutTells", spec := "cutTells", unfollowed := true, recurses := true, apart := false }
def CutTellsSaid : Prop := cutTellsRow.holds Tryz.pinned (OpenSpec.ofChange cutTellsSpec)

/-- ITS FALSE NEIGHBOUR: 'it returns false'. Refute it at one input. -/
def cutTellsWrong : ChangeSpec := { name := "cutTells", fn := fun _ => fun
  | [d1, d2, d3] => { results := [.lit (.bool false)], args := [d1, d2, d3] }
  | _ => none }
def CutTellsWrongFalsely : Prop := cutTellsRow.holds Tryz.pinned (OpenSpec.ofChange cutTellsWrong)

/-- 'scriniumlaw14.CutStops': WHATEVER THE INPUT: true; the input reads as it did. -/
def cutStopsSpec : ChangeSpec := { name := "cutStops", fn := fun _ => fun
  | [d1, d2, d3, d4, d5] => { results := [.lit (.bool true)], args := [d1, d2, d3, d4, d5] }
  | _ => none }
def cutStopsRow : OpenClaim := { program := "ytlboaaldggpjeaagreat", sum := "1a7e4386e6b12c8f9b1b0bbbb284a51a7159e98074b5c601d44c5608dae5fc31", func := "scrinium/scriniumlaw14.CutStops", spec := "cutStops", unfollowed := true, recurses := true, apart := false }
def CutStopsSaid : Prop := cutStopsRow.holds Tryz.pinned (OpenSpec.ofChange cutStopsSpec)

/-- ITS FALSE NEIGHBOUR: 'it returns false'. Refute it at one input. -/
def cutStopsWrong : ChangeSpec := { name := "cutStops", fn := fun _ => fun
  | [d1, d2, d3, d4, d5] => { results := [.lit (.bool false)], args := [d1, d2, d3, d4, d5] }
  | _ => none }
def CutStopsWrongFalsely : Prop := cutStopsRow.holds Tryz.pinned (OpenSpec.ofChange cutStopsWrong)

/-- 'scriniumlaw14.CutPut': WHATEVER THE INPUT: true; the input reads as it did. -/
def cutPutSpec : ChangeSpec := { name := "cutPut", fn := fun _ => fun
  | [d1, d2, d3] => { results := [.lit (.bool true)], args := [d1, d2, d3] }
  | _ => none }
def cutPutRow : OpenClaim := { program := "ytlboaaldggpjeaagreat", sum := "1a7e4386e6b12c8f9b1b0bbbb284a51a7159e98074b5c601d44c5608dae5fc31", func := "scrinium/scriniumlaw14.CutPut", spec := "cutPut", unfollowed := true, recurses := true, apart := false }
def CutPutSaid : Prop := cutPutRow.holds Tryz.pinned (OpenSpec.ofChange cutPutSpec)

/-- ITS FALSE NEIGHBOUR: 'it returns false'. Refute it at one input. -/
def cutPutWrong : ChangeSpec := { name := "cutPut", fn := fun _ => fun
  | [d1, d2, d3] => { results := [.lit (.bool false)], args := [d1, d2, d3] }
  | _ => none }
def CutPutWrongFalsely : Prop := cutPutRow.holds Tryz.pinned (OpenSpec.ofChange cutPutWrong)

/-- 'scriniumlaw14.CutRefused': WHATEVER THE INPUT: true; the input reads as it did. -/
def cutRefusedSpec : ChangeSpec := { name := "cutRefused", fn := fun _ => fun
  | [d1, d2] => { results := [.lit (.bool true)], args := [d1, d2] }
  | _ => none }
def cutRefusedRow : OpenClaim := { program := "ytlboaaldggpjeaagreat", sum := "1a7e4386e6b12c8f9b1b0bbbb284a51a7159e98074b5c601d44c5608dae5fc31", func := "scrinium/scriniumlaw14.CutRefused", spec := "cutRefused", unfollowed := true, recurses := true, apart := false }
def CutRefusedSaid : Prop := cutRefusedRow.holds Tryz.pinned (OpenSpec.ofChange cutRefusedSpec)

/-- ITS FALSE NEIGHBOUR: 'it returns false'. Refute it at one input. -/
def cutRefusedWrong : ChangeSpec := { name := "cutRefused", fn := fun _ => fun
  | [d1, d2] => { results := [.lit (.bool false)], args := [d1, d2] }
  | _ => none }
def CutRefusedWrongFalsely : Prop := cutRefusedRow.holds Tryz.pinned (OpenSpec.ofChange cutRefusedWrong)

/-- 'scriniumlaw14.CutHeld': WHATEVER THE INPUT: true; the input reads as it did. -/
def cutHeldSpec : ChangeSpec := { name := "cutHeld", fn := fun _ => fun
  | [d1, d2, d3, d4] => { results := [.lit (.bool true)], args := [d1, d2, d3, d4] }
  | _ => none }
def cutHeldRow : OpenClaim := { program := "ytlboaaldggpjeaagreat", sum := "1a7e4386e6b12c8f9b1b0bbbb284a51a7159e98074b5c601d44c5608dae5fc31", func := "scrinium/scriniumlaw14.CutHeld", spec := "cutHeld", unfollowed := true, recurses := true, apart := false }
def CutHeldSaid : Prop := cutHeldRow.holds Tryz.pinned (OpenSpec.ofChange cutHeldSpec)

/-- ITS FALSE NEIGHBOUR: 'it returns false'. Refute it at one input. -/
def cutHeldWrong : ChangeSpec := { name := "cutHeld", fn := fun _ => fun
  | [d1, d2, d3, d4] => { results := [.lit (.bool false)], args := [d1, d2, d3, d4] }
  | _ => none }
def CutHeldWrongFalsely : Prop := cutHeldRow.holds Tryz.pinned (OpenSpec.ofChange cutHeldWrong)

/-- 'scriniumlaw14.CutBack': WHATEVER THE INPUT: true; the input reads as it did. -/
def cutBackSpec : ChangeSpec := { name := "cutBack", fn := fun _ => fun
  | [d1, d2, d3] => { results := [.lit (.bool true)], args := [d1, d2, d3] }
  | _ => none }
def cutBackRow : OpenClaim := { program := "ytlboaaldggpjeaagreat", sum := "1a7e4386e6b12c8f9b1b0bbbb284a51a7159e98074b5c601d44c5608dae5fc31", func := "scrinium/scriniumlaw14.CutBack", spec := "cutBack", unfollowed := true, recurses := true, apart := false }
def CutBackSaid : Prop := cutBackRow.holds Tryz.pinned (OpenSpec.ofChange cutBackSpec)

/-- ITS FALSE NEIGHBOUR: 'it returns false'. Refute it at one input. -/
def cutBackWrong : ChangeSpec := { name := "cutBack", fn := fun _ => fun
  | [d1, d2, d3] => { results := [.lit (.bool false)], args := [d1, d2, d3] }
  | _ => none }
def CutBackWrongFalsely : Prop := cutBackRow.holds Tryz.pinned (OpenSpec.ofChange cutBackWrong)

/- THE SECOND FORM. 'bulk': how many values and letters a reading holds, each counted each time it is reached (what is shared counts as often as it is met; a slice's spare places count too). A statement '..UptoSaid' is the law's where the arguments, and the package variables that the reading takes, are together of bulk at most 1048576: NARROWER than '..Said'. Prove '..Said' where nothing that the law and all that it calls make is longer than what came in: it says more and counts as full. Else prove '..UptoSaid'. A law counts once. -/
mutual
def uptoBulk {H : Type} : DataW H → Nat
  | .lit (.string bytes) => bytes.length + 1
  | .lit _ => 1
  | .nil => 1
  | .ptr d => uptoBulk d + 1
  | .slice elems spare => uptoBulkAll elems + uptoBulkAll spare + 1
  | .agg parts => uptoBulkAll parts + 1
  | .iface _ d => uptoBulk d + 1
  | .map entries => uptoBulkEntries entries + 1
  | .held _ => 1
def uptoBulkAll {H : Type} : List (DataW H) → Nat
  | [] => 0
  | d :: r => uptoBulk d + uptoBulkAll r
def uptoBulkEntries {H : Type} : List (Lit × DataW H) → Nat
  | [] => 0
  | x :: r => uptoBulkEntry x + uptoBulkEntries r
def uptoBulkEntry {H : Type} : Lit × DataW H → Nat
  | (.string bytes, d) => bytes.length + uptoBulk d + 1
  | (_, d) => uptoBulk d + 1
 end
def uptoSmall : (H : Type) → List (DataW H) → Bool := fun _ ds => decide (uptoBulkAll ds ≤ 1048576)
def OpenSpec.upto (s : _root_.Go.ChangeSpec) : _root_.Go.OpenSpec := { _root_.Go.OpenSpec.ofChange s with cond := some uptoSmall }

/-- 'scriniumlaw12.VersionOther', WHERE WHAT IT READS IS OF BULK AT MOST 1048576: true; the input reads as it did. -/
def versionOtherUptoRow : OpenClaim := { program := "ytlboaaldggpjeaagreat", sum := "1a7e4386e6b12c8f9b1b0bbbb284a51a7159e98074b5c601d44c5608dae5fc31", func := "scrinium/scriniumlaw12.VersionOther", spec := "versionOther", unfollowed := true, recurses := true, apart := false, narrowed := true }
def VersionOtherUptoSaid : Prop := versionOtherUptoRow.holds Tryz.pinned (OpenSpec.upto versionOtherSpec)

/-- 'scriniumlaw16.PullBack', WHERE WHAT IT READS IS OF BULK AT MOST 1048576: true; the input reads as it did. -/
def pullBackUptoRow : OpenClaim := { program := "ytlboaaldggpjeaagreat", sum := "1a7e4386e6b12c8f9b1b0bbbb284a51a7159e98074b5c601d44c5608dae5fc31", func := "scrinium/scriniumlaw16.PullBack", spec := "pullBack", unfollowed := true, recurses := true, apart := false, narrowed := true }
def PullBackUptoSaid : Prop := pullBackUptoRow.holds Tryz.pinned (OpenSpec.upto pullBackSpec)

/-- 'scriniumlaw12.VersionTells', WHERE WHAT IT READS IS OF BULK AT MOST 1048576: true; the input reads as it did. -/
def versionTellsUptoRow : OpenClaim := { program := "ytlboaaldggpjeaagreat", sum := "1a7e4386e6b12c8f9b1b0bbbb284a51a7159e98074b5c601d44c5608dae5fc31", func := "scrinium/scriniumlaw12.VersionTells", spec := "versionTells", unfollowed := true, recurses := true, apart := false, narrowed := true }
def VersionTellsUptoSaid : Prop := versionTellsUptoRow.holds Tryz.pinned (OpenSpec.upto versionTellsSpec)

/-- 'scriniumlaw13.PutFull', WHERE WHAT IT READS IS OF BULK AT MOST 1048576: true; the input reads as it did. -/
def putFullUptoRow : OpenClaim := { program := "ytlboaaldggpjeaagreat", sum := "1a7e4386e6b12c8f9b1b0bbbb284a51a7159e98074b5c601d44c5608dae5fc31", func := "scrinium/scriniumlaw13.PutFull", spec := "putFull", unfollowed := true, recurses := true, apart := false, narrowed := true }
def PutFullUptoSaid : Prop := putFullUptoRow.holds Tryz.pinned (OpenSpec.upto putFullSpec)

/-- 'scriniumlaw14.CutSteps', WHERE WHAT IT READS IS OF BULK AT MOST 1048576: true; the input reads as it did. -/
def cutStepsUptoRow : OpenClaim := { program := "ytlboaaldggpjeaagreat", sum := "1a7e4386e6b12c8f9b1b0bbbb284a51a7159e98074b5c601d44c5608dae5fc31", func := "scrinium/scriniumlaw14.CutSteps", spec := "cutSteps", unfollowed := true, recurses := true, apart := false, narrowed := true }
def CutStepsUptoSaid : Prop := cutStepsUptoRow.holds Tryz.pinned (OpenSpec.upto cutStepsSpec)

/-- 'scriniumlaw14.CutTwins', WHERE WHAT IT READS IS OF BULK AT MOST 1048576: true; the input reads as it did. -/
def cutTwinsUptoRow : OpenClaim := { program := "ytlboaaldggpjeaagreat", sum := "1a7e4386e6b12c8f9b1b0bbbb284a51a7159e98074b5c601d44c5608dae5fc31", func := "scrinium/scriniumlaw14.CutTwins", spec := "cutTwins", unfollowed := true, recurses := true, apart := false, narrowed := true }
def CutTwinsUptoSaid : Prop := cutTwinsUptoRow.holds Tryz.pinned (OpenSpec.upto cutTwinsSpec)

/-- 'scriniumlaw14.CutTells', WHERE WHAT IT READS IS OF BULK AT MOST 1048576: true; the input reads as it did. -/
def cutTellsUptoRow : OpenClaim := { program := "ytlboaaldggpjeaagreat", sum := "1a7e4386e6b12c8f9b1b0bbbb284a51a7159e98074b5c601d44c5608dae5fc31", func := "scrinium/scriniumlaw14.CutTells", spec := "cutTells", unfollowed := true, recurses := true, apart := false, narrowed := true }
def CutTellsUptoSaid : Prop := cutTellsUptoRow.holds Tryz.pinned (OpenSpec.upto cutTellsSpec)

/-- 'scriniumlaw14.CutStops', WHERE WHAT IT READS IS OF BULK AT MOST 1048576: true; the input reads as it did. -/
def cutStopsUptoRow : OpenClaim := { program := "ytlboaaldggpjeaagreat", sum := "1a7e4386e6b12c8f9b1b0bbbb284a51a7159e98074b5c601d44c5608dae5fc31", func := "scrinium/scriniumlaw14.CutStops", spec := "cutStops", unfollowed := true, recurses := true, apart := false, narrowed := true }
def CutStopsUptoSaid : Prop := cutStopsUptoRow.holds Tryz.pinned (OpenSpec.upto cutStopsSpec)

/-- 'scriniumlaw14.CutPut', WHERE WHAT IT READS IS OF BULK AT MOST 1048576: true; the input reads as it did. -/
def cutPutUptoRow : OpenClaim := { program := "ytlboaaldggpjeaagreat", sum := "1a7e4386e6b12c8f9b1b0bbbb284a51a7159e98074b5c601d44c5608dae5fc31", func := "scrinium/scriniumlaw14.CutPut", spec := "cutPut", unfollowed := true, recurses := true, apart := false, narrowed := true }
def CutPutUptoSaid : Prop := cutPutUptoRow.holds Tryz.pinned (OpenSpec.upto cutPutSpec)

/-- 'scriniumlaw14.CutRefused', WHERE WHAT IT READS IS OF BULK AT MOST 1048576: true; the input reads as it did. -/
def cutRefusedUptoRow : OpenClaim := { program := "ytlboaaldggpjeaagreat", sum := "1a7e4386e6b12c8f9b1b0bbbb284a51a7159e98074b5c601d44c5608dae5fc31", func := "scrinium/scriniumlaw14.CutRefused", spec := "cutRefused", unfollowed := true, recurses := true, apart := false, narrowed := true }
def CutRefusedUptoSaid : Prop := cutRefusedUptoRow.holds Tryz.pinned (OpenSpec.upto cutRefusedSpec)

/-- 'scriniumlaw14.CutHeld', WHERE WHAT IT READS IS OF BULK AT MOST 1048576: true; the input reads as it did. -/
def cutHeldUptoRow : OpenClaim := { program := "ytlboaaldggpjeaagreat", sum := "1a7e4386e6b12c8f9b1b0bbbb284a51a7159e98074b5c601d44c5608dae5fc31", func := "scrinium/scriniumlaw14.CutHeld", spec := "cutHeld", unfollowed := true, recurses := true, apart := false, narrowed := true }
def CutHeldUptoSaid : Prop := cutHeldUptoRow.holds Tryz.pinned (OpenSpec.upto cutHeldSpec)

/-- 'scriniumlaw14.CutBack', WHERE WHAT IT READS IS OF BULK AT MOST 1048576: true; the input reads as it did. -/
def cutBackUptoRow : OpenClaim := { program := "ytlboaaldggpjeaagreat", sum := "1a7e4386e6b12c8f9b1b0bbbb284a51a7159e98074b5c601d44c5608dae5fc31", func := "scrinium/scriniumlaw14.CutBack", spec := "cutBack", unfollowed := true, recurses := true, apart := false, narrowed := true }
def CutBackUptoSaid : Prop := cutBackUptoRow.holds Tryz.pinned (OpenSpec.upto cutBackSpec)

end Rows
end Go.Proofs.YtlboaaldggpjeaaGreat
