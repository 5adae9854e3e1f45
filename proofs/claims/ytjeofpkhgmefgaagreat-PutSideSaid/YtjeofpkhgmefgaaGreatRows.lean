/-
  No cell of these rows narrows 'for every input' (looked for: loops, veiled, ifaces, maps, wideKeys, modest, calm, conditions, laid).
  DERIVED. THE GIVEN ROWS OF THIS SEAT. 12 by the template 'for every input the law returns true; each argument reads behind the call as it read before'; 0 by the template 'total and deterministic' (their statements: YtjeofpkhgmefgaaGreatTotals.lean).
  GIVEN WITH THE SEED: the statements are not yours to turn. If you find one false, say at which input.
  Laid BY PROGRAM, IN A SANDBOX (cutbox-rows.mjs): the forced cells as the released guide's own fill.sh prints them over the translation 2b95c87f7a95a63e… (all of the seat's roots in one cut). By AI agents, Wed Nov 11 2026. No macro, syntax, notation, axiom, sorry.
-/
import Derived.Test.YtjeofpkhgmefgaaGreatChecked
import GoSem.Claim
import GoSem.ClaimJoined
import GoSem.ClaimMapViews
import Derived.JoinedTies
import Derived.KernelRfl
namespace Go.Proofs.YtjeofpkhgmefgaaGreat
/- THE CELL 'sum', in the pinned program and in every row, IS THE sha256 OF THE DUMP (.gsa) THAT YtjeofpkhgmefgaaGreatProg.lean LOADS. Nothing in Lean hashes anything: it is a label: what it is worth is what the hold of that sum in a sandbox is worth. -/
noncomputable def Tryz.pinned : Pinned := { name := "ytjeofpkhgmefgaagreat", sum := "2b95c87f7a95a63ef1dd3f34ac1e01be5f6f270eca89e5da9adf33c63025beaf", checked := Tryz.checked }
namespace Rows
def none {H : Type} : Left H := { results := [], args := [] }

/-- 'scriniumlaw12.VersionMakes': WHATEVER THE INPUT: true; the input reads as it did. -/
def versionMakesSpec : ChangeSpec := { name := "versionMakes", fn := fun _ => fun
  | [d1, d2] => { results := [.lit (.bool true)], args := [d1, d2] }
  | _ => none }
def versionMakesRow : OpenClaim := { program := "ytjeofpkhgmefgaagreat", sum := "2b95c87f7a95a63ef1dd3f34ac1e01be5f6f270eca89e5da9adf33c63025beaf", func := "scrinium/scriniumlaw12.VersionMakes", spec := "versionMakes", unfollowed := true, recurses := true, apart := false }
def VersionMakesSaid : Prop := versionMakesRow.holds Tryz.pinned (OpenSpec.ofChange versionMakesSpec)

/-- ITS FALSE NEIGHBOUR: 'it returns false'. Refute it at one input. -/
def versionMakesWrong : ChangeSpec := { name := "versionMakes", fn := fun _ => fun
  | [d1, d2] => { results := [.lit (.bool false)], args := [d1, d2] }
  | _ => none }
def VersionMakesWrongFalsely : Prop := versionMakesRow.holds Tryz.pinned (OpenSpec.ofChange versionMakesWrong)

/-- 'scriniumlaw12.VersionOther': WHATEVER THE INPUT: true; the input reads as it did. -/
def versionOtherSpec : ChangeSpec := { name := "versionOther", fn := fun _ => fun
  | [d1, d2, d3, d4] => { results := [.lit (.bool true)], args := [d1, d2, d3, d4] }
  | _ => none }
def versionOtherRow : OpenClaim := { program := "ytjeofpkhgmefgaagreat", sum := "2b95c87f7a95a63ef1dd3f34ac1e01be5f6f270eca89e5da9adf33c63025beaf", func := "scrinium/scriniumlaw12.VersionOther", spec := "versionOther", unfollowed := true, recurses := true, apart := false }
def VersionOtherSaid : Prop := versionOtherRow.holds Tryz.pinned (OpenSpec.ofChange versionOtherSpec)

/-- ITS FALSE NEIGHBOUR: 'it returns false'. Refute it at one input. -/
def versionOtherWrong : ChangeSpec := { name := "versionOther", fn := fun _ => fun
  | [d1, d2, d3, d4] => { results := [.lit (.bool false)], args := [d1, d2, d3, d4] }
  | _ => none }
def VersionOtherWrongFalsely : Prop := versionOtherRow.holds Tryz.pinned (OpenSpec.ofChange versionOtherWrong)

/-- 'scriniumlaw12.VersionTells': WHATEVER THE INPUT: true; the input reads as it did. -/
def versionTellsSpec : ChangeSpec := { name := "versionTells", fn := fun _ => fun
  | [d1, d2, d3, d4, d5] => { results := [.lit (.bool true)], args := [d1, d2, d3, d4, d5] }
  | _ => none }
def versionTellsRow : OpenClaim := { program := "ytjeofpkhgmefgaagreat", sum := "2b95c87f7a95a63ef1dd3f34ac1e01be5f6f270eca89e5da9adf33c63025beaf", func := "scrinium/scriniumlaw12.VersionTells", spec := "versionTells", unfollowed := true, recurses := true, apart := false }
def VersionTellsSaid : Prop := versionTellsRow.holds Tryz.pinned (OpenSpec.ofChange versionTellsSpec)

/-- ITS FALSE NEIGHBOUR: 'it returns false'. Refute it at one input. -/
def versionTellsWrong : ChangeSpec := { name := "versionTells", fn := fun _ => fun
  | [d1, d2, d3, d4, d5] => { results := [.lit (.bool false)], args := [d1, d2, d3, d4, d5] }
  | _ => none }
def VersionTellsWrongFalsely : Prop := versionTellsRow.holds Tryz.pinned (OpenSpec.ofChange versionTellsWrong)

/-- 'scriniumlaw13.PutSame': WHATEVER THE INPUT: true; the input reads as it did. -/
def putSameSpec : ChangeSpec := { name := "putSame", fn := fun _ => fun
  | [d1, d2] => { results := [.lit (.bool true)], args := [d1, d2] }
  | _ => none }
def putSameRow : OpenClaim := { program := "ytjeofpkhgmefgaagreat", sum := "2b95c87f7a95a63ef1dd3f34ac1e01be5f6f270eca89e5da9adf33c63025beaf", func := "scrinium/scriniumlaw13.PutSame", spec := "putSame", unfollowed := true, recurses := true, apart := false }
def PutSameSaid : Prop := putSameRow.holds Tryz.pinned (OpenSpec.ofChange putSameSpec)

/-- ITS FALSE NEIGHBOUR: 'it returns false'. Refute it at one input. -/
def putSameWrong : ChangeSpec := { name := "putSame", fn := fun _ => fun
  | [d1, d2] => { results := [.lit (.bool false)], args := [d1, d2] }
  | _ => none }
def PutSameWrongFalsely : Prop := putSameRow.holds Tryz.pinned (OpenSpec.ofChange putSameWrong)

/-- 'scriniumlaw13.PutSide': WHATEVER THE INPUT: true; the input reads as it did. -/
def putSideSpec : ChangeSpec := { name := "putSide", fn := fun _ => fun
  | [d1, d2, d3, d4, d5] => { results := [.lit (.bool true)], args := [d1, d2, d3, d4, d5] }
  | _ => none }
def putSideRow : OpenClaim := { program := "ytjeofpkhgmefgaagreat", sum := "2b95c87f7a95a63ef1dd3f34ac1e01be5f6f270eca89e5da9adf33c63025beaf", func := "scrinium/scriniumlaw13.PutSide", spec := "putSide", unfollowed := true, recurses := true, apart := false }
def PutSideSaid : Prop := putSideRow.holds Tryz.pinned (OpenSpec.ofChange putSideSpec)

/-- ITS FALSE NEIGHBOUR: 'it returns false'. Refute it at one input. -/
def putSideWrong : ChangeSpec := { name := "putSide", fn := fun _ => fun
  | [d1, d2, d3, d4, d5] => { results := [.lit (.bool false)], args := [d1, d2, d3, d4, d5] }
  | _ => none }
def PutSideWrongFalsely : Prop := putSideRow.holds Tryz.pinned (OpenSpec.ofChange putSideWrong)

/-- 'scriniumlaw13.PutTells': WHATEVER THE INPUT: true; the input reads as it did. -/
def putTellsSpec : ChangeSpec := { name := "putTells", fn := fun _ => fun
  | [d1, d2, d3] => { results := [.lit (.bool true)], args := [d1, d2, d3] }
  | _ => none }
def putTellsRow : OpenClaim := { program := "ytjeofpkhgmefgaagreat", sum := "2b95c87f7a95a63ef1dd3f34ac1e01be5f6f270eca89e5da9adf33c63025beaf", func := "scrinium/scriniumlaw13.PutTells", spec := "putTells", unfollowed := true, recurses := true, apart := false }
def PutTellsSaid : Prop := putTellsRow.holds Tryz.pinned (OpenSpec.ofChange putTellsSpec)

/-- ITS FALSE NEIGHBOUR: 'it returns false'. Refute it at one input. -/
def putTellsWrong : ChangeSpec := { name := "putTells", fn := fun _ => fun
  | [d1, d2, d3] => { results := [.lit (.bool false)], args := [d1, d2, d3] }
  | _ => none }
def PutTellsWrongFalsely : Prop := putTellsRow.holds Tryz.pinned (OpenSpec.ofChange putTellsWrong)

/-- 'scriniumlaw13.PutFull': WHATEVER THE INPUT: true; the input reads as it did. -/
def putFullSpec : ChangeSpec := { name := "putFull", fn := fun _ => fun
  | [d1, d2, d3, d4] => { results := [.lit (.bool true)], args := [d1, d2, d3, d4] }
  | _ => none }
def putFullRow : OpenClaim := { program := "ytjeofpkhgmefgaagreat", sum := "2b95c87f7a95a63ef1dd3f34ac1e01be5f6f270eca89e5da9adf33c63025beaf", func := "scrinium/scriniumlaw13.PutFull", spec := "putFull", unfollowed := true, recurses := true, apart := false }
def PutFullSaid : Prop := putFullRow.holds Tryz.pinned (OpenSpec.ofChange putFullSpec)

/-- ITS FALSE NEIGHBOUR: 'it returns false'. Refute it at one input. -/
def putFullWrong : ChangeSpec := { name := "putFull", fn := fun _ => fun
  | [d1, d2, d3, d4] => { results := [.lit (.bool false)], args := [d1, d2, d3, d4] }
  | _ => none }
def PutFullWrongFalsely : Prop := putFullRow.holds Tryz.pinned (OpenSpec.ofChange putFullWrong)

/-- 'scriniumlaw13.PutStops': WHATEVER THE INPUT: true; the input reads as it did. -/
def putStopsSpec : ChangeSpec := { name := "putStops", fn := fun _ => fun
  | [d1, d2, d3, d4] => { results := [.lit (.bool true)], args := [d1, d2, d3, d4] }
  | _ => none }
def putStopsRow : OpenClaim := { program := "ytjeofpkhgmefgaagreat", sum := "2b95c87f7a95a63ef1dd3f34ac1e01be5f6f270eca89e5da9adf33c63025beaf", func := "scrinium/scriniumlaw13.PutStops", spec := "putStops", unfollowed := true, recurses := true, apart := false }
def PutStopsSaid : Prop := putStopsRow.holds Tryz.pinned (OpenSpec.ofChange putStopsSpec)

/-- ITS FALSE NEIGHBOUR: 'it returns false'. Refute it at one input. -/
def putStopsWrong : ChangeSpec := { name := "putStops", fn := fun _ => fun
  | [d1, d2, d3, d4] => { results := [.lit (.bool false)], args := [d1, d2, d3, d4] }
  | _ => none }
def PutStopsWrongFalsely : Prop := putStopsRow.holds Tryz.pinned (OpenSpec.ofChange putStopsWrong)

/-- 'scriniumlaw13.PutHeld': WHATEVER THE INPUT: true; the input reads as it did. -/
def putHeldSpec : ChangeSpec := { name := "putHeld", fn := fun _ => fun
  | [d1, d2, d3, d4] => { results := [.lit (.bool true)], args := [d1, d2, d3, d4] }
  | _ => none }
def putHeldRow : OpenClaim := { program := "ytjeofpkhgmefgaagreat", sum := "2b95c87f7a95a63ef1dd3f34ac1e01be5f6f270eca89e5da9adf33c63025beaf", func := "scrinium/scriniumlaw13.PutHeld", spec := "putHeld", unfollowed := true, recurses := true, apart := false }
def PutHeldSaid : Prop := putHeldRow.holds Tryz.pinned (OpenSpec.ofChange putHeldSpec)

/-- ITS FALSE NEIGHBOUR: 'it returns false'. Refute it at one input. -/
def putHeldWrong : ChangeSpec := { name := "putHeld", fn := fun _ => fun
  | [d1, d2, d3, d4] => { results := [.lit (.bool false)], args := [d1, d2, d3, d4] }
  | _ => none }
def PutHeldWrongFalsely : Prop := putHeldRow.holds Tryz.pinned (OpenSpec.ofChange putHeldWrong)

/-- 'scriniumlaw13.PutRates': WHATEVER THE INPUT: true; the input reads as it did. -/
def putRatesSpec : ChangeSpec := { name := "putRates", fn := fun _ => fun
  | [d1, d2, d3] => { results := [.lit (.bool true)], args := [d1, d2, d3] }
  | _ => none }
def putRatesRow : OpenClaim := { program := "ytjeofpkhgmefgaagreat", sum := "2b95c87f7a95a63ef1dd3f34ac1e01be5f6f270eca89e5da9adf33c63025beaf", func := "scrinium/scriniumlaw13.PutRates", spec := "putRates", unfollowed := true, recurses := true, apart := false }
def PutRatesSaid : Prop := putRatesRow.holds Tryz.pinned (OpenSpec.ofChange putRatesSpec)

/-- ITS FALSE NEIGHBOUR: 'it returns false'. Refute it at one input. -/
def putRatesWrong : ChangeSpec := { name := "putRates", fn := fun _ => fun
  | [d1, d2, d3] => { results := [.lit (.bool false)], args := [d1, d2, d3] }
  | _ => none }
def PutRatesWrongFalsely : Prop := putRatesRow.holds Tryz.pinned (OpenSpec.ofChange putRatesWrong)

/-- 'scriniumlaw14.CutTells': WHATEVER THE INPUT: true; the input reads as it did. -/
def cutTellsSpec : ChangeSpec := { name := "cutTells", fn := fun _ => fun
  | [d1, d2, d3] => { results := [.lit (.bool true)], args := [d1, d2, d3] }
  | _ => none }
def cutTellsRow : OpenClaim := { program := "ytjeofpkhgmefgaagreat", sum := "2b95c87f7a95a63ef1dd3f34ac1e01be5f6f270eca89e5da9adf33c63025beaf", func := "scrinium/scriniumlaw14.CutTells", spec := "cutTells", unfollowed := true, recurses := true, apart := false }
def CutTellsSaid : Prop := cutTellsRow.holds Tryz.pinned (OpenSpec.ofChange cutTellsSpec)

/-- ITS FALSE NEIGHBOUR: 'it returns false'. Refute it at one input. -/
def cutTellsWrong : ChangeSpec := { name := "cutTells", fn := fun _ => fun
  | [d1, d2, d3] => { results := [.lit (.bool false)], args := [d1, d2, d3] }
  | _ => none }
def CutTellsWrongFalsely : Prop := cutTellsRow.holds Tryz.pinned (OpenSpec.ofChange cutTellsWrong)

/-- 'scriniumlaw14.CutRefused': WHATEVER THE INPUT: true; the input reads as it did. -/
def cutRefusedSpec : ChangeSpec := { name := "cutRefused", fn := fun _ => fun
  | [d1, d2] => { results := [.lit (.bool true)], args := [d1, d2] }
  | _ => none }
def cutRefusedRow : OpenClaim := { program := "ytjeofpkhgmefgaagreat", sum := "2b95c87f7a95a63ef1dd3f34ac1e01be5f6f270eca89e5da9adf33c63025beaf", func := "scrinium/scriniumlaw14.CutRefused", spec := "cutRefused", unfollowed := true, recurses := true, apart := false }
def CutRefusedSaid : Prop := cutRefusedRow.holds Tryz.pinned (OpenSpec.ofChange cutRefusedSpec)

/-- ITS FALSE NEIGHBOUR: 'it returns false'. Refute it at one input. -/
def cutRefusedWrong : ChangeSpec := { name := "cutRefused", fn := fun _ => fun
  | [d1, d2] => { results := [.lit (.bool false)], args := [d1, d2] }
  | _ => none }
def CutRefusedWrongFalsely : Prop := cutRefusedRow.holds Tryz.pinned (OpenSpec.ofChange cutRefusedWrong)

/- THE SECOND FORM. 'bulk': how many values and letters a reading holds, each counted each time it is reached (what is shared counts as often as it is met; a slice's spare places count too). A statement '..UptoSaid' is the law's where the arguments, and the package variables that the reading takes, are together of bulk at most 1048576: NARROWER than '..Said'. Prove '..Said' where nothing that the law and all that it calls make is longer than what came in: it says more and counts as full. Else prove '..UptoSaid'. A law counts once. -/
mutual
def uptoBulk {H : Type} : DataW H → Nat
  | .lit (.string bytes) => bytes.length + 1
  | .lit _ => 1
  | .nil => 1
  | .ptr d => uptoBulk d + 1
  | .slice elems spare => uptoBulkAll elems + uptoBulkAll spare + 1
  | .agg parts => uptoBulkAll parts + 1
  | .iface _ d => uptoBulk d + 1
  | .map entries => uptoBulkEntries entries + 1
  | .held _ => 1
def uptoBulkAll {H : Type} : List (DataW H) → Nat
  | [] => 0
  | d :: r => uptoBulk d + uptoBulkAll r
def uptoBulkEntries {H : Type} : List (Lit × DataW H) → Nat
  | [] => 0
  | x :: r => uptoBulkEntry x + uptoBulkEntries r
def uptoBulkEntry {H : Type} : Lit × DataW H → Nat
  | (.string bytes, d) => bytes.length + uptoBulk d + 1
  | (_, d) => uptoBulk d + 1
 end
def uptoSmall : (H : Type) → List (DataW H) → Bool := fun _ ds => decide (uptoBulkAll ds ≤ 1048576)
def OpenSpec.upto (s : _root_.Go.ChangeSpec) : _root_.Go.OpenSpec := { _root_.Go.OpenSpec.ofChange s with cond := some uptoSmall }

/-- 'scriniumlaw12.VersionMakes', WHERE WHAT IT READS IS OF BULK AT MOST 1048576: true; the input reads as it did. -/
def versionMakesUptoRow : OpenClaim := { program := "ytjeofpkhgmefgaagreat", sum := "2b95c87f7a95a63ef1dd3f34ac1e01be5f6f270eca89e5da9adf33c63025beaf", func := "scrinium/scriniumlaw12.VersionMakes", spec := "versionMakes", unfollowed := true, recurses := true, apart := false, narrowed := true }
def VersionMakesUptoSaid : Prop := versionMakesUptoRow.holds Tryz.pinned (OpenSpec.upto versionMakesSpec)

/-- 'scriniumlaw12.VersionOther', WHERE WHAT IT READS IS OF BULK AT MOST 1048576: true; the input reads as it did. -/
def versionOtherUptoRow : OpenClaim := { program := "ytjeofpkhgmefgaagreat", sum := "2b95c87f7a95a63ef1dd3f34ac1e01be5f6f270eca89e5da9adf33c63025beaf", func := "scrinium/scriniumlaw12.VersionOther", spec := "versionOther", unfollowed := true, recurses := true, apart := false, narrowed := true }
def VersionOtherUptoSaid : Prop := versionOtherUptoRow.holds Tryz.pinned (OpenSpec.upto versionOtherSpec)

/-- 'scriniumlaw12.VersionTells', WHERE WHAT IT READS IS OF BULK AT MOST 1048576: true; the input reads as it did. -/
def versionTellsUptoRow : OpenClaim := { program := "ytjeofpkhgmefgaagreat", sum := "2b95c87f7a95a63ef1dd3f34ac1e01be5f6f270eca89e5da9adf33c63025beaf", func := "scrinium/scriniumlaw12.VersionTells", spec := "versionTells", unfollowed := true, recurses := true, apart := false, narrowed := true }
def VersionTellsUptoSaid : Prop := versionTellsUptoRow.holds Tryz.pinned (OpenSpec.upto versionTellsSpec)

/-- 'scriniumlaw13.PutSame', WHERE WHAT IT READS IS OF BULK AT MOST 1048576: true; the input reads as it did. -/
def putSameUptoRow : OpenClaim := { program := "ytjeofpkhgmefgaagreat", sum := "2b95c87f7a95a63ef1dd3f34ac1e01be5f6f270eca89e5da9adf33c63025beaf", func := "scrinium/scriniumlaw13.PutSame", spec := "putSame", unfollowed := true, recurses := true, apart := false, narrowed := true }
def PutSameUptoSaid : Prop := putSameUptoRow.holds Tryz.pinned (OpenSpec.upto putSameSpec)

/-- 'scriniumlaw13.PutSide', WHERE WHAT IT READS IS OF BULK AT MOST 1048576: true; the input reads as it did. -/
def putSideUptoRow : OpenClaim := { program := "ytjeofpkhgmefgaagreat", sum := "2b95c87f7a95a63ef1dd3f34ac1e01be5f6f270eca89e5da9adf33c63025beaf", func := "scrinium/scriniumlaw13.PutSide", spec := "putSide", unfollowed := true, recurses := true, apart := false, narrowed := true }
def PutSideUptoSaid : Prop := putSideUptoRow.holds Tryz.pinned (OpenSpec.upto putSideSpec)

/-- 'scriniumlaw13.PutTells', WHERE WHAT IT READS IS OF BULK AT MOST 1048576: true; the input reads as it did. -/
def putTellsUptoRow : OpenClaim := { program := "ytjeofpkhgmefgaagreat", sum := "2b95c87f7a95a63ef1dd3f34ac1e01be5f6f270eca89e5da9adf33c63025beaf", func := "scrinium/scriniumlaw13.PutTells", spec := "putTells", unfollowed := true, recurses := true, apart := false, narrowed := true }
def PutTellsUptoSaid : Prop := putTellsUptoRow.holds Tryz.pinned (OpenSpec.upto putTellsSpec)

/-- 'scriniumlaw13.PutFull', WHERE WHAT IT READS IS OF BULK AT MOST 1048576: true; the input reads as it did. -/
def putFullUptoRow : OpenClaim := { program := "ytjeofpkhgmefgaagreat", sum := "2b95c87f7a95a63ef1dd3f34ac1e01be5f6f270eca89e5da9adf33c63025beaf", func := "scrinium/scriniumlaw13.PutFull", spec := "putFull", unfollowed := true, recurses := true, apart := false, narrowed := true }
def PutFullUptoSaid : Prop := putFullUptoRow.holds Tryz.pinned (OpenSpec.upto putFullSpec)

/-- 'scriniumlaw13.PutStops', WHERE WHAT IT READS IS OF BULK AT MOST 1048576: true; the input reads as it did. -/
def putStopsUptoRow : OpenClaim := { program := "ytjeofpkhgmefgaagreat", sum := "2b95c87f7a95a63ef1dd3f34ac1e01be5f6f270eca89e5da9adf33c63025beaf", func := "scrinium/scriniumlaw13.PutStops", spec := "putStops", unfollowed := true, recurses := true, apart := false, narrowed := true }
def PutStopsUptoSaid : Prop := putStopsUptoRow.holds Tryz.pinned (OpenSpec.upto putStopsSpec)

/-- 'scriniumlaw13.PutHeld', WHERE WHAT IT READS IS OF BULK AT MOST 1048576: true; the input reads as it did. -/
def putHeldUptoRow : OpenClaim := { program := "ytjeofpkhgmefgaagreat", sum := "2b95c87f7a95a63ef1dd3f34ac1e01be5f6f270eca89e5da9adf33c63025beaf", func := "scrinium/scriniumlaw13.PutHeld", spec := "putHeld", unfollowed := true, recurses := true, apart := false, narrowed := true }
def PutHeldUptoSaid : Prop := putHeldUptoRow.holds Tryz.pinned (OpenSpec.upto putHeldSpec)

/-- 'scriniumlaw13.PutRates', WHERE WHAT IT READS IS OF BULK AT MOST 1048576: true; the input reads as it did. -/
def putRatesUptoRow : OpenClaim := { program := "ytjeofpkhgmefgaagreat", sum := "2b95c87f7a95a63ef1dd3f34ac1e01be5f6f270eca89e5da9adf33c63025beaf", func := "scrinium/scriniumlaw13.PutRates", spec := "putRates", unfollowed := true, recurses := true, apart := false, narrowed := true }
def PutRatesUptoSaid : Prop := putRatesUptoRow.holds Tryz.pinned (OpenSpec.upto putRatesSpec)

/-- 'scriniumlaw14.CutTells', WHERE WHAT IT READS IS OF BULK AT MOST 1048576: true; the input reads as it did. -/
def cutTellsUptoRow : OpenClaim := { program := "ytjeofpkhgmefgaagreat", sum := "2b95c87f7a95a63ef1dd3f34ac1e01be5f6f270eca89e5da9adf33c63025beaf", func := "scrinium/scriniumlaw14.CutTells", spec := "cutTells", unfollowed := true, recurses := true, apart := false, narrowed := true }
def CutTellsUptoSaid : Prop := cutTellsUptoRow.holds Tryz.pinned (OpenSpec.upto cutTellsSpec)

/-- 'scriniumlaw14.CutRefused', WHERE WHAT IT READS IS OF BULK AT MOST 1048576: true; the input reads as it did. -/
def cutRefusedUptoRow : OpenClaim := { program := "ytjeofpkhgmefgaagreat", sum := "2b95c87f7a95a63ef1dd3f34ac1e01be5f6f270eca89e5da9adf33c63025beaf", func := "scrinium/scriniumlaw14.CutRefused", spec := "cutRefused", unfollowed := true, recurses := true, apart := false, narrowed := true }
def CutRefusedUptoSaid : Prop := cutRefusedUptoRow.holds Tryz.pinned (OpenSpec.upto cutRefusedSpec)

end Rows
end Go.Proofs.YtjeofpkhgmefgaaGreat
