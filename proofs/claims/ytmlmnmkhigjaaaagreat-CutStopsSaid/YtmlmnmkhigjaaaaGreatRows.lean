/-
  No cell of these rows narrows 'for every input' (looked for: loops, veiled, ifaces, maps, wideKeys, modest, calm, conditions, laid).
  DERIVED. THE GIVEN ROWS OF THIS SEAT. 11 by the template 'for every input the law returns true; each argument reads behind the call as it read before'; 0 by the template 'total and deterministic' (their statements: YtmlmnmkhigjaaaaGreatTotals.lean).
  GIVEN WITH THE SEED: the statements are not yours to turn. If you find one false, say at which input.
  Laid BY PROGRAM, IN A SANDBOX (cutbox-rows.mjs): the forced cells as the released guide's own fill.sh prints them over the translation b153167860f2fff2… (all of the seat's roots in one cut). By AI agents, Wed Nov 11 2026. No macro, syntax, notation, axiom, sorry.
-/
import Derived.Test.YtmlmnmkhigjaaaaGreatChecked
import GoSem.Claim
import GoSem.ClaimJoined
import GoSem.ClaimMapViews
import Derived.JoinedTies
import Derived.KernelRfl
namespace Go.Proofs.YtmlmnmkhigjaaaaGreat
/- THE CELL 'sum', in the pinned program and in every row, IS THE sha256 OF THE DUMP (.gsa) THAT YtmlmnmkhigjaaaaGreatProg.lean LOADS. Nothing in Lean hashes anything: it is a label: what it is worth is what the hold of that sum in a sandbox is worth. -/
noncomputable def Tryz.pinned : Pinned := { name := "ytmlmnmkhigjaaaagreat", sum := "b153167860f2fff24ad5a372288de1ccd1bd34282962ed36c6ed1426d928fe16", checked := Tryz.checked }
namespace Rows
def none {H : Type} : Left H := { results := [], args := [] }

/-- 'scriniumlaw16.PullTells': WHATEVER THE INPUT: true; the input reads as it did. -/
def pullTellsSpec : ChangeSpec := { name := "pullTells", fn := fun _ => fun
  | [d1, d2, d3, d4, d5] => { results := [.lit (.bool true)], args := [d1, d2, d3, d4, d5] }
  | _ => none }
def pullTellsRow : OpenClaim := { program := "ytmlmnmkhigjaaaagreat", sum := "b153167860f2fff24ad5a372288de1ccd1bd34282962ed36c6ed1426d928fe16", func := "scrinium/scriniumlaw16.PullTells", spec := "pullTells", inPlace := ["math.Float64bits"], unfollowed := true, recurses := true, apart := false }
def PullTellsSaid : Prop := pullTellsRow.holds Tryz.pinned (OpenSpec.ofChange pullTellsSpec)

/-- ITS FALSE NEIGHBOUR: 'it returns false'. Refute it at one input. -/
def pullTellsWrong : ChangeSpec := { name := "pullTells", fn := fun _ => fun
  | [d1, d2, d3, d4, d5] => { results := [.lit (.bool false)], args := [d1, d2, d3, d4, d5] }
  | _ => none }
def PullTellsWrongFalsely : Prop := pullTellsRow.holds Tryz.pinned (OpenSpec.ofChange pullTellsWrong)

/-- 'scriniumlaw12.VersionMakes': WHATEVER THE INPUT: true; the input reads as it did. -/
def versionMakesSpec : ChangeSpec := { name := "versionMakes", fn := fun _ => fun
  | [d1, d2] => { results := [.lit (.bool true)], args := [d1, d2] }
  | _ => none }
def versionMakesRow : OpenClaim := { program := "ytmlmnmkhigjaaaagreat", sum := "b153167860f2fff24ad5a372288de1ccd1bd34282962ed36c6ed1426d928fe16", func := "scrinium/scriniumlaw12.VersionMakes", spec := "versionMakes", unfollowed := true, recurses := true, apart := false }
def VersionMakesSaid : Prop := versionMakesRow.holds Tryz.pinned (OpenSpec.ofChange versionMakesSpec)

/-- ITS FALSE NEIGHBOUR: 'it returns false'. Refute it at one input. -/
def versionMakesWrong : ChangeSpec := { name := "versionMakes", fn := fun _ => fun
  | [d1, d2] => { results := [.lit (.bool false)], args := [d1, d2] }
  | _ => none }
def VersionMakesWrongFalsely : Prop := versionMakesRow.holds Tryz.pinned (OpenSpec.ofChange versionMakesWrong)

/-- 'scriniumlaw12.VersionOther': WHATEVER THE INPUT: true; the input reads as it did. -/
def versionOtherSpec : ChangeSpec := { name := "versionOther", fn := fun _ => fun
  | [d1, d2, d3, d4] => { results := [.lit (.bool true)], args := [d1, d2, d3, d4] }
  | _ => none }
def versionOtherRow : OpenClaim := { program := "ytmlmnmkhigjaaaagreat", sum := "b153167860f2fff24ad5a372288de1ccd1bd34282962ed36c6ed1426d928fe16", func := "scrinium/scriniumlaw12.VersionOther", spec := "versionOther", unfollowed := true, recurses := true, apart := false }
def VersionOtherSaid : Prop := versionOtherRow.holds Tryz.pinned (OpenSpec.ofChange versionOtherSpec)

/-- ITS FALSE NEIGHBOUR: 'it returns false'. Refute it at one input. -/
def versionOtherWrong : ChangeSpec := { name := "versionOther", fn := fun _ => fun
  | [d1, d2, d3, d4] => { results := [.lit (.bool false)], args := [d1, d2, d3, d4] }
  | _ => none }
def VersionOtherWrongFalsely : Prop := versionOtherRow.holds Tryz.pinned (OpenSpec.ofChange versionOtherWrong)

/-- 'scriniumlaw12.VersionTells': WHATEVER THE INPUT: true; the input reads as it did. -/
def versionTellsSpec : ChangeSpec := { name := "versionTells", fn := fun _ => fun
  | [d1, d2, d3, d4, d5] => { results := [.lit (.bool true)], args := [d1, d2, d3, d4, d5] }
  | _ => none }
def versionTellsRow : OpenClaim := { program := "ytmlmnmkhigjaaaagreat", sum := "b153167860f2fff24ad5a372288de1ccd1bd34282962ed36c6ed1426d928fe16", func := "scrinium/scriniumlaw12.VersionTells", spec := "versionTells", unfollowed := true, recurses := true, apart := false }
def VersionTellsSaid : Prop := versionTellsRow.holds Tryz.pinned (OpenSpec.ofChange versionTellsSpec)

/-- ITS FALSE NEIGHBOUR: 'it returns false'. Refute it at one input. -/
def versionTellsWrong : ChangeSpec := { name := "versionTells", fn := fun _ => fun
  | [d1, d2, d3, d4, d5] => { results := [.lit (.bool false)], args := [d1, d2, d3, d4, d5] }
  | _ => none }
def VersionTellsWrongFalsely : Prop := versionTellsRow.holds Tryz.pinned (OpenSpec.ofChange versionTellsWrong)

/-- 'scriniumlaw13.PutFull': WHATEVER THE INPUT: true; the input reads as it did. -/
def putFullSpec : ChangeSpec := { name := "putFull", fn := fun _ => fun
  | [d1, d2, d3, d4] => { results := [.lit (.bool true)], args := [d1, d2, d3, d4] }
  | _ => none }
def putFullRow : OpenClaim := { program := "ytmlmnmkhigjaaaagreat", sum := "b153167860f2fff24ad5a372288de1ccd1bd34282962ed36c6ed1426d928fe16", func := "scrinium/scriniumlaw13.PutFull", spec := "putFull", unfollowed := true, recurses := true, apart := false }
def PutFullSaid : Prop := putFullRow.holds Tryz.pinned (OpenSpec.ofChange putFullSpec)

/-- ITS FALSE NEIGHBOUR: 'it returns false'. Refute it at one input. -/
def putFullWrong : ChangeSpec := { name := "putFull", fn := fun _ => fun
  | [d1, d2, d3, d4] => { results := [.lit (.bool false)], args := [d1, d2, d3, d4] }
  | _ => none }
def PutFullWrongFalsely : Prop := putFullRow.holds Tryz.pinned (OpenSpec.ofChange putFullWrong)

/-- 'scriniumlaw14.CutStops': WHATEVER THE INPUT: true; the input reads as it did. -/
def cutStopsSpec : ChangeSpec := { name := "cutStops", fn := fun _ => fun
  | [d1, d2, d3, d4, d5] => { results := [.lit (.bool true)], args := [d1, d2, d3, d4, d5] }
  | _ => none }
def cutStopsRow : OpenClaim := { program := "ytmlmnmkhigjaaaagreat", sum := "b153167860f2fff24ad5a372288de1ccd1bd34282962ed36c6ed1426d928fe16", func := "scrinium/scriniumlaw14.CutStops", spec := "cutStops", unfollowed := true, recurses := true, apart := false }
def CutStopsSaid : Prop := cutStopsRow.holds Tryz.pinned (OpenSpec.ofChange cutStopsSpec)

/-- ITS FALSE NEIGHBOUR: 'it returns false'. Refute it at one input. -/
def cutStopsWrong : ChangeSpec := { name := "cutStops", fn := fun _ => fun
  | [d1, d2, d3, d4, d5] => { results := [.lit (.bool false)], args := [d1, d2, d3, d4, d5] }
  | _ => none }
def CutStopsWrongFalsely : Prop := cutStopsRow.holds Tryz.pinned (OpenSpec.ofChange cutStopsWrong)

/-- 'scriniumlaw21.ClientNone': WHATEVER THE INPUT: true; the input reads as it did. -/
def clientNoneSpec : ChangeSpec := { name := "clientNone", fn := fun _ => fun
  | [d1, d2, d3] => { results := [.lit (.bool true)], args := [d1, d2, d3] }
  | _ => none }
def clientNoneRow : OpenClaim := { program := "ytmlmnmkhigjaaaagreat", sum := "b153167860f2fff24ad5a372288de1ccd1bd34282962ed36c6ed1426d928fe16", func := "scrinium/scriniumlaw21.ClientNone", spec := "clientNone", inPlace := ["internal/bytealg.IndexByteString", "internal/bytealg.IndexString"], unfollowed := true, recurses := true, named := ["internal/bytealg.MaxLen"], apart := false }
def ClientNoneSaid : Prop := clientNoneRow.holds Tryz.pinned (OpenSpec.ofChange clientNoneSpec)

/-- ITS FALSE NEIGHBOUR: 'it returns false'. Refute it at one input. -/
def clientNoneWrong : ChangeSpec := { name := "clientNone", fn := fun _ => fun
  | [d1, d2, d3] => { results := [.lit (.bool false)], args := [d1, d2, d3] }
  | _ => none }
def ClientNoneWrongFalsely : Prop := clientNoneRow.holds Tryz.pinned (OpenSpec.ofChange clientNoneWrong)

/-- 'scriniumlaw21.ClientBusy': WHATEVER THE INPUT: true; the input reads as it did. -/
def clientBusySpec : ChangeSpec := { name := "clientBusy", fn := fun _ => fun
  | [d1, d2, d3] => { results := [.lit (.bool true)], args := [d1, d2, d3] }
  | _ => none }
def clientBusyRow : OpenClaim := { program := "ytmlmnmkhigjaaaagreat", sum := "b153167860f2fff24ad5a372288de1ccd1bd34282962ed36c6ed1426d928fe16", func := "scrinium/scriniumlaw21.ClientBusy", spec := "clientBusy", inPlace := ["internal/bytealg.IndexByteString", "internal/bytealg.IndexString"], unfollowed := true, recurses := true, named := ["internal/bytealg.MaxLen"], apart := false }
def ClientBusySaid : Prop := clientBusyRow.holds Tryz.pinned (OpenSpec.ofChange clientBusySpec)

/-- ITS FALSE NEIGHBOUR: 'it returns false'. Refute it at one input. -/
def clientBusyWrong : ChangeSpec := { name := "clientBusy", fn := fun _ => fun
  | [d1, d2, d3] => { results := [.lit (.bool false)], args := [d1, d2, d3] }
  | _ => none }
def ClientBusyWrongFalsely : Prop := clientBusyRow.holds Tryz.pinned (OpenSpec.ofChange clientBusyWrong)

/-- 'scriniumlaw21.ClientTries': WHATEVER THE INPUT: true; the input reads as it did. -/
def clientTriesSpec : ChangeSpec := { name := "clientTries", fn := fun _ => fun
  | [d1, d2] => { results := [.lit (.bool true)], args := [d1, d2] }
  | _ => none }
def clientTriesRow : OpenClaim := { program := "ytmlmnmkhigjaaaagreat", sum := "b153167860f2fff24ad5a372288de1ccd1bd34282962ed36c6ed1426d928fe16", func := "scrinium/scriniumlaw21.ClientTries", spec := "clientTries", inPlace := ["internal/bytealg.IndexByteString", "internal/bytealg.IndexString"], unfollowed := true, recurses := true, named := ["internal/bytealg.MaxLen"], apart := false }
def ClientTriesSaid : Prop := clientTriesRow.holds Tryz.pinned (OpenSpec.ofChange clientTriesSpec)

/-- ITS FALSE NEIGHBOUR: 'it returns false'. Refute it at one input. -/
def clientTriesWrong : ChangeSpec := { name := "clientTries", fn := fun _ => fun
  | [d1, d2] => { results := [.lit (.bool false)], args := [d1, d2] }
  | _ => none }
def ClientTriesWrongFalsely : Prop := clientTriesRow.holds Tryz.pinned (OpenSpec.ofChange clientTriesWrong)

/-- 'scriniumlaw21.ClientMany': WHATEVER THE INPUT: true; the input reads as it did. -/
def clientManySpec : ChangeSpec := { name := "clientMany", fn := fun _ => fun
  | [d] => { results := [.lit (.bool true)], args := [d] }
  | _ => none }
def clientManyRow : OpenClaim := { program := "ytmlmnmkhigjaaaagreat", sum := "b153167860f2fff24ad5a372288de1ccd1bd34282962ed36c6ed1426d928fe16", func := "scrinium/scriniumlaw21.ClientMany", spec := "clientMany", inPlace := ["internal/bytealg.IndexByteString", "internal/bytealg.IndexString"], unfollowed := true, recurses := true, named := ["internal/bytealg.MaxLen"], apart := false }
def ClientManySaid : Prop := clientManyRow.holds Tryz.pinned (OpenSpec.ofChange clientManySpec)

/-- ITS FALSE NEIGHBOUR: 'it returns false'. Refute it at one input. -/
def clientManyWrong : ChangeSpec := { name := "clientMany", fn := fun _ => fun
  | [d] => { results := [.lit (.bool false)], args := [d] }
  | _ => none }
def ClientManyWrongFalsely : Prop := clientManyRow.holds Tryz.pinned (OpenSpec.ofChange clientManyWrong)

/-- 'scriniumlaw21.ClientGone': WHATEVER THE INPUT: true; the input reads as it did. -/
def clientGoneSpec : ChangeSpec := { name := "clientGone", fn := fun _ => fun
  | [d1, d2] => { results := [.lit (.bool true)], args := [d1, d2] }
  | _ => none }
def clientGoneRow : OpenClaim := { program := "ytmlmnmkhigjaaaagreat", sum := "b153167860f2fff24ad5a372288de1ccd1bd34282962ed36c6ed1426d928fe16", func := "scrinium/scriniumlaw21.ClientGone", spec := "clientGone", inPlace := ["internal/bytealg.IndexByteString", "internal/bytealg.IndexString"], unfollowed := true, recurses := true, named := ["internal/bytealg.MaxLen"], apart := false }
def ClientGoneSaid : Prop := clientGoneRow.holds Tryz.pinned (OpenSpec.ofChange clientGoneSpec)

/-- ITS FALSE NEIGHBOUR: 'it returns false'. Refute it at one input. -/
def clientGoneWrong : ChangeSpec := { name := "clientGone", fn := fun _ => fun
  | [d1, d2] => { results := [.lit (.bool false)], args := [d1, d2] }
  | _ => none }
def ClientGoneWrongFalsely : Prop := clientGoneRow.holds Tryz.pinned (OpenSpec.ofChange clientGoneWrong)

/- THE SECOND FORM. 'bulk': how many values and letters a reading holds, each counted each time it is reached (what is shared counts as often as it is met; a slice's spare places count too). A statement '..UptoSaid' is the law's where the arguments, and the package variables that the reading takes, are together of bulk at most 1048576: NARROWER than '..Said'. Prove '..Said' where nothing that the law and all that it calls make is longer than what came in: it says more and counts as full. Else prove '..UptoSaid'. A law counts once. -/
mutual
def uptoBulk {H : Type} : DataW H → Nat
  | .lit (.string bytes) => bytes.length + 1
  | .lit _ => 1
  | .nil => 1
  | .ptr d => uptoBulk d + 1
  | .slice elems spare => uptoBulkAll elems + uptoBulkAll spare + 1
  | .agg parts => uptoBulkAll parts + 1
  | .iface _ d => uptoBulk d + 1
  | .map entries => uptoBulkEntries entries + 1
  | .held _ => 1
def uptoBulkAll {H : Type} : List (DataW H) → Nat
  | [] => 0
  | d :: r => uptoBulk d + uptoBulkAll r
def uptoBulkEntries {H : Type} : List (Lit × DataW H) → Nat
  | [] => 0
  | x :: r => uptoBulkEntry x + uptoBulkEntries r
def uptoBulkEntry {H : Type} : Lit × DataW H → Nat
  | (.string bytes, d) => bytes.length + uptoBulk d + 1
  | (_, d) => uptoBulk d + 1
 end
def uptoSmall : (H : Type) → List (DataW H) → Bool := fun _ ds => decide (uptoBulkAll ds ≤ 1048576)
def OpenSpec.upto (s : _root_.Go.ChangeSpec) : _root_.Go.OpenSpec := { _root_.Go.OpenSpec.ofChange s with cond := some uptoSmall }

/-- 'scriniumlaw16.PullTells', WHERE WHAT IT READS IS OF BULK AT MOST 1048576: true; the input reads as it did. -/
def pullTellsUptoRow : OpenClaim := { program := "ytmlmnmkhigjaaaagreat", sum := "b153167860f2fff24ad5a372288de1ccd1bd34282962ed36c6ed1426d928fe16", func := "scrinium/scriniumlaw16.PullTells", spec := "pullTells", inPlace := ["math.Float64bits"], unfollowed := true, recurses := true, apart := false, narrowed := true }
def PullTellsUptoSaid : Prop := pullTellsUptoRow.holds Tryz.pinned (OpenSpec.upto pullTellsSpec)

/-- 'scriniumlaw12.VersionMakes', WHERE WHAT IT READS IS OF BULK AT MOST 1048576: true; the input reads as it did. -/
def versionMakesUptoRow : OpenClaim := { program := "ytmlmnmkhigjaaaagreat", sum := "b153167860f2fff24ad5a372288de1ccd1bd34282962ed36c6ed1426d928fe16", func := "scrinium/scriniumlaw12.VersionMakes", spec := "versionMakes", unfollowed := true, recurses := true, apart := false, narrowed := true }
def VersionMakesUptoSaid : Prop := versionMakesUptoRow.holds Tryz.pinned (OpenSpec.upto versionMakesSpec)

/-- 'scriniumlaw12.VersionOther', WHERE WHAT IT READS IS OF BULK AT MOST 1048576: true; the input reads as it did. -/
def versionOtherUptoRow : OpenClaim := { program := "ytmlmnmkhigjaaaagreat", sum := "b153167860f2fff24ad5a372288de1ccd1bd34282962ed36c6ed1426d928fe16", func := "scrinium/scriniumlaw12.VersionOther", spec := "versionOther", unfollowed := true, recurses := true, apart := false, narrowed := true }
def VersionOtherUptoSaid : Prop := versionOtherUptoRow.holds Tryz.pinned (OpenSpec.upto versionOtherSpec)

/-- 'scriniumlaw12.VersionTells', WHERE WHAT IT READS IS OF BULK AT MOST 1048576: true; the input reads as it did. -/
def versionTellsUptoRow : OpenClaim := { program := "ytmlmnmkhigjaaaagreat", sum := "b153167860f2fff24ad5a372288de1ccd1bd34282962ed36c6ed1426d928fe16", func := "scrinium/scriniumlaw12.VersionTells", spec := "versionTells", unfollowed := true, recurses := true, apart := false, narrowed := true }
def VersionTellsUptoSaid : Prop := versionTellsUptoRow.holds Tryz.pinned (OpenSpec.upto versionTellsSpec)

/-- 'scriniumlaw13.PutFull', WHERE WHAT IT READS IS OF BULK AT MOST 1048576: true; the input reads as it did. -/
def putFullUptoRow : OpenClaim := { program := "ytmlmnmkhigjaaaagreat", sum := "b153167860f2fff24ad5a372288de1ccd1bd34282962ed36c6ed1426d928fe16", func := "scrinium/scriniumlaw13.PutFull", spec := "putFull", unfollowed := true, recurses := true, apart := false, narrowed := true }
def PutFullUptoSaid : Prop := putFullUptoRow.holds Tryz.pinned (OpenSpec.upto putFullSpec)

/-- 'scriniumlaw14.CutStops', WHERE WHAT IT READS IS OF BULK AT MOST 1048576: true; the input reads as it did. -/
def cutStopsUptoRow : OpenClaim := { program := "ytmlmnmkhigjaaaagreat", sum := "b153167860f2fff24ad5a372288de1ccd1bd34282962ed36c6ed1426d928fe16", func := "scrinium/scriniumlaw14.CutStops", spec := "cutStops", unfollowed := true, recurses := true, apart := false, narrowed := true }
def CutStopsUptoSaid : Prop := cutStopsUptoRow.holds Tryz.pinned (OpenSpec.upto cutStopsSpec)

/-- 'scriniumlaw21.ClientNone', WHERE WHAT IT READS IS OF BULK AT MOST 1048576: true; the input reads as it did. -/
def clientNoneUptoRow : OpenClaim := { program := "ytmlmnmkhigjaaaagreat", sum := "b153167860f2fff24ad5a372288de1ccd1bd34282962ed36c6ed1426d928fe16", func := "scrinium/scriniumlaw21.ClientNone", spec := "clientNone", inPlace := ["internal/bytealg.IndexByteString", "internal/bytealg.IndexString"], unfollowed := true, recurses := true, named := ["internal/bytealg.MaxLen"], apart := false, narrowed := true }
def ClientNoneUptoSaid : Prop := clientNoneUptoRow.holds Tryz.pinned (OpenSpec.upto clientNoneSpec)

/-- 'scriniumlaw21.ClientBusy', WHERE WHAT IT READS IS OF BULK AT MOST 1048576: true; the input reads as it did. -/
def clientBusyUptoRow : OpenClaim := { program := "ytmlmnmkhigjaaaagreat", sum := "b153167860f2fff24ad5a372288de1ccd1bd34282962ed36c6ed1426d928fe16", func := "scrinium/scriniumlaw21.ClientBusy", spec := "clientBusy", inPlace := ["internal/bytealg.IndexByteString", "internal/bytealg.IndexString"], unfollowed := true, recurses := true, named := ["internal/bytealg.MaxLen"], apart := false, narrowed := true }
def ClientBusyUptoSaid : Prop := clientBusyUptoRow.holds Tryz.pinned (OpenSpec.upto clientBusySpec)

/-- 'scriniumlaw21.ClientTries', WHERE WHAT IT READS IS OF BULK AT MOST 1048576: true; the input reads as it did. -/
def clientTriesUptoRow : OpenClaim := { program := "ytmlmnmkhigjaaaagreat", sum := "b153167860f2fff24ad5a372288de1ccd1bd34282962ed36c6ed1426d928fe16", func := "scrinium/scriniumlaw21.ClientTries", spec := "clientTries", inPlace := ["internal/bytealg.IndexByteString", "internal/bytealg.IndexString"], unfollowed := true, recurses := true, named := ["internal/bytealg.MaxLen"], apart := false, narrowed := true }
def ClientTriesUptoSaid : Prop := clientTriesUptoRow.holds Tryz.pinned (OpenSpec.upto clientTriesSpec)

/-- 'scriniumlaw21.ClientMany', WHERE WHAT IT READS IS OF BULK AT MOST 1048576: true; the input reads as it did. -/
def clientManyUptoRow : OpenClaim := { program := "ytmlmnmkhigjaaaagreat", sum := "b153167860f2fff24ad5a372288de1ccd1bd34282962ed36c6ed1426d928fe16", func := "scrinium/scriniumlaw21.ClientMany", spec := "clientMany", inPlace := ["internal/bytealg.IndexByteString", "internal/bytealg.IndexString"], unfollowed := true, recurses := true, named := ["internal/bytealg.MaxLen"], apart := false, narrowed := true }
def ClientManyUptoSaid : Prop := clientManyUptoRow.holds Tryz.pinned (OpenSpec.upto clientManySpec)

/-- 'scriniumlaw21.ClientGone', WHERE WHAT IT READS IS OF BULK AT MOST 1048576: true; the input reads as it did. -/
def clientGoneUptoRow : OpenClaim := { program := "ytmlmnmkhigjaaaagreat", sum := "b153167860f2fff24ad5a372288de1ccd1bd34282962ed36c6ed1426d928fe16", func := "scrinium/scriniumlaw21.ClientGone", spec := "clientGone", inPlace := ["internal/bytealg.IndexByteString", "internal/bytealg.IndexString"], unfollowed := true, recurses := true, named := ["internal/bytealg.MaxLen"], apart := false, narrowed := true }
def ClientGoneUptoSaid : Prop := clientGoneUptoRow.holds Tryz.pinned (OpenSpec.upto clientGoneSpec)

end Rows
end Go.Proofs.YtmlmnmkhigjaaaaGreat
