/-
  No cell of these rows narrows 'for every input' (looked for: loops, veiled, ifaces, maps, wideKeys, modest, calm, conditions, laid).
  DERIVED. THE GIVEN ROWS OF THIS SEAT. 7 by the template 'for every input the law returns true; each argument reads behind the call as it read before'; 0 by the template 'total and deterministic' (their statements: YtdcgalekcciggaaTotals.lean).
  GIVEN WITH THE SEED: the statements are not yours to turn. If you find one false, say at which input.
  Laid BY PROGRAM, IN A SANDBOX (cutbox-rows.mjs): the forced cells as the released guide's own fill.sh prints them over the translation 37f54a384afeeb15… (all of the seat's roots in one cut). By AI agents, Wed Nov 11 2026. No macro, syntax, notation, axiom, sorry.
-/
import Derived.Test.YtdcgalekcciggaaChecked
import GoSem.Claim
import GoSem.ClaimJoined
import GoSem.ClaimMapViews
import Derived.JoinedTies
import Derived.KernelRfl
namespace Go.Proofs.Ytdcgalekcciggaa
/- THE CELL 'sum', in the pinned program and in every row, IS THE sha256 OF THE DUMP (.gsa) THAT YtdcgalekcciggaaProg.lean LOADS. Nothing in Lean hashes anything: it is a label: what it is worth is what the hold of that sum in a sandbox is worth. -/
noncomputable def Try.pinned : Pinned := { name := "ytdcgalekcciggaa", sum := "37f54a384afeeb1506c1c8e967504ce6bc67471bf0f4d5e8067fed11e200ef71", checked := Try.checked }
namespace Rows
def none {H : Type} : Left H := { results := [], args := [] }

/-- 'scriniumlaw7.LeafRanks': WHATEVER THE INPUT: true; the input reads as it did. -/
def leafRanksSpec : ChangeSpec := { name := "leafRanks", fn := fun _ => fun
  | [d1, d2, d3] => { results := [.lit (.bool true)], args := [d1, d2, d3] }
  | _ => none }
def leafRanksRow : OpenClaim := { program := "ytdcgalekcciggaa", sum := "37f54a384afeeb1506c1c8e967504ce6bc67471bf0f4d5e8067fed11e200ef71", func := "scrinium/scriniumlaw7.LeafRanks", spec := "leafRanks", apart := false }
def LeafRanksSaid : Prop := leafRanksRow.holds Try.pinned (OpenSpec.ofChange leafRanksSpec)

/-- ITS FALSE NEIGHBOUR: 'it returns false'. Refute it at one input. -/
def leafRanksWrong : ChangeSpec := { name := "leafRanks", fn := fun _ => fun
  | [d1, d2, d3] => { results := [.lit (.bool false)], args := [d1, d2, d3] }
  | _ => none }
def LeafRanksWrongFalsely : Prop := leafRanksRow.holds Try.pinned (OpenSpec.ofChange leafRanksWrong)

/-- 'scriniumlaw7.LeafJoins': WHATEVER THE INPUT: true; the input reads as it did. -/
def leafJoinsSpec : ChangeSpec := { name := "leafJoins", fn := fun _ => fun
  | [d1, d2, d3, d4, d5] => { results := [.lit (.bool true)], args := [d1, d2, d3, d4, d5] }
  | _ => none }
def leafJoinsRow : OpenClaim := { program := "ytdcgalekcciggaa", sum := "37f54a384afeeb1506c1c8e967504ce6bc67471bf0f4d5e8067fed11e200ef71", func := "scrinium/scriniumlaw7.LeafJoins", spec := "leafJoins", apart := false }
def LeafJoinsSaid : Prop := leafJoinsRow.holds Try.pinned (OpenSpec.ofChange leafJoinsSpec)

/-- ITS FALSE NEIGHBOUR: 'it returns false'. Refute it at one input. -/
def leafJoinsWrong : ChangeSpec := { name := "leafJoins", fn := fun _ => fun
  | [d1, d2, d3, d4, d5] => { results := [.lit (.bool false)], args := [d1, d2, d3, d4, d5] }
  | _ => none }
def LeafJoinsWrongFalsely : Prop := leafJoinsRow.holds Try.pinned (OpenSpec.ofChange leafJoinsWrong)

/-- 'scriniumlaw7.LeafAll': WHATEVER THE INPUT: true; the input reads as it did. -/
def leafAllSpec : ChangeSpec := { name := "leafAll", fn := fun _ => fun
  | [d1, d2, d3, d4] => { results := [.lit (.bool true)], args := [d1, d2, d3, d4] }
  | _ => none }
def leafAllRow : OpenClaim := { program := "ytdcgalekcciggaa", sum := "37f54a384afeeb1506c1c8e967504ce6bc67471bf0f4d5e8067fed11e200ef71", func := "scrinium/scriniumlaw7.LeafAll", spec := "leafAll", apart := false }
def LeafAllSaid : Prop := leafAllRow.holds Try.pinned (OpenSpec.ofChange leafAllSpec)

/-- ITS FALSE NEIGHBOUR: 'it returns false'. Refute it at one input. -/
def leafAllWrong : ChangeSpec := { name := "leafAll", fn := fun _ => fun
  | [d1, d2, d3, d4] => { results := [.lit (.bool false)], args := [d1, d2, d3, d4] }
  | _ => none }
def LeafAllWrongFalsely : Prop := leafAllRow.holds Try.pinned (OpenSpec.ofChange leafAllWrong)

/-- 'scriniumlaw7.LeafTells': WHATEVER THE INPUT: true; the input reads as it did. -/
def leafTellsSpec : ChangeSpec := { name := "leafTells", fn := fun _ => fun
  | [d1, d2, d3, d4, d5] => { results := [.lit (.bool true)], args := [d1, d2, d3, d4, d5] }
  | _ => none }
def leafTellsRow : OpenClaim := { program := "ytdcgalekcciggaa", sum := "37f54a384afeeb1506c1c8e967504ce6bc67471bf0f4d5e8067fed11e200ef71", func := "scrinium/scriniumlaw7.LeafTells", spec := "leafTells", apart := false }
def LeafTellsSaid : Prop := leafTellsRow.holds Try.pinned (OpenSpec.ofChange leafTellsSpec)

/-- ITS FALSE NEIGHBOUR: 'it returns false'. Refute it at one input. -/
def leafTellsWrong : ChangeSpec := { name := "leafTells", fn := fun _ => fun
  | [d1, d2, d3, d4, d5] => { results := [.lit (.bool false)], args := [d1, d2, d3, d4, d5] }
  | _ => none }
def LeafTellsWrongFalsely : Prop := leafTellsRow.holds Try.pinned (OpenSpec.ofChange leafTellsWrong)

/-- 'scriniumlaw7.LeafBack': WHATEVER THE INPUT: true; the input reads as it did. -/
def leafBackSpec : ChangeSpec := { name := "leafBack", fn := fun _ => fun
  | [d1, d2, d3, d4] => { results := [.lit (.bool true)], args := [d1, d2, d3, d4] }
  | _ => none }
def leafBackRow : OpenClaim := { program := "ytdcgalekcciggaa", sum := "37f54a384afeeb1506c1c8e967504ce6bc67471bf0f4d5e8067fed11e200ef71", func := "scrinium/scriniumlaw7.LeafBack", spec := "leafBack", apart := false }
def LeafBackSaid : Prop := leafBackRow.holds Try.pinned (OpenSpec.ofChange leafBackSpec)

/-- ITS FALSE NEIGHBOUR: 'it returns false'. Refute it at one input. -/
def leafBackWrong : ChangeSpec := { name := "leafBack", fn := fun _ => fun
  | [d1, d2, d3, d4] => { results := [.lit (.bool false)], args := [d1, d2, d3, d4] }
  | _ => none }
def LeafBackWrongFalsely : Prop := leafBackRow.holds Try.pinned (OpenSpec.ofChange leafBackWrong)

/-- 'scriniumlaw7.LeafBuilds': WHATEVER THE INPUT: true; the input reads as it did. -/
def leafBuildsSpec : ChangeSpec := { name := "leafBuilds", fn := fun _ => fun
  | [d] => { results := [.lit (.bool true)], args := [d] }
  | _ => none }
def leafBuildsRow : OpenClaim := { program := "ytdcgalekcciggaa", sum := "37f54a384afeeb1506c1c8e967504ce6bc67471bf0f4d5e8067fed11e200ef71", func := "scrinium/scriniumlaw7.LeafBuilds", spec := "leafBuilds", apart := false }
def LeafBuildsSaid : Prop := leafBuildsRow.holds Try.pinned (OpenSpec.ofChange leafBuildsSpec)

/-- ITS FALSE NEIGHBOUR: 'it returns false'. Refute it at one input. -/
def leafBuildsWrong : ChangeSpec := { name := "leafBuilds", fn := fun _ => fun
  | [d] => { results := [.lit (.bool false)], args := [d] }
  | _ => none }
def LeafBuildsWrongFalsely : Prop := leafBuildsRow.holds Try.pinned (OpenSpec.ofChange leafBuildsWrong)

/-- 'scriniumlaw7.LeafWrong': WHATEVER THE INPUT: true; the input reads as it did. -/
def leafWrongSpec : ChangeSpec := { name := "leafWrong", fn := fun _ => fun
  | [d1, d2, d3, d4] => { results := [.lit (.bool true)], args := [d1, d2, d3, d4] }
  | _ => none }
def leafWrongRow : OpenClaim := { program := "ytdcgalekcciggaa", sum := "37f54a384afeeb1506c1c8e967504ce6bc67471bf0f4d5e8067fed11e200ef71", func := "scrinium/scriniumlaw7.LeafWrong", spec := "leafWrong", apart := false }
def LeafWrongSaid : Prop := leafWrongRow.holds Try.pinned (OpenSpec.ofChange leafWrongSpec)

/-- ITS FALSE NEIGHBOUR: 'it returns false'. Refute it at one input. -/
def leafWrongWrong : ChangeSpec := { name := "leafWrong", fn := fun _ => fun
  | [d1, d2, d3, d4] => { results := [.lit (.bool false)], args := [d1, d2, d3, d4] }
  | _ => none }
def LeafWrongWrongFalsely : Prop := leafWrongRow.holds Try.pinned (OpenSpec.ofChange leafWrongWrong)

/- THE SECOND FORM. 'bulk': how many values and letters a reading holds, each counted each time it is reached (what is shared counts as often as it is met; a slice's spare places count too). A statement '..UptoSaid' is the law's where the arguments, and the package variables that the reading takes, are together of bulk at most 1048576: NARROWER than '..Said'. Prove '..Said' where nothing that the law and all that it calls make is longer than what came in: it says more and counts as full. Else prove '..UptoSaid'. A law counts once. -/
mutual
def uptoBulk {H : Type} : DataW H → Nat
  | .lit (.string bytes) => bytes.length + 1
  | .lit _ => 1
  | .nil => 1
  | .ptr d => uptoBulk d + 1
  | .slice elems spare => uptoBulkAll elems + uptoBulkAll spare + 1
  | .agg parts => uptoBulkAll parts + 1
  | .iface _ d => uptoBulk d + 1
  | .map entries => uptoBulkEntries entries + 1
  | .held _ => 1
def uptoBulkAll {H : Type} : List (DataW H) → Nat
  | [] => 0
  | d :: r => uptoBulk d + uptoBulkAll r
def uptoBulkEntries {H : Type} : List (Lit × DataW H) → Nat
  | [] => 0
  | x :: r => uptoBulkEntry x + uptoBulkEntries r
def uptoBulkEntry {H : Type} : Lit × DataW H → Nat
  | (.string bytes, d) => bytes.length + uptoBulk d + 1
  | (_, d) => uptoBulk d + 1
 end
def uptoSmall : (H : Type) → List (DataW H) → Bool := fun _ ds => decide (uptoBulkAll ds ≤ 1048576)
def OpenSpec.upto (s : _root_.Go.ChangeSpec) : _root_.Go.OpenSpec := { _root_.Go.OpenSpec.ofChange s with cond := some uptoSmall }

/-- 'scriniumlaw7.LeafRanks', WHERE WHAT IT READS IS OF BULK AT MOST 1048576: true; the input reads as it did. -/
def leafRanksUptoRow : OpenClaim := { program := "ytdcgalekcciggaa", sum := "37f54a384afeeb1506c1c8e967504ce6bc67471bf0f4d5e8067fed11e200ef71", func := "scrinium/scriniumlaw7.LeafRanks", spec := "leafRanks", apart := false, narrowed := true }
def LeafRanksUptoSaid : Prop := leafRanksUptoRow.holds Try.pinned (OpenSpec.upto leafRanksSpec)

/-- 'scriniumlaw7.LeafJoins', WHERE WHAT IT READS IS OF BULK AT MOST 1048576: true; the input reads as it did. -/
def leafJoinsUptoRow : OpenClaim := { program := "ytdcgalekcciggaa", sum := "37f54a384afeeb1506c1c8e967504ce6bc67471bf0f4d5e8067fed11e200ef71", func := "scrinium/scriniumlaw7.LeafJoins", spec := "leafJoins", apart := false, narrowed := true }
def LeafJoinsUptoSaid : Prop := leafJoinsUptoRow.holds Try.pinned (OpenSpec.upto leafJoinsSpec)

/-- 'scriniumlaw7.LeafAll', WHERE WHAT IT READS IS OF BULK AT MOST 1048576: true; the input reads as it did. -/
def leafAllUptoRow : OpenClaim := { program := "ytdcgalekcciggaa", sum := "37f54a384afeeb1506c1c8e967504ce6bc67471bf0f4d5e8067fed11e200ef71", func := "scrinium/scriniumlaw7.LeafAll", spec := "leafAll", apart := false, narrowed := true }
def LeafAllUptoSaid : Prop := leafAllUptoRow.holds Try.pinned (OpenSpec.upto leafAllSpec)

/-- 'scriniumlaw7.LeafTells', WHERE WHAT IT READS IS OF BULK AT MOST 1048576: true; the input reads as it did. -/
def leafTellsUptoRow : OpenClaim := { program := "ytdcgalekcciggaa", sum := "37f54a384afeeb1506c1c8e967504ce6bc67471bf0f4d5e8067fed11e200ef71", func := "scrinium/scriniumlaw7.LeafTells", spec := "leafTells", apart := false, narrowed := true }
def LeafTellsUptoSaid : Prop := leafTellsUptoRow.holds Try.pinned (OpenSpec.upto leafTellsSpec)

/-- 'scriniumlaw7.LeafBack', WHERE WHAT IT READS IS OF BULK AT MOST 1048576: true; the input reads as it did. -/
def leafBackUptoRow : OpenClaim := { program := "ytdcgalekcciggaa", sum := "37f54a384afeeb1506c1c8e967504ce6bc67471bf0f4d5e8067fed11e200ef71", func := "scrinium/scriniumlaw7.LeafBack", spec := "leafBack", apart := false, narrowed := true }
def LeafBackUptoSaid : Prop := leafBackUptoRow.holds Try.pinned (OpenSpec.upto leafBackSpec)

/-- 'scriniumlaw7.LeafBuilds', WHERE WHAT IT READS IS OF BULK AT MOST 1048576: true; the input reads as it did. -/
def leafBuildsUptoRow : OpenClaim := { program := "ytdcgalekcciggaa", sum := "37f54a384afeeb1506c1c8e967504ce6bc67471bf0f4d5e8067fed11e200ef71", func := "scrinium/scriniumlaw7.LeafBuilds", spec := "leafBuilds", apart := false, narrowed := true }
def LeafBuildsUptoSaid : Prop := leafBuildsUptoRow.holds Try.pinned (OpenSpec.upto leafBuildsSpec)

/-- 'scriniumlaw7.LeafWrong', WHERE WHAT IT READS IS OF BULK AT MOST 1048576: true; the input reads as it did. -/
def leafWrongUptoRow : OpenClaim := { program := "ytdcgalekcciggaa", sum := "37f54a384afeeb1506c1c8e967504ce6bc67471bf0f4d5e8067fed11e200ef71", func := "scrinium/scriniumlaw7.LeafWrong", spec := "leafWrong", apart := false, narrowed := true }
def LeafWrongUptoSaid : Prop := leafWrongUptoRow.holds Try.pinned (OpenSpec.upto leafWrongSpec)

end Rows
end Go.Proofs.Ytdcgalekcciggaa
