/-
  NARROWER THAN 'FOR EVERY INPUT', by the rows' own cells (each row's printed sentence says how): RuleFirst: loops.
  DERIVED. THE GIVEN ROWS OF THIS SEAT. 10 by the template 'for every input the law returns true; each argument reads behind the call as it read before'; 0 by the template 'total and deterministic' (their statements: YtkfoknjflpklpaaTotals.lean).
  GIVEN WITH THE SEED: the statements are not yours to turn. If you find one false, say at which input.
  Laid BY PROGRAM, IN A SANDBOX (cutbox-rows.mjs): the forced cells as the released guide's own fill.sh prints them over the translation dad41802da6b40a6… (all of the seat's roots in one cut). By AI agents, Wed Nov 11 2026. No macro, syntax, notation, axiom, sorry.
-/
import Derived.Test.YtkfoknjflpklpaaChecked
import GoSem.Claim
import GoSem.ClaimJoined
import GoSem.ClaimMapViews
import Derived.JoinedTies
import Derived.KernelRfl
namespace Go.Proofs.Ytkfoknjflpklpaa
/- THE CELL 'sum', in the pinned program and in every row, IS THE sha256 OF THE DUMP (.gsa) THAT YtkfoknjflpklpaaProg.lean LOADS. Nothing in Lean hashes anything: it is a label: what it is worth is what the hold of that sum in a sandbox is worth. -/
noncomputable def Try.pinned : Pinned := { name := "ytkfoknjflpklpaa", sum := "dad41802da6b40a6087c6ab1ee8ba86eff286ec724048384188bee0a475ee16b", checked := Try.checked }
namespace Rows
def none {H : Type} : Left H := { results := [], args := [] }

/-- 'tripwirelaw10.DeltaSnaps': WHATEVER THE INPUT: true; the input reads as it did. -/
def deltaSnapsSpec : ChangeSpec := { name := "deltaSnaps", fn := fun _ => fun
  | [d1, d2] => { results := [.lit (.bool true)], args := [d1, d2] }
  | _ => none }
def deltaSnapsRow : OpenClaim := { program := "ytkfoknjflpklpaa", sum := "dad41802da6b40a6087c6ab1ee8ba86eff286ec724048384188bee0a475ee16b", func := "tripwire/tripwirelaw10.DeltaSnaps", spec := "deltaSnaps", unfollowed := true, recurses := true, plainKeys := false, apart := false }
def DeltaSnapsSaid : Prop := deltaSnapsRow.holds Try.pinned (OpenSpec.ofChange deltaSnapsSpec)

/-- ITS FALSE NEIGHBOUR: 'it returns false'. Refute it at one input. -/
def deltaSnapsWrong : ChangeSpec := { name := "deltaSnaps", fn := fun _ => fun
  | [d1, d2] => { results := [.lit (.bool false)], args := [d1, d2] }
  | _ => none }
def DeltaSnapsWrongFalsely : Prop := deltaSnapsRow.holds Try.pinned (OpenSpec.ofChange deltaSnapsWrong)

/-- 'tripwirelaw10.DeltaParts': WHATEVER THE INPUT: true; the input reads as it did. -/
def deltaPartsSpec : ChangeSpec := { name := "deltaParts", fn := fun _ => fun
  | [d1, d2] => { results := [.lit (.bool true)], args := [d1, d2] }
  | _ => none }
def deltaPartsRow : OpenClaim := { program := "ytkfoknjflpklpaa", sum := "dad41802da6b40a6087c6ab1ee8ba86eff286ec724048384188bee0a475ee16b", func := "tripwire/tripwirelaw10.DeltaParts", spec := "deltaParts", unfollowed := true, recurses := true, plainKeys := false, apart := false }
def DeltaPartsSaid : Prop := deltaPartsRow.holds Try.pinned (OpenSpec.ofChange deltaPartsSpec)

/-- ITS FALSE NEIGHBOUR: 'it returns false'. Refute it at one input. -/
def deltaPartsWrong : ChangeSpec := { name := "deltaParts", fn := fun _ => fun
  | [d1, d2] => { results := [.lit (.bool false)], args := [d1, d2] }
  | _ => none }
def DeltaPartsWrongFalsely : Prop := deltaPartsRow.holds Try.pinned (OpenSpec.ofChange deltaPartsWrong)

/-- 'tripwirelaw10.DeltaTurns': WHATEVER THE INPUT: true; the input reads as it did. -/
def deltaTurnsSpec : ChangeSpec := { name := "deltaTurns", fn := fun _ => fun
  | [d] => { results := [.lit (.bool true)], args := [d] }
  | _ => none }
def deltaTurnsRow : OpenClaim := { program := "ytkfoknjflpklpaa", sum := "dad41802da6b40a6087c6ab1ee8ba86eff286ec724048384188bee0a475ee16b", func := "tripwire/tripwirelaw10.DeltaTurns", spec := "deltaTurns", unfollowed := true, recurses := true, plainKeys := false, apart := false }
def DeltaTurnsSaid : Prop := deltaTurnsRow.holds Try.pinned (OpenSpec.ofChange deltaTurnsSpec)

/-- ITS FALSE NEIGHBOUR: 'it returns false'. Refute it at one input. -/
def deltaTurnsWrong : ChangeSpec := { name := "deltaTurns", fn := fun _ => fun
  | [d] => { results := [.lit (.bool false)], args := [d] }
  | _ => none }
def DeltaTurnsWrongFalsely : Prop := deltaTurnsRow.holds Try.pinned (OpenSpec.ofChange deltaTurnsWrong)

/-- 'tripwirelaw10.DeltaNets': WHATEVER THE INPUT: true; the input reads as it did. -/
def deltaNetsSpec : ChangeSpec := { name := "deltaNets", fn := fun _ => fun
  | [d1, d2, d3] => { results := [.lit (.bool true)], args := [d1, d2, d3] }
  | _ => none }
def deltaNetsRow : OpenClaim := { program := "ytkfoknjflpklpaa", sum := "dad41802da6b40a6087c6ab1ee8ba86eff286ec724048384188bee0a475ee16b", func := "tripwire/tripwirelaw10.DeltaNets", spec := "deltaNets", unfollowed := true, recurses := true, plainKeys := false, apart := false }
def DeltaNetsSaid : Prop := deltaNetsRow.holds Try.pinned (OpenSpec.ofChange deltaNetsSpec)

/-- ITS FALSE NEIGHBOUR: 'it returns false'. Refute it at one input. -/
def deltaNetsWrong : ChangeSpec := { name := "deltaNets", fn := fun _ => fun
  | [d1, d2, d3] => { results := [.lit (.bool false)], args := [d1, d2, d3] }
  | _ => none }
def DeltaNetsWrongFalsely : Prop := deltaNetsRow.holds Try.pinned (OpenSpec.ofChange deltaNetsWrong)

/-- 'tripwirelaw10.DeltaTracks': WHATEVER THE INPUT: true; the input reads as it did. -/
def deltaTracksSpec : ChangeSpec := { name := "deltaTracks", fn := fun _ => fun
  | [d] => { results := [.lit (.bool true)], args := [d] }
  | _ => none }
def deltaTracksRow : OpenClaim := { program := "ytkfoknjflpklpaa", sum := "dad41802da6b40a6087c6ab1ee8ba86eff286ec724048384188bee0a475ee16b", func := "tripwire/tripwirelaw10.DeltaTracks", spec := "deltaTracks", unfollowed := true, recurses := true, plainKeys := false, apart := false }
def DeltaTracksSaid : Prop := deltaTracksRow.holds Try.pinned (OpenSpec.ofChange deltaTracksSpec)

/-- ITS FALSE NEIGHBOUR: 'it returns false'. Refute it at one input. -/
def deltaTracksWrong : ChangeSpec := { name := "deltaTracks", fn := fun _ => fun
  | [d] => { results := [.lit (.bool false)], args := [d] }
  | _ => none }
def DeltaTracksWrongFalsely : Prop := deltaTracksRow.holds Try.pinned (OpenSpec.ofChange deltaTracksWrong)

/-- 'tripwirelaw23.RuleFirst': WHATEVER THE INPUT: true; the input reads as it did. -/
def ruleFirstSpec : ChangeSpec := { name := "ruleFirst", fn := fun _ => fun
  | [d1, d2, d3] => { results := [.lit (.bool true)], args := [d1, d2, d3] }
  | _ => none }
def ruleFirstRow : OpenClaim := { program := "ytkfoknjflpklpaa", sum := "dad41802da6b40a6087c6ab1ee8ba86eff286ec724048384188bee0a475ee16b", func := "tripwire/tripwirelaw23.RuleFirst", spec := "ruleFirst", unfollowed := true, recurses := true, loops := true, plainKeys := false, apart := false }
def RuleFirstSaid : Prop := ruleFirstRow.holds Try.pinned (OpenSpec.ofChange ruleFirstSpec)

/-- ITS FALSE NEIGHBOUR: 'it returns false'. Refute it at one input. -/
def ruleFirstWrong : ChangeSpec := { name := "ruleFirst", fn := fun _ => fun
  | [d1, d2, d3] => { results := [.lit (.bool false)], args := [d1, d2, d3] }
  | _ => none }
def RuleFirstWrongFalsely : Prop := ruleFirstRow.holds Try.pinned (OpenSpec.ofChange ruleFirstWrong)

/-- 'tripwirelaw28.ReportMakes': WHATEVER THE INPUT: true; the input reads as it did. -/
def reportMakesSpec : ChangeSpec := { name := "reportMakes", fn := fun _ => fun
  | [d1, d2] => { results := [.lit (.bool true)], args := [d1, d2] }
  | _ => none }
def reportMakesRow : OpenClaim := { program := "ytkfoknjflpklpaa", sum := "dad41802da6b40a6087c6ab1ee8ba86eff286ec724048384188bee0a475ee16b", func := "tripwire/tripwirelaw28.ReportMakes", spec := "reportMakes", inPlace := ["internal/bytealg.abigen_runtime_cmpstring"], unfollowed := true, recurses := true, plainKeys := false, apart := false }
def ReportMakesSaid : Prop := reportMakesRow.holds Try.pinned (OpenSpec.ofChange reportMakesSpec)

/-- ITS FALSE NEIGHBOUR: 'it returns false'. Refute it at one input. -/
def reportMakesWrong : ChangeSpec := { name := "reportMakes", fn := fun _ => fun
  | [d1, d2] => { results := [.lit (.bool false)], args := [d1, d2] }
  | _ => none }
def ReportMakesWrongFalsely : Prop := reportMakesRow.holds Try.pinned (OpenSpec.ofChange reportMakesWrong)

/-- 'tripwirelaw28.ReportSorts': WHATEVER THE INPUT: true; the input reads as it did. -/
def reportSortsSpec : ChangeSpec := { name := "reportSorts", fn := fun _ => fun
  | [d1, d2] => { results := [.lit (.bool true)], args := [d1, d2] }
  | _ => none }
def reportSortsRow : OpenClaim := { program := "ytkfoknjflpklpaa", sum := "dad41802da6b40a6087c6ab1ee8ba86eff286ec724048384188bee0a475ee16b", func := "tripwire/tripwirelaw28.ReportSorts", spec := "reportSorts", inPlace := ["internal/bytealg.abigen_runtime_cmpstring"], unfollowed := true, recurses := true, plainKeys := false, apart := false }
def ReportSortsSaid : Prop := reportSortsRow.holds Try.pinned (OpenSpec.ofChange reportSortsSpec)

/-- ITS FALSE NEIGHBOUR: 'it returns false'. Refute it at one input. -/
def reportSortsWrong : ChangeSpec := { name := "reportSorts", fn := fun _ => fun
  | [d1, d2] => { results := [.lit (.bool false)], args := [d1, d2] }
  | _ => none }
def ReportSortsWrongFalsely : Prop := reportSortsRow.holds Try.pinned (OpenSpec.ofChange reportSortsWrong)

/-- 'tripwirelaw28.ReportCounts': WHATEVER THE INPUT: true; the input reads as it did. -/
def reportCountsSpec : ChangeSpec := { name := "reportCounts", fn := fun _ => fun
  | [d1, d2, d3] => { results := [.lit (.bool true)], args := [d1, d2, d3] }
  | _ => none }
def reportCountsRow : OpenClaim := { program := "ytkfoknjflpklpaa", sum := "dad41802da6b40a6087c6ab1ee8ba86eff286ec724048384188bee0a475ee16b", func := "tripwire/tripwirelaw28.ReportCounts", spec := "reportCounts", inPlace := ["internal/bytealg.abigen_runtime_cmpstring"], unfollowed := true, recurses := true, plainKeys := false, apart := false }
def ReportCountsSaid : Prop := reportCountsRow.holds Try.pinned (OpenSpec.ofChange reportCountsSpec)

/-- ITS FALSE NEIGHBOUR: 'it returns false'. Refute it at one input. -/
def reportCountsWrong : ChangeSpec := { name := "reportCounts", fn := fun _ => fun
  | [d1, d2, d3] => { results := [.lit (.bool false)], args := [d1, d2, d3] }
  | _ => none }
def ReportCountsWrongFalsely : Prop := reportCountsRow.holds Try.pinned (OpenSpec.ofChange reportCountsWrong)

/-- 'tripwirelaw28.ReportEnds': WHATEVER THE INPUT: true; the input reads as it did. -/
def reportEndsSpec : ChangeSpec := { name := "reportEnds", fn := fun _ => fun
  | [d1, d2] => { results := [.lit (.bool true)], args := [d1, d2] }
  | _ => none }
def reportEndsRow : OpenClaim := { program := "ytkfoknjflpklpaa", sum := "dad41802da6b40a6087c6ab1ee8ba86eff286ec724048384188bee0a475ee16b", func := "tripwire/tripwirelaw28.ReportEnds", spec := "reportEnds", inPlace := ["internal/bytealg.abigen_runtime_cmpstring"], unfollowed := true, recurses := true, plainKeys := false, apart := false }
def ReportEndsSaid : Prop := reportEndsRow.holds Try.pinned (OpenSpec.ofChange reportEndsSpec)

/-- ITS FALSE NEIGHBOUR: 'it returns false'. Refute it at one input. -/
def reportEndsWrong : ChangeSpec := { name := "reportEnds", fn := fun _ => fun
  | [d1, d2] => { results := [.lit (.bool false)], args := [d1, d2] }
  | _ => none }
def ReportEndsWrongFalsely : Prop := reportEndsRow.holds Try.pinned (OpenSpec.ofChange reportEndsWrong)

/- THE SECOND FORM. 'bulk': how many values and letters a reading holds, each counted each time it is reached (what is shared counts as often as it is met; a slice's spare places count too). A statement '..UptoSaid' is the law's where the arguments, and the package variables that the reading takes, are together of bulk at most 1048576: NARROWER than '..Said'. Prove '..Said' where nothing that the law and all that it calls make is longer than what came in: it says more and counts as full. Else prove '..UptoSaid'. A law counts once. -/
mutual
def uptoBulk {H : Type} : DataW H → Nat
  | .lit (.string bytes) => bytes.length + 1
  | .lit _ => 1
  | .nil => 1
  | .ptr d => uptoBulk d + 1
  | .slice elems spare => uptoBulkAll elems + uptoBulkAll spare + 1
  | .agg parts => uptoBulkAll parts + 1
  | .iface _ d => uptoBulk d + 1
  | .map entries => uptoBulkEntries entries + 1
  | .held _ => 1
def uptoBulkAll {H : Type} : List (DataW H) → Nat
  | [] => 0
  | d :: r => uptoBulk d + uptoBulkAll r
def uptoBulkEntries {H : Type} : List (Lit × DataW H) → Nat
  | [] => 0
  | x :: r => uptoBulkEntry x + uptoBulkEntries r
def uptoBulkEntry {H : Type} : Lit × DataW H → Nat
  | (.string bytes, d) => bytes.length + uptoBulk d + 1
  | (_, d) => uptoBulk d + 1
 end
def uptoSmall : (H : Type) → List (DataW H) → Bool := fun _ ds => decide (uptoBulkAll ds ≤ 1048576)
def OpenSpec.upto (s : _root_.Go.ChangeSpec) : _root_.Go.OpenSpec := { _root_.Go.OpenSpec.ofChange s with cond := some uptoSmall }

/-- 'tripwirelaw10.DeltaSnaps', WHERE WHAT IT READS IS OF BULK AT MOST 1048576: true; the input reads as it did. -/
def deltaSnapsUptoRow : OpenClaim := { program := "ytkfoknjflpklpaa", sum := "dad41802da6b40a6087c6ab1ee8ba86eff286ec724048384188bee0a475ee16b", func := "tripwire/tripwirelaw10.DeltaSnaps", spec := "deltaSnaps", unfollowed := true, recurses := true, plainKeys := false, apart := false, narrowed := true }
def DeltaSnapsUptoSaid : Prop := deltaSnapsUptoRow.holds Try.pinned (OpenSpec.upto deltaSnapsSpec)

/-- 'tripwirelaw10.DeltaParts', WHERE WHAT IT READS IS OF BULK AT MOST 1048576: true; the input reads as it did. -/
def deltaPartsUptoRow : OpenClaim := { program := "ytkfoknjflpklpaa", sum := "dad41802da6b40a6087c6ab1ee8ba86eff286ec724048384188bee0a475ee16b", func := "tripwire/tripwirelaw10.DeltaParts", spec := "deltaParts", unfollowed := true, recurses := true, plainKeys := false, apart := false, narrowed := true }
def DeltaPartsUptoSaid : Prop := deltaPartsUptoRow.holds Try.pinned (OpenSpec.upto deltaPartsSpec)

/-- 'tripwirelaw10.DeltaTurns', WHERE WHAT IT READS IS OF BULK AT MOST 1048576: true; the input reads as it did. -/
def deltaTurnsUptoRow : OpenClaim := { program := "ytkfoknjflpklpaa", sum := "dad41802da6b40a6087c6ab1ee8ba86eff286ec724048384188bee0a475ee16b", func := "tripwire/tripwirelaw10.DeltaTurns", spec := "deltaTurns", unfollowed := true, recurses := true, plainKeys := false, apart := false, narrowed := true }
def DeltaTurnsUptoSaid : Prop := deltaTurnsUptoRow.holds Try.pinned (OpenSpec.upto deltaTurnsSpec)

/-- 'tripwirelaw10.DeltaNets', WHERE WHAT IT READS IS OF BULK AT MOST 1048576: true; the input reads as it did. -/
def deltaNetsUptoRow : OpenClaim := { program := "ytkfoknjflpklpaa", sum := "dad41802da6b40a6087c6ab1ee8ba86eff286ec724048384188bee0a475ee16b", func := "tripwire/tripwirelaw10.DeltaNets", spec := "deltaNets", unfollowed := true, recurses := true, plainKeys := false, apart := false, narrowed := true }
def DeltaNetsUptoSaid : Prop := deltaNetsUptoRow.holds Try.pinned (OpenSpec.upto deltaNetsSpec)

/-- 'tripwirelaw10.DeltaTracks', WHERE WHAT IT READS IS OF BULK AT MOST 1048576: true; the input reads as it did. -/
def deltaTracksUptoRow : OpenClaim := { program := "ytkfoknjflpklpaa", sum := "dad41802da6b40a6087c6ab1ee8ba86eff286ec724048384188bee0a475ee16b", func := "tripwire/tripwirelaw10.DeltaTracks", spec := "deltaTracks", unfollowed := true, recurses := true, plainKeys := false, apart := false, narrowed := true }
def DeltaTracksUptoSaid : Prop := deltaTracksUptoRow.holds Try.pinned (OpenSpec.upto deltaTracksSpec)

/-- 'tripwirelaw23.RuleFirst', WHERE WHAT IT READS IS OF BULK AT MOST 1048576: true; the input reads as it did. -/
def ruleFirstUptoRow : OpenClaim := { program := "ytkfoknjflpklpaa", sum := "dad41802da6b40a6087c6ab1ee8ba86eff286ec724048384188bee0a475ee16b", func := "tripwire/tripwirelaw23.RuleFirst", spec := "ruleFirst", unfollowed := true, recurses := true, loops := true, plainKeys := false, apart := false, narrowed := true }
def RuleFirstUptoSaid : Prop := ruleFirstUptoRow.holds Try.pinned (OpenSpec.upto ruleFirstSpec)

/-- 'tripwirelaw28.ReportMakes', WHERE WHAT IT READS IS OF BULK AT MOST 1048576: true; the input reads as it did. -/
def reportMakesUptoRow : OpenClaim := { program := "ytkfoknjflpklpaa", sum := "dad41802da6b40a6087c6ab1ee8ba86eff286ec724048384188bee0a475ee16b", func := "tripwire/tripwirelaw28.ReportMakes", spec := "reportMakes", inPlace := ["internal/bytealg.abigen_runtime_cmpstring"], unfollowed := true, recurses := true, plainKeys := false, apart := false, narrowed := true }
def ReportMakesUptoSaid : Prop := reportMakesUptoRow.holds Try.pinned (OpenSpec.upto reportMakesSpec)

/-- 'tripwirelaw28.ReportSorts', WHERE WHAT IT READS IS OF BULK AT MOST 1048576: true; the input reads as it did. -/
def reportSortsUptoRow : OpenClaim := { program := "ytkfoknjflpklpaa", sum := "dad41802da6b40a6087c6ab1ee8ba86eff286ec724048384188bee0a475ee16b", func := "tripwire/tripwirelaw28.ReportSorts", spec := "reportSorts", inPlace := ["internal/bytealg.abigen_runtime_cmpstring"], unfollowed := true, recurses := true, plainKeys := false, apart := false, narrowed := true }
def ReportSortsUptoSaid : Prop := reportSortsUptoRow.holds Try.pinned (OpenSpec.upto reportSortsSpec)

/-- 'tripwirelaw28.ReportCounts', WHERE WHAT IT READS IS OF BULK AT MOST 1048576: true; the input reads as it did. -/
def reportCountsUptoRow : OpenClaim := { program := "ytkfoknjflpklpaa", sum := "dad41802da6b40a6087c6ab1ee8ba86eff286ec724048384188bee0a475ee16b", func := "tripwire/tripwirelaw28.ReportCounts", spec := "reportCounts", inPlace := ["internal/bytealg.abigen_runtime_cmpstring"], unfollowed := true, recurses := true, plainKeys := false, apart := false, narrowed := true }
def ReportCountsUptoSaid : Prop := reportCountsUptoRow.holds Try.pinned (OpenSpec.upto reportCountsSpec)

/-- 'tripwirelaw28.ReportEnds', WHERE WHAT IT READS IS OF BULK AT MOST 1048576: true; the input reads as it did. -/
def reportEndsUptoRow : OpenClaim := { program := "ytkfoknjflpklpaa", sum := "dad41802da6b40a6087c6ab1ee8ba86eff286ec724048384188bee0a475ee16b", func := "tripwire/tripwirelaw28.ReportEnds", spec := "reportEnds", inPlace := ["internal/bytealg.abigen_runtime_cmpstring"], unfollowed := true, recurses := true, plainKeys := false, apart := false, narrowed := true }
def ReportEndsUptoSaid : Prop := reportEndsUptoRow.holds Try.pinned (OpenSpec.upto reportEndsSpec)

end Rows
end Go.Proofs.Ytkfoknjflpklpaa
