/-
  No cell of these rows narrows 'for every input' (looked for: loops, veiled, ifaces, maps, wideKeys, modest, calm, conditions, laid).
  DERIVED. THE GIVEN ROWS OF THIS SEAT. 9 by the template 'for every input the law returns true; each argument reads behind the call as it read before'; 0 by the template 'total and deterministic' (their statements: YtlonlfiaclacdaaGreatTotals.lean).
  GIVEN WITH THE SEED: the statements are not yours to turn. If you find one false, say at which input.
  Laid BY PROGRAM, IN A SANDBOX (cutbox-rows.mjs): the forced cells as the released guide's own fill.sh prints them over the translation 942789082fbfe9d5… (all of the seat's roots in one cut). By AI agents, Wed Nov 11 2026. No macro, syntax, notation, axiom, sorry.
-/
import Derived.Test.YtlonlfiaclacdaaGreatChecked
import GoSem.Claim
import GoSem.ClaimJoined
import GoSem.ClaimMapViews
import Derived.JoinedTies
import Derived.KernelRfl
namespace Go.Proofs.YtlonlfiaclacdaaGreat
/- THE CELL 'sum', in the pinned program and in every row, IS THE sha256 OF THE DUMP (.gsa) THAT YtlonlfiaclacdaaGreatProg.lean LOADS. Nothing in Lean hashes anything: it is a label: what it is worth is what the hold of that sum in a sandbox is worth. -/
noncomputable def Tryz.pinned : Pinned := { name := "ytlonlfiaclacdaagreat", sum := "942789082fbfe9d5846ea063da94fb94e7882515be581509362313a0a1bfaa1a", checked := Tryz.checked }
namespace Rows
def none {H : Type} : Left H := { results := [], args := [] }

/-- 'metronomelaw10.CauseChecks': WHATEVER THE INPUT: true; the input reads as it did. -/
def causeChecksSpec : ChangeSpec := { name := "causeChecks", fn := fun _ => fun
  | [d] => { results := [.lit (.bool true)], args := [d] }
  | _ => none }
def causeChecksRow : OpenClaim := { program := "ytlonlfiaclacdaagreat", sum := "942789082fbfe9d5846ea063da94fb94e7882515be581509362313a0a1bfaa1a", func := "metronome/metronomelaw10.CauseChecks", spec := "causeChecks", unfollowed := true, recurses := true, apart := false }
def CauseChecksSaid : Prop := causeChecksRow.holds Tryz.pinned (OpenSpec.ofChange causeChecksSpec)

/-- ITS FALSE NEIGHBOUR: 'it returns false'. Refute it at one input. -/
def causeChecksWrong : ChangeSpec := { name := "causeChecks", fn := fun _ => fun
  | [d] => { results := [.lit (.bool false)], args := [d] }
  | _ => none }
def CauseChecksWrongFalsely : Prop := causeChecksRow.holds Tryz.pinned (OpenSpec.ofChange causeChecksWrong)

/-- 'metronomelaw10.CauseForms': WHATEVER THE INPUT: true; the input reads as it did. -/
def causeFormsSpec : ChangeSpec := { name := "causeForms", fn := fun _ => fun
  | [d] => { results := [.lit (.bool true)], args := [d] }
  | _ => none }
def causeFormsRow : OpenClaim := { program := "ytlonlfiaclacdaagreat", sum := "942789082fbfe9d5846ea063da94fb94e7882515be581509362313a0a1bfaa1a", func := "metronome/metronomelaw10.CauseForms", spec := "causeForms", unfollowed := true, recurses := true, apart := false }
def CauseFormsSaid : Prop := causeFormsRow.holds Tryz.pinned (OpenSpec.ofChange causeFormsSpec)

/-- ITS FALSE NEIGHBOUR: 'it returns false'. Refute it at one input. -/
def causeFormsWrong : ChangeSpec := { name := "causeForms", fn := fun _ => fun
  | [d] => { results := [.lit (.bool false)], args := [d] }
  | _ => none }
def CauseFormsWrongFalsely : Prop := causeFormsRow.holds Tryz.pinned (OpenSpec.ofChange causeFormsWrong)

/-- 'metronomelaw10.CauseStates': WHATEVER THE INPUT: true; the input reads as it did. -/
def causeStatesSpec : ChangeSpec := { name := "causeStates", fn := fun _ => fun
  | [d] => { results := [.lit (.bool true)], args := [d] }
  | _ => none }
def causeStatesRow : OpenClaim := { program := "ytlonlfiaclacdaagreat", sum := "942789082fbfe9d5846ea063da94fb94e7882515be581509362313a0a1bfaa1a", func := "metronome/metronomelaw10.CauseStates", spec := "causeStates", unfollowed := true, recurses := true, apart := false }
def CauseStatesSaid : Prop := causeStatesRow.holds Tryz.pinned (OpenSpec.ofChange causeStatesSpec)

/-- ITS FALSE NEIGHBOUR: 'it returns false'. Refute it at one input. -/
def causeStatesWrong : ChangeSpec := { name := "causeStates", fn := fun _ => fun
  | [d] => { results := [.lit (.bool false)], args := [d] }
  | _ => none }
def CauseStatesWrongFalsely : Prop := causeStatesRow.holds Tryz.pinned (OpenSpec.ofChange causeStatesWrong)

/-- 'metronomelaw10.CauseClocks': WHATEVER THE INPUT: true; the input reads as it did. -/
def causeClocksSpec : ChangeSpec := { name := "causeClocks", fn := fun _ => fun
  | [d] => { results := [.lit (.bool true)], args := [d] }
  | _ => none }
def causeClocksRow : OpenClaim := { program := "ytlonlfiaclacdaagreat", sum := "942789082fbfe9d5846ea063da94fb94e7882515be581509362313a0a1bfaa1a", func := "metronome/metronomelaw10.CauseClocks", spec := "causeClocks", unfollowed := true, recurses := true, apart := false }
def CauseClocksSaid : Prop := causeClocksRow.holds Tryz.pinned (OpenSpec.ofChange causeClocksSpec)

/-- ITS FALSE NEIGHBOUR: 'it returns false'. Refute it at one input. -/
def causeClocksWrong : ChangeSpec := { name := "causeClocks", fn := fun _ => fun
  | [d] => { results := [.lit (.bool false)], args := [d] }
  | _ => none }
def CauseClocksWrongFalsely : Prop := causeClocksRow.holds Tryz.pinned (OpenSpec.ofChange causeClocksWrong)

/-- 'metronomelaw8.ClocksDeep': WHATEVER THE INPUT: true; the input reads as it did. -/
def clocksDeepSpec : ChangeSpec := { name := "clocksDeep", fn := fun _ => fun
  | [d1, d2, d3] => { results := [.lit (.bool true)], args := [d1, d2, d3] }
  | _ => none }
def clocksDeepRow : OpenClaim := { program := "ytlonlfiaclacdaagreat", sum := "942789082fbfe9d5846ea063da94fb94e7882515be581509362313a0a1bfaa1a", func := "metronome/metronomelaw8.ClocksDeep", spec := "clocksDeep", unfollowed := true, recurses := true, apart := false }
def ClocksDeepSaid : Prop := clocksDeepRow.holds Tryz.pinned (OpenSpec.ofChange clocksDeepSpec)

/-- ITS FALSE NEIGHBOUR: 'it returns false'. Refute it at one input. -/
def clocksDeepWrong : ChangeSpec := { name := "clocksDeep", fn := fun _ => fun
  | [d1, d2, d3] => { results := [.lit (.bool false)], args := [d1, d2, d3] }
  | _ => none }
def ClocksDeepWrongFalsely : Prop := clocksDeepRow.holds Tryz.pinned (OpenSpec.ofChange clocksDeepWrong)

/-- 'metronomelaw8.ClocksForms': WHATEVER THE INPUT: true; the input reads as it did. -/
def clocksFormsSpec : ChangeSpec := { name := "clocksForms", fn := fun _ => fun
  | [d1, d2] => { results := [.lit (.bool true)], args := [d1, d2] }
  | _ => none }
def clocksFormsRow : OpenClaim := { program := "ytlonlfiaclacdaagreat", sum := "942789082fbfe9d5846ea063da94fb94e7882515be581509362313a0a1bfaa1a", func := "metronome/metronomelaw8.ClocksForms", spec := "clocksForms", unfollowed := true, recurses := true, apart := false }
def ClocksFormsSaid : Prop := clocksFormsRow.holds Tryz.pinned (OpenSpec.ofChange clocksFormsSpec)

/-- ITS FALSE NEIGHBOUR: 'it returns false'. Refute it at one input. -/
def clocksFormsWrong : ChangeSpec := { name := "clocksForms", fn := fun _ => fun
  | [d1, d2] => { results := [.lit (.bool false)], args := [d1, d2] }
  | _ => none }
def ClocksFormsWrongFalsely : Prop := clocksFormsRow.holds Tryz.pinned (OpenSpec.ofChange clocksFormsWrong)

/-- 'metronomelaw8.ClocksStates': WHATEVER THE INPUT: true; the input reads as it did. -/
def clocksStatesSpec : ChangeSpec := { name := "clocksStates", fn := fun _ => fun
  | [d] => { results := [.lit (.bool true)], args := [d] }
  | _ => none }
def clocksStatesRow : OpenClaim := { program := "ytlonlfiaclacdaagreat", sum := "942789082fbfe9d5846ea063da94fb94e7882515be581509362313a0a1bfaa1a", func := "metronome/metronomelaw8.ClocksStates", spec := "clocksStates", unfollowed := true, recurses := true, apart := false }
def ClocksStatesSaid : Prop := clocksStatesRow.holds Tryz.pinned (OpenSpec.ofChange clocksStatesSpec)

/-- ITS FALSE NEIGHBOUR: 'it returns false'. Refute it at one input. -/
def clocksStatesWrong : ChangeSpec := { name := "clocksStates", fn := fun _ => fun
  | [d] => { results := [.lit (.bool false)], args := [d] }
  | _ => none }
def ClocksStatesWrongFalsely : Prop := clocksStatesRow.holds Tryz.pinned (OpenSpec.ofChange clocksStatesWrong)

/-- 'metronomelaw10.CauseOrders': WHATEVER THE INPUT: true; the input reads as it did. -/
def causeOrdersSpec : ChangeSpec := { name := "causeOrders", fn := fun _ => fun
  | [d] => { results := [.lit (.bool true)], args := [d] }
  | _ => none }
def causeOrdersRow : OpenClaim := { program := "ytlonlfiaclacdaagreat", sum := "942789082fbfe9d5846ea063da94fb94e7882515be581509362313a0a1bfaa1a", func := "metronome/metronomelaw10.CauseOrders", spec := "causeOrders", unfollowed := true, recurses := true, apart := false }
def CauseOrdersSaid : Prop := causeOrdersRow.holds Tryz.pinned (OpenSpec.ofChange causeOrdersSpec)

/-- ITS FALSE NEIGHBOUR: 'it returns false'. Refute it at one input. -/
def causeOrdersWrong : ChangeSpec := { name := "causeOrders", fn := fun _ => fun
  | [d] => { results := [.lit (.bool false)], args := [d] }
  | _ => none }
def CauseOrdersWrongFalsely : Prop := causeOrdersRow.holds Tryz.pinned (OpenSpec.ofChange causeOrdersWrong)

/-- 'metronomelaw10.CauseRings': WHATEVER THE INPUT: true; the input reads as it did. -/
def causeRingsSpec : ChangeSpec := { name := "causeRings", fn := fun _ => fun
  | [d1, d2, d3] => { results := [.lit (.bool true)], args := [d1, d2, d3] }
  | _ => none }
def causeRingsRow : OpenClaim := { program := "ytlonlfiaclacdaagreat", sum := "942789082fbfe9d5846ea063da94fb94e7882515be581509362313a0a1bfaa1a", func := "metronome/metronomelaw10.CauseRings", spec := "causeRings", unfollowed := true, recurses := true, apart := false }
def CauseRingsSaid : Prop := causeRingsRow.holds Tryz.pinned (OpenSpec.ofChange causeRingsSpec)

/-- ITS FALSE NEIGHBOUR: 'it returns false'. Refute it at one input. -/
def causeRingsWrong : ChangeSpec := { name := "causeRings", fn := fun _ => fun
  | [d1, d2, d3] => { results := [.lit (.bool false)], args := [d1, d2, d3] }
  | _ => none }
def CauseRingsWrongFalsely : Prop := causeRingsRow.holds Tryz.pinned (OpenSpec.ofChange causeRingsWrong)

/- THE SECOND FORM. 'bulk': how many values and letters a reading holds, each counted each time it is reached (what is shared counts as often as it is met; a slice's spare places count too). A statement '..UptoSaid' is the law's where the arguments, and the package variables that the reading takes, are together of bulk at most 1048576: NARROWER than '..Said'. Prove '..Said' where nothing that the law and all that it calls make is longer than what came in: it says more and counts as full. Else prove '..UptoSaid'. A law counts once. -/
mutual
def uptoBulk {H : Type} : DataW H → Nat
  | .lit (.string bytes) => bytes.length + 1
  | .lit _ => 1
  | .nil => 1
  | .ptr d => uptoBulk d + 1
  | .slice elems spare => uptoBulkAll elems + uptoBulkAll spare + 1
  | .agg parts => uptoBulkAll parts + 1
  | .iface _ d => uptoBulk d + 1
  | .map entries => uptoBulkEntries entries + 1
  | .held _ => 1
def uptoBulkAll {H : Type} : List (DataW H) → Nat
  | [] => 0
  | d :: r => uptoBulk d + uptoBulkAll r
def uptoBulkEntries {H : Type} : List (Lit × DataW H) → Nat
  | [] => 0
  | x :: r => uptoBulkEntry x + uptoBulkEntries r
def uptoBulkEntry {H : Type} : Lit × DataW H → Nat
  | (.string bytes, d) => bytes.length + uptoBulk d + 1
  | (_, d) => uptoBulk d + 1
 end
def uptoSmall : (H : Type) → List (DataW H) → Bool := fun _ ds => decide (uptoBulkAll ds ≤ 1048576)
def OpenSpec.upto (s : _root_.Go.ChangeSpec) : _root_.Go.OpenSpec := { _root_.Go.OpenSpec.ofChange s with cond := some uptoSmall }

/-- 'metronomelaw10.CauseChecks', WHERE WHAT IT READS IS OF BULK AT MOST 1048576: true; the input reads as it did. -/
def causeChecksUptoRow : OpenClaim := { program := "ytlonlfiaclacdaagreat", sum := "942789082fbfe9d5846ea063da94fb94e7882515be581509362313a0a1bfaa1a", func := "metronome/metronomelaw10.CauseChecks", spec := "causeChecks", unfollowed := true, recurses := true, apart := false, narrowed := true }
def CauseChecksUptoSaid : Prop := causeChecksUptoRow.holds Tryz.pinned (OpenSpec.upto causeChecksSpec)

/-- 'metronomelaw10.CauseForms', WHERE WHAT IT READS IS OF BULK AT MOST 1048576: true; the input reads as it did. -/
def causeFormsUptoRow : OpenClaim := { program := "ytlonlfiaclacdaagreat", sum := "942789082fbfe9d5846ea063da94fb94e7882515be581509362313a0a1bfaa1a", func := "metronome/metronomelaw10.CauseForms", spec := "causeForms", unfollowed := true, recurses := true, apart := false, narrowed := true }
def CauseFormsUptoSaid : Prop := causeFormsUptoRow.holds Tryz.pinned (OpenSpec.upto causeFormsSpec)

/-- 'metronomelaw10.CauseStates', WHERE WHAT IT READS IS OF BULK AT MOST 1048576: true; the input reads as it did. -/
def causeStatesUptoRow : OpenClaim := { program := "ytlonlfiaclacdaagreat", sum := "942789082fbfe9d5846ea063da94fb94e7882515be581509362313a0a1bfaa1a", func := "metronome/metronomelaw10.CauseStates", spec := "causeStates", unfollowed := true, recurses := true, apart := false, narrowed := true }
def CauseStatesUptoSaid : Prop := causeStatesUptoRow.holds Tryz.pinned (OpenSpec.upto causeStatesSpec)

/-- 'metronomelaw10.CauseClocks', WHERE WHAT IT READS IS OF BULK AT MOST 1048576: true; the input reads as it did. -/
def causeClocksUptoRow : OpenClaim := { program := "ytlonlfiaclacdaagreat", sum := "942789082fbfe9d5846ea063da94fb94e7882515be581509362313a0a1bfaa1a", func := "metronome/metronomelaw10.CauseClocks", spec := "causeClocks", unfollowed := true, recurses := true, apart := false, narrowed := true }
def CauseClocksUptoSaid : Prop := causeClocksUptoRow.holds Tryz.pinned (OpenSpec.upto causeClocksSpec)

/-- 'metronomelaw8.ClocksDeep', WHERE WHAT IT READS IS OF BULK AT MOST 1048576: true; the input reads as it did. -/
def clocksDeepUptoRow : OpenClaim := { program := "ytlonlfiaclacdaagreat", sum := "942789082fbfe9d5846ea063da94fb94e7882515be581509362313a0a1bfaa1a", func := "metronome/metronomelaw8.ClocksDeep", spec := "clocksDeep", unfollowed := true, recurses := true, apart := false, narrowed := true }
def ClocksDeepUptoSaid : Prop := clocksDeepUptoRow.holds Tryz.pinned (OpenSpec.upto clocksDeepSpec)

/-- 'metronomelaw8.ClocksForms', WHERE WHAT IT READS IS OF BULK AT MOST 1048576: true; the input reads as it did. -/
def clocksFormsUptoRow : OpenClaim := { program := "ytlonlfiaclacdaagreat", sum := "942789082fbfe9d5846ea063da94fb94e7882515be581509362313a0a1bfaa1a", func := "metronome/metronomelaw8.ClocksForms", spec := "clocksForms", unfollowed := true, recurses := true, apart := false, narrowed := true }
def ClocksFormsUptoSaid : Prop := clocksFormsUptoRow.holds Tryz.pinned (OpenSpec.upto clocksFormsSpec)

/-- 'metronomelaw8.ClocksStates', WHERE WHAT IT READS IS OF BULK AT MOST 1048576: true; the input reads as it did. -/
def clocksStatesUptoRow : OpenClaim := { program := "ytlonlfiaclacdaagreat", sum := "942789082fbfe9d5846ea063da94fb94e7882515be581509362313a0a1bfaa1a", func := "metronome/metronomelaw8.ClocksStates", spec := "clocksStates", unfollowed := true, recurses := true, apart := false, narrowed := true }
def ClocksStatesUptoSaid : Prop := clocksStatesUptoRow.holds Tryz.pinned (OpenSpec.upto clocksStatesSpec)

/-- 'metronomelaw10.CauseOrders', WHERE WHAT IT READS IS OF BULK AT MOST 1048576: true; the input reads as it did. -/
def causeOrdersUptoRow : OpenClaim := { program := "ytlonlfiaclacdaagreat", sum := "942789082fbfe9d5846ea063da94fb94e7882515be581509362313a0a1bfaa1a", func := "metronome/metronomelaw10.CauseOrders", spec := "causeOrders", unfollowed := true, recurses := true, apart := false, narrowed := true }
def CauseOrdersUptoSaid : Prop := causeOrdersUptoRow.holds Tryz.pinned (OpenSpec.upto causeOrdersSpec)

/-- 'metronomelaw10.CauseRings', WHERE WHAT IT READS IS OF BULK AT MOST 1048576: true; the input reads as it did. -/
def causeRingsUptoRow : OpenClaim := { program := "ytlonlfiaclacdaagreat", sum := "942789082fbfe9d5846ea063da94fb94e7882515be581509362313a0a1bfaa1a", func := "metronome/metronomelaw10.CauseRings", spec := "causeRings", unfollowed := true, recurses := true, apart := false, narrowed := true }
def CauseRingsUptoSaid : Prop := causeRingsUptoRow.holds Tryz.pinned (OpenSpec.upto causeRingsSpec)

end Rows
end Go.Proofs.YtlonlfiaclacdaaGreat
