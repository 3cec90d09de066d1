/-
  No cell of these rows narrows 'for every input' (looked for: loops, veiled, ifaces, maps, wideKeys, modest, calm, conditions, laid).
  DERIVED. THE GIVEN ROWS OF THIS SEAT. 5 by the template 'for every input the law returns true; each argument reads behind the call as it read before'; 0 by the template 'total and deterministic' (their statements: YtikdflkllffaaaaTotals.lean).
  GIVEN WITH THE SEED: the statements are not yours to turn. If you find one false, say at which input.
  Laid BY PROGRAM, IN A SANDBOX (cutbox-rows.mjs): the forced cells as the released guide's own fill.sh prints them over the translation 86dfe64ef2355c11… (all of the seat's roots in one cut). By AI agents, Wed Nov 11 2026. No macro, syntax, notation, axiom, sorry.
-/
import Derived.Test.YtikdflkllffaaaaChecked
import GoSem.Claim
import GoSem.ClaimJoined
import GoSem.ClaimMapViews
import Derived.JoinedTies
import Derived.KernelRfl
namespace Go.Proofs.Ytikdflkllffaaaa
/- THE CELL 'sum', in the pinned program and in every row, IS THE sha256 OF THE DUMP (.gsa) THAT YtikdflkllffaaaaProg.lean LOADS. Nothing in Lean hashes anything: it is a label: what it is worth is what the hold of that sum in a sandbox is worth. -/
noncomputable def Try.pinned : Pinned := { name := "ytikdflkllffaaaa", sum := "86dfe64ef2355c112a130e1a752b221d05b11d2204fd1936f254dd38414c00c8", checked := Try.checked }
namespace Rows
def none {H : Type} : Left H := { results := [], args := [] }

/-- 'metronomelaw16.RateTables': WHATEVER THE INPUT: true; the input reads as it did. -/
def rateTablesSpec : ChangeSpec := { name := "rateTables", fn := fun _ => fun
  | [d] => { results := [.lit (.bool true)], args := [d] }
  | _ => none }
def rateTablesRow : OpenClaim := { program := "ytikdflkllffaaaa", sum := "86dfe64ef2355c112a130e1a752b221d05b11d2204fd1936f254dd38414c00c8", func := "metronome/metronomelaw16.RateTables", spec := "rateTables", unfollowed := true, recurses := true, apart := false }
def RateTablesSaid : Prop := rateTablesRow.holds Try.pinned (OpenSpec.ofChange rateTablesSpec)

/-- ITS FALSE NEIGHBOUR: 'it returns false'. Refute it at one input. -/
def rateTablesWrong : ChangeSpec := { name := "rateTables", fn := fun _ => fun
  | [d] => { results := [.lit (.bool false)], args := [d] }
  | _ => none }
def RateTablesWrongFalsely : Prop := rateTablesRow.holds Try.pinned (OpenSpec.ofChange rateTablesWrong)

/-- 'metronomelaw16.RateActive': WHATEVER THE INPUT: true; the input reads as it did. -/
def rateActiveSpec : ChangeSpec := { name := "rateActive", fn := fun _ => fun
  | [d1, d2, d3] => { results := [.lit (.bool true)], args := [d1, d2, d3] }
  | _ => none }
def rateActiveRow : OpenClaim := { program := "ytikdflkllffaaaa", sum := "86dfe64ef2355c112a130e1a752b221d05b11d2204fd1936f254dd38414c00c8", func := "metronome/metronomelaw16.RateActive", spec := "rateActive", unfollowed := true, recurses := true, apart := false }
def RateActiveSaid : Prop := rateActiveRow.holds Try.pinned (OpenSpec.ofChange rateActiveSpec)

/-- ITS FALSE NEIGHBOUR: 'it returns false'. Refute it at one input. -/
def rateActiveWrong : ChangeSpec := { name := "rateActive", fn := fun _ => fun
  | [d1, d2, d3] => { results := [.lit (.bool false)], args := [d1, d2, d3] }
  | _ => none }
def RateActiveWrongFalsely : Prop := rateActiveRow.holds Try.pinned (OpenSpec.ofChange rateActiveWrong)

/-- 'metronomelaw16.RateLoads': WHATEVER THE INPUT: true; the input reads as it did. -/
def rateLoadsSpec : ChangeSpec := { name := "rateLoads", fn := fun _ => fun
  | [d1, d2] => { results := [.lit (.bool true)], args := [d1, d2] }
  | _ => none }
def rateLoadsRow : OpenClaim := { program := "ytikdflkllffaaaa", sum := "86dfe64ef2355c112a130e1a752b221d05b11d2204fd1936f254dd38414c00c8", func := "metronome/metronomelaw16.RateLoads", spec := "rateLoads", unfollowed := true, recurses := true, apart := false }
def RateLoadsSaid : Prop := rateLoadsRow.holds Try.pinned (OpenSpec.ofChange rateLoadsSpec)

/-- ITS FALSE NEIGHBOUR: 'it returns false'. Refute it at one input. -/
def rateLoadsWrong : ChangeSpec := { name := "rateLoads", fn := fun _ => fun
  | [d1, d2] => { results := [.lit (.bool false)], args := [d1, d2] }
  | _ => none }
def RateLoadsWrongFalsely : Prop := rateLoadsRow.holds Try.pinned (OpenSpec.ofChange rateLoadsWrong)

/-- 'metronomelaw16.RateCounts': WHATEVER THE INPUT: true; the input reads as it did. -/
def rateCountsSpec : ChangeSpec := { name := "rateCounts", fn := fun _ => fun
  | [d1, d2] => { results := [.lit (.bool true)], args := [d1, d2] }
  | _ => none }
def rateCountsRow : OpenClaim := { program := "ytikdflkllffaaaa", sum := "86dfe64ef2355c112a130e1a752b221d05b11d2204fd1936f254dd38414c00c8", func := "metronome/metronomelaw16.RateCounts", spec := "rateCounts", unfollowed := true, recurses := true, apart := false }
def RateCountsSaid : Prop := rateCountsRow.holds Try.pinned (OpenSpec.ofChange rateCountsSpec)

/-- ITS FALSE NEIGHBOUR: 'it returns false'. Refute it at one input. -/
def rateCountsWrong : ChangeSpec := { name := "rateCounts", fn := fun _ => fun
  | [d1, d2] => { results := [.lit (.bool false)], args := [d1, d2] }
  | _ => none }
def RateCountsWrongFalsely : Prop := rateCountsRow.holds Try.pinned (OpenSpec.ofChange rateCountsWrong)

/-- 'metronometop.TopNames': WHATEVER THE INPUT: true; the input reads as it did. -/
def topNamesSpec : ChangeSpec := { name := "topNames", fn := fun _ => fun
  | [] => { results := [.lit (.bool true)], args := [] }
  | _ => none }
def topNamesRow : OpenClaim := { program := "ytikdflkllffaaaa", sum := "86dfe64ef2355c112a130e1a752b221d05b11d2204fd1936f254dd38414c00c8", func := "metronome/metronometop.TopNames", spec := "topNames", apart := false }
def TopNamesSaid : Prop := topNamesRow.holds Try.pinned (OpenSpec.ofChange topNamesSpec)

/-- ITS FALSE NEIGHBOUR: 'it returns false'. Refute it at one input. -/
def topNamesWrong : ChangeSpec := { name := "topNames", fn := fun _ => fun
  | [] => { results := [.lit (.bool false)], args := [] }
  | _ => none }
def TopNamesWrongFalsely : Prop := topNamesRow.holds Try.pinned (OpenSpec.ofChange topNamesWrong)

/- THE SECOND FORM. 'bulk': how many values and letters a reading holds, each counted each time it is reached (what is shared counts as often as it is met; a slice's spare places count too). A statement '..UptoSaid' is the law's where the arguments, and the package variables that the reading takes, are together of bulk at most 1048576: NARROWER than '..Said'. Prove '..Said' where nothing that the law and all that it calls make is longer than what came in: it says more and counts as full. Else prove '..UptoSaid'. A law counts once. -/
mutual
def uptoBulk {H : Type} : DataW H → Nat
  | .lit (.string bytes) => bytes.length + 1
  | .lit _ => 1
  | .nil => 1
  | .ptr d => uptoBulk d + 1
  | .slice elems spare => uptoBulkAll elems + uptoBulkAll spare + 1
  | .agg parts => uptoBulkAll parts + 1
  | .iface _ d => uptoBulk d + 1
  | .map entries => uptoBulkEntries entries + 1
  | .held _ => 1
def uptoBulkAll {H : Type} : List (DataW H) → Nat
  | [] => 0
  | d :: r => uptoBulk d + uptoBulkAll r
def uptoBulkEntries {H : Type} : List (Lit × DataW H) → Nat
  | [] => 0
  | x :: r => uptoBulkEntry x + uptoBulkEntries r
def uptoBulkEntry {H : Type} : Lit × DataW H → Nat
  | (.string bytes, d) => bytes.length + uptoBulk d + 1
  | (_, d) => uptoBulk d + 1
 end
def uptoSmall : (H : Type) → List (DataW H) → Bool := fun _ ds => decide (uptoBulkAll ds ≤ 1048576)
def OpenSpec.upto (s : _root_.Go.ChangeSpec) : _root_.Go.OpenSpec := { _root_.Go.OpenSpec.ofChange s with cond := some uptoSmall }

/-- 'metronomelaw16.RateTables', WHERE WHAT IT READS IS OF BULK AT MOST 1048576: true; the input reads as it did. -/
def rateTablesUptoRow : OpenClaim := { program := "ytikdflkllffaaaa", sum := "86dfe64ef2355c112a130e1a752b221d05b11d2204fd1936f254dd38414c00c8", func := "metronome/metronomelaw16.RateTables", spec := "rateTables", unfollowed := true, recurses := true, apart := false, narrowed := true }
def RateTablesUptoSaid : Prop := rateTablesUptoRow.holds Try.pinned (OpenSpec.upto rateTablesSpec)

/-- 'metronomelaw16.RateActive', WHERE WHAT IT READS IS OF BULK AT MOST 1048576: true; the input reads as it did. -/
def rateActiveUptoRow : OpenClaim := { program := "ytikdflkllffaaaa", sum := "86dfe64ef2355c112a130e1a752b221d05b11d2204fd1936f254dd38414c00c8", func := "metronome/metronomelaw16.RateActive", spec := "rateActive", unfollowed := true, recurses := true, apart := false, narrowed := true }
def RateActiveUptoSaid : Prop := rateActiveUptoRow.holds Try.pinned (OpenSpec.upto rateActiveSpec)

/-- 'metronomelaw16.RateLoads', WHERE WHAT IT READS IS OF BULK AT MOST 1048576: true; the input reads as it did. -/
def rateLoadsUptoRow : OpenClaim := { program := "ytikdflkllffaaaa", sum := "86dfe64ef2355c112a130e1a752b221d05b11d2204fd1936f254dd38414c00c8", func := "metronome/metronomelaw16.RateLoads", spec := "rateLoads", unfollowed := true, recurses := true, apart := false, narrowed := true }
def RateLoadsUptoSaid : Prop := rateLoadsUptoRow.holds Try.pinned (OpenSpec.upto rateLoadsSpec)

/-- 'metronomelaw16.RateCounts', WHERE WHAT IT READS IS OF BULK AT MOST 1048576: true; the input reads as it did. -/
def rateCountsUptoRow : OpenClaim := { program := "ytikdflkllffaaaa", sum := "86dfe64ef2355c112a130e1a752b221d05b11d2204fd1936f254dd38414c00c8", func := "metronome/metronomelaw16.RateCounts", spec := "rateCounts", unfollowed := true, recurses := true, apart := false, narrowed := true }
def RateCountsUptoSaid : Prop := rateCountsUptoRow.holds Try.pinned (OpenSpec.upto rateCountsSpec)

/-- 'metronometop.TopNames', WHERE WHAT IT READS IS OF BULK AT MOST 1048576: true; the input reads as it did. -/
def topNamesUptoRow : OpenClaim := { program := "ytikdflkllffaaaa", sum := "86dfe64ef2355c112a130e1a752b221d05b11d2204fd1936f254dd38414c00c8", func := "metronome/metronometop.TopNames", spec := "topNames", apart := false, narrowed := true }
def TopNamesUptoSaid : Prop := topNamesUptoRow.holds Try.pinned (OpenSpec.upto topNamesSpec)

end Rows
end Go.Proofs.Ytikdflkllffaaaa
