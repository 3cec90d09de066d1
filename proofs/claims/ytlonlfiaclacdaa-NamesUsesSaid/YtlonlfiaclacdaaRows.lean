/-
  No cell of these rows narrows 'for every input' (looked for: loops, veiled, ifaces, maps, wideKeys, modest, calm, conditions, laid).
  DERIVED. THE GIVEN ROWS OF THIS SEAT. 5 by the template 'for every input the law returns true; each argument reads behind the call as it read before'; 0 by the template 'total and deterministic' (their statements: YtlonlfiaclacdaaTotals.lean).
  GIVEN WITH THE SEED: the statements are not yours to turn. If you find one false, say at which input.
  Laid BY PROGRAM, IN A SANDBOX (cutbox-rows.mjs): the forced cells as the released guide's own fill.sh prints them over the translation 0c9d50cba9b3e9c6… (all of the seat's roots in one cut). By AI agents, Wed Nov 11 2026. No macro, syntax, notation, axiom, sorry.
-/
import Derived.Test.YtlonlfiaclacdaaChecked
import GoSem.Claim
import GoSem.ClaimJoined
import GoSem.ClaimMapViews
import Derived.JoinedTies
import Derived.KernelRfl
namespace Go.Proofs.Ytlonlfiaclacdaa
/- THE CELL 'sum', in the pinned program and in every row, IS THE sha256 OF THE DUMP (.gsa) THAT YtlonlfiaclacdaaProg.lean LOADS. Nothing in Lean hashes anything: it is a label: what it is worth is what the hold of that sum in a sandbox is worth. -/
noncomputable def Try.pinned : Pinned := { name := "ytlonlfiaclacdaa", sum := "0c9d50cba9b3e9c6082f2624a1e4429b8eb0df6b077d60d19f6432c5a5f5d001", checked := Try.checked }
namespace Rows
def none {H : Type} : Left H := { results := [], args := [] }

/-- 'metronomelaw5.NamesTwice': WHATEVER THE INPUT: true; the input reads as it did. -/
def namesTwiceSpec : ChangeSpec := { name := "namesTwice", fn := fun _ => fun
  | [d] => { results := [.lit (.bool true)], args := [d] }
  | _ => none }
def namesTwiceRow : OpenClaim := { program := "ytlonlfiaclacdaa", sum := "0c9d50cba9b3e9c6082f2624a1e4429b8eb0df6b077d60d19f6432c5a5f5d001", func := "metronome/metronomelaw5.NamesTwice", spec := "namesTwice", inPlace := ["maps.clone"], unfollowed := true, recurses := true, apart := false }
def NamesTwiceSaid : Prop := namesTwiceRow.holds Try.pinned (OpenSpec.ofChange namesTwiceSpec)

/-- ITS FALSE NEIGHBOUR: 'it returns false'. Refute it at one input. -/
def namesTwiceWrong : ChangeSpec := { name := "namesTwice", fn := fun _ => fun
  | [d] => { results := [.lit (.bool false)], args := [d] }
  | _ => none }
def NamesTwiceWrongFalsely : Prop := namesTwiceRow.holds Try.pinned (OpenSpec.ofChange namesTwiceWrong)

/-- 'metronomelaw5.NamesOrder': WHATEVER THE INPUT: true; the input reads as it did. -/
def namesOrderSpec : ChangeSpec := { name := "namesOrder", fn := fun _ => fun
  | [d1, d2, d3] => { results := [.lit (.bool true)], args := [d1, d2, d3] }
  | _ => none }
def namesOrderRow : OpenClaim := { program := "ytlonlfiaclacdaa", sum := "0c9d50cba9b3e9c6082f2624a1e4429b8eb0df6b077d60d19f6432c5a5f5d001", func := "metronome/metronomelaw5.NamesOrder", spec := "namesOrder", inPlace := ["maps.clone"], unfollowed := true, recurses := true, apart := false }
def NamesOrderSaid : Prop := namesOrderRow.holds Try.pinned (OpenSpec.ofChange namesOrderSpec)

/-- ITS FALSE NEIGHBOUR: 'it returns false'. Refute it at one input. -/
def namesOrderWrong : ChangeSpec := { name := "namesOrder", fn := fun _ => fun
  | [d1, d2, d3] => { results := [.lit (.bool false)], args := [d1, d2, d3] }
  | _ => none }
def NamesOrderWrongFalsely : Prop := namesOrderRow.holds Try.pinned (OpenSpec.ofChange namesOrderWrong)

/-- 'metronomelaw5.NamesWrong': WHATEVER THE INPUT: true; the input reads as it did. -/
def namesWrongSpec : ChangeSpec := { name := "namesWrong", fn := fun _ => fun
  | [d] => { results := [.lit (.bool true)], args := [d] }
  | _ => none }
def namesWrongRow : OpenClaim := { program := "ytlonlfiaclacdaa", sum := "0c9d50cba9b3e9c6082f2624a1e4429b8eb0df6b077d60d19f6432c5a5f5d001", func := "metronome/metronomelaw5.NamesWrong", spec := "namesWrong", inPlace := ["maps.clone"], unfollowed := true, recurses := true, apart := false }
def NamesWrongSaid : Prop := namesWrongRow.holds Try.pinned (OpenSpec.ofChange namesWrongSpec)

/-- ITS FALSE NEIGHBOUR: 'it returns false'. Refute it at one input. -/
def namesWrongWrong : ChangeSpec := { name := "namesWrong", fn := fun _ => fun
  | [d] => { results := [.lit (.bool false)], args := [d] }
  | _ => none }
def NamesWrongWrongFalsely : Prop := namesWrongRow.holds Try.pinned (OpenSpec.ofChange namesWrongWrong)

/-- 'metronomelaw5.NamesStates': WHATEVER THE INPUT: true; the input reads as it did. -/
def namesStatesSpec : ChangeSpec := { name := "namesStates", fn := fun _ => fun
  | [d] => { results := [.lit (.bool true)], args := [d] }
  | _ => none }
def namesStatesRow : OpenClaim := { program := "ytlonlfiaclacdaa", sum := "0c9d50cba9b3e9c6082f2624a1e4429b8eb0df6b077d60d19f6432c5a5f5d001", func := "metronome/metronomelaw5.NamesStates", spec := "namesStates", inPlace := ["maps.clone"], unfollowed := true, recurses := true, apart := false }
def NamesStatesSaid : Prop := namesStatesRow.holds Try.pinned (OpenSpec.ofChange namesStatesSpec)

/-- ITS FALSE NEIGHBOUR: 'it returns false'. Refute it at one input. -/
def namesStatesWrong : ChangeSpec := { name := "namesStates", fn := fun _ => fun
  | [d] => { results := [.lit (.bool false)], args := [d] }
  | _ => none }
def NamesStatesWrongFalsely : Prop := namesStatesRow.holds Try.pinned (OpenSpec.ofChange namesStatesWrong)

/-- 'metronomelaw5.NamesUses': WHATEVER THE INPUT: true; the input reads as it did. -/
def namesUsesSpec : ChangeSpec := { name := "namesUses", fn := fun _ => fun
  | [d1, d2] => { results := [.lit (.bool true)], args := [d1, d2] }
  | _ => none }
def namesUsesRow : OpenClaim := { program := "ytlonlfiaclacdaa", sum := "0c9d50cba9b3e9c6082f2624a1e4429b8eb0df6b077d60d19f6432c5a5f5d001", func := "metronome/metronomelaw5.NamesUses", spec := "namesUses", inPlace := ["maps.clone"], unfollowed := true, recurses := true, apart := false }
def NamesUsesSaid : Prop := namesUsesRow.holds Try.pinned (OpenSpec.ofChange namesUsesSpec)

/-- ITS FALSE NEIGHBOUR: 'it returns false'. Refute it at one input. -/
def namesUsesWrong : ChangeSpec := { name := "namesUses", fn := fun _ => fun
  | [d1, d2] => { results := [.lit (.bool false)], args := [d1, d2] }
  | _ => none }
def NamesUsesWrongFalsely : Prop := namesUsesRow.holds Try.pinned (OpenSpec.ofChange namesUsesWrong)

/- THE SECOND FORM. 'bulk': how many values and letters a reading holds, each counted each time it is reached (what is shared counts as often as it is met; a slice's spare places count too). A statement '..UptoSaid' is the law's where the arguments, and the package variables that the reading takes, are together of bulk at most 1048576: NARROWER than '..Said'. Prove '..Said' where nothing that the law and all that it calls make is longer than what came in: it says more and counts as full. Else prove '..UptoSaid'. A law counts once. -/
mutual
def uptoBulk {H : Type} : DataW H → Nat
  | .lit (.string bytes) => bytes.length + 1
  | .lit _ => 1
  | .nil => 1
  | .ptr d => uptoBulk d + 1
  | .slice elems spare => uptoBulkAll elems + uptoBulkAll spare + 1
  | .agg parts => uptoBulkAll parts + 1
  | .iface _ d => uptoBulk d + 1
  | .map entries => uptoBulkEntries entries + 1
  | .held _ => 1
def uptoBulkAll {H : Type} : List (DataW H) → Nat
  | [] => 0
  | d :: r => uptoBulk d + uptoBulkAll r
def uptoBulkEntries {H : Type} : List (Lit × DataW H) → Nat
  | [] => 0
  | x :: r => uptoBulkEntry x + uptoBulkEntries r
def uptoBulkEntry {H : Type} : Lit × DataW H → Nat
  | (.string bytes, d) => bytes.length + uptoBulk d + 1
  | (_, d) => uptoBulk d + 1
 end
def uptoSmall : (H : Type) → List (DataW H) → Bool := fun _ ds => decide (uptoBulkAll ds ≤ 1048576)
def OpenSpec.upto (s : _root_.Go.ChangeSpec) : _root_.Go.OpenSpec := { _root_.Go.OpenSpec.ofChange s with cond := some uptoSmall }

/-- 'metronomelaw5.NamesTwice', WHERE WHAT IT READS IS OF BULK AT MOST 1048576: true; the input reads as it did. -/
def namesTwiceUptoRow : OpenClaim := { program := "ytlonlfiaclacdaa", sum := "0c9d50cba9b3e9c6082f2624a1e4429b8eb0df6b077d60d19f6432c5a5f5d001", func := "metronome/metronomelaw5.NamesTwice", spec := "namesTwice", inPlace := ["maps.clone"], unfollowed := true, recurses := true, apart := false, narrowed := true }
def NamesTwiceUptoSaid : Prop := namesTwiceUptoRow.holds Try.pinned (OpenSpec.upto namesTwiceSpec)

/-- 'metronomelaw5.NamesOrder', WHERE WHAT IT READS IS OF BULK AT MOST 1048576: true; the input reads as it did. -/
def namesOrderUptoRow : OpenClaim := { program := "ytlonlfiaclacdaa", sum := "0c9d50cba9b3e9c6082f2624a1e4429b8eb0df6b077d60d19f6432c5a5f5d001", func := "metronome/metronomelaw5.NamesOrder", spec := "namesOrder", inPlace := ["maps.clone"], unfollowed := true, recurses := true, apart := false, narrowed := true }
def NamesOrderUptoSaid : Prop := namesOrderUptoRow.holds Try.pinned (OpenSpec.upto namesOrderSpec)

/-- 'metronomelaw5.NamesWrong', WHERE WHAT IT READS IS OF BULK AT MOST 1048576: true; the input reads as it did. -/
def namesWrongUptoRow : OpenClaim := { program := "ytlonlfiaclacdaa", sum := "0c9d50cba9b3e9c6082f2624a1e4429b8eb0df6b077d60d19f6432c5a5f5d001", func := "metronome/metronomelaw5.NamesWrong", spec := "namesWrong", inPlace := ["maps.clone"], unfollowed := true, recurses := true, apart := false, narrowed := true }
def NamesWrongUptoSaid : Prop := namesWrongUptoRow.holds Try.pinned (OpenSpec.upto namesWrongSpec)

/-- 'metronomelaw5.NamesStates', WHERE WHAT IT READS IS OF BULK AT MOST 1048576: true; the input reads as it did. -/
def namesStatesUptoRow : OpenClaim := { program := "ytlonlfiaclacdaa", sum := "0c9d50cba9b3e9c6082f2624a1e4429b8eb0df6b077d60d19f6432c5a5f5d001", func := "metronome/metronomelaw5.NamesStates", spec := "namesStates", inPlace := ["maps.clone"], unfollowed := true, recurses := true, apart := false, narrowed := true }
def NamesStatesUptoSaid : Prop := namesStatesUptoRow.holds Try.pinned (OpenSpec.upto namesStatesSpec)

/-- 'metronomelaw5.NamesUses', WHERE WHAT IT READS IS OF BULK AT MOST 1048576: true; the input reads as it did. -/
def namesUsesUptoRow : OpenClaim := { program := "ytlonlfiaclacdaa", sum := "0c9d50cba9b3e9c6082f2624a1e4429b8eb0df6b077d60d19f6432c5a5f5d001", func := "metronome/metronomelaw5.NamesUses", spec := "namesUses", inPlace := ["maps.clone"], unfollowed := true, recurses := true, apart := false, narrowed := true }
def NamesUsesUptoSaid : Prop := namesUsesUptoRow.holds Try.pinned (OpenSpec.upto namesUsesSpec)

end Rows
end Go.Proofs.Ytlonlfiaclacdaa
