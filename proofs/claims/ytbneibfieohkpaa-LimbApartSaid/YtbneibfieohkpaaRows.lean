/-
  No cell of these rows narrows 'for every input' (looked for: loops, veiled, ifaces, maps, wideKeys, modest, calm, conditions, laid).
  DERIVED. THE GIVEN ROWS OF THIS SEAT. 4 by the template 'for every input the law returns true; each argument reads behind the call as it read before'; 0 by the template 'total and deterministic' (their statements: YtbneibfieohkpaaTotals.lean).
  GIVEN WITH THE SEED: the statements are not yours to turn. If you find one false, say at which input.
  Laid BY PROGRAM, IN A SANDBOX (cutbox-rows.mjs): the forced cells as the released guide's own fill.sh prints them over the translation 5574b008a2e55ab5… (all of the seat's roots in one cut). By AI agents, Wed Nov 11 2026. No macro, syntax, notation, axiom, sorry.
-/
import Derived.Test.YtbneibfieohkpaaChecked
import GoSem.Claim
import GoSem.ClaimJoined
import GoSem.ClaimMapViews
import Derived.JoinedTies
import Derived.KernelRfl
namespace Go.Proofs.Ytbneibfieohkpaa
/- THE CELL 'sum', in the pinned program and in every row, IS THE sha256 OF THE DUMP (.gsa) THAT YtbneibfieohkpaaProg.lean LOADS. Nothing in Lean hashes anything: it is a label: what it is worth is what the hold of that sum in a sandbox is worth. -/
noncomputable def Try.pinned : Pinned := { name := "ytbneibfieohkpaa", sum := "5574b008a2e55ab5e8275ed1072f7409464b33669dae1efd5a5663965176bc2a", checked := Try.checked }
namespace Rows
def none {H : Type} : Left H := { results := [], args := [] }

/-- 'offertorylaw08.LimbCuts': WHATEVER THE INPUT: true; the input reads as it did. -/
def limbCutsSpec : ChangeSpec := { name := "limbCuts", fn := fun _ => fun
  | [d] => { results := [.lit (.bool true)], args := [d] }
  | _ => none }
def limbCutsRow : OpenClaim := { program := "ytbneibfieohkpaa", sum := "5574b008a2e55ab5e8275ed1072f7409464b33669dae1efd5a5663965176bc2a", func := "offertory/offertorylaw08.LimbCuts", spec := "limbCuts", apart := false }
def LimbCutsSaid : Prop := limbCutsRow.holds Try.pinned (OpenSpec.ofChange limbCutsSpec)

/-- ITS FALSE NEIGHBOUR: 'it returns false'. Refute it at one input. -/
def limbCutsWrong : ChangeSpec := { name := "limbCuts", fn := fun _ => fun
  | [d] => { results := [.lit (.bool false)], args := [d] }
  | _ => none }
def LimbCutsWrongFalsely : Prop := limbCutsRow.holds Try.pinned (OpenSpec.ofChange limbCutsWrong)

/-- 'offertorylaw08.LimbGlues': WHATEVER THE INPUT: true; the input reads as it did. -/
def limbGluesSpec : ChangeSpec := { name := "limbGlues", fn := fun _ => fun
  | [d] => { results := [.lit (.bool true)], args := [d] }
  | _ => none }
def limbGluesRow : OpenClaim := { program := "ytbneibfieohkpaa", sum := "5574b008a2e55ab5e8275ed1072f7409464b33669dae1efd5a5663965176bc2a", func := "offertory/offertorylaw08.LimbGlues", spec := "limbGlues", apart := false }
def LimbGluesSaid : Prop := limbGluesRow.holds Try.pinned (OpenSpec.ofChange limbGluesSpec)

/-- ITS FALSE NEIGHBOUR: 'it returns false'. Refute it at one input. -/
def limbGluesWrong : ChangeSpec := { name := "limbGlues", fn := fun _ => fun
  | [d] => { results := [.lit (.bool false)], args := [d] }
  | _ => none }
def LimbGluesWrongFalsely : Prop := limbGluesRow.holds Try.pinned (OpenSpec.ofChange limbGluesWrong)

/-- 'offertorylaw08.LimbBack': WHATEVER THE INPUT: true; the input reads as it did. -/
def limbBackSpec : ChangeSpec := { name := "limbBack", fn := fun _ => fun
  | [d1, d2] => { results := [.lit (.bool true)], args := [d1, d2] }
  | _ => none }
def limbBackRow : OpenClaim := { program := "ytbneibfieohkpaa", sum := "5574b008a2e55ab5e8275ed1072f7409464b33669dae1efd5a5663965176bc2a", func := "offertory/offertorylaw08.LimbBack", spec := "limbBack", apart := false }
def LimbBackSaid : Prop := limbBackRow.holds Try.pinned (OpenSpec.ofChange limbBackSpec)

/-- ITS FALSE NEIGHBOUR: 'it returns false'. Refute it at one input. -/
def limbBackWrong : ChangeSpec := { name := "limbBack", fn := fun _ => fun
  | [d1, d2] => { results := [.lit (.bool false)], args := [d1, d2] }
  | _ => none }
def LimbBackWrongFalsely : Prop := limbBackRow.holds Try.pinned (OpenSpec.ofChange limbBackWrong)

/-- 'offertorylaw08.LimbApart': WHATEVER THE INPUT: true; the input reads as it did. -/
def limbApartSpec : ChangeSpec := { name := "limbApart", fn := fun _ => fun
  | [d1, d2] => { results := [.lit (.bool true)], args := [d1, d2] }
  | _ => none }
def limbApartRow : OpenClaim := { program := "ytbneibfieohkpaa", sum := "5574b008a2e55ab5e8275ed1072f7409464b33669dae1efd5a5663965176bc2a", func := "offertory/offertorylaw08.LimbApart", spec := "limbApart", apart := false }
def LimbApartSaid : Prop := limbApartRow.holds Try.pinned (OpenSpec.ofChange limbApartSpec)

/-- ITS FALSE NEIGHBOUR: 'it returns false'. Refute it at one input. -/
def limbApartWrong : ChangeSpec := { name := "limbApart", fn := fun _ => fun
  | [d1, d2] => { results := [.lit (.bool false)], args := [d1, d2] }
  | _ => none }
def LimbApartWrongFalsely : Prop := limbApartRow.holds Try.pinned (OpenSpec.ofChange limbApartWrong)

/- THE SECOND FORM. 'bulk': how many values and letters a reading holds, each counted each time it is reached (what is shared counts as often as it is met; a slice's spare places count too). A statement '..UptoSaid' is the law's where the arguments, and the package variables that the reading takes, are together of bulk at most 1048576: NARROWER than '..Said'. Prove '..Said' where nothing that the law and all that it calls make is longer than what came in: it says more and counts as full. Else prove '..UptoSaid'. A law counts once. -/
mutual
def uptoBulk {H : Type} : DataW H → Nat
  | .lit (.string bytes) => bytes.length + 1
  | .lit _ => 1
  | .nil => 1
  | .ptr d => uptoBulk d + 1
  | .slice elems spare => uptoBulkAll elems + uptoBulkAll spare + 1
  | .agg parts => uptoBulkAll parts + 1
  | .iface _ d => uptoBulk d + 1
  | .map entries => uptoBulkEntries entries + 1
  | .held _ => 1
def uptoBulkAll {H : Type} : List (DataW H) → Nat
  | [] => 0
  | d :: r => uptoBulk d + uptoBulkAll r
def uptoBulkEntries {H : Type} : List (Lit × DataW H) → Nat
  | [] => 0
  | x :: r => uptoBulkEntry x + uptoBulkEntries r
def uptoBulkEntry {H : Type} : Lit × DataW H → Nat
  | (.string bytes, d) => bytes.length + uptoBulk d + 1
  | (_, d) => uptoBulk d + 1
 end
def uptoSmall : (H : Type) → List (DataW H) → Bool := fun _ ds => decide (uptoBulkAll ds ≤ 1048576)
def OpenSpec.upto (s : _root_.Go.ChangeSpec) : _root_.Go.OpenSpec := { _root_.Go.OpenSpec.ofChange s with cond := some uptoSmall }

/-- 'offertorylaw08.LimbCuts', WHERE WHAT IT READS IS OF BULK AT MOST 1048576: true; the input reads as it did. -/
def limbCutsUptoRow : OpenClaim := { program := "ytbneibfieohkpaa", sum := "5574b008a2e55ab5e8275ed1072f7409464b33669dae1efd5a5663965176bc2a", func := "offertory/offertorylaw08.LimbCuts", spec := "limbCuts", apart := false, narrowed := true }
def LimbCutsUptoSaid : Prop := limbCutsUptoRow.holds Try.pinned (OpenSpec.upto limbCutsSpec)

/-- 'offertorylaw08.LimbGlues', WHERE WHAT IT READS IS OF BULK AT MOST 1048576: true; the input reads as it did. -/
def limbGluesUptoRow : OpenClaim := { program := "ytbneibfieohkpaa", sum := "5574b008a2e55ab5e8275ed1072f7409464b33669dae1efd5a5663965176bc2a", func := "offertory/offertorylaw08.LimbGlues", spec := "limbGlues", apart := false, narrowed := true }
def LimbGluesUptoSaid : Prop := limbGluesUptoRow.holds Try.pinned (OpenSpec.upto limbGluesSpec)

/-- 'offertorylaw08.LimbBack', WHERE WHAT IT READS IS OF BULK AT MOST 1048576: true; the input reads as it did. -/
def limbBackUptoRow : OpenClaim := { program := "ytbneibfieohkpaa", sum := "5574b008a2e55ab5e8275ed1072f7409464b33669dae1efd5a5663965176bc2a", func := "offertory/offertorylaw08.LimbBack", spec := "limbBack", apart := false, narrowed := true }
def LimbBackUptoSaid : Prop := limbBackUptoRow.holds Try.pinned (OpenSpec.upto limbBackSpec)

/-- 'offertorylaw08.LimbApart', WHERE WHAT IT READS IS OF BULK AT MOST 1048576: true; the input reads as it did. -/
def limbApartUptoRow : OpenClaim := { program := "ytbneibfieohkpaa", sum := "5574b008a2e55ab5e8275ed1072f7409464b33669dae1efd5a5663965176bc2a", func := "offertory/offertorylaw08.LimbApart", spec := "limbApart", apart := false, narrowed := true }
def LimbApartUptoSaid : Prop := limbApartUptoRow.holds Try.pinned (OpenSpec.upto limbApartSpec)

end Rows
end Go.Proofs.Ytbneibfieohkpaa
