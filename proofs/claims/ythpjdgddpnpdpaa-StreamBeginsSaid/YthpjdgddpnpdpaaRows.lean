/-
  No cell of these rows narrows 'for every input' (looked for: loops, veiled, ifaces, maps, wideKeys, modest, calm, conditions, laid).
  DERIVED. THE GIVEN ROWS OF THIS SEAT. 10 by the template 'for every input the law returns true; each argument reads behind the call as it read before'; 0 by the template 'total and deterministic' (their statements: YthpjdgddpnpdpaaTotals.lean).
  GIVEN WITH THE SEED: the statements are not yours to turn. If you find one false, say at which input.
  Laid BY PROGRAM, IN A SANDBOX (cutbox-rows.mjs): the forced cells as the released guide's own fill.sh prints them over the translation 343d84bb6ae4b114… (all of the seat's roots in one cut). By AI agents, Wed Nov 11 2026. No macro, syntax, notation, axiom, sorry.
-/
import Derived.Test.YthpjdgddpnpdpaaChecked
import GoSem.Claim
import GoSem.ClaimJoined
import GoSem.ClaimMapViews
import Derived.JoinedTies
import Derived.KernelRfl
namespace Go.Proofs.Ythpjdgddpnpdpaa
/- THE CELL 'sum', in the pinned program and in every row, IS THE sha256 OF THE DUMP (.gsa) THAT YthpjdgddpnpdpaaProg.lean LOADS. Nothing in Lean hashes anything: it is a label: what it is worth is what the hold of that sum in a sandbox is worth. -/
noncomputable def Try.pinned : Pinned := { name := "ythpjdgddpnpdpaa", sum := "343d84bb6ae4b1147de22241fb94cf875405dc05d9e3930fab8b3bc5650d5a25", checked := Try.checked }
namespace Rows
def none {H : Type} : Left H := { results := [], args := [] }

/-- 'offertorylaw04.CipherQuarters': WHATEVER THE INPUT: true; the input reads as it did. -/
def cipherQuartersSpec : ChangeSpec := { name := "cipherQuarters", fn := fun _ => fun
  | [d1, d2, d3, d4] => { results := [.lit (.bool true)], args := [d1, d2, d3, d4] }
  | _ => none }
def cipherQuartersRow : OpenClaim := { program := "ythpjdgddpnpdpaa", sum := "343d84bb6ae4b1147de22241fb94cf875405dc05d9e3930fab8b3bc5650d5a25", func := "offertory/offertorylaw04.CipherQuarters", spec := "cipherQuarters", apart := false }
def CipherQuartersSaid : Prop := cipherQuartersRow.holds Try.pinned (OpenSpec.ofChange cipherQuartersSpec)

/-- ITS FALSE NEIGHBOUR: 'it returns false'. Refute it at one input. -/
def cipherQuartersWrong : ChangeSpec := { name := "cipherQuarters", fn := fun _ => fun
  | [d1, d2, d3, d4] => { results := [.lit (.bool false)], args := [d1, d2, d3, d4] }
  | _ => none }
def CipherQuartersWrongFalsely : Prop := cipherQuartersRow.holds Try.pinned (OpenSpec.ofChange cipherQuartersWrong)

/-- 'offertorylaw04.CipherBlocks': WHATEVER THE INPUT: true; the input reads as it did. -/
def cipherBlocksSpec : ChangeSpec := { name := "cipherBlocks", fn := fun _ => fun
  | [d1, d2, d3] => { results := [.lit (.bool true)], args := [d1, d2, d3] }
  | _ => none }
def cipherBlocksRow : OpenClaim := { program := "ythpjdgddpnpdpaa", sum := "343d84bb6ae4b1147de22241fb94cf875405dc05d9e3930fab8b3bc5650d5a25", func := "offertory/offertorylaw04.CipherBlocks", spec := "cipherBlocks", apart := false }
def CipherBlocksSaid : Prop := cipherBlocksRow.holds Try.pinned (OpenSpec.ofChange cipherBlocksSpec)

/-- ITS FALSE NEIGHBOUR: 'it returns false'. Refute it at one input. -/
def cipherBlocksWrong : ChangeSpec := { name := "cipherBlocks", fn := fun _ => fun
  | [d1, d2, d3] => { results := [.lit (.bool false)], args := [d1, d2, d3] }
  | _ => none }
def CipherBlocksWrongFalsely : Prop := cipherBlocksRow.holds Try.pinned (OpenSpec.ofChange cipherBlocksWrong)

/-- 'offertorylaw04.CipherXors': WHATEVER THE INPUT: true; the input reads as it did. -/
def cipherXorsSpec : ChangeSpec := { name := "cipherXors", fn := fun _ => fun
  | [d1, d2, d3, d4] => { results := [.lit (.bool true)], args := [d1, d2, d3, d4] }
  | _ => none }
def cipherXorsRow : OpenClaim := { program := "ythpjdgddpnpdpaa", sum := "343d84bb6ae4b1147de22241fb94cf875405dc05d9e3930fab8b3bc5650d5a25", func := "offertory/offertorylaw04.CipherXors", spec := "cipherXors", apart := false }
def CipherXorsSaid : Prop := cipherXorsRow.holds Try.pinned (OpenSpec.ofChange cipherXorsSpec)

/-- ITS FALSE NEIGHBOUR: 'it returns false'. Refute it at one input. -/
def cipherXorsWrong : ChangeSpec := { name := "cipherXors", fn := fun _ => fun
  | [d1, d2, d3, d4] => { results := [.lit (.bool false)], args := [d1, d2, d3, d4] }
  | _ => none }
def CipherXorsWrongFalsely : Prop := cipherXorsRow.holds Try.pinned (OpenSpec.ofChange cipherXorsWrong)

/-- 'offertorylaw04.CipherBack': WHATEVER THE INPUT: true; the input reads as it did. -/
def cipherBackSpec : ChangeSpec := { name := "cipherBack", fn := fun _ => fun
  | [d1, d2, d3, d4] => { results := [.lit (.bool true)], args := [d1, d2, d3, d4] }
  | _ => none }
def cipherBackRow : OpenClaim := { program := "ythpjdgddpnpdpaa", sum := "343d84bb6ae4b1147de22241fb94cf875405dc05d9e3930fab8b3bc5650d5a25", func := "offertory/offertorylaw04.CipherBack", spec := "cipherBack", apart := false }
def CipherBackSaid : Prop := cipherBackRow.holds Try.pinned (OpenSpec.ofChange cipherBackSpec)

/-- ITS FALSE NEIGHBOUR: 'it returns false'. Refute it at one input. -/
def cipherBackWrong : ChangeSpec := { name := "cipherBack", fn := fun _ => fun
  | [d1, d2, d3, d4] => { results := [.lit (.bool false)], args := [d1, d2, d3, d4] }
  | _ => none }
def CipherBackWrongFalsely : Prop := cipherBackRow.holds Try.pinned (OpenSpec.ofChange cipherBackWrong)

/-- 'offertorylaw04.CipherTurns': WHATEVER THE INPUT: true; the input reads as it did. -/
def cipherTurnsSpec : ChangeSpec := { name := "cipherTurns", fn := fun _ => fun
  | [d1, d2, d3, d4] => { results := [.lit (.bool true)], args := [d1, d2, d3, d4] }
  | _ => none }
def cipherTurnsRow : OpenClaim := { program := "ythpjdgddpnpdpaa", sum := "343d84bb6ae4b1147de22241fb94cf875405dc05d9e3930fab8b3bc5650d5a25", func := "offertory/offertorylaw04.CipherTurns", spec := "cipherTurns", apart := false }
def CipherTurnsSaid : Prop := cipherTurnsRow.holds Try.pinned (OpenSpec.ofChange cipherTurnsSpec)

/-- ITS FALSE NEIGHBOUR: 'it returns false'. Refute it at one input. -/
def cipherTurnsWrong : ChangeSpec := { name := "cipherTurns", fn := fun _ => fun
  | [d1, d2, d3, d4] => { results := [.lit (.bool false)], args := [d1, d2, d3, d4] }
  | _ => none }
def CipherTurnsWrongFalsely : Prop := cipherTurnsRow.holds Try.pinned (OpenSpec.ofChange cipherTurnsWrong)

/-- 'offertorylaw05.StreamBytes': WHATEVER THE INPUT: true; the input reads as it did. -/
def streamBytesSpec : ChangeSpec := { name := "streamBytes", fn := fun _ => fun
  | [d1, d2, d3] => { results := [.lit (.bool true)], args := [d1, d2, d3] }
  | _ => none }
def streamBytesRow : OpenClaim := { program := "ythpjdgddpnpdpaa", sum := "343d84bb6ae4b1147de22241fb94cf875405dc05d9e3930fab8b3bc5650d5a25", func := "offertory/offertorylaw05.StreamBytes", spec := "streamBytes", apart := false }
def StreamBytesSaid : Prop := streamBytesRow.holds Try.pinned (OpenSpec.ofChange streamBytesSpec)

/-- ITS FALSE NEIGHBOUR: 'it returns false'. Refute it at one input. -/
def streamBytesWrong : ChangeSpec := { name := "streamBytes", fn := fun _ => fun
  | [d1, d2, d3] => { results := [.lit (.bool false)], args := [d1, d2, d3] }
  | _ => none }
def StreamBytesWrongFalsely : Prop := streamBytesRow.holds Try.pinned (OpenSpec.ofChange streamBytesWrong)

/-- 'offertorylaw05.StreamMost': WHATEVER THE INPUT: true; the input reads as it did. -/
def streamMostSpec : ChangeSpec := { name := "streamMost", fn := fun _ => fun
  | [d1, d2, d3] => { results := [.lit (.bool true)], args := [d1, d2, d3] }
  | _ => none }
def streamMostRow : OpenClaim := { program := "ythpjdgddpnpdpaa", sum := "343d84bb6ae4b1147de22241fb94cf875405dc05d9e3930fab8b3bc5650d5a25", func := "offertory/offertorylaw05.StreamMost", spec := "streamMost", apart := false }
def StreamMostSaid : Prop := streamMostRow.holds Try.pinned (OpenSpec.ofChange streamMostSpec)

/-- ITS FALSE NEIGHBOUR: 'it returns false'. Refute it at one input. -/
def streamMostWrong : ChangeSpec := { name := "streamMost", fn := fun _ => fun
  | [d1, d2, d3] => { results := [.lit (.bool false)], args := [d1, d2, d3] }
  | _ => none }
def StreamMostWrongFalsely : Prop := streamMostRow.holds Try.pinned (OpenSpec.ofChange streamMostWrong)

/-- 'offertorylaw05.StreamVectors': WHATEVER THE INPUT: true; the input reads as it did. -/
def streamVectorsSpec : ChangeSpec := { name := "streamVectors", fn := fun _ => fun
  | [d1, d2, d3] => { results := [.lit (.bool true)], args := [d1, d2, d3] }
  | _ => none }
def streamVectorsRow : OpenClaim := { program := "ythpjdgddpnpdpaa", sum := "343d84bb6ae4b1147de22241fb94cf875405dc05d9e3930fab8b3bc5650d5a25", func := "offertory/offertorylaw05.StreamVectors", spec := "streamVectors", apart := false }
def StreamVectorsSaid : Prop := streamVectorsRow.holds Try.pinned (OpenSpec.ofChange streamVectorsSpec)

/-- ITS FALSE NEIGHBOUR: 'it returns false'. Refute it at one input. -/
def streamVectorsWrong : ChangeSpec := { name := "streamVectors", fn := fun _ => fun
  | [d1, d2, d3] => { results := [.lit (.bool false)], args := [d1, d2, d3] }
  | _ => none }
def StreamVectorsWrongFalsely : Prop := streamVectorsRow.holds Try.pinned (OpenSpec.ofChange streamVectorsWrong)

/-- 'offertorylaw05.StreamDerives': WHATEVER THE INPUT: true; the input reads as it did. -/
def streamDerivesSpec : ChangeSpec := { name := "streamDerives", fn := fun _ => fun
  | [d1, d2] => { results := [.lit (.bool true)], args := [d1, d2] }
  | _ => none }
def streamDerivesRow : OpenClaim := { program := "ythpjdgddpnpdpaa", sum := "343d84bb6ae4b1147de22241fb94cf875405dc05d9e3930fab8b3bc5650d5a25", func := "offertory/offertorylaw05.StreamDerives", spec := "streamDerives", apart := false }
def StreamDerivesSaid : Prop := streamDerivesRow.holds Try.pinned (OpenSpec.ofChange streamDerivesSpec)

/-- ITS FALSE NEIGHBOUR: 'it returns false'. Refute it at one input. -/
def streamDerivesWrong : ChangeSpec := { name := "streamDerives", fn := fun _ => fun
  | [d1, d2] => { results := [.lit (.bool false)], args := [d1, d2] }
  | _ => none }
def StreamDerivesWrongFalsely : Prop := streamDerivesRow.holds Try.pinned (OpenSpec.ofChange streamDerivesWrong)

/-- 'offertorylaw05.StreamBegins': WHATEVER THE INPUT: true; the input reads as it did. -/
def streamBeginsSpec : ChangeSpec := { name := "streamBegins", fn := fun _ => fun
  | [d1, d2, d3, d4] => { results := [.lit (.bool true)], args := [d1, d2, d3, d4] }
  | _ => none }
def streamBeginsRow : OpenClaim := { program := "ythpjdgddpnpdpaa", sum := "343d84bb6ae4b1147de22241fb94cf875405dc05d9e3930fab8b3bc5650d5a25", func := "offertory/offertorylaw05.StreamBegins", spec := "streamBegins", apart := false }
def StreamBeginsSaid : Prop := streamBeginsRow.holds Try.pinned (OpenSpec.ofChange streamBeginsSpec)

/-- ITS FALSE NEIGHBOUR: 'it returns false'. Refute it at one input. -/
def streamBeginsWrong : ChangeSpec := { name := "streamBegins", fn := fun _ => fun
  | [d1, d2, d3, d4] => { results := [.lit (.bool false)], args := [d1, d2, d3, d4] }
  | _ => none }
def StreamBeginsWrongFalsely : Prop := streamBeginsRow.holds Try.pinned (OpenSpec.ofChange streamBeginsWrong)

/- THE SECOND FORM. 'bulk': how many values and letters a reading holds, each counted each time it is reached (what is shared counts as often as it is met; a slice's spare places count too). A statement '..UptoSaid' is the law's where the arguments, and the package variables that the reading takes, are together of bulk at most 1048576: NARROWER than '..Said'. Prove '..Said' where nothing that the law and all that it calls make is longer than what came in: it says more and counts as full. Else prove '..UptoSaid'. A law counts once. -/
mutual
def uptoBulk {H : Type} : DataW H → Nat
  | .lit (.string bytes) => bytes.length + 1
  | .lit _ => 1
  | .nil => 1
  | .ptr d => uptoBulk d + 1
  | .slice elems spare => uptoBulkAll elems + uptoBulkAll spare + 1
  | .agg parts => uptoBulkAll parts + 1
  | .iface _ d => uptoBulk d + 1
  | .map entries => uptoBulkEntries entries + 1
  | .held _ => 1
def uptoBulkAll {H : Type} : List (DataW H) → Nat
  | [] => 0
  | d :: r => uptoBulk d + uptoBulkAll r
def uptoBulkEntries {H : Type} : List (Lit × DataW H) → Nat
  | [] => 0
  | x :: r => uptoBulkEntry x + uptoBulkEntries r
def uptoBulkEntry {H : Type} : Lit × DataW H → Nat
  | (.string bytes, d) => bytes.length + uptoBulk d + 1
  | (_, d) => uptoBulk d + 1
 end
def uptoSmall : (H : Type) → List (DataW H) → Bool := fun _ ds => decide (uptoBulkAll ds ≤ 1048576)
def OpenSpec.upto (s : _root_.Go.ChangeSpec) : _root_.Go.OpenSpec := { _root_.Go.OpenSpec.ofChange s with cond := some uptoSmall }

/-- 'offertorylaw04.CipherQuarters', WHERE WHAT IT READS IS OF BULK AT MOST 1048576: true; the input reads as it did. -/
def cipherQuartersUptoRow : OpenClaim := { program := "ythpjdgddpnpdpaa", sum := "343d84bb6ae4b1147de22241fb94cf875405dc05d9e3930fab8b3bc5650d5a25", func := "offertory/offertorylaw04.CipherQuarters", spec := "cipherQuarters", apart := false, narrowed := true }
def CipherQuartersUptoSaid : Prop := cipherQuartersUptoRow.holds Try.pinned (OpenSpec.upto cipherQuartersSpec)

/-- 'offertorylaw04.CipherBlocks', WHERE WHAT IT READS IS OF BULK AT MOST 1048576: true; the input reads as it did. -/
def cipherBlocksUptoRow : OpenClaim := { program := "ythpjdgddpnpdpaa", sum := "343d84bb6ae4b1147de22241fb94cf875405dc05d9e3930fab8b3bc5650d5a25", func := "offertory/offertorylaw04.CipherBlocks", spec := "cipherBlocks", apart := false, narrowed := true }
def CipherBlocksUptoSaid : Prop := cipherBlocksUptoRow.holds Try.pinned (OpenSpec.upto cipherBlocksSpec)

/-- 'offertorylaw04.CipherXors', WHERE WHAT IT READS IS OF BULK AT MOST 1048576: true; the input reads as it did. -/
def cipherXorsUptoRow : OpenClaim := { program := "ythpjdgddpnpdpaa", sum := "343d84bb6ae4b1147de22241fb94cf875405dc05d9e3930fab8b3bc5650d5a25", func := "offertory/offertorylaw04.CipherXors", spec := "cipherXors", apart := false, narrowed := true }
def CipherXorsUptoSaid : Prop := cipherXorsUptoRow.holds Try.pinned (OpenSpec.upto cipherXorsSpec)

/-- 'offertorylaw04.CipherBack', WHERE WHAT IT READS IS OF BULK AT MOST 1048576: true; the input reads as it did. -/
def cipherBackUptoRow : OpenClaim := { program := "ythpjdgddpnpdpaa", sum := "343d84bb6ae4b1147de22241fb94cf875405dc05d9e3930fab8b3bc5650d5a25", func := "offertory/offertorylaw04.CipherBack", spec := "cipherBack", apart := false, narrowed := true }
def CipherBackUptoSaid : Prop := cipherBackUptoRow.holds Try.pinned (OpenSpec.upto cipherBackSpec)

/-- 'offertorylaw04.CipherTurns', WHERE WHAT IT READS IS OF BULK AT MOST 1048576: true; the input reads as it did. -/
def cipherTurnsUptoRow : OpenClaim := { program := "ythpjdgddpnpdpaa", sum := "343d84bb6ae4b1147de22241fb94cf875405dc05d9e3930fab8b3bc5650d5a25", func := "offertory/offertorylaw04.CipherTurns", spec := "cipherTurns", apart := false, narrowed := true }
def CipherTurnsUptoSaid : Prop := cipherTurnsUptoRow.holds Try.pinned (OpenSpec.upto cipherTurnsSpec)

/-- 'offertorylaw05.StreamBytes', WHERE WHAT IT READS IS OF BULK AT MOST 1048576: true; the input reads as it did. -/
def streamBytesUptoRow : OpenClaim := { program := "ythpjdgddpnpdpaa", sum := "343d84bb6ae4b1147de22241fb94cf875405dc05d9e3930fab8b3bc5650d5a25", func := "offertory/offertorylaw05.StreamBytes", spec := "streamBytes", apart := false, narrowed := true }
def StreamBytesUptoSaid : Prop := streamBytesUptoRow.holds Try.pinned (OpenSpec.upto streamBytesSpec)

/-- 'offertorylaw05.StreamMost', WHERE WHAT IT READS IS OF BULK AT MOST 1048576: true; the input reads as it did. -/
def streamMostUptoRow : OpenClaim := { program := "ythpjdgddpnpdpaa", sum := "343d84bb6ae4b1147de22241fb94cf875405dc05d9e3930fab8b3bc5650d5a25", func := "offertory/offertorylaw05.StreamMost", spec := "streamMost", apart := false, narrowed := true }
def StreamMostUptoSaid : Prop := streamMostUptoRow.holds Try.pinned (OpenSpec.upto streamMostSpec)

/-- 'offertorylaw05.StreamVectors', WHERE WHAT IT READS IS OF BULK AT MOST 1048576: true; the input reads as it did. -/
def streamVectorsUptoRow : OpenClaim := { program := "ythpjdgddpnpdpaa", sum := "343d84bb6ae4b1147de22241fb94cf875405dc05d9e3930fab8b3bc5650d5a25", func := "offertory/offertorylaw05.StreamVectors", spec := "streamVectors", apart := false, narrowed := true }
def StreamVectorsUptoSaid : Prop := streamVectorsUptoRow.holds Try.pinned (OpenSpec.upto streamVectorsSpec)

/-- 'offertorylaw05.StreamDerives', WHERE WHAT IT READS IS OF BULK AT MOST 1048576: true; the input reads as it did. -/
def streamDerivesUptoRow : OpenClaim := { program := "ythpjdgddpnpdpaa", sum := "343d84bb6ae4b1147de22241fb94cf875405dc05d9e3930fab8b3bc5650d5a25", func := "offertory/offertorylaw05.StreamDerives", spec := "streamDerives", apart := false, narrowed := true }
def StreamDerivesUptoSaid : Prop := streamDerivesUptoRow.holds Try.pinned (OpenSpec.upto streamDerivesSpec)

/-- 'offertorylaw05.StreamBegins', WHERE WHAT IT READS IS OF BULK AT MOST 1048576: true; the input reads as it did. -/
def streamBeginsUptoRow : OpenClaim := { program := "ythpjdgddpnpdpaa", sum := "343d84bb6ae4b1147de22241fb94cf875405dc05d9e3930fab8b3bc5650d5a25", func := "offertory/offertorylaw05.StreamBegins", spec := "streamBegins", apart := false, narrowed := true }
def StreamBeginsUptoSaid : Prop := streamBeginsUptoRow.holds Try.pinned (OpenSpec.upto streamBeginsSpec)

end Rows
end Go.Proofs.Ythpjdgddpnpdpaa
