/-
  No cell of these rows narrows 'for every input' (looked for: loops, veiled, ifaces, maps, wideKeys, modest, calm, conditions, laid).
  DERIVED. THE GIVEN ROWS OF THIS SEAT. 10 by the template 'for every input the law returns true; each argument reads behind the call as it read before'; 0 by the template 'total and deterministic' (their statements: YtcamniadkackdaaTotals.lean).
  GIVEN WITH THE SEED: the statements are not yours to turn. If you find one false, say at which input.
  Laid BY PROGRAM, IN A SANDBOX (cutbox-rows.mjs): the forced cells as the released guide's own fill.sh prints them over the translation 045f4e3b8a117323… (all of the seat's roots in one cut). By AI agents, Wed Nov 11 2026. No macro, syntax, notation, axiom, sorry.
-/
import Derived.Test.YtcamniadkackdaaChecked
import GoSem.Claim
import GoSem.ClaimJoined
import GoSem.ClaimMapViews
import Derived.JoinedTies
import Derived.KernelRfl
namespace Go.Proofs.Ytcamniadkackdaa
/- THE CELL 'sum', in the pinned program and in every row, IS THE sha256 OF THE DUMP (.gsa) THAT YtcamniadkackdaaProg.lean LOADS. Nothing in Lean hashes anything: it is a label: what it is worth is what the hold of that sum in a sandbox is worth. -/
noncomputable def Try.pinned : Pinned := { name := "ytcamniadkackdaa", sum := "045f4e3b8a117323b7e677ea823f4f544f2db8e210b22fb46511942efeb37b6d", checked := Try.checked }
namespace Rows
def none {H : Type} : Left H := { results := [], args := [] }

/-- 'offertorylaw01.PrimeSums': WHATEVER THE INPUT: true; the input reads as it did. -/
def primeSumsSpec : ChangeSpec := { name := "primeSums", fn := fun _ => fun
  | [d1, d2] => { results := [.lit (.bool true)], args := [d1, d2] }
  | _ => none }
def primeSumsRow : OpenClaim := { program := "ytcamniadkackdaa", sum := "045f4e3b8a117323b7e677ea823f4f544f2db8e210b22fb46511942efeb37b6d", func := "offertory/offertorylaw01.PrimeSums", spec := "primeSums", unfollowed := true, recurses := true, apart := false }
def PrimeSumsSaid : Prop := primeSumsRow.holds Try.pinned (OpenSpec.ofChange primeSumsSpec)

/-- ITS FALSE NEIGHBOUR: 'it returns false'. Refute it at one input. -/
def primeSumsWrong : ChangeSpec := { name := "primeSums", fn := fun _ => fun
  | [d1, d2] => { results := [.lit (.bool false)], args := [d1, d2] }
  | _ => none }
def PrimeSumsWrongFalsely : Prop := primeSumsRow.holds Try.pinned (OpenSpec.ofChange primeSumsWrong)

/-- 'offertorylaw01.PrimeProducts': WHATEVER THE INPUT: true; the input reads as it did. -/
def primeProductsSpec : ChangeSpec := { name := "primeProducts", fn := fun _ => fun
  | [d1, d2] => { results := [.lit (.bool true)], args := [d1, d2] }
  | _ => none }
def primeProductsRow : OpenClaim := { program := "ytcamniadkackdaa", sum := "045f4e3b8a117323b7e677ea823f4f544f2db8e210b22fb46511942efeb37b6d", func := "offertory/offertorylaw01.PrimeProducts", spec := "primeProducts", unfollowed := true, recurses := true, apart := false }
def PrimeProductsSaid : Prop := primeProductsRow.holds Try.pinned (OpenSpec.ofChange primeProductsSpec)

/-- ITS FALSE NEIGHBOUR: 'it returns false'. Refute it at one input. -/
def primeProductsWrong : ChangeSpec := { name := "primeProducts", fn := fun _ => fun
  | [d1, d2] => { results := [.lit (.bool false)], args := [d1, d2] }
  | _ => none }
def PrimeProductsWrongFalsely : Prop := primeProductsRow.holds Try.pinned (OpenSpec.ofChange primeProductsWrong)

/-- 'offertorylaw01.PrimePowers': WHATEVER THE INPUT: true; the input reads as it did. -/
def primePowersSpec : ChangeSpec := { name := "primePowers", fn := fun _ => fun
  | [d1, d2] => { results := [.lit (.bool true)], args := [d1, d2] }
  | _ => none }
def primePowersRow : OpenClaim := { program := "ytcamniadkackdaa", sum := "045f4e3b8a117323b7e677ea823f4f544f2db8e210b22fb46511942efeb37b6d", func := "offertory/offertorylaw01.PrimePowers", spec := "primePowers", unfollowed := true, recurses := true, apart := false }
def PrimePowersSaid : Prop := primePowersRow.holds Try.pinned (OpenSpec.ofChange primePowersSpec)

/-- ITS FALSE NEIGHBOUR: 'it returns false'. Refute it at one input. -/
def primePowersWrong : ChangeSpec := { name := "primePowers", fn := fun _ => fun
  | [d1, d2] => { results := [.lit (.bool false)], args := [d1, d2] }
  | _ => none }
def PrimePowersWrongFalsely : Prop := primePowersRow.holds Try.pinned (OpenSpec.ofChange primePowersWrong)

/-- 'offertorylaw01.PrimeTurns': WHATEVER THE INPUT: true; the input reads as it did. -/
def primeTurnsSpec : ChangeSpec := { name := "primeTurns", fn := fun _ => fun
  | [d] => { results := [.lit (.bool true)], args := [d] }
  | _ => none }
def primeTurnsRow : OpenClaim := { program := "ytcamniadkackdaa", sum := "045f4e3b8a117323b7e677ea823f4f544f2db8e210b22fb46511942efeb37b6d", func := "offertory/offertorylaw01.PrimeTurns", spec := "primeTurns", unfollowed := true, recurses := true, apart := false }
def PrimeTurnsSaid : Prop := primeTurnsRow.holds Try.pinned (OpenSpec.ofChange primeTurnsSpec)

/-- ITS FALSE NEIGHBOUR: 'it returns false'. Refute it at one input. -/
def primeTurnsWrong : ChangeSpec := { name := "primeTurns", fn := fun _ => fun
  | [d] => { results := [.lit (.bool false)], args := [d] }
  | _ => none }
def PrimeTurnsWrongFalsely : Prop := primeTurnsRow.holds Try.pinned (OpenSpec.ofChange primeTurnsWrong)

/-- 'offertorylaw01.PrimeParts': WHATEVER THE INPUT: true; the input reads as it did. -/
def primePartsSpec : ChangeSpec := { name := "primeParts", fn := fun _ => fun
  | [d1, d2, d3, d4, d5] => { results := [.lit (.bool true)], args := [d1, d2, d3, d4, d5] }
  | _ => none }
def primePartsRow : OpenClaim := { program := "ytcamniadkackdaa", sum := "045f4e3b8a117323b7e677ea823f4f544f2db8e210b22fb46511942efeb37b6d", func := "offertory/offertorylaw01.PrimeParts", spec := "primeParts", unfollowed := true, recurses := true, apart := false }
def PrimePartsSaid : Prop := primePartsRow.holds Try.pinned (OpenSpec.ofChange primePartsSpec)

/-- ITS FALSE NEIGHBOUR: 'it returns false'. Refute it at one input. -/
def primePartsWrong : ChangeSpec := { name := "primeParts", fn := fun _ => fun
  | [d1, d2, d3, d4, d5] => { results := [.lit (.bool false)], args := [d1, d2, d3, d4, d5] }
  | _ => none }
def PrimePartsWrongFalsely : Prop := primePartsRow.holds Try.pinned (OpenSpec.ofChange primePartsWrong)

/-- 'offertorylaw01.PrimeZero': WHATEVER THE INPUT: true; the input reads as it did. -/
def primeZeroSpec : ChangeSpec := { name := "primeZero", fn := fun _ => fun
  | [d1, d2] => { results := [.lit (.bool true)], args := [d1, d2] }
  | _ => none }
def primeZeroRow : OpenClaim := { program := "ytcamniadkackdaa", sum := "045f4e3b8a117323b7e677ea823f4f544f2db8e210b22fb46511942efeb37b6d", func := "offertory/offertorylaw01.PrimeZero", spec := "primeZero", unfollowed := true, recurses := true, apart := false }
def PrimeZeroSaid : Prop := primeZeroRow.holds Try.pinned (OpenSpec.ofChange primeZeroSpec)

/-- ITS FALSE NEIGHBOUR: 'it returns false'. Refute it at one input. -/
def primeZeroWrong : ChangeSpec := { name := "primeZero", fn := fun _ => fun
  | [d1, d2] => { results := [.lit (.bool false)], args := [d1, d2] }
  | _ => none }
def PrimeZeroWrongFalsely : Prop := primeZeroRow.holds Try.pinned (OpenSpec.ofChange primeZeroWrong)

/-- 'offertorylaw03.GroupPublics': WHATEVER THE INPUT: true; the input reads as it did. -/
def groupPublicsSpec : ChangeSpec := { name := "groupPublics", fn := fun _ => fun
  | [d] => { results := [.lit (.bool true)], args := [d] }
  | _ => none }
def groupPublicsRow : OpenClaim := { program := "ytcamniadkackdaa", sum := "045f4e3b8a117323b7e677ea823f4f544f2db8e210b22fb46511942efeb37b6d", func := "offertory/offertorylaw03.GroupPublics", spec := "groupPublics", unfollowed := true, recurses := true, apart := false }
def GroupPublicsSaid : Prop := groupPublicsRow.holds Try.pinned (OpenSpec.ofChange groupPublicsSpec)

/-- ITS FALSE NEIGHBOUR: 'it returns false'. Refute it at one input. -/
def groupPublicsWrong : ChangeSpec := { name := "groupPublics", fn := fun _ => fun
  | [d] => { results := [.lit (.bool false)], args := [d] }
  | _ => none }
def GroupPublicsWrongFalsely : Prop := groupPublicsRow.holds Try.pinned (OpenSpec.ofChange groupPublicsWrong)

/-- 'offertorylaw03.GroupAgrees': WHATEVER THE INPUT: true; the input reads as it did. -/
def groupAgreesSpec : ChangeSpec := { name := "groupAgrees", fn := fun _ => fun
  | [d1, d2] => { results := [.lit (.bool true)], args := [d1, d2] }
  | _ => none }
def groupAgreesRow : OpenClaim := { program := "ytcamniadkackdaa", sum := "045f4e3b8a117323b7e677ea823f4f544f2db8e210b22fb46511942efeb37b6d", func := "offertory/offertorylaw03.GroupAgrees", spec := "groupAgrees", unfollowed := true, recurses := true, apart := false }
def GroupAgreesSaid : Prop := groupAgreesRow.holds Try.pinned (OpenSpec.ofChange groupAgreesSpec)

/-- ITS FALSE NEIGHBOUR: 'it returns false'. Refute it at one input. -/
def groupAgreesWrong : ChangeSpec := { name := "groupAgrees", fn := fun _ => fun
  | [d1, d2] => { results := [.lit (.bool false)], args := [d1, d2] }
  | _ => none }
def GroupAgreesWrongFalsely : Prop := groupAgreesRow.holds Try.pinned (OpenSpec.ofChange groupAgreesWrong)

/-- 'offertorylaw03.GroupOrders': WHATEVER THE INPUT: true; the input reads as it did. -/
def groupOrdersSpec : ChangeSpec := { name := "groupOrders", fn := fun _ => fun
  | [d1, d2] => { results := [.lit (.bool true)], args := [d1, d2] }
  | _ => none }
def groupOrdersRow : OpenClaim := { program := "ytcamniadkackdaa", sum := "045f4e3b8a117323b7e677ea823f4f544f2db8e210b22fb46511942efeb37b6d", func := "offertory/offertorylaw03.GroupOrders", spec := "groupOrders", unfollowed := true, recurses := true, apart := false }
def GroupOrdersSaid : Prop := groupOrdersRow.holds Try.pinned (OpenSpec.ofChange groupOrdersSpec)

/-- ITS FALSE NEIGHBOUR: 'it returns false'. Refute it at one input. -/
def groupOrdersWrong : ChangeSpec := { name := "groupOrders", fn := fun _ => fun
  | [d1, d2] => { results := [.lit (.bool false)], args := [d1, d2] }
  | _ => none }
def GroupOrdersWrongFalsely : Prop := groupOrdersRow.holds Try.pinned (OpenSpec.ofChange groupOrdersWrong)

/-- 'offertorylaw03.GroupPowers': WHATEVER THE INPUT: true; the input reads as it did. -/
def groupPowersSpec : ChangeSpec := { name := "groupPowers", fn := fun _ => fun
  | [d1, d2] => { results := [.lit (.bool true)], args := [d1, d2] }
  | _ => none }
def groupPowersRow : OpenClaim := { program := "ytcamniadkackdaa", sum := "045f4e3b8a117323b7e677ea823f4f544f2db8e210b22fb46511942efeb37b6d", func := "offertory/offertorylaw03.GroupPowers", spec := "groupPowers", unfollowed := true, recurses := true, apart := false }
def GroupPowersSaid : Prop := groupPowersRow.holds Try.pinned (OpenSpec.ofChange groupPowersSpec)

/-- ITS FALSE NEIGHBOUR: 'it returns false'. Refute it at one input. -/
def groupPowersWrong : ChangeSpec := { name := "groupPowers", fn := fun _ => fun
  | [d1, d2] => { results := [.lit (.bool false)], args := [d1, d2] }
  | _ => none }
def GroupPowersWrongFalsely : Prop := groupPowersRow.holds Try.pinned (OpenSpec.ofChange groupPowersWrong)

/- THE SECOND FORM. 'bulk': how many values and letters a reading holds, each counted each time it is reached (what is shared counts as often as it is met; a slice's spare places count too). A statement '..UptoSaid' is the law's where the arguments, and the package variables that the reading takes, are together of bulk at most 1048576: NARROWER than '..Said'. Prove '..Said' where nothing that the law and all that it calls make is longer than what came in: it says more and counts as full. Else prove '..UptoSaid'. A law counts once. -/
mutual
def uptoBulk {H : Type} : DataW H → Nat
  | .lit (.string bytes) => bytes.length + 1
  | .lit _ => 1
  | .nil => 1
  | .ptr d => uptoBulk d + 1
  | .slice elems spare => uptoBulkAll elems + uptoBulkAll spare + 1
  | .agg parts => uptoBulkAll parts + 1
  | .iface _ d => uptoBulk d + 1
  | .map entries => uptoBulkEntries entries + 1
  | .held _ => 1
def uptoBulkAll {H : Type} : List (DataW H) → Nat
  | [] => 0
  | d :: r => uptoBulk d + uptoBulkAll r
def uptoBulkEntries {H : Type} : List (Lit × DataW H) → Nat
  | [] => 0
  | x :: r => uptoBulkEntry x + uptoBulkEntries r
def uptoBulkEntry {H : Type} : Lit × DataW H → Nat
  | (.string bytes, d) => bytes.length + uptoBulk d + 1
  | (_, d) => uptoBulk d + 1
 end
def uptoSmall : (H : Type) → List (DataW H) → Bool := fun _ ds => decide (uptoBulkAll ds ≤ 1048576)
def OpenSpec.upto (s : _root_.Go.ChangeSpec) : _root_.Go.OpenSpec := { _root_.Go.OpenSpec.ofChange s with cond := some uptoSmall }

/-- 'offertorylaw01.PrimeSums', WHERE WHAT IT READS IS OF BULK AT MOST 1048576: true; the input reads as it did. -/
def primeSumsUptoRow : OpenClaim := { program := "ytcamniadkackdaa", sum := "045f4e3b8a117323b7e677ea823f4f544f2db8e210b22fb46511942efeb37b6d", func := "offertory/offertorylaw01.PrimeSums", spec := "primeSums", unfollowed := true, recurses := true, apart := false, narrowed := true }
def PrimeSumsUptoSaid : Prop := primeSumsUptoRow.holds Try.pinned (OpenSpec.upto primeSumsSpec)

/-- 'offertorylaw01.PrimeProducts', WHERE WHAT IT READS IS OF BULK AT MOST 1048576: true; the input reads as it did. -/
def primeProductsUptoRow : OpenClaim := { program := "ytcamniadkackdaa", sum := "045f4e3b8a117323b7e677ea823f4f544f2db8e210b22fb46511942efeb37b6d", func := "offertory/offertorylaw01.PrimeProducts", spec := "primeProducts", unfollowed := true, recurses := true, apart := false, narrowed := true }
def PrimeProductsUptoSaid : Prop := primeProductsUptoRow.holds Try.pinned (OpenSpec.upto primeProductsSpec)

/-- 'offertorylaw01.PrimePowers', WHERE WHAT IT READS IS OF BULK AT MOST 1048576: true; the input reads as it did. -/
def primePowersUptoRow : OpenClaim := { program := "ytcamniadkackdaa", sum := "045f4e3b8a117323b7e677ea823f4f544f2db8e210b22fb46511942efeb37b6d", func := "offertory/offertorylaw01.PrimePowers", spec := "primePowers", unfollowed := true, recurses := true, apart := false, narrowed := true }
def PrimePowersUptoSaid : Prop := primePowersUptoRow.holds Try.pinned (OpenSpec.upto primePowersSpec)

/-- 'offertorylaw01.PrimeTurns', WHERE WHAT IT READS IS OF BULK AT MOST 1048576: true; the input reads as it did. -/
def primeTurnsUptoRow : OpenClaim := { program := "ytcamniadkackdaa", sum := "045f4e3b8a117323b7e677ea823f4f544f2db8e210b22fb46511942efeb37b6d", func := "offertory/offertorylaw01.PrimeTurns", spec := "primeTurns", unfollowed := true, recurses := true, apart := false, narrowed := true }
def PrimeTurnsUptoSaid : Prop := primeTurnsUptoRow.holds Try.pinned (OpenSpec.upto primeTurnsSpec)

/-- 'offertorylaw01.PrimeParts', WHERE WHAT IT READS IS OF BULK AT MOST 1048576: true; the input reads as it did. -/
def primePartsUptoRow : OpenClaim := { program := "ytcamniadkackdaa", sum := "045f4e3b8a117323b7e677ea823f4f544f2db8e210b22fb46511942efeb37b6d", func := "offertory/offertorylaw01.PrimeParts", spec := "primeParts", unfollowed := true, recurses := true, apart := false, narrowed := true }
def PrimePartsUptoSaid : Prop := primePartsUptoRow.holds Try.pinned (OpenSpec.upto primePartsSpec)

/-- 'offertorylaw01.PrimeZero', WHERE WHAT IT READS IS OF BULK AT MOST 1048576: true; the input reads as it did. -/
def primeZeroUptoRow : OpenClaim := { program := "ytcamniadkackdaa", sum := "045f4e3b8a117323b7e677ea823f4f544f2db8e210b22fb46511942efeb37b6d", func := "offertory/offertorylaw01.PrimeZero", spec := "primeZero", unfollowed := true, recurses := true, apart := false, narrowed := true }
def PrimeZeroUptoSaid : Prop := primeZeroUptoRow.holds Try.pinned (OpenSpec.upto primeZeroSpec)

/-- 'offertorylaw03.GroupPublics', WHERE WHAT IT READS IS OF BULK AT MOST 1048576: true; the input reads as it did. -/
def groupPublicsUptoRow : OpenClaim := { program := "ytcamniadkackdaa", sum := "045f4e3b8a117323b7e677ea823f4f544f2db8e210b22fb46511942efeb37b6d", func := "offertory/offertorylaw03.GroupPublics", spec := "groupPublics", unfollowed := true, recurses := true, apart := false, narrowed := true }
def GroupPublicsUptoSaid : Prop := groupPublicsUptoRow.holds Try.pinned (OpenSpec.upto groupPublicsSpec)

/-- 'offertorylaw03.GroupAgrees', WHERE WHAT IT READS IS OF BULK AT MOST 1048576: true; the input reads as it did. -/
def groupAgreesUptoRow : OpenClaim := { program := "ytcamniadkackdaa", sum := "045f4e3b8a117323b7e677ea823f4f544f2db8e210b22fb46511942efeb37b6d", func := "offertory/offertorylaw03.GroupAgrees", spec := "groupAgrees", unfollowed := true, recurses := true, apart := false, narrowed := true }
def GroupAgreesUptoSaid : Prop := groupAgreesUptoRow.holds Try.pinned (OpenSpec.upto groupAgreesSpec)

/-- 'offertorylaw03.GroupOrders', WHERE WHAT IT READS IS OF BULK AT MOST 1048576: true; the input reads as it did. -/
def groupOrdersUptoRow : OpenClaim := { program := "ytcamniadkackdaa", sum := "045f4e3b8a117323b7e677ea823f4f544f2db8e210b22fb46511942efeb37b6d", func := "offertory/offertorylaw03.GroupOrders", spec := "groupOrders", unfollowed := true, recurses := true, apart := false, narrowed := true }
def GroupOrdersUptoSaid : Prop := groupOrdersUptoRow.holds Try.pinned (OpenSpec.upto groupOrdersSpec)

/-- 'offertorylaw03.GroupPowers', WHERE WHAT IT READS IS OF BULK AT MOST 1048576: true; the input reads as it did. -/
def groupPowersUptoRow : OpenClaim := { program := "ytcamniadkackdaa", sum := "045f4e3b8a117323b7e677ea823f4f544f2db8e210b22fb46511942efeb37b6d", func := "offertory/offertorylaw03.GroupPowers", spec := "groupPowers", unfollowed := true, recurses := true, apart := false, narrowed := true }
def GroupPowersUptoSaid : Prop := groupPowersUptoRow.holds Try.pinned (OpenSpec.upto groupPowersSpec)

end Rows
end Go.Proofs.Ytcamniadkackdaa
