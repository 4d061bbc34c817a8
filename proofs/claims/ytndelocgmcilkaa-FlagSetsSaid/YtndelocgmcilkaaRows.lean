/-
  No cell of these rows narrows 'for every input' (looked for: loops, veiled, ifaces, maps, wideKeys, modest, calm, conditions, laid).
  DERIVED. THE GIVEN ROWS OF THIS SEAT. 4 by the template 'for every input the law returns true; each argument reads behind the call as it read before'; 0 by the template 'total and deterministic' (their statements: YtndelocgmcilkaaTotals.lean).
  GIVEN WITH THE SEED: the statements are not yours to turn. If you find one false, say at which input.
  Laid BY PROGRAM, IN A SANDBOX (cutbox-rows.mjs): the forced cells as the released guide's own fill.sh prints them over the translation 869b4d1c736c56b3… (all of the seat's roots in one cut). By AI agents, Wed Nov 11 2026. No macro, syntax, notation, axiom, sorry.
-/
import Derived.Test.YtndelocgmcilkaaChecked
import GoSem.Claim
import GoSem.ClaimJoined
import GoSem.ClaimMapViews
import Derived.JoinedTies
import Derived.KernelRfl
namespace Go.Proofs.Ytndelocgmcilkaa
/- THE CELL 'sum', in the pinned program and in every row, IS THE sha256 OF THE DUMP (.gsa) THAT YtndelocgmcilkaaProg.lean LOADS. Nothing in Lean hashes anything: it is a label: what it is worth is what the hold of that sum in a sandbox is worth. -/
noncomputable def Try.pinned : Pinned := { name := "ytndelocgmcilkaa", sum := "869b4d1c736c56b3a231e23e3740cfc769256068d13ccb324d582786db8e14e5", checked := Try.checked }
namespace Rows
def none {H : Type} : Left H := { results := [], args := [] }

/-- 'hamperlaw24.FlagChanges': WHATEVER THE INPUT: true; the input reads as it did. -/
def flagChangesSpec : ChangeSpec := { name := "flagChanges", fn := fun _ => fun
  | [d1, d2, d3] => { results := [.lit (.bool true)], args := [d1, d2, d3] }
  | _ => none }
def flagChangesRow : OpenClaim := { program := "ytndelocgmcilkaa", sum := "869b4d1c736c56b3a231e23e3740cfc769256068d13ccb324d582786db8e14e5", func := "hamper/hamperlaw24.FlagChanges", spec := "flagChanges", unfollowed := true, recurses := true, apart := false }
def FlagChangesSaid : Prop := flagChangesRow.holds Try.pinned (OpenSpec.ofChange flagChangesSpec)

/-- ITS FALSE NEIGHBOUR: 'it returns false'. Refute it at one input. -/
def flagChangesWrong : ChangeSpec := { name := "flagChanges", fn := fun _ => fun
  | [d1, d2, d3] => { results := [.lit (.bool false)], args := [d1, d2, d3] }
  | _ => none }
def FlagChangesWrongFalsely : Prop := flagChangesRow.holds Try.pinned (OpenSpec.ofChange flagChangesWrong)

/-- 'hamperlaw24.FlagOrder': WHATEVER THE INPUT: true; the input reads as it did. -/
def flagOrderSpec : ChangeSpec := { name := "flagOrder", fn := fun _ => fun
  | [d1, d2] => { results := [.lit (.bool true)], args := [d1, d2] }
  | _ => none }
def flagOrderRow : OpenClaim := { program := "ytndelocgmcilkaa", sum := "869b4d1c736c56b3a231e23e3740cfc769256068d13ccb324d582786db8e14e5", func := "hamper/hamperlaw24.FlagOrder", spec := "flagOrder", unfollowed := true, recurses := true, apart := false }
def FlagOrderSaid : Prop := flagOrderRow.holds Try.pinned (OpenSpec.ofChange flagOrderSpec)

/-- ITS FALSE NEIGHBOUR: 'it returns false'. Refute it at one input. -/
def flagOrderWrong : ChangeSpec := { name := "flagOrder", fn := fun _ => fun
  | [d1, d2] => { results := [.lit (.bool false)], args := [d1, d2] }
  | _ => none }
def FlagOrderWrongFalsely : Prop := flagOrderRow.holds Try.pinned (OpenSpec.ofChange flagOrderWrong)

/-- 'hamperlaw24.FlagKeeps': WHATEVER THE INPUT: true; the input reads as it did. -/
def flagKeepsSpec : ChangeSpec := { name := "flagKeeps", fn := fun _ => fun
  | [d1, d2, d3] => { results := [.lit (.bool true)], args := [d1, d2, d3] }
  | _ => none }
def flagKeepsRow : OpenClaim := { program := "ytndelocgmcilkaa", sum := "869b4d1c736c56b3a231e23e3740cfc769256068d13ccb324d582786db8e14e5", func := "hamper/hamperlaw24.FlagKeeps", spec := "flagKeeps", unfollowed := true, recurses := true, apart := false }
def FlagKeepsSaid : Prop := flagKeepsRow.holds Try.pinned (OpenSpec.ofChange flagKeepsSpec)

/-- ITS FALSE NEIGHBOUR: 'it returns false'. Refute it at one input. -/
def flagKeepsWrong : ChangeSpec := { name := "flagKeeps", fn := fun _ => fun
  | [d1, d2, d3] => { results := [.lit (.bool false)], args := [d1, d2, d3] }
  | _ => none }
def FlagKeepsWrongFalsely : Prop := flagKeepsRow.holds Try.pinned (OpenSpec.ofChange flagKeepsWrong)

/-- 'hamperlaw24.FlagSets': WHATEVER THE INPUT: true; the input reads as it did. -/
def flagSetsSpec : ChangeSpec := { name := "flagSets", fn := fun _ => fun
  | [d1, d2] => { results := [.lit (.bool true)], args := [d1, d2] }
  | _ => none }
def flagSetsRow : OpenClaim := { program := "ytndelocgmcilkaa", sum := "869b4d1c736c56b3a231e23e3740cfc769256068d13ccb324d582786db8e14e5", func := "hamper/hamperlaw24.FlagSets", spec := "flagSets", inPlace := ["internal/abi.NoEscape", "internal/bytealg.MakeNoZero"], unfollowed := true, recurses := true, apart := false }
def FlagSetsSaid : Prop := flagSetsRow.holds Try.pinned (OpenSpec.ofChange flagSetsSpec)

/-- ITS FALSE NEIGHBOUR: 'it returns false'. Refute it at one input. -/
def flagSetsWrong : ChangeSpec := { name := "flagSets", fn := fun _ => fun
  | [d1, d2] => { results := [.lit (.bool false)], args := [d1, d2] }
  | _ => none }
def FlagSetsWrongFalsely : Prop := flagSetsRow.holds Try.pinned (OpenSpec.ofChange flagSetsWrong)

/- THE SECOND FORM. 'bulk': how many values and letters a reading holds, each counted each time it is reached (what is shared counts as often as it is met; a slice's spare places count too). A statement '..UptoSaid' is the law's where the arguments, and the package variables that the reading takes, are together of bulk at most 1048576: NARROWER than '..Said'. Prove '..Said' where nothing that the law and all that it calls make is longer than what came in: it says more and counts as full. Else prove '..UptoSaid'. A law counts once. -/
mutual
def uptoBulk {H : Type} : DataW H → Nat
  | .lit (.string bytes) => bytes.length + 1
  | .lit _ => 1
  | .nil => 1
  | .ptr d => uptoBulk d + 1
  | .slice elems spare => uptoBulkAll elems + uptoBulkAll spare + 1
  | .agg parts => uptoBulkAll parts + 1
  | .iface _ d => uptoBulk d + 1
  | .map entries => uptoBulkEntries entries + 1
  | .held _ => 1
def uptoBulkAll {H : Type} : List (DataW H) → Nat
  | [] => 0
  | d :: r => uptoBulk d + uptoBulkAll r
def uptoBulkEntries {H : Type} : List (Lit × DataW H) → Nat
  | [] => 0
  | x :: r => uptoBulkEntry x + uptoBulkEntries r
def uptoBulkEntry {H : Type} : Lit × DataW H → Nat
  | (.string bytes, d) => bytes.length + uptoBulk d + 1
  | (_, d) => uptoBulk d + 1
 end
def uptoSmall : (H : Type) → List (DataW H) → Bool := fun _ ds => decide (uptoBulkAll ds ≤ 1048576)
def OpenSpec.upto (s : _root_.Go.ChangeSpec) : _root_.Go.OpenSpec := { _root_.Go.OpenSpec.ofChange s with cond := some uptoSmall }

/-- 'hamperlaw24.FlagChanges', WHERE WHAT IT READS IS OF BULK AT MOST 1048576: true; the input reads as it did. -/
def flagChangesUptoRow : OpenClaim := { program := "ytndelocgmcilkaa", sum := "869b4d1c736c56b3a231e23e3740cfc769256068d13ccb324d582786db8e14e5", func := "hamper/hamperlaw24.FlagChanges", spec := "flagChanges", unfollowed := true, recurses := true, apart := false, narrowed := true }
def FlagChangesUptoSaid : Prop := flagChangesUptoRow.holds Try.pinned (OpenSpec.upto flagChangesSpec)

/-- 'hamperlaw24.FlagOrder', WHERE WHAT IT READS IS OF BULK AT MOST 1048576: true; the input reads as it did. -/
def flagOrderUptoRow : OpenClaim := { program := "ytndelocgmcilkaa", sum := "869b4d1c736c56b3a231e23e3740cfc769256068d13ccb324d582786db8e14e5", func := "hamper/hamperlaw24.FlagOrder", spec := "flagOrder", unfollowed := true, recurses := true, apart := false, narrowed := true }
def FlagOrderUptoSaid : Prop := flagOrderUptoRow.holds Try.pinned (OpenSpec.upto flagOrderSpec)

/-- 'hamperlaw24.FlagKeeps', WHERE WHAT IT READS IS OF BULK AT MOST 1048576: true; the input reads as it did. -/
def flagKeepsUptoRow : OpenClaim := { program := "ytndelocgmcilkaa", sum := "869b4d1c736c56b3a231e23e3740cfc769256068d13ccb324d582786db8e14e5", func := "hamper/hamperlaw24.FlagKeeps", spec := "flagKeeps", unfollowed := true, recurses := true, apart := false, narrowed := true }
def FlagKeepsUptoSaid : Prop := flagKeepsUptoRow.holds Try.pinned (OpenSpec.upto flagKeepsSpec)

/-- 'hamperlaw24.FlagSets', WHERE WHAT IT READS IS OF BULK AT MOST 1048576: true; the input reads as it did. -/
def flagSetsUptoRow : OpenClaim := { program := "ytndelocgmcilkaa", sum := "869b4d1c736c56b3a231e23e3740cfc769256068d13ccb324d582786db8e14e5", func := "hamper/hamperlaw24.FlagSets", spec := "flagSets", inPlace := ["internal/abi.NoEscape", "internal/bytealg.MakeNoZero"], unfollowed := true, recurses := true, apart := false, narrowed := true }
def FlagSetsUptoSaid : Prop := flagSetsUptoRow.holds Try.pinned (OpenSpec.upto flagSetsSpec)

end Rows
end Go.Proofs.Ytndelocgmcilkaa
