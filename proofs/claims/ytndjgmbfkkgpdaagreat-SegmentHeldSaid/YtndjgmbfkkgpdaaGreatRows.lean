/-
  No cell of these rows narrows 'for every input' (looked for: loops, veiled, ifaces, maps, wideKeys, modest, calm, conditions, laid).
  DERIVED. THE GIVEN ROWS OF THIS SEAT. 3 by the template 'for every input the law returns true; each argument reads behind the call as it read before'; 0 by the template 'total and deterministic' (their statements: YtndjgmbfkkgpdaaGreatTotals.lean).
  GIVEN WITH THE SEED: the statements are not yours to turn. If you find one false, say at which input.
  Laid BY PROGRAM, IN A SANDBOX (cutbox-rows.mjs): the forced cells as the released guide's own fill.sh prints them over the translation 0f1d67d29e3887ed… (all of the seat's roots in one cut). By AI agents, Wed Nov 11 2026. No macro, syntax, notation, axiom, sorry.
-/
import Derived.Test.YtndjgmbfkkgpdaaGreatChecked
import GoSem.Claim
import GoSem.ClaimJoined
import GoSem.ClaimMapViews
import Derived.JoinedTies
import Derived.KernelRfl
namespace Go.Proofs.YtndjgmbfkkgpdaaGreat
/- THE CELL 'sum', in the pinned program and in every row, IS THE sha256 OF THE DUMP (.gsa) THAT YtndjgmbfkkgpdaaGreatProg.lean LOADS. Nothing in Lean hashes anything: it is a label: what it is worth is what the hold of that sum in a sandbox is worth. -/
noncomputable def Tryz.pinned : Pinned := { name := "ytndjgmbfkkgpdaagreat", sum := "0f1d67d29e3887ed0bf2fcc66a9b79e40781b01a028a57e9ccda0f6d7614ca40", checked := Tryz.checked }
namespace Rows
def none {H : Type} : Left H := { results := [], args := [] }

/-- 'hamperlaw14.SegmentBuilds': WHATEVER THE INPUT: true; the input reads as it did. -/
def segmentBuildsSpec : ChangeSpec := { name := "segmentBuilds", fn := fun _ => fun
  | [d] => { results := [.lit (.bool true)], args := [d] }
  | _ => none }
def segmentBuildsRow : OpenClaim := { program := "ytndjgmbfkkgpdaagreat", sum := "0f1d67d29e3887ed0bf2fcc66a9b79e40781b01a028a57e9ccda0f6d7614ca40", func := "hamper/hamperlaw14.SegmentBuilds", spec := "segmentBuilds", unfollowed := true, recurses := true, plainKeys := false, apart := false }
def SegmentBuildsSaid : Prop := segmentBuildsRow.holds Tryz.pinned (OpenSpec.ofChange segmentBuildsSpec)

/-- ITS FALSE NEIGHBOUR: 'it returns false'. Refute it at one input. -/
def segmentBuildsWrong : ChangeSpec := { name := "segmentBuilds", fn := fun _ => fun
  | [d] => { results := [.lit (.bool false)], args := [d] }
  | _ => none }
def SegmentBuildsWrongFalsely : Prop := segmentBuildsRow.holds Tryz.pinned (OpenSpec.ofChange segmentBuildsWrong)

/-- 'hamperlaw14.SegmentHeld': WHATEVER THE INPUT: true; the input reads as it did. -/
def segmentHeldSpec : ChangeSpec := { name := "segmentHeld", fn := fun _ => fun
  | [d1, d2, d3] => { results := [.lit (.bool true)], args := [d1, d2, d3] }
  | _ => none }
def segmentHeldRow : OpenClaim := { program := "ytndjgmbfkkgpdaagreat", sum := "0f1d67d29e3887ed0bf2fcc66a9b79e40781b01a028a57e9ccda0f6d7614ca40", func := "hamper/hamperlaw14.SegmentHeld", spec := "segmentHeld", unfollowed := true, recurses := true, plainKeys := false, apart := false }
def SegmentHeldSaid : Prop := segmentHeldRow.holds Tryz.pinned (OpenSpec.ofChange segmentHeldSpec)

/-- ITS FALSE NEIGHBOUR: 'it returns false'. Refute it at one input. -/
def segmentHeldWrong : ChangeSpec := { name := "segmentHeld", fn := fun _ => fun
  | [d1, d2, d3] => { results := [.lit (.bool false)], args := [d1, d2, d3] }
  | _ => none }
def SegmentHeldWrongFalsely : Prop := segmentHeldRow.holds Tryz.pinned (OpenSpec.ofChange segmentHeldWrong)

/-- 'hamperlaw14.SegmentBack': WHATEVER THE INPUT: true; the input reads as it did. -/
def segmentBackSpec : ChangeSpec := { name := "segmentBack", fn := fun _ => fun
  | [d] => { results := [.lit (.bool true)], args := [d] }
  | _ => none }
def segmentBackRow : OpenClaim := { program := "ytndjgmbfkkgpdaagreat", sum := "0f1d67d29e3887ed0bf2fcc66a9b79e40781b01a028a57e9ccda0f6d7614ca40", func := "hamper/hamperlaw14.SegmentBack", spec := "segmentBack", unfollowed := true, recurses := true, plainKeys := false, apart := false }
def SegmentBackSaid : Prop := segmentBackRow.holds Tryz.pinned (OpenSpec.ofChange segmentBackSpec)

/-- ITS FALSE NEIGHBOUR: 'it returns false'. Refute it at one input. -/
def segmentBackWrong : ChangeSpec := { name := "segmentBack", fn := fun _ => fun
  | [d] => { results := [.lit (.bool false)], args := [d] }
  | _ => none }
def SegmentBackWrongFalsely : Prop := segmentBackRow.holds Tryz.pinned (OpenSpec.ofChange segmentBackWrong)

/- THE SECOND FORM. 'bulk': how many values and letters a reading holds, each counted each time it is reached (what is shared counts as often as it is met; a slice's spare places count too). A statement '..UptoSaid' is the law's where the arguments, and the package variables that the reading takes, are together of bulk at most 1048576: NARROWER than '..Said'. Prove '..Said' where nothing that the law and all that it calls make is longer than what came in: it says more and counts as full. Else prove '..UptoSaid'. A law counts once. -/
mutual
def uptoBulk {H : Type} : DataW H → Nat
  | .lit (.string bytes) => bytes.length + 1
  | .lit _ => 1
  | .nil => 1
  | .ptr d => uptoBulk d + 1
  | .slice elems spare => uptoBulkAll elems + uptoBulkAll spare + 1
  | .agg parts => uptoBulkAll parts + 1
  | .iface _ d => uptoBulk d + 1
  | .map entries => uptoBulkEntries entries + 1
  | .held _ => 1
def uptoBulkAll {H : Type} : List (DataW H) → Nat
  | [] => 0
  | d :: r => uptoBulk d + uptoBulkAll r
def uptoBulkEntries {H : Type} : List (Lit × DataW H) → Nat
  | [] => 0
  | x :: r => uptoBulkEntry x + uptoBulkEntries r
def uptoBulkEntry {H : Type} : Lit × DataW H → Nat
  | (.string bytes, d) => bytes.length + uptoBulk d + 1
  | (_, d) => uptoBulk d + 1
 end
def uptoSmall : (H : Type) → List (DataW H) → Bool := fun _ ds => decide (uptoBulkAll ds ≤ 1048576)
def OpenSpec.upto (s : _root_.Go.ChangeSpec) : _root_.Go.OpenSpec := { _root_.Go.OpenSpec.ofChange s with cond := some uptoSmall }

/-- 'hamperlaw14.SegmentBuilds', WHERE WHAT IT READS IS OF BULK AT MOST 1048576: true; the input reads as it did. -/
def segmentBuildsUptoRow : OpenClaim := { program := "ytndjgmbfkkgpdaagreat", sum := "0f1d67d29e3887ed0bf2fcc66a9b79e40781b01a028a57e9ccda0f6d7614ca40", func := "hamper/hamperlaw14.SegmentBuilds", spec := "segmentBuilds", unfollowed := true, recurses := true, plainKeys := false, apart := false, narrowed := true }
def SegmentBuildsUptoSaid : Prop := segmentBuildsUptoRow.holds Tryz.pinned (OpenSpec.upto segmentBuildsSpec)

/-- 'hamperlaw14.SegmentHeld', WHERE WHAT IT READS IS OF BULK AT MOST 1048576: true; the input reads as it did. -/
def segmentHeldUptoRow : OpenClaim := { program := "ytndjgmbfkkgpdaagreat", sum := "0f1d67d29e3887ed0bf2fcc66a9b79e40781b01a028a57e9ccda0f6d7614ca40", func := "hamper/hamperlaw14.SegmentHeld", spec := "segmentHeld", unfollowed := true, recurses := true, plainKeys := false, apart := false, narrowed := true }
def SegmentHeldUptoSaid : Prop := segmentHeldUptoRow.holds Tryz.pinned (OpenSpec.upto segmentHeldSpec)

/-- 'hamperlaw14.SegmentBack', WHERE WHAT IT READS IS OF BULK AT MOST 1048576: true; the input reads as it did. -/
def segmentBackUptoRow : OpenClaim := { program := "ytndjgmbfkkgpdaagreat", sum := "0f1d67d29e3887ed0bf2fcc66a9b79e40781b01a028a57e9ccda0f6d7614ca40", func := "hamper/hamperlaw14.SegmentBack", spec := "segmentBack", unfollowed := true, recurses := true, plainKeys := false, apart := false, narrowed := true }
def SegmentBackUptoSaid : Prop := segmentBackUptoRow.holds Tryz.pinned (OpenSpec.upto segmentBackSpec)

end Rows
end Go.Proofs.YtndjgmbfkkgpdaaGreat
