/-
  No cell of these rows narrows 'for every input' (looked for: loops, veiled, ifaces, maps, wideKeys, modest, calm, conditions, laid).
  DERIVED. THE GIVEN ROWS OF THIS SEAT. 5 by the template 'for every input the law returns true; each argument reads behind the call as it read before'; 0 by the template 'total and deterministic' (their statements: YtfjhmbgckmhdaaaTotals.lean).
  GIVEN WITH THE SEED: the statements are not yours to turn. If you find one false, say at which input.
  Laid BY PROGRAM, IN A SANDBOX (cutbox-rows.mjs): the forced cells as the released guide's own fill.sh prints them over the translation d2b055e44740e0c6… (all of the seat's roots in one cut). By AI agents, Wed Nov 11 2026. No macro, syntax, notation, axiom, sorry.
-/
import Derived.Test.YtfjhmbgckmhdaaaChecked
import GoSem.Claim
import GoSem.ClaimJoined
import GoSem.ClaimMapViews
import Derived.JoinedTies
import Derived.KernelRfl
namespace Go.Proofs.Ytfjhmbgckmhdaaa
/- THE CELL 'sum', in the pinned program and in every row, IS THE sha256 OF THE DUMP (.gsa) THAT YtfjhmbgckmhdaaaProg.lean LOADS. Nothing in Lean hashes anything: it is a label: what it is worth is what the hold of that sum in a sandbox is worth. -/
noncomputable def Try.pinned : Pinned := { name := "ytfjhmbgckmhdaaa", sum := "d2b055e44740e0c639510091f9b203283a92f204721556fe430bda29286aaa50", checked := Try.checked }
namespace Rows
def none {H : Type} : Left H := { results := [], args := [] }

/-- 'hamperlaw12.InflateAll': WHATEVER THE INPUT: true; the input reads as it did. -/
def inflateAllSpec : ChangeSpec := { name := "inflateAll", fn := fun _ => fun
  | [d1, d2] => { results := [.lit (.bool true)], args := [d1, d2] }
  | _ => none }
def inflateAllRow : OpenClaim := { program := "ytfjhmbgckmhdaaa", sum := "d2b055e44740e0c639510091f9b203283a92f204721556fe430bda29286aaa50", func := "hamper/hamperlaw12.InflateAll", spec := "inflateAll", unfollowed := true, recurses := true, apart := false }
def InflateAllSaid : Prop := inflateAllRow.holds Try.pinned (OpenSpec.ofChange inflateAllSpec)

/-- ITS FALSE NEIGHBOUR: 'it returns false'. Refute it at one input. -/
def inflateAllWrong : ChangeSpec := { name := "inflateAll", fn := fun _ => fun
  | [d1, d2] => { results := [.lit (.bool false)], args := [d1, d2] }
  | _ => none }
def InflateAllWrongFalsely : Prop := inflateAllRow.holds Try.pinned (OpenSpec.ofChange inflateAllWrong)

/-- 'hamperlaw12.InflateEnds': WHATEVER THE INPUT: true; the input reads as it did. -/
def inflateEndsSpec : ChangeSpec := { name := "inflateEnds", fn := fun _ => fun
  | [d1, d2, d3] => { results := [.lit (.bool true)], args := [d1, d2, d3] }
  | _ => none }
def inflateEndsRow : OpenClaim := { program := "ytfjhmbgckmhdaaa", sum := "d2b055e44740e0c639510091f9b203283a92f204721556fe430bda29286aaa50", func := "hamper/hamperlaw12.InflateEnds", spec := "inflateEnds", unfollowed := true, recurses := true, apart := false }
def InflateEndsSaid : Prop := inflateEndsRow.holds Try.pinned (OpenSpec.ofChange inflateEndsSpec)

/-- ITS FALSE NEIGHBOUR: 'it returns false'. Refute it at one input. -/
def inflateEndsWrong : ChangeSpec := { name := "inflateEnds", fn := fun _ => fun
  | [d1, d2, d3] => { results := [.lit (.bool false)], args := [d1, d2, d3] }
  | _ => none }
def InflateEndsWrongFalsely : Prop := inflateEndsRow.holds Try.pinned (OpenSpec.ofChange inflateEndsWrong)

/-- 'hamperlaw12.InflateStored': WHATEVER THE INPUT: true; the input reads as it did. -/
def inflateStoredSpec : ChangeSpec := { name := "inflateStored", fn := fun _ => fun
  | [d1, d2] => { results := [.lit (.bool true)], args := [d1, d2] }
  | _ => none }
def inflateStoredRow : OpenClaim := { program := "ytfjhmbgckmhdaaa", sum := "d2b055e44740e0c639510091f9b203283a92f204721556fe430bda29286aaa50", func := "hamper/hamperlaw12.InflateStored", spec := "inflateStored", unfollowed := true, recurses := true, apart := false }
def InflateStoredSaid : Prop := inflateStoredRow.holds Try.pinned (OpenSpec.ofChange inflateStoredSpec)

/-- ITS FALSE NEIGHBOUR: 'it returns false'. Refute it at one input. -/
def inflateStoredWrong : ChangeSpec := { name := "inflateStored", fn := fun _ => fun
  | [d1, d2] => { results := [.lit (.bool false)], args := [d1, d2] }
  | _ => none }
def InflateStoredWrongFalsely : Prop := inflateStoredRow.holds Try.pinned (OpenSpec.ofChange inflateStoredWrong)

/-- 'hamperlaw12.InflateGrows': WHATEVER THE INPUT: true; the input reads as it did. -/
def inflateGrowsSpec : ChangeSpec := { name := "inflateGrows", fn := fun _ => fun
  | [d1, d2] => { results := [.lit (.bool true)], args := [d1, d2] }
  | _ => none }
def inflateGrowsRow : OpenClaim := { program := "ytfjhmbgckmhdaaa", sum := "d2b055e44740e0c639510091f9b203283a92f204721556fe430bda29286aaa50", func := "hamper/hamperlaw12.InflateGrows", spec := "inflateGrows", unfollowed := true, recurses := true, apart := false }
def InflateGrowsSaid : Prop := inflateGrowsRow.holds Try.pinned (OpenSpec.ofChange inflateGrowsSpec)

/-- ITS FALSE NEIGHBOUR: 'it returns false'. Refute it at one input. -/
def inflateGrowsWrong : ChangeSpec := { name := "inflateGrows", fn := fun _ => fun
  | [d1, d2] => { results := [.lit (.bool false)], args := [d1, d2] }
  | _ => none }
def InflateGrowsWrongFalsely : Prop := inflateGrowsRow.holds Try.pinned (OpenSpec.ofChange inflateGrowsWrong)

/-- 'hamperlaw12.InflateTables': WHATEVER THE INPUT: true; the input reads as it did. -/
def inflateTablesSpec : ChangeSpec := { name := "inflateTables", fn := fun _ => fun
  | [d1, d2] => { results := [.lit (.bool true)], args := [d1, d2] }
  | _ => none }
def inflateTablesRow : OpenClaim := { program := "ytfjhmbgckmhdaaa", sum := "d2b055e44740e0c639510091f9b203283a92f204721556fe430bda29286aaa50", func := "hamper/hamperlaw12.InflateTables", spec := "inflateTables", unfollowed := true, recurses := true, apart := false }
def InflateTablesSaid : Prop := inflateTablesRow.holds Try.pinned (OpenSpec.ofChange inflateTablesSpec)

/-- ITS FALSE NEIGHBOUR: 'it returns false'. Refute it at one input. -/
def inflateTablesWrong : ChangeSpec := { name := "inflateTables", fn := fun _ => fun
  | [d1, d2] => { results := [.lit (.bool false)], args := [d1, d2] }
  | _ => none }
def InflateTablesWrongFalsely : Prop := inflateTablesRow.holds Try.pinned (OpenSpec.ofChange inflateTablesWrong)

/- THE SECOND FORM. 'bulk': how many values and letters a reading holds, each counted each time it is reached (what is shared counts as often as it is met; a slice's spare places count too). A statement '..UptoSaid' is the law's where the arguments, and the package variables that the reading takes, are together of bulk at most 1048576: NARROWER than '..Said'. Prove '..Said' where nothing that the law and all that it calls make is longer than what came in: it says more and counts as full. Else prove '..UptoSaid'. A law counts once. -/
mutual
def uptoBulk {H : Type} : DataW H → Nat
  | .lit (.string bytes) => bytes.length + 1
  | .lit _ => 1
  | .nil => 1
  | .ptr d => uptoBulk d + 1
  | .slice elems spare => uptoBulkAll elems + uptoBulkAll spare + 1
  | .agg parts => uptoBulkAll parts + 1
  | .iface _ d => uptoBulk d + 1
  | .map entries => uptoBulkEntries entries + 1
  | .held _ => 1
def uptoBulkAll {H : Type} : List (DataW H) → Nat
  | [] => 0
  | d :: r => uptoBulk d + uptoBulkAll r
def uptoBulkEntries {H : Type} : List (Lit × DataW H) → Nat
  | [] => 0
  | x :: r => uptoBulkEntry x + uptoBulkEntries r
def uptoBulkEntry {H : Type} : Lit × DataW H → Nat
  | (.string bytes, d) => bytes.length + uptoBulk d + 1
  | (_, d) => uptoBulk d + 1
 end
def uptoSmall : (H : Type) → List (DataW H) → Bool := fun _ ds => decide (uptoBulkAll ds ≤ 1048576)
def OpenSpec.upto (s : _root_.Go.ChangeSpec) : _root_.Go.OpenSpec := { _root_.Go.OpenSpec.ofChange s with cond := some uptoSmall }

/-- 'hamperlaw12.InflateAll', WHERE WHAT IT READS IS OF BULK AT MOST 1048576: true; the input reads as it did. -/
def inflateAllUptoRow : OpenClaim := { program := "ytfjhmbgckmhdaaa", sum := "d2b055e44740e0c639510091f9b203283a92f204721556fe430bda29286aaa50", func := "hamper/hamperlaw12.InflateAll", spec := "inflateAll", unfollowed := true, recurses := true, apart := false, narrowed := true }
def InflateAllUptoSaid : Prop := inflateAllUptoRow.holds Try.pinned (OpenSpec.upto inflateAllSpec)

/-- 'hamperlaw12.InflateEnds', WHERE WHAT IT READS IS OF BULK AT MOST 1048576: true; the input reads as it did. -/
def inflateEndsUptoRow : OpenClaim := { program := "ytfjhmbgckmhdaaa", sum := "d2b055e44740e0c639510091f9b203283a92f204721556fe430bda29286aaa50", func := "hamper/hamperlaw12.InflateEnds", spec := "inflateEnds", unfollowed := true, recurses := true, apart := false, narrowed := true }
def InflateEndsUptoSaid : Prop := inflateEndsUptoRow.holds Try.pinned (OpenSpec.upto inflateEndsSpec)

/-- 'hamperlaw12.InflateStored', WHERE WHAT IT READS IS OF BULK AT MOST 1048576: true; the input reads as it did. -/
def inflateStoredUptoRow : OpenClaim := { program := "ytfjhmbgckmhdaaa", sum := "d2b055e44740e0c639510091f9b203283a92f204721556fe430bda29286aaa50", func := "hamper/hamperlaw12.InflateStored", spec := "inflateStored", unfollowed := true, recurses := true, apart := false, narrowed := true }
def InflateStoredUptoSaid : Prop := inflateStoredUptoRow.holds Try.pinned (OpenSpec.upto inflateStoredSpec)

/-- 'hamperlaw12.InflateGrows', WHERE WHAT IT READS IS OF BULK AT MOST 1048576: true; the input reads as it did. -/
def inflateGrowsUptoRow : OpenClaim := { program := "ytfjhmbgckmhdaaa", sum := "d2b055e44740e0c639510091f9b203283a92f204721556fe430bda29286aaa50", func := "hamper/hamperlaw12.InflateGrows", spec := "inflateGrows", unfollowed := true, recurses := true, apart := false, narrowed := true }
def InflateGrowsUptoSaid : Prop := inflateGrowsUptoRow.holds Try.pinned (OpenSpec.upto inflateGrowsSpec)

/-- 'hamperlaw12.InflateTables', WHERE WHAT IT READS IS OF BULK AT MOST 1048576: true; the input reads as it did. -/
def inflateTablesUptoRow : OpenClaim := { program := "ytfjhmbgckmhdaaa", sum := "d2b055e44740e0c639510091f9b203283a92f204721556fe430bda29286aaa50", func := "hamper/hamperlaw12.InflateTables", spec := "inflateTables", unfollowed := true, recurses := true, apart := false, narrowed := true }
def InflateTablesUptoSaid : Prop := inflateTablesUptoRow.holds Try.pinned (OpenSpec.upto inflateTablesSpec)

end Rows
end Go.Proofs.Ytfjhmbgckmhdaaa
