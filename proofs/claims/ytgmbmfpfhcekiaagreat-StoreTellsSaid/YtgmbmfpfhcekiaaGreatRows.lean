/-
  No cell of these rows narrows 'for every input' (looked for: loops, veiled, ifaces, maps, wideKeys, modest, calm, conditions, laid).
  DERIVED. THE GIVEN ROWS OF THIS SEAT. 8 by the template 'for every input the law returns true; each argument reads behind the call as it read before'; 0 by the template 'total and deterministic' (their statements: YtgmbmfpfhcekiaaGreatTotals.lean).
  GIVEN WITH THE SEED: the statements are not yours to turn. If you find one false, say at which input.
  Laid BY PROGRAM, IN A SANDBOX (cutbox-rows.mjs): the forced cells as the released guide's own fill.sh prints them over the translation 67de6ec5c325a744… (all of the seat's roots in one cut). By AI agents, Wed Nov 11 2026. No macro, syntax, notation, axiom, sorry.
-/
import Derived.Test.YtgmbmfpfhcekiaaGreatChecked
import GoSem.Claim
import GoSem.ClaimJoined
import GoSem.ClaimMapViews
import Derived.JoinedTies
import Derived.KernelRfl
namespace Go.Proofs.YtgmbmfpfhcekiaaGreat
/- THE CELL 'sum', in the pinned program and in every row, IS THE sha256 OF THE DUMP (.gsa) THAT YtgmbmfpfhcekiaaGreatProg.lean LOADS. Nothing in Lean hashes anything: it is a label: what it is worth is what the hold of that sum in a sandbox is worth. -/
noncomputable def Tryz.pinned : Pinned := { name := "ytgmbmfpfhcekiaagreat", sum := "67de6ec5c325a744f33176761b19ce333018abae0e0a9027087ce4e7279902ca", checked := Tryz.checked }
namespace Rows
def none {H : Type} : Left H := { results := [], args := [] }

/-- 'hamperlaw27.StoreCreates': WHATEVER THE INPUT: true; the input reads as it did. -/
def storeCreatesSpec : ChangeSpec := { name := "storeCreates", fn := fun _ => fun
  | [d1, d2] => { results := [.lit (.bool true)], args := [d1, d2] }
  | _ => none }
def storeCreatesRow : OpenClaim := { program := "ytgmbmfpfhcekiaagreat", sum := "67de6ec5c325a744f33176761b19ce333018abae0e0a9027087ce4e7279902ca", func := "hamper/hamperlaw27.StoreCreates", spec := "storeCreates", inPlace := ["internal/bytealg.IndexByteString", "internal/bytealg.IndexString", "slices.overlaps[hamper/api.Named]"], unfollowed := true, recurses := true, named := ["internal/bytealg.MaxLen"], apart := false }
def StoreCreatesSaid : Prop := storeCreatesRow.holds Tryz.pinned (OpenSpec.ofChange storeCreatesSpec)

/-- ITS FALSE NEIGHBOUR: 'it returns false'. Refute it at one input. -/
def storeCreatesWrong : ChangeSpec := { name := "storeCreates", fn := fun _ => fun
  | [d1, d2] => { results := [.lit (.bool false)], args := [d1, d2] }
  | _ => none }
def StoreCreatesWrongFalsely : Prop := storeCreatesRow.holds Tryz.pinned (OpenSpec.ofChange storeCreatesWrong)

/-- 'hamperlaw27.StoreDeletes': WHATEVER THE INPUT: true; the input reads as it did. -/
def storeDeletesSpec : ChangeSpec := { name := "storeDeletes", fn := fun _ => fun
  | [d1, d2] => { results := [.lit (.bool true)], args := [d1, d2] }
  | _ => none }
def storeDeletesRow : OpenClaim := { program := "ytgmbmfpfhcekiaagreat", sum := "67de6ec5c325a744f33176761b19ce333018abae0e0a9027087ce4e7279902ca", func := "hamper/hamperlaw27.StoreDeletes", spec := "storeDeletes", inPlace := ["internal/bytealg.IndexByteString", "internal/bytealg.IndexString", "slices.overlaps[hamper/api.Named]"], unfollowed := true, recurses := true, named := ["internal/bytealg.MaxLen"], apart := false }
def StoreDeletesSaid : Prop := storeDeletesRow.holds Tryz.pinned (OpenSpec.ofChange storeDeletesSpec)

/-- ITS FALSE NEIGHBOUR: 'it returns false'. Refute it at one input. -/
def storeDeletesWrong : ChangeSpec := { name := "storeDeletes", fn := fun _ => fun
  | [d1, d2] => { results := [.lit (.bool false)], args := [d1, d2] }
  | _ => none }
def StoreDeletesWrongFalsely : Prop := storeDeletesRow.holds Tryz.pinned (OpenSpec.ofChange storeDeletesWrong)

/-- 'hamperlaw27.StoreMoves': WHATEVER THE INPUT: true; the input reads as it did. -/
def storeMovesSpec : ChangeSpec := { name := "storeMoves", fn := fun _ => fun
  | [d1, d2, d3] => { results := [.lit (.bool true)], args := [d1, d2, d3] }
  | _ => none }
def storeMovesRow : OpenClaim := { program := "ytgmbmfpfhcekiaagreat", sum := "67de6ec5c325a744f33176761b19ce333018abae0e0a9027087ce4e7279902ca", func := "hamper/hamperlaw27.StoreMoves", spec := "storeMoves", inPlace := ["internal/bytealg.IndexByteString", "internal/bytealg.IndexString", "slices.overlaps[hamper/api.Named]"], unfollowed := true, recurses := true, named := ["internal/bytealg.MaxLen"], apart := false }
def StoreMovesSaid : Prop := storeMovesRow.holds Tryz.pinned (OpenSpec.ofChange storeMovesSpec)

/-- ITS FALSE NEIGHBOUR: 'it returns false'. Refute it at one input. -/
def storeMovesWrong : ChangeSpec := { name := "storeMoves", fn := fun _ => fun
  | [d1, d2, d3] => { results := [.lit (.bool false)], args := [d1, d2, d3] }
  | _ => none }
def StoreMovesWrongFalsely : Prop := storeMovesRow.holds Tryz.pinned (OpenSpec.ofChange storeMovesWrong)

/-- 'hamperlaw27.StoreSubscribes': WHATEVER THE INPUT: true; the input reads as it did. -/
def storeSubscribesSpec : ChangeSpec := { name := "storeSubscribes", fn := fun _ => fun
  | [d1, d2, d3] => { results := [.lit (.bool true)], args := [d1, d2, d3] }
  | _ => none }
def storeSubscribesRow : OpenClaim := { program := "ytgmbmfpfhcekiaagreat", sum := "67de6ec5c325a744f33176761b19ce333018abae0e0a9027087ce4e7279902ca", func := "hamper/hamperlaw27.StoreSubscribes", spec := "storeSubscribes", inPlace := ["internal/bytealg.IndexByteString", "internal/bytealg.IndexString", "slices.overlaps[string]", "slices.overlaps[hamper/api.Named]"], unfollowed := true, recurses := true, named := ["internal/bytealg.MaxLen"], apart := false }
def StoreSubscribesSaid : Prop := storeSubscribesRow.holds Tryz.pinned (OpenSpec.ofChange storeSubscribesSpec)

/-- ITS FALSE NEIGHBOUR: 'it returns false'. Refute it at one input. -/
def storeSubscribesWrong : ChangeSpec := { name := "storeSubscribes", fn := fun _ => fun
  | [d1, d2, d3] => { results := [.lit (.bool false)], args := [d1, d2, d3] }
  | _ => none }
def StoreSubscribesWrongFalsely : Prop := storeSubscribesRow.holds Tryz.pinned (OpenSpec.ofChange storeSubscribesWrong)

/-- 'hamperlaw27.StoreTells': WHATEVER THE INPUT: true; the input reads as it did. -/
def storeTellsSpec : ChangeSpec := { name := "storeTells", fn := fun _ => fun
  | [d1, d2, d3] => { results := [.lit (.bool true)], args := [d1, d2, d3] }
  | _ => none }
def storeTellsRow : OpenClaim := { program := "ytgmbmfpfhcekiaagreat", sum := "67de6ec5c325a744f33176761b19ce333018abae0e0a9027087ce4e7279902ca", func := "hamper/hamperlaw27.StoreTells", spec := "storeTells", inPlace := ["internal/bytealg.IndexByteString", "internal/bytealg.IndexString", "slices.overlaps[hamper/api.Named]"], unfollowed := true, recurses := true, named := ["internal/bytealg.MaxLen"], apart := false }
def StoreTellsSaid : Prop := storeTellsRow.holds Tryz.pinned (OpenSpec.ofChange storeTellsSpec)

/-- ITS FALSE NEIGHBOUR: 'it returns false'. Refute it at one input. -/
def storeTellsWrong : ChangeSpec := { name := "storeTells", fn := fun _ => fun
  | [d1, d2, d3] => { results := [.lit (.bool false)], args := [d1, d2, d3] }
  | _ => none }
def StoreTellsWrongFalsely : Prop := storeTellsRow.holds Tryz.pinned (OpenSpec.ofChange storeTellsWrong)

/-- 'hamperlaw27.StoreLays': WHATEVER THE INPUT: true; the input reads as it did. -/
def storeLaysSpec : ChangeSpec := { name := "storeLays", fn := fun _ => fun
  | [d] => { results := [.lit (.bool true)], args := [d] }
  | _ => none }
def storeLaysRow : OpenClaim := { program := "ytgmbmfpfhcekiaagreat", sum := "67de6ec5c325a744f33176761b19ce333018abae0e0a9027087ce4e7279902ca", func := "hamper/hamperlaw27.StoreLays", spec := "storeLays", inPlace := ["internal/bytealg.IndexByteString", "internal/bytealg.IndexString", "slices.overlaps[hamper/api.Named]"], unfollowed := true, recurses := true, named := ["internal/bytealg.MaxLen"], apart := false }
def StoreLaysSaid : Prop := storeLaysRow.holds Tryz.pinned (OpenSpec.ofChange storeLaysSpec)

/-- ITS FALSE NEIGHBOUR: 'it returns false'. Refute it at one input. -/
def storeLaysWrong : ChangeSpec := { name := "storeLays", fn := fun _ => fun
  | [d] => { results := [.lit (.bool false)], args := [d] }
  | _ => none }
def StoreLaysWrongFalsely : Prop := storeLaysRow.holds Tryz.pinned (OpenSpec.ofChange storeLaysWrong)

/-- 'hamperlaw27.StoreNever': WHATEVER THE INPUT: true; the input reads as it did. -/
def storeNeverSpec : ChangeSpec := { name := "storeNever", fn := fun _ => fun
  | [d1, d2, d3] => { results := [.lit (.bool true)], args := [d1, d2, d3] }
  | _ => none }
def storeNeverRow : OpenClaim := { program := "ytgmbmfpfhcekiaagreat", sum := "67de6ec5c325a744f33176761b19ce333018abae0e0a9027087ce4e7279902ca", func := "hamper/hamperlaw27.StoreNever", spec := "storeNever", inPlace := ["internal/bytealg.IndexByteString", "internal/bytealg.IndexString", "slices.overlaps[hamper/api.Named]", "slices.overlaps[string]"], unfollowed := true, recurses := true, named := ["internal/bytealg.MaxLen"], apart := false }
def StoreNeverSaid : Prop := storeNeverRow.holds Tryz.pinned (OpenSpec.ofChange storeNeverSpec)

/-- ITS FALSE NEIGHBOUR: 'it returns false'. Refute it at one input. -/
def storeNeverWrong : ChangeSpec := { name := "storeNever", fn := fun _ => fun
  | [d1, d2, d3] => { results := [.lit (.bool false)], args := [d1, d2, d3] }
  | _ => none }
def StoreNeverWrongFalsely : Prop := storeNeverRow.holds Tryz.pinned (OpenSpec.ofChange storeNeverWrong)

/-- 'hamperlaw27.StoreBack': WHATEVER THE INPUT: true; the input reads as it did. -/
def storeBackSpec : ChangeSpec := { name := "storeBack", fn := fun _ => fun
  | [d1, d2, d3] => { results := [.lit (.bool true)], args := [d1, d2, d3] }
  | _ => none }
def storeBackRow : OpenClaim := { program := "ytgmbmfpfhcekiaagreat", sum := "67de6ec5c325a744f33176761b19ce333018abae0e0a9027087ce4e7279902ca", func := "hamper/hamperlaw27.StoreBack", spec := "storeBack", inPlace := ["internal/bytealg.IndexByteString", "internal/bytealg.IndexString", "slices.overlaps[hamper/api.Named]"], unfollowed := true, recurses := true, named := ["internal/bytealg.MaxLen"], apart := false }
def StoreBackSaid : Prop := storeBackRow.holds Tryz.pinned (OpenSpec.ofChange storeBackSpec)

/-- ITS FALSE NEIGHBOUR: 'it returns false'. Refute it at one input. -/
def storeBackWrong : ChangeSpec := { name := "storeBack", fn := fun _ => fun
  | [d1, d2, d3] => { results := [.lit (.bool false)], args := [d1, d2, d3] }
  | _ => none }
def StoreBackWrongFalsely : Prop := storeBackRow.holds Tryz.pinned (OpenSpec.ofChange storeBackWrong)

/- THE SECOND FORM. 'bulk': how many values and letters a reading holds, each counted each time it is reached (what is shared counts as often as it is met; a slice's spare places count too). A statement '..UptoSaid' is the law's where the arguments, and the package variables that the reading takes, are together of bulk at most 1048576: NARROWER than '..Said'. Prove '..Said' where nothing that the law and all that it calls make is longer than what came in: it says more and counts as full. Else prove '..UptoSaid'. A law counts once. -/
mutual
def uptoBulk {H : Type} : DataW H → Nat
  | .lit (.string bytes) => bytes.length + 1
  | .lit _ => 1
  | .nil => 1
  | .ptr d => uptoBulk d + 1
  | .slice elems spare => uptoBulkAll elems + uptoBulkAll spare + 1
  | .agg parts => uptoBulkAll parts + 1
  | .iface _ d => uptoBulk d + 1
  | .map entries => uptoBulkEntries entries + 1
  | .held _ => 1
def uptoBulkAll {H : Type} : List (DataW H) → Nat
  | [] => 0
  | d :: r => uptoBulk d + uptoBulkAll r
def uptoBulkEntries {H : Type} : List (Lit × DataW H) → Nat
  | [] => 0
  | x :: r => uptoBulkEntry x + uptoBulkEntries r
def uptoBulkEntry {H : Type} : Lit × DataW H → Nat
  | (.string bytes, d) => bytes.length + uptoBulk d + 1
  | (_, d) => uptoBulk d + 1
 end
def uptoSmall : (H : Type) → List (DataW H) → Bool := fun _ ds => decide (uptoBulkAll ds ≤ 1048576)
def OpenSpec.upto (s : _root_.Go.ChangeSpec) : _root_.Go.OpenSpec := { _root_.Go.OpenSpec.ofChange s with cond := some uptoSmall }

/-- 'hamperlaw27.StoreCreates', WHERE WHAT IT READS IS OF BULK AT MOST 1048576: true; the input reads as it did. -/
def storeCreatesUptoRow : OpenClaim := { program := "ytgmbmfpfhcekiaagreat", sum := "67de6ec5c325a744f33176761b19ce333018abae0e0a9027087ce4e7279902ca", func := "hamper/hamperlaw27.StoreCreates", spec := "storeCreates", inPlace := ["internal/bytealg.IndexByteString", "internal/bytealg.IndexString", "slices.overlaps[hamper/api.Named]"], unfollowed := true, recurses := true, named := ["internal/bytealg.MaxLen"], apart := false, narrowed := true }
def StoreCreatesUptoSaid : Prop := storeCreatesUptoRow.holds Tryz.pinned (OpenSpec.upto storeCreatesSpec)

/-- 'hamperlaw27.StoreDeletes', WHERE WHAT IT READS IS OF BULK AT MOST 1048576: true; the input reads as it did. -/
def storeDeletesUptoRow : OpenClaim := { program := "ytgmbmfpfhcekiaagreat", sum := "67de6ec5c325a744f33176761b19ce333018abae0e0a9027087ce4e7279902ca", func := "hamper/hamperlaw27.StoreDeletes", spec := "storeDeletes", inPlace := ["internal/bytealg.IndexByteString", "internal/bytealg.IndexString", "slices.overlaps[hamper/api.Named]"], unfollowed := true, recurses := true, named := ["internal/bytealg.MaxLen"], apart := false, narrowed := true }
def StoreDeletesUptoSaid : Prop := storeDeletesUptoRow.holds Tryz.pinned (OpenSpec.upto storeDeletesSpec)

/-- 'hamperlaw27.StoreMoves', WHERE WHAT IT READS IS OF BULK AT MOST 1048576: true; the input reads as it did. -/
def storeMovesUptoRow : OpenClaim := { program := "ytgmbmfpfhcekiaagreat", sum := "67de6ec5c325a744f33176761b19ce333018abae0e0a9027087ce4e7279902ca", func := "hamper/hamperlaw27.StoreMoves", spec := "storeMoves", inPlace := ["internal/bytealg.IndexByteString", "internal/bytealg.IndexString", "slices.overlaps[hamper/api.Named]"], unfollowed := true, recurses := true, named := ["internal/bytealg.MaxLen"], apart := false, narrowed := true }
def StoreMovesUptoSaid : Prop := storeMovesUptoRow.holds Tryz.pinned (OpenSpec.upto storeMovesSpec)

/-- 'hamperlaw27.StoreSubscribes', WHERE WHAT IT READS IS OF BULK AT MOST 1048576: true; the input reads as it did. -/
def storeSubscribesUptoRow : OpenClaim := { program := "ytgmbmfpfhcekiaagreat", sum := "67de6ec5c325a744f33176761b19ce333018abae0e0a9027087ce4e7279902ca", func := "hamper/hamperlaw27.StoreSubscribes", spec := "storeSubscribes", inPlace := ["internal/bytealg.IndexByteString", "internal/bytealg.IndexString", "slices.overlaps[string]", "slices.overlaps[hamper/api.Named]"], unfollowed := true, recurses := true, named := ["internal/bytealg.MaxLen"], apart := false, narrowed := true }
def StoreSubscribesUptoSaid : Prop := storeSubscribesUptoRow.holds Tryz.pinned (OpenSpec.upto storeSubscribesSpec)

/-- 'hamperlaw27.StoreTells', WHERE WHAT IT READS IS OF BULK AT MOST 1048576: true; the input reads as it did. -/
def storeTellsUptoRow : OpenClaim := { program := "ytgmbmfpfhcekiaagreat", sum := "67de6ec5c325a744f33176761b19ce333018abae0e0a9027087ce4e7279902ca", func := "hamper/hamperlaw27.StoreTells", spec := "storeTells", inPlace := ["internal/bytealg.IndexByteString", "internal/bytealg.IndexString", "slices.overlaps[hamper/api.Named]"], unfollowed := true, recurses := true, named := ["internal/bytealg.MaxLen"], apart := false, narrowed := true }
def StoreTellsUptoSaid : Prop := storeTellsUptoRow.holds Tryz.pinned (OpenSpec.upto storeTellsSpec)

/-- 'hamperlaw27.StoreLays', WHERE WHAT IT READS IS OF BULK AT MOST 1048576: true; the input reads as it did. -/
def storeLaysUptoRow : OpenClaim := { program := "ytgmbmfpfhcekiaagreat", sum := "67de6ec5c325a744f33176761b19ce333018abae0e0a9027087ce4e7279902ca", func := "hamper/hamperlaw27.StoreLays", spec := "storeLays", inPlace := ["internal/bytealg.IndexByteString", "internal/bytealg.IndexString", "slices.overlaps[hamper/api.Named]"], unfollowed := true, recurses := true, named := ["internal/bytealg.MaxLen"], apart := false, narrowed := true }
def StoreLaysUptoSaid : Prop := storeLaysUptoRow.holds Tryz.pinned (OpenSpec.upto storeLaysSpec)

/-- 'hamperlaw27.StoreNever', WHERE WHAT IT READS IS OF BULK AT MOST 1048576: true; the input reads as it did. -/
def storeNeverUptoRow : OpenClaim := { program := "ytgmbmfpfhcekiaagreat", sum := "67de6ec5c325a744f33176761b19ce333018abae0e0a9027087ce4e7279902ca", func := "hamper/hamperlaw27.StoreNever", spec := "storeNever", inPlace := ["internal/bytealg.IndexByteString", "internal/bytealg.IndexString", "slices.overlaps[hamper/api.Named]", "slices.overlaps[string]"], unfollowed := true, recurses := true, named := ["internal/bytealg.MaxLen"], apart := false, narrowed := true }
def StoreNeverUptoSaid : Prop := storeNeverUptoRow.holds Tryz.pinned (OpenSpec.upto storeNeverSpec)

/-- 'hamperlaw27.StoreBack', WHERE WHAT IT READS IS OF BULK AT MOST 1048576: true; the input reads as it did. -/
def storeBackUptoRow : OpenClaim := { program := "ytgmbmfpfhcekiaagreat", sum := "67de6ec5c325a744f33176761b19ce333018abae0e0a9027087ce4e7279902ca", func := "hamper/hamperlaw27.StoreBack", spec := "storeBack", inPlace := ["internal/bytealg.IndexByteString", "internal/bytealg.IndexString", "slices.overlaps[hamper/api.Named]"], unfollowed := true, recurses := true, named := ["internal/bytealg.MaxLen"], apart := false, narrowed := true }
def StoreBackUptoSaid : Prop := storeBackUptoRow.holds Tryz.pinned (OpenSpec.upto storeBackSpec)

end Rows
end Go.Proofs.YtgmbmfpfhcekiaaGreat
