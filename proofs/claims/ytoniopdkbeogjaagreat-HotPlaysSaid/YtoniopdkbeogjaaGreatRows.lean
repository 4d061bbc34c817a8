/-
  No cell of these rows narrows 'for every input' (looked for: loops, veiled, ifaces, maps, wideKeys, modest, calm, conditions, laid).
  DERIVED. THE GIVEN ROWS OF THIS SEAT. 3 by the template 'for every input the law returns true; each argument reads behind the call as it read before'; 0 by the template 'total and deterministic' (their statements: YtoniopdkbeogjaaGreatTotals.lean).
  GIVEN WITH THE SEED: the statements are not yours to turn. If you find one false, say at which input.
  Laid BY PROGRAM, IN A SANDBOX (cutbox-rows.mjs): the forced cells as the released guide's own fill.sh prints them over the translation d2d77fe3de1fdbda… (all of the seat's roots in one cut). By AI agents, Wed Nov 11 2026. No macro, syntax, notation, axiom, sorry.
-/
import Derived.Test.YtoniopdkbeogjaaGreatChecked
import GoSem.Claim
import GoSem.ClaimJoined
import GoSem.ClaimMapViews
import Derived.JoinedTies
import Derived.KernelRfl
namespace Go.Proofs.YtoniopdkbeogjaaGreat
/- THE CELL 'sum', in the pinned program and in every row, IS THE sha256 OF THE DUMP (.gsa) THAT YtoniopdkbeogjaaGreatProg.lean LOADS. Nothing in Lean hashes anything: it is a label: what it is worth is what the hold of that sum in a sandbox is worth. -/
noncomputable def Tryz.pinned : Pinned := { name := "ytoniopdkbeogjaagreat", sum := "d2d77fe3de1fdbda0c5f49f706ef05527c7dfc5030362b9e0e13d02e807efabb", checked := Tryz.checked }
namespace Rows
def none {H : Type} : Left H := { results := [], args := [] }

/-- 'hamperlaw07.HotSame': WHATEVER THE INPUT: true; the input reads as it did. -/
def hotSameSpec : ChangeSpec := { name := "hotSame", fn := fun _ => fun
  | [d] => { results := [.lit (.bool true)], args := [d] }
  | _ => none }
def hotSameRow : OpenClaim := { program := "ytoniopdkbeogjaagreat", sum := "d2d77fe3de1fdbda0c5f49f706ef05527c7dfc5030362b9e0e13d02e807efabb", func := "hamper/hamperlaw07.HotSame", spec := "hotSame", inPlace := ["slices.overlaps[hamper/api.Pair]", "internal/bytealg.MakeNoZero"], unfollowed := true, recurses := true, apart := false }
def HotSameSaid : Prop := hotSameRow.holds Tryz.pinned (OpenSpec.ofChange hotSameSpec)

/-- ITS FALSE NEIGHBOUR: 'it returns false'. Refute it at one input. -/
def hotSameWrong : ChangeSpec := { name := "hotSame", fn := fun _ => fun
  | [d] => { results := [.lit (.bool false)], args := [d] }
  | _ => none }
def HotSameWrongFalsely : Prop := hotSameRow.holds Tryz.pinned (OpenSpec.ofChange hotSameWrong)

/-- 'hamperlaw07.HotAll': WHATEVER THE INPUT: true; the input reads as it did. -/
def hotAllSpec : ChangeSpec := { name := "hotAll", fn := fun _ => fun
  | [d1, d2, d3] => { results := [.lit (.bool true)], args := [d1, d2, d3] }
  | _ => none }
def hotAllRow : OpenClaim := { program := "ytoniopdkbeogjaagreat", sum := "d2d77fe3de1fdbda0c5f49f706ef05527c7dfc5030362b9e0e13d02e807efabb", func := "hamper/hamperlaw07.HotAll", spec := "hotAll", inPlace := ["slices.overlaps[hamper/api.Pair]", "internal/bytealg.MakeNoZero"], unfollowed := true, recurses := true, apart := false }
def HotAllSaid : Prop := hotAllRow.holds Tryz.pinned (OpenSpec.ofChange hotAllSpec)

/-- ITS FALSE NEIGHBOUR: 'it returns false'. Refute it at one input. -/
def hotAllWrong : ChangeSpec := { name := "hotAll", fn := fun _ => fun
  | [d1, d2, d3] => { results := [.lit (.bool false)], args := [d1, d2, d3] }
  | _ => none }
def HotAllWrongFalsely : Prop := hotAllRow.holds Tryz.pinned (OpenSpec.ofChange hotAllWrong)

/-- 'hamperlaw07.HotPlays': WHATEVER THE INPUT: true; the input reads as it did. -/
def hotPlaysSpec : ChangeSpec := { name := "hotPlays", fn := fun _ => fun
  | [d1, d2] => { results := [.lit (.bool true)], args := [d1, d2] }
  | _ => none }
def hotPlaysRow : OpenClaim := { program := "ytoniopdkbeogjaagreat", sum := "d2d77fe3de1fdbda0c5f49f706ef05527c7dfc5030362b9e0e13d02e807efabb", func := "hamper/hamperlaw07.HotPlays", spec := "hotPlays", inPlace := ["slices.overlaps[hamper/api.Pair]", "internal/bytealg.MakeNoZero"], unfollowed := true, recurses := true, apart := false }
def HotPlaysSaid : Prop := hotPlaysRow.holds Tryz.pinned (OpenSpec.ofChange hotPlaysSpec)

/-- ITS FALSE NEIGHBOUR: 'it returns false'. Refute it at one input. -/
def hotPlaysWrong : ChangeSpec := { name := "hotPlays", fn := fun _ => fun
  | [d1, d2] => { results := [.lit (.bool false)], args := [d1, d2] }
  | _ => none }
def HotPlaysWrongFalsely : Prop := hotPlaysRow.holds Tryz.pinned (OpenSpec.ofChange hotPlaysWrong)

/- THE SECOND FORM. 'bulk': how many values and letters a reading holds, each counted each time it is reached (what is shared counts as often as it is met; a slice's spare places count too). A statement '..UptoSaid' is the law's where the arguments, and the package variables that the reading takes, are together of bulk at most 1048576: NARROWER than '..Said'. Prove '..Said' where nothing that the law and all that it calls make is longer than what came in: it says more and counts as full. Else prove '..UptoSaid'. A law counts once. -/
mutual
def uptoBulk {H : Type} : DataW H → Nat
  | .lit (.string bytes) => bytes.length + 1
  | .lit _ => 1
  | .nil => 1
  | .ptr d => uptoBulk d + 1
  | .slice elems spare => uptoBulkAll elems + uptoBulkAll spare + 1
  | .agg parts => uptoBulkAll parts + 1
  | .iface _ d => uptoBulk d + 1
  | .map entries => uptoBulkEntries entries + 1
  | .held _ => 1
def uptoBulkAll {H : Type} : List (DataW H) → Nat
  | [] => 0
  | d :: r => uptoBulk d + uptoBulkAll r
def uptoBulkEntries {H : Type} : List (Lit × DataW H) → Nat
  | [] => 0
  | x :: r => uptoBulkEntry x + uptoBulkEntries r
def uptoBulkEntry {H : Type} : Lit × DataW H → Nat
  | (.string bytes, d) => bytes.length + uptoBulk d + 1
  | (_, d) => uptoBulk d + 1
 end
def uptoSmall : (H : Type) → List (DataW H) → Bool := fun _ ds => decide (uptoBulkAll ds ≤ 1048576)
def OpenSpec.upto (s : _root_.Go.ChangeSpec) : _root_.Go.OpenSpec := { _root_.Go.OpenSpec.ofChange s with cond := some uptoSmall }

/-- 'hamperlaw07.HotSame', WHERE WHAT IT READS IS OF BULK AT MOST 1048576: true; the input reads as it did. -/
def hotSameUptoRow : OpenClaim := { program := "ytoniopdkbeogjaagreat", sum := "d2d77fe3de1fdbda0c5f49f706ef05527c7dfc5030362b9e0e13d02e807efabb", func := "hamper/hamperlaw07.HotSame", spec := "hotSame", inPlace := ["slices.overlaps[hamper/api.Pair]", "internal/bytealg.MakeNoZero"], unfollowed := true, recurses := true, apart := false, narrowed := true }
def HotSameUptoSaid : Prop := hotSameUptoRow.holds Tryz.pinned (OpenSpec.upto hotSameSpec)

/-- 'hamperlaw07.HotAll', WHERE WHAT IT READS IS OF BULK AT MOST 1048576: true; the input reads as it did. -/
def hotAllUptoRow : OpenClaim := { program := "ytoniopdkbeogjaagreat", sum := "d2d77fe3de1fdbda0c5f49f706ef05527c7dfc5030362b9e0e13d02e807efabb", func := "hamper/hamperlaw07.HotAll", spec := "hotAll", inPlace := ["slices.overlaps[hamper/api.Pair]", "internal/bytealg.MakeNoZero"], unfollowed := true, recurses := true, apart := false, narrowed := true }
def HotAllUptoSaid : Prop := hotAllUptoRow.holds Tryz.pinned (OpenSpec.upto hotAllSpec)

/-- 'hamperlaw07.HotPlays', WHERE WHAT IT READS IS OF BULK AT MOST 1048576: true; the input reads as it did. -/
def hotPlaysUptoRow : OpenClaim := { program := "ytoniopdkbeogjaagreat", sum := "d2d77fe3de1fdbda0c5f49f706ef05527c7dfc5030362b9e0e13d02e807efabb", func := "hamper/hamperlaw07.HotPlays", spec := "hotPlays", inPlace := ["slices.overlaps[hamper/api.Pair]", "internal/bytealg.MakeNoZero"], unfollowed := true, recurses := true, apart := false, narrowed := true }
def HotPlaysUptoSaid : Prop := hotPlaysUptoRow.holds Tryz.pinned (OpenSpec.upto hotPlaysSpec)

end Rows
end Go.Proofs.YtoniopdkbeogjaaGreat
