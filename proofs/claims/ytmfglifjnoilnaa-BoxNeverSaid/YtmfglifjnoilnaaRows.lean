/-
  No cell of these rows narrows 'for every input' (looked for: loops, veiled, ifaces, maps, wideKeys, modest, calm, conditions, laid).
  DERIVED. THE GIVEN ROWS OF THIS SEAT. 5 by the template 'for every input the law returns true; each argument reads behind the call as it read before'; 0 by the template 'total and deterministic' (their statements: YtmfglifjnoilnaaTotals.lean).
  GIVEN WITH THE SEED: the statements are not yours to turn. If you find one false, say at which input.
  Laid BY PROGRAM, IN A SANDBOX (cutbox-rows.mjs): the forced cells as the released guide's own fill.sh prints them over the translation 34d62ea2bd13bf29… (all of the seat's roots in one cut). By AI agents, Wed Nov 11 2026. No macro, syntax, notation, axiom, sorry.
-/
import Derived.Test.YtmfglifjnoilnaaChecked
import GoSem.Claim
import GoSem.ClaimJoined
import GoSem.ClaimMapViews
import Derived.JoinedTies
import Derived.KernelRfl
namespace Go.Proofs.Ytmfglifjnoilnaa
/- THE CELL 'sum', in the pinned program and in every row, IS THE sha256 OF THE DUMP (.gsa) THAT YtmfglifjnoilnaaProg.lean LOADS. Nothing in Lean hashes anything: it is a label: what it is worth is what the hold of that sum in a sandbox is worth. -/
noncomputable def Try.pinned : Pinned := { name := "ytmfglifjnoilnaa", sum := "34d62ea2bd13bf2967dd3a4feaf6b95f43c2a7fa9437d85c2a4df2ad9a872078", checked := Try.checked }
namespace Rows
def none {H : Type} : Left H := { results := [], args := [] }

/-- 'hamperlaw26.BoxExpunges': WHATEVER THE INPUT: true; the input reads as it did. -/
def boxExpungesSpec : ChangeSpec := { name := "boxExpunges", fn := fun _ => fun
  | [d1, d2, d3] => { results := [.lit (.bool true)], args := [d1, d2, d3] }
  | _ => none }
def boxExpungesRow : OpenClaim := { program := "ytmfglifjnoilnaa", sum := "34d62ea2bd13bf2967dd3a4feaf6b95f43c2a7fa9437d85c2a4df2ad9a872078", func := "hamper/hamperlaw26.BoxExpunges", spec := "boxExpunges", unfollowed := true, recurses := true, apart := false }
def BoxExpungesSaid : Prop := boxExpungesRow.holds Try.pinned (OpenSpec.ofChange boxExpungesSpec)

/-- ITS FALSE NEIGHBOUR: 'it returns false'. Refute it at one input. -/
def boxExpungesWrong : ChangeSpec := { name := "boxExpunges", fn := fun _ => fun
  | [d1, d2, d3] => { results := [.lit (.bool false)], args := [d1, d2, d3] }
  | _ => none }
def BoxExpungesWrongFalsely : Prop := boxExpungesRow.holds Try.pinned (OpenSpec.ofChange boxExpungesWrong)

/-- 'hamperlaw26.BoxNever': WHATEVER THE INPUT: true; the input reads as it did. -/
def boxNeverSpec : ChangeSpec := { name := "boxNever", fn := fun _ => fun
  | [d1, d2] => { results := [.lit (.bool true)], args := [d1, d2] }
  | _ => none }
def boxNeverRow : OpenClaim := { program := "ytmfglifjnoilnaa", sum := "34d62ea2bd13bf2967dd3a4feaf6b95f43c2a7fa9437d85c2a4df2ad9a872078", func := "hamper/hamperlaw26.BoxNever", spec := "boxNever", unfollowed := true, recurses := true, apart := false }
def BoxNeverSaid : Prop := boxNeverRow.holds Try.pinned (OpenSpec.ofChange boxNeverSpec)

/-- ITS FALSE NEIGHBOUR: 'it returns false'. Refute it at one input. -/
def boxNeverWrong : ChangeSpec := { name := "boxNever", fn := fun _ => fun
  | [d1, d2] => { results := [.lit (.bool false)], args := [d1, d2] }
  | _ => none }
def BoxNeverWrongFalsely : Prop := boxNeverRow.holds Try.pinned (OpenSpec.ofChange boxNeverWrong)

/-- 'hamperlaw26.BoxPlaces': WHATEVER THE INPUT: true; the input reads as it did. -/
def boxPlacesSpec : ChangeSpec := { name := "boxPlaces", fn := fun _ => fun
  | [d1, d2, d3] => { results := [.lit (.bool true)], args := [d1, d2, d3] }
  | _ => none }
def boxPlacesRow : OpenClaim := { program := "ytmfglifjnoilnaa", sum := "34d62ea2bd13bf2967dd3a4feaf6b95f43c2a7fa9437d85c2a4df2ad9a872078", func := "hamper/hamperlaw26.BoxPlaces", spec := "boxPlaces", unfollowed := true, recurses := true, apart := false }
def BoxPlacesSaid : Prop := boxPlacesRow.holds Try.pinned (OpenSpec.ofChange boxPlacesSpec)

/-- ITS FALSE NEIGHBOUR: 'it returns false'. Refute it at one input. -/
def boxPlacesWrong : ChangeSpec := { name := "boxPlaces", fn := fun _ => fun
  | [d1, d2, d3] => { results := [.lit (.bool false)], args := [d1, d2, d3] }
  | _ => none }
def BoxPlacesWrongFalsely : Prop := boxPlacesRow.holds Try.pinned (OpenSpec.ofChange boxPlacesWrong)

/-- 'hamperlaw26.BoxDoes': WHATEVER THE INPUT: true; the input reads as it did. -/
def boxDoesSpec : ChangeSpec := { name := "boxDoes", fn := fun _ => fun
  | [d] => { results := [.lit (.bool true)], args := [d] }
  | _ => none }
def boxDoesRow : OpenClaim := { program := "ytmfglifjnoilnaa", sum := "34d62ea2bd13bf2967dd3a4feaf6b95f43c2a7fa9437d85c2a4df2ad9a872078", func := "hamper/hamperlaw26.BoxDoes", spec := "boxDoes", unfollowed := true, recurses := true, apart := false }
def BoxDoesSaid : Prop := boxDoesRow.holds Try.pinned (OpenSpec.ofChange boxDoesSpec)

/-- ITS FALSE NEIGHBOUR: 'it returns false'. Refute it at one input. -/
def boxDoesWrong : ChangeSpec := { name := "boxDoes", fn := fun _ => fun
  | [d] => { results := [.lit (.bool false)], args := [d] }
  | _ => none }
def BoxDoesWrongFalsely : Prop := boxDoesRow.holds Try.pinned (OpenSpec.ofChange boxDoesWrong)

/-- 'hamperlaw26.BoxTells': WHATEVER THE INPUT: true; the input reads as it did. -/
def boxTellsSpec : ChangeSpec := { name := "boxTells", fn := fun _ => fun
  | [d] => { results := [.lit (.bool true)], args := [d] }
  | _ => none }
def boxTellsRow : OpenClaim := { program := "ytmfglifjnoilnaa", sum := "34d62ea2bd13bf2967dd3a4feaf6b95f43c2a7fa9437d85c2a4df2ad9a872078", func := "hamper/hamperlaw26.BoxTells", spec := "boxTells", unfollowed := true, recurses := true, apart := false }
def BoxTellsSaid : Prop := boxTellsRow.holds Try.pinned (OpenSpec.ofChange boxTellsSpec)

/-- ITS FALSE NEIGHBOUR: 'it returns false'. Refute it at one input. -/
def boxTellsWrong : ChangeSpec := { name := "boxTells", fn := fun _ => fun
  | [d] => { results := [.lit (.bool false)], args := [d] }
  | _ => none }
def BoxTellsWrongFalsely : Prop := boxTellsRow.holds Try.pinned (OpenSpec.ofChange boxTellsWrong)

/- THE SECOND FORM. 'bulk': how many values and letters a reading holds, each counted each time it is reached (what is shared counts as often as it is met; a slice's spare places count too). A statement '..UptoSaid' is the law's where the arguments, and the package variables that the reading takes, are together of bulk at most 1048576: NARROWER than '..Said'. Prove '..Said' where nothing that the law and all that it calls make is longer than what came in: it says more and counts as full. Else prove '..UptoSaid'. A law counts once. -/
mutual
def uptoBulk {H : Type} : DataW H → Nat
  | .lit (.string bytes) => bytes.length + 1
  | .lit _ => 1
  | .nil => 1
  | .ptr d => uptoBulk d + 1
  | .slice elems spare => uptoBulkAll elems + uptoBulkAll spare + 1
  | .agg parts => uptoBulkAll parts + 1
  | .iface _ d => uptoBulk d + 1
  | .map entries => uptoBulkEntries entries + 1
  | .held _ => 1
def uptoBulkAll {H : Type} : List (DataW H) → Nat
  | [] => 0
  | d :: r => uptoBulk d + uptoBulkAll r
def uptoBulkEntries {H : Type} : List (Lit × DataW H) → Nat
  | [] => 0
  | x :: r => uptoBulkEntry x + uptoBulkEntries r
def uptoBulkEntry {H : Type} : Lit × DataW H → Nat
  | (.string bytes, d) => bytes.length + uptoBulk d + 1
  | (_, d) => uptoBulk d + 1
 end
def uptoSmall : (H : Type) → List (DataW H) → Bool := fun _ ds => decide (uptoBulkAll ds ≤ 1048576)
def OpenSpec.upto (s : _root_.Go.ChangeSpec) : _root_.Go.OpenSpec := { _root_.Go.OpenSpec.ofChange s with cond := some uptoSmall }

/-- 'hamperlaw26.BoxExpunges', WHERE WHAT IT READS IS OF BULK AT MOST 1048576: true; the input reads as it did. -/
def boxExpungesUptoRow : OpenClaim := { program := "ytmfglifjnoilnaa", sum := "34d62ea2bd13bf2967dd3a4feaf6b95f43c2a7fa9437d85c2a4df2ad9a872078", func := "hamper/hamperlaw26.BoxExpunges", spec := "boxExpunges", unfollowed := true, recurses := true, apart := false, narrowed := true }
def BoxExpungesUptoSaid : Prop := boxExpungesUptoRow.holds Try.pinned (OpenSpec.upto boxExpungesSpec)

/-- 'hamperlaw26.BoxNever', WHERE WHAT IT READS IS OF BULK AT MOST 1048576: true; the input reads as it did. -/
def boxNeverUptoRow : OpenClaim := { program := "ytmfglifjnoilnaa", sum := "34d62ea2bd13bf2967dd3a4feaf6b95f43c2a7fa9437d85c2a4df2ad9a872078", func := "hamper/hamperlaw26.BoxNever", spec := "boxNever", unfollowed := true, recurses := true, apart := false, narrowed := true }
def BoxNeverUptoSaid : Prop := boxNeverUptoRow.holds Try.pinned (OpenSpec.upto boxNeverSpec)

/-- 'hamperlaw26.BoxPlaces', WHERE WHAT IT READS IS OF BULK AT MOST 1048576: true; the input reads as it did. -/
def boxPlacesUptoRow : OpenClaim := { program := "ytmfglifjnoilnaa", sum := "34d62ea2bd13bf2967dd3a4feaf6b95f43c2a7fa9437d85c2a4df2ad9a872078", func := "hamper/hamperlaw26.BoxPlaces", spec := "boxPlaces", unfollowed := true, recurses := true, apart := false, narrowed := true }
def BoxPlacesUptoSaid : Prop := boxPlacesUptoRow.holds Try.pinned (OpenSpec.upto boxPlacesSpec)

/-- 'hamperlaw26.BoxDoes', WHERE WHAT IT READS IS OF BULK AT MOST 1048576: true; the input reads as it did. -/
def boxDoesUptoRow : OpenClaim := { program := "ytmfglifjnoilnaa", sum := "34d62ea2bd13bf2967dd3a4feaf6b95f43c2a7fa9437d85c2a4df2ad9a872078", func := "hamper/hamperlaw26.BoxDoes", spec := "boxDoes", unfollowed := true, recurses := true, apart := false, narrowed := true }
def BoxDoesUptoSaid : Prop := boxDoesUptoRow.holds Try.pinned (OpenSpec.upto boxDoesSpec)

/-- 'hamperlaw26.BoxTells', WHERE WHAT IT READS IS OF BULK AT MOST 1048576: true; the input reads as it did. -/
def boxTellsUptoRow : OpenClaim := { program := "ytmfglifjnoilnaa", sum := "34d62ea2bd13bf2967dd3a4feaf6b95f43c2a7fa9437d85c2a4df2ad9a872078", func := "hamper/hamperlaw26.BoxTells", spec := "boxTells", unfollowed := true, recurses := true, apart := false, narrowed := true }
def BoxTellsUptoSaid : Prop := boxTellsUptoRow.holds Try.pinned (OpenSpec.upto boxTellsSpec)

end Rows
end Go.Proofs.Ytmfglifjnoilnaa
