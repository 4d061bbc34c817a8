/-
  NARROWER THAN 'FOR EVERY INPUT', by the rows' own cells (each row's printed sentence says how): ParamReads: laid · ParamWhole: laid · ParamFinds: laid · ParamOrder: laid · SeqsetOf: laid · SeqsetUnion: laid · SeqsetLeast: laid · SeqsetParses: laid.
  DERIVED. THE GIVEN ROWS OF THIS SEAT. 8 by the template 'for every input the law returns true; each argument reads behind the call as it read before'; 0 by the template 'total and deterministic' (their statements: YtnllhddbgkeboaaDoorTotals.lean).
  GIVEN WITH THE SEED: the statements are not yours to turn. If you find one false, say at which input.
  Laid BY PROGRAM, IN A SANDBOX (cutbox-rows.mjs): the forced cells as the released guide's own fill.sh prints them over the translation d2082905c963c07d… (all of the seat's roots in one cut). By AI agents, Wed Nov 11 2026. No macro, syntax, notation, axiom, sorry.
-/
import Derived.Test.YtnllhddbgkeboaaDoorChecked
import GoSem.PinnedTables
import GoSem.Claim
import GoSem.ClaimJoined
import GoSem.ClaimMapViews
import Derived.JoinedTies
import Derived.KernelRfl
namespace Go.Proofs.YtnllhddbgkeboaaDoor
/- THE CELL 'sum', in the pinned program and in every row, IS THE sha256 OF THE DUMP (.gsa) THAT YtnllhddbgkeboaaDoorProg.lean LOADS. Nothing in Lean hashes anything: it is a label: what it is worth is what the hold of that sum in a sandbox is worth. -/
noncomputable def Tryd.pinned : Pinned := { name := "ytnllhddbgkeboaadoor", sum := "d2082905c963c07d7463a3e84ec4afdb32ec767d97cf039282494b4913967638", checked := Tryd.checked }
namespace Rows
def none {H : Type} : Left H := { results := [], args := [] }

/- WHAT THE LISTED PACKAGE-LEVEL VARIABLES READ AS WHEN THE CALL BEGINS. Each datum BY PROGRAM (the guide's laid-datum.mjs) off the statement by which the dump's own 'gosem.cut.vars' lays the variable. In a bare row this is a premise. The card (YtnllhddbgkeboaaDoorCards.lean) ties it to the program's text. -/
def laid_unicode_utf8_acceptRanges {H : Type} : DataW H := .agg [.agg [.lit (.int .u8 128), .lit (.int .u8 191)], .agg [.lit (.int .u8 160), .lit (.int .u8 191)], .agg [.lit (.int .u8 128), .lit (.int .u8 159)], .agg [.lit (.int .u8 144), .lit (.int .u8 191)], .agg [.lit (.int .u8 128), .lit (.int .u8 143)], .agg [.lit (.int .u8 0), .lit (.int .u8 0)], .agg [.lit (.int .u8 0), .lit (.int .u8 0)], .agg [.lit (.int .u8 0), .lit (.int .u8 0)], .agg [.lit (.int .u8 0), .lit (.int .u8 0)], .agg [.lit (.int .u8 0), .lit (.int .u8 0)], .agg [.lit (.int .u8 0), .lit (.int .u8 0)], .agg [.lit (.int .u8 0), .lit (.int .u8 0)], .agg [.lit (.int .u8 0), .lit (.int .u8 0)], .agg [.lit (.int .u8 0), .lit (.int .u8 0)], .agg [.lit (.int .u8 0), .lit (.int .u8 0)], .agg [.lit (.int .u8 0), .lit (.int .u8 0)]]
/-- One of Go's own tables, pinned by name: the form's constant. -/
def laid_unicode_utf8_first : DataW Unit := Go.Pinned.utf8First
def laid_math_bits_deBruijn32tab {H : Type} : DataW H := .agg [.lit (.int .u8 0), .lit (.int .u8 1), .lit (.int .u8 28), .lit (.int .u8 2), .lit (.int .u8 29), .lit (.int .u8 14), .lit (.int .u8 24), .lit (.int .u8 3), .lit (.int .u8 30), .lit (.int .u8 22), .lit (.int .u8 20), .lit (.int .u8 15), .lit (.int .u8 25), .lit (.int .u8 17), .lit (.int .u8 4), .lit (.int .u8 8), .lit (.int .u8 31), .lit (.int .u8 27), .lit (.int .u8 13), .lit (.int .u8 23), .lit (.int .u8 21), .lit (.int .u8 19), .lit (.int .u8 16), .lit (.int .u8 7), .lit (.int .u8 26), .lit (.int .u8 12), .lit (.int .u8 18), .lit (.int .u8 6), .lit (.int .u8 11), .lit (.int .u8 5), .lit (.int .u8 10), .lit (.int .u8 9)]
def laid_math_bits_deBruijn64tab {H : Type} : DataW H := .agg [.lit (.int .u8 0), .lit (.int .u8 1), .lit (.int .u8 56), .lit (.int .u8 2), .lit (.int .u8 57), .lit (.int .u8 49), .lit (.int .u8 28), .lit (.int .u8 3), .lit (.int .u8 61), .lit (.int .u8 58), .lit (.int .u8 42), .lit (.int .u8 50), .lit (.int .u8 38), .lit (.int .u8 29), .lit (.int .u8 17), .lit (.int .u8 4), .lit (.int .u8 62), .lit (.int .u8 47), .lit (.int .u8 59), .lit (.int .u8 36), .lit (.int .u8 45), .lit (.int .u8 43), .lit (.int .u8 51), .lit (.int .u8 22), .lit (.int .u8 53), .lit (.int .u8 39), .lit (.int .u8 33), .lit (.int .u8 30), .lit (.int .u8 24), .lit (.int .u8 18), .lit (.int .u8 12), .lit (.int .u8 5), .lit (.int .u8 63), .lit (.int .u8 55), .lit (.int .u8 48), .lit (.int .u8 27), .lit (.int .u8 60), .lit (.int .u8 41), .lit (.int .u8 37), .lit (.int .u8 16), .lit (.int .u8 46), .lit (.int .u8 35), .lit (.int .u8 44), .lit (.int .u8 21), .lit (.int .u8 52), .lit (.int .u8 32), .lit (.int .u8 23), .lit (.int .u8 11), .lit (.int .u8 54), .lit (.int .u8 26), .lit (.int .u8 40), .lit (.int .u8 15), .lit (.int .u8 34), .lit (.int .u8 20), .lit (.int .u8 31), .lit (.int .u8 10), .lit (.int .u8 25), .lit (.int .u8 14), .lit (.int .u8 19), .lit (.int .u8 9), .lit (.int .u8 13), .lit (.int .u8 8), .lit (.int .u8 7), .lit (.int .u8 6)]
def laid_internal_strconv_uint64pow10 {H : Type} : DataW H := .agg [.lit (.int .u64 1), .lit (.int .u64 10), .lit (.int .u64 100), .lit (.int .u64 1000), .lit (.int .u64 10000), .lit (.int .u64 100000), .lit (.int .u64 1000000), .lit (.int .u64 10000000), .lit (.int .u64 100000000), .lit (.int .u64 1000000000), .lit (.int .u64 10000000000), .lit (.int .u64 100000000000), .lit (.int .u64 1000000000000), .lit (.int .u64 10000000000000), .lit (.int .u64 100000000000000), .lit (.int .u64 1000000000000000), .lit (.int .u64 10000000000000000), .lit (.int .u64 100000000000000000), .lit (.int .u64 1000000000000000000), .lit (.int .u64 10000000000000000000)]

/-- 'hamperlaw19.ParamReads': WHATEVER THE INPUT: true; the input reads as it did. -/
def paramReadsSpec : ChangeSpec := { name := "paramReads", fn := fun _ => fun
  | [d] => { results := [.lit (.bool true)], args := [d] }
  | _ => none }
def paramReadsRow : OpenClaim := { program := "ytnllhddbgkeboaadoor", sum := "d2082905c963c07d7463a3e84ec4afdb32ec767d97cf039282494b4913967638", func := "hamper/hamperlaw19.ParamReads", spec := "paramReads", inPlace := ["internal/bytealg.IndexByteString", "internal/bytealg.IndexString", "internal/abi.NoEscape"], unfollowed := true, recurses := true, named := ["unicode/utf8.first", "unicode/utf8.acceptRanges", "internal/bytealg.MaxLen"], apart := false, laid := [("unicode/utf8.acceptRanges", laid_unicode_utf8_acceptRanges), ("unicode/utf8.first", laid_unicode_utf8_first)] }
def ParamReadsSaid : Prop := paramReadsRow.holds Tryd.pinned (OpenSpec.ofChange paramReadsSpec)

/-- ITS FALSE NEIGHBOUR: 'it returns false'. Refute it at one input. -/
def paramReadsWrong : ChangeSpec := { name := "paramReads", fn := fun _ => fun
  | [d] => { results := [.lit (.bool false)], args := [d] }
  | _ => none }
def ParamReadsWrongFalsely : Prop := paramReadsRow.holds Tryd.pinned (OpenSpec.ofChange paramReadsWrong)

/-- 'hamperlaw19.ParamWhole': WHATEVER THE INPUT: true; the input reads as it did. -/
def paramWholeSpec : ChangeSpec := { name := "paramWhole", fn := fun _ => fun
  | [d1, d2] => { results := [.lit (.bool true)], args := [d1, d2] }
  | _ => none }
def paramWholeRow : OpenClaim := { program := "ytnllhddbgkeboaadoor", sum := "d2082905c963c07d7463a3e84ec4afdb32ec767d97cf039282494b4913967638", func := "hamper/hamperlaw19.ParamWhole", spec := "paramWhole", inPlace := ["internal/bytealg.IndexByteString", "internal/bytealg.IndexString", "internal/abi.NoEscape"], unfollowed := true, recurses := true, named := ["unicode/utf8.first", "unicode/utf8.acceptRanges", "internal/bytealg.MaxLen"], apart := false, laid := [("unicode/utf8.acceptRanges", laid_unicode_utf8_acceptRanges), ("unicode/utf8.first", laid_unicode_utf8_first)] }
def ParamWholeSaid : Prop := paramWholeRow.holds Tryd.pinned (OpenSpec.ofChange paramWholeSpec)

/-- ITS FALSE NEIGHBOUR: 'it returns false'. Refute it at one input. -/
def paramWholeWrong : ChangeSpec := { name := "paramWhole", fn := fun _ => fun
  | [d1, d2] => { results := [.lit (.bool false)], args := [d1, d2] }
  | _ => none }
def ParamWholeWrongFalsely : Prop := paramWholeRow.holds Tryd.pinned (OpenSpec.ofChange paramWholeWrong)

/-- 'hamperlaw19.ParamFinds': WHATEVER THE INPUT: true; the input reads as it did. -/
def paramFindsSpec : ChangeSpec := { name := "paramFinds", fn := fun _ => fun
  | [d1, d2, d3] => { results := [.lit (.bool true)], args := [d1, d2, d3] }
  | _ => none }
def paramFindsRow : OpenClaim := { program := "ytnllhddbgkeboaadoor", sum := "d2082905c963c07d7463a3e84ec4afdb32ec767d97cf039282494b4913967638", func := "hamper/hamperlaw19.ParamFinds", spec := "paramFinds", inPlace := ["internal/bytealg.IndexByteString", "internal/bytealg.IndexString", "internal/abi.NoEscape"], unfollowed := true, recurses := true, named := ["unicode/utf8.first", "unicode/utf8.acceptRanges", "internal/bytealg.MaxLen"], apart := false, laid := [("unicode/utf8.acceptRanges", laid_unicode_utf8_acceptRanges), ("unicode/utf8.first", laid_unicode_utf8_first)] }
def ParamFindsSaid : Prop := paramFindsRow.holds Tryd.pinned (OpenSpec.ofChange paramFindsSpec)

/-- ITS FALSE NEIGHBOUR: 'it returns false'. Refute it at one input. -/
def paramFindsWrong : ChangeSpec := { name := "paramFinds", fn := fun _ => fun
  | [d1, d2, d3] => { results := [.lit (.bool false)], args := [d1, d2, d3] }
  | _ => none }
def ParamFindsWrongFalsely : Prop := paramFindsRow.holds Tryd.pinned (OpenSpec.ofChange paramFindsWrong)

/-- 'hamperlaw19.ParamOrder': WHATEVER THE INPUT: true; the input reads as it did. -/
def paramOrderSpec : ChangeSpec := { name := "paramOrder", fn := fun _ => fun
  | [d1, d2] => { results := [.lit (.bool true)], args := [d1, d2] }
  | _ => none }
def paramOrderRow : OpenClaim := { program := "ytnllhddbgkeboaadoor", sum := "d2082905c963c07d7463a3e84ec4afdb32ec767d97cf039282494b4913967638", func := "hamper/hamperlaw19.ParamOrder", spec := "paramOrder", inPlace := ["internal/bytealg.IndexByteString", "internal/bytealg.IndexString", "internal/abi.NoEscape"], unfollowed := true, recurses := true, named := ["unicode/utf8.first", "unicode/utf8.acceptRanges", "internal/bytealg.MaxLen"], apart := false, laid := [("unicode/utf8.acceptRanges", laid_unicode_utf8_acceptRanges), ("unicode/utf8.first", laid_unicode_utf8_first)] }
def ParamOrderSaid : Prop := paramOrderRow.holds Tryd.pinned (OpenSpec.ofChange paramOrderSpec)

/-- ITS FALSE NEIGHBOUR: 'it returns false'. Refute it at one input. -/
def paramOrderWrong : ChangeSpec := { name := "paramOrder", fn := fun _ => fun
  | [d1, d2] => { results := [.lit (.bool false)], args := [d1, d2] }
  | _ => none }
def ParamOrderWrongFalsely : Prop := paramOrderRow.holds Tryd.pinned (OpenSpec.ofChange paramOrderWrong)

/-- 'hamperlaw25.SeqsetOf': WHATEVER THE INPUT: true; the input reads as it did. -/
def seqsetOfSpec : ChangeSpec := { name := "seqsetOf", fn := fun _ => fun
  | [d1, d2] => { results := [.lit (.bool true)], args := [d1, d2] }
  | _ => none }
def seqsetOfRow : OpenClaim := { program := "ytnllhddbgkeboaadoor", sum := "d2082905c963c07d7463a3e84ec4afdb32ec767d97cf039282494b4913967638", func := "hamper/hamperlaw25.SeqsetOf", spec := "seqsetOf", inPlace := ["internal/bytealg.IndexByteString", "internal/bytealg.IndexString"], unfollowed := true, recurses := true, named := ["unicode/utf8.first", "unicode/utf8.acceptRanges", "internal/bytealg.MaxLen"], apart := false, laid := [("unicode/utf8.acceptRanges", laid_unicode_utf8_acceptRanges), ("unicode/utf8.first", laid_unicode_utf8_first)] }
def SeqsetOfSaid : Prop := seqsetOfRow.holds Tryd.pinned (OpenSpec.ofChange seqsetOfSpec)

/-- ITS FALSE NEIGHBOUR: 'it returns false'. Refute it at one input. -/
def seqsetOfWrong : ChangeSpec := { name := "seqsetOf", fn := fun _ => fun
  | [d1, d2] => { results := [.lit (.bool false)], args := [d1, d2] }
  | _ => none }
def SeqsetOfWrongFalsely : Prop := seqsetOfRow.holds Tryd.pinned (OpenSpec.ofChange seqsetOfWrong)

/-- 'hamperlaw25.SeqsetUnion': WHATEVER THE INPUT: true; the input reads as it did. -/
def seqsetUnionSpec : ChangeSpec := { name := "seqsetUnion", fn := fun _ => fun
  | [d] => { results := [.lit (.bool true)], args := [d] }
  | _ => none }
def seqsetUnionRow : OpenClaim := { program := "ytnllhddbgkeboaadoor", sum := "d2082905c963c07d7463a3e84ec4afdb32ec767d97cf039282494b4913967638", func := "hamper/hamperlaw25.SeqsetUnion", spec := "seqsetUnion", inPlace := ["internal/bytealg.IndexByteString", "internal/bytealg.IndexString"], unfollowed := true, recurses := true, named := ["unicode/utf8.first", "unicode/utf8.acceptRanges", "internal/bytealg.MaxLen"], apart := false, laid := [("unicode/utf8.acceptRanges", laid_unicode_utf8_acceptRanges), ("unicode/utf8.first", laid_unicode_utf8_first)] }
def SeqsetUnionSaid : Prop := seqsetUnionRow.holds Tryd.pinned (OpenSpec.ofChange seqsetUnionSpec)

/-- ITS FALSE NEIGHBOUR: 'it returns false'. Refute it at one input. -/
def seqsetUnionWrong : ChangeSpec := { name := "seqsetUnion", fn := fun _ => fun
  | [d] => { results := [.lit (.bool false)], args := [d] }
  | _ => none }
def SeqsetUnionWrongFalsely : Prop := seqsetUnionRow.holds Tryd.pinned (OpenSpec.ofChange seqsetUnionWrong)

/-- 'hamperlaw25.SeqsetLeast': WHATEVER THE INPUT: true; the input reads as it did. -/
def seqsetLeastSpec : ChangeSpec := { name := "seqsetLeast", fn := fun _ => fun
  | [d1, d2] => { results := [.lit (.bool true)], args := [d1, d2] }
  | _ => none }
def seqsetLeastRow : OpenClaim := { program := "ytnllhddbgkeboaadoor", sum := "d2082905c963c07d7463a3e84ec4afdb32ec767d97cf039282494b4913967638", func := "hamper/hamperlaw25.SeqsetLeast", spec := "seqsetLeast", inPlace := ["internal/bytealg.IndexByteString", "internal/bytealg.IndexString"], unfollowed := true, recurses := true, named := ["unicode/utf8.first", "unicode/utf8.acceptRanges", "internal/bytealg.MaxLen"], apart := false, laid := [("unicode/utf8.acceptRanges", laid_unicode_utf8_acceptRanges), ("unicode/utf8.first", laid_unicode_utf8_first)] }
def SeqsetLeastSaid : Prop := seqsetLeastRow.holds Tryd.pinned (OpenSpec.ofChange seqsetLeastSpec)

/-- ITS FALSE NEIGHBOUR: 'it returns false'. Refute it at one input. -/
def seqsetLeastWrong : ChangeSpec := { name := "seqsetLeast", fn := fun _ => fun
  | [d1, d2] => { results := [.lit (.bool false)], args := [d1, d2] }
  | _ => none }
def SeqsetLeastWrongFalsely : Prop := seqsetLeastRow.holds Tryd.pinned (OpenSpec.ofChange seqsetLeastWrong)

/-- 'hamperlaw25.SeqsetParses': WHATEVER THE INPUT: true; the input reads as it did. -/
def seqsetParsesSpec : ChangeSpec := { name := "seqsetParses", fn := fun _ => fun
  | [d1, d2] => { results := [.lit (.bool true)], args := [d1, d2] }
  | _ => none }
def seqsetParsesRow : OpenClaim := { program := "ytnllhddbgkeboaadoor", sum := "d2082905c963c07d7463a3e84ec4afdb32ec767d97cf039282494b4913967638", func := "hamper/hamperlaw25.SeqsetParses", spec := "seqsetParses", inPlace := ["internal/bytealg.IndexByteString", "internal/bytealg.IndexString", "internal/abi.NoEscape", "internal/bytealg.MakeNoZero"], unfollowed := true, recurses := true, named := ["unicode/utf8.first", "unicode/utf8.acceptRanges", "internal/bytealg.MaxLen", "internal/strconv.uint64pow10", "math/bits.deBruijn32tab", "math/bits.deBruijn64tab"], apart := false, laid := [("math/bits.deBruijn32tab", laid_math_bits_deBruijn32tab), ("math/bits.deBruijn64tab", laid_math_bits_deBruijn64tab), ("internal/strconv.uint64pow10", laid_internal_strconv_uint64pow10), ("unicode/utf8.acceptRanges", laid_unicode_utf8_acceptRanges), ("unicode/utf8.first", laid_unicode_utf8_first)] }
def SeqsetParsesSaid : Prop := seqsetParsesRow.holds Tryd.pinned (OpenSpec.ofChange seqsetParsesSpec)

/-- ITS FALSE NEIGHBOUR: 'it returns false'. Refute it at one input. -/
def seqsetParsesWrong : ChangeSpec := { name := "seqsetParses", fn := fun _ => fun
  | [d1, d2] => { results := [.lit (.bool false)], args := [d1, d2] }
  | _ => none }
def SeqsetParsesWrongFalsely : Prop := seqsetParsesRow.holds Tryd.pinned (OpenSpec.ofChange seqsetParsesWrong)

/- THE SECOND FORM. 'bulk': how many values and letters a reading holds, each counted each time it is reached (what is shared counts as often as it is met; a slice's spare places count too). A statement '..UptoSaid' is the law's where the arguments, and the package variables that the reading takes, are together of bulk at most 1048576: NARROWER than '..Said'. Prove '..Said' where nothing that the law and all that it calls make is longer than what came in: it says more and counts as full. Else prove '..UptoSaid'. A law counts once. -/
mutual
def uptoBulk {H : Type} : DataW H → Nat
  | .lit (.string bytes) => bytes.length + 1
  | .lit _ => 1
  | .nil => 1
  | .ptr d => uptoBulk d + 1
  | .slice elems spare => uptoBulkAll elems + uptoBulkAll spare + 1
  | .agg parts => uptoBulkAll parts + 1
  | .iface _ d => uptoBulk d + 1
  | .map entries => uptoBulkEntries entries + 1
  | .held _ => 1
def uptoBulkAll {H : Type} : List (DataW H) → Nat
  | [] => 0
  | d :: r => uptoBulk d + uptoBulkAll r
def uptoBulkEntries {H : Type} : List (Lit × DataW H) → Nat
  | [] => 0
  | x :: r => uptoBulkEntry x + uptoBulkEntries r
def uptoBulkEntry {H : Type} : Lit × DataW H → Nat
  | (.string bytes, d) => bytes.length + uptoBulk d + 1
  | (_, d) => uptoBulk d + 1
 end
def uptoSmall : (H : Type) → List (DataW H) → Bool := fun _ ds => decide (uptoBulkAll ds ≤ 1048576)
def OpenSpec.upto (s : _root_.Go.ChangeSpec) : _root_.Go.OpenSpec := { _root_.Go.OpenSpec.ofChange s with cond := some uptoSmall }

/-- 'hamperlaw19.ParamReads', WHERE WHAT IT READS IS OF BULK AT MOST 1048576: true; the input reads as it did. -/
def paramReadsUptoRow : OpenClaim := { program := "ytnllhddbgkeboaadoor", sum := "d2082905c963c07d7463a3e84ec4afdb32ec767d97cf039282494b4913967638", func := "hamper/hamperlaw19.ParamReads", spec := "paramReads", inPlace := ["internal/bytealg.IndexByteString", "internal/bytealg.IndexString", "internal/abi.NoEscape"], unfollowed := true, recurses := true, named := ["unicode/utf8.first", "unicode/utf8.acceptRanges", "internal/bytealg.MaxLen"], apart := false, laid := [("unicode/utf8.acceptRanges", laid_unicode_utf8_acceptRanges), ("unicode/utf8.first", laid_unicode_utf8_first)], narrowed := true }
def ParamReadsUptoSaid : Prop := paramReadsUptoRow.holds Tryd.pinned (OpenSpec.upto paramReadsSpec)

/-- 'hamperlaw19.ParamWhole', WHERE WHAT IT READS IS OF BULK AT MOST 1048576: true; the input reads as it did. -/
def paramWholeUptoRow : OpenClaim := { program := "ytnllhddbgkeboaadoor", sum := "d2082905c963c07d7463a3e84ec4afdb32ec767d97cf039282494b4913967638", func := "hamper/hamperlaw19.ParamWhole", spec := "paramWhole", inPlace := ["internal/bytealg.IndexByteString", "internal/bytealg.IndexString", "internal/abi.NoEscape"], unfollowed := true, recurses := true, named := ["unicode/utf8.first", "unicode/utf8.acceptRanges", "internal/bytealg.MaxLen"], apart := false, laid := [("unicode/utf8.acceptRanges", laid_unicode_utf8_acceptRanges), ("unicode/utf8.first", laid_unicode_utf8_first)], narrowed := true }
def ParamWholeUptoSaid : Prop := paramWholeUptoRow.holds Tryd.pinned (OpenSpec.upto paramWholeSpec)

/-- 'hamperlaw19.ParamFinds', WHERE WHAT IT READS IS OF BULK AT MOST 1048576: true; the input reads as it did. -/
def paramFindsUptoRow : OpenClaim := { program := "ytnllhddbgkeboaadoor", sum := "d2082905c963c07d7463a3e84ec4afdb32ec767d97cf039282494b4913967638", func := "hamper/hamperlaw19.ParamFinds", spec := "paramFinds", inPlace := ["internal/bytealg.IndexByteString", "internal/bytealg.IndexString", "internal/abi.NoEscape"], unfollowed := true, recurses := true, named := ["unicode/utf8.first", "unicode/utf8.acceptRanges", "internal/bytealg.MaxLen"], apart := false, laid := [("unicode/utf8.acceptRanges", laid_unicode_utf8_acceptRanges), ("unicode/utf8.first", laid_unicode_utf8_first)], narrowed := true }
def ParamFindsUptoSaid : Prop := paramFindsUptoRow.holds Tryd.pinned (OpenSpec.upto paramFindsSpec)

/-- 'hamperlaw19.ParamOrder', WHERE WHAT IT READS IS OF BULK AT MOST 1048576: true; the input reads as it did. -/
def paramOrderUptoRow : OpenClaim := { program := "ytnllhddbgkeboaadoor", sum := "d2082905c963c07d7463a3e84ec4afdb32ec767d97cf039282494b4913967638", func := "hamper/hamperlaw19.ParamOrder", spec := "paramOrder", inPlace := ["internal/bytealg.IndexByteString", "internal/bytealg.IndexString", "internal/abi.NoEscape"], unfollowed := true, recurses := true, named := ["unicode/utf8.first", "unicode/utf8.acceptRanges", "internal/bytealg.MaxLen"], apart := false, laid := [("unicode/utf8.acceptRanges", laid_unicode_utf8_acceptRanges), ("unicode/utf8.first", laid_unicode_utf8_first)], narrowed := true }
def ParamOrderUptoSaid : Prop := paramOrderUptoRow.holds Tryd.pinned (OpenSpec.upto paramOrderSpec)

/-- 'hamperlaw25.SeqsetOf', WHERE WHAT IT READS IS OF BULK AT MOST 1048576: true; the input reads as it did. -/
def seqsetOfUptoRow : OpenClaim := { program := "ytnllhddbgkeboaadoor", sum := "d2082905c963c07d7463a3e84ec4afdb32ec767d97cf039282494b4913967638", func := "hamper/hamperlaw25.SeqsetOf", spec := "seqsetOf", inPlace := ["internal/bytealg.IndexByteString", "internal/bytealg.IndexString"], unfollowed := true, recurses := true, named := ["unicode/utf8.first", "unicode/utf8.acceptRanges", "internal/bytealg.MaxLen"], apart := false, laid := [("unicode/utf8.acceptRanges", laid_unicode_utf8_acceptRanges), ("unicode/utf8.first", laid_unicode_utf8_first)], narrowed := true }
def SeqsetOfUptoSaid : Prop := seqsetOfUptoRow.holds Tryd.pinned (OpenSpec.upto seqsetOfSpec)

/-- 'hamperlaw25.SeqsetUnion', WHERE WHAT IT READS IS OF BULK AT MOST 1048576: true; the input reads as it did. -/
def seqsetUnionUptoRow : OpenClaim := { program := "ytnllhddbgkeboaadoor", sum := "d2082905c963c07d7463a3e84ec4afdb32ec767d97cf039282494b4913967638", func := "hamper/hamperlaw25.SeqsetUnion", spec := "seqsetUnion", inPlace := ["internal/bytealg.IndexByteString", "internal/bytealg.IndexString"], unfollowed := true, recurses := true, named := ["unicode/utf8.first", "unicode/utf8.acceptRanges", "internal/bytealg.MaxLen"], apart := false, laid := [("unicode/utf8.acceptRanges", laid_unicode_utf8_acceptRanges), ("unicode/utf8.first", laid_unicode_utf8_first)], narrowed := true }
def SeqsetUnionUptoSaid : Prop := seqsetUnionUptoRow.holds Tryd.pinned (OpenSpec.upto seqsetUnionSpec)

/-- 'hamperlaw25.SeqsetLeast', WHERE WHAT IT READS IS OF BULK AT MOST 1048576: true; the input reads as it did. -/
def seqsetLeastUptoRow : OpenClaim := { program := "ytnllhddbgkeboaadoor", sum := "d2082905c963c07d7463a3e84ec4afdb32ec767d97cf039282494b4913967638", func := "hamper/hamperlaw25.SeqsetLeast", spec := "seqsetLeast", inPlace := ["internal/bytealg.IndexByteString", "internal/bytealg.IndexString"], unfollowed := true, recurses := true, named := ["unicode/utf8.first", "unicode/utf8.acceptRanges", "internal/bytealg.MaxLen"], apart := false, laid := [("unicode/utf8.acceptRanges", laid_unicode_utf8_acceptRanges), ("unicode/utf8.first", laid_unicode_utf8_first)], narrowed := true }
def SeqsetLeastUptoSaid : Prop := seqsetLeastUptoRow.holds Tryd.pinned (OpenSpec.upto seqsetLeastSpec)

/-- 'hamperlaw25.SeqsetParses', WHERE WHAT IT READS IS OF BULK AT MOST 1048576: true; the input reads as it did. -/
def seqsetParsesUptoRow : OpenClaim := { program := "ytnllhddbgkeboaadoor", sum := "d2082905c963c07d7463a3e84ec4afdb32ec767d97cf039282494b4913967638", func := "hamper/hamperlaw25.SeqsetParses", spec := "seqsetParses", inPlace := ["internal/bytealg.IndexByteString", "internal/bytealg.IndexString", "internal/abi.NoEscape", "internal/bytealg.MakeNoZero"], unfollowed := true, recurses := true, named := ["unicode/utf8.first", "unicode/utf8.acceptRanges", "internal/bytealg.MaxLen", "internal/strconv.uint64pow10", "math/bits.deBruijn32tab", "math/bits.deBruijn64tab"], apart := false, laid := [("math/bits.deBruijn32tab", laid_math_bits_deBruijn32tab), ("math/bits.deBruijn64tab", laid_math_bits_deBruijn64tab), ("internal/strconv.uint64pow10", laid_internal_strconv_uint64pow10), ("unicode/utf8.acceptRanges", laid_unicode_utf8_acceptRanges), ("unicode/utf8.first", laid_unicode_utf8_first)], narrowed := true }
def SeqsetParsesUptoSaid : Prop := seqsetParsesUptoRow.holds Tryd.pinned (OpenSpec.upto seqsetParsesSpec)

end Rows
end Go.Proofs.YtnllhddbgkeboaaDoor
