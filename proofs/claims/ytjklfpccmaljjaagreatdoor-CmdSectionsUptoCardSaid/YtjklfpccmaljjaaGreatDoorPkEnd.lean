/-
  The law 'CmdSections' of layer 30 holds in its second form: for every section, every octet from which on, every number of octets, and whether it is looked at alone, the call returns true and leaves its argument as it was. The condition: the argument's bulk is at most 1048576, and the row's own.
-/
import Derived.Test.YtjklfpccmaljjaaGreatDoorCards
import Derived.Test.YtjklfpccmaljjaaGreatDoorTie
import Derived.ProofKit
import Derived.LaidMore
import Derived.OpenShut
import Derived.Stop.Joined
import Derived.Lay
import Derived.Stop.LaidErr
import Derived.Shelf.Vars
import Derived.Deep.DeepHandedRow
import Derived.JoinedCond
import Derived.Test.YtjklfpccmaljjaaGreatDoorPk2
namespace Go.Proofs.YtjklfpccmaljjaaGreatDoor
open Go.RowKit
open Go.ChangeShapes Go.WideShapes Go.ChangeAt Go.WideMaps Go.WideElems Go.RowKit
open Go.ChangeMaps (open_string shut_string)
set_option linter.unusedVariables false
open Go.Shelf
theorem typeRow (u : TypeId) (h : Tryz.prog.typeName? 3 u = some "*errors.errorString") : u = 237 :=
  typeName_ptr_named (nm := "errors.errorString") (by rw [show "*" ++ "errors.errorString" = "*errors.errorString" by decide]; kernel_rfl) (by kernel_rfl) (by decide) u (by rw [show "*" ++ "errors.errorString" = "*errors.errorString" by decide]; exact h)
theorem vars_of {W : World} (hs : W.ShapedOpen Tryz.prog) (h : laidMetH Tryz.prog Rows.cmdSectionsUptoRow.laid W) : cN W := by
  refine ⟨cell_of_shapedOpen_int (zero := #[.int .i64 0]) (t := 3) hs (of_decide_eq_true (by kernel_rfl)) (by kernel_rfl) rfl (by kernel_rfl) (by kernel_rfl) Tryz.underlying3, ?_⟩
  rw [MakeChecks.laidMetH_plain _ _ _ (by kernel_rfl)] at h
  have h2 : laidMet Tryz.prog (("strconv.ErrSyntax", .iface "*errors.errorString" (.ptr (.agg [.lit (.string [105, 110, 118, 97, 108, 105, 100, 32, 115, 121, 110, 116, 97, 120])]))) :: Rows.cmdSectionsUptoRow.laid.drop 6) W := h.tail.tail.tail.tail.tail
  obtain ⟨a0, s0, hv0, -, -, -⟩ := laid_sentinel h2 (g := 4) (by kernel_rfl) (ti := 106) (by kernel_rfl) Tryz.underlying106 typeRow Tryz.underlying237 Tryz.underlying239 rfl rfl Tryz.underlying9 (by kernel_rfl) (by kernel_rfl)
  exact ⟨_, by have h0 := World.var?_cell (g := 4) (by kernel_rfl) hv0 0; simpa using h0, .inr ⟨_, _, rfl⟩⟩
theorem tab_of {W : World} (h : laidMetH Tryz.prog Rows.cmdSectionsUptoRow.laid W) : Tab W := by
  rw [MakeChecks.laidMetH_plain _ _ _ (by kernel_rfl)] at h
  have h2 : laidMet Tryz.prog (("internal/strconv.uint64pow10", Lib.tabData .u64 Lib.pow10Tab) :: Rows.cmdSectionsUptoRow.laid.drop 3) W := h.tail.tail
  exact Lib.tabIs_of_head (g := 0) (t := 194) (by kernel_rfl) (by kernel_rfl) Tryz.underlying194 Tryz.underlying164 (by kernel_rfl) (by kernel_rfl) h2
theorem own_cmdSections : ownKnob Tryz.prog.godebug = none := by kernel_rfl
theorem laidOut_cmdSections : laidOutB Tryz.prog = true := by kernel_rfl
theorem reads_cmdSections (os : Os) {H : Type} (enc : TypeId × Value → H) : ∃ places, DataW.whole enc Tryz.prog ((World.laidAll Tryz.prog os Rows.cmdSectionsUptoRow.laid).forCall (fun _ _ => 0) ⟨#[], #[.agg #[.slice none 0 0, .string ByteArray.empty, .slice none 0 0, .int .u16 0, .int .u16 0, .bool false]], []⟩).memory Tryz.f6.params.toList Rows.cmdSectionsSpec.vars false #[.agg #[.slice none 0 0, .string ByteArray.empty, .slice none 0 0, .int .u16 0, .int .u16 0, .bool false]].toList 8 = some ([.agg [.agg [.nil, .lit (.string []), .nil], .lit (.int .u16 0), .lit (.int .u16 0), .lit (.bool false)]], [], places) := ⟨[], by kernel_rfl⟩
set_option maxRecDepth 100000 in
theorem lifted_cmdSections (os : Os) (started : os.Started) (H : Type) (enc : TypeId × Value → H) (F : Stop.Interp) :
    ReturnsInHanded {} Tryz.checked os 6 .any ((Rows.OpenSpec.upto Rows.cmdSectionsSpec).preRow enc Tryz.prog Tryz.f6 Rows.cmdSectionsUptoRow.domain false Rows.cmdSectionsUptoRow.laid) (((Rows.OpenSpec.upto Rows.cmdSectionsSpec).at F).post enc Tryz.prog Tryz.f6 false true false false) := by
  obtain ⟨places, hx⟩ := reads_cmdSections os enc
  have hok : Input.okWideB Tryz.prog ((World.laidAll Tryz.prog os Rows.cmdSectionsUptoRow.laid).forCall (fun _ _ => 0) ⟨#[], #[.agg #[.slice none 0 0, .string ByteArray.empty, .slice none 0 0, .int .u16 0, .int .u16 0, .bool false]], []⟩) 6 ⟨#[], #[.agg #[.slice none 0 0, .string ByteArray.empty, .slice none 0 0, .int .u16 0, .int .u16 0, .bool false]], []⟩ = true := by kernel_rfl
  refine returnsInHanded_of_row (C := Tryz.checked) (s := Rows.OpenSpec.upto Rows.cmdSectionsSpec) own_cmdSections started (by kernel_rfl) Tryz.func6
    ⟨World.laidAll Tryz.prog os Rows.cmdSectionsUptoRow.laid, fun _ _ => 0, ⟨#[], #[.agg #[.slice none 0 0, .string ByteArray.empty, .slice none 0 0, .int .u16 0, .int .u16 0, .bool false]], []⟩, World.laidAll_os _ _ _, World.shaped_of_ZipB (by kernel_rfl) (by kernel_rfl), (Input.okWide_of_okWideB (base := 0) hok).1, (Input.okWide_of_okWideB hok).2,
      OpenSpec.preRow_of_cond 8 hx (by kernel_rfl) (fun k hk => by cases hk; kernel_rfl) (by kernel_rfl) (by rw [MakeChecks.laidMetH_plain _ _ _ (by kernel_rfl)]; exact laidMet_laidAll _ (by kernel_rfl) (by kernel_rfl)), by
        simp only [Assume.holds]
        exact ⟨by simp, by simp, fun _ => Modest.zero, by simp, by simp⟩⟩ ?_
  intro W base args ds gs before hval0 hW hc1 hk hc2 hlaid hsh hc3
  have hval : ∀ (j : Nat) t v, Tryz.f6.params[j]? = some t → args[j]? = some v → Value.okWide Tryz.prog W .any base t v := hval0
  have hW' := hW
  obtain ⟨p, q, hA0, hV, rfl, hfz, hnd⟩ := hW
  have hA : DataW.TrodAll enc Tryz.prog W 0 (fun _ => true) true Tryz.f6.params.toList args.toList ds p := hA0
  rw [Tryz.params6] at hA hval
  obtain ⟨v0, vs0, d0, ds0, p0, q0, hargs, rfl, rfl, h0, r0⟩ := trodAll_cons hA
  obtain ⟨rfl, rfl, rfl⟩ := trodAll_nil r0
  obtain rfl : args = #[v0] := by cases args; simp_all
  obtain ⟨rfl, rfl⟩ := trodVars_none hV
  have hbk := of_decide_eq_true (hk _ rfl)
  simp only [Rows.uptoBulkAll, List.cons_append, List.nil_append] at hbk
  obtain ⟨cs0, rfl, _⟩ := okWide_struct Tryz.underlying50 (hval 0 50 v0 rfl rfl)
  have k0 := h0
  have lt0 : ∀ x ∈ p0, x.block < W.heap.size := by obtain ⟨m, hm⟩ := k0; exact DataW.trod_lt m _ _ _ hm
  obtain ⟨fuel0, hf0⟩ := h0
  obtain ⟨A, pc, B, nc, v, fr, m, pk, e0, ⟨l0, r0, l2, r2⟩, hs, q1, q2⟩ := pN hf0
  obtain rfl : cs0 = #[.slice A v.path.length pc, encStr v.what, .slice B v.names.length nc, .int .u16 ((fr : Nat) : Int), .int .u16 ((m : Nat) : Int), .bool pk] := by rw [← Array.toList_inj]; exact e0
  clear hA0 hval0
  refine (kI v A B pc nc fr m pk W (vars_of hsh hlaid) (tab_of hlaid) r0 l0 r2 l2 (fun s hs2 => Nat.le_trans (hs s hs2) (by dsimp only; omega)) q1 q2).mono fun e W' ⟨he, hfrm⟩ => ?_
  subst he
  have bel := hfrm.below
  exact ⟨_, rfl, _, _, _, [], _, [], hW', trodAll_mk1 (shut_bool Tryz.underlying4 _), (trodAll_cons_mk (Below.trod laidOut_cmdSections (by kernel_rfl) (of_decide_eq_true (by kernel_rfl)) k0 bel lt0) trodAll_mk0), rfl, bel.frame _, fun h => by cases h⟩
theorem over_cmdSections : Rows.CmdSectionsUptoSaid :=
  OpenClaim.holds_of_cond 6 Tryz.f6 rfl rfl rfl rfl rfl rfl rfl ⟨rfl, rfl, rfl, rfl, rfl⟩ rfl rfl rfl rfl rfl (by kernel_rfl) Tryz.func6 (by kernel_rfl)
    (of_decide_eq_true (by kernel_rfl)) (by unfold Func.isWrapper; first | (rw [if_pos (by decide +kernel)]; kernel_rfl) | (rw [if_neg (by decide +kernel)]; exact ⟨rfl, rfl⟩))
    (fun os started H enc _ F => by rw [OpenClaim.pre_eq_preRow]; exact lifted_cmdSections os started H enc F)
theorem cmdSectionsUpto_card : Rows.CmdSectionsUptoCardSaid :=
  Claim7.holds_tied_plain_at .later [] [.data, .data, .data, .data, .sentinel, .sentinel, .pinned] true (true, "0155de35e7362e3650afaaf1afbc536ca21186278d376238b654b24868bca2ff") true
    over_cmdSections (fun _ h => by cases h) (by kernel_rfl) (fun _ h => by cases h) cmdSectionsUpto_row_tie rfl ⟨rfl, rfl⟩ (by kernel_rfl) rfl
    (fun f fn hf hfn => by
      obtain rfl : f = 6 := Option.some.inj ((show Tryz.prog.funcNamed "hamper/hamperlaw30.CmdSections" = some 6 by kernel_rfl).symm.trans hf) |>.symm
      obtain rfl : fn = Tryz.f6 := (Option.some.inj (Tryz.func6.symm.trans hfn)).symm
      exact ⟨by kernel_rfl, fun j t ht => by
        rw [Tryz.params6] at ht
        have hm : t ∈ [50] := by simpa using Array.mem_of_getElem? ht
        have hall : ([50].all fun u => ! Tryz.prog.wantsStandIn u) = true := by kernel_rfl
        exact (show Tryz.prog.wantsStandIn t = false by simpa using List.all_eq_true.1 hall t hm)⟩)
    (by kernel_rfl)
end Go.Proofs.YtjklfpccmaljjaaGreatDoor

