/-
  The law 'SeqsetParses' of layer 25 holds: for every text and all spans the call returns true and leaves its arguments as they were. No condition but the row's own.
-/
import Derived.Test.YtnllhddbgkeboaaDoorSeqLP
import Derived.Test.YtnllhddbgkeboaaDoorSeqLO
import Derived.Test.YtnllhddbgkeboaaDoorCards
import Derived.Test.YtnllhddbgkeboaaDoorTie
import Derived.ProofKit
import Derived.LaidMore
import Derived.OpenShut
import Derived.Stop.Joined
import Derived.Lay
import Derived.Stop.LaidErr
import Derived.Lib.LaidTab
namespace Go.Proofs.YtnllhddbgkeboaaDoor
open Go.RowKit Go.Sort
open Go.ChangeShapes Go.WideShapes Go.ChangeAt Go.WideMaps Go.WideElems Go.RowKit
open Go.ChangeMaps (open_string shut_string)
set_option linter.unusedVariables false

theorem tab_of {W : World} (h : laidMetH Tryd.prog Rows.seqsetParsesRow.laid W) : Tab W := by
  rw [MakeChecks.laidMetH_plain _ _ _ (by kernel_rfl)] at h
  have h2 : laidMet Tryd.prog (("internal/strconv.uint64pow10", Lib.tabData .u64 Lib.pow10Tab) :: Rows.seqsetParsesRow.laid.drop 3) W := h.tail.tail
  exact Lib.tabIs_of_head (g := 3) (t := 151) (by kernel_rfl) (by kernel_rfl) Tryd.underlying151 Tryd.underlying122 (by kernel_rfl) (by kernel_rfl) h2
theorem own_seqsetParses : ownKnob Tryd.prog.godebug = none := by kernel_rfl
theorem laidOut_seqsetParses : laidOutB Tryd.prog = true := by kernel_rfl
set_option maxRecDepth 100000 in
theorem lifted_seqsetParses (os : Os) (started : os.Started) (H : Type) (enc : TypeId × Value → H) :
    ReturnsInHanded {} Tryd.checked os 10 .any (fun w args => (Rows.seqsetParsesSpec.pre enc Tryd.prog Tryd.f10 [] false w args ∧ laidMetH Tryd.prog Rows.seqsetParsesRow.laid w) ∧ sizedMet enc Tryd.prog Tryd.f10 (OpenSpec.ofChange Rows.seqsetParsesSpec) false w args)
      (Rows.seqsetParsesSpec.post enc Tryd.prog Tryd.f10 false true false false) := by
  refine returnsInHanded_of_change_and (C := Tryd.checked) (X := fun w _ => laidMetH Tryd.prog Rows.seqsetParsesRow.laid w) (fun _ _ _ hh h => h.of_heap hh) own_seqsetParses started (by kernel_rfl) Tryd.func10
    (ChangeSpec.witness_shaped (enc := enc) (C := Tryd.checked) (os := os) (X := fun w _ => laidMetH Tryd.prog Rows.seqsetParsesRow.laid w) false (World.laidAll Tryd.prog os Rows.seqsetParsesRow.laid) #[.string ByteArray.empty, .slice none 0 0] 8 (World.laidAll_os _ _ _)
      (World.shaped_of_ZipB (by kernel_rfl) (by kernel_rfl)) (by kernel_rfl) (by kernel_rfl) (by kernel_rfl)
      (by rw [MakeChecks.laidMetH_plain _ _ _ (by kernel_rfl)]; exact laidMet_laidAll _ (by kernel_rfl) (by kernel_rfl))) ?_
  intro W base args ds gs before hval0 hW hc1 hc2 hlaid hc3
  have hval : ∀ (j : Nat) t v, Tryd.f10.params[j]? = some t → args[j]? = some v → Value.okWide Tryd.prog W .any base t v := hval0
  have hW' := hW
  obtain ⟨p, q, hA0, hV, rfl, hfz, hnd⟩ := hW
  have hA : DataW.TrodAll enc Tryd.prog W 0 (fun _ => true) true Tryd.f10.params.toList args.toList ds p := hA0
  rw [Tryd.params10] at hA hval
  obtain ⟨v0, vs0, d0, ds0, p0, q0, hargs, rfl, rfl, h0, r0⟩ := trodAll_cons hA
  obtain ⟨v1, vs1, d1, ds1, p1, q1, rfl, rfl, rfl, h1, r1⟩ := trodAll_cons r0
  obtain ⟨rfl, rfl, rfl⟩ := trodAll_nil r1
  obtain rfl : args = #[v0, v1] := by cases args; simp_all
  obtain ⟨rfl, rfl⟩ := trodVars_none hV
  obtain ⟨s0, rfl, rfl, rfl, ws0⟩ := open_string Tryd.underlying9 (hval 0 9 v0 rfl rfl) h0
  obtain ⟨a1, len1, cap1, rfl⟩ := okWide_slice Tryd.underlying37 (hval 1 37 v1 rfl rfl)
  have k1 := h1
  have lt1 : ∀ x ∈ p1, x.block < W.heap.size := by obtain ⟨m, hm⟩ := k1; exact DataW.trod_lt m _ _ _ hm
  obtain ⟨fuel1, hf1⟩ := h1
  obtain ⟨l1, hl1, hc1, hrd1⟩ := spans_open hf1
  subst hl1
  clear hA0 hval0
  refine (parses_walk s0.data.toList a1 cap1 l1 W (tab_of hlaid) hc1 hrd1).mono fun e W' ⟨he, hfrm⟩ => ?_
  subst he
  have bel := hfrm.below
  exact ⟨_, rfl, _, _, _, [], _, [], hW', trodAll_mk1 (shut_bool Tryd.underlying4 _), (trodAll_cons_mk (shut_string Tryd.underlying9 ws0) (trodAll_cons_mk (Below.trod laidOut_seqsetParses (by kernel_rfl) (of_decide_eq_true (by kernel_rfl)) k1 bel lt1) trodAll_mk0)), rfl, bel.frame _, fun h => by cases h⟩
theorem over_seqsetParses : Rows.seqsetParsesRow.holds Tryd.pinned (OpenSpec.ofChange Rows.seqsetParsesSpec) :=
  OpenClaim.holds_of_wide 10 Tryd.f10 rfl rfl rfl rfl rfl rfl rfl ⟨rfl, rfl, rfl, rfl, rfl⟩ rfl rfl rfl rfl rfl (by kernel_rfl) Tryd.func10 (by kernel_rfl)
    (of_decide_eq_true (by kernel_rfl)) (by unfold Func.isWrapper; first | (rw [if_pos (by decide +kernel)]; kernel_rfl) | (rw [if_neg (by decide +kernel)]; exact ⟨rfl, rfl⟩))
    (fun os started H enc hh => lifted_seqsetParses os started H enc)
theorem seqsetParses_card : Rows.SeqsetParsesCardSaid :=
  Claim7.holds_tied_plain_at .later [] [.data, .data, .data, .data, .pinned] true (true, "882045138da55700ae55ab7a82a0867883f75b8fcf451d4bdfb79a1a7b3d730a") false
    over_seqsetParses (fun _ h => by cases h) (by kernel_rfl) (fun _ h => by cases h) seqsetParses_row_tie rfl ⟨rfl, rfl⟩ (by kernel_rfl) rfl
    (fun f fn hf hfn => by
      obtain rfl : f = 10 := Option.some.inj ((show Tryd.prog.funcNamed "hamper/hamperlaw25.SeqsetParses" = some 10 by kernel_rfl).symm.trans hf) |>.symm
      obtain rfl : fn = Tryd.f10 := (Option.some.inj (Tryd.func10.symm.trans hfn)).symm
      exact ⟨by kernel_rfl, fun j t ht => by
        rw [Tryd.params10] at ht
        have hm : t ∈ [9, 37] := by simpa using Array.mem_of_getElem? ht
        have hall : ([9, 37].all fun u => !Tryd.prog.wantsStandIn u) = true := by kernel_rfl
        exact (show Tryd.prog.wantsStandIn t = false by simpa using List.all_eq_true.1 hall t hm)⟩)
    (by kernel_rfl)
end Go.Proofs.YtnllhddbgkeboaaDoor
