/-
  The law 'SeqsetLeast' of layer 25 holds: for all spans and numbers the call returns true and leaves its arguments as they were. No condition.
-/
import Derived.Test.YtnllhddbgkeboaaDoorSeqLL
import Derived.Test.YtnllhddbgkeboaaDoorCards
import Derived.Test.YtnllhddbgkeboaaDoorTie
import Derived.ProofKit
import Derived.LaidMore
import Derived.OpenShut
import Derived.Stop.Joined
import Derived.Lay
namespace Go.Proofs.YtnllhddbgkeboaaDoor
open Go.RowKit Go.Sort
open Go.ChangeShapes Go.WideShapes Go.ChangeAt Go.WideMaps Go.WideElems Go.RowKit
open Go.ChangeMaps (open_string shut_string)
set_option linter.unusedVariables false
theorem own_seqsetLeast : ownKnob Tryd.prog.godebug = none := by kernel_rfl
theorem laidOut_seqsetLeast : laidOutB Tryd.prog = true := by kernel_rfl
set_option maxRecDepth 100000 in
theorem lifted_seqsetLeast (os : Os) (started : os.Started) (H : Type) (enc : TypeId × Value → H) :
    ReturnsInHanded {} Tryd.checked os 9 .any (fun w args => (Rows.seqsetLeastSpec.pre enc Tryd.prog Tryd.f9 [] false w args ∧ laidMetH Tryd.prog Rows.seqsetLeastRow.laid w) ∧ sizedMet enc Tryd.prog Tryd.f9 (OpenSpec.ofChange Rows.seqsetLeastSpec) false w args)
      (Rows.seqsetLeastSpec.post enc Tryd.prog Tryd.f9 false true false false) := by
  refine returnsInHanded_of_change_and (C := Tryd.checked) (X := fun w _ => laidMetH Tryd.prog Rows.seqsetLeastRow.laid w) (fun _ _ _ hh h => h.of_heap hh) own_seqsetLeast started (by kernel_rfl) Tryd.func9
    (ChangeSpec.witness_shaped (enc := enc) (C := Tryd.checked) (os := os) (X := fun w _ => laidMetH Tryd.prog Rows.seqsetLeastRow.laid w) false (World.laidAll Tryd.prog os Rows.seqsetLeastRow.laid) #[.slice none 0 0, .int .u8 0] 8 (World.laidAll_os _ _ _)
      (World.shaped_of_ZipB (by kernel_rfl) (by kernel_rfl)) (by kernel_rfl) (by kernel_rfl) (by kernel_rfl)
      (by rw [MakeChecks.laidMetH_plain _ _ _ (by kernel_rfl)]; exact laidMet_laidAll _ (by kernel_rfl) (by kernel_rfl))) ?_
  intro W base args ds gs before hval0 hW hc1 hc2 hlaid hc3
  have hval : ∀ (j : Nat) t v, Tryd.f9.params[j]? = some t → args[j]? = some v → Value.okWide Tryd.prog W .any base t v := hval0
  have hW' := hW
  obtain ⟨p, q, hA0, hV, rfl, hfz, hnd⟩ := hW
  have hA : DataW.TrodAll enc Tryd.prog W 0 (fun _ => true) true Tryd.f9.params.toList args.toList ds p := hA0
  rw [Tryd.params9] at hA hval
  obtain ⟨v0, vs0, d0, ds0, p0, q0, hargs, rfl, rfl, h0, r0⟩ := trodAll_cons hA
  obtain ⟨v1, vs1, d1, ds1, p1, q1, rfl, rfl, rfl, h1, r1⟩ := trodAll_cons r0
  obtain ⟨rfl, rfl, rfl⟩ := trodAll_nil r1
  obtain rfl : args = #[v0, v1] := by cases args; simp_all
  obtain ⟨rfl, rfl⟩ := trodVars_none hV
  obtain ⟨a0, len0, cap0, rfl⟩ := okWide_slice Tryd.underlying37 (hval 0 37 v0 rfl rfl)
  have k0 := h0
  have lt0 : ∀ x ∈ p0, x.block < W.heap.size := by obtain ⟨m, hm⟩ := k0; exact DataW.trod_lt m _ _ _ hm
  obtain ⟨fuel0, hf0⟩ := h0
  obtain ⟨l0, hl0, hc0, hrd0⟩ := spans_open hf0
  obtain ⟨n1, rfl, rfl, rfl, wn1⟩ := open_int Tryd.underlying5 (hval 1 5 v1 rfl rfl) h1
  subst hl0
  have hb2 := bounds_u8 wn1
  obtain ⟨k1, rfl⟩ : ∃ k : Nat, n1 = (k : Int) := ⟨n1.toNat, by omega⟩
  clear hA0 hval0
  refine (least_walk a0 cap0 l0 k1 W hc0 hrd0 (by omega)).mono fun e W' ⟨he, hfrm⟩ => ?_
  subst he
  have bel := hfrm.below
  exact ⟨_, rfl, _, _, _, [], _, [], hW', trodAll_mk1 (shut_bool Tryd.underlying4 _), (trodAll_cons_mk (Below.trod laidOut_seqsetLeast (by kernel_rfl) (of_decide_eq_true (by kernel_rfl)) k0 bel lt0) (trodAll_cons_mk (shut_int Tryd.underlying5 wn1) trodAll_mk0)), rfl, bel.frame _, fun h => by cases h⟩
theorem over_seqsetLeast : Rows.seqsetLeastRow.holds Tryd.pinned (OpenSpec.ofChange Rows.seqsetLeastSpec) :=
  OpenClaim.holds_of_wide 9 Tryd.f9 rfl rfl rfl rfl rfl rfl rfl ⟨rfl, rfl, rfl, rfl, rfl⟩ rfl rfl rfl rfl rfl (by kernel_rfl) Tryd.func9 (by kernel_rfl)
    (of_decide_eq_true (by kernel_rfl)) (by unfold Func.isWrapper; first | (rw [if_pos (by decide +kernel)]; kernel_rfl) | (rw [if_neg (by decide +kernel)]; exact ⟨rfl, rfl⟩))
    (fun os started H enc hh => lifted_seqsetLeast os started H enc)
theorem seqsetLeast_card : Rows.SeqsetLeastCardSaid :=
  Claim7.holds_tied_plain_at .later [] [.data, .pinned] true (true, "882045138da55700ae55ab7a82a0867883f75b8fcf451d4bdfb79a1a7b3d730a") false
    over_seqsetLeast (fun _ h => by cases h) (by kernel_rfl) (fun _ h => by cases h) seqsetLeast_row_tie rfl ⟨rfl, rfl⟩ (by kernel_rfl) rfl
    (fun f fn hf hfn => by
      obtain rfl : f = 9 := Option.some.inj ((show Tryd.prog.funcNamed "hamper/hamperlaw25.SeqsetLeast" = some 9 by kernel_rfl).symm.trans hf) |>.symm
      obtain rfl : fn = Tryd.f9 := (Option.some.inj (Tryd.func9.symm.trans hfn)).symm
      exact ⟨by kernel_rfl, fun j t ht => by
        rw [Tryd.params9] at ht
        have hm : t ∈ [37, 5] := by simpa using Array.mem_of_getElem? ht
        have hall : ([37, 5].all fun u => !Tryd.prog.wantsStandIn u) = true := by kernel_rfl
        exact (show Tryd.prog.wantsStandIn t = false by simpa using List.all_eq_true.1 hall t hm)⟩)
    (by kernel_rfl)
end Go.Proofs.YtnllhddbgkeboaaDoor
