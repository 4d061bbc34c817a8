/-
  The law 'ShapeBodies' of layer 22 holds: for every list of octets the call returns true and leaves its argument as it was. No condition but the row's own.
-/
import Derived.Test.YtenbjndldenkfaaGreatDoorCards
import Derived.Test.YtenbjndldenkfaaGreatDoorTie
import Derived.ProofKit
import Derived.LaidMore
import Derived.OpenShut
import Derived.Stop.Joined
import Derived.Lay
import Derived.Stop.LaidErr
import Derived.Lib.LaidTab
import Derived.Test.YtenbjndldenkfaaGreatDoorPk5
namespace Go.Proofs.YtenbjndldenkfaaGreatDoor
open Go.RowKit Go.Sort
open Go.ChangeShapes Go.WideShapes Go.ChangeAt Go.WideMaps Go.WideElems Go.RowKit
open Go.ChangeMaps (open_string shut_string)
set_option linter.unusedVariables false

theorem NB_U8 (xs : List Nat) (h : ∀ x ∈ xs, x < 256) : NB xs = U8 (xs.map UInt8.ofNat) := by
  simp only [NB, U8, List.map_map]
  apply List.map_congr_left
  intro x hx
  have := h x hx
  simp
  omega

theorem tab_of {W : World} (h : laidMetH Tryz.prog Rows.shapeBodiesRow.laid W) : Tab W := by
  rw [MakeChecks.laidMetH_plain _ _ _ (by kernel_rfl)] at h
  have h2 : laidMet Tryz.prog (("internal/strconv.uint64pow10", Lib.tabData .u64 Lib.pow10Tab) :: Rows.shapeBodiesRow.laid.drop 3) W := h.tail.tail
  exact Lib.tabIs_of_head (g := 1) (t := 171) (by kernel_rfl) (by kernel_rfl) Tryz.underlying171 Tryz.underlying147 (by kernel_rfl) (by kernel_rfl) h2
theorem own_shapeBodies : ownKnob Tryz.prog.godebug = none := by kernel_rfl
theorem laidOut_shapeBodies : laidOutB Tryz.prog = true := by kernel_rfl
set_option maxRecDepth 100000 in
theorem lifted_shapeBodies (os : Os) (started : os.Started) (H : Type) (enc : TypeId × Value → H) :
    ReturnsInHanded {} Tryz.checked os 4 .any (fun w args => (Rows.shapeBodiesSpec.pre enc Tryz.prog Tryz.f4 [] false w args ∧ laidMetH Tryz.prog Rows.shapeBodiesRow.laid w) ∧ sizedMet enc Tryz.prog Tryz.f4 (OpenSpec.ofChange Rows.shapeBodiesSpec) false w args)
      (Rows.shapeBodiesSpec.post enc Tryz.prog Tryz.f4 false true false false) := by
  refine returnsInHanded_of_change_and (C := Tryz.checked) (X := fun w _ => laidMetH Tryz.prog Rows.shapeBodiesRow.laid w) (fun _ _ _ hh h => h.of_heap hh) own_shapeBodies started (by kernel_rfl) Tryz.func4
    (ChangeSpec.witness_shaped (enc := enc) (C := Tryz.checked) (os := os) (X := fun w _ => laidMetH Tryz.prog Rows.shapeBodiesRow.laid w) false (World.laidAll Tryz.prog os Rows.shapeBodiesRow.laid) #[.slice none 0 0] 8 (World.laidAll_os _ _ _)
      (World.shaped_of_ZipB (by kernel_rfl) (by kernel_rfl)) (by kernel_rfl) (by kernel_rfl) (by kernel_rfl)
      (by rw [MakeChecks.laidMetH_plain _ _ _ (by kernel_rfl)]; exact laidMet_laidAll _ (by kernel_rfl) (by kernel_rfl))) ?_
  intro W base args ds gs before hval0 hW hc1 hc2 hlaid hc3
  have hval : ∀ (j : Nat) t v, Tryz.f4.params[j]? = some t → args[j]? = some v → Value.okWide Tryz.prog W .any base t v := hval0
  have hW' := hW
  obtain ⟨p, q, hA0, hV, rfl, hfz, hnd⟩ := hW
  have hA : DataW.TrodAll enc Tryz.prog W 0 (fun _ => true) true Tryz.f4.params.toList args.toList ds p := hA0
  rw [Tryz.params4] at hA hval
  obtain ⟨v0, vs0, d0, ds0, p0, q0, hargs, rfl, rfl, h0, r0⟩ := trodAll_cons hA
  obtain ⟨rfl, rfl, rfl⟩ := trodAll_nil r0
  obtain rfl : args = #[v0] := by cases args; simp_all
  obtain ⟨rfl, rfl⟩ := trodVars_none hV
  obtain ⟨a0, len0, cap0, rfl⟩ := okWide_slice Tryz.underlying22 (hval 0 22 v0 rfl rfl)
  have k0 := h0
  have lt0 : ∀ x ∈ p0, x.block < W.heap.size := by obtain ⟨m, hm⟩ := k0; exact DataW.trod_lt m _ _ _ hm
  obtain ⟨fuel0, hf0⟩ := h0
  obtain ⟨bs0, hbl0, hbc0, hbm0, hb0, hrd0⟩ := rd_bytes Tryz.underlying22 Tryz.underlying5 (by kernel_rfl) hf0
  subst hbl0
  clear hA0 hval0
  have hwk := (sbod_walk a0 cap0 (bs0.map UInt8.ofNat) W (tab_of hlaid) (by rw [List.length_map, ← NB_U8 _ hb0]; exact hrd0) (by rw [List.length_map]; exact hbc0))
  rw [List.length_map] at hwk
  refine hwk.mono fun e W' ⟨he, hfrm⟩ => ?_
  subst he
  have bel := hfrm.below
  exact ⟨_, rfl, _, _, _, [], _, [], hW', trodAll_mk1 (shut_bool Tryz.underlying4 _), (trodAll_cons_mk (Below.trod laidOut_shapeBodies (by kernel_rfl) (of_decide_eq_true (by kernel_rfl)) k0 bel lt0) trodAll_mk0), rfl, bel.frame _, fun h => by cases h⟩
theorem over_shapeBodies : Rows.shapeBodiesRow.holds Tryz.pinned (OpenSpec.ofChange Rows.shapeBodiesSpec) :=
  OpenClaim.holds_of_wide 4 Tryz.f4 rfl rfl rfl rfl rfl rfl rfl ⟨rfl, rfl, rfl, rfl, rfl⟩ rfl rfl rfl rfl rfl (by kernel_rfl) Tryz.func4 (by kernel_rfl)
    (of_decide_eq_true (by kernel_rfl)) (by unfold Func.isWrapper; first | (rw [if_pos (by decide +kernel)]; kernel_rfl) | (rw [if_neg (by decide +kernel)]; exact ⟨rfl, rfl⟩))
    (fun os started H enc hh => lifted_shapeBodies os started H enc)
theorem shapeBodies_card : Rows.ShapeBodiesCardSaid :=
  Claim7.holds_tied_plain_at .later [] [.data, .data, .data, .data, .pinned] true (true, "71d412bebd7d9245dfa49d0c519e4f18a2bfdf120e7db20e776cc4bca974d7b4") true
    over_shapeBodies (fun _ h => by cases h) (by kernel_rfl) (fun _ h => by cases h) shapeBodies_row_tie rfl ⟨rfl, rfl⟩ (by kernel_rfl) rfl
    (fun f fn hf hfn => by
      obtain rfl : f = 4 := Option.some.inj ((show Tryz.prog.funcNamed "hamper/hamperlaw22.ShapeBodies" = some 4 by kernel_rfl).symm.trans hf) |>.symm
      obtain rfl : fn = Tryz.f4 := (Option.some.inj (Tryz.func4.symm.trans hfn)).symm
      exact ⟨by kernel_rfl, fun j t ht => by
        rw [Tryz.params4] at ht
        have hm : t ∈ [22] := by simpa using Array.mem_of_getElem? ht
        have hall : ([22].all fun u => !Tryz.prog.wantsStandIn u) = true := by kernel_rfl
        exact (show Tryz.prog.wantsStandIn t = false by simpa using List.all_eq_true.1 hall t hm)⟩)
    (by kernel_rfl)
end Go.Proofs.YtenbjndldenkfaaGreatDoor

