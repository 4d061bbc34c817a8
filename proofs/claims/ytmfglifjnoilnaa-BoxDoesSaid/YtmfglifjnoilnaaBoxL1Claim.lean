/-
  The law 'BoxDoes' of layer 26 holds: for all boxes, messages, places and kinds of change the call returns true and leaves its arguments as they were. No condition.
-/
import Derived.Test.YtmfglifjnoilnaaBoxL1
namespace Go.Proofs.Ytmfglifjnoilnaa
open Go.RowKit Go.Sort
open Go.ChangeShapes Go.WideShapes Go.ChangeAt Go.RowKit
open Go.ChangeMaps (open_string shut_string)
set_option linter.unusedVariables false
theorem own_boxDoes : ownKnob Try.prog.godebug = none := by kernel_rfl
theorem laidOut_boxDoes : laidOutB Try.prog = true := by kernel_rfl
set_option maxRecDepth 100000 in
theorem lifted_boxDoes (os : Os) (started : os.Started) (H : Type) (enc : TypeId × Value → H) :
    ReturnsInHanded {} Try.checked os 6 .any (Rows.boxDoesSpec.pre6 enc Try.prog Try.f6 Rows.boxDoesRow.domain false) (Rows.boxDoesSpec.post enc Try.prog Try.f6 false true false false) := by
  refine returnsInHanded_of_change (C := Try.checked) own_boxDoes started (by kernel_rfl) Try.func6
    (ChangeSpec.witness6 (enc := enc) (C := Try.checked) false ⟨#[], #[.agg #[.int .i64 0, .int .i64 0, .slice none 0 0, .int .i64 0, .int .i64 0, .int .i64 0, .int .i64 0, .int .u64 0, .slice none 0 0, .int .i64 0, .int .i64 0]], []⟩ 8 (by kernel_rfl) (by kernel_rfl) (by kernel_rfl) (by kernel_rfl)) ?_
  intro W base args ds gs before hval0 hW hcnd _
  have hval : ∀ (j : Nat) t v, Try.f6.params[j]? = some t → args[j]? = some v → Value.okWide Try.prog W .any base t v := hval0
  have hW' := hW
  obtain ⟨p, q, hA0, hV, rfl, hfz, hnd⟩ := hW
  have hA : DataW.TrodAll enc Try.prog W 0 (fun _ => true) true Try.f6.params.toList args.toList ds p := hA0
  rw [Try.params6] at hA hval
  obtain ⟨v0, vs0, d0, ds0, p0, q0, hargs, rfl, rfl, h0, r0⟩ := trodAll_cons hA
  obtain ⟨rfl, rfl, rfl⟩ := trodAll_nil r0
  obtain rfl : args = #[v0] := by cases args; simp_all
  obtain ⟨rfl, rfl⟩ := trodVars_none hV
  obtain ⟨cs0, rfl, _⟩ := okWide_struct Try.underlying52 (hval 0 52 v0 rfl rfl)
  have k0 := h0
  have lt0 : ∀ x ∈ p0, x.block < W.heap.size := by obtain ⟨m, hm⟩ := k0; exact DataW.trod_lt m _ _ _ hm
  obtain ⟨fuel0, hf0⟩ := h0
  obtain ⟨va, na, A, c, l, x, place, op, e0, ⟨_, _, hc, hl⟩, ⟨hx, hxc⟩, _, _⟩ := do_form hf0
  obtain rfl : cs0 = (BVc va na A l.length c ++ (x.cells ++ ([.int .i64 place] ++ ([.int .i64 op] ++ [] : List Value) : List Value) : List Value) : List Value).toArray := by rw [← e0]; rfl
  clear hA0 hval0
  refine (does_walk va na A c l x place op W hl hc hx hxc).mono fun e W' ⟨he, hfrm⟩ => ?_
  subst he
  have bel := hfrm.below
  exact ⟨_, rfl, _, _, _, [], _, [], hW', trodAll_mk1 (shut_bool Try.underlying4 _), (trodAll_cons_mk (Below.trod laidOut_boxDoes (by kernel_rfl) (of_decide_eq_true (by kernel_rfl)) k0 bel lt0) trodAll_mk0), rfl, bel.frame _, fun h => by cases h⟩
theorem over_boxDoes : Rows.boxDoesRow.holds Try.pinned (OpenSpec.ofChange Rows.boxDoesSpec) :=
  OpenClaim.holds_of_wide 6 Try.f6 rfl rfl rfl rfl rfl rfl rfl ⟨rfl, rfl, rfl, rfl, rfl⟩ rfl rfl rfl rfl rfl (by kernel_rfl) Try.func6 (by kernel_rfl)
    (of_decide_eq_true (by kernel_rfl)) (by unfold Func.isWrapper; first | (rw [if_pos (by decide +kernel)]; kernel_rfl) | (rw [if_neg (by decide +kernel)]; exact ⟨rfl, rfl⟩))
    (fun os started H enc _ => lifted_boxDoes os started H enc)
theorem boxDoes_holds : Rows.BoxDoesSaid := over_boxDoes

end Go.Proofs.Ytmfglifjnoilnaa
