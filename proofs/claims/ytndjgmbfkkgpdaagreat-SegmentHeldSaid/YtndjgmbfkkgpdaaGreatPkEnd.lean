/-
  The law 'SegmentHeld' of layer 14 holds: for all blobs, places and octets the call returns true and leaves its arguments as they were. No condition.
-/
import Derived.Test.YtndjgmbfkkgpdaaGreatPk5
namespace Go.Proofs.YtndjgmbfkkgpdaaGreat
open Go.RowKit
open Go.ChangeShapes Go.WideShapes Go.ChangeAt Go.RowKit
open Go.ChangeMaps (open_string shut_string)
set_option linter.unusedVariables false
theorem nat_of {k : IntKind} {z : Int} (h : (Lit.int k z).wf = true) (hk : k = .u16 ∨ k = .u8) : ∃ n : Nat, z = (n : Int) ∧ n ≤ 65535 ∧ (k = .u8 → n < 256) := by
  have h1 : 0 ≤ z ∧ z ≤ 65535 ∧ (k = .u8 → z < 256) := by
    rcases hk with rfl | rfl
    · simp [Lit.wf, IntKind.min, IntKind.max, IntKind.signed, IntKind.bits] at h
      exact ⟨by omega, by omega, fun h => by cases h⟩
    · simp [Lit.wf, IntKind.min, IntKind.max, IntKind.signed, IntKind.bits] at h
      exact ⟨by omega, by omega, fun _ => by omega⟩
  exact ⟨z.toNat, by omega, by omega, fun h => by have := h1.2.2 h; omega⟩
theorem own_segmentHeld : ownKnob Tryz.prog.godebug = none := by kernel_rfl
theorem laidOut_segmentHeld : laidOutB Tryz.prog = true := by kernel_rfl
set_option maxRecDepth 100000 in
theorem lifted_segmentHeld (os : Os) (started : os.Started) (H : Type) (enc : TypeId × Value → H) :
    ReturnsInHanded {} Tryz.checked os 4 .any (Rows.segmentHeldSpec.pre6 enc Tryz.prog Tryz.f4 Rows.segmentHeldRow.domain false) (Rows.segmentHeldSpec.post enc Tryz.prog Tryz.f4 false true false false) := by
  refine returnsInHanded_of_change (C := Tryz.checked) own_segmentHeld started (by kernel_rfl) Tryz.func4
    (ChangeSpec.witness6 (enc := enc) (C := Tryz.checked) false ⟨#[], #[.slice none 0 0, .int .u16 0, .int .u8 0], []⟩ 8 (by kernel_rfl) (by kernel_rfl) (by kernel_rfl) (by kernel_rfl)) ?_
  intro W base args ds gs before hval0 hW hcnd _
  have hval : ∀ (j : Nat) t v, Tryz.f4.params[j]? = some t → args[j]? = some v → Value.okWide Tryz.prog W .any base t v := hval0
  have hW' := hW
  obtain ⟨p, q, hA0, hV, rfl, hfz, hnd⟩ := hW
  have hA : DataW.TrodAll enc Tryz.prog W 0 (fun _ => true) true Tryz.f4.params.toList args.toList ds p := hA0
  rw [Tryz.params4] at hA hval
  obtain ⟨v0, vs0, d0, ds0, p0, q0, hargs, rfl, rfl, h0, r0⟩ := trodAll_cons hA
  obtain ⟨v1, vs1, d1, ds1, p1, q1, rfl, rfl, rfl, h1, r1⟩ := trodAll_cons r0
  obtain ⟨v2, vs2, d2, ds2, p2, q2, rfl, rfl, rfl, h2, r2⟩ := trodAll_cons r1
  obtain ⟨rfl, rfl, rfl⟩ := trodAll_nil r2
  obtain rfl : args = #[v0, v1, v2] := by cases args; simp_all
  obtain ⟨rfl, rfl⟩ := trodVars_none hV
  obtain ⟨a0, len0, cap0, rfl⟩ := okWide_slice Tryz.underlying22 (hval 0 22 v0 rfl rfl)
  have k0 := h0
  have lt0 : ∀ x ∈ p0, x.block < W.heap.size := by obtain ⟨m, hm⟩ := k0; exact DataW.trod_lt m _ _ _ hm
  obtain ⟨fuel0, hf0⟩ := h0
  obtain ⟨l0, hr0, hn0⟩ := qWm hf0
  obtain ⟨n1, rfl, rfl, rfl, wn1⟩ := open_int Tryz.underlying31 (hval 1 31 v1 rfl rfl) h1
  obtain ⟨n2, rfl, rfl, rfl, wn2⟩ := open_int Tryz.underlying5 (hval 2 5 v2 rfl rfl) h2
  obtain ⟨k1, rfl, hk1, _⟩ := nat_of wn1 (.inl rfl)
  obtain ⟨k2, rfl, _, hk2⟩ := nat_of wn2 (.inr rfl)
  clear hA0 hval0
  refine (qJu a0 len0 cap0 l0 k1 k2 W hn0 hk1 (hk2 rfl) hr0).mono fun e W' ⟨he, hfrm⟩ => ?_
  subst he
  have bel := hfrm.below
  exact ⟨_, rfl, _, _, _, [], _, [], hW', trodAll_mk1 (shut_bool Tryz.underlying4 _), (trodAll_cons_mk (Below.trod laidOut_segmentHeld (by kernel_rfl) (of_decide_eq_true (by kernel_rfl)) k0 bel lt0) (trodAll_cons_mk (shut_int Tryz.underlying31 wn1) (trodAll_cons_mk (shut_int Tryz.underlying5 wn2) trodAll_mk0))), rfl, bel.frame _, fun h => by cases h⟩
theorem over_segmentHeld : Rows.segmentHeldRow.holds Tryz.pinned (OpenSpec.ofChange Rows.segmentHeldSpec) :=
  OpenClaim.holds_of_wide 4 Tryz.f4 rfl rfl rfl rfl rfl rfl rfl ⟨rfl, rfl, rfl, rfl, rfl⟩ rfl rfl rfl rfl rfl (by kernel_rfl) Tryz.func4 (by kernel_rfl)
    (of_decide_eq_true (by kernel_rfl)) (by unfold Func.isWrapper; first | (rw [if_pos (by decide +kernel)]; kernel_rfl) | (rw [if_neg (by decide +kernel)]; exact ⟨rfl, rfl⟩))
    (fun os started H enc _ => lifted_segmentHeld os started H enc)
theorem segmentHeld_holds : Rows.SegmentHeldSaid := over_segmentHeld

end Go.Proofs.YtndjgmbfkkgpdaaGreat

