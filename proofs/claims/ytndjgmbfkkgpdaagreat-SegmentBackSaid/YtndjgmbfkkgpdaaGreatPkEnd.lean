/-
  The law 'SegmentBack' of layer 14 holds: for all blobs, one of them and a part of it the call returns true and leaves its argument as it was. No condition.
-/
import Derived.Test.YtndjgmbfkkgpdaaGreatPk5
namespace Go.Proofs.YtndjgmbfkkgpdaaGreat
open Go.RowKit
open Go.ChangeShapes Go.WideShapes Go.ChangeAt Go.RowKit
open Go.ChangeMaps (open_string shut_string)
set_option linter.unusedVariables false
theorem blobs_form {H : Type} {enc : TypeId × Value → H} {w : World} {base : Nat} {spare : Nat → Bool} {held : Bool} {n : Nat} {cs : List Value} {x : DataW H × List MemPlace}
    (h : DataW.trod enc Tryz.prog w base spare held n 22 cs = some x) : ∃ (A : Option Addr) (nn c : Nat) (l : List Bl), cs = [.slice A nn c] ∧ RdB0 w A nn c l ∧ nn ≤ 9223372036854775807 := by
  obtain ⟨A, k, c, rfl⟩ := vI Tryz.underlying22 h
  obtain ⟨l, h1, h2⟩ := qWg h
  exact ⟨A, k, c, l, rfl, h1, h2⟩
theorem i64_of {z : Int} (h : (Lit.int .i64 z).wf = true) : -9223372036854775808 ≤ z ∧ z ≤ 9223372036854775807 := by
  simp [Lit.wf, IntKind.min, IntKind.max, IntKind.signed, IntKind.bits] at h
  omega
set_option maxRecDepth 100000 in
theorem part_form {H : Type} {enc : TypeId × Value → H} {w : World} {base : Nat} {spare : Nat → Bool} {held : Bool} {fu : Nat} {cs : List Value} {x : DataW H × List MemPlace} (h : DataW.trod enc Tryz.prog w base spare held fu 38 cs = some x) :
    ∃ (A : Option Addr) (nn c : Nat) (l : List Bl) (at_ : Int) (f : Int) (n : Int), cs = ([.slice A nn c] ++ ([.int .u64 at_] ++ ([.int .i64 f] ++ ([.int .i64 n] ++ [] : List Value) : List Value) : List Value) : List Value) ∧ (RdB0 w A nn c l ∧ nn ≤ 9223372036854775807) ∧ ((Lit.int .u64 at_).wf = true) ∧ ((Lit.int .i64 f).wf = true) ∧ ((Lit.int .i64 n).wf = true) := by
  obtain ⟨hlen, n', hf⟩ := qVg Tryz.underlying38 h
  have hl : cs.length = 4 := hlen.trans (by kernel_rfl)
  obtain ⟨a0, a1, a2, a3, rfl⟩ : ∃ a0 a1 a2 a3, cs = [a0, a1, a2, a3] := by
    match cs, hl with
    | [a0, a1, a2, a3], _ => exact ⟨a0, a1, a2, a3, rfl⟩
  clear h hlen hl
  obtain ⟨y0, h0⟩ := hf 0 _ rfl
  have h0 : DataW.trod enc Tryz.prog w base spare held n' 22 ([a0, a1, a2, a3].take (Tryz.prog.cellsOf 22)) = some y0 := h0
  rw [show Tryz.prog.cellsOf 22 = 1 by kernel_rfl] at h0
  have h0 : DataW.trod enc Tryz.prog w base spare held n' 22 [a0] = some y0 := h0
  obtain ⟨A, nn, c, l, e0, q0⟩ := blobs_form h0
  obtain ⟨y1, h1⟩ := hf 1 _ rfl
  have h1 : DataW.trod enc Tryz.prog w base spare held n' 36 ([a1, a2, a3].take (Tryz.prog.cellsOf 36)) = some y1 := h1
  rw [show Tryz.prog.cellsOf 36 = 1 by kernel_rfl] at h1
  have h1 : DataW.trod enc Tryz.prog w base spare held n' 36 [a1] = some y1 := h1
  obtain ⟨at_, e1, q1⟩ := pU Tryz.underlying36 h1
  obtain ⟨y2, h2⟩ := hf 2 _ rfl
  have h2 : DataW.trod enc Tryz.prog w base spare held n' 3 ([a2, a3].take (Tryz.prog.cellsOf 3)) = some y2 := h2
  rw [show Tryz.prog.cellsOf 3 = 1 by kernel_rfl] at h2
  have h2 : DataW.trod enc Tryz.prog w base spare held n' 3 [a2] = some y2 := h2
  obtain ⟨f, e2, q2⟩ := pU Tryz.underlying3 h2
  obtain ⟨y3, h3⟩ := hf 3 _ rfl
  have h3 : DataW.trod enc Tryz.prog w base spare held n' 3 ([a3].take (Tryz.prog.cellsOf 3)) = some y3 := h3
  rw [show Tryz.prog.cellsOf 3 = 1 by kernel_rfl] at h3
  have h3 : DataW.trod enc Tryz.prog w base spare held n' 3 [a3] = some y3 := h3
  obtain ⟨n, e3, q3⟩ := pU Tryz.underlying3 h3
  refine ⟨A, nn, c, l, at_, f, n, ?_, q0, q1, q2, q3⟩
  show ([a0] ++ ([a1] ++ ([a2] ++ ([a3] ++ [] : List Value) : List Value) : List Value) : List Value) = _
  rw [e0, e1, e2, e3]
  try rfl
theorem own_segmentBack : ownKnob Tryz.prog.godebug = none := by kernel_rfl
theorem laidOut_segmentBack : laidOutB Tryz.prog = true := by kernel_rfl
set_option maxRecDepth 100000 in
theorem lifted_segmentBack (os : Os) (started : os.Started) (H : Type) (enc : TypeId × Value → H) :
    ReturnsInHanded {} Tryz.checked os 5 .any (Rows.segmentBackSpec.pre6 enc Tryz.prog Tryz.f5 Rows.segmentBackRow.domain false) (Rows.segmentBackSpec.post enc Tryz.prog Tryz.f5 false true false false) := by
  refine returnsInHanded_of_change (C := Tryz.checked) own_segmentBack started (by kernel_rfl) Tryz.func5
    (ChangeSpec.witness6 (enc := enc) (C := Tryz.checked) false ⟨#[], #[.agg #[.slice none 0 0, .int .u64 0, .int .i64 0, .int .i64 0]], []⟩ 8 (by kernel_rfl) (by kernel_rfl) (by kernel_rfl) (by kernel_rfl)) ?_
  intro W base args ds gs before hval0 hW hcnd _
  have hval : ∀ (j : Nat) t v, Tryz.f5.params[j]? = some t → args[j]? = some v → Value.okWide Tryz.prog W .any base t v := hval0
  have hW' := hW
  obtain ⟨p, q, hA0, hV, rfl, hfz, hnd⟩ := hW
  have hA : DataW.TrodAll enc Tryz.prog W 0 (fun _ => true) true Tryz.f5.params.toList args.toList ds p := hA0
  rw [Tryz.params5] at hA hval
  obtain ⟨v0, vs0, d0, ds0, p0, q0, hargs, rfl, rfl, h0, r0⟩ := trodAll_cons hA
  obtain ⟨rfl, rfl, rfl⟩ := trodAll_nil r0
  obtain rfl : args = #[v0] := by cases args; simp_all
  obtain ⟨rfl, rfl⟩ := trodVars_none hV
  obtain ⟨cs0, rfl, _⟩ := okWide_struct Tryz.underlying38 (hval 0 38 v0 rfl rfl)
  have k0 := h0
  have lt0 : ∀ x ∈ p0, x.block < W.heap.size := by obtain ⟨m, hm⟩ := k0; exact DataW.trod_lt m _ _ _ hm
  obtain ⟨fuel0, hf0⟩ := h0
  obtain ⟨A, nn, c, l, at_, f, n, e0, ⟨hr, hnn⟩, wa, wf, wn⟩ := part_form hf0
  obtain rfl : cs0 = #[.slice A nn c, .int .u64 at_, .int .i64 f, .int .i64 n] := Array.toList_inj.1 e0
  obtain ⟨at_, rfl, ha⟩ := qKv wa
  obtain ⟨hfa, hfb⟩ := i64_of wf
  obtain ⟨hna, hnb⟩ := i64_of wn
  clear hA0 hval0
  refine (qJp A nn c at_ l f n W hnn hr ha hfa hfb hna hnb).mono fun e W' ⟨he, hfrm⟩ => ?_
  subst he
  have bel := hfrm.below
  exact ⟨_, rfl, _, _, _, [], _, [], hW', trodAll_mk1 (shut_bool Tryz.underlying4 _), (trodAll_cons_mk (Below.trod laidOut_segmentBack (by kernel_rfl) (of_decide_eq_true (by kernel_rfl)) k0 bel lt0) trodAll_mk0), rfl, bel.frame _, fun h => by cases h⟩
theorem over_segmentBack : Rows.segmentBackRow.holds Tryz.pinned (OpenSpec.ofChange Rows.segmentBackSpec) :=
  OpenClaim.holds_of_wide 5 Tryz.f5 rfl rfl rfl rfl rfl rfl rfl ⟨rfl, rfl, rfl, rfl, rfl⟩ rfl rfl rfl rfl rfl (by kernel_rfl) Tryz.func5 (by kernel_rfl)
    (of_decide_eq_true (by kernel_rfl)) (by unfold Func.isWrapper; first | (rw [if_pos (by decide +kernel)]; kernel_rfl) | (rw [if_neg (by decide +kernel)]; exact ⟨rfl, rfl⟩))
    (fun os started H enc _ => lifted_segmentBack os started H enc)
theorem segmentBack_holds : Rows.SegmentBackSaid := over_segmentBack

end Go.Proofs.YtndjgmbfkkgpdaaGreat

