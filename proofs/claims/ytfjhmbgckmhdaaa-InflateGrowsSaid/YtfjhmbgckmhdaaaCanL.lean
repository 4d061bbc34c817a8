/-
  The chapter's examples of layer 9 hold, and the law 'CanonCodes'.
-/
import Derived.Test.YtfjhmbgckmhdaaaCanU
namespace Go.Proofs.Ytfjhmbgckmhdaaa
open Go.RowKit

theorem code_eq (a b : Nat × Int) (w : World) : (Op.eqFields 9999 (CB a).toArray (CB b).toArray (Try.prog.fieldsOf 104).toList).run Try.prog w = .ok (decide (a = b)) w := by
  obtain ⟨f0, f1, hf, ⟨n0, t0, o0⟩, n1, t1, o1⟩ := fields104
  rw [hf]
  have h := eqF_int (P := Try.prog) (w := w) (d := 9998) (xs := (CB a).toArray) (ys := (CB b).toArray) (f := f0) (fs := [f1]) (k := .u64) (k' := .u64) (a := a.1) (b := b.1) (by rw [n0]; decide) (by rw [t0]; exact Try.isAgg74) (by rw [t0]; exact Try.underlying74) (by rw [o0]; rfl) (by rw [o0]; rfl)
    (eqF_int (k := .i64) (k' := .i64) (a := a.2) (b := b.2) (by rw [n1]; decide) (by rw [t1]; exact Try.isAgg3) (by rw [t1]; exact Try.underlying3) (by rw [o1]; rfl) (by rw [o1]; rfl) eqF_nil)
  have e : decide (a = b) = (decide ((a.1 : Int) = (b.1 : Int)) && (decide (a.2 = b.2) && true)) := by
    obtain ⟨a1, a2⟩ := a
    obtain ⟨b1, b2⟩ := b
    rw [Bool.eq_iff_iff]
    simp
    intro _
    omega
  rw [e]
  exact h

end Go.Proofs.Ytfjhmbgckmhdaaa
