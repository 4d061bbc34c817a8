/-
  The answers of layer 19: Read.
-/
import Derived.Test.YtenbjndldenkfaaDoorParG
namespace Go.Proofs.YtenbjndldenkfaaDoor
open Go.RowKit Go.Sort

theorem cutI {s : Tx} {c : UInt8} (h : ¬ Lib.indexByte s c < 0) : ∃ a : Tx, c ∈ s ∧ Lib.indexByte s c = ((a.length : Nat) : Int) ∧ (s.drop 0).take (a.length - 0) = befF c s ∧ (s.drop (a.length + 1)).take (s.length - (a.length + 1)) = aftF c s ∧ a.length + 1 ≤ s.length := by
  rcases idxB_cases s c with ⟨h1, _⟩ | ⟨a, b, rfl, h2, h3⟩
  · exact absurd (by rw [h1]; decide) h
  · obtain ⟨e1, e2⟩ := bef_at (b := b) h2
    have e3 : (a ++ c :: b).drop (a.length + 1) = b := by rw [List.drop_append, List.drop_eq_nil_of_le (by omega)]; simp
    refine ⟨a, by simp, h3, ?_, ?_, by simp⟩
    · rw [e1]; simp
    · rw [e2, e3, List.take_of_length_le (by simp; omega)]
theorem cutN {s : Tx} {c : UInt8} (h : Lib.indexByte s c < 0) : c ∉ s := by
  rcases idxB_cases s c with ⟨_, h1⟩ | ⟨a, b, _, h2, h3⟩
  · exact h1
  · rw [h3] at h; omega

end Go.Proofs.YtenbjndldenkfaaDoor
