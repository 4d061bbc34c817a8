/-
  A rune of several octets: each of them is 128 or more.
-/
import Derived.Test.YtenbjndldenkfaaGreatDoorEngC
import Derived.Laws.RangeString
namespace Go.Proofs.YtenbjndldenkfaaGreatDoor
open Go.RowKit
theorem dec_wide (s : ByteArray) (i : Nat) (h : i < s.size) (hb : 128 ≤ (s.get! i).toNat) :
    ∃ r n, Utf8.decode s i = (r, n) ∧ 128 ≤ r ∧ 1 ≤ n ∧ ∀ k, k < n → 128 ≤ (s.get! (i + k)).toNat ∧ i + k < s.size := by
  have h0 : ¬ (s.get! (i + 0)).toNat < 128 := by simpa using hb
  have one : ∀ k, k < 1 → 128 ≤ (s.get! (i + k)).toNat ∧ i + k < s.size := fun k hk => by
    have : k = 0 := by omega
    subst this
    exact ⟨by simpa using hb, h⟩
  have cont : ∀ k, (decide (i + k < s.size) && ((s.get! (i + k)).toNat / 64 == 2)) = true → 128 ≤ (s.get! (i + k)).toNat ∧ i + k < s.size := fun k hk => by
    simp only [Bool.and_eq_true, decide_eq_true_eq, beq_iff_eq] at hk
    exact ⟨by omega, hk.1⟩
  have err : (128 : Nat) ≤ Utf8.runeError := by decide
  unfold Utf8.decode
  dsimp only
  rw [if_neg h0]
  split
  · rename_i h1
    simp only [Bool.and_eq_true] at h1
    have c1 := cont 1 (by simpa using h1.2)
    split
    · refine ⟨_, _, rfl, by omega, by omega, fun k hk => ?_⟩
      match k, hk with
      | 0, _ => exact one 0 (by omega)
      | 1, _ => exact c1
    · exact ⟨_, _, rfl, err, by omega, one⟩
  · split
    · rename_i h1
      simp only [Bool.and_eq_true] at h1
      have c1 := cont 1 (by simpa using h1.1.2)
      have c2 := cont 2 (by simpa using h1.2)
      split
      · rename_i h2
        simp only [Bool.and_eq_true, decide_eq_true_eq] at h2
        refine ⟨_, _, rfl, by omega, by omega, fun k hk => ?_⟩
        match k, hk with
        | 0, _ => exact one 0 (by omega)
        | 1, _ => exact c1
        | 2, _ => exact c2
      · exact ⟨_, _, rfl, err, by omega, one⟩
    · split
      · rename_i h1
        simp only [Bool.and_eq_true] at h1
        have c1 := cont 1 (by simpa using h1.1.1.2)
        have c2 := cont 2 (by simpa using h1.1.2)
        have c3 := cont 3 (by simpa using h1.2)
        split
        · rename_i h2
          simp only [Bool.and_eq_true, decide_eq_true_eq] at h2
          refine ⟨_, _, rfl, by omega, by omega, fun k hk => ?_⟩
          match k, hk with
          | 0, _ => exact one 0 (by omega)
          | 1, _ => exact c1
          | 2, _ => exact c2
          | 3, _ => exact c3
        · exact ⟨_, _, rfl, err, by omega, one⟩
      · exact ⟨_, _, rfl, err, by omega, one⟩
end Go.Proofs.YtenbjndldenkfaaGreatDoor
