/-
  The law 'CanonTakes' of layer 9: by any lengths, from any octets, symbol by symbol.
-/
import Derived.Test.YtfjhmbgckmhdaaaCanL
namespace Go.Proofs.Ytfjhmbgckmhdaaa
open Go.RowKit

theorem KC_two (l : List Int) : ∀ i, KC (cn l) i ≤ 16384 * atL l i
  | 0 => by simp [KC]
  | i + 1 => by
    have ih := KC_two l i
    have e : KC (cn l) (i + 1) = KC (cn l) i + cn l i * 2 ^ (15 - i) := rfl
    have e2 : atL l (i + 1) = atL l i + cn l i := rfl
    by_cases hi : i = 0
    · subst hi; simp [KC, cn]
    · have h1 : cn l i * 2 ^ (15 - i) ≤ cn l i * 2 ^ 14 := Nat.mul_le_mul_left _ (Nat.pow_le_pow_right (by omega) (by omega))
      omega
/-- Who may be read by is read as far as the document says. -/
theorem most_eq (l : List Int) (h : newE l = 0) : good l ∧ mostC l = mostL l ∧ mostC l ≤ 15 := by
  have hch : chk l ≠ 1 := by
    intro h1
    unfold newE at h
    rw [h1, if_neg (by omega)] at h
    omega
  refine ⟨chk_good hch, ?_⟩
  unfold mostC mostL
  by_cases h2 : chk l = 2
  · rw [if_pos h2]
    unfold newE at h
    split at h
    · rename_i h3
      have : (order l).length < 2 := by rcases h3.2 with h4 | h4 <;> omega
      rw [if_pos this]
      exact ⟨rfl, by omega⟩
    · omega
  · rw [if_neg h2]
    have h0 : chk l = 0 := by
      unfold newE at h
      rw [if_neg (fun h3 => h2 h3.1)] at h
      exact h
    have hk : KC (cn l) 16 = 32768 := by
      unfold chk at h0
      split at h0
      · omega
      · split at h0
        · omega
        · split at h0
          · omega
          · omega
    have := KC_two l 16
    have e := order_len l
    rw [if_neg (by omega)]
    exact ⟨rfl, Nat.le_refl _⟩

end Go.Proofs.Ytfjhmbgckmhdaaa
