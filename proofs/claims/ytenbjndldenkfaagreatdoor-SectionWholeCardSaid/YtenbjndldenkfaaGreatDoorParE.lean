/-
  The text of a rune that is 128 or more.
-/
import Derived.Test.YtenbjndldenkfaaGreatDoorParD
namespace Go.Proofs.YtenbjndldenkfaaGreatDoor
open Go.RowKit
theorem enc_wide (r : Int) (h : 128 ≤ r) : ∃ a : List UInt8, ∃ z : UInt8, (Utf8.encode r).data.toList = a ++ [z] ∧ 1 ≤ a.length ∧ a.length ≤ 3 ∧ 128 ≤ z.toNat := by
  have hz : ∀ c : Nat, 128 ≤ (UInt8.ofNat (0x80 + c % 64)).toNat := fun c => by
    rw [UInt8.toNat_ofNat', Nat.mod_eq_of_lt (by omega)]
    omega
  unfold Utf8.encode
  have hc : ¬ (if Utf8.valid r = true then r.toNat else Utf8.runeError) < 0x80 := by
    split
    · omega
    · decide
  dsimp only
  generalize (if Utf8.valid r = true then r.toNat else Utf8.runeError) = c at *
  rw [if_neg hc]
  split
  · exact ⟨[_], _, rfl, by simp, by simp, hz _⟩
  · split
    · exact ⟨[_, _], _, rfl, by simp, by simp, hz _⟩
    · exact ⟨[_, _, _], _, rfl, by simp, by simp, hz _⟩
end Go.Proofs.YtenbjndldenkfaaGreatDoor
