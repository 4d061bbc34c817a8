/-
  Days and years, in plain numbers.
-/
import Derived.Test.YtmfglifjnoilnaaEng4
namespace Go.Proofs.Ytmfglifjnoilnaa

/-- Has a year a day more? -/
def Leap (y : Nat) : Prop := y % 4 = 0 ∧ y % 100 ≠ 0 ∨ y % 400 = 0
instance (y : Nat) : Decidable (Leap y) := by unfold Leap; infer_instance
/-- The days of a month. -/
def longN (y m : Nat) : Nat := if m = 2 then (if Leap y then 29 else 28) else if m = 4 ∨ m = 6 ∨ m = 9 ∨ m = 11 then 30 else 31
/-- The days of a year. -/
def wholeN (y : Nat) : Nat := if Leap y then 366 else 365
/-- The days ahead of a year, from year 1 on. -/
def aheadN (y : Nat) : Nat := 365 * (y - 1) + (y - 1) / 4 - (y - 1) / 100 + (y - 1) / 400
/-- The days of a year ahead of a month. -/
def beforeN (y : Nat) : Nat → Nat
  | 0 => 0
  | 1 => 0
  | m + 2 => beforeN y (m + 1) + longN y (m + 1)
theorem long_pos (y m : Nat) : 28 ≤ longN y m ∧ longN y m ≤ 31 := by
  unfold longN
  by_cases h1 : m = 2
  · rw [if_pos h1]; split <;> omega
  · rw [if_neg h1]; split <;> omega
theorem whole_pos (y : Nat) : 365 ≤ wholeN y ∧ wholeN y ≤ 366 := by unfold wholeN; split <;> omega
theorem ahead_succ (y : Nat) (h : 1 ≤ y) : aheadN (y + 1) = aheadN y + wholeN y := by
  obtain ⟨x, rfl⟩ : ∃ x, y = x + 1 := ⟨y - 1, by omega⟩
  have d4 : ((x + 1) % 4 = 0 ∧ (x + 1) / 4 = x / 4 + 1) ∨ ((x + 1) % 4 ≠ 0 ∧ (x + 1) / 4 = x / 4) := by omega
  have d100 : ((x + 1) % 100 = 0 ∧ (x + 1) / 100 = x / 100 + 1) ∨ ((x + 1) % 100 ≠ 0 ∧ (x + 1) / 100 = x / 100) := by omega
  have d400 : ((x + 1) % 400 = 0 ∧ (x + 1) / 400 = x / 400 + 1) ∨ ((x + 1) % 400 ≠ 0 ∧ (x + 1) / 400 = x / 400) := by omega
  have i1 : (x + 1) % 400 = 0 → (x + 1) % 100 = 0 := by omega
  have i2 : (x + 1) % 100 = 0 → (x + 1) % 4 = 0 := by omega
  have i3 : x / 100 ≤ x / 4 := by omega
  have i4 : (x + 1) / 100 ≤ (x + 1) / 4 := by omega
  unfold aheadN wholeN
  by_cases hl : Leap (x + 1)
  · rw [if_pos hl]; unfold Leap at hl; simp only [Nat.add_sub_cancel]
    generalize (x + 1) % 4 = m4 at *
    generalize (x + 1) % 100 = m100 at *
    generalize (x + 1) % 400 = m400 at *
    generalize (x + 1) / 4 = a4 at *
    generalize (x + 1) / 100 = a100 at *
    generalize (x + 1) / 400 = a400 at *
    generalize x / 4 = b4 at *
    generalize x / 100 = b100 at *
    generalize x / 400 = b400 at *
    omega
  · rw [if_neg hl]; unfold Leap at hl; simp only [Nat.add_sub_cancel]
    generalize (x + 1) % 4 = m4 at *
    generalize (x + 1) % 100 = m100 at *
    generalize (x + 1) % 400 = m400 at *
    generalize (x + 1) / 4 = a4 at *
    generalize (x + 1) / 100 = a100 at *
    generalize (x + 1) / 400 = a400 at *
    generalize x / 4 = b4 at *
    generalize x / 100 = b100 at *
    generalize x / 400 = b400 at *
    omega
theorem before_succ (y m : Nat) (h : 1 ≤ m) : beforeN y (m + 1) = beforeN y m + longN y m := by
  obtain ⟨x, rfl⟩ : ∃ x, m = x + 1 := ⟨m - 1, by omega⟩
  rfl
theorem sum12 (f g : Nat → Nat) (h1 : f 1 = 0) (h : ∀ m, 1 ≤ m → f (m + 1) = f m + g m) : f 13 = g 1 + g 2 + g 3 + g 4 + g 5 + g 6 + g 7 + g 8 + g 9 + g 10 + g 11 + g 12 := by
  rw [h 12 (by omega), h 11 (by omega), h 10 (by omega), h 9 (by omega), h 8 (by omega), h 7 (by omega), h 6 (by omega), h 5 (by omega), h 4 (by omega), h 3 (by omega), h 2 (by omega), h 1 (by omega), h1]
  omega
theorem before_end (y : Nat) : beforeN y 13 = wholeN y := by
  rw [sum12 (beforeN y) (longN y) rfl (before_succ y)]
  unfold longN wholeN
  by_cases hl : Leap y
  · simp [hl]
  · simp [hl]
theorem ahead_top (y : Nat) (h : aheadN y ≤ 3652058) : y ≤ 9999 := by unfold aheadN at h; omega
theorem ahead_low (n : Nat) : n < aheadN (n / 365 + 1 + 1) := by unfold aheadN; omega
theorem ahead_one : aheadN 1 = 0 := rfl
theorem ahead_le (y : Nat) (h : y ≤ 20000) : aheadN y ≤ 365 * y + y := by unfold aheadN; omega
/-- The day that a number tells. -/
def CivOf (n : Int) (y m d : Nat) : Prop := 1 ≤ y ∧ y ≤ 9999 ∧ 1 ≤ m ∧ m ≤ 12 ∧ 1 ≤ d ∧ d ≤ longN y m ∧ n + 719162 = ((aheadN y + beforeN y m + (d - 1) : Nat) : Int)
/-- May a date be? -/
def DateOk (sec zone : Int) : Prop := -1439 ≤ zone ∧ zone ≤ 1439 ∧ -719162 * 86400 ≤ sec + 60 * zone ∧ sec + 60 * zone < 2932897 * 86400
instance (a b : Int) : Decidable (DateOk a b) := by unfold DateOk; infer_instance
/-- Whole days of seconds, and the seconds that are left. -/
theorem split_div (s : Int) : (if s.tmod 86400 < 0 then s.tdiv 86400 - 1 else s.tdiv 86400) = s / 86400 := by
  have h1 := Int.tmod_add_mul_tdiv s 86400
  have h2 := Int.tmod_lt_of_pos s (b := 86400) (by decide)
  have h3 := Int.lt_tmod_of_pos s (b := 86400) (by decide)
  split <;> omega
end Go.Proofs.Ytmfglifjnoilnaa
