/-
  Heaps in a row, by keys: a new last one rises, one at the top sinks: plain functions of places, no program.
-/
import Derived.Test.YtebaojedpnnliaaOpen
namespace Go.Proofs.Ytebaojedpnnliaa

/-- Two places change. -/
def sw (k : Nat → Nat) (i j : Nat) : Nat → Nat := fun x => if x = i then k j else if x = j then k i else k x
def HeapOk (k : Nat → Nat) (n : Nat) : Prop := ∀ i, 0 < i → i < n → k ((i - 1) / 2) ≤ k i
/-- A heap but for one that may rise. -/
def UpInv (k : Nat → Nat) (j n : Nat) : Prop :=
  (∀ i, 0 < i → i < n → i ≠ j → k ((i - 1) / 2) ≤ k i) ∧ ∀ i, 0 < i → i < n → (i - 1) / 2 = j → 0 < j → k ((j - 1) / 2) ≤ k i
/-- A heap but for one that may sink. -/
def DownInv (k : Nat → Nat) (j n : Nat) : Prop :=
  (∀ i, 0 < i → i < n → (i - 1) / 2 ≠ j → k ((i - 1) / 2) ≤ k i) ∧ ∀ i, 0 < i → i < n → (i - 1) / 2 = j → 0 < j → k ((j - 1) / 2) ≤ k i

theorem rise_of_heap {k : Nat → Nat} {n : Nat} (h : HeapOk k n) : UpInv k n (n + 1) :=
  ⟨fun i h0 hi hij => h i h0 (by omega), fun i h0 hi hp _ => by omega⟩
theorem rise_step {k : Nat → Nat} {j n : Nat} (h : UpInv k j n) (hj : 0 < j) (hjn : j < n) (hlt : k j < k ((j - 1) / 2)) : UpInv (sw k ((j - 1) / 2) j) ((j - 1) / 2) n := by
  obtain ⟨h1, h2⟩ := h
  have hpj : (j - 1) / 2 < j := by omega
  generalize hp : (j - 1) / 2 = p at *
  have hjp : ¬ j = p := by omega
  constructor
  · intro i h0 hi hip
    by_cases hij : i = j
    · subst hij
      unfold sw
      rw [hp, if_pos rfl, if_neg hjp, if_pos rfl]
      omega
    · by_cases hq : (i - 1) / 2 = p
      · have := h1 i h0 hi hij
        unfold sw
        rw [hq] at this ⊢
        rw [if_pos rfl, if_neg hip, if_neg hij]
        omega
      · by_cases hq2 : (i - 1) / 2 = j
        · have := h2 i h0 hi hq2 hj
          unfold sw
          rw [hq2, if_neg hjp, if_pos rfl, if_neg hip, if_neg hij]
          omega
        · have := h1 i h0 hi hij
          unfold sw
          rw [if_neg hq, if_neg hq2, if_neg hip, if_neg hij]
          omega
  · intro i h0 hi hip hp0
    have hqp : (p - 1) / 2 < p := by omega
    have hpp := h1 p hp0 (by omega) (by omega)
    by_cases hij : i = j
    · subst hij
      unfold sw
      rw [if_neg (by omega), if_neg (by omega), if_neg hjp, if_pos rfl]
      exact hpp
    · have h3 := h1 i h0 hi hij
      rw [hip] at h3
      unfold sw
      rw [if_neg (by omega), if_neg (by omega), if_neg (by omega), if_neg hij]
      omega
theorem rise_end {k : Nat → Nat} {j n : Nat} (h : UpInv k j n) (hj : j = 0 ∨ ¬ k j < k ((j - 1) / 2)) : HeapOk k n := by
  intro i h0 hi
  by_cases hij : i = j
  · subst hij
    rcases hj with h3 | h3
    · omega
    · omega
  · exact h.1 i h0 hi hij
/-- When the top goes and the last one stands there. -/
theorem sink_of_heap {k : Nat → Nat} {n : Nat} (h : HeapOk k (n + 1)) : DownInv (sw k 0 n) 0 n := by
  constructor
  · intro i h0 hi hp
    have := h i h0 (by omega)
    unfold sw
    rw [if_neg hp, if_neg (by omega), if_neg (by omega), if_neg (by omega)]
    exact this
  · intro i _ _ _ h0
    omega
theorem sink_step {k : Nat → Nat} {i j n : Nat} (h : DownInv k i n) (hj : (j - 1) / 2 = i) (hj0 : 0 < j) (hjn : j < n) (hlt : k j < k i) (hmin : ∀ c, 0 < c → c < n → (c - 1) / 2 = i → k j ≤ k c) : DownInv (sw k i j) j n := by
  obtain ⟨h1, h2⟩ := h
  have hij : i < j := by omega
  constructor
  · intro c h0 hc hp
    by_cases hci : c = i
    · subst hci
      -- its parent and it: what comes up is at least the parent
      have h3 := h2 j hj0 hjn hj h0
      unfold sw
      rw [if_neg (by omega), if_neg hp, if_pos rfl]
      omega
    · by_cases hcj : c = j
      · subst hcj
        unfold sw
        rw [hj, if_pos rfl, if_neg (by omega), if_pos rfl]
        omega
      · by_cases hpi : (c - 1) / 2 = i
        · have := hmin c h0 hc hpi
          unfold sw
          rw [hpi, if_pos rfl, if_neg hci, if_neg hcj]
          omega
        · have := h1 c h0 hc hpi
          unfold sw
          rw [if_neg hpi, if_neg hp, if_neg hci, if_neg hcj]
          exact this
  · intro c h0 hc hp hj1
    have h3 := h1 c h0 hc (by omega)
    unfold sw
    rw [hj, if_pos rfl, if_neg (by omega), if_neg (by omega)]
    rw [hp] at h3
    exact h3
theorem sink_end {k : Nat → Nat} {i n : Nat} (h : DownInv k i n) (hd : ∀ c, 0 < c → c < n → (c - 1) / 2 = i → k i ≤ k c) : HeapOk k n := by
  intro c h0 hc
  by_cases hp : (c - 1) / 2 = i
  · rw [hp]; exact hd c h0 hc hp
  · exact h.1 c h0 hc hp
/-- The top is the least. -/
theorem heap_top {k : Nat → Nat} {n : Nat} (h : HeapOk k n) : ∀ i, i < n → k 0 ≤ k i := by
  intro i
  induction i using Nat.strongRecOn with
  | _ i ih =>
    intro hi
    by_cases h0 : i = 0
    · subst h0; exact Nat.le_refl _
    · have h1 := h i (by omega) hi
      have h2 := ih ((i - 1) / 2) (by omega) (by omega)
      omega
end Go.Proofs.Ytebaojedpnnliaa
