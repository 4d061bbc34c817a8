/-
  Codes by their lengths alone: how many codes each length has, the first code of each, the order of the symbols, and what a run of bits is: plain lists, no program.
-/
import Derived.Test.YtfjhmbgckmhdaaaOpen
namespace Go.Proofs.Ytfjhmbgckmhdaaa

/-- How many codes of a length there are. -/
def cn (l : List Int) (n : Nat) : Nat := if n = 0 then 0 else l.count (n : Int)
/-- The first code of each length, from how many there are. -/
def fstF (c : Nat → Nat) : Nat → Nat
  | 0 => 0
  | n + 1 => (fstF c n + c n) * 2
def fst' (l : List Int) : Nat → Nat := fstF (cn l)
/-- How many codes are shorter. -/
def atL (l : List Int) : Nat → Nat
  | 0 => 0
  | n + 1 => atL l n + cn l n
def idxsT (l : List Int) (n m : Nat) : List Nat := if n = 0 then [] else (List.range m).filter fun i => l.getD i 0 = (n : Int)
def idxs (l : List Int) (n : Nat) : List Nat := idxsT l n l.length
/-- The symbols whose codes are shorter than m, in their order. -/
def ordTo (l : List Int) (m : Nat) : List Nat := (List.range m).flatMap (idxs l)
def order (l : List Int) : List Nat := ordTo l 16
def rank (l : List Int) (i : Nat) : Nat := (l.take i).count (l.getD i 0)
def codeOf (l : List Int) (i : Nat) : Nat := fst' l (l.getD i 0).toNat + rank l i

theorem fstF_congr {c d : Nat → Nat} : ∀ n, (∀ m, m < n → c m = d m) → fstF c n = fstF d n
  | 0, _ => rfl
  | n + 1, h => by
    rw [fstF, fstF, fstF_congr n (fun m hm => h m (by omega)), h n (by omega)]
theorem fstF_le (c : Nat → Nat) (b : Nat) (h : ∀ m, c m ≤ b) : ∀ n, fstF c n + 2 * b ≤ 2 * b * 2 ^ n
  | 0 => by simp [fstF]
  | n + 1 => by
    have ih := fstF_le c b h n
    have hc := h n
    rw [fstF, Nat.pow_succ, ← Nat.mul_assoc]
    omega
theorem atL_le (l : List Int) : ∀ n, atL l n ≤ l.length := by
  have key : ∀ n, atL l n = l.countP fun x => decide (1 ≤ x ∧ x < (n : Int)) := by
    intro n
    induction n with
    | zero => rw [atL]; symm; rw [List.countP_eq_zero]; intro x _; simp; omega
    | succ n ih =>
      rw [atL, ih, cn]
      split
      · rename_i h
        subst h
        rw [Nat.add_zero]
        apply List.countP_congr
        intro x _
        simp
        omega
      · rename_i h
        clear ih
        induction l with
        | nil => rfl
        | cons a r ih =>
          rw [List.countP_cons, List.countP_cons, List.count_cons]
          by_cases h1 : a = (n : Int)
          · subst h1
            have h2 : (1 ≤ (n : Int) ∧ (n : Int) < (n : Int) + 1) := by omega
            simp [h2] at ih ⊢
            omega
          · have e : (decide (1 ≤ a ∧ a < ((n + 1 : Nat) : Int))) = decide (1 ≤ a ∧ a < (n : Int)) := by
              rw [decide_eq_decide]; omega
            have e2 : (a == (n : Int)) = false := by simp [h1]
            rw [e, e2]
            simp at ih ⊢
            omega
  intro n
  rw [key n]
  exact List.countP_le_length
theorem fst_cn_le (l : List Int) : ∀ n, fst' l n + cn l n ≤ atL l (n + 1) * 2 ^ n
  | 0 => by simp [fst', fstF, atL]
  | n + 1 => by
    have ih := fst_cn_le l n
    have e : fst' l (n + 1) = (fst' l n + cn l n) * 2 := rfl
    have e2 : atL l (n + 1 + 1) = atL l (n + 1) + cn l (n + 1) := rfl
    have h3 : (atL l (n + 1) + cn l (n + 1)) * (2 ^ n * 2) = atL l (n + 1) * (2 ^ n * 2) + cn l (n + 1) * (2 ^ n * 2) := Nat.add_mul _ _ _
    rw [e, e2, Nat.pow_succ, h3]
    have h1 : cn l (n + 1) ≤ cn l (n + 1) * (2 ^ n * 2) := Nat.le_mul_of_pos_right _ (by have := Nat.two_pow_pos n; omega)
    have h2 : atL l (n + 1) * (2 ^ n * 2) = atL l (n + 1) * 2 ^ n * 2 := by rw [Nat.mul_assoc]
    omega

/-! ### the order of the symbols -/
theorem idxsT_len (l : List Int) (n : Nat) (hn : n ≠ 0) : ∀ m, m ≤ l.length → (idxsT l n m).length = (l.take m).count (n : Int)
  | 0, _ => by simp [idxsT]
  | m + 1, h => by
    have ih := idxsT_len l n hn m (by omega)
    unfold idxsT at ih ⊢
    rw [if_neg hn] at ih ⊢
    rw [List.range_succ, List.filter_append, List.length_append, ih, List.take_add_one, List.getElem?_eq_getElem (by omega), List.count_append]
    congr 1
    by_cases h1 : l[m] = (n : Int)
    · simp [List.getD, List.getElem?_eq_getElem (show m < l.length by omega), h1]
    · simp [List.getD, List.getElem?_eq_getElem (show m < l.length by omega), h1, List.count_singleton]
theorem idxsT_get (l : List Int) (n : Nat) : ∀ m k i, m ≤ l.length → (idxsT l n m)[k]? = some i → i < m ∧ l.getD i 0 = (n : Int) ∧ rank l i = k ∧ n ≠ 0
  | 0, k, i, _, h => by simp [idxsT] at h
  | m + 1, k, i, hm, h => by
    by_cases hn : n = 0
    · simp [idxsT, hn] at h
    have hlen := idxsT_len l n hn m (by omega)
    have ih := idxsT_get l n m k i (by omega)
    have e : idxsT l n (m + 1) = idxsT l n m ++ if l.getD m 0 = (n : Int) then [m] else [] := by
      unfold idxsT
      rw [if_neg hn, if_neg hn, List.range_succ, List.filter_append]
      congr 1
      by_cases h1 : l.getD m 0 = (n : Int)
      · rw [if_pos h1, List.filter_cons_of_pos (by simpa using h1)]; rfl
      · rw [if_neg h1, List.filter_cons_of_neg (by simpa using h1)]; rfl
    rw [e] at h
    by_cases hk : k < (idxsT l n m).length
    · rw [List.getElem?_append_left hk] at h
      obtain ⟨h1, h2⟩ := ih h
      exact ⟨by omega, h2⟩
    · rw [List.getElem?_append_right (by omega)] at h
      split at h
      · rename_i h1
        have hk0 : k - (idxsT l n m).length = 0 := by
          rcases Nat.eq_zero_or_pos (k - (idxsT l n m).length) with h | h'
          · exact h
          · rw [List.getElem?_eq_none (by simp; omega)] at h; cases h
        rw [hk0] at h
        simp at h
        subst h
        refine ⟨by omega, h1, ?_, hn⟩
        unfold rank
        rw [h1, ← hlen]
        omega
      · simp at h
theorem idxs_len (l : List Int) (n : Nat) : (idxs l n).length = cn l n := by
  unfold idxs cn
  split
  · rename_i h; simp [idxsT, h]
  · rename_i h; rw [idxsT_len l n h _ (Nat.le_refl _), List.take_length]
theorem ordTo_succ (l : List Int) (m : Nat) : ordTo l (m + 1) = ordTo l m ++ idxs l m := by simp [ordTo, List.range_succ]
theorem ordTo_len (l : List Int) : ∀ m, (ordTo l m).length = atL l m
  | 0 => rfl
  | m + 1 => by rw [ordTo_succ, List.length_append, ordTo_len l m, idxs_len, atL]
/-- What stands at a place of the order. -/
theorem ordTo_get (l : List Int) : ∀ m t i, (ordTo l m)[t]? = some i → ∃ n, 1 ≤ n ∧ n < m ∧ i < l.length ∧ l.getD i 0 = (n : Int) ∧ t = atL l n + rank l i ∧ rank l i < cn l n
  | 0, t, i, h => by simp [ordTo] at h
  | m + 1, t, i, h => by
    rw [ordTo_succ] at h
    by_cases ht : t < (ordTo l m).length
    · rw [List.getElem?_append_left ht] at h
      obtain ⟨n, h1, h2, h3⟩ := ordTo_get l m t i h
      exact ⟨n, h1, by omega, h3⟩
    · rw [List.getElem?_append_right (by omega), ordTo_len] at h
      obtain ⟨h1, h2, h3, h4⟩ := idxsT_get l m _ _ _ (Nat.le_refl _) h
      have h5 := (List.getElem?_eq_some_iff.1 h).1
      rw [idxs_len] at h5
      rw [ordTo_len] at ht
      exact ⟨m, by omega, by omega, h1, h2, by omega, by omega⟩
theorem atL_mono (l : List Int) {a b : Nat} (h : a ≤ b) : atL l a ≤ atL l b := by
  induction b with
  | zero => have : a = 0 := by omega
            subst this; exact Nat.le_refl _
  | succ b ih =>
    by_cases hab : a = b + 1
    · subst hab; exact Nat.le_refl _
    · have := ih (by omega)
      rw [atL]
      omega
theorem ordTo_at (l : List Int) (n k : Nat) (hk : k < cn l n) : ∀ m, n < m → ∃ i, (ordTo l m)[atL l n + k]? = some i ∧ i < l.length ∧ l.getD i 0 = (n : Int) ∧ rank l i = k
  | 0, h => by omega
  | m + 1, h => by
    have hlen := ordTo_len l m
    rw [ordTo_succ]
    by_cases hm : n < m
    · obtain ⟨i, h1, h2⟩ := ordTo_at l n k hk m hm
      refine ⟨i, ?_, h2⟩
      rw [List.getElem?_append_left (List.getElem?_eq_some_iff.1 h1).1]
      exact h1
    · have : n = m := by omega
      subst this
      have hk2 : k < (idxs l n).length := by rw [idxs_len]; exact hk
      rw [List.getElem?_append_right (by omega), hlen, Nat.add_sub_cancel_left, List.getElem?_eq_getElem hk2]
      have h3 := List.getElem?_eq_getElem hk2
      obtain ⟨h4, h5, h6, _⟩ := idxsT_get l n _ _ _ (Nat.le_refl _) h3
      exact ⟨_, rfl, h4, h5, h6⟩
/-- Between two lengths with no symbols between, the first code is doubled. -/
theorem fst_jump (l : List Int) (n : Nat) : ∀ d, atL l (n + 1 + d) = atL l (n + 1) → fst' l (n + 1 + d) = fst' l (n + 1) * 2 ^ d
  | 0, _ => by simp
  | d + 1, h => by
    have h1 : atL l (n + 1 + d) ≤ atL l (n + 1 + (d + 1)) := atL_mono l (by omega)
    have h2 : atL l (n + 1) ≤ atL l (n + 1 + d) := atL_mono l (by omega)
    have h3 := fst_jump l n d (by omega)
    have e : atL l (n + 1 + (d + 1)) = atL l (n + 1 + d) + cn l (n + 1 + d) := rfl
    have e2 : fst' l (n + 1 + (d + 1)) = (fst' l (n + 1 + d) + cn l (n + 1 + d)) * 2 := rfl
    have h4 : cn l (n + 1 + d) = 0 := by omega
    rw [e2, h4, h3, Nat.pow_succ, Nat.add_zero, Nat.mul_assoc]
/-- The code of the next symbol. -/
theorem code_next (l : List Int) (m t i j n n' : Nat) (h1 : (ordTo l m)[t]? = some i) (h2 : (ordTo l m)[t + 1]? = some j) (hn : l.getD i 0 = (n : Int)) (hn' : l.getD j 0 = (n' : Int)) :
    n ≤ n' ∧ codeOf l j = (codeOf l i + 1) * 2 ^ (n' - n) := by
  obtain ⟨a, ha1, ha2, _, ha3, ha4, ha5⟩ := ordTo_get l m t i h1
  obtain ⟨b, hb1, hb2, _, hb3, hb4, hb5⟩ := ordTo_get l m _ j h2
  have : a = n := by omega
  subst this
  have : b = n' := by omega
  subst this
  have hle : a ≤ b := by
    rcases Nat.lt_or_ge b a with h | h
    · have := atL_mono l (show b + 1 ≤ a by omega)
      have e : atL l (b + 1) = atL l b + cn l b := rfl
      omega
    · exact h
  refine ⟨hle, ?_⟩
  unfold codeOf
  rw [ha3, hb3, Int.toNat_natCast, Int.toNat_natCast]
  by_cases hab : a = b
  · subst hab
    rw [Nat.sub_self, Nat.pow_zero]
    omega
  · have e : atL l (a + 1) = atL l a + cn l a := rfl
    have hm := atL_mono l (show a + 1 ≤ b by omega)
    have h3 : rank l i + 1 = cn l a := by omega
    have h4 : rank l j = 0 := by omega
    obtain ⟨d, rfl⟩ : ∃ d, b = a + 1 + d := ⟨b - (a + 1), by omega⟩
    have hj := fst_jump l a d (by omega)
    have e2 : fst' l (a + 1) = (fst' l a + cn l a) * 2 := rfl
    rw [hj, h4, e2, ← h3, show a + 1 + d - a = d + 1 by omega, Nat.pow_succ, Nat.add_zero, Nat.mul_assoc, Nat.mul_comm 2, ← Nat.add_assoc]
/-- The code of the first symbol. -/
theorem code_first (l : List Int) (m j : Nat) (h : (ordTo l m)[0]? = some j) : codeOf l j = 0 := by
  obtain ⟨b, hb1, hb2, _, hb3, hb4, hb5⟩ := ordTo_get l m _ j h
  unfold codeOf
  rw [hb3, Int.toNat_natCast]
  obtain ⟨d, rfl⟩ : ∃ d, b = 0 + 1 + d := ⟨b - 1, by omega⟩
  have h0 : atL l (0 + 1) = 0 := by simp [atL, cn]
  have := fst_jump l 0 d (by omega)
  rw [this]
  simp [fst', fstF, cn]
  omega
theorem fst_small (l : List Int) (hl : l.length ≤ 320) (n : Nat) (hn : n ≤ 15) : fst' l n + cn l n ≤ 10485760 := by
  have h1 := fst_cn_le l n
  have h2 := atL_le l (n + 1)
  have h3 : 2 ^ n ≤ 2 ^ 15 := Nat.pow_le_pow_right (by omega) hn
  have h4 : atL l (n + 1) * 2 ^ n ≤ 320 * 2 ^ 15 := Nat.mul_le_mul (by omega) h3
  omega
/-- A symbol's code and its length. -/
def codeC (l : List Int) (i : Nat) : Nat × Int := if l.getD i 0 = 0 then (0, 0) else (codeOf l i, l.getD i 0)
def codesL (l : List Int) : List (Nat × Int) := (List.range l.length).map (codeC l)
/-- The codes of the first i symbols, and noughts. -/
def codesT (l : List Int) (i : Nat) : List (Nat × Int) := (List.range l.length).map fun j => if j < i then codeC l j else (0, 0)
theorem codesT_set (l : List Int) (i : Nat) : (codesT l i).set i (codeC l i) = codesT l (i + 1) := by
  apply List.ext_getElem?
  intro j
  unfold codesT
  simp only [List.getElem?_set, List.length_map, List.length_range, List.getElem?_map]
  by_cases h : i = j
  · subst h
    by_cases h2 : i < l.length
    · simp [h2]
    · simp [h2]
  · by_cases h2 : j < l.length
    · by_cases h3 : j < i
      · simp [h, h2, h3, show j < i + 1 by omega]
      · simp [h, h2, h3, show ¬ j < i + 1 by omega]
    · simp [h, h2]
theorem codesT_same (l : List Int) (i : Nat) (h : l.getD i 0 = 0) : codesT l (i + 1) = codesT l i := by
  unfold codesT
  apply List.map_congr_left
  intro j _
  by_cases h1 : j < i
  · simp [h1, show j < i + 1 by omega]
  · by_cases h2 : j = i
    · subst h2
      simp only [Nat.lt_succ_self, if_true, Nat.lt_irrefl, if_false]
      unfold codeC
      rw [if_pos h]
    · simp [h1, show ¬ j < i + 1 by omega]
theorem codesT_all (l : List Int) : codesT l l.length = codesL l := by
  unfold codesT codesL
  apply List.map_congr_left
  intro j hj
  simp at hj
  simp [hj]
/-- The symbol of a code of so many bits. -/
def hit (l : List Int) (n v : Nat) : Option Nat := if fst' l n ≤ v ∧ v - fst' l n < cn l n then some ((order l).getD (atL l n + (v - fst' l n)) 0) else none
/-- What is taken: the symbol, the place behind it, and what is wrong. -/
def tk (l : List Int) (L : List Bool) : Nat → Nat → Nat → Nat → Nat × Nat × Nat
  | 0, _, _, p => (0, p, 11)
  | m + 1, n, v, p => match L[p]? with
    | none => (0, p, 2)
    | some b => match hit l n (2 * v + b.toNat) with
      | some i => (i, p + 1, 0)
      | none => tk l L m (n + 1) (2 * v + b.toNat) (p + 1)

/-! ### the document's way -/
theorem rank_lt (l : List Int) (i j : Nat) (hij : i < j) (hj : j < l.length) (h : l.getD i 0 = l.getD j 0) : rank l i < rank l j := by
  unfold rank
  rw [← h]
  have h1 : l.take (i + 1) = l.take i ++ [l.getD i 0] := by
    rw [List.take_add_one, List.getElem?_eq_getElem (by omega)]
    simp [List.getD, List.getElem?_eq_getElem (show i < l.length by omega)]
  have h2 : (l.take (i + 1)).count (l.getD i 0) ≤ (l.take j).count (l.getD i 0) := by
    have : l.take (i + 1) = (l.take j).take (i + 1) := by rw [List.take_take, Nat.min_eq_left (by omega)]
    rw [this]
    exact (List.take_sublist _ _).count_le _
  rw [h1, List.count_append] at h2
  simp at h2 ⊢
  omega
theorem rank_lt_cn (l : List Int) (i n : Nat) (hi : i < l.length) (hn : n ≠ 0) (h : l.getD i 0 = (n : Int)) : rank l i < cn l n := by
  unfold rank cn
  rw [if_neg hn, h]
  have h1 : l.take (i + 1) = l.take i ++ [l.getD i 0] := by
    rw [List.take_add_one, List.getElem?_eq_getElem (by omega)]
    simp [List.getD, List.getElem?_eq_getElem (show i < l.length by omega)]
  have h2 : (l.take (i + 1)).count (n : Int) ≤ l.count (n : Int) := (List.take_sublist _ _).count_le _
  rw [h1, List.count_append, h] at h2
  simp at h2 ⊢
  omega
theorem hit_iff (l : List Int) (n v i : Nat) (hn1 : 1 ≤ n) (hn15 : n ≤ 15) : hit l n v = some i ↔ i < l.length ∧ codeC l i = (v, (n : Int)) := by
  unfold hit
  constructor
  · intro h
    split at h
    · rename_i hc
      obtain ⟨i', h1, h2, h3, h4⟩ := ordTo_at l n _ hc.2 16 (by omega)
      simp only [order, List.getD, h1, Option.getD_some, Option.some.injEq] at h
      subst h
      refine ⟨h2, ?_⟩
      unfold codeC codeOf
      rw [h3, if_neg (by omega), Int.toNat_natCast, h4]
      congr 1
      omega
    · cases h
  · rintro ⟨h1, h2⟩
    unfold codeC at h2
    split at h2
    · simp at h2; omega
    · simp only [Prod.mk.injEq] at h2
      obtain ⟨h3, h4⟩ := h2
      unfold codeOf at h3
      rw [h4, Int.toNat_natCast] at h3
      have h5 := rank_lt_cn l i n h1 (by omega) h4
      have h6 : v - fst' l n = rank l i := by omega
      rw [if_pos ⟨by omega, by omega⟩, h6]
      obtain ⟨j, g1, g2, g3, g4⟩ := ordTo_at l n _ h5 16 (by omega)
      simp only [order, List.getD, g1, Option.getD_some, Option.some.injEq]
      rcases Nat.lt_trichotomy i j with h | h | h
      · have := rank_lt l i j h g2 (by rw [h4, g3]); omega
      · exact h.symm
      · have := rank_lt l j i h h1 (by rw [h4, g3]); omega
/-- The codes of the first symbols of the order, and noughts. -/
def codesO (l : List Int) (t : Nat) : List (Nat × Int) := (List.range l.length).map fun j => if j ∈ (order l).take t then codeC l j else (0, 0)
theorem codesO_set (l : List Int) (t j : Nat) (h : (order l)[t]? = some j) : (codesO l t).set j (codeC l j) = codesO l (t + 1) := by
  apply List.ext_getElem?
  intro i
  have hmem : ∀ x, x ∈ (order l).take (t + 1) ↔ x ∈ (order l).take t ∨ x = j := by
    intro x
    rw [List.take_add_one, h]
    simp
  unfold codesO
  simp only [List.getElem?_set, List.length_map, List.length_range, List.getElem?_map, hmem]
  by_cases hij : j = i
  · subst hij
    by_cases h2 : j < l.length <;> simp [h2]
  · have hij' : ¬ i = j := fun e => hij e.symm
    by_cases h2 : i < l.length <;> simp [h2, hij, hij']
theorem codesO_all (l : List Int) (hg : ∀ x ∈ l, 0 ≤ x ∧ x ≤ 15) : codesO l (order l).length = codesL l := by
  unfold codesO codesL
  apply List.map_congr_left
  intro j hj
  simp at hj
  rw [List.take_length]
  split
  · rfl
  · rename_i h
    unfold codeC
    split
    · rfl
    · rename_i h2
      exfalso
      apply h
      have hx := hg l[j] (List.getElem_mem hj)
      have hgt : l.getD j 0 = l[j] := by simp [List.getD, List.getElem?_eq_getElem hj]
      unfold order ordTo
      rw [List.mem_flatMap]
      refine ⟨l[j].toNat, by simp; omega, ?_⟩
      unfold idxs idxsT
      rw [if_neg (by omega)]
      simp only [List.mem_filter, List.mem_range, decide_eq_true_eq]
      exact ⟨hj, by rw [hgt]; omega⟩
/-- The length of the symbol ahead, and its code, as the document's way keeps them. -/
def wasL (l : List Int) (t : Nat) : Nat := if t = 0 then 0 else (l.getD ((order l).getD (t - 1) 0) 0).toNat
def codeP (l : List Int) (t : Nat) : Nat := if t = 0 then 0 else codeOf l ((order l).getD (t - 1) 0)
theorem codeP_step (l : List Int) (t j n : Nat) (h : (order l)[t]? = some j) (hn : l.getD j 0 = (n : Int)) : wasL l t ≤ n ∧ (if t = 0 then 0 else codeP l t + 1) * 2 ^ (n - wasL l t) = codeOf l j := by
  by_cases ht : t = 0
  · subst ht
    simp only [wasL, codeP, if_true]
    exact ⟨by omega, by rw [Nat.zero_mul, code_first l 16 j h]⟩
  · obtain ⟨s, rfl⟩ : ∃ s, t = s + 1 := ⟨t - 1, by omega⟩
    have hs : s < (order l).length := by have := (List.getElem?_eq_some_iff.1 h).1; omega
    have h1 := List.getElem?_eq_getElem hs
    obtain ⟨n0, g1, g2, _, g3, _⟩ := ordTo_get l 16 s _ h1
    obtain ⟨k1, k2⟩ := code_next l 16 s _ j n0 n h1 h g3 hn
    have e1 : (order l).getD (s + 1 - 1) 0 = (order l)[s] := by simp [List.getD, h1]
    unfold wasL codeP
    rw [if_neg ht, if_neg ht, if_neg ht, e1, g3, Int.toNat_natCast]
    exact ⟨k1, k2.symm⟩
/-- The order's symbols have codes of one bit up to fifteen. -/
theorem order_get (l : List Int) (t j : Nat) (h : (order l)[t]? = some j) : ∃ n : Nat, 1 ≤ n ∧ n ≤ 15 ∧ j < l.length ∧ l.getD j 0 = (n : Int) ∧ t = atL l n + rank l j ∧ rank l j < cn l n := by
  obtain ⟨n, h1, h2, h3⟩ := ordTo_get l 16 t j h
  exact ⟨n, h1, by omega, h3⟩
theorem order_len (l : List Int) : (order l).length = atL l 16 := ordTo_len l 16
/-- One symbol alone: its code has one bit just if a code of one bit there is. -/
theorem order_one (l : List Int) (j : Nat) (hl : (order l).length = 1) (h : (order l)[0]? = some j) : l.getD j 0 = 1 ↔ cn l 1 = 1 := by
  obtain ⟨n, h1, h2, h3, h4, h5, h6⟩ := order_get l 0 j h
  have e := order_len l
  have a2 : atL l 2 = cn l 1 := by simp [atL, cn]
  have m2 := atL_mono l (show 2 ≤ 16 by omega)
  constructor
  · intro h7
    have : n = 1 := by omega
    subst this
    omega
  · intro h7
    by_cases hn : n = 1
    · subst hn; exact h4
    · have := atL_mono l (show 2 ≤ n by omega)
      omega
end Go.Proofs.Ytfjhmbgckmhdaaa
