/-
  Package-merge on plain lists: the levels, how much they hold, and the lengths.
-/
import Derived.Test.YtebaojedpnnliaaLimN
namespace Go.Proofs.Ytebaojedpnnliaa
open Go.RowKit

def totC (l : List (Nat × List Nat)) : Nat := (l.map Prod.fst).sum
def totS (l : List (Nat × List Nat)) : Nat := (l.map fun p => p.2.length).sum
theorem totC_merge : ∀ (a b : List (Nat × List Nat)), totC (mergeP a b) = totC a + totC b
  | [], b => by simp [mergeP, totC]
  | c :: cs, [] => by simp [mergeP, totC]
  | c :: cs, p :: ps => by
    rw [mergeP]
    split
    · have := totC_merge cs (p :: ps)
      simp [totC] at this ⊢
      omega
    · have := totC_merge (c :: cs) ps
      simp [totC] at this ⊢
      omega
  termination_by a b => a.length + b.length
theorem totS_merge : ∀ (a b : List (Nat × List Nat)), totS (mergeP a b) = totS a + totS b
  | [], b => by simp [mergeP, totS]
  | c :: cs, [] => by simp [mergeP, totS]
  | c :: cs, p :: ps => by
    rw [mergeP]
    split
    · have := totS_merge cs (p :: ps)
      simp [totS] at this ⊢
      omega
    · have := totS_merge (c :: cs) ps
      simp [totS] at this ⊢
      omega
  termination_by a b => a.length + b.length
theorem len_merge : ∀ (a b : List (Nat × List Nat)), (mergeP a b).length = a.length + b.length
  | [], b => by simp [mergeP]
  | c :: cs, [] => by simp [mergeP]
  | c :: cs, p :: ps => by
    rw [mergeP]
    split
    · have := len_merge cs (p :: ps)
      simp at this ⊢
      omega
    · have := len_merge (c :: cs) ps
      simp at this ⊢
      omega
  termination_by a b => a.length + b.length
theorem totC_pairs : ∀ (l : List (Nat × List Nat)), totC (pairsP l) ≤ totC l
  | [] => by simp [pairsP]
  | [a] => by simp [pairsP, totC]
  | a :: b :: r => by
    have := totC_pairs r
    simp [pairsP, totC, both2] at this ⊢
    omega
theorem totS_pairs : ∀ (l : List (Nat × List Nat)), totS (pairsP l) ≤ totS l
  | [] => by simp [pairsP]
  | [a] => by simp [pairsP, totS]
  | a :: b :: r => by
    have := totS_pairs r
    simp [pairsP, totS, both2] at this ⊢
    omega
/-- The list of a level. -/
def levelP (cs : List (Nat × List Nat)) : Nat → List (Nat × List Nat)
  | 0 => cs
  | k + 1 => mergeP cs (pairsP (levelP cs k))
theorem level_totC (cs : List (Nat × List Nat)) : ∀ k, totC (levelP cs k) ≤ (k + 1) * totC cs
  | 0 => by simp [levelP]
  | k + 1 => by
    have h1 := level_totC cs k
    have h2 := totC_pairs (levelP cs k)
    rw [levelP, totC_merge, Nat.succ_mul (k + 1)]
    omega
theorem level_totS (cs : List (Nat × List Nat)) : ∀ k, totS (levelP cs k) ≤ (k + 1) * totS cs
  | 0 => by simp [levelP]
  | k + 1 => by
    have h1 := level_totS cs k
    have h2 := totS_pairs (levelP cs k)
    rw [levelP, totS_merge, Nat.succ_mul (k + 1)]
    omega
theorem level_len (cs : List (Nat × List Nat)) : ∀ k, (levelP cs k).length ≤ 2 * cs.length ∧ (2 * cs.length - (levelP cs k).length) * 2 ^ k + 1 ≤ cs.length + 2 ^ k
  | 0 => by simp [levelP]; omega
  | k + 1 => by
    obtain ⟨h1, h2⟩ := level_len cs k
    have h3 : (pairsP (levelP cs k)).length = (levelP cs k).length / 2 := by
      generalize levelP cs k = l
      clear h1 h2
      induction l using pairsP.induct with
      | case1 a b r ih => simp [pairsP, ih]; omega
      | case2 l h => 
        match l, h with
        | [], _ => rfl
        | [a], _ => simp [pairsP]
        | a :: b :: r, h => exact absurd rfl (h a b r)
    rw [levelP, len_merge, h3]
    generalize (levelP cs k).length = L at *
    refine ⟨by omega, ?_⟩
    have h4 : (2 * cs.length - (cs.length + L / 2)) * 2 ≤ (2 * cs.length - L) + 1 := by omega
    have h5 : (2 * cs.length - (cs.length + L / 2)) * 2 * 2 ^ k ≤ ((2 * cs.length - L) + 1) * 2 ^ k := Nat.mul_le_mul_right _ h4
    rw [Nat.add_mul, Nat.one_mul] at h5
    rw [Nat.pow_succ, Nat.mul_comm (2 ^ k) 2, ← Nat.mul_assoc]
    omega
theorem level_enough (cs : List (Nat × List Nat)) (k : Nat) (h : cs.length ≤ 2 ^ (k + 1)) : 2 * cs.length - 2 ≤ (levelP cs k).length := by
  obtain ⟨h1, h2⟩ := level_len cs k
  rw [Nat.pow_succ] at h
  have h3 : (2 * cs.length - (levelP cs k).length) * 2 ^ k < 3 * 2 ^ k := by omega
  have h4 := Nat.lt_of_mul_lt_mul_right h3
  omega
theorem mem_totC {l : List (Nat × List Nat)} {x : Nat × List Nat} (h : x ∈ l) : x.1 ≤ totC l := by
  induction l with
  | nil => simp at h
  | cons a r ih =>
    unfold totC at ih ⊢
    rw [List.map_cons, List.sum_cons]
    rcases List.mem_cons.1 h with rfl | h
    · omega
    · have := ih h; omega
theorem mem_totS {l : List (Nat × List Nat)} {x : Nat × List Nat} (h : x ∈ l) : x.2.length ≤ totS l := by
  induction l with
  | nil => simp at h
  | cons a r ih =>
    unfold totS at ih ⊢
    rw [List.map_cons, List.sum_cons]
    rcases List.mem_cons.1 h with rfl | h
    · omega
    · have := ih h; omega
theorem all_merge {Q : Nat → Prop} : ∀ (a b : List (Nat × List Nat)), (∀ p ∈ a, ∀ s ∈ p.2, Q s) → (∀ p ∈ b, ∀ s ∈ p.2, Q s) → ∀ p ∈ mergeP a b, ∀ s ∈ p.2, Q s
  | [], b, _, hb => by simpa [mergeP] using hb
  | c :: cs, [], ha, _ => by simpa [mergeP] using ha
  | c :: cs, p :: ps, ha, hb => by
    rw [mergeP]
    split
    · intro q hq
      rcases List.mem_cons.1 hq with rfl | hq
      · exact ha _ (by simp)
      · exact all_merge cs (p :: ps) (fun x hx => ha x (by simp [hx])) hb q hq
    · intro q hq
      rcases List.mem_cons.1 hq with rfl | hq
      · exact hb _ (by simp)
      · exact all_merge (c :: cs) ps ha (fun x hx => hb x (by simp [hx])) q hq
  termination_by a b => a.length + b.length
theorem all_pairs {Q : Nat → Prop} : ∀ (l : List (Nat × List Nat)), (∀ p ∈ l, ∀ s ∈ p.2, Q s) → ∀ p ∈ pairsP l, ∀ s ∈ p.2, Q s
  | [], _ => by simp [pairsP]
  | [a], _ => by simp [pairsP]
  | a :: b :: r, h => by
    intro q hq s hs
    rw [pairsP] at hq
    rcases List.mem_cons.1 hq with rfl | hq
    · rcases List.mem_append.1 hs with h5 | h5
      · exact h a (by simp) s h5
      · exact h b (by simp) s h5
    · exact all_pairs r (fun x hx => h x (by simp [hx])) q hq s hs
theorem all_level {Q : Nat → Prop} (cs : List (Nat × List Nat)) (h : ∀ p ∈ cs, ∀ s ∈ p.2, Q s) : ∀ k, ∀ p ∈ levelP cs k, ∀ s ∈ p.2, Q s
  | 0 => h
  | k + 1 => all_merge _ _ h (all_pairs _ (all_level cs h k))
theorem tot_coins (cs : List Nat) (b : Nat) (hb : ∀ x ∈ cs, x ≤ b) : ∀ n, n ≤ cs.length → totC (coinsTo cs n) ≤ n * b ∧ totS (coinsTo cs n) ≤ n
  | 0, _ => by simp [coinsTo, totC, totS]
  | n + 1, h => by
    obtain ⟨h1, h2⟩ := tot_coins cs b hb n (by omega)
    have hx : cs.getD n 0 ≤ b := by
      simp only [List.getD, List.getElem?_eq_getElem (show n < cs.length by omega), Option.getD_some]
      exact hb _ (List.getElem_mem _)
    rw [coinsTo_succ, Nat.succ_mul]
    unfold totC totS at *
    rw [List.map_append, List.map_append, List.sum_append, List.sum_append]
    generalize cs.getD n 0 = x at *
    split <;> simp <;> omega
theorem tot_perm {a b : List (Nat × List Nat)} (h : a.Perm b) : totC a = totC b ∧ totS a = totS b := ⟨(h.map _).sum_nat, (h.map _).sum_nat⟩
/-- How often each symbol is among the packages. -/
def vecOf (n : Nat) (l : List (Nat × List Nat)) : List Nat := (List.range n).map fun k => (l.map fun p => p.2.count k).sum
/-- The lengths of coins that are in order, by a bound. -/
def lenP (n m : Nat) (own : List (Nat × List Nat)) : List Nat := if own.length ≤ 1 then vecOf n own else vecOf n ((levelP own (m - 1)).take (2 * own.length - 2))

end Go.Proofs.Ytebaojedpnnliaa
