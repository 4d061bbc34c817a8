/-
  Package-merge on plain lists: pairs, and merging.
-/
import Derived.Test.YtebaojedpnnliaaLimM
namespace Go.Proofs.Ytebaojedpnnliaa
open Go.RowKit

def both2 (a b : Nat × List Nat) : Nat × List Nat := (a.1 + b.1, a.2 ++ b.2)
def pairsP : List (Nat × List Nat) → List (Nat × List Nat)
  | a :: b :: r => both2 a b :: pairsP r
  | _ => []
/-- Coins and packages by their counts, the coin first. -/
def mergeP : List (Nat × List Nat) → List (Nat × List Nat) → List (Nat × List Nat)
  | [], ps => ps
  | c :: cs, [] => c :: cs
  | c :: cs, p :: ps => if c.1 ≤ p.1 then c :: mergeP cs (p :: ps) else p :: mergeP (c :: cs) ps
  termination_by cs ps => cs.length + ps.length
theorem pairsP_take (l : List (Nat × List Nat)) : ∀ k, (h : 2 * k + 1 < l.length) → pairsP (l.take (2 * k + 2)) = pairsP (l.take (2 * k)) ++ [both2 l[2 * k] l[2 * k + 1]] := by
  intro k
  induction k generalizing l with
  | zero =>
    intro h
    match l, h with
    | a :: b :: r, _ => simp [pairsP]
  | succ k ih =>
    intro h
    match l, h with
    | a :: b :: r, h =>
      have h2 : 2 * k + 1 < r.length := by simp at h; omega
      have e1 : 2 * (k + 1) + 2 = (2 * k + 2) + 1 + 1 := by omega
      have e2 : 2 * (k + 1) = (2 * k) + 1 + 1 := by omega
      have e3 : (a :: b :: r)[2 * (k + 1)] = r[2 * k]'(by omega) := by simp [e2]
      have e4 : (a :: b :: r)[2 * (k + 1) + 1] = r[2 * k + 1]'h2 := by simp [e2]
      rw [e3, e4, e1, List.take_succ_cons, List.take_succ_cons, pairsP, ih r h2, e2, List.take_succ_cons, List.take_succ_cons, pairsP]
      rfl
theorem pairsP_all (l : List (Nat × List Nat)) : ∀ k, k ≤ l.length → l.length ≤ k + 1 → k % 2 = 0 → pairsP (l.take k) = pairsP l := by
  match l with
  | [] => intro k _ _ _; simp
  | [a] => intro k h1 h2 h3
           have : k = 0 := by simp at h1 h2; omega
           subst this; rfl
  | a :: b :: r =>
    intro k h1 h2 h3
    simp at h1 h2
    obtain ⟨j, rfl⟩ : ∃ j, k = j + 1 + 1 := ⟨k - 2, by omega⟩
    rw [List.take_succ_cons, List.take_succ_cons, pairsP, pairsP, pairsP_all r j (by omega) (by omega) (by omega)]

end Go.Proofs.Ytebaojedpnnliaa
