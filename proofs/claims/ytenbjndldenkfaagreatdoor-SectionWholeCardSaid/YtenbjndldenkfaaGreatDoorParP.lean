/-
  Media on plain lists: pieces, values, what a text's media is.
-/
import Derived.Test.YtenbjndldenkfaaGreatDoorParX
import Derived.Test.YtenbjndldenkfaaGreatDoorSeqC
namespace Go.Proofs.YtenbjndldenkfaaGreatDoor
open Go.RowKit

/-! ### pieces -/
/-- What is ahead of the first piece, and the pieces. -/
def gluP (b : Tx) : List Tx → List Tx
  | [] => [b]
  | p :: ps => (b ++ p) :: ps
theorem gluP_gluP (a b : Tx) (l : List Tx) : gluP a (gluP b l) = gluP (a ++ b) l := by
  cases l <;> simp [gluP]
theorem gluP_nil {l : List Tx} (h : l ≠ []) : gluP [] l = l := by
  cases l with
  | nil => exact absurd rfl h
  | cons p ps => rfl
/-- A text's pieces; is it within quotes? -/
def pcs : Bool → Tx → List Tx
  | _, [] => [[]]
  | b, [x] => if x = 59 ∧ b = false then [[], []] else [[x]]
  | b, x :: y :: r =>
    if b = true ∧ x = 92 then gluP [x, y] (pcs b r)
    else if x = 34 then gluP [x] (pcs (!b) (y :: r))
    else if x = 59 ∧ b = false then [] :: pcs b (y :: r)
    else gluP [x] (pcs b (y :: r))
theorem gluP_ne (b : Tx) (l : List Tx) : gluP b l ≠ [] := by cases l <;> simp [gluP]
theorem pcs_ne (b : Bool) (s : Tx) : pcs b s ≠ [] := by
  match s with
  | [] => simp [pcs]
  | [x] => unfold pcs; split <;> simp
  | x :: y :: r =>
    unfold pcs
    split
    · exact gluP_ne _ _
    · split
      · exact gluP_ne _ _
      · split
        · simp
        · exact gluP_ne _ _
theorem pcs_esc (y : UInt8) (r : Tx) : pcs true (92 :: y :: r) = gluP [92, y] (pcs true r) := by
  conv => lhs; unfold pcs
  rw [if_pos ⟨rfl, rfl⟩]
theorem pcs_esc_end : pcs true [92] = gluP [92] (pcs true []) := by decide
theorem pcs_quote (b : Bool) (r : Tx) : pcs b (34 :: r) = gluP [34] (pcs (!b) r) := by
  cases r with
  | nil => cases b <;> decide
  | cons y r =>
    conv => lhs; unfold pcs
    rw [if_neg (by simp), if_pos rfl]
theorem pcs_cut (r : Tx) : pcs false (59 :: r) = [] :: pcs false r := by
  cases r with
  | nil => decide
  | cons y r =>
    conv => lhs; unfold pcs
    rw [if_neg (by simp), if_neg (by decide), if_pos ⟨rfl, rfl⟩]
theorem pcs_other {b : Bool} {x : UInt8} (h1 : ¬ (b = true ∧ x = 92)) (h2 : x ≠ 34) (h3 : ¬ (x = 59 ∧ b = false)) (r : Tx) : pcs b (x :: r) = gluP [x] (pcs b r) := by
  cases r with
  | nil => unfold pcs; rw [if_neg h3]; simp [gluP]
  | cons y r =>
    conv => lhs; unfold pcs
    rw [if_neg h1, if_neg h2, if_neg h3]
theorem gluP_mem {b : Tx} {l : List Tx} {n : Nat} (hl : l ≠ []) (h : ∀ p ∈ l, p.length ≤ n) : ∀ p ∈ gluP b l, p.length ≤ b.length + n := by
  cases l with
  | nil => exact absurd rfl hl
  | cons p ps =>
    intro q hq
    simp only [gluP, List.mem_cons] at hq
    rcases hq with rfl | hq
    · have := h p (by simp); simp; omega
    · have := h q (by simp [hq]); omega
theorem pcs_len : ∀ (n : Nat) (b : Bool) (s : Tx), s.length ≤ n → ∀ p ∈ pcs b s, p.length ≤ s.length
  | _, _, [], _ => by simp [pcs]
  | _, b, [x], _ => by unfold pcs; split <;> simp
  | 0, _, _ :: _ :: _, h => by simp at h
  | n + 1, b, x :: y :: r, h => by
    have ih1 := pcs_len n b r (by simp at h; omega)
    have ih2 := fun b => pcs_len n b (y :: r) (by simp at h ⊢; omega)
    unfold pcs
    split
    · intro p hp; have := gluP_mem (pcs_ne _ _) ih1 p hp; simp at this ⊢; omega
    · split
      · intro p hp; have := gluP_mem (pcs_ne _ _) (ih2 (!b)) p hp; simp at this ⊢; omega
      · split
        · intro p hp
          simp only [List.mem_cons] at hp
          rcases hp with rfl | hp
          · simp
          · have := ih2 b p hp; simp at this ⊢; omega
        · intro p hp; have := gluP_mem (pcs_ne _ _) (ih2 b) p hp; simp at this ⊢; omega
theorem gluP_count (b : Tx) {l : List Tx} (hl : l ≠ []) : (gluP b l).length = l.length := by
  cases l with
  | nil => exact absurd rfl hl
  | cons p ps => rfl
theorem pcs_count : ∀ (n : Nat) (b : Bool) (s : Tx), s.length ≤ n → (pcs b s).length ≤ s.length + 1
  | _, _, [], _ => by simp [pcs]
  | _, b, [x], _ => by unfold pcs; split <;> simp
  | 0, _, _ :: _ :: _, h => by simp at h
  | n + 1, b, x :: y :: r, h => by
    have ih1 := pcs_count n b r (by simp at h; omega)
    have ih2 := fun b => pcs_count n b (y :: r) (by simp at h ⊢; omega)
    unfold pcs
    split
    · rw [gluP_count _ (pcs_ne _ _)]; simp at ih1 ⊢; omega
    · split
      · rw [gluP_count _ (pcs_ne _ _)]; have := ih2 (!b); simp at this ⊢; omega
      · split
        · have := ih2 b; simp at this ⊢; omega
        · rw [gluP_count _ (pcs_ne _ _)]; have := ih2 b; simp at this ⊢; omega

/-! ### values -/
/-- What stands in quotes. -/
def unq : Tx → Tx
  | [] => []
  | [x] => if x = 34 ∨ x = 92 then [] else [x]
  | x :: y :: r => if x = 34 then [] else if x = 92 then y :: unq r else x :: unq (y :: r)
theorem unq_end (r : Tx) : unq (34 :: r) = [] := by
  cases r with
  | nil => decide
  | cons y r => unfold unq; rw [if_pos rfl]
theorem unq_esc (y : UInt8) (r : Tx) : unq (92 :: y :: r) = y :: unq r := by
  conv => lhs; unfold unq
  rw [if_neg (by decide), if_pos rfl]
theorem unq_esc_end : unq [92] = [] := by decide
theorem unq_other {x : UInt8} (h1 : x ≠ 34) (h2 : x ≠ 92) (r : Tx) : unq (x :: r) = x :: unq r := by
  cases r with
  | nil => unfold unq; rw [if_neg (by simp [h1, h2])]; try rfl
  | cons y r =>
    conv => lhs; unfold unq
    rw [if_neg h1, if_neg h2]
theorem unq_len : ∀ (n : Nat) (s : Tx), s.length ≤ n → (unq s).length ≤ s.length
  | _, [], _ => by simp [unq]
  | _, [x], _ => by unfold unq; split <;> simp
  | 0, _ :: _ :: _, h => by simp at h
  | n + 1, x :: y :: r, h => by
    have ih1 := unq_len n r (by simp at h; omega)
    have ih2 := unq_len n (y :: r) (by simp at h ⊢; omega)
    unfold unq
    split
    · simp
    · split
      · simp at ih1 ⊢; omega
      · simp at ih2 ⊢; omega
/-- A text up to its first blank. -/
def noB : Tx → Tx
  | [] => []
  | x :: r => if Bl x then [] else x :: noB r
theorem noB_all : ∀ {s : Tx}, (∀ c ∈ s, ¬ Bl c) → noB s = s
  | [], _ => rfl
  | x :: r, h => by
    unfold noB
    rw [if_neg (h x (by simp)), noB_all fun c hc => h c (by simp [hc])]
theorem noB_take : ∀ {s : Tx} {i : Nat}, i < s.length → (∀ c ∈ s.take i, ¬ Bl c) → (∀ c, s[i]? = some c → Bl c) → noB s = s.take i
  | [], i, h, _, _ => by simp at h
  | x :: r, 0, _, _, h2 => by unfold noB; rw [if_pos (h2 x rfl)]; rfl
  | x :: r, i + 1, h, h1, h2 => by
    unfold noB
    rw [if_neg (h1 x (by simp)), noB_take (i := i) (by simpa using h) (fun c hc => h1 c (by simp [hc])) (fun c hc => h2 c (by simpa using hc))]
    rfl
def valQ (s : Tx) : Tx := match leftB s with
  | [] => []
  | x :: r => if x = 34 then unq r else noB (x :: r)
theorem noB_len : ∀ s : Tx, (noB s).length ≤ s.length
  | [] => Nat.le_refl _
  | x :: r => by
    have := noB_len r
    unfold noB
    split
    · simp
    · simp; omega
theorem valQ_len (s : Tx) : (valQ s).length ≤ s.length := by
  have h := leftB_le s
  unfold valQ
  split
  · simp
  · rename_i x r hx
    rw [hx] at h
    split
    · have := unq_len _ r (Nat.le_refl _); simp at h; omega
    · exact Nat.le_trans (noB_len _) h

/-! ### trimmed texts -/
theorem leftB_append : ∀ a b : Tx, leftB (a ++ b) = if leftB a = [] then leftB b else leftB a ++ b
  | [], b => by simp [leftB]
  | x :: r, b => by
    have ih := leftB_append r b
    by_cases hx : Bl x
    · have e1 : leftB (x :: r ++ b) = leftB (r ++ b) := by show leftB (x :: (r ++ b)) = _; rw [leftB, if_pos hx]
      have e2 : leftB (x :: r) = leftB r := by rw [leftB, if_pos hx]
      rw [e1, e2, ih]
    · have e1 : leftB (x :: r ++ b) = x :: (r ++ b) := by show leftB (x :: (r ++ b)) = _; rw [leftB, if_neg hx]
      have e2 : leftB (x :: r) = x :: r := by rw [leftB, if_neg hx]
      rw [e1, e2, if_neg (by simp)]
      rfl
theorem rightB_cons (x : UInt8) (r : Tx) : rightB (x :: r) = if rightB r = [] then (if Bl x then [] else [x]) else x :: rightB r := by
  unfold rightB
  rw [List.reverse_cons, leftB_append]
  by_cases h : leftB r.reverse = []
  · rw [if_pos h, h, if_pos (by simp), leftB]
    split <;> simp [leftB]
  · rw [if_neg h, if_neg (by simpa using h)]
    simp
theorem trim_comm : ∀ s : Tx, rightB (leftB s) = leftB (rightB s)
  | [] => rfl
  | x :: r => by
    have ih := trim_comm r
    by_cases hx : Bl x
    · have e2 : leftB (x :: r) = leftB r := by rw [leftB, if_pos hx]
      rw [e2, ih, rightB_cons]
      by_cases h : rightB r = []
      · rw [if_pos h, if_pos hx, h]
      · rw [if_neg h]
        conv => rhs; rw [leftB, if_pos hx]
    · have e2 : leftB (x :: r) = x :: r := by rw [leftB, if_neg hx]
      rw [e2, rightB_cons]
      split
      · show [x] = leftB [x]
        rw [leftB, if_neg hx]
      · rw [leftB, if_neg hx]
def trimQ (s : Tx) : Tx := leftB (rightB s)
theorem trimQ_len (s : Tx) : (trimQ s).length ≤ s.length := Nat.le_trans (leftB_le _) (rightB_le _)

/-! ### media -/
abbrev Par := Tx × Tx
structure Med where
  ty : Tx
  sub : Tx
  ps : List Par
def med0 : Med := ⟨[116, 101, 120, 116], [112, 108, 97, 105, 110], []⟩
def nameQ (p : Tx) : Tx := smallS (trimQ (befF 61 p))
def IsPar (p : Tx) : Prop := 61 ∈ p ∧ TokQ (nameQ p)
instance (p : Tx) : Decidable (IsPar p) := by unfold IsPar; infer_instance
def parQ (p : Tx) : List Par := if IsPar p then [(nameQ p, valQ (aftF 61 p))] else []
def IsMed (p : Tx) : Prop := 47 ∈ trimQ p ∧ TokQ (befF 47 (trimQ p)) ∧ TokQ (aftF 47 (trimQ p))
instance (p : Tx) : Decidable (IsMed p) := by unfold IsMed; infer_instance
def medOf (p : Tx) (ps : List Tx) : Med := if IsMed p then ⟨smallS (befF 47 (trimQ p)), smallS (aftF 47 (trimQ p)), ps.flatMap parQ⟩ else med0
def medQ (s : Tx) : Med := match pcs false s with
  | [] => med0
  | p :: ps => medOf p ps
def PC1 (p : Par) : List Value := [encStr p.1, encStr p.2]
theorem PC1_len (p : Par) : (PC1 p).length = 2 := rfl
theorem PC1_one (p : Par) : ∀ u ∈ PC1 p, u.oneCell' = true := by
  intro u hu
  simp only [PC1, List.mem_cons, List.not_mem_nil, or_false] at hu
  rcases hu with rfl | rfl <;> rfl
def PC (l : List Par) : List Value := l.flatMap PC1
theorem PC_append (a b : List Par) : PC (a ++ b) = PC a ++ PC b := by simp [PC]
theorem PC_len (l : List Par) : (PC l).length = l.length * 2 := flat_len PC1 2 PC1_len l
theorem PC_one (l : List Par) : ∀ u ∈ PC l, u.oneCell' = true := flat_one PC1 PC1_one l
theorem parQ_count (p : Tx) : (parQ p).length ≤ 1 := by unfold parQ; split <;> simp
theorem pars_count : ∀ ps : List Tx, (ps.flatMap parQ).length ≤ ps.length
  | [] => Nat.le_refl _
  | p :: ps => by
    have := parQ_count p
    have := pars_count ps
    simp only [List.flatMap_cons, List.length_append, List.length_cons]
    omega
end Go.Proofs.YtenbjndldenkfaaGreatDoor
