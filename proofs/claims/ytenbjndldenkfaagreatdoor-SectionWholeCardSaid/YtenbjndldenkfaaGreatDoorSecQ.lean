/-
  Sections of a letter on plain lists: the part of a path.
-/
import Derived.Test.YtenbjndldenkfaaGreatDoorSecP
namespace Go.Proofs.YtenbjndldenkfaaGreatDoor
open Go.RowKit

/-- The n-th part within another one; -1: there is none. -/
def kidL (i : Int) : List Prt → Nat → Int → Int
  | [], _, _ => -1
  | p :: r, k, n => if p.up = i then (if n = 1 then (k : Int) else kidL i r (k + 1) (n - 1)) else kidL i r (k + 1) n
def kidQ (l : List Prt) (i n : Int) : Int := kidL i l 0 n
theorem kidL_res (i : Int) : ∀ (l : List Prt) (k : Nat) (n : Int), kidL i l k n = -1 ∨ ∃ (j : Nat) (p : Prt), l[j]? = some p ∧ kidL i l k n = ((k + j : Nat) : Int) ∧ p.up = i
  | [], _, _ => .inl rfl
  | p :: r, k, n => by
    unfold kidL
    split
    · rename_i hp
      split
      · exact .inr ⟨0, p, rfl, by simp, hp⟩
      · rcases kidL_res i r (k + 1) (n - 1) with h | ⟨j, q, h1, h2, h3⟩
        · exact .inl h
        · exact .inr ⟨j + 1, q, by simpa using h1, by rw [h2]; congr 1; omega, h3⟩
    · rcases kidL_res i r (k + 1) n with h | ⟨j, q, h1, h2, h3⟩
      · exact .inl h
      · exact .inr ⟨j + 1, q, by simpa using h1, by rw [h2]; congr 1; omega, h3⟩
theorem kidQ_res (l : List Prt) (i n : Int) : kidQ l i n = -1 ∨ ∃ (j : Nat) (p : Prt), l[j]? = some p ∧ kidQ l i n = (j : Int) ∧ p.up = i := by
  rcases kidL_res i l 0 n with h | ⟨j, p, h1, h2, h3⟩
  · exact .inl h
  · exact .inr ⟨j, p, h1, by rw [kidQ, h2]; congr 1; omega, h3⟩
/-- The part of a number of another one: of the letter itself, or of one within. -/
def nextT (l : List Prt) (i : Nat) (n : Int) : Int := match l[i]? with
  | none => -1
  | some p => if p.kind = 1 then kidQ l i n else if n = 1 then (i : Int) else -1
def nextF (l : List Prt) (i : Nat) (n : Int) : Int := match l[i]? with
  | none => -1
  | some p => if p.kind = 1 then kidQ l i n else if p.kind = 2 ∧ 0 ≤ kidQ l i 1 then nextT l (kidQ l i 1).toNat n else -1
def nextQ (l : List Prt) (i : Nat) (n : Int) (own : Bool) : Int := if own = true then nextT l i n else nextF l i n
theorem nextT_res (l : List Prt) (i : Nat) (n : Int) : nextT l i n = -1 ∨ ∃ j : Nat, j < l.length ∧ nextT l i n = (j : Int) := by
  unfold nextT
  split
  · exact .inl rfl
  · rename_i p hp
    split
    · rcases kidQ_res l i n with h | ⟨j, q, h1, h2, _⟩
      · exact .inl h
      · exact .inr ⟨j, (List.getElem?_eq_some_iff.1 h1).1, h2⟩
    · split
      · exact .inr ⟨i, (List.getElem?_eq_some_iff.1 hp).1, rfl⟩
      · exact .inl rfl
theorem nextQ_res (l : List Prt) (i : Nat) (n : Int) (own : Bool) : nextQ l i n own = -1 ∨ ∃ j : Nat, j < l.length ∧ nextQ l i n own = (j : Int) := by
  unfold nextQ
  split
  · exact nextT_res l i n
  · unfold nextF
    split
    · exact .inl rfl
    · split
      · rcases kidQ_res l i n with h | ⟨j, q, h1, h2, _⟩
        · exact .inl h
        · exact .inr ⟨j, (List.getElem?_eq_some_iff.1 h1).1, h2⟩
      · split
        · exact nextT_res _ _ _
        · exact .inl rfl
/-- The part of a path. -/
def findL (l : List Prt) : Nat → Bool → List Int → Int
  | i, _, [] => (i : Int)
  | i, own, n :: r => if nextQ l i n own < 0 then -1 else findL l (nextQ l i n own).toNat false r
def findPQ (l : List Prt) (path : List Int) : Int := findL l 0 true path
theorem findL_res (l : List Prt) : ∀ (path : List Int) (i : Nat) (own : Bool), i < l.length → findL l i own path = -1 ∨ ∃ j : Nat, j < l.length ∧ findL l i own path = (j : Int)
  | [], i, _, h => .inr ⟨i, h, rfl⟩
  | n :: r, i, own, h => by
    unfold findL
    split
    · exact .inl rfl
    · rcases nextQ_res l i n own with h2 | ⟨j, hj, h2⟩
      · omega
      · rw [h2]
        exact findL_res l r _ _ (by simpa using hj)
def wholeQ (l : List Prt) (i : Nat) (path : List Int) : Int := if path = [] then 0 else match l[i]? with
  | none => -1
  | some p => if p.kind ≠ 2 then -1 else kidQ l i 1
theorem kidL_next {i : Int} {l : List Prt} {k : Nat} {n : Int} (h : k < l.length) : kidL i (l.drop k) k n = if l[k].up = i then (if n = 1 then (k : Int) else kidL i (l.drop (k + 1)) (k + 1) (n - 1)) else kidL i (l.drop (k + 1)) (k + 1) n := by
  rw [List.drop_eq_getElem_cons h, kidL]
theorem nextT_at {l : List Prt} {i : Nat} {n : Int} {p : Prt} (h : l[i]? = some p) : nextT l i n = if p.kind = 1 then kidQ l i n else if n = 1 then (i : Int) else -1 := by
  unfold nextT
  rw [h]
theorem nextF_at {l : List Prt} {i : Nat} {n : Int} {p : Prt} (h : l[i]? = some p) : nextF l i n = if p.kind = 1 then kidQ l i n else if p.kind = 2 ∧ 0 ≤ kidQ l i 1 then nextT l (kidQ l i 1).toNat n else -1 := by
  unfold nextF
  rw [h]
theorem wholeQ_at {l : List Prt} {i : Nat} {path : List Int} {p : Prt} (h : l[i]? = some p) : wholeQ l i path = if path = [] then 0 else if p.kind ≠ 2 then -1 else kidQ l i 1 := by
  unfold wholeQ
  rw [h]
/-! ### numbers that wrap -/
theorem wrap_dec (m : Int) : IntKind.i64.wrap (IntKind.i64.wrap m - 1) = IntKind.i64.wrap (m - 1) := by
  simp only [IntKind.wrap, IntKind.bits, IntKind.signed, Bool.true_and]
  split <;> split <;> split <;> simp_all <;> omega
theorem wrap_zero {m : Int} (h1 : -9223372036854785808 ≤ m) (h2 : m ≤ 9223372036854775807) : IntKind.i64.wrap m = 0 ↔ m = 0 := by
  simp only [IntKind.wrap, IntKind.bits, IntKind.signed, Bool.true_and]
  split <;> simp_all <;> omega
end Go.Proofs.YtenbjndldenkfaaGreatDoor
