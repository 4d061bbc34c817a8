/-
  Sets of numbers on plain lists: texts cut at a sign, numbers, spans.
-/
import Derived.Test.YtenbjndldenkfaaGreatDoorEngC
import Derived.Test.YtenbjndldenkfaaGreatDoorTy
import Derived.Lib.Bytealg
import Derived.Lib.SlicesCompact
namespace Go.Proofs.YtenbjndldenkfaaGreatDoor
open Go.RowKit
/-! ### a text cut at a sign -/
theorem idxB_cases : ∀ (l : Tx) (c : UInt8), (Lib.indexByte l c = -1 ∧ c ∉ l) ∨ ∃ a b, l = a ++ c :: b ∧ c ∉ a ∧ Lib.indexByte l c = ((a.length : Nat) : Int)
  | [], c => .inl ⟨rfl, by simp⟩
  | x :: r, c => by
    unfold Lib.indexByte
    by_cases h : x = c
    · subst h
      exact .inr ⟨[], r, rfl, by simp, by simp⟩
    · have hb : (x == c) = false := by simpa using h
      rw [hb]
      rcases idxB_cases r c with ⟨h1, h2⟩ | ⟨a, b, rfl, h2, h3⟩
      · left
        refine ⟨by simp [h1], ?_⟩
        simp only [List.mem_cons, not_or]
        exact ⟨fun e => h e.symm, h2⟩
      · right
        refine ⟨x :: a, b, rfl, ?_, ?_⟩
        · simp only [List.mem_cons, not_or]
          exact ⟨fun e => h e.symm, h2⟩
        · rw [h3]
          have : ¬ ((a.length : Nat) : Int) = -1 := by omega
          simp [this]
/-- What is ahead of a sign. -/
def befF (c : UInt8) : Tx → Tx
  | [] => []
  | x :: r => if x = c then [] else x :: befF c r
/-- What is behind it. -/
def aftF (c : UInt8) : Tx → Tx
  | [] => []
  | x :: r => if x = c then r else aftF c r
theorem bef_no {c : UInt8} : ∀ {s : Tx}, c ∉ s → befF c s = s ∧ aftF c s = []
  | [], _ => ⟨rfl, rfl⟩
  | x :: r, h => by
    simp only [List.mem_cons, not_or] at h
    have hx : x ≠ c := fun e => h.1 e.symm
    simp [befF, aftF, hx, bef_no h.2]
theorem bef_at {c : UInt8} : ∀ {a b : Tx}, c ∉ a → befF c (a ++ c :: b) = a ∧ aftF c (a ++ c :: b) = b
  | [], b, _ => by simp [befF, aftF]
  | x :: r, b, h => by
    simp only [List.mem_cons, not_or] at h
    have hx : x ≠ c := fun e => h.1 e.symm
    simp [befF, aftF, hx, bef_at (b := b) h.2]
/-- A text's words. -/
def splitF (c : UInt8) : Tx → List Tx
  | [] => [[]]
  | x :: r => if x = c then [] :: splitF c r else match splitF c r with
    | [] => [[x]]
    | p :: ps => (x :: p) :: ps
theorem split_no {c : UInt8} : ∀ {s : Tx}, c ∉ s → splitF c s = [s]
  | [], _ => rfl
  | x :: r, h => by
    simp only [List.mem_cons, not_or] at h
    have hx : x ≠ c := fun e => h.1 e.symm
    simp [splitF, hx, split_no h.2]
theorem split_at {c : UInt8} : ∀ {a b : Tx}, c ∉ a → splitF c (a ++ c :: b) = a :: splitF c b
  | [], b, _ => by simp [splitF]
  | x :: r, b, h => by
    simp only [List.mem_cons, not_or] at h
    have hx : x ≠ c := fun e => h.1 e.symm
    simp [splitF, hx, split_at (b := b) h.2]
theorem split_len {c : UInt8} : ∀ (s : Tx), ∀ w ∈ splitF c s, w.length ≤ s.length
  | [], w, h => by simp [splitF] at h; subst h; simp
  | x :: r, w, h => by
    unfold splitF at h
    have ih := split_len (c := c) r
    split at h
    · rcases List.mem_cons.1 h with rfl | h
      · simp
      · have := ih w h; simp; omega
    · split at h
      · simp at h; subst h; simp
      · rename_i p ps hs
        rcases List.mem_cons.1 h with rfl | h
        · have := ih p (by rw [hs]; simp); simp; omega
        · have := ih w (by rw [hs]; simp [h]); simp; omega
theorem bef_len (c : UInt8) : ∀ s : Tx, (befF c s).length ≤ s.length ∧ (aftF c s).length ≤ s.length
  | [] => ⟨Nat.le_refl _, Nat.le_refl _⟩
  | x :: r => by
    have := bef_len c r
    unfold befF aftF
    split <;> simp <;> omega
/-! ### numbers and spans -/
/-- A decimal number, behind what is read of it. -/
def decN (n : Nat) (s : Tx) : Nat := s.foldl (fun n x => 10 * n + (x.toNat - 48)) n
abbrev Dig (x : UInt8) : Prop := 48 ≤ x.toNat ∧ x.toNat ≤ 57
def numQ (s : Tx) : Int :=
  if s = [42] then 0 else if s = [] ∨ 10 < s.length ∨ s.head? = some 48 then -1
  else if (∀ x ∈ s, Dig x) ∧ decN 0 s ≤ 2147483647 then ((decN 0 s : Nat) : Int) else -1
theorem numQ_ge (s : Tx) : -1 ≤ numQ s ∧ numQ s ≤ 2147483647 := by
  unfold numQ
  split
  · omega
  · split
    · omega
    · split
      · rename_i h; have := h.2; omega
      · omega
theorem decN_snoc (n : Nat) (s : Tx) (x : UInt8) : decN n (s ++ [x]) = 10 * decN n s + (x.toNat - 48) := by simp [decN]
theorem decN_lt : ∀ (s : Tx) (n k : Nat), (∀ x ∈ s, Dig x) → n < 10 ^ k → decN n s < 10 ^ (k + s.length)
  | [], n, k, _, h => by simpa [decN] using h
  | x :: r, n, k, hd, h => by
    have hx := hd x (by simp)
    have e : decN n (x :: r) = decN (10 * n + (x.toNat - 48)) r := rfl
    rw [e]
    have := decN_lt r (10 * n + (x.toNat - 48)) (k + 1) (fun y hy => hd y (by simp [hy])) (by rw [Nat.pow_succ]; omega)
    have e2 : k + 1 + r.length = k + (x :: r).length := by simp; omega
    rw [e2] at this
    exact this
/-- A span: its two ends. -/
abbrev Sp := Int × Int
def spanQ (w : Tx) : Sp := (numQ (befF 58 w), if 58 ∈ w then numQ (aftF 58 w) else numQ (befF 58 w))
def GoodW (w : Tx) : Prop := 0 ≤ (spanQ w).1 ∧ 0 ≤ (spanQ w).2
instance (w : Tx) : Decidable (GoodW w) := by unfold GoodW; infer_instance
def ParseOk (s : Tx) : Prop := (∀ w ∈ splitF 44 s, GoodW w) ∧ (splitF 44 s).length ≤ 64
instance (s : Tx) : Decidable (ParseOk s) := by unfold ParseOk; infer_instance
/-- The spans of a text. -/
def parseQ (s : Tx) : List Sp := if ParseOk s then (splitF 44 s).map spanQ else []
/-- Spans in cells. -/
def SC1 (x : Sp) : List Value := [.int .i64 x.1, .int .i64 x.2]
abbrev SC (l : List Sp) : List Value := l.flatMap SC1
theorem SC1_len (x : Sp) : (SC1 x).length = 2 := rfl
theorem SC1_one (x : Sp) : ∀ u ∈ SC1 x, u.oneCell' = true := by
  intro u hu
  simp only [SC1, List.mem_cons, List.not_mem_nil, or_false] at hu
  rcases hu with rfl | rfl <;> rfl
theorem SC_append (a b : List Sp) : SC (a ++ b) = SC a ++ SC b := List.flatMap_append
/-- A span's less and greater end, where 0 is the greatest. -/
def endsQ (x : Sp) (g : Int) : Int × Int :=
  let a := if x.1 = 0 then g else x.1
  let b := if x.2 = 0 then g else x.2
  (if b < a then b else a, if a < b then b else a)
def InQ (x : Sp) (g n : Int) : Prop := (endsQ x g).1 ≤ n ∧ n ≤ (endsQ x g).2
instance (x : Sp) (g n : Int) : Decidable (InQ x g n) := by unfold InQ; infer_instance
def hasQ (l : List Sp) (n g : Int) : Prop := 0 < n ∧ 0 < g ∧ ∃ x ∈ l, InQ x g n
instance (l : List Sp) (n g : Int) : Decidable (hasQ l n g) := by unfold hasQ; infer_instance
/-- The numbers from a to b. -/
def fromTo (a b : Int) : List Int := (List.range (b + 1 - a).toNat).map fun k : Nat => a + (k : Int)
theorem mem_fromTo (a b n : Int) : n ∈ fromTo a b ↔ a ≤ n ∧ n ≤ b := by
  unfold fromTo
  rw [List.mem_map]
  constructor
  · rintro ⟨k, hk, rfl⟩
    rw [List.mem_range] at hk
    omega
  · intro h
    exact ⟨(n - a).toNat, by rw [List.mem_range]; omega, by omega⟩
def BadP (many : Int) (x : Sp) : Prop := many < 1 ∨ many < (endsQ x many).2 ∨ (endsQ x many).1 < 1
instance (many : Int) (x : Sp) : Decidable (BadP many x) := by unfold BadP; infer_instance
def rawP (l : List Sp) (many : Int) : List Int := l.flatMap fun x => fromTo (endsQ x many).1 (endsQ x many).2
def srtI (l : List Int) : List Int := l.mergeSort fun x y => decide (x ≤ y)
def placesQ (l : List Sp) (many : Int) : List Int := if ∃ x ∈ l, BadP many x then [] else Lib.compact (srtI (rawP l many))
/-- Is a number right at its place? -/
def RiseAt (us : List Int) (i : Nat) : Prop := 1 ≤ us.getD i 0 ∧ (0 < i → us.getD (i - 1) 0 < us.getD i 0)
instance (us : List Int) (i : Nat) : Decidable (RiseAt us i) := by unfold RiseAt; infer_instance
/-- Do numbers rise, from 1 on? -/
def RiseQ (us : List Int) : Prop := ∀ i, i < us.length → RiseAt us i
instance (us : List Int) : Decidable (RiseQ us) := by unfold RiseQ; infer_instance
def lastQ (us : List Int) : Int := us.getD (us.length - 1) 0
def ofQ (l : List Sp) (us : List Int) : List Int := if RiseQ us then us.filter fun n => decide (hasQ l n (lastQ us)) else []
end Go.Proofs.YtenbjndldenkfaaGreatDoor
