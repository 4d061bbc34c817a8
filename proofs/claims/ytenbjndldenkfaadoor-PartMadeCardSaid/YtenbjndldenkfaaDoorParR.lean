/-
  The answers of layer 19: texts.
-/
import Derived.Test.YtenbjndldenkfaaDoorParP
namespace Go.Proofs.YtenbjndldenkfaaDoor
open Go.RowKit Go.Sort

theorem spc_nat (c : UInt8) : c ∈ spcQ ↔ (c.toNat = 40 ∨ c.toNat = 41 ∨ c.toNat = 60 ∨ c.toNat = 62 ∨ c.toNat = 64 ∨ c.toNat = 44 ∨ c.toNat = 59 ∨ c.toNat = 58 ∨ c.toNat = 92 ∨ c.toNat = 34 ∨ c.toNat = 47 ∨ c.toNat = 91 ∨ c.toNat = 93 ∨ c.toNat = 63 ∨ c.toNat = 61) := by
  unfold spcQ
  simp only [List.mem_cons, List.not_mem_nil, or_false, ← UInt8.toNat_inj]
  exact Iff.rfl
def hdB : Tx → Bool
  | [] => false
  | x :: _ => decide (Bl x)
def hdN : Tx → Bool
  | [] => false
  | x :: _ => decide (¬ Bl x)
theorem bl_nat (c : UInt8) : Bl c ↔ (c.toNat = 32 ∨ c.toNat = 9) := by
  show (c = 32 ∨ c = 9) ↔ _
  rw [← UInt8.toNat_inj, ← UInt8.toNat_inj]
  exact Iff.rfl
theorem drop_cons {α : Type} {s : List α} {i : Nat} (h : i < s.length) : s.drop i = s[i] :: s.drop (i + 1) := by rw [List.drop_eq_getElem_cons h]
theorem take_one {α : Type} {s : List α} {i : Nat} (h : i < s.length) : (s.drop i).take (i + 1 - i) = [s[i]] := by rw [drop_cons h, show i + 1 - i = 1 by omega]; rfl
theorem take_snoc {α : Type} {s : List α} {i : Nat} (h : i < s.length) : s.take (i + 1) = s.take i ++ [s[i]] := by rw [List.take_add_one, List.getElem?_eq_getElem h]; rfl
theorem set_last {α : Type} (a : List α) (b v : α) : (a ++ [b]).set a.length v = a ++ [v] := by simp
theorem hrdT {w w' : World} {t : TypeId} {q : Tx} (h : Fresh w w' t #[encStr q]) : Rd w' 1 (some ⟨w.heap.size, 0, none⟩) 1 (SB [q]) := Rd.of_blk (n := 1) (size := 1) h.blk rfl
theorem last_cell {w : World} {ad : Addr} {a : List Tx} {b : Tx} {d : Nat} (h : Own w 9 1 (some ad) (a ++ [b]).length d (SB (a ++ [b]))) : w.cell? (ad.add ((a ++ [b]).length - 1)) = some (encStr b) := by
  obtain ⟨ad', h1, h2⟩ := SB_at h.rd (show (a ++ [b]).length - 1 < (a ++ [b]).length by simp)
  cases h1
  rw [h2]
  simp
theorem idxB_app {c : UInt8} : ∀ {a b : Tx}, c ∉ a → Lib.indexByte (a ++ c :: b) c = ((a.length : Nat) : Int)
  | a, b, h => by
    rcases idxB_cases (a ++ c :: b) c with ⟨_, h2⟩ | ⟨a2, b2, h1, h2, h3⟩
    · exact absurd (by simp) h2
    · rw [h3]
      have e1 := (bef_at (b := b) h).1
      rw [h1, (bef_at (b := b2) h2).1] at e1
      rw [e1]

end Go.Proofs.YtenbjndldenkfaaDoor
