/-
  Blocks of octets as they are come out as they are (plain lists).
-/
import Derived.Test.YtfjhmbgckmhdaaaInfLO
import Derived.Test.YtfjhmbgckmhdaaaInfX
import Derived.Test.YtfjhmbgckmhdaaaOpen2
namespace Go.Proofs.Ytfjhmbgckmhdaaa
open Go.RowKit

/-- A block of octets as they are. -/
def encB (h : Nat) (x : List Nat) : List Nat := [h, x.length % 256, x.length / 256, 255 - x.length % 256, 255 - x.length / 256] ++ x
/-- Blocks of octets as they are, the last one so marked. -/
def encAll : List (List Nat) → List Nat → List Nat
  | [], last => encB 1 last
  | x :: r, last => encB 0 x ++ encAll r last
theorem takeF_at {L A B : List Bool} {n p : Nat} (hL : ∃ C, L = A ++ B ++ C) (hn : n = B.length) (hp : p = A.length) : takeF L n p = .ok (num B, p + n) := by
  obtain ⟨C, hL⟩ := hL
  subst hL hn hp
  unfold takeF
  rw [if_pos (by simp)]
  rw [List.append_assoc, List.drop_left, List.take_left]
theorem bits01 {h : Nat} (hh : h < 2) : bitsL h 8 = [decide (h = 1)] ++ [false, false] ++ [false, false, false, false, false] := by
  rcases (by omega : h = 0 ∨ h = 1) with rfl | rfl <;> rfl
theorem num16 {a b : Nat} (ha : a < 256) (hb : b < 256) : num (bitsL a 8 ++ bitsL b 8) = a + 256 * b := by
  rw [num_append, num_bitsL 8 a ha, num_bitsL 8 b hb, bitsL_len]
theorem block_enc {bs pre x post : List Nat} {h most : Nat} {out : List Nat} (hbs : bs = pre ++ encB h x ++ post) (hh : h < 2) (hx : x.length < 65536) (hm : out.length + x.length ≤ most) :
    blockF bs most (8 * pre.length) out = .ok (decide (h = 0), 8 * (pre.length + 5 + x.length), out ++ x) := by
  have e0 : ofB bs = ofB pre ++ bitsL h 8 ++ (bitsL (x.length % 256) 8 ++ bitsL (x.length / 256) 8 ++ (bitsL (255 - x.length % 256) 8 ++ bitsL (255 - x.length / 256) 8 ++ ofB (x ++ post))) := by
    rw [hbs]
    simp only [encB, List.cons_append, List.nil_append, List.append_assoc, ofB_append, ofB_cons]
  have el := ofB_len pre
  have hq : x.length / 256 < 256 := by omega
  have hr : x.length % 256 < 256 := by omega
  have hlen : bs.length = pre.length + 5 + x.length + post.length := by rw [hbs]; simp [encB]; omega
  unfold blockF
  rw [takeF_at (A := ofB pre) (B := [decide (h = 1)]) (n := 1) (p := 8 * pre.length) (⟨_, by rw [e0, bits01 hh]; simp only [List.append_assoc]; rfl⟩) rfl el.symm, bnd_k]
  dsimp only
  rw [takeF_at (A := ofB pre ++ [decide (h = 1)]) (B := [false, false]) (n := 2) (p := 8 * pre.length + 1) (⟨_, by rw [e0, bits01 hh]; simp only [List.append_assoc]; rfl⟩) rfl (by simp [el]), bnd_k]
  dsimp only
  have n2 : num [false, false] = 0 := rfl
  rw [n2, if_neg (by omega), if_pos rfl]
  unfold storedF
  rw [show (8 * pre.length + 1 + 2 + 7) / 8 * 8 = 8 * pre.length + 8 by omega]
  rw [takeF_at (A := ofB pre ++ bitsL h 8) (B := bitsL (x.length % 256) 8 ++ bitsL (x.length / 256) 8) (n := 16) (p := 8 * pre.length + 8) (⟨_, by rw [e0]; simp only [List.append_assoc]; rfl⟩) (by simp [bitsL_len]) (by simp [bitsL_len, el]), bnd_k]
  dsimp only
  rw [takeF_at (A := ofB pre ++ bitsL h 8 ++ (bitsL (x.length % 256) 8 ++ bitsL (x.length / 256) 8)) (B := bitsL (255 - x.length % 256) 8 ++ bitsL (255 - x.length / 256) 8) (n := 16) (p := 8 * pre.length + 8 + 16) (⟨_, by rw [e0]; simp only [List.append_assoc]; rfl⟩) (by simp [bitsL_len]) (by simp [bitsL_len, el]), bnd_k]
  dsimp only
  rw [num16 hr hq, num16 (by omega) (by omega)]
  have en : x.length % 256 + 256 * (x.length / 256) = x.length := Nat.mod_add_div ..
  rw [en]
  have hxor : x.length ^^^ (255 - x.length % 256 + 256 * (255 - x.length / 256)) = 65535 := (xor_sum (by omega) (by omega)).2 (by omega)
  rw [hxor, if_neg (by simp), if_neg (by omega), if_neg (by omega), bnd_k]
  have ed : bs.drop ((8 * pre.length + 8 + 16 + 16) / 8) = x ++ post := by
    rw [hbs, show (8 * pre.length + 8 + 16 + 16) / 8 = (pre ++ [h, x.length % 256, x.length / 256, 255 - x.length % 256, 255 - x.length / 256]).length by simp; omega]
    unfold encB
    rw [show pre ++ ([h, x.length % 256, x.length / 256, 255 - x.length % 256, 255 - x.length / 256] ++ x) ++ post = (pre ++ [h, x.length % 256, x.length / 256, 255 - x.length % 256, 255 - x.length / 256]) ++ (x ++ post) by simp only [List.append_assoc]]
    rw [List.drop_left]
  rw [ed, List.take_left]
  congr 2
  · rcases (by omega : h = 0 ∨ h = 1) with rfl | rfl <;> rfl
  · congr 1
    omega
theorem blocks_enc {bs : List Nat} {most : Nat} {last : List Nat} (hl : last.length < 65536) : ∀ (r : List (List Nat)) (pre out : List Nat) (f : Nat), bs = pre ++ encAll r last → (∀ x ∈ r, x.length < 65536) → out.length + r.flatten.length + last.length ≤ most → r.length < f →
    blocksF bs most f (8 * pre.length) out = .ok (8 * bs.length, out ++ r.flatten ++ last)
  | r, pre, out, 0, _, _, _, hf => by omega
  | [], pre, out, f + 1, hbs, hx, hm, hf => by
    unfold blocksF
    rw [block_enc (pre := pre) (x := last) (post := []) (h := 1) (by simpa [encAll] using hbs) (by omega) hl (by simpa using hm), bnd_k]
    have : bs.length = pre.length + 5 + last.length := by rw [hbs]; simp [encAll, encB]; omega
    simp [this]
  | x :: r, pre, out, f + 1, hbs, hx, hm, hf => by
    unfold blocksF
    simp only [List.flatten_cons, List.length_append] at hm
    rw [block_enc (pre := pre) (x := x) (post := encAll r last) (h := 0) (by simpa [encAll] using hbs) (by omega) (hx x (by simp)) (by omega), bnd_k]
    have e1 : pre.length + 5 + x.length = (pre ++ encB 0 x).length := by simp [encB]; omega
    simp only [decide_true, if_true]
    rw [e1, blocks_enc hl r (pre ++ encB 0 x) (out ++ x) f (by rw [hbs]; simp [encAll]) (fun y hy => hx y (by simp [hy])) (by simp only [List.length_append]; omega) (by simpa using hf)]
    simp
theorem infl_enc {r : List (List Nat)} {last : List Nat} (hx : ∀ x ∈ r, x.length < 65536) (hl : last.length < 65536) :
    inflF (encAll r last) ((r.flatten ++ last).length : Nat) = .ok (r.flatten ++ last, (encAll r last).length) := by
  have hlen : ∀ r : List (List Nat), r.length < 8 * (encAll r last).length + 1 := by
    intro r
    induction r with
    | nil => simp
    | cons x r ih => simp only [encAll, encB, List.length_cons, List.length_append] at *; omega
  unfold inflF
  rw [if_neg (by omega)]
  have h := blocks_enc (bs := encAll r last) (most := (r.flatten ++ last).length) hl r [] [] (8 * (encAll r last).length + 1) rfl hx (by simp) (hlen r)
  simp only [Int.toNat_natCast]
  rw [show (0 : Nat) = 8 * ([] : List Nat).length from rfl, h, bnd_k]
  simp
  omega
/-- What the law makes of the first blocks. -/
def encF (l : List (List Nat)) : List Nat := l.flatMap (encB 0)
theorem encAll_eq (r : List (List Nat)) (last : List Nat) : encAll r last = encF r ++ encB 1 last := by
  induction r with
  | nil => rfl
  | cons x r ih => simp [encAll, encF, ih]

end Go.Proofs.Ytfjhmbgckmhdaaa
