/-
  Inflating on plain lists: what octets come to, step by step; an error ends it.
-/
import Derived.Test.YtfjhmbgckmhdaaaCanU
import Derived.Test.YtfjhmbgckmhdaaaEng9
namespace Go.Proofs.Ytfjhmbgckmhdaaa
open Go.RowKit

def bnd {α β : Type} : Except Nat α → (α → Except Nat β) → Except Nat β
  | .error c, _ => .error c
  | .ok x, f => f x
@[simp] theorem bnd_e {α β : Type} (c : Nat) (f : α → Except Nat β) : bnd (.error c) f = .error c := rfl
@[simp] theorem bnd_k {α β : Type} (x : α) (f : α → Except Nat β) : bnd (.ok x) f = f x := rfl

/-- The next n bits. -/
def takeF (L : List Bool) (n p : Nat) : Except Nat (Nat × Nat) := if p + n ≤ L.length then .ok (num ((L.drop p).take n), p + n) else .error 2
/-- The next symbol by lengths. -/
def symF (L : List Bool) (l : List Int) (p : Nat) : Except Nat (Nat × Nat) := if (tk l L (mostC l) 1 0 p).2.2 = 0 then .ok ((tk l L (mostC l) 1 0 p).1, (tk l L (mostC l) 1 0 p).2.1) else .error (tk l L (mostC l) 1 0 p).2.2
theorem takeF_ok {L : List Bool} {n p v q : Nat} (h : takeF L n p = .ok (v, q)) : q = p + n ∧ p + n ≤ L.length ∧ v < 2 ^ n ∧ v = num ((L.drop p).take n) := by
  unfold takeF at h
  split at h
  · rename_i h1
    simp only [Except.ok.injEq, Prod.mk.injEq] at h
    obtain ⟨rfl, rfl⟩ := h
    have h2 := num_lt ((L.drop p).take n)
    rw [List.length_take, List.length_drop, Nat.min_eq_left (by omega)] at h2
    exact ⟨rfl, h1, h2, rfl⟩
  · cases h
theorem hit_lt {l : List Int} {n v i : Nat} (h : hit l n v = some i) (hn1 : 1 ≤ n) (hn15 : n ≤ 15) : i < l.length := ((hit_iff l n v i hn1 hn15).1 h).1
theorem tk_facts (l : List Int) (L : List Bool) : ∀ m n v p, 1 ≤ n → n + m ≤ 16 → p ≤ L.length → p ≤ (tk l L m n v p).2.1 ∧ (tk l L m n v p).2.1 ≤ L.length ∧ ((tk l L m n v p).2.2 = 0 → p < (tk l L m n v p).2.1 ∧ (tk l L m n v p).1 < l.length) ∧ ((tk l L m n v p).2.2 = 0 ∨ (tk l L m n v p).2.2 = 2 ∨ (tk l L m n v p).2.2 = 11)
  | 0, n, v, p, _, _, hp => by simp [tk, hp]
  | m + 1, n, v, p, h1, h2, hp => by
    unfold tk
    cases hb : L[p]? with
    | none => simp [hp]
    | some b =>
      have hpl : p < L.length := (List.getElem?_eq_some_iff.1 hb).1
      dsimp only
      cases hh : hit l n (2 * v + b.toNat) with
      | some i =>
        dsimp only
        exact ⟨by omega, by omega, fun _ => ⟨by omega, hit_lt hh h1 (by omega)⟩, .inl rfl⟩
      | none =>
        dsimp only
        obtain ⟨h3, h4, h5, h6⟩ := tk_facts l L m (n + 1) (2 * v + b.toNat) (p + 1) (by omega) (by omega) (by omega)
        exact ⟨by omega, h4, fun h => ⟨by have := (h5 h).1; omega, (h5 h).2⟩, h6⟩
theorem symF_ok {L : List Bool} {l : List Int} {p s q : Nat} (hm : mostC l ≤ 15) (hp : p ≤ L.length) (h : symF L l p = .ok (s, q)) : p < q ∧ q ≤ L.length ∧ s < l.length := by
  unfold symF at h
  obtain ⟨h3, h4, h5, h6⟩ := tk_facts l L (mostC l) 1 0 p (by omega) (by omega) hp
  split at h
  · rename_i h0
    simp only [Except.ok.injEq, Prod.mk.injEq] at h
    obtain ⟨rfl, rfl⟩ := h
    exact ⟨(h5 h0).1, h4, (h5 h0).2⟩
  · cases h

/-- The least length of each symbol from 257 on, and how many bits more. -/
def longT : List (Nat × Nat) := [(3, 0), (4, 0), (5, 0), (6, 0), (7, 0), (8, 0), (9, 0), (10, 0), (11, 1), (13, 1), (15, 1), (17, 1), (19, 2), (23, 2), (27, 2), (31, 2), (35, 3), (43, 3), (51, 3), (59, 3), (67, 4), (83, 4), (99, 4), (115, 4), (131, 5), (163, 5), (195, 5), (227, 5), (258, 0)]
/-- The least way of each symbol, and how many bits more. -/
def wayT : List (Nat × Nat) := [(1, 0), (2, 0), (3, 0), (4, 0), (5, 1), (7, 1), (9, 2), (13, 2), (17, 3), (25, 3), (33, 4), (49, 4), (65, 5), (97, 5), (129, 6), (193, 6), (257, 7), (385, 7), (513, 8), (769, 8), (1025, 9), (1537, 9), (2049, 10), (3073, 10), (4097, 11), (6145, 11), (8193, 12), (12289, 12), (16385, 13), (24577, 13)]
def orderT : List Nat := [16, 17, 18, 0, 8, 7, 9, 6, 10, 5, 11, 4, 12, 3, 13, 2, 14, 1, 15]
def fixedL : List Int := List.replicate 144 8 ++ List.replicate 112 9 ++ List.replicate 24 7 ++ List.replicate 8 8
def fixedW : List Int := List.replicate 32 5

def storedF (bs : List Nat) (most p : Nat) (out : List Nat) : Except Nat (Nat × List Nat) :=
  bnd (takeF (ofB bs) 16 ((p + 7) / 8 * 8)) fun x => bnd (takeF (ofB bs) 16 x.2) fun y =>
    if x.1 ^^^ y.1 ≠ 65535 then .error 3 else if (8 * bs.length - y.2) / 8 < x.1 then .error 2 else if most < out.length + x.1 then .error 13
    else .ok (y.2 + 8 * x.1, out ++ (bs.drop (y.2 / 8)).take x.1)
def copyF : Nat → Nat → List Nat → List Nat
  | 0, _, out => out
  | n + 1, d, out => copyF n d (out ++ [out.getD (out.length - d) 0])
/-- The next token: does the block go on; how far it is read; what came out. -/
def tokenF (L : List Bool) (a b : List Int) (most p : Nat) (out : List Nat) : Except Nat (Bool × Nat × List Nat) :=
  bnd (symF L a p) fun x =>
    if x.1 < 256 then (if out.length < most then .ok (true, x.2, out ++ [x.1]) else .error 13)
    else if x.1 = 256 then .ok (false, x.2, out)
    else if 285 < x.1 then .error 11
    else bnd (takeF L (longT.getD (x.1 - 257) (0, 0)).2 x.2) fun v => bnd (symF L b v.2) fun y =>
      if 30 ≤ y.1 then .error 11
      else bnd (takeF L (wayT.getD y.1 (0, 0)).2 y.2) fun u =>
        if out.length < (wayT.getD y.1 (0, 0)).1 + u.1 then .error 12
        else if most < out.length + ((longT.getD (x.1 - 257) (0, 0)).1 + v.1) then .error 13
        else .ok (true, u.2, copyF ((longT.getD (x.1 - 257) (0, 0)).1 + v.1) ((wayT.getD y.1 (0, 0)).1 + u.1) out)
def tokensF (L : List Bool) (a b : List Int) (most : Nat) : Nat → Nat → List Nat → Except Nat (Nat × List Nat)
  | 0, _, _ => .error 99
  | f + 1, p, out => bnd (tokenF L a b most p out) fun x => if x.1 then tokensF L a b most f x.2.1 x.2.2 else .ok x.2
/-- The next lengths of a list. -/
def moreF (L : List Bool) (l : List Int) (p : Nat) (all : List Int) (most : Nat) : Except Nat (Nat × List Int) :=
  bnd (symF L l p) fun x =>
    bnd (if x.1 = 16 then (if all.length = 0 then .error 11 else bnd (takeF L 2 x.2) fun v => .ok (v.2, all.getD (all.length - 1) 0, 3 + v.1))
      else if x.1 = 17 then bnd (takeF L 3 x.2) fun v => .ok (v.2, 0, 3 + v.1)
      else if x.1 = 18 then bnd (takeF L 7 x.2) fun v => .ok (v.2, 0, 11 + v.1)
      else .ok (x.2, (x.1 : Int), 1)) fun (y : Nat × Int × Nat) =>
    if most < all.length + y.2.2 then .error 11 else .ok (y.1, all ++ List.replicate y.2.2 y.2.1)
def moresF (L : List Bool) (l : List Int) (most : Nat) : Nat → Nat → List Int → Except Nat (Nat × List Int)
  | 0, _, _ => .error 99
  | f + 1, p, all => if all.length < most then bnd (moreF L l p all most) fun x => moresF L l most f x.1 x.2 else .ok (p, all)
/-- The third code's lengths. -/
def thirdF (L : List Bool) : List Nat → Nat → List Int → Except Nat (Nat × List Int)
  | [], p, l => .ok (p, l)
  | s :: r, p, l => bnd (takeF L 3 p) fun v => thirdF L r v.2 (l.set s (v.1 : Int))
def dynH (many : Nat) (u : Nat × List Int) : Except Nat (Nat × List Int × List Int) :=
  if ¬ 0 < u.2.getD 256 0 then .error 11
  else if newE (u.2.take many) ≠ 0 then .error 11
  else if newE (u.2.drop many) ≠ 0 then .error 11
  else .ok (u.1, u.2.take many, u.2.drop many)
def dynG (L : List Bool) (many far : Nat) (t : Nat × List Int) : Except Nat (Nat × List Int × List Int) :=
  if newE t.2 ≠ 0 then .error 11 else bnd (moresF L t.2 (many + far) (L.length + 1) t.1 []) (dynH many)
def dynF (L : List Bool) (p : Nat) : Except Nat (Nat × List Int × List Int) :=
  bnd (takeF L 5 p) fun x => bnd (takeF L 5 x.2) fun y => bnd (takeF L 4 y.2) fun z =>
    if ¬ (257 + x.1 ≤ 286 ∧ 1 + y.1 ≤ 30) then .error 3
    else bnd (thirdF L (orderT.take (4 + z.1)) z.2 (List.replicate 19 0)) (dynG L (257 + x.1) (1 + y.1))
theorem moreF_ok {L : List Bool} {l : List Int} {p q : Nat} {all all' : List Int} {most : Nat} (hm : mostC l ≤ 15) (hp : p ≤ L.length) (h : moreF L l p all most = .ok (q, all')) : p < q ∧ q ≤ L.length ∧ all'.length ≤ most ∧ all.length ≤ all'.length := by
  unfold moreF at h
  rcases hS : symF L l p with k | ⟨s, p1⟩
  · rw [hS] at h; cases h
  · rw [hS, bnd_k] at h
    obtain ⟨h1, h2, _⟩ := symF_ok hm hp hS
    dsimp only at h
    have key : ∀ (E : Except Nat (Nat × Int × Nat)), bnd E (fun (y : Nat × Int × Nat) => if most < all.length + y.2.2 then .error 11 else .ok (y.1, all ++ List.replicate y.2.2 y.2.1)) = .ok (q, all') → ∃ y, E = .ok y ∧ y.1 = q ∧ all'.length ≤ most ∧ all.length ≤ all'.length := by
      intro E hE
      cases E with
      | error k => cases hE
      | ok y =>
        rw [bnd_k] at hE
        split at hE
        · cases hE
        · simp only [Except.ok.injEq, Prod.mk.injEq] at hE
          refine ⟨y, rfl, hE.1, ?_, ?_⟩ <;> (rw [← hE.2, List.length_append, List.length_replicate]; omega)
    obtain ⟨y, hy, rfl, h5, h6⟩ := key _ h
    have tk' : ∀ n (g : Nat × Nat → Nat × Int × Nat), (∀ v, (g v).1 = v.2) → bnd (takeF L n p1) (fun v => .ok (g v)) = .ok y → p1 ≤ y.1 ∧ y.1 ≤ L.length := by
      intro n g hg hE
      rcases hT : takeF L n p1 with k | v
      · rw [hT] at hE; cases hE
      · rw [hT, bnd_k] at hE
        obtain ⟨a, b⟩ := v
        obtain ⟨h7, h8, _, _⟩ := takeF_ok hT
        simp only [Except.ok.injEq] at hE
        rw [← hE, hg]
        dsimp only
        omega
    refine ⟨?_, ?_, h5, h6⟩
    all_goals
      split at hy
      · split at hy
        · cases hy
        · have := tk' 2 _ (fun v => rfl) hy; omega
      · split at hy
        · have := tk' 3 _ (fun v => rfl) hy; omega
        · split at hy
          · have := tk' 7 _ (fun v => rfl) hy; omega
          · simp only [Except.ok.injEq] at hy; rw [← hy]; dsimp only; omega
/-- The next block: is there one more. -/
def blockF (bs : List Nat) (most p : Nat) (out : List Nat) : Except Nat (Bool × Nat × List Nat) :=
  bnd (takeF (ofB bs) 1 p) fun x => bnd (takeF (ofB bs) 2 x.2) fun k =>
    if ¬ k.1 < 3 then .error 3
    else bnd (if k.1 = 0 then storedF bs most k.2 out
      else if k.1 = 1 then tokensF (ofB bs) fixedL fixedW most (8 * bs.length + 1) k.2 out
      else bnd (dynF (ofB bs) k.2) fun c => tokensF (ofB bs) c.2.1 c.2.2 most (8 * bs.length + 1) c.1 out) fun (r : Nat × List Nat) => .ok (decide (x.1 = 0), r)
def blocksF (bs : List Nat) (most : Nat) : Nat → Nat → List Nat → Except Nat (Nat × List Nat)
  | 0, _, _ => .error 99
  | f + 1, p, out => bnd (blockF bs most p out) fun x => if x.1 then blocksF bs most f x.2.1 x.2.2 else .ok x.2
/-- What octets come to, and how many were read. -/
def inflF (bs : List Nat) (most : Int) : Except Nat (List Nat × Nat) :=
  if most < 0 then .error 1 else bnd (blocksF bs most.toNat (8 * bs.length + 1) 0 []) fun x => .ok (x.2, (x.1 + 7) / 8)
end Go.Proofs.Ytfjhmbgckmhdaaa
