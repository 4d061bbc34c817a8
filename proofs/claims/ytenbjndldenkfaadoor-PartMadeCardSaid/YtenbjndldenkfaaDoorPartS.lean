/-
  A letter made of parts, as the law of layer 20 makes it.
-/
import Derived.Test.YtenbjndldenkfaaDoorPartT
import Derived.Test.YtenbjndldenkfaaDoorPartQ
namespace Go.Proofs.YtenbjndldenkfaaDoor
open Go.RowKit Go.Sort

/-- What stands ahead: no dashes. -/
def nd (c : UInt8) : Bool := decide (c.toNat ≠ 45)
def ndr (c : UInt8) : Bool := decide (c.toNat ≠ 45) && decide (c.toNat ≠ 13)
def fA (v : Tx) (i : Nat) : Tx := (v.take i).filter nd
def fX (y : Tx) (k : Nat) : Tx := (y.take k).filter ndr
def xOf (y : Tx) : Tx := 10 :: fX y 60
theorem fA_len (v : Tx) (i : Nat) : (fA v i).length ≤ i := by
  have := List.length_filter_le nd (v.take i)
  rw [List.length_take] at this
  unfold fA
  omega
theorem fX_len (v : Tx) (i : Nat) : (fX v i).length ≤ i := by
  have := List.length_filter_le ndr (v.take i)
  rw [List.length_take] at this
  unfold fX
  omega
theorem fA_next {v : Tx} {i : Nat} (h : i < v.length) : fA v (i + 1) = fA v i ++ (if v[i].toNat ≠ 45 then [v[i]] else []) := by
  unfold fA
  rw [take_snoc h, List.filter_append]
  congr 1
  by_cases e : v[i].toNat = 45 <;> simp [nd, e]
theorem fX_next {v : Tx} {i : Nat} (h : i < v.length) : fX v (i + 1) = fX v i ++ (if v[i].toNat ≠ 45 ∧ v[i].toNat ≠ 13 then [v[i]] else []) := by
  unfold fX
  rw [take_snoc h, List.filter_append]
  congr 1
  by_cases e : v[i].toNat = 45 <;> by_cases e2 : v[i].toNat = 13 <;> simp [ndr, e, e2]
theorem fA_end {v : Tx} {i : Nat} (h : i ≤ 40) (hi : i ≤ v.length) (he : ¬ (i < v.length ∧ i < 40)) : fA v i = fA v 40 := by
  by_cases h2 : i = 40
  · rw [h2]
  · have : i = v.length := by omega
    unfold fA
    rw [this, List.take_length, List.take_of_length_le (by omega)]
theorem fX_end {v : Tx} {i : Nat} (h : i ≤ 60) (hi : i ≤ v.length) (he : ¬ (i < v.length ∧ i < 60)) : fX v i = fX v 60 := by
  by_cases h2 : i = 60
  · rw [h2]
  · have : i = v.length := by omega
    unfold fX
    rw [this, List.take_length, List.take_of_length_le (by omega)]
theorem fA_ok (v : Tx) (i : Nat) : ∀ c ∈ fA v i, c ≠ 45 := by
  intro c hc
  have := (List.mem_filter.1 hc).2
  rintro rfl
  simp [nd] at this
theorem xOf_ok (y : Tx) : ∃ t, xOf y = 10 :: t ∧ ∀ c ∈ t, c ≠ 45 ∧ c ≠ 13 := by
  refine ⟨_, rfl, fun c hc => ?_⟩
  have := (List.mem_filter.1 hc).2
  constructor <;> (rintro rfl; simp [ndr] at this)
theorem xOf_len (y : Tx) : (xOf y).length ≤ 61 := by
  have := fX_len y 60
  unfold xOf
  simp
  omega
/-- What is put behind for a part. -/
def segN (x : Tx) : Tx := 10 :: (sgnT ++ x)
def bjT (ah : Tx) (xs : List Tx) : Tx := headT ++ (ah ++ xs.flatMap segN)
theorem bjT_snoc (ah : Tx) (xs : List Tx) (x : Tx) : bjT ah (xs ++ [x]) = bjT ah xs ++ segN x := by
  unfold bjT
  rw [List.flatMap_append]
  simp
theorem bjT_nil (ah : Tx) : bjT ah [] = headT ++ ah := by simp [bjT]
theorem seg_shift : ∀ xs : List Tx, xs.flatMap segN ++ [10] = [10] ++ segT xs
  | [] => rfl
  | x :: r => by
    have h := seg_shift r
    rw [List.flatMap_cons, List.append_assoc, h]
    show 10 :: (sgnT ++ x) ++ ([10] ++ segT r) = [10] ++ ((sgnT ++ (x ++ [10])) ++ segT r)
    simp
theorem made_eq (ah : Tx) (xs : List Tx) : bjT ah xs ++ (10 :: finT) = madeT ah xs := by
  have h := seg_shift xs
  unfold bjT madeT
  rw [show ((10 : UInt8) :: finT) = [10] ++ finT from rfl, List.append_assoc, List.append_assoc, ← List.append_assoc (xs.flatMap segN), h]
  simp
theorem bjT_len (ah : Tx) (xs : List Tx) (ha : ah.length ≤ 40) (hx : ∀ x ∈ xs, x.length ≤ 61) : (bjT ah xs).length ≤ 84 + 67 * xs.length := by
  unfold bjT
  rw [List.length_append, List.length_append]
  have h1 : headT.length = 44 := by decide
  have h2 : (xs.flatMap segN).length ≤ 67 * xs.length := by
    induction xs with
    | nil => simp
    | cons x r ih =>
      have := ih (fun y hy => hx y (by simp [hy]))
      have h3 := hx x (by simp)
      rw [List.flatMap_cons, List.length_append, List.length_cons]
      have : (segN x).length = 6 + x.length := by simp [segN, sgnT]; omega
      omega
  omega
def SLT (y : Option Addr × Nat × Tx) : Value := .slice y.1 y.2.2.length y.2.1
theorem SLT_at {w : World} {A : Option Addr} {ys : List (Option Addr × Nat × Tx)} {k : Nat} (h : Rd w 1 A ys.length (ys.map SLT)) (hk : k < ys.length) : ∃ ad, A = some ad ∧ w.cell? (ad.add k) = some (SLT ys[k]) := by
  obtain ⟨ad, rfl, hlt, hc⟩ := h.2 (by omega)
  exact ⟨ad, rfl, hc k _ (by simp [List.getElem?_eq_getElem hk])⟩
theorem made_in (ah : Tx) (xs : List Tx) (i : Nat) (hi : i < xs.length) (hah : ∀ c ∈ ah, c ≠ 45) : ∃ (a b : Nat), (mkS (44 + ah.length + 1) xs)[i]? = some (a, b) ∧ sliceQ (madeT ah xs) a b = xs[i] ∧ b = a + xs[i].length ∧ b ≤ (madeT ah xs).length := by
  have hdr : (madeT ah xs).drop (44 + ah.length + 1) = segT xs ++ finT := by
    rw [show 44 + ah.length + 1 = 44 + (ah.length + 1) by omega, ← List.drop_drop, made_drop]
    exact List.drop_left' (by simp)
  have hl : i < (mkS (44 + ah.length + 1) xs).length := by rw [mkS_len]; exact hi
  obtain ⟨x, h1, h2, h3, h4⟩ := mkS_mem _ xs _ hdr i _ (List.getElem?_eq_getElem hl)
  rw [List.getElem?_eq_getElem hi] at h1
  cases h1
  exact ⟨_, _, List.getElem?_eq_getElem hl, h2, h3, h4⟩
theorem slice_tail {s x : Tx} {a b : Nat} (h : sliceQ s a b = x) : sliceQ s (a + 1) b = x.drop 1 := by
  rw [← h]
  unfold sliceQ
  rw [List.drop_take, List.drop_drop, show b - (a + 1) = b - a - 1 by omega]

end Go.Proofs.YtenbjndldenkfaaDoor
