/-
  Mailboxes on plain lists, and how they lie in memory.
-/
import Derived.Test.YtmfglifjnoilnaaFlagN
import Derived.Test.YtmfglifjnoilnaaDateP
import Derived.Test.YtmfglifjnoilnaaOpen
namespace Go.Proofs.Ytmfglifjnoilnaa
open Go.RowKit

/-- A message. -/
structure MsgP where
  uid : Int
  sec : Int
  zone : Int
  size : Int
  blob : Nat
  flags : List Tx
deriving DecidableEq
/-- A message, and where its flags lie. -/
structure Mc where
  m : MsgP
  A : Option Addr
  c : Nat
def Mc.cells (x : Mc) : List Value := [.int .i64 x.m.uid, .int .i64 x.m.sec, .int .i64 x.m.zone, .int .i64 x.m.size, .int .u64 (x.m.blob : Int), .slice x.A x.m.flags.length x.c]
theorem Mc.cells_len (x : Mc) : x.cells.length = 6 := rfl
theorem Mc.cells_one (x : Mc) : ∀ u ∈ x.cells, u.oneCell' = true := by
  intro u hu
  simp only [Mc.cells, List.mem_cons, List.not_mem_nil, or_false] at hu
  rcases hu with rfl | rfl | rfl | rfl | rfl | rfl <;> rfl
/-- Messages in cells. -/
abbrev MC (l : List Mc) : List Value := l.flatMap Mc.cells
theorem MC_len (l : List Mc) : (MC l).length = l.length * 6 := flat_len Mc.cells 6 Mc.cells_len l
theorem MC_append (a b : List Mc) : MC (a ++ b) = MC a ++ MC b := List.flatMap_append
/-- Its flags are read, and are not too many. -/
structure Mc.At (w : World) (x : Mc) : Prop where
  rd : Rd w 1 x.A x.m.flags.length (SB x.m.flags)
  n : x.m.flags.length ≤ 500000
  q : ∀ q ∈ x.m.flags, q.length ≤ 1000000
theorem Mc.At.frm {w w' : World} {S : List Nat} {x : Mc} (h : x.At w) (k : Frm S w w') (hS : ∀ b ∈ S, w.heap.size ≤ b) : x.At w' :=
  ⟨h.rd.frm k (fun hn y hy hyS => by have := h.rd.lt hn y hy; have := hS y hyS; omega), h.n, h.q⟩
/-- Messages that are read. -/
structure RdM (w : World) (A : Option Addr) (l : List Mc) : Prop where
  rd : Rd w 6 A l.length (MC l)
  fl : ∀ x ∈ l, x.At w
theorem RdM.nil (w : World) (A : Option Addr) : RdM w A [] := ⟨Rd.nil _ _ _, by simp⟩
theorem RdM.frm {w w' : World} {A : Option Addr} {l : List Mc} (h : RdM w A l) (k : Frm [] w w') : RdM w' A l :=
  ⟨h.rd.frm k (by simp), fun x hx => (h.fl x hx).frm k (by simp)⟩
theorem RdM.elem {w : World} {A : Option Addr} {l : List Mc} {k : Nat} (h : RdM w A l) (hk : k < l.length) : ∃ ad, A = some ad ∧ ∀ j v, (l[k]).cells[j]? = some v → w.cell? ((ad.add (k * 6)).add j) = some v := by
  obtain ⟨ad, rfl, hc⟩ := h.rd.elem hk
  refine ⟨ad, rfl, fun j v hj => hc j v ?_⟩
  rw [flat_get Mc.cells 6 Mc.cells_len l k hk]
  exact hj
/-- A mailbox. -/
structure BoxV where
  valid : Int
  next : Int
  l : List MsgP
deriving DecidableEq
/-- The messages that were meant. -/
abbrev Ms (l : List Mc) : List MsgP := l.map Mc.m
/-- May a message be, but for its number? -/
def MsgOk (m : MsgP) : Prop := DateOk m.sec m.zone ∧ 0 ≤ m.size ∧ m.blob ≠ 0 ∧ checkF m.flags
instance (m : MsgP) : Decidable (MsgOk m) := by unfold MsgOk; infer_instance
/-- The number ahead. -/
def prevU (l : List MsgP) : Nat → Int
  | 0 => 0
  | j + 1 => (l[j]?.map MsgP.uid).getD 0
/-- Is a message's place right? -/
def GoodAt (next : Int) (l : List MsgP) (j : Nat) (m : MsgP) : Prop := prevU l j < m.uid ∧ m.uid < next ∧ MsgOk m
instance (a : Int) (l : List MsgP) (j : Nat) (m : MsgP) : Decidable (GoodAt a l j m) := by unfold GoodAt; infer_instance
/-- May a box be? -/
def mayB (b : BoxV) : Prop := (1 ≤ b.valid ∧ b.valid ≤ 2147483647 ∧ 1 ≤ b.next ∧ b.next ≤ 2147483648 ∧ b.l.length ≤ 128) ∧ ∀ j (h : j < b.l.length), GoodAt b.next b.l j b.l[j]
instance (b : BoxV) : Decidable (mayB b) := by
  unfold mayB
  infer_instance
/-- A message laid behind the others. -/
def appendB (b : BoxV) (m : MsgP) : Except Nat BoxV :=
  if ¬ mayB b ∨ ¬ MsgOk m then .error 1 else if 128 ≤ b.l.length then .error 5 else if 2147483647 < b.next then .error 19
  else .ok ⟨b.valid, b.next + 1, b.l ++ [{ m with uid := b.next }]⟩
def deletedF : Tx := [92, 68, 101, 108, 101, 116, 101, 100]
/-- Does a message go? -/
def goesB (every : Bool) (only : List Int) (m : MsgP) : Prop := hasF m.flags deletedF ∧ (every = true ∨ m.uid ∈ only)
instance (every : Bool) (only : List Int) (m : MsgP) : Decidable (goesB every only m) := by unfold goesB; infer_instance
/-- The places of those that a test names (from 1 on), behind some that are passed. -/
def marksQ (q : MsgP → Bool) : Nat → List MsgP → List Nat
  | _, [] => []
  | i, m :: r => if q m = true then (i + 1) :: marksQ q (i + 1) r else marksQ q (i + 1) r
theorem marksQ_snoc (q : MsgP → Bool) : ∀ (l : List MsgP) (i : Nat) (m : MsgP), marksQ q i (l ++ [m]) = marksQ q i l ++ if q m = true then [i + l.length + 1] else []
  | [], i, m => by simp only [List.nil_append, marksQ, List.length_nil, Nat.add_zero]
  | a :: r, i, m => by
    have ih := marksQ_snoc q r (i + 1) m
    have e : i + 1 + r.length + 1 = i + (r.length + 1) + 1 := by omega
    simp only [List.cons_append, marksQ, List.length_cons]
    split
    · rw [ih, List.cons_append, e]
    · rw [ih, e]
theorem marksQ_mem (q : MsgP → Bool) : ∀ (l : List MsgP) (i p : Nat), p ∈ marksQ q i l → i < p ∧ p ≤ i + l.length
  | [], i, p, h => by simp [marksQ] at h
  | a :: r, i, p, h => by
    simp only [marksQ] at h
    have ih := marksQ_mem q r (i + 1) p
    simp only [List.length_cons]
    split at h
    · rcases List.mem_cons.1 h with h1 | h1
      · omega
      · have := ih h1; omega
    · have := ih h; omega
theorem marksQ_len (q : MsgP → Bool) : ∀ (l : List MsgP) (i : Nat), (marksQ q i l).length ≤ l.length
  | [], i => by simp [marksQ]
  | a :: r, i => by
    have ih := marksQ_len q r (i + 1)
    simp only [marksQ]
    split
    · simp only [List.length_cons]; omega
    · simp only [List.length_cons]; omega
theorem marksQ_ge (q : MsgP → Bool) : ∀ (l : List MsgP) (i j : Nat) (h : j < (marksQ q i l).length), i + j + 1 ≤ (marksQ q i l)[j]
  | [], i, j, h => by simp [marksQ] at h
  | a :: r, i, j, h => by
    have ih := marksQ_ge q r (i + 1)
    by_cases hq : q a = true
    · have e : marksQ q i (a :: r) = (i + 1) :: marksQ q (i + 1) r := by simp [marksQ, hq]
      have h' : j < ((i + 1) :: marksQ q (i + 1) r).length := by rw [← e]; exact h
      have e2 : (marksQ q i (a :: r))[j] = ((i + 1) :: marksQ q (i + 1) r)[j] := by congr 1
      rw [e2]
      cases j with
      | zero => simp
      | succ j =>
        have := ih j (by simpa using h')
        simp only [List.getElem_cons_succ]
        omega
    · have e : marksQ q i (a :: r) = marksQ q (i + 1) r := by simp [marksQ, hq]
      have h' : j < (marksQ q (i + 1) r).length := by rw [← e]; exact h
      have e2 : (marksQ q i (a :: r))[j] = (marksQ q (i + 1) r)[j] := by congr 1
      rw [e2]
      have := ih j h'
      omega
/-- Each place less those ahead of it. -/
def shiftP : Nat → List Nat → List Nat
  | _, [] => []
  | k, p :: r => (p - k) :: shiftP (k + 1) r
theorem shiftP_snoc : ∀ (l : List Nat) (k p : Nat), shiftP k (l ++ [p]) = shiftP k l ++ [p - (k + l.length)]
  | [], k, p => rfl
  | a :: r, k, p => by
    have e : k + 1 + r.length = k + (r.length + 1) := by omega
    simp only [List.cons_append, shiftP, shiftP_snoc r (k + 1) p, List.length_cons, e]
/-- The blobs at places. -/
def blobsP (l : List MsgP) (ps : List Nat) : List Nat := ps.map fun p => (l[p - 1]?.map MsgP.blob).getD 0
theorem marksQ_shift (q : MsgP → Bool) : ∀ (l : List MsgP) (i k : Nat), k ≤ i → (shiftP k (marksQ q i l)).length = (marksQ q i l).length ∧ ∀ a b, marksQ q i l = a :: b → k < a
  | [], i, k, _ => by simp [marksQ, shiftP]
  | m :: r, i, k, h => by
    have len : ∀ (l : List Nat) k, (shiftP k l).length = l.length := by
      intro l
      induction l with
      | nil => intro k; rfl
      | cons a b ih => intro k; simp [shiftP, ih]
    refine ⟨len _ _, fun a b hab => ?_⟩
    have := marksQ_mem q (m :: r) i a (by rw [hab]; simp)
    omega
/-- Numbers of Nat in cells. -/
abbrev NI (l : List Nat) : List Value := IB (l.map fun x : Nat => (x : Int))
theorem NI_append (a b : List Nat) : NI (a ++ b) = NI a ++ NI b := by simp [NI, IB]
/-- Numbers of blobs in cells. -/
def UBl (l : List Nat) : List Value := l.map fun x : Nat => .int .u64 (x : Int)
theorem UBl_append (a b : List Nat) : UBl (a ++ b) = UBl a ++ UBl b := by simp [UBl]
theorem UBl_one (l : List Nat) : ∀ u ∈ UBl l, u.oneCell' = true := by
  intro u hu
  obtain ⟨b, _, rfl⟩ := List.mem_map.1 hu
  rfl
def goesQ (every : Bool) (only : List Int) (m : MsgP) : Bool := decide (goesB every only m)
/-- The places as they are then: so many stay ahead. -/
def placesB (every : Bool) (only : List Int) : Nat → List MsgP → List Nat
  | _, [] => []
  | k, m :: r => if goesB every only m then (k + 1) :: placesB every only k r else placesB every only (k + 1) r
def goneB (every : Bool) (only : List Int) (l : List MsgP) : List MsgP := l.filter fun m => decide (goesB every only m)
def stayB (every : Bool) (only : List Int) (l : List MsgP) : List MsgP := l.filter fun m => !decide (goesB every only m)
/-- A message's flags changed. -/
def changeB (b : BoxV) (place op : Int) (more : List Tx) : Except Nat BoxV :=
  if ¬ mayB b then .error 1 else if place < 1 ∨ (b.l.length : Int) < place then .error 4
  else match b.l[(place - 1).toNat]? with
    | none => .error 4
    | some m => match changeF m.flags op more with
      | .error e => .error e
      | .ok r => .ok ⟨b.valid, b.next, b.l.set (place - 1).toNat { m with flags := r }⟩
/-- A box in cells. -/
abbrev BVc (v n : Int) (A : Option Addr) (m c : Nat) : List Value := [.int .i64 v, .int .i64 n, .slice A m c]
theorem BVc_one (v n : Int) (A : Option Addr) (m c : Nat) : ∀ u ∈ BVc v n A m c, u.oneCell' = true := by
  intro u hu
  simp only [BVc, List.mem_cons, List.not_mem_nil, or_false] at hu
  rcases hu with rfl | rfl | rfl <;> rfl
/-- What comes back: a box, or an error. -/
def IsBx (w' : World) (F : Except Nat BoxV) (v n : Int) (B : Option Addr) (d : Nat) (l : List Mc) (k : Nat) : Prop :=
  RdM w' B l ∧ ((k = 0 ∧ F = .ok ⟨v, n, Ms l⟩) ∨ (k ≠ 0 ∧ F = .error k ∧ v = 0 ∧ n = 0 ∧ B = none ∧ d = 0 ∧ l = []))
theorem IsBx.err {w' : World} {F : Except Nat BoxV} {k : Nat} (hk : k ≠ 0) (h : F = .error k) : IsBx w' F 0 0 none 0 [] k := ⟨RdM.nil _ _, .inr ⟨hk, h, rfl, rfl, rfl, rfl, rfl⟩⟩
theorem IsBx.frm {w w' : World} {F : Except Nat BoxV} {v n : Int} {B : Option Addr} {d : Nat} {l : List Mc} {k : Nat} (h : IsBx w F v n B d l k) (hf : Frm [] w w') : IsBx w' F v n B d l k := ⟨h.1.frm hf, h.2⟩
end Go.Proofs.Ytmfglifjnoilnaa
