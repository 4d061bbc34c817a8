/-
  BoxP, BoxW, BoxA, BoxG, BoxD in one text.
-/
import Derived.Test.YtmfglifjnoilnaaFlagX
import Derived.Test.YtmfglifjnoilnaaDateX
import Derived.Test.YtmfglifjnoilnaaEngA
import Derived.Test.YtmfglifjnoilnaaFlagY
import Derived.Test.YtmfglifjnoilnaaShelf
import Derived.Test.YtmfglifjnoilnaaEngB
/-
  Mailboxes on plain lists, and how they lie in memory.
-/
namespace Go.Proofs.Ytmfglifjnoilnaa
open Go.RowKit

/-- A message. -/
structure MsgP where
  uid : Int
  sec : Int
  zone : Int
  size : Int
  blob : Nat
  flags : List Tx
deriving DecidableEq
/-- A message, and where its flags lie. -/
structure Mc where
  m : MsgP
  A : Option Addr
  c : Nat
def Mc.cells (x : Mc) : List Value := [.int .i64 x.m.uid, .int .i64 x.m.sec, .int .i64 x.m.zone, .int .i64 x.m.size, .int .u64 (x.m.blob : Int), .slice x.A x.m.flags.length x.c]
theorem Mc.cells_len (x : Mc) : x.cells.length = 6 := rfl
theorem Mc.cells_one (x : Mc) : ∀ u ∈ x.cells, u.oneCell' = true := by
  intro u hu
  simp only [Mc.cells, List.mem_cons, List.not_mem_nil, or_false] at hu
  rcases hu with rfl | rfl | rfl | rfl | rfl | rfl <;> rfl
/-- Messages in cells. -/
abbrev MC (l : List Mc) : List Value := l.flatMap Mc.cells
theorem MC_len (l : List Mc) : (MC l).length = l.length * 6 := flat_len Mc.cells 6 Mc.cells_len l
theorem MC_append (a b : List Mc) : MC (a ++ b) = MC a ++ MC b := List.flatMap_append
/-- Its flags are read, and are not too many. -/
structure Mc.At (w : World) (x : Mc) : Prop where
  rd : Rd w 1 x.A x.m.flags.length (SB x.m.flags)
  n : x.m.flags.length ≤ 500000
  q : ∀ q ∈ x.m.flags, q.length ≤ 1000000
theorem Mc.At.frm {w w' : World} {S : List Nat} {x : Mc} (h : x.At w) (k : Frm S w w') (hS : ∀ b ∈ S, w.heap.size ≤ b) : x.At w' :=
  ⟨h.rd.frm k (fun hn y hy hyS => by have := h.rd.lt hn y hy; have := hS y hyS; omega), h.n, h.q⟩
/-- Messages that are read. -/
structure RdM (w : World) (A : Option Addr) (l : List Mc) : Prop where
  rd : Rd w 6 A l.length (MC l)
  fl : ∀ x ∈ l, x.At w
theorem RdM.nil (w : World) (A : Option Addr) : RdM w A [] := ⟨Rd.nil _ _ _, by simp⟩
theorem RdM.frm {w w' : World} {A : Option Addr} {l : List Mc} (h : RdM w A l) (k : Frm [] w w') : RdM w' A l :=
  ⟨h.rd.frm k (by simp), fun x hx => (h.fl x hx).frm k (by simp)⟩
theorem RdM.elem {w : World} {A : Option Addr} {l : List Mc} {k : Nat} (h : RdM w A l) (hk : k < l.length) : ∃ ad, A = some ad ∧ ∀ j v, (l[k]).cells[j]? = some v → w.cell? ((ad.add (k * 6)).add j) = some v := by
  obtain ⟨ad, rfl, hc⟩ := h.rd.elem hk
  refine ⟨ad, rfl, fun j v hj => hc j v ?_⟩
  rw [flat_get Mc.cells 6 Mc.cells_len l k hk]
  exact hj
/-- A mailbox. -/
structure BoxV where
  valid : Int
  next : Int
  l : List MsgP
deriving DecidableEq
/-- The messages that were meant. -/
abbrev Ms (l : List Mc) : List MsgP := l.map Mc.m
/-- May a message be, but for its number? -/
def MsgOk (m : MsgP) : Prop := DateOk m.sec m.zone ∧ 0 ≤ m.size ∧ m.blob ≠ 0 ∧ checkF m.flags
instance (m : MsgP) : Decidable (MsgOk m) := by unfold MsgOk; infer_instance
/-- The number ahead. -/
def prevU (l : List MsgP) : Nat → Int
  | 0 => 0
  | j + 1 => (l[j]?.map MsgP.uid).getD 0
/-- Is a message's place right? -/
def GoodAt (next : Int) (l : List MsgP) (j : Nat) (m : MsgP) : Prop := prevU l j < m.uid ∧ m.uid < next ∧ MsgOk m
instance (a : Int) (l : List MsgP) (j : Nat) (m : MsgP) : Decidable (GoodAt a l j m) := by unfold GoodAt; infer_instance
/-- May a box be? -/
def mayB (b : BoxV) : Prop := (1 ≤ b.valid ∧ b.valid ≤ 2147483647 ∧ 1 ≤ b.next ∧ b.next ≤ 2147483648 ∧ b.l.length ≤ 128) ∧ ∀ j (h : j < b.l.length), GoodAt b.next b.l j b.l[j]
instance (b : BoxV) : Decidable (mayB b) := by
  unfold mayB
  infer_instance
/-- A message laid behind the others. -/
def appendB (b : BoxV) (m : MsgP) : Except Nat BoxV :=
  if ¬ mayB b ∨ ¬ MsgOk m then .error 1 else if 128 ≤ b.l.length then .error 5 else if 2147483647 < b.next then .error 19
  else .ok ⟨b.valid, b.next + 1, b.l ++ [{ m with uid := b.next }]⟩
def deletedF : Tx := [92, 68, 101, 108, 101, 116, 101, 100]
/-- Does a message go? -/
def goesB (every : Bool) (only : List Int) (m : MsgP) : Prop := hasF m.flags deletedF ∧ (every = true ∨ m.uid ∈ only)
instance (every : Bool) (only : List Int) (m : MsgP) : Decidable (goesB every only m) := by unfold goesB; infer_instance
/-- The places of those that a test names (from 1 on), behind some that are passed. -/
def marksQ (q : MsgP → Bool) : Nat → List MsgP → List Nat
  | _, [] => []
  | i, m :: r => if q m = true then (i + 1) :: marksQ q (i + 1) r else marksQ q (i + 1) r
theorem marksQ_snoc (q : MsgP → Bool) : ∀ (l : List MsgP) (i : Nat) (m : MsgP), marksQ q i (l ++ [m]) = marksQ q i l ++ if q m = true then [i + l.length + 1] else []
  | [], i, m => by simp only [List.nil_append, marksQ, List.length_nil, Nat.add_zero]
  | a :: r, i, m => by
    have ih := marksQ_snoc q r (i + 1) m
    have e : i + 1 + r.length + 1 = i + (r.length + 1) + 1 := by omega
    simp only [List.cons_append, marksQ, List.length_cons]
    split
    · rw [ih, List.cons_append, e]
    · rw [ih, e]
theorem marksQ_mem (q : MsgP → Bool) : ∀ (l : List MsgP) (i p : Nat), p ∈ marksQ q i l → i < p ∧ p ≤ i + l.length
  | [], i, p, h => by simp [marksQ] at h
  | a :: r, i, p, h => by
    simp only [marksQ] at h
    have ih := marksQ_mem q r (i + 1) p
    simp only [List.length_cons]
    split at h
    · rcases List.mem_cons.1 h with h1 | h1
      · omega
      · have := ih h1; omega
    · have := ih h; omega
theorem marksQ_len (q : MsgP → Bool) : ∀ (l : List MsgP) (i : Nat), (marksQ q i l).length ≤ l.length
  | [], i => by simp [marksQ]
  | a :: r, i => by
    have ih := marksQ_len q r (i + 1)
    simp only [marksQ]
    split
    · simp only [List.length_cons]; omega
    · simp only [List.length_cons]; omega
theorem marksQ_ge (q : MsgP → Bool) : ∀ (l : List MsgP) (i j : Nat) (h : j < (marksQ q i l).length), i + j + 1 ≤ (marksQ q i l)[j]
  | [], i, j, h => by simp [marksQ] at h
  | a :: r, i, j, h => by
    have ih := marksQ_ge q r (i + 1)
    by_cases hq : q a = true
    · have e : marksQ q i (a :: r) = (i + 1) :: marksQ q (i + 1) r := by simp [marksQ, hq]
      have h' : j < ((i + 1) :: marksQ q (i + 1) r).length := by rw [← e]; exact h
      have e2 : (marksQ q i (a :: r))[j] = ((i + 1) :: marksQ q (i + 1) r)[j] := by congr 1
      rw [e2]
      cases j with
      | zero => simp
      | succ j =>
        have := ih j (by simpa using h')
        simp only [List.getElem_cons_succ]
        omega
    · have e : marksQ q i (a :: r) = marksQ q (i + 1) r := by simp [marksQ, hq]
      have h' : j < (marksQ q (i + 1) r).length := by rw [← e]; exact h
      have e2 : (marksQ q i (a :: r))[j] = (marksQ q (i + 1) r)[j] := by congr 1
      rw [e2]
      have := ih j h'
      omega
/-- Each place less those ahead of it. -/
def shiftP : Nat → List Nat → List Nat
  | _, [] => []
  | k, p :: r => (p - k) :: shiftP (k + 1) r
theorem shiftP_snoc : ∀ (l : List Nat) (k p : Nat), shiftP k (l ++ [p]) = shiftP k l ++ [p - (k + l.length)]
  | [], k, p => rfl
  | a :: r, k, p => by
    have e : k + 1 + r.length = k + (r.length + 1) := by omega
    simp only [List.cons_append, shiftP, shiftP_snoc r (k + 1) p, List.length_cons, e]
/-- The blobs at places. -/
def blobsP (l : List MsgP) (ps : List Nat) : List Nat := ps.map fun p => (l[p - 1]?.map MsgP.blob).getD 0
theorem marksQ_shift (q : MsgP → Bool) : ∀ (l : List MsgP) (i k : Nat), k ≤ i → (shiftP k (marksQ q i l)).length = (marksQ q i l).length ∧ ∀ a b, marksQ q i l = a :: b → k < a
  | [], i, k, _ => by simp [marksQ, shiftP]
  | m :: r, i, k, h => by
    have len : ∀ (l : List Nat) k, (shiftP k l).length = l.length := by
      intro l
      induction l with
      | nil => intro k; rfl
      | cons a b ih => intro k; simp [shiftP, ih]
    refine ⟨len _ _, fun a b hab => ?_⟩
    have := marksQ_mem q (m :: r) i a (by rw [hab]; simp)
    omega
/-- Numbers of Nat in cells. -/
abbrev NI (l : List Nat) : List Value := IB (l.map fun x : Nat => (x : Int))
theorem NI_append (a b : List Nat) : NI (a ++ b) = NI a ++ NI b := by simp [NI, IB]
/-- Numbers of blobs in cells. -/
def UBl (l : List Nat) : List Value := l.map fun x : Nat => .int .u64 (x : Int)
theorem UBl_append (a b : List Nat) : UBl (a ++ b) = UBl a ++ UBl b := by simp [UBl]
theorem UBl_one (l : List Nat) : ∀ u ∈ UBl l, u.oneCell' = true := by
  intro u hu
  obtain ⟨b, _, rfl⟩ := List.mem_map.1 hu
  rfl
def goesQ (every : Bool) (only : List Int) (m : MsgP) : Bool := decide (goesB every only m)
/-- The places as they are then: so many stay ahead. -/
def placesB (every : Bool) (only : List Int) : Nat → List MsgP → List Nat
  | _, [] => []
  | k, m :: r => if goesB every only m then (k + 1) :: placesB every only k r else placesB every only (k + 1) r
def goneB (every : Bool) (only : List Int) (l : List MsgP) : List MsgP := l.filter fun m => decide (goesB every only m)
def stayB (every : Bool) (only : List Int) (l : List MsgP) : List MsgP := l.filter fun m => !decide (goesB every only m)
/-- A message's flags changed. -/
def changeB (b : BoxV) (place op : Int) (more : List Tx) : Except Nat BoxV :=
  if ¬ mayB b then .error 1 else if place < 1 ∨ (b.l.length : Int) < place then .error 4
  else match b.l[(place - 1).toNat]? with
    | none => .error 4
    | some m => match changeF m.flags op more with
      | .error e => .error e
      | .ok r => .ok ⟨b.valid, b.next, b.l.set (place - 1).toNat { m with flags := r }⟩
/-- A box in cells. -/
abbrev BVc (v n : Int) (A : Option Addr) (m c : Nat) : List Value := [.int .i64 v, .int .i64 n, .slice A m c]
theorem BVc_one (v n : Int) (A : Option Addr) (m c : Nat) : ∀ u ∈ BVc v n A m c, u.oneCell' = true := by
  intro u hu
  simp only [BVc, List.mem_cons, List.not_mem_nil, or_false] at hu
  rcases hu with rfl | rfl | rfl <;> rfl
/-- What comes back: a box, or an error. -/
def IsBx (w' : World) (F : Except Nat BoxV) (v n : Int) (B : Option Addr) (d : Nat) (l : List Mc) (k : Nat) : Prop :=
  RdM w' B l ∧ ((k = 0 ∧ F = .ok ⟨v, n, Ms l⟩) ∨ (k ≠ 0 ∧ F = .error k ∧ v = 0 ∧ n = 0 ∧ B = none ∧ d = 0 ∧ l = []))
theorem IsBx.err {w' : World} {F : Except Nat BoxV} {k : Nat} (hk : k ≠ 0) (h : F = .error k) : IsBx w' F 0 0 none 0 [] k := ⟨RdM.nil _ _, .inr ⟨hk, h, rfl, rfl, rfl, rfl, rfl⟩⟩
theorem IsBx.frm {w w' : World} {F : Except Nat BoxV} {v n : Int} {B : Option Addr} {d : Nat} {l : List Mc} {k : Nat} (h : IsBx w F v n B d l k) (hf : Frm [] w w') : IsBx w' F v n B d l k := ⟨h.1.frm hf, h.2⟩
end Go.Proofs.Ytmfglifjnoilnaa

/-
  The walks of box: may a message be, may a box be; messages of their own.
-/
namespace Go.Proofs.Ytmfglifjnoilnaa
open Go.RowKit Go.Sort

theorem Blk.sub {w : World} {g : Nat} {t : TypeId} {cs : Array Value} (h : Blk w g t cs) (i : Nat) (l : List Value) (hl : (cs.toList.drop i).take l.length = l) : ∀ j v, l[j]? = some v → w.cell? ((⟨g, i, none⟩ : Addr).add j) = some v := by
  intro j v hj
  have hlt : j < l.length := (List.getElem?_eq_some_iff.1 hj).1
  rw [show ((⟨g, i, none⟩ : Addr).add j) = ⟨g, i + j, none⟩ by unfold Addr.add; split <;> simp_all, h.cell]
  rw [← hl, List.getElem?_take_of_lt hlt, List.getElem?_drop] at hj
  simpa using hj
theorem prev_succ {l : List Mc} {i : Nat} (h : i < l.length) : prevU (Ms l) (i + 1) = (l[i]).m.uid := by
  simp [prevU, Ms, List.getElem?_eq_getElem h]
theorem may_all {v n : Int} {l : List Mc} (h1 : 1 ≤ v ∧ v ≤ 2147483647 ∧ 1 ≤ n ∧ n ≤ 2147483648 ∧ l.length ≤ 128) (h2 : ∀ j (hj : j < l.length), GoodAt n (Ms l) j (l[j]).m) : mayB ⟨v, n, Ms l⟩ := by
  refine ⟨by simpa [Ms] using h1, fun j hj => ?_⟩
  have hj' : j < l.length := by simpa [Ms] using hj
  have := h2 j hj'
  simpa [Ms] using this
theorem may_at {v n : Int} {l : List Mc} (h : mayB ⟨v, n, Ms l⟩) : (1 ≤ v ∧ v ≤ 2147483647 ∧ 1 ≤ n ∧ n ≤ 2147483648 ∧ l.length ≤ 128) ∧ ∀ j (hj : j < l.length), GoodAt n (Ms l) j (l[j]).m := by
  obtain ⟨h1, h2⟩ := h
  refine ⟨by simpa [Ms] using h1, fun j hj => ?_⟩
  have := h2 j (by simpa [Ms] using hj)
  simpa [Ms] using this

set_option maxRecDepth 100000 in
theorem message_spec (x : Mc) (w : World) (hx : x.At w) : Calls Try.prog 36 #[.agg x.cells.toArray] w fun e w' => e = .returned (.bool (decide (MsgOk x.m))) ∧ Frm [] w w' := by
  refine VC.calls (nt := 21) (res := #[.tmp 2]) Try.func36 rfl Try.ntmps36 Try.results36 rfl ?_
  refine VC.seq ?_
  refine VC.region ?_
  refine Ops.m (Does.box rfl) rfl ?_
  rintro _ w1 ⟨rfl, hF1⟩
  have hb1 := hF1.blk
  have hf1 := hF1.frm
  generalize hg1 : w.heap.size = g1 at *
  refine Ops.r (Run.asg rfl) rfl ?_
  refine Ops.nil ?_
  refine thenQ_n ?_
  refine VC.sub [(1, _)] (.cons rfl .nil) ?_
  refine VC.seq ?_
  refine VC.splitR [] (Frm [] w) 2 (.bool (decide (MsgOk x.m))) ?_ ?_
  · refine VC.region ?_
    refine Ops.r (Run.fieldAddr rfl Try.underlying45 rfl Try.sizeOf42 (by decide)) rfl ?_
    refine Ops.r (Run.loadA rfl Try.isAgg42 Try.sizeOf42 (hb1.sub 1 [.int .i64 x.m.sec, .int .i64 x.m.zone] rfl) (by first | rfl | (simp; done))) rfl ?_
    refine Ops.cl (Enters.fn (evs.cons rfl evs.nil) Try.call51) (dmay_spec x.m.sec x.m.zone _) rfl ?_
    rintro e w2 ⟨rfl, hf2⟩
    refine ⟨_, rfl, ?_⟩
    have hfr2 := hf1.trans hf2 (by simp)
    have hb1 := hb1.frm hf2 (by simp)
    by_cases hs5 : DateOk x.m.sec x.m.zone
    · skip
      refine Ops.r (Run.mv rfl) rfl ?_
      refine Ops.rg rfl (by first | rfl | assumption | exact decide_eq_true (by assumption) | exact decide_eq_false (by assumption) | decide | (simp; done) | (simp; omega) | (simp [*]; done)) (Run.fieldAddr rfl Try.underlying45 rfl Try.sizeOf3 (by decide)) rfl ?_
      refine Ops.rg rfl (by first | rfl | assumption | exact decide_eq_true (by assumption) | exact decide_eq_false (by assumption) | decide | (simp; done) | (simp; omega) | (simp [*]; done)) (Run.load rfl Try.isAgg3 (hb1.cell 3)) rfl ?_
      refine Ops.rg rfl (by first | rfl | assumption | exact decide_eq_true (by assumption) | exact decide_eq_false (by assumption) | decide | (simp; done) | (simp; omega) | (simp [*]; done)) (Run.bin rfl rfl (Bin.geq _ 0)) rfl ?_
      by_cases hs9 : 0 ≤ x.m.size
      · skip
        refine Ops.r (Run.pickT rfl rfl (by first | rfl | assumption | exact decide_eq_true (by assumption) | exact decide_eq_false (by assumption) | decide | (simp; done) | (simp; omega) | (simp [*]; done))) rfl ?_
        refine Ops.r (Run.mv rfl) rfl ?_
        refine Ops.rg rfl (by first | rfl | assumption | exact decide_eq_true (by assumption) | exact decide_eq_false (by assumption) | decide | (simp; done) | (simp; omega) | (simp [*]; done)) (Run.fieldAddr rfl Try.underlying45 rfl Try.sizeOf38 (by decide)) rfl ?_
        refine Ops.rg rfl (by first | rfl | assumption | exact decide_eq_true (by assumption) | exact decide_eq_false (by assumption) | decide | (simp; done) | (simp; omega) | (simp [*]; done)) (Run.load rfl Try.isAgg38 (hb1.cell 4)) rfl ?_
        refine Ops.rg rfl (by first | rfl | assumption | exact decide_eq_true (by assumption) | exact decide_eq_false (by assumption) | decide | (simp; done) | (simp; omega) | (simp [*]; done)) (Run.bin rfl rfl (Bin.neqN _ 0)) rfl ?_
        by_cases hs14 : x.m.blob ≠ 0
        · skip
          refine Ops.r (Run.pickT rfl rfl (by first | rfl | assumption | exact decide_eq_true (by assumption) | exact decide_eq_false (by assumption) | decide | (simp; done) | (simp; omega) | (simp [*]; done))) rfl ?_
          refine Ops.r (Run.mv rfl) rfl ?_
          refine Ops.rg rfl (by first | rfl | assumption | exact decide_eq_true (by assumption) | exact decide_eq_false (by assumption) | decide | (simp; done) | (simp; omega) | (simp [*]; done)) (Run.fieldAddr rfl Try.underlying45 rfl Try.sizeOf43 (by decide)) rfl ?_
          refine Ops.rg rfl (by first | rfl | assumption | exact decide_eq_true (by assumption) | exact decide_eq_false (by assumption) | decide | (simp; done) | (simp; omega) | (simp [*]; done)) (Run.load rfl Try.isAgg43 (hb1.cell 5)) rfl ?_
          refine Ops.clg rfl (by first | rfl | assumption | exact decide_eq_true (by assumption) | exact decide_eq_false (by assumption) | decide | (simp; done) | (simp; omega) | (simp [*]; done)) (Enters.fn (evs.cons rfl evs.nil) Try.call52) (fcheck_spec x.A x.c x.m.flags _ (by have := hx.n; omega) hx.q (hx.frm hfr2 (by simp)).rd) rfl ?_
          rintro e w3 ⟨rfl, hf3⟩
          refine ⟨_, rfl, ?_⟩
          have hfr3 := hfr2.trans hf3 (by simp)
          by_cases hs19 : checkF x.m.flags
          · skip
            refine Ops.r (Run.pickT rfl rfl (by first | rfl | assumption | exact decide_eq_true (by assumption) | exact decide_eq_false (by assumption) | decide | (simp; done) | (simp; omega) | (simp [*]; done))) rfl ?_
            refine Ops.r (Run.asg rfl) rfl ?_
            refine Ops.nil ?_
            refine thenQ_n ⟨(.cons (congrArg (fun b => some (Value.bool b)) (Eq.symm (by unfold MsgOk; simp [*]))) .nil), (by first | exact hfr3 | exact hfr2)⟩
          · skip
            refine Ops.r (Run.pickT rfl rfl (by first | rfl | assumption | exact decide_eq_true (by assumption) | exact decide_eq_false (by assumption) | decide | (simp; done) | (simp; omega) | (simp [*]; done))) rfl ?_
            refine Ops.r (Run.asg rfl) rfl ?_
            refine Ops.nil ?_
            refine thenQ_n ⟨(.cons (congrArg (fun b => some (Value.bool b)) (Eq.symm (by unfold MsgOk; simp [*]))) .nil), (by first | exact hfr3 | exact hfr2)⟩
        · skip
          refine Ops.r (Run.pickT rfl rfl (by first | rfl | assumption | exact decide_eq_true (by assumption) | exact decide_eq_false (by assumption) | decide | (simp; done) | (simp; omega) | (simp [*]; done))) rfl ?_
          refine Ops.r (Run.mv rfl) rfl ?_
          refine Ops.sk rfl (by first | rfl | assumption | exact decide_eq_true (by assumption) | exact decide_eq_false (by assumption) | decide | (simp; done) | (simp; omega) | (simp [*]; done)) rfl ?_
          refine Ops.sk rfl (by first | rfl | assumption | exact decide_eq_true (by assumption) | exact decide_eq_false (by assumption) | decide | (simp; done) | (simp; omega) | (simp [*]; done)) rfl ?_
          refine Ops.sk rfl (by first | rfl | assumption | exact decide_eq_true (by assumption) | exact decide_eq_false (by assumption) | decide | (simp; done) | (simp; omega) | (simp [*]; done)) rfl ?_
          refine Ops.r (Run.pickF rfl rfl (by first | rfl | assumption | exact decide_eq_true (by assumption) | exact decide_eq_false (by assumption) | decide | (simp; done) | (simp; omega) | (simp [*]; done))) rfl ?_
          refine Ops.r (Run.asg rfl) rfl ?_
          refine Ops.nil ?_
          refine thenQ_n ⟨(.cons (congrArg (fun b => some (Value.bool b)) (Eq.symm (by unfold MsgOk; simp [*]))) .nil), (by first | exact hfr3 | exact hfr2)⟩
      · skip
        refine Ops.r (Run.pickT rfl rfl (by first | rfl | assumption | exact decide_eq_true (by assumption) | exact decide_eq_false (by assumption) | decide | (simp; done) | (simp; omega) | (simp [*]; done))) rfl ?_
        refine Ops.r (Run.mv rfl) rfl ?_
        refine Ops.sk rfl (by first | rfl | assumption | exact decide_eq_true (by assumption) | exact decide_eq_false (by assumption) | decide | (simp; done) | (simp; omega) | (simp [*]; done)) rfl ?_
        refine Ops.sk rfl (by first | rfl | assumption | exact decide_eq_true (by assumption) | exact decide_eq_false (by assumption) | decide | (simp; done) | (simp; omega) | (simp [*]; done)) rfl ?_
        refine Ops.sk rfl (by first | rfl | assumption | exact decide_eq_true (by assumption) | exact decide_eq_false (by assumption) | decide | (simp; done) | (simp; omega) | (simp [*]; done)) rfl ?_
        refine Ops.r (Run.pickF rfl rfl (by first | rfl | assumption | exact decide_eq_true (by assumption) | exact decide_eq_false (by assumption) | decide | (simp; done) | (simp; omega) | (simp [*]; done))) rfl ?_
        refine Ops.r (Run.mv rfl) rfl ?_
        refine Ops.sk rfl (by first | rfl | assumption | exact decide_eq_true (by assumption) | exact decide_eq_false (by assumption) | decide | (simp; done) | (simp; omega) | (simp [*]; done)) rfl ?_
        refine Ops.sk rfl (by first | rfl | assumption | exact decide_eq_true (by assumption) | exact decide_eq_false (by assumption) | decide | (simp; done) | (simp; omega) | (simp [*]; done)) rfl ?_
        refine Ops.sk rfl (by first | rfl | assumption | exact decide_eq_true (by assumption) | exact decide_eq_false (by assumption) | decide | (simp; done) | (simp; omega) | (simp [*]; done)) rfl ?_
        refine Ops.r (Run.pickF rfl rfl (by first | rfl | assumption | exact decide_eq_true (by assumption) | exact decide_eq_false (by assumption) | decide | (simp; done) | (simp; omega) | (simp [*]; done))) rfl ?_
        refine Ops.r (Run.asg rfl) rfl ?_
        refine Ops.nil ?_
        refine thenQ_n ⟨(.cons (congrArg (fun b => some (Value.bool b)) (Eq.symm (by unfold MsgOk; simp [*]))) .nil), (by first | exact hfr3 | exact hfr2)⟩
    · skip
      refine Ops.r (Run.mv rfl) rfl ?_
      refine Ops.sk rfl (by first | rfl | assumption | exact decide_eq_true (by assumption) | exact decide_eq_false (by assumption) | decide | (simp; done) | (simp; omega) | (simp [*]; done)) rfl ?_
      refine Ops.sk rfl (by first | rfl | assumption | exact decide_eq_true (by assumption) | exact decide_eq_false (by assumption) | decide | (simp; done) | (simp; omega) | (simp [*]; done)) rfl ?_
      refine Ops.sk rfl (by first | rfl | assumption | exact decide_eq_true (by assumption) | exact decide_eq_false (by assumption) | decide | (simp; done) | (simp; omega) | (simp [*]; done)) rfl ?_
      refine Ops.r (Run.pickF rfl rfl (by first | rfl | assumption | exact decide_eq_true (by assumption) | exact decide_eq_false (by assumption) | decide | (simp; done) | (simp; omega) | (simp [*]; done))) rfl ?_
      refine Ops.r (Run.mv rfl) rfl ?_
      refine Ops.sk rfl (by first | rfl | assumption | exact decide_eq_true (by assumption) | exact decide_eq_false (by assumption) | decide | (simp; done) | (simp; omega) | (simp [*]; done)) rfl ?_
      refine Ops.sk rfl (by first | rfl | assumption | exact decide_eq_true (by assumption) | exact decide_eq_false (by assumption) | decide | (simp; done) | (simp; omega) | (simp [*]; done)) rfl ?_
      refine Ops.sk rfl (by first | rfl | assumption | exact decide_eq_true (by assumption) | exact decide_eq_false (by assumption) | decide | (simp; done) | (simp; omega) | (simp [*]; done)) rfl ?_
      refine Ops.r (Run.pickF rfl rfl (by first | rfl | assumption | exact decide_eq_true (by assumption) | exact decide_eq_false (by assumption) | decide | (simp; done) | (simp; omega) | (simp [*]; done))) rfl ?_
      refine Ops.r (Run.mv rfl) rfl ?_
      refine Ops.sk rfl (by first | rfl | assumption | exact decide_eq_true (by assumption) | exact decide_eq_false (by assumption) | decide | (simp; done) | (simp; omega) | (simp [*]; done)) rfl ?_
      refine Ops.sk rfl (by first | rfl | assumption | exact decide_eq_true (by assumption) | exact decide_eq_false (by assumption) | decide | (simp; done) | (simp; omega) | (simp [*]; done)) rfl ?_
      refine Ops.sk rfl (by first | rfl | assumption | exact decide_eq_true (by assumption) | exact decide_eq_false (by assumption) | decide | (simp; done) | (simp; omega) | (simp [*]; done)) rfl ?_
      refine Ops.r (Run.pickF rfl rfl (by first | rfl | assumption | exact decide_eq_true (by assumption) | exact decide_eq_false (by assumption) | decide | (simp; done) | (simp; omega) | (simp [*]; done))) rfl ?_
      refine Ops.r (Run.asg rfl) rfl ?_
      refine Ops.nil ?_
      refine thenQ_n ⟨(.cons (congrArg (fun b => some (Value.bool b)) (Eq.symm (by unfold MsgOk; simp [*]))) .nil), (by first | exact hfr3 | exact hfr2)⟩
  · intro Γ wR hΓ hR
    refine thenQ_n (VC.sub _ hΓ ?_)
    refine VC.ret ?_
    refine end1 rfl ?_
    exact ⟨rfl, hR⟩

set_option maxRecDepth 100000 in
theorem may_spec (v n : Int) (A : Option Addr) (c : Nat) (l : List Mc) (w : World) (hl : RdM w A l) : Calls Try.prog 17 #[.agg #[.int .i64 v, .int .i64 n, .slice A l.length c]] w fun e w' => e = .returned (.bool (decide (mayB ⟨v, n, Ms l⟩))) ∧ Frm [] w w' := by
  refine VC.calls (nt := 56) (res := #[.tmp 2]) Try.func17 rfl Try.ntmps17 Try.results17 rfl ?_
  refine VC.seq ?_
  refine VC.region ?_
  refine Ops.m (Does.box rfl) rfl ?_
  rintro _ w1 ⟨rfl, hF1⟩
  have hb1 := hF1.blk
  have hf1 := hF1.frm
  generalize hg1 : w.heap.size = g1 at *
  refine Ops.r (Run.asg rfl) rfl ?_
  refine Ops.nil ?_
  refine thenQ_n ?_
  refine VC.sub [(1, _)] (.cons rfl .nil) ?_
  refine VC.seq ?_
  refine VC.seq ?_
  refine VC.split1 [(1, _)] (.cons rfl .nil) 29 (.bool (decide (v < 1 ∨ 2147483647 < v ∨ n < 1 ∨ 2147483648 < n ∨ 128 < l.length))) ?_ ?_
  · refine VC.region ?_
    refine Ops.r (Run.fieldAddr rfl Try.underlying24 rfl Try.sizeOf3 (by decide)) rfl ?_
    refine Ops.r (Run.load rfl Try.isAgg3 (hb1.cell 0)) rfl ?_
    refine Ops.r (Run.bin rfl rfl (Bin.lss _ 1)) rfl ?_
    by_cases hs8 : v < 1
    · skip
      refine Ops.r (Run.mv rfl) rfl ?_
      refine Ops.sk rfl (by first | rfl | assumption | exact decide_eq_true (by assumption) | exact decide_eq_false (by assumption) | decide | (simp; done) | (simp; omega) | (simp [*]; done)) rfl ?_
      refine Ops.sk rfl (by first | rfl | assumption | exact decide_eq_true (by assumption) | exact decide_eq_false (by assumption) | decide | (simp; done) | (simp; omega) | (simp [*]; done)) rfl ?_
      refine Ops.sk rfl (by first | rfl | assumption | exact decide_eq_true (by assumption) | exact decide_eq_false (by assumption) | decide | (simp; done) | (simp; omega) | (simp [*]; done)) rfl ?_
      refine Ops.r (Run.pickT rfl rfl (by first | rfl | assumption | exact decide_eq_true (by assumption) | exact decide_eq_false (by assumption) | decide | (simp; done) | (simp; omega) | (simp [*]; done))) rfl ?_
      refine Ops.r (Run.mv rfl) rfl ?_
      refine Ops.sk rfl (by first | rfl | assumption | exact decide_eq_true (by assumption) | exact decide_eq_false (by assumption) | decide | (simp; done) | (simp; omega) | (simp [*]; done)) rfl ?_
      refine Ops.sk rfl (by first | rfl | assumption | exact decide_eq_true (by assumption) | exact decide_eq_false (by assumption) | decide | (simp; done) | (simp; omega) | (simp [*]; done)) rfl ?_
      refine Ops.sk rfl (by first | rfl | assumption | exact decide_eq_true (by assumption) | exact decide_eq_false (by assumption) | decide | (simp; done) | (simp; omega) | (simp [*]; done)) rfl ?_
      refine Ops.r (Run.pickT rfl rfl (by first | rfl | assumption | exact decide_eq_true (by assumption) | exact decide_eq_false (by assumption) | decide | (simp; done) | (simp; omega) | (simp [*]; done))) rfl ?_
      refine Ops.r (Run.mv rfl) rfl ?_
      refine Ops.sk rfl (by first | rfl | assumption | exact decide_eq_true (by assumption) | exact decide_eq_false (by assumption) | decide | (simp; done) | (simp; omega) | (simp [*]; done)) rfl ?_
      refine Ops.sk rfl (by first | rfl | assumption | exact decide_eq_true (by assumption) | exact decide_eq_false (by assumption) | decide | (simp; done) | (simp; omega) | (simp [*]; done)) rfl ?_
      refine Ops.sk rfl (by first | rfl | assumption | exact decide_eq_true (by assumption) | exact decide_eq_false (by assumption) | decide | (simp; done) | (simp; omega) | (simp [*]; done)) rfl ?_
      refine Ops.r (Run.pickT rfl rfl (by first | rfl | assumption | exact decide_eq_true (by assumption) | exact decide_eq_false (by assumption) | decide | (simp; done) | (simp; omega) | (simp [*]; done))) rfl ?_
      refine Ops.r (Run.mv rfl) rfl ?_
      refine Ops.sk rfl (by first | rfl | assumption | exact decide_eq_true (by assumption) | exact decide_eq_false (by assumption) | decide | (simp; done) | (simp; omega) | (simp [*]; done)) rfl ?_
      refine Ops.sk rfl (by first | rfl | assumption | exact decide_eq_true (by assumption) | exact decide_eq_false (by assumption) | decide | (simp; done) | (simp; omega) | (simp [*]; done)) rfl ?_
      refine Ops.sk rfl (by first | rfl | assumption | exact decide_eq_true (by assumption) | exact decide_eq_false (by assumption) | decide | (simp; done) | (simp; omega) | (simp [*]; done)) rfl ?_
      refine Ops.sk rfl (by first | rfl | assumption | exact decide_eq_true (by assumption) | exact decide_eq_false (by assumption) | decide | (simp; done) | (simp; omega) | (simp [*]; done)) rfl ?_
      refine Ops.r (Run.pickT rfl rfl (by first | rfl | assumption | exact decide_eq_true (by assumption) | exact decide_eq_false (by assumption) | decide | (simp; done) | (simp; omega) | (simp [*]; done))) rfl ?_
      refine Ops.nil ?_
      refine thenQ_n ⟨(.cons (congrArg (fun b => some (Value.bool b)) (Eq.symm (by simp [*]))) (.cons rfl .nil)), rfl⟩
    · skip
      refine Ops.r (Run.mv rfl) rfl ?_
      refine Ops.rg rfl (by first | rfl | assumption | exact decide_eq_true (by assumption) | exact decide_eq_false (by assumption) | decide | (simp; done) | (simp; omega) | (simp [*]; done)) (Run.fieldAddr rfl Try.underlying24 rfl Try.sizeOf3 (by decide)) rfl ?_
      refine Ops.rg rfl (by first | rfl | assumption | exact decide_eq_true (by assumption) | exact decide_eq_false (by assumption) | decide | (simp; done) | (simp; omega) | (simp [*]; done)) (Run.load rfl Try.isAgg3 (hb1.cell 0)) rfl ?_
      refine Ops.rg rfl (by first | rfl | assumption | exact decide_eq_true (by assumption) | exact decide_eq_false (by assumption) | decide | (simp; done) | (simp; omega) | (simp [*]; done)) (Run.bin rfl rfl (Bin.gtr _ 2147483647)) rfl ?_
      by_cases hs12 : 2147483647 < v
      · skip
        refine Ops.r (Run.pickF rfl rfl (by first | rfl | assumption | exact decide_eq_true (by assumption) | exact decide_eq_false (by assumption) | decide | (simp; done) | (simp; omega) | (simp [*]; done))) rfl ?_
        refine Ops.r (Run.mv rfl) rfl ?_
        refine Ops.sk rfl (by first | rfl | assumption | exact decide_eq_true (by assumption) | exact decide_eq_false (by assumption) | decide | (simp; done) | (simp; omega) | (simp [*]; done)) rfl ?_
        refine Ops.sk rfl (by first | rfl | assumption | exact decide_eq_true (by assumption) | exact decide_eq_false (by assumption) | decide | (simp; done) | (simp; omega) | (simp [*]; done)) rfl ?_
        refine Ops.sk rfl (by first | rfl | assumption | exact decide_eq_true (by assumption) | exact decide_eq_false (by assumption) | decide | (simp; done) | (simp; omega) | (simp [*]; done)) rfl ?_
        refine Ops.r (Run.pickT rfl rfl (by first | rfl | assumption | exact decide_eq_true (by assumption) | exact decide_eq_false (by assumption) | decide | (simp; done) | (simp; omega) | (simp [*]; done))) rfl ?_
        refine Ops.r (Run.mv rfl) rfl ?_
        refine Ops.sk rfl (by first | rfl | assumption | exact decide_eq_true (by assumption) | exact decide_eq_false (by assumption) | decide | (simp; done) | (simp; omega) | (simp [*]; done)) rfl ?_
        refine Ops.sk rfl (by first | rfl | assumption | exact decide_eq_true (by assumption) | exact decide_eq_false (by assumption) | decide | (simp; done) | (simp; omega) | (simp [*]; done)) rfl ?_
        refine Ops.sk rfl (by first | rfl | assumption | exact decide_eq_true (by assumption) | exact decide_eq_false (by assumption) | decide | (simp; done) | (simp; omega) | (simp [*]; done)) rfl ?_
        refine Ops.r (Run.pickT rfl rfl (by first | rfl | assumption | exact decide_eq_true (by assumption) | exact decide_eq_false (by assumption) | decide | (simp; done) | (simp; omega) | (simp [*]; done))) rfl ?_
        refine Ops.r (Run.mv rfl) rfl ?_
        refine Ops.sk rfl (by first | rfl | assumption | exact decide_eq_true (by assumption) | exact decide_eq_false (by assumption) | decide | (simp; done) | (simp; omega) | (simp [*]; done)) rfl ?_
        refine Ops.sk rfl (by first | rfl | assumption | exact decide_eq_true (by assumption) | exact decide_eq_false (by assumption) | decide | (simp; done) | (simp; omega) | (simp [*]; done)) rfl ?_
        refine Ops.sk rfl (by first | rfl | assumption | exact decide_eq_true (by assumption) | exact decide_eq_false (by assumption) | decide | (simp; done) | (simp; omega) | (simp [*]; done)) rfl ?_
        refine Ops.sk rfl (by first | rfl | assumption | exact decide_eq_true (by assumption) | exact decide_eq_false (by assumption) | decide | (simp; done) | (simp; omega) | (simp [*]; done)) rfl ?_
        refine Ops.r (Run.pickT rfl rfl (by first | rfl | assumption | exact decide_eq_true (by assumption) | exact decide_eq_false (by assumption) | decide | (simp; done) | (simp; omega) | (simp [*]; done))) rfl ?_
        refine Ops.nil ?_
        refine thenQ_n ⟨(.cons (congrArg (fun b => some (Value.bool b)) (Eq.symm (by simp [*]))) (.cons rfl .nil)), rfl⟩
      · skip
        refine Ops.r (Run.pickF rfl rfl (by first | rfl | assumption | exact decide_eq_true (by assumption) | exact decide_eq_false (by assumption) | decide | (simp; done) | (simp; omega) | (simp [*]; done))) rfl ?_
        refine Ops.r (Run.mv rfl) rfl ?_
        refine Ops.rg rfl (by first | rfl | assumption | exact decide_eq_true (by assumption) | exact decide_eq_false (by assumption) | decide | (simp; done) | (simp; omega) | (simp [*]; done)) (Run.fieldAddr rfl Try.underlying24 rfl Try.sizeOf3 (by decide)) rfl ?_
        refine Ops.rg rfl (by first | rfl | assumption | exact decide_eq_true (by assumption) | exact decide_eq_false (by assumption) | decide | (simp; done) | (simp; omega) | (simp [*]; done)) (Run.load rfl Try.isAgg3 (hb1.cell 1)) rfl ?_
        refine Ops.rg rfl (by first | rfl | assumption | exact decide_eq_true (by assumption) | exact decide_eq_false (by assumption) | decide | (simp; done) | (simp; omega) | (simp [*]; done)) (Run.bin rfl rfl (Bin.lss _ 1)) rfl ?_
        by_cases hs17 : n < 1
        · skip
          refine Ops.r (Run.pickF rfl rfl (by first | rfl | assumption | exact decide_eq_true (by assumption) | exact decide_eq_false (by assumption) | decide | (simp; done) | (simp; omega) | (simp [*]; done))) rfl ?_
          refine Ops.r (Run.mv rfl) rfl ?_
          refine Ops.sk rfl (by first | rfl | assumption | exact decide_eq_true (by assumption) | exact decide_eq_false (by assumption) | decide | (simp; done) | (simp; omega) | (simp [*]; done)) rfl ?_
          refine Ops.sk rfl (by first | rfl | assumption | exact decide_eq_true (by assumption) | exact decide_eq_false (by assumption) | decide | (simp; done) | (simp; omega) | (simp [*]; done)) rfl ?_
          refine Ops.sk rfl (by first | rfl | assumption | exact decide_eq_true (by assumption) | exact decide_eq_false (by assumption) | decide | (simp; done) | (simp; omega) | (simp [*]; done)) rfl ?_
          refine Ops.r (Run.pickT rfl rfl (by first | rfl | assumption | exact decide_eq_true (by assumption) | exact decide_eq_false (by assumption) | decide | (simp; done) | (simp; omega) | (simp [*]; done))) rfl ?_
          refine Ops.r (Run.mv rfl) rfl ?_
          refine Ops.sk rfl (by first | rfl | assumption | exact decide_eq_true (by assumption) | exact decide_eq_false (by assumption) | decide | (simp; done) | (simp; omega) | (simp [*]; done)) rfl ?_
          refine Ops.sk rfl (by first | rfl | assumption | exact decide_eq_true (by assumption) | exact decide_eq_false (by assumption) | decide | (simp; done) | (simp; omega) | (simp [*]; done)) rfl ?_
          refine Ops.sk rfl (by first | rfl | assumption | exact decide_eq_true (by assumption) | exact decide_eq_false (by assumption) | decide | (simp; done) | (simp; omega) | (simp [*]; done)) rfl ?_
          refine Ops.sk rfl (by first | rfl | assumption | exact decide_eq_true (by assumption) | exact decide_eq_false (by assumption) | decide | (simp; done) | (simp; omega) | (simp [*]; done)) rfl ?_
          refine Ops.r (Run.pickT rfl rfl (by first | rfl | assumption | exact decide_eq_true (by assumption) | exact decide_eq_false (by assumption) | decide | (simp; done) | (simp; omega) | (simp [*]; done))) rfl ?_
          refine Ops.nil ?_
          refine thenQ_n ⟨(.cons (congrArg (fun b => some (Value.bool b)) (Eq.symm (by simp [*]))) (.cons rfl .nil)), rfl⟩
        · skip
          refine Ops.r (Run.pickF rfl rfl (by first | rfl | assumption | exact decide_eq_true (by assumption) | exact decide_eq_false (by assumption) | decide | (simp; done) | (simp; omega) | (simp [*]; done))) rfl ?_
          refine Ops.r (Run.mv rfl) rfl ?_
          refine Ops.rg rfl (by first | rfl | assumption | exact decide_eq_true (by assumption) | exact decide_eq_false (by assumption) | decide | (simp; done) | (simp; omega) | (simp [*]; done)) (Run.fieldAddr rfl Try.underlying24 rfl Try.sizeOf3 (by decide)) rfl ?_
          refine Ops.rg rfl (by first | rfl | assumption | exact decide_eq_true (by assumption) | exact decide_eq_false (by assumption) | decide | (simp; done) | (simp; omega) | (simp [*]; done)) (Run.load rfl Try.isAgg3 (hb1.cell 1)) rfl ?_
          refine Ops.rg rfl (by first | rfl | assumption | exact decide_eq_true (by assumption) | exact decide_eq_false (by assumption) | decide | (simp; done) | (simp; omega) | (simp [*]; done)) (Run.bin rfl rfl (Bin.gtr _ 2147483648)) rfl ?_
          by_cases hs22 : 2147483648 < n
          · skip
            refine Ops.r (Run.pickF rfl rfl (by first | rfl | assumption | exact decide_eq_true (by assumption) | exact decide_eq_false (by assumption) | decide | (simp; done) | (simp; omega) | (simp [*]; done))) rfl ?_
            refine Ops.r (Run.mv rfl) rfl ?_
            refine Ops.sk rfl (by first | rfl | assumption | exact decide_eq_true (by assumption) | exact decide_eq_false (by assumption) | decide | (simp; done) | (simp; omega) | (simp [*]; done)) rfl ?_
            refine Ops.sk rfl (by first | rfl | assumption | exact decide_eq_true (by assumption) | exact decide_eq_false (by assumption) | decide | (simp; done) | (simp; omega) | (simp [*]; done)) rfl ?_
            refine Ops.sk rfl (by first | rfl | assumption | exact decide_eq_true (by assumption) | exact decide_eq_false (by assumption) | decide | (simp; done) | (simp; omega) | (simp [*]; done)) rfl ?_
            refine Ops.sk rfl (by first | rfl | assumption | exact decide_eq_true (by assumption) | exact decide_eq_false (by assumption) | decide | (simp; done) | (simp; omega) | (simp [*]; done)) rfl ?_
            refine Ops.r (Run.pickT rfl rfl (by first | rfl | assumption | exact decide_eq_true (by assumption) | exact decide_eq_false (by assumption) | decide | (simp; done) | (simp; omega) | (simp [*]; done))) rfl ?_
            refine Ops.nil ?_
            refine thenQ_n ⟨(.cons (congrArg (fun b => some (Value.bool b)) (Eq.symm (by simp [*]))) (.cons rfl .nil)), rfl⟩
          · skip
            refine Ops.r (Run.pickF rfl rfl (by first | rfl | assumption | exact decide_eq_true (by assumption) | exact decide_eq_false (by assumption) | decide | (simp; done) | (simp; omega) | (simp [*]; done))) rfl ?_
            refine Ops.r (Run.mv rfl) rfl ?_
            refine Ops.rg rfl (by first | rfl | assumption | exact decide_eq_true (by assumption) | exact decide_eq_false (by assumption) | decide | (simp; done) | (simp; omega) | (simp [*]; done)) (Run.fieldAddr rfl Try.underlying24 rfl Try.sizeOf22 (by decide)) rfl ?_
            refine Ops.rg rfl (by first | rfl | assumption | exact decide_eq_true (by assumption) | exact decide_eq_false (by assumption) | decide | (simp; done) | (simp; omega) | (simp [*]; done)) (Run.load rfl Try.isAgg22 (hb1.cell 2)) rfl ?_
            refine Ops.rg rfl (by first | rfl | assumption | exact decide_eq_true (by assumption) | exact decide_eq_false (by assumption) | decide | (simp; done) | (simp; omega) | (simp [*]; done)) (Run.lenS rfl Try.underlying22) rfl ?_
            refine Ops.rg rfl (by first | rfl | assumption | exact decide_eq_true (by assumption) | exact decide_eq_false (by assumption) | decide | (simp; done) | (simp; omega) | (simp [*]; done)) (Run.bin rfl rfl (Bin.gtrN _ 128)) rfl ?_
            by_cases hs28 : 128 < l.length
            · skip
              refine Ops.r (Run.pickF rfl rfl (by first | rfl | assumption | exact decide_eq_true (by assumption) | exact decide_eq_false (by assumption) | decide | (simp; done) | (simp; omega) | (simp [*]; done))) rfl ?_
              refine Ops.nil ?_
              refine thenQ_n ⟨(.cons (congrArg (fun b => some (Value.bool b)) (Eq.symm (by simp [*]))) (.cons rfl .nil)), rfl⟩
            · skip
              refine Ops.r (Run.pickF rfl rfl (by first | rfl | assumption | exact decide_eq_true (by assumption) | exact decide_eq_false (by assumption) | decide | (simp; done) | (simp; omega) | (simp [*]; done))) rfl ?_
              refine Ops.nil ?_
              refine thenQ_n ⟨(.cons (congrArg (fun b => some (Value.bool b)) (Eq.symm (by simp [*]))) (.cons rfl .nil)), rfl⟩
  · intro Γ hΓ
    refine thenQ_n (VC.sub _ hΓ ?_)
    refine VC.condD rfl (fun hc1 => ?_) (fun hc1 => ?_)
    · skip
      refine VC.seq ?_
      refine VC.region ?_
      refine Ops.r (Run.asg rfl) rfl ?_
      refine Ops.nil ?_
      refine thenQ_n ?_
      refine VC.sub [(2, _)] (.cons rfl .nil) ?_
      refine VC.ret ?_
      refine thenQ_r (end1 rfl ?_)
      refine ⟨?_, hf1⟩
      rw [decide_eq_false]
      intro h
      have := (may_at h).1
      omega
    · skip
      refine VC.skip ?_
      refine thenQ_n ?_
      refine VC.sub [(1, _)] (.cons rfl .nil) ?_
      refine VC.seq ?_
      refine VC.region ?_
      refine Ops.r (v := .int .i64 ((0 : Nat) : Int)) (Run.asg rfl) rfl ?_
      refine Ops.nil ?_
      refine thenQ_n ?_
      refine VC.seq ?_
      refine VC.seq ?_
      refine VC.region ?_
      refine Ops.r (Run.fieldAddr rfl Try.underlying24 rfl Try.sizeOf22 (by decide)) rfl ?_
      refine Ops.r (Run.load rfl Try.isAgg22 (hb1.cell 2)) rfl ?_
      refine Ops.r (Run.lenS rfl Try.underlying22) rfl ?_
      refine Ops.r (v := .int .i64 ((0 : Nat) : Int)) (Run.mv rfl) rfl ?_
      refine Ops.nil ?_
      refine thenQ_n ?_
      refine VC.sub [(1, _), (3, _), (31, _), (32, _), (33, _)] (.cons rfl (.cons rfl (.cons rfl (.cons rfl (.cons rfl .nil))))) ?_
      refine VC.block ?_
      refine VC.loop (σ := Nat) (fun s => [(1, .pointer (some ⟨g1, 0, none⟩)), (3, .int .i64 (prevU (Ms l) s)), (31, .slice A l.length c), (32, .int .i64 ((l.length : Nat) : Int)), (33, .int .i64 ((s : Nat) : Int))]) (fun s wr => s ≤ l.length ∧ Frm [] w wr ∧ Blk wr g1 24 #[.int .i64 v, .int .i64 n, .slice A l.length c] ∧ ∀ j (hj : j < l.length), j < s → GoodAt n (Ms l) j (l[j]).m) (fun s => l.length - s) 0 (.cons rfl (.cons rfl (.cons rfl (.cons rfl (.cons rfl .nil))))) ⟨by omega, hf1, hb1, by simp⟩ ?_
      rintro i wr ⟨hi, hfr, hbr, hg⟩
      refine VC.seq ?_
      refine VC.region ?_
      refine Ops.r (Run.bin rfl rfl (Bin.lssN _ _)) rfl ?_
      refine Ops.nil ?_
      refine thenQ_n ?_
      refine VC.seq ?_
      refine VC.condD rfl (fun hc2 => ?_) (fun hc2 => ?_)
      · skip
        obtain ⟨ad, rfl, hcell⟩ := (hl.frm hfr).elem hc2
        have hxa := (hl.frm hfr).fl (l[i]) (List.getElem_mem hc2)
        have hps := prev_succ hc2
        generalize hx : l[i] = x at *
        refine VC.skip ?_
        refine thenQ_n ?_
        refine VC.sub [(1, _), (3, _), (31, _), (32, _), (33, _)] (.cons rfl (.cons rfl (.cons rfl (.cons rfl (.cons rfl .nil))))) ?_
        refine VC.seq ?_
        refine VC.block ?_
        refine VC.seq ?_
        refine VC.region ?_
        refine Ops.r (Run.indexS i rfl rfl Try.underlying22 Try.sizeOf45 hc2) rfl ?_
        refine Ops.r (Run.loadA rfl Try.isAgg45 Try.sizeOf45 hcell (by first | rfl | (simp; done))) rfl ?_
        refine Ops.m (Does.alloc zero45) rfl ?_
        rintro _ w2 ⟨rfl, hF2⟩
        have hb2 := hF2.blk
        have hf2 := hF2.frm
        have hsz2 : wr.heap.size ≤ wr.heap.size := Nat.le_refl _
        have hfs := hfr.size
        generalize hg2 : wr.heap.size = g2 at hb2 hsz2 hfs ⊢
        refine Ops.st (Acts.storeA rfl rfl Try.sizeOf45 hb2 rfl x.cells_one) ?_
        rintro w3 ⟨hb3, hf3, hs3⟩
        have hfr3 : Frm [] wr w3 := hf2.own hf3 (fun y hy => by simp at hy; omega)
        have hb13 := hbr.frm hfr3 (by simp)
        refine Ops.nil ?_
        refine thenQ_n ?_
        refine VC.sub [(1, _), (3, _), (5, _), (31, _), (32, _), (33, _)] (.cons rfl (.cons rfl (.cons rfl (.cons rfl (.cons rfl (.cons rfl .nil)))))) ?_
        refine VC.seq ?_
        refine VC.seq ?_
        refine VC.splitR [(1, .pointer (some ⟨g1, 0, none⟩)), (5, .pointer (some ⟨g2, 0, none⟩)), (31, .slice (some ad) l.length c), (32, .int .i64 ((l.length : Nat) : Int)), (33, .int .i64 ((i : Nat) : Int))] (Frm [] w3) 52 (.bool (decide (¬ GoodAt n (Ms l) i x.m))) ?_ ?_
        · refine VC.region ?_
          refine Ops.r (Run.fieldAddr rfl Try.underlying45 rfl Try.sizeOf3 (by decide)) rfl ?_
          refine Ops.r (Run.load rfl Try.isAgg3 (hb3.cell 0)) rfl ?_
          refine Ops.r (Run.mv rfl) rfl ?_
          refine Ops.r (Run.bin rfl rfl (Bin.leq _ _)) rfl ?_
          by_cases hs40 : x.m.uid ≤ prevU (Ms l) i
          · skip
            refine Ops.r (Run.mv rfl) rfl ?_
            refine Ops.sk rfl (by first | rfl | assumption | exact decide_eq_true (by assumption) | exact decide_eq_false (by assumption) | decide | (simp; done) | (simp; omega) | (simp [*]; done)) rfl ?_
            refine Ops.sk rfl (by first | rfl | assumption | exact decide_eq_true (by assumption) | exact decide_eq_false (by assumption) | decide | (simp; done) | (simp; omega) | (simp [*]; done)) rfl ?_
            refine Ops.sk rfl (by first | rfl | assumption | exact decide_eq_true (by assumption) | exact decide_eq_false (by assumption) | decide | (simp; done) | (simp; omega) | (simp [*]; done)) rfl ?_
            refine Ops.sk rfl (by first | rfl | assumption | exact decide_eq_true (by assumption) | exact decide_eq_false (by assumption) | decide | (simp; done) | (simp; omega) | (simp [*]; done)) rfl ?_
            refine Ops.sk rfl (by first | rfl | assumption | exact decide_eq_true (by assumption) | exact decide_eq_false (by assumption) | decide | (simp; done) | (simp; omega) | (simp [*]; done)) rfl ?_
            refine Ops.r (Run.pickT rfl rfl (by first | rfl | assumption | exact decide_eq_true (by assumption) | exact decide_eq_false (by assumption) | decide | (simp; done) | (simp; omega) | (simp [*]; done))) rfl ?_
            refine Ops.r (Run.mv rfl) rfl ?_
            refine Ops.sk rfl (by first | rfl | assumption | exact decide_eq_true (by assumption) | exact decide_eq_false (by assumption) | decide | (simp; done) | (simp; omega) | (simp [*]; done)) rfl ?_
            refine Ops.sk rfl (by first | rfl | assumption | exact decide_eq_true (by assumption) | exact decide_eq_false (by assumption) | decide | (simp; done) | (simp; omega) | (simp [*]; done)) rfl ?_
            refine Ops.sk rfl (by first | rfl | assumption | exact decide_eq_true (by assumption) | exact decide_eq_false (by assumption) | decide | (simp; done) | (simp; omega) | (simp [*]; done)) rfl ?_
            refine Ops.r (Run.pickT rfl rfl (by first | rfl | assumption | exact decide_eq_true (by assumption) | exact decide_eq_false (by assumption) | decide | (simp; done) | (simp; omega) | (simp [*]; done))) rfl ?_
            refine Ops.nil ?_
            refine thenQ_n ⟨(.cons (congrArg (fun b => some (Value.bool b)) (Eq.symm (by first | exact decide_eq_true (by unfold GoodAt; omega) | (rw [← decide_not]; exact decide_eq_decide.2 ⟨fun h hm => h ⟨by omega, by omega, hm⟩, fun h hg => h hg.2.2⟩) | exact decide_eq_decide.2 ⟨fun _ => by omega, fun _ => by unfold GoodAt; omega⟩))) (.cons rfl (.cons rfl (.cons rfl (.cons rfl (.cons rfl .nil)))))), (by first | exact hf4 | exact Frm.refl _ _)⟩
          · skip
            refine Ops.r (Run.mv rfl) rfl ?_
            refine Ops.rg rfl (by first | rfl | assumption | exact decide_eq_true (by assumption) | exact decide_eq_false (by assumption) | decide | (simp; done) | (simp; omega) | (simp [*]; done)) (Run.fieldAddr rfl Try.underlying45 rfl Try.sizeOf3 (by decide)) rfl ?_
            refine Ops.rg rfl (by first | rfl | assumption | exact decide_eq_true (by assumption) | exact decide_eq_false (by assumption) | decide | (simp; done) | (simp; omega) | (simp [*]; done)) (Run.load rfl Try.isAgg3 (hb3.cell 0)) rfl ?_
            refine Ops.rg rfl (by first | rfl | assumption | exact decide_eq_true (by assumption) | exact decide_eq_false (by assumption) | decide | (simp; done) | (simp; omega) | (simp [*]; done)) (Run.fieldAddr rfl Try.underlying24 rfl Try.sizeOf3 (by decide)) rfl ?_
            refine Ops.rg rfl (by first | rfl | assumption | exact decide_eq_true (by assumption) | exact decide_eq_false (by assumption) | decide | (simp; done) | (simp; omega) | (simp [*]; done)) (Run.load rfl Try.isAgg3 (hb13.cell 1)) rfl ?_
            refine Ops.rg rfl (by first | rfl | assumption | exact decide_eq_true (by assumption) | exact decide_eq_false (by assumption) | decide | (simp; done) | (simp; omega) | (simp [*]; done)) (Run.bin rfl rfl (Bin.geq _ _)) rfl ?_
            by_cases hs46 : n ≤ x.m.uid
            · skip
              refine Ops.r (Run.pickF rfl rfl (by first | rfl | assumption | exact decide_eq_true (by assumption) | exact decide_eq_false (by assumption) | decide | (simp; done) | (simp; omega) | (simp [*]; done))) rfl ?_
              refine Ops.r (Run.mv rfl) rfl ?_
              refine Ops.sk rfl (by first | rfl | assumption | exact decide_eq_true (by assumption) | exact decide_eq_false (by assumption) | decide | (simp; done) | (simp; omega) | (simp [*]; done)) rfl ?_
              refine Ops.sk rfl (by first | rfl | assumption | exact decide_eq_true (by assumption) | exact decide_eq_false (by assumption) | decide | (simp; done) | (simp; omega) | (simp [*]; done)) rfl ?_
              refine Ops.sk rfl (by first | rfl | assumption | exact decide_eq_true (by assumption) | exact decide_eq_false (by assumption) | decide | (simp; done) | (simp; omega) | (simp [*]; done)) rfl ?_
              refine Ops.r (Run.pickT rfl rfl (by first | rfl | assumption | exact decide_eq_true (by assumption) | exact decide_eq_false (by assumption) | decide | (simp; done) | (simp; omega) | (simp [*]; done))) rfl ?_
              refine Ops.nil ?_
              refine thenQ_n ⟨(.cons (congrArg (fun b => some (Value.bool b)) (Eq.symm (by first | exact decide_eq_true (by unfold GoodAt; omega) | (rw [← decide_not]; exact decide_eq_decide.2 ⟨fun h hm => h ⟨by omega, by omega, hm⟩, fun h hg => h hg.2.2⟩) | exact decide_eq_decide.2 ⟨fun _ => by omega, fun _ => by unfold GoodAt; omega⟩))) (.cons rfl (.cons rfl (.cons rfl (.cons rfl (.cons rfl .nil)))))), (by first | exact hf4 | exact Frm.refl _ _)⟩
            · skip
              refine Ops.r (Run.pickF rfl rfl (by first | rfl | assumption | exact decide_eq_true (by assumption) | exact decide_eq_false (by assumption) | decide | (simp; done) | (simp; omega) | (simp [*]; done))) rfl ?_
              refine Ops.r (Run.mv rfl) rfl ?_
              refine Ops.rg rfl (by first | rfl | assumption | exact decide_eq_true (by assumption) | exact decide_eq_false (by assumption) | decide | (simp; done) | (simp; omega) | (simp [*]; done)) (Run.loadA rfl Try.isAgg45 Try.sizeOf45 (fun j v hj => hb3.cells j v hj) (by first | rfl | (simp; done))) rfl ?_
              refine Ops.clg rfl (by first | rfl | assumption | exact decide_eq_true (by assumption) | exact decide_eq_false (by assumption) | decide | (simp; done) | (simp; omega) | (simp [*]; done)) (Enters.fn (evs.cons rfl evs.nil) Try.call36) (message_spec x _ (hxa.frm hfr3 (by simp))) rfl ?_
              rintro e w4 ⟨rfl, hf4⟩
              refine ⟨_, rfl, ?_⟩
              by_cases hs50 : MsgOk x.m
              · skip
                refine Ops.rg rfl (by first | rfl | assumption | exact decide_eq_true (by assumption) | exact decide_eq_false (by assumption) | decide | (simp; done) | (simp; omega) | (simp [*]; done)) (Run.not rfl) rfl ?_
                refine Ops.r (Run.pickF rfl rfl (by first | rfl | assumption | exact decide_eq_true (by assumption) | exact decide_eq_false (by assumption) | decide | (simp; done) | (simp; omega) | (simp [*]; done))) rfl ?_
                refine Ops.nil ?_
                refine thenQ_n ⟨(.cons (congrArg (fun b => some (Value.bool b)) (Eq.symm (by first | exact decide_eq_true (by unfold GoodAt; omega) | (rw [← decide_not]; exact decide_eq_decide.2 ⟨fun h hm => h ⟨by omega, by omega, hm⟩, fun h hg => h hg.2.2⟩) | exact decide_eq_decide.2 ⟨fun _ => by omega, fun _ => by unfold GoodAt; omega⟩))) (.cons rfl (.cons rfl (.cons rfl (.cons rfl (.cons rfl .nil)))))), (by first | exact hf4 | exact Frm.refl _ _)⟩
              · skip
                refine Ops.rg rfl (by first | rfl | assumption | exact decide_eq_true (by assumption) | exact decide_eq_false (by assumption) | decide | (simp; done) | (simp; omega) | (simp [*]; done)) (Run.not rfl) rfl ?_
                refine Ops.r (Run.pickF rfl rfl (by first | rfl | assumption | exact decide_eq_true (by assumption) | exact decide_eq_false (by assumption) | decide | (simp; done) | (simp; omega) | (simp [*]; done))) rfl ?_
                refine Ops.nil ?_
                refine thenQ_n ⟨(.cons (congrArg (fun b => some (Value.bool b)) (Eq.symm (by first | exact decide_eq_true (by unfold GoodAt; omega) | (rw [← decide_not]; exact decide_eq_decide.2 ⟨fun h hm => h ⟨by omega, by omega, hm⟩, fun h hg => h hg.2.2⟩) | exact decide_eq_decide.2 ⟨fun _ => by omega, fun _ => by unfold GoodAt; omega⟩))) (.cons rfl (.cons rfl (.cons rfl (.cons rfl (.cons rfl .nil)))))), (by first | exact hf4 | exact Frm.refl _ _)⟩
        · intro Γ w4 hΓ hf4
          refine thenQ_n (VC.sub _ hΓ ?_)
          refine VC.condD rfl (fun hc3 => ?_) (fun hc3 => ?_)
          · skip
            have hng : ¬ GoodAt n (Ms l) i x.m := hc3
            refine VC.seq ?_
            refine VC.region ?_
            refine Ops.r (Run.asg rfl) rfl ?_
            refine Ops.nil ?_
            refine thenQ_n ?_
            refine VC.sub [(2, _)] (.cons rfl .nil) ?_
            refine VC.ret ?_
            refine thenQ_r (blockQ_r (thenQ_r (thenQ_r (blockQ_r (thenQ_r (end1 rfl ?_))))))
            refine ⟨?_, (hfr.trans hfr3 (by simp)).trans hf4 (by simp)⟩
            rw [decide_eq_false]
            intro h
            have := (may_at h).2 i hc2
            rw [hx] at this
            exact hng this
          · skip
            have hgi : GoodAt n (Ms l) i x.m := Classical.not_not.1 hc3
            have hb34 := hb3.frm hf4 (by simp)
            have hb14 := hb13.frm hf4 (by simp)
            have hfr4 := hfr3.trans hf4 (by simp)
            refine VC.skip ?_
            refine thenQ_n ?_
            refine VC.sub [(1, _), (5, _), (31, _), (32, _), (33, _)] (.cons rfl (.cons rfl (.cons rfl (.cons rfl (.cons rfl .nil))))) ?_
            refine VC.region ?_
            refine Ops.r (Run.fieldAddr rfl Try.underlying45 rfl Try.sizeOf3 (by decide)) rfl ?_
            refine Ops.r (Run.load rfl Try.isAgg3 (hb34.cell 0)) rfl ?_
            refine Ops.r (Run.asg rfl) rfl ?_
            refine Ops.nil ?_
            refine blockQ_n (thenQ_n ?_)
            refine VC.sub [(1, _), (3, _), (31, _), (32, _), (33, _)] (.cons rfl (.cons rfl (.cons rfl (.cons rfl (.cons rfl .nil))))) ?_
            refine VC.region ?_
            refine Ops.r (Run.bin rfl rfl (Bin.add_i64 _ 1 (by omega))) rfl ?_
            refine Ops.r (Run.mv rfl) rfl ?_
            refine Ops.nil ?_
            refine thenQ_n ⟨(i + 1), (.cons rfl (.cons (congrArg (fun z => some (Value.int .i64 z)) hps.symm) (.cons rfl (.cons rfl (.cons rfl .nil))))), ?_, ?_⟩
            · skip
              refine ⟨hc2, hfr.trans hfr4 (by simp), hb14, fun j hj hji => ?_⟩
              rcases Nat.lt_or_ge j i with h | h
              · exact hg j hj h
              · obtain rfl : j = i := by omega
                rw [hx]; exact hgi
            · skip
              first | omega | (dsimp only; omega)
      · skip
        refine VC.exit ?_
        refine thenQ_x (thenQ_x (blockQ_x ?_))
        refine thenQ_n ?_
        refine VC.sub [] .nil ?_
        refine VC.seq ?_
        refine VC.region ?_
        refine Ops.r (Run.asg rfl) rfl ?_
        refine Ops.nil ?_
        refine thenQ_n ?_
        refine VC.ret ?_
        refine end1 rfl ?_
        refine ⟨?_, hfr⟩
        rw [decide_eq_true]
        exact may_all (by omega) (fun j hj => hg j hj (by omega))

set_option maxRecDepth 100000 in
theorem own_spec (x : Mc) (w : World) (hx : x.At w) : Calls Try.prog 37 #[.agg x.cells.toArray] w fun e w' => ∃ B d, e = .returned (.agg (⟨x.m, B, d⟩ : Mc).cells.toArray) ∧ Own w' 9 1 B x.m.flags.length d (SB x.m.flags) ∧ (∀ b ∈ ob B, w.heap.size ≤ b) ∧ Frm [] w w' := by
  refine VC.calls (nt := 8) (res := #[.cell 2 45]) Try.func37 rfl Try.ntmps37 Try.results37 rfl ?_
  refine VC.seq ?_
  refine VC.region ?_
  refine Ops.m (Does.box rfl) rfl ?_
  rintro _ w1 ⟨rfl, hF1⟩
  have hb1 := hF1.blk
  have hf1 := hF1.frm
  generalize hg1 : w.heap.size = g1 at *
  refine Ops.m (Does.alloc zero45) rfl ?_
  rintro _ w2 ⟨rfl, hF2⟩
  have hb2 := hF2.blk
  have hf2 := hf1.trans hF2.frm (by simp)
  have hb12 := hb1.frm hF2.frm (by simp)
  have hsz2 : w.heap.size ≤ w1.heap.size := hf1.size
  have hsz12 := hb1.lt
  generalize hg2 : w1.heap.size = g2 at hb2 hsz2 hsz12 ⊢
  have hg1' : w.heap.size ≤ g1 := by omega
  refine Ops.nil ?_
  refine thenQ_n ?_
  refine VC.sub [(1, _), (2, _)] (.cons rfl (.cons rfl .nil)) ?_
  refine VC.seq ?_
  refine VC.region ?_
  refine Ops.r (Run.fieldAddr rfl Try.underlying45 rfl Try.sizeOf43 (by decide)) rfl ?_
  refine Ops.r (Run.load rfl Try.isAgg43 (hb12.cell 5)) rfl ?_
  refine Ops.cl (Enters.fn (evs.cons rfl evs.nil) Try.call53) (clone_spec x.A x.c x.m.flags _ (hx.frm hf2 (by simp)).rd (by have := hx.n; omega)) rfl ?_
  rintro e w3 ⟨B, d, rfl, hownB, hgeB, hf3⟩
  refine ⟨_, rfl, ?_⟩
  have hb13 := hb12.frm hf3 (by simp)
  have hb23 := hb2.frm hf3 (by simp)
  have hfr3 := hf2.trans hf3 (by simp)
  refine Ops.r (Run.fieldAddr rfl Try.underlying45 rfl Try.sizeOf43 (by decide)) rfl ?_
  refine Ops.st (Acts.store rfl rfl Try.sizeOf43 hb13 rfl rfl) ?_
  rintro w4 ⟨hb14, hf4, hs4⟩
  have hb14 : Blk w4 g1 45 (⟨x.m, B, d⟩ : Mc).cells.toArray := hb14
  have hb24 := hb23.frm hf4 (by simp; omega)
  have hfr4 := hfr3.own hf4 (fun y hy => by simp at hy; omega)
  have hown4 := hownB.frm hf4 (fun y hy => by have := hownB.ne_blk hb13 (by decide); simp; rintro rfl; exact this hy)
  refine Ops.nil ?_
  refine thenQ_n ?_
  refine VC.sub [(1, _), (2, _)] (.cons rfl (.cons rfl .nil)) ?_
  refine VC.seq ?_
  refine VC.region ?_
  refine Ops.r (Run.loadA rfl Try.isAgg45 Try.sizeOf45 (fun j v hj => hb14.cells j v hj) (by first | rfl | (simp; done))) rfl ?_
  refine Ops.st (Acts.storeA rfl rfl Try.sizeOf45 hb24 rfl (Mc.cells_one _)) ?_
  rintro w5 ⟨hb25, hf5, hs5⟩
  have hfr5 := hfr4.own hf5 (fun y hy => by simp at hy; omega)
  have hown5 := hown4.frm hf5 (fun y hy => by have := hown4.ne_blk hb24 (by decide); simp; rintro rfl; exact this hy)
  refine Ops.nil ?_
  refine thenQ_n ?_
  refine VC.sub [(2, _)] (.cons rfl .nil) ?_
  refine VC.ret ?_
  refine endR ?_
  refine res_cellA rfl Try.isAgg45 Try.sizeOf45 (fun j v hj => hb25.cells j v hj) (by first | rfl | (simp; done)) ?_
  refine res_nil ?_
  exact ⟨B, d, rfl, hown5, fun b hb => by have h1 := hf2.size; have h2 := hgeB b hb; omega, hfr5⟩

/-- Messages of one's own. -/
structure OwM (w : World) (A : Option Addr) (d : Nat) (l : List Mc) : Prop where
  own : Own w 45 6 A l.length d (MC l)
  fl : ∀ x ∈ l, Own w 9 1 x.A x.m.flags.length x.c (SB x.m.flags)
  fit : ∀ x ∈ l, x.m.flags.length ≤ 500000 ∧ ∀ q ∈ x.m.flags, q.length ≤ 1000000
theorem OwM.nil (w : World) : OwM w none 0 [] := ⟨Own.nil _ _ _, by simp, by simp⟩
theorem OwM.rdm {w : World} {A : Option Addr} {d : Nat} {l : List Mc} (h : OwM w A d l) : RdM w A l :=
  ⟨h.own.rd, fun x hx => ⟨(h.fl x hx).rd, (h.fit x hx).1, (h.fit x hx).2⟩⟩
theorem OwM.frm {w w' : World} {A : Option Addr} {d : Nat} {l : List Mc} (h : OwM w A d l) (k : Frm [] w w') : OwM w' A d l :=
  ⟨h.own.frm k (by simp), fun x hx => (h.fl x hx).frm k (by simp), h.fit⟩
theorem OwM.blk {w w' : World} {A : Option Addr} {d g : Nat} {l : List Mc} {t : TypeId} {cs : Array Value} (h : OwM w A d l) (k : Frm [g] w w') (hb : Blk w g t cs) (h1 : 45 ≠ t) (h2 : 9 ≠ t) : OwM w' A d l :=
  ⟨h.own.frm k (fun x hx => by simp; rintro rfl; exact h.own.ne_blk hb h1 hx), fun y hy => (h.fl y hy).frm k (fun x hx => by simp; rintro rfl; exact (h.fl y hy).ne_blk hb h2 hx), h.fit⟩
/-- One more behind. -/
theorem OwM.put {w w' : World} {A B : Option Addr} {d d' : Nat} {l : List Mc} {x : Mc} (h : OwM w A d l) (ho : Own w' 45 6 B (l ++ [x]).length d' (MC (l ++ [x]))) (k : Frm (ob A) w w') (hx : Own w 9 1 x.A x.m.flags.length x.c (SB x.m.flags)) (hf : x.m.flags.length ≤ 500000 ∧ ∀ q ∈ x.m.flags, q.length ≤ 1000000) : OwM w' B d' (l ++ [x]) := by
  refine ⟨ho, fun y hy => ?_, fun y hy => ?_⟩
  · rcases List.mem_append.1 hy with h1 | h1
    · exact (h.fl y h1).frm k ((h.fl y h1).ne_own h.own (by decide))
    · simp only [List.mem_singleton] at h1
      subst h1
      exact hx.frm k (hx.ne_own h.own (by decide))
  · rcases List.mem_append.1 hy with h1 | h1
    · exact h.fit y h1
    · simp only [List.mem_singleton] at h1
      subst h1
      exact hf
theorem hrdM {w w' : World} {t : TypeId} {x : Mc} (h : Fresh w w' t (Value.agg x.cells.toArray).cells) : Rd w' 6 (some ⟨w.heap.size, 0, none⟩) 1 (MC [x]) := Rd.of_blk (n := 1) (size := 6) h.blk rfl
theorem Ms_take {l : List Mc} {i : Nat} (h : i < l.length) : Ms (l.take (i + 1)) = Ms (l.take i) ++ [(l[i]).m] := by
  simp only [Ms, List.map_take]
  rw [List.take_add_one, List.getElem?_map, List.getElem?_eq_getElem h]
  rfl

set_option maxRecDepth 100000 in
theorem all_spec (A : Option Addr) (c : Nat) (l : List Mc) (w : World) (hl : RdM w A l) (hn : l.length ≤ 1000000) : Calls Try.prog 30 #[.slice A l.length c] w fun e w' => ∃ B d, ∃ l' : List Mc, e = .returned (.slice B l'.length d) ∧ OwM w' B d l' ∧ Ms l' = Ms l ∧ (∀ b ∈ ob B, w.heap.size ≤ b) ∧ Frm [] w w' := by
  refine VC.calls (nt := 19) (res := #[.tmp 2]) Try.func30 rfl Try.ntmps30 Try.results30 rfl ?_
  refine VC.seq ?_
  refine VC.region ?_
  refine Ops.r (Run.asg rfl) rfl ?_
  refine Ops.nil ?_
  refine thenQ_n ?_
  refine VC.sub [(0, _)] (.cons rfl .nil) ?_
  refine VC.seq ?_
  refine VC.region ?_
  refine Ops.r (Run.asg rfl) rfl ?_
  refine Ops.nil ?_
  refine thenQ_n ?_
  refine VC.seq ?_
  refine VC.seq ?_
  refine VC.region ?_
  refine Ops.r (Run.mv rfl) rfl ?_
  refine Ops.r (Run.lenS rfl Try.underlying22) rfl ?_
  refine Ops.r (v := .int .i64 ((0 : Nat) : Int)) (Run.mv rfl) rfl ?_
  refine Ops.nil ?_
  refine thenQ_n ?_
  refine VC.sub [(3, _), (6, _), (7, _), (8, _)] (.cons rfl (.cons rfl (.cons rfl (.cons rfl .nil)))) ?_
  refine VC.block ?_
  refine VC.loop (σ := Nat × Option Addr × Nat × List Mc) (fun s => [(3, .slice s.2.1 s.2.2.2.length s.2.2.1), (6, .slice A l.length c), (7, .int .i64 ((l.length : Nat) : Int)), (8, .int .i64 ((s.1 : Nat) : Int))]) (fun s wr => s.1 ≤ l.length ∧ OwM wr s.2.1 s.2.2.1 s.2.2.2 ∧ Ms s.2.2.2 = Ms (l.take s.1) ∧ (∀ b ∈ ob s.2.1, w.heap.size ≤ b) ∧ Frm [] w wr) (fun s => l.length - s.1) (0, none, 0, []) (.cons rfl (.cons rfl (.cons rfl (.cons rfl .nil)))) ⟨by omega, OwM.nil _, rfl, by simp [ob], Frm.refl _ _⟩ ?_
  rintro ⟨i, B, d, l'⟩ wr ⟨hi, hown, hms, hge, hfr⟩
  dsimp only at hi hown hms hge ⊢
  have hll : l'.length = i := by have := congrArg List.length hms; simp [Ms] at this; omega
  refine VC.seq ?_
  refine VC.region ?_
  refine Ops.r (Run.bin rfl rfl (Bin.lssN _ _)) rfl ?_
  refine Ops.nil ?_
  refine thenQ_n ?_
  refine VC.seq ?_
  refine VC.condD rfl (fun hc1 => ?_) (fun hc1 => ?_)
  · skip
    obtain ⟨ad, rfl, hcell⟩ := (hl.frm hfr).elem hc1
    have hxa := (hl.frm hfr).fl (l[i]) (List.getElem_mem hc1)
    have hmt := Ms_take hc1
    generalize hx : l[i] = x at *
    refine VC.skip ?_
    refine thenQ_n ?_
    refine VC.sub [(3, _), (6, _), (7, _), (8, _)] (.cons rfl (.cons rfl (.cons rfl (.cons rfl .nil)))) ?_
    refine VC.seq ?_
    refine VC.block ?_
    refine VC.seq ?_
    refine VC.region ?_
    refine Ops.r (Run.indexS i rfl rfl Try.underlying22 Try.sizeOf45 hc1) rfl ?_
    refine Ops.r (Run.loadA rfl Try.isAgg45 Try.sizeOf45 hcell (by first | rfl | (simp; done))) rfl ?_
    refine Ops.m (Does.alloc zero45) rfl ?_
    rintro _ w2 ⟨rfl, hF2⟩
    have hb2 := hF2.blk
    have hf2 := hF2.frm
    have hsz2 : wr.heap.size ≤ wr.heap.size := Nat.le_refl _
    have hfs := hfr.size
    generalize hg2 : wr.heap.size = g2 at hb2 hsz2 hfs ⊢
    refine Ops.st (Acts.storeA rfl rfl Try.sizeOf45 hb2 rfl x.cells_one) ?_
    rintro w3 ⟨hb3, hf3, hs3⟩
    have hfr3 : Frm [] wr w3 := hf2.own hf3 (fun y hy => by simp at hy; omega)
    refine Ops.nil ?_
    refine thenQ_n ?_
    refine VC.sub [(3, _), (5, _), (6, _), (7, _), (8, _)] (.cons rfl (.cons rfl (.cons rfl (.cons rfl (.cons rfl .nil))))) ?_
    refine VC.region ?_
    refine Ops.r (Run.mv rfl) rfl ?_
    refine Ops.r (Run.loadA rfl Try.isAgg45 Try.sizeOf45 (fun j v hj => hb3.cells j v hj) (by first | rfl | (simp; done))) rfl ?_
    refine Ops.cl (Enters.fn (evs.cons rfl evs.nil) Try.call37) (own_spec x _ (hxa.frm hfr3 (by simp))) rfl ?_
    rintro e w4 ⟨C, dc, rfl, hownC, hgeC, hf4⟩
    refine ⟨_, rfl, ?_⟩
    have hfr4 := hfr3.trans hf4 (by simp)
    refine Ops.m (Does.buildS1 rfl Try.underlying22 Try.sizeOf45 zero45 (by decide) (by decide) rfl rfl) rfl ?_
    rintro _ w5 ⟨rfl, hF5⟩
    have hfr5 := hfr4.trans hF5.frm (by simp)
    have hown5 := hown.frm hfr5
    have hownC5 := hownC.frm hF5.frm (by simp)
    refine Ops.m (Does.app rfl rfl Try.underlying22 (info45) rfl (by decide) hown5.own (hrdM hF5) (flat_one Mc.cells Mc.cells_one _) (by omega) (by omega)) rfl ?_
    rintro _ w6 ⟨A6, c6, rfl, hown6, hf6, hob6⟩
    rw [← MC_append] at hown6
    have hge6 := up_app hge hob6 (Nat.le_trans hfr.size hfr5.size)
    have hfr6 := (hfr.trans hfr5 (by simp)).own hf6 hge
    have hM6 := hown5.put (x := ⟨x.m, C, dc⟩) (by simpa using hown6) hf6 hownC5 ⟨hxa.n, hxa.q⟩
    refine Ops.r (Run.asg rfl) rfl ?_
    refine Ops.nil ?_
    refine blockQ_n (thenQ_n ?_)
    refine VC.sub [(3, _), (6, _), (7, _), (8, _)] (.cons rfl (.cons rfl (.cons rfl (.cons rfl .nil)))) ?_
    refine VC.region ?_
    refine Ops.r (Run.bin rfl rfl (Bin.add_i64 _ 1 (by omega))) rfl ?_
    refine Ops.r (Run.mv rfl) rfl ?_
    refine Ops.nil ?_
    refine thenQ_n ⟨(i + 1, A6, c6, l' ++ [⟨x.m, C, dc⟩]), (.cons (by rw [List.length_append]; rfl) (.cons rfl (.cons rfl (.cons rfl .nil)))), ?_, ?_⟩
    · skip
      exact ⟨hc1, hM6, by rw [hmt, ← hms]; simp [Ms], hge6, hfr6⟩
    · skip
      first | omega | (dsimp only; omega)
  · skip
    refine VC.exit ?_
    refine thenQ_x (thenQ_x (blockQ_x ?_))
    refine thenQ_n ?_
    refine VC.sub [(3, _)] (.cons rfl .nil) ?_
    refine VC.seq ?_
    refine VC.region ?_
    refine Ops.r (Run.mv rfl) rfl ?_
    refine Ops.r (Run.asg rfl) rfl ?_
    refine Ops.nil ?_
    refine thenQ_n ?_
    refine VC.sub [(2, _)] (.cons rfl .nil) ?_
    refine VC.ret ?_
    refine end1 rfl ?_
    have him : i = l.length := by omega
    subst him
    rw [List.take_length] at hms
    exact ⟨B, d, l', rfl, hown, hms, hge, hfr⟩

end Go.Proofs.Ytmfglifjnoilnaa

/-
  The walk of box: a message laid behind the others.
-/
namespace Go.Proofs.Ytmfglifjnoilnaa
open Go.RowKit Go.Sort

set_option maxRecDepth 100000 in
theorem append_spec (v n : Int) (A : Option Addr) (c : Nat) (l : List Mc) (x : Mc) (w : World) (hl : RdM w A l) (hn : l.length ≤ 900000) (hx : x.At w) : Calls Try.prog 18 #[.agg #[.int .i64 v, .int .i64 n, .slice A l.length c], .agg x.cells.toArray] w fun e w' =>
    Frm [] w w' ∧ ∃ v' n' B d l' k, e = .returned (.tuple #[.agg #[.int .i64 v', .int .i64 n', .slice B l'.length d], .int .i64 (if k = 0 then n else 0), .int .i64 ((k : Nat) : Int)]) ∧ IsBx w' (appendB ⟨v, n, Ms l⟩ x.m) v' n' B d l' k ∧ OwM w' B d l' := by
  refine VC.calls (nt := 46) (res := #[.cell 4 24, .tmp 5, .tmp 6]) Try.func18 rfl Try.ntmps18 Try.results18 rfl ?_
  refine VC.seq ?_
  refine VC.region ?_
  refine Ops.m (Does.box rfl) rfl ?_
  rintro _ w1 ⟨rfl, hF2⟩
  have hb2 := hF2.blk
  have hf2 := hF2.frm
  generalize hg2 : w.heap.size = g2 at hb2
  have hs2 : w.heap.size ≤ g2 := by omega
  refine Ops.m (Does.box rfl) rfl ?_
  rintro _ w3 ⟨rfl, hF3⟩
  have hb3 := hF3.blk
  have hb23 := hb2.frm hF3.frm (by simp)
  have hf3 := hf2.trans hF3.frm (by simp)
  have hs3 : w.heap.size ≤ w1.heap.size := hf2.size
  have hn23 : g2 < w1.heap.size := hb2.lt
  generalize hg3 : w1.heap.size = g3 at hb3 hs3 hn23 ⊢
  refine Ops.m (Does.alloc zero24) rfl ?_
  rintro _ w4 ⟨rfl, hF4⟩
  have hb4 := hF4.blk
  have hb24 := hb23.frm hF4.frm (by simp)
  have hb34 := hb3.frm hF4.frm (by simp)
  have hf4 := hf3.trans hF4.frm (by simp)
  have hs4 : w.heap.size ≤ w3.heap.size := hf3.size
  have hn34 : g3 < w3.heap.size := hb3.lt
  generalize hg4 : w3.heap.size = g4 at hb4 hs4 hn34 ⊢
  refine Ops.r (v := .int .i64 ((0 : Nat) : Int)) (Run.asg rfl) rfl ?_
  refine Ops.r (v := .int .i64 ((0 : Nat) : Int)) (Run.asg rfl) rfl ?_
  refine Ops.nil ?_
  refine thenQ_n ?_
  refine VC.sub [(2, _), (3, _), (4, _)] (.cons rfl (.cons rfl (.cons rfl .nil))) ?_
  refine VC.seq ?_
  refine VC.block ?_
  refine VC.seq ?_
  refine VC.splitR [(2, .pointer (some ⟨g2, 0, none⟩)), (3, .pointer (some ⟨g3, 0, none⟩)), (4, .pointer (some ⟨g4, 0, none⟩))] (Frm [] w4) 7 (.bool (decide (¬ mayB ⟨v, n, Ms l⟩ ∨ ¬ MsgOk x.m))) ?_ ?_
  · refine VC.region ?_
    refine Ops.r (Run.loadA rfl Try.isAgg24 Try.sizeOf24 (fun j v hj => hb24.cells j v hj) (by first | rfl | (simp; done))) rfl ?_
    refine Ops.cl (Enters.fn (evs.cons rfl evs.nil) Try.call17) (may_spec v n A c l _ (hl.frm hf4)) rfl ?_
    rintro e w5 ⟨rfl, hf5⟩
    refine ⟨_, rfl, ?_⟩
    by_cases hs9 : mayB ⟨v, n, Ms l⟩
    · skip
      refine Ops.r (Run.not rfl) rfl ?_
      refine Ops.r (Run.mv rfl) rfl ?_
      refine Ops.rg rfl (by first | rfl | assumption | exact decide_eq_true (by assumption) | exact decide_eq_false (by assumption) | decide | (simp; done) | (simp; omega) | (simp [*]; done)) (Run.loadA rfl Try.isAgg45 Try.sizeOf45 (fun j v hj => (hb34.frm hf5 (by simp)).cells j v hj) (by first | rfl | (simp; done))) rfl ?_
      refine Ops.clg rfl (by first | rfl | assumption | exact decide_eq_true (by assumption) | exact decide_eq_false (by assumption) | decide | (simp; done) | (simp; omega) | (simp [*]; done)) (Enters.fn (evs.cons rfl evs.nil) Try.call36) (message_spec x _ (hx.frm (hf4.trans hf5 (by simp)) (by simp))) rfl ?_
      rintro e w6 ⟨rfl, hf6⟩
      refine ⟨_, rfl, ?_⟩
      by_cases hs13 : MsgOk x.m
      · skip
        refine Ops.rg rfl (by first | rfl | assumption | exact decide_eq_true (by assumption) | exact decide_eq_false (by assumption) | decide | (simp; done) | (simp; omega) | (simp [*]; done)) (Run.not rfl) rfl ?_
        refine Ops.r (Run.pickF rfl rfl (by first | rfl | assumption | exact decide_eq_true (by assumption) | exact decide_eq_false (by assumption) | decide | (simp; done) | (simp; omega) | (simp [*]; done))) rfl ?_
        refine Ops.r (Run.asg rfl) rfl ?_
        refine Ops.nil ?_
        refine thenQ_n ⟨(.cons (congrArg (fun b => some (Value.bool b)) (Eq.symm (by simp [*]))) (.cons rfl (.cons rfl (.cons rfl .nil)))), (by first | exact hf5.trans hf6 (by simp) | exact hf5)⟩
      · skip
        refine Ops.rg rfl (by first | rfl | assumption | exact decide_eq_true (by assumption) | exact decide_eq_false (by assumption) | decide | (simp; done) | (simp; omega) | (simp [*]; done)) (Run.not rfl) rfl ?_
        refine Ops.r (Run.pickF rfl rfl (by first | rfl | assumption | exact decide_eq_true (by assumption) | exact decide_eq_false (by assumption) | decide | (simp; done) | (simp; omega) | (simp [*]; done))) rfl ?_
        refine Ops.r (Run.asg rfl) rfl ?_
        refine Ops.nil ?_
        refine thenQ_n ⟨(.cons (congrArg (fun b => some (Value.bool b)) (Eq.symm (by simp [*]))) (.cons rfl (.cons rfl (.cons rfl .nil)))), (by first | exact hf5.trans hf6 (by simp) | exact hf5)⟩
    · skip
      refine Ops.r (Run.not rfl) rfl ?_
      refine Ops.r (Run.mv rfl) rfl ?_
      refine Ops.sk rfl (by first | rfl | assumption | exact decide_eq_true (by assumption) | exact decide_eq_false (by assumption) | decide | (simp; done) | (simp; omega) | (simp [*]; done)) rfl ?_
      refine Ops.sk rfl (by first | rfl | assumption | exact decide_eq_true (by assumption) | exact decide_eq_false (by assumption) | decide | (simp; done) | (simp; omega) | (simp [*]; done)) rfl ?_
      refine Ops.sk rfl (by first | rfl | assumption | exact decide_eq_true (by assumption) | exact decide_eq_false (by assumption) | decide | (simp; done) | (simp; omega) | (simp [*]; done)) rfl ?_
      refine Ops.r (Run.pickT rfl rfl (by first | rfl | assumption | exact decide_eq_true (by assumption) | exact decide_eq_false (by assumption) | decide | (simp; done) | (simp; omega) | (simp [*]; done))) rfl ?_
      refine Ops.r (Run.asg rfl) rfl ?_
      refine Ops.nil ?_
      refine thenQ_n ⟨(.cons (congrArg (fun b => some (Value.bool b)) (Eq.symm (by simp [*]))) (.cons rfl (.cons rfl (.cons rfl .nil)))), (by first | exact hf5.trans hf6 (by simp) | exact hf5)⟩
  · intro Γ w7 hΓ hf7
    refine thenQ_n (VC.sub _ hΓ ?_)
    refine VC.condD rfl (fun hc1 => ?_) (fun hc1 => ?_)
    · skip
      have hb47 := hb4.frm hf7 (by simp)
      have hfr7 := hf4.trans hf7 (by simp)
      refine VC.seq ?_
      refine VC.region ?_
      refine Ops.r (Run.build evs.nil zero24 (places24).choose_spec.1 (places24).choose_spec.2 rfl) rfl ?_
      refine Ops.st (Acts.storeA rfl rfl Try.sizeOf24 hb47 rfl (BVc_one 0 0 none 0 0)) ?_
      rintro w8 ⟨hbz, hfz, hsz⟩
      refine Ops.r (v := .int .i64 ((0 : Nat) : Int)) (Run.asg rfl) rfl ?_
      refine Ops.r (v := .int .i64 ((1 : Nat) : Int)) (Run.asg rfl) rfl ?_
      refine Ops.nil ?_
      refine thenQ_n ?_
      refine VC.sub [(4, _), (5, _), (6, _)] (.cons rfl (.cons rfl (.cons rfl .nil))) ?_
      refine VC.ret ?_
      refine blockQ_r (thenQ_r (endR ?_))
      refine res_cellA rfl Try.isAgg24 Try.sizeOf24 (fun j v hj => hbz.cells j v hj) (by first | rfl | (simp; done)) ?_
      refine res_tmp rfl ?_
      refine res_tmp rfl ?_
      refine res_nil ?_
      exact ⟨hfr7.own hfz (fun y hy => by simp at hy; omega), 0, 0, none, 0, [], 1, rfl, IsBx.err (by decide) (by unfold appendB; rw [if_pos hc1]), OwM.nil _⟩
    · skip
      have hb47 := hb4.frm hf7 (by simp)
      have hb27 := hb24.frm hf7 (by simp)
      have hb37 := hb34.frm hf7 (by simp)
      have hfr7 := hf4.trans hf7 (by simp)
      have hmay : mayB ⟨v, n, Ms l⟩ := Classical.not_not.1 fun h => hc1 (.inl h)
      have hl128 : l.length ≤ 128 := (may_at hmay).1.2.2.2.2
      have hnx := (may_at hmay).1
      refine VC.seq ?_
      refine VC.region ?_
      refine Ops.r (Run.fieldAddr rfl Try.underlying24 rfl Try.sizeOf22 (by decide)) rfl ?_
      refine Ops.r (Run.load rfl Try.isAgg22 (hb27.cell 2)) rfl ?_
      refine Ops.r (Run.lenS rfl Try.underlying22) rfl ?_
      refine Ops.r (Run.bin rfl rfl (Bin.eqlN _ 128)) rfl ?_
      refine Ops.r (Run.asg rfl) rfl ?_
      refine Ops.nil ?_
      refine thenQ_n ?_
      refine VC.sub [(2, _), (3, _), (4, _), (17, _)] (.cons rfl (.cons rfl (.cons rfl (.cons rfl .nil)))) ?_
      refine VC.condD rfl (fun hc2 => ?_) (fun hc2 => ?_)
      · skip
        refine VC.seq ?_
        refine VC.region ?_
        refine Ops.r (Run.build evs.nil zero24 (places24).choose_spec.1 (places24).choose_spec.2 rfl) rfl ?_
        refine Ops.st (Acts.storeA rfl rfl Try.sizeOf24 hb47 rfl (BVc_one 0 0 none 0 0)) ?_
        rintro w8 ⟨hbz, hfz, hsz⟩
        refine Ops.r (v := .int .i64 ((0 : Nat) : Int)) (Run.asg rfl) rfl ?_
        refine Ops.r (v := .int .i64 ((5 : Nat) : Int)) (Run.asg rfl) rfl ?_
        refine Ops.nil ?_
        refine thenQ_n ?_
        refine VC.sub [(4, _), (5, _), (6, _)] (.cons rfl (.cons rfl (.cons rfl .nil))) ?_
        refine VC.ret ?_
        refine blockQ_r (thenQ_r (endR ?_))
        refine res_cellA rfl Try.isAgg24 Try.sizeOf24 (fun j v hj => hbz.cells j v hj) (by first | rfl | (simp; done)) ?_
        refine res_tmp rfl ?_
        refine res_tmp rfl ?_
        refine res_nil ?_
        refine ⟨hfr7.own hfz (fun y hy => by simp at hy; omega), 0, 0, none, 0, [], 5, rfl, IsBx.err (by decide) ?_, OwM.nil _⟩
        unfold appendB
        rw [if_neg hc1, if_pos (by simp [Ms]; omega)]
      · skip
        refine VC.seq ?_
        refine VC.region ?_
        refine Ops.r (Run.fieldAddr rfl Try.underlying24 rfl Try.sizeOf3 (by decide)) rfl ?_
        refine Ops.r (Run.load rfl Try.isAgg3 (hb27.cell 1)) rfl ?_
        refine Ops.r (Run.bin rfl rfl (Bin.gtr _ 2147483647)) rfl ?_
        refine Ops.r (Run.asg rfl) rfl ?_
        refine Ops.nil ?_
        refine thenQ_n ?_
        refine VC.sub [(2, _), (3, _), (4, _), (23, _)] (.cons rfl (.cons rfl (.cons rfl (.cons rfl .nil)))) ?_
        refine VC.condD rfl (fun hc3 => ?_) (fun hc3 => ?_)
        · skip
          refine VC.seq ?_
          refine VC.region ?_
          refine Ops.r (Run.build evs.nil zero24 (places24).choose_spec.1 (places24).choose_spec.2 rfl) rfl ?_
          refine Ops.st (Acts.storeA rfl rfl Try.sizeOf24 hb47 rfl (BVc_one 0 0 none 0 0)) ?_
          rintro w8 ⟨hbz, hfz, hsz⟩
          refine Ops.r (v := .int .i64 ((0 : Nat) : Int)) (Run.asg rfl) rfl ?_
          refine Ops.r (v := .int .i64 ((19 : Nat) : Int)) (Run.asg rfl) rfl ?_
          refine Ops.nil ?_
          refine thenQ_n ?_
          refine VC.sub [(4, _), (5, _), (6, _)] (.cons rfl (.cons rfl (.cons rfl .nil))) ?_
          refine VC.ret ?_
          refine blockQ_r (thenQ_r (endR ?_))
          refine res_cellA rfl Try.isAgg24 Try.sizeOf24 (fun j v hj => hbz.cells j v hj) (by first | rfl | (simp; done)) ?_
          refine res_tmp rfl ?_
          refine res_tmp rfl ?_
          refine res_nil ?_
          refine ⟨hfr7.own hfz (fun y hy => by simp at hy; omega), 0, 0, none, 0, [], 19, rfl, IsBx.err (by decide) ?_, OwM.nil _⟩
          unfold appendB
          rw [if_neg hc1, if_neg (by simp [Ms]; omega), if_pos hc3]
        · skip
          refine VC.skip ?_
          refine blockQ_n (thenQ_n ?_)
          refine VC.sub [(2, _), (3, _), (4, _)] (.cons rfl (.cons rfl (.cons rfl .nil))) ?_
          refine VC.seq ?_
          refine VC.region ?_
          refine Ops.r (Run.fieldAddr rfl Try.underlying24 rfl Try.sizeOf3 (by decide)) rfl ?_
          refine Ops.r (Run.load rfl Try.isAgg3 (hb27.cell 1)) rfl ?_
          refine Ops.r (Run.fieldAddr rfl Try.underlying45 rfl Try.sizeOf3 (by decide)) rfl ?_
          refine Ops.st (Acts.store rfl rfl Try.sizeOf3 hb37 rfl rfl) ?_
          rintro w8 ⟨hb38, hf8, hs8⟩
          have hb38 : Blk w8 g3 45 (⟨{ x.m with uid := n }, x.A, x.c⟩ : Mc).cells.toArray := hb38
          have hb28 := hb27.frm hf8 (by simp; omega)
          have hb48 := hb47.frm hf8 (by simp; omega)
          have hfr8 := hfr7.own hf8 (fun y hy => by simp at hy; omega)
          have hx8 : (⟨{ x.m with uid := n }, x.A, x.c⟩ : Mc).At w8 := ⟨(hx.frm hfr8 (by simp)).rd, hx.n, hx.q⟩
          refine Ops.nil ?_
          refine thenQ_n ?_
          refine VC.sub [(2, _), (3, _), (4, _)] (.cons rfl (.cons rfl (.cons rfl .nil))) ?_
          refine VC.seq ?_
          refine VC.heldL 8 (fun W => Frm [] w8 W) (by kernel_rfl) ?_
          have hS : Frm [] w8 w8.drew := (Frm.refl _ _).drew
          refine HOps.take 0 rfl (by kernel_rfl) (by kernel_rfl) (by kernel_rfl) hS (fun w0 hw0 => Run.fieldAddr rfl Try.underlying24 rfl Try.sizeOf22 (by decide)) trivial rfl rfl ?_
          refine HOps.take 1 rfl (by kernel_rfl) (by kernel_rfl) (by kernel_rfl) hS (fun w0 hw0 => Run.load rfl Try.isAgg22 ((hb28.frm hw0 (by simp)).cell 2)) trivial rfl rfl ?_
          refine HOps.take 3 rfl (by kernel_rfl) (by kernel_rfl) (by kernel_rfl) hS (fun w0 hw0 => Run.loadA rfl Try.isAgg45 Try.sizeOf45 (fun j v hj => (hb38.frm hw0 (by simp)).cells j v hj) (by first | rfl | (simp; done))) trivial rfl rfl ?_
          refine HOps.cl 2 rfl (by kernel_rfl) (Enters.fn (evs.cons rfl evs.nil) Try.call30) (all_spec A c l _ (hl.frm (hfr8.trans hS (by simp))) (by omega)) trivial rfl rfl ?_
          rintro e w9 ⟨B, d, l', rfl, hM, hms, hge, hf9⟩
          have hll : l'.length = l.length := by have := congrArg List.length hms; simpa [Ms] using this
          have hS9 := hS.trans hf9 (by simp)
          refine ⟨_, rfl, hS9, ?_⟩
          have hS := hS9
          refine HOps.cl 4 rfl (by kernel_rfl) (Enters.fn (evs.cons rfl evs.nil) Try.call37) (own_spec ⟨{ x.m with uid := n }, x.A, x.c⟩ _ (hx8.frm hS (by simp))) trivial rfl rfl ?_
          rintro e w10 ⟨C, dc, rfl, hownC, hgeC, hf10⟩
          have hS10 := hS.trans hf10 (by simp)
          refine ⟨_, rfl, hS10, ?_⟩
          have hS := hS10
          have hM10 := hM.frm hf10
          refine HOps.m 5 rfl (by kernel_rfl) (Does.buildS1 rfl Try.underlying22 Try.sizeOf45 zero45 (by decide) (by decide) rfl rfl) trivial rfl rfl ?_
          rintro _ w11 ⟨rfl, hF11⟩
          have hS11 := hS.trans hF11.frm (by simp)
          refine ⟨hS11, ?_⟩
          have hS := hS11
          have hM11 := hM10.frm hF11.frm
          have hownC11 := hownC.frm hF11.frm (by simp)
          have hgB : ∀ b ∈ ob B, w8.heap.size ≤ b := fun b hb => Nat.le_trans (by exact (show Frm [] w8 w8.drew from (Frm.refl _ _).drew).size) (hge b hb)
          refine HOps.m 6 rfl (by kernel_rfl) (Does.app rfl rfl Try.underlying22 (info45) rfl (by decide) hM11.own (hrdM (x := ⟨{ x.m with uid := n }, C, dc⟩) hF11) (flat_one Mc.cells Mc.cells_one _) (by omega) (by omega)) trivial rfl rfl ?_
          rintro _ w12 ⟨A12, c12, rfl, hown12, hf12, hob12⟩
          rw [← MC_append] at hown12
          have hM12 := hM11.put (x := ⟨{ x.m with uid := n }, C, dc⟩) (by simpa using hown12) hf12 hownC11 ⟨hx.n, hx.q⟩
          have hS12 := hS.own hf12 hgB
          refine ⟨hS12, ?_⟩
          have hS := hS12
          refine HOps.r1 7 rfl (by kernel_rfl) hS (Run.fieldAddr rfl Try.underlying24 rfl Try.sizeOf22 (by decide)) trivial rfl rfl ?_
          refine HOps.stL rfl (by kernel_rfl) (Acts.store rfl rfl Try.sizeOf22 (hb28.frm hS (by simp)) rfl rfl) trivial rfl ?_
          rintro w13 ⟨hb13, hf13, hs13⟩
          have hb413 := (hb48.frm hS (by simp)).frm hf13 (by simp; omega)
          have hb313 := (hb38.frm hS (by simp)).frm hf13 (by simp; omega)
          have hM13 := hM12.blk hf13 (hb28.frm hS (by simp)) (by decide) (by decide)
          have hfr13 := (hfr8.trans hS (by simp)).own hf13 (fun y hy => by simp at hy; omega)
          have hb13 : Blk w13 g2 24 (BVc v n A12 (l'.length + 1) c12).toArray := hb13
          refine HOps.done (by kernel_rfl) ?_
          refine thenQ_n ?_
          refine VC.sub [(2, _), (3, _), (4, _)] (.cons rfl (.cons rfl (.cons rfl .nil))) ?_
          refine VC.seq ?_
          refine VC.region ?_
          refine Ops.r (Run.fieldAddr rfl Try.underlying24 rfl Try.sizeOf3 (by decide)) rfl ?_
          refine Ops.r (Run.load rfl Try.isAgg3 (hb13.cell 1)) rfl ?_
          refine Ops.r (Run.bin rfl rfl (Bin.addZ _ 1 (by omega) (by omega))) rfl ?_
          refine Ops.r (Run.fieldAddr rfl Try.underlying24 rfl Try.sizeOf3 (by decide)) rfl ?_
          refine Ops.st (Acts.store rfl rfl Try.sizeOf3 hb13 rfl rfl) ?_
          rintro w14 ⟨hb14, hf14, hs14⟩
          have hb414 := hb413.frm hf14 (by simp; omega)
          have hb314 := hb313.frm hf14 (by simp; omega)
          have hM14 := hM13.blk hf14 hb13 (by decide) (by decide)
          have hfr14 := hfr13.own hf14 (fun y hy => by simp at hy; omega)
          have hb14 : Blk w14 g2 24 (BVc v (n + 1) A12 (l'.length + 1) c12).toArray := hb14
          refine Ops.nil ?_
          refine thenQ_n ?_
          refine VC.sub [(2, _), (3, _), (4, _)] (.cons rfl (.cons rfl (.cons rfl .nil))) ?_
          refine VC.seq ?_
          refine VC.held (fun W => Frm [g4] w14 W) (by kernel_rfl) ?_
          have hS : Frm [g4] w14 w14.drew := (Frm.refl _ _).drew
          refine HOps.take 0 rfl (by kernel_rfl) (by kernel_rfl) (by kernel_rfl) hS (fun w0 hw0 => Run.loadA rfl Try.isAgg24 Try.sizeOf24 (fun j v hj => (hb14.frm hw0 (by simp; omega)).cells j v hj) (by first | rfl | (simp; done))) trivial rfl rfl ?_
          refine HOps.take 1 rfl (by kernel_rfl) (by kernel_rfl) (by kernel_rfl) hS (fun w0 hw0 => Run.fieldAddr rfl Try.underlying45 rfl Try.sizeOf3 (by decide)) trivial rfl rfl ?_
          refine HOps.take 2 rfl (by kernel_rfl) (by kernel_rfl) (by kernel_rfl) hS (fun w0 hw0 => Run.load rfl Try.isAgg3 ((hb314.frm hw0 (by simp; omega)).cell 0)) trivial rfl rfl ?_
          refine HOps.st 3 rfl (by kernel_rfl) (Acts.storeA rfl rfl Try.sizeOf24 (hb414.drawn (Drawn.drew _)) rfl (BVc_one _ _ _ _ _)) trivial rfl ?_
          rintro w15 ⟨hb15, hf15, hs15⟩
          have hS15 : Frm [g4] w14 w15 := hS.trans hf15 (by simp)
          refine ⟨hS15, ?_⟩
          have hS := hS15
          have hM15 := (hM14.frm (Drawn.drew _).frm).blk hf15 (hb414.drawn (Drawn.drew _)) (by decide) (by decide)
          have hfr15 := (hfr14.drawn (Drawn.drew _)).own hf15 (fun y hy => by simp at hy; omega)
          refine HOps.take 4 rfl (by kernel_rfl) (by kernel_rfl) (by kernel_rfl) hS (fun w0 hw0 => Run.asg rfl) trivial rfl rfl ?_
          refine HOps.take (v := .int .i64 ((0 : Nat) : Int)) 5 rfl (by kernel_rfl) (by kernel_rfl) (by kernel_rfl) hS (fun w0 hw0 => Run.asg rfl) trivial rfl rfl ?_
          refine HOps.done (by kernel_rfl) ?_
          refine thenQ_n ?_
          refine VC.sub [(4, _), (5, _), (6, _)] (.cons rfl (.cons rfl (.cons rfl .nil))) ?_
          refine VC.ret ?_
          refine endR ?_
          refine res_cellA rfl Try.isAgg24 Try.sizeOf24 (fun j v hj => hb15.cells j v hj) (by first | rfl | (simp; done)) ?_
          refine res_tmp rfl ?_
          refine res_tmp rfl ?_
          refine res_nil ?_
          refine ⟨hfr15, v, n + 1, A12, c12, l' ++ [⟨{ x.m with uid := n }, C, dc⟩], 0, by rw [List.length_append]; rfl, ⟨hM15.rdm, .inl ⟨rfl, ?_⟩⟩, hM15⟩
          unfold appendB
          rw [if_neg hc1, if_neg (by simp [Ms]; omega), if_neg hc3]
          simp only [Ms, List.map_append, List.map_cons, List.map_nil]
          rw [show l'.map Mc.m = l.map Mc.m from hms]

end Go.Proofs.Ytmfglifjnoilnaa

/-
  The walks of box: what goes; functions of slices of messages.
-/
namespace Go.Proofs.Ytmfglifjnoilnaa
open Go.RowKit Go.Sort

theorem containsI_spec (A : Option Addr) (c : Nat) (zs : List Int) (x : Int) (w : World) (hz : Rd w 1 A zs.length (IB zs)) (h1 : zs.length ≤ 9223372036854775807) :
    Calls Try.prog 47 #[.slice A zs.length c, .int .i64 x] w fun e w' => e = .returned (.bool (decide (x ∈ zs))) ∧ w = w' := by
  by_cases h0 : zs.length = 0
  · have e1 : zs = [] := List.eq_nil_of_length_eq_zero h0
    subst e1
    refine (Try.slices_Contains_int_empty A c x w).mono fun e w' ⟨he, hw⟩ => ⟨by simpa using he, hw.symm⟩
  · obtain ⟨b1, o1, rfl, _, hc1⟩ := Rd.plain hz (by omega)
    refine (Try.slices_Contains_int b1 o1 zs.length c zs x w (Nat.le_refl _) h1 (fun j hj => ?_)).mono fun e w' ⟨he, hw⟩ => ⟨?_, hw.symm⟩
    · exact hc1 j _ (by simp [IB, List.getElem?_eq_getElem hj, List.getD])
    · rw [he, List.take_of_length_le (Nat.le_refl _)]
      congr 2
      rw [Bool.eq_iff_iff]
      simp

set_option maxRecDepth 100000 in
theorem goes_spec (x : Mc) (every : Bool) (O : Option Addr) (co : Nat) (only : List Int) (w : World) (hx : x.At w) (ho : Rd w 1 O only.length (IB only)) (hon : only.length ≤ 1000000) : Calls Try.prog 32 #[.agg x.cells.toArray, .bool every, .slice O only.length co] w fun e w' => e = .returned (.bool (decide (goesB every only x.m))) ∧ Frm [] w w' := by
  refine VC.calls (nt := 19) (res := #[.tmp 6]) Try.func32 rfl Try.ntmps32 Try.results32 rfl ?_
  refine VC.seq ?_
  refine VC.region ?_
  refine Ops.m (Does.box rfl) rfl ?_
  rintro _ w1 ⟨rfl, hF1⟩
  have hb1 := hF1.blk
  have hf1 := hF1.frm
  generalize hg1 : w.heap.size = g1 at *
  refine Ops.r (Run.asg rfl) rfl ?_
  refine Ops.nil ?_
  refine thenQ_n ?_
  refine VC.sub [(1, _), (2, _), (3, _)] (.cons rfl (.cons rfl (.cons rfl .nil))) ?_
  refine VC.seq ?_
  refine VC.splitR [] (Frm [] w) 6 (.bool (decide (goesB every only x.m))) ?_ ?_
  · refine VC.region ?_
    refine Ops.r (Run.fieldAddr rfl Try.underlying45 rfl Try.sizeOf43 (by decide)) rfl ?_
    refine Ops.r (Run.load rfl Try.isAgg43 (hb1.cell 5)) rfl ?_
    refine Ops.cl (Enters.fn (evs.cons rfl (evs.cons rfl evs.nil)) Try.call45) (fhas_spec x.A x.c x.m.flags deletedF _ (by have := hx.n; omega) (by decide) (hx.frm hf1 (by simp)).rd) rfl ?_
    rintro e w2 ⟨rfl, hf2⟩
    refine ⟨_, rfl, ?_⟩
    by_cases hs9 : hasF x.m.flags deletedF
    · skip
      refine Ops.r (Run.mv rfl) rfl ?_
      refine Ops.rg rfl (by first | rfl | assumption | exact decide_eq_true (by assumption) | exact decide_eq_false (by assumption) | decide | (simp; done) | (simp; omega) | (simp [*]; done)) (Run.mv rfl) rfl ?_
      refine Ops.rg rfl (by first | rfl | assumption | exact decide_eq_true (by assumption) | exact decide_eq_false (by assumption) | decide | (simp; done) | (simp; omega) | (simp [*]; done)) (Run.mv rfl) rfl ?_
      by_cases hs12 : every = true
      · skip
        refine Ops.sk rfl (by first | rfl | assumption | exact decide_eq_true (by assumption) | exact decide_eq_false (by assumption) | decide | (simp; done) | (simp; omega) | (simp [*]; done)) rfl ?_
        refine Ops.sk rfl (by first | rfl | assumption | exact decide_eq_true (by assumption) | exact decide_eq_false (by assumption) | decide | (simp; done) | (simp; omega) | (simp [*]; done)) rfl ?_
        refine Ops.sk rfl (by first | rfl | assumption | exact decide_eq_true (by assumption) | exact decide_eq_false (by assumption) | decide | (simp; done) | (simp; omega) | (simp [*]; done)) rfl ?_
        refine Ops.sk rfl (by first | rfl | assumption | exact decide_eq_true (by assumption) | exact decide_eq_false (by assumption) | decide | (simp; done) | (simp; omega) | (simp [*]; done)) rfl ?_
        refine Ops.rg rfl (by first | rfl | assumption | exact decide_eq_true (by assumption) | exact decide_eq_false (by assumption) | decide | (simp; done) | (simp; omega) | (simp [*]; done)) (Run.pickT rfl rfl (by first | rfl | assumption | exact decide_eq_true (by assumption) | exact decide_eq_false (by assumption) | decide | (simp; done) | (simp; omega) | (simp [*]; done))) rfl ?_
        refine Ops.r (Run.pickT rfl rfl (by first | rfl | assumption | exact decide_eq_true (by assumption) | exact decide_eq_false (by assumption) | decide | (simp; done) | (simp; omega) | (simp [*]; done))) rfl ?_
        refine Ops.r (Run.asg rfl) rfl ?_
        refine Ops.nil ?_
        refine thenQ_n ⟨(.cons (congrArg (fun b => some (Value.bool b)) (Eq.symm (by unfold goesB; simp_all))) .nil), (hf1.trans hf2 (by simp))⟩
      · skip
        refine Ops.rg rfl (by first | rfl | assumption | exact decide_eq_true (by assumption) | exact decide_eq_false (by assumption) | decide | (simp; done) | (simp; omega) | (simp [*]; done)) (Run.mv rfl) rfl ?_
        refine Ops.rg rfl (by first | rfl | assumption | exact decide_eq_true (by assumption) | exact decide_eq_false (by assumption) | decide | (simp; done) | (simp; omega) | (simp [*]; done)) (Run.fieldAddr rfl Try.underlying45 rfl Try.sizeOf3 (by decide)) rfl ?_
        refine Ops.rg rfl (by first | rfl | assumption | exact decide_eq_true (by assumption) | exact decide_eq_false (by assumption) | decide | (simp; done) | (simp; omega) | (simp [*]; done)) (Run.load rfl Try.isAgg3 ((hb1.frm hf2 (by simp)).cell 0)) rfl ?_
        refine Ops.clg rfl (by first | rfl | assumption | exact decide_eq_true (by assumption) | exact decide_eq_false (by assumption) | decide | (simp; done) | (simp; omega) | (simp [*]; done)) (Enters.fn (evs.cons rfl (evs.cons rfl evs.nil)) Try.call47) (containsI_spec O co only x.m.uid _ (ho.frm (hf1.trans hf2 (by simp)) (by simp)) (by omega)) rfl ?_
        rintro e _ ⟨rfl, rfl⟩
        refine ⟨_, rfl, ?_⟩
        by_cases hs16 : x.m.uid ∈ only
        · skip
          refine Ops.rg rfl (by first | rfl | assumption | exact decide_eq_true (by assumption) | exact decide_eq_false (by assumption) | decide | (simp; done) | (simp; omega) | (simp [*]; done)) (Run.pickF rfl rfl (by first | rfl | assumption | exact decide_eq_true (by assumption) | exact decide_eq_false (by assumption) | decide | (simp; done) | (simp; omega) | (simp [*]; done))) rfl ?_
          refine Ops.r (Run.pickT rfl rfl (by first | rfl | assumption | exact decide_eq_true (by assumption) | exact decide_eq_false (by assumption) | decide | (simp; done) | (simp; omega) | (simp [*]; done))) rfl ?_
          refine Ops.r (Run.asg rfl) rfl ?_
          refine Ops.nil ?_
          refine thenQ_n ⟨(.cons (congrArg (fun b => some (Value.bool b)) (Eq.symm (by unfold goesB; simp_all))) .nil), (hf1.trans hf2 (by simp))⟩
        · skip
          refine Ops.rg rfl (by first | rfl | assumption | exact decide_eq_true (by assumption) | exact decide_eq_false (by assumption) | decide | (simp; done) | (simp; omega) | (simp [*]; done)) (Run.pickF rfl rfl (by first | rfl | assumption | exact decide_eq_true (by assumption) | exact decide_eq_false (by assumption) | decide | (simp; done) | (simp; omega) | (simp [*]; done))) rfl ?_
          refine Ops.r (Run.pickT rfl rfl (by first | rfl | assumption | exact decide_eq_true (by assumption) | exact decide_eq_false (by assumption) | decide | (simp; done) | (simp; omega) | (simp [*]; done))) rfl ?_
          refine Ops.r (Run.asg rfl) rfl ?_
          refine Ops.nil ?_
          refine thenQ_n ⟨(.cons (congrArg (fun b => some (Value.bool b)) (Eq.symm (by unfold goesB; simp_all))) .nil), (hf1.trans hf2 (by simp))⟩
    · skip
      refine Ops.r (Run.mv rfl) rfl ?_
      refine Ops.sk rfl (by first | rfl | assumption | exact decide_eq_true (by assumption) | exact decide_eq_false (by assumption) | decide | (simp; done) | (simp; omega) | (simp [*]; done)) rfl ?_
      refine Ops.sk rfl (by first | rfl | assumption | exact decide_eq_true (by assumption) | exact decide_eq_false (by assumption) | decide | (simp; done) | (simp; omega) | (simp [*]; done)) rfl ?_
      refine Ops.skU rfl rfl ?_
      refine Ops.skU rfl rfl ?_
      refine Ops.skU rfl rfl ?_
      refine Ops.skU rfl rfl ?_
      refine Ops.sk rfl (by first | rfl | assumption | exact decide_eq_true (by assumption) | exact decide_eq_false (by assumption) | decide | (simp; done) | (simp; omega) | (simp [*]; done)) rfl ?_
      refine Ops.r (Run.pickF rfl rfl (by first | rfl | assumption | exact decide_eq_true (by assumption) | exact decide_eq_false (by assumption) | decide | (simp; done) | (simp; omega) | (simp [*]; done))) rfl ?_
      refine Ops.r (Run.asg rfl) rfl ?_
      refine Ops.nil ?_
      refine thenQ_n ⟨(.cons (congrArg (fun b => some (Value.bool b)) (Eq.symm (by unfold goesB; simp_all))) .nil), (hf1.trans hf2 (by simp))⟩
  · intro Γ wR hΓ hR
    refine thenQ_n (VC.sub _ hΓ ?_)
    refine VC.ret ?_
    refine end1 rfl ?_
    exact ⟨rfl, hR⟩

/-- What a test of messages answers: whatever world comes. -/
def TestM (S : List Nat) (w : World) (f : FuncId) (us : List Value) (p : MsgP → Bool) : Prop :=
  (∀ args w, (callFunc f args).run Try.prog w = .ok (.enter f args) w) ∧ ∀ W (x : Mc), Frm S w W → x.At W → Calls Try.prog f (Value.agg x.cells.toArray :: us).toArray W fun e w' => e = .returned (.bool (p x.m)) ∧ Frm [] W w'
theorem cutA0 (A : Option Addr) (cap sz : Nat) : cutA A cap 0 sz = A := by
  unfold cutA
  split
  · rfl
  · cases A with
    | none => rfl
    | some a => simp [Addr.add]

set_option maxRecDepth 100000 in
theorem indexM_spec (f : FuncId) (us : List Value) (p : MsgP → Bool) (A : Option Addr) (c : Nat) (l : List Mc) (w : World) (hl : RdM w A l) (hn : l.length ≤ 1000000) (S : List Nat) (hp : TestM S w f us p) :
    Calls Try.prog 46 #[.slice A l.length c, .func (.func f) #[] us.toArray] w fun e w' => Frm [] w w' ∧ ∃ k, (∀ j (hj : j < l.length), j < k → p (l[j]).m = false) ∧ ((k = l.length ∧ e = .returned (.int .i64 (-1))) ∨ (∃ hk : k < l.length, p (l[k]).m = true ∧ e = .returned (.int .i64 ((k : Nat) : Int)))) := by
  refine VC.calls (nt := 19) (res := #[.tmp 4]) Try.func46 rfl Try.ntmps46 Try.results46 rfl ?_
  refine VC.seq ?_
  refine VC.region ?_
  refine Ops.r (v := .int .i64 ((0 : Nat) : Int)) (Run.asg rfl) rfl ?_
  refine Ops.nil ?_
  refine thenQ_n ?_
  refine VC.sub [(0, _), (1, _)] (.cons rfl (.cons rfl .nil)) ?_
  refine VC.seq ?_
  refine VC.seq ?_
  refine VC.region ?_
  refine Ops.r (Run.mv rfl) rfl ?_
  refine Ops.r (Run.lenS rfl Try.underlying22) rfl ?_
  refine Ops.r (v := .int .i64 ((0 : Nat) : Int)) (Run.mv rfl) rfl ?_
  refine Ops.nil ?_
  refine thenQ_n ?_
  refine VC.sub [(0, _), (1, _), (7, _), (8, _)] (.cons rfl (.cons rfl (.cons rfl (.cons rfl .nil)))) ?_
  refine VC.block ?_
  refine VC.loop (σ := Nat) (fun s => [(0, .slice A l.length c), (1, .func (.func f) #[] us.toArray), (7, .int .i64 ((l.length : Nat) : Int)), (8, .int .i64 ((s : Nat) : Int))]) (fun s wr => s ≤ l.length ∧ Frm [] w wr ∧ ∀ j (hj : j < l.length), j < s → p (l[j]).m = false) (fun s => l.length - s) 0 (.cons rfl (.cons rfl (.cons rfl (.cons rfl .nil)))) ⟨by omega, Frm.refl _ _, by simp⟩ ?_
  rintro i wr ⟨hi, hfr, hf⟩
  refine VC.seq ?_
  refine VC.region ?_
  refine Ops.r (Run.bin rfl rfl (Bin.lssN _ _)) rfl ?_
  refine Ops.nil ?_
  refine thenQ_n ?_
  refine VC.seq ?_
  refine VC.condD rfl (fun hc1 => ?_) (fun hc1 => ?_)
  · skip
    obtain ⟨ad, rfl, hcell⟩ := (hl.frm hfr).elem hc1
    have hxa := (hl.frm hfr).fl (l[i]) (List.getElem_mem hc1)
    refine VC.skip ?_
    refine thenQ_n ?_
    refine VC.sub [(0, _), (1, _), (7, _), (8, _)] (.cons rfl (.cons rfl (.cons rfl (.cons rfl .nil)))) ?_
    refine VC.seq ?_
    refine VC.block ?_
    refine VC.seq ?_
    refine VC.region ?_
    refine Ops.r (Run.mv rfl) rfl ?_
    refine Ops.r (Run.asg rfl) rfl ?_
    refine Ops.nil ?_
    refine thenQ_n ?_
    refine VC.sub [(0, _), (1, _), (5, _), (7, _), (8, _)] (.cons rfl (.cons rfl (.cons rfl (.cons rfl (.cons rfl .nil))))) ?_
    refine VC.seq ?_
    refine VC.region ?_
    refine Ops.r (Run.mv rfl) rfl ?_
    refine Ops.r (Run.mv rfl) rfl ?_
    refine Ops.r (Run.mv rfl) rfl ?_
    refine Ops.r (Run.indexS i rfl rfl Try.underlying22 Try.sizeOf45 hc1) rfl ?_
    refine Ops.r (Run.loadA rfl Try.isAgg45 Try.sizeOf45 hcell (by first | rfl | (simp; done))) rfl ?_
    refine Ops.cl (Enters.dyn rfl (evs.cons rfl evs.nil) hp.1) (hp.2 _ (l[i]) (hfr.mono (by simp)) hxa) rfl ?_
    rintro e w2 ⟨rfl, hf2⟩
    refine ⟨_, rfl, ?_⟩
    have hfr2 := hfr.trans hf2 (by simp)
    refine Ops.nil ?_
    refine thenQ_n ?_
    refine VC.sub [(0, _), (1, _), (5, _), (7, _), (8, _), (16, _)] (.cons rfl (.cons rfl (.cons rfl (.cons rfl (.cons rfl (.cons rfl .nil)))))) ?_
    refine VC.condB rfl (fun hc2 => ?_) (fun hc2 => ?_)
    · skip
      refine VC.seq ?_
      refine VC.region ?_
      refine Ops.r (Run.mv rfl) rfl ?_
      refine Ops.r (Run.asg rfl) rfl ?_
      refine Ops.nil ?_
      refine thenQ_n ?_
      refine VC.sub [(4, _)] (.cons rfl .nil) ?_
      refine VC.ret ?_
      refine blockQ_r (thenQ_r (thenQ_r (blockQ_r (thenQ_r (end1 rfl ?_)))))
      exact ⟨hfr2, i, hf, .inr ⟨hc1, hc2, rfl⟩⟩
    · skip
      refine VC.skip ?_
      refine blockQ_n (thenQ_n ?_)
      refine VC.sub [(0, _), (1, _), (7, _), (8, _)] (.cons rfl (.cons rfl (.cons rfl (.cons rfl .nil)))) ?_
      refine VC.region ?_
      refine Ops.r (Run.bin rfl rfl (Bin.add_i64 _ 1 (by omega))) rfl ?_
      refine Ops.r (Run.mv rfl) rfl ?_
      refine Ops.nil ?_
      refine thenQ_n ⟨(i + 1), (.cons rfl (.cons rfl (.cons rfl (.cons rfl .nil)))), ?_, ?_⟩
      · skip
        refine ⟨hc1, hfr2, fun j hj hji => ?_⟩
        rcases Nat.lt_or_ge j i with h | h
        · exact hf j hj h
        · obtain rfl : j = i := by omega
          simpa using hc2
      · skip
        first | omega | (dsimp only; omega)
  · skip
    refine VC.exit ?_
    refine thenQ_x (thenQ_x (blockQ_x ?_))
    refine thenQ_n ?_
    refine VC.sub [] .nil ?_
    refine VC.seq ?_
    refine VC.region ?_
    refine Ops.r (v := .int .i64 (-1)) (Run.asg rfl) rfl ?_
    refine Ops.nil ?_
    refine thenQ_n ?_
    refine VC.ret ?_
    refine end1 rfl ?_
    exact ⟨hfr, i, hf, .inl ⟨by omega, rfl⟩⟩

end Go.Proofs.Ytmfglifjnoilnaa

/-
  The walk of box: messages thinned out.
-/
namespace Go.Proofs.Ytmfglifjnoilnaa
open Go.RowKit Go.Sort

theorem OwM.set {w w' : World} {A : Option Addr} {d i : Nat} {l : List Mc} {x : Mc} (h : OwM w A d l) (ho : Own w' 45 6 A l.length d (MC (l.set i x))) (k : Frm (ob A) w w') (hx : Own w 9 1 x.A x.m.flags.length x.c (SB x.m.flags)) (hf : x.m.flags.length ≤ 500000 ∧ ∀ q ∈ x.m.flags, q.length ≤ 1000000) : OwM w' A d (l.set i x) := by
  refine ⟨by rw [List.length_set]; exact ho, fun y hy => ?_, fun y hy => ?_⟩
  · rcases List.mem_or_eq_of_mem_set hy with h1 | h1
    · exact (h.fl y h1).frm k ((h.fl y h1).ne_own h.own (by decide))
    · subst h1; exact hx.frm k (hx.ne_own h.own (by decide))
  · rcases List.mem_or_eq_of_mem_set hy with h1 | h1
    · exact h.fit y h1
    · subst h1; exact hf
theorem thin_keep {q : Mc → Bool} {l cur : List Mc} {i j : Nat} (hj : j < l.length) (hlen : cur.length = l.length) (h1 : cur.take i = (l.take j).filter q) (h2 : cur.drop j = l.drop j) (hij : i < j) (hx : q l[j] = true) :
    (cur.set i l[j]).take (i + 1) = (l.take (j + 1)).filter q ∧ (cur.set i l[j]).drop (j + 1) = l.drop (j + 1) := by
  constructor
  · rw [List.take_add_one, List.take_add_one, List.take_set, List.set_eq_of_length_le (by simp; omega), h1, List.filter_append, List.getElem?_set_self (by omega), List.getElem?_eq_getElem hj]
    simp [hx]
  · rw [List.drop_set, if_pos (by omega)]
    have := congrArg (List.drop 1) h2
    simpa [List.drop_drop] using this
theorem thin_skip {q : Mc → Bool} {l cur : List Mc} {i j : Nat} (hj : j < l.length) (h1 : cur.take i = (l.take j).filter q) (h2 : cur.drop j = l.drop j) (hx : q l[j] = false) :
    cur.take i = (l.take (j + 1)).filter q ∧ cur.drop (j + 1) = l.drop (j + 1) := by
  constructor
  · rw [List.take_add_one, List.filter_append, ← h1, List.getElem?_eq_getElem hj]
    simp [hx]
  · have := congrArg (List.drop 1) h2
    simpa [List.drop_drop] using this
theorem thin_get {l cur : List Mc} {j : Nat} (hj : j < l.length) (hj' : j < cur.length) (h2 : cur.drop j = l.drop j) : cur[j] = l[j] := by
  have := congrArg List.head? h2
  simpa [List.head?_drop, List.getElem?_eq_getElem hj, List.getElem?_eq_getElem hj'] using this

set_option maxRecDepth 100000 in
theorem delM_spec (f : FuncId) (us : List Value) (p : MsgP → Bool) (B : Option Addr) (d : Nat) (l : List Mc) (w : World) (hl : OwM w B d l) (hn : l.length ≤ 1000000) (hp : TestM (ob B) w f us p) :
    Calls Try.prog 29 #[.slice B l.length d, .func (.func f) #[] us.toArray] w fun e w' => e = .returned (.slice B (l.filter fun x => !p x.m).length d) ∧ OwM w' B d (l.filter fun x => !p x.m) ∧ Frm (ob B) w w' := by
  refine VC.calls (nt := 42) (res := #[.tmp 4]) Try.func29 rfl Try.ntmps29 Try.results29 rfl ?_
  refine VC.seq ?_
  refine VC.region ?_
  refine Ops.r (Run.asg rfl) rfl ?_
  refine Ops.nil ?_
  refine thenQ_n ?_
  refine VC.sub [(0, _), (1, _)] (.cons rfl (.cons rfl .nil)) ?_
  refine VC.seq ?_
  refine VC.region ?_
  refine Ops.r (Run.mv rfl) rfl ?_
  refine Ops.r (Run.mv rfl) rfl ?_
  refine Ops.cl (Enters.fn (evs.cons rfl (evs.cons rfl evs.nil)) Try.call46) (indexM_spec f us p B d l _ hl.rdm hn (ob B) hp) rfl ?_
  rintro e w1 ⟨hf1, k, hk1, hk2⟩
  obtain ⟨z, rfl, hz⟩ : ∃ z : Int, e = .returned (.int .i64 z) ∧ ((z = -1 ∧ k = l.length) ∨ (z = ((k : Nat) : Int) ∧ ∃ hk : k < l.length, p (l[k]).m = true)) := by
    rcases hk2 with ⟨h1, h2⟩ | ⟨h1, h2, h3⟩
    · exact ⟨_, h2, .inl ⟨rfl, h1⟩⟩
    · exact ⟨_, h3, .inr ⟨rfl, h1, h2⟩⟩
  refine ⟨_, rfl, ?_⟩
  refine Ops.r (Run.asg rfl) rfl ?_
  refine Ops.nil ?_
  refine thenQ_n ?_
  refine VC.sub [(0, _), (1, _), (5, _)] (.cons rfl (.cons rfl (.cons rfl .nil))) ?_
  refine VC.seq ?_
  refine VC.seq ?_
  refine VC.region ?_
  refine Ops.r (Run.mv rfl) rfl ?_
  refine Ops.r (Run.bin rfl rfl (Bin.eql _ (-1))) rfl ?_
  refine Ops.nil ?_
  refine thenQ_n ?_
  refine VC.sub [(0, _), (1, _), (5, _), (12, _)] (.cons rfl (.cons rfl (.cons rfl (.cons rfl .nil)))) ?_
  refine VC.condD rfl (fun hc1 => ?_) (fun hc1 => ?_)
  · skip
    have hkl : k = l.length := by omega
    have hall : l.filter (fun x => !p x.m) = l := List.filter_eq_self.2 fun x hx => by
      obtain ⟨j, hj, rfl⟩ := List.getElem_of_mem hx
      simp [hk1 j hj (by omega)]
    refine VC.seq ?_
    refine VC.region ?_
    refine Ops.r (Run.mv rfl) rfl ?_
    refine Ops.r (Run.asg rfl) rfl ?_
    refine Ops.nil ?_
    refine thenQ_n ?_
    refine VC.sub [(4, _)] (.cons rfl .nil) ?_
    refine VC.ret ?_
    refine thenQ_r (end1 rfl ?_)
    rw [hall]
    exact ⟨rfl, hl.frm hf1, hf1.mono (by simp)⟩
  · skip
    obtain ⟨rfl, hkl, hkp⟩ : z = ((k : Nat) : Int) ∧ ∃ hk : k < l.length, p (l[k]).m = true := by
      rcases hz with ⟨h1, _⟩ | ⟨h1, h2⟩
      · exact absurd h1 hc1
      · exact ⟨h1, h2⟩
    obtain ⟨g, rfl⟩ : ∃ g, B = some ⟨g, 0, none⟩ := by
      rcases hl.own.cases with ⟨_, h0, _⟩ | ⟨g, _, h0, _⟩
      · omega
      · exact ⟨g, h0⟩
    have hob : ob (some (⟨g, 0, none⟩ : Addr)) = [g] := rfl
    have hgw := hl.own.lt g (by simp [ob])
    have hled := hl.own.le
    refine VC.skip ?_
    refine thenQ_n ?_
    refine VC.sub [(0, _), (1, _), (5, _)] (.cons rfl (.cons rfl (.cons rfl .nil))) ?_
    refine VC.seq ?_
    refine VC.seq ?_
    refine VC.region ?_
    refine Ops.r (Run.mv rfl) rfl ?_
    refine Ops.r (Run.bin rfl rfl (Bin.addZ _ 1 (by omega) (by omega))) rfl ?_
    refine Ops.r (Run.asg rfl) rfl ?_
    refine Ops.nil ?_
    refine thenQ_n ?_
    refine VC.sub [(0, _), (1, _), (5, _), (6, _)] (.cons rfl (.cons rfl (.cons rfl (.cons rfl .nil)))) ?_
    refine VC.block ?_
    refine VC.loop (σ := Nat × Nat × List Mc) (fun s => [(0, .slice (some ⟨g, 0, none⟩) l.length d), (1, .func (.func f) #[] us.toArray), (5, .int .i64 ((s.1 : Nat) : Int)), (6, .int .i64 ((s.2.1 : Nat) : Int))]) (fun s wr => s.1 < s.2.1 ∧ s.2.1 ≤ l.length ∧ s.2.2.length = l.length ∧ OwM wr (some ⟨g, 0, none⟩) d s.2.2 ∧ s.2.2.take s.1 = (l.take s.2.1).filter (fun x => !p x.m) ∧ s.2.2.drop s.2.1 = l.drop s.2.1 ∧ Frm [g] w wr) (fun s => l.length - s.2.1) (k, k + 1, l) (.cons rfl (.cons rfl (.cons rfl (.cons rfl .nil)))) ⟨by dsimp only; omega, hkl, rfl, hl.frm hf1, by
      dsimp only
      rw [List.take_add_one, List.filter_append, List.getElem?_eq_getElem hkl]
      rw [List.filter_eq_self.2 (fun x hx => by
        obtain ⟨j, hj, rfl⟩ := List.getElem_of_mem hx
        have hj2 : j < k := by simpa [Nat.min_eq_left (Nat.le_of_lt hkl)] using hj
        simp [hk1 j (by omega) hj2])]
      simp [hkp], rfl, hf1.mono (by simp)⟩ ?_
    rintro ⟨i, j, cur⟩ wr ⟨hij, hjl, hlen, hown, ht1, ht2, hfr⟩
    dsimp only at hij hjl hlen hown ht1 ht2 ⊢
    refine VC.seq ?_
    refine VC.seq ?_
    refine VC.region ?_
    refine Ops.r (Run.mv rfl) rfl ?_
    refine Ops.r (Run.mv rfl) rfl ?_
    refine Ops.r (Run.lenS rfl Try.underlying22) rfl ?_
    refine Ops.r (Run.bin rfl rfl (Bin.lssN _ _)) rfl ?_
    refine Ops.nil ?_
    refine thenQ_n ?_
    refine VC.sub [(0, _), (1, _), (5, _), (6, _), (19, _)] (.cons rfl (.cons rfl (.cons rfl (.cons rfl (.cons rfl .nil))))) ?_
    refine VC.condD rfl (fun hc2 => ?_) (fun hc2 => ?_)
    · skip
      have hjc : j < cur.length := by omega
      obtain ⟨ad, had, hcell⟩ := hown.rdm.elem hjc
      injection had with had
      subst had
      have hxa := hown.rdm.fl (cur[j]) (List.getElem_mem hjc)
      have hxo := hown.fl (cur[j]) (List.getElem_mem hjc)
      have hxf := hown.fit (cur[j]) (List.getElem_mem hjc)
      have hcl := thin_get hc2 hjc ht2
      generalize hx : cur[j] = x at *
      refine VC.skip ?_
      refine thenQ_n ?_
      refine VC.sub [(0, _), (1, _), (5, _), (6, _)] (.cons rfl (.cons rfl (.cons rfl (.cons rfl .nil)))) ?_
      refine VC.seq ?_
      refine VC.block ?_
      refine VC.seq ?_
      refine VC.region ?_
      refine Ops.r (Run.mv rfl) rfl ?_
      refine Ops.r (Run.mv rfl) rfl ?_
      refine Ops.r (Run.indexS j rfl rfl Try.underlying22 Try.sizeOf45 hc2) rfl ?_
      refine Ops.r (Run.loadA rfl Try.isAgg45 Try.sizeOf45 hcell (by first | rfl | (simp; done))) rfl ?_
      refine Ops.m (Does.alloc zero45) rfl ?_
      rintro _ w2 ⟨rfl, hF2⟩
      have hb2 := hF2.blk
      have hf2 := hF2.frm
      have hsz2 : wr.heap.size ≤ wr.heap.size := Nat.le_refl _
      have hfs := hfr.size
      generalize hg2 : wr.heap.size = g2 at hb2 hsz2 hfs ⊢
      refine Ops.st (Acts.storeA rfl rfl Try.sizeOf45 hb2 rfl x.cells_one) ?_
      rintro w3 ⟨hb3, hf3, hs3⟩
      have hfr3 : Frm [] wr w3 := hf2.own hf3 (fun y hy => by simp at hy; omega)
      refine Ops.nil ?_
      refine thenQ_n ?_
      refine VC.sub [(0, _), (1, _), (5, _), (6, _), (7, _)] (.cons rfl (.cons rfl (.cons rfl (.cons rfl (.cons rfl .nil))))) ?_
      refine VC.seq ?_
      refine VC.region ?_
      refine Ops.r (Run.mv rfl) rfl ?_
      refine Ops.r (Run.loadA rfl Try.isAgg45 Try.sizeOf45 (fun j v hj => hb3.cells j v hj) (by first | rfl | (simp; done))) rfl ?_
      refine Ops.cl (Enters.dyn rfl (evs.cons rfl evs.nil) hp.1) (hp.2 _ x (hfr.trans hfr3 (by simp)) (hxa.frm hfr3 (by simp))) rfl ?_
      rintro e w4 ⟨rfl, hf4⟩
      refine ⟨_, rfl, ?_⟩
      have hfr4 := hfr3.trans hf4 (by simp)
      have hown4 := hown.frm hfr4
      have hxo4 := hxo.frm hfr4 (by simp)
      have hb34 := hb3.frm hf4 (by simp)
      refine Ops.r (Run.not rfl) rfl ?_
      refine Ops.nil ?_
      refine thenQ_n ?_
      refine VC.sub [(0, _), (1, _), (5, _), (6, _), (7, _), (29, _)] (.cons rfl (.cons rfl (.cons rfl (.cons rfl (.cons rfl (.cons rfl .nil)))))) ?_
      refine VC.condB rfl (fun hc3 => ?_) (fun hc3 => ?_)
      · skip
        refine VC.seq ?_
        refine VC.region ?_
        refine Ops.r (Run.mv rfl) rfl ?_
        refine Ops.r (Run.mv rfl) rfl ?_
        refine Ops.r (Run.loadA rfl Try.isAgg45 Try.sizeOf45 (fun j v hj => hb34.cells j v hj) (by first | rfl | (simp; done))) rfl ?_
        refine Ops.r (Run.indexS i rfl rfl Try.underlying22 Try.sizeOf45 (by omega)) rfl ?_
        refine Ops.st (Acts.storeOwnA Mc.cells x i rfl rfl Try.sizeOf45 Mc.cells_len rfl hown4.own rfl (by omega) x.cells_one) ?_
        rintro w5 ⟨hown5, hf5, hs5⟩
        have hM5 := hown4.set hown5 hf5 hxo4 hxf
        have hfr5 : Frm [g] w w5 := (hfr.trans hfr4 (by simp)).trans hf5 (by simp [ob])
        refine Ops.nil ?_
        refine thenQ_n ?_
        refine VC.sub [(0, _), (1, _), (5, _), (6, _)] (.cons rfl (.cons rfl (.cons rfl (.cons rfl .nil)))) ?_
        refine VC.region ?_
        refine Ops.r (Run.mv rfl) rfl ?_
        refine Ops.r (Run.bin rfl rfl (Bin.add_i64 _ 1 (by omega))) rfl ?_
        refine Ops.r (Run.asg rfl) rfl ?_
        refine Ops.nil ?_
        refine blockQ_n (thenQ_n ?_)
        refine VC.sub [(0, _), (1, _), (5, _), (6, _)] (.cons rfl (.cons rfl (.cons rfl (.cons rfl .nil)))) ?_
        refine VC.region ?_
        refine Ops.r (Run.mv rfl) rfl ?_
        refine Ops.r (Run.bin rfl rfl (Bin.add_i64 _ 1 (by omega))) rfl ?_
        refine Ops.r (Run.asg rfl) rfl ?_
        refine Ops.nil ?_
        refine thenQ_n ⟨(i + 1, j + 1, cur.set i x), (.cons rfl (.cons rfl (.cons rfl (.cons rfl .nil)))), ?_, ?_⟩
        · skip
          have hq : (fun x : Mc => !p x.m) (l[j]) = true := by rw [← hcl]; simpa using hc3
          have hk := thin_keep (q := fun x => !p x.m) hc2 hlen ht1 ht2 hij hq
          rw [← hcl] at hk
          exact ⟨by dsimp only; omega, hc2, by simpa using hlen, hM5, hk.1, hk.2, hfr5⟩
        · skip
          first | omega | (dsimp only; omega)
      · skip
        refine VC.skip ?_
        refine blockQ_n (thenQ_n ?_)
        refine VC.sub [(0, _), (1, _), (5, _), (6, _)] (.cons rfl (.cons rfl (.cons rfl (.cons rfl .nil)))) ?_
        refine VC.region ?_
        refine Ops.r (Run.mv rfl) rfl ?_
        refine Ops.r (Run.bin rfl rfl (Bin.add_i64 _ 1 (by omega))) rfl ?_
        refine Ops.r (Run.asg rfl) rfl ?_
        refine Ops.nil ?_
        refine thenQ_n ⟨(i, j + 1, cur), (.cons rfl (.cons rfl (.cons rfl (.cons rfl .nil)))), ?_, ?_⟩
        · skip
          have hq : (fun x : Mc => !p x.m) (l[j]) = false := by rw [← hcl]; simpa using hc3
          have hk := thin_skip (q := fun x => !p x.m) hc2 ht1 ht2 hq
          exact ⟨by dsimp only; omega, hc2, hlen, hown4, hk.1, hk.2, hfr.trans hfr4 (by simp)⟩
        · skip
          first | omega | (dsimp only; omega)
    · skip
      refine VC.exit ?_
      refine thenQ_x (thenQ_x (blockQ_x ?_))
      refine thenQ_n ?_
      refine VC.sub [(0, _), (5, _)] (.cons rfl (.cons rfl .nil)) ?_
      refine VC.seq ?_
      refine VC.region ?_
      refine Ops.r (Run.mv rfl) rfl ?_
      refine Ops.r (Run.mv rfl) rfl ?_
      refine Ops.r (Run.sliceS _ _ rfl Try.underlying22 Try.sizeOf45 (evB.some_ rfl) evB.none_ (by omega) (by omega)) rfl ?_
      have hjl2 : j = l.length := by omega
      subst hjl2
      rw [List.take_length] at ht1
      have hli : (l.filter fun x => !p x.m).length = i := by rw [← ht1, List.length_take]; omega
      have hfl : (l.filter fun x => !p x.m).length ≤ l.length := List.length_filter_le _ _
      refine Ops.m0 (Does.clearCut (m := l.length) (size := 6) rfl Try.underlying22 zero45 rfl (by decide) (by have h := hown.own; rw [hlen] at h; exact h) (by omega)) ?_
      rintro _ w6 ⟨hown6, hf6⟩
      have hMC : (MC cur).take (i * 6) = MC (l.filter fun x => !p x.m) := by
        rw [← ht1]
        have e1 : MC cur = MC (cur.take i) ++ MC (cur.drop i) := by rw [← MC_append, List.take_append_drop]
        have e2 : (MC (cur.take i)).length = i * 6 := by rw [MC_len, List.length_take]; congr 1; omega
        rw [e1, List.take_append_of_le_length (by omega), List.take_of_length_le (by omega)]
      rw [hMC] at hown6
      have hM6 : OwM w6 (some ⟨g, 0, none⟩) d (l.filter fun x => !p x.m) := by
        refine ⟨by rw [hli]; exact hown6, fun y hy => ?_, fun y hy => ?_⟩
        · have hyc : y ∈ cur := List.mem_of_mem_take (ht1 ▸ hy)
          exact (hown.fl y hyc).frm hf6 ((hown.fl y hyc).ne_own hown.own (by decide))
        · exact hown.fit y (List.mem_of_mem_take (ht1 ▸ hy))
      refine Ops.nil ?_
      refine thenQ_n ?_
      refine VC.sub [(0, _), (5, _)] (.cons rfl (.cons rfl .nil)) ?_
      refine VC.seq ?_
      refine VC.region ?_
      refine Ops.r (Run.mv rfl) rfl ?_
      refine Ops.r (Run.mv rfl) rfl ?_
      refine Ops.r (Run.sliceS 0 _ rfl Try.underlying22 Try.sizeOf45 evB.none_ (evB.some_ rfl) (by omega) (by omega)) rfl ?_
      refine Ops.r (Run.asg rfl) rfl ?_
      refine Ops.nil ?_
      refine thenQ_n ?_
      refine VC.sub [(4, _)] (.cons rfl .nil) ?_
      refine VC.ret ?_
      refine end1 rfl ?_
      rw [hli]
      refine ⟨?_, hM6, hfr.trans hf6 (by simp [ob])⟩
      rw [cutA0]
      rfl

end Go.Proofs.Ytmfglifjnoilnaa

