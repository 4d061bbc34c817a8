/-
  Arguments of the laws of box, read.
-/
import Derived.Test.YtmfglifjnoilnaaBoxZ
import Derived.Test.YtmfglifjnoilnaaOpen3
namespace Go.Proofs.Ytmfglifjnoilnaa
open Go.RowKit Go.Sort

section
variable {H : Type} {enc : TypeId × Value → H} {w : World} {base : Nat} {spare : Nat → Bool} {held : Bool} {n : Nat} {cs : List Value} {x : DataW H × List MemPlace}
theorem msgs_form (h : DataW.trod enc Try.prog w base spare held n 22 cs = some x) : ∃ (A : Option Addr) (c : Nat) (l : List Mc), cs = [.slice A l.length c] ∧ l.length ≤ c ∧ RawM w A l := by
  obtain ⟨A, len, c, rfl⟩ := slice_form Try.underlying22 h
  obtain ⟨l, rfl, h1, _, h3⟩ := rd_msgs h
  exact ⟨A, c, l, rfl, h1, h3⟩
end

set_option maxRecDepth 100000 in
theorem box_form {H : Type} {enc : TypeId × Value → H} {w : World} {base : Nat} {spare : Nat → Bool} {held : Bool} {n : Nat} {cs : List Value} {x : DataW H × List MemPlace} (h : DataW.trod enc Try.prog w base spare held n 24 cs = some x) :
    ∃ (va : Int) (na : Int) (A : Option Addr) (c : Nat) (l : List Mc), cs = ([.int .i64 va] ++ ([.int .i64 na] ++ ([.slice A l.length c] ++ [] : List Value) : List Value) : List Value) ∧ ((Lit.int .i64 va).wf = true) ∧ ((Lit.int .i64 na).wf = true) ∧ (l.length ≤ c ∧ RawM w A l) := by
  obtain ⟨hlen, n', hf⟩ := open_field Try.underlying24 h
  have hl : cs.length = 3 := hlen.trans (by kernel_rfl)
  obtain ⟨a0, a1, a2, rfl⟩ : ∃ a0 a1 a2, cs = [a0, a1, a2] := by
    match cs, hl with
    | [a0, a1, a2], _ => exact ⟨a0, a1, a2, rfl⟩
  clear h hlen hl
  obtain ⟨y0, h0⟩ := hf 0 _ rfl
  have h0 : DataW.trod enc Try.prog w base spare held n' 3 ([a0, a1, a2].take (Try.prog.cellsOf 3)) = some y0 := h0
  rw [show Try.prog.cellsOf 3 = 1 by kernel_rfl] at h0
  have h0 : DataW.trod enc Try.prog w base spare held n' 3 [a0] = some y0 := h0
  obtain ⟨va, e0, q0⟩ := int_form Try.underlying3 h0
  obtain ⟨y1, h1⟩ := hf 1 _ rfl
  have h1 : DataW.trod enc Try.prog w base spare held n' 3 ([a1, a2].take (Try.prog.cellsOf 3)) = some y1 := h1
  rw [show Try.prog.cellsOf 3 = 1 by kernel_rfl] at h1
  have h1 : DataW.trod enc Try.prog w base spare held n' 3 [a1] = some y1 := h1
  obtain ⟨na, e1, q1⟩ := int_form Try.underlying3 h1
  obtain ⟨y2, h2⟩ := hf 2 _ rfl
  have h2 : DataW.trod enc Try.prog w base spare held n' 22 ([a2].take (Try.prog.cellsOf 22)) = some y2 := h2
  rw [show Try.prog.cellsOf 22 = 1 by kernel_rfl] at h2
  have h2 : DataW.trod enc Try.prog w base spare held n' 22 [a2] = some y2 := h2
  obtain ⟨A, c, l, e2, q2⟩ := msgs_form h2
  refine ⟨va, na, A, c, l, ?_, q0, q1, q2⟩
  show ([a0] ++ ([a1] ++ ([a2] ++ [] : List Value) : List Value) : List Value) = _
  rw [e0, e1, e2]
  try rfl

set_option maxRecDepth 100000 in
theorem do_form {H : Type} {enc : TypeId × Value → H} {w : World} {base : Nat} {spare : Nat → Bool} {held : Bool} {n : Nat} {cs : List Value} {xx : DataW H × List MemPlace} (h : DataW.trod enc Try.prog w base spare held n 52 cs = some xx) :
    ∃ (va na : Int) (A : Option Addr) (c : Nat) (l : List Mc) (x : Mc) (place : Int) (op : Int), cs = (BVc va na A l.length c ++ (x.cells ++ ([.int .i64 place] ++ ([.int .i64 op] ++ [] : List Value) : List Value) : List Value) : List Value) ∧ ((Lit.int .i64 va).wf = true ∧ (Lit.int .i64 na).wf = true ∧ l.length ≤ c ∧ RawM w A l) ∧ (Rd w 1 x.A x.m.flags.length (SB x.m.flags) ∧ x.m.flags.length ≤ x.c) ∧ ((Lit.int .i64 place).wf = true) ∧ ((Lit.int .i64 op).wf = true) := by
  obtain ⟨hlen, n', hf⟩ := open_field Try.underlying52 h
  have hl : cs.length = 11 := hlen.trans (by kernel_rfl)
  obtain ⟨a0, a1, a2, a3, a4, a5, a6, a7, a8, a9, a10, rfl⟩ : ∃ a0 a1 a2 a3 a4 a5 a6 a7 a8 a9 a10, cs = [a0, a1, a2, a3, a4, a5, a6, a7, a8, a9, a10] := by
    match cs, hl with
    | [a0, a1, a2, a3, a4, a5, a6, a7, a8, a9, a10], _ => exact ⟨a0, a1, a2, a3, a4, a5, a6, a7, a8, a9, a10, rfl⟩
  clear h hlen hl
  obtain ⟨y0, h0⟩ := hf 0 _ rfl
  have h0 : DataW.trod enc Try.prog w base spare held n' 24 ([a0, a1, a2, a3, a4, a5, a6, a7, a8, a9, a10].take (Try.prog.cellsOf 24)) = some y0 := h0
  rw [show Try.prog.cellsOf 24 = 3 by kernel_rfl] at h0
  have h0 : DataW.trod enc Try.prog w base spare held n' 24 [a0, a1, a2] = some y0 := h0
  obtain ⟨va, na, A, c, l, e0, q0⟩ := box_form h0
  obtain ⟨y1, h1⟩ := hf 1 _ rfl
  have h1 : DataW.trod enc Try.prog w base spare held n' 45 ([a3, a4, a5, a6, a7, a8, a9, a10].take (Try.prog.cellsOf 45)) = some y1 := h1
  rw [show Try.prog.cellsOf 45 = 6 by kernel_rfl] at h1
  have h1 : DataW.trod enc Try.prog w base spare held n' 45 [a3, a4, a5, a6, a7, a8] = some y1 := h1
  obtain ⟨x, e1, q1⟩ := open_msg h1
  obtain ⟨y2, h2⟩ := hf 2 _ rfl
  have h2 : DataW.trod enc Try.prog w base spare held n' 3 ([a9, a10].take (Try.prog.cellsOf 3)) = some y2 := h2
  rw [show Try.prog.cellsOf 3 = 1 by kernel_rfl] at h2
  have h2 : DataW.trod enc Try.prog w base spare held n' 3 [a9] = some y2 := h2
  obtain ⟨place, e2, q2⟩ := int_form Try.underlying3 h2
  obtain ⟨y3, h3⟩ := hf 3 _ rfl
  have h3 : DataW.trod enc Try.prog w base spare held n' 3 ([a10].take (Try.prog.cellsOf 3)) = some y3 := h3
  rw [show Try.prog.cellsOf 3 = 1 by kernel_rfl] at h3
  have h3 : DataW.trod enc Try.prog w base spare held n' 3 [a10] = some y3 := h3
  obtain ⟨op, e3, q3⟩ := int_form Try.underlying3 h3
  refine ⟨va, na, A, c, l, x, place, op, ?_, q0, q1, q2, q3⟩
  show ([a0, a1, a2] ++ ([a3, a4, a5, a6, a7, a8] ++ ([a9] ++ ([a10] ++ [] : List Value) : List Value) : List Value) : List Value) = _
  rw [e0, e1, e2, e3]
  try rfl

set_option maxRecDepth 100000 in
theorem ask_form {H : Type} {enc : TypeId × Value → H} {w : World} {base : Nat} {spare : Nat → Bool} {held : Bool} {n : Nat} {cs : List Value} {x : DataW H × List MemPlace} (h : DataW.trod enc Try.prog w base spare held n 60 cs = some x) :
    ∃ (va na : Int) (A : Option Addr) (c : Nat) (l : List Mc) (valid : Int) (uid : Int) (q : Tx), cs = (BVc va na A l.length c ++ ([.int .i64 valid] ++ ([.int .i64 uid] ++ ([encStr q] ++ [] : List Value) : List Value) : List Value) : List Value) ∧ ((Lit.int .i64 va).wf = true ∧ (Lit.int .i64 na).wf = true ∧ l.length ≤ c ∧ RawM w A l) ∧ ((Lit.int .i64 valid).wf = true) ∧ ((Lit.int .i64 uid).wf = true) ∧ (q.length ≤ 9223372036854775807) := by
  obtain ⟨hlen, n', hf⟩ := open_field Try.underlying60 h
  have hl : cs.length = 6 := hlen.trans (by kernel_rfl)
  obtain ⟨a0, a1, a2, a3, a4, a5, rfl⟩ : ∃ a0 a1 a2 a3 a4 a5, cs = [a0, a1, a2, a3, a4, a5] := by
    match cs, hl with
    | [a0, a1, a2, a3, a4, a5], _ => exact ⟨a0, a1, a2, a3, a4, a5, rfl⟩
  clear h hlen hl
  obtain ⟨y0, h0⟩ := hf 0 _ rfl
  have h0 : DataW.trod enc Try.prog w base spare held n' 24 ([a0, a1, a2, a3, a4, a5].take (Try.prog.cellsOf 24)) = some y0 := h0
  rw [show Try.prog.cellsOf 24 = 3 by kernel_rfl] at h0
  have h0 : DataW.trod enc Try.prog w base spare held n' 24 [a0, a1, a2] = some y0 := h0
  obtain ⟨va, na, A, c, l, e0, q0⟩ := box_form h0
  obtain ⟨y1, h1⟩ := hf 1 _ rfl
  have h1 : DataW.trod enc Try.prog w base spare held n' 3 ([a3, a4, a5].take (Try.prog.cellsOf 3)) = some y1 := h1
  rw [show Try.prog.cellsOf 3 = 1 by kernel_rfl] at h1
  have h1 : DataW.trod enc Try.prog w base spare held n' 3 [a3] = some y1 := h1
  obtain ⟨valid, e1, q1⟩ := int_form Try.underlying3 h1
  obtain ⟨y2, h2⟩ := hf 2 _ rfl
  have h2 : DataW.trod enc Try.prog w base spare held n' 3 ([a4, a5].take (Try.prog.cellsOf 3)) = some y2 := h2
  rw [show Try.prog.cellsOf 3 = 1 by kernel_rfl] at h2
  have h2 : DataW.trod enc Try.prog w base spare held n' 3 [a4] = some y2 := h2
  obtain ⟨uid, e2, q2⟩ := int_form Try.underlying3 h2
  obtain ⟨y3, h3⟩ := hf 3 _ rfl
  have h3 : DataW.trod enc Try.prog w base spare held n' 9 ([a5].take (Try.prog.cellsOf 9)) = some y3 := h3
  rw [show Try.prog.cellsOf 9 = 1 by kernel_rfl] at h3
  have h3 : DataW.trod enc Try.prog w base spare held n' 9 [a5] = some y3 := h3
  obtain ⟨q, e3, q3⟩ := str_form Try.underlying9 h3
  refine ⟨va, na, A, c, l, valid, uid, q, ?_, q0, q1, q2, q3⟩
  show ([a0, a1, a2] ++ ([a3] ++ ([a4] ++ ([a5] ++ [] : List Value) : List Value) : List Value) : List Value) = _
  rw [e0, e1, e2, e3]
  try rfl

end Go.Proofs.Ytmfglifjnoilnaa
