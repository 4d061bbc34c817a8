/-
  A box that came in, read.
-/
import Derived.Test.YtmfglifjnoilnaaBoxY
namespace Go.Proofs.Ytmfglifjnoilnaa
open Go.RowKit Go.ChangeShapes Go.WideShapes Go.Deep
section
variable {H : Type} {enc : TypeId × Value → H} {w : World} {base : Nat} {spare : Nat → Bool} {held : Bool}
set_option maxRecDepth 100000 in
theorem open_msg {n : Nat} {cs : List Value} {x : DataW H × List MemPlace} (h : DataW.trod enc Try.prog w base spare held n 45 cs = some x) :
    ∃ y : Mc, cs = y.cells ∧ Rd w 1 y.A y.m.flags.length (SB y.m.flags) ∧ y.m.flags.length ≤ y.c := by
  obtain ⟨xs, n', _, _, hlen, hxl, hf⟩ := DataW.trod_struct Try.underlying45 h
  have hl : cs.length = 6 := hlen.trans (by kernel_rfl)
  obtain ⟨a0, a1, a2, a3, a4, a5, rfl⟩ : ∃ a0 a1 a2 a3 a4 a5, cs = [a0, a1, a2, a3, a4, a5] := by
    match cs, hl with
    | [a0, a1, a2, a3, a4, a5], _ => exact ⟨a0, a1, a2, a3, a4, a5, rfl⟩
  have hget : ∀ i, i < 5 → ∃ y, xs[i]? = some y := fun i hi => ⟨xs[i]'(by rw [hxl]; exact hi), List.getElem?_eq_getElem _⟩
  have h0 := hf 0 _ rfl
  have h1 := hf 1 _ rfl
  have h2 := hf 2 _ rfl
  have h3 := hf 3 _ rfl
  have h4 := hf 4 _ rfl
  obtain ⟨y0, e0⟩ := hget 0 (by decide)
  obtain ⟨y1, e1⟩ := hget 1 (by decide)
  obtain ⟨y2, e2⟩ := hget 2 (by decide)
  obtain ⟨y3, e3⟩ := hget 3 (by decide)
  obtain ⟨y4, e4⟩ := hget 4 (by decide)
  rw [e0] at h0
  rw [e1] at h1
  rw [e2] at h2
  rw [e3] at h3
  rw [e4] at h4
  have c1 : Try.prog.cellsOf 3 = 1 := by kernel_rfl
  have c2 : Try.prog.cellsOf 42 = 2 := by kernel_rfl
  have c3 : Try.prog.cellsOf 38 = 1 := by kernel_rfl
  have c4 : Try.prog.cellsOf 43 = 1 := by kernel_rfl
  have h0 : DataW.trod enc Try.prog w base spare held n' 3 ([a0, a1, a2, a3, a4, a5].take (Try.prog.cellsOf 3)) = some y0 := h0
  have h1 : DataW.trod enc Try.prog w base spare held n' 42 ([a1, a2, a3, a4, a5].take (Try.prog.cellsOf 42)) = some y1 := h1
  have h2 : DataW.trod enc Try.prog w base spare held n' 3 ([a3, a4, a5].take (Try.prog.cellsOf 3)) = some y2 := h2
  have h3 : DataW.trod enc Try.prog w base spare held n' 38 ([a4, a5].take (Try.prog.cellsOf 38)) = some y3 := h3
  have h4 : DataW.trod enc Try.prog w base spare held n' 43 ([a5].take (Try.prog.cellsOf 43)) = some y4 := h4
  rw [c1] at h0 h2
  rw [c2] at h1
  rw [c3] at h3
  rw [c4] at h4
  obtain ⟨z0, g0, _⟩ := DataW.trod_int Try.underlying3 h0
  obtain ⟨z2, g2, _⟩ := DataW.trod_int Try.underlying3 h2
  obtain ⟨z3, g3, _, w3⟩ := DataW.trod_int Try.underlying38 h3
  obtain ⟨xd, nd, _, _, _, hxd, hfd⟩ := DataW.trod_struct Try.underlying42 h1
  have d0 := hfd 0 _ rfl
  have d1 := hfd 1 _ rfl
  have hgd : ∀ i, i < 2 → ∃ y, xd[i]? = some y := fun i hi => ⟨xd[i]'(by rw [hxd]; exact hi), List.getElem?_eq_getElem _⟩
  obtain ⟨u0, f0⟩ := hgd 0 (by decide)
  obtain ⟨u1, f1⟩ := hgd 1 (by decide)
  rw [f0] at d0
  rw [f1] at d1
  have c5 : Try.prog.cellsOf 2 = 1 := by kernel_rfl
  have d0 : DataW.trod enc Try.prog w base spare held nd 2 ([a1, a2].take (Try.prog.cellsOf 2)) = some u0 := d0
  have d1 : DataW.trod enc Try.prog w base spare held nd 3 ([a2].take (Try.prog.cellsOf 3)) = some u1 := d1
  rw [c5] at d0
  rw [c1] at d1
  obtain ⟨zs, gs, _⟩ := DataW.trod_int Try.underlying2 d0
  obtain ⟨zz, gz, _⟩ := DataW.trod_int Try.underlying3 d1
  simp only [List.take_succ_cons, List.take_zero, List.cons.injEq, and_true] at g0 g2 g3 gs gz
  subst g0 g2 g3 gs gz
  have h4 : DataW.trod enc Try.prog w base spare held n' 43 [a5] = some y4 := h4
  have hv : ∃ A l c, a5 = .slice A l c := by
    rcases open_slice1 Try.underlying43 (by kernel_rfl) h4 with ⟨hcs, _⟩ | ⟨ad, l, c, _, _, _, _, _, hcs, _⟩
    · exact ⟨_, _, _, by simpa using hcs⟩
    · exact ⟨_, _, _, by simpa using hcs⟩
  obtain ⟨A, len, c, rfl⟩ := hv
  obtain ⟨fl, rfl, hlc, _, hrd⟩ := rd_txs Try.underlying43 Try.underlying9 (by kernel_rfl) h4
  have hz3 := bounds_u64 w3
  refine ⟨⟨⟨z0, zs, zz, z2, z3.toNat, fl⟩, A, c⟩, ?_, hrd, hlc⟩
  simp only [Mc.cells]
  rw [Int.toNat_of_nonneg hz3.1]
theorem rd_msgs {fuel len cap : Nat} {a : Option Addr} {x : DataW H × List MemPlace} (h : DataW.trod enc Try.prog w base spare held fuel 22 [.slice a len cap] = some x) :
    ∃ l : List Mc, l.length = len ∧ len ≤ cap ∧ cap ≤ 9223372036854775807 ∧ RawM w a l := by
  have hC : Try.prog.cellsOf 45 = 6 := by kernel_rfl
  rcases open_slice Try.underlying22 h with ⟨hcs, _⟩ | ⟨ad, l, c, m, n, D, Pl, hcs, _, hl, hm, hmm, _, hi⟩
  · simp only [List.cons.injEq, Value.slice.injEq, and_true] at hcs
    obtain ⟨rfl, rfl, rfl⟩ := hcs
    exact ⟨[], rfl, Nat.le_refl _, by omega, Rd.nil _ _ _, by simp⟩
  · simp only [List.cons.injEq, Value.slice.injEq, and_true] at hcs
    obtain ⟨rfl, rfl, rfl⟩ := hcs
    have hml : len ≤ m := by rw [hmm]; split <;> omega
    rw [hC] at hi
    have key : ∀ i, i < len → ∃ y : Mc, (∀ j, j < 6 → w.cell? ((ad.add (i * 6)).add j) = y.cells[j]?) ∧ Rd w 1 y.A y.m.flags.length (SB y.m.flags) ∧ y.m.flags.length ≤ y.c := by
      intro i hil
      obtain ⟨cs', hc, ht'⟩ := hi i (by omega)
      obtain ⟨_, hcl, hat⟩ := World.cells?_some hc
      obtain ⟨y, rfl, h1, h2⟩ := open_msg ht'
      exact ⟨y, fun j hj => hat j hj, h1, h2⟩
    obtain ⟨ls, hll, hq⟩ := list_choose len key
    have hcell : ∀ j u, (MC ls)[j]? = some u → w.cell? (ad.add j) = some u := by
      intro j u hu
      rw [show MC ls = ls.flatMap Mc.cells from rfl, flat_idx Mc.cells 6 (by omega) Mc.cells_len] at hu
      obtain ⟨y, hy, hu'⟩ := Option.bind_eq_some_iff.1 hu
      have := (hq _ y hy).1 (j % 6) (Nat.mod_lt _ (by omega))
      rw [Go.Proofs.Ytmfglifjnoilnaa.add_add, Nat.mul_comm, Nat.div_add_mod] at this
      rw [this, hu']
    refine ⟨ls, hll, hl, by simpa [maxLen] using hm, ⟨by rw [MC_len], fun hn => ⟨ad, rfl, ?_, hcell⟩⟩, fun y hy => ?_⟩
    · have h0 : 0 < (MC ls).length := by rw [MC_len]; omega
      have := World.block_lt_of_cell? w _ (hcell 0 _ (List.getElem?_eq_getElem h0))
      rwa [block_add] at this
    · obtain ⟨i, hi', hli⟩ := List.getElem_of_mem hy
      exact (hq i y (by rw [List.getElem?_eq_getElem hi', hli])).2
set_option maxRecDepth 100000 in
theorem open_box {r : Reach} {b0 : Nat} {v : Value} {d : DataW H} {ps : List MemPlace} (hval : Value.okWide Try.prog w r b0 24 v) (hd : DataW.Trod enc Try.prog w base spare held 24 v d ps) :
    ∃ (x n : Int) (a : Option Addr) (c : Nat) (l : List Mc), v = .agg #[.int .i64 x, .int .i64 n, .slice a l.length c] ∧ l.length ≤ c ∧ c ≤ 9223372036854775807 ∧ RawM w a l := by
  obtain ⟨cs, rfl, _⟩ := okWide_struct Try.underlying24 hval
  obtain ⟨fuel, hf⟩ := hd
  have hf : DataW.trod enc Try.prog w base spare held fuel 24 cs.toList = some (d, ps) := hf
  obtain ⟨xs, n', _, _, hlen, hxl, hg⟩ := DataW.trod_struct Try.underlying24 hf
  have hl : cs.toList.length = 3 := hlen.trans (by kernel_rfl)
  obtain ⟨a0, a1, a2, hcs⟩ : ∃ a0 a1 a2, cs.toList = [a0, a1, a2] := by
    match cs.toList, hl with
    | [a0, a1, a2], _ => exact ⟨a0, a1, a2, rfl⟩
  have hcs2 : cs = #[a0, a1, a2] := by rw [← Array.toArray_toList (xs := cs), hcs]
  subst hcs2
  have hget : ∀ i, i < 3 → ∃ y, xs[i]? = some y := fun i hi => ⟨xs[i]'(by rw [hxl]; exact hi), List.getElem?_eq_getElem _⟩
  obtain ⟨y0, e0⟩ := hget 0 (by decide)
  obtain ⟨y1, e1⟩ := hget 1 (by decide)
  obtain ⟨y2, e2⟩ := hget 2 (by decide)
  have c1 : Try.prog.cellsOf 3 = 1 := by kernel_rfl
  have c2 : Try.prog.cellsOf 22 = 1 := by kernel_rfl
  have h0 : DataW.trod enc Try.prog w base spare held n' 3 ([a0, a1, a2].take (Try.prog.cellsOf 3)) = some y0 := (hg 0 _ rfl).trans e0
  have h1 : DataW.trod enc Try.prog w base spare held n' 3 ([a1, a2].take (Try.prog.cellsOf 3)) = some y1 := (hg 1 _ rfl).trans e1
  have h2 : DataW.trod enc Try.prog w base spare held n' 22 ([a2].take (Try.prog.cellsOf 22)) = some y2 := (hg 2 _ rfl).trans e2
  rw [c1] at h0 h1
  rw [c2] at h2
  obtain ⟨z0, g0, _⟩ := DataW.trod_int Try.underlying3 h0
  obtain ⟨z1, g1, _⟩ := DataW.trod_int Try.underlying3 h1
  simp only [List.take_succ_cons, List.take_zero, List.cons.injEq, and_true] at g0 g1
  subst g0 g1
  have h2 : DataW.trod enc Try.prog w base spare held n' 22 [a2] = some y2 := h2
  have hv : ∃ A l c, a2 = .slice A l c := by
    rcases open_slice Try.underlying22 h2 with ⟨hcs, _⟩ | ⟨ad, l, c, _, _, _, _, hcs, _⟩
    · exact ⟨_, _, _, by simpa using hcs⟩
    · exact ⟨_, _, _, by simpa using hcs⟩
  obtain ⟨A, len, c, rfl⟩ := hv
  obtain ⟨l, rfl, k1, k2, k3⟩ := rd_msgs h2
  exact ⟨z0, z1, A, c, l, rfl, k1, k2, k3⟩
end
end Go.Proofs.Ytmfglifjnoilnaa
