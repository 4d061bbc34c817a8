/-
  The walks of inflate: its tables.
-/
import Derived.Test.YtfjhmbgckmhdaaaInfW
namespace Go.Proofs.Ytfjhmbgckmhdaaa
open Go.RowKit

/-- A step in cells. -/
def LC (p : Nat × Nat) : List Value := [.int .i64 ((p.1 : Nat) : Int), .int .i64 ((p.2 : Nat) : Int)]
theorem LC_len (p : Nat × Nat) : (LC p).length = 2 := rfl
theorem LC_one (p : Nat × Nat) : ∀ v ∈ LC p, v.oneCell' = true := by
  intro v hv
  simp only [LC, List.mem_cons, List.not_mem_nil, or_false] at hv
  rcases hv with rfl | rfl <;> rfl
def nextL (i : Nat) : Nat := if i < 28 then (longT.getD i (0, 0)).1 else 259
theorem long_step : ∀ i, i < 28 → (if (0 : Int) < ((i / 4 : Nat) : Int) - 1 then ((i / 4 : Nat) : Int) - 1 else 0) = (((longT.getD i (0, 0)).2 : Nat) : Int) ∧ nextL i + 2 ^ (longT.getD i (0, 0)).2 = nextL (i + 1) ∧ (longT.getD i (0, 0)).2 ≤ 5 ∧ nextL i ≤ 258 ∧ longT.getD i (0, 0) = (nextL i, (longT.getD i (0, 0)).2) := by decide +kernel
def nextW (i : Nat) : Nat := if i < 30 then (wayT.getD i (0, 0)).1 else 32769
theorem way_step : ∀ i, i < 30 → (if (0 : Int) < ((i / 2 : Nat) : Int) - 1 then ((i / 2 : Nat) : Int) - 1 else 0) = (((wayT.getD i (0, 0)).2 : Nat) : Int) ∧ nextW i + 2 ^ (wayT.getD i (0, 0)).2 = nextW (i + 1) ∧ (wayT.getD i (0, 0)).2 ≤ 13 ∧ nextW i ≤ 24577 ∧ wayT.getD i (0, 0) = (nextW i, (wayT.getD i (0, 0)).2) := by decide +kernel
/-- A table that is filled up to i. -/
def upto (t : List (Nat × Nat)) (n i : Nat) : List (Nat × Nat) := (List.range n).map fun k => if k < i then t.getD k (0, 0) else (0, 0)
theorem upto_len (t : List (Nat × Nat)) (n i : Nat) : (upto t n i).length = n := by simp [upto]
theorem upto_set (t : List (Nat × Nat)) (n i : Nat) (h : i < n) : (upto t n i).set i (t.getD i (0, 0)) = upto t n (i + 1) := by
  apply List.ext_getElem?
  intro j
  by_cases hj : j = i
  · subst hj
    rw [List.getElem?_set_self (by simp [upto, h])]
    simp [upto, h]
  · rw [List.getElem?_set_ne (Ne.symm hj)]
    by_cases hn : j < n
    · simp [upto, hn, show j < i + 1 ↔ j < i by omega]
    · simp [upto, hn]
theorem Own_cells {w : World} {e size n c g : Nat} {xs : List Value} (h : Own w e size (some ⟨g, 0, none⟩) n c xs) (hn : 0 < n) : ∀ j v, xs[j]? = some v → w.cell? ((⟨g, 0, none⟩ : Addr).add j) = some v := by
  obtain ⟨ad, hA, _, hc⟩ := h.rd.2 hn
  injection hA with hA
  subst hA
  exact hc
theorem range_cells : ∀ (n : Nat), (List.replicate n (LC (0, 0))).flatten = (upto [] n 0).flatMap LC := by
  intro n
  unfold upto
  rw [List.flatMap_map]
  simp only [Nat.not_lt_zero, if_false]
  induction n with
  | zero => rfl
  | succ n ih =>
    rw [List.range_succ, List.flatMap_append, ← ih, List.replicate_succ', List.flatten_append]
    simp

set_option maxRecDepth 100000 in
theorem ilengths_spec (w : World) : Calls Try.prog 32 #[] w fun e w' => e = .returned (.agg (longT.flatMap LC).toArray) ∧ Frm [] w w' := by
  refine VC.calls (nt := 25) (res := #[.cell 0 61]) Try.func32 rfl Try.ntmps32 Try.results32 rfl ?_
  refine VC.seq ?_
  refine VC.region ?_
  refine Ops.m (Does.alloc zero61) rfl ?_
  rintro _ w1 ⟨rfl, hF1⟩
  have hb1 := hF1.blk
  refine Ops.nil ?_
  refine thenQ_n ?_
  refine VC.seq ?_
  refine VC.region ?_
  refine Ops.m (Does.alloc zero61) rfl ?_
  rintro _ w2 ⟨rfl, hF2⟩
  have hb12 := hb1.frm hF2.frm (by simp)
  have hfr2 := hF1.frm.own hF2.frm (by simp)
  have ho2 : Own w2 61 2 (some ⟨w1.heap.size, 0, none⟩) 29 29 ((upto longT 29 0).flatMap LC) := Own.of_blk (n := 29) hF2.blk rfl (by decide)
  have hne : w.heap.size ≠ w1.heap.size := by have := hb1.lt; omega
  have hge : w.heap.size ≤ w1.heap.size := hF1.frm.size
  generalize hg1 : w1.heap.size = g1 at *
  generalize hg0 : w.heap.size = g0 at hb12 hne hge ⊢
  refine Ops.nil ?_
  refine thenQ_n ?_
  refine VC.seq ?_
  refine VC.region ?_
  refine Ops.r (v := .int .i64 ((3 : Nat) : Int)) (Run.asg rfl) rfl ?_
  refine Ops.nil ?_
  refine thenQ_n ?_
  refine VC.seq ?_
  refine VC.seq ?_
  refine VC.region ?_
  refine Ops.r (v := .int .i64 ((0 : Nat) : Int)) (Run.mv rfl) rfl ?_
  refine Ops.nil ?_
  refine thenQ_n ?_
  refine VC.block ?_
  refine VC.loop (σ := Nat) (fun s => [(0, .pointer (some ⟨g0, 0, none⟩)), (1, .pointer (some ⟨g1, 0, none⟩)), (2, .int .i64 ((nextL s : Nat) : Int)), (5, .int .i64 ((s : Nat) : Int))]) (fun s wr => s ≤ 28 ∧ Blk wr g0 61 (Value.agg #[.int .i64 0, .int .i64 0, .int .i64 0, .int .i64 0, .int .i64 0, .int .i64 0, .int .i64 0, .int .i64 0, .int .i64 0, .int .i64 0, .int .i64 0, .int .i64 0, .int .i64 0, .int .i64 0, .int .i64 0, .int .i64 0, .int .i64 0, .int .i64 0, .int .i64 0, .int .i64 0, .int .i64 0, .int .i64 0, .int .i64 0, .int .i64 0, .int .i64 0, .int .i64 0, .int .i64 0, .int .i64 0, .int .i64 0, .int .i64 0, .int .i64 0, .int .i64 0, .int .i64 0, .int .i64 0, .int .i64 0, .int .i64 0, .int .i64 0, .int .i64 0, .int .i64 0, .int .i64 0, .int .i64 0, .int .i64 0, .int .i64 0, .int .i64 0, .int .i64 0, .int .i64 0, .int .i64 0, .int .i64 0, .int .i64 0, .int .i64 0, .int .i64 0, .int .i64 0, .int .i64 0, .int .i64 0, .int .i64 0, .int .i64 0, .int .i64 0, .int .i64 0]).cells ∧ Own wr 61 2 (some ⟨g1, 0, none⟩) 29 29 ((upto longT 29 s).flatMap LC) ∧ Frm [] w wr) (fun s => 28 - s) 0 (.cons rfl (.cons rfl (.cons rfl (.cons rfl .nil)))) ⟨by omega, hb12, ho2, hfr2⟩ ?_
  rintro i wr ⟨hi, hbr, hor, hfr⟩
  refine VC.seq ?_
  refine VC.region ?_
  refine Ops.r (Run.bin rfl rfl (Bin.lssN _ 28)) rfl ?_
  refine Ops.nil ?_
  refine thenQ_n ?_
  refine VC.seq ?_
  refine VC.condD rfl (fun hc1 => ?_) (fun hc1 => ?_)
  · skip
    obtain ⟨hs1, hs2, hs3, hs4, hs5⟩ := long_step i hc1
    refine VC.skip ?_
    refine thenQ_n ?_
    refine VC.sub [(0, _), (1, _), (2, _), (5, _)] (.cons rfl (.cons rfl (.cons rfl (.cons rfl .nil)))) ?_
    refine VC.seq ?_
    refine VC.block ?_
    refine VC.seq ?_
    refine VC.region ?_
    refine Ops.r (Run.mv rfl) rfl ?_
    refine Ops.r (Run.asg rfl) rfl ?_
    refine Ops.nil ?_
    refine thenQ_n ?_
    refine VC.sub [(0, _), (1, _), (2, _), (3, _), (5, _)] (.cons rfl (.cons rfl (.cons rfl (.cons rfl (.cons rfl .nil))))) ?_
    refine VC.seq ?_
    refine VC.region ?_
    refine Ops.r (Run.mv rfl) rfl ?_
    refine Ops.r (Run.bin rfl rfl (Bin.quo_i64 _ 4 (by omega) (by omega))) rfl ?_
    refine Ops.r (Run.bin rfl rfl (Bin.subZ _ 1 (by omega) (by omega))) rfl ?_
    refine Ops.r (Run.maxI rfl rfl) rfl ?_
    rw [hs1]
    refine Ops.r (Run.asg rfl) rfl ?_
    refine Ops.nil ?_
    refine thenQ_n ?_
    refine VC.sub [(0, _), (1, _), (2, _), (3, _), (4, _), (5, _)] (.cons rfl (.cons rfl (.cons rfl (.cons rfl (.cons rfl (.cons rfl .nil)))))) ?_
    refine VC.seq ?_
    refine VC.region ?_
    refine Ops.r (Run.mv rfl) rfl ?_
    refine Ops.r (Run.mv rfl) rfl ?_
    refine Ops.r (Run.mv rfl) rfl ?_
    refine Ops.r (Run.build (evs.cons rfl (evs.cons rfl evs.nil)) zero60 (places60).choose_spec.1 (places60).choose_spec.2 (cells := (LC (nextL i, (longT.getD i (0, 0)).2)).toArray) rfl) rfl ?_
    refine Ops.r (Run.indexA i rfl rfl Try.underlying61 Try.sizeOf60 (by omega)) rfl ?_
    refine Ops.st (Acts.storeOwnA LC (nextL i, (longT.getD i (0, 0)).2) i rfl rfl Try.sizeOf60 LC_len (upto_len _ _ _) hor rfl (by omega) (LC_one _)) ?_
    rintro w3 ⟨ho3, hf3, hs3'⟩
    rw [← hs5, upto_set _ _ _ (by omega)] at ho3
    refine Ops.nil ?_
    refine thenQ_n ?_
    refine VC.sub [(0, _), (1, _), (2, _), (4, _), (5, _)] (.cons rfl (.cons rfl (.cons rfl (.cons rfl (.cons rfl .nil))))) ?_
    refine VC.region ?_
    refine Ops.r (Run.mv rfl) rfl ?_
    refine Ops.r (Run.mv rfl) rfl ?_
    refine Ops.r (Run.bin rfl rfl (Bin.shl_i64 1 (longT.getD i (0, 0)).2 (by omega) (by have := Nat.pow_le_pow_right (n := 2) (by omega) hs3; omega))) rfl ?_
    refine Ops.r (Run.bin rfl rfl (Bin.add_i64 (nextL i) (1 * 2 ^ (longT.getD i (0, 0)).2) (by have := Nat.pow_le_pow_right (n := 2) (by omega) hs3; omega))) rfl ?_
    rw [Nat.one_mul, hs2]
    refine Ops.r (Run.asg rfl) rfl ?_
    refine Ops.nil ?_
    refine blockQ_n (thenQ_n ?_)
    refine VC.sub [(0, _), (1, _), (2, _), (5, _)] (.cons rfl (.cons rfl (.cons rfl (.cons rfl .nil)))) ?_
    refine VC.region ?_
    refine Ops.r (Run.bin rfl rfl (Bin.add_i64 _ 1 (by omega))) rfl ?_
    refine Ops.r (Run.mv rfl) rfl ?_
    refine Ops.nil ?_
    refine thenQ_n ⟨(i + 1), (.cons rfl (.cons rfl (.cons rfl (.cons rfl .nil)))), ?_, ?_⟩
    · skip
      exact ⟨hc1, hbr.frm hf3 (by simp [ob]; exact hne), ho3, hfr.own hf3 (fun x hx => by simp [ob] at hx; omega)⟩
    · skip
      first | omega | (dsimp only; omega)
  · skip
    have him : i = 28 := by omega
    subst him
    refine VC.exit ?_
    refine thenQ_x (thenQ_x (blockQ_x ?_))
    refine thenQ_n ?_
    refine VC.sub [(0, _), (1, _)] (.cons rfl (.cons rfl .nil)) ?_
    refine VC.seq ?_
    refine VC.region ?_
    refine Ops.r (Run.build (evs.cons rfl (evs.cons rfl evs.nil)) zero60 (places60).choose_spec.1 (places60).choose_spec.2 (cells := (LC (258, 0)).toArray) rfl) rfl ?_
    refine Ops.r (Run.indexA 28 rfl rfl Try.underlying61 Try.sizeOf60 (by omega)) rfl ?_
    refine Ops.st (Acts.storeOwnA LC (258, 0) 28 rfl rfl Try.sizeOf60 LC_len (upto_len _ _ _) hor rfl (by omega) (LC_one _)) ?_
    rintro w4 ⟨ho4, hf4, hs4⟩
    have hup : (upto longT 29 28).set 28 (258, 0) = longT := by decide +kernel
    rw [hup] at ho4
    have hb4 := hbr.frm hf4 (by simp [ob]; exact hne)
    have hfr4 := hfr.own hf4 (fun x hx => by simp [ob] at hx; omega)
    refine Ops.nil ?_
    refine thenQ_n ?_
    refine VC.sub [(0, _), (1, _)] (.cons rfl (.cons rfl .nil)) ?_
    refine VC.seq ?_
    refine VC.region ?_
    refine Ops.r (Run.loadA rfl Try.isAgg61 Try.sizeOf61 (Own_cells ho4 (by omega)) rfl) rfl ?_
    refine Ops.st (Acts.storeA rfl rfl Try.sizeOf61 hb4 rfl (flat_one LC LC_one longT)) ?_
    rintro w5 ⟨hb5, hf5, hs5⟩
    refine Ops.nil ?_
    refine thenQ_n ?_
    refine VC.sub [(0, _)] (.cons rfl .nil) ?_
    refine VC.ret ?_
    refine endR ?_
    refine res_cellB rfl Try.isAgg61 Try.sizeOf61 (hb5) rfl ?_
    refine res_nil ?_
    exact ⟨rfl, hfr4.own hf5 (fun x hx => by simp at hx; omega)⟩

set_option maxRecDepth 100000 in
theorem iways_spec (w : World) : Calls Try.prog 33 #[] w fun e w' => e = .returned (.agg (wayT.flatMap LC).toArray) ∧ Frm [] w w' := by
  refine VC.calls (nt := 23) (res := #[.cell 0 63]) Try.func33 rfl Try.ntmps33 Try.results33 rfl ?_
  refine VC.seq ?_
  refine VC.region ?_
  refine Ops.m (Does.alloc zero63) rfl ?_
  rintro _ w1 ⟨rfl, hF1⟩
  have hb1 := hF1.blk
  refine Ops.nil ?_
  refine thenQ_n ?_
  refine VC.seq ?_
  refine VC.region ?_
  refine Ops.m (Does.alloc zero63) rfl ?_
  rintro _ w2 ⟨rfl, hF2⟩
  have hb12 := hb1.frm hF2.frm (by simp)
  have hfr2 := hF1.frm.own hF2.frm (by simp)
  have ho2 : Own w2 63 2 (some ⟨w1.heap.size, 0, none⟩) 30 30 ((upto wayT 30 0).flatMap LC) := Own.of_blk (n := 30) hF2.blk rfl (by decide)
  have hne : w.heap.size ≠ w1.heap.size := by have := hb1.lt; omega
  have hge : w.heap.size ≤ w1.heap.size := hF1.frm.size
  generalize hg1 : w1.heap.size = g1 at *
  generalize hg0 : w.heap.size = g0 at hb12 hne hge ⊢
  refine Ops.nil ?_
  refine thenQ_n ?_
  refine VC.seq ?_
  refine VC.region ?_
  refine Ops.r (v := .int .i64 ((1 : Nat) : Int)) (Run.asg rfl) rfl ?_
  refine Ops.nil ?_
  refine thenQ_n ?_
  refine VC.seq ?_
  refine VC.seq ?_
  refine VC.region ?_
  refine Ops.r (v := .int .i64 ((0 : Nat) : Int)) (Run.mv rfl) rfl ?_
  refine Ops.nil ?_
  refine thenQ_n ?_
  refine VC.block ?_
  refine VC.loop (σ := Nat) (fun s => [(0, .pointer (some ⟨g0, 0, none⟩)), (1, .pointer (some ⟨g1, 0, none⟩)), (2, .int .i64 ((nextW s : Nat) : Int)), (5, .int .i64 ((s : Nat) : Int))]) (fun s wr => s ≤ 30 ∧ Blk wr g0 63 (Value.agg #[.int .i64 0, .int .i64 0, .int .i64 0, .int .i64 0, .int .i64 0, .int .i64 0, .int .i64 0, .int .i64 0, .int .i64 0, .int .i64 0, .int .i64 0, .int .i64 0, .int .i64 0, .int .i64 0, .int .i64 0, .int .i64 0, .int .i64 0, .int .i64 0, .int .i64 0, .int .i64 0, .int .i64 0, .int .i64 0, .int .i64 0, .int .i64 0, .int .i64 0, .int .i64 0, .int .i64 0, .int .i64 0, .int .i64 0, .int .i64 0, .int .i64 0, .int .i64 0, .int .i64 0, .int .i64 0, .int .i64 0, .int .i64 0, .int .i64 0, .int .i64 0, .int .i64 0, .int .i64 0, .int .i64 0, .int .i64 0, .int .i64 0, .int .i64 0, .int .i64 0, .int .i64 0, .int .i64 0, .int .i64 0, .int .i64 0, .int .i64 0, .int .i64 0, .int .i64 0, .int .i64 0, .int .i64 0, .int .i64 0, .int .i64 0, .int .i64 0, .int .i64 0, .int .i64 0, .int .i64 0]).cells ∧ Own wr 63 2 (some ⟨g1, 0, none⟩) 30 30 ((upto wayT 30 s).flatMap LC) ∧ Frm [] w wr) (fun s => 30 - s) 0 (.cons rfl (.cons rfl (.cons rfl (.cons rfl .nil)))) ⟨by omega, hb12, ho2, hfr2⟩ ?_
  rintro i wr ⟨hi, hbr, hor, hfr⟩
  refine VC.seq ?_
  refine VC.region ?_
  refine Ops.r (Run.bin rfl rfl (Bin.lssN _ 30)) rfl ?_
  refine Ops.nil ?_
  refine thenQ_n ?_
  refine VC.seq ?_
  refine VC.condD rfl (fun hc1 => ?_) (fun hc1 => ?_)
  · skip
    obtain ⟨hs1, hs2, hs3, hs4, hs5⟩ := way_step i hc1
    refine VC.skip ?_
    refine thenQ_n ?_
    refine VC.sub [(0, _), (1, _), (2, _), (5, _)] (.cons rfl (.cons rfl (.cons rfl (.cons rfl .nil)))) ?_
    refine VC.seq ?_
    refine VC.block ?_
    refine VC.seq ?_
    refine VC.region ?_
    refine Ops.r (Run.mv rfl) rfl ?_
    refine Ops.r (Run.asg rfl) rfl ?_
    refine Ops.nil ?_
    refine thenQ_n ?_
    refine VC.sub [(0, _), (1, _), (2, _), (3, _), (5, _)] (.cons rfl (.cons rfl (.cons rfl (.cons rfl (.cons rfl .nil))))) ?_
    refine VC.seq ?_
    refine VC.region ?_
    refine Ops.r (Run.mv rfl) rfl ?_
    refine Ops.r (Run.bin rfl rfl (Bin.quo_i64 _ 2 (by omega) (by omega))) rfl ?_
    refine Ops.r (Run.bin rfl rfl (Bin.subZ _ 1 (by omega) (by omega))) rfl ?_
    refine Ops.r (Run.maxI rfl rfl) rfl ?_
    rw [hs1]
    refine Ops.r (Run.asg rfl) rfl ?_
    refine Ops.nil ?_
    refine thenQ_n ?_
    refine VC.sub [(0, _), (1, _), (2, _), (3, _), (4, _), (5, _)] (.cons rfl (.cons rfl (.cons rfl (.cons rfl (.cons rfl (.cons rfl .nil)))))) ?_
    refine VC.seq ?_
    refine VC.region ?_
    refine Ops.r (Run.mv rfl) rfl ?_
    refine Ops.r (Run.mv rfl) rfl ?_
    refine Ops.r (Run.mv rfl) rfl ?_
    refine Ops.r (Run.build (evs.cons rfl (evs.cons rfl evs.nil)) zero60 (places60).choose_spec.1 (places60).choose_spec.2 (cells := (LC (nextW i, (wayT.getD i (0, 0)).2)).toArray) rfl) rfl ?_
    refine Ops.r (Run.indexA i rfl rfl Try.underlying63 Try.sizeOf60 (by omega)) rfl ?_
    refine Ops.st (Acts.storeOwnA LC (nextW i, (wayT.getD i (0, 0)).2) i rfl rfl Try.sizeOf60 LC_len (upto_len _ _ _) hor rfl (by omega) (LC_one _)) ?_
    rintro w3 ⟨ho3, hf3, hs3'⟩
    rw [← hs5, upto_set _ _ _ (by omega)] at ho3
    refine Ops.nil ?_
    refine thenQ_n ?_
    refine VC.sub [(0, _), (1, _), (2, _), (4, _), (5, _)] (.cons rfl (.cons rfl (.cons rfl (.cons rfl (.cons rfl .nil))))) ?_
    refine VC.region ?_
    refine Ops.r (Run.mv rfl) rfl ?_
    refine Ops.r (Run.mv rfl) rfl ?_
    refine Ops.r (Run.bin rfl rfl (Bin.shl_i64 1 (wayT.getD i (0, 0)).2 (by omega) (by have := Nat.pow_le_pow_right (n := 2) (by omega) hs3; omega))) rfl ?_
    refine Ops.r (Run.bin rfl rfl (Bin.add_i64 (nextW i) (1 * 2 ^ (wayT.getD i (0, 0)).2) (by have := Nat.pow_le_pow_right (n := 2) (by omega) hs3; omega))) rfl ?_
    rw [Nat.one_mul, hs2]
    refine Ops.r (Run.asg rfl) rfl ?_
    refine Ops.nil ?_
    refine blockQ_n (thenQ_n ?_)
    refine VC.sub [(0, _), (1, _), (2, _), (5, _)] (.cons rfl (.cons rfl (.cons rfl (.cons rfl .nil)))) ?_
    refine VC.region ?_
    refine Ops.r (Run.bin rfl rfl (Bin.add_i64 _ 1 (by omega))) rfl ?_
    refine Ops.r (Run.mv rfl) rfl ?_
    refine Ops.nil ?_
    refine thenQ_n ⟨(i + 1), (.cons rfl (.cons rfl (.cons rfl (.cons rfl .nil)))), ?_, ?_⟩
    · skip
      exact ⟨hc1, hbr.frm hf3 (by simp [ob]; exact hne), ho3, hfr.own hf3 (fun x hx => by simp [ob] at hx; omega)⟩
    · skip
      first | omega | (dsimp only; omega)
  · skip
    have him : i = 30 := by omega
    subst him
    refine VC.exit ?_
    refine thenQ_x (thenQ_x (blockQ_x ?_))
    refine thenQ_n ?_
    refine VC.sub [(0, _), (1, _)] (.cons rfl (.cons rfl .nil)) ?_
    refine VC.seq ?_
    refine VC.region ?_
    have hup : upto wayT 30 30 = wayT := by decide +kernel
    rw [hup] at hor
    refine Ops.r (Run.loadA rfl Try.isAgg63 Try.sizeOf63 (Own_cells hor (by omega)) rfl) rfl ?_
    refine Ops.st (Acts.storeA rfl rfl Try.sizeOf63 hbr rfl (flat_one LC LC_one wayT)) ?_
    rintro w5 ⟨hb5, hf5, hs5⟩
    refine Ops.nil ?_
    refine thenQ_n ?_
    refine VC.sub [(0, _)] (.cons rfl .nil) ?_
    refine VC.ret ?_
    refine endR ?_
    refine res_cellB rfl Try.isAgg63 Try.sizeOf63 (hb5) rfl ?_
    refine res_nil ?_
    exact ⟨rfl, hfr.own hf5 (fun x hx => by simp at hx; omega)⟩

set_option maxRecDepth 100000 in
theorem iorder_spec (w : World) : Calls Try.prog 51 #[] w fun e w' => e = .returned (.agg (NI orderT).toArray) ∧ Frm [] w w' := by
  refine VC.calls (nt := 2) (res := #[.cell 0 86]) Try.func51 rfl Try.ntmps51 Try.results51 rfl ?_
  refine VC.seq ?_
  refine VC.region ?_
  refine Ops.m (Does.alloc zero86) rfl ?_
  rintro _ w1 ⟨rfl, hF1⟩
  have hb1 := hF1.blk
  generalize hg0 : w.heap.size = g0 at *
  refine Ops.nil ?_
  refine thenQ_n ?_
  refine VC.seq ?_
  refine VC.region ?_
  refine Ops.r (Run.buildA (evs.cons rfl (evs.cons rfl (evs.cons rfl (evs.cons rfl (evs.cons rfl (evs.cons rfl (evs.cons rfl (evs.cons rfl (evs.cons rfl (evs.cons rfl (evs.cons rfl (evs.cons rfl (evs.cons rfl (evs.cons rfl (evs.cons rfl (evs.cons rfl (evs.cons rfl (evs.cons rfl (evs.cons rfl evs.nil))))))))))))))))))) zero86 Try.underlying86 Try.sizeOf3 (cells := (NI orderT).toArray) (by kernel_rfl)) rfl ?_
  refine Ops.st (Acts.storeA rfl rfl Try.sizeOf86 hb1 rfl (NI_one orderT)) ?_
  rintro w5 ⟨hb5, hf5, hs5⟩
  refine Ops.nil ?_
  refine thenQ_n ?_
  refine VC.sub [(0, _)] (.cons rfl .nil) ?_
  refine VC.ret ?_
  refine endR ?_
  refine res_cellB rfl Try.isAgg86 Try.sizeOf86 (hb5) rfl ?_
  refine res_nil ?_
  exact ⟨rfl, hF1.frm.own hf5 (fun x hx => by simp at hx; omega)⟩

end Go.Proofs.Ytfjhmbgckmhdaaa
