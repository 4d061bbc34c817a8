/-
  The symbols of lengths and ways, as the program tells them, and the law 'InflateTables' of layer 12. No condition.
-/
import Derived.Test.YtfjhmbgckmhdaaaInfLA
import Derived.Test.YtfjhmbgckmhdaaaInfE
namespace Go.Proofs.Ytfjhmbgckmhdaaa
open Go.RowKit

theorem long_next : ∀ i, i < 28 → (longT.getD i (0, 0)).1 < (longT.getD (i + 1) (0, 0)).1 ∧ (longT.getD (i + 1) (0, 0)).1 ≤ (longT.getD i (0, 0)).1 + 2 ^ (longT.getD i (0, 0)).2 := by decide +kernel
theorem way_next : ∀ i, i < 29 → (wayT.getD (i + 1) (0, 0)).1 = (wayT.getD i (0, 0)).1 + 2 ^ (wayT.getD i (0, 0)).2 := by decide +kernel
theorem long_lt : ∀ i, i < 29 → 3 ≤ (longT.getD i (0, 0)).1 ∧ (longT.getD i (0, 0)).1 ≤ 258 ∧ (longT.getD i (0, 0)).2 ≤ 5 := by decide +kernel
theorem way_lt : ∀ i, i < 30 → 1 ≤ (wayT.getD i (0, 0)).1 ∧ (wayT.getD i (0, 0)).1 ≤ 24577 ∧ (wayT.getD i (0, 0)).2 ≤ 13 := by decide +kernel
theorem LC_at (t : List (Nat × Nat)) : ∀ i, i < t.length → (t.flatMap LC)[i * 2]? = some (.int .i64 (((t.getD i (0, 0)).1 : Nat) : Int)) ∧ (t.flatMap LC)[i * 2 + 1]? = some (.int .i64 (((t.getD i (0, 0)).2 : Nat) : Int)) := by
  induction t with
  | nil => intro i h; cases h
  | cons a r ih =>
    intro i h
    cases i with
    | zero => simp [LC]
    | succ i =>
      have := ih i (by simpa using h)
      rw [List.flatMap_cons]
      have e1 : (i + 1) * 2 = 2 + i * 2 := by omega
      have e2 : (i + 1) * 2 + 1 = 2 + (i * 2 + 1) := by omega
      rw [e1, show 2 + i * 2 + 1 = 2 + (i * 2 + 1) by omega]
      rw [List.getElem?_append_right (by simp [LC]), List.getElem?_append_right (by simp [LC])]
      simpa [LC] using this
theorem tab_cell {w : World} {g : Nat} {t : TypeId} {l : List (Nat × Nat)} (h : Blk w g t (l.flatMap LC).toArray) {i : Nat} (hi : i < l.length) :
    w.cell? ((⟨g, 0, none⟩ : Addr).add (i * 2)) = some (.int .i64 (((l.getD i (0, 0)).1 : Nat) : Int)) ∧ w.cell? (((⟨g, 0, none⟩ : Addr).add (i * 2)).add 1) = some (.int .i64 (((l.getD i (0, 0)).2 : Nat) : Int)) := by
  obtain ⟨h1, h2⟩ := LC_at l i hi
  have e1 := h.cells (i * 2) _ (by simpa using h1)
  have e2 := h.cells (i * 2 + 1) _ (by simpa using h2)
  refine ⟨e1, ?_⟩
  have : ((⟨g, 0, none⟩ : Addr).add (i * 2)).add 1 = (⟨g, 0, none⟩ : Addr).add (i * 2 + 1) := by unfold Addr.add; by_cases h : i * 2 = 0 <;> simp [h]
  rw [this]
  exact e2

set_option maxRecDepth 100000 in
theorem ilen_out (n : Int) (w : World) (hn : n < 3 ∨ 258 < n) : Calls Try.prog 15 #[.int .i64 n] w fun e w' => e = .returned (.tuple #[.int .i64 ((0 : Nat) : Int), .int .i64 ((0 : Nat) : Int), .int .i64 ((0 : Nat) : Int)]) ∧ Frm [] w w' := by
  refine VC.calls (nt := 34) (res := #[.tmp 2, .tmp 3, .tmp 4]) Try.func15 rfl Try.ntmps15 Try.results15 rfl ?_
  refine VC.seq ?_
  refine VC.region ?_
  refine Ops.r (v := .int .i64 ((0 : Nat) : Int)) (Run.asg rfl) rfl ?_
  refine Ops.r (v := .int .i64 ((0 : Nat) : Int)) (Run.asg rfl) rfl ?_
  refine Ops.r (v := .int .i64 ((0 : Nat) : Int)) (Run.asg rfl) rfl ?_
  refine Ops.nil ?_
  refine thenQ_n ?_
  refine VC.sub [(0, _)] (.cons rfl .nil) ?_
  refine VC.seq ?_
  refine VC.seq ?_
  refine VC.split1 [(0, _)] (.cons rfl .nil) 12 (.bool (decide ((n < 3) ∨ (258 < n)))) ?_ ?_
  · by_cases hs0 : n < 3
    · skip
      refine VC.region ?_
      refine Ops.r (Run.mv rfl) rfl ?_
      refine Ops.r (Run.bin rfl rfl (Bin.lss _ 3)) rfl ?_
      refine Ops.r (Run.mv rfl) rfl ?_
      refine Ops.sk rfl (by first | rfl | assumption | exact decide_eq_true (by assumption) | exact decide_eq_false (by assumption) | decide | (simp; done) | (simp; omega) | (simp [*]; done)) rfl ?_
      refine Ops.sk rfl (by first | rfl | assumption | exact decide_eq_true (by assumption) | exact decide_eq_false (by assumption) | decide | (simp; done) | (simp; omega) | (simp [*]; done)) rfl ?_
      refine Ops.r (Run.pickT rfl rfl (by first | rfl | assumption | exact decide_eq_true (by assumption) | exact decide_eq_false (by assumption) | decide | (simp; done) | (simp; omega) | (simp [*]; done))) rfl ?_
      refine Ops.nil ?_
      refine thenQ_n ⟨(.cons (by rw [dor1 hs0]; rfl) (.cons rfl .nil)), rfl⟩
    · skip
      refine VC.region ?_
      refine Ops.r (Run.mv rfl) rfl ?_
      refine Ops.r (Run.bin rfl rfl (Bin.lss _ 3)) rfl ?_
      refine Ops.r (Run.mv rfl) rfl ?_
      refine Ops.rg rfl (by first | rfl | assumption | exact decide_eq_true (by assumption) | exact decide_eq_false (by assumption) | decide | (simp; done) | (simp; omega) | (simp [*]; done)) (Run.mv rfl) rfl ?_
      refine Ops.rg rfl (by first | rfl | assumption | exact decide_eq_true (by assumption) | exact decide_eq_false (by assumption) | decide | (simp; done) | (simp; omega) | (simp [*]; done)) (Run.bin rfl rfl (Bin.gtr _ 258)) rfl ?_
      refine Ops.r (Run.pickF rfl rfl (by first | rfl | assumption | exact decide_eq_true (by assumption) | exact decide_eq_false (by assumption) | decide | (simp; done) | (simp; omega) | (simp [*]; done))) rfl ?_
      refine Ops.nil ?_
      refine thenQ_n ⟨(.cons (by rw [dor0 hs0]; rfl) (.cons rfl .nil)), rfl⟩
  · intro Γ hΓ
    refine thenQ_n (VC.sub _ hΓ ?_)
    refine VC.condT rfl (decide_eq_true hn) ?_
    refine VC.seq ?_
    refine VC.region ?_
    refine Ops.r (v := .int .i64 ((0 : Nat) : Int)) (Run.asg rfl) rfl ?_
    refine Ops.r (v := .int .i64 ((0 : Nat) : Int)) (Run.asg rfl) rfl ?_
    refine Ops.r (v := .int .i64 ((0 : Nat) : Int)) (Run.asg rfl) rfl ?_
    refine Ops.nil ?_
    refine thenQ_n ?_
    refine VC.sub [(2, _), (3, _), (4, _)] (.cons rfl (.cons rfl (.cons rfl .nil))) ?_
    refine VC.ret ?_
    refine thenQ_r (end3 rfl rfl rfl ?_)
    exact ⟨rfl, Frm.refl _ _⟩

set_option maxRecDepth 100000 in
theorem ilen_in (n : Nat) (w : World) (h1 : 3 ≤ n) (h2 : n ≤ 258) : Calls Try.prog 15 #[.int .i64 ((n : Nat) : Int)] w fun e w' => (∃ i, i < 29 ∧ (longT.getD i (0, 0)).1 ≤ n ∧ (∀ j, i < j → j < 29 → n < (longT.getD j (0, 0)).1) ∧ e = .returned (.tuple #[.int .i64 ((257 + i : Nat) : Int), .int .i64 (((longT.getD i (0, 0)).2 : Nat) : Int), .int .i64 ((n - (longT.getD i (0, 0)).1 : Nat) : Int)])) ∧ Frm [] w w' := by
  refine VC.calls (nt := 34) (res := #[.tmp 2, .tmp 3, .tmp 4]) Try.func15 rfl Try.ntmps15 Try.results15 rfl ?_
  refine VC.seq ?_
  refine VC.region ?_
  refine Ops.r (v := .int .i64 ((0 : Nat) : Int)) (Run.asg rfl) rfl ?_
  refine Ops.r (v := .int .i64 ((0 : Nat) : Int)) (Run.asg rfl) rfl ?_
  refine Ops.r (v := .int .i64 ((0 : Nat) : Int)) (Run.asg rfl) rfl ?_
  refine Ops.nil ?_
  refine thenQ_n ?_
  refine VC.sub [(0, _)] (.cons rfl .nil) ?_
  refine VC.seq ?_
  refine VC.seq ?_
  refine VC.region ?_
  refine Ops.r (Run.mv rfl) rfl ?_
  refine Ops.r (Run.bin rfl rfl (Bin.lssN _ 3)) rfl ?_
  refine Ops.r (Run.mv rfl) rfl ?_
  refine Ops.rg rfl (by first | rfl | assumption | exact decide_eq_true (by assumption) | exact decide_eq_false (by assumption) | decide | (simp; done) | (simp; omega) | (simp [*]; done)) (Run.mv rfl) rfl ?_
  refine Ops.rg rfl (by first | rfl | assumption | exact decide_eq_true (by assumption) | exact decide_eq_false (by assumption) | decide | (simp; done) | (simp; omega) | (simp [*]; done)) (Run.bin rfl rfl (Bin.gtrN _ 258)) rfl ?_
  refine Ops.r (Run.pickF rfl rfl (by first | rfl | assumption | (simp; done) | (simp [*]; done) | (simp; omega))) rfl ?_
  refine Ops.nil ?_
  refine thenQ_n ?_
  refine VC.sub [(0, _), (12, _)] (.cons rfl (.cons rfl .nil)) ?_
  refine VC.condF rfl (by first | rfl | assumption | (simp; done) | (simp [*]; done) | (simp; omega)) ?_
  refine VC.skip ?_
  refine thenQ_n ?_
  refine VC.sub [(0, _)] (.cons rfl .nil) ?_
  refine VC.seq ?_
  refine VC.region ?_
  refine Ops.cl (Enters.fn evs.nil Try.call32) (ilengths_spec _) rfl ?_
  rintro e w1 ⟨rfl, hf1⟩
  refine ⟨_, rfl, ?_⟩
  refine Ops.m (Does.alloc zero61) rfl ?_
  rintro _ w2 ⟨rfl, hF2⟩
  refine Ops.st (Acts.storeA rfl rfl Try.sizeOf61 hF2.blk rfl (flat_one LC LC_one longT)) ?_
  rintro w3 ⟨hb3, hf3, hs3⟩
  have hfr3 : Frm [] w w3 := (hf1.trans hF2.frm (by simp)).trans hf3 (fun x hx => .inr (by have := hf1.size; simp at hx; omega))
  have hb3 : Blk w3 w1.heap.size 61 (longT.flatMap LC).toArray := hb3
  generalize w1.heap.size = g at *
  refine Ops.nil ?_
  refine thenQ_n ?_
  refine VC.sub [(0, _), (5, _)] (.cons rfl (.cons rfl .nil)) ?_
  refine VC.seq ?_
  refine VC.region ?_
  refine Ops.r (v := .int .i64 ((28 : Nat) : Int)) (Run.asg rfl) rfl ?_
  refine Ops.nil ?_
  refine thenQ_n ?_
  refine VC.block ?_
  refine VC.loop (σ := Nat) (fun s => [(0, _), (5, _), (6, .int .i64 ((s : Nat) : Int))]) (fun s wr => s < 29 ∧ (∀ j, s < j → j < 29 → n < (longT.getD j (0, 0)).1) ∧ wr = w3) (fun s => s) 28 (.cons rfl (.cons rfl (.cons rfl .nil))) ⟨by omega, fun j h1 h2 => by omega, rfl⟩ ?_
  rintro i wr ⟨hi, hlast, rfl⟩
  obtain ⟨hc0, hc1⟩ := tab_cell hb3 (i := i) hi
  obtain ⟨hl1, hl2, hl3⟩ := long_lt i hi
  refine VC.seq ?_
  refine VC.block ?_
  refine VC.seq ?_
  refine VC.region ?_
  refine Ops.r (Run.mv rfl) rfl ?_
  refine Ops.r (Run.indexA i rfl rfl Try.underlying61 Try.sizeOf60 (by omega)) rfl ?_
  refine Ops.r (Run.fieldAddr rfl Try.underlying60 rfl Try.sizeOf3 (by decide)) rfl ?_
  refine Ops.r (Run.load rfl Try.isAgg3 hc0) rfl ?_
  refine Ops.r (Run.mv rfl) rfl ?_
  refine Ops.r (Run.bin rfl rfl (Bin.leqN _ _)) rfl ?_
  refine Ops.nil ?_
  refine thenQ_n ?_
  refine VC.sub [(0, _), (5, _), (6, _), (21, _)] (.cons rfl (.cons rfl (.cons rfl (.cons rfl .nil)))) ?_
  refine VC.condD rfl (fun hc2 => ?_) (fun hc2 => ?_)
  · skip
    refine VC.seq ?_
    refine VC.still (by kernel_rfl) (by kernel_rfl) ?_
    refine SOps.r (Run.mv rfl) rfl ?_
    refine SOps.r (Run.bin rfl rfl (Bin.add_i64 257 _ (by omega))) rfl ?_
    refine SOps.r (Run.mv rfl) rfl ?_
    refine SOps.r (Run.indexA i rfl rfl Try.underlying61 Try.sizeOf60 (by omega)) rfl ?_
    refine SOps.r (Run.fieldAddr rfl Try.underlying60 rfl Try.sizeOf3 (by decide)) rfl ?_
    refine SOps.r (Run.load rfl Try.isAgg3 hc1) rfl ?_
    refine SOps.r (Run.mv rfl) rfl ?_
    refine SOps.r (Run.mv rfl) rfl ?_
    refine SOps.r (Run.indexA i rfl rfl Try.underlying61 Try.sizeOf60 (by omega)) rfl ?_
    refine SOps.r (Run.fieldAddr rfl Try.underlying60 rfl Try.sizeOf3 (by decide)) rfl ?_
    refine SOps.r (Run.load rfl Try.isAgg3 hc0) rfl ?_
    refine SOps.r (Run.bin rfl rfl (Bin.sub_i64 _ _ (by omega) (by omega))) rfl ?_
    refine SOps.r (Run.asg rfl) rfl ?_
    refine SOps.r (Run.asg rfl) rfl ?_
    refine SOps.r (Run.asg rfl) rfl ?_
    refine SOps.nil ?_
    refine thenQ_n ?_
    refine VC.sub [(2, _), (3, _), (4, _)] (.cons rfl (.cons rfl (.cons rfl .nil))) ?_
    refine VC.ret ?_
    refine blockQ_r (thenQ_r (thenQ_r (blockQ_r (end3 rfl rfl rfl ?_))))
    exact ⟨⟨i, hi, hc2, hlast, rfl⟩, hfr3.drawn (Drawn.drew _)⟩
  · skip
    have hi1 : 1 ≤ i := by rcases Nat.eq_zero_or_pos i with h | h; (subst h; exact absurd (show (longT.getD 0 (0, 0)).1 ≤ n from h1) hc2); exact h
    refine VC.skip ?_
    refine blockQ_n (thenQ_n ?_)
    refine VC.sub [(0, _), (5, _), (6, _)] (.cons rfl (.cons rfl (.cons rfl .nil))) ?_
    refine VC.region ?_
    refine Ops.r (Run.mv rfl) rfl ?_
    refine Ops.r (Run.bin rfl rfl (Bin.sub_i64 _ 1 (by omega) (by omega))) rfl ?_
    refine Ops.r (Run.asg rfl) rfl ?_
    refine Ops.nil ?_
    refine thenQ_n ⟨(i - 1), (.cons rfl (.cons rfl (.cons rfl .nil))), ?_, ?_⟩
    · skip
      refine ⟨by omega, fun j h3 h4 => ?_, rfl⟩
      by_cases hj : j = i
      · subst hj; omega
      · exact hlast j (by omega) h4
    · skip
      first | omega | (dsimp only; omega)

set_option maxRecDepth 100000 in
theorem iway_out (n : Int) (w : World) (hn : n < 1 ∨ 32768 < n) : Calls Try.prog 16 #[.int .i64 n] w fun e w' => e = .returned (.tuple #[.int .i64 (-1), .int .i64 ((0 : Nat) : Int), .int .i64 ((0 : Nat) : Int)]) ∧ Frm [] w w' := by
  refine VC.calls (nt := 33) (res := #[.tmp 2, .tmp 3, .tmp 4]) Try.func16 rfl Try.ntmps16 Try.results16 rfl ?_
  refine VC.seq ?_
  refine VC.region ?_
  refine Ops.r (v := .int .i64 ((0 : Nat) : Int)) (Run.asg rfl) rfl ?_
  refine Ops.r (v := .int .i64 ((0 : Nat) : Int)) (Run.asg rfl) rfl ?_
  refine Ops.r (v := .int .i64 ((0 : Nat) : Int)) (Run.asg rfl) rfl ?_
  refine Ops.nil ?_
  refine thenQ_n ?_
  refine VC.sub [(0, _)] (.cons rfl .nil) ?_
  refine VC.seq ?_
  refine VC.seq ?_
  refine VC.split1 [(0, _)] (.cons rfl .nil) 12 (.bool (decide ((n < 1) ∨ (32768 < n)))) ?_ ?_
  · by_cases hs0 : n < 1
    · skip
      refine VC.region ?_
      refine Ops.r (Run.mv rfl) rfl ?_
      refine Ops.r (Run.bin rfl rfl (Bin.lss _ 1)) rfl ?_
      refine Ops.r (Run.mv rfl) rfl ?_
      refine Ops.sk rfl (by first | rfl | assumption | exact decide_eq_true (by assumption) | exact decide_eq_false (by assumption) | decide | (simp; done) | (simp; omega) | (simp [*]; done)) rfl ?_
      refine Ops.sk rfl (by first | rfl | assumption | exact decide_eq_true (by assumption) | exact decide_eq_false (by assumption) | decide | (simp; done) | (simp; omega) | (simp [*]; done)) rfl ?_
      refine Ops.r (Run.pickT rfl rfl (by first | rfl | assumption | exact decide_eq_true (by assumption) | exact decide_eq_false (by assumption) | decide | (simp; done) | (simp; omega) | (simp [*]; done))) rfl ?_
      refine Ops.nil ?_
      refine thenQ_n ⟨(.cons (by rw [dor1 hs0]; rfl) (.cons rfl .nil)), rfl⟩
    · skip
      refine VC.region ?_
      refine Ops.r (Run.mv rfl) rfl ?_
      refine Ops.r (Run.bin rfl rfl (Bin.lss _ 1)) rfl ?_
      refine Ops.r (Run.mv rfl) rfl ?_
      refine Ops.rg rfl (by first | rfl | assumption | exact decide_eq_true (by assumption) | exact decide_eq_false (by assumption) | decide | (simp; done) | (simp; omega) | (simp [*]; done)) (Run.mv rfl) rfl ?_
      refine Ops.rg rfl (by first | rfl | assumption | exact decide_eq_true (by assumption) | exact decide_eq_false (by assumption) | decide | (simp; done) | (simp; omega) | (simp [*]; done)) (Run.bin rfl rfl (Bin.gtr _ 32768)) rfl ?_
      refine Ops.r (Run.pickF rfl rfl (by first | rfl | assumption | exact decide_eq_true (by assumption) | exact decide_eq_false (by assumption) | decide | (simp; done) | (simp; omega) | (simp [*]; done))) rfl ?_
      refine Ops.nil ?_
      refine thenQ_n ⟨(.cons (by rw [dor0 hs0]; rfl) (.cons rfl .nil)), rfl⟩
  · intro Γ hΓ
    refine thenQ_n (VC.sub _ hΓ ?_)
    refine VC.condT rfl (decide_eq_true hn) ?_
    refine VC.seq ?_
    refine VC.region ?_
    refine Ops.r (v := .int .i64 (-1)) (Run.asg rfl) rfl ?_
    refine Ops.r (v := .int .i64 ((0 : Nat) : Int)) (Run.asg rfl) rfl ?_
    refine Ops.r (v := .int .i64 ((0 : Nat) : Int)) (Run.asg rfl) rfl ?_
    refine Ops.nil ?_
    refine thenQ_n ?_
    refine VC.sub [(2, _), (3, _), (4, _)] (.cons rfl (.cons rfl (.cons rfl .nil))) ?_
    refine VC.ret ?_
    refine thenQ_r (end3 rfl rfl rfl ?_)
    exact ⟨rfl, Frm.refl _ _⟩

set_option maxRecDepth 100000 in
theorem iway_in (n : Nat) (w : World) (h1 : 1 ≤ n) (h2 : n ≤ 32768) : Calls Try.prog 16 #[.int .i64 ((n : Nat) : Int)] w fun e w' => (∃ i, i < 30 ∧ (wayT.getD i (0, 0)).1 ≤ n ∧ (∀ j, i < j → j < 30 → n < (wayT.getD j (0, 0)).1) ∧ e = .returned (.tuple #[.int .i64 ((i : Nat) : Int), .int .i64 (((wayT.getD i (0, 0)).2 : Nat) : Int), .int .i64 ((n - (wayT.getD i (0, 0)).1 : Nat) : Int)])) ∧ Frm [] w w' := by
  refine VC.calls (nt := 33) (res := #[.tmp 2, .tmp 3, .tmp 4]) Try.func16 rfl Try.ntmps16 Try.results16 rfl ?_
  refine VC.seq ?_
  refine VC.region ?_
  refine Ops.r (v := .int .i64 ((0 : Nat) : Int)) (Run.asg rfl) rfl ?_
  refine Ops.r (v := .int .i64 ((0 : Nat) : Int)) (Run.asg rfl) rfl ?_
  refine Ops.r (v := .int .i64 ((0 : Nat) : Int)) (Run.asg rfl) rfl ?_
  refine Ops.nil ?_
  refine thenQ_n ?_
  refine VC.sub [(0, _)] (.cons rfl .nil) ?_
  refine VC.seq ?_
  refine VC.seq ?_
  refine VC.region ?_
  refine Ops.r (Run.mv rfl) rfl ?_
  refine Ops.r (Run.bin rfl rfl (Bin.lssN _ 1)) rfl ?_
  refine Ops.r (Run.mv rfl) rfl ?_
  refine Ops.rg rfl (by first | rfl | assumption | exact decide_eq_true (by assumption) | exact decide_eq_false (by assumption) | decide | (simp; done) | (simp; omega) | (simp [*]; done)) (Run.mv rfl) rfl ?_
  refine Ops.rg rfl (by first | rfl | assumption | exact decide_eq_true (by assumption) | exact decide_eq_false (by assumption) | decide | (simp; done) | (simp; omega) | (simp [*]; done)) (Run.bin rfl rfl (Bin.gtrN _ 32768)) rfl ?_
  refine Ops.r (Run.pickF rfl rfl (by first | rfl | assumption | (simp; done) | (simp [*]; done) | (simp; omega))) rfl ?_
  refine Ops.nil ?_
  refine thenQ_n ?_
  refine VC.sub [(0, _), (12, _)] (.cons rfl (.cons rfl .nil)) ?_
  refine VC.condF rfl (by first | rfl | assumption | (simp; done) | (simp [*]; done) | (simp; omega)) ?_
  refine VC.skip ?_
  refine thenQ_n ?_
  refine VC.sub [(0, _)] (.cons rfl .nil) ?_
  refine VC.seq ?_
  refine VC.region ?_
  refine Ops.cl (Enters.fn evs.nil Try.call33) (iways_spec _) rfl ?_
  rintro e w1 ⟨rfl, hf1⟩
  refine ⟨_, rfl, ?_⟩
  refine Ops.m (Does.alloc zero63) rfl ?_
  rintro _ w2 ⟨rfl, hF2⟩
  refine Ops.st (Acts.storeA rfl rfl Try.sizeOf63 hF2.blk rfl (flat_one LC LC_one wayT)) ?_
  rintro w3 ⟨hb3, hf3, hs3⟩
  have hfr3 : Frm [] w w3 := (hf1.trans hF2.frm (by simp)).trans hf3 (fun x hx => .inr (by have := hf1.size; simp at hx; omega))
  have hb3 : Blk w3 w1.heap.size 63 (wayT.flatMap LC).toArray := hb3
  generalize w1.heap.size = g at *
  refine Ops.nil ?_
  refine thenQ_n ?_
  refine VC.sub [(0, _), (5, _)] (.cons rfl (.cons rfl .nil)) ?_
  refine VC.seq ?_
  refine VC.region ?_
  refine Ops.r (v := .int .i64 ((29 : Nat) : Int)) (Run.asg rfl) rfl ?_
  refine Ops.nil ?_
  refine thenQ_n ?_
  refine VC.block ?_
  refine VC.loop (σ := Nat) (fun s => [(0, _), (5, _), (6, .int .i64 ((s : Nat) : Int))]) (fun s wr => s < 30 ∧ (∀ j, s < j → j < 30 → n < (wayT.getD j (0, 0)).1) ∧ wr = w3) (fun s => s) 29 (.cons rfl (.cons rfl (.cons rfl .nil))) ⟨by omega, fun j h1 h2 => by omega, rfl⟩ ?_
  rintro i wr ⟨hi, hlast, rfl⟩
  obtain ⟨hc0, hc1⟩ := tab_cell hb3 (i := i) hi
  obtain ⟨hl1, hl2, hl3⟩ := way_lt i hi
  refine VC.seq ?_
  refine VC.block ?_
  refine VC.seq ?_
  refine VC.region ?_
  refine Ops.r (Run.mv rfl) rfl ?_
  refine Ops.r (Run.indexA i rfl rfl Try.underlying63 Try.sizeOf60 (by omega)) rfl ?_
  refine Ops.r (Run.fieldAddr rfl Try.underlying60 rfl Try.sizeOf3 (by decide)) rfl ?_
  refine Ops.r (Run.load rfl Try.isAgg3 hc0) rfl ?_
  refine Ops.r (Run.mv rfl) rfl ?_
  refine Ops.r (Run.bin rfl rfl (Bin.leqN _ _)) rfl ?_
  refine Ops.nil ?_
  refine thenQ_n ?_
  refine VC.sub [(0, _), (5, _), (6, _), (21, _)] (.cons rfl (.cons rfl (.cons rfl (.cons rfl .nil)))) ?_
  refine VC.condD rfl (fun hc2 => ?_) (fun hc2 => ?_)
  · skip
    refine VC.seq ?_
    refine VC.still (by kernel_rfl) (by kernel_rfl) ?_
    refine SOps.r (Run.mv rfl) rfl ?_
    refine SOps.r (Run.mv rfl) rfl ?_
    refine SOps.r (Run.indexA i rfl rfl Try.underlying63 Try.sizeOf60 (by omega)) rfl ?_
    refine SOps.r (Run.fieldAddr rfl Try.underlying60 rfl Try.sizeOf3 (by decide)) rfl ?_
    refine SOps.r (Run.load rfl Try.isAgg3 hc1) rfl ?_
    refine SOps.r (Run.mv rfl) rfl ?_
    refine SOps.r (Run.mv rfl) rfl ?_
    refine SOps.r (Run.indexA i rfl rfl Try.underlying63 Try.sizeOf60 (by omega)) rfl ?_
    refine SOps.r (Run.fieldAddr rfl Try.underlying60 rfl Try.sizeOf3 (by decide)) rfl ?_
    refine SOps.r (Run.load rfl Try.isAgg3 hc0) rfl ?_
    refine SOps.r (Run.bin rfl rfl (Bin.sub_i64 _ _ (by omega) (by omega))) rfl ?_
    refine SOps.r (Run.asg rfl) rfl ?_
    refine SOps.r (Run.asg rfl) rfl ?_
    refine SOps.r (Run.asg rfl) rfl ?_
    refine SOps.nil ?_
    refine thenQ_n ?_
    refine VC.sub [(2, _), (3, _), (4, _)] (.cons rfl (.cons rfl (.cons rfl .nil))) ?_
    refine VC.ret ?_
    refine blockQ_r (thenQ_r (thenQ_r (blockQ_r (end3 rfl rfl rfl ?_))))
    exact ⟨⟨i, hi, hc2, hlast, rfl⟩, hfr3.drawn (Drawn.drew _)⟩
  · skip
    have hi1 : 1 ≤ i := by rcases Nat.eq_zero_or_pos i with h | h; (subst h; exact absurd (show (wayT.getD 0 (0, 0)).1 ≤ n from h1) hc2); exact h
    refine VC.skip ?_
    refine blockQ_n (thenQ_n ?_)
    refine VC.sub [(0, _), (5, _), (6, _)] (.cons rfl (.cons rfl (.cons rfl .nil))) ?_
    refine VC.region ?_
    refine Ops.r (Run.mv rfl) rfl ?_
    refine Ops.r (Run.bin rfl rfl (Bin.sub_i64 _ 1 (by omega) (by omega))) rfl ?_
    refine Ops.r (Run.asg rfl) rfl ?_
    refine Ops.nil ?_
    refine thenQ_n ⟨(i - 1), (.cons rfl (.cons rfl (.cons rfl .nil))), ?_, ?_⟩
    · skip
      refine ⟨by omega, fun j h3 h4 => ?_, rfl⟩
      by_cases hj : j = i
      · subst hj; omega
      · exact hlast j (by omega) h4
    · skip
      first | omega | (dsimp only; omega)

set_option maxRecDepth 100000 in
theorem same12_spec (A B : Option Addr) (c d : Nat) (a b : List Int) (w : World) (hla : a.length ≤ 1000000) (hlb : b.length ≤ 1000000) (ha : Rd w 1 A a.length (IB a)) (hb : Rd w 1 B b.length (IB b)) :
    Calls Try.prog 17 #[.slice A a.length c, .slice B b.length d] w fun e w' => e = .returned (.bool (decide (a = b))) ∧ Drawn w w' := by
  refine VC.calls (nt := 26) (res := #[.tmp 4]) Try.func17 rfl Try.ntmps17 Try.results17 rfl ?_
  refine VC.seq ?_
  refine VC.region ?_
  refine Ops.r (Run.asg rfl) rfl ?_
  refine Ops.nil ?_
  refine thenQ_n ?_
  refine VC.sub [(0, _), (1, _)] (.cons rfl (.cons rfl .nil)) ?_
  refine VC.seq ?_
  refine VC.seq ?_
  refine VC.region ?_
  refine Ops.r (Run.mv rfl) rfl ?_
  refine Ops.r (Run.lenS rfl Try.underlying37) rfl ?_
  refine Ops.r (Run.mv rfl) rfl ?_
  refine Ops.r (Run.lenS rfl Try.underlying37) rfl ?_
  refine Ops.r (Run.bin rfl rfl (Bin.neqN _ _)) rfl ?_
  refine Ops.nil ?_
  refine thenQ_n ?_
  refine VC.sub [(0, _), (1, _), (10, _)] (.cons rfl (.cons rfl (.cons rfl .nil))) ?_
  refine VC.condD rfl (fun hc1 => ?_) (fun hc1 => ?_)
  · skip
    have hne : ¬ a = b := fun h => hc1 (by rw [h])
    refine VC.seq ?_
    refine VC.region ?_
    refine Ops.r (Run.asg rfl) rfl ?_
    refine Ops.nil ?_
    refine thenQ_n ?_
    refine VC.sub [(4, _)] (.cons rfl .nil) ?_
    refine VC.ret ?_
    refine thenQ_r (end1 rfl ?_)
    exact ⟨by simp [hne], Drawn.refl _⟩
  · skip
    have hll : a.length = b.length := Classical.not_not.1 hc1
    refine VC.skip ?_
    refine thenQ_n ?_
    refine VC.sub [(0, _), (1, _)] (.cons rfl (.cons rfl .nil)) ?_
    refine VC.seq ?_
    refine VC.seq ?_
    refine VC.region ?_
    refine Ops.r (v := .int .i64 ((0 : Nat) : Int)) (Run.asg rfl) rfl ?_
    refine Ops.nil ?_
    refine thenQ_n ?_
    refine VC.block ?_
    refine VC.loop (σ := Nat) (fun s => [(0, .slice A a.length c), (1, .slice B b.length d), (5, .int .i64 ((s : Nat) : Int))]) (fun s wr => s ≤ a.length ∧ a.take s = b.take s ∧ Drawn w wr) (fun s => a.length - s) 0 (.cons rfl (.cons rfl (.cons rfl .nil))) ⟨by omega, rfl, Drawn.refl _⟩ ?_
    rintro i wr ⟨hi, htk, hd⟩
    refine VC.seq ?_
    refine VC.seq ?_
    refine VC.region ?_
    refine Ops.r (Run.mv rfl) rfl ?_
    refine Ops.r (Run.mv rfl) rfl ?_
    refine Ops.r (Run.lenS rfl Try.underlying37) rfl ?_
    refine Ops.r (Run.bin rfl rfl (Bin.lssN _ _)) rfl ?_
    refine Ops.nil ?_
    refine thenQ_n ?_
    refine VC.sub [(0, _), (1, _), (5, _), (14, _)] (.cons rfl (.cons rfl (.cons rfl (.cons rfl .nil)))) ?_
    refine VC.condD rfl (fun hc2 => ?_) (fun hc2 => ?_)
    · skip
      have hib : i < b.length := by omega
      obtain ⟨ad, rfl, hcell⟩ := IB_at (ha.drawn (hd.trans (Drawn.drew _))) hc2
      obtain ⟨ad2, rfl, hcell2⟩ := IB_at (hb.drawn (hd.trans (Drawn.drew _))) hib
      have hta : a.take (i + 1) = a.take i ++ [a[i]] := by rw [List.take_add_one, List.getElem?_eq_getElem hc2]; rfl
      have htb : b.take (i + 1) = b.take i ++ [b[i]] := by rw [List.take_add_one, List.getElem?_eq_getElem hib]; rfl
      have hab : a = b → a[i] = b[i] := by rintro rfl; rfl
      generalize a[i] = x at *
      generalize b[i] = y at *
      refine VC.skip ?_
      refine thenQ_n ?_
      refine VC.sub [(0, _), (1, _), (5, _)] (.cons rfl (.cons rfl (.cons rfl .nil))) ?_
      refine VC.seq ?_
      refine VC.block ?_
      refine VC.seq ?_
      refine VC.still (by kernel_rfl) (by kernel_rfl) ?_
      refine SOps.r (Run.mv rfl) rfl ?_
      refine SOps.r (Run.mv rfl) rfl ?_
      refine SOps.r (Run.index1 _ rfl rfl Try.underlying37 Try.sizeOf3 (by omega)) rfl ?_
      refine SOps.r (Run.load rfl Try.isAgg3 hcell) rfl ?_
      refine SOps.r (Run.mv rfl) rfl ?_
      refine SOps.r (Run.mv rfl) rfl ?_
      refine SOps.r (Run.index1 _ rfl rfl Try.underlying37 Try.sizeOf3 (by omega)) rfl ?_
      refine SOps.r (Run.load rfl Try.isAgg3 hcell2) rfl ?_
      refine SOps.r (Run.bin rfl rfl (Bin.neq _ _)) rfl ?_
      refine SOps.nil ?_
      refine thenQ_n ?_
      refine VC.sub [(0, _), (1, _), (5, _), (25, _)] (.cons rfl (.cons rfl (.cons rfl (.cons rfl .nil)))) ?_
      refine VC.condD rfl (fun hc3 => ?_) (fun hc3 => ?_)
      · skip
        have hne : ¬ a = b := fun h => hc3 (hab h)
        refine VC.seq ?_
        refine VC.region ?_
        refine Ops.r (Run.asg rfl) rfl ?_
        refine Ops.nil ?_
        refine thenQ_n ?_
        refine VC.sub [(4, _)] (.cons rfl .nil) ?_
        refine VC.ret ?_
        refine blockQ_r (thenQ_r (thenQ_r (blockQ_r (thenQ_r (end1 rfl ?_)))))
        exact ⟨by simp [hne], hd.trans (Drawn.drew _)⟩
      · skip
        have hxy : x = y := Classical.not_not.1 hc3
        refine VC.skip ?_
        refine blockQ_n (thenQ_n ?_)
        refine VC.sub [(0, _), (1, _), (5, _)] (.cons rfl (.cons rfl (.cons rfl .nil))) ?_
        refine VC.region ?_
        refine Ops.r (Run.mv rfl) rfl ?_
        refine Ops.r (Run.bin rfl rfl (Bin.add_i64 _ 1 (by omega))) rfl ?_
        refine Ops.r (Run.asg rfl) rfl ?_
        refine Ops.nil ?_
        refine thenQ_n ⟨(i + 1), (.cons rfl (.cons rfl (.cons rfl .nil))), ?_, ?_⟩
        · skip
          exact ⟨hc2, by rw [hta, htb, htk, hxy], hd.trans (Drawn.drew _)⟩
        · skip
          first | omega | (dsimp only; omega)
    · skip
      have hil : i = a.length := by omega
      subst hil
      have heq : a = b := by
        rw [List.take_length, hll, List.take_length] at htk
        exact htk
      refine VC.exit ?_
      refine thenQ_x (thenQ_x (blockQ_x ?_))
      refine thenQ_n ?_
      refine VC.sub [] .nil ?_
      refine VC.seq ?_
      refine VC.region ?_
      refine Ops.r (Run.asg rfl) rfl ?_
      refine Ops.nil ?_
      refine thenQ_n ?_
      refine VC.ret ?_
      refine end1 rfl ?_
      exact ⟨by simp [heq], hd⟩

theorem ilen_spec (n : Int) (w : World) : Calls Try.prog 15 #[.int .i64 n] w fun e w' => (∃ s b v : Nat, e = .returned (.tuple #[.int .i64 ((s : Nat) : Int), .int .i64 ((b : Nat) : Int), .int .i64 ((v : Nat) : Int)]) ∧
    (((n < 3 ∨ 258 < n) ∧ s = 0 ∧ b = 0 ∧ v = 0) ∨ (¬ (n < 3 ∨ 258 < n) ∧ ∃ i, i < 29 ∧ s = 257 + i ∧ b = (longT.getD i (0, 0)).2 ∧ v < 2 ^ b ∧ b ≤ 5 ∧ (((longT.getD i (0, 0)).1 + v : Nat) : Int) = n ∧ (n = 258 ↔ i = 28)))) ∧ Frm [] w w' := by
  by_cases h : n < 3 ∨ 258 < n
  · refine (ilen_out n w h).mono fun e w' ⟨he, hf⟩ => ⟨⟨0, 0, 0, he, .inl ⟨h, rfl, rfl, rfl⟩⟩, hf⟩
  · obtain ⟨m, rfl⟩ : ∃ m : Nat, n = (m : Int) := ⟨n.toNat, by omega⟩
    refine (ilen_in m w (by omega) (by omega)).mono fun e w' ⟨⟨i, hi, h1, h2, he⟩, hf⟩ => ⟨⟨_, _, _, he, .inr ⟨h, i, hi, rfl, rfl, ?_, (long_lt i hi).2.2, ?_, ?_⟩⟩, hf⟩
    · by_cases h3 : i = 28
      · subst h3
        have e0 : (longT.getD 28 (0, 0)).1 = 258 := rfl
        have e1 : (longT.getD 28 (0, 0)).2 = 0 := rfl
        rw [e0, e1]
        omega
      · have := long_next i (by omega)
        have := h2 (i + 1) (by omega) (by omega)
        omega
    · omega
    · constructor
      · intro h3
        by_cases h4 : i = 28
        · exact h4
        · have := h2 28 (by omega) (by omega)
          have e0 : (longT.getD 28 (0, 0)).1 = 258 := rfl
          omega
      · intro h3
        subst h3
        have e0 : (longT.getD 28 (0, 0)).1 = 258 := rfl
        omega
theorem iway_spec (n : Int) (w : World) : Calls Try.prog 16 #[.int .i64 n] w fun e w' => (∃ (s : Int) (b v : Nat), e = .returned (.tuple #[.int .i64 s, .int .i64 ((b : Nat) : Int), .int .i64 ((v : Nat) : Int)]) ∧
    (((n < 1 ∨ 32768 < n) ∧ s = -1 ∧ b = 0 ∧ v = 0) ∨ (¬ (n < 1 ∨ 32768 < n) ∧ ∃ i : Nat, i < 30 ∧ s = (i : Int) ∧ b = (wayT.getD i (0, 0)).2 ∧ v < 2 ^ b ∧ b ≤ 13 ∧ (((wayT.getD i (0, 0)).1 + v : Nat) : Int) = n))) ∧ Frm [] w w' := by
  by_cases h : n < 1 ∨ 32768 < n
  · refine (iway_out n w h).mono fun e w' ⟨he, hf⟩ => ⟨⟨-1, 0, 0, he, .inl ⟨h, rfl, rfl, rfl⟩⟩, hf⟩
  · obtain ⟨m, rfl⟩ : ∃ m : Nat, n = (m : Int) := ⟨n.toNat, by omega⟩
    refine (iway_in m w (by omega) (by omega)).mono fun e w' ⟨⟨i, hi, h1, h2, he⟩, hf⟩ => ⟨⟨_, _, _, he, .inr ⟨h, i, hi, rfl, rfl, ?_, (way_lt i hi).2.2, ?_⟩⟩, hf⟩
    · by_cases h3 : i = 29
      · subst h3
        have e0 : (wayT.getD 29 (0, 0)).1 = 24577 := rfl
        have e1 : (wayT.getD 29 (0, 0)).2 = 13 := rfl
        rw [e0, e1]
        omega
      · have := way_next i (by omega)
        have := h2 (i + 1) (by omega) (by omega)
        omega
    · omega

set_option maxRecDepth 100000 in
theorem tables_walk (long far : Int) (w : World) : Calls Try.prog 7 #[.int .i64 long, .int .i64 far] w fun e w' => e = .returned (.bool true) ∧ Frm [] w w' := by
  refine VC.calls (nt := 158) (res := #[.tmp 4]) Try.func7 rfl Try.ntmps7 Try.results7 rfl ?_
  refine VC.seq ?_
  refine VC.region ?_
  refine Ops.r (Run.asg rfl) rfl ?_
  refine Ops.nil ?_
  refine thenQ_n ?_
  refine VC.sub [(0, _), (1, _)] (.cons rfl (.cons rfl .nil)) ?_
  refine VC.seq ?_
  refine VC.region ?_
  refine Ops.cl (Enters.fn evs.nil Try.call13) (ifixed_spec _) rfl ?_
  rintro e w1 ⟨A1, c1, B1, d1, rfl, hoA1, hoB1, hf1⟩
  refine ⟨_, rfl, ?_⟩
  refine Ops.r (Run.mv rfl) rfl ?_
  refine Ops.r (Run.extract rfl rfl) rfl ?_
  refine Ops.r (Run.extract rfl rfl) rfl ?_
  refine Ops.r (Run.asg rfl) rfl ?_
  refine Ops.r (Run.asg rfl) rfl ?_
  refine Ops.nil ?_
  refine thenQ_n ?_
  refine VC.sub [(0, _), (1, _), (5, _), (6, _)] (.cons rfl (.cons rfl (.cons rfl (.cons rfl .nil)))) ?_
  refine VC.seq ?_
  refine VC.region ?_
  refine Ops.cl (Enters.fn evs.nil Try.call14) (rfixed_spec _) rfl ?_
  rintro e w2 ⟨A2, c2, B2, d2, rfl, hoA2, hoB2, hf2⟩
  refine ⟨_, rfl, ?_⟩
  have hoA1 := hoA1.frm hf2 (by simp)
  have hoB1 := hoB1.frm hf2 (by simp)
  have hfr2 := hf1.trans hf2 (by simp)
  refine Ops.r (Run.mv rfl) rfl ?_
  refine Ops.r (Run.extract rfl rfl) rfl ?_
  refine Ops.r (Run.extract rfl rfl) rfl ?_
  refine Ops.r (Run.asg rfl) rfl ?_
  refine Ops.r (Run.asg rfl) rfl ?_
  refine Ops.nil ?_
  refine thenQ_n ?_
  refine VC.sub [(0, _), (1, _), (5, _), (6, _), (7, _), (8, _)] (.cons rfl (.cons rfl (.cons rfl (.cons rfl (.cons rfl (.cons rfl .nil)))))) ?_
  refine VC.seq ?_
  refine VC.region ?_
  refine Ops.r (Run.mv rfl) rfl ?_
  refine Ops.cl (Enters.fn (evs.cons rfl evs.nil) Try.call15) (ilen_spec long _) rfl ?_
  rintro e w3 ⟨⟨s, b, v, rfl, hS⟩, hf3⟩
  refine ⟨_, rfl, ?_⟩
  have hoA1 := hoA1.frm hf3 (by simp)
  have hoB1 := hoB1.frm hf3 (by simp)
  have hoA2 := hoA2.frm hf3 (by simp)
  have hoB2 := hoB2.frm hf3 (by simp)
  have hfr3 := hfr2.trans hf3 (by simp)
  refine Ops.r (Run.mv rfl) rfl ?_
  refine Ops.r (Run.extract rfl rfl) rfl ?_
  refine Ops.r (Run.extract rfl rfl) rfl ?_
  refine Ops.r (Run.extract rfl rfl) rfl ?_
  refine Ops.r (Run.asg rfl) rfl ?_
  refine Ops.r (Run.asg rfl) rfl ?_
  refine Ops.r (Run.asg rfl) rfl ?_
  refine Ops.nil ?_
  refine thenQ_n ?_
  refine VC.sub [(0, _), (1, _), (5, _), (6, _), (7, _), (8, _), (9, _), (10, _), (11, _)] (.cons rfl (.cons rfl (.cons rfl (.cons rfl (.cons rfl (.cons rfl (.cons rfl (.cons rfl (.cons rfl .nil))))))))) ?_
  refine VC.seq ?_
  refine VC.region ?_
  refine Ops.r (Run.mv rfl) rfl ?_
  refine Ops.cl (Enters.fn (evs.cons rfl evs.nil) Try.call16) (iway_spec far _) rfl ?_
  rintro e w4 ⟨⟨ws, wb, wv, rfl, hW⟩, hf4⟩
  refine ⟨_, rfl, ?_⟩
  have hoA1 := hoA1.frm hf4 (by simp)
  have hoB1 := hoB1.frm hf4 (by simp)
  have hoA2 := hoA2.frm hf4 (by simp)
  have hoB2 := hoB2.frm hf4 (by simp)
  have hfr4 := hfr3.trans hf4 (by simp)
  refine Ops.r (Run.mv rfl) rfl ?_
  refine Ops.r (Run.extract rfl rfl) rfl ?_
  refine Ops.r (Run.extract rfl rfl) rfl ?_
  refine Ops.r (Run.extract rfl rfl) rfl ?_
  refine Ops.r (Run.asg rfl) rfl ?_
  refine Ops.r (Run.asg rfl) rfl ?_
  refine Ops.r (Run.asg rfl) rfl ?_
  refine Ops.nil ?_
  refine thenQ_n ?_
  refine VC.sub [(0, _), (1, _), (5, _), (6, _), (7, _), (8, _), (9, _), (10, _), (11, _), (12, _), (13, _), (14, _)] (.cons rfl (.cons rfl (.cons rfl (.cons rfl (.cons rfl (.cons rfl (.cons rfl (.cons rfl (.cons rfl (.cons rfl (.cons rfl (.cons rfl .nil)))))))))))) ?_
  refine VC.seq ?_
  refine VC.seq ?_
  refine VC.region ?_
  refine Ops.r (Run.mv rfl) rfl ?_
  refine Ops.r (Run.mv rfl) rfl ?_
  refine Ops.cl (Enters.fn (evs.cons rfl (evs.cons rfl evs.nil)) Try.call17) (same12_spec A1 A2 c1 c2 fixedL fixedL _ (by decide) (by decide) hoA1.rd hoA2.rd) rfl ?_
  rintro e w5 ⟨rfl, hd5⟩
  refine ⟨_, rfl, ?_⟩
  have hfr5 := hfr4.drawn hd5
  refine Ops.r (Run.not rfl) rfl ?_
  refine Ops.r (Run.mv rfl) rfl ?_
  refine Ops.rg rfl (by first | rfl | assumption | exact decide_eq_true (by assumption) | exact decide_eq_false (by assumption) | decide | (simp; done) | (simp; omega) | (simp [*]; done)) (Run.mv rfl) rfl ?_
  refine Ops.rg rfl (by first | rfl | assumption | exact decide_eq_true (by assumption) | exact decide_eq_false (by assumption) | decide | (simp; done) | (simp; omega) | (simp [*]; done)) (Run.mv rfl) rfl ?_
  refine Ops.clg rfl (by first | rfl | assumption | exact decide_eq_true (by assumption) | exact decide_eq_false (by assumption) | decide | (simp; done) | (simp; omega) | (simp [*]; done)) (Enters.fn (evs.cons rfl (evs.cons rfl evs.nil)) Try.call17) (same12_spec B1 B2 d1 d2 fixedW fixedW _ (by decide) (by decide) (hoB1.drawn hd5).rd (hoB2.drawn hd5).rd) rfl ?_
  rintro e w6 ⟨rfl, hd6⟩
  refine ⟨_, rfl, ?_⟩
  have hfr6 := hfr5.drawn hd6
  refine Ops.rg rfl (by first | rfl | assumption | exact decide_eq_true (by assumption) | exact decide_eq_false (by assumption) | decide | (simp; done) | (simp; omega) | (simp [*]; done)) (Run.not rfl) rfl ?_
  refine Ops.r (Run.pickF rfl rfl (by simp)) rfl ?_
  refine Ops.nil ?_
  refine thenQ_n ?_
  refine VC.sub [(0, _), (1, _), (9, _), (10, _), (11, _), (12, _), (13, _), (14, _), (44, _)] (.cons rfl (.cons rfl (.cons rfl (.cons rfl (.cons rfl (.cons rfl (.cons rfl (.cons rfl (.cons rfl .nil))))))))) ?_
  refine VC.condF rfl (by simp) ?_
  refine VC.skip ?_
  refine thenQ_n ?_
  refine VC.sub [(0, _), (1, _), (9, _), (10, _), (11, _), (12, _), (13, _), (14, _)] (.cons rfl (.cons rfl (.cons rfl (.cons rfl (.cons rfl (.cons rfl (.cons rfl (.cons rfl .nil)))))))) ?_
  refine VC.seq ?_
  refine VC.seq ?_
  refine VC.split1 [(0, _), (1, _), (9, _), (10, _), (11, _), (12, _), (13, _), (14, _)] (.cons rfl (.cons rfl (.cons rfl (.cons rfl (.cons rfl (.cons rfl (.cons rfl (.cons rfl .nil)))))))) 50 (.bool (decide ((long < 3) ∨ (258 < long)))) ?_ ?_
  · by_cases hs0 : long < 3
    · skip
      refine VC.region ?_
      refine Ops.r (Run.mv rfl) rfl ?_
      refine Ops.r (Run.bin rfl rfl (Bin.lss _ 3)) rfl ?_
      refine Ops.r (Run.mv rfl) rfl ?_
      refine Ops.sk rfl (by first | rfl | assumption | exact decide_eq_true (by assumption) | exact decide_eq_false (by assumption) | decide | (simp; done) | (simp; omega) | (simp [*]; done)) rfl ?_
      refine Ops.sk rfl (by first | rfl | assumption | exact decide_eq_true (by assumption) | exact decide_eq_false (by assumption) | decide | (simp; done) | (simp; omega) | (simp [*]; done)) rfl ?_
      refine Ops.r (Run.pickT rfl rfl (by first | rfl | assumption | exact decide_eq_true (by assumption) | exact decide_eq_false (by assumption) | decide | (simp; done) | (simp; omega) | (simp [*]; done))) rfl ?_
      refine Ops.nil ?_
      refine thenQ_n ⟨(.cons (by rw [dor1 hs0]; rfl) (.cons rfl (.cons rfl (.cons rfl (.cons rfl (.cons rfl (.cons rfl (.cons rfl (.cons rfl .nil))))))))), rfl⟩
    · skip
      refine VC.region ?_
      refine Ops.r (Run.mv rfl) rfl ?_
      refine Ops.r (Run.bin rfl rfl (Bin.lss _ 3)) rfl ?_
      refine Ops.r (Run.mv rfl) rfl ?_
      refine Ops.rg rfl (by first | rfl | assumption | exact decide_eq_true (by assumption) | exact decide_eq_false (by assumption) | decide | (simp; done) | (simp; omega) | (simp [*]; done)) (Run.mv rfl) rfl ?_
      refine Ops.rg rfl (by first | rfl | assumption | exact decide_eq_true (by assumption) | exact decide_eq_false (by assumption) | decide | (simp; done) | (simp; omega) | (simp [*]; done)) (Run.bin rfl rfl (Bin.gtr _ 258)) rfl ?_
      refine Ops.r (Run.pickF rfl rfl (by first | rfl | assumption | exact decide_eq_true (by assumption) | exact decide_eq_false (by assumption) | decide | (simp; done) | (simp; omega) | (simp [*]; done))) rfl ?_
      refine Ops.nil ?_
      refine thenQ_n ⟨(.cons (by rw [dor0 hs0]; rfl) (.cons rfl (.cons rfl (.cons rfl (.cons rfl (.cons rfl (.cons rfl (.cons rfl (.cons rfl .nil))))))))), rfl⟩
  · intro Γ hΓ
    refine thenQ_n (VC.sub _ hΓ ?_)
    refine VC.meet (σ := Unit) (fun s => [(1, .int .i64 far), (12, .int .i64 ws), (13, .int .i64 ((wb : Nat) : Int)), (14, .int .i64 ((wv : Nat) : Int))]) (fun s wr => Frm [] w wr) ?_ ?_
    · skip
      refine VC.condD rfl (fun hc2 => ?_) (fun hc2 => ?_)
      · skip
        obtain ⟨rfl, rfl, rfl⟩ : s = 0 ∧ b = 0 ∧ v = 0 := by
          rcases hS with ⟨_, h⟩ | ⟨h, _⟩
          · exact h
          · exact absurd hc2 h
        refine VC.seq ?_
        refine VC.region ?_
        refine Ops.r (Run.mv rfl) rfl ?_
        refine Ops.r (Run.bin rfl rfl (Bin.neqN _ 0)) rfl ?_
        refine Ops.r (Run.mv rfl) rfl ?_
        refine Ops.rg rfl (by first | rfl | assumption | exact decide_eq_true (by assumption) | exact decide_eq_false (by assumption) | decide | (simp; done) | (simp; omega) | (simp [*]; done)) (Run.mv rfl) rfl ?_
        refine Ops.rg rfl (by first | rfl | assumption | exact decide_eq_true (by assumption) | exact decide_eq_false (by assumption) | decide | (simp; done) | (simp; omega) | (simp [*]; done)) (Run.bin rfl rfl (Bin.neqN _ 0)) rfl ?_
        refine Ops.r (Run.pickF rfl rfl (by first | rfl | assumption | (simp; done) | (simp [*]; done) | (simp; omega))) rfl ?_
        refine Ops.r (Run.mv rfl) rfl ?_
        refine Ops.rg rfl (by first | rfl | assumption | exact decide_eq_true (by assumption) | exact decide_eq_false (by assumption) | decide | (simp; done) | (simp; omega) | (simp [*]; done)) (Run.mv rfl) rfl ?_
        refine Ops.rg rfl (by first | rfl | assumption | exact decide_eq_true (by assumption) | exact decide_eq_false (by assumption) | decide | (simp; done) | (simp; omega) | (simp [*]; done)) (Run.bin rfl rfl (Bin.neqN _ 0)) rfl ?_
        refine Ops.r (Run.pickF rfl rfl (by first | rfl | assumption | (simp; done) | (simp [*]; done) | (simp; omega))) rfl ?_
        refine Ops.nil ?_
        refine thenQ_n ?_
        refine VC.sub [(1, _), (12, _), (13, _), (14, _), (60, _)] (.cons rfl (.cons rfl (.cons rfl (.cons rfl (.cons rfl .nil))))) ?_
        refine VC.condF rfl (rfl) ?_
        refine VC.skip ?_
        refine thenQ_n ⟨(), (.cons rfl (.cons rfl (.cons rfl (.cons rfl .nil)))), ?_⟩
        exact hfr6
      · skip
        obtain ⟨i, hi, rfl, rfl, hv, hb5, hlo, hiff⟩ : ∃ i, i < 29 ∧ s = 257 + i ∧ b = (longT.getD i (0, 0)).2 ∧ v < 2 ^ b ∧ b ≤ 5 ∧ (((longT.getD i (0, 0)).1 + v : Nat) : Int) = long ∧ (long = 258 ↔ i = 28) := by
          rcases hS with ⟨h, _⟩ | ⟨_, h⟩
          · exact absurd h hc2
          · exact h
        have hp5 := Nat.pow_le_pow_right (n := 2) (by omega) hb5
        have hl1 := (long_lt i hi).2.1
        have hv0 : decide (v ≥ 1 * 2 ^ (longT.getD i (0, 0)).2) = false := decide_eq_false (by omega)
        have hv1 : decide ((((longT.getD i (0, 0)).1 + v : Nat) : Int) ≠ long) = false := decide_eq_false (by omega)
        refine VC.seq ?_
        refine VC.region ?_
        refine Ops.r (Run.mv rfl) rfl ?_
        refine Ops.r (Run.bin rfl rfl (Bin.lssN _ 257)) rfl ?_
        refine Ops.r (Run.mv rfl) rfl ?_
        refine Ops.rg rfl (by first | rfl | assumption | exact decide_eq_true (by assumption) | exact decide_eq_false (by assumption) | decide | (simp; done) | (simp; omega) | (simp [*]; done)) (Run.mv rfl) rfl ?_
        refine Ops.rg rfl (by first | rfl | assumption | exact decide_eq_true (by assumption) | exact decide_eq_false (by assumption) | decide | (simp; done) | (simp; omega) | (simp [*]; done)) (Run.bin rfl rfl (Bin.gtrN _ 285)) rfl ?_
        refine Ops.r (Run.pickF rfl rfl (by first | rfl | assumption | (simp; done) | (simp [*]; done) | (simp; omega))) rfl ?_
        refine Ops.r (Run.mv rfl) rfl ?_
        refine Ops.rg rfl (by first | rfl | assumption | exact decide_eq_true (by assumption) | exact decide_eq_false (by assumption) | decide | (simp; done) | (simp; omega) | (simp [*]; done)) (Run.mv rfl) rfl ?_
        refine Ops.rg rfl (by first | rfl | assumption | exact decide_eq_true (by assumption) | exact decide_eq_false (by assumption) | decide | (simp; done) | (simp; omega) | (simp [*]; done)) (Run.mv rfl) rfl ?_
        refine Ops.rg rfl (by first | rfl | assumption | exact decide_eq_true (by assumption) | exact decide_eq_false (by assumption) | decide | (simp; done) | (simp; omega) | (simp [*]; done)) (Run.bin rfl rfl (Bin.sub_i64 _ 257 (by omega) (by omega))) rfl ?_
        rw [show 257 + i - 257 = i by omega]
        refine Ops.clg rfl (by first | rfl | assumption | exact decide_eq_true (by assumption) | exact decide_eq_false (by assumption) | decide | (simp; done) | (simp; omega) | (simp [*]; done)) (Enters.fn (evs.cons rfl evs.nil) Try.call18) (rlongBits_spec i _ hi) rfl ?_
        rintro e _ ⟨rfl, rfl⟩
        refine ⟨_, rfl, ?_⟩
        refine Ops.rg rfl (by first | rfl | assumption | exact decide_eq_true (by assumption) | exact decide_eq_false (by assumption) | decide | (simp; done) | (simp; omega) | (simp [*]; done)) (Run.bin rfl rfl (Bin.neqN _ _)) rfl ?_
        refine Ops.r (Run.pickF rfl rfl (by first | rfl | assumption | (simp; done) | (simp [*]; done) | (simp; omega))) rfl ?_
        refine Ops.r (Run.mv rfl) rfl ?_
        refine Ops.rg rfl (by first | rfl | assumption | exact decide_eq_true (by assumption) | exact decide_eq_false (by assumption) | decide | (simp; done) | (simp; omega) | (simp [*]; done)) (Run.mv rfl) rfl ?_
        refine Ops.rg rfl (by first | rfl | assumption | exact decide_eq_true (by assumption) | exact decide_eq_false (by assumption) | decide | (simp; done) | (simp; omega) | (simp [*]; done)) (Run.bin rfl rfl (Bin.lssN _ 0)) rfl ?_
        refine Ops.r (Run.pickF rfl rfl (by first | rfl | assumption | (simp; done) | (simp [*]; done) | (simp; omega))) rfl ?_
        refine Ops.r (Run.mv rfl) rfl ?_
        refine Ops.rg rfl (by first | rfl | assumption | exact decide_eq_true (by assumption) | exact decide_eq_false (by assumption) | decide | (simp; done) | (simp; omega) | (simp [*]; done)) (Run.mv rfl) rfl ?_
        refine Ops.rg rfl (by first | rfl | assumption | exact decide_eq_true (by assumption) | exact decide_eq_false (by assumption) | decide | (simp; done) | (simp; omega) | (simp [*]; done)) (Run.mv rfl) rfl ?_
        refine Ops.rg rfl (by first | rfl | assumption | exact decide_eq_true (by assumption) | exact decide_eq_false (by assumption) | decide | (simp; done) | (simp; omega) | (simp [*]; done)) (Run.convN _ rfl Try.underlying3 Try.underlying43 (by simp only [bmax]; omega)) rfl ?_
        refine Ops.rg rfl (by first | rfl | assumption | exact decide_eq_true (by assumption) | exact decide_eq_false (by assumption) | decide | (simp; done) | (simp; omega) | (simp [*]; done)) (Run.bin rfl rfl (Bin.shl_i64 1 (longT.getD i (0, 0)).2 (by omega) (by omega))) rfl ?_
        refine Ops.rg rfl (by first | rfl | assumption | exact decide_eq_true (by assumption) | exact decide_eq_false (by assumption) | decide | (simp; done) | (simp; omega) | (simp [*]; done)) (Run.bin rfl rfl (Bin.geqN _ _)) rfl ?_
        refine Ops.r (Run.pickF rfl rfl (by first | rfl | assumption | (simp; done) | (simp [*]; done) | (simp; omega))) rfl ?_
        refine Ops.r (Run.mv rfl) rfl ?_
        refine Ops.clg rfl (by first | rfl | assumption | exact decide_eq_true (by assumption) | exact decide_eq_false (by assumption) | decide | (simp; done) | (simp; omega) | (simp [*]; done)) (Enters.fn evs.nil Try.call19) (rlengths_spec _) rfl ?_
        rintro e w7 ⟨A7, c7, rfl, ho7, hf7, _⟩
        refine ⟨_, rfl, ?_⟩
        have hfr7 := hfr6.trans hf7 (by simp)
        obtain ⟨ad7, rfl, hcell7⟩ := NI_at (l := longL) (k := i) ho7.rd (by have : longL.length = 29 := rfl; omega)
        have hgd : longL[i]'(by have : longL.length = 29 := rfl; omega) = (longT.getD i (0, 0)).1 := by simp only [longL, List.getElem_map]; rw [List.getD_eq_getElem?_getD, List.getElem?_eq_getElem (show i < longT.length from hi)]; rfl
        refine Ops.rg rfl (by first | rfl | assumption | exact decide_eq_true (by assumption) | exact decide_eq_false (by assumption) | decide | (simp; done) | (simp; omega) | (simp [*]; done)) (Run.mv rfl) rfl ?_
        refine Ops.rg rfl (by first | rfl | assumption | exact decide_eq_true (by assumption) | exact decide_eq_false (by assumption) | decide | (simp; done) | (simp; omega) | (simp [*]; done)) (Run.bin rfl rfl (Bin.sub_i64 _ 257 (by omega) (by omega))) rfl ?_
        rw [show 257 + i - 257 = i by omega]
        refine Ops.rg rfl (by first | rfl | assumption | exact decide_eq_true (by assumption) | exact decide_eq_false (by assumption) | decide | (simp; done) | (simp; omega) | (simp [*]; done)) (Run.index1 i rfl rfl Try.underlying37 Try.sizeOf3 (by omega)) rfl ?_
        refine Ops.rg rfl (by first | rfl | assumption | exact decide_eq_true (by assumption) | exact decide_eq_false (by assumption) | decide | (simp; done) | (simp; omega) | (simp [*]; done)) (Run.load rfl Try.isAgg3 hcell7) rfl ?_
        rw [hgd]
        refine Ops.rg rfl (by first | rfl | assumption | exact decide_eq_true (by assumption) | exact decide_eq_false (by assumption) | decide | (simp; done) | (simp; omega) | (simp [*]; done)) (Run.mv rfl) rfl ?_
        refine Ops.rg rfl (by first | rfl | assumption | exact decide_eq_true (by assumption) | exact decide_eq_false (by assumption) | decide | (simp; done) | (simp; omega) | (simp [*]; done)) (Run.bin rfl rfl (Bin.add_i64 _ _ (by omega))) rfl ?_
        refine Ops.rg rfl (by first | rfl | assumption | exact decide_eq_true (by assumption) | exact decide_eq_false (by assumption) | decide | (simp; done) | (simp; omega) | (simp [*]; done)) (Run.mv rfl) rfl ?_
        refine Ops.rg rfl (by first | rfl | assumption | exact decide_eq_true (by assumption) | exact decide_eq_false (by assumption) | decide | (simp; done) | (simp; omega) | (simp [*]; done)) (Run.bin rfl rfl (Bin.neq _ _)) rfl ?_
        refine Ops.r (Run.pickF rfl rfl (by first | rfl | assumption | (simp; done) | (simp [*]; done) | (simp; omega))) rfl ?_
        refine Ops.r (Run.mv rfl) rfl ?_
        refine Ops.rg rfl (by first | rfl | assumption | exact decide_eq_true (by assumption) | exact decide_eq_false (by assumption) | decide | (simp; done) | (simp; omega) | (simp [*]; done)) (Run.mv rfl) rfl ?_
        refine Ops.rg rfl (by first | rfl | assumption | exact decide_eq_true (by assumption) | exact decide_eq_false (by assumption) | decide | (simp; done) | (simp; omega) | (simp [*]; done)) (Run.bin rfl rfl (Bin.eql _ 258)) rfl ?_
        refine Ops.rg rfl (by first | rfl | assumption | exact decide_eq_true (by assumption) | exact decide_eq_false (by assumption) | decide | (simp; done) | (simp; omega) | (simp [*]; done)) (Run.mv rfl) rfl ?_
        refine Ops.rg rfl (by first | rfl | assumption | exact decide_eq_true (by assumption) | exact decide_eq_false (by assumption) | decide | (simp; done) | (simp; omega) | (simp [*]; done)) (Run.bin rfl rfl (Bin.eqlN _ 285)) rfl ?_
        refine Ops.rg rfl (by first | rfl | assumption | exact decide_eq_true (by assumption) | exact decide_eq_false (by assumption) | decide | (simp; done) | (simp; omega) | (simp [*]; done)) (Run.neqB rfl rfl Try.underlying4) rfl ?_
        refine Ops.r (Run.pickF rfl rfl (by first | rfl | assumption | exact decide_eq_true (by assumption) | exact decide_eq_false (by assumption) | decide | (simp; done) | (simp; omega) | (simp [*]; done))) rfl ?_
        refine Ops.nil ?_
        refine thenQ_n ?_
        refine VC.sub [(1, _), (12, _), (13, _), (14, _), (102, _)] (.cons rfl (.cons rfl (.cons rfl (.cons rfl (.cons rfl .nil))))) ?_
        refine VC.condF rfl (by simp only [hiff]; by_cases h : i = 28 <;> simp [h] <;> omega) ?_
        refine VC.skip ?_
        refine thenQ_n ⟨(), (.cons rfl (.cons rfl (.cons rfl (.cons rfl .nil)))), ?_⟩
        exact hfr7
    · skip
      intro s0 wr hfrm Γ hΓ
      refine thenQ_n (VC.sub _ hΓ ?_)
      refine VC.seq ?_
      refine VC.seq ?_
      refine VC.split1 [(1, _), (12, _), (13, _), (14, _)] (.cons rfl (.cons rfl (.cons rfl (.cons rfl .nil)))) 108 (.bool (decide ((far < 1) ∨ (32768 < far)))) ?_ ?_
      · by_cases hs0 : far < 1
        · skip
          refine VC.region ?_
          refine Ops.r (Run.mv rfl) rfl ?_
          refine Ops.r (Run.bin rfl rfl (Bin.lss _ 1)) rfl ?_
          refine Ops.r (Run.mv rfl) rfl ?_
          refine Ops.sk rfl (by first | rfl | assumption | exact decide_eq_true (by assumption) | exact decide_eq_false (by assumption) | decide | (simp; done) | (simp; omega) | (simp [*]; done)) rfl ?_
          refine Ops.sk rfl (by first | rfl | assumption | exact decide_eq_true (by assumption) | exact decide_eq_false (by assumption) | decide | (simp; done) | (simp; omega) | (simp [*]; done)) rfl ?_
          refine Ops.r (Run.pickT rfl rfl (by first | rfl | assumption | exact decide_eq_true (by assumption) | exact decide_eq_false (by assumption) | decide | (simp; done) | (simp; omega) | (simp [*]; done))) rfl ?_
          refine Ops.nil ?_
          refine thenQ_n ⟨(.cons (by rw [dor1 hs0]; rfl) (.cons rfl (.cons rfl (.cons rfl (.cons rfl .nil))))), rfl⟩
        · skip
          refine VC.region ?_
          refine Ops.r (Run.mv rfl) rfl ?_
          refine Ops.r (Run.bin rfl rfl (Bin.lss _ 1)) rfl ?_
          refine Ops.r (Run.mv rfl) rfl ?_
          refine Ops.rg rfl (by first | rfl | assumption | exact decide_eq_true (by assumption) | exact decide_eq_false (by assumption) | decide | (simp; done) | (simp; omega) | (simp [*]; done)) (Run.mv rfl) rfl ?_
          refine Ops.rg rfl (by first | rfl | assumption | exact decide_eq_true (by assumption) | exact decide_eq_false (by assumption) | decide | (simp; done) | (simp; omega) | (simp [*]; done)) (Run.bin rfl rfl (Bin.gtr _ 32768)) rfl ?_
          refine Ops.r (Run.pickF rfl rfl (by first | rfl | assumption | exact decide_eq_true (by assumption) | exact decide_eq_false (by assumption) | decide | (simp; done) | (simp; omega) | (simp [*]; done))) rfl ?_
          refine Ops.nil ?_
          refine thenQ_n ⟨(.cons (by rw [dor0 hs0]; rfl) (.cons rfl (.cons rfl (.cons rfl (.cons rfl .nil))))), rfl⟩
      · intro Γ hΓ
        refine thenQ_n (VC.sub _ hΓ ?_)
        refine VC.condD rfl (fun hc5 => ?_) (fun hc5 => ?_)
        · skip
          obtain ⟨rfl, rfl, rfl⟩ : ws = -1 ∧ wb = 0 ∧ wv = 0 := by
            rcases hW with ⟨_, h⟩ | ⟨h, _⟩
            · exact h
            · exact absurd hc5 h
          refine VC.seq ?_
          refine VC.region ?_
          refine Ops.r (Run.mv rfl) rfl ?_
          refine Ops.r (Run.bin rfl rfl (Bin.eql _ (-1))) rfl ?_
          refine Ops.r (Run.mv rfl) rfl ?_
          refine Ops.rg rfl (by first | rfl | assumption | exact decide_eq_true (by assumption) | exact decide_eq_false (by assumption) | decide | (simp; done) | (simp; omega) | (simp [*]; done)) (Run.mv rfl) rfl ?_
          refine Ops.rg rfl (by first | rfl | assumption | exact decide_eq_true (by assumption) | exact decide_eq_false (by assumption) | decide | (simp; done) | (simp; omega) | (simp [*]; done)) (Run.bin rfl rfl (Bin.eqlN _ 0)) rfl ?_
          refine Ops.r (Run.pickT rfl rfl (by first | rfl | assumption | (simp; done) | (simp [*]; done) | (simp; omega))) rfl ?_
          refine Ops.r (Run.mv rfl) rfl ?_
          refine Ops.rg rfl (by first | rfl | assumption | exact decide_eq_true (by assumption) | exact decide_eq_false (by assumption) | decide | (simp; done) | (simp; omega) | (simp [*]; done)) (Run.mv rfl) rfl ?_
          refine Ops.rg rfl (by first | rfl | assumption | exact decide_eq_true (by assumption) | exact decide_eq_false (by assumption) | decide | (simp; done) | (simp; omega) | (simp [*]; done)) (Run.bin rfl rfl (Bin.eqlN _ 0)) rfl ?_
          refine Ops.r (Run.pickT rfl rfl (by first | rfl | assumption | (simp; done) | (simp [*]; done) | (simp; omega))) rfl ?_
          refine Ops.r (Run.mv rfl) rfl ?_
          refine Ops.clg rfl (by first | rfl | assumption | exact decide_eq_true (by assumption) | exact decide_eq_false (by assumption) | decide | (simp; done) | (simp; omega) | (simp [*]; done)) (Enters.fn evs.nil Try.call12) (awake12_spec _) rfl ?_
          rintro e w8 ⟨rfl, hf8⟩
          refine ⟨_, rfl, ?_⟩
          refine Ops.r (Run.pickT rfl rfl (by first | rfl | assumption | (simp; done) | (simp [*]; done) | (simp; omega))) rfl ?_
          refine Ops.r (Run.asg rfl) rfl ?_
          refine Ops.nil ?_
          refine thenQ_n ?_
          refine VC.sub [(4, _)] (.cons rfl .nil) ?_
          refine VC.ret ?_
          refine thenQ_r (end1 rfl ?_)
          exact ⟨rfl, hfrm.trans hf8 (by simp)⟩
        · skip
          obtain ⟨k, hk, rfl, rfl, hwv, hwb5, hwlo⟩ : ∃ i : Nat, i < 30 ∧ ws = (i : Int) ∧ wb = (wayT.getD i (0, 0)).2 ∧ wv < 2 ^ wb ∧ wb ≤ 13 ∧ (((wayT.getD i (0, 0)).1 + wv : Nat) : Int) = far := by
            rcases hW with ⟨h, _⟩ | ⟨_, h⟩
            · exact absurd h hc5
            · exact h
          have hp13 := Nat.pow_le_pow_right (n := 2) (by omega) hwb5
          have hl13 := (way_lt k hk).2.1
          have hv0 : decide (wv < 1 * 2 ^ (wayT.getD k (0, 0)).2) = true := decide_eq_true (by omega)
          have hv1 : decide ((((wayT.getD k (0, 0)).1 + wv : Nat) : Int) = far) = true := decide_eq_true (by omega)
          refine VC.skip ?_
          refine thenQ_n ?_
          refine VC.sub [(1, _), (12, _), (13, _), (14, _)] (.cons rfl (.cons rfl (.cons rfl (.cons rfl .nil)))) ?_
          refine VC.seq ?_
          refine VC.region ?_
          refine Ops.r (Run.mv rfl) rfl ?_
          refine Ops.r (Run.bin rfl rfl (Bin.geq _ 0)) rfl ?_
          refine Ops.r (Run.mv rfl) rfl ?_
          refine Ops.rg rfl (by first | rfl | assumption | exact decide_eq_true (by assumption) | exact decide_eq_false (by assumption) | decide | (simp; done) | (simp; omega) | (simp [*]; done)) (Run.mv rfl) rfl ?_
          refine Ops.rg rfl (by first | rfl | assumption | exact decide_eq_true (by assumption) | exact decide_eq_false (by assumption) | decide | (simp; done) | (simp; omega) | (simp [*]; done)) (Run.bin rfl rfl (Bin.lss _ 30)) rfl ?_
          refine Ops.r (Run.pickT rfl rfl (by first | rfl | assumption | (simp; done) | (simp [*]; done) | (simp; omega))) rfl ?_
          refine Ops.r (Run.mv rfl) rfl ?_
          refine Ops.rg rfl (by first | rfl | assumption | exact decide_eq_true (by assumption) | exact decide_eq_false (by assumption) | decide | (simp; done) | (simp; omega) | (simp [*]; done)) (Run.mv rfl) rfl ?_
          refine Ops.rg rfl (by first | rfl | assumption | exact decide_eq_true (by assumption) | exact decide_eq_false (by assumption) | decide | (simp; done) | (simp; omega) | (simp [*]; done)) (Run.mv rfl) rfl ?_
          refine Ops.clg rfl (by first | rfl | assumption | exact decide_eq_true (by assumption) | exact decide_eq_false (by assumption) | decide | (simp; done) | (simp; omega) | (simp [*]; done)) (Enters.fn (evs.cons rfl evs.nil) Try.call20) (rwayBits_spec k _ hk) rfl ?_
          rintro e _ ⟨rfl, rfl⟩
          refine ⟨_, rfl, ?_⟩
          refine Ops.rg rfl (by first | rfl | assumption | exact decide_eq_true (by assumption) | exact decide_eq_false (by assumption) | decide | (simp; done) | (simp; omega) | (simp [*]; done)) (Run.bin rfl rfl (Bin.eqlN _ _)) rfl ?_
          refine Ops.r (Run.pickT rfl rfl (by first | rfl | assumption | (simp; done) | (simp [*]; done) | (simp; omega))) rfl ?_
          refine Ops.r (Run.mv rfl) rfl ?_
          refine Ops.rg rfl (by first | rfl | assumption | exact decide_eq_true (by assumption) | exact decide_eq_false (by assumption) | decide | (simp; done) | (simp; omega) | (simp [*]; done)) (Run.mv rfl) rfl ?_
          refine Ops.rg rfl (by first | rfl | assumption | exact decide_eq_true (by assumption) | exact decide_eq_false (by assumption) | decide | (simp; done) | (simp; omega) | (simp [*]; done)) (Run.bin rfl rfl (Bin.geqN _ 0)) rfl ?_
          refine Ops.r (Run.pickT rfl rfl (by first | rfl | assumption | (simp; done) | (simp [*]; done) | (simp; omega))) rfl ?_
          refine Ops.r (Run.mv rfl) rfl ?_
          refine Ops.rg rfl (by first | rfl | assumption | exact decide_eq_true (by assumption) | exact decide_eq_false (by assumption) | decide | (simp; done) | (simp; omega) | (simp [*]; done)) (Run.mv rfl) rfl ?_
          refine Ops.rg rfl (by first | rfl | assumption | exact decide_eq_true (by assumption) | exact decide_eq_false (by assumption) | decide | (simp; done) | (simp; omega) | (simp [*]; done)) (Run.mv rfl) rfl ?_
          refine Ops.rg rfl (by first | rfl | assumption | exact decide_eq_true (by assumption) | exact decide_eq_false (by assumption) | decide | (simp; done) | (simp; omega) | (simp [*]; done)) (Run.convN _ rfl Try.underlying3 Try.underlying43 (by simp only [bmax]; omega)) rfl ?_
          refine Ops.rg rfl (by first | rfl | assumption | exact decide_eq_true (by assumption) | exact decide_eq_false (by assumption) | decide | (simp; done) | (simp; omega) | (simp [*]; done)) (Run.bin rfl rfl (Bin.shl_i64 1 (wayT.getD k (0, 0)).2 (by omega) (by omega))) rfl ?_
          refine Ops.rg rfl (by first | rfl | assumption | exact decide_eq_true (by assumption) | exact decide_eq_false (by assumption) | decide | (simp; done) | (simp; omega) | (simp [*]; done)) (Run.bin rfl rfl (Bin.lssN _ _)) rfl ?_
          refine Ops.r (Run.pickT rfl rfl (by first | rfl | assumption | (simp; done) | (simp [*]; done) | (simp; omega))) rfl ?_
          refine Ops.r (Run.mv rfl) rfl ?_
          refine Ops.clg rfl (by first | rfl | assumption | exact decide_eq_true (by assumption) | exact decide_eq_false (by assumption) | decide | (simp; done) | (simp; omega) | (simp [*]; done)) (Enters.fn evs.nil Try.call21) (rways_spec _) rfl ?_
          rintro e w7 ⟨A7, c7, rfl, ho7, hf7, _⟩
          refine ⟨_, rfl, ?_⟩
          have hfr7 := hfrm.trans hf7 (by simp)
          obtain ⟨ad7, rfl, hcell7⟩ := NI_at (l := wayL) (k := k) ho7.rd (by have : wayL.length = 30 := rfl; omega)
          have hgd : wayL[k]'(by have : wayL.length = 30 := rfl; omega) = (wayT.getD k (0, 0)).1 := by simp only [wayL, List.getElem_map]; rw [List.getD_eq_getElem?_getD, List.getElem?_eq_getElem (show k < wayT.length from hk)]; rfl
          refine Ops.rg rfl (by first | rfl | assumption | exact decide_eq_true (by assumption) | exact decide_eq_false (by assumption) | decide | (simp; done) | (simp; omega) | (simp [*]; done)) (Run.mv rfl) rfl ?_
          refine Ops.rg rfl (by first | rfl | assumption | exact decide_eq_true (by assumption) | exact decide_eq_false (by assumption) | decide | (simp; done) | (simp; omega) | (simp [*]; done)) (Run.index1 k rfl rfl Try.underlying37 Try.sizeOf3 (by omega)) rfl ?_
          refine Ops.rg rfl (by first | rfl | assumption | exact decide_eq_true (by assumption) | exact decide_eq_false (by assumption) | decide | (simp; done) | (simp; omega) | (simp [*]; done)) (Run.load rfl Try.isAgg3 hcell7) rfl ?_
          rw [hgd]
          refine Ops.rg rfl (by first | rfl | assumption | exact decide_eq_true (by assumption) | exact decide_eq_false (by assumption) | decide | (simp; done) | (simp; omega) | (simp [*]; done)) (Run.mv rfl) rfl ?_
          refine Ops.rg rfl (by first | rfl | assumption | exact decide_eq_true (by assumption) | exact decide_eq_false (by assumption) | decide | (simp; done) | (simp; omega) | (simp [*]; done)) (Run.bin rfl rfl (Bin.add_i64 _ _ (by omega))) rfl ?_
          refine Ops.rg rfl (by first | rfl | assumption | exact decide_eq_true (by assumption) | exact decide_eq_false (by assumption) | decide | (simp; done) | (simp; omega) | (simp [*]; done)) (Run.mv rfl) rfl ?_
          refine Ops.rg rfl (by first | rfl | assumption | exact decide_eq_true (by assumption) | exact decide_eq_false (by assumption) | decide | (simp; done) | (simp; omega) | (simp [*]; done)) (Run.bin rfl rfl (Bin.eql _ _)) rfl ?_
          refine Ops.r (Run.pickT rfl rfl (by first | rfl | assumption | (simp; done) | (simp [*]; done) | (simp; omega))) rfl ?_
          refine Ops.r (Run.mv rfl) rfl ?_
          refine Ops.clg rfl (by first | rfl | assumption | exact decide_eq_true (by assumption) | exact decide_eq_false (by assumption) | decide | (simp; done) | (simp; omega) | (simp [*]; done)) (Enters.fn evs.nil Try.call12) (awake12_spec _) rfl ?_
          rintro e w8 ⟨rfl, hf8⟩
          refine ⟨_, rfl, ?_⟩
          refine Ops.r (Run.pickT rfl rfl (by first | rfl | assumption | (simp; done) | (simp [*]; done) | (simp; omega))) rfl ?_
          refine Ops.r (Run.asg rfl) rfl ?_
          refine Ops.nil ?_
          refine thenQ_n ?_
          refine VC.sub [(4, _)] (.cons rfl .nil) ?_
          refine VC.ret ?_
          refine end1 rfl ?_
          exact ⟨rfl, hfr7.trans hf8 (by simp)⟩

end Go.Proofs.Ytfjhmbgckmhdaaa
