/-
  The walks of the document's date: a number's day, a clock.
-/
import Derived.Test.YtmfglifjnoilnaaDateV
namespace Go.Proofs.Ytmfglifjnoilnaa
open Go.RowKit

set_option maxRecDepth 100000 in
theorem rcivil_spec (n : Int) (w : World) : Calls Try.prog 64 #[.int .i64 n] w fun e w' =>
    w = w' ∧ ∃ y m d : Nat, ∃ b : Bool, e = .returned (.tuple #[.int .i64 ((y : Nat) : Int), .int .i64 ((m : Nat) : Int), .int .i64 ((d : Nat) : Int), .bool b]) ∧
      (((n < -719162 ∨ 2932896 < n) ∧ y = 0 ∧ m = 0 ∧ d = 0 ∧ b = false) ∨ (¬ (n < -719162 ∨ 2932896 < n) ∧ b = true ∧ CivOf n y m d)) := by
  refine VC.calls (nt := 48) (res := #[.tmp 2, .tmp 3, .tmp 4, .tmp 5]) Try.func64 rfl Try.ntmps64 Try.results64 rfl ?_
  refine VC.seq ?_
  refine VC.region ?_
  refine Ops.r (v := .int .i64 ((0 : Nat) : Int)) (Run.asg rfl) rfl ?_
  refine Ops.r (v := .int .i64 ((0 : Nat) : Int)) (Run.asg rfl) rfl ?_
  refine Ops.r (v := .int .i64 ((0 : Nat) : Int)) (Run.asg rfl) rfl ?_
  refine Ops.r (Run.asg rfl) rfl ?_
  refine Ops.nil ?_
  refine thenQ_n ?_
  refine VC.sub [(0, _)] (.cons rfl .nil) ?_
  refine VC.seq ?_
  refine VC.seq ?_
  refine VC.split1 [(0, _)] (.cons rfl .nil) 13 (.bool (decide (n < -719162 ∨ 2932896 < n))) ?_ ?_
  · refine VC.region ?_
    refine Ops.r (Run.mv rfl) rfl ?_
    refine Ops.r (Run.bin rfl rfl (Bin.lss _ (-719162))) rfl ?_
    by_cases hs9 : n < -719162
    · skip
      refine Ops.r (Run.mv rfl) rfl ?_
      refine Ops.sk rfl (by first | rfl | assumption | exact decide_eq_true (by assumption) | exact decide_eq_false (by assumption) | decide | (simp; done) | (simp; omega) | (simp [*]; done)) rfl ?_
      refine Ops.sk rfl (by first | rfl | assumption | exact decide_eq_true (by assumption) | exact decide_eq_false (by assumption) | decide | (simp; done) | (simp; omega) | (simp [*]; done)) rfl ?_
      refine Ops.r (Run.pickT rfl rfl (by first | rfl | assumption | exact decide_eq_true (by assumption) | exact decide_eq_false (by assumption) | decide | (simp; done) | (simp; omega) | (simp [*]; done))) rfl ?_
      refine Ops.nil ?_
      refine thenQ_n ⟨(.cons (congrArg (fun b => some (Value.bool b)) (Eq.symm (by simp [*]))) (.cons rfl .nil)), rfl⟩
    · skip
      refine Ops.r (Run.mv rfl) rfl ?_
      refine Ops.rg rfl (by first | rfl | assumption | exact decide_eq_true (by assumption) | exact decide_eq_false (by assumption) | decide | (simp; done) | (simp; omega) | (simp [*]; done)) (Run.mv rfl) rfl ?_
      refine Ops.rg rfl (by first | rfl | assumption | exact decide_eq_true (by assumption) | exact decide_eq_false (by assumption) | decide | (simp; done) | (simp; omega) | (simp [*]; done)) (Run.bin rfl rfl (Bin.gtr _ 2932896)) rfl ?_
      by_cases hs12 : 2932896 < n
      · skip
        refine Ops.r (Run.pickF rfl rfl (by first | rfl | assumption | exact decide_eq_true (by assumption) | exact decide_eq_false (by assumption) | decide | (simp; done) | (simp; omega) | (simp [*]; done))) rfl ?_
        refine Ops.nil ?_
        refine thenQ_n ⟨(.cons (congrArg (fun b => some (Value.bool b)) (Eq.symm (by simp [*]))) (.cons rfl .nil)), rfl⟩
      · skip
        refine Ops.r (Run.pickF rfl rfl (by first | rfl | assumption | exact decide_eq_true (by assumption) | exact decide_eq_false (by assumption) | decide | (simp; done) | (simp; omega) | (simp [*]; done))) rfl ?_
        refine Ops.nil ?_
        refine thenQ_n ⟨(.cons (congrArg (fun b => some (Value.bool b)) (Eq.symm (by simp [*]))) (.cons rfl .nil)), rfl⟩
  · intro Γ hΓ
    refine thenQ_n (VC.sub _ hΓ ?_)
    refine VC.condD rfl (fun hc1 => ?_) (fun hc1 => ?_)
    · skip
      refine VC.seq ?_
      refine VC.region ?_
      refine Ops.r (v := .int .i64 ((0 : Nat) : Int)) (Run.asg rfl) rfl ?_
      refine Ops.r (v := .int .i64 ((0 : Nat) : Int)) (Run.asg rfl) rfl ?_
      refine Ops.r (v := .int .i64 ((0 : Nat) : Int)) (Run.asg rfl) rfl ?_
      refine Ops.r (Run.asg rfl) rfl ?_
      refine Ops.nil ?_
      refine thenQ_n ?_
      refine VC.sub [(2, _), (3, _), (4, _), (5, _)] (.cons rfl (.cons rfl (.cons rfl (.cons rfl .nil)))) ?_
      refine VC.ret ?_
      refine thenQ_r (endR ?_)
      refine res_tmp rfl ?_
      refine res_tmp rfl ?_
      refine res_tmp rfl ?_
      refine res_tmp rfl ?_
      refine res_nil ?_
      exact ⟨rfl, 0, 0, 0, false, rfl, .inl ⟨hc1, rfl, rfl, rfl, rfl⟩⟩
    · skip
      obtain ⟨n1, hn1⟩ : ∃ n1 : Nat, n + 719162 = ((n1 : Nat) : Int) := ⟨(n + 719162).toNat, by omega⟩
      have hn1m : n1 ≤ 3652058 := by omega
      have h70 : aheadN 1970 = 719162 := rfl
      refine VC.skip ?_
      refine thenQ_n ?_
      refine VC.sub [(0, _)] (.cons rfl .nil) ?_
      refine VC.seq ?_
      refine VC.region ?_
      refine Ops.r (v := .int .i64 ((1970 : Nat) : Int)) (Run.asg rfl) rfl ?_
      refine Ops.nil ?_
      refine thenQ_n ?_
      refine VC.seq ?_
      refine VC.block ?_
      refine VC.loop (σ := Nat) (fun s => [(0, .int .i64 (((n1 : Nat) : Int) - ((aheadN s : Nat) : Int))), (6, .int .i64 ((s : Nat) : Int))]) (fun s wr => (1 ≤ s ∧ s ≤ 1970 ∧ aheadN s ≤ 719162) ∧ w = wr) (fun s => s) 1970 (.cons (congrArg (fun z => some (Value.int .i64 z)) (show n = ((n1 : Nat) : Int) - ((aheadN 1970 : Nat) : Int) by omega)) (.cons rfl .nil)) ⟨⟨by omega, by omega, by omega⟩, rfl⟩ ?_
      rintro y _ ⟨⟨hy1, hy2, hy3⟩, rfl⟩
      refine VC.seq ?_
      refine VC.seq ?_
      refine VC.region ?_
      refine Ops.r (Run.mv rfl) rfl ?_
      refine Ops.r (Run.bin rfl rfl (Bin.lss _ 0)) rfl ?_
      refine Ops.nil ?_
      refine thenQ_n ?_
      refine VC.sub [(0, _), (6, _), (15, _)] (.cons rfl (.cons rfl (.cons rfl .nil))) ?_
      refine VC.condD rfl (fun hc2 => ?_) (fun hc2 => ?_)
      · skip
        have hyn : y ≠ 1 := fun h => by subst h; rw [ahead_one] at hc2; omega
        have has := ahead_succ (y - 1) (by omega)
        have hwp := whole_pos (y - 1)
        rw [show y - 1 + 1 = y by omega] at has
        refine VC.skip ?_
        refine thenQ_n ?_
        refine VC.sub [(0, _), (6, _)] (.cons rfl (.cons rfl .nil)) ?_
        refine VC.block ?_
        refine VC.seq ?_
        refine VC.region ?_
        refine Ops.r (Run.mv rfl) rfl ?_
        refine Ops.r (Run.bin rfl rfl (Bin.sub_i64 _ 1 (by omega) (by omega))) rfl ?_
        refine Ops.r (Run.asg rfl) rfl ?_
        refine Ops.nil ?_
        refine thenQ_n ?_
        refine VC.sub [(0, _), (6, _)] (.cons rfl (.cons rfl .nil)) ?_
        refine VC.region ?_
        refine Ops.r (Run.mv rfl) rfl ?_
        refine Ops.r (Run.mv rfl) rfl ?_
        refine Ops.cl (Enters.fn (evs.cons rfl evs.nil) Try.call80) (whole_spec (y - 1) _) rfl ?_
        rintro e _ ⟨rfl, rfl⟩
        refine ⟨_, rfl, ?_⟩
        refine Ops.r (Run.bin rfl rfl (Bin.addZ _ _ (by omega) (by omega))) rfl ?_
        refine Ops.r (Run.asg rfl) rfl ?_
        refine Ops.nil ?_
        refine blockQ_n (thenQ_n ⟨(y - 1), (.cons (congrArg (fun z => some (Value.int .i64 z)) (show ((n1 : Nat) : Int) - ((aheadN y : Nat) : Int) + ((wholeN (y - 1) : Nat) : Int) = ((n1 : Nat) : Int) - ((aheadN (y - 1) : Nat) : Int) by omega)) (.cons rfl .nil)), ?_, ?_⟩)
        · skip
          exact ⟨⟨by omega, by omega, by omega⟩, rfl⟩
        · skip
          first | omega | (dsimp only; omega)
      · skip
        refine VC.exit ?_
        refine thenQ_x (thenQ_x (blockQ_x ?_))
        refine thenQ_n ?_
        refine VC.sub [(0, _), (6, _)] (.cons rfl (.cons rfl .nil)) ?_
        refine VC.seq ?_
        refine VC.block ?_
        refine VC.loop (σ := Nat) (fun s => [(0, .int .i64 ((n1 - aheadN s : Nat) : Int)), (6, .int .i64 ((s : Nat) : Int))]) (fun s wr => (1 ≤ s ∧ aheadN s ≤ n1) ∧ w = wr) (fun s => n1 + 1 - aheadN s) y (.cons (congrArg (fun z => some (Value.int .i64 z)) (show ((n1 : Nat) : Int) - ((aheadN y : Nat) : Int) = ((n1 - aheadN y : Nat) : Int) by omega)) (.cons rfl .nil)) ⟨⟨by omega, by omega⟩, rfl⟩ ?_
        rintro y _ ⟨⟨hy1, hy2⟩, rfl⟩
        have has := ahead_succ y hy1
        have hwp := whole_pos y
        have hyt := ahead_top y (by omega)
        refine VC.seq ?_
        refine VC.seq ?_
        refine VC.region ?_
        refine Ops.r (Run.mv rfl) rfl ?_
        refine Ops.r (Run.mv rfl) rfl ?_
        refine Ops.cl (Enters.fn (evs.cons rfl evs.nil) Try.call80) (whole_spec y _) rfl ?_
        rintro e _ ⟨rfl, rfl⟩
        refine ⟨_, rfl, ?_⟩
        refine Ops.r (Run.bin rfl rfl (Bin.geqN _ _)) rfl ?_
        refine Ops.nil ?_
        refine thenQ_n ?_
        refine VC.sub [(0, _), (6, _), (25, _)] (.cons rfl (.cons rfl (.cons rfl .nil))) ?_
        refine VC.condD rfl (fun hc3 => ?_) (fun hc3 => ?_)
        · skip
          refine VC.skip ?_
          refine thenQ_n ?_
          refine VC.sub [(0, _), (6, _)] (.cons rfl (.cons rfl .nil)) ?_
          refine VC.block ?_
          refine VC.seq ?_
          refine VC.region ?_
          refine Ops.r (Run.mv rfl) rfl ?_
          refine Ops.r (Run.mv rfl) rfl ?_
          refine Ops.cl (Enters.fn (evs.cons rfl evs.nil) Try.call80) (whole_spec y _) rfl ?_
          rintro e _ ⟨rfl, rfl⟩
          refine ⟨_, rfl, ?_⟩
          refine Ops.r (Run.bin rfl rfl (Bin.sub_i64 _ _ (by omega) (by omega))) rfl ?_
          refine Ops.r (Run.asg rfl) rfl ?_
          refine Ops.nil ?_
          refine thenQ_n ?_
          refine VC.sub [(0, _), (6, _)] (.cons rfl (.cons rfl .nil)) ?_
          refine VC.region ?_
          refine Ops.r (Run.mv rfl) rfl ?_
          refine Ops.r (Run.bin rfl rfl (Bin.add_i64 _ 1 (by omega))) rfl ?_
          refine Ops.r (Run.asg rfl) rfl ?_
          refine Ops.nil ?_
          refine blockQ_n (thenQ_n ⟨(y + 1), (.cons (congrArg (fun z : Nat => some (Value.int .i64 (z : Int))) (show n1 - aheadN y - wholeN y = n1 - aheadN (y + 1) by omega)) (.cons rfl .nil)), ?_, ?_⟩)
          · skip
            exact ⟨⟨by omega, by omega⟩, rfl⟩
          · skip
            first | omega | (dsimp only; omega)
        · skip
          refine VC.exit ?_
          refine thenQ_x (thenQ_x (blockQ_x ?_))
          refine thenQ_n ?_
          refine VC.sub [(0, _), (6, _)] (.cons rfl (.cons rfl .nil)) ?_
          refine VC.seq ?_
          refine VC.region ?_
          refine Ops.r (v := .int .i64 ((1 : Nat) : Int)) (Run.asg rfl) rfl ?_
          refine Ops.nil ?_
          refine thenQ_n ?_
          refine VC.seq ?_
          refine VC.block ?_
          refine VC.loop (σ := Nat) (fun s => [(0, .int .i64 ((n1 - aheadN y - beforeN y s : Nat) : Int)), (6, .int .i64 ((y : Nat) : Int)), (7, .int .i64 ((s : Nat) : Int))]) (fun s wr => (1 ≤ s ∧ s ≤ 12 ∧ beforeN y s ≤ n1 - aheadN y) ∧ w = wr) (fun s => 13 - s) 1 (.cons rfl (.cons rfl (.cons rfl .nil))) ⟨⟨by omega, by omega, Nat.zero_le _⟩, rfl⟩ ?_
          rintro m _ ⟨⟨hm1, hm2, hm3⟩, rfl⟩
          have hbs := before_succ y m hm1
          refine VC.seq ?_
          refine VC.seq ?_
          refine VC.region ?_
          refine Ops.r (Run.mv rfl) rfl ?_
          refine Ops.r (Run.mv rfl) rfl ?_
          refine Ops.r (Run.mv rfl) rfl ?_
          refine Ops.cl (Enters.fn (evs.cons rfl (evs.cons rfl evs.nil)) Try.call81) (rlong_spec y m _) rfl ?_
          rintro e _ ⟨rfl, rfl⟩
          refine ⟨_, rfl, ?_⟩
          refine Ops.r (Run.bin rfl rfl (Bin.geqN _ _)) rfl ?_
          refine Ops.nil ?_
          refine thenQ_n ?_
          refine VC.sub [(0, _), (6, _), (7, _), (36, _)] (.cons rfl (.cons rfl (.cons rfl (.cons rfl .nil)))) ?_
          refine VC.condD rfl (fun hc4 => ?_) (fun hc4 => ?_)
          · skip
            refine VC.skip ?_
            refine thenQ_n ?_
            refine VC.sub [(0, _), (6, _), (7, _)] (.cons rfl (.cons rfl (.cons rfl .nil))) ?_
            refine VC.block ?_
            refine VC.seq ?_
            refine VC.region ?_
            refine Ops.r (Run.mv rfl) rfl ?_
            refine Ops.r (Run.mv rfl) rfl ?_
            refine Ops.r (Run.mv rfl) rfl ?_
            refine Ops.cl (Enters.fn (evs.cons rfl (evs.cons rfl evs.nil)) Try.call81) (rlong_spec y m _) rfl ?_
            rintro e _ ⟨rfl, rfl⟩
            refine ⟨_, rfl, ?_⟩
            refine Ops.r (Run.bin rfl rfl (Bin.sub_i64 _ _ (by omega) (by omega))) rfl ?_
            refine Ops.r (Run.asg rfl) rfl ?_
            refine Ops.nil ?_
            refine thenQ_n ?_
            refine VC.sub [(0, _), (6, _), (7, _)] (.cons rfl (.cons rfl (.cons rfl .nil))) ?_
            refine VC.region ?_
            refine Ops.r (Run.mv rfl) rfl ?_
            refine Ops.r (Run.bin rfl rfl (Bin.add_i64 _ 1 (by omega))) rfl ?_
            refine Ops.r (Run.asg rfl) rfl ?_
            refine Ops.nil ?_
            refine blockQ_n (thenQ_n ⟨(m + 1), (.cons (congrArg (fun z : Nat => some (Value.int .i64 (z : Int))) (show n1 - aheadN y - beforeN y m - longN y m = n1 - aheadN y - beforeN y (m + 1) by omega)) (.cons rfl (.cons rfl .nil))), ?_, ?_⟩)
            · skip
              refine ⟨⟨by omega, ?_, by omega⟩, rfl⟩
              apply Classical.byContradiction
              intro h
              have h12 : m = 12 := by omega
              subst h12
              have hbe := before_end y
              have : beforeN y (12 + 1) = beforeN y 13 := rfl
              omega
            · skip
              first | omega | (dsimp only; omega)
          · skip
            refine VC.exit ?_
            refine thenQ_x (thenQ_x (blockQ_x ?_))
            refine thenQ_n ?_
            refine VC.sub [(0, _), (6, _), (7, _)] (.cons rfl (.cons rfl (.cons rfl .nil))) ?_
            refine VC.seq ?_
            refine VC.region ?_
            refine Ops.r (Run.mv rfl) rfl ?_
            refine Ops.r (Run.mv rfl) rfl ?_
            refine Ops.r (Run.mv rfl) rfl ?_
            refine Ops.r (Run.bin rfl rfl (Bin.add_i64 _ 1 (by omega))) rfl ?_
            refine Ops.r (Run.asg rfl) rfl ?_
            refine Ops.r (Run.asg rfl) rfl ?_
            refine Ops.r (Run.asg rfl) rfl ?_
            refine Ops.r (Run.asg rfl) rfl ?_
            refine Ops.nil ?_
            refine thenQ_n ?_
            refine VC.sub [(2, _), (3, _), (4, _), (5, _)] (.cons rfl (.cons rfl (.cons rfl (.cons rfl .nil)))) ?_
            refine VC.ret ?_
            refine endR ?_
            refine res_tmp rfl ?_
            refine res_tmp rfl ?_
            refine res_tmp rfl ?_
            refine res_tmp rfl ?_
            refine res_nil ?_
            refine ⟨rfl, y, m, n1 - aheadN y - beforeN y m + 1, true, rfl, .inr ⟨hc1, rfl, ?_⟩⟩
            exact ⟨hy1, hyt, hm1, hm2, by omega, by omega, by omega⟩

theorem rciv_ok {n : Int} {y m d : Nat} {b : Bool} (h : ((n < -719162 ∨ 2932896 < n) ∧ y = 0 ∧ m = 0 ∧ d = 0 ∧ b = false) ∨ (¬ (n < -719162 ∨ 2932896 < n) ∧ b = true ∧ CivOf n y m d)) : b = decide (-719162 ≤ n ∧ n ≤ 2932896) := by
  rcases h with ⟨h1, _, _, _, h2⟩ | ⟨h1, h2, _⟩
  · rw [h2, decide_eq_false (by omega)]
  · rw [h2, decide_eq_true (by omega)]
/-- The day and the seconds of a clock; false: it may not be. -/
def clockV (a b : Int) : Int × Int × Bool := if b < -1439 ∨ 1439 < b ∨ a < -100000000000 ∨ 1000000000000 < a then (0, 0, false) else ((a + 60 * b) / 86400, (a + 60 * b) % 86400, decide (DateOk a b))
theorem clock_ok (a b : Int) : (clockV a b).2.2 = decide (DateOk a b) := by
  unfold clockV
  split
  · rw [decide_eq_false (by unfold DateOk; omega)]
  · rfl

set_option maxRecDepth 100000 in
theorem clock_spec (a b : Int) (w : World) : Calls Try.prog 48 #[.agg #[.int .i64 a, .int .i64 b]] w fun e w' => e = .returned (.tuple #[.int .i64 (clockV a b).1, .int .i64 (clockV a b).2.1, .bool (clockV a b).2.2]) ∧ Frm [] w w' := by
  refine VC.calls (nt := 57) (res := #[.tmp 2, .tmp 3, .tmp 4]) Try.func48 rfl Try.ntmps48 Try.results48 rfl ?_
  refine VC.seq ?_
  refine VC.region ?_
  refine Ops.m (Does.box rfl) rfl ?_
  rintro _ w1 ⟨rfl, hF1⟩
  have hb1 := hF1.blk
  have hf1 := hF1.frm
  generalize hg1 : w.heap.size = g1 at *
  refine Ops.r (v := .int .i64 ((0 : Nat) : Int)) (Run.asg rfl) rfl ?_
  refine Ops.r (v := .int .i64 ((0 : Nat) : Int)) (Run.asg rfl) rfl ?_
  refine Ops.r (Run.asg rfl) rfl ?_
  refine Ops.nil ?_
  refine thenQ_n ?_
  refine VC.sub [(1, _)] (.cons rfl .nil) ?_
  refine VC.seq ?_
  refine VC.seq ?_
  refine VC.split1 [(1, _)] (.cons rfl .nil) 28 (.bool (decide (b < -1439 ∨ 1439 < b ∨ a < -100000000000 ∨ 1000000000000 < a))) ?_ ?_
  · refine VC.region ?_
    refine Ops.r (Run.fieldAddr rfl Try.underlying42 rfl Try.sizeOf3 (by decide)) rfl ?_
    refine Ops.r (Run.load rfl Try.isAgg3 (hb1.cell 1)) rfl ?_
    refine Ops.r (Run.bin rfl rfl (Bin.lss _ (-1439))) rfl ?_
    by_cases hs13 : b < -1439
    · skip
      refine Ops.r (Run.mv rfl) rfl ?_
      refine Ops.sk rfl (by first | rfl | assumption | exact decide_eq_true (by assumption) | exact decide_eq_false (by assumption) | decide | (simp; done) | (simp; omega) | (simp [*]; done)) rfl ?_
      refine Ops.sk rfl (by first | rfl | assumption | exact decide_eq_true (by assumption) | exact decide_eq_false (by assumption) | decide | (simp; done) | (simp; omega) | (simp [*]; done)) rfl ?_
      refine Ops.sk rfl (by first | rfl | assumption | exact decide_eq_true (by assumption) | exact decide_eq_false (by assumption) | decide | (simp; done) | (simp; omega) | (simp [*]; done)) rfl ?_
      refine Ops.r (Run.pickT rfl rfl (by first | rfl | assumption | exact decide_eq_true (by assumption) | exact decide_eq_false (by assumption) | decide | (simp; done) | (simp; omega) | (simp [*]; done))) rfl ?_
      refine Ops.r (Run.mv rfl) rfl ?_
      refine Ops.sk rfl (by first | rfl | assumption | exact decide_eq_true (by assumption) | exact decide_eq_false (by assumption) | decide | (simp; done) | (simp; omega) | (simp [*]; done)) rfl ?_
      refine Ops.sk rfl (by first | rfl | assumption | exact decide_eq_true (by assumption) | exact decide_eq_false (by assumption) | decide | (simp; done) | (simp; omega) | (simp [*]; done)) rfl ?_
      refine Ops.sk rfl (by first | rfl | assumption | exact decide_eq_true (by assumption) | exact decide_eq_false (by assumption) | decide | (simp; done) | (simp; omega) | (simp [*]; done)) rfl ?_
      refine Ops.r (Run.pickT rfl rfl (by first | rfl | assumption | exact decide_eq_true (by assumption) | exact decide_eq_false (by assumption) | decide | (simp; done) | (simp; omega) | (simp [*]; done))) rfl ?_
      refine Ops.r (Run.mv rfl) rfl ?_
      refine Ops.sk rfl (by first | rfl | assumption | exact decide_eq_true (by assumption) | exact decide_eq_false (by assumption) | decide | (simp; done) | (simp; omega) | (simp [*]; done)) rfl ?_
      refine Ops.sk rfl (by first | rfl | assumption | exact decide_eq_true (by assumption) | exact decide_eq_false (by assumption) | decide | (simp; done) | (simp; omega) | (simp [*]; done)) rfl ?_
      refine Ops.sk rfl (by first | rfl | assumption | exact decide_eq_true (by assumption) | exact decide_eq_false (by assumption) | decide | (simp; done) | (simp; omega) | (simp [*]; done)) rfl ?_
      refine Ops.r (Run.pickT rfl rfl (by first | rfl | assumption | exact decide_eq_true (by assumption) | exact decide_eq_false (by assumption) | decide | (simp; done) | (simp; omega) | (simp [*]; done))) rfl ?_
      refine Ops.nil ?_
      refine thenQ_n ⟨(.cons (congrArg (fun b => some (Value.bool b)) (Eq.symm (by simp [*]))) (.cons rfl .nil)), rfl⟩
    · skip
      refine Ops.r (Run.mv rfl) rfl ?_
      refine Ops.rg rfl (by first | rfl | assumption | exact decide_eq_true (by assumption) | exact decide_eq_false (by assumption) | decide | (simp; done) | (simp; omega) | (simp [*]; done)) (Run.fieldAddr rfl Try.underlying42 rfl Try.sizeOf3 (by decide)) rfl ?_
      refine Ops.rg rfl (by first | rfl | assumption | exact decide_eq_true (by assumption) | exact decide_eq_false (by assumption) | decide | (simp; done) | (simp; omega) | (simp [*]; done)) (Run.load rfl Try.isAgg3 (hb1.cell 1)) rfl ?_
      refine Ops.rg rfl (by first | rfl | assumption | exact decide_eq_true (by assumption) | exact decide_eq_false (by assumption) | decide | (simp; done) | (simp; omega) | (simp [*]; done)) (Run.bin rfl rfl (Bin.gtr _ 1439)) rfl ?_
      by_cases hs17 : 1439 < b
      · skip
        refine Ops.r (Run.pickF rfl rfl (by first | rfl | assumption | exact decide_eq_true (by assumption) | exact decide_eq_false (by assumption) | decide | (simp; done) | (simp; omega) | (simp [*]; done))) rfl ?_
        refine Ops.r (Run.mv rfl) rfl ?_
        refine Ops.sk rfl (by first | rfl | assumption | exact decide_eq_true (by assumption) | exact decide_eq_false (by assumption) | decide | (simp; done) | (simp; omega) | (simp [*]; done)) rfl ?_
        refine Ops.sk rfl (by first | rfl | assumption | exact decide_eq_true (by assumption) | exact decide_eq_false (by assumption) | decide | (simp; done) | (simp; omega) | (simp [*]; done)) rfl ?_
        refine Ops.sk rfl (by first | rfl | assumption | exact decide_eq_true (by assumption) | exact decide_eq_false (by assumption) | decide | (simp; done) | (simp; omega) | (simp [*]; done)) rfl ?_
        refine Ops.r (Run.pickT rfl rfl (by first | rfl | assumption | exact decide_eq_true (by assumption) | exact decide_eq_false (by assumption) | decide | (simp; done) | (simp; omega) | (simp [*]; done))) rfl ?_
        refine Ops.r (Run.mv rfl) rfl ?_
        refine Ops.sk rfl (by first | rfl | assumption | exact decide_eq_true (by assumption) | exact decide_eq_false (by assumption) | decide | (simp; done) | (simp; omega) | (simp [*]; done)) rfl ?_
        refine Ops.sk rfl (by first | rfl | assumption | exact decide_eq_true (by assumption) | exact decide_eq_false (by assumption) | decide | (simp; done) | (simp; omega) | (simp [*]; done)) rfl ?_
        refine Ops.sk rfl (by first | rfl | assumption | exact decide_eq_true (by assumption) | exact decide_eq_false (by assumption) | decide | (simp; done) | (simp; omega) | (simp [*]; done)) rfl ?_
        refine Ops.r (Run.pickT rfl rfl (by first | rfl | assumption | exact decide_eq_true (by assumption) | exact decide_eq_false (by assumption) | decide | (simp; done) | (simp; omega) | (simp [*]; done))) rfl ?_
        refine Ops.nil ?_
        refine thenQ_n ⟨(.cons (congrArg (fun b => some (Value.bool b)) (Eq.symm (by simp [*]))) (.cons rfl .nil)), rfl⟩
      · skip
        refine Ops.r (Run.pickF rfl rfl (by first | rfl | assumption | exact decide_eq_true (by assumption) | exact decide_eq_false (by assumption) | decide | (simp; done) | (simp; omega) | (simp [*]; done))) rfl ?_
        refine Ops.r (Run.mv rfl) rfl ?_
        refine Ops.rg rfl (by first | rfl | assumption | exact decide_eq_true (by assumption) | exact decide_eq_false (by assumption) | decide | (simp; done) | (simp; omega) | (simp [*]; done)) (Run.fieldAddr rfl Try.underlying42 rfl Try.sizeOf2 (by decide)) rfl ?_
        refine Ops.rg rfl (by first | rfl | assumption | exact decide_eq_true (by assumption) | exact decide_eq_false (by assumption) | decide | (simp; done) | (simp; omega) | (simp [*]; done)) (Run.load rfl Try.isAgg2 (hb1.cell 0)) rfl ?_
        refine Ops.rg rfl (by first | rfl | assumption | exact decide_eq_true (by assumption) | exact decide_eq_false (by assumption) | decide | (simp; done) | (simp; omega) | (simp [*]; done)) (Run.bin rfl rfl (Bin.lss _ (-100000000000))) rfl ?_
        by_cases hs22 : a < -100000000000
        · skip
          refine Ops.r (Run.pickF rfl rfl (by first | rfl | assumption | exact decide_eq_true (by assumption) | exact decide_eq_false (by assumption) | decide | (simp; done) | (simp; omega) | (simp [*]; done))) rfl ?_
          refine Ops.r (Run.mv rfl) rfl ?_
          refine Ops.sk rfl (by first | rfl | assumption | exact decide_eq_true (by assumption) | exact decide_eq_false (by assumption) | decide | (simp; done) | (simp; omega) | (simp [*]; done)) rfl ?_
          refine Ops.sk rfl (by first | rfl | assumption | exact decide_eq_true (by assumption) | exact decide_eq_false (by assumption) | decide | (simp; done) | (simp; omega) | (simp [*]; done)) rfl ?_
          refine Ops.sk rfl (by first | rfl | assumption | exact decide_eq_true (by assumption) | exact decide_eq_false (by assumption) | decide | (simp; done) | (simp; omega) | (simp [*]; done)) rfl ?_
          refine Ops.r (Run.pickT rfl rfl (by first | rfl | assumption | exact decide_eq_true (by assumption) | exact decide_eq_false (by assumption) | decide | (simp; done) | (simp; omega) | (simp [*]; done))) rfl ?_
          refine Ops.nil ?_
          refine thenQ_n ⟨(.cons (congrArg (fun b => some (Value.bool b)) (Eq.symm (by simp [*]))) (.cons rfl .nil)), rfl⟩
        · skip
          refine Ops.r (Run.pickF rfl rfl (by first | rfl | assumption | exact decide_eq_true (by assumption) | exact decide_eq_false (by assumption) | decide | (simp; done) | (simp; omega) | (simp [*]; done))) rfl ?_
          refine Ops.r (Run.mv rfl) rfl ?_
          refine Ops.rg rfl (by first | rfl | assumption | exact decide_eq_true (by assumption) | exact decide_eq_false (by assumption) | decide | (simp; done) | (simp; omega) | (simp [*]; done)) (Run.fieldAddr rfl Try.underlying42 rfl Try.sizeOf2 (by decide)) rfl ?_
          refine Ops.rg rfl (by first | rfl | assumption | exact decide_eq_true (by assumption) | exact decide_eq_false (by assumption) | decide | (simp; done) | (simp; omega) | (simp [*]; done)) (Run.load rfl Try.isAgg2 (hb1.cell 0)) rfl ?_
          refine Ops.rg rfl (by first | rfl | assumption | exact decide_eq_true (by assumption) | exact decide_eq_false (by assumption) | decide | (simp; done) | (simp; omega) | (simp [*]; done)) (Run.bin rfl rfl (Bin.gtr _ 1000000000000)) rfl ?_
          by_cases hs27 : 1000000000000 < a
          · skip
            refine Ops.r (Run.pickF rfl rfl (by first | rfl | assumption | exact decide_eq_true (by assumption) | exact decide_eq_false (by assumption) | decide | (simp; done) | (simp; omega) | (simp [*]; done))) rfl ?_
            refine Ops.nil ?_
            refine thenQ_n ⟨(.cons (congrArg (fun b => some (Value.bool b)) (Eq.symm (by simp [*]))) (.cons rfl .nil)), rfl⟩
          · skip
            refine Ops.r (Run.pickF rfl rfl (by first | rfl | assumption | exact decide_eq_true (by assumption) | exact decide_eq_false (by assumption) | decide | (simp; done) | (simp; omega) | (simp [*]; done))) rfl ?_
            refine Ops.nil ?_
            refine thenQ_n ⟨(.cons (congrArg (fun b => some (Value.bool b)) (Eq.symm (by simp [*]))) (.cons rfl .nil)), rfl⟩
  · intro Γ hΓ
    refine thenQ_n (VC.sub _ hΓ ?_)
    refine VC.condD rfl (fun hc1 => ?_) (fun hc1 => ?_)
    · skip
      refine VC.seq ?_
      refine VC.region ?_
      refine Ops.r (v := .int .i64 ((0 : Nat) : Int)) (Run.asg rfl) rfl ?_
      refine Ops.r (v := .int .i64 ((0 : Nat) : Int)) (Run.asg rfl) rfl ?_
      refine Ops.r (Run.asg rfl) rfl ?_
      refine Ops.nil ?_
      refine thenQ_n ?_
      refine VC.sub [(2, _), (3, _), (4, _)] (.cons rfl (.cons rfl (.cons rfl .nil))) ?_
      refine VC.ret ?_
      refine thenQ_r (end3 rfl rfl rfl ?_)
      exact ⟨by rw [show clockV a b = (0, 0, false) from if_pos hc1]; rfl, hf1⟩
    · skip
      have e0 : a + b * 60 = a + 60 * b := by omega
      generalize hx : a + 60 * b = x at *
      have e1 := Int.tmod_add_mul_tdiv x 86400
      have e2 := Int.tmod_lt_of_pos x (b := 86400) (by decide)
      have e3 := Int.lt_tmod_of_pos x (b := 86400) (by decide)
      have hcv : clockV a b = (x / 86400, x % 86400, decide (DateOk a b)) := by rw [← hx]; exact if_neg hc1
      refine VC.skip ?_
      refine thenQ_n ?_
      refine VC.sub [(1, _)] (.cons rfl .nil) ?_
      refine VC.seq ?_
      refine VC.region ?_
      refine Ops.r (Run.fieldAddr rfl Try.underlying42 rfl Try.sizeOf2 (by decide)) rfl ?_
      refine Ops.r (Run.load rfl Try.isAgg2 (hb1.cell 0)) rfl ?_
      refine Ops.r (Run.fieldAddr rfl Try.underlying42 rfl Try.sizeOf3 (by decide)) rfl ?_
      refine Ops.r (Run.load rfl Try.isAgg3 (hb1.cell 1)) rfl ?_
      refine Ops.r (Run.bin rfl rfl (Bin.mulZ _ 60 (by omega) (by omega))) rfl ?_
      refine Ops.r (Run.bin rfl rfl (Bin.addZ _ _ (by omega) (by omega))) rfl ?_
      rw [e0]
      refine Ops.r (Run.asg rfl) rfl ?_
      refine Ops.nil ?_
      refine thenQ_n ?_
      refine VC.sub [(5, _)] (.cons rfl .nil) ?_
      refine VC.seq ?_
      refine VC.region ?_
      refine Ops.r (Run.mv rfl) rfl ?_
      refine Ops.r (Run.bin rfl rfl (Bin.quoZ _ 86400 (by omega) (by omega) (by omega))) rfl ?_
      refine Ops.r (Run.asg rfl) rfl ?_
      refine Ops.nil ?_
      refine thenQ_n ?_
      refine VC.sub [(5, _), (6, _)] (.cons rfl (.cons rfl .nil)) ?_
      refine VC.seq ?_
      refine VC.region ?_
      refine Ops.r (Run.mv rfl) rfl ?_
      refine Ops.r (Run.mv rfl) rfl ?_
      refine Ops.r (Run.bin rfl rfl (Bin.mulZ 86400 _ (by omega) (by omega))) rfl ?_
      refine Ops.r (Run.bin rfl rfl (Bin.subZ _ _ (by omega) (by omega))) rfl ?_
      refine Ops.r (Run.asg rfl) rfl ?_
      refine Ops.nil ?_
      refine thenQ_n ?_
      refine VC.sub [(5, _), (6, _)] (.cons rfl (.cons rfl .nil)) ?_
      refine VC.seq ?_
      refine VC.seq ?_
      refine VC.region ?_
      refine Ops.r (Run.mv rfl) rfl ?_
      refine Ops.r (Run.bin rfl rfl (Bin.lss _ 0)) rfl ?_
      refine Ops.nil ?_
      refine thenQ_n ?_
      refine VC.sub [(5, _), (6, _), (42, _)] (.cons rfl (.cons rfl (.cons rfl .nil))) ?_
      refine VC.meet (σ := Unit) (fun s => [(5, .int .i64 (x % 86400)), (6, .int .i64 (x / 86400))]) (fun s wm => Frm [] w wm) ?_ ?_
      · skip
        refine VC.condD rfl (fun hc2 => ?_) (fun hc2 => ?_)
        · skip
          refine VC.seq ?_
          refine VC.region ?_
          refine Ops.r (Run.mv rfl) rfl ?_
          refine Ops.r (Run.bin rfl rfl (Bin.subZ _ 1 (by omega) (by omega))) rfl ?_
          refine Ops.r (Run.asg rfl) rfl ?_
          refine Ops.nil ?_
          refine thenQ_n ?_
          refine VC.sub [(5, _), (6, _)] (.cons rfl (.cons rfl .nil)) ?_
          refine VC.region ?_
          refine Ops.r (Run.mv rfl) rfl ?_
          refine Ops.r (Run.bin rfl rfl (Bin.addZ _ 86400 (by omega) (by omega))) rfl ?_
          refine Ops.r (Run.asg rfl) rfl ?_
          refine Ops.nil ?_
          refine thenQ_n ⟨(), (.cons (congrArg (fun z => some (Value.int .i64 z)) (show x - 86400 * x.tdiv 86400 + 86400 = x % 86400 by omega)) (.cons (congrArg (fun z => some (Value.int .i64 z)) (show x.tdiv 86400 - 1 = x / 86400 by omega)) .nil)), ?_⟩
          exact hf1
        · skip
          refine VC.skip ?_
          refine thenQ_n ⟨(), (.cons (congrArg (fun z => some (Value.int .i64 z)) (show x - 86400 * x.tdiv 86400 = x % 86400 by omega)) (.cons (congrArg (fun z => some (Value.int .i64 z)) (show x.tdiv 86400 = x / 86400 by omega)) .nil)), ?_⟩
          exact hf1
      · skip
        rintro _ w1 hf1 Γ hΓ
        refine thenQ_n (VC.sub _ hΓ ?_)
        refine VC.seq ?_
        refine VC.region ?_
        refine Ops.r (Run.mv rfl) rfl ?_
        refine Ops.cl (Enters.fn (evs.cons rfl evs.nil) Try.call64) (rcivil_spec (x / 86400) _) rfl ?_
        rintro e _ ⟨rfl, y, m, d, ok, rfl, hk⟩
        refine ⟨_, rfl, ?_⟩
        refine Ops.r (Run.mv rfl) rfl ?_
        refine Ops.r (Run.extract rfl rfl) rfl ?_
        refine Ops.r (Run.extract rfl rfl) rfl ?_
        refine Ops.r (Run.extract rfl rfl) rfl ?_
        refine Ops.r (Run.extract rfl rfl) rfl ?_
        refine Ops.r (Run.asg rfl) rfl ?_
        refine Ops.r (Run.asg rfl) rfl ?_
        refine Ops.r (Run.asg rfl) rfl ?_
        refine Ops.r (Run.asg rfl) rfl ?_
        refine Ops.nil ?_
        refine thenQ_n ?_
        refine VC.sub [(5, _), (6, _), (10, _)] (.cons rfl (.cons rfl (.cons rfl .nil))) ?_
        refine VC.seq ?_
        refine VC.region ?_
        refine Ops.r (Run.mv rfl) rfl ?_
        refine Ops.r (Run.mv rfl) rfl ?_
        refine Ops.r (Run.mv rfl) rfl ?_
        refine Ops.r (Run.asg rfl) rfl ?_
        refine Ops.r (Run.asg rfl) rfl ?_
        refine Ops.r (Run.asg rfl) rfl ?_
        refine Ops.nil ?_
        refine thenQ_n ?_
        refine VC.sub [(2, _), (3, _), (4, _)] (.cons rfl (.cons rfl (.cons rfl .nil))) ?_
        refine VC.ret ?_
        refine end3 rfl rfl rfl ?_
        refine ⟨?_, hf1⟩
        have hok : ok = decide (DateOk a b) := (rciv_ok hk).trans (decide_eq_decide.2 (by rw [← hx]; exact date_ok_iff (by omega) (by omega)))
        rw [hcv, hok]
        rfl

end Go.Proofs.Ytmfglifjnoilnaa
