/-
  The document's inflating: the lengths of kind 1; symbols; what comes out.
-/
import Derived.Test.YtfjhmbgckmhdaaaInfQ
import Derived.Test.YtfjhmbgckmhdaaaInfS
namespace Go.Proofs.Ytfjhmbgckmhdaaa
open Go.RowKit

/-- A table of numbers that is filled up to i. -/
def upI (t : List Int) (n i : Nat) : List Int := (List.range n).map fun k => if k < i then t.getD k 0 else 0
theorem upI_len (t : List Int) (n i : Nat) : (upI t n i).length = n := by simp [upI]
theorem upI_set (t : List Int) (n i : Nat) (v : Int) (h : i < n) (hv : t.getD i 0 = v) : (upI t n i).set i v = upI t n (i + 1) := by
  subst hv
  apply List.ext_getElem?
  intro j
  by_cases hj : j = i
  · subst hj
    rw [List.getElem?_set_self (by simp [upI, h])]
    simp [upI, h]
  · rw [List.getElem?_set_ne (Ne.symm hj)]
    by_cases hn : j < n
    · simp [upI, hn, show j < i + 1 ↔ j < i by omega]
    · simp [upI, hn]
theorem upI_zero (t : List Int) (n : Nat) : upI t n 0 = List.replicate n 0 := by
  unfold upI
  simp only [Nat.not_lt_zero, if_false]
  rw [List.map_const', List.length_range]
theorem mk_ints (n : Nat) : (List.replicate n (Value.int .i64 0).cells.toList).flatten = IB (List.replicate n 0) := by
  induction n with
  | zero => rfl
  | succ n ih => rw [List.replicate_succ, List.flatten_cons, ih, List.replicate_succ]; rfl

set_option maxRecDepth 100000 in
theorem rfixed_spec (w : World) : Calls Try.prog 14 #[] w fun e w' => ∃ A c B d, e = .returned (.tuple #[.slice A 288 c, .slice B 32 d]) ∧ Own w' 3 1 A 288 c (IB fixedL) ∧ Own w' 3 1 B 32 d (IB fixedW) ∧ Frm [] w w' := by
  refine VC.calls (nt := 42) (res := #[.tmp 0, .tmp 1]) Try.func14 rfl Try.ntmps14 Try.results14 rfl ?_
  refine VC.seq ?_
  refine VC.region ?_
  refine Ops.r (Run.asg rfl) rfl ?_
  refine Ops.r (Run.asg rfl) rfl ?_
  refine Ops.nil ?_
  refine thenQ_n ?_
  refine VC.sub [] .nil ?_
  refine VC.seq ?_
  refine VC.meet (σ := Nat × Nat) (fun s => [(2, .slice (some ⟨s.1, 0, none⟩) 288 288), (3, .slice (some ⟨s.2, 0, none⟩) 32 32)]) (fun s wr => Own wr 3 1 (some ⟨s.1, 0, none⟩) 288 288 (IB (List.replicate 288 0)) ∧ Own wr 3 1 (some ⟨s.2, 0, none⟩) 32 32 (IB (List.replicate 32 0)) ∧ Frm [] w wr ∧ w.heap.size ≤ s.1 ∧ w.heap.size ≤ s.2 ∧ s.1 ≠ s.2) ?_ ?_
  · skip
    refine VC.held (fun _ => True) (by kernel_rfl) ?_
    have hS : True := trivial
    have hd := (Drawn.drew w).frm
    have hds := hd.size
    refine HOps.or2 0 1 (by kernel_rfl) ?_ ?_
    · skip
      refine HOne.m rfl (Does.makeS (n := 288) rfl rfl Try.underlying37 (info3) rfl (by omega) (by omega)) trivial rfl rfl ?_
      rintro _ w1 ⟨rfl, ho1, hf1, hs1⟩
      refine ⟨trivial, ?_⟩
      refine HOps.take 2 rfl (by kernel_rfl) (by kernel_rfl) (by kernel_rfl) hS (fun w0 hw0 => Run.asg rfl) trivial rfl rfl ?_
      refine HOps.m 1 rfl (by kernel_rfl) (Does.makeS (n := 32) rfl rfl Try.underlying37 (info3) rfl (by omega) (by omega)) trivial rfl rfl ?_
      rintro _ w2 ⟨rfl, ho2, hf2, hs2⟩
      refine ⟨trivial, ?_⟩
      refine HOps.take 3 rfl (by kernel_rfl) (by kernel_rfl) (by kernel_rfl) hS (fun w0 hw0 => Run.asg rfl) trivial rfl rfl ?_
      refine HOps.done (by kernel_rfl) ?_
      refine thenQ_n ⟨(w.drew.heap.size, w1.heap.size), (.cons rfl (.cons rfl .nil)), ?_⟩
      rw [mk_ints] at ho1 ho2
      have := Drawn.drew w
      exact ⟨ho1.frm hf2 (by simp), ho2, (hd.trans hf1 (by simp)).trans hf2 (by simp), hd.size, by dsimp only; omega, by dsimp only; omega⟩
    · skip
      refine HOne.m rfl (Does.makeS (n := 32) rfl rfl Try.underlying37 (info3) rfl (by omega) (by omega)) trivial rfl rfl ?_
      rintro _ w1 ⟨rfl, ho1, hf1, hs1⟩
      refine ⟨trivial, ?_⟩
      refine HOps.m 0 rfl (by kernel_rfl) (Does.makeS (n := 288) rfl rfl Try.underlying37 (info3) rfl (by omega) (by omega)) trivial rfl rfl ?_
      rintro _ w2 ⟨rfl, ho2, hf2, hs2⟩
      refine ⟨trivial, ?_⟩
      refine HOps.take 2 rfl (by kernel_rfl) (by kernel_rfl) (by kernel_rfl) hS (fun w0 hw0 => Run.asg rfl) trivial rfl rfl ?_
      refine HOps.take 3 rfl (by kernel_rfl) (by kernel_rfl) (by kernel_rfl) hS (fun w0 hw0 => Run.asg rfl) trivial rfl rfl ?_
      refine HOps.done (by kernel_rfl) ?_
      refine thenQ_n ⟨(w1.heap.size, w.drew.heap.size), (.cons rfl (.cons rfl .nil)), ?_⟩
      rw [mk_ints] at ho1 ho2
      exact ⟨ho2, ho1.frm hf2 (by simp), (hd.trans hf1 (by simp)).trans hf2 (by simp), by dsimp only; omega, hd.size, by dsimp only; omega⟩
  · skip
    rintro ⟨ga, gb⟩ w0 ⟨ho, hob, hfr, hga, hgb, hgab⟩ Γ hΓ
    dsimp only at ho hob hfr hga hgb hgab hΓ
    rw [← upI_zero fixedL] at ho
    rw [← upI_zero fixedW] at hob
    refine thenQ_n (VC.sub _ hΓ ?_)
    refine VC.seq ?_
    refine VC.seq ?_
    refine VC.region ?_
    refine Ops.r (v := .int .i64 ((0 : Nat) : Int)) (Run.asg rfl) rfl ?_
    refine Ops.nil ?_
    refine thenQ_n ?_
    refine VC.block ?_
    refine VC.loop (σ := Nat) (fun s => [(2, .slice (some ⟨ga, 0, none⟩) 288 288), (3, .slice (some ⟨gb, 0, none⟩) 32 32), (4, .int .i64 ((s : Nat) : Int))]) (fun s wr => s ≤ 288 ∧ Own wr 3 1 (some ⟨ga, 0, none⟩) 288 288 (IB (upI fixedL 288 s)) ∧ Own wr 3 1 (some ⟨gb, 0, none⟩) 32 32 (IB (upI fixedW 32 0)) ∧ Frm [] w wr) (fun s => 288 - s) 0 (.cons rfl (.cons rfl (.cons rfl .nil))) ⟨by omega, ho, hob, hfr⟩ ?_
    clear ho hob hfr
    rintro i wr ⟨hi, ho, hob, hfr⟩
    refine VC.seq ?_
    refine VC.seq ?_
    refine VC.region ?_
    refine Ops.r (Run.mv rfl) rfl ?_
    refine Ops.r (Run.bin rfl rfl (Bin.lssN _ 288)) rfl ?_
    refine Ops.nil ?_
    refine thenQ_n ?_
    refine VC.sub [(2, _), (3, _), (4, _), (9, _)] (.cons rfl (.cons rfl (.cons rfl (.cons rfl .nil)))) ?_
    refine VC.condD rfl (fun hc1 => ?_) (fun hc1 => ?_)
    · skip
      refine VC.skip ?_
      refine thenQ_n ?_
      refine VC.sub [(2, _), (3, _), (4, _)] (.cons rfl (.cons rfl (.cons rfl .nil))) ?_
      refine VC.seq ?_
      refine VC.block ?_
      refine VC.seq ?_
      refine VC.region ?_
      refine Ops.r (Run.mv rfl) rfl ?_
      refine Ops.r (Run.mv rfl) rfl ?_
      refine Ops.r (Run.index1 _ rfl rfl Try.underlying37 Try.sizeOf3 (by omega)) rfl ?_
      refine Ops.st (Acts.storeOwn i rfl rfl Try.sizeOf3 ho rfl (by omega) rfl) ?_
      rintro w3 ⟨ho, hf3, hs3⟩
      rw [IB_set] at ho
      have hob := hob.frm hf3 (by simp [ob]; omega)
      have hfr := hfr.own hf3 (fun x hx => by simp [ob] at hx; omega)
      refine Ops.nil ?_
      refine thenQ_n ?_
      refine VC.sub [(2, _), (3, _), (4, _)] (.cons rfl (.cons rfl (.cons rfl .nil))) ?_
      refine VC.seq ?_
      refine VC.seq ?_
      refine VC.split1 [(2, _), (3, _), (4, _)] (.cons rfl (.cons rfl (.cons rfl .nil))) 20 (.bool (decide ((144 ≤ i) ∧ (i ≤ 255)))) ?_ ?_
      · by_cases hs0 : 144 ≤ i
        · skip
          refine VC.region ?_
          refine Ops.r (Run.mv rfl) rfl ?_
          refine Ops.r (Run.bin rfl rfl (Bin.leqN 144 _)) rfl ?_
          refine Ops.r (Run.mv rfl) rfl ?_
          refine Ops.rg rfl (by first | rfl | assumption | exact decide_eq_true (by assumption) | exact decide_eq_false (by assumption) | decide | (simp; done) | (simp; omega) | (simp [*]; done)) (Run.mv rfl) rfl ?_
          refine Ops.rg rfl (by first | rfl | assumption | exact decide_eq_true (by assumption) | exact decide_eq_false (by assumption) | decide | (simp; done) | (simp; omega) | (simp [*]; done)) (Run.bin rfl rfl (Bin.leqN _ 255)) rfl ?_
          refine Ops.r (Run.pickT rfl rfl (by first | rfl | assumption | exact decide_eq_true (by assumption) | exact decide_eq_false (by assumption) | decide | (simp; done) | (simp; omega) | (simp [*]; done))) rfl ?_
          refine Ops.nil ?_
          refine thenQ_n ⟨(.cons (by rw [dand1 hs0]; rfl) (.cons rfl (.cons rfl (.cons rfl .nil)))), rfl⟩
        · skip
          refine VC.region ?_
          refine Ops.r (Run.mv rfl) rfl ?_
          refine Ops.r (Run.bin rfl rfl (Bin.leqN 144 _)) rfl ?_
          refine Ops.r (Run.mv rfl) rfl ?_
          refine Ops.sk rfl (by first | rfl | assumption | exact decide_eq_true (by assumption) | exact decide_eq_false (by assumption) | decide | (simp; done) | (simp; omega) | (simp [*]; done)) rfl ?_
          refine Ops.sk rfl (by first | rfl | assumption | exact decide_eq_true (by assumption) | exact decide_eq_false (by assumption) | decide | (simp; done) | (simp; omega) | (simp [*]; done)) rfl ?_
          refine Ops.r (Run.pickF rfl rfl (by first | rfl | assumption | exact decide_eq_true (by assumption) | exact decide_eq_false (by assumption) | decide | (simp; done) | (simp; omega) | (simp [*]; done))) rfl ?_
          refine Ops.nil ?_
          refine thenQ_n ⟨(.cons (by rw [dand0 hs0]; rfl) (.cons rfl (.cons rfl (.cons rfl .nil)))), rfl⟩
      · intro Γ hΓ
        refine thenQ_n (VC.sub _ hΓ ?_)
        refine VC.condD rfl (fun hc2 => ?_) (fun hc2 => ?_)
        · skip
          refine VC.region ?_
          refine Ops.r (Run.mv rfl) rfl ?_
          refine Ops.r (Run.mv rfl) rfl ?_
          refine Ops.r (Run.index1 _ rfl rfl Try.underlying37 Try.sizeOf3 (by omega)) rfl ?_
          refine Ops.st (Acts.storeOwn i rfl rfl Try.sizeOf3 ho rfl (by omega) rfl) ?_
          rintro w3 ⟨ho, hf3, hs3⟩
          rw [IB_set] at ho
          have hob := hob.frm hf3 (by simp [ob]; omega)
          have hfr := hfr.own hf3 (fun x hx => by simp [ob] at hx; omega)
          refine Ops.nil ?_
          refine thenQ_n ?_
          refine VC.sub [(2, _), (3, _), (4, _)] (.cons rfl (.cons rfl (.cons rfl .nil))) ?_
          refine VC.seq ?_
          refine VC.split1 [(2, _), (3, _), (4, _)] (.cons rfl (.cons rfl (.cons rfl .nil))) 29 (.bool (decide ((256 ≤ i) ∧ (i ≤ 279)))) ?_ ?_
          · by_cases hs0 : 256 ≤ i
            · skip
              refine VC.region ?_
              refine Ops.r (Run.mv rfl) rfl ?_
              refine Ops.r (Run.bin rfl rfl (Bin.leqN 256 _)) rfl ?_
              refine Ops.r (Run.mv rfl) rfl ?_
              refine Ops.rg rfl (by first | rfl | assumption | exact decide_eq_true (by assumption) | exact decide_eq_false (by assumption) | decide | (simp; done) | (simp; omega) | (simp [*]; done)) (Run.mv rfl) rfl ?_
              refine Ops.rg rfl (by first | rfl | assumption | exact decide_eq_true (by assumption) | exact decide_eq_false (by assumption) | decide | (simp; done) | (simp; omega) | (simp [*]; done)) (Run.bin rfl rfl (Bin.leqN _ 279)) rfl ?_
              refine Ops.r (Run.pickT rfl rfl (by first | rfl | assumption | exact decide_eq_true (by assumption) | exact decide_eq_false (by assumption) | decide | (simp; done) | (simp; omega) | (simp [*]; done))) rfl ?_
              refine Ops.nil ?_
              refine thenQ_n ⟨(.cons (by rw [dand1 hs0]; rfl) (.cons rfl (.cons rfl (.cons rfl .nil)))), rfl⟩
            · skip
              refine VC.region ?_
              refine Ops.r (Run.mv rfl) rfl ?_
              refine Ops.r (Run.bin rfl rfl (Bin.leqN 256 _)) rfl ?_
              refine Ops.r (Run.mv rfl) rfl ?_
              refine Ops.sk rfl (by first | rfl | assumption | exact decide_eq_true (by assumption) | exact decide_eq_false (by assumption) | decide | (simp; done) | (simp; omega) | (simp [*]; done)) rfl ?_
              refine Ops.sk rfl (by first | rfl | assumption | exact decide_eq_true (by assumption) | exact decide_eq_false (by assumption) | decide | (simp; done) | (simp; omega) | (simp [*]; done)) rfl ?_
              refine Ops.r (Run.pickF rfl rfl (by first | rfl | assumption | exact decide_eq_true (by assumption) | exact decide_eq_false (by assumption) | decide | (simp; done) | (simp; omega) | (simp [*]; done))) rfl ?_
              refine Ops.nil ?_
              refine thenQ_n ⟨(.cons (by rw [dand0 hs0]; rfl) (.cons rfl (.cons rfl (.cons rfl .nil)))), rfl⟩
          · intro Γ hΓ
            refine thenQ_n (VC.sub _ hΓ ?_)
            refine VC.condD rfl (fun hc3 => ?_) (fun hc3 => ?_)
            · skip
              refine VC.region ?_
              refine Ops.r (Run.mv rfl) rfl ?_
              refine Ops.r (Run.mv rfl) rfl ?_
              refine Ops.r (Run.index1 _ rfl rfl Try.underlying37 Try.sizeOf3 (by omega)) rfl ?_
              refine Ops.st (Acts.storeOwn i rfl rfl Try.sizeOf3 ho rfl (by omega) rfl) ?_
              rintro w3 ⟨ho, hf3, hs3⟩
              rw [IB_set] at ho
              have hob := hob.frm hf3 (by simp [ob]; omega)
              have hfr := hfr.own hf3 (fun x hx => by simp [ob] at hx; omega)
              refine Ops.nil ?_
              refine blockQ_n (thenQ_n ?_)
              refine VC.sub [(2, _), (3, _), (4, _)] (.cons rfl (.cons rfl (.cons rfl .nil))) ?_
              refine VC.region ?_
              refine Ops.r (Run.mv rfl) rfl ?_
              refine Ops.r (Run.bin rfl rfl (Bin.add_i64 _ 1 (by omega))) rfl ?_
              refine Ops.r (Run.asg rfl) rfl ?_
              refine Ops.nil ?_
              refine thenQ_n ⟨(i + 1), (.cons rfl (.cons rfl (.cons rfl .nil))), ?_, ?_⟩
              · skip
                exfalso; omega
              · skip
                exfalso; omega
            · skip
              refine VC.skip ?_
              refine blockQ_n (thenQ_n ?_)
              refine VC.sub [(2, _), (3, _), (4, _)] (.cons rfl (.cons rfl (.cons rfl .nil))) ?_
              refine VC.region ?_
              refine Ops.r (Run.mv rfl) rfl ?_
              refine Ops.r (Run.bin rfl rfl (Bin.add_i64 _ 1 (by omega))) rfl ?_
              refine Ops.r (Run.asg rfl) rfl ?_
              refine Ops.nil ?_
              refine thenQ_n ⟨(i + 1), (.cons rfl (.cons rfl (.cons rfl .nil))), ?_, ?_⟩
              · skip
                rw [List.set_set, upI_set _ _ _ _ hc1 (by rw [fixed_at i hc1, if_pos ⟨hc2.1, by omega⟩])] at ho
                exact ⟨hc1, ho, hob, hfr⟩
              · skip
                omega
        · skip
          refine VC.skip ?_
          refine thenQ_n ?_
          refine VC.sub [(2, _), (3, _), (4, _)] (.cons rfl (.cons rfl (.cons rfl .nil))) ?_
          refine VC.seq ?_
          refine VC.split1 [(2, _), (3, _), (4, _)] (.cons rfl (.cons rfl (.cons rfl .nil))) 29 (.bool (decide ((256 ≤ i) ∧ (i ≤ 279)))) ?_ ?_
          · by_cases hs0 : 256 ≤ i
            · skip
              refine VC.region ?_
              refine Ops.r (Run.mv rfl) rfl ?_
              refine Ops.r (Run.bin rfl rfl (Bin.leqN 256 _)) rfl ?_
              refine Ops.r (Run.mv rfl) rfl ?_
              refine Ops.rg rfl (by first | rfl | assumption | exact decide_eq_true (by assumption) | exact decide_eq_false (by assumption) | decide | (simp; done) | (simp; omega) | (simp [*]; done)) (Run.mv rfl) rfl ?_
              refine Ops.rg rfl (by first | rfl | assumption | exact decide_eq_true (by assumption) | exact decide_eq_false (by assumption) | decide | (simp; done) | (simp; omega) | (simp [*]; done)) (Run.bin rfl rfl (Bin.leqN _ 279)) rfl ?_
              refine Ops.r (Run.pickT rfl rfl (by first | rfl | assumption | exact decide_eq_true (by assumption) | exact decide_eq_false (by assumption) | decide | (simp; done) | (simp; omega) | (simp [*]; done))) rfl ?_
              refine Ops.nil ?_
              refine thenQ_n ⟨(.cons (by rw [dand1 hs0]; rfl) (.cons rfl (.cons rfl (.cons rfl .nil)))), rfl⟩
            · skip
              refine VC.region ?_
              refine Ops.r (Run.mv rfl) rfl ?_
              refine Ops.r (Run.bin rfl rfl (Bin.leqN 256 _)) rfl ?_
              refine Ops.r (Run.mv rfl) rfl ?_
              refine Ops.sk rfl (by first | rfl | assumption | exact decide_eq_true (by assumption) | exact decide_eq_false (by assumption) | decide | (simp; done) | (simp; omega) | (simp [*]; done)) rfl ?_
              refine Ops.sk rfl (by first | rfl | assumption | exact decide_eq_true (by assumption) | exact decide_eq_false (by assumption) | decide | (simp; done) | (simp; omega) | (simp [*]; done)) rfl ?_
              refine Ops.r (Run.pickF rfl rfl (by first | rfl | assumption | exact decide_eq_true (by assumption) | exact decide_eq_false (by assumption) | decide | (simp; done) | (simp; omega) | (simp [*]; done))) rfl ?_
              refine Ops.nil ?_
              refine thenQ_n ⟨(.cons (by rw [dand0 hs0]; rfl) (.cons rfl (.cons rfl (.cons rfl .nil)))), rfl⟩
          · intro Γ hΓ
            refine thenQ_n (VC.sub _ hΓ ?_)
            refine VC.condD rfl (fun hc3 => ?_) (fun hc3 => ?_)
            · skip
              refine VC.region ?_
              refine Ops.r (Run.mv rfl) rfl ?_
              refine Ops.r (Run.mv rfl) rfl ?_
              refine Ops.r (Run.index1 _ rfl rfl Try.underlying37 Try.sizeOf3 (by omega)) rfl ?_
              refine Ops.st (Acts.storeOwn i rfl rfl Try.sizeOf3 ho rfl (by omega) rfl) ?_
              rintro w3 ⟨ho, hf3, hs3⟩
              rw [IB_set] at ho
              have hob := hob.frm hf3 (by simp [ob]; omega)
              have hfr := hfr.own hf3 (fun x hx => by simp [ob] at hx; omega)
              refine Ops.nil ?_
              refine blockQ_n (thenQ_n ?_)
              refine VC.sub [(2, _), (3, _), (4, _)] (.cons rfl (.cons rfl (.cons rfl .nil))) ?_
              refine VC.region ?_
              refine Ops.r (Run.mv rfl) rfl ?_
              refine Ops.r (Run.bin rfl rfl (Bin.add_i64 _ 1 (by omega))) rfl ?_
              refine Ops.r (Run.asg rfl) rfl ?_
              refine Ops.nil ?_
              refine thenQ_n ⟨(i + 1), (.cons rfl (.cons rfl (.cons rfl .nil))), ?_, ?_⟩
              · skip
                rw [List.set_set, upI_set _ _ _ _ hc1 (by rw [fixed_at i hc1, if_neg (by omega), if_pos ⟨hc3.1, by omega⟩])] at ho
                exact ⟨hc1, ho, hob, hfr⟩
              · skip
                omega
            · skip
              refine VC.skip ?_
              refine blockQ_n (thenQ_n ?_)
              refine VC.sub [(2, _), (3, _), (4, _)] (.cons rfl (.cons rfl (.cons rfl .nil))) ?_
              refine VC.region ?_
              refine Ops.r (Run.mv rfl) rfl ?_
              refine Ops.r (Run.bin rfl rfl (Bin.add_i64 _ 1 (by omega))) rfl ?_
              refine Ops.r (Run.asg rfl) rfl ?_
              refine Ops.nil ?_
              refine thenQ_n ⟨(i + 1), (.cons rfl (.cons rfl (.cons rfl .nil))), ?_, ?_⟩
              · skip
                rw [upI_set _ _ _ _ hc1 (by rw [fixed_at i hc1, if_neg (by omega), if_neg (by omega)])] at ho
                exact ⟨hc1, ho, hob, hfr⟩
              · skip
                omega
    · skip
      have hin : i = 288 := by omega
      subst hin
      rw [show upI fixedL 288 288 = fixedL by decide +kernel] at ho
      refine VC.exit ?_
      refine thenQ_x (thenQ_x (blockQ_x ?_))
      refine thenQ_n ?_
      refine VC.sub [(2, _), (3, _)] (.cons rfl (.cons rfl .nil)) ?_
      refine VC.seq ?_
      refine VC.seq ?_
      refine VC.region ?_
      refine Ops.r (v := .int .i64 ((0 : Nat) : Int)) (Run.asg rfl) rfl ?_
      refine Ops.nil ?_
      refine thenQ_n ?_
      refine VC.block ?_
      refine VC.loop (σ := Nat) (fun s => [(2, .slice (some ⟨ga, 0, none⟩) 288 288), (3, .slice (some ⟨gb, 0, none⟩) 32 32), (5, .int .i64 ((s : Nat) : Int))]) (fun s wr => s ≤ 32 ∧ Own wr 3 1 (some ⟨ga, 0, none⟩) 288 288 (IB fixedL) ∧ Own wr 3 1 (some ⟨gb, 0, none⟩) 32 32 (IB (upI fixedW 32 s)) ∧ Frm [] w wr) (fun s => 32 - s) 0 (.cons rfl (.cons rfl (.cons rfl .nil))) ⟨by omega, ho, hob, hfr⟩ ?_
      clear ho hob hfr
      rintro i wr ⟨hi, hoa, hq, hfr⟩
      refine VC.seq ?_
      refine VC.seq ?_
      refine VC.region ?_
      refine Ops.r (Run.mv rfl) rfl ?_
      refine Ops.r (Run.bin rfl rfl (Bin.lssN _ 32)) rfl ?_
      refine Ops.nil ?_
      refine thenQ_n ?_
      refine VC.sub [(2, _), (3, _), (5, _), (34, _)] (.cons rfl (.cons rfl (.cons rfl (.cons rfl .nil)))) ?_
      refine VC.condD rfl (fun hc4 => ?_) (fun hc4 => ?_)
      · skip
        refine VC.skip ?_
        refine thenQ_n ?_
        refine VC.sub [(2, _), (3, _), (5, _)] (.cons rfl (.cons rfl (.cons rfl .nil))) ?_
        refine VC.seq ?_
        refine VC.block ?_
        refine VC.region ?_
        refine Ops.r (Run.mv rfl) rfl ?_
        refine Ops.r (Run.mv rfl) rfl ?_
        refine Ops.r (Run.index1 _ rfl rfl Try.underlying37 Try.sizeOf3 (by omega)) rfl ?_
        refine Ops.st (Acts.storeOwn i rfl rfl Try.sizeOf3 hq rfl (by omega) rfl) ?_
        rintro w3 ⟨hq, hf3, hs3⟩
        rw [IB_set] at hq
        have hoa := hoa.frm hf3 (by simp [ob]; omega)
        have hfr := hfr.own hf3 (fun x hx => by simp [ob] at hx; omega)
        refine Ops.nil ?_
        refine blockQ_n (thenQ_n ?_)
        refine VC.sub [(2, _), (3, _), (5, _)] (.cons rfl (.cons rfl (.cons rfl .nil))) ?_
        refine VC.region ?_
        refine Ops.r (Run.mv rfl) rfl ?_
        refine Ops.r (Run.bin rfl rfl (Bin.add_i64 _ 1 (by omega))) rfl ?_
        refine Ops.r (Run.asg rfl) rfl ?_
        refine Ops.nil ?_
        refine thenQ_n ⟨(i + 1), (.cons rfl (.cons rfl (.cons rfl .nil))), ?_, ?_⟩
        · skip
          have h5 : ∀ i, i < 32 → fixedW.getD i 0 = 5 := by decide +kernel
          rw [upI_set _ _ _ _ hc4 (h5 i hc4)] at hq
          exact ⟨hc4, hoa, hq, hfr⟩
        · skip
          omega
      · skip
        refine VC.exit ?_
        refine thenQ_x (thenQ_x (blockQ_x ?_))
        refine thenQ_n ?_
        refine VC.sub [(2, _), (3, _)] (.cons rfl (.cons rfl .nil)) ?_
        refine VC.seq ?_
        refine VC.region ?_
        refine Ops.r (Run.mv rfl) rfl ?_
        refine Ops.r (Run.mv rfl) rfl ?_
        refine Ops.r (Run.asg rfl) rfl ?_
        refine Ops.r (Run.asg rfl) rfl ?_
        refine Ops.nil ?_
        refine thenQ_n ?_
        refine VC.sub [(0, _), (1, _)] (.cons rfl (.cons rfl .nil)) ?_
        refine VC.ret ?_
        refine end2 rfl rfl ?_
        have hin : i = 32 := by omega
        subst hin
        rw [show upI fixedW 32 32 = fixedW by decide +kernel] at hq
        exact ⟨_, _, _, _, rfl, hoa, hq, hfr⟩

end Go.Proofs.Ytfjhmbgckmhdaaa
