/-
  The walk of the law 'LimitCosts'.
-/
import Derived.Test.YtebaojedpnnliaaLimA
namespace Go.Proofs.Ytebaojedpnnliaa
open Go.RowKit

set_option maxRecDepth 100000 in
theorem costs_walk (A : Option Addr) (n c : Nat) (a : List Int) (B : Option Addr) (m d : Nat) (b : List Int) (w : World) (hn : a.length = n) (hc : n ≤ c) (ha : Rd w 1 A n (IB a)) (hm : b.length = m) (hd : m ≤ d) (hb : Rd w 1 B m (IB b)) :
    Calls Try.prog 10 #[.slice A n c, .slice B m d] w fun e w' => e = .returned (.bool true) ∧ Frm [] w w' := by
  subst hn hm
  refine VC.calls (nt := 89) (res := #[.tmp 4]) Try.func10 rfl Try.ntmps10 Try.results10 rfl ?_
  refine VC.seq ?_
  refine VC.region ?_
  refine Ops.r (Run.asg rfl) rfl ?_
  refine Ops.nil ?_
  refine thenQ_n ?_
  refine VC.sub [(0, _), (1, _)] (.cons rfl (.cons rfl .nil)) ?_
  refine VC.seq ?_
  refine VC.region ?_
  refine Ops.r (Run.mv rfl) rfl ?_
  refine Ops.cl (Enters.fn (evs.cons rfl evs.nil) Try.call43) (few10_spec A c a _ hc ha) rfl ?_
  rintro e _ ⟨⟨A1, c1, rfl, ha1, hc1⟩, rfl⟩
  refine ⟨_, rfl, ?_⟩
  refine Ops.r (Run.mv rfl) rfl ?_
  refine Ops.cl (Enters.fn (evs.cons rfl evs.nil) Try.call43) (few10_spec B d b _ hd hb) rfl ?_
  rintro e _ ⟨⟨B1, d1, rfl, hb1, hd1⟩, rfl⟩
  refine ⟨_, rfl, ?_⟩
  have hla := fewL_len a
  have hlb := fewL_len b
  generalize fewL a = a at *
  generalize fewL b = b at *
  refine Ops.r (Run.asg rfl) rfl ?_
  refine Ops.r (Run.asg rfl) rfl ?_
  refine Ops.nil ?_
  refine thenQ_n ?_
  refine VC.sub [(0, _), (1, _)] (.cons rfl (.cons rfl .nil)) ?_
  refine VC.seq ?_
  refine VC.region ?_
  refine Ops.r (Run.mv rfl) rfl ?_
  refine Ops.r (Run.mv rfl) rfl ?_
  refine Ops.cl (Enters.fn (evs.cons rfl (evs.cons rfl evs.nil)) Try.call48) (cost_spec A1 B1 c1 d1 a b _ (by omega) (by omega) ha1 hb1) rfl ?_
  rintro e _ ⟨rfl, rfl⟩
  obtain ⟨cv, ev, hee, hcv⟩ : ∃ (cv : Int) (ev : Nat), (if okC a b b.length then Value.tuple #[.int .i64 (dotT a b b.length), .int .i64 ((0 : Nat) : Int)] else .tuple #[.int .i64 ((0 : Nat) : Int), .int .i64 ((1 : Nat) : Int)]) = .tuple #[.int .i64 cv, .int .i64 ((ev : Nat) : Int)] ∧ ((okC a b b.length ∧ cv = dotT a b b.length ∧ ev = 0) ∨ (¬ okC a b b.length ∧ cv = 0 ∧ ev = 1)) := by
    by_cases h : okC a b b.length
    · exact ⟨_, 0, by rw [if_pos h], .inl ⟨h, rfl, rfl⟩⟩
    · exact ⟨0, 1, by rw [if_neg h]; rfl, .inr ⟨h, rfl, rfl⟩⟩
  rw [hee]
  refine ⟨_, rfl, ?_⟩
  refine Ops.r (Run.mv rfl) rfl ?_
  refine Ops.r (Run.extract rfl rfl) rfl ?_
  refine Ops.r (Run.extract rfl rfl) rfl ?_
  refine Ops.r (Run.asg rfl) rfl ?_
  refine Ops.r (Run.asg rfl) rfl ?_
  refine Ops.nil ?_
  refine thenQ_n ?_
  refine VC.sub [(0, _), (1, _), (5, _), (6, _)] (.cons rfl (.cons rfl (.cons rfl (.cons rfl .nil)))) ?_
  refine VC.seq ?_
  refine VC.split1 [(0, _), (1, _), (5, _), (6, _)] (.cons rfl (.cons rfl (.cons rfl (.cons rfl .nil)))) 7 (.bool (decide (mayB a ∧ a.length = b.length))) ?_ ?_
  · refine VC.region ?_
    refine Ops.r (Run.mv rfl) rfl ?_
    refine Ops.cl (Enters.fn (evs.cons rfl evs.nil) Try.call49) (refMay_spec A1 c1 a _ (by omega) ha1) rfl ?_
    rintro e _ ⟨rfl, rfl⟩
    refine ⟨_, rfl, ?_⟩
    by_cases hs22 : mayB a
    · skip
      refine Ops.r (Run.mv rfl) rfl ?_
      refine Ops.rg rfl (by first | rfl | assumption | decide | (simp; done) | (simp; omega) | (simp [*]; done)) (Run.mv rfl) rfl ?_
      refine Ops.rg rfl (by first | rfl | assumption | decide | (simp; done) | (simp; omega) | (simp [*]; done)) (Run.lenS rfl Try.underlying54) rfl ?_
      refine Ops.rg rfl (by first | rfl | assumption | decide | (simp; done) | (simp; omega) | (simp [*]; done)) (Run.mv rfl) rfl ?_
      refine Ops.rg rfl (by first | rfl | assumption | decide | (simp; done) | (simp; omega) | (simp [*]; done)) (Run.lenS rfl Try.underlying54) rfl ?_
      refine Ops.rg rfl (by first | rfl | assumption | decide | (simp; done) | (simp; omega) | (simp [*]; done)) (Run.bin rfl rfl (Bin.eqlN _ _)) rfl ?_
      by_cases hs28 : a.length = b.length
      · skip
        refine Ops.r (Run.pickT rfl rfl (by first | rfl | assumption | decide | (simp; done) | (simp; omega) | (simp [*]; done))) rfl ?_
        refine Ops.r (Run.asg rfl) rfl ?_
        refine Ops.nil ?_
        refine thenQ_n ⟨(.cons (congrArg (fun b => some (Value.bool b)) (by simp [*])) (.cons rfl (.cons rfl (.cons rfl (.cons rfl .nil))))), rfl⟩
      · skip
        refine Ops.r (Run.pickT rfl rfl (by first | rfl | assumption | decide | (simp; done) | (simp; omega) | (simp [*]; done))) rfl ?_
        refine Ops.r (Run.asg rfl) rfl ?_
        refine Ops.nil ?_
        refine thenQ_n ⟨(.cons (congrArg (fun b => some (Value.bool b)) (by simp [*])) (.cons rfl (.cons rfl (.cons rfl (.cons rfl .nil))))), rfl⟩
    · skip
      refine Ops.r (Run.mv rfl) rfl ?_
      refine Ops.sk rfl (by first | rfl | assumption | decide | (simp; done) | (simp; omega) | (simp [*]; done)) rfl ?_
      refine Ops.sk rfl (by first | rfl | assumption | decide | (simp; done) | (simp; omega) | (simp [*]; done)) rfl ?_
      refine Ops.sk rfl (by first | rfl | assumption | decide | (simp; done) | (simp; omega) | (simp [*]; done)) rfl ?_
      refine Ops.sk rfl (by first | rfl | assumption | decide | (simp; done) | (simp; omega) | (simp [*]; done)) rfl ?_
      refine Ops.sk rfl (by first | rfl | assumption | decide | (simp; done) | (simp; omega) | (simp [*]; done)) rfl ?_
      refine Ops.r (Run.pickF rfl rfl (by first | rfl | assumption | decide | (simp; done) | (simp; omega) | (simp [*]; done))) rfl ?_
      refine Ops.r (Run.asg rfl) rfl ?_
      refine Ops.nil ?_
      refine thenQ_n ⟨(.cons (congrArg (fun b => some (Value.bool b)) (by simp [*])) (.cons rfl (.cons rfl (.cons rfl (.cons rfl .nil))))), rfl⟩
  · intro Γ hΓ
    refine thenQ_n (VC.sub _ hΓ ?_)
    refine VC.seq ?_
    refine VC.region ?_
    refine Ops.r (v := .int .i64 ((0 : Nat) : Int)) (Run.asg rfl) rfl ?_
    refine Ops.nil ?_
    refine thenQ_n ?_
    refine VC.seq ?_
    refine VC.seq ?_
    refine VC.region ?_
    refine Ops.r (v := .int .i64 ((0 : Nat) : Int)) (Run.asg rfl) rfl ?_
    refine Ops.nil ?_
    refine thenQ_n ?_
    refine VC.block ?_
    refine VC.loop (σ := Nat × Int) (fun s => [(0, .slice A1 a.length c1), (1, .slice B1 b.length d1), (5, .int .i64 cv), (6, .int .i64 ((ev : Nat) : Int)), (7, .bool (decide (okC a b s.1))), (8, .int .i64 s.2), (9, .int .i64 ((s.1 : Nat) : Int))]) (fun s wr => s.1 ≤ b.length ∧ (okC a b s.1 → s.2 = dotT a b s.1) ∧ w = wr) (fun s => b.length - s.1) (0, 0) (.cons rfl (.cons rfl (.cons rfl (.cons rfl (.cons (by simp [okC]; rfl) (.cons rfl (.cons rfl .nil))))))) ⟨by omega, fun _ => rfl, rfl⟩ ?_
    rintro ⟨i, sm⟩ _ ⟨hi, hsm, rfl⟩
    dsimp only at hi hsm ⊢
    refine VC.seq ?_
    refine VC.seq ?_
    refine VC.split1 [(0, _), (1, _), (5, _), (6, _), (7, _), (8, _), (9, _)] (.cons rfl (.cons rfl (.cons rfl (.cons rfl (.cons rfl (.cons rfl (.cons rfl .nil))))))) 36 (.bool (decide ((okC a b i) ∧ (i < b.length)))) ?_ ?_
    · by_cases hs0 : okC a b i
      · skip
        refine VC.region ?_
        refine Ops.r (Run.mv rfl) rfl ?_
        refine Ops.r (Run.mv rfl) rfl ?_
        refine Ops.rg rfl (by first | rfl | assumption | decide | (simp; done) | (simp; omega) | (simp [*]; done)) (Run.mv rfl) rfl ?_
        refine Ops.rg rfl (by first | rfl | assumption | decide | (simp; done) | (simp; omega) | (simp [*]; done)) (Run.mv rfl) rfl ?_
        refine Ops.rg rfl (by first | rfl | assumption | decide | (simp; done) | (simp; omega) | (simp [*]; done)) (Run.lenS rfl Try.underlying54) rfl ?_
        refine Ops.rg rfl (by first | rfl | assumption | decide | (simp; done) | (simp; omega) | (simp [*]; done)) (Run.bin rfl rfl (Bin.lssN _ _)) rfl ?_
        refine Ops.r (Run.pickT rfl rfl (by first | rfl | assumption | decide | (simp; done) | (simp; omega) | (simp [*]; done))) rfl ?_
        refine Ops.nil ?_
        refine thenQ_n ⟨(.cons (by rw [dand1 hs0]; rfl) (.cons rfl (.cons rfl (.cons rfl (.cons rfl (.cons rfl (.cons rfl (.cons rfl .nil)))))))), rfl⟩
      · skip
        refine VC.region ?_
        refine Ops.r (Run.mv rfl) rfl ?_
        refine Ops.r (Run.mv rfl) rfl ?_
        refine Ops.sk rfl (by first | rfl | assumption | decide | (simp; done) | (simp; omega) | (simp [*]; done)) rfl ?_
        refine Ops.sk rfl (by first | rfl | assumption | decide | (simp; done) | (simp; omega) | (simp [*]; done)) rfl ?_
        refine Ops.sk rfl (by first | rfl | assumption | decide | (simp; done) | (simp; omega) | (simp [*]; done)) rfl ?_
        refine Ops.sk rfl (by first | rfl | assumption | decide | (simp; done) | (simp; omega) | (simp [*]; done)) rfl ?_
        refine Ops.r (Run.pickF rfl rfl (by first | rfl | assumption | decide | (simp; done) | (simp; omega) | (simp [*]; done))) rfl ?_
        refine Ops.nil ?_
        refine thenQ_n ⟨(.cons (by rw [dand0 hs0]; rfl) (.cons rfl (.cons rfl (.cons rfl (.cons rfl (.cons rfl (.cons rfl (.cons rfl .nil)))))))), rfl⟩
    · intro Γ hΓ
      refine thenQ_n (VC.sub _ hΓ ?_)
      refine VC.condD rfl (fun hc1 => ?_) (fun hc1 => ?_)
      · skip
        obtain ⟨hok, hib⟩ := hc1
        obtain rfl := hsm hok
        have hdb := dotT_bound a b i hok hi
        have hia : i < a.length := by have := hok.1.2; omega
        obtain ⟨ad, rfl, hcell⟩ := IB_at hb1 hib
        obtain ⟨ad2, rfl, hcell2⟩ := IB_at ha1 hia
        have hai := hok.1.1.2 a[i] (List.getElem_mem _)
        have hoi := okC_succ a b i hib
        have hdt : dotT a b (i + 1) = dotT a b i + a[i] * b[i] := by rw [dotT, getD_eq a i hia, getD_eq b i hib]
        generalize hx : b[i] = x at *
        generalize a[i] = y at *
        refine VC.skip ?_
        refine thenQ_n ?_
        refine VC.sub [(0, _), (1, _), (5, _), (6, _), (8, _), (9, _)] (.cons rfl (.cons rfl (.cons rfl (.cons rfl (.cons rfl (.cons rfl .nil)))))) ?_
        refine VC.seq ?_
        refine VC.block ?_
        refine VC.seq ?_
        refine VC.split1 [(0, _), (1, _), (5, _), (6, _), (8, _), (9, _)] (.cons rfl (.cons rfl (.cons rfl (.cons rfl (.cons rfl (.cons rfl .nil)))))) 7 (.bool (decide ((0 ≤ x) ∧ (x ≤ 15)))) ?_ ?_
        · by_cases hs0 : 0 ≤ x
          · skip
            refine VC.region ?_
            refine Ops.r (Run.mv rfl) rfl ?_
            refine Ops.r (Run.mv rfl) rfl ?_
            refine Ops.r (Run.index1 _ rfl rfl Try.underlying54 Try.sizeOf3 (by omega)) rfl ?_
            refine Ops.r (Run.load rfl Try.isAgg3 hcell) rfl ?_
            refine Ops.r (Run.bin rfl rfl (Bin.geq _ 0)) rfl ?_
            refine Ops.r (Run.mv rfl) rfl ?_
            refine Ops.rg rfl (by first | rfl | assumption | decide | (simp; done) | (simp; omega) | (simp [*]; done)) (Run.mv rfl) rfl ?_
            refine Ops.rg rfl (by first | rfl | assumption | decide | (simp; done) | (simp; omega) | (simp [*]; done)) (Run.mv rfl) rfl ?_
            refine Ops.rg rfl (by first | rfl | assumption | decide | (simp; done) | (simp; omega) | (simp [*]; done)) (Run.index1 _ rfl rfl Try.underlying54 Try.sizeOf3 (by omega)) rfl ?_
            refine Ops.rg rfl (by first | rfl | assumption | decide | (simp; done) | (simp; omega) | (simp [*]; done)) (Run.load rfl Try.isAgg3 hcell) rfl ?_
            refine Ops.rg rfl (by first | rfl | assumption | decide | (simp; done) | (simp; omega) | (simp [*]; done)) (Run.bin rfl rfl (Bin.leq _ 15)) rfl ?_
            refine Ops.r (Run.pickT rfl rfl (by first | rfl | assumption | decide | (simp; done) | (simp; omega) | (simp [*]; done))) rfl ?_
            refine Ops.r (Run.asg rfl) rfl ?_
            refine Ops.nil ?_
            refine thenQ_n ⟨(.cons (by rw [dand1 hs0]; rfl) (.cons rfl (.cons rfl (.cons rfl (.cons rfl (.cons rfl (.cons rfl .nil))))))), rfl⟩
          · skip
            refine VC.region ?_
            refine Ops.r (Run.mv rfl) rfl ?_
            refine Ops.r (Run.mv rfl) rfl ?_
            refine Ops.r (Run.index1 _ rfl rfl Try.underlying54 Try.sizeOf3 (by omega)) rfl ?_
            refine Ops.r (Run.load rfl Try.isAgg3 hcell) rfl ?_
            refine Ops.r (Run.bin rfl rfl (Bin.geq _ 0)) rfl ?_
            refine Ops.r (Run.mv rfl) rfl ?_
            refine Ops.sk rfl (by first | rfl | assumption | decide | (simp; done) | (simp; omega) | (simp [*]; done)) rfl ?_
            refine Ops.sk rfl (by first | rfl | assumption | decide | (simp; done) | (simp; omega) | (simp [*]; done)) rfl ?_
            refine Ops.sk rfl (by first | rfl | assumption | decide | (simp; done) | (simp; omega) | (simp [*]; done)) rfl ?_
            refine Ops.sk rfl (by first | rfl | assumption | decide | (simp; done) | (simp; omega) | (simp [*]; done)) rfl ?_
            refine Ops.sk rfl (by first | rfl | assumption | decide | (simp; done) | (simp; omega) | (simp [*]; done)) rfl ?_
            refine Ops.r (Run.pickF rfl rfl (by first | rfl | assumption | decide | (simp; done) | (simp; omega) | (simp [*]; done))) rfl ?_
            refine Ops.r (Run.asg rfl) rfl ?_
            refine Ops.nil ?_
            refine thenQ_n ⟨(.cons (by rw [dand0 hs0]; rfl) (.cons rfl (.cons rfl (.cons rfl (.cons rfl (.cons rfl (.cons rfl .nil))))))), rfl⟩
        · intro Γ hΓ
          refine thenQ_n (VC.sub _ hΓ ?_)
          refine VC.seq ?_
          refine VC.region ?_
          refine Ops.r (v := .int .i64 ((0 : Nat) : Int)) (Run.asg rfl) rfl ?_
          refine Ops.nil ?_
          refine thenQ_n ?_
          refine VC.block ?_
          refine VC.loop (σ := Nat) (fun s => [(0, .slice (some ad2) a.length c1), (1, .slice (some ad) b.length d1), (5, .int .i64 cv), (6, .int .i64 ((ev : Nat) : Int)), (7, .bool (decide (0 ≤ x ∧ x ≤ 15))), (8, .int .i64 (dotT a b i + (s : Int) * y)), (9, .int .i64 ((i : Nat) : Int)), (10, .int .i64 ((s : Nat) : Int))]) (fun s wr => (s : Int) ≤ max x 0 ∧ w = wr) (fun s => x.toNat - s) 0 (.cons rfl (.cons rfl (.cons rfl (.cons rfl (.cons rfl (.cons (by simp; rfl) (.cons rfl (.cons rfl .nil)))))))) ⟨by omega, rfl⟩ ?_
          rintro k _ ⟨hk, rfl⟩
          refine VC.seq ?_
          refine VC.seq ?_
          refine VC.split1 [(0, _), (1, _), (5, _), (6, _), (7, _), (8, _), (9, _), (10, _)] (.cons rfl (.cons rfl (.cons rfl (.cons rfl (.cons rfl (.cons rfl (.cons rfl (.cons rfl .nil)))))))) 59 (.bool (decide ((0 ≤ x ∧ x ≤ 15) ∧ ((k : Int) < x)))) ?_ ?_
          · by_cases hs0 : 0 ≤ x ∧ x ≤ 15
            · skip
              refine VC.region ?_
              refine Ops.r (Run.mv rfl) rfl ?_
              refine Ops.r (Run.mv rfl) rfl ?_
              refine Ops.rg rfl (by first | rfl | assumption | decide | (simp; done) | (simp; omega) | (simp [*]; done)) (Run.mv rfl) rfl ?_
              refine Ops.rg rfl (by first | rfl | assumption | decide | (simp; done) | (simp; omega) | (simp [*]; done)) (Run.mv rfl) rfl ?_
              refine Ops.rg rfl (by first | rfl | assumption | decide | (simp; done) | (simp; omega) | (simp [*]; done)) (Run.mv rfl) rfl ?_
              refine Ops.rg rfl (by first | rfl | assumption | decide | (simp; done) | (simp; omega) | (simp [*]; done)) (Run.index1 _ rfl rfl Try.underlying54 Try.sizeOf3 (by omega)) rfl ?_
              refine Ops.rg rfl (by first | rfl | assumption | decide | (simp; done) | (simp; omega) | (simp [*]; done)) (Run.load rfl Try.isAgg3 hcell) rfl ?_
              refine Ops.rg rfl (by first | rfl | assumption | decide | (simp; done) | (simp; omega) | (simp [*]; done)) (Run.bin rfl rfl (Bin.lss _ _)) rfl ?_
              refine Ops.r (Run.pickT rfl rfl (by first | rfl | assumption | decide | (simp; done) | (simp; omega) | (simp [*]; done))) rfl ?_
              refine Ops.nil ?_
              refine thenQ_n ⟨(.cons (by rw [dand1 hs0]; rfl) (.cons rfl (.cons rfl (.cons rfl (.cons rfl (.cons rfl (.cons rfl (.cons rfl (.cons rfl .nil))))))))), rfl⟩
            · skip
              refine VC.region ?_
              refine Ops.r (Run.mv rfl) rfl ?_
              refine Ops.r (Run.mv rfl) rfl ?_
              refine Ops.sk rfl (by first | rfl | assumption | decide | (simp; done) | (simp; omega) | (simp [*]; done)) rfl ?_
              refine Ops.sk rfl (by first | rfl | assumption | decide | (simp; done) | (simp; omega) | (simp [*]; done)) rfl ?_
              refine Ops.sk rfl (by first | rfl | assumption | decide | (simp; done) | (simp; omega) | (simp [*]; done)) rfl ?_
              refine Ops.sk rfl (by first | rfl | assumption | decide | (simp; done) | (simp; omega) | (simp [*]; done)) rfl ?_
              refine Ops.sk rfl (by first | rfl | assumption | decide | (simp; done) | (simp; omega) | (simp [*]; done)) rfl ?_
              refine Ops.sk rfl (by first | rfl | assumption | decide | (simp; done) | (simp; omega) | (simp [*]; done)) rfl ?_
              refine Ops.r (Run.pickF rfl rfl (by first | rfl | assumption | decide | (simp; done) | (simp; omega) | (simp [*]; done))) rfl ?_
              refine Ops.nil ?_
              refine thenQ_n ⟨(.cons (by rw [dand0 hs0]; rfl) (.cons rfl (.cons rfl (.cons rfl (.cons rfl (.cons rfl (.cons rfl (.cons rfl (.cons rfl .nil))))))))), rfl⟩
          · intro Γ hΓ
            refine thenQ_n (VC.sub _ hΓ ?_)
            refine VC.condD rfl (fun hc2 => ?_) (fun hc2 => ?_)
            · skip
              have hmb := mul_bound (show 0 ≤ (k : Int) by omega) (show (k : Int) ≤ 15 by omega) hai.1 hai.2
              have hks : ((k + 1 : Nat) : Int) * y = (k : Int) * y + y := by rw [Int.natCast_add, Int.add_mul]; simp
              refine VC.skip ?_
              refine thenQ_n ?_
              refine VC.sub [(0, _), (1, _), (5, _), (6, _), (7, _), (8, _), (9, _), (10, _)] (.cons rfl (.cons rfl (.cons rfl (.cons rfl (.cons rfl (.cons rfl (.cons rfl (.cons rfl .nil)))))))) ?_
              refine VC.seq ?_
              refine VC.block ?_
              refine VC.region ?_
              refine Ops.r (Run.mv rfl) rfl ?_
              refine Ops.r (Run.mv rfl) rfl ?_
              refine Ops.r (Run.mv rfl) rfl ?_
              refine Ops.r (Run.index1 _ rfl rfl Try.underlying54 Try.sizeOf3 (by omega)) rfl ?_
              refine Ops.r (Run.load rfl Try.isAgg3 hcell2) rfl ?_
              refine Ops.r (Run.bin rfl rfl (Bin.addZ _ _ (by omega) (by omega))) rfl ?_
              refine Ops.r (Run.asg rfl) rfl ?_
              refine Ops.nil ?_
              refine blockQ_n (thenQ_n ?_)
              refine VC.sub [(0, _), (1, _), (5, _), (6, _), (7, _), (8, _), (9, _), (10, _)] (.cons rfl (.cons rfl (.cons rfl (.cons rfl (.cons rfl (.cons rfl (.cons rfl (.cons rfl .nil)))))))) ?_
              refine VC.region ?_
              refine Ops.r (Run.mv rfl) rfl ?_
              refine Ops.r (Run.bin rfl rfl (Bin.add_i64 _ 1 (by omega))) rfl ?_
              refine Ops.r (Run.asg rfl) rfl ?_
              refine Ops.nil ?_
              refine thenQ_n ⟨(k + 1), (.cons rfl (.cons rfl (.cons rfl (.cons rfl (.cons rfl (.cons (by rw [hks, ← Int.add_assoc]; rfl) (.cons rfl (.cons rfl .nil)))))))), ?_, ?_⟩
              · skip
                exact ⟨by omega, rfl⟩
              · skip
                first | omega | (dsimp only; omega)
            · skip
              refine VC.exit ?_
              refine thenQ_x (thenQ_x (blockQ_x ?_))
              refine blockQ_n (thenQ_n ?_)
              refine VC.sub [(0, _), (1, _), (5, _), (6, _), (7, _), (8, _), (9, _)] (.cons rfl (.cons rfl (.cons rfl (.cons rfl (.cons rfl (.cons rfl (.cons rfl .nil))))))) ?_
              refine VC.region ?_
              refine Ops.r (Run.mv rfl) rfl ?_
              refine Ops.r (Run.bin rfl rfl (Bin.add_i64 _ 1 (by omega))) rfl ?_
              refine Ops.r (Run.asg rfl) rfl ?_
              refine Ops.nil ?_
              refine thenQ_n ⟨(i + 1, dotT a b i + (k : Int) * y), (.cons rfl (.cons rfl (.cons rfl (.cons rfl (.cons (congrArg (fun z => some (Value.bool z)) (decide_eq_decide.2 (by dsimp only; rw [hoi]; simp [hok]))) (.cons rfl (.cons rfl .nil))))))), ?_, ?_⟩
              · skip
                refine ⟨hib, fun h => ?_, rfl⟩
                have h2 := hoi.1 h
                have h3 : (k : Int) = x := by
                  have : ¬ (k : Int) < x := fun h4 => hc2 ⟨h2.2, h4⟩
                  omega
                dsimp only
                rw [hdt, h3, Int.mul_comm]
              · skip
                first | omega | (dsimp only; omega)
      · skip
        have hend : okC a b i → i = b.length := fun h => by
          have : ¬ i < b.length := fun h2 => hc1 ⟨h, h2⟩
          omega
        refine VC.exit ?_
        refine thenQ_x (thenQ_x (blockQ_x ?_))
        refine thenQ_n ?_
        refine VC.sub [(5, _), (6, _), (7, _), (8, _)] (.cons rfl (.cons rfl (.cons rfl (.cons rfl .nil)))) ?_
        refine VC.seq ?_
        refine VC.seq ?_
        refine VC.region ?_
        refine Ops.r (Run.mv rfl) rfl ?_
        refine Ops.r (Run.not rfl) rfl ?_
        refine Ops.nil ?_
        refine thenQ_n ?_
        refine VC.sub [(5, _), (6, _), (8, _), (69, _)] (.cons rfl (.cons rfl (.cons rfl (.cons rfl .nil)))) ?_
        refine VC.condB rfl (fun hc3 => ?_) (fun hc3 => ?_)
        · skip
          have hc3 : ¬ okC a b i := by simpa using hc3
          have hno : ¬ okC a b b.length := fun h => hc3 ⟨h.1, fun x hx => h.2 x (by rw [List.take_length]; exact List.mem_of_mem_take hx)⟩
          obtain ⟨_, rfl, rfl⟩ := hcv.resolve_left (fun h => hno h.1)
          refine VC.seq ?_
          refine VC.region ?_
          refine Ops.r (Run.mv rfl) rfl ?_
          refine Ops.r (Run.bin rfl rfl (Bin.eql _ 0)) rfl ?_
          refine Ops.r (Run.mv rfl) rfl ?_
          refine Ops.rg rfl (by first | rfl | assumption | decide | (simp; done) | (simp; omega) | (simp [*]; done)) (Run.mv rfl) rfl ?_
          refine Ops.rg rfl (by first | rfl | assumption | decide | (simp; done) | (simp; omega) | (simp [*]; done)) (Run.bin rfl rfl (Bin.eqlN _ 1)) rfl ?_
          refine Ops.r (Run.pickT rfl rfl (by first | rfl | assumption | decide | (simp; done) | (simp; omega) | (simp [*]; done))) rfl ?_
          refine Ops.r (Run.mv rfl) rfl ?_
          refine Ops.clg rfl (by first | rfl | assumption | decide | (simp; done) | (simp; omega) | (simp [*]; done)) (Enters.fn evs.nil Try.call47) (awake10_spec _) rfl ?_
          rintro e w8 ⟨rfl, hf8⟩
          refine ⟨_, rfl, ?_⟩
          refine Ops.r (Run.pickT rfl rfl (by first | rfl | assumption | decide | (simp; done) | (simp; omega) | (simp [*]; done))) rfl ?_
          refine Ops.r (Run.asg rfl) rfl ?_
          refine Ops.nil ?_
          refine thenQ_n ?_
          refine VC.sub [(4, _)] (.cons rfl .nil) ?_
          refine VC.ret ?_
          refine thenQ_r (end1 rfl ?_)
          exact ⟨rfl, hf8⟩
        · skip
          have hc3 : okC a b i := by simpa using hc3
          have hil := hend hc3
          subst hil
          obtain ⟨_, rfl, rfl⟩ := hcv.resolve_right (fun h => h.1 hc3)
          obtain rfl := hsm hc3
          refine VC.skip ?_
          refine thenQ_n ?_
          refine VC.sub [(5, _), (6, _), (8, _)] (.cons rfl (.cons rfl (.cons rfl .nil))) ?_
          refine VC.seq ?_
          refine VC.region ?_
          refine Ops.r (Run.mv rfl) rfl ?_
          refine Ops.r (Run.mv rfl) rfl ?_
          refine Ops.r (Run.bin rfl rfl (Bin.eql _ _)) rfl ?_
          refine Ops.r (Run.mv rfl) rfl ?_
          refine Ops.rg rfl (by first | rfl | assumption | decide | (simp; done) | (simp; omega) | (simp [*]; done)) (Run.mv rfl) rfl ?_
          refine Ops.rg rfl (by first | rfl | assumption | decide | (simp; done) | (simp; omega) | (simp [*]; done)) (Run.bin rfl rfl (Bin.eqlN _ 0)) rfl ?_
          refine Ops.r (Run.pickT rfl rfl (by first | rfl | assumption | decide | (simp; done) | (simp; omega) | (simp [*]; done))) rfl ?_
          refine Ops.r (Run.mv rfl) rfl ?_
          refine Ops.clg rfl (by first | rfl | assumption | decide | (simp; done) | (simp; omega) | (simp [*]; done)) (Enters.fn evs.nil Try.call47) (awake10_spec _) rfl ?_
          rintro e w8 ⟨rfl, hf8⟩
          refine ⟨_, rfl, ?_⟩
          refine Ops.r (Run.pickT rfl rfl (by first | rfl | assumption | decide | (simp; done) | (simp; omega) | (simp [*]; done))) rfl ?_
          refine Ops.r (Run.asg rfl) rfl ?_
          refine Ops.nil ?_
          refine thenQ_n ?_
          refine VC.sub [(4, _)] (.cons rfl .nil) ?_
          refine VC.ret ?_
          refine end1 rfl ?_
          exact ⟨rfl, hf8⟩

end Go.Proofs.Ytebaojedpnnliaa
