/-
  'BitsWrites': whatever comes, one thing behind the other, what was written is the document's, or it is refused: the law returns true, whatever steps there are. No condition.
-/
import Derived.Test.YtebaojedpnnliaaBitsOct
namespace Go.Proofs.Ytebaojedpnnliaa
open Go.RowKit

set_option maxRecDepth 100000 in
theorem writes_walk (A : Option Addr) (n c : Nat) (ss : List StepC) (w : World) (hn : n ≤ 9223372036854775807) (hS : Steps w A n ss) :
    Calls Try.prog 4 #[.slice A n c] w fun e w' => e = .returned (.bool true) ∧ Frm [] w w' := by
  obtain ⟨hsl, hSr, hSs⟩ := hS
  refine VC.calls (nt := 112) (res := #[.tmp 2]) Try.func4 rfl Try.ntmps4 Try.results4 rfl ?_
  refine VC.seq ?_
  refine VC.region ?_
  refine Ops.r (Run.asg rfl) rfl ?_
  refine Ops.nil ?_
  refine thenQ_n ?_
  refine VC.sub [(0, _)] (.cons rfl .nil) ?_
  refine VC.seq ?_
  refine VC.region ?_
  refine Ops.cl (Enters.fn evs.nil Try.call13) (new_spec _) rfl ?_
  rintro e w1 ⟨rfl, hW1, hf1, hs1⟩
  refine ⟨_, rfl, ?_⟩
  have hg0 : w.heap.size ≤ w.heap.size := Nat.le_refl _
  generalize hg : w.heap.size = g at hW1 hg0 ⊢
  refine Ops.r (Run.asg rfl) rfl ?_
  refine Ops.nil ?_
  refine thenQ_n ?_
  refine VC.sub [(0, _), (3, _)] (.cons rfl (.cons rfl .nil)) ?_
  refine VC.seq ?_
  refine VC.seq ?_
  refine VC.region ?_
  refine Ops.r (Run.mv rfl) rfl ?_
  refine Ops.r (Run.eqlNilP rfl rfl Try.underlying23) rfl ?_
  refine Ops.nil ?_
  refine thenQ_n ?_
  refine VC.sub [(0, _), (3, _), (12, _)] (.cons rfl (.cons rfl (.cons rfl .nil))) ?_
  refine VC.condF rfl (rfl) ?_
  refine VC.skip ?_
  refine thenQ_n ?_
  refine VC.sub [(0, _), (3, _)] (.cons rfl (.cons rfl .nil)) ?_
  refine VC.seq ?_
  refine VC.region ?_
  refine Ops.r (Run.asg rfl) rfl ?_
  refine Ops.nil ?_
  refine thenQ_n ?_
  refine VC.seq ?_
  refine VC.seq ?_
  refine VC.region ?_
  refine Ops.r (v := .int .i64 ((0 : Nat) : Int)) (Run.asg rfl) rfl ?_
  refine Ops.nil ?_
  refine thenQ_n ?_
  refine VC.block ?_
  refine VC.loop (σ := Nat × List Bool × Option Addr × Option Addr × Nat) (fun s => [(0, .slice A n c), (3, .pointer (some ⟨g, 0, none⟩)), (4, .slice s.2.2.2.1 s.2.1.length s.2.2.2.2), (5, .int .i64 s.1)]) (fun s wr => s.1 ≤ n ∧ s.1 ≤ 60 ∧ s.2.1.length ≤ 1000 * s.1 ∧ IsW wr g s.2.2.1 s.2.1 ∧ Own wr 4 1 s.2.2.2.1 s.2.1.length s.2.2.2.2 (BL s.2.1) ∧ Frm [] w wr ∧ (∀ x ∈ ob s.2.2.1, w.heap.size ≤ x) ∧ ∀ x ∈ ob s.2.2.2.1, w.heap.size ≤ x) (fun s => 60 - s.1) (0, [], none, none, 0) (.cons rfl (.cons rfl (.cons rfl (.cons rfl .nil)))) ⟨by omega, by omega, by simp, hW1, Own.nil _ _ _, hf1, up_nil, up_nil⟩ ?_
  rintro ⟨k, l, Aw, Aa, ca⟩ wr ⟨hkn, hk60, hll, hW, hoa, hfr, huw, hua⟩
  dsimp only at hkn hk60 hll hW hoa hfr huw hua ⊢
  refine VC.seq ?_
  refine VC.seq ?_
  refine VC.split1 [(0, _), (3, _), (4, _), (5, _)] (.cons rfl (.cons rfl (.cons rfl (.cons rfl .nil)))) 20 (.bool (decide (k < n ∧ k < 60))) ?_ ?_
  · by_cases hs0 : k < n
    · skip
      refine VC.region ?_
      refine Ops.r (Run.mv rfl) rfl ?_
      refine Ops.r (Run.mv rfl) rfl ?_
      refine Ops.r (Run.lenS rfl Try.underlying22) rfl ?_
      refine Ops.r (Run.bin rfl rfl (Bin.lssN _ _)) rfl ?_
      refine Ops.r (Run.mv rfl) rfl ?_
      refine Ops.rg rfl (by first | rfl | assumption | decide | (simp; done) | (simp; omega) | (simp [*]; done)) (Run.mv rfl) rfl ?_
      refine Ops.rg rfl (by first | rfl | assumption | decide | (simp; done) | (simp; omega) | (simp [*]; done)) (Run.bin rfl rfl (Bin.lssN _ 60)) rfl ?_
      refine Ops.r (Run.pickT rfl rfl (by first | rfl | assumption | decide | (simp; done) | (simp; omega) | (simp [*]; done))) rfl ?_
      refine Ops.nil ?_
      refine thenQ_n ⟨(.cons (by rw [dand1 hs0]; rfl) (.cons rfl (.cons rfl (.cons rfl (.cons rfl .nil))))), rfl⟩
    · skip
      refine VC.region ?_
      refine Ops.r (Run.mv rfl) rfl ?_
      refine Ops.r (Run.mv rfl) rfl ?_
      refine Ops.r (Run.lenS rfl Try.underlying22) rfl ?_
      refine Ops.r (Run.bin rfl rfl (Bin.lssN _ _)) rfl ?_
      refine Ops.r (Run.mv rfl) rfl ?_
      refine Ops.sk rfl (by first | rfl | assumption | decide | (simp; done) | (simp; omega) | (simp [*]; done)) rfl ?_
      refine Ops.sk rfl (by first | rfl | assumption | decide | (simp; done) | (simp; omega) | (simp [*]; done)) rfl ?_
      refine Ops.r (Run.pickF rfl rfl (by first | rfl | assumption | decide | (simp; done) | (simp; omega) | (simp [*]; done))) rfl ?_
      refine Ops.nil ?_
      refine thenQ_n ⟨(.cons (by rw [dand0 hs0]; rfl) (.cons rfl (.cons rfl (.cons rfl (.cons rfl .nil))))), rfl⟩
  · intro Γ hΓ
    refine thenQ_n (VC.sub _ hΓ ?_)
    refine VC.condD rfl (fun hc2 => ?_) (fun hc2 => ?_)
    · skip
      obtain ⟨hkn', hk60'⟩ := hc2
      obtain ⟨ad, rfl, hel⟩ := (hSr.belowW hfr.below).elem hkn'
      have hks : k < ss.length := by omega
      rw [flat_get StepC.cells 4 (fun _ => rfl) ss k hks] at hel
      obtain ⟨hV, hbl, hbc, hbs, hrB⟩ := hSs _ (List.getElem_mem hks)
      generalize ss[k] = st at *
      refine VC.skip ?_
      refine thenQ_n ?_
      refine VC.sub [(0, _), (3, _), (4, _), (5, _)] (.cons rfl (.cons rfl (.cons rfl (.cons rfl .nil)))) ?_
      refine VC.seq ?_
      refine VC.block ?_
      refine VC.seq ?_
      refine VC.region ?_
      refine Ops.r (Run.mv rfl) rfl ?_
      refine Ops.r (Run.mv rfl) rfl ?_
      refine Ops.r (Run.indexS _ rfl rfl Try.underlying22 Try.sizeOf28 (by omega)) rfl ?_
      refine Ops.r (Run.loadA rfl Try.isAgg28 Try.sizeOf28 hel rfl) rfl ?_
      refine Ops.m (Does.alloc zero28) rfl ?_
      rintro _ w2 ⟨rfl, hF2⟩
      have hb2 := hF2.blk
      refine Ops.st (Acts.storeA rfl rfl Try.sizeOf28 hb2 rfl (by simpa [StepC.cells] using cells_one st)) ?_
      rintro w3 ⟨hb3, hf3, hs3⟩
      have hW3 := (hW.frm hF2.frm (by simp)).frm hf3 (fun x hx hx2 => by simp at hx2; have := hW.lt x hx; omega)
      have hoa3 := (hoa.frm hF2.frm (by simp)).frm hf3 (fun x hx hx2 => by simp at hx2; have := hoa.lt x hx; omega)
      have hfr3 := (hfr.own hF2.frm (by simp)).own hf3 (up_one hfr.size)
      generalize hgs : wr.heap.size = gs at *
      refine Ops.nil ?_
      refine thenQ_n ?_
      refine VC.sub [(0, _), (3, _), (4, _), (5, _), (6, _)] (.cons rfl (.cons rfl (.cons rfl (.cons rfl (.cons rfl .nil))))) ?_
      refine VC.seq ?_
      refine VC.region ?_
      refine Ops.r (v := .int .i64 ((0 : Nat) : Int)) (Run.asg rfl) rfl ?_
      refine Ops.r (v := .int .i64 ((0 : Nat) : Int)) (Run.asg rfl) rfl ?_
      refine Ops.nil ?_
      refine thenQ_n ?_
      refine VC.seq ?_
      refine VC.seq ?_
      refine VC.split1 [(0, _), (3, _), (4, _), (5, _), (6, _), (7, _), (8, _)] (.cons rfl (.cons rfl (.cons rfl (.cons rfl (.cons rfl (.cons rfl (.cons rfl .nil))))))) 34 (.bool (decide (st.N < 0 ∨ 32 < st.N))) ?_ ?_
      · by_cases hs0 : st.N < 0
        · skip
          refine VC.region ?_
          refine Ops.r (Run.fieldAddr rfl Try.underlying28 rfl Try.sizeOf3 (by decide)) rfl ?_
          refine Ops.r (Run.load rfl Try.isAgg3 (hb3.cell 1)) rfl ?_
          refine Ops.r (Run.bin rfl rfl (Bin.lss _ 0)) rfl ?_
          refine Ops.r (Run.mv rfl) rfl ?_
          refine Ops.sk rfl (by first | rfl | assumption | decide | (simp; done) | (simp; omega) | (simp [*]; done)) rfl ?_
          refine Ops.sk rfl (by first | rfl | assumption | decide | (simp; done) | (simp; omega) | (simp [*]; done)) rfl ?_
          refine Ops.sk rfl (by first | rfl | assumption | decide | (simp; done) | (simp; omega) | (simp [*]; done)) rfl ?_
          refine Ops.r (Run.pickT rfl rfl (by first | rfl | assumption | decide | (simp; done) | (simp; omega) | (simp [*]; done))) rfl ?_
          refine Ops.nil ?_
          refine thenQ_n ⟨(.cons (by rw [dor1 hs0]; rfl) (.cons rfl (.cons rfl (.cons rfl (.cons rfl (.cons rfl (.cons rfl (.cons rfl .nil)))))))), rfl⟩
        · skip
          refine VC.region ?_
          refine Ops.r (Run.fieldAddr rfl Try.underlying28 rfl Try.sizeOf3 (by decide)) rfl ?_
          refine Ops.r (Run.load rfl Try.isAgg3 (hb3.cell 1)) rfl ?_
          refine Ops.r (Run.bin rfl rfl (Bin.lss _ 0)) rfl ?_
          refine Ops.r (Run.mv rfl) rfl ?_
          refine Ops.rg rfl (by first | rfl | assumption | decide | (simp; done) | (simp; omega) | (simp [*]; done)) (Run.fieldAddr rfl Try.underlying28 rfl Try.sizeOf3 (by decide)) rfl ?_
          refine Ops.rg rfl (by first | rfl | assumption | decide | (simp; done) | (simp; omega) | (simp [*]; done)) (Run.load rfl Try.isAgg3 (hb3.cell 1)) rfl ?_
          refine Ops.rg rfl (by first | rfl | assumption | decide | (simp; done) | (simp; omega) | (simp [*]; done)) (Run.bin rfl rfl (Bin.gtr _ 32)) rfl ?_
          refine Ops.r (Run.pickF rfl rfl (by first | rfl | assumption | decide | (simp; done) | (simp; omega) | (simp [*]; done))) rfl ?_
          refine Ops.nil ?_
          refine thenQ_n ⟨(.cons (by rw [dor0 hs0]; rfl) (.cons rfl (.cons rfl (.cons rfl (.cons rfl (.cons rfl (.cons rfl (.cons rfl .nil)))))))), rfl⟩
      · intro Γ hΓ
        refine thenQ_n (VC.sub _ hΓ ?_)
        refine VC.meet (σ := Unit) (fun s => [(0, .slice (some ad) n c), (3, .pointer (some ⟨g, 0, none⟩)), (4, .slice Aa l.length ca), (5, .int .i64 k), (6, .pointer (some ⟨gs, 0, none⟩)), (7, .int .i64 ((0 : Nat) : Int)), (8, .int .i64 ((rightE st.V st.N : Nat) : Int))]) (fun s w9 => w3 = w9) ?_ ?_
        · skip
          refine VC.condD rfl (fun hc3 => ?_) (fun hc3 => ?_)
          · skip
            have hE : rightE st.V st.N = 1 := by unfold rightE; rw [if_pos hc3]
            refine VC.region ?_
            refine Ops.r (v := .int .i64 ((1 : Nat) : Int)) (Run.asg rfl) rfl ?_
            refine Ops.nil ?_
            refine thenQ_n ⟨(), (.cons rfl (.cons rfl (.cons rfl (.cons rfl (.cons rfl (.cons rfl (.cons (by rw [hE]; rfl) .nil))))))), ?_⟩
            rfl
          · skip
            obtain ⟨m, hm⟩ : ∃ m : Nat, st.N = m := ⟨st.N.toNat, by omega⟩
            have hN : (StepC.cells st)[1]? = some (.int .i64 ((m : Nat) : Int)) := by simp [StepC.cells, hm]
            refine VC.seq ?_
            refine VC.region ?_
            refine Ops.r (Run.fieldAddr rfl Try.underlying28 rfl Try.sizeOf25 (by decide)) rfl ?_
            refine Ops.r (Run.load rfl Try.isAgg25 (hb3.cell 2)) rfl ?_
            refine Ops.r (Run.fieldAddr rfl Try.underlying28 rfl Try.sizeOf3 (by decide)) rfl ?_
            refine Ops.r (Run.load rfl Try.isAgg3 ((hb3.cell 1).trans (by simpa using hN))) rfl ?_
            refine Ops.cl (Enters.fn (evs.cons rfl (evs.cons rfl evs.nil)) Try.call21) (fits_spec st.V m _ hV (by omega)) rfl ?_
            rintro e _ ⟨rfl, rfl⟩
            refine ⟨_, rfl, ?_⟩
            refine Ops.r (Run.not rfl) rfl ?_
            refine Ops.nil ?_
            refine thenQ_n ?_
            refine VC.sub [(0, _), (3, _), (4, _), (5, _), (6, _), (7, _), (8, _), (40, _)] (.cons rfl (.cons rfl (.cons rfl (.cons rfl (.cons rfl (.cons rfl (.cons rfl (.cons rfl .nil)))))))) ?_
            refine VC.condB rfl (fun hc4 => ?_) (fun hc4 => ?_)
            · skip
              have hE : rightE st.V st.N = 8 := by
                unfold rightE
                rw [if_neg hc3, hm, Int.toNat_natCast]
                simp at hc4
                rw [if_neg (by simp; omega)]
              refine VC.region ?_
              refine Ops.r (v := .int .i64 ((8 : Nat) : Int)) (Run.asg rfl) rfl ?_
              refine Ops.nil ?_
              refine thenQ_n ⟨(), (.cons rfl (.cons rfl (.cons rfl (.cons rfl (.cons rfl (.cons rfl (.cons (by rw [hE]; rfl) .nil))))))), ?_⟩
              rfl
            · skip
              have hE : rightE st.V st.N = 0 := by
                unfold rightE
                rw [if_neg hc3, hm, Int.toNat_natCast]
                simp at hc4
                rw [if_pos (by simp; omega)]
              refine VC.skip ?_
              refine thenQ_n ⟨(), (.cons rfl (.cons rfl (.cons rfl (.cons rfl (.cons rfl (.cons rfl (.cons (by rw [hE]; rfl) .nil))))))), ?_⟩
              rfl
        · skip
          rintro _ _ rfl Γ hΓ
          refine thenQ_n (VC.sub _ hΓ ?_)
          refine VC.seq ?_
          refine VC.seq ?_
          refine VC.region ?_
          refine Ops.r (Run.fieldAddr rfl Try.underlying28 rfl Try.sizeOf3 (by decide)) rfl ?_
          refine Ops.r (Run.load rfl Try.isAgg3 (hb3.cell 0)) rfl ?_
          refine Ops.nil ?_
          refine thenQ_n ?_
          refine VC.sub [(0, _), (3, _), (4, _), (5, _), (6, _), (7, _), (8, _), (42, _)] (.cons rfl (.cons rfl (.cons rfl (.cons rfl (.cons rfl (.cons rfl (.cons rfl (.cons rfl .nil)))))))) ?_
          refine VC.block ?_
          refine VC.seq ?_
          refine VC.region ?_
          refine Ops.r (Run.bin rfl rfl (Bin.eql _ 0)) rfl ?_
          refine Ops.r (Run.asg rfl) rfl ?_
          refine Ops.nil ?_
          refine thenQ_n ?_
          refine VC.sub [(0, _), (3, _), (4, _), (5, _), (6, _), (7, _), (8, _), (42, _), (58, _)] (.cons rfl (.cons rfl (.cons rfl (.cons rfl (.cons rfl (.cons rfl (.cons rfl (.cons rfl (.cons rfl .nil))))))))) ?_
          refine VC.meet (σ := List Bool × Option Addr × Option Addr × Nat × Nat) (fun s => [(0, .slice (some ad) n c), (3, .pointer (some ⟨g, 0, none⟩)), (4, .slice s.2.2.1 s.1.length s.2.2.2.1), (5, .int .i64 k), (7, .int .i64 ((s.2.2.2.2 : Nat) : Int)), (8, .int .i64 ((s.2.2.2.2 : Nat) : Int))]) (fun s w9 => s.1.length ≤ l.length + 1000 ∧ IsW w9 g s.2.1 s.1 ∧ Own w9 4 1 s.2.2.1 s.1.length s.2.2.2.1 (BL s.1) ∧ Frm [] w w9 ∧ (∀ x ∈ ob s.2.1, w.heap.size ≤ x) ∧ ∀ x ∈ ob s.2.2.1, w.heap.size ≤ x) ?_ ?_
          · skip
            refine VC.condD rfl (fun hc5 => ?_) (fun hc5 => ?_)
            · skip
              refine VC.seq ?_
              refine VC.region ?_
              refine Ops.r (Run.mv rfl) rfl ?_
              refine Ops.r (Run.fieldAddr rfl Try.underlying28 rfl Try.sizeOf25 (by decide)) rfl ?_
              refine Ops.r (Run.load rfl Try.isAgg25 (hb3.cell 2)) rfl ?_
              refine Ops.r (Run.fieldAddr rfl Try.underlying28 rfl Try.sizeOf3 (by decide)) rfl ?_
              refine Ops.r (Run.load rfl Try.isAgg3 (hb3.cell 1)) rfl ?_
              refine Ops.cl (Enters.fn (evs.cons rfl (evs.cons rfl (evs.cons rfl evs.nil))) Try.call14) (put_any g st.V st.N Aw _ _ hV (by omega) hW3) rfl ?_
              rintro e w4 ⟨rfl, A4, hW4, hf4, hA4⟩
              refine ⟨_, rfl, ?_⟩
              have hb4 := hb3.frm hf4 (by have := hW.lt gs; intro hx; have := this hx; omega)
              have hoa4 := hoa3.frm hf4 (hoa3.ne_w hW3 (by decide) (by decide))
              have hfr4 := hfr3.own hf4 (up_cons (by omega) huw)
              have hu4 := up_step huw hA4 hfr3.size
              refine Ops.r (Run.asg rfl) rfl ?_
              refine Ops.nil ?_
              refine thenQ_n ?_
              refine VC.sub [(0, _), (3, _), (4, _), (5, _), (6, _), (7, _), (8, _)] (.cons rfl (.cons rfl (.cons rfl (.cons rfl (.cons rfl (.cons rfl (.cons rfl .nil))))))) ?_
              refine VC.seq ?_
              refine VC.region ?_
              refine Ops.r (Run.mv rfl) rfl ?_
              refine Ops.r (Run.bin rfl rfl (Bin.eqlN _ 0)) rfl ?_
              refine Ops.nil ?_
              refine thenQ_n ?_
              refine VC.sub [(0, _), (3, _), (4, _), (5, _), (6, _), (7, _), (8, _), (67, _)] (.cons rfl (.cons rfl (.cons rfl (.cons rfl (.cons rfl (.cons rfl (.cons rfl (.cons rfl .nil)))))))) ?_
              refine VC.condD rfl (fun hc6 => ?_) (fun hc6 => ?_)
              · skip
                obtain ⟨m, hm, hm32, hVm⟩ := rightE_zero hc6
                have hN : (StepC.cells st)[1]? = some (.int .i64 ((m : Nat) : Int)) := by simp [StepC.cells, hm]
                refine VC.region ?_
                refine Ops.r (Run.mv rfl) rfl ?_
                refine Ops.r (Run.fieldAddr rfl Try.underlying28 rfl Try.sizeOf25 (by decide)) rfl ?_
                refine Ops.r (Run.load rfl Try.isAgg25 (hb4.cell 2)) rfl ?_
                refine Ops.r (Run.fieldAddr rfl Try.underlying28 rfl Try.sizeOf3 (by decide)) rfl ?_
                refine Ops.r (Run.load rfl Try.isAgg3 ((hb4.cell 1).trans (by simpa using hN))) rfl ?_
                refine Ops.cl (Enters.fn (evs.cons rfl (evs.cons rfl evs.nil)) Try.call22) (refBits_spec st.V m _ hV (by omega)) rfl ?_
                rintro e w5 ⟨A5, c5, rfl, ho5, hf5, hA5⟩
                refine ⟨_, rfl, ?_⟩
                have hoa5 := hoa4.frm hf5 (by simp)
                have hW5 := hW4.frm hf5 (by simp)
                have hfr5 := hfr4.own hf5 (by simp)
                refine Ops.m (Does.app rfl rfl Try.underlying39 (info4) rfl (by decide) hoa5 ho5.rd (BL_one _) (by omega) (by omega)) rfl ?_
                rintro _ w6 ⟨A6, c6, rfl, hoa6, hf6, hob6⟩
                refine Ops.r (Run.asg rfl) rfl ?_
                refine Ops.nil ?_
                refine thenQ_n ⟨(l ++ bitsL st.V m, A4, A6, c6, rightE st.V st.N), (.cons rfl (.cons rfl (.cons (by rw [List.length_append, bitsL_len]; rfl) (.cons rfl (.cons rfl (.cons rfl .nil)))))), ?_⟩
                rw [if_pos hc6, hm, Int.toNat_natCast] at hW5
                refine ⟨by simp [bitsL_len]; omega, hW5.frm hf6 (mem_swap (hoa5.ne_w hW5 (by decide) (by decide))), ?_, hfr5.own hf6 hua, hu4, up_app hua hob6 hfr5.size⟩
                simpa [BL_append, bitsL_len] using hoa6
              · skip
                refine VC.skip ?_
                refine thenQ_n ⟨(l, A4, Aa, ca, rightE st.V st.N), (.cons rfl (.cons rfl (.cons rfl (.cons rfl (.cons rfl (.cons rfl .nil)))))), ?_⟩
                rw [if_neg hc6] at hW4
                exact ⟨by dsimp only; omega, hW4, hoa4, hfr4, hu4, hua⟩
            · skip
              refine VC.seq ?_
              refine VC.region ?_
              refine Ops.r (Run.bin rfl rfl (Bin.eql _ 1)) rfl ?_
              refine Ops.r (Run.asg rfl) rfl ?_
              refine Ops.nil ?_
              refine thenQ_n ?_
              refine VC.sub [(0, _), (3, _), (4, _), (5, _), (6, _), (7, _), (8, _), (75, _)] (.cons rfl (.cons rfl (.cons rfl (.cons rfl (.cons rfl (.cons rfl (.cons rfl (.cons rfl .nil)))))))) ?_
              refine VC.condD rfl (fun hc7 => ?_) (fun hc7 => ?_)
              · skip
                refine VC.seq ?_
                refine VC.region ?_
                refine Ops.r (Run.mv rfl) rfl ?_
                refine Ops.r (Run.fieldAddr rfl Try.underlying28 rfl Try.sizeOf25 (by decide)) rfl ?_
                refine Ops.r (Run.load rfl Try.isAgg25 (hb3.cell 2)) rfl ?_
                refine Ops.r (Run.fieldAddr rfl Try.underlying28 rfl Try.sizeOf3 (by decide)) rfl ?_
                refine Ops.r (Run.load rfl Try.isAgg3 (hb3.cell 1)) rfl ?_
                refine Ops.cl (Enters.fn (evs.cons rfl (evs.cons rfl (evs.cons rfl evs.nil))) Try.call15) (turned_any g st.V st.N Aw _ _ hV (by omega) hW3) rfl ?_
                rintro e w4 ⟨rfl, A4, hW4, hf4, hA4⟩
                refine ⟨_, rfl, ?_⟩
                have hb4 := hb3.frm hf4 (by have := hW.lt gs; intro hx; have := this hx; omega)
                have hoa4 := hoa3.frm hf4 (hoa3.ne_w hW3 (by decide) (by decide))
                have hfr4 := hfr3.own hf4 (up_cons (by omega) huw)
                have hu4 := up_step huw hA4 hfr3.size
                refine Ops.r (Run.asg rfl) rfl ?_
                refine Ops.nil ?_
                refine thenQ_n ?_
                refine VC.sub [(0, _), (3, _), (4, _), (5, _), (6, _), (7, _), (8, _)] (.cons rfl (.cons rfl (.cons rfl (.cons rfl (.cons rfl (.cons rfl (.cons rfl .nil))))))) ?_
                refine VC.seq ?_
                refine VC.region ?_
                refine Ops.r (Run.mv rfl) rfl ?_
                refine Ops.r (Run.bin rfl rfl (Bin.eqlN _ 0)) rfl ?_
                refine Ops.nil ?_
                refine thenQ_n ?_
                refine VC.sub [(0, _), (3, _), (4, _), (5, _), (6, _), (7, _), (8, _), (84, _)] (.cons rfl (.cons rfl (.cons rfl (.cons rfl (.cons rfl (.cons rfl (.cons rfl (.cons rfl .nil)))))))) ?_
                refine VC.condD rfl (fun hc8 => ?_) (fun hc8 => ?_)
                · skip
                  obtain ⟨m, hm, hm32, hVm⟩ := rightE_zero hc8
                  have hN : (StepC.cells st)[1]? = some (.int .i64 ((m : Nat) : Int)) := by simp [StepC.cells, hm]
                  refine VC.region ?_
                  refine Ops.r (Run.mv rfl) rfl ?_
                  refine Ops.r (Run.fieldAddr rfl Try.underlying28 rfl Try.sizeOf25 (by decide)) rfl ?_
                  refine Ops.r (Run.load rfl Try.isAgg25 (hb4.cell 2)) rfl ?_
                  refine Ops.r (Run.fieldAddr rfl Try.underlying28 rfl Try.sizeOf3 (by decide)) rfl ?_
                  refine Ops.r (Run.load rfl Try.isAgg3 ((hb4.cell 1).trans (by simpa using hN))) rfl ?_
                  refine Ops.cl (Enters.fn (evs.cons rfl (evs.cons rfl evs.nil)) Try.call22) (refBits_spec st.V m _ hV (by omega)) rfl ?_
                  rintro e w5 ⟨A5, c5, rfl, ho5, hf5, hA5⟩
                  refine ⟨_, rfl, ?_⟩
                  have hoa5 := hoa4.frm hf5 (by simp)
                  have hW5 := hW4.frm hf5 (by simp)
                  have hfr5 := hfr4.own hf5 (by simp)
                  have hbl5 := bitsL_len st.V m
                  refine Ops.cl (Enters.fn (evs.cons rfl evs.nil) Try.call23) ((by have h := back_spec A5 c5 (bitsL st.V m) _ (by omega) (by rw [hbl5]; exact ho5.rd); rw [hbl5] at h; exact h)) rfl ?_
                  rintro e w7 ⟨A7, c7, rfl, ho7, hf7, hA7⟩
                  refine ⟨_, rfl, ?_⟩
                  have hoa7 := hoa5.frm hf7 (by simp)
                  have hW7 := hW5.frm hf7 (by simp)
                  have hfr7 := hfr5.own hf7 (by simp)
                  refine Ops.m (Does.app rfl rfl Try.underlying39 (info4) rfl (by decide) hoa7 ho7.rd (BL_one _) (by omega) (by omega)) rfl ?_
                  rintro _ w6 ⟨A6, c6, rfl, hoa6, hf6, hob6⟩
                  refine Ops.r (Run.asg rfl) rfl ?_
                  refine Ops.nil ?_
                  refine thenQ_n ⟨(l ++ (bitsL st.V m).reverse, A4, A6, c6, rightE st.V st.N), (.cons rfl (.cons rfl (.cons (by rw [List.length_append, List.length_reverse, bitsL_len]; rfl) (.cons rfl (.cons rfl (.cons rfl .nil)))))), ?_⟩
                  rw [if_pos hc8, hm, Int.toNat_natCast] at hW7
                  refine ⟨by simp [bitsL_len]; omega, hW7.frm hf6 (mem_swap (hoa7.ne_w hW7 (by decide) (by decide))), ?_, hfr7.own hf6 hua, hu4, up_app hua hob6 hfr7.size⟩
                  simpa [BL_append, bitsL_len] using hoa6
                · skip
                  refine VC.skip ?_
                  refine thenQ_n ⟨(l, A4, Aa, ca, rightE st.V st.N), (.cons rfl (.cons rfl (.cons rfl (.cons rfl (.cons rfl (.cons rfl .nil)))))), ?_⟩
                  rw [if_neg hc8] at hW4
                  exact ⟨by dsimp only; omega, hW4, hoa4, hfr4, hu4, hua⟩
              · skip
                refine VC.seq ?_
                refine VC.region ?_
                refine Ops.r (Run.fieldAddr rfl Try.underlying28 rfl Try.sizeOf26 (by decide)) rfl ?_
                refine Ops.r (Run.load rfl Try.isAgg26 (hb3.cell 3)) rfl ?_
                refine Ops.r (Run.asg rfl) rfl ?_
                refine Ops.nil ?_
                refine thenQ_n ?_
                refine VC.sub [(0, _), (3, _), (4, _), (5, _), (7, _), (9, _)] (.cons rfl (.cons rfl (.cons rfl (.cons rfl (.cons rfl (.cons rfl .nil)))))) ?_
                refine VC.seq ?_
                refine VC.seq ?_
                refine VC.region ?_
                refine Ops.r (Run.mv rfl) rfl ?_
                refine Ops.r (Run.lenS rfl Try.underlying26) rfl ?_
                refine Ops.r (Run.bin rfl rfl (Bin.gtrN _ 100)) rfl ?_
                refine Ops.nil ?_
                refine thenQ_n ?_
                refine VC.sub [(0, _), (3, _), (4, _), (5, _), (7, _), (9, _), (47, _)] (.cons rfl (.cons rfl (.cons rfl (.cons rfl (.cons rfl (.cons rfl (.cons rfl .nil))))))) ?_
                refine VC.meet (σ := Option Addr × Nat) (fun s => [(0, .slice (some ad) n c), (3, .pointer (some ⟨g, 0, none⟩)), (4, .slice Aa l.length ca), (5, .int .i64 k), (7, .int .i64 ((0 : Nat) : Int)), (9, .slice s.1 (st.bs.take 100).length s.2)]) (fun s w9 => w3 = w9 ∧ Rd w 1 s.1 (st.bs.take 100).length (NB (st.bs.take 100))) ?_ ?_
                · skip
                  refine VC.condD rfl (fun hc9 => ?_) (fun hc9 => ?_)
                  · skip
                    refine VC.region ?_
                    refine Ops.r (Run.mv rfl) rfl ?_
                    refine Ops.r (Run.sliceS 0 100 rfl Try.underlying26 Try.sizeOf5 evB.none_ (evB.some_ rfl) (by omega) (by omega)) rfl ?_
                    refine Ops.r (Run.asg rfl) rfl ?_
                    refine Ops.nil ?_
                    refine thenQ_n ⟨(cutA st.B st.bc 0 1, st.bc - 0), (.cons rfl (.cons rfl (.cons rfl (.cons rfl (.cons rfl (.cons (by rw [show (st.bs.take 100).length = 100 - 0 from by simp; omega]; rfl) .nil)))))), ?_⟩
                    exact ⟨rfl, cut_rd 100 (by rw [hbl]; exact hrB) (by omega) (by omega)⟩
                  · skip
                    refine VC.skip ?_
                    refine thenQ_n ⟨(st.B, st.bc), (.cons rfl (.cons rfl (.cons rfl (.cons rfl (.cons rfl (.cons (by rw [List.take_of_length_le (by omega), hbl]; rfl) .nil)))))), ?_⟩
                    rw [List.take_of_length_le (by omega), hbl]
                    exact ⟨rfl, hrB⟩
                · skip
                  rintro ⟨B1, c1⟩ _ ⟨rfl, hr1⟩ Γ hΓ
                  dsimp only at hr1
                  have hb1 : ∀ b ∈ st.bs.take 100, b < 256 := fun b hb' => hbs b (List.mem_of_mem_take hb')
                  have hl1 : (st.bs.take 100).length ≤ 100 := by simp; omega
                  generalize st.bs.take 100 = b1 at *
                  refine thenQ_n (VC.sub _ hΓ ?_)
                  refine VC.seq ?_
                  refine VC.region ?_
                  refine Ops.r (Run.mv rfl) rfl ?_
                  refine Ops.r (Run.mv rfl) rfl ?_
                  refine Ops.cl (Enters.fn (evs.cons rfl (evs.cons rfl evs.nil)) Try.call24) (woctets_spec g c1 Aw B1 l b1 _ (by omega) (by omega) hb1 hW3 (hr1.belowW hfr3.below)) rfl ?_
                  rintro e w4 ⟨rfl, A4, hW4, hf4, hA4⟩
                  refine ⟨_, rfl, ?_⟩
                  have hoa4 := hoa3.frm hf4 (hoa3.ne_w hW3 (by decide) (by decide))
                  have hfr4 := hfr3.own hf4 (up_cons (by omega) huw)
                  have hu4 := up_step huw hA4 hfr3.size
                  have hwl := whole_len l
                  have hol := ofB_len b1
                  refine Ops.nil ?_
                  refine thenQ_n ?_
                  refine VC.sub [(0, _), (3, _), (4, _), (5, _), (7, _), (9, _)] (.cons rfl (.cons rfl (.cons rfl (.cons rfl (.cons rfl (.cons rfl .nil)))))) ?_
                  refine VC.seq ?_
                  refine VC.region ?_
                  refine Ops.r (Run.mv rfl) rfl ?_
                  refine Ops.cl (Enters.fn (evs.cons rfl evs.nil) Try.call25) (whole_spec Aa ca l _ (by omega) hoa4.rd) rfl ?_
                  rintro e w5 ⟨A5, c5, rfl, ho5, hf5, hA5⟩
                  refine ⟨_, rfl, ?_⟩
                  have hW5 := hW4.frm hf5 (by simp)
                  have hfr5 := hfr4.own hf5 (by simp)
                  refine Ops.r (Run.mv rfl) rfl ?_
                  refine Ops.cl (Enters.fn (evs.cons rfl evs.nil) Try.call26) (of_spec B1 c1 b1 _ (by omega) hb1 (hr1.belowW hfr5.below)) rfl ?_
                  rintro e w7 ⟨A7, c7, rfl, ho7, hf7, hA7⟩
                  refine ⟨_, rfl, ?_⟩
                  have hW7 := hW5.frm hf7 (by simp)
                  have hfr7 := hfr5.own hf7 (by simp)
                  have ho57 := ho5.frm hf7 (by simp)
                  have hu5 : ∀ x ∈ ob A5, w.heap.size ≤ x := fun x hx => Nat.le_trans hfr4.size (hA5 x hx)
                  refine Ops.m (Does.app rfl rfl Try.underlying39 (info4) rfl (by decide) ho57 ho7.rd (BL_one _) (by omega) (by omega)) rfl ?_
                  rintro _ w6 ⟨A6, c6, rfl, hoa6, hf6, hob6⟩
                  refine Ops.r (Run.asg rfl) rfl ?_
                  refine Ops.nil ?_
                  refine thenQ_n ?_
                  refine VC.sub [(0, _), (3, _), (4, _), (5, _), (7, _)] (.cons rfl (.cons rfl (.cons rfl (.cons rfl (.cons rfl .nil))))) ?_
                  refine VC.region ?_
                  refine Ops.r (v := .int .i64 ((0 : Nat) : Int)) (Run.asg rfl) rfl ?_
                  refine Ops.nil ?_
                  refine thenQ_n ⟨(whole l ++ ofB b1, A4, A6, c6, 0), (.cons rfl (.cons rfl (.cons (by rw [List.length_append, ofB_len]; rfl) (.cons rfl (.cons rfl (.cons rfl .nil)))))), ?_⟩
                  refine ⟨by simp [whole_len, ofB_len]; omega, hW7.frm hf6 (mem_swap (ho57.ne_w hW7 (by decide) (by decide))), ?_, hfr7.own hf6 hu5, hu4, up_app hu5 hob6 hfr7.size⟩
                  simpa [BL_append, ofB_len] using hoa6
          · skip
            clear hW hoa hfr huw hua hW3 hoa3 hfr3 hb3 hb2
            rintro ⟨l', Aw', Aa', ca', E⟩ w5 ⟨hll', hW, hoa, hfr, huw, hua⟩ Γ hΓ
            dsimp only at hll' hW hoa hfr huw hua
            have hll2 : l'.length ≤ 1000 * (k + 1) := by omega
            clear hll' hll
            refine blockQ_n (thenQ_n (VC.sub _ hΓ ?_))
            refine VC.seq ?_
            refine VC.held (fun v => IsW v g Aw' l' ∧ Own v 4 1 Aa' l'.length ca' (BL l') ∧ Frm [] w v) (by kernel_rfl) ?_
            have hS : (fun v => IsW v g Aw' l' ∧ Own v 4 1 Aa' l'.length ca' (BL l') ∧ Frm [] w v) w5.drew := ⟨hW.frm (Drawn.drew _).frm (by simp), hoa.frm (Drawn.drew _).frm (by simp), hfr.drawn (Drawn.drew _)⟩
            refine HOps.take 0 rfl (by kernel_rfl) (by kernel_rfl) (by kernel_rfl) hS (fun w0 hw0 => Run.mv rfl) trivial rfl rfl ?_
            refine HOps.take 1 rfl (by kernel_rfl) (by kernel_rfl) (by kernel_rfl) hS (fun w0 hw0 => Run.mv rfl) trivial rfl rfl ?_
            refine HOps.take 2 rfl (by kernel_rfl) (by kernel_rfl) (by kernel_rfl) hS (fun w0 hw0 => Run.bin rfl rfl (Bin.neqN _ _)) trivial rfl rfl ?_
            refine HOps.take 3 rfl (by kernel_rfl) (by kernel_rfl) (by kernel_rfl) hS (fun w0 hw0 => Run.mv rfl) trivial rfl rfl ?_
            refine HOps.take 4 rfl (by kernel_rfl) (by kernel_rfl) (by kernel_rfl) hS (fun w0 hw0 => Run.mv rfl) (Up.g rfl (by simp)) rfl rfl ?_
            refine HOps.take 6 rfl (by kernel_rfl) (by kernel_rfl) (by kernel_rfl) hS (fun w0 hw0 => Run.mv rfl) (Up.g rfl (by simp)) rfl rfl ?_
            refine HOps.take 7 rfl (by kernel_rfl) (by kernel_rfl) (by kernel_rfl) hS (fun w0 hw0 => Run.lenS rfl Try.underlying39) (Up.g rfl (by simp)) rfl rfl ?_
            refine HOps.cl 5 rfl (by kernel_rfl) (Enters.fn (evs.cons rfl evs.nil) Try.call27) (count_spec g Aw' l' _ hS.1) (Up.g rfl (by simp)) rfl rfl ?_
            rintro e _ ⟨rfl, rfl⟩
            refine ⟨_, rfl, hS, ?_⟩
            refine HOps.take 8 rfl (by kernel_rfl) (by kernel_rfl) (by kernel_rfl) hS (fun w0 hw0 => Run.bin rfl rfl (Bin.neqN _ _)) (Up.g rfl (by simp)) rfl rfl ?_
            refine HOps.take 9 rfl (by kernel_rfl) (by kernel_rfl) (by kernel_rfl) hS (fun w0 hw0 => Run.pickF rfl rfl (by simp)) trivial rfl rfl ?_
            refine HOps.take 10 rfl (by kernel_rfl) (by kernel_rfl) (by kernel_rfl) hS (fun w0 hw0 => Run.mv rfl) trivial rfl rfl ?_
            refine HOps.take 11 rfl (by kernel_rfl) (by kernel_rfl) (by kernel_rfl) hS (fun w0 hw0 => Run.mv rfl) (Up.g rfl (by simp)) rfl rfl ?_
            refine HOps.take 14 rfl (by kernel_rfl) (by kernel_rfl) (by kernel_rfl) hS (fun w0 hw0 => Run.mv rfl) (Up.g rfl (by simp)) rfl rfl ?_
            refine HOps.cl 12 rfl (by kernel_rfl) (Enters.fn (evs.cons rfl evs.nil) Try.call17) (bytes_spec g Aw' l' _ (by omega) hS.1) (Up.g rfl (by simp)) rfl rfl ?_
            rintro e w7 ⟨B7, c7, rfl, ho7, hf7, hB7⟩
            have hS := (show (fun v => IsW v g Aw' l' ∧ Own v 4 1 Aa' l'.length ca' (BL l') ∧ Frm [] w v) w7 from ⟨hS.1.frm hf7 (by simp), hS.2.1.frm hf7 (by simp), hS.2.2.own hf7 (by simp)⟩)
            refine ⟨_, rfl, hS, ?_⟩
            refine HOps.more (fun v => Own v 5 1 B7 (pack l').length c7 (NB (pack l')) ∧ IsW v g Aw' l' ∧ Own v 4 1 Aa' l'.length ca' (BL l') ∧ Frm [] w v) (fun _ h => h.2) ?_
            have hS := And.intro ho7 hS
            refine HOps.take 13 rfl (by kernel_rfl) (by kernel_rfl) (by kernel_rfl) hS (fun w0 hw0 => Run.strOf rfl Try.underlying26 Try.underlying5 Try.underlying9 (hw0.1.str (pack_lt _))) (Up.g rfl (by simp)) rfl rfl ?_
            refine HOps.cl 15 rfl (by kernel_rfl) (Enters.fn (evs.cons rfl evs.nil) Try.call28) (refBytes_spec Aa' ca' l' _ (by omega) hS.2.2.1.rd) (Up.g rfl (by simp)) rfl rfl ?_
            rintro e w8 ⟨rfl, hf8⟩
            have hS := And.intro (hS.1.frm hf8 (by simp)) (And.intro (hS.2.1.frm hf8 (by simp)) (And.intro (hS.2.2.1.frm hf8 (by simp)) (hS.2.2.2.own hf8 (by simp))))
            refine ⟨_, rfl, hS, ?_⟩
            refine HOps.take 16 rfl (by kernel_rfl) (by kernel_rfl) (by kernel_rfl) hS (fun w0 hw0 => Run.neqStr rfl rfl) (Up.g rfl (by simp)) rfl rfl ?_
            refine HOps.take 17 rfl (by kernel_rfl) (by kernel_rfl) (by kernel_rfl) hS (fun w0 hw0 => Run.pickF rfl rfl (by simp [strB])) trivial rfl rfl ?_
            refine HOps.done (by kernel_rfl) ?_
            refine thenQ_n ?_
            refine VC.sub [(0, _), (3, _), (4, _), (5, _), (110, _)] (.cons rfl (.cons rfl (.cons rfl (.cons rfl (.cons rfl .nil))))) ?_
            refine VC.condF rfl (by simp [strB]) ?_
            refine VC.skip ?_
            refine blockQ_n (thenQ_n ?_)
            refine VC.sub [(0, _), (3, _), (4, _), (5, _)] (.cons rfl (.cons rfl (.cons rfl (.cons rfl .nil)))) ?_
            refine VC.region ?_
            refine Ops.r (Run.mv rfl) rfl ?_
            refine Ops.r (Run.bin rfl rfl (Bin.add_i64 _ 1 (by omega))) rfl ?_
            refine Ops.r (Run.asg rfl) rfl ?_
            refine Ops.nil ?_
            refine thenQ_n ⟨(k + 1, l', Aw', Aa', ca'), (.cons rfl (.cons rfl (.cons rfl (.cons rfl .nil)))), ?_, ?_⟩
            · skip
              exact ⟨hkn', by dsimp only; omega, hll2, hS.2.1, hS.2.2.1, hS.2.2.2, huw, hua⟩
            · skip
              first | omega | (dsimp only; omega)
    · skip
      refine VC.exit ?_
      refine thenQ_x (thenQ_x (blockQ_x ?_))
      refine thenQ_n ?_
      refine VC.sub [] .nil ?_
      refine VC.seq ?_
      refine VC.region ?_
      refine Ops.cl (Enters.fn evs.nil Try.call20) (awake08_spec _) rfl ?_
      rintro e w8 ⟨rfl, hf8⟩
      refine ⟨_, rfl, ?_⟩
      refine Ops.r (Run.asg rfl) rfl ?_
      refine Ops.nil ?_
      refine thenQ_n ?_
      refine VC.sub [(2, _)] (.cons rfl .nil) ?_
      refine VC.ret ?_
      refine end1 rfl ?_
      exact ⟨rfl, hfr.own hf8 (by simp)⟩

end Go.Proofs.Ytebaojedpnnliaa
