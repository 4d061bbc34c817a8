/-
  The walk of limit.merged.
-/
import Derived.Test.YtebaojedpnnliaaLimN
namespace Go.Proofs.Ytebaojedpnnliaa
open Go.RowKit

theorem Frm.cell {w v : World} {S : List Nat} (h : Frm S w v) {a : Addr} {x : Value} (hc : w.cell? a = some x) (hS : a.block ∉ S) : v.cell? a = some x := by
  rw [World.cell?_of_block (w := w) (a := a) (h.block _ (World.block_lt_of_cell? w _ hc) hS)]
  exact hc
theorem Rd_tail {w : World} {A : Option Addr} {p : PkC} {l : List PkC} {c : Nat} (h : Rd w 2 A (l.length + 1) ((p :: l).flatMap PkC.cells)) (hc : l.length + 1 ≤ c) : Rd w 2 (cutA A c 1 2) l.length (l.flatMap PkC.cells) := by
  have e := h.cut (l := 1) (r := l.length + 1) (cap := c) (by omega) (Nat.le_refl _) hc
  have e2 : ((((p :: l).flatMap PkC.cells).drop (1 * 2)).take ((l.length + 1 - 1) * 2)) = l.flatMap PkC.cells := by
    rw [List.flatMap_cons]
    show ((l.flatMap PkC.cells).take ((l.length + 1 - 1) * 2)) = _
    rw [List.take_of_length_le (by rw [flat_len PkC.cells 2 PkC.cells_len]; omega)]
  rw [e2, Nat.add_sub_cancel] at e
  exact e
theorem pairsP_len (l : List (Nat × List Nat)) : (pairsP l).length = l.length / 2 := by
  match l with
  | [] => rfl
  | [a] => simp [pairsP]
  | a :: b :: r => rw [pairsP, List.length_cons, pairsP_len r]; simp; omega

set_option maxRecDepth 100000 in
theorem merged_spec (A1 A2 : Option Addr) (c1 c2 : Nat) (ps ls : List PkC) (w : World) (hr1 : Rd w 2 A1 ps.length (ps.flatMap PkC.cells)) (h1 : ∀ p ∈ ps, PkOk w p) (hr2 : Rd w 2 A2 ls.length (ls.flatMap PkC.cells)) (h2 : ∀ p ∈ ls, PkOk w p)
    (hcap : ps.length ≤ c1) (hl1 : ps.length ≤ 10000) (hl2 : ls.length ≤ 10000) (hs : ∀ p ∈ ls, p.count ≤ 2305843009213693951 ∧ p.sy.length ≤ 100000)
    (G : Nat → Prop) (hG : ∀ x, w.heap.size ≤ x → G x) (hg1 : ∀ p ∈ ps, ∀ x ∈ ob p.A, G x) :
    Calls Try.prog 59 #[.slice A1 ps.length c1, .slice A2 ls.length c2] w fun e w' => ∃ B c qs, e = .returned (.slice B qs.length c) ∧ Pks w' B c qs ∧ qs.map PkC.abs = mergeP (ps.map PkC.abs) (pairsP (ls.map PkC.abs)) ∧ Frm [] w w' ∧ (∀ x ∈ ob B, w.heap.size ≤ x) ∧ ∀ p ∈ qs, ∀ x ∈ ob p.A, G x := by
  refine VC.calls (nt := 72) (res := #[.tmp 4]) Try.func59 rfl Try.ntmps59 Try.results59 rfl ?_
  refine VC.seq ?_
  refine VC.region ?_
  refine Ops.r (Run.asg rfl) rfl ?_
  refine Ops.nil ?_
  refine thenQ_n ?_
  refine VC.sub [(0, _), (1, _)] (.cons rfl (.cons rfl .nil)) ?_
  refine VC.seq ?_
  refine VC.region ?_
  refine Ops.r (Run.asg rfl) rfl ?_
  refine Ops.r (Run.asg rfl) rfl ?_
  refine Ops.nil ?_
  refine thenQ_n ?_
  refine VC.seq ?_
  refine VC.seq ?_
  refine VC.region ?_
  refine Ops.r (v := .int .i64 ((0 : Nat) : Int)) (Run.asg rfl) rfl ?_
  refine Ops.nil ?_
  refine thenQ_n ?_
  refine VC.block ?_
  refine VC.loop (σ := Nat × Option Addr × Nat × List PkC) (fun s => [(0, .slice A1 ps.length c1), (1, .slice A2 ls.length c2), (5, .slice s.2.1 s.2.2.2.length s.2.2.1), (6, .slice none 0 0), (7, .int .i64 ((2 * s.1 : Nat) : Int))]) (fun s wr => 2 * s.1 ≤ ls.length ∧ Pks wr s.2.1 s.2.2.1 s.2.2.2 ∧ s.2.2.2.map PkC.abs = pairsP ((ls.map PkC.abs).take (2 * s.1)) ∧ Frm [] w wr ∧ (∀ x ∈ ob s.2.1, w.heap.size ≤ x) ∧ ∀ p ∈ s.2.2.2, ∀ x ∈ ob p.A, G x) (fun s => ls.length - 2 * s.1) (0, none, 0, []) (.cons rfl (.cons rfl (.cons rfl (.cons rfl (.cons rfl .nil))))) ⟨by omega, ⟨Own.nil _ _ _, by simp⟩, rfl, Frm.refl _ _, up_nil, by simp⟩ ?_
  rintro ⟨k, B, c, qs⟩ w7 ⟨hk, hP, hq, hfr, huB, hqg⟩
  dsimp only at hk hP hq hfr huB hqg ⊢
  have hql : qs.length ≤ ls.length := by
    have h5 := congrArg List.length hq
    rw [List.length_map, pairsP_len, List.length_take, List.length_map] at h5
    omega
  refine VC.seq ?_
  refine VC.seq ?_
  refine VC.region ?_
  refine Ops.r (Run.mv rfl) rfl ?_
  refine Ops.r (Run.bin rfl rfl (Bin.add_i64 _ 1 (by omega))) rfl ?_
  refine Ops.r (Run.mv rfl) rfl ?_
  refine Ops.r (Run.lenS rfl Try.underlying97) rfl ?_
  refine Ops.r (Run.bin rfl rfl (Bin.lssN _ _)) rfl ?_
  refine Ops.nil ?_
  refine thenQ_n ?_
  refine VC.sub [(0, _), (1, _), (5, _), (6, _), (7, _), (12, _)] (.cons rfl (.cons rfl (.cons rfl (.cons rfl (.cons rfl (.cons rfl .nil)))))) ?_
  refine VC.condD rfl (fun hc1 => ?_) (fun hc1 => ?_)
  · skip
    have hkl : 2 * k < ls.length := by omega
    obtain ⟨ad, rfl, hea⟩ := hr2.elem hkl
    obtain ⟨ad2, had, heb⟩ := hr2.elem hc1
    obtain rfl : ad = ad2 := by injection had
    have hpt := pairsP_take (ls.map PkC.abs) k (by simpa using hc1)
    rw [List.getElem_map, List.getElem_map] at hpt
    have ha := h2 _ (List.getElem_mem hkl)
    have hb := h2 _ (List.getElem_mem hc1)
    have hsa := hs _ (List.getElem_mem hkl)
    have hsb := hs _ (List.getElem_mem hc1)
    rw [flat_get PkC.cells 2 PkC.cells_len ls _ hkl] at hea
    rw [flat_get PkC.cells 2 PkC.cells_len ls _ hc1] at heb
    generalize ls[2 * k] = a at *
    generalize ls[2 * k + 1] = b at *
    refine VC.skip ?_
    refine thenQ_n ?_
    refine VC.sub [(0, _), (1, _), (5, _), (6, _), (7, _)] (.cons rfl (.cons rfl (.cons rfl (.cons rfl (.cons rfl .nil))))) ?_
    refine VC.seq ?_
    refine VC.block ?_
    refine VC.held (fun v => Frm [] w v) (by kernel_rfl) ?_
    have hS : (fun v => Frm [] w v) w7.drew := hfr.drawn (Drawn.drew _)
    have hPd : Pks w7.drew B c qs := hP.frm (Drawn.drew _).frm (by simp) (fun _ _ _ _ => by simp)
    refine HOps.take 0 rfl (by kernel_rfl) (by kernel_rfl) (by kernel_rfl) hS (fun w0 hw0 => Run.mv rfl) trivial rfl rfl ?_
    refine HOps.take 1 rfl (by kernel_rfl) (by kernel_rfl) (by kernel_rfl) hS (fun w0 hw0 => Run.mv rfl) trivial rfl rfl ?_
    refine HOps.take 2 rfl (by kernel_rfl) (by kernel_rfl) (by kernel_rfl) hS (fun w0 hw0 => Run.mv rfl) trivial rfl rfl ?_
    refine HOps.take 3 rfl (by kernel_rfl) (by kernel_rfl) (by kernel_rfl) hS (fun w0 hw0 => Run.indexS _ rfl rfl Try.underlying97 Try.sizeOf100 (by omega)) trivial rfl rfl ?_
    refine HOps.take 4 rfl (by kernel_rfl) (by kernel_rfl) (by kernel_rfl) hS (fun w0 hw0 => Run.loadA rfl Try.isAgg100 Try.sizeOf100 (fun j v h => hw0.cell (hea j v h) (by simp)) (by first | rfl | (simp; done))) trivial rfl rfl ?_
    refine HOps.take 5 rfl (by kernel_rfl) (by kernel_rfl) (by kernel_rfl) hS (fun w0 hw0 => Run.mv rfl) trivial rfl rfl ?_
    refine HOps.take 6 rfl (by kernel_rfl) (by kernel_rfl) (by kernel_rfl) hS (fun w0 hw0 => Run.mv rfl) trivial rfl rfl ?_
    refine HOps.take 7 rfl (by kernel_rfl) (by kernel_rfl) (by kernel_rfl) hS (fun w0 hw0 => Run.bin rfl rfl (Bin.add_i64 _ 1 (by omega))) trivial rfl rfl ?_
    refine HOps.take 8 rfl (by kernel_rfl) (by kernel_rfl) (by kernel_rfl) hS (fun w0 hw0 => Run.indexS _ rfl rfl Try.underlying97 Try.sizeOf100 (by omega)) trivial rfl rfl ?_
    refine HOps.take 9 rfl (by kernel_rfl) (by kernel_rfl) (by kernel_rfl) hS (fun w0 hw0 => Run.loadA rfl Try.isAgg100 Try.sizeOf100 (fun j v h => hw0.cell (heb j v h) (by simp)) (by first | rfl | (simp; done))) trivial rfl rfl ?_
    refine HOps.cl 10 rfl (by kernel_rfl) (Enters.fn (evs.cons rfl (evs.cons rfl evs.nil)) Try.call66) (both_spec a b _ (ha.frm hS (by simp)) (hb.frm hS (by simp)) (by omega) (by omega)) trivial rfl rfl ?_
    have hszb := Frm.size hS
    rintro e w4 ⟨A4, c4, rfl, hp4, hf4, hA4⟩
    have hS : (fun v => Frm [] w v) w4 := hS.own hf4 (by simp)
    refine ⟨_, rfl, hS, ?_⟩
    have hP4 := hPd.frm hf4 (by simp) (fun _ _ _ _ => by simp)
    generalize hpk : (⟨a.count + b.count, A4, c4, a.sy ++ b.sy⟩ : PkC) = p at *
    have hpa : p.abs = both2 a.abs b.abs := by subst hpk; rfl
    have hpG : ∀ x ∈ ob p.A, G x := by subst hpk; exact fun x hx => hG x (Nat.le_trans hszb (hA4 x hx))
    refine HOps.m 11 rfl (by kernel_rfl) (Does.buildS1 rfl Try.underlying97 Try.sizeOf100 zero100 (by decide) (by decide) rfl rfl) trivial rfl rfl ?_
    rintro _ w5 ⟨rfl, hF5⟩
    have hS : (fun v => Frm [] w v) w5 := hS.own hF5.frm (by simp)
    refine ⟨hS, ?_⟩
    have hrd5 : Rd w5 2 (some ⟨w4.heap.size, 0, none⟩) 1 p.cells := Rd.of_blk (n := 1) (size := 2) hF5.blk rfl
    have hP5 := hP4.frm hF5.frm (by simp) (fun _ _ _ _ => by simp)
    have hp5 := hp4.frm hF5.frm (by simp)
    refine HOps.m 12 rfl (by kernel_rfl) (Does.app rfl rfl Try.underlying97 (info100) rfl (by decide) hP5.1 hrd5 p.one (by omega) (by omega)) trivial rfl rfl ?_
    rintro _ w6 ⟨B6, c6, rfl, ho6, hf6, hob6⟩
    have hsz5 := Frm.size hS
    have hS : (fun v => Frm [] w v) w6 := Frm.own hS hf6 huB
    refine ⟨hS, ?_⟩
    refine HOps.take 13 rfl (by kernel_rfl) (by kernel_rfl) (by kernel_rfl) hS (fun w0 hw0 => Run.asg rfl) trivial rfl rfl ?_
    refine HOps.done (by kernel_rfl) ?_
    refine blockQ_n (thenQ_n ?_)
    refine VC.sub [(0, _), (1, _), (5, _), (6, _), (7, _)] (.cons rfl (.cons rfl (.cons rfl (.cons rfl (.cons rfl .nil))))) ?_
    refine VC.region ?_
    refine Ops.r (Run.mv rfl) rfl ?_
    refine Ops.r (Run.bin rfl rfl (Bin.add_i64 _ 2 (by omega))) rfl ?_
    refine Ops.r (Run.asg rfl) rfl ?_
    refine Ops.nil ?_
    refine thenQ_n ⟨(k + 1, B6, c6, qs ++ [p]), (.cons rfl (.cons rfl (.cons (by rw [show (qs ++ [p]).length = qs.length + 1 from List.length_append]; rfl) (.cons rfl (.cons (congrArg (fun z : Nat => some (Value.int .i64 (z : Int))) (by omega)) .nil))))), ?_, ?_⟩
    · skip
      refine ⟨by dsimp only; omega, ⟨?_, ?_⟩, ?_, hS, up_app huB hob6 hsz5, fun q hq2 => (List.mem_append.1 hq2).elim (hqg q) (fun h5 => by simp at h5; subst h5; exact hpG)⟩
      · rw [show (qs ++ [p]).length = qs.length + 1 from List.length_append, List.flatMap_append]
        simpa using ho6
      · intro q hq2
        rcases List.mem_append.1 hq2 with h5 | h5
        · exact (hP5.2 q h5).frm hf6 (hP5.ne q h5)
        · simp at h5; subst h5; exact hp5.frm hf6 (Own.ne_own hp5 hP5.1 (by decide))
      · dsimp only
        rw [List.map_append, hq, show 2 * (k + 1) = 2 * k + 2 by omega, hpt, List.map_cons, hpa]
        rfl
    · skip
      first | omega | (dsimp only; omega)
  · skip
    have hqa : qs.map PkC.abs = pairsP (ls.map PkC.abs) := by rw [hq, pairsP_all _ (2 * k) (by simp; omega) (by simp; omega) (by omega)]
    rw [← hqa]
    have hql2 : qs.length ≤ 10000 := by omega
    clear hqa hq hk
    refine VC.exit ?_
    refine thenQ_x (thenQ_x (blockQ_x ?_))
    refine thenQ_n ?_
    refine VC.sub [(0, _), (5, _), (6, _)] (.cons rfl (.cons rfl (.cons rfl .nil))) ?_
    refine VC.seq ?_
    refine VC.block ?_
    refine VC.loop (σ := List PkC × List PkC × List PkC × Option Addr × Nat × Option Addr × Nat × Option Addr × Nat) (fun s => [(0, .slice s.2.2.2.1 s.1.length s.2.2.2.2.1), (5, .slice s.2.2.2.2.2.1 s.2.1.length s.2.2.2.2.2.2.1), (6, .slice s.2.2.2.2.2.2.2.1 s.2.2.1.length s.2.2.2.2.2.2.2.2)]) (fun s wr => mergeP (ps.map PkC.abs) (qs.map PkC.abs) = s.2.2.1.map PkC.abs ++ mergeP (s.1.map PkC.abs) (s.2.1.map PkC.abs) ∧ Rd w 2 s.2.2.2.1 s.1.length (s.1.flatMap PkC.cells) ∧ s.1.length ≤ s.2.2.2.2.1 ∧ (∀ p ∈ s.1, PkOk w p) ∧ Rd w7 2 s.2.2.2.2.2.1 s.2.1.length (s.2.1.flatMap PkC.cells) ∧ s.2.1.length ≤ s.2.2.2.2.2.2.1 ∧ (∀ p ∈ s.2.1, PkOk w7 p) ∧ Pks wr s.2.2.2.2.2.2.2.1 s.2.2.2.2.2.2.2.2 s.2.2.1 ∧ Frm [] w7 wr ∧ (∀ x ∈ ob s.2.2.2.2.2.2.2.1, w7.heap.size ≤ x) ∧ s.2.2.1.length + s.1.length + s.2.1.length ≤ 30000 ∧ (∀ p ∈ s.1, ∀ x ∈ ob p.A, G x) ∧ (∀ p ∈ s.2.1, ∀ x ∈ ob p.A, G x) ∧ ∀ p ∈ s.2.2.1, ∀ x ∈ ob p.A, G x) (fun s => s.1.length + s.2.1.length) (ps, qs, [], A1, c1, B, c, none, 0) (.cons rfl (.cons rfl (.cons rfl .nil))) ⟨by simp, hr1, hcap, h1, hP.1.rd, hP.1.le, hP.2, ⟨Own.nil _ _ _, by simp⟩, Frm.refl _ _, up_nil, by simp; omega, hg1, hqg, by simp⟩ ?_
    rintro ⟨cs, pk, out, Ac, ca, Bp, cp, Bo, co⟩ wr ⟨hm, hrc, hcc, hoc, hrp, hcp, hop, hPo, hfo, huo, hlen, hcg, hpg, hog⟩
    dsimp only at hm hrc hcc hoc hrp hcp hop hPo hfo huo hlen hcg hpg hog ⊢
    have hfw : Frm [] w wr := hfr.own hfo (by simp)
    refine VC.seq ?_
    refine VC.seq ?_
    refine VC.split1 [(0, _), (5, _), (6, _)] (.cons rfl (.cons rfl (.cons rfl .nil))) 35 (.bool (decide (0 < cs.length ∨ 0 < pk.length))) ?_ ?_
    · by_cases hs0 : 0 < cs.length
      · skip
        refine VC.region ?_
        refine Ops.r (Run.mv rfl) rfl ?_
        refine Ops.r (Run.lenS rfl Try.underlying97) rfl ?_
        refine Ops.r (Run.bin rfl rfl (Bin.gtrN _ 0)) rfl ?_
        refine Ops.r (Run.mv rfl) rfl ?_
        refine Ops.sk rfl (by first | rfl | assumption | decide | (simp; done) | (simp; omega) | (simp [*]; done)) rfl ?_
        refine Ops.sk rfl (by first | rfl | assumption | decide | (simp; done) | (simp; omega) | (simp [*]; done)) rfl ?_
        refine Ops.sk rfl (by first | rfl | assumption | decide | (simp; done) | (simp; omega) | (simp [*]; done)) rfl ?_
        refine Ops.r (Run.pickT rfl rfl (by first | rfl | assumption | decide | (simp; done) | (simp; omega) | (simp [*]; done))) rfl ?_
        refine Ops.nil ?_
        refine thenQ_n ⟨(.cons (by rw [dor1 hs0]; rfl) (.cons rfl (.cons rfl (.cons rfl .nil)))), rfl⟩
      · skip
        refine VC.region ?_
        refine Ops.r (Run.mv rfl) rfl ?_
        refine Ops.r (Run.lenS rfl Try.underlying97) rfl ?_
        refine Ops.r (Run.bin rfl rfl (Bin.gtrN _ 0)) rfl ?_
        refine Ops.r (Run.mv rfl) rfl ?_
        refine Ops.rg rfl (by first | rfl | assumption | decide | (simp; done) | (simp; omega) | (simp [*]; done)) (Run.mv rfl) rfl ?_
        refine Ops.rg rfl (by first | rfl | assumption | decide | (simp; done) | (simp; omega) | (simp [*]; done)) (Run.lenS rfl Try.underlying97) rfl ?_
        refine Ops.rg rfl (by first | rfl | assumption | decide | (simp; done) | (simp; omega) | (simp [*]; done)) (Run.bin rfl rfl (Bin.gtrN _ 0)) rfl ?_
        refine Ops.r (Run.pickF rfl rfl (by first | rfl | assumption | decide | (simp; done) | (simp; omega) | (simp [*]; done))) rfl ?_
        refine Ops.nil ?_
        refine thenQ_n ⟨(.cons (by rw [dor0 hs0]; rfl) (.cons rfl (.cons rfl (.cons rfl .nil)))), rfl⟩
    · intro Γ hΓ
      refine thenQ_n (VC.sub _ hΓ ?_)
      refine VC.condD rfl (fun hc2 => ?_) (fun hc2 => ?_)
      · skip
        refine VC.skip ?_
        refine thenQ_n ?_
        refine VC.sub [(0, _), (5, _), (6, _)] (.cons rfl (.cons rfl (.cons rfl .nil))) ?_
        refine VC.block ?_
        refine VC.seq ?_
        refine VC.splitR [(0, .slice Ac cs.length ca), (5, .slice Bp pk.length cp), (6, .slice Bo out.length co)] (fun w1 => w1 = wr.drew) 54 (.bool (decide (pk.length = 0 ∨ 0 < cs.length ∧ (cs.headD PkC.zero).count ≤ (pk.headD PkC.zero).count))) ?_ ?_
        · refine VC.still (by kernel_rfl) (by kernel_rfl) ?_
          refine SOps.r (Run.mv rfl) rfl ?_
          refine SOps.r (Run.lenS rfl Try.underlying97) rfl ?_
          refine SOps.r (Run.bin rfl rfl (Bin.eqlN _ 0)) rfl ?_
          by_cases hs38 : pk.length = 0
          · skip
            refine SOps.r (Run.mv rfl) rfl ?_
            refine SOps.sk rfl (by first | rfl | assumption | decide | (simp; done) | (simp; omega) | (simp [*]; done)) rfl ?_
            refine SOps.sk rfl (by first | rfl | assumption | decide | (simp; done) | (simp; omega) | (simp [*]; done)) rfl ?_
            refine SOps.sk rfl (by first | rfl | assumption | decide | (simp; done) | (simp; omega) | (simp [*]; done)) rfl ?_
            refine SOps.sk rfl (by first | rfl | assumption | decide | (simp; done) | (simp; omega) | (simp [*]; done)) rfl ?_
            refine SOps.skU rfl rfl ?_
            refine SOps.skU rfl rfl ?_
            refine SOps.skU rfl rfl ?_
            refine SOps.skU rfl rfl ?_
            refine SOps.skU rfl rfl ?_
            refine SOps.skU rfl rfl ?_
            refine SOps.skU rfl rfl ?_
            refine SOps.skU rfl rfl ?_
            refine SOps.skU rfl rfl ?_
            refine SOps.sk rfl (by first | rfl | assumption | decide | (simp; done) | (simp; omega) | (simp [*]; done)) rfl ?_
            refine SOps.r (Run.pickT rfl rfl (by first | rfl | assumption | decide | (simp; done) | (simp; omega) | (simp [*]; done))) rfl ?_
            refine SOps.nil ?_
            refine thenQ_n ⟨(.cons (congrArg (fun b => some (Value.bool b)) (by simp [*])) (.cons rfl (.cons rfl (.cons rfl .nil)))), (rfl)⟩
          · skip
            refine SOps.r (Run.mv rfl) rfl ?_
            refine SOps.rg rfl (by first | rfl | assumption | decide | (simp; done) | (simp; omega) | (simp [*]; done)) (Run.mv rfl) rfl ?_
            refine SOps.rg rfl (by first | rfl | assumption | decide | (simp; done) | (simp; omega) | (simp [*]; done)) (Run.lenS rfl Try.underlying97) rfl ?_
            refine SOps.rg rfl (by first | rfl | assumption | decide | (simp; done) | (simp; omega) | (simp [*]; done)) (Run.bin rfl rfl (Bin.gtrN _ 0)) rfl ?_
            by_cases hs42 : 0 < cs.length
            · skip
              have hpk0 : 0 < pk.length := by omega
              obtain ⟨ad, rfl, hea⟩ := hrc.elem hs42
              obtain ⟨ad2, rfl, heb⟩ := hrp.elem hpk0
              rw [flat_get PkC.cells 2 PkC.cells_len cs 0 hs42, show cs[0] = cs.headD PkC.zero by cases cs <;> simp at hs42 ⊢] at hea
              rw [flat_get PkC.cells 2 PkC.cells_len pk 0 hpk0, show pk[0] = pk.headD PkC.zero by cases pk <;> simp at hpk0 ⊢] at heb
              have hca := (hfw.drawn (Drawn.drew wr)).cell (hea 0 _ rfl) (by simp)
              have hcb := (hfo.drawn (Drawn.drew wr)).cell (heb 0 _ rfl) (by simp)
              refine SOps.rg rfl (by first | rfl | assumption | decide | (simp; done) | (simp; omega) | (simp [*]; done)) (Run.mv rfl) rfl ?_
              refine SOps.rg rfl (by first | rfl | assumption | decide | (simp; done) | (simp; omega) | (simp [*]; done)) (Run.mv rfl) rfl ?_
              refine SOps.rg rfl (by first | rfl | assumption | decide | (simp; done) | (simp; omega) | (simp [*]; done)) (Run.indexS 0 rfl rfl Try.underlying97 Try.sizeOf100 (by omega)) rfl ?_
              refine SOps.rg rfl (by first | rfl | assumption | decide | (simp; done) | (simp; omega) | (simp [*]; done)) (Run.fieldAddr rfl Try.underlying100 rfl Try.sizeOf3 (by decide)) rfl ?_
              refine SOps.rg rfl (by first | rfl | assumption | decide | (simp; done) | (simp; omega) | (simp [*]; done)) (Run.load rfl Try.isAgg3 hca) rfl ?_
              refine SOps.rg rfl (by first | rfl | assumption | decide | (simp; done) | (simp; omega) | (simp [*]; done)) (Run.mv rfl) rfl ?_
              refine SOps.rg rfl (by first | rfl | assumption | decide | (simp; done) | (simp; omega) | (simp [*]; done)) (Run.indexS 0 rfl rfl Try.underlying97 Try.sizeOf100 (by omega)) rfl ?_
              refine SOps.rg rfl (by first | rfl | assumption | decide | (simp; done) | (simp; omega) | (simp [*]; done)) (Run.fieldAddr rfl Try.underlying100 rfl Try.sizeOf3 (by decide)) rfl ?_
              refine SOps.rg rfl (by first | rfl | assumption | decide | (simp; done) | (simp; omega) | (simp [*]; done)) (Run.load rfl Try.isAgg3 hcb) rfl ?_
              refine SOps.rg rfl (by first | rfl | assumption | decide | (simp; done) | (simp; omega) | (simp [*]; done)) (Run.bin rfl rfl (Bin.leqN _ _)) rfl ?_
              by_cases hs52 : (cs.headD PkC.zero).count ≤ (pk.headD PkC.zero).count
              · skip
                refine SOps.rg rfl (by first | rfl | assumption | decide | (simp; done) | (simp; omega) | (simp [*]; done)) (Run.pickT rfl rfl (by first | rfl | assumption | decide | (simp; done) | (simp; omega) | (simp [*]; done))) rfl ?_
                refine SOps.r (Run.pickF rfl rfl (by first | rfl | assumption | decide | (simp; done) | (simp; omega) | (simp [*]; done))) rfl ?_
                refine SOps.nil ?_
                refine thenQ_n ⟨(.cons (congrArg (fun b => some (Value.bool b)) (by simp [*])) (.cons rfl (.cons rfl (.cons rfl .nil)))), (rfl)⟩
              · skip
                refine SOps.rg rfl (by first | rfl | assumption | decide | (simp; done) | (simp; omega) | (simp [*]; done)) (Run.pickT rfl rfl (by first | rfl | assumption | decide | (simp; done) | (simp; omega) | (simp [*]; done))) rfl ?_
                refine SOps.r (Run.pickF rfl rfl (by first | rfl | assumption | decide | (simp; done) | (simp; omega) | (simp [*]; done))) rfl ?_
                refine SOps.nil ?_
                refine thenQ_n ⟨(.cons (congrArg (fun b => some (Value.bool b)) (by simp [*])) (.cons rfl (.cons rfl (.cons rfl .nil)))), (rfl)⟩
            · skip
              refine SOps.rg rfl (by first | rfl | assumption | decide | (simp; done) | (simp; omega) | (simp [*]; done)) (Run.mv rfl) rfl ?_
              refine SOps.sk rfl (by first | rfl | assumption | decide | (simp; done) | (simp; omega) | (simp [*]; done)) rfl ?_
              refine SOps.sk rfl (by first | rfl | assumption | decide | (simp; done) | (simp; omega) | (simp [*]; done)) rfl ?_
              refine SOps.sk rfl (by first | rfl | assumption | decide | (simp; done) | (simp; omega) | (simp [*]; done)) rfl ?_
              refine SOps.sk rfl (by first | rfl | assumption | decide | (simp; done) | (simp; omega) | (simp [*]; done)) rfl ?_
              refine SOps.sk rfl (by first | rfl | assumption | decide | (simp; done) | (simp; omega) | (simp [*]; done)) rfl ?_
              refine SOps.sk rfl (by first | rfl | assumption | decide | (simp; done) | (simp; omega) | (simp [*]; done)) rfl ?_
              refine SOps.sk rfl (by first | rfl | assumption | decide | (simp; done) | (simp; omega) | (simp [*]; done)) rfl ?_
              refine SOps.sk rfl (by first | rfl | assumption | decide | (simp; done) | (simp; omega) | (simp [*]; done)) rfl ?_
              refine SOps.sk rfl (by first | rfl | assumption | decide | (simp; done) | (simp; omega) | (simp [*]; done)) rfl ?_
              refine SOps.rg rfl (by first | rfl | assumption | decide | (simp; done) | (simp; omega) | (simp [*]; done)) (Run.pickF rfl rfl (by first | rfl | assumption | decide | (simp; done) | (simp; omega) | (simp [*]; done))) rfl ?_
              refine SOps.r (Run.pickF rfl rfl (by first | rfl | assumption | decide | (simp; done) | (simp; omega) | (simp [*]; done))) rfl ?_
              refine SOps.nil ?_
              refine thenQ_n ⟨(.cons (congrArg (fun b => some (Value.bool b)) (by simp [*])) (.cons rfl (.cons rfl (.cons rfl .nil)))), (rfl)⟩
        · intro Γ w8 hΓ hw8
          refine thenQ_n (VC.sub _ hΓ ?_)
          refine VC.condD rfl (fun hc3 => ?_) (fun hc3 => ?_)
          · skip
            subst hw8
            obtain ⟨c0, cs, rfl⟩ : ∃ c0 cs2, cs = c0 :: cs2 := by
              cases cs with
              | nil => exfalso; simp only [List.length_nil] at hc2 hc3; omega
              | cons c0 cs2 => exact ⟨_, _, rfl⟩
            have hmc : mergeP ((c0 :: cs).map PkC.abs) (pk.map PkC.abs) = c0.abs :: mergeP (cs.map PkC.abs) (pk.map PkC.abs) := by
              cases pk with
              | nil => cases cs <;> simp [mergeP]
              | cons p0 pk2 =>
                rw [List.map_cons, List.map_cons, mergeP, if_pos]
                rcases hc3 with h5 | h5
                · simp at h5
                · exact h5.2
            rw [hmc] at hm
            obtain ⟨ad, rfl, hea⟩ := hrc.elem (k := 0) (by simp)
            rw [flat_get PkC.cells 2 PkC.cells_len (c0 :: cs) 0 (by simp)] at hea
            have hcl : (c0 :: cs).length = cs.length + 1 := rfl
            have hd1 := hfo.drawn (Drawn.drew wr)
            refine VC.held (fun v => Frm [] w7 v) (by kernel_rfl) ?_
            have hS : (fun v => Frm [] w7 v) wr.drew.drew := hd1.drawn (Drawn.drew _)
            have hPd : Pks wr.drew.drew Bo co out := hPo.frm ((Drawn.drew wr).trans (Drawn.drew _)).frm (by simp) (fun _ _ _ _ => by simp)
            refine HOps.take 0 rfl (by kernel_rfl) (by kernel_rfl) (by kernel_rfl) hS (fun w0 hw0 => Run.mv rfl) trivial rfl rfl ?_
            refine HOps.take 1 rfl (by kernel_rfl) (by kernel_rfl) (by kernel_rfl) hS (fun w0 hw0 => Run.mv rfl) trivial rfl rfl ?_
            refine HOps.take 2 rfl (by kernel_rfl) (by kernel_rfl) (by kernel_rfl) hS (fun w0 hw0 => Run.indexS 0 rfl rfl Try.underlying97 Try.sizeOf100 (by omega)) trivial rfl rfl ?_
            refine HOps.take 3 rfl (by kernel_rfl) (by kernel_rfl) (by kernel_rfl) hS (fun w0 hw0 => Run.loadA rfl Try.isAgg100 Try.sizeOf100 (fun j v h => (hfr.own hw0 (by simp)).cell (hea j v h) (by simp)) (by first | rfl | (simp; done))) trivial rfl rfl ?_
            refine HOps.take 6 rfl (by kernel_rfl) (by kernel_rfl) (by kernel_rfl) hS (fun w0 hw0 => Run.mv rfl) trivial rfl rfl ?_
            refine HOps.take 7 rfl (by kernel_rfl) (by kernel_rfl) (by kernel_rfl) hS (fun w0 hw0 => Run.sliceS 1 _ rfl Try.underlying97 Try.sizeOf100 (evB.some_ rfl) evB.none_ (by omega) (by omega)) trivial rfl rfl ?_
            refine HOps.m 4 rfl (by kernel_rfl) (Does.buildS1 rfl Try.underlying97 Try.sizeOf100 zero100 (by decide) (by decide) rfl rfl) trivial rfl rfl ?_
            rintro _ w5 ⟨rfl, hF5⟩
            have hS : (fun v => Frm [] w7 v) w5 := hS.own hF5.frm (by simp)
            refine ⟨hS, ?_⟩
            have hrd5 : Rd w5 2 (some ⟨wr.drew.drew.heap.size, 0, none⟩) 1 c0.cells := Rd.of_blk (n := 1) (size := 2) hF5.blk rfl
            have hP5 := hPd.frm hF5.frm (by simp) (fun _ _ _ _ => by simp)
            refine HOps.m 5 rfl (by kernel_rfl) (Does.app rfl rfl Try.underlying97 (info100) rfl (by decide) hP5.1 hrd5 c0.one (by omega) (by omega)) trivial rfl rfl ?_
            rintro _ w6 ⟨B6, c6, rfl, ho6, hf6, hob6⟩
            have hsz5 := Frm.size hS
            have hp6 : PkOk w6 c0 := (hoc c0 (by simp)).frm (hfr.own (Frm.own hS hf6 huo) (by simp)) (by simp)
            have hS : (fun v => Frm [] w7 v) w6 := Frm.own hS hf6 huo
            refine ⟨hS, ?_⟩
            refine HOps.take 8 rfl (by kernel_rfl) (by kernel_rfl) (by kernel_rfl) hS (fun w0 hw0 => Run.asg rfl) trivial rfl rfl ?_
            refine HOps.take 9 rfl (by kernel_rfl) (by kernel_rfl) (by kernel_rfl) hS (fun w0 hw0 => Run.asg rfl) trivial rfl rfl ?_
            refine HOps.done (by kernel_rfl) ?_
            refine blockQ_n (thenQ_n ⟨(cs, pk, out ++ [c0], cutA (some ad) ca 1 2, ca - 1, Bp, cp, B6, c6), (.cons rfl (.cons rfl (.cons (by rw [show (out ++ [c0]).length = out.length + 1 from List.length_append]; rfl) .nil))), ?_, ?_⟩)
            · skip
              refine ⟨?_, Rd_tail hrc (by rw [← hcl]; exact hcc), by dsimp only; rw [hcl] at hcc; omega, fun q hq2 => hoc q (by simp [hq2]), hrp, hcp, hop, ⟨?_, ?_⟩, hS, up_app huo hob6 hsz5, by dsimp only; simp at hlen ⊢; omega, fun q hq2 => hcg q (by simp [hq2]), hpg, fun q hq2 => (List.mem_append.1 hq2).elim (hog q) (fun h5 => hcg q (by simp at h5; simp [h5]))⟩
              · dsimp only
                rw [hm, List.map_append, List.append_assoc]
                rfl
              · rw [show (out ++ [c0]).length = out.length + 1 from List.length_append, List.flatMap_append]
                simpa using ho6
              · intro q hq2
                rcases List.mem_append.1 hq2 with h5 | h5
                · exact (hP5.2 q h5).frm hf6 (hP5.ne q h5)
                · simp at h5; subst h5; exact hp6
            · skip
              dsimp only; simp
          · skip
            subst hw8
            obtain ⟨p0, pk, rfl⟩ : ∃ p0 pk2, pk = p0 :: pk2 := by
              cases pk with
              | nil => exact absurd (.inl rfl) hc3
              | cons p0 pk2 => exact ⟨_, _, rfl⟩
            have hmc : mergeP (cs.map PkC.abs) ((p0 :: pk).map PkC.abs) = p0.abs :: mergeP (cs.map PkC.abs) (pk.map PkC.abs) := by
              cases cs with
              | nil => simp [mergeP]
              | cons c0 cs2 =>
                rw [List.map_cons, List.map_cons, mergeP, if_neg]
                intro h5
                exact hc3 (.inr ⟨by simp, h5⟩)
            rw [hmc] at hm
            obtain ⟨ad, rfl, hea⟩ := hrp.elem (k := 0) (by simp)
            rw [flat_get PkC.cells 2 PkC.cells_len (p0 :: pk) 0 (by simp)] at hea
            have hcl : (p0 :: pk).length = pk.length + 1 := rfl
            have hd1 := hfo.drawn (Drawn.drew wr)
            refine VC.held (fun v => Frm [] w7 v) (by kernel_rfl) ?_
            have hS : (fun v => Frm [] w7 v) wr.drew.drew := hd1.drawn (Drawn.drew _)
            have hPd : Pks wr.drew.drew Bo co out := hPo.frm ((Drawn.drew wr).trans (Drawn.drew _)).frm (by simp) (fun _ _ _ _ => by simp)
            refine HOps.take 0 rfl (by kernel_rfl) (by kernel_rfl) (by kernel_rfl) hS (fun w0 hw0 => Run.mv rfl) trivial rfl rfl ?_
            refine HOps.take 1 rfl (by kernel_rfl) (by kernel_rfl) (by kernel_rfl) hS (fun w0 hw0 => Run.mv rfl) trivial rfl rfl ?_
            refine HOps.take 2 rfl (by kernel_rfl) (by kernel_rfl) (by kernel_rfl) hS (fun w0 hw0 => Run.indexS 0 rfl rfl Try.underlying97 Try.sizeOf100 (by omega)) trivial rfl rfl ?_
            refine HOps.take 3 rfl (by kernel_rfl) (by kernel_rfl) (by kernel_rfl) hS (fun w0 hw0 => Run.loadA rfl Try.isAgg100 Try.sizeOf100 (fun j v h => hw0.cell (hea j v h) (by simp)) (by first | rfl | (simp; done))) trivial rfl rfl ?_
            refine HOps.take 6 rfl (by kernel_rfl) (by kernel_rfl) (by kernel_rfl) hS (fun w0 hw0 => Run.mv rfl) trivial rfl rfl ?_
            refine HOps.take 7 rfl (by kernel_rfl) (by kernel_rfl) (by kernel_rfl) hS (fun w0 hw0 => Run.sliceS 1 _ rfl Try.underlying97 Try.sizeOf100 (evB.some_ rfl) evB.none_ (by omega) (by omega)) trivial rfl rfl ?_
            refine HOps.m 4 rfl (by kernel_rfl) (Does.buildS1 rfl Try.underlying97 Try.sizeOf100 zero100 (by decide) (by decide) rfl rfl) trivial rfl rfl ?_
            rintro _ w5 ⟨rfl, hF5⟩
            have hS : (fun v => Frm [] w7 v) w5 := hS.own hF5.frm (by simp)
            refine ⟨hS, ?_⟩
            have hrd5 : Rd w5 2 (some ⟨wr.drew.drew.heap.size, 0, none⟩) 1 p0.cells := Rd.of_blk (n := 1) (size := 2) hF5.blk rfl
            have hP5 := hPd.frm hF5.frm (by simp) (fun _ _ _ _ => by simp)
            refine HOps.m 5 rfl (by kernel_rfl) (Does.app rfl rfl Try.underlying97 (info100) rfl (by decide) hP5.1 hrd5 p0.one (by omega) (by omega)) trivial rfl rfl ?_
            rintro _ w6 ⟨B6, c6, rfl, ho6, hf6, hob6⟩
            have hsz5 := Frm.size hS
            have hp6 : PkOk w6 p0 := (hop p0 (by simp)).frm (Frm.own hS hf6 huo) (by simp)
            have hS : (fun v => Frm [] w7 v) w6 := Frm.own hS hf6 huo
            refine ⟨hS, ?_⟩
            refine HOps.take 8 rfl (by kernel_rfl) (by kernel_rfl) (by kernel_rfl) hS (fun w0 hw0 => Run.asg rfl) trivial rfl rfl ?_
            refine HOps.take 9 rfl (by kernel_rfl) (by kernel_rfl) (by kernel_rfl) hS (fun w0 hw0 => Run.asg rfl) trivial rfl rfl ?_
            refine HOps.done (by kernel_rfl) ?_
            refine blockQ_n (thenQ_n ⟨(cs, pk, out ++ [p0], Ac, ca, cutA (some ad) cp 1 2, cp - 1, B6, c6), (.cons rfl (.cons rfl (.cons (by rw [show (out ++ [p0]).length = out.length + 1 from List.length_append]; rfl) .nil))), ?_, ?_⟩)
            · skip
              refine ⟨?_, hrc, hcc, hoc, Rd_tail hrp (by rw [← hcl]; exact hcp), by dsimp only; rw [hcl] at hcp; omega, fun q hq2 => hop q (by simp [hq2]), ⟨?_, ?_⟩, hS, up_app huo hob6 hsz5, by dsimp only; simp at hlen ⊢; omega, hcg, fun q hq2 => hpg q (by simp [hq2]), fun q hq2 => (List.mem_append.1 hq2).elim (hog q) (fun h5 => hpg q (by simp at h5; simp [h5]))⟩
              · dsimp only
                rw [hm, List.map_append, List.append_assoc]
                rfl
              · rw [show (out ++ [p0]).length = out.length + 1 from List.length_append, List.flatMap_append]
                simpa using ho6
              · intro q hq2
                rcases List.mem_append.1 hq2 with h5 | h5
                · exact (hP5.2 q h5).frm hf6 (hP5.ne q h5)
                · simp at h5; subst h5; exact hp6
            · skip
              dsimp only; simp
      · skip
        have e1 : cs = [] := List.eq_nil_of_length_eq_zero (by omega)
        have e2 : pk = [] := List.eq_nil_of_length_eq_zero (by omega)
        subst e1 e2
        rw [show mergeP (List.map PkC.abs []) (List.map PkC.abs []) = [] by simp [mergeP], List.append_nil] at hm
        refine VC.exit ?_
        refine thenQ_x (thenQ_x (blockQ_x ?_))
        refine thenQ_n ?_
        refine VC.sub [(6, _)] (.cons rfl .nil) ?_
        refine VC.seq ?_
        refine VC.region ?_
        refine Ops.r (Run.mv rfl) rfl ?_
        refine Ops.r (Run.asg rfl) rfl ?_
        refine Ops.nil ?_
        refine thenQ_n ?_
        refine VC.sub [(4, _)] (.cons rfl .nil) ?_
        refine VC.ret ?_
        refine end1 rfl ?_
        exact ⟨Bo, co, out, rfl, hPo, hm.symm, hfr.own hfo (by simp), fun x hx => Nat.le_trans hfr.size (huo x hx), hog⟩

end Go.Proofs.Ytebaojedpnnliaa
