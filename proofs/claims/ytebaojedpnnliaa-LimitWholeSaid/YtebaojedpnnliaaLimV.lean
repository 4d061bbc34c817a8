/-
  The walk of the document's answer for layer 10: Lengths.
-/
import Derived.Test.YtebaojedpnnliaaLimU
namespace Go.Proofs.Ytebaojedpnnliaa
open Go.RowKit

set_option maxRecDepth 100000 in
theorem refLengths_spec (A : Option Addr) (c0 : Nat) (l : List Int) (m : Int) (w : World) (hl : l.length ≤ 1000000) (hr : Rd w 1 A l.length (IB l)) :
    Calls Try.prog 45 #[.slice A l.length c0, .int .i64 m] w fun e w' => Frm [] w w' ∧
      if ¬ mayB l ∨ m < 1 ∨ 15 < m then e = .returned (.tuple #[.slice none 0 0, .int .i64 ((1 : Nat) : Int)])
      else ∃ own, IsCoins (l.map Int.toNat) own ∧ if 2 ^ m.toNat < own.length then e = .returned (.tuple #[.slice none 0 0, .int .i64 ((8 : Nat) : Int)])
        else ∃ B c, e = .returned (.tuple #[.slice B l.length c, .int .i64 ((0 : Nat) : Int)]) ∧ Own w' 3 1 B l.length c (NI (lenP l.length m.toNat own)) := by
  refine VC.calls (nt := 90) (res := #[.tmp 4, .tmp 5]) Try.func45 rfl Try.ntmps45 Try.results45 rfl ?_
  refine VC.seq ?_
  refine VC.region ?_
  refine Ops.r (Run.asg rfl) rfl ?_
  refine Ops.r (v := .int .i64 ((0 : Nat) : Int)) (Run.asg rfl) rfl ?_
  refine Ops.nil ?_
  refine thenQ_n ?_
  refine VC.sub [(0, _), (1, _)] (.cons rfl (.cons rfl .nil)) ?_
  refine VC.seq ?_
  refine VC.seq ?_
  refine VC.split1 [(0, _), (1, _)] (.cons rfl (.cons rfl .nil)) 24 (.bool (decide (¬ mayB l ∨ m < 1 ∨ 15 < m))) ?_ ?_
  · refine VC.region ?_
    refine Ops.r (Run.mv rfl) rfl ?_
    refine Ops.cl (Enters.fn (evs.cons rfl evs.nil) Try.call49) (refMay_spec A c0 l _ (by omega) hr) rfl ?_
    rintro e _ ⟨rfl, rfl⟩
    refine ⟨_, rfl, ?_⟩
    by_cases hs15 : mayB l
    · skip
      refine Ops.r (Run.not rfl) rfl ?_
      refine Ops.r (Run.mv rfl) rfl ?_
      refine Ops.rg rfl (by first | rfl | assumption | exact decide_eq_true (by assumption) | exact decide_eq_false (by assumption) | decide | (simp; done) | (simp; omega) | (simp [*]; done)) (Run.mv rfl) rfl ?_
      refine Ops.rg rfl (by first | rfl | assumption | exact decide_eq_true (by assumption) | exact decide_eq_false (by assumption) | decide | (simp; done) | (simp; omega) | (simp [*]; done)) (Run.bin rfl rfl (Bin.lss _ 1)) rfl ?_
      by_cases hs19 : m < 1
      · skip
        refine Ops.r (Run.pickF rfl rfl (by first | rfl | assumption | exact decide_eq_true (by assumption) | exact decide_eq_false (by assumption) | decide | (simp; done) | (simp; omega) | (simp [*]; done))) rfl ?_
        refine Ops.r (Run.mv rfl) rfl ?_
        refine Ops.sk rfl (by first | rfl | assumption | exact decide_eq_true (by assumption) | exact decide_eq_false (by assumption) | decide | (simp; done) | (simp; omega) | (simp [*]; done)) rfl ?_
        refine Ops.sk rfl (by first | rfl | assumption | exact decide_eq_true (by assumption) | exact decide_eq_false (by assumption) | decide | (simp; done) | (simp; omega) | (simp [*]; done)) rfl ?_
        refine Ops.r (Run.pickT rfl rfl (by first | rfl | assumption | exact decide_eq_true (by assumption) | exact decide_eq_false (by assumption) | decide | (simp; done) | (simp; omega) | (simp [*]; done))) rfl ?_
        refine Ops.nil ?_
        refine thenQ_n ⟨(.cons (congrArg (fun b => some (Value.bool b)) (by simp [*])) (.cons rfl (.cons rfl .nil))), rfl⟩
      · skip
        refine Ops.r (Run.pickF rfl rfl (by first | rfl | assumption | exact decide_eq_true (by assumption) | exact decide_eq_false (by assumption) | decide | (simp; done) | (simp; omega) | (simp [*]; done))) rfl ?_
        refine Ops.r (Run.mv rfl) rfl ?_
        refine Ops.rg rfl (by first | rfl | assumption | exact decide_eq_true (by assumption) | exact decide_eq_false (by assumption) | decide | (simp; done) | (simp; omega) | (simp [*]; done)) (Run.mv rfl) rfl ?_
        refine Ops.rg rfl (by first | rfl | assumption | exact decide_eq_true (by assumption) | exact decide_eq_false (by assumption) | decide | (simp; done) | (simp; omega) | (simp [*]; done)) (Run.bin rfl rfl (Bin.gtr _ 15)) rfl ?_
        by_cases hs23 : 15 < m
        · skip
          refine Ops.r (Run.pickF rfl rfl (by first | rfl | assumption | exact decide_eq_true (by assumption) | exact decide_eq_false (by assumption) | decide | (simp; done) | (simp; omega) | (simp [*]; done))) rfl ?_
          refine Ops.nil ?_
          refine thenQ_n ⟨(.cons (congrArg (fun b => some (Value.bool b)) (by simp [*])) (.cons rfl (.cons rfl .nil))), rfl⟩
        · skip
          refine Ops.r (Run.pickF rfl rfl (by first | rfl | assumption | exact decide_eq_true (by assumption) | exact decide_eq_false (by assumption) | decide | (simp; done) | (simp; omega) | (simp [*]; done))) rfl ?_
          refine Ops.nil ?_
          refine thenQ_n ⟨(.cons (congrArg (fun b => some (Value.bool b)) (by simp [*])) (.cons rfl (.cons rfl .nil))), rfl⟩
    · skip
      refine Ops.r (Run.not rfl) rfl ?_
      refine Ops.r (Run.mv rfl) rfl ?_
      refine Ops.sk rfl (by first | rfl | assumption | exact decide_eq_true (by assumption) | exact decide_eq_false (by assumption) | decide | (simp; done) | (simp; omega) | (simp [*]; done)) rfl ?_
      refine Ops.sk rfl (by first | rfl | assumption | exact decide_eq_true (by assumption) | exact decide_eq_false (by assumption) | decide | (simp; done) | (simp; omega) | (simp [*]; done)) rfl ?_
      refine Ops.r (Run.pickT rfl rfl (by first | rfl | assumption | exact decide_eq_true (by assumption) | exact decide_eq_false (by assumption) | decide | (simp; done) | (simp; omega) | (simp [*]; done))) rfl ?_
      refine Ops.r (Run.mv rfl) rfl ?_
      refine Ops.sk rfl (by first | rfl | assumption | exact decide_eq_true (by assumption) | exact decide_eq_false (by assumption) | decide | (simp; done) | (simp; omega) | (simp [*]; done)) rfl ?_
      refine Ops.sk rfl (by first | rfl | assumption | exact decide_eq_true (by assumption) | exact decide_eq_false (by assumption) | decide | (simp; done) | (simp; omega) | (simp [*]; done)) rfl ?_
      refine Ops.r (Run.pickT rfl rfl (by first | rfl | assumption | exact decide_eq_true (by assumption) | exact decide_eq_false (by assumption) | decide | (simp; done) | (simp; omega) | (simp [*]; done))) rfl ?_
      refine Ops.nil ?_
      refine thenQ_n ⟨(.cons (congrArg (fun b => some (Value.bool b)) (by simp [*])) (.cons rfl (.cons rfl .nil))), rfl⟩
  · intro Γ hΓ
    refine thenQ_n (VC.sub _ hΓ ?_)
    refine VC.condD rfl (fun hc1 => ?_) (fun hc1 => ?_)
    · skip
      refine VC.seq ?_
      refine VC.region ?_
      refine Ops.r (Run.asg rfl) rfl ?_
      refine Ops.r (v := .int .i64 ((1 : Nat) : Int)) (Run.asg rfl) rfl ?_
      refine Ops.nil ?_
      refine thenQ_n ?_
      refine VC.sub [(4, _), (5, _)] (.cons rfl (.cons rfl .nil)) ?_
      refine VC.ret ?_
      refine thenQ_r (end2 rfl rfl ?_)
      exact ⟨Frm.refl [] w, by rw [if_pos hc1]⟩
    · skip
      obtain ⟨m, rfl⟩ : ∃ k : Nat, m = k := ⟨m.toNat, by omega⟩
      have hm1 : 1 ≤ m := by omega
      have hm15 : m ≤ 15 := by omega
      have hmay : mayB l := Classical.not_not.1 (fun h => hc1 (.inl h))
      have hpos : ∀ x ∈ l, 0 ≤ x := fun x hx => (hmay.2 x hx).1
      have hll := hmay.1
      have hin := IB_NI hpos
      generalize hcs : l.map Int.toNat = cs at *
      have hcl : cs.length = l.length := by rw [← hcs, List.length_map]
      have hcx : ∀ x ∈ cs, x ≤ 2147483647 := by
        intro x hx
        rw [← hcs] at hx
        obtain ⟨y, hy, rfl⟩ := List.mem_map.1 hx
        have := hmay.2 y hy
        omega
      rw [hin, ← hcl] at hr
      rw [← hcl]
      refine VC.skip ?_
      refine thenQ_n ?_
      refine VC.sub [(0, _), (1, _)] (.cons rfl (.cons rfl .nil)) ?_
      refine VC.seq ?_
      refine VC.region ?_
      refine Ops.r (Run.mv rfl) rfl ?_
      refine Ops.cl (Enters.fn (evs.cons rfl evs.nil) Try.call60) (refCoins_spec A c0 cs _ (by omega) hcx hr) rfl ?_
      rintro e w1 ⟨B1, c1, ps, rfl, hP1, hco, hf1⟩
      refine ⟨_, rfl, ?_⟩
      have hpl : ps.length ≤ 320 := by
        have h5 := hco.1.length_eq
        rw [List.length_map] at h5
        rw [h5]
        unfold coinsTo
        rw [List.length_map]
        exact Nat.le_trans (List.length_filter_le _ _) (by simp; omega)
      have hpw : 2 ^ m ≤ 2 ^ 15 := Nat.pow_le_pow_right (by omega) hm15
      refine Ops.r (Run.asg rfl) rfl ?_
      refine Ops.nil ?_
      refine thenQ_n ?_
      refine VC.sub [(0, _), (1, _), (6, _)] (.cons rfl (.cons rfl (.cons rfl .nil))) ?_
      refine VC.seq ?_
      refine VC.region ?_
      refine Ops.r (v := .int .i64 ((1 : Nat) : Int)) (Run.asg rfl) rfl ?_
      refine Ops.nil ?_
      refine thenQ_n ?_
      refine VC.seq ?_
      refine VC.seq ?_
      refine VC.region ?_
      refine Ops.r (v := .int .i64 ((0 : Nat) : Int)) (Run.asg rfl) rfl ?_
      refine Ops.nil ?_
      refine thenQ_n ?_
      refine VC.block ?_
      refine VC.loop (σ := Nat) (fun s => [(0, .slice A cs.length c0), (1, .int .i64 ((m : Nat) : Int)), (6, .slice B1 ps.length c1), (7, .int .i64 ((2 ^ s : Nat) : Int)), (8, .int .i64 ((s : Nat) : Int))]) (fun s wr => s ≤ m ∧ w1 = wr) (fun s => m - s) 0 (.cons rfl (.cons rfl (.cons rfl (.cons rfl (.cons rfl .nil))))) ⟨by omega, rfl⟩ ?_
      rintro i _ ⟨hi, rfl⟩
      have hpi : 2 ^ i ≤ 2 ^ 15 := Nat.pow_le_pow_right (by omega) (by omega)
      refine VC.seq ?_
      refine VC.seq ?_
      refine VC.region ?_
      refine Ops.r (Run.mv rfl) rfl ?_
      refine Ops.r (Run.mv rfl) rfl ?_
      refine Ops.r (Run.bin rfl rfl (Bin.lss _ _)) rfl ?_
      refine Ops.nil ?_
      refine thenQ_n ?_
      refine VC.sub [(0, _), (1, _), (6, _), (7, _), (8, _), (29, _)] (.cons rfl (.cons rfl (.cons rfl (.cons rfl (.cons rfl (.cons rfl .nil)))))) ?_
      refine VC.condD rfl (fun hc2 => ?_) (fun hc2 => ?_)
      · skip
        refine VC.skip ?_
        refine thenQ_n ?_
        refine VC.sub [(0, _), (1, _), (6, _), (7, _), (8, _)] (.cons rfl (.cons rfl (.cons rfl (.cons rfl (.cons rfl .nil))))) ?_
        refine VC.seq ?_
        refine VC.block ?_
        refine VC.region ?_
        refine Ops.r (Run.mv rfl) rfl ?_
        refine Ops.r (Run.bin rfl rfl (Bin.mul_i64 _ 2 (by omega))) rfl ?_
        refine Ops.r (Run.asg rfl) rfl ?_
        refine Ops.nil ?_
        refine blockQ_n (thenQ_n ?_)
        refine VC.sub [(0, _), (1, _), (6, _), (7, _), (8, _)] (.cons rfl (.cons rfl (.cons rfl (.cons rfl (.cons rfl .nil))))) ?_
        refine VC.region ?_
        refine Ops.r (Run.mv rfl) rfl ?_
        refine Ops.r (Run.bin rfl rfl (Bin.add_i64 _ 1 (by omega))) rfl ?_
        refine Ops.r (Run.asg rfl) rfl ?_
        refine Ops.nil ?_
        refine thenQ_n ⟨(i + 1), (.cons rfl (.cons rfl (.cons rfl (.cons (by rw [Nat.pow_succ]; rfl) (.cons rfl .nil))))), ?_, ?_⟩
        · skip
          exact ⟨by omega, rfl⟩
        · skip
          first | omega | (dsimp only; omega)
      · skip
        have him : i = m := by omega
        subst him
        refine VC.exit ?_
        refine thenQ_x (thenQ_x (blockQ_x ?_))
        refine thenQ_n ?_
        refine VC.sub [(0, _), (1, _), (6, _), (7, _)] (.cons rfl (.cons rfl (.cons rfl (.cons rfl .nil)))) ?_
        refine VC.seq ?_
        refine VC.seq ?_
        refine VC.region ?_
        refine Ops.r (Run.mv rfl) rfl ?_
        refine Ops.r (Run.lenS rfl Try.underlying102) rfl ?_
        refine Ops.r (Run.mv rfl) rfl ?_
        refine Ops.r (Run.bin rfl rfl (Bin.gtrN _ _)) rfl ?_
        refine Ops.nil ?_
        refine thenQ_n ?_
        refine VC.sub [(0, _), (1, _), (6, _), (37, _)] (.cons rfl (.cons rfl (.cons rfl (.cons rfl .nil)))) ?_
        refine VC.condD rfl (fun hc3 => ?_) (fun hc3 => ?_)
        · skip
          refine VC.seq ?_
          refine VC.region ?_
          refine Ops.r (Run.asg rfl) rfl ?_
          refine Ops.r (v := .int .i64 ((8 : Nat) : Int)) (Run.asg rfl) rfl ?_
          refine Ops.nil ?_
          refine thenQ_n ?_
          refine VC.sub [(4, _), (5, _)] (.cons rfl (.cons rfl .nil)) ?_
          refine VC.ret ?_
          refine thenQ_r (end2 rfl rfl ?_)
          refine ⟨hf1, ?_⟩
          rw [if_neg hc1]
          refine ⟨_, hco, ?_⟩
          rw [Int.toNat_natCast, List.length_map, if_pos hc3]
        · skip
          have hc3n : ¬ 2 ^ i < ps.length := hc3
          refine VC.skip ?_
          refine thenQ_n ?_
          refine VC.sub [(0, _), (1, _), (6, _)] (.cons rfl (.cons rfl (.cons rfl .nil))) ?_
          refine VC.seq ?_
          refine VC.region ?_
          refine Ops.r (Run.mv rfl) rfl ?_
          refine Ops.r (Run.lenS rfl Try.underlying54) rfl ?_
          refine Ops.m (Does.makeS rfl rfl Try.underlying54 (info3) rfl (by omega) (by omega)) rfl ?_
          rintro _ w2 ⟨rfl, ho2, hf2, hs2⟩
          have hP2 := hP1.frm hf2 (by simp) (fun _ _ _ _ => by simp)
          have hfr2 := hf1.own hf2 (by simp)
          have hgo := hf1.size
          have hpg0 : ∀ p ∈ ps, ∀ x ∈ ob p.A, x < w1.heap.size := fun p hp => Own.lt (hP1.2 p hp)
          generalize hgo2 : w1.heap.size = go at *
          refine Ops.r (Run.asg rfl) rfl ?_
          refine Ops.nil ?_
          refine thenQ_n ?_
          refine VC.sub [(1, _), (6, _), (9, _)] (.cons rfl (.cons rfl (.cons rfl .nil))) ?_
          refine VC.seq ?_
          refine VC.seq ?_
          refine VC.region ?_
          refine Ops.r (Run.mv rfl) rfl ?_
          refine Ops.r (Run.lenS rfl Try.underlying102) rfl ?_
          refine Ops.r (Run.bin rfl rfl (Bin.eqlN _ 1)) rfl ?_
          refine Ops.nil ?_
          refine thenQ_n ?_
          refine VC.sub [(1, _), (6, _), (9, _), (43, _)] (.cons rfl (.cons rfl (.cons rfl (.cons rfl .nil)))) ?_
          refine VC.condD rfl (fun hc4 => ?_) (fun hc4 => ?_)
          · skip
            obtain ⟨p, rfl⟩ : ∃ p, ps = [p] := by
              match ps, hc4 with
              | [p], _ => exact ⟨p, rfl⟩
            obtain ⟨k, hk, hk0, hpe⟩ := coinsTo_mem (hco.1.mem_iff.1 (List.mem_map_of_mem (f := PkC.abs) (List.mem_singleton.2 rfl)))
            have hsy : p.sy = [k] := congrArg Prod.snd hpe
            obtain ⟨ad, rfl, hea⟩ := hP2.1.rd.elem (k := 0) (by simp)
            rw [flat_get (RC cs.length) 2 (RC_len _) [p] 0 (by simp)] at hea
            have hpo := hP2.2 p (by simp)
            unfold RkOk at hpo
            have hl1 : [p].length = 1 := rfl
            rw [hl1]
            refine VC.seq ?_
            refine VC.region ?_
            refine Ops.r (Run.mv rfl) rfl ?_
            refine Ops.r (Run.indexS 0 rfl rfl Try.underlying102 Try.sizeOf105 (by omega)) rfl ?_
            refine Ops.r (Run.fieldAddr rfl Try.underlying105 rfl Try.sizeOf54 (by decide)) rfl ?_
            refine Ops.r (Run.load rfl Try.isAgg54 (hea 1 _ rfl)) rfl ?_
            refine Ops.r (Run.asg rfl) rfl ?_
            refine Ops.r (v := .int .i64 ((0 : Nat) : Int)) (Run.asg rfl) rfl ?_
            refine Ops.nil ?_
            refine thenQ_n ?_
            refine VC.sub [(4, _), (5, _)] (.cons rfl (.cons rfl .nil)) ?_
            refine VC.ret ?_
            refine thenQ_r (end2 rfl rfl ?_)
            refine ⟨hfr2, ?_⟩
            rw [if_neg hc1]
            refine ⟨_, hco, ?_⟩
            rw [Int.toNat_natCast, List.length_map, if_neg hc3n]
            refine ⟨_, _, rfl, ?_⟩
            have h5 : lenP cs.length i ([p].map PkC.abs) = cntV cs.length p.sy := by
              unfold lenP
              rw [if_pos (show ([p].map PkC.abs).length ≤ 1 from Nat.le_refl 1), vecOf_eq]
              simp [PkC.abs]
            rw [h5]
            exact hpo
          · skip
            refine VC.skip ?_
            refine thenQ_n ?_
            refine VC.sub [(1, _), (6, _), (9, _)] (.cons rfl (.cons rfl (.cons rfl .nil))) ?_
            refine VC.seq ?_
            refine VC.seq ?_
            refine VC.region ?_
            refine Ops.r (Run.mv rfl) rfl ?_
            refine Ops.r (Run.lenS rfl Try.underlying102) rfl ?_
            refine Ops.r (Run.bin rfl rfl (Bin.eqlN _ 0)) rfl ?_
            refine Ops.nil ?_
            refine thenQ_n ?_
            refine VC.sub [(1, _), (6, _), (9, _), (50, _)] (.cons rfl (.cons rfl (.cons rfl (.cons rfl .nil)))) ?_
            refine VC.condD rfl (fun hc5 => ?_) (fun hc5 => ?_)
            · skip
              refine VC.seq ?_
              refine VC.region ?_
              refine Ops.r (Run.mv rfl) rfl ?_
              refine Ops.r (Run.asg rfl) rfl ?_
              refine Ops.r (v := .int .i64 ((0 : Nat) : Int)) (Run.asg rfl) rfl ?_
              refine Ops.nil ?_
              refine thenQ_n ?_
              refine VC.sub [(4, _), (5, _)] (.cons rfl (.cons rfl .nil)) ?_
              refine VC.ret ?_
              refine thenQ_r (end2 rfl rfl ?_)
              refine ⟨hfr2, ?_⟩
              rw [if_neg hc1]
              refine ⟨_, hco, ?_⟩
              rw [Int.toNat_natCast, List.length_map, if_neg hc3n]
              refine ⟨_, _, rfl, ?_⟩
              have hpn : ps = [] := List.eq_nil_of_length_eq_zero hc5
              have h5 : lenP cs.length i (ps.map PkC.abs) = cntV cs.length [] := by
                unfold lenP
                rw [if_pos (by simp [hpn]), vecOf_eq, hpn]
                rfl
              have h6 : (List.replicate cs.length (Value.int .i64 0).cells.toList).flatten = NI (cntV cs.length []) := (cntV_nil _).symm
              rw [h5, ← h6]
              exact ho2
            · skip
              have hn2 : 2 ≤ ps.length := by omega
              have htc := tot_coins cs 2147483647 hcx cs.length (Nat.le_refl _)
              have htp := tot_perm hco.1
              have htm : cs.length * 2147483647 ≤ 320 * 2147483647 := Nat.mul_le_mul_right _ (by omega)
              have htC : totC (ps.map PkC.abs) ≤ 320 * 2147483647 := by omega
              have htS : totS (ps.map PkC.abs) ≤ 320 := by omega
              have hsort := sort_coins hco (by omega)
              refine VC.skip ?_
              refine thenQ_n ?_
              refine VC.sub [(1, _), (6, _), (9, _)] (.cons rfl (.cons rfl (.cons rfl .nil))) ?_
              refine VC.seq ?_
              refine VC.region ?_
              refine Ops.r (Run.mv rfl) rfl ?_
              refine Ops.r (Run.asg rfl) rfl ?_
              refine Ops.nil ?_
              refine thenQ_n ?_
              refine VC.sub [(1, _), (6, _), (9, _), (10, _)] (.cons rfl (.cons rfl (.cons rfl (.cons rfl .nil)))) ?_
              refine VC.seq ?_
              refine VC.seq ?_
              refine VC.region ?_
              refine Ops.r (v := .int .i64 ((1 : Nat) : Int)) (Run.asg rfl) rfl ?_
              refine Ops.nil ?_
              refine thenQ_n ?_
              refine VC.block ?_
              refine VC.loop (σ := Nat × Option Addr × Nat × List PkC) (fun s => [(1, .int .i64 ((i : Nat) : Int)), (6, .slice B1 ps.length c1), (9, .slice (some ⟨go, 0, none⟩) cs.length cs.length), (10, .slice s.2.1 s.2.2.2.length s.2.2.1), (11, .int .i64 ((s.1 + 1 : Nat) : Int))]) (fun s wr => s.1 ≤ i - 1 ∧ s.2.2.2.map PkC.abs = levelP (ps.map PkC.abs) s.1 ∧ Rps wr cs.length s.2.1 s.2.2.1 s.2.2.2 ∧ Rps wr cs.length B1 c1 ps ∧ Own wr 3 1 (some ⟨go, 0, none⟩) cs.length cs.length (List.replicate cs.length [Value.int .i64 0]).flatten ∧ Frm [] w wr ∧ ∀ p ∈ s.2.2.2, ∀ x ∈ ob p.A, x ≠ go) (fun s => i - 1 - s.1) (0, B1, c1, ps) (.cons rfl (.cons rfl (.cons rfl (.cons rfl (.cons rfl .nil))))) ⟨by omega, rfl, hP2, hP2, ho2, hfr2, fun p hp x hx => Nat.ne_of_lt (hpg0 p hp x hx)⟩ ?_
              rintro ⟨k, Bk, ck, lst⟩ wr ⟨hk, hlv, hPk, hPo, hoo, hfr, hpg⟩
              dsimp only at hk hlv hPk hPo hoo hfr hpg ⊢
              have hlen := (level_len (ps.map PkC.abs) k).1
              rw [← hlv, List.length_map, List.length_map] at hlen
              have hgw : go < wr.heap.size := hoo.lt go (by simp [ob])
              refine VC.seq ?_
              refine VC.seq ?_
              refine VC.region ?_
              refine Ops.r (Run.mv rfl) rfl ?_
              refine Ops.r (Run.mv rfl) rfl ?_
              refine Ops.r (Run.bin rfl rfl (Bin.lss _ _)) rfl ?_
              refine Ops.nil ?_
              refine thenQ_n ?_
              refine VC.sub [(1, _), (6, _), (9, _), (10, _), (11, _), (55, _)] (.cons rfl (.cons rfl (.cons rfl (.cons rfl (.cons rfl (.cons rfl .nil)))))) ?_
              refine VC.condD rfl (fun hc6 => ?_) (fun hc6 => ?_)
              · skip
                have hbd : ∀ p ∈ lst, p.count ≤ 2305843009213693951 ∧ p.sy.length ≤ 100000 := by
                  intro p hp
                  have h5 : p.abs ∈ levelP (ps.map PkC.abs) k := by rw [← hlv]; exact List.mem_map_of_mem hp
                  have h6 : p.count ≤ _ := mem_totC h5
                  have h7 : p.sy.length ≤ _ := mem_totS h5
                  have h8 := level_totC (ps.map PkC.abs) k
                  have h9 := level_totS (ps.map PkC.abs) k
                  have h10 : (k + 1) * totC (ps.map PkC.abs) ≤ 16 * (320 * 2147483647) := Nat.mul_le_mul (by omega) htC
                  have h11 : (k + 1) * totS (ps.map PkC.abs) ≤ 16 * 320 := Nat.mul_le_mul (by omega) htS
                  exact ⟨by omega, by omega⟩
                refine VC.skip ?_
                refine thenQ_n ?_
                refine VC.sub [(1, _), (6, _), (9, _), (10, _), (11, _)] (.cons rfl (.cons rfl (.cons rfl (.cons rfl (.cons rfl .nil))))) ?_
                refine VC.seq ?_
                refine VC.block ?_
                refine VC.region ?_
                refine Ops.r (Run.mv rfl) rfl ?_
                refine Ops.r (Run.mv rfl) rfl ?_
                refine Ops.cl (Enters.fn (evs.cons rfl (evs.cons rfl evs.nil)) Try.call61) (refMerged_spec cs.length B1 Bk c1 ck ps lst _ (by omega) hPo.1.rd hPo.2 hPk.1.rd hPk.2 (by omega) (by omega) hbd (fun x => x ≠ go) (fun x hx => by omega) (fun p hp x hx => Nat.ne_of_lt (hpg0 p hp x hx))) rfl ?_
                rintro e w5 ⟨B5, c5, qs, rfl, hP5, hq5, hf5, hu5, hg5⟩
                refine ⟨_, rfl, ?_⟩
                refine Ops.r (Run.asg rfl) rfl ?_
                refine Ops.nil ?_
                refine blockQ_n (thenQ_n ?_)
                refine VC.sub [(1, _), (6, _), (9, _), (10, _), (11, _)] (.cons rfl (.cons rfl (.cons rfl (.cons rfl (.cons rfl .nil))))) ?_
                refine VC.region ?_
                refine Ops.r (Run.mv rfl) rfl ?_
                refine Ops.r (Run.bin rfl rfl (Bin.add_i64 _ 1 (by omega))) rfl ?_
                refine Ops.r (Run.asg rfl) rfl ?_
                refine Ops.nil ?_
                refine thenQ_n ⟨(k + 1, B5, c5, qs), (.cons rfl (.cons rfl (.cons rfl (.cons rfl (.cons rfl .nil))))), ?_, ?_⟩
                · skip
                  refine ⟨by dsimp only; omega, ?_, hP5, hPo.frm hf5 (by simp) (fun _ _ _ _ => by simp), hoo.frm hf5 (by simp), hfr.own hf5 (by simp), hg5⟩
                  dsimp only
                  rw [hq5, hlv, merge_ins _ _ hsort (sort_pairs _ (sort_level _ hsort k))]
                  rfl
                · skip
                  first | omega | (dsimp only; omega)
              · skip
                have hkm : k = i - 1 := by omega
                subst hkm
                have hen := level_enough (ps.map PkC.abs) (i - 1) (by rw [List.length_map, show i - 1 + 1 = i by omega]; omega)
                rw [← hlv, List.length_map, List.length_map] at hen
                rw [← cntV_nil] at hoo
                have hall : ∀ j, j ≤ lst.length → ((lst.take j).flatMap PkC.sy).length ≤ 16 * 320 := by
                  intro j _
                  have h8 := level_totS (ps.map PkC.abs) (i - 1)
                  have h9 : (i - 1 + 1) * totS (ps.map PkC.abs) ≤ 16 * 320 := Nat.mul_le_mul (by omega) htS
                  have h10 := totS_take (lst.map PkC.abs) j
                  rw [← count_le_tot, ← List.map_take, List.flatMap_map, hlv] at h10
                  exact Nat.le_trans h10 (Nat.le_trans h8 h9)
                refine VC.exit ?_
                refine thenQ_x (thenQ_x (blockQ_x ?_))
                refine thenQ_n ?_
                refine VC.sub [(6, _), (9, _), (10, _)] (.cons rfl (.cons rfl (.cons rfl .nil))) ?_
                refine VC.seq ?_
                refine VC.seq ?_
                refine VC.region ?_
                refine Ops.r (v := .int .i64 ((0 : Nat) : Int)) (Run.asg rfl) rfl ?_
                refine Ops.nil ?_
                refine thenQ_n ?_
                refine VC.block ?_
                refine VC.loop (σ := Nat) (fun s => [(6, .slice B1 ps.length c1), (9, .slice (some ⟨go, 0, none⟩) cs.length cs.length), (10, .slice Bk lst.length ck), (12, .int .i64 ((s : Nat) : Int))]) (fun s wr => s ≤ 2 * ps.length - 2 ∧ Rps wr cs.length Bk ck lst ∧ Own wr 3 1 (some ⟨go, 0, none⟩) cs.length cs.length (NI (cntV cs.length ((lst.take s).flatMap PkC.sy))) ∧ Frm [] w wr) (fun s => 2 * ps.length - 2 - s) 0 (.cons rfl (.cons rfl (.cons rfl (.cons rfl .nil)))) ⟨by omega, hPk, by simpa using hoo, hfr⟩ ?_
                clear hPk hoo hfr hgw
                rintro j w5 ⟨hj, hPk, hoo, hfr⟩
                refine VC.seq ?_
                refine VC.seq ?_
                refine VC.region ?_
                refine Ops.r (Run.mv rfl) rfl ?_
                refine Ops.r (Run.mv rfl) rfl ?_
                refine Ops.r (Run.lenS rfl Try.underlying102) rfl ?_
                refine Ops.r (Run.bin rfl rfl (Bin.mul_i64 2 _ (by omega))) rfl ?_
                refine Ops.r (Run.bin rfl rfl (Bin.sub_i64 _ 2 (by omega) (by omega))) rfl ?_
                refine Ops.r (Run.bin rfl rfl (Bin.lssN _ _)) rfl ?_
                refine Ops.nil ?_
                refine thenQ_n ?_
                refine VC.sub [(6, _), (9, _), (10, _), (12, _), (66, _)] (.cons rfl (.cons rfl (.cons rfl (.cons rfl (.cons rfl .nil))))) ?_
                refine VC.condD rfl (fun hc7 => ?_) (fun hc7 => ?_)
                · skip
                  have hil : j < lst.length := by omega
                  obtain ⟨ad, rfl, hea⟩ := hPk.1.rd.elem (k := j) hil
                  clear hea
                  have hfg : ((lst.flatMap (RC cs.length)).drop (j * 2)).take 2 = RC cs.length lst[j] := flat_get (RC cs.length) 2 (RC_len _) lst j hil
                  have hpgi := hpg lst[j] (List.getElem_mem _)
                  have hpm : lst[j] ∈ lst := List.getElem_mem _
                  have htk : lst.take (j + 1) = lst.take j ++ [lst[j]] := by rw [List.take_add_one, List.getElem?_eq_getElem hil]; rfl
                  have hfl := hall (j + 1) hil
                  rw [htk, List.flatMap_append] at hfl
                  simp only [List.flatMap_cons, List.flatMap_nil, List.append_nil, List.length_append] at hfl
                  generalize lst[j] = p at *
                  refine VC.skip ?_
                  refine thenQ_n ?_
                  refine VC.sub [(6, _), (9, _), (10, _), (12, _)] (.cons rfl (.cons rfl (.cons rfl (.cons rfl .nil)))) ?_
                  refine VC.seq ?_
                  refine VC.block ?_
                  refine VC.seq ?_
                  refine VC.region ?_
                  refine Ops.r (v := .int .i64 ((0 : Nat) : Int)) (Run.asg rfl) rfl ?_
                  refine Ops.nil ?_
                  refine thenQ_n ?_
                  refine VC.block ?_
                  refine VC.loop (σ := Nat) (fun s => [(6, .slice B1 ps.length c1), (9, .slice (some ⟨go, 0, none⟩) cs.length cs.length), (10, .slice (some ad) lst.length ck), (12, .int .i64 ((j : Nat) : Int)), (13, .int .i64 ((s : Nat) : Int))]) (fun s wr => s ≤ cs.length ∧ Rps wr cs.length (some ad) ck lst ∧ Own wr 3 1 (some ⟨go, 0, none⟩) cs.length cs.length (NI (cntM cs.length ((lst.take j).flatMap PkC.sy) p.sy s)) ∧ Frm [] w wr) (fun s => cs.length - s) 0 (.cons rfl (.cons rfl (.cons rfl (.cons rfl (.cons rfl .nil))))) ⟨by omega, hPk, by rw [cntM_zero]; exact hoo, hfr⟩ ?_
                  clear hPk hoo hfr
                  rintro k w8 ⟨hk, hPk, hoo, hfr⟩
                  have hd := Drawn.drew w8
                  refine VC.seq ?_
                  refine VC.seq ?_
                  refine VC.region ?_
                  refine Ops.r (Run.mv rfl) rfl ?_
                  refine Ops.r (Run.mv rfl) rfl ?_
                  refine Ops.r (Run.lenS rfl Try.underlying54) rfl ?_
                  refine Ops.r (Run.bin rfl rfl (Bin.lssN _ _)) rfl ?_
                  refine Ops.nil ?_
                  refine thenQ_n ?_
                  refine VC.sub [(6, _), (9, _), (10, _), (12, _), (13, _), (72, _)] (.cons rfl (.cons rfl (.cons rfl (.cons rfl (.cons rfl (.cons rfl .nil)))))) ?_
                  refine VC.condD rfl (fun hc8 => ?_) (fun hc8 => ?_)
                  · skip
                    obtain ⟨ad2, had2, hea⟩ := (hPk.1.rd.drawn hd).elem (k := j) hil
                    obtain rfl : ad = ad2 := by injection had2
                    rw [hfg] at hea
                    obtain ⟨ai, hai, hci⟩ := ((hPk.2 p hpm).frm hd.frm (by simp)).at1 hc8
                    have hct := cntM_cell (hoo.drawn hd) hc8
                    have hcl2 : ((lst.take j).flatMap PkC.sy).count k ≤ 5120 := Nat.le_trans List.count_le_length (by omega)
                    have hcl3 : p.sy.count k ≤ 5120 := Nat.le_trans List.count_le_length (by omega)
                    have h83 : (RC cs.length p)[1]? = some (.slice (some ai) cs.length p.c) := by simp [RC, hai]
                    refine VC.skip ?_
                    refine thenQ_n ?_
                    refine VC.sub [(6, _), (9, _), (10, _), (12, _), (13, _)] (.cons rfl (.cons rfl (.cons rfl (.cons rfl (.cons rfl .nil))))) ?_
                    refine VC.seq ?_
                    refine VC.block ?_
                    refine VC.tail 14 (by kernel_rfl) (by kernel_rfl) ?_
                    simp only [List.take_succ_cons, List.take_zero, List.drop_succ_cons, List.drop_zero]
                    refine SOps.r (Run.mv rfl) rfl ?_
                    refine SOps.r (Run.mv rfl) rfl ?_
                    refine SOps.r (Run.index1 _ rfl rfl Try.underlying54 Try.sizeOf3 (by omega)) rfl ?_
                    refine SOps.r (Run.load rfl Try.isAgg3 hct) rfl ?_
                    refine SOps.r (Run.mv rfl) rfl ?_
                    refine SOps.r (Run.mv rfl) rfl ?_
                    refine SOps.r (Run.indexS _ rfl rfl Try.underlying102 Try.sizeOf105 (by omega)) rfl ?_
                    refine SOps.r (Run.fieldAddr rfl Try.underlying105 rfl Try.sizeOf54 (by decide)) rfl ?_
                    refine SOps.r (Run.load rfl Try.isAgg54 (hea 1 _ h83)) rfl ?_
                    refine SOps.r (Run.mv rfl) rfl ?_
                    refine SOps.r (Run.index1 _ rfl rfl Try.underlying54 Try.sizeOf3 (by omega)) rfl ?_
                    refine SOps.r (Run.load rfl Try.isAgg3 hci) rfl ?_
                    refine SOps.r (Run.bin rfl rfl (Bin.add_i64 _ _ (by omega))) rfl ?_
                    refine SOps.r (Run.index1 _ rfl rfl Try.underlying54 Try.sizeOf3 (by omega)) rfl ?_
                    refine SOps.nil ?_
                    refine Ops.st (Acts.storeOwn k rfl rfl Try.sizeOf3 (hoo.drawn hd) rfl (by omega) rfl) ?_
                    rintro w9 ⟨ho9, hf9, hs9⟩
                    rw [← cntM_succ _ _ _ _ hc8] at ho9
                    have hf89 := hfr.drawn hd
                    refine Ops.nil ?_
                    refine blockQ_n (thenQ_n ?_)
                    refine VC.sub [(6, _), (9, _), (10, _), (12, _), (13, _)] (.cons rfl (.cons rfl (.cons rfl (.cons rfl (.cons rfl .nil))))) ?_
                    refine VC.region ?_
                    refine Ops.r (Run.mv rfl) rfl ?_
                    refine Ops.r (Run.bin rfl rfl (Bin.add_i64 _ 1 (by omega))) rfl ?_
                    refine Ops.r (Run.asg rfl) rfl ?_
                    refine Ops.nil ?_
                    refine thenQ_n ⟨(k + 1), (.cons rfl (.cons rfl (.cons rfl (.cons rfl (.cons rfl .nil))))), ?_, ?_⟩
                    · skip
                      refine ⟨hc8, (hPk.frm hd.frm (by simp) (fun _ _ _ _ => by simp)).frm hf9 (hPk.1.ne_own hoo (by decide)) (fun q hq x hx => by simp [ob]; exact hpg q hq x hx), ho9, hf89.own hf9 (fun x hx => ?_)⟩
                      simp [ob] at hx
                      omega
                    · skip
                      first | omega | (dsimp only; omega)
                  · skip
                    have hkl : k = cs.length := by omega
                    subst hkl
                    rw [cntM_all] at hoo
                    refine VC.exit ?_
                    refine thenQ_x (thenQ_x (blockQ_x ?_))
                    refine blockQ_n (thenQ_n ?_)
                    refine VC.sub [(6, _), (9, _), (10, _), (12, _)] (.cons rfl (.cons rfl (.cons rfl (.cons rfl .nil)))) ?_
                    refine VC.region ?_
                    refine Ops.r (Run.mv rfl) rfl ?_
                    refine Ops.r (Run.bin rfl rfl (Bin.add_i64 _ 1 (by omega))) rfl ?_
                    refine Ops.r (Run.asg rfl) rfl ?_
                    refine Ops.nil ?_
                    refine thenQ_n ⟨(j + 1), (.cons rfl (.cons rfl (.cons rfl (.cons rfl .nil)))), ?_, ?_⟩
                    · skip
                      refine ⟨by omega, hPk, ?_, hfr⟩
                      rw [htk, List.flatMap_append]
                      simpa using hoo
                    · skip
                      first | omega | (dsimp only; omega)
                · skip
                  have hin2 : j = 2 * ps.length - 2 := by omega
                  subst hin2
                  refine VC.exit ?_
                  refine thenQ_x (thenQ_x (blockQ_x ?_))
                  refine thenQ_n ?_
                  refine VC.sub [(9, _)] (.cons rfl .nil) ?_
                  refine VC.seq ?_
                  refine VC.region ?_
                  refine Ops.r (Run.mv rfl) rfl ?_
                  refine Ops.r (Run.asg rfl) rfl ?_
                  refine Ops.r (v := .int .i64 ((0 : Nat) : Int)) (Run.asg rfl) rfl ?_
                  refine Ops.nil ?_
                  refine thenQ_n ?_
                  refine VC.sub [(4, _), (5, _)] (.cons rfl (.cons rfl .nil)) ?_
                  refine VC.ret ?_
                  refine end2 rfl rfl ?_
                  refine ⟨hfr, ?_⟩
                  rw [if_neg hc1]
                  refine ⟨_, hco, ?_⟩
                  rw [Int.toNat_natCast, List.length_map, if_neg hc3n]
                  refine ⟨_, _, rfl, ?_⟩
                  have h5 : lenP cs.length i (ps.map PkC.abs) = cntV cs.length ((lst.take (2 * ps.length - 2)).flatMap PkC.sy) := by
                    unfold lenP
                    rw [if_neg (by rw [List.length_map]; omega), vecOf_eq, ← hlv, List.length_map, ← List.map_take, List.flatMap_map]
                    rfl
                  rw [h5]
                  exact hoo

end Go.Proofs.Ytebaojedpnnliaa
