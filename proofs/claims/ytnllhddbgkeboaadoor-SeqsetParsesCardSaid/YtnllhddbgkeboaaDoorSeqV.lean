/-
  The answers of layer 25: spans of a text.
-/
import Derived.Test.YtnllhddbgkeboaaDoorSeqU
namespace Go.Proofs.YtnllhddbgkeboaaDoor
open Go.RowKit Go.Sort

theorem numQ_colon {b : Tx} (h : (58 : UInt8) ∈ b) : numQ b = -1 := by
  by_cases hs : b = [42]
  · subst hs; exact absurd h (by decide)
  · by_cases h2 : b = [] ∨ 10 < b.length ∨ b.head? = some 48
    · exact numQ_bad hs h2
    · rw [numQ_of hs h2, if_neg (fun hh => absurd (hh.1 58 h) (by decide))]
theorem ends_cases (x : Tx) : ((58 : UInt8) ∉ x ∧ splitF 58 x = [x] ∧ spanQ x = (numQ x, numQ x)) ∨ (∃ a b, splitF 58 x = [a, b] ∧ spanQ x = (numQ a, numQ b)) ∨ (2 < (splitF 58 x).length ∧ ¬ GoodW x) := by
  rcases idxB_cases x 58 with ⟨_, h⟩ | ⟨a, b, rfl, ha, _⟩
  · refine .inl ⟨h, split_no h, ?_⟩
    unfold spanQ
    rw [if_neg h, (bef_no h).1]
  · have hm : (58 : UInt8) ∈ a ++ 58 :: b := by simp
    have hsp : spanQ (a ++ 58 :: b) = (numQ a, numQ b) := by
      unfold spanQ
      rw [if_pos hm, (bef_at ha).1, (bef_at ha).2]
    rcases idxB_cases b 58 with ⟨_, h⟩ | ⟨a2, b2, rfl, ha2, _⟩
    · exact .inr (.inl ⟨a, b, by rw [split_at ha, split_no h], hsp⟩)
    · refine .inr (.inr ⟨?_, fun hg => ?_⟩)
      · rw [split_at ha, split_at ha2]
        have := List.length_pos_iff.2 (split_ne 58 b2)
        simp
        omega
      · have h2 := hg.2
        rw [hsp] at h2
        dsimp only at h2
        rw [numQ_colon (by simp)] at h2
        omega
theorem SB_cell {w : World} {ad : Addr} {l : List Tx} {k : Nat} (h : Rd w 1 (some ad) l.length (SB l)) (hk : k < l.length) : w.cell? (ad.add k) = some (encStr l[k]) := by
  obtain ⟨ad', h1, h2⟩ := SB_at h hk
  cases h1
  exact h2
theorem split_count (c : UInt8) : ∀ s : Tx, (splitF c s).length ≤ s.length + 1
  | [] => by simp [splitF]
  | x :: r => by
    have ih := split_count c r
    unfold splitF
    split
    · simp; omega
    · split
      · simp
      · rename_i p ps hs
        rw [hs] at ih
        simpa using Nat.le_succ_of_le ih

set_option maxRecDepth 100000 in
theorem rparse_spec (q : Tx) (w : World) (hs : q.length ≤ 100000) :
    Calls Tryd.prog 29 #[encStr q] w fun e w' => Frm [] w w' ∧ ∃ A d, e = .returned (.tuple #[.slice A (parseQ q).length d, .int .i64 (perr q)]) ∧ Own w' 46 2 A (parseQ q).length d (SC (parseQ q)) ∧ (∀ x ∈ ob A, w.heap.size ≤ x) := by
  refine VC.calls (nt := 53) (res := #[.tmp 2, .tmp 3]) Tryd.func29 rfl Tryd.ntmps29 Tryd.results29 rfl ?_
  refine VC.seq ?_
  refine VC.region ?_
  refine Ops.r (Run.asg rfl) rfl ?_
  refine Ops.r (v := .int .i64 ((0 : Nat) : Int)) (Run.asg rfl) rfl ?_
  refine Ops.nil ?_
  refine thenQ_n ?_
  refine VC.sub [(0, _)] (.cons rfl .nil) ?_
  refine VC.seq ?_
  refine VC.region ?_
  refine Ops.r (Run.mv rfl) rfl ?_
  refine Ops.cl (Enters.fn (evs.cons rfl (evs.cons rfl evs.nil)) Tryd.call55) (rcut_spec q 44 _ (by omega)) rfl ?_
  rintro e w1 ⟨K, WA, wd, rfl, hW, _⟩
  refine ⟨_, rfl, ?_⟩
  have hcount := split_count 44 q
  have hwords := split_len (c := 44) q
  have hwr := hW.rd
  have hpok : ParseOk q ↔ ((∀ x ∈ splitF 44 q, GoodW x) ∧ (splitF 44 q).length ≤ 64) := Iff.rfl
  have hpq := fun h => parse_good (s := q) h
  have hpb := fun h => parse_bad (s := q) h
  generalize splitF 44 q = ws at *
  have Kw := K.size
  refine Ops.r (Run.asg rfl) rfl ?_
  refine Ops.nil ?_
  refine thenQ_n ?_
  refine VC.sub [(4, _)] (.cons rfl .nil) ?_
  refine VC.seq ?_
  refine VC.region ?_
  refine Ops.r (Run.asg rfl) rfl ?_
  refine Ops.nil ?_
  refine thenQ_n ?_
  refine VC.seq ?_
  refine VC.seq ?_
  refine VC.region ?_
  refine Ops.r (v := .int .i64 ((0 : Nat) : Int)) (Run.asg rfl) rfl ?_
  refine Ops.nil ?_
  refine thenQ_n ?_
  refine VC.block ?_
  refine VC.loop (σ := Nat × Option Addr × Nat) (fun s => [(4, .slice WA ws.length wd), (5, .slice s.2.1 ((ws.take s.1).map spanQ).length s.2.2), (6, .int .i64 ((s.1 : Nat) : Int))]) (fun s wr => s.1 ≤ ws.length ∧ (∀ x ∈ ws.take s.1, GoodW x) ∧ Own wr 46 2 s.2.1 ((ws.take s.1).map spanQ).length s.2.2 (SC ((ws.take s.1).map spanQ)) ∧ (∀ x ∈ ob s.2.1, w1.heap.size ≤ x) ∧ Frm [] w wr ∧ Frm [] w1 wr) (fun s => ws.length - s.1) (0, none, 0) (.cons rfl (.cons rfl (.cons rfl .nil))) ⟨by omega, by simp, Own.nil _ _ _, by simp [ob], K, Frm.refl _ _⟩ ?_
  rintro ⟨i, A, d⟩ wr ⟨hi, hgd, hA, hub, K, K1⟩
  dsimp only at hi hgd hA hub ⊢
  have hml : ((ws.take i).map spanQ).length = i := by simp; omega
  refine VC.seq ?_
  refine VC.seq ?_
  refine VC.region ?_
  refine Ops.r (Run.mv rfl) rfl ?_
  refine Ops.r (Run.mv rfl) rfl ?_
  refine Ops.r (Run.lenS rfl Tryd.underlying65) rfl ?_
  refine Ops.r (Run.bin rfl rfl (Bin.lssN _ _)) rfl ?_
  refine Ops.nil ?_
  refine thenQ_n ?_
  refine VC.sub [(4, _), (5, _), (6, _), (15, _)] (.cons rfl (.cons rfl (.cons rfl (.cons rfl .nil)))) ?_
  refine VC.condD rfl (fun hc1 => ?_) (fun hc1 => ?_)
  · skip
    obtain ⟨ad, rfl, hcell⟩ := SB_at (hwr.frm K1 (by simp)) hc1
    have hxm := List.getElem_mem hc1
    have htk := take_snoc hc1
    generalize hx : ws[i] = x at *
    have hxl := hwords x hxm
    refine VC.skip ?_
    refine thenQ_n ?_
    refine VC.sub [(4, _), (5, _), (6, _)] (.cons rfl (.cons rfl (.cons rfl .nil))) ?_
    refine VC.seq ?_
    refine VC.block ?_
    refine VC.seq ?_
    refine VC.region ?_
    refine Ops.r (Run.mv rfl) rfl ?_
    refine Ops.r (Run.mv rfl) rfl ?_
    refine Ops.r (Run.index1 i rfl rfl Tryd.underlying65 Tryd.sizeOf9 hc1) rfl ?_
    refine Ops.r (Run.load rfl Tryd.isAgg9 hcell) rfl ?_
    refine Ops.cl (Enters.fn (evs.cons rfl (evs.cons rfl evs.nil)) Tryd.call55) (rcut_spec x 58 _ (by omega)) rfl ?_
    rintro e w2 ⟨hf2, EA, ed, rfl, hE, _⟩
    refine ⟨_, rfl, ?_⟩
    have hA := hA.frm hf2 (by simp)
    have K := K.trans hf2 (by simp)
    have K1 := K1.trans hf2 (by simp)
    have hec := ends_cases x
    refine Ops.r (Run.asg rfl) rfl ?_
    refine Ops.nil ?_
    refine thenQ_n ?_
    refine VC.sub [(4, _), (5, _), (6, _), (7, _)] (.cons rfl (.cons rfl (.cons rfl (.cons rfl .nil)))) ?_
    refine VC.seq ?_
    refine VC.seq ?_
    refine VC.region ?_
    refine Ops.r (Run.mv rfl) rfl ?_
    refine Ops.r (Run.lenS rfl Tryd.underlying65) rfl ?_
    refine Ops.r (Run.bin rfl rfl (Bin.gtrN _ 2)) rfl ?_
    refine Ops.nil ?_
    refine thenQ_n ?_
    refine VC.sub [(4, _), (5, _), (6, _), (7, _), (25, _)] (.cons rfl (.cons rfl (.cons rfl (.cons rfl (.cons rfl .nil))))) ?_
    refine VC.condD rfl (fun hc2 => ?_) (fun hc2 => ?_)
    · skip
      have hbx : ¬ ParseOk q := fun h => by
        have hg := (hpok.1 h).1 x hxm
        rcases hec with ⟨_, h1, _⟩ | ⟨a, b, h1, _⟩ | ⟨_, h2⟩
        · rw [h1] at hc2; simp at hc2
        · rw [h1] at hc2; simp at hc2
        · exact h2 hg
      refine VC.seq ?_
      refine VC.region ?_
      refine Ops.r (Run.asg rfl) rfl ?_
      refine Ops.r (v := .int .i64 ((3 : Nat) : Int)) (Run.asg rfl) rfl ?_
      refine Ops.nil ?_
      refine thenQ_n ?_
      refine VC.sub [(2, _), (3, _)] (.cons rfl (.cons rfl .nil)) ?_
      refine VC.ret ?_
      refine thenQ_r (blockQ_r (thenQ_r (thenQ_r (blockQ_r (thenQ_r (end2 rfl rfl ?_))))))
      rw [(hpb hbx).1, (hpb hbx).2]
      exact ⟨K, none, 0, rfl, Own.nil _ _ _, by simp [ob]⟩
    · skip
      obtain ⟨ea, eb, es, he0, he1, hsp, hea, heb⟩ : ∃ (ea eb : Tx) (es : List Tx), splitF 58 x = es ∧ (0 < es.length ∧ es.length ≤ 2 ∧ es.getD 0 [] = ea ∧ es.getD (es.length - 1) [] = eb) ∧ spanQ x = (numQ ea, numQ eb) ∧ ea.length ≤ x.length ∧ eb.length ≤ x.length := by
        rcases hec with ⟨_, h1, h2⟩ | ⟨a, b, h1, h2⟩ | ⟨h1, _⟩
        · exact ⟨x, x, [x], h1, by simp, h2, by simp, by simp⟩
        · exact ⟨a, b, [a, b], h1, by simp, h2, split_len x a (by rw [h1]; simp), split_len x b (by rw [h1]; simp)⟩
        · omega
      rw [he0] at hE ⊢
      obtain ⟨hel, hel2, hg0, hg1⟩ := he1
      obtain ⟨ed0, rfl, _⟩ := SB_at hE.rd hel
      have hel3 : es.length - 1 < es.length := by omega
      have hce0 : ∀ W, Frm [] w2 W → W.cell? (ed0.add 0) = some (encStr ea) := fun W hW => by
        have := SB_cell (hE.frm hW (by simp)).rd hel
        rw [this, ← hg0]; simp [List.getD_eq_getElem?_getD, hel]
      have hce1 : ∀ W, Frm [] w2 W → W.cell? (ed0.add (es.length - 1)) = some (encStr eb) := fun W hW => by
        have := SB_cell (hE.frm hW (by simp)).rd hel3
        rw [this, ← hg1]; simp [List.getD_eq_getElem?_getD, hel3]
      refine VC.skip ?_
      refine thenQ_n ?_
      refine VC.sub [(4, _), (5, _), (6, _), (7, _)] (.cons rfl (.cons rfl (.cons rfl (.cons rfl .nil)))) ?_
      refine VC.seq ?_
      refine VC.region ?_
      refine Ops.r (Run.mv rfl) rfl ?_
      refine Ops.r (Run.index1 0 rfl rfl Tryd.underlying65 Tryd.sizeOf9 hel) rfl ?_
      refine Ops.r (Run.load rfl Tryd.isAgg9 (hce0 _ (Frm.refl _ _))) rfl ?_
      refine Ops.cl (Enters.fn (evs.cons rfl evs.nil) Tryd.call56) (rnumber_spec ea _ (by omega)) rfl ?_
      rintro e _ ⟨rfl, rfl⟩
      refine ⟨_, rfl, ?_⟩
      refine Ops.r (Run.asg rfl) rfl ?_
      refine Ops.nil ?_
      refine thenQ_n ?_
      refine VC.sub [(4, _), (5, _), (6, _), (7, _), (8, _)] (.cons rfl (.cons rfl (.cons rfl (.cons rfl (.cons rfl .nil))))) ?_
      refine VC.seq ?_
      refine VC.region ?_
      refine Ops.r (Run.mv rfl) rfl ?_
      refine Ops.r (Run.mv rfl) rfl ?_
      refine Ops.r (Run.lenS rfl Tryd.underlying65) rfl ?_
      refine Ops.r (Run.bin rfl rfl (Bin.subN es.length 1 (by omega) (by simp [bmax]; omega))) rfl ?_
      refine Ops.r (Run.index1 (es.length - 1) rfl rfl Tryd.underlying65 Tryd.sizeOf9 hel3) rfl ?_
      refine Ops.r (Run.load rfl Tryd.isAgg9 (hce1 _ (Frm.refl _ _))) rfl ?_
      refine Ops.cl (Enters.fn (evs.cons rfl evs.nil) Tryd.call56) (rnumber_spec eb _ (by omega)) rfl ?_
      rintro e _ ⟨rfl, rfl⟩
      refine ⟨_, rfl, ?_⟩
      have hgx : GoodW x ↔ (0 ≤ numQ ea ∧ 0 ≤ numQ eb) := by unfold GoodW; rw [hsp]
      refine Ops.r (Run.asg rfl) rfl ?_
      refine Ops.nil ?_
      refine thenQ_n ?_
      refine VC.sub [(4, _), (5, _), (6, _), (8, _), (9, _)] (.cons rfl (.cons rfl (.cons rfl (.cons rfl (.cons rfl .nil))))) ?_
      refine VC.seq ?_
      refine VC.seq ?_
      refine VC.split1 [(4, _), (5, _), (6, _), (8, _), (9, _)] (.cons rfl (.cons rfl (.cons rfl (.cons rfl (.cons rfl .nil))))) 42 (.bool (decide (¬ GoodW x))) ?_ ?_
      · refine VC.region ?_
        refine Ops.r (Run.mv rfl) rfl ?_
        refine Ops.r (Run.bin rfl rfl (Bin.lss _ 0)) rfl ?_
        by_cases hs38 : numQ ea < 0
        · skip
          refine Ops.r (Run.mv rfl) rfl ?_
          refine Ops.sk rfl (by first | rfl | assumption | exact decide_eq_true (by assumption) | exact decide_eq_false (by assumption) | decide | (simp; done) | (simp; omega) | (simp [*]; done)) rfl ?_
          refine Ops.sk rfl (by first | rfl | assumption | exact decide_eq_true (by assumption) | exact decide_eq_false (by assumption) | decide | (simp; done) | (simp; omega) | (simp [*]; done)) rfl ?_
          refine Ops.r (Run.pickT rfl rfl (by first | rfl | assumption | exact decide_eq_true (by assumption) | exact decide_eq_false (by assumption) | decide | (simp; done) | (simp; omega) | (simp [*]; done))) rfl ?_
          refine Ops.nil ?_
          refine thenQ_n ⟨(.cons (congrArg (fun b => some (Value.bool b)) (Eq.symm (by first | exact decide_eq_true (fun h => by have := (hgx.1 h).1; omega) | exact decide_eq_decide.2 ⟨fun h => Classical.byContradiction fun h2 => h (hgx.2 ⟨by omega, by omega⟩), fun h h2 => by have := (hgx.1 h2).2; omega⟩))) (.cons rfl (.cons rfl (.cons rfl (.cons rfl (.cons rfl .nil)))))), rfl⟩
        · skip
          refine Ops.r (Run.mv rfl) rfl ?_
          refine Ops.rg rfl (by first | rfl | assumption | exact decide_eq_true (by assumption) | exact decide_eq_false (by assumption) | decide | (simp; done) | (simp; omega) | (simp [*]; done)) (Run.mv rfl) rfl ?_
          refine Ops.rg rfl (by first | rfl | assumption | exact decide_eq_true (by assumption) | exact decide_eq_false (by assumption) | decide | (simp; done) | (simp; omega) | (simp [*]; done)) (Run.bin rfl rfl (Bin.lss _ 0)) rfl ?_
          by_cases hs41 : numQ eb < 0
          · skip
            refine Ops.r (Run.pickF rfl rfl (by first | rfl | assumption | exact decide_eq_true (by assumption) | exact decide_eq_false (by assumption) | decide | (simp; done) | (simp; omega) | (simp [*]; done))) rfl ?_
            refine Ops.nil ?_
            refine thenQ_n ⟨(.cons (congrArg (fun b => some (Value.bool b)) (Eq.symm (by first | exact decide_eq_true (fun h => by have := (hgx.1 h).1; omega) | exact decide_eq_decide.2 ⟨fun h => Classical.byContradiction fun h2 => h (hgx.2 ⟨by omega, by omega⟩), fun h h2 => by have := (hgx.1 h2).2; omega⟩))) (.cons rfl (.cons rfl (.cons rfl (.cons rfl (.cons rfl .nil)))))), rfl⟩
          · skip
            refine Ops.r (Run.pickF rfl rfl (by first | rfl | assumption | exact decide_eq_true (by assumption) | exact decide_eq_false (by assumption) | decide | (simp; done) | (simp; omega) | (simp [*]; done))) rfl ?_
            refine Ops.nil ?_
            refine thenQ_n ⟨(.cons (congrArg (fun b => some (Value.bool b)) (Eq.symm (by first | exact decide_eq_true (fun h => by have := (hgx.1 h).1; omega) | exact decide_eq_decide.2 ⟨fun h => Classical.byContradiction fun h2 => h (hgx.2 ⟨by omega, by omega⟩), fun h h2 => by have := (hgx.1 h2).2; omega⟩))) (.cons rfl (.cons rfl (.cons rfl (.cons rfl (.cons rfl .nil)))))), rfl⟩
      · intro Γ hΓ
        refine thenQ_n (VC.sub _ hΓ ?_)
        refine VC.condD rfl (fun hc3 => ?_) (fun hc3 => ?_)
        · skip
          refine VC.seq ?_
          refine VC.region ?_
          refine Ops.r (Run.asg rfl) rfl ?_
          refine Ops.r (v := .int .i64 ((3 : Nat) : Int)) (Run.asg rfl) rfl ?_
          refine Ops.nil ?_
          refine thenQ_n ?_
          refine VC.sub [(2, _), (3, _)] (.cons rfl (.cons rfl .nil)) ?_
          refine VC.ret ?_
          refine thenQ_r (blockQ_r (thenQ_r (thenQ_r (blockQ_r (thenQ_r (end2 rfl rfl ?_))))))
          have hbx : ¬ ParseOk q := fun h => hc3 ((hpok.1 h).1 x hxm)
          rw [(hpb hbx).1, (hpb hbx).2]
          exact ⟨K, none, 0, rfl, Own.nil _ _ _, by simp [ob]⟩
        · skip
          refine VC.skip ?_
          refine thenQ_n ?_
          refine VC.sub [(4, _), (5, _), (6, _), (8, _), (9, _)] (.cons rfl (.cons rfl (.cons rfl (.cons rfl (.cons rfl .nil))))) ?_
          refine VC.region ?_
          refine Ops.r (Run.mv rfl) rfl ?_
          refine Ops.r (Run.mv rfl) rfl ?_
          refine Ops.r (Run.mv rfl) rfl ?_
          refine Ops.r (Run.build (evs.cons rfl (evs.cons rfl evs.nil)) zero46 (places46).choose_spec.1 (places46).choose_spec.2 (cells := (SC1 (numQ ea, numQ eb)).toArray) rfl) rfl ?_
          refine Ops.m (Does.buildS1 rfl Tryd.underlying37 Tryd.sizeOf46 zero46 (by decide) (by decide) rfl rfl) rfl ?_
          rintro _ w4 ⟨rfl, hF4⟩
          have hA := hA.frm hF4.frm (by simp)
          have K := K.trans hF4.frm (by simp)
          have K1 := K1.trans hF4.frm (by simp)
          refine Ops.m (Does.app rfl rfl Tryd.underlying37 (info46) rfl (by decide) hA (hrdS hF4) (SC_one _) (by omega) (by omega)) rfl ?_
          rintro _ w5 ⟨A5, d5, rfl, hA5, hf5, hob5⟩
          rw [← hsp, SC_map_snoc, ← htk] at hA5
          have e5 : ((ws.take i).map spanQ).length + 1 = ((ws.take (i + 1)).map spanQ).length := by rw [htk]; simp
          rw [e5] at hA5
          have hub5 := up_app hub hob5 K1.size
          have K := Frm.own K hf5 (fun y hy => by have := hub y hy; have := Kw; omega)
          have K1 := Frm.own K1 hf5 hub
          refine Ops.r (Run.asg rfl) rfl ?_
          refine Ops.nil ?_
          refine blockQ_n (thenQ_n ?_)
          refine VC.sub [(4, _), (5, _), (6, _)] (.cons rfl (.cons rfl (.cons rfl .nil))) ?_
          refine VC.region ?_
          refine Ops.r (Run.mv rfl) rfl ?_
          refine Ops.r (Run.bin rfl rfl (Bin.add_i64 _ 1 (by omega))) rfl ?_
          refine Ops.r (Run.asg rfl) rfl ?_
          refine Ops.nil ?_
          refine thenQ_n ⟨(i + 1, A5, d5), (.cons rfl (.cons (by rw [← e5]; rfl) (.cons rfl .nil))), ?_, ?_⟩
          · skip
            refine ⟨hc1, fun y hy => ?_, hA5, hub5, K, K1⟩
            rw [htk] at hy
            rcases List.mem_append.1 hy with h | h
            · exact hgd y h
            · simp only [List.mem_singleton] at h; subst h; exact Classical.not_not.1 hc3
          · skip
            first | omega | (dsimp only; omega)
  · skip
    have him : i = ws.length := by omega
    subst him
    rw [List.take_length] at *
    refine VC.exit ?_
    refine thenQ_x (thenQ_x (blockQ_x ?_))
    refine thenQ_n ?_
    refine VC.sub [(5, _)] (.cons rfl .nil) ?_
    refine VC.seq ?_
    refine VC.seq ?_
    refine VC.region ?_
    refine Ops.r (Run.mv rfl) rfl ?_
    refine Ops.r (Run.lenS rfl Tryd.underlying37) rfl ?_
    refine Ops.r (Run.bin rfl rfl (Bin.gtrN _ 64)) rfl ?_
    refine Ops.nil ?_
    refine thenQ_n ?_
    refine VC.sub [(5, _), (51, _)] (.cons rfl (.cons rfl .nil)) ?_
    refine VC.condD rfl (fun hc4 => ?_) (fun hc4 => ?_)
    · skip
      refine VC.seq ?_
      refine VC.region ?_
      refine Ops.r (Run.asg rfl) rfl ?_
      refine Ops.r (v := .int .i64 ((3 : Nat) : Int)) (Run.asg rfl) rfl ?_
      refine Ops.nil ?_
      refine thenQ_n ?_
      refine VC.sub [(2, _), (3, _)] (.cons rfl (.cons rfl .nil)) ?_
      refine VC.ret ?_
      refine thenQ_r (end2 rfl rfl ?_)
      have hbx : ¬ ParseOk q := fun h => by have := (hpok.1 h).2; simp at hc4; omega
      rw [(hpb hbx).1, (hpb hbx).2]
      exact ⟨K, none, 0, rfl, Own.nil _ _ _, by simp [ob]⟩
    · skip
      refine VC.skip ?_
      refine thenQ_n ?_
      refine VC.sub [(5, _)] (.cons rfl .nil) ?_
      refine VC.seq ?_
      refine VC.region ?_
      refine Ops.r (Run.mv rfl) rfl ?_
      refine Ops.r (Run.asg rfl) rfl ?_
      refine Ops.r (v := .int .i64 ((0 : Nat) : Int)) (Run.asg rfl) rfl ?_
      refine Ops.nil ?_
      refine thenQ_n ?_
      refine VC.sub [(2, _), (3, _)] (.cons rfl (.cons rfl .nil)) ?_
      refine VC.ret ?_
      refine end2 rfl rfl ?_
      have hok : ParseOk q := hpok.2 ⟨hgd, by simp at hc4; omega⟩
      rw [(hpq hok).1, (hpq hok).2]
      exact ⟨K, A, d, rfl, hA, fun y hy => by have := hub y hy; have := Kw; omega⟩

end Go.Proofs.YtnllhddbgkeboaaDoor
