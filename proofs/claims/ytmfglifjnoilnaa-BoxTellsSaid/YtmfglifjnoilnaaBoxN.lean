/-
  The walk of the document's box: a message's flags changed.
-/
import Derived.Test.YtmfglifjnoilnaaBoxO
namespace Go.Proofs.Ytmfglifjnoilnaa
open Go.RowKit Go.Sort

set_option maxRecDepth 100000 in
theorem rchangeB_spec (v n : Int) (A : Option Addr) (c : Nat) (l : List Mc) (pl op : Int) (F : Option Addr) (cf : Nat) (more : List Tx) (w : World) (hl : RdM w A l) (hln : l.length ≤ 900000) (hmn : more.length ≤ 800000) (hmq : ∀ q ∈ more, q.length ≤ 1000000) (hmr : Rd w 1 F more.length (SB more)) :
    Calls Try.prog 22 #[.agg #[.int .i64 v, .int .i64 n, .slice A l.length c], .int .i64 pl, .int .i64 op, .slice F more.length cf] w fun e w' => Frm [] w w' ∧ ∃ v' n' B d l' k, e = .returned (.tuple #[.agg #[.int .i64 v', .int .i64 n', .slice B l'.length d], .int .i64 ((k : Nat) : Int)]) ∧ IsBx w' (changeB ⟨v, n, Ms l⟩ pl op more) v' n' B d l' k := by
  refine VC.calls (nt := 56) (res := #[.cell 8 24, .tmp 9]) Try.func22 rfl Try.ntmps22 Try.results22 rfl ?_
  refine VC.seq ?_
  refine VC.region ?_
  refine Ops.m (Does.box rfl) rfl ?_
  rintro _ w1 ⟨rfl, hF4⟩
  have hb4 := hF4.blk
  have hf4 := hF4.frm
  have hs4 : w.heap.size ≤ w.heap.size := Nat.le_refl _
  generalize hg4 : w.heap.size = g4 at hb4 ⊢
  refine Ops.m (Does.alloc zero24) rfl ?_
  rintro _ w2 ⟨rfl, hF8⟩
  have hb8 := hF8.blk
  have hb4 := hb4.frm hF8.frm (by simp)
  have hf8 := hf4.trans hF8.frm (by simp)
  have hs8 : w.heap.size ≤ w1.heap.size := hf4.size
  generalize hg8 : w1.heap.size = g8 at hb8 hs8 ⊢
  have hn48 : g4 < g8 := by rw [← hg8, ← hg4]; have := hF4.size; omega
  refine Ops.r (v := .int .i64 ((0 : Nat) : Int)) (Run.asg rfl) rfl ?_
  refine Ops.nil ?_
  refine thenQ_n ?_
  refine VC.sub [(1, _), (2, _), (3, _), (4, _), (8, _)] (.cons rfl (.cons rfl (.cons rfl (.cons rfl (.cons rfl .nil))))) ?_
  refine VC.seq ?_
  refine VC.seq ?_
  refine VC.region ?_
  refine Ops.r (Run.loadA rfl Try.isAgg24 Try.sizeOf24 (fun j v hj => hb4.cells j v hj) (by first | rfl | (simp; done))) rfl ?_
  refine Ops.cl (Enters.fn (evs.cons rfl evs.nil) Try.call11) (rmay_spec v n A c l _ (hl.frm hf8) (by omega)) rfl ?_
  rintro e w5 ⟨rfl, hf5⟩
  refine ⟨_, rfl, ?_⟩
  have hfr5 := hf8.trans hf5 (by simp)
  have hb4 := hb4.frm hf5 (by simp)
  have hb8 := hb8.frm hf5 (by simp)
  refine Ops.r (Run.not rfl) rfl ?_
  refine Ops.nil ?_
  refine thenQ_n ?_
  refine VC.sub [(1, _), (2, _), (3, _), (4, _), (8, _), (14, _)] (.cons rfl (.cons rfl (.cons rfl (.cons rfl (.cons rfl (.cons rfl .nil)))))) ?_
  refine VC.condB rfl (fun hc1 => ?_) (fun hc1 => ?_)
  · skip
    have hm : ¬ mayB ⟨v, n, Ms l⟩ := by simpa using hc1
    refine VC.seq ?_
    refine VC.region ?_
    refine Ops.r (Run.build evs.nil zero24 (places24).choose_spec.1 (places24).choose_spec.2 rfl) rfl ?_
    refine Ops.st (Acts.storeA rfl rfl Try.sizeOf24 hb8 rfl (BVc_one 0 0 none 0 0)) ?_
    rintro w6 ⟨hbz, hfz, hsz⟩
    refine Ops.r (v := .int .i64 ((1 : Nat) : Int)) (Run.asg rfl) rfl ?_
    refine Ops.nil ?_
    refine thenQ_n ?_
    refine VC.sub [(8, _), (9, _)] (.cons rfl (.cons rfl .nil)) ?_
    refine VC.ret ?_
    refine thenQ_r (endR ?_)
    refine res_cellA rfl Try.isAgg24 Try.sizeOf24 (fun j v hj => hbz.cells j v hj) (by first | rfl | (simp; done)) ?_
    refine res_tmp rfl ?_
    refine res_nil ?_
    exact ⟨hfr5.own hfz (fun y hy => by simp at hy; omega), 0, 0, none, 0, [], 1, rfl, IsBx.err (by decide) (by unfold changeB; rw [if_pos hm])⟩
  · skip
    have hm : mayB ⟨v, n, Ms l⟩ := by simpa using hc1
    have hl128 := (may_at hm).1.2.2.2.2
    have hmsl : (Ms l).length = l.length := by simp [Ms]
    refine VC.skip ?_
    refine thenQ_n ?_
    refine VC.sub [(1, _), (2, _), (3, _), (4, _), (8, _)] (.cons rfl (.cons rfl (.cons rfl (.cons rfl (.cons rfl .nil))))) ?_
    refine VC.seq ?_
    refine VC.seq ?_
    refine VC.split1 [(1, _), (2, _), (3, _), (4, _), (8, _)] (.cons rfl (.cons rfl (.cons rfl (.cons rfl (.cons rfl .nil))))) 24 (.bool (decide (pl < 1 ∨ ((l.length : Nat) : Int) < pl))) ?_ ?_
    · refine VC.region ?_
      refine Ops.r (Run.mv rfl) rfl ?_
      refine Ops.r (Run.bin rfl rfl (Bin.lss _ 1)) rfl ?_
      by_cases hs17 : pl < 1
      · skip
        refine Ops.r (Run.mv rfl) rfl ?_
        refine Ops.sk rfl (by first | rfl | assumption | exact decide_eq_true (by assumption) | exact decide_eq_false (by assumption) | decide | (simp; done) | (simp; omega) | (simp [*]; done)) rfl ?_
        refine Ops.sk rfl (by first | rfl | assumption | exact decide_eq_true (by assumption) | exact decide_eq_false (by assumption) | decide | (simp; done) | (simp; omega) | (simp [*]; done)) rfl ?_
        refine Ops.sk rfl (by first | rfl | assumption | exact decide_eq_true (by assumption) | exact decide_eq_false (by assumption) | decide | (simp; done) | (simp; omega) | (simp [*]; done)) rfl ?_
        refine Ops.sk rfl (by first | rfl | assumption | exact decide_eq_true (by assumption) | exact decide_eq_false (by assumption) | decide | (simp; done) | (simp; omega) | (simp [*]; done)) rfl ?_
        refine Ops.sk rfl (by first | rfl | assumption | exact decide_eq_true (by assumption) | exact decide_eq_false (by assumption) | decide | (simp; done) | (simp; omega) | (simp [*]; done)) rfl ?_
        refine Ops.r (Run.pickT rfl rfl (by first | rfl | assumption | exact decide_eq_true (by assumption) | exact decide_eq_false (by assumption) | decide | (simp; done) | (simp; omega) | (simp [*]; done))) rfl ?_
        refine Ops.nil ?_
        refine thenQ_n ⟨(.cons (congrArg (fun b => some (Value.bool b)) (Eq.symm (by simp [*]))) (.cons rfl (.cons rfl (.cons rfl (.cons rfl (.cons rfl .nil)))))), rfl⟩
      · skip
        refine Ops.r (Run.mv rfl) rfl ?_
        refine Ops.rg rfl (by first | rfl | assumption | exact decide_eq_true (by assumption) | exact decide_eq_false (by assumption) | decide | (simp; done) | (simp; omega) | (simp [*]; done)) (Run.mv rfl) rfl ?_
        refine Ops.rg rfl (by first | rfl | assumption | exact decide_eq_true (by assumption) | exact decide_eq_false (by assumption) | decide | (simp; done) | (simp; omega) | (simp [*]; done)) (Run.fieldAddr rfl Try.underlying24 rfl Try.sizeOf22 (by decide)) rfl ?_
        refine Ops.rg rfl (by first | rfl | assumption | exact decide_eq_true (by assumption) | exact decide_eq_false (by assumption) | decide | (simp; done) | (simp; omega) | (simp [*]; done)) (Run.load rfl Try.isAgg22 (hb4.cell 2)) rfl ?_
        refine Ops.rg rfl (by first | rfl | assumption | exact decide_eq_true (by assumption) | exact decide_eq_false (by assumption) | decide | (simp; done) | (simp; omega) | (simp [*]; done)) (Run.lenS rfl Try.underlying22) rfl ?_
        refine Ops.rg rfl (by first | rfl | assumption | exact decide_eq_true (by assumption) | exact decide_eq_false (by assumption) | decide | (simp; done) | (simp; omega) | (simp [*]; done)) (Run.bin rfl rfl (Bin.gtr _ _)) rfl ?_
        by_cases hs23 : ((l.length : Nat) : Int) < pl
        · skip
          refine Ops.r (Run.pickF rfl rfl (by first | rfl | assumption | exact decide_eq_true (by assumption) | exact decide_eq_false (by assumption) | decide | (simp; done) | (simp; omega) | (simp [*]; done))) rfl ?_
          refine Ops.nil ?_
          refine thenQ_n ⟨(.cons (congrArg (fun b => some (Value.bool b)) (Eq.symm (by simp [*]))) (.cons rfl (.cons rfl (.cons rfl (.cons rfl (.cons rfl .nil)))))), rfl⟩
        · skip
          refine Ops.r (Run.pickF rfl rfl (by first | rfl | assumption | exact decide_eq_true (by assumption) | exact decide_eq_false (by assumption) | decide | (simp; done) | (simp; omega) | (simp [*]; done))) rfl ?_
          refine Ops.nil ?_
          refine thenQ_n ⟨(.cons (congrArg (fun b => some (Value.bool b)) (Eq.symm (by simp [*]))) (.cons rfl (.cons rfl (.cons rfl (.cons rfl (.cons rfl .nil)))))), rfl⟩
    · intro Γ hΓ
      refine thenQ_n (VC.sub _ hΓ ?_)
      refine VC.condD rfl (fun hc2 => ?_) (fun hc2 => ?_)
      · skip
        refine VC.seq ?_
        refine VC.region ?_
        refine Ops.r (Run.build evs.nil zero24 (places24).choose_spec.1 (places24).choose_spec.2 rfl) rfl ?_
        refine Ops.st (Acts.storeA rfl rfl Try.sizeOf24 hb8 rfl (BVc_one 0 0 none 0 0)) ?_
        rintro w6 ⟨hbz, hfz, hsz⟩
        refine Ops.r (v := .int .i64 ((4 : Nat) : Int)) (Run.asg rfl) rfl ?_
        refine Ops.nil ?_
        refine thenQ_n ?_
        refine VC.sub [(8, _), (9, _)] (.cons rfl (.cons rfl .nil)) ?_
        refine VC.ret ?_
        refine thenQ_r (endR ?_)
        refine res_cellA rfl Try.isAgg24 Try.sizeOf24 (fun j v hj => hbz.cells j v hj) (by first | rfl | (simp; done)) ?_
        refine res_tmp rfl ?_
        refine res_nil ?_
        refine ⟨hfr5.own hfz (fun y hy => by simp at hy; omega), 0, 0, none, 0, [], 4, rfl, IsBx.err (by decide) ?_⟩
        unfold changeB
        rw [if_neg (fun h => h hm), if_pos (by dsimp only; omega)]
      · skip
        obtain ⟨k, rfl⟩ : ∃ k : Nat, pl = ((k + 1 : Nat) : Int) := ⟨(pl - 1).toNat, by omega⟩
        have hkl : k < l.length := by omega
        obtain ⟨ad, rfl, hcell⟩ := (hl.frm hfr5).elem hkl
        have hxa := (hl.frm hfr5).fl (l[k]) (List.getElem_mem hkl)
        have hkk : (((k + 1 : Nat) : Int) - 1).toNat = k := by omega
        have hMk : (Ms l)[k]? = some (l[k]).m := by simp [Ms, List.getElem?_eq_getElem hkl]
        have hcb : changeB ⟨v, n, Ms l⟩ ((k + 1 : Nat) : Int) op more = match changeF (l[k]).m.flags op more with
            | .error e => .error e
            | .ok r => .ok ⟨v, n, (Ms l).set k { (l[k]).m with flags := r }⟩ := by
          unfold changeB
          rw [if_neg (fun h => h hm), if_neg (by dsimp only; omega)]
          dsimp only
          rw [hkk, hMk]
          rfl
        refine VC.skip ?_
        refine thenQ_n ?_
        refine VC.sub [(1, _), (2, _), (3, _), (4, _), (8, _)] (.cons rfl (.cons rfl (.cons rfl (.cons rfl (.cons rfl .nil))))) ?_
        refine VC.seq ?_
        refine VC.region ?_
        refine Ops.r (Run.fieldAddr rfl Try.underlying24 rfl Try.sizeOf22 (by decide)) rfl ?_
        refine Ops.r (Run.load rfl Try.isAgg22 (hb4.cell 2)) rfl ?_
        refine Ops.r (Run.mv rfl) rfl ?_
        refine Ops.r (Run.bin rfl rfl (Bin.sub_i64 _ 1 (by omega) (by omega))) rfl ?_
        refine Ops.r (Run.indexS k rfl rfl Try.underlying22 Try.sizeOf45 hkl) rfl ?_
        refine Ops.r (Run.fieldAddr rfl Try.underlying45 rfl Try.sizeOf43 (by decide)) rfl ?_
        refine Ops.r (Run.load rfl Try.isAgg43 (hcell 5 _ rfl)) rfl ?_
        refine Ops.r (Run.mv rfl) rfl ?_
        refine Ops.r (Run.mv rfl) rfl ?_
        refine Ops.cl (Enters.fn (evs.cons rfl (evs.cons rfl (evs.cons rfl evs.nil))) Try.call39) (rchange_spec (l[k]).A (l[k]).c (l[k]).m.flags op F cf more _ (by have := hxa.n; omega) hxa.q hxa.rd hmn hmq (hmr.frm hfr5 (by simp))) rfl ?_
        rintro e w6 ⟨hf6, C, dC, r, k2, rfl, hownC, hgeC, hN⟩
        refine ⟨_, rfl, ?_⟩
        have hfr6 := hfr5.trans hf6 (by simp)
        have hb4 := hb4.frm hf6 (by simp)
        have hb8 := hb8.frm hf6 (by simp)
        refine Ops.r (Run.mv rfl) rfl ?_
        refine Ops.r (Run.extract rfl rfl) rfl ?_
        refine Ops.r (Run.extract rfl rfl) rfl ?_
        refine Ops.r (Run.asg rfl) rfl ?_
        refine Ops.r (Run.asg rfl) rfl ?_
        refine Ops.nil ?_
        refine thenQ_n ?_
        refine VC.sub [(1, _), (4, _), (8, _), (10, _), (11, _)] (.cons rfl (.cons rfl (.cons rfl (.cons rfl (.cons rfl .nil))))) ?_
        refine VC.seq ?_
        refine VC.seq ?_
        refine VC.region ?_
        refine Ops.r (Run.mv rfl) rfl ?_
        refine Ops.r (Run.bin rfl rfl (Bin.neqN _ 0)) rfl ?_
        refine Ops.nil ?_
        refine thenQ_n ?_
        refine VC.sub [(1, _), (4, _), (8, _), (10, _), (11, _), (40, _)] (.cons rfl (.cons rfl (.cons rfl (.cons rfl (.cons rfl (.cons rfl .nil)))))) ?_
        refine VC.condD rfl (fun hc3 => ?_) (fun hc3 => ?_)
        · skip
          have hce : changeF (l[k]).m.flags op more = .error k2 := by
            rcases hN with ⟨h1, _⟩ | ⟨_, _, h3⟩
            · exact absurd h1 hc3
            · exact h3
          refine VC.seq ?_
          refine VC.region ?_
          refine Ops.r (Run.build evs.nil zero24 (places24).choose_spec.1 (places24).choose_spec.2 rfl) rfl ?_
          refine Ops.r (Run.mv rfl) rfl ?_
          refine Ops.st (Acts.storeA rfl rfl Try.sizeOf24 hb8 rfl (BVc_one 0 0 none 0 0)) ?_
          rintro w7 ⟨hbz, hfz, hsz⟩
          refine Ops.r (Run.asg rfl) rfl ?_
          refine Ops.nil ?_
          refine thenQ_n ?_
          refine VC.sub [(8, _), (9, _)] (.cons rfl (.cons rfl .nil)) ?_
          refine VC.ret ?_
          refine thenQ_r (endR ?_)
          refine res_cellA rfl Try.isAgg24 Try.sizeOf24 (fun j v hj => hbz.cells j v hj) (by first | rfl | (simp; done)) ?_
          refine res_tmp rfl ?_
          refine res_nil ?_
          exact ⟨hfr6.own hfz (fun y hy => by simp at hy; omega), 0, 0, none, 0, [], k2, rfl, IsBx.err hc3 (by rw [hcb, hce])⟩
        · skip
          have hk0 : k2 = 0 := Classical.not_not.1 hc3
          have hco : changeF (l[k]).m.flags op more = .ok r := by
            rcases hN with ⟨_, h2⟩ | ⟨h1, _⟩
            · exact h2
            · exact absurd hk0 h1
          have hrf := check_fit (changeF_check hco)
          refine VC.skip ?_
          refine thenQ_n ?_
          refine VC.sub [(1, _), (4, _), (8, _), (10, _)] (.cons rfl (.cons rfl (.cons rfl (.cons rfl .nil)))) ?_
          refine VC.seq ?_
          refine VC.region ?_
          refine Ops.m (Does.buildS0 Try.underlying22 Try.sizeOf45) rfl ?_
          rintro _ w7 ⟨rfl, hF7⟩
          have hb4 := hb4.frm hF7.frm (by simp)
          have hb8 := hb8.frm hF7.frm (by simp)
          have hownC := hownC.frm hF7.frm (by simp)
          have hs67 : w.heap.size ≤ w6.heap.size := hfr6.size
          have hfr7 := hfr6.trans hF7.frm (by simp)
          have hA : Own w7 45 6 (some ⟨w6.heap.size, 0, none⟩) 0 0 [] := Own.of_blk (n := 0) hF7.blk rfl (by decide)
          have hgA : ∀ b ∈ ob (some (⟨w6.heap.size, 0, none⟩ : Addr)), w.heap.size ≤ b := by simp only [ob, List.mem_singleton, forall_eq]; exact hs67
          refine Ops.r (Run.fieldAddr rfl Try.underlying24 rfl Try.sizeOf22 (by decide)) rfl ?_
          refine Ops.r (Run.load rfl Try.isAgg22 (hb4.cell 2)) rfl ?_
          refine Ops.m (Does.app rfl rfl Try.underlying22 (info45) rfl (by decide) hA (hl.frm hfr7).rd (flat_one Mc.cells Mc.cells_one _) (by omega) (by omega)) rfl ?_
          rintro _ w8 ⟨B, dB, rfl, hB8, hf88, hob8⟩
          rw [List.nil_append, Nat.zero_add] at hB8
          rw [Nat.zero_add]
          have hge8 := up_app hgA hob8 hfr7.size
          have hb48 := hb4.frm hf88 (hA.ne_blk hb4 (by decide))
          have hb88 := hb8.frm hf88 (hA.ne_blk hb8 (by decide))
          have hownC8 := hownC.frm hf88 (hownC.ne_own hA (by decide))
          have hfr8 := hfr7.own hf88 hgA
          obtain ⟨gB, rfl⟩ : ∃ g, B = some ⟨g, 0, none⟩ := by
            rcases hB8.cases with ⟨_, h0, _⟩ | ⟨g, _, h0, _⟩
            · omega
            · exact ⟨g, h0⟩
          have hgB : w.heap.size ≤ gB := hge8 gB (by simp [ob])
          refine Ops.r (Run.fieldAddr rfl Try.underlying24 rfl Try.sizeOf22 (by decide)) rfl ?_
          refine Ops.st (Acts.store rfl rfl Try.sizeOf22 hb48 rfl rfl) ?_
          rintro w9 ⟨hb49, hf9, hs9⟩
          have hb49 : Blk w9 g4 24 (BVc v n (some ⟨gB, 0, none⟩) l.length dB).toArray := hb49
          have hb89 := hb88.frm hf9 (by simp; omega)
          have hB9 := hB8.frm hf9 (fun y hy => by have := hB8.ne_blk hb48 (by decide); simp; rintro rfl; exact this hy)
          have hownC9 := hownC8.frm hf9 (fun y hy => by have := hownC8.ne_blk hb48 (by decide); simp; rintro rfl; exact this hy)
          have hfr9 := hfr8.own hf9 (fun y hy => by simp at hy; omega)
          refine Ops.nil ?_
          refine thenQ_n ?_
          refine VC.sub [(1, _), (4, _), (8, _), (10, _)] (.cons rfl (.cons rfl (.cons rfl (.cons rfl .nil)))) ?_
          refine VC.seq ?_
          refine VC.region ?_
          refine Ops.r (Run.fieldAddr rfl Try.underlying24 rfl Try.sizeOf22 (by decide)) rfl ?_
          refine Ops.r (Run.load rfl Try.isAgg22 (hb49.cell 2)) rfl ?_
          refine Ops.r (Run.mv rfl) rfl ?_
          refine Ops.r (Run.bin rfl rfl (Bin.sub_i64 _ 1 (by omega) (by omega))) rfl ?_
          refine Ops.r (Run.mv rfl) rfl ?_
          refine Ops.r (Run.indexS k rfl rfl Try.underlying22 Try.sizeOf45 hkl) rfl ?_
          refine Ops.r (Run.fieldAddr rfl Try.underlying45 rfl Try.sizeOf43 (by decide)) rfl ?_
          refine Ops.st (Acts.storeOwn (k * 6 + 5) (by rw [← Go.Proofs.Ytmfglifjnoilnaa.add_add]; rfl) rfl Try.sizeOf43 hB9 rfl (by omega) rfl) ?_
          rintro w10 ⟨hB10, hf10, hs10⟩
          have hB10 := (MC_setF l k hkl C dC r) ▸ (show Own w10 45 6 (some ⟨gB, 0, none⟩) l.length dB ((MC l).set (k * 6 + 5) (.slice C r.length dC)) from hB10)
          have hownC10 := hownC9.frm hf10 (hownC9.ne_own hB9 (by decide))
          have hfr10 := hfr9.own hf10 (fun y hy => by simp [ob] at hy; omega)
          have hb410 := hb49.frm hf10 (hB9.ne_blk hb49 (by decide))
          have hb810 := hb89.frm hf10 (hB9.ne_blk hb89 (by decide))
          refine Ops.nil ?_
          refine thenQ_n ?_
          refine VC.sub [(4, _), (8, _)] (.cons rfl (.cons rfl .nil)) ?_
          refine VC.seq ?_
          refine VC.region ?_
          refine Ops.r (Run.loadA rfl Try.isAgg24 Try.sizeOf24 (fun j v hj => hb410.cells j v hj) (by first | rfl | (simp; done))) rfl ?_
          refine Ops.st (Acts.storeA rfl rfl Try.sizeOf24 hb810 rfl (BVc_one _ _ _ _ _)) ?_
          rintro w11 ⟨hb811, hf11, hs11⟩
          have hB11 := hB10.frm hf11 (fun y hy => by have := hB10.ne_blk hb810 (by decide); simp; rintro rfl; exact this hy)
          have hownC11 := hownC10.frm hf11 (fun y hy => by have := hownC10.ne_blk hb810 (by decide); simp; rintro rfl; exact this hy)
          have hfr11 := hfr10.own hf11 (fun y hy => by simp at hy; omega)
          refine Ops.r (v := .int .i64 ((0 : Nat) : Int)) (Run.asg rfl) rfl ?_
          refine Ops.nil ?_
          refine thenQ_n ?_
          refine VC.sub [(8, _), (9, _)] (.cons rfl (.cons rfl .nil)) ?_
          refine VC.ret ?_
          refine endR ?_
          refine res_cellA rfl Try.isAgg24 Try.sizeOf24 (fun j v hj => hb811.cells j v hj) (by first | rfl | (simp; done)) ?_
          refine res_tmp rfl ?_
          refine res_nil ?_
          refine ⟨hfr11, v, n, _, dB, l.set k ⟨{ (l[k]).m with flags := r }, C, dC⟩, 0, by rw [List.length_set]; rfl, ⟨by rw [List.length_set]; exact hB11.rd, fun y hy => ?_⟩, .inl ⟨rfl, ?_⟩⟩
          · rcases List.mem_or_eq_of_mem_set hy with h1 | h1
            · exact (hl.frm hfr11).fl y h1
            · subst h1; exact ⟨hownC11.rd, hrf.1, hrf.2⟩
          · rw [hcb, hco, Ms_set]

end Go.Proofs.Ytmfglifjnoilnaa
