/-
  The walk of box: a message's flags changed; a box at its beginning.
-/
import Derived.Test.YtmfglifjnoilnaaBoxE
namespace Go.Proofs.Ytmfglifjnoilnaa
open Go.RowKit Go.Sort

theorem changeF_check {l r more : List Tx} {op : Int} (h : changeF l op more = .ok r) : checkF r := by
  unfold changeF at h
  split at h
  · cases h
  · split at h
    · cases h
    · exact normF_check h
theorem check_fit {r : List Tx} (h : checkF r) : r.length ≤ 500000 ∧ ∀ q ∈ r, q.length ≤ 1000000 := by
  obtain ⟨_, h1, _, h2⟩ := checkF_facts h
  exact ⟨by omega, fun q hq => by have := (toldF_len (h2 q hq)).2; omega⟩
theorem MC_setF (l : List Mc) (k : Nat) (hk : k < l.length) (C : Option Addr) (dC : Nat) (r : List Tx) : (MC l).set (k * 6 + 5) (.slice C r.length dC) = MC (l.set k ⟨{ (l[k]).m with flags := r }, C, dC⟩) := by
  apply List.ext_getElem?
  intro j
  have hidx := fun l' => flat_idx Mc.cells 6 (by omega) Mc.cells_len l' j
  have hlen := MC_len l
  rw [show MC (l.set k ⟨{ (l[k]).m with flags := r }, C, dC⟩) = (l.set k ⟨{ (l[k]).m with flags := r }, C, dC⟩).flatMap Mc.cells from rfl, hidx, List.getElem?_set, List.getElem?_set]
  have hdm : j = j / 6 * 6 + j % 6 := by omega
  by_cases h2 : k * 6 + 5 = j
  · have h1 : k = j / 6 := by omega
    rw [if_pos h2, if_pos (by rw [hlen]; omega), if_pos h1, if_pos hk]
    have : j % 6 = 5 := by omega
    rw [this]
    rfl
  · rw [if_neg h2, show MC l = l.flatMap Mc.cells from rfl, hidx]
    by_cases h1 : k = j / 6
    · rw [if_pos h1, if_pos hk, ← h1, List.getElem?_eq_getElem hk]
      have : j % 6 = 0 ∨ j % 6 = 1 ∨ j % 6 = 2 ∨ j % 6 = 3 ∨ j % 6 = 4 := by omega
      rcases this with h | h | h | h | h <;> rw [h] <;> rfl
    · rw [if_neg h1]
theorem Ms_set (l : List Mc) (k : Nat) (x : Mc) : Ms (l.set k x) = (Ms l).set k x.m := by simp [Ms, List.map_set]

set_option maxRecDepth 100000 in
theorem change_spec (v n : Int) (A : Option Addr) (c : Nat) (l : List Mc) (pl op : Int) (F : Option Addr) (cf : Nat) (more : List Tx) (w : World) (hl : RdM w A l) (hmn : more.length ≤ 900000) (hmq : ∀ q ∈ more, q.length ≤ 1000000) (hmr : Rd w 1 F more.length (SB more)) :
    Calls Try.prog 19 #[.agg #[.int .i64 v, .int .i64 n, .slice A l.length c], .int .i64 pl, .int .i64 op, .slice F more.length cf] w fun e w' => Frm [] w w' ∧ ∃ v' n' B d l' k, e = .returned (.tuple #[.agg #[.int .i64 v', .int .i64 n', .slice B l'.length d], .int .i64 ((k : Nat) : Int)]) ∧ IsBx w' (changeB ⟨v, n, Ms l⟩ pl op more) v' n' B d l' k ∧ OwM w' B d l' := by
  refine VC.calls (nt := 57) (res := #[.cell 8 24, .tmp 9]) Try.func19 rfl Try.ntmps19 Try.results19 rfl ?_
  refine VC.seq ?_
  refine VC.region ?_
  refine Ops.m (Does.box rfl) rfl ?_
  rintro _ w1 ⟨rfl, hF4⟩
  have hb4 := hF4.blk
  have hf4 := hF4.frm
  have hs4 : w.heap.size ≤ w.heap.size := Nat.le_refl _
  generalize hg4 : w.heap.size = g4 at hb4 ⊢
  refine Ops.m (Does.alloc zero24) rfl ?_
  rintro _ w2 ⟨rfl, hF8⟩
  have hb8 := hF8.blk
  have hb4 := hb4.frm hF8.frm (by simp)
  have hf8 := hf4.trans hF8.frm (by simp)
  have hs8 : w.heap.size ≤ w1.heap.size := hf4.size
  generalize hg8 : w1.heap.size = g8 at hb8 hs8 ⊢
  have hn48 : g4 < g8 := by rw [← hg8, ← hg4]; have := hF4.size; omega
  refine Ops.r (v := .int .i64 ((0 : Nat) : Int)) (Run.asg rfl) rfl ?_
  refine Ops.nil ?_
  refine thenQ_n ?_
  refine VC.sub [(1, _), (2, _), (3, _), (4, _), (8, _)] (.cons rfl (.cons rfl (.cons rfl (.cons rfl (.cons rfl .nil))))) ?_
  refine VC.seq ?_
  refine VC.block ?_
  refine VC.seq ?_
  refine VC.region ?_
  refine Ops.r (Run.loadA rfl Try.isAgg24 Try.sizeOf24 (fun j v hj => hb4.cells j v hj) (by first | rfl | (simp; done))) rfl ?_
  refine Ops.cl (Enters.fn (evs.cons rfl evs.nil) Try.call17) (may_spec v n A c l _ (hl.frm hf8)) rfl ?_
  rintro e w5 ⟨rfl, hf5⟩
  refine ⟨_, rfl, ?_⟩
  have hfr5 := hf8.trans hf5 (by simp)
  have hb4 := hb4.frm hf5 (by simp)
  have hb8 := hb8.frm hf5 (by simp)
  refine Ops.r (Run.not rfl) rfl ?_
  refine Ops.r (Run.asg rfl) rfl ?_
  refine Ops.nil ?_
  refine thenQ_n ?_
  refine VC.sub [(1, _), (2, _), (3, _), (4, _), (8, _), (12, _)] (.cons rfl (.cons rfl (.cons rfl (.cons rfl (.cons rfl (.cons rfl .nil)))))) ?_
  refine VC.condB rfl (fun hc1 => ?_) (fun hc1 => ?_)
  · skip
    have hm : ¬ mayB ⟨v, n, Ms l⟩ := by simpa using hc1
    refine VC.seq ?_
    refine VC.region ?_
    refine Ops.r (Run.build evs.nil zero24 (places24).choose_spec.1 (places24).choose_spec.2 rfl) rfl ?_
    refine Ops.st (Acts.storeA rfl rfl Try.sizeOf24 hb8 rfl (BVc_one 0 0 none 0 0)) ?_
    rintro w6 ⟨hbz, hfz, hsz⟩
    refine Ops.r (v := .int .i64 ((1 : Nat) : Int)) (Run.asg rfl) rfl ?_
    refine Ops.nil ?_
    refine thenQ_n ?_
    refine VC.sub [(8, _), (9, _)] (.cons rfl (.cons rfl .nil)) ?_
    refine VC.ret ?_
    refine blockQ_r (thenQ_r (endR ?_))
    refine res_cellA rfl Try.isAgg24 Try.sizeOf24 (fun j v hj => hbz.cells j v hj) (by first | rfl | (simp; done)) ?_
    refine res_tmp rfl ?_
    refine res_nil ?_
    exact ⟨hfr5.own hfz (fun y hy => by simp at hy; omega), 0, 0, none, 0, [], 1, rfl, IsBx.err (by decide) (by unfold changeB; rw [if_pos hm]), OwM.nil _⟩
  · skip
    have hm : mayB ⟨v, n, Ms l⟩ := by simpa using hc1
    have hl128 := (may_at hm).1.2.2.2.2
    have hmsl : (Ms l).length = l.length := by simp [Ms]
    refine VC.seq ?_
    refine VC.split1 [(1, _), (2, _), (3, _), (4, _), (8, _)] (.cons rfl (.cons rfl (.cons rfl (.cons rfl (.cons rfl .nil))))) 17 (.bool (decide (pl < 1 ∨ ((l.length : Nat) : Int) < pl))) ?_ ?_
    · refine VC.region ?_
      refine Ops.r (Run.mv rfl) rfl ?_
      refine Ops.r (Run.bin rfl rfl (Bin.lss _ 1)) rfl ?_
      by_cases hs19 : pl < 1
      · skip
        refine Ops.r (Run.mv rfl) rfl ?_
        refine Ops.sk rfl (by first | rfl | assumption | exact decide_eq_true (by assumption) | exact decide_eq_false (by assumption) | decide | (simp; done) | (simp; omega) | (simp [*]; done)) rfl ?_
        refine Ops.sk rfl (by first | rfl | assumption | exact decide_eq_true (by assumption) | exact decide_eq_false (by assumption) | decide | (simp; done) | (simp; omega) | (simp [*]; done)) rfl ?_
        refine Ops.sk rfl (by first | rfl | assumption | exact decide_eq_true (by assumption) | exact decide_eq_false (by assumption) | decide | (simp; done) | (simp; omega) | (simp [*]; done)) rfl ?_
        refine Ops.sk rfl (by first | rfl | assumption | exact decide_eq_true (by assumption) | exact decide_eq_false (by assumption) | decide | (simp; done) | (simp; omega) | (simp [*]; done)) rfl ?_
        refine Ops.sk rfl (by first | rfl | assumption | exact decide_eq_true (by assumption) | exact decide_eq_false (by assumption) | decide | (simp; done) | (simp; omega) | (simp [*]; done)) rfl ?_
        refine Ops.r (Run.pickT rfl rfl (by first | rfl | assumption | exact decide_eq_true (by assumption) | exact decide_eq_false (by assumption) | decide | (simp; done) | (simp; omega) | (simp [*]; done))) rfl ?_
        refine Ops.r (Run.asg rfl) rfl ?_
        refine Ops.nil ?_
        refine thenQ_n ⟨(.cons (congrArg (fun b => some (Value.bool b)) (Eq.symm (by simp [*]))) (.cons rfl (.cons rfl (.cons rfl (.cons rfl (.cons rfl .nil)))))), rfl⟩
      · skip
        refine Ops.r (Run.mv rfl) rfl ?_
        refine Ops.rg rfl (by first | rfl | assumption | exact decide_eq_true (by assumption) | exact decide_eq_false (by assumption) | decide | (simp; done) | (simp; omega) | (simp [*]; done)) (Run.mv rfl) rfl ?_
        refine Ops.rg rfl (by first | rfl | assumption | exact decide_eq_true (by assumption) | exact decide_eq_false (by assumption) | decide | (simp; done) | (simp; omega) | (simp [*]; done)) (Run.fieldAddr rfl Try.underlying24 rfl Try.sizeOf22 (by decide)) rfl ?_
        refine Ops.rg rfl (by first | rfl | assumption | exact decide_eq_true (by assumption) | exact decide_eq_false (by assumption) | decide | (simp; done) | (simp; omega) | (simp [*]; done)) (Run.load rfl Try.isAgg22 (hb4.cell 2)) rfl ?_
        refine Ops.rg rfl (by first | rfl | assumption | exact decide_eq_true (by assumption) | exact decide_eq_false (by assumption) | decide | (simp; done) | (simp; omega) | (simp [*]; done)) (Run.lenS rfl Try.underlying22) rfl ?_
        refine Ops.rg rfl (by first | rfl | assumption | exact decide_eq_true (by assumption) | exact decide_eq_false (by assumption) | decide | (simp; done) | (simp; omega) | (simp [*]; done)) (Run.bin rfl rfl (Bin.gtr _ _)) rfl ?_
        by_cases hs25 : ((l.length : Nat) : Int) < pl
        · skip
          refine Ops.r (Run.pickF rfl rfl (by first | rfl | assumption | exact decide_eq_true (by assumption) | exact decide_eq_false (by assumption) | decide | (simp; done) | (simp; omega) | (simp [*]; done))) rfl ?_
          refine Ops.r (Run.asg rfl) rfl ?_
          refine Ops.nil ?_
          refine thenQ_n ⟨(.cons (congrArg (fun b => some (Value.bool b)) (Eq.symm (by simp [*]))) (.cons rfl (.cons rfl (.cons rfl (.cons rfl (.cons rfl .nil)))))), rfl⟩
        · skip
          refine Ops.r (Run.pickF rfl rfl (by first | rfl | assumption | exact decide_eq_true (by assumption) | exact decide_eq_false (by assumption) | decide | (simp; done) | (simp; omega) | (simp [*]; done))) rfl ?_
          refine Ops.r (Run.asg rfl) rfl ?_
          refine Ops.nil ?_
          refine thenQ_n ⟨(.cons (congrArg (fun b => some (Value.bool b)) (Eq.symm (by simp [*]))) (.cons rfl (.cons rfl (.cons rfl (.cons rfl (.cons rfl .nil)))))), rfl⟩
    · intro Γ hΓ
      refine thenQ_n (VC.sub _ hΓ ?_)
      refine VC.condD rfl (fun hc2 => ?_) (fun hc2 => ?_)
      · skip
        refine VC.seq ?_
        refine VC.region ?_
        refine Ops.r (Run.build evs.nil zero24 (places24).choose_spec.1 (places24).choose_spec.2 rfl) rfl ?_
        refine Ops.st (Acts.storeA rfl rfl Try.sizeOf24 hb8 rfl (BVc_one 0 0 none 0 0)) ?_
        rintro w6 ⟨hbz, hfz, hsz⟩
        refine Ops.r (v := .int .i64 ((4 : Nat) : Int)) (Run.asg rfl) rfl ?_
        refine Ops.nil ?_
        refine thenQ_n ?_
        refine VC.sub [(8, _), (9, _)] (.cons rfl (.cons rfl .nil)) ?_
        refine VC.ret ?_
        refine blockQ_r (thenQ_r (endR ?_))
        refine res_cellA rfl Try.isAgg24 Try.sizeOf24 (fun j v hj => hbz.cells j v hj) (by first | rfl | (simp; done)) ?_
        refine res_tmp rfl ?_
        refine res_nil ?_
        refine ⟨hfr5.own hfz (fun y hy => by simp at hy; omega), 0, 0, none, 0, [], 4, rfl, IsBx.err (by decide) ?_, OwM.nil _⟩
        unfold changeB
        rw [if_neg (fun h => h hm), if_pos (by dsimp only; omega)]
      · skip
        obtain ⟨k, rfl⟩ : ∃ k : Nat, pl = ((k + 1 : Nat) : Int) := ⟨(pl - 1).toNat, by omega⟩
        have hkl : k < l.length := by omega
        obtain ⟨ad, rfl, hcell⟩ := (hl.frm hfr5).elem hkl
        have hxa := (hl.frm hfr5).fl (l[k]) (List.getElem_mem hkl)
        have hkk : (((k + 1 : Nat) : Int) - 1).toNat = k := by omega
        have hMk : (Ms l)[k]? = some (l[k]).m := by simp [Ms, List.getElem?_eq_getElem hkl]
        have hcb : changeB ⟨v, n, Ms l⟩ ((k + 1 : Nat) : Int) op more = match changeF (l[k]).m.flags op more with
            | .error e => .error e
            | .ok r => .ok ⟨v, n, (Ms l).set k { (l[k]).m with flags := r }⟩ := by
          unfold changeB
          rw [if_neg (fun h => h hm), if_neg (by dsimp only; omega)]
          dsimp only
          rw [hkk, hMk]
          rfl
        refine VC.skip ?_
        refine blockQ_n (thenQ_n ?_)
        refine VC.sub [(1, _), (2, _), (3, _), (4, _), (8, _)] (.cons rfl (.cons rfl (.cons rfl (.cons rfl (.cons rfl .nil))))) ?_
        refine VC.seq ?_
        refine VC.region ?_
        refine Ops.r (Run.fieldAddr rfl Try.underlying24 rfl Try.sizeOf22 (by decide)) rfl ?_
        refine Ops.r (Run.load rfl Try.isAgg22 (hb4.cell 2)) rfl ?_
        refine Ops.r (Run.mv rfl) rfl ?_
        refine Ops.r (Run.bin rfl rfl (Bin.sub_i64 _ 1 (by omega) (by omega))) rfl ?_
        refine Ops.r (Run.indexS k rfl rfl Try.underlying22 Try.sizeOf45 hkl) rfl ?_
        refine Ops.r (Run.fieldAddr rfl Try.underlying45 rfl Try.sizeOf43 (by decide)) rfl ?_
        refine Ops.r (Run.load rfl Try.isAgg43 (hcell 5 _ rfl)) rfl ?_
        refine Ops.r (Run.mv rfl) rfl ?_
        refine Ops.r (Run.mv rfl) rfl ?_
        refine Ops.cl (Enters.fn (evs.cons rfl (evs.cons rfl (evs.cons rfl evs.nil))) Try.call38) (fchange_spec (l[k]).A (l[k]).c (l[k]).m.flags op F cf more _ (by have := hxa.n; omega) hxa.q hxa.rd hmn hmq (hmr.frm hfr5 (by simp))) rfl ?_
        rintro e w6 ⟨hf6, C, dC, r, k2, rfl, hownC, hgeC, hN⟩
        refine ⟨_, rfl, ?_⟩
        have hfr6 := hfr5.trans hf6 (by simp)
        have hb4 := hb4.frm hf6 (by simp)
        have hb8 := hb8.frm hf6 (by simp)
        refine Ops.r (Run.mv rfl) rfl ?_
        refine Ops.r (Run.extract rfl rfl) rfl ?_
        refine Ops.r (Run.extract rfl rfl) rfl ?_
        refine Ops.r (Run.asg rfl) rfl ?_
        refine Ops.r (Run.asg rfl) rfl ?_
        refine Ops.nil ?_
        refine thenQ_n ?_
        refine VC.sub [(1, _), (4, _), (8, _), (10, _), (11, _)] (.cons rfl (.cons rfl (.cons rfl (.cons rfl (.cons rfl .nil))))) ?_
        refine VC.seq ?_
        refine VC.seq ?_
        refine VC.region ?_
        refine Ops.r (Run.mv rfl) rfl ?_
        refine Ops.r (Run.bin rfl rfl (Bin.neqN _ 0)) rfl ?_
        refine Ops.nil ?_
        refine thenQ_n ?_
        refine VC.sub [(1, _), (4, _), (8, _), (10, _), (11, _), (42, _)] (.cons rfl (.cons rfl (.cons rfl (.cons rfl (.cons rfl (.cons rfl .nil)))))) ?_
        refine VC.condD rfl (fun hc3 => ?_) (fun hc3 => ?_)
        · skip
          have hce : changeF (l[k]).m.flags op more = .error k2 := by
            rcases hN with ⟨h1, _⟩ | ⟨_, _, h3⟩
            · exact absurd h1 hc3
            · exact h3
          refine VC.seq ?_
          refine VC.region ?_
          refine Ops.r (Run.build evs.nil zero24 (places24).choose_spec.1 (places24).choose_spec.2 rfl) rfl ?_
          refine Ops.r (Run.mv rfl) rfl ?_
          refine Ops.st (Acts.storeA rfl rfl Try.sizeOf24 hb8 rfl (BVc_one 0 0 none 0 0)) ?_
          rintro w7 ⟨hbz, hfz, hsz⟩
          refine Ops.r (Run.asg rfl) rfl ?_
          refine Ops.nil ?_
          refine thenQ_n ?_
          refine VC.sub [(8, _), (9, _)] (.cons rfl (.cons rfl .nil)) ?_
          refine VC.ret ?_
          refine thenQ_r (endR ?_)
          refine res_cellA rfl Try.isAgg24 Try.sizeOf24 (fun j v hj => hbz.cells j v hj) (by first | rfl | (simp; done)) ?_
          refine res_tmp rfl ?_
          refine res_nil ?_
          exact ⟨hfr6.own hfz (fun y hy => by simp at hy; omega), 0, 0, none, 0, [], k2, rfl, IsBx.err hc3 (by rw [hcb, hce]), OwM.nil _⟩
        · skip
          have hk0 : k2 = 0 := Classical.not_not.1 hc3
          have hco : changeF (l[k]).m.flags op more = .ok r := by
            rcases hN with ⟨_, h2⟩ | ⟨h1, _⟩
            · exact h2
            · exact absurd hk0 h1
          have hrf := check_fit (changeF_check hco)
          refine VC.skip ?_
          refine thenQ_n ?_
          refine VC.sub [(1, _), (4, _), (8, _), (10, _)] (.cons rfl (.cons rfl (.cons rfl (.cons rfl .nil)))) ?_
          refine VC.seq ?_
          refine VC.region ?_
          refine Ops.r (Run.fieldAddr rfl Try.underlying24 rfl Try.sizeOf22 (by decide)) rfl ?_
          refine Ops.r (Run.load rfl Try.isAgg22 (hb4.cell 2)) rfl ?_
          refine Ops.cl (Enters.fn (evs.cons rfl evs.nil) Try.call30) (all_spec (some ad) c l _ (hl.frm hfr6) (by omega)) rfl ?_
          rintro e w7 ⟨B, dB, lc, rfl, hMc, hmsc, hgeB, hf7⟩
          refine ⟨_, rfl, ?_⟩
          have hfr7 := hfr6.trans hf7 (by simp)
          have hb4 := hb4.frm hf7 (by simp)
          have hb8 := hb8.frm hf7 (by simp)
          have hownC7 := hownC.frm hf7 (by simp)
          have hlc : lc.length = l.length := by have := congrArg List.length hmsc; simpa [Ms] using this
          have hkc : k < lc.length := by omega
          have hlk : (lc[k]).m = (l[k]).m := by
            have h1 : (Ms lc)[k]? = (Ms l)[k]? := by rw [hmsc]
            simpa [Ms, List.getElem?_eq_getElem hkc, List.getElem?_eq_getElem hkl] using h1
          refine Ops.r (Run.fieldAddr rfl Try.underlying24 rfl Try.sizeOf22 (by decide)) rfl ?_
          refine Ops.st (Acts.store rfl rfl Try.sizeOf22 hb4 rfl rfl) ?_
          rintro w8 ⟨hb48, hf88, hs88⟩
          have hb48 : Blk w8 g4 24 (BVc v n B lc.length dB).toArray := hb48
          have hb88 := hb8.frm hf88 (by simp; omega)
          have hM8 := hMc.blk hf88 hb4 (by decide) (by decide)
          have hownC8 := hownC7.frm hf88 (fun y hy => by have := hownC7.ne_blk hb4 (by decide); simp; rintro rfl; exact this hy)
          have hfr8 := hfr7.own hf88 (fun y hy => by simp at hy; omega)
          obtain ⟨gB, rfl⟩ : ∃ g, B = some ⟨g, 0, none⟩ := by
            rcases hM8.own.cases with ⟨_, h0, _⟩ | ⟨g, _, h0, _⟩
            · omega
            · exact ⟨g, h0⟩
          refine Ops.nil ?_
          refine thenQ_n ?_
          refine VC.sub [(1, _), (4, _), (8, _), (10, _)] (.cons rfl (.cons rfl (.cons rfl (.cons rfl .nil)))) ?_
          refine VC.seq ?_
          refine VC.region ?_
          refine Ops.r (Run.fieldAddr rfl Try.underlying24 rfl Try.sizeOf22 (by decide)) rfl ?_
          refine Ops.r (Run.load rfl Try.isAgg22 (hb48.cell 2)) rfl ?_
          refine Ops.r (Run.mv rfl) rfl ?_
          refine Ops.r (Run.bin rfl rfl (Bin.sub_i64 _ 1 (by omega) (by omega))) rfl ?_
          refine Ops.r (Run.mv rfl) rfl ?_
          refine Ops.r (Run.indexS k rfl rfl Try.underlying22 Try.sizeOf45 hkc) rfl ?_
          refine Ops.r (Run.fieldAddr rfl Try.underlying45 rfl Try.sizeOf43 (by decide)) rfl ?_
          refine Ops.st (Acts.storeOwn (k * 6 + 5) (by rw [← Go.Proofs.Ytmfglifjnoilnaa.add_add]; rfl) rfl Try.sizeOf43 hM8.own rfl (by omega) rfl) ?_
          rintro w9 ⟨hown9, hf9, hs9⟩
          have hown9 := (MC_setF lc k hkc C dC r) ▸ (show Own w9 45 6 (some ⟨gB, 0, none⟩) lc.length dB ((MC lc).set (k * 6 + 5) (.slice C r.length dC)) from hown9)
          have hM9 := hM8.set (x := ⟨{ (lc[k]).m with flags := r }, C, dC⟩) hown9 hf9 hownC8 hrf
          have hgB : w.heap.size ≤ gB := Nat.le_trans hfr6.size (hgeB gB (by simp [ob]))
          have hfr9 := hfr8.own hf9 (fun y hy => by simp [ob] at hy; omega)
          have hb49 := hb48.frm hf9 (hM8.own.ne_blk hb48 (by decide))
          have hb89 := hb88.frm hf9 (hM8.own.ne_blk hb88 (by decide))
          refine Ops.nil ?_
          refine thenQ_n ?_
          refine VC.sub [(4, _), (8, _)] (.cons rfl (.cons rfl .nil)) ?_
          refine VC.seq ?_
          refine VC.region ?_
          refine Ops.r (Run.loadA rfl Try.isAgg24 Try.sizeOf24 (fun j v hj => hb49.cells j v hj) (by first | rfl | (simp; done))) rfl ?_
          refine Ops.st (Acts.storeA rfl rfl Try.sizeOf24 hb89 rfl (BVc_one _ _ _ _ _)) ?_
          rintro w10 ⟨hb810, hf10, hs10⟩
          have hM10 := hM9.blk hf10 hb89 (by decide) (by decide)
          have hfr10 := hfr9.own hf10 (fun y hy => by simp at hy; omega)
          refine Ops.r (v := .int .i64 ((0 : Nat) : Int)) (Run.asg rfl) rfl ?_
          refine Ops.nil ?_
          refine thenQ_n ?_
          refine VC.sub [(8, _), (9, _)] (.cons rfl (.cons rfl .nil)) ?_
          refine VC.ret ?_
          refine endR ?_
          refine res_cellA rfl Try.isAgg24 Try.sizeOf24 (fun j v hj => hb810.cells j v hj) (by first | rfl | (simp; done)) ?_
          refine res_tmp rfl ?_
          refine res_nil ?_
          refine ⟨hfr10, v, n, _, dB, lc.set k ⟨{ (lc[k]).m with flags := r }, C, dC⟩, 0, by rw [List.length_set]; rfl, ⟨hM10.rdm, .inl ⟨rfl, ?_⟩⟩, hM10⟩
          rw [hcb, hco, Ms_set, hmsc, hlk]

set_option maxRecDepth 100000 in
theorem new_spec (v : Int) (w : World) : Calls Try.prog 24 #[.int .i64 v] w fun e w' => Frm [] w w' ∧ ((mayB ⟨v, 1, []⟩ ∧ e = .returned (.tuple #[.agg #[.int .i64 v, .int .i64 1, .slice none 0 0], .int .i64 0])) ∨ (¬ mayB ⟨v, 1, []⟩ ∧ e = .returned (.tuple #[.agg #[.int .i64 0, .int .i64 0, .slice none 0 0], .int .i64 1]))) := by
  refine VC.calls (nt := 12) (res := #[.cell 2 24, .tmp 3]) Try.func24 rfl Try.ntmps24 Try.results24 rfl ?_
  refine VC.seq ?_
  refine VC.region ?_
  refine Ops.m (Does.alloc zero24) rfl ?_
  rintro _ w1 ⟨rfl, hF2⟩
  have hb2 := hF2.blk
  have hf2 := hF2.frm
  have hs2 : w.heap.size ≤ w.heap.size := Nat.le_refl _
  generalize hg2 : w.heap.size = g2 at hb2 ⊢
  refine Ops.r (v := .int .i64 ((0 : Nat) : Int)) (Run.asg rfl) rfl ?_
  refine Ops.nil ?_
  refine thenQ_n ?_
  refine VC.sub [(0, _), (2, _)] (.cons rfl (.cons rfl .nil)) ?_
  refine VC.seq ?_
  refine VC.region ?_
  refine Ops.r (Run.mv rfl) rfl ?_
  refine Ops.r (Run.build (evs.cons rfl (evs.cons rfl evs.nil)) zero24 (places24).choose_spec.1 (places24).choose_spec.2 rfl) rfl ?_
  refine Ops.m (Does.alloc zero24) rfl ?_
  rintro _ w2 ⟨rfl, hF4⟩
  have hb4 := hF4.blk
  have hb2 := hb2.frm hF4.frm (by simp)
  have hf4 := hf2.trans hF4.frm (by simp)
  have hs4 : w.heap.size ≤ w1.heap.size := hf2.size
  generalize hg4 : w1.heap.size = g4 at hb4 hs4 ⊢
  have hn24 : g2 < g4 := by rw [← hg4, ← hg2]; have := hF2.size; omega
  refine Ops.st (Acts.storeA rfl rfl Try.sizeOf24 hb4 rfl (BVc_one v 1 none 0 0)) ?_
  rintro w3 ⟨hb43, hf3, hs3⟩
  have hb23 := hb2.frm hf3 (by simp; omega)
  have hfr3 := hf4.own hf3 (fun y hy => by simp at hy; omega)
  refine Ops.nil ?_
  refine thenQ_n ?_
  refine VC.sub [(2, _), (4, _)] (.cons rfl (.cons rfl .nil)) ?_
  refine VC.seq ?_
  refine VC.seq ?_
  refine VC.region ?_
  refine Ops.r (Run.loadA rfl Try.isAgg24 Try.sizeOf24 (fun j v hj => hb43.cells j v hj) (by first | rfl | (simp; done))) rfl ?_
  refine Ops.cl (Enters.fn (evs.cons rfl evs.nil) Try.call17) (may_spec v 1 none 0 [] _ (RdM.nil _ _)) rfl ?_
  rintro e w4 ⟨rfl, hf5⟩
  refine ⟨_, rfl, ?_⟩
  have hfr5 := hfr3.trans hf5 (by simp)
  have hb25 := hb23.frm hf5 (by simp)
  have hb45 := hb43.frm hf5 (by simp)
  refine Ops.r (Run.not rfl) rfl ?_
  refine Ops.nil ?_
  refine thenQ_n ?_
  refine VC.sub [(2, _), (4, _), (9, _)] (.cons rfl (.cons rfl (.cons rfl .nil))) ?_
  refine VC.condB rfl (fun hc1 => ?_) (fun hc1 => ?_)
  · skip
    have hm : ¬ mayB ⟨v, 1, []⟩ := by simpa [Ms] using hc1
    refine VC.seq ?_
    refine VC.region ?_
    refine Ops.r (Run.build evs.nil zero24 (places24).choose_spec.1 (places24).choose_spec.2 rfl) rfl ?_
    refine Ops.st (Acts.storeA rfl rfl Try.sizeOf24 hb25 rfl (BVc_one 0 0 none 0 0)) ?_
    rintro w6 ⟨hbz, hfz, hsz⟩
    refine Ops.r (v := .int .i64 ((1 : Nat) : Int)) (Run.asg rfl) rfl ?_
    refine Ops.nil ?_
    refine thenQ_n ?_
    refine VC.sub [(2, _), (3, _)] (.cons rfl (.cons rfl .nil)) ?_
    refine VC.ret ?_
    refine thenQ_r (endR ?_)
    refine res_cellA rfl Try.isAgg24 Try.sizeOf24 (fun j v hj => hbz.cells j v hj) (by first | rfl | (simp; done)) ?_
    refine res_tmp rfl ?_
    refine res_nil ?_
    exact ⟨hfr5.own hfz (fun y hy => by simp at hy; omega), .inr ⟨hm, rfl⟩⟩
  · skip
    have hm : mayB ⟨v, 1, []⟩ := by simpa [Ms] using hc1
    refine VC.skip ?_
    refine thenQ_n ?_
    refine VC.sub [(2, _), (4, _)] (.cons rfl (.cons rfl .nil)) ?_
    refine VC.seq ?_
    refine VC.region ?_
    refine Ops.r (Run.loadA rfl Try.isAgg24 Try.sizeOf24 (fun j v hj => hb45.cells j v hj) (by first | rfl | (simp; done))) rfl ?_
    refine Ops.st (Acts.storeA rfl rfl Try.sizeOf24 hb25 rfl (BVc_one v 1 none 0 0)) ?_
    rintro w6 ⟨hbz, hfz, hsz⟩
    refine Ops.r (v := .int .i64 ((0 : Nat) : Int)) (Run.asg rfl) rfl ?_
    refine Ops.nil ?_
    refine thenQ_n ?_
    refine VC.sub [(2, _), (3, _)] (.cons rfl (.cons rfl .nil)) ?_
    refine VC.ret ?_
    refine endR ?_
    refine res_cellA rfl Try.isAgg24 Try.sizeOf24 (fun j v hj => hbz.cells j v hj) (by first | rfl | (simp; done)) ?_
    refine res_tmp rfl ?_
    refine res_nil ?_
    exact ⟨hfr5.own hfz (fun y hy => by simp at hy; omega), .inl ⟨hm, rfl⟩⟩

end Go.Proofs.Ytmfglifjnoilnaa
