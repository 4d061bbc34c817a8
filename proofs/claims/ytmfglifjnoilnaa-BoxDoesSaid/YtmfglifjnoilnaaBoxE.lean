/-
  The walk of box: those that go.
-/
import Derived.Test.YtmfglifjnoilnaaBoxS
namespace Go.Proofs.Ytmfglifjnoilnaa
open Go.RowKit Go.Sort

set_option maxRecDepth 100000 in
theorem expC_spec (x : Mc) (every : Bool) (O : Option Addr) (co g4 g5 : Nat) (only : List Int) (w : World) (hx : x.At w) (ho : Rd w 1 O only.length (IB only)) (hon : only.length ≤ 1000000) (hb4 : Blk w g4 4 #[.bool every]) (hb5 : Blk w g5 25 #[.slice O only.length co]) :
    Calls Try.prog 31 #[.agg x.cells.toArray, .pointer (some ⟨g4, 0, none⟩), .pointer (some ⟨g5, 0, none⟩)] w fun e w' => e = .returned (.bool (goesQ every only x.m)) ∧ Frm [] w w' := by
  refine VC.calls (nt := 9) (res := #[.tmp 4]) Try.func31 rfl Try.ntmps31 Try.results31 rfl ?_
  refine VC.seq ?_
  refine VC.region ?_
  refine Ops.m (Does.box rfl) rfl ?_
  rintro _ w1 ⟨rfl, hF1⟩
  have hb1 := hF1.blk
  have hf1 := hF1.frm
  generalize hg1 : w.heap.size = g1 at *
  refine Ops.r (Run.asg rfl) rfl ?_
  refine Ops.nil ?_
  refine thenQ_n ?_
  refine VC.sub [(1, _), (2, _), (3, _)] (.cons rfl (.cons rfl (.cons rfl .nil))) ?_
  refine VC.seq ?_
  refine VC.region ?_
  refine Ops.r (Run.loadA rfl Try.isAgg45 Try.sizeOf45 (fun j v hj => hb1.cells j v hj) (by first | rfl | (simp; done))) rfl ?_
  refine Ops.r (Run.load rfl Try.isAgg4 ((hb4.frm hf1 (by simp)).cell 0)) rfl ?_
  refine Ops.r (Run.load rfl Try.isAgg25 ((hb5.frm hf1 (by simp)).cell 0)) rfl ?_
  refine Ops.cl (Enters.fn (evs.cons rfl (evs.cons rfl (evs.cons rfl evs.nil))) Try.call32) (goes_spec x every O co only _ (hx.frm hf1 (by simp)) (ho.frm hf1 (by simp)) hon) rfl ?_
  rintro e w2 ⟨rfl, hf2⟩
  refine ⟨_, rfl, ?_⟩
  refine Ops.r (Run.asg rfl) rfl ?_
  refine Ops.nil ?_
  refine thenQ_n ?_
  refine VC.sub [(4, _)] (.cons rfl .nil) ?_
  refine VC.ret ?_
  refine end1 rfl ?_
  exact ⟨rfl, hf1.trans hf2 (by simp)⟩

theorem Ms_filter (p : MsgP → Bool) (l : List Mc) : Ms (l.filter fun x => !p x.m) = (Ms l).filter fun m => !p m := by
  unfold Ms
  rw [List.filter_map]
  rfl
theorem take_snocN {l : List Nat} {i : Nat} (h : i < l.length) : l.take (i + 1) = l.take i ++ [l[i]] := by
  rw [List.take_add_one, List.getElem?_eq_getElem h]; rfl
theorem shift_len : ∀ (l : List Nat) (k : Nat), (shiftP k l).length = l.length
  | [], k => rfl
  | a :: r, k => by simp [shiftP, shift_len r (k + 1)]
theorem hrdU {w w' : World} {t : TypeId} {z : Nat} (h : Fresh w w' t #[.int .u64 ((z : Nat) : Int)]) : Rd w' 1 (some ⟨w.heap.size, 0, none⟩) 1 (UBl [z]) := Rd.of_blk (n := 1) (size := 1) h.blk rfl
theorem hrdN {w w' : World} {t : TypeId} {z : Nat} (h : Fresh w w' t #[.int .i64 ((z : Nat) : Int)]) : Rd w' 1 (some ⟨w.heap.size, 0, none⟩) 1 (NI [z]) := Rd.of_blk (n := 1) (size := 1) h.blk rfl
theorem NI_one (l : List Nat) : ∀ u ∈ NI l, u.oneCell' = true := IB_one _

set_option maxRecDepth 100000 in
theorem expunge_spec (v n : Int) (A : Option Addr) (c : Nat) (l : List Mc) (every : Bool) (O : Option Addr) (co : Nat) (only : List Int) (w : World) (hl : RdM w A l) (ho : Rd w 1 O only.length (IB only)) (hon : only.length ≤ 1000000) :
    Calls Try.prog 9 #[.agg #[.int .i64 v, .int .i64 n, .slice A l.length c], .bool every, .slice O only.length co] w fun e w' => Frm [] w w' ∧ ∃ v' n' B d l' P dP ps D dD bs k, e = .returned (.tuple #[.agg #[.int .i64 v', .int .i64 n', .slice B l'.length d], .slice P ps.length dP, .slice D bs.length dD, .int .i64 ((k : Nat) : Int)]) ∧
      OwM w' B d l' ∧ Own w' 3 1 P ps.length dP (NI ps) ∧ Own w' 38 1 D bs.length dD (UBl bs) ∧ ((¬ mayB ⟨v, n, Ms l⟩ ∧ k = 1 ∧ v' = 0 ∧ n' = 0 ∧ l' = [] ∧ ps = [] ∧ bs = []) ∨
        (mayB ⟨v, n, Ms l⟩ ∧ k = 0 ∧ v' = v ∧ n' = n ∧ Ms l' = (Ms l).filter (fun m => !goesQ every only m) ∧ ps = shiftP 0 (marksQ (goesQ every only) 0 (Ms l)) ∧ bs = blobsP (Ms l) (marksQ (goesQ every only) 0 (Ms l)))) := by
  refine VC.calls (nt := 54) (res := #[.cell 6 24, .tmp 7, .tmp 8, .tmp 9]) Try.func9 rfl Try.ntmps9 Try.results9 rfl ?_
  refine VC.seq ?_
  refine VC.region ?_
  refine Ops.m (Does.box rfl) rfl ?_
  rintro _ w1 ⟨rfl, hF3⟩
  have hb3 := hF3.blk
  have hf3 := hF3.frm
  have hs3 : w.heap.size ≤ w.heap.size := Nat.le_refl _
  generalize hg3 : w.heap.size = g3 at hb3 ⊢
  refine Ops.m (Does.box rfl) rfl ?_
  rintro _ w2 ⟨rfl, hF4⟩
  have hb4 := hF4.blk
  have hb3 := hb3.frm hF4.frm (by simp)
  have hf4 := hf3.trans hF4.frm (by simp)
  have hs4 : w.heap.size ≤ w1.heap.size := hf3.size
  generalize hg4 : w1.heap.size = g4 at hb4 hs4 ⊢
  have hn34 : g3 < g4 := by rw [← hg4, ← hg3]; have := hF3.size; omega
  refine Ops.m (Does.box rfl) rfl ?_
  rintro _ w3 ⟨rfl, hF5⟩
  have hb5 := hF5.blk
  have hb3 := hb3.frm hF5.frm (by simp)
  have hb4 := hb4.frm hF5.frm (by simp)
  have hf5 := hf4.trans hF5.frm (by simp)
  have hs5 : w.heap.size ≤ w2.heap.size := hf4.size
  generalize hg5 : w2.heap.size = g5 at hb5 hs5 ⊢
  have hn45 : g4 < g5 := by rw [← hg5, ← hg4]; have := hF4.size; omega
  refine Ops.m (Does.alloc zero24) rfl ?_
  rintro _ w4 ⟨rfl, hF6⟩
  have hb6 := hF6.blk
  have hb3 := hb3.frm hF6.frm (by simp)
  have hb4 := hb4.frm hF6.frm (by simp)
  have hb5 := hb5.frm hF6.frm (by simp)
  have hf6 := hf5.trans hF6.frm (by simp)
  have hs6 : w.heap.size ≤ w3.heap.size := hf5.size
  generalize hg6 : w3.heap.size = g6 at hb6 hs6 ⊢
  have hn56 : g5 < g6 := by rw [← hg6, ← hg5]; have := hF5.size; omega
  refine Ops.r (Run.asg rfl) rfl ?_
  refine Ops.r (Run.asg rfl) rfl ?_
  refine Ops.r (v := .int .i64 ((0 : Nat) : Int)) (Run.asg rfl) rfl ?_
  refine Ops.nil ?_
  refine thenQ_n ?_
  refine VC.sub [(3, _), (4, _), (5, _), (6, _)] (.cons rfl (.cons rfl (.cons rfl (.cons rfl .nil)))) ?_
  refine VC.seq ?_
  refine VC.seq ?_
  refine VC.region ?_
  refine Ops.r (Run.loadA rfl Try.isAgg24 Try.sizeOf24 (fun j v hj => hb3.cells j v hj) (by first | rfl | (simp; done))) rfl ?_
  refine Ops.cl (Enters.fn (evs.cons rfl evs.nil) Try.call17) (may_spec v n A c l _ (hl.frm hf6)) rfl ?_
  rintro e w5 ⟨rfl, hf7⟩
  refine ⟨_, rfl, ?_⟩
  have hfr5 := hf6.trans hf7 (by simp)
  have hb3 := hb3.frm hf7 (by simp)
  have hb4 := hb4.frm hf7 (by simp)
  have hb5 := hb5.frm hf7 (by simp)
  have hb6 := hb6.frm hf7 (by simp)
  refine Ops.r (Run.not rfl) rfl ?_
  refine Ops.nil ?_
  refine thenQ_n ?_
  refine VC.sub [(3, _), (4, _), (5, _), (6, _), (16, _)] (.cons rfl (.cons rfl (.cons rfl (.cons rfl (.cons rfl .nil))))) ?_
  refine VC.condB rfl (fun hc1 => ?_) (fun hc1 => ?_)
  · skip
    have hm : ¬ mayB ⟨v, n, Ms l⟩ := by simpa using hc1
    refine VC.seq ?_
    refine VC.region ?_
    refine Ops.r (Run.build evs.nil zero24 (places24).choose_spec.1 (places24).choose_spec.2 rfl) rfl ?_
    refine Ops.st (Acts.storeA rfl rfl Try.sizeOf24 hb6 rfl (BVc_one 0 0 none 0 0)) ?_
    rintro w6 ⟨hbz, hfz, hsz⟩
    refine Ops.r (Run.asg rfl) rfl ?_
    refine Ops.r (Run.asg rfl) rfl ?_
    refine Ops.r (v := .int .i64 ((1 : Nat) : Int)) (Run.asg rfl) rfl ?_
    refine Ops.nil ?_
    refine thenQ_n ?_
    refine VC.sub [(6, _), (7, _), (8, _), (9, _)] (.cons rfl (.cons rfl (.cons rfl (.cons rfl .nil)))) ?_
    refine VC.ret ?_
    refine thenQ_r (endR ?_)
    refine res_cellA rfl Try.isAgg24 Try.sizeOf24 (fun j v hj => hbz.cells j v hj) (by first | rfl | (simp; done)) ?_
    refine res_tmp rfl ?_
    refine res_tmp rfl ?_
    refine res_tmp rfl ?_
    refine res_nil ?_
    exact ⟨hfr5.own hfz (fun y hy => by simp at hy; omega), 0, 0, none, 0, [], none, 0, [], none, 0, [], 1, rfl, OwM.nil _, Own.nil _ _ _, Own.nil _ _ _, .inl ⟨hm, rfl, rfl, rfl, rfl, rfl, rfl⟩⟩
  · skip
    have hm : mayB ⟨v, n, Ms l⟩ := by simpa using hc1
    have hl128 := (may_at hm).1.2.2.2.2
    refine VC.skip ?_
    refine thenQ_n ?_
    refine VC.sub [(3, _), (4, _), (5, _), (6, _)] (.cons rfl (.cons rfl (.cons rfl (.cons rfl .nil)))) ?_
    refine VC.seq ?_
    refine VC.region ?_
    refine Ops.r (Run.asg rfl) rfl ?_
    refine Ops.nil ?_
    refine thenQ_n ?_
    refine VC.seq ?_
    refine VC.region ?_
    refine Ops.r (Run.asg rfl) rfl ?_
    refine Ops.nil ?_
    refine thenQ_n ?_
    refine VC.seq ?_
    refine VC.seq ?_
    refine VC.region ?_
    refine Ops.r (Run.loadA rfl Try.isAgg24 Try.sizeOf24 (fun j v hj => hb3.cells j v hj) (by first | rfl | (simp; done))) rfl ?_
    refine Ops.r (Run.load rfl Try.isAgg4 (hb4.cell 0)) rfl ?_
    refine Ops.r (Run.load rfl Try.isAgg25 (hb5.cell 0)) rfl ?_
    refine Ops.cl (Enters.fn (evs.cons rfl (evs.cons rfl (evs.cons rfl evs.nil))) Try.call10) (marked_spec v n A c l every O co only _ (hl.frm hfr5) (ho.frm hfr5 (by simp)) hon) rfl ?_
    rintro e w6 ⟨hf8, C, dC, rfl, hownC, hgeC⟩
    refine ⟨_, rfl, ?_⟩
    have hfr6 := hfr5.trans hf8 (by simp)
    have hb3 := hb3.frm hf8 (by simp)
    have hb4 := hb4.frm hf8 (by simp)
    have hb5 := hb5.frm hf8 (by simp)
    have hb6 := hb6.frm hf8 (by simp)
    have hnm : namedB (goesQ every only) ⟨v, n, Ms l⟩ = (marksQ (goesQ every only) 0 (Ms l)).map fun x : Nat => (x : Int) := if_pos hm
    have hMm := marksQ_mem (goesQ every only) (Ms l) 0
    have hMg := marksQ_ge (goesQ every only) (Ms l) 0
    have hMl := marksQ_len (goesQ every only) (Ms l) 0
    rw [hnm, List.length_map] at hownC ⊢
    have hmsl : (Ms l).length = l.length := by simp [Ms]
    generalize hM : marksQ (goesQ every only) 0 (Ms l) = M at *
    refine Ops.r (Run.lenS rfl Try.underlying25) rfl ?_
    refine Ops.r (v := .int .i64 ((0 : Nat) : Int)) (Run.mv rfl) rfl ?_
    refine Ops.nil ?_
    refine thenQ_n ?_
    refine VC.sub [(3, _), (4, _), (5, _), (6, _), (10, _), (11, _), (21, _), (22, _), (23, _)] (.cons rfl (.cons rfl (.cons rfl (.cons rfl (.cons rfl (.cons rfl (.cons rfl (.cons rfl (.cons rfl .nil))))))))) ?_
    refine VC.block ?_
    refine VC.loop (σ := Nat × (Option Addr × Nat) × Option Addr × Nat) (fun s => [(3, .pointer (some ⟨g3, 0, none⟩)), (4, .pointer (some ⟨g4, 0, none⟩)), (5, .pointer (some ⟨g5, 0, none⟩)), (6, .pointer (some ⟨g6, 0, none⟩)), (10, .slice s.2.1.1 (shiftP 0 (M.take s.1)).length s.2.1.2), (11, .slice s.2.2.1 (blobsP (Ms l) (M.take s.1)).length s.2.2.2), (21, .slice C M.length dC), (22, .int .i64 ((M.length : Nat) : Int)), (23, .int .i64 ((s.1 : Nat) : Int))]) (fun s wr => s.1 ≤ M.length ∧ Own wr 3 1 s.2.1.1 (shiftP 0 (M.take s.1)).length s.2.1.2 (NI (shiftP 0 (M.take s.1))) ∧ Own wr 38 1 s.2.2.1 (blobsP (Ms l) (M.take s.1)).length s.2.2.2 (UBl (blobsP (Ms l) (M.take s.1))) ∧ (∀ b ∈ ob s.2.1.1, w6.heap.size ≤ b) ∧ (∀ b ∈ ob s.2.2.1, w6.heap.size ≤ b) ∧ Frm [] w6 wr) (fun s => M.length - s.1) (0, (none, 0), none, 0) (.cons rfl (.cons rfl (.cons rfl (.cons rfl (.cons rfl (.cons rfl (.cons rfl (.cons rfl (.cons rfl .nil))))))))) ⟨by omega, Own.nil _ _ _, Own.nil _ _ _, by simp [ob], by simp [ob], Frm.refl _ _⟩ ?_
    rintro ⟨i, ⟨P, dP⟩, D, dD⟩ wr ⟨hi, hownP, hownD, hgeP, hgeD, hfr⟩
    dsimp only at hi hownP hownD hgeP hgeD ⊢
    have hlP : (shiftP 0 (M.take i)).length = i := by rw [shift_len, List.length_take]; omega
    have hlD : (blobsP (Ms l) (M.take i)).length = i := by unfold blobsP; rw [List.length_map, List.length_take]; omega
    refine VC.seq ?_
    refine VC.region ?_
    refine Ops.r (Run.bin rfl rfl (Bin.lssN _ _)) rfl ?_
    refine Ops.nil ?_
    refine thenQ_n ?_
    refine VC.seq ?_
    refine VC.condD rfl (fun hc2 => ?_) (fun hc2 => ?_)
    · skip
      obtain ⟨adC, uC, hCe, hu, hcellC⟩ := (hownC.rd.frm hfr (by simp)).at1 hc2
      subst hCe
      have hu2 : uC = .int .i64 ((M[i] : Nat) : Int) := by simpa [IB, List.getElem?_eq_getElem hc2] using hu.symm
      subst hu2
      have hp1 := hMg i hc2
      have hp2 := (hMm M[i] (List.getElem_mem hc2)).2
      have hts := take_snocN hc2
      generalize hpi : M[i] = p at *
      have hbl : (Ms l)[p - 1]? = some (l[p - 1]'(by omega)).m := by simp [Ms, List.getElem?_eq_getElem (show p - 1 < l.length by omega)]
      generalize hxx : (l[p - 1]'(by omega)) = x at *
      refine VC.skip ?_
      refine thenQ_n ?_
      refine VC.sub [(3, _), (4, _), (5, _), (6, _), (10, _), (11, _), (21, _), (22, _), (23, _)] (.cons rfl (.cons rfl (.cons rfl (.cons rfl (.cons rfl (.cons rfl (.cons rfl (.cons rfl (.cons rfl .nil))))))))) ?_
      refine VC.seq ?_
      refine VC.block ?_
      refine VC.seq ?_
      refine VC.region ?_
      refine Ops.r (Run.mv rfl) rfl ?_
      refine Ops.r (Run.index1 i rfl rfl Try.underlying25 Try.sizeOf3 hc2) rfl ?_
      refine Ops.r (Run.load rfl Try.isAgg3 hcellC) rfl ?_
      refine Ops.r (Run.asg rfl) rfl ?_
      refine Ops.r (Run.asg rfl) rfl ?_
      refine Ops.nil ?_
      refine thenQ_n ?_
      refine VC.sub [(3, _), (4, _), (5, _), (6, _), (10, _), (11, _), (12, _), (13, _), (21, _), (22, _), (23, _)] (.cons rfl (.cons rfl (.cons rfl (.cons rfl (.cons rfl (.cons rfl (.cons rfl (.cons rfl (.cons rfl (.cons rfl (.cons rfl .nil))))))))))) ?_
      refine VC.seq ?_
      refine VC.region ?_
      refine Ops.r (Run.mv rfl) rfl ?_
      refine Ops.r (Run.mv rfl) rfl ?_
      refine Ops.r (Run.mv rfl) rfl ?_
      refine Ops.r (Run.bin rfl rfl (Bin.sub_i64 _ _ (by omega) (by omega))) rfl ?_
      refine Ops.m (Does.buildS1 rfl Try.underlying25 Try.sizeOf3 zero3 (by decide) (by decide) rfl rfl) rfl ?_
      rintro _ w8 ⟨rfl, hF8⟩
      have hfr8 := hfr.trans hF8.frm (by simp)
      have hownP8 := hownP.frm hF8.frm (by simp)
      have hownD8 := hownD.frm hF8.frm (by simp)
      refine Ops.m (Does.app rfl rfl Try.underlying25 (info3) rfl (by decide) hownP8 (hrdN hF8) (NI_one _) (by omega) (by omega)) rfl ?_
      rintro _ w9 ⟨P9, c9, rfl, hownP9, hf9, hob9⟩
      rw [← NI_append] at hownP9
      have hge9 := up_app hgeP hob9 hfr8.size
      have hfr9 := hfr8.own hf9 hgeP
      obtain ⟨ad, rfl, hcell⟩ := (hl.frm (hfr6.trans hfr9 (by simp))).elem (k := p - 1) (by omega)
      rw [hxx] at hcell
      have hownD9 := hownD8.frm hf9 (hownD8.ne_own hownP8 (by decide))
      have hb39 := hb3.frm hfr9 (by simp)
      refine Ops.r (Run.asg rfl) rfl ?_
      refine Ops.nil ?_
      refine thenQ_n ?_
      refine VC.sub [(3, _), (4, _), (5, _), (6, _), (10, _), (11, _), (13, _), (21, _), (22, _), (23, _)] (.cons rfl (.cons rfl (.cons rfl (.cons rfl (.cons rfl (.cons rfl (.cons rfl (.cons rfl (.cons rfl (.cons rfl .nil)))))))))) ?_
      refine VC.region ?_
      refine Ops.r (Run.mv rfl) rfl ?_
      refine Ops.r (Run.fieldAddr rfl Try.underlying24 rfl Try.sizeOf22 (by decide)) rfl ?_
      refine Ops.r (Run.load rfl Try.isAgg22 (hb39.cell 2)) rfl ?_
      refine Ops.r (Run.mv rfl) rfl ?_
      refine Ops.r (Run.bin rfl rfl (Bin.sub_i64 _ 1 (by omega) (by omega))) rfl ?_
      refine Ops.r (Run.indexS (p - 1) rfl rfl Try.underlying22 Try.sizeOf45 (by omega)) rfl ?_
      refine Ops.r (Run.fieldAddr rfl Try.underlying45 rfl Try.sizeOf38 (by decide)) rfl ?_
      refine Ops.r (Run.load rfl Try.isAgg38 (hcell 4 _ rfl)) rfl ?_
      refine Ops.m (Does.buildS1 rfl Try.underlying27 Try.sizeOf38 zero38 (by decide) (by decide) rfl rfl) rfl ?_
      rintro _ w10 ⟨rfl, hF10⟩
      have hfr10 := hfr9.trans hF10.frm (by simp)
      have hownP10 := hownP9.frm hF10.frm (by simp)
      have hownD10 := hownD9.frm hF10.frm (by simp)
      refine Ops.m (Does.app rfl rfl Try.underlying27 (info38) rfl (by decide) hownD10 (hrdU hF10) (UBl_one _) (by omega) (by omega)) rfl ?_
      rintro _ w11 ⟨D11, c11, rfl, hownD11, hf11, hob11⟩
      rw [← UBl_append] at hownD11
      have hge11 := up_app hgeD hob11 hfr10.size
      have hfr11 := hfr10.own hf11 hgeD
      have hownP11 := hownP10.frm hf11 (hownP10.ne_own hownD10 (by decide))
      refine Ops.r (Run.asg rfl) rfl ?_
      refine Ops.nil ?_
      refine blockQ_n (thenQ_n ?_)
      refine VC.sub [(3, _), (4, _), (5, _), (6, _), (10, _), (11, _), (21, _), (22, _), (23, _)] (.cons rfl (.cons rfl (.cons rfl (.cons rfl (.cons rfl (.cons rfl (.cons rfl (.cons rfl (.cons rfl .nil))))))))) ?_
      refine VC.region ?_
      refine Ops.r (Run.bin rfl rfl (Bin.add_i64 _ 1 (by omega))) rfl ?_
      refine Ops.r (Run.mv rfl) rfl ?_
      refine Ops.nil ?_
      refine thenQ_n ⟨(i + 1, (P9, c9), D11, c11), (.cons rfl (.cons rfl (.cons rfl (.cons rfl (.cons (by rw [hts, shiftP_snoc, List.length_append]; rfl) (.cons (by rw [hts]; unfold blobsP; rw [List.map_append, List.length_append]; rfl) (.cons rfl (.cons rfl (.cons rfl .nil))))))))), ?_, ?_⟩
      · skip
        have hsP : shiftP 0 (M.take (i + 1)) = shiftP 0 (M.take i) ++ [p - i] := by rw [hts, shiftP_snoc, List.length_take, Nat.min_eq_left (by omega), Nat.zero_add]
        have hsD : blobsP (Ms l) (M.take (i + 1)) = blobsP (Ms l) (M.take i) ++ [x.m.blob] := by
          rw [hts]; unfold blobsP; rw [List.map_append, List.map_cons, List.map_nil, hbl]; rfl
        refine ⟨hc2, ?_, ?_, hge9, hge11, hfr11⟩
        · rw [hsP, List.length_append]; exact hownP11
        · rw [hsD, List.length_append]; exact hownD11
      · skip
        first | omega | (dsimp only; omega)
    · skip
      refine VC.exit ?_
      refine thenQ_x (thenQ_x (blockQ_x ?_))
      refine thenQ_n ?_
      refine VC.sub [(3, _), (4, _), (5, _), (6, _), (10, _), (11, _)] (.cons rfl (.cons rfl (.cons rfl (.cons rfl (.cons rfl (.cons rfl .nil)))))) ?_
      refine VC.seq ?_
      refine VC.region ?_
      refine Ops.r (Run.fieldAddr rfl Try.underlying24 rfl Try.sizeOf22 (by decide)) rfl ?_
      refine Ops.r (Run.load rfl Try.isAgg22 ((hb3.frm hfr (by simp)).cell 2)) rfl ?_
      refine Ops.cl (Enters.fn (evs.cons rfl evs.nil) Try.call30) (all_spec A c l _ (hl.frm (hfr6.trans hfr (by simp))) (by omega)) rfl ?_
      rintro e w12 ⟨B, dB, lc, rfl, hMc, hmsc, hgeB, hf12⟩
      refine ⟨_, rfl, ?_⟩
      have hfr12 := hfr.trans hf12 (by simp)
      have hlc : lc.length = l.length := by have := congrArg List.length hmsc; simpa [Ms] using this
      have hb312 := hb3.frm hfr12 (by simp)
      have hb412 := hb4.frm hfr12 (by simp)
      have hb512 := hb5.frm hfr12 (by simp)
      have hb612 := hb6.frm hfr12 (by simp)
      have hownP12 := hownP.frm hf12 (by simp)
      have hownD12 := hownD.frm hf12 (by simp)
      have hwB : ∀ b ∈ ob B, w.heap.size ≤ b := fun b hb => Nat.le_trans (hfr6.trans hfr (by simp)).size (hgeB b hb)
      have hTM : TestM (ob B) w12 31 [.pointer (some ⟨g4, 0, none⟩), .pointer (some ⟨g5, 0, none⟩)] (goesQ every only) := ⟨Try.call31, fun W x hW hx => by
        have ho12 := ho.frm (hfr6.trans hfr12 (by simp)) (by simp)
        refine expC_spec x every O co g4 g5 only W hx (ho12.frm hW (fun hn y hy hyB => ?_)) hon (hb412.frm hW (hMc.own.ne_blk hb412 (by decide))) (hb512.frm hW (hMc.own.ne_blk hb512 (by decide)))
        have h1 := ho.lt hn y hy
        have h2 := hwB y hyB
        omega⟩
      refine Ops.r (Run.mkFunc evs.nil (evs.cons rfl (evs.cons rfl evs.nil))) rfl ?_
      refine Ops.cl (Enters.fn (evs.cons rfl (evs.cons rfl evs.nil)) Try.call29) (delM_spec 31 [.pointer (some ⟨g4, 0, none⟩), .pointer (some ⟨g5, 0, none⟩)] (goesQ every only) B dB lc _ hMc (by omega) hTM) rfl ?_
      rintro e w13 ⟨rfl, hM13, hf13⟩
      refine ⟨_, rfl, ?_⟩
      have hb313 := hb312.frm hf13 (hMc.own.ne_blk hb312 (by decide))
      have hb613 := hb612.frm hf13 (hMc.own.ne_blk hb612 (by decide))
      have hownP13 := hownP12.frm hf13 (hownP12.ne_own hMc.own (by decide))
      have hownD13 := hownD12.frm hf13 (hownD12.ne_own hMc.own (by decide))
      have hfr13 : Frm [] w w13 := (hfr6.trans hfr12 (by simp)).own hf13 hwB
      have hms13 : Ms (lc.filter fun x => !goesQ every only x.m) = (Ms l).filter fun m => !goesQ every only m := by rw [Ms_filter, hmsc]
      generalize hLF : (lc.filter fun x => !goesQ every only x.m) = lf at *
      refine Ops.r (Run.fieldAddr rfl Try.underlying24 rfl Try.sizeOf22 (by decide)) rfl ?_
      refine Ops.st (Acts.store rfl rfl Try.sizeOf22 hb313 rfl rfl) ?_
      rintro w14 ⟨hb314, hf14, hs14⟩
      have hb314 : Blk w14 g3 24 (BVc v n B lf.length dB).toArray := hb314
      have hb614 := hb613.frm hf14 (by simp; omega)
      have hM14 := hM13.blk hf14 hb313 (by decide) (by decide)
      have hownP14 := hownP13.frm hf14 (fun y hy => by have := hownP13.ne_blk hb313 (by decide); simp; rintro rfl; exact this hy)
      have hownD14 := hownD13.frm hf14 (fun y hy => by have := hownD13.ne_blk hb313 (by decide); simp; rintro rfl; exact this hy)
      have hfr14 := hfr13.own hf14 (fun y hy => by simp at hy; omega)
      refine Ops.nil ?_
      refine thenQ_n ?_
      refine VC.sub [(3, _), (6, _), (10, _), (11, _)] (.cons rfl (.cons rfl (.cons rfl (.cons rfl .nil)))) ?_
      refine VC.seq ?_
      refine VC.region ?_
      refine Ops.r (Run.loadA rfl Try.isAgg24 Try.sizeOf24 (fun j v hj => hb314.cells j v hj) (by first | rfl | (simp; done))) rfl ?_
      refine Ops.r (Run.mv rfl) rfl ?_
      refine Ops.r (Run.mv rfl) rfl ?_
      refine Ops.st (Acts.storeA rfl rfl Try.sizeOf24 hb614 rfl (BVc_one _ _ _ _ _)) ?_
      rintro w15 ⟨hb615, hf15, hs15⟩
      have hM15 := hM14.blk hf15 hb614 (by decide) (by decide)
      have hownP15 := hownP14.frm hf15 (fun y hy => by have := hownP14.ne_blk hb614 (by decide); simp; rintro rfl; exact this hy)
      have hownD15 := hownD14.frm hf15 (fun y hy => by have := hownD14.ne_blk hb614 (by decide); simp; rintro rfl; exact this hy)
      have hfr15 := hfr14.own hf15 (fun y hy => by simp at hy; omega)
      refine Ops.r (Run.asg rfl) rfl ?_
      refine Ops.r (Run.asg rfl) rfl ?_
      refine Ops.r (v := .int .i64 ((0 : Nat) : Int)) (Run.asg rfl) rfl ?_
      refine Ops.nil ?_
      refine thenQ_n ?_
      refine VC.sub [(6, _), (7, _), (8, _), (9, _)] (.cons rfl (.cons rfl (.cons rfl (.cons rfl .nil)))) ?_
      refine VC.ret ?_
      refine endR ?_
      refine res_cellA rfl Try.isAgg24 Try.sizeOf24 (fun j v hj => hb615.cells j v hj) (by first | rfl | (simp; done)) ?_
      refine res_tmp rfl ?_
      refine res_tmp rfl ?_
      refine res_tmp rfl ?_
      refine res_nil ?_
      have hiM : i = M.length := by omega
      subst hiM
      rw [List.take_length] at hownP15 hownD15 ⊢
      exact ⟨hfr15, v, n, B, dB, lf, P, dP, _, D, dD, _, 0, rfl, hM15, hownP15, hownD15, .inr ⟨hm, rfl, rfl, rfl, hms13, rfl, rfl⟩⟩

end Go.Proofs.Ytmfglifjnoilnaa
