/-
  Lemmas on the way, joined: SecD.
-/
import Derived.Test.YtenbjndldenkfaaGreatDoorPk4
namespace Go.Proofs.YtenbjndldenkfaaGreatDoor
open Go.RowKit Go.Sort

set_option maxRecDepth 100000 in
theorem few20_spec (A : Option Addr) (c : Nat) (q : Tx) (w : World) (hrd : Rd w 1 A q.length (U8 q)) (hc : q.length ≤ c) :
    Calls Tryz.prog 9 #[.slice A q.length c] w fun e w' => w = w' ∧ ∃ (A2 : Option Addr) (c2 : Nat), e = .returned (.slice A2 (q.take 1200).length c2) ∧ Rd w' 1 A2 (q.take 1200).length (U8 (q.take 1200)) ∧ (q.take 1200).length ≤ c2 := by
  refine VC.calls (nt := 9) (res := #[.tmp 2]) Tryz.func9 rfl Tryz.ntmps9 Tryz.results9 rfl ?_
  refine VC.seq ?_
  refine VC.region ?_
  refine Ops.r (Run.asg rfl) rfl ?_
  refine Ops.nil ?_
  refine thenQ_n ?_
  refine VC.sub [(0, _)] (.cons rfl .nil) ?_
  refine VC.seq ?_
  refine VC.seq ?_
  refine VC.region ?_
  refine Ops.r (Run.mv rfl) rfl ?_
  refine Ops.r (Run.lenS rfl Tryz.underlying22) rfl ?_
  refine Ops.r (Run.bin rfl rfl (Bin.gtrN _ 1200)) rfl ?_
  refine Ops.nil ?_
  refine thenQ_n ?_
  refine VC.sub [(0, _), (5, _)] (.cons rfl (.cons rfl .nil)) ?_
  refine VC.condD rfl (fun hc1 => ?_) (fun hc1 => ?_)
  · skip
    refine VC.seq ?_
    refine VC.region ?_
    refine Ops.r (Run.mv rfl) rfl ?_
    refine Ops.r (Run.sliceS 0 1200 rfl Tryz.underlying22 Tryz.sizeOf5 evB.none_ (evB.some_ rfl) (by omega) (by omega)) rfl ?_
    refine Ops.r (Run.asg rfl) rfl ?_
    refine Ops.nil ?_
    refine thenQ_n ?_
    refine VC.sub [(2, _)] (.cons rfl .nil) ?_
    refine VC.ret ?_
    refine thenQ_r (end1 rfl ?_)
    have e1 : sliceQ q 0 1200 = q.take 1200 := by unfold sliceQ; simp
    have h := U8_cut hrd (show 0 ≤ 1200 by omega) (show 1200 ≤ q.length by omega) hc
    rw [e1] at h
    have e2 : (q.take 1200).length = 1200 := by simp; omega
    refine ⟨rfl, cutA A c 0 1, c, ?_, h, by omega⟩
    rw [e2]
    rfl
  · skip
    refine VC.skip ?_
    refine thenQ_n ?_
    refine VC.sub [(0, _)] (.cons rfl .nil) ?_
    refine VC.seq ?_
    refine VC.region ?_
    refine Ops.r (Run.mv rfl) rfl ?_
    refine Ops.r (Run.asg rfl) rfl ?_
    refine Ops.nil ?_
    refine thenQ_n ?_
    refine VC.sub [(2, _)] (.cons rfl .nil) ?_
    refine VC.ret ?_
    refine end1 rfl ?_
    have e1 : q.take 1200 = q := List.take_of_length_le (by omega)
    rw [e1]
    exact ⟨rfl, A, c, rfl, hrd, hc⟩

set_option maxRecDepth 100000 in
set_option maxHeartbeats 1600000 in
theorem spicks_walk (A B : Option Addr) (c d : Nat) (q0 : Tx) (n0 : List Tx) (w : World) (hv : LibV w) (hrd : Rd w 1 A q0.length (U8 q0)) (hc : q0.length ≤ c) (hn : Rd w 1 B n0.length (SB n0)) (hd : n0.length ≤ d) (hns : ∀ s ∈ n0, s.length ≤ 9223372036854775807) :
    Calls Tryz.prog 8 #[.slice A q0.length c, .slice B n0.length d] w fun e w' => e = .returned (.bool true) ∧ Frm [] w w' := by
  have K := Frm.refl [] w
  refine VC.calls (nt := 142) (res := #[.tmp 4]) Tryz.func8 rfl Tryz.ntmps8 Tryz.results8 rfl ?_
  refine VC.seq ?_
  refine VC.region ?_
  refine Ops.r (Run.asg rfl) rfl ?_
  refine Ops.nil ?_
  refine thenQ_n ?_
  refine VC.sub [(0, _), (1, _)] (.cons rfl (.cons rfl .nil)) ?_
  refine VC.seq ?_
  refine VC.region ?_
  refine Ops.r (Run.mv rfl) rfl ?_
  refine Ops.cl (Enters.fn (evs.cons rfl evs.nil) Tryz.call9) ((few20_spec A c q0 _ hrd hc)) rfl ?_
  rintro e _ ⟨rfl, A1, c1, rfl, hrq, hc1l⟩
  refine ⟨_, rfl, ?_⟩
  have hq1 : (q0.take 1200).length ≤ 1200 := by simp; omega
  generalize q0.take 1200 = q at *
  refine Ops.r (Run.asg rfl) rfl ?_
  refine Ops.nil ?_
  refine thenQ_n ?_
  refine VC.sub [(0, _), (1, _)] (.cons rfl (.cons rfl .nil)) ?_
  refine VC.seq ?_
  refine VC.region ?_
  refine Ops.r (Run.mv rfl) rfl ?_
  refine Ops.r (Run.build (evs.cons rfl (evs.cons rfl evs.nil)) zero38 (places38).choose_spec.1 (places38).choose_spec.2 (cells := WtC ⟨[], fldT, n0⟩ none 0 B d) rfl) rfl ?_
  refine Ops.cl (Enters.fn (evs.cons rfl evs.nil) Tryz.call21) ((few21_spec fldT n0 B d _ hn hd hns (by decide))) rfl ?_
  rintro e w1 ⟨f1, N, nc, rfl, hON, hubN⟩
  refine ⟨_, rfl, ?_⟩
  have K := K.trans f1 (by simp)
  have hnl := few21_len n0
  have hne := few21_each n0
  generalize few21 n0 = ns at *
  refine Ops.m (Does.alloc zero38) rfl ?_
  rintro _ w2 ⟨rfl, hF2⟩
  have hb5 := hF2.blk
  have sK := K.size
  have lN := hON.lt
  have K := K.trans hF2.frm (by simp)
  have hON := hON.frm hF2.frm (by simp)
  generalize hg5 : w1.heap.size = g5 at hb5 sK lN ⊢
  refine Ops.st (Acts.storeA rfl rfl Tryz.sizeOf38 hb5 rfl (WtC_one ⟨[], fldT, ns⟩ none 0 N nc)) ?_
  rintro w3 ⟨hb5n, f3, _⟩
  have hb5 : Blk w3 g5 38 (WtC ⟨[], fldT, ns⟩ none 0 N nc) := hb5n
  have hON := hON.frm f3 (fun y hy => by have := lN y hy; simp; omega)
  have K := Frm.own K f3 (fun y hy => by simp at hy; omega)
  refine Ops.nil ?_
  refine thenQ_n ?_
  refine VC.sub [(0, _), (5, _)] (.cons rfl (.cons rfl .nil)) ?_
  refine VC.seq ?_
  refine VC.region ?_
  refine Ops.r (Run.mv rfl) rfl ?_
  refine Ops.r (Run.loadA rfl Tryz.isAgg38 Tryz.sizeOf38 (fun j v hj => hb5.cells j v hj) (by first | rfl | (simp; done))) rfl ?_
  refine Ops.cl (Enters.fn (evs.cons rfl (evs.cons rfl evs.nil)) Tryz.call19) ((getF_spec A1 c1 q fldT ns none N 0 nc _ (hrq.frm K (by simp)) (by omega) hc1l hON.rd (by omega) (fun x hx => by have := hne x hx; omega) (by decide))) rfl ?_
  have hb5old := hb5.lt
  rintro e w4 ⟨fw4, Ax, cx, rfl, hOx, hubx⟩
  refine ⟨_, rfl, ?_⟩
  have hb5 := hb5.frm fw4 (by simp)
  have hON := hON.frm fw4 (by simp)
  have sK4 := K.size
  have l5 := hb5.lt
  have hx5 : g5 ∉ ob Ax := fun hx => by have := hubx _ hx; have := hb5old; omega
  have K := K.trans fw4 (by simp)
  refine Ops.r (Run.mv rfl) rfl ?_
  refine Ops.r (Run.extract rfl rfl) rfl ?_
  refine Ops.r (Run.extract rfl rfl) rfl ?_
  refine Ops.r (Run.asg rfl) rfl ?_
  refine Ops.r (Run.asg rfl) rfl ?_
  refine Ops.nil ?_
  refine thenQ_n ?_
  refine VC.sub [(0, _), (5, _), (6, _), (7, _)] (.cons rfl (.cons rfl (.cons rfl (.cons rfl .nil)))) ?_
  refine VC.seq ?_
  refine VC.region ?_
  refine Ops.r (Run.fieldAddr rfl Tryz.underlying38 rfl Tryz.sizeOf9 (by decide)) rfl ?_
  refine Ops.st (Acts.store rfl rfl Tryz.sizeOf9 hb5 rfl rfl) ?_
  rintro w5 ⟨hb5n, f5, _⟩
  have hON := hON.frm f5 (fun y hy => by have := hON.ne_blk hb5 (by decide); simp; rintro rfl; exact this hy)
  have hOx := hOx.frm f5 (fun y hy => by simp; rintro rfl; exact hx5 hy)
  have hb5 : Blk w5 g5 38 #[.slice none 0 0, encStr othT, .slice N (List.length (α := Tx) ns) nc] := hb5n
  have K := Frm.own K f5 (fun y hy => by simp at hy; omega)
  refine Ops.nil ?_
  refine thenQ_n ?_
  refine VC.sub [(0, _), (5, _), (6, _), (7, _)] (.cons rfl (.cons rfl (.cons rfl (.cons rfl .nil)))) ?_
  refine VC.seq ?_
  refine VC.region ?_
  refine Ops.r (Run.mv rfl) rfl ?_
  refine Ops.r (Run.loadA rfl Tryz.isAgg38 Tryz.sizeOf38 (fun j v hj => hb5.cells j v hj) (by first | rfl | (simp; done))) rfl ?_
  refine Ops.cl (Enters.fn (evs.cons rfl (evs.cons rfl evs.nil)) Tryz.call19) ((getF_spec A1 c1 q othT ns none N 0 nc _ (hrq.frm K (by simp)) (by omega) hc1l hON.rd (by omega) (fun x hx => by have := hne x hx; omega) (by decide))) rfl ?_
  rintro e w6 ⟨fw6, Ay, cy, rfl, hOy, huby⟩
  refine ⟨_, rfl, ?_⟩
  have hb5 := hb5.frm fw6 (by simp)
  have hON := hON.frm fw6 (by simp)
  have hOx := hOx.frm fw6 (by simp)
  have K := K.trans fw6 (by simp)
  have hMM : MayW ⟨[], fldT, ns⟩ ↔ MayW ⟨[], othT, ns⟩ := (mayF_iff (.inl rfl) ns).trans (mayF_iff (.inr rfl) ns).symm
  rw [decide_eq_decide.2 hMM]
  obtain ⟨hgx, hgy⟩ : getF q fldT ns = (if MayW ⟨[], othT, ns⟩ then pickQ q ns false else []) ∧ getF q othT ns = (if MayW ⟨[], othT, ns⟩ then pickQ q ns true else []) := by
    unfold getF
    refine ⟨?_, ?_⟩
    · by_cases hm : MayW ⟨[], othT, ns⟩
      · rw [if_pos hm, if_pos (hMM.2 hm)]; rfl
      · rw [if_neg hm, if_neg (fun h => hm (hMM.1 h))]
    · by_cases hm : MayW ⟨[], othT, ns⟩
      · rw [if_pos hm, if_pos hm]; rfl
      · rw [if_neg hm, if_neg hm]
  rw [hgx] at hOx
  rw [hgy] at hOy
  rw [hgx, hgy]
  refine Ops.r (Run.mv rfl) rfl ?_
  refine Ops.r (Run.extract rfl rfl) rfl ?_
  refine Ops.r (Run.extract rfl rfl) rfl ?_
  refine Ops.r (Run.asg rfl) rfl ?_
  refine Ops.r (Run.asg rfl) rfl ?_
  refine Ops.nil ?_
  refine thenQ_n ?_
  refine VC.sub [(0, _), (5, _), (6, _), (7, _), (8, _), (9, _)] (.cons rfl (.cons rfl (.cons rfl (.cons rfl (.cons rfl (.cons rfl .nil)))))) ?_
  refine VC.seq ?_
  refine VC.seq ?_
  refine VC.split1 [(0, _), (5, _), (6, _), (7, _), (8, _), (9, _)] (.cons rfl (.cons rfl (.cons rfl (.cons rfl (.cons rfl (.cons rfl .nil)))))) 41 (.bool (decide (¬ MayW ⟨[], othT, ns⟩))) ?_ ?_
  · refine VC.region ?_
    refine Ops.r (Run.mv rfl) rfl ?_
    refine Ops.r (Run.not rfl) rfl ?_
    rw [not_dec]
    by_cases hs37 : ¬ MayW ⟨[], othT, ns⟩
    · skip
      refine Ops.r (Run.mv rfl) rfl ?_
      refine Ops.sk rfl (by first | rfl | assumption | exact decide_eq_true (by assumption) | exact decide_eq_false (by assumption) | decide | (simp; done) | (simp; omega) | (simp [*]; done)) rfl ?_
      refine Ops.sk rfl (by first | rfl | assumption | exact decide_eq_true (by assumption) | exact decide_eq_false (by assumption) | decide | (simp; done) | (simp; omega) | (simp [*]; done)) rfl ?_
      refine Ops.r (Run.pickT rfl rfl (by first | rfl | assumption | exact decide_eq_true (by assumption) | exact decide_eq_false (by assumption) | decide | (simp; done) | (simp; omega) | (simp [*]; done))) rfl ?_
      refine Ops.nil ?_
      refine thenQ_n ⟨(.cons (congrArg (fun b => some (Value.bool b)) (by simp [*])) (.cons rfl (.cons rfl (.cons rfl (.cons rfl (.cons rfl (.cons rfl .nil))))))), rfl⟩
    · skip
      have hs37m := Classical.not_not.1 hs37
      refine Ops.r (Run.mv rfl) rfl ?_
      refine Ops.rg rfl (by first | rfl | assumption | exact decide_eq_true (by assumption) | exact decide_eq_false (by assumption) | decide | (simp; done) | (simp; omega) | (simp [*]; done)) (Run.mv rfl) rfl ?_
      refine Ops.rg rfl (by first | rfl | assumption | exact decide_eq_true (by assumption) | exact decide_eq_false (by assumption) | decide | (simp; done) | (simp; omega) | (simp [*]; done)) (Run.not rfl) rfl ?_
      refine Ops.r (Run.pickF rfl rfl (by first | rfl | assumption | exact decide_eq_true (by assumption) | exact decide_eq_false (by assumption) | decide | (simp; done) | (simp; omega) | (simp [*]; done))) rfl ?_
      refine Ops.nil ?_
      refine thenQ_n ⟨(.cons (congrArg (fun b => some (Value.bool b)) (by simp [*])) (.cons rfl (.cons rfl (.cons rfl (.cons rfl (.cons rfl (.cons rfl .nil))))))), rfl⟩
  · intro Γ hΓ
    refine thenQ_n (VC.sub _ hΓ ?_)
    refine VC.condD rfl (fun hc1 => ?_) (fun hc1 => ?_)
    · skip
      simp only [if_neg hc1] at hOx hOy ⊢
      refine VC.seq ?_
      refine VC.region ?_
      refine Ops.r (Run.mv rfl) rfl ?_
      refine Ops.r (Run.mv rfl) rfl ?_
      refine Ops.r (Run.eqlB rfl rfl Tryz.underlying4) rfl ?_
      refine Ops.r (Run.mv rfl) rfl ?_
      refine Ops.rg rfl (by first | rfl | assumption | exact decide_eq_true (by assumption) | exact decide_eq_false (by assumption) | decide | (simp; done) | (simp; omega) | (simp [*]; done)) (Run.mv rfl) rfl ?_
      refine Ops.rg rfl (by first | rfl | assumption | exact decide_eq_true (by assumption) | exact decide_eq_false (by assumption) | decide | (simp; done) | (simp; omega) | (simp [*]; done)) (Run.lenS rfl Tryz.underlying22) rfl ?_
      refine Ops.rg rfl (by first | rfl | assumption | exact decide_eq_true (by assumption) | exact decide_eq_false (by assumption) | decide | (simp; done) | (simp; omega) | (simp [*]; done)) (Run.bin rfl rfl (Bin.eqlN _ 0)) rfl ?_
      refine Ops.r (Run.pickT rfl rfl (by first | rfl | assumption | exact decide_eq_true (by assumption) | exact decide_eq_false (by assumption) | decide | (simp; done) | (simp; omega) | (simp [*]; done))) rfl ?_
      refine Ops.r (Run.mv rfl) rfl ?_
      refine Ops.rg rfl (by first | rfl | assumption | exact decide_eq_true (by assumption) | exact decide_eq_false (by assumption) | decide | (simp; done) | (simp; omega) | (simp [*]; done)) (Run.mv rfl) rfl ?_
      refine Ops.rg rfl (by first | rfl | assumption | exact decide_eq_true (by assumption) | exact decide_eq_false (by assumption) | decide | (simp; done) | (simp; omega) | (simp [*]; done)) (Run.lenS rfl Tryz.underlying22) rfl ?_
      refine Ops.rg rfl (by first | rfl | assumption | exact decide_eq_true (by assumption) | exact decide_eq_false (by assumption) | decide | (simp; done) | (simp; omega) | (simp [*]; done)) (Run.bin rfl rfl (Bin.eqlN _ 0)) rfl ?_
      refine Ops.r (Run.pickT rfl rfl (by first | rfl | assumption | exact decide_eq_true (by assumption) | exact decide_eq_false (by assumption) | decide | (simp; done) | (simp; omega) | (simp [*]; done))) rfl ?_
      refine Ops.r (Run.mv rfl) rfl ?_
      refine Ops.rg rfl (by first | rfl | assumption | exact decide_eq_true (by assumption) | exact decide_eq_false (by assumption) | decide | (simp; done) | (simp; omega) | (simp [*]; done)) (Run.loadA rfl Tryz.isAgg38 Tryz.sizeOf38 (fun j v hj => hb5.cells j v hj) (by first | rfl | (simp; done))) rfl ?_
      refine Ops.clg rfl (by first | rfl | assumption | exact decide_eq_true (by assumption) | exact decide_eq_false (by assumption) | decide | (simp; done) | (simp; omega) | (simp [*]; done)) (Enters.fn (evs.cons rfl evs.nil) Tryz.call22) ((rmay_spec ns none N 0 nc _ hON.rd (by omega) (fun x hx => by have := hne x hx; omega))) rfl ?_
      rintro e w7 ⟨rfl, f7⟩
      refine ⟨_, rfl, ?_⟩
      have K := K.trans f7 (by simp)
      refine Ops.rg rfl (by first | rfl | assumption | exact decide_eq_true (by assumption) | exact decide_eq_false (by assumption) | decide | (simp; done) | (simp; omega) | (simp [*]; done)) (Run.not rfl) rfl ?_
      rw [decide_eq_false hc1]
      refine Ops.r (Run.pickT rfl rfl (by first | rfl | assumption | exact decide_eq_true (by assumption) | exact decide_eq_false (by assumption) | decide | (simp; done) | (simp; omega) | (simp [*]; done))) rfl ?_
      refine Ops.r (Run.mv rfl) rfl ?_
      refine Ops.clg rfl (by first | rfl | assumption | exact decide_eq_true (by assumption) | exact decide_eq_false (by assumption) | decide | (simp; done) | (simp; omega) | (simp [*]; done)) (Enters.fn evs.nil Tryz.call20) ((awake21_spec _ (hv.frm0 K))) rfl ?_
      rintro e w8 ⟨rfl, f8⟩
      refine ⟨_, rfl, ?_⟩
      have K := K.trans f8 (by simp)
      refine Ops.r (Run.pickT rfl rfl (by first | rfl | assumption | exact decide_eq_true (by assumption) | exact decide_eq_false (by assumption) | decide | (simp; done) | (simp; omega) | (simp [*]; done))) rfl ?_
      refine Ops.r (Run.asg rfl) rfl ?_
      refine Ops.nil ?_
      refine thenQ_n ?_
      refine VC.sub [(4, _)] (.cons rfl .nil) ?_
      refine VC.ret ?_
      refine thenQ_r (end1 rfl ?_)
      exact ⟨rfl, K⟩
    · skip
      have hmay : MayW ⟨[], othT, ns⟩ := Classical.not_not.1 hc1
      simp only [if_pos hmay] at hOx hOy ⊢
      refine VC.skip ?_
      refine thenQ_n ?_
      refine VC.sub [(0, _), (5, _), (6, _), (8, _)] (.cons rfl (.cons rfl (.cons rfl (.cons rfl .nil)))) ?_
      refine VC.seq ?_
      refine VC.region ?_
      refine Ops.r (Run.mv rfl) rfl ?_
      refine Ops.cl (Enters.fn (evs.cons rfl evs.nil) Tryz.call23) ((fields_spec A1 c1 q _ (hrq.frm K (by simp)) (by omega) hc1l)) rfl ?_
      rintro e w9 ⟨f9, F, fc, rfl, hF, hubF⟩
      refine ⟨_, rfl, ?_⟩
      have hb5 := hb5.frm f9 (by simp)
      have hON := hON.frm f9 (by simp)
      have hOx := hOx.frm f9 (by simp)
      have hOy := hOy.frm f9 (by simp)
      have K := K.trans f9 (by simp)
      have hok := fieldsQ_ok q
      have hsl := splitQ_le q
      have hfn := fieldsQ_count q
      have hnmq := fieldsQ_names q
      have hp1 := pickN_le q ns false
      have hp2 := pickN_le q ns true
      have hE := hendQ_len q
      have hlx := pickQ_len q ns false
      have hly := pickQ_len q ns true
      have hpp : ∀ b k, pickN ns b ((fieldsQ q).take k) ≤ pickN ns b (fieldsQ q) := fun b k => by
        have := pickN_pre ns b ((fieldsQ q).take k) ((fieldsQ q).drop k)
        rwa [List.take_append_drop] at this
      refine Ops.r (Run.asg rfl) rfl ?_
      refine Ops.nil ?_
      refine thenQ_n ?_
      refine VC.sub [(5, _), (6, _), (8, _), (10, _)] (.cons rfl (.cons rfl (.cons rfl (.cons rfl .nil)))) ?_
      refine VC.seq ?_
      refine VC.region ?_
      refine Ops.r (v := .int .i64 ((0 : Nat) : Int)) (Run.asg rfl) rfl ?_
      refine Ops.r (v := .int .i64 ((0 : Nat) : Int)) (Run.asg rfl) rfl ?_
      refine Ops.nil ?_
      refine thenQ_n ?_
      refine VC.seq ?_
      refine VC.seq ?_
      refine VC.region ?_
      refine Ops.r (v := .int .i64 ((0 : Nat) : Int)) (Run.asg rfl) rfl ?_
      refine Ops.nil ?_
      refine thenQ_n ?_
      refine VC.block ?_
      refine VC.loop (σ := Nat) (fun s => [(5, .pointer (some ⟨g5, 0, none⟩)), (6, .slice Ax (pickQ q ns false).length cx), (8, .slice Ay (pickQ q ns true).length cy), (10, .slice F (fieldsQ q).length fc), (11, .int .i64 (((pickN ns false ((fieldsQ q).take s)) : Nat) : Int)), (12, .int .i64 (((pickN ns true ((fieldsQ q).take s)) : Nat) : Int)), (13, .int .i64 ((s : Nat) : Int))]) (fun s wr => s ≤ (fieldsQ q).length ∧ Drawn w9 wr) (fun s => (fieldsQ q).length - s) 0 (.cons rfl (.cons rfl (.cons rfl (.cons rfl (.cons rfl (.cons rfl (.cons rfl .nil))))))) ⟨by omega, Drawn.refl _⟩ ?_
      rintro k wr ⟨hk, hd⟩
      refine VC.seq ?_
      refine VC.seq ?_
      refine VC.region ?_
      refine Ops.r (Run.mv rfl) rfl ?_
      refine Ops.r (Run.mv rfl) rfl ?_
      refine Ops.r (Run.lenS rfl Tryz.underlying42) rfl ?_
      refine Ops.r (Run.bin rfl rfl (Bin.lssN _ _)) rfl ?_
      refine Ops.nil ?_
      refine thenQ_n ?_
      refine VC.sub [(5, _), (6, _), (8, _), (10, _), (11, _), (12, _), (13, _), (68, _)] (.cons rfl (.cons rfl (.cons rfl (.cons rfl (.cons rfl (.cons rfl (.cons rfl (.cons rfl .nil)))))))) ?_
      refine VC.condD rfl (fun hc2 => ?_) (fun hc2 => ?_)
      · skip
        obtain ⟨adF, hFe, hcell⟩ := FC_at (hF.rd.drawn (hd.trans (Drawn.drew _))) hc2
        have hcell0 := (FC_at (hF.rd.drawn hd) hc2)
        have hmem := List.getElem_mem hc2
        have hts := take_snoc hc2
        have hfo := hok _ hmem
        have hnn := hnmq _ hmem
        have hq11 := hpp false (k + 1)
        have hq12 := hpp true (k + 1)
        rw [hts, pickN_app] at hq11 hq12
        generalize hfe : (fieldsQ q)[k] = f at *
        obtain ⟨ho1, ho2, ho3, ho4⟩ := hfo
        refine VC.skip ?_
        refine thenQ_n ?_
        refine VC.sub [(5, _), (6, _), (8, _), (10, _), (11, _), (12, _), (13, _)] (.cons rfl (.cons rfl (.cons rfl (.cons rfl (.cons rfl (.cons rfl (.cons rfl .nil))))))) ?_
        refine VC.seq ?_
        refine VC.block ?_
        refine VC.seq ?_
        refine VC.still (by kernel_rfl) (by kernel_rfl) ?_
        refine SOps.r (Run.mv rfl) rfl ?_
        refine SOps.r (Run.mv rfl) rfl ?_
        refine SOps.r (Run.indexS k (by rw [← hFe]; rfl) rfl Tryz.underlying42 Tryz.sizeOf45 hc2) rfl ?_
        refine SOps.r (Run.fieldAddr rfl Tryz.underlying45 rfl Tryz.sizeOf3 (by decide)) rfl ?_
        refine SOps.r (Run.load rfl Tryz.isAgg3 (hcell 2 _ rfl)) rfl ?_
        refine SOps.r (Run.mv rfl) rfl ?_
        refine SOps.r (Run.mv rfl) rfl ?_
        refine SOps.r (Run.indexS k (by rw [← hFe]; rfl) rfl Tryz.underlying42 Tryz.sizeOf45 hc2) rfl ?_
        refine SOps.r (Run.fieldAddr rfl Tryz.underlying45 rfl Tryz.sizeOf3 (by decide)) rfl ?_
        refine SOps.r (Run.load rfl Tryz.isAgg3 (hcell 1 _ rfl)) rfl ?_
        refine SOps.r (Run.bin rfl rfl (Bin.sub_i64 f.tu f.frm ho4 (by omega))) rfl ?_
        refine SOps.r (Run.asg rfl) rfl ?_
        refine SOps.nil ?_
        refine thenQ_n ?_
        refine VC.sub [(5, _), (6, _), (8, _), (10, _), (11, _), (12, _), (13, _), (14, _)] (.cons rfl (.cons rfl (.cons rfl (.cons rfl (.cons rfl (.cons rfl (.cons rfl (.cons rfl .nil)))))))) ?_
        refine VC.seq ?_
        refine VC.region ?_
        refine Ops.r (Run.asg rfl) rfl ?_
        refine Ops.nil ?_
        refine thenQ_n ?_
        refine VC.seq ?_
        refine VC.seq ?_
        refine VC.region ?_
        refine Ops.r (v := .int .i64 ((0 : Nat) : Int)) (Run.asg rfl) rfl ?_
        refine Ops.nil ?_
        refine thenQ_n ?_
        refine VC.block ?_
        refine VC.loop (σ := Nat) (fun s => [(5, .pointer (some ⟨g5, 0, none⟩)), (6, .slice Ax (pickQ q ns false).length cx), (8, .slice Ay (pickQ q ns true).length cy), (10, .slice F (fieldsQ q).length fc), (11, .int .i64 (((pickN ns false ((fieldsQ q).take k)) : Nat) : Int)), (12, .int .i64 (((pickN ns true ((fieldsQ q).take k)) : Nat) : Int)), (13, .int .i64 ((k : Nat) : Int)), (14, .int .i64 (((f.tu - f.frm) : Nat) : Int)), (15, .bool (decide (NamedF (ns.take s) f))), (16, .int .i64 ((s : Nat) : Int))]) (fun s wr => s ≤ ns.length ∧ Drawn w9 wr) (fun s => ns.length - s) 0 (.cons rfl (.cons rfl (.cons rfl (.cons rfl (.cons rfl (.cons rfl (.cons rfl (.cons rfl (.cons (by rw [List.take_zero, decide_eq_false (show ¬ NamedF [] f from fun ⟨x, hx, _⟩ => by simp at hx)]; rfl) (.cons rfl .nil)))))))))) ⟨by omega, hd.trans (Drawn.drew _)⟩ ?_
        rintro j wj ⟨hj, hdj⟩
        refine VC.seq ?_
        refine VC.seq ?_
        refine VC.region ?_
        refine Ops.r (Run.mv rfl) rfl ?_
        refine Ops.r (Run.fieldAddr rfl Tryz.underlying38 rfl Tryz.sizeOf36 (by decide)) rfl ?_
        refine Ops.r (Run.load rfl Tryz.isAgg36 ((hb5.drawn hdj).cell 2)) rfl ?_
        refine Ops.r (Run.lenS rfl Tryz.underlying36) rfl ?_
        refine Ops.r (Run.bin rfl rfl (Bin.lssN _ _)) rfl ?_
        refine Ops.nil ?_
        refine thenQ_n ?_
        refine VC.sub [(5, _), (6, _), (8, _), (10, _), (11, _), (12, _), (13, _), (14, _), (15, _), (16, _), (86, _)] (.cons rfl (.cons rfl (.cons rfl (.cons rfl (.cons rfl (.cons rfl (.cons rfl (.cons rfl (.cons rfl (.cons rfl (.cons rfl .nil))))))))))) ?_
        refine VC.condD rfl (fun hc3 => ?_) (fun hc3 => ?_)
        · skip
          obtain ⟨adN, hNe, hcN⟩ := SB_at1 (hON.rd.drawn hdj) hc3
          have htn := take_snoc hc3
          have hnx := hne _ (List.getElem_mem hc3)
          generalize hx : ns[j] = x at *
          have hnf : NamedF (ns.take (j + 1)) f ↔ NamedF (ns.take j) f ∨ smallS x = smallS f.name := by
            rw [htn]
            constructor
            · rintro ⟨z, hz, he⟩
              rcases List.mem_append.1 hz with h | h
              · exact .inl ⟨z, h, he⟩
              · simp only [List.mem_singleton] at h
                subst h
                exact .inr he
            · rintro (⟨z, hz, he⟩ | he)
              · exact ⟨z, by simp [hz], he⟩
              · exact ⟨x, by simp, he⟩
          refine VC.skip ?_
          refine thenQ_n ?_
          refine VC.sub [(5, _), (6, _), (8, _), (10, _), (11, _), (12, _), (13, _), (14, _), (15, _), (16, _)] (.cons rfl (.cons rfl (.cons rfl (.cons rfl (.cons rfl (.cons rfl (.cons rfl (.cons rfl (.cons rfl (.cons rfl .nil)))))))))) ?_
          refine VC.seq ?_
          refine VC.block ?_
          refine VC.meet (σ := Unit) (fun s => [(5, .pointer (some ⟨g5, 0, none⟩)), (6, .slice Ax (pickQ q ns false).length cx), (8, .slice Ay (pickQ q ns true).length cy), (10, .slice F (fieldsQ q).length fc), (11, .int .i64 (((pickN ns false ((fieldsQ q).take k)) : Nat) : Int)), (12, .int .i64 (((pickN ns true ((fieldsQ q).take k)) : Nat) : Int)), (13, .int .i64 ((k : Nat) : Int)), (14, .int .i64 (((f.tu - f.frm) : Nat) : Int)), (15, .bool (decide (NamedF (ns.take (j + 1)) f))), (16, .int .i64 ((j : Nat) : Int))]) (fun s wz => Drawn w9 wz) ?_ ?_
          · skip
            refine VC.held (fun W => Drawn wj W) (by kernel_rfl) ?_
            have hS : Drawn wj wj.drew := Drawn.drew _
            have hcF := fun (W : World) (hW : Drawn wj W) => FC_at (hF.rd.drawn (hdj.trans hW)) hc2
            refine HOps.take 0 rfl (by kernel_rfl) (by kernel_rfl) (by kernel_rfl) hS (fun w0 hw0 => Run.mv rfl) trivial rfl rfl ?_
            refine HOps.take 1 rfl (by kernel_rfl) (by kernel_rfl) (by kernel_rfl) hS (fun w0 hw0 => Run.mv rfl) trivial rfl rfl ?_
            by_cases hs90 : NamedF (ns.take j) f
            · skip
              refine HOps.skip 2 rfl (by kernel_rfl) (by kernel_rfl) (by kernel_rfl) hS rfl rfl (decide_eq_true hs90) rfl rfl ?_
              refine HOps.skip 3 rfl (by kernel_rfl) (by kernel_rfl) (by kernel_rfl) hS rfl rfl (decide_eq_true hs90) rfl rfl ?_
              refine HOps.skip 4 rfl (by kernel_rfl) (by kernel_rfl) (by kernel_rfl) hS rfl rfl (decide_eq_true hs90) rfl rfl ?_
              refine HOps.skip 5 rfl (by kernel_rfl) (by kernel_rfl) (by kernel_rfl) hS rfl rfl (decide_eq_true hs90) rfl rfl ?_
              refine HOps.skip 6 rfl (by kernel_rfl) (by kernel_rfl) (by kernel_rfl) hS rfl rfl (decide_eq_true hs90) rfl rfl ?_
              refine HOps.skip 7 rfl (by kernel_rfl) (by kernel_rfl) (by kernel_rfl) hS rfl rfl (decide_eq_true hs90) rfl rfl ?_
              refine HOps.skip 8 rfl (by kernel_rfl) (by kernel_rfl) (by kernel_rfl) hS rfl rfl (decide_eq_true hs90) rfl rfl ?_
              refine HOps.skip 9 rfl (by kernel_rfl) (by kernel_rfl) (by kernel_rfl) hS rfl rfl (decide_eq_true hs90) rfl rfl ?_
              refine HOps.skip 10 rfl (by kernel_rfl) (by kernel_rfl) (by kernel_rfl) hS rfl rfl (decide_eq_true hs90) rfl rfl ?_
              refine HOps.skip 11 rfl (by kernel_rfl) (by kernel_rfl) (by kernel_rfl) hS rfl rfl (decide_eq_true hs90) rfl rfl ?_
              refine HOps.skip 12 rfl (by kernel_rfl) (by kernel_rfl) (by kernel_rfl) hS rfl rfl (decide_eq_true hs90) rfl rfl ?_
              refine HOps.take 13 rfl (by kernel_rfl) (by kernel_rfl) (by kernel_rfl) hS (fun w0 hw0 => Run.pickT rfl rfl (decide_eq_true hs90)) trivial rfl rfl ?_
              refine HOps.take 14 rfl (by kernel_rfl) (by kernel_rfl) (by kernel_rfl) hS (fun w0 hw0 => Run.asg rfl) trivial rfl rfl ?_
              refine HOps.done (by kernel_rfl) ?_
              refine thenQ_n ⟨(), (.cons rfl (.cons rfl (.cons rfl (.cons rfl (.cons rfl (.cons rfl (.cons rfl (.cons rfl (.cons (by rw [decide_eq_true (hnf.2 (.inl hs90))]; rfl) (.cons rfl .nil)))))))))), ?_⟩
              exact hdj.trans hS
            · skip
              refine HOps.take 2 rfl (by kernel_rfl) (by kernel_rfl) (by kernel_rfl) hS (fun w0 hw0 => Run.fieldAddr rfl Tryz.underlying38 rfl Tryz.sizeOf36 (by decide)) (Up.g rfl ((decide_eq_false hs90))) rfl rfl ?_
              refine HOps.take 3 rfl (by kernel_rfl) (by kernel_rfl) (by kernel_rfl) hS (fun w0 hw0 => Run.load rfl Tryz.isAgg36 ((hb5.drawn (hdj.trans hw0)).cell 2)) (Up.g rfl ((decide_eq_false hs90))) rfl rfl ?_
              refine HOps.take 4 rfl (by kernel_rfl) (by kernel_rfl) (by kernel_rfl) hS (fun w0 hw0 => Run.mv rfl) (Up.g rfl ((decide_eq_false hs90))) rfl rfl ?_
              refine HOps.take 5 rfl (by kernel_rfl) (by kernel_rfl) (by kernel_rfl) hS (fun w0 hw0 => Run.indexS j (by rw [← hNe]; rfl) rfl Tryz.underlying36 Tryz.sizeOf9 hc3) (Up.g rfl ((decide_eq_false hs90))) rfl rfl ?_
              refine HOps.take 6 rfl (by kernel_rfl) (by kernel_rfl) (by kernel_rfl) hS (fun w0 hw0 => Run.load rfl Tryz.isAgg9 (by obtain ⟨ad2, he2, hc2_⟩ := SB_at1 (hON.rd.drawn (hdj.trans hw0)) hc3; cases hNe.symm.trans he2; rw [hx] at hc2_; exact hc2_)) (Up.g rfl ((decide_eq_false hs90))) rfl rfl ?_
              refine HOps.take 7 rfl (by kernel_rfl) (by kernel_rfl) (by kernel_rfl) hS (fun w0 hw0 => Run.mv rfl) (Up.g rfl ((decide_eq_false hs90))) rfl rfl ?_
              refine HOps.take 8 rfl (by kernel_rfl) (by kernel_rfl) (by kernel_rfl) hS (fun w0 hw0 => Run.mv rfl) (Up.g rfl ((decide_eq_false hs90))) rfl rfl ?_
              refine HOps.take 9 rfl (by kernel_rfl) (by kernel_rfl) (by kernel_rfl) hS (fun w0 hw0 => Run.indexS k (by rw [← hFe]; rfl) rfl Tryz.underlying42 Tryz.sizeOf45 hc2) (Up.g rfl ((decide_eq_false hs90))) rfl rfl ?_
              refine HOps.take 10 rfl (by kernel_rfl) (by kernel_rfl) (by kernel_rfl) hS (fun w0 hw0 => Run.fieldAddr rfl Tryz.underlying45 rfl Tryz.sizeOf9 (by decide)) (Up.g rfl ((decide_eq_false hs90))) rfl rfl ?_
              refine HOps.take 11 rfl (by kernel_rfl) (by kernel_rfl) (by kernel_rfl) hS (fun w0 hw0 => Run.load rfl Tryz.isAgg9 (by obtain ⟨ad2, he2, hc2_⟩ := hcF _ hw0; cases hFe.symm.trans he2; rw [hfe] at hc2_; exact hc2_ 0 _ rfl)) (Up.g rfl ((decide_eq_false hs90))) rfl rfl ?_
              refine HOps.cl 12 rfl (by kernel_rfl) (Enters.fn (evs.cons rfl (evs.cons rfl evs.nil)) Tryz.call24) ((halike_spec x f.name _ (by omega) (by omega))) (Up.g rfl ((decide_eq_false hs90))) rfl rfl ?_
              rintro e wa ⟨rfl, hda⟩
              have hS := hS.trans hda
              refine ⟨_, rfl, hS, ?_⟩
              refine HOps.take 13 rfl (by kernel_rfl) (by kernel_rfl) (by kernel_rfl) hS (fun w0 hw0 => Run.pickF rfl rfl (decide_eq_false hs90)) trivial rfl rfl ?_
              refine HOps.take 14 rfl (by kernel_rfl) (by kernel_rfl) (by kernel_rfl) hS (fun w0 hw0 => Run.asg rfl) trivial rfl rfl ?_
              refine HOps.done (by kernel_rfl) ?_
              refine thenQ_n ⟨(), (.cons rfl (.cons rfl (.cons rfl (.cons rfl (.cons rfl (.cons rfl (.cons rfl (.cons rfl (.cons (by rw [decide_eq_decide.2 (show NamedF (ns.take (j + 1)) f ↔ smallS x = smallS f.name from ⟨fun h => (hnf.1 h).resolve_left hs90, fun h => hnf.2 (.inr h)⟩)]; rfl) (.cons rfl .nil)))))))))), ?_⟩
              exact hdj.trans hS
          · skip
            rintro _ wz hdj Γ hΓ
            refine blockQ_n (thenQ_n (VC.sub _ hΓ ?_))
            refine VC.region ?_
            refine Ops.r (Run.mv rfl) rfl ?_
            refine Ops.r (Run.bin rfl rfl (Bin.add_i64 _ 1 (by omega))) rfl ?_
            refine Ops.r (Run.asg rfl) rfl ?_
            refine Ops.nil ?_
            refine thenQ_n ⟨(j + 1), (.cons rfl (.cons rfl (.cons rfl (.cons rfl (.cons rfl (.cons rfl (.cons rfl (.cons rfl (.cons rfl (.cons rfl .nil)))))))))), ?_, ?_⟩
            · skip
              exact ⟨hc3, hdj⟩
            · skip
              first | omega | (dsimp only; omega)
        · skip
          have hjl : j = ns.length := by omega
          subst hjl
          rw [List.take_length]
          refine VC.exit ?_
          refine thenQ_x (thenQ_x (blockQ_x ?_))
          refine thenQ_n ?_
          refine VC.sub [(5, _), (6, _), (8, _), (10, _), (11, _), (12, _), (13, _), (14, _), (15, _)] (.cons rfl (.cons rfl (.cons rfl (.cons rfl (.cons rfl (.cons rfl (.cons rfl (.cons rfl (.cons rfl .nil))))))))) ?_
          refine VC.seq ?_
          refine VC.region ?_
          refine Ops.r (Run.mv rfl) rfl ?_
          refine Ops.nil ?_
          refine thenQ_n ?_
          refine VC.sub [(5, _), (6, _), (8, _), (10, _), (11, _), (12, _), (13, _), (14, _), (103, _)] (.cons rfl (.cons rfl (.cons rfl (.cons rfl (.cons rfl (.cons rfl (.cons rfl (.cons rfl (.cons rfl .nil))))))))) ?_
          refine VC.meet (σ := Unit) (fun s => [(5, .pointer (some ⟨g5, 0, none⟩)), (6, .slice Ax (pickQ q ns false).length cx), (8, .slice Ay (pickQ q ns true).length cy), (10, .slice F (fieldsQ q).length fc), (11, .int .i64 (((pickN ns false ((fieldsQ q).take (k + 1))) : Nat) : Int)), (12, .int .i64 (((pickN ns true ((fieldsQ q).take (k + 1))) : Nat) : Int)), (13, .int .i64 ((k : Nat) : Int))]) (fun s wz => Drawn w9 wz) ?_ ?_
          · skip
            refine VC.condB rfl (fun hc4 => ?_) (fun hc4 => ?_)
            · skip
              have hpa : pickN ns false ((fieldsQ q).take (k + 1)) = pickN ns false ((fieldsQ q).take k) + (f.tu - f.frm) := by
                rw [hts, pickN_app]
                congr 1
                simp [pickN, hc4]
              have hpb : pickN ns true ((fieldsQ q).take (k + 1)) = pickN ns true ((fieldsQ q).take k) := by
                rw [hts, pickN_app]
                simp [pickN, hc4]
              have hq21 := hpp false (k + 1)
              rw [hpa] at hq21
              refine VC.region ?_
              refine Ops.r (Run.mv rfl) rfl ?_
              refine Ops.r (Run.mv rfl) rfl ?_
              refine Ops.r (Run.bin rfl rfl (Bin.add_i64 _ _ (by omega))) rfl ?_
              refine Ops.r (Run.asg rfl) rfl ?_
              refine Ops.nil ?_
              refine thenQ_n ⟨(), (.cons rfl (.cons rfl (.cons rfl (.cons rfl (.cons (by rw [hpa]; rfl) (.cons (by rw [hpb]; rfl) (.cons rfl .nil))))))), ?_⟩
              exact hdj
            · skip
              have hpa : pickN ns true ((fieldsQ q).take (k + 1)) = pickN ns true ((fieldsQ q).take k) + (f.tu - f.frm) := by
                rw [hts, pickN_app]
                congr 1
                simp [pickN, hc4]
              have hpb : pickN ns false ((fieldsQ q).take (k + 1)) = pickN ns false ((fieldsQ q).take k) := by
                rw [hts, pickN_app]
                simp [pickN, hc4]
              have hq21 := hpp true (k + 1)
              rw [hpa] at hq21
              refine VC.region ?_
              refine Ops.r (Run.mv rfl) rfl ?_
              refine Ops.r (Run.mv rfl) rfl ?_
              refine Ops.r (Run.bin rfl rfl (Bin.add_i64 _ _ (by omega))) rfl ?_
              refine Ops.r (Run.asg rfl) rfl ?_
              refine Ops.nil ?_
              refine thenQ_n ⟨(), (.cons rfl (.cons rfl (.cons rfl (.cons rfl (.cons (by rw [hpb]; rfl) (.cons (by rw [hpa]; rfl) (.cons rfl .nil))))))), ?_⟩
              exact hdj
          · skip
            rintro _ wz hdj Γ hΓ
            refine blockQ_n (thenQ_n (VC.sub _ hΓ ?_))
            refine VC.region ?_
            refine Ops.r (Run.mv rfl) rfl ?_
            refine Ops.r (Run.bin rfl rfl (Bin.add_i64 _ 1 (by omega))) rfl ?_
            refine Ops.r (Run.asg rfl) rfl ?_
            refine Ops.nil ?_
            refine thenQ_n ⟨(k + 1), (.cons rfl (.cons rfl (.cons rfl (.cons rfl (.cons rfl (.cons rfl (.cons rfl .nil))))))), ?_, ?_⟩
            · skip
              exact ⟨hc2, hdj⟩
            · skip
              first | omega | (dsimp only; omega)
      · skip
        have hkl : k = (fieldsQ q).length := by omega
        subst hkl
        rw [List.take_length]
        have K := K.drawn hd
        have hb5 := hb5.drawn hd
        have hOx := hOx.drawn hd
        have hOy := hOy.drawn hd
        have hcx := hOx.le
        have hcy := hOy.le
        have hrx := U8_cutN hOx.rd (show pickN ns false (fieldsQ q) ≤ (pickQ q ns false).length by omega) (Nat.le_refl _) hcx
        have hry := U8_cutN hOy.rd (show pickN ns true (fieldsQ q) ≤ (pickQ q ns true).length by omega) (Nat.le_refl _) hcy
        rw [pickQ_drop] at hrx hry
        refine VC.exit ?_
        refine thenQ_x (thenQ_x (blockQ_x ?_))
        refine thenQ_n ?_
        refine VC.sub [(6, _), (8, _), (11, _), (12, _)] (.cons rfl (.cons rfl (.cons rfl (.cons rfl .nil)))) ?_
        refine VC.seq ?_
        refine VC.region ?_
        refine Ops.r (Run.mv rfl) rfl ?_
        refine Ops.r (Run.lenS rfl Tryz.underlying22) rfl ?_
        refine Ops.r (Run.mv rfl) rfl ?_
        refine Ops.r (Run.bin rfl rfl (Bin.sub_i64 (pickQ q ns false).length (pickN ns false (fieldsQ q)) (by omega) (by omega))) rfl ?_
        have hE1 : (pickQ q ns false).length - pickN ns false (fieldsQ q) = (hendQ q).length := by omega
        have hE2 : (pickQ q ns true).length - pickN ns true (fieldsQ q) = (hendQ q).length := by omega
        rw [hE1]
        refine Ops.r (Run.asg rfl) rfl ?_
        refine Ops.nil ?_
        refine thenQ_n ?_
        refine VC.sub [(6, _), (8, _), (11, _), (12, _), (17, _)] (.cons rfl (.cons rfl (.cons rfl (.cons rfl (.cons rfl .nil))))) ?_
        refine VC.seq ?_
        refine VC.meet (σ := Unit) (fun s => [(4, .bool true)]) (fun s wz => Frm [] w wz) ?_ ?_
        · skip
          refine VC.held (fun W => Frm [] wr W) (by kernel_rfl) ?_
          have hS : Frm [] wr wr.drew := (Frm.refl _ _).drew
          refine HOps.take 0 rfl (by kernel_rfl) (by kernel_rfl) (by kernel_rfl) hS (fun w0 hw0 => Run.mv rfl) trivial rfl rfl ?_
          refine HOps.take 1 rfl (by kernel_rfl) (by kernel_rfl) (by kernel_rfl) hS (fun w0 hw0 => Run.bin rfl rfl (Bin.eqlN _ 1)) trivial rfl rfl ?_
          by_cases hs115 : (hendQ q).length = 1
          · skip
            refine HOps.take 2 rfl (by kernel_rfl) (by kernel_rfl) (by kernel_rfl) hS (fun w0 hw0 => Run.mv rfl) trivial rfl rfl ?_
            refine HOps.skip 3 rfl (by kernel_rfl) (by kernel_rfl) (by kernel_rfl) hS rfl rfl (decide_eq_true hs115) rfl rfl ?_
            refine HOps.skip 4 rfl (by kernel_rfl) (by kernel_rfl) (by kernel_rfl) hS rfl rfl (decide_eq_true hs115) rfl rfl ?_
            refine HOps.take 5 rfl (by kernel_rfl) (by kernel_rfl) (by kernel_rfl) hS (fun w0 hw0 => Run.pickT rfl rfl (decide_eq_true hs115)) trivial rfl rfl ?_
            refine HOps.take 6 rfl (by kernel_rfl) (by kernel_rfl) (by kernel_rfl) hS (fun w0 hw0 => Run.mv rfl) trivial rfl rfl ?_
            refine HOps.take 7 rfl (by kernel_rfl) (by kernel_rfl) (by kernel_rfl) hS (fun w0 hw0 => Run.mv rfl) (Up.g rfl (by first | rfl | assumption | exact decide_eq_true (by assumption) | exact decide_eq_false (by assumption) | decide | (simp; done) | (simp; omega) | (simp [*]; done))) rfl rfl ?_
            refine HOps.take 8 rfl (by kernel_rfl) (by kernel_rfl) (by kernel_rfl) hS (fun w0 hw0 => Run.lenS rfl Tryz.underlying22) (Up.g rfl (by first | rfl | assumption | exact decide_eq_true (by assumption) | exact decide_eq_false (by assumption) | decide | (simp; done) | (simp; omega) | (simp [*]; done))) rfl rfl ?_
            refine HOps.take 9 rfl (by kernel_rfl) (by kernel_rfl) (by kernel_rfl) hS (fun w0 hw0 => Run.mv rfl) (Up.g rfl (by first | rfl | assumption | exact decide_eq_true (by assumption) | exact decide_eq_false (by assumption) | decide | (simp; done) | (simp; omega) | (simp [*]; done))) rfl rfl ?_
            refine HOps.take 10 rfl (by kernel_rfl) (by kernel_rfl) (by kernel_rfl) hS (fun w0 hw0 => Run.bin rfl rfl (Bin.sub_i64 (pickQ q ns true).length (pickN ns true (fieldsQ q)) (by omega) (by omega))) (Up.g rfl (by first | rfl | assumption | exact decide_eq_true (by assumption) | exact decide_eq_false (by assumption) | decide | (simp; done) | (simp; omega) | (simp [*]; done))) rfl rfl ?_
            rw [hE2]
            refine HOps.take 11 rfl (by kernel_rfl) (by kernel_rfl) (by kernel_rfl) hS (fun w0 hw0 => Run.mv rfl) (Up.g rfl (by first | rfl | assumption | exact decide_eq_true (by assumption) | exact decide_eq_false (by assumption) | decide | (simp; done) | (simp; omega) | (simp [*]; done))) rfl rfl ?_
            refine HOps.take 12 rfl (by kernel_rfl) (by kernel_rfl) (by kernel_rfl) hS (fun w0 hw0 => Run.bin rfl rfl (Bin.eqlN _ _)) (Up.g rfl (by first | rfl | assumption | exact decide_eq_true (by assumption) | exact decide_eq_false (by assumption) | decide | (simp; done) | (simp; omega) | (simp [*]; done))) rfl rfl ?_
            refine HOps.take 13 rfl (by kernel_rfl) (by kernel_rfl) (by kernel_rfl) hS (fun w0 hw0 => Run.pickT rfl rfl (by first | rfl | assumption | exact decide_eq_true (by assumption) | exact decide_eq_false (by assumption) | decide | (simp; done) | (simp; omega) | (simp [*]; done))) trivial rfl rfl ?_
            refine HOps.take 14 rfl (by kernel_rfl) (by kernel_rfl) (by kernel_rfl) hS (fun w0 hw0 => Run.mv rfl) trivial rfl rfl ?_
            refine HOps.take 15 rfl (by kernel_rfl) (by kernel_rfl) (by kernel_rfl) hS (fun w0 hw0 => Run.mv rfl) (Up.g rfl (by first | rfl | assumption | exact decide_eq_true (by assumption) | exact decide_eq_false (by assumption) | decide | (simp; done) | (simp; omega) | (simp [*]; done))) rfl rfl ?_
            refine HOps.take 16 rfl (by kernel_rfl) (by kernel_rfl) (by kernel_rfl) hS (fun w0 hw0 => Run.mv rfl) (Up.g rfl (by first | rfl | assumption | exact decide_eq_true (by assumption) | exact decide_eq_false (by assumption) | decide | (simp; done) | (simp; omega) | (simp [*]; done))) rfl rfl ?_
            refine HOps.take 17 rfl (by kernel_rfl) (by kernel_rfl) (by kernel_rfl) hS (fun w0 hw0 => Run.sliceS (pickN ns false (fieldsQ q)) (pickQ q ns false).length rfl Tryz.underlying22 Tryz.sizeOf5 (evB.some_ rfl) evB.none_ (by omega) (by omega)) (Up.g rfl (by first | rfl | assumption | exact decide_eq_true (by assumption) | exact decide_eq_false (by assumption) | decide | (simp; done) | (simp; omega) | (simp [*]; done))) rfl rfl ?_
            refine HOps.take 18 rfl (by kernel_rfl) (by kernel_rfl) (by kernel_rfl) hS (fun w0 hw0 => Run.strOfT rfl Tryz.underlying22 Tryz.underlying5 Tryz.underlying9 (hrx.frm hw0 (by simp))) (Up.g rfl (by first | rfl | assumption | exact decide_eq_true (by assumption) | exact decide_eq_false (by assumption) | decide | (simp; done) | (simp; omega) | (simp [*]; done))) rfl rfl ?_
            refine HOps.take 19 rfl (by kernel_rfl) (by kernel_rfl) (by kernel_rfl) hS (fun w0 hw0 => Run.mv rfl) (Up.g rfl (by first | rfl | assumption | exact decide_eq_true (by assumption) | exact decide_eq_false (by assumption) | decide | (simp; done) | (simp; omega) | (simp [*]; done))) rfl rfl ?_
            refine HOps.take 20 rfl (by kernel_rfl) (by kernel_rfl) (by kernel_rfl) hS (fun w0 hw0 => Run.mv rfl) (Up.g rfl (by first | rfl | assumption | exact decide_eq_true (by assumption) | exact decide_eq_false (by assumption) | decide | (simp; done) | (simp; omega) | (simp [*]; done))) rfl rfl ?_
            refine HOps.take 21 rfl (by kernel_rfl) (by kernel_rfl) (by kernel_rfl) hS (fun w0 hw0 => Run.sliceS (pickN ns true (fieldsQ q)) (pickQ q ns true).length rfl Tryz.underlying22 Tryz.sizeOf5 (evB.some_ rfl) evB.none_ (by omega) (by omega)) (Up.g rfl (by first | rfl | assumption | exact decide_eq_true (by assumption) | exact decide_eq_false (by assumption) | decide | (simp; done) | (simp; omega) | (simp [*]; done))) rfl rfl ?_
            refine HOps.take 22 rfl (by kernel_rfl) (by kernel_rfl) (by kernel_rfl) hS (fun w0 hw0 => Run.strOfT rfl Tryz.underlying22 Tryz.underlying5 Tryz.underlying9 (hry.frm hw0 (by simp))) (Up.g rfl (by first | rfl | assumption | exact decide_eq_true (by assumption) | exact decide_eq_false (by assumption) | decide | (simp; done) | (simp; omega) | (simp [*]; done))) rfl rfl ?_
            refine HOps.take 23 rfl (by kernel_rfl) (by kernel_rfl) (by kernel_rfl) hS (fun w0 hw0 => Run.eqlT rfl rfl) (Up.g rfl (by first | rfl | assumption | exact decide_eq_true (by assumption) | exact decide_eq_false (by assumption) | decide | (simp; done) | (simp; omega) | (simp [*]; done))) rfl rfl ?_
            refine HOps.take 24 rfl (by kernel_rfl) (by kernel_rfl) (by kernel_rfl) hS (fun w0 hw0 => Run.pickT rfl rfl (by first | rfl | assumption | exact decide_eq_true (by assumption) | exact decide_eq_false (by assumption) | decide | (simp; done) | (simp; omega) | (simp [*]; done))) trivial rfl rfl ?_
            refine HOps.take 25 rfl (by kernel_rfl) (by kernel_rfl) (by kernel_rfl) hS (fun w0 hw0 => Run.mv rfl) trivial rfl rfl ?_
            refine HOps.cl 26 rfl (by kernel_rfl) (Enters.fn evs.nil Tryz.call20) ((awake21_spec _ (hv.frm0 (K.trans hS (by simp))))) (Up.g rfl (by first | rfl | assumption | exact decide_eq_true (by assumption) | exact decide_eq_false (by assumption) | decide | (simp; done) | (simp; omega) | (simp [*]; done))) rfl rfl ?_
            rintro e wf ⟨rfl, ff⟩
            have hS := hS.trans ff (by simp)
            refine ⟨_, rfl, hS, ?_⟩
            refine HOps.take 27 rfl (by kernel_rfl) (by kernel_rfl) (by kernel_rfl) hS (fun w0 hw0 => Run.pickT rfl rfl (by first | rfl | assumption | exact decide_eq_true (by assumption) | exact decide_eq_false (by assumption) | decide | (simp; done) | (simp; omega) | (simp [*]; done))) trivial rfl rfl ?_
            refine HOps.take 28 rfl (by kernel_rfl) (by kernel_rfl) (by kernel_rfl) hS (fun w0 hw0 => Run.asg rfl) trivial rfl rfl ?_
            refine HOps.done (by kernel_rfl) ?_
            refine thenQ_n ⟨(), (.cons rfl .nil), ?_⟩
            exact K.trans hS (by simp)
          · skip
            have hE3 := hE.resolve_left hs115
            refine HOps.take 2 rfl (by kernel_rfl) (by kernel_rfl) (by kernel_rfl) hS (fun w0 hw0 => Run.mv rfl) trivial rfl rfl ?_
            refine HOps.take 3 rfl (by kernel_rfl) (by kernel_rfl) (by kernel_rfl) hS (fun w0 hw0 => Run.mv rfl) (Up.g rfl ((decide_eq_false hs115))) rfl rfl ?_
            refine HOps.take 4 rfl (by kernel_rfl) (by kernel_rfl) (by kernel_rfl) hS (fun w0 hw0 => Run.bin rfl rfl (Bin.eqlN _ 2)) (Up.g rfl ((decide_eq_false hs115))) rfl rfl ?_
            refine HOps.take 5 rfl (by kernel_rfl) (by kernel_rfl) (by kernel_rfl) hS (fun w0 hw0 => Run.pickF rfl rfl (decide_eq_false hs115)) trivial rfl rfl ?_
            refine HOps.take 6 rfl (by kernel_rfl) (by kernel_rfl) (by kernel_rfl) hS (fun w0 hw0 => Run.mv rfl) trivial rfl rfl ?_
            refine HOps.take 7 rfl (by kernel_rfl) (by kernel_rfl) (by kernel_rfl) hS (fun w0 hw0 => Run.mv rfl) (Up.g rfl (by first | rfl | assumption | exact decide_eq_true (by assumption) | exact decide_eq_false (by assumption) | decide | (simp; done) | (simp; omega) | (simp [*]; done))) rfl rfl ?_
            refine HOps.take 8 rfl (by kernel_rfl) (by kernel_rfl) (by kernel_rfl) hS (fun w0 hw0 => Run.lenS rfl Tryz.underlying22) (Up.g rfl (by first | rfl | assumption | exact decide_eq_true (by assumption) | exact decide_eq_false (by assumption) | decide | (simp; done) | (simp; omega) | (simp [*]; done))) rfl rfl ?_
            refine HOps.take 9 rfl (by kernel_rfl) (by kernel_rfl) (by kernel_rfl) hS (fun w0 hw0 => Run.mv rfl) (Up.g rfl (by first | rfl | assumption | exact decide_eq_true (by assumption) | exact decide_eq_false (by assumption) | decide | (simp; done) | (simp; omega) | (simp [*]; done))) rfl rfl ?_
            refine HOps.take 10 rfl (by kernel_rfl) (by kernel_rfl) (by kernel_rfl) hS (fun w0 hw0 => Run.bin rfl rfl (Bin.sub_i64 (pickQ q ns true).length (pickN ns true (fieldsQ q)) (by omega) (by omega))) (Up.g rfl (by first | rfl | assumption | exact decide_eq_true (by assumption) | exact decide_eq_false (by assumption) | decide | (simp; done) | (simp; omega) | (simp [*]; done))) rfl rfl ?_
            rw [hE2]
            refine HOps.take 11 rfl (by kernel_rfl) (by kernel_rfl) (by kernel_rfl) hS (fun w0 hw0 => Run.mv rfl) (Up.g rfl (by first | rfl | assumption | exact decide_eq_true (by assumption) | exact decide_eq_false (by assumption) | decide | (simp; done) | (simp; omega) | (simp [*]; done))) rfl rfl ?_
            refine HOps.take 12 rfl (by kernel_rfl) (by kernel_rfl) (by kernel_rfl) hS (fun w0 hw0 => Run.bin rfl rfl (Bin.eqlN _ _)) (Up.g rfl (by first | rfl | assumption | exact decide_eq_true (by assumption) | exact decide_eq_false (by assumption) | decide | (simp; done) | (simp; omega) | (simp [*]; done))) rfl rfl ?_
            refine HOps.take 13 rfl (by kernel_rfl) (by kernel_rfl) (by kernel_rfl) hS (fun w0 hw0 => Run.pickT rfl rfl (by first | rfl | assumption | exact decide_eq_true (by assumption) | exact decide_eq_false (by assumption) | decide | (simp; done) | (simp; omega) | (simp [*]; done))) trivial rfl rfl ?_
            refine HOps.take 14 rfl (by kernel_rfl) (by kernel_rfl) (by kernel_rfl) hS (fun w0 hw0 => Run.mv rfl) trivial rfl rfl ?_
            refine HOps.take 15 rfl (by kernel_rfl) (by kernel_rfl) (by kernel_rfl) hS (fun w0 hw0 => Run.mv rfl) (Up.g rfl (by first | rfl | assumption | exact decide_eq_true (by assumption) | exact decide_eq_false (by assumption) | decide | (simp; done) | (simp; omega) | (simp [*]; done))) rfl rfl ?_
            refine HOps.take 16 rfl (by kernel_rfl) (by kernel_rfl) (by kernel_rfl) hS (fun w0 hw0 => Run.mv rfl) (Up.g rfl (by first | rfl | assumption | exact decide_eq_true (by assumption) | exact decide_eq_false (by assumption) | decide | (simp; done) | (simp; omega) | (simp [*]; done))) rfl rfl ?_
            refine HOps.take 17 rfl (by kernel_rfl) (by kernel_rfl) (by kernel_rfl) hS (fun w0 hw0 => Run.sliceS (pickN ns false (fieldsQ q)) (pickQ q ns false).length rfl Tryz.underlying22 Tryz.sizeOf5 (evB.some_ rfl) evB.none_ (by omega) (by omega)) (Up.g rfl (by first | rfl | assumption | exact decide_eq_true (by assumption) | exact decide_eq_false (by assumption) | decide | (simp; done) | (simp; omega) | (simp [*]; done))) rfl rfl ?_
            refine HOps.take 18 rfl (by kernel_rfl) (by kernel_rfl) (by kernel_rfl) hS (fun w0 hw0 => Run.strOfT rfl Tryz.underlying22 Tryz.underlying5 Tryz.underlying9 (hrx.frm hw0 (by simp))) (Up.g rfl (by first | rfl | assumption | exact decide_eq_true (by assumption) | exact decide_eq_false (by assumption) | decide | (simp; done) | (simp; omega) | (simp [*]; done))) rfl rfl ?_
            refine HOps.take 19 rfl (by kernel_rfl) (by kernel_rfl) (by kernel_rfl) hS (fun w0 hw0 => Run.mv rfl) (Up.g rfl (by first | rfl | assumption | exact decide_eq_true (by assumption) | exact decide_eq_false (by assumption) | decide | (simp; done) | (simp; omega) | (simp [*]; done))) rfl rfl ?_
            refine HOps.take 20 rfl (by kernel_rfl) (by kernel_rfl) (by kernel_rfl) hS (fun w0 hw0 => Run.mv rfl) (Up.g rfl (by first | rfl | assumption | exact decide_eq_true (by assumption) | exact decide_eq_false (by assumption) | decide | (simp; done) | (simp; omega) | (simp [*]; done))) rfl rfl ?_
            refine HOps.take 21 rfl (by kernel_rfl) (by kernel_rfl) (by kernel_rfl) hS (fun w0 hw0 => Run.sliceS (pickN ns true (fieldsQ q)) (pickQ q ns true).length rfl Tryz.underlying22 Tryz.sizeOf5 (evB.some_ rfl) evB.none_ (by omega) (by omega)) (Up.g rfl (by first | rfl | assumption | exact decide_eq_true (by assumption) | exact decide_eq_false (by assumption) | decide | (simp; done) | (simp; omega) | (simp [*]; done))) rfl rfl ?_
            refine HOps.take 22 rfl (by kernel_rfl) (by kernel_rfl) (by kernel_rfl) hS (fun w0 hw0 => Run.strOfT rfl Tryz.underlying22 Tryz.underlying5 Tryz.underlying9 (hry.frm hw0 (by simp))) (Up.g rfl (by first | rfl | assumption | exact decide_eq_true (by assumption) | exact decide_eq_false (by assumption) | decide | (simp; done) | (simp; omega) | (simp [*]; done))) rfl rfl ?_
            refine HOps.take 23 rfl (by kernel_rfl) (by kernel_rfl) (by kernel_rfl) hS (fun w0 hw0 => Run.eqlT rfl rfl) (Up.g rfl (by first | rfl | assumption | exact decide_eq_true (by assumption) | exact decide_eq_false (by assumption) | decide | (simp; done) | (simp; omega) | (simp [*]; done))) rfl rfl ?_
            refine HOps.take 24 rfl (by kernel_rfl) (by kernel_rfl) (by kernel_rfl) hS (fun w0 hw0 => Run.pickT rfl rfl (by first | rfl | assumption | exact decide_eq_true (by assumption) | exact decide_eq_false (by assumption) | decide | (simp; done) | (simp; omega) | (simp [*]; done))) trivial rfl rfl ?_
            refine HOps.take 25 rfl (by kernel_rfl) (by kernel_rfl) (by kernel_rfl) hS (fun w0 hw0 => Run.mv rfl) trivial rfl rfl ?_
            refine HOps.cl 26 rfl (by kernel_rfl) (Enters.fn evs.nil Tryz.call20) ((awake21_spec _ (hv.frm0 (K.trans hS (by simp))))) (Up.g rfl (by first | rfl | assumption | exact decide_eq_true (by assumption) | exact decide_eq_false (by assumption) | decide | (simp; done) | (simp; omega) | (simp [*]; done))) rfl rfl ?_
            rintro e wf ⟨rfl, ff⟩
            have hS := hS.trans ff (by simp)
            refine ⟨_, rfl, hS, ?_⟩
            refine HOps.take 27 rfl (by kernel_rfl) (by kernel_rfl) (by kernel_rfl) hS (fun w0 hw0 => Run.pickT rfl rfl (by first | rfl | assumption | exact decide_eq_true (by assumption) | exact decide_eq_false (by assumption) | decide | (simp; done) | (simp; omega) | (simp [*]; done))) trivial rfl rfl ?_
            refine HOps.take 28 rfl (by kernel_rfl) (by kernel_rfl) (by kernel_rfl) hS (fun w0 hw0 => Run.asg rfl) trivial rfl rfl ?_
            refine HOps.done (by kernel_rfl) ?_
            refine thenQ_n ⟨(), (.cons rfl .nil), ?_⟩
            exact K.trans hS (by simp)
        · skip
          rintro _ wz K Γ hΓ
          refine thenQ_n (VC.sub _ hΓ ?_)
          refine VC.ret ?_
          refine end1 rfl ?_
          exact ⟨rfl, K⟩

end Go.Proofs.YtenbjndldenkfaaGreatDoor

