/-
  The walks of seqset: texts cut at a sign.
-/
import Derived.Test.YtnllhddbgkeboaaDoorSeqP
import Derived.Test.YtnllhddbgkeboaaDoorShelf
namespace Go.Proofs.YtnllhddbgkeboaaDoor
open Go.RowKit Go.Sort

theorem index1_spec (s : Tx) (c : UInt8) (w : World) : Calls Tryd.prog 79 #[encStr s, encStr [c]] w fun e w' => e = .returned (.int .i64 (Lib.indexByte s c)) ∧ w = w' :=
  (Tryd.stringslite_Index_one ⟨s.toArray⟩ c w).mono fun e w' ⟨h, hw⟩ => ⟨h, hw.symm⟩
theorem sindex1_spec (s : Tx) (c : UInt8) (w : World) : Calls Tryd.prog 105 #[encStr s, encStr [c]] w fun e w' => e = .returned (.int .i64 (Lib.indexByte s c)) ∧ w = w' :=
  (Tryd.strings_Index_one ⟨s.toArray⟩ c w).mono fun e w' ⟨h, hw⟩ => ⟨h, hw.symm⟩

set_option maxRecDepth 100000 in
theorem lcut_spec (s : Tx) (c : UInt8) (w : World) (hs : s.length ≤ 1000000) : Calls Tryd.prog 61 #[encStr s, encStr [c]] w fun e w' => e = .returned (.tuple #[encStr (befF c s), encStr (aftF c s), .bool (decide (c ∈ s))]) ∧ Frm [] w w' := by
  refine VC.calls (nt := 23) (res := #[.tmp 4, .tmp 5, .tmp 6]) Tryd.func61 rfl Tryd.ntmps61 Tryd.results61 rfl ?_
  refine VC.seq ?_
  refine VC.region ?_
  refine Ops.r (Run.asg rfl) rfl ?_
  refine Ops.r (Run.asg rfl) rfl ?_
  refine Ops.r (Run.asg rfl) rfl ?_
  refine Ops.nil ?_
  refine thenQ_n ?_
  refine VC.sub [(0, _), (1, _)] (.cons rfl (.cons rfl .nil)) ?_
  refine VC.seq ?_
  refine VC.seq ?_
  refine VC.region ?_
  refine Ops.r (Run.mv rfl) rfl ?_
  refine Ops.r (Run.mv rfl) rfl ?_
  refine Ops.cl (Enters.fn (evs.cons rfl (evs.cons rfl evs.nil)) Tryd.call79) (index1_spec s c _) rfl ?_
  rintro e _ ⟨rfl, rfl⟩
  refine ⟨_, rfl, ?_⟩
  refine Ops.r (Run.asg rfl) rfl ?_
  refine Ops.nil ?_
  refine thenQ_n ?_
  refine VC.sub [(0, _), (1, _), (7, _)] (.cons rfl (.cons rfl (.cons rfl .nil))) ?_
  refine VC.seq ?_
  refine VC.region ?_
  refine Ops.r (Run.mv rfl) rfl ?_
  refine Ops.r (Run.bin rfl rfl (Bin.geq _ 0)) rfl ?_
  refine Ops.nil ?_
  refine thenQ_n ?_
  refine VC.sub [(0, _), (1, _), (7, _), (12, _)] (.cons rfl (.cons rfl (.cons rfl (.cons rfl .nil)))) ?_
  refine VC.condD rfl (fun hc1 => ?_) (fun hc1 => ?_)
  · skip
    obtain ⟨a, b, rfl, hc, hi⟩ := (idxB_cases s c).resolve_left (fun h => by rw [h.1] at hc1; omega)
    rw [hi]
    obtain ⟨hb1, hb2⟩ := bef_at (b := b) hc
    simp only [List.length_append, List.length_cons] at hs
    have e1 : (a ++ c :: b).take a.length = a := by simp
    have e2 : (a ++ c :: b).drop (a.length + 1) = b := by rw [List.drop_append, List.drop_eq_nil_of_le (by omega)]; simp
    refine VC.seq ?_
    refine VC.still (by kernel_rfl) (by kernel_rfl) ?_
    refine SOps.r (Run.mv rfl) rfl ?_
    refine SOps.r (Run.mv rfl) rfl ?_
    refine SOps.r (Run.sliceT 0 a.length rfl Tryd.underlying9 evB.none_ (evB.some_ rfl) (by omega) (by simp)) rfl ?_
    refine SOps.r (Run.mv rfl) rfl ?_
    refine SOps.r (Run.mv rfl) rfl ?_
    refine SOps.r (Run.mv rfl) rfl ?_
    refine SOps.r (Run.lenT rfl Tryd.underlying9) rfl ?_
    refine SOps.r (Run.bin rfl rfl (Bin.add_i64 a.length 1 (by omega))) rfl ?_
    refine SOps.r (Run.sliceT (a.length + 1) _ rfl Tryd.underlying9 (evB.some_ rfl) evB.none_ (by first | (simp; done) | (simp; omega)) (by simp)) rfl ?_
    refine SOps.r (Run.asg rfl) rfl ?_
    refine SOps.r (Run.asg rfl) rfl ?_
    refine SOps.r (Run.asg rfl) rfl ?_
    refine SOps.nil ?_
    refine thenQ_n ?_
    refine VC.sub [(4, _), (5, _), (6, _)] (.cons rfl (.cons rfl (.cons rfl .nil))) ?_
    refine VC.ret ?_
    refine thenQ_r (end3 rfl rfl rfl ?_)
    refine ⟨?_, (Drawn.drew _).frm⟩
    rw [hb1, hb2, decide_eq_true (by simp)]
    simp only [List.drop_zero, Nat.sub_zero, e1, e2]
    rw [List.take_of_length_le (l := b) (by simp; omega)]
  · skip
    have hc : c ∉ s := by
      rcases idxB_cases s c with ⟨_, h⟩ | ⟨a, b, _, _, hi⟩
      · exact h
      · rw [hi] at hc1; omega
    obtain ⟨hb1, hb2⟩ := bef_no hc
    refine VC.skip ?_
    refine thenQ_n ?_
    refine VC.sub [(0, _)] (.cons rfl .nil) ?_
    refine VC.seq ?_
    refine VC.region ?_
    refine Ops.r (Run.mv rfl) rfl ?_
    refine Ops.r (Run.asg rfl) rfl ?_
    refine Ops.r (Run.asg rfl) rfl ?_
    refine Ops.r (Run.asg rfl) rfl ?_
    refine Ops.nil ?_
    refine thenQ_n ?_
    refine VC.sub [(4, _), (5, _), (6, _)] (.cons rfl (.cons rfl (.cons rfl .nil))) ?_
    refine VC.ret ?_
    refine end3 rfl rfl rfl ?_
    refine ⟨?_, Frm.refl _ _⟩
    rw [hb1, hb2, decide_eq_false hc]

set_option maxRecDepth 100000 in
theorem cut_spec (s : Tx) (c : UInt8) (w : World) (hs : s.length ≤ 1000000) : Calls Tryd.prog 34 #[encStr s, encStr [c]] w fun e w' => e = .returned (.tuple #[encStr (befF c s), encStr (aftF c s), .bool (decide (c ∈ s))]) ∧ Frm [] w w' := by
  refine VC.calls (nt := 13) (res := #[.tmp 4, .tmp 5, .tmp 6]) Tryd.func34 rfl Tryd.ntmps34 Tryd.results34 rfl ?_
  refine VC.seq ?_
  refine VC.region ?_
  refine Ops.r (Run.asg rfl) rfl ?_
  refine Ops.r (Run.asg rfl) rfl ?_
  refine Ops.r (Run.asg rfl) rfl ?_
  refine Ops.nil ?_
  refine thenQ_n ?_
  refine VC.sub [(0, _), (1, _)] (.cons rfl (.cons rfl .nil)) ?_
  refine VC.seq ?_
  refine VC.region ?_
  refine Ops.r (Run.mv rfl) rfl ?_
  refine Ops.r (Run.mv rfl) rfl ?_
  refine Ops.cl (Enters.fn (evs.cons rfl (evs.cons rfl evs.nil)) Tryd.call61) (lcut_spec s c _ hs) rfl ?_
  rintro e w1 ⟨rfl, hf1⟩
  refine ⟨_, rfl, ?_⟩
  refine Ops.r (Run.extract rfl rfl) rfl ?_
  refine Ops.r (Run.extract rfl rfl) rfl ?_
  refine Ops.r (Run.extract rfl rfl) rfl ?_
  refine Ops.r (Run.asg rfl) rfl ?_
  refine Ops.r (Run.asg rfl) rfl ?_
  refine Ops.r (Run.asg rfl) rfl ?_
  refine Ops.nil ?_
  refine thenQ_n ?_
  refine VC.sub [(4, _), (5, _), (6, _)] (.cons rfl (.cons rfl (.cons rfl .nil))) ?_
  refine VC.ret ?_
  refine end3 rfl rfl rfl ?_
  exact ⟨rfl, hf1⟩

/-- An iterator's value over a text's words: its three variables' blocks. -/
def SplitC (w : World) (c : UInt8) (s : Tx) (ga gb gc : Nat) : Prop := Blk w ga 9 #[encStr [c]] ∧ Blk w gb 9 #[encStr s] ∧ Blk w gc 3 #[.int .i64 0]

set_option maxRecDepth 100000 in
theorem splitSeq_spec (s : Tx) (c : UInt8) (w : World) : Calls Tryd.prog 73 #[encStr s, encStr [c], .int .i64 0] w fun e w' => Frm [] w w' ∧ ∃ ga gb gc, e = .returned (.func (.func 103) #[] #[.pointer (some ⟨ga, 0, none⟩), .pointer (some ⟨gb, 0, none⟩), .pointer (some ⟨gc, 0, none⟩)]) ∧ SplitC w' c s ga gb gc ∧ (w.heap.size ≤ ga ∧ w.heap.size ≤ gb ∧ w.heap.size ≤ gc ∧ ga ≠ gb ∧ gc ≠ gb) := by
  refine VC.calls (nt := 8) (res := #[.tmp 6]) Tryd.func73 rfl Tryd.ntmps73 Tryd.results73 rfl ?_
  refine VC.seq ?_
  refine VC.region ?_
  refine Ops.m (Does.box rfl) rfl ?_
  rintro _ w1 ⟨rfl, hF1⟩
  have hb1 := hF1.blk
  refine Ops.m (Does.box rfl) rfl ?_
  rintro _ w2 ⟨rfl, hF2⟩
  have hb2 := hF2.blk
  have hb1 := hb1.frm hF2.frm (by simp)
  refine Ops.m (Does.box rfl) rfl ?_
  rintro _ w3 ⟨rfl, hF3⟩
  have hb3 := hF3.blk
  have hb1 := hb1.frm hF3.frm (by simp)
  have hb2 := hb2.frm hF3.frm (by simp)
  have hs1 := hF1.size
  have hs2 := hF2.size
  refine Ops.r (Run.asg rfl) rfl ?_
  refine Ops.nil ?_
  refine thenQ_n ?_
  refine VC.sub [(3, _), (4, _), (5, _)] (.cons rfl (.cons rfl (.cons rfl .nil))) ?_
  refine VC.seq ?_
  refine VC.region ?_
  refine Ops.r (Run.mkFunc evs.nil (evs.cons rfl (evs.cons rfl (evs.cons rfl evs.nil)))) rfl ?_
  refine Ops.r (Run.asg rfl) rfl ?_
  refine Ops.nil ?_
  refine thenQ_n ?_
  refine VC.sub [(6, _)] (.cons rfl .nil) ?_
  refine VC.ret ?_
  refine end1 rfl ?_
  exact ⟨(hF1.frm.trans hF2.frm (by simp)).trans hF3.frm (by simp), _, _, _, rfl, ⟨hb2, hb1, hb3⟩, by omega, by omega, by omega, by omega, by omega⟩

set_option maxRecDepth 100000 in
theorem SplitSeq_spec (s : Tx) (c : UInt8) (w : World) : Calls Tryd.prog 53 #[encStr s, encStr [c]] w fun e w' => Frm [] w w' ∧ ∃ ga gb gc, e = .returned (.func (.func 103) #[] #[.pointer (some ⟨ga, 0, none⟩), .pointer (some ⟨gb, 0, none⟩), .pointer (some ⟨gc, 0, none⟩)]) ∧ SplitC w' c s ga gb gc ∧ (w.heap.size ≤ ga ∧ w.heap.size ≤ gb ∧ w.heap.size ≤ gc ∧ ga ≠ gb ∧ gc ≠ gb) := by
  refine VC.calls (nt := 8) (res := #[.tmp 4]) Tryd.func53 rfl Tryd.ntmps53 Tryd.results53 rfl ?_
  refine VC.seq ?_
  refine VC.region ?_
  refine Ops.r (Run.asg rfl) rfl ?_
  refine Ops.nil ?_
  refine thenQ_n ?_
  refine VC.sub [(0, _), (1, _)] (.cons rfl (.cons rfl .nil)) ?_
  refine VC.seq ?_
  refine VC.region ?_
  refine Ops.r (Run.mv rfl) rfl ?_
  refine Ops.r (Run.mv rfl) rfl ?_
  refine Ops.cl (Enters.fn (evs.cons rfl (evs.cons rfl (evs.cons rfl evs.nil))) Tryd.call73) (splitSeq_spec s c _) rfl ?_
  rintro e w1 ⟨hf1, ga, gb, gc, rfl, h1, h2⟩
  refine ⟨_, rfl, ?_⟩
  refine Ops.r (Run.asg rfl) rfl ?_
  refine Ops.nil ?_
  refine thenQ_n ?_
  refine VC.sub [(4, _)] (.cons rfl .nil) ?_
  refine VC.ret ?_
  refine end1 rfl ?_
  exact ⟨hf1, ga, gb, gc, rfl, h1, h2⟩

set_option maxRecDepth 100000 in
theorem split_iter (s : Tx) (c : UInt8) (ga gb gc : Nat) (hs : s.length ≤ 1000000) (hne : ga ≠ gb ∧ gc ≠ gb) :
    Iter Tryd.prog 103 #[.pointer (some ⟨ga, 0, none⟩), .pointer (some ⟨gb, 0, none⟩), .pointer (some ⟨gc, 0, none⟩)] (fun x => #[encStr x]) [gb] [ga, gb, gc] (fun w => SplitC w c s ga gb gc) (splitF c s) := by
  intro l J Jx w hJ hJx hK hY h0
  obtain ⟨hba, hbb, hbc⟩ := hK
  refine VC.calls (nt := 52) (res := #[]) Tryd.func103 rfl Tryd.ntmps103 Tryd.results103 rfl ?_
  refine VC.seq ?_
  refine VC.seq ?_
  refine VC.region ?_
  refine Ops.r (Run.load rfl Tryd.isAgg9 (hba.cell 0)) rfl ?_
  refine Ops.r (Run.lenT rfl Tryd.underlying9) rfl ?_
  refine Ops.r (Run.bin rfl rfl (Bin.eqlN _ 0)) rfl ?_
  refine Ops.nil ?_
  refine thenQ_n ?_
  refine VC.sub [(0, _), (1, _), (2, _), (3, _), (11, _)] (.cons rfl (.cons rfl (.cons rfl (.cons rfl (.cons rfl .nil))))) ?_
  refine VC.condF rfl (by simp) ?_
  refine VC.skip ?_
  refine thenQ_n ?_
  refine VC.sub [(0, _), (1, _), (2, _), (3, _)] (.cons rfl (.cons rfl (.cons rfl (.cons rfl .nil)))) ?_
  refine VC.seq ?_
  refine VC.block ?_
  refine VC.loop (σ := List Tx × Tx) (fun s1 => [(0, .func (.yield l) #[] #[]), (1, .pointer (some ⟨ga, 0, none⟩)), (2, .pointer (some ⟨gb, 0, none⟩)), (3, .pointer (some ⟨gc, 0, none⟩))]) (fun s1 wr => splitF c s = s1.1 ++ splitF c s1.2 ∧ s1.2.length ≤ s.length ∧ SplitC wr c s1.2 ga gb gc ∧ J s1.1 wr) (fun s1 => s1.2.length) ([], s) (.cons rfl (.cons rfl (.cons rfl (.cons rfl .nil)))) ⟨rfl, Nat.le_refl _, ⟨hba, hbb, hbc⟩, h0⟩ ?_
  rintro ⟨pre, t⟩ wr ⟨hsp, htl, ⟨hba, hbb, hbc⟩, hj⟩
  dsimp only at hsp htl hbb hj
  refine VC.block ?_
  refine VC.seq ?_
  refine VC.region ?_
  refine Ops.r (Run.load rfl Tryd.isAgg9 (hbb.cell 0)) rfl ?_
  refine Ops.r (Run.load rfl Tryd.isAgg9 (hba.cell 0)) rfl ?_
  refine Ops.cl (Enters.fn (evs.cons rfl (evs.cons rfl evs.nil)) Tryd.call105) (sindex1_spec t c _) rfl ?_
  rintro e _ ⟨rfl, rfl⟩
  refine ⟨_, rfl, ?_⟩
  refine Ops.r (Run.asg rfl) rfl ?_
  refine Ops.nil ?_
  refine thenQ_n ?_
  refine VC.sub [(0, _), (1, _), (2, _), (3, _), (7, _)] (.cons rfl (.cons rfl (.cons rfl (.cons rfl (.cons rfl .nil))))) ?_
  refine VC.seq ?_
  refine VC.seq ?_
  refine VC.region ?_
  refine Ops.r (Run.mv rfl) rfl ?_
  refine Ops.r (Run.bin rfl rfl (Bin.lss _ 0)) rfl ?_
  refine Ops.nil ?_
  refine thenQ_n ?_
  refine VC.sub [(0, _), (1, _), (2, _), (3, _), (7, _), (33, _)] (.cons rfl (.cons rfl (.cons rfl (.cons rfl (.cons rfl (.cons rfl .nil)))))) ?_
  refine VC.condD rfl (fun hc4 => ?_) (fun hc4 => ?_)
  · skip
    have hc : c ∉ t := by
      rcases idxB_cases t c with ⟨_, h⟩ | ⟨a, b, _, _, hi⟩
      · exact h
      · rw [hi] at hc4; omega
    rw [split_no hc] at hsp
    refine VC.exit ?_
    refine thenQ_x (blockQ_o rfl (thenQ_x (blockQ_x ?_)))
    refine thenQ_n ?_
    refine VC.sub [(0, _), (2, _)] (.cons rfl (.cons rfl .nil)) ?_
    refine VC.region ?_
    refine Ops.r (Run.mv rfl) rfl ?_
    refine Ops.r (Run.load rfl Tryd.isAgg9 (hbb.cell 0)) rfl ?_
    refine Ops.yield rfl rfl (evs.cons rfl evs.nil) ((hY pre t wr hj ⟨[], by rw [hsp]; simp⟩)) rfl rfl ?_
    rintro e w1 ⟨hoff, hR0⟩
    obtain ⟨yb, rfl, hR⟩ : ∃ yb : Bool, e = .returned (.bool yb) ∧ ((yb = true ∧ J (pre ++ [t]) w1) ∨ (yb = false ∧ Jx (pre ++ [t]) w1)) := by
      rcases hR0 with ⟨rfl, h⟩ | ⟨rfl, h⟩
      · exact ⟨true, rfl, .inl ⟨rfl, h⟩⟩
      · exact ⟨false, rfl, .inr ⟨rfl, h⟩⟩
    refine ⟨_, rfl, ?_⟩
    refine Ops.nil ?_
    refine end0n ?_
    refine ⟨⟨_, rfl⟩, ?_⟩
    rcases hR with ⟨_, h⟩ | ⟨_, h⟩
    · exact .inl (by rw [hsp]; exact h)
    · exact .inr ⟨_, h⟩
  · skip
    obtain ⟨a, b, rfl, hc, hi⟩ := (idxB_cases t c).resolve_left (fun h => by rw [h.1] at hc4; omega)
    rw [hi]
    rw [split_at hc] at hsp
    simp only [List.length_append, List.length_cons] at htl
    have e1 : (a ++ c :: b).take a.length = a := by simp
    have e2 : (a ++ c :: b).drop (a.length + 1) = b := by rw [List.drop_append, List.drop_eq_nil_of_le (by omega)]; simp
    have hpre : (pre ++ [a]) <+: splitF c s := ⟨splitF c b, by rw [hsp]; simp⟩
    refine VC.skip ?_
    refine thenQ_n ?_
    refine VC.sub [(0, _), (1, _), (2, _), (3, _), (7, _)] (.cons rfl (.cons rfl (.cons rfl (.cons rfl (.cons rfl .nil))))) ?_
    refine VC.seq ?_
    refine VC.region ?_
    refine Ops.r (Run.load rfl Tryd.isAgg9 (hbb.cell 0)) rfl ?_
    refine Ops.r (Run.mv rfl) rfl ?_
    refine Ops.r (Run.load rfl Tryd.isAgg3 (hbc.cell 0)) rfl ?_
    refine Ops.r (Run.bin rfl rfl (Bin.add_i64 a.length 0 (by omega))) rfl ?_
    refine Ops.r (Run.sliceT 0 (a.length + 0) rfl Tryd.underlying9 evB.none_ (evB.some_ rfl) (by omega) (by simp)) rfl ?_
    refine Ops.r (Run.asg rfl) rfl ?_
    refine Ops.nil ?_
    refine thenQ_n ?_
    refine VC.sub [(0, _), (1, _), (2, _), (3, _), (7, _), (8, _)] (.cons rfl (.cons rfl (.cons rfl (.cons rfl (.cons rfl (.cons rfl .nil)))))) ?_
    refine VC.seq ?_
    refine VC.seq ?_
    refine VC.region ?_
    refine Ops.r (Run.mv rfl) rfl ?_
    refine Ops.r (Run.mv rfl) rfl ?_
    refine Ops.yield rfl rfl (evs.cons rfl evs.nil) ((by simpa using hY pre a wr hj hpre : YieldsTo Tryd.prog l #[encStr _] wr _)) rfl rfl ?_
    rintro e w1 ⟨hoff, hR0⟩
    obtain ⟨yb, rfl, hR⟩ : ∃ yb : Bool, e = .returned (.bool yb) ∧ ((yb = true ∧ J (pre ++ [a]) w1) ∨ (yb = false ∧ Jx (pre ++ [a]) w1)) := by
      rcases hR0 with ⟨rfl, h⟩ | ⟨rfl, h⟩
      · exact ⟨true, rfl, .inl ⟨rfl, h⟩⟩
      · exact ⟨false, rfl, .inr ⟨rfl, h⟩⟩
    refine ⟨_, rfl, ?_⟩
    have hba := hoff.blk hba (by simp)
    have hbb := hoff.blk hbb (by simp)
    have hbc := hoff.blk hbc (by simp)
    refine Ops.r (Run.not rfl) rfl ?_
    refine Ops.nil ?_
    refine thenQ_n ?_
    refine VC.sub [(0, _), (1, _), (2, _), (3, _), (7, _), (42, _)] (.cons rfl (.cons rfl (.cons rfl (.cons rfl (.cons rfl (.cons rfl .nil)))))) ?_
    refine VC.condB rfl (fun hc5 => ?_) (fun hc5 => ?_)
    · skip
      refine VC.ret ?_
      refine thenQ_r (blockQ_r (thenQ_r (blockQ_r (thenQ_r (end0 ?_)))))
      exact ⟨⟨_, rfl⟩, .inr ⟨_, (hR.resolve_left (fun h => by rw [h.1] at hc5; simp at hc5)).2⟩⟩
    · skip
      refine VC.skip ?_
      refine thenQ_n ?_
      refine VC.sub [(0, _), (1, _), (2, _), (3, _), (7, _)] (.cons rfl (.cons rfl (.cons rfl (.cons rfl (.cons rfl .nil))))) ?_
      refine VC.region ?_
      refine Ops.r (Run.load rfl Tryd.isAgg9 (hbb.cell 0)) rfl ?_
      refine Ops.r (Run.mv rfl) rfl ?_
      refine Ops.r (Run.load rfl Tryd.isAgg9 (hba.cell 0)) rfl ?_
      refine Ops.r (Run.lenT rfl Tryd.underlying9) rfl ?_
      refine Ops.r (Run.bin rfl rfl (Bin.add_i64 a.length 1 (by omega))) rfl ?_
      refine Ops.r (Run.sliceT (a.length + 1) (a ++ c :: b).length rfl Tryd.underlying9 (evB.some_ rfl) evB.none_ (by first | (simp; done) | (simp; omega)) (by simp)) rfl ?_
      refine Ops.st (Acts.store rfl rfl Tryd.sizeOf9 hbb rfl rfl) ?_
      rintro w2 ⟨hbb2, hf2, hs2⟩
      have hbb2 : Blk w2 gb 9 #[encStr b] := by
        have e3 : ((a ++ c :: b).drop (a.length + 1)).take ((a ++ c :: b).length - (a.length + 1)) = b := by rw [e2]; exact List.take_of_length_le (by simp; omega)
        rw [← e3]; exact hbb2
      have hba2 := hba.frm hf2 (by simp; exact hne.1)
      have hbc2 := hbc.frm hf2 (by simp; exact hne.2)
      have hj2 := hJ _ _ _ (hR.resolve_right (fun h => by rw [h.1] at hc5; simp at hc5)).2 hf2
      refine Ops.nil ?_
      refine blockQ_n (thenQ_n ⟨(pre ++ [a], b), (.cons rfl (.cons rfl (.cons rfl (.cons rfl .nil)))), ?_, ?_⟩)
      · skip
        exact ⟨by rw [hsp]; simp, by dsimp only; omega, ⟨hba2, hbb2, hbc2⟩, hj2⟩
      · skip
        simp; omega

end Go.Proofs.YtnllhddbgkeboaaDoor
