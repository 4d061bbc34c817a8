/-
  The walks of seqset: texts cut at a sign.
-/
import Derived.Test.YtenbjndldenkfaaGreatDoorSeqP
import Derived.Test.YtenbjndldenkfaaGreatDoorShelf
namespace Go.Proofs.YtenbjndldenkfaaGreatDoor
open Go.RowKit Go.Sort

theorem index1_spec (s : Tx) (c : UInt8) (w : World) : Calls Tryz.prog 153 #[encStr s, encStr [c]] w fun e w' => e = .returned (.int .i64 (Lib.indexByte s c)) ∧ w = w' :=
  (Tryz.stringslite_Index_one ⟨s.toArray⟩ c w).mono fun e w' ⟨h, hw⟩ => ⟨h, hw.symm⟩
theorem sindex1_spec (s : Tx) (c : UInt8) (w : World) : Calls Tryz.prog 158 #[encStr s, encStr [c]] w fun e w' => e = .returned (.int .i64 (Lib.indexByte s c)) ∧ w = w' :=
  (Tryz.strings_Index_one ⟨s.toArray⟩ c w).mono fun e w' ⟨h, hw⟩ => ⟨h, hw.symm⟩

set_option maxRecDepth 100000 in
theorem lcut_spec (s : Tx) (c : UInt8) (w : World) (hs : s.length ≤ 1000000) : Calls Tryz.prog 114 #[encStr s, encStr [c]] w fun e w' => e = .returned (.tuple #[encStr (befF c s), encStr (aftF c s), .bool (decide (c ∈ s))]) ∧ Frm [] w w' := by
  refine VC.calls (nt := 23) (res := #[.tmp 4, .tmp 5, .tmp 6]) Tryz.func114 rfl Tryz.ntmps114 Tryz.results114 rfl ?_
  refine VC.seq ?_
  refine VC.region ?_
  refine Ops.r (Run.asg rfl) rfl ?_
  refine Ops.r (Run.asg rfl) rfl ?_
  refine Ops.r (Run.asg rfl) rfl ?_
  refine Ops.nil ?_
  refine thenQ_n ?_
  refine VC.sub [(0, _), (1, _)] (.cons rfl (.cons rfl .nil)) ?_
  refine VC.seq ?_
  refine VC.seq ?_
  refine VC.region ?_
  refine Ops.r (Run.mv rfl) rfl ?_
  refine Ops.r (Run.mv rfl) rfl ?_
  refine Ops.cl (Enters.fn (evs.cons rfl (evs.cons rfl evs.nil)) Tryz.call153) (index1_spec s c _) rfl ?_
  rintro e _ ⟨rfl, rfl⟩
  refine ⟨_, rfl, ?_⟩
  refine Ops.r (Run.asg rfl) rfl ?_
  refine Ops.nil ?_
  refine thenQ_n ?_
  refine VC.sub [(0, _), (1, _), (7, _)] (.cons rfl (.cons rfl (.cons rfl .nil))) ?_
  refine VC.seq ?_
  refine VC.region ?_
  refine Ops.r (Run.mv rfl) rfl ?_
  refine Ops.r (Run.bin rfl rfl (Bin.geq _ 0)) rfl ?_
  refine Ops.nil ?_
  refine thenQ_n ?_
  refine VC.sub [(0, _), (1, _), (7, _), (12, _)] (.cons rfl (.cons rfl (.cons rfl (.cons rfl .nil)))) ?_
  refine VC.condD rfl (fun hc1 => ?_) (fun hc1 => ?_)
  · skip
    obtain ⟨a, b, rfl, hc, hi⟩ := (idxB_cases s c).resolve_left (fun h => by rw [h.1] at hc1; omega)
    rw [hi]
    obtain ⟨hb1, hb2⟩ := bef_at (b := b) hc
    simp only [List.length_append, List.length_cons] at hs
    have e1 : (a ++ c :: b).take a.length = a := by simp
    have e2 : (a ++ c :: b).drop (a.length + 1) = b := by rw [List.drop_append, List.drop_eq_nil_of_le (by omega)]; simp
    refine VC.seq ?_
    refine VC.still (by kernel_rfl) (by kernel_rfl) ?_
    refine SOps.r (Run.mv rfl) rfl ?_
    refine SOps.r (Run.mv rfl) rfl ?_
    refine SOps.r (Run.sliceT 0 a.length rfl Tryz.underlying9 evB.none_ (evB.some_ rfl) (by omega) (by simp)) rfl ?_
    refine SOps.r (Run.mv rfl) rfl ?_
    refine SOps.r (Run.mv rfl) rfl ?_
    refine SOps.r (Run.mv rfl) rfl ?_
    refine SOps.r (Run.lenT rfl Tryz.underlying9) rfl ?_
    refine SOps.r (Run.bin rfl rfl (Bin.add_i64 a.length 1 (by omega))) rfl ?_
    refine SOps.r (Run.sliceT (a.length + 1) _ rfl Tryz.underlying9 (evB.some_ rfl) evB.none_ (by first | (simp; done) | (simp; omega)) (by simp)) rfl ?_
    refine SOps.r (Run.asg rfl) rfl ?_
    refine SOps.r (Run.asg rfl) rfl ?_
    refine SOps.r (Run.asg rfl) rfl ?_
    refine SOps.nil ?_
    refine thenQ_n ?_
    refine VC.sub [(4, _), (5, _), (6, _)] (.cons rfl (.cons rfl (.cons rfl .nil))) ?_
    refine VC.ret ?_
    refine thenQ_r (end3 rfl rfl rfl ?_)
    refine ⟨?_, (Drawn.drew _).frm⟩
    rw [hb1, hb2, decide_eq_true (by simp)]
    simp only [List.drop_zero, Nat.sub_zero, e1, e2]
    rw [List.take_of_length_le (l := b) (by simp; omega)]
  · skip
    have hc : c ∉ s := by
      rcases idxB_cases s c with ⟨_, h⟩ | ⟨a, b, _, _, hi⟩
      · exact h
      · rw [hi] at hc1; omega
    obtain ⟨hb1, hb2⟩ := bef_no hc
    refine VC.skip ?_
    refine thenQ_n ?_
    refine VC.sub [(0, _)] (.cons rfl .nil) ?_
    refine VC.seq ?_
    refine VC.region ?_
    refine Ops.r (Run.mv rfl) rfl ?_
    refine Ops.r (Run.asg rfl) rfl ?_
    refine Ops.r (Run.asg rfl) rfl ?_
    refine Ops.r (Run.asg rfl) rfl ?_
    refine Ops.nil ?_
    refine thenQ_n ?_
    refine VC.sub [(4, _), (5, _), (6, _)] (.cons rfl (.cons rfl (.cons rfl .nil))) ?_
    refine VC.ret ?_
    refine end3 rfl rfl rfl ?_
    refine ⟨?_, Frm.refl _ _⟩
    rw [hb1, hb2, decide_eq_false hc]

set_option maxRecDepth 100000 in
theorem cut_spec (s : Tx) (c : UInt8) (w : World) (hs : s.length ≤ 1000000) : Calls Tryz.prog 79 #[encStr s, encStr [c]] w fun e w' => e = .returned (.tuple #[encStr (befF c s), encStr (aftF c s), .bool (decide (c ∈ s))]) ∧ Frm [] w w' := by
  refine VC.calls (nt := 13) (res := #[.tmp 4, .tmp 5, .tmp 6]) Tryz.func79 rfl Tryz.ntmps79 Tryz.results79 rfl ?_
  refine VC.seq ?_
  refine VC.region ?_
  refine Ops.r (Run.asg rfl) rfl ?_
  refine Ops.r (Run.asg rfl) rfl ?_
  refine Ops.r (Run.asg rfl) rfl ?_
  refine Ops.nil ?_
  refine thenQ_n ?_
  refine VC.sub [(0, _), (1, _)] (.cons rfl (.cons rfl .nil)) ?_
  refine VC.seq ?_
  refine VC.region ?_
  refine Ops.r (Run.mv rfl) rfl ?_
  refine Ops.r (Run.mv rfl) rfl ?_
  refine Ops.cl (Enters.fn (evs.cons rfl (evs.cons rfl evs.nil)) Tryz.call114) (lcut_spec s c _ hs) rfl ?_
  rintro e w1 ⟨rfl, hf1⟩
  refine ⟨_, rfl, ?_⟩
  refine Ops.r (Run.extract rfl rfl) rfl ?_
  refine Ops.r (Run.extract rfl rfl) rfl ?_
  refine Ops.r (Run.extract rfl rfl) rfl ?_
  refine Ops.r (Run.asg rfl) rfl ?_
  refine Ops.r (Run.asg rfl) rfl ?_
  refine Ops.r (Run.asg rfl) rfl ?_
  refine Ops.nil ?_
  refine thenQ_n ?_
  refine VC.sub [(4, _), (5, _), (6, _)] (.cons rfl (.cons rfl (.cons rfl .nil))) ?_
  refine VC.ret ?_
  refine end3 rfl rfl rfl ?_
  exact ⟨rfl, hf1⟩

/-- An iterator's value over a text's words: its three variables' blocks. -/
def SplitC (w : World) (c : UInt8) (s : Tx) (ga gb gc : Nat) : Prop := Blk w ga 9 #[encStr [c]] ∧ Blk w gb 9 #[encStr s] ∧ Blk w gc 3 #[.int .i64 0]

end Go.Proofs.YtenbjndldenkfaaGreatDoor
