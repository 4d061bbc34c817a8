/-
  Lines of a body; what parts it.
-/
import Derived.Test.YtenbjndldenkfaaGreatDoorHeadS
namespace Go.Proofs.YtenbjndldenkfaaGreatDoor
open Go.RowKit Go.Sort

set_option maxRecDepth 100000 in
theorem plines_iter (q : Tx) (A : Option Addr) (c g1 g2 g3 frm tu : Nat) (hs : q.length ≤ 1000000) (hc : q.length ≤ c) (hft : frm ≤ tu) (htl : tu ≤ q.length) (hn12 : g1 ≠ g2) (hn13 : g1 ≠ g3) (hnA : g1 ∉ obN A q.length) :
    Iter Tryz.prog 185 #[.pointer (some ⟨g1, 0, none⟩), .pointer (some ⟨g2, 0, none⟩), .pointer (some ⟨g3, 0, none⟩)] (fun x : Nat × Nat => #[.int .i64 ((x.1 : Nat) : Int), .int .i64 ((x.2 : Nat) : Int)]) [g1] (g1 :: g2 :: g3 :: obN A q.length) (fun w => Blk w g1 3 #[.int .i64 ((frm : Nat) : Int)] ∧ Blk w g2 3 #[.int .i64 ((tu : Nat) : Int)] ∧ Blk w g3 22 #[.slice A q.length c] ∧ Rd w 1 A q.length (U8 q)) (offsF frm (linesF (sliceQ q frm tu))) := by
  intro l J Jx w hJ hJx hK hY h0
  obtain ⟨hb1, hb2, hb3, hrd⟩ := hK
  refine VC.calls (nt := 28) (res := #[]) Tryz.func185 rfl Tryz.ntmps185 Tryz.results185 rfl ?_
  refine VC.block ?_
  refine VC.loop (σ := Nat × List (Nat × Nat)) (fun s1 => [(0, .func (.yield l) #[] #[]), (1, .pointer (some ⟨g1, 0, none⟩)), (2, .pointer (some ⟨g2, 0, none⟩)), (3, .pointer (some ⟨g3, 0, none⟩))]) (fun s1 wr => frm ≤ s1.1 ∧ s1.1 ≤ tu ∧ offsF frm (linesF (sliceQ q frm tu)) = s1.2 ++ offsF s1.1 (linesF (sliceQ q s1.1 tu)) ∧ Blk wr g1 3 #[.int .i64 ((s1.1 : Nat) : Int)] ∧ Blk wr g2 3 #[.int .i64 ((tu : Nat) : Int)] ∧ Blk wr g3 22 #[.slice A q.length c] ∧ Rd wr 1 A q.length (U8 q) ∧ J s1.2 wr) (fun s1 => tu - s1.1) (frm, []) (.cons rfl (.cons rfl (.cons rfl (.cons rfl .nil)))) ⟨Nat.le_refl _, hft, rfl, hb1, hb2, hb3, hrd, h0⟩ ?_
  rintro ⟨i, pre⟩ wr ⟨hi0, hi, hsp, hb1, hb2, hb3, hrd, hj⟩
  dsimp only at hi0 hi hsp hb1 hj ⊢
  refine VC.seq ?_
  refine VC.seq ?_
  refine VC.region ?_
  refine Ops.r (Run.load rfl Tryz.isAgg3 (hb1.cell 0)) rfl ?_
  refine Ops.r (Run.load rfl Tryz.isAgg3 (hb2.cell 0)) rfl ?_
  refine Ops.r (Run.bin rfl rfl (Bin.lssN _ _)) rfl ?_
  refine Ops.nil ?_
  refine thenQ_n ?_
  refine VC.sub [(0, _), (1, _), (2, _), (3, _), (9, _)] (.cons rfl (.cons rfl (.cons rfl (.cons rfl (.cons rfl .nil))))) ?_
  refine VC.condD rfl (fun hc1 => ?_) (fun hc1 => ?_)
  · skip
    have hdl : (sliceQ q i tu).length = tu - i := sliceQ_len htl
    have hr0 : sliceQ q i tu ≠ [] := fun h => by have := congrArg List.length h; rw [hdl] at this; simp at this; omega
    have hcut := U8_cut hrd (show i ≤ tu by omega) htl hc
    refine VC.skip ?_
    refine thenQ_n ?_
    refine VC.sub [(0, _), (1, _), (2, _), (3, _)] (.cons rfl (.cons rfl (.cons rfl (.cons rfl .nil)))) ?_
    refine VC.block ?_
    refine VC.seq ?_
    refine VC.region ?_
    refine Ops.r (Run.load rfl Tryz.isAgg3 (hb2.cell 0)) rfl ?_
    refine Ops.r (Run.asg rfl) rfl ?_
    refine Ops.nil ?_
    refine thenQ_n ?_
    refine VC.sub [(0, _), (1, _), (2, _), (3, _), (5, _)] (.cons rfl (.cons rfl (.cons rfl (.cons rfl (.cons rfl .nil))))) ?_
    refine VC.seq ?_
    refine VC.seq ?_
    refine VC.region ?_
    refine Ops.r (Run.load rfl Tryz.isAgg22 (hb3.cell 0)) rfl ?_
    refine Ops.r (Run.load rfl Tryz.isAgg3 (hb1.cell 0)) rfl ?_
    refine Ops.r (Run.load rfl Tryz.isAgg3 (hb2.cell 0)) rfl ?_
    refine Ops.r (Run.sliceS i tu rfl Tryz.underlying22 Tryz.sizeOf5 (evB.some_ rfl) (evB.some_ rfl) (by omega) (by omega)) rfl ?_
    refine Ops.cl (Enters.fn (evs.cons rfl (evs.cons rfl evs.nil)) Tryz.call87) ((by rw [← hdl]; exact idxBytes_spec _ _ (sliceQ q i tu) 10 _ hcut hr0)) rfl ?_
    rintro e _ ⟨rfl, rfl⟩
    refine ⟨_, rfl, ?_⟩
    refine Ops.r (Run.asg rfl) rfl ?_
    refine Ops.nil ?_
    refine thenQ_n ?_
    refine VC.sub [(0, _), (1, _), (2, _), (3, _), (5, _), (6, _)] (.cons rfl (.cons rfl (.cons rfl (.cons rfl (.cons rfl (.cons rfl .nil)))))) ?_
    refine VC.seq ?_
    refine VC.region ?_
    refine Ops.r (Run.mv rfl) rfl ?_
    refine Ops.r (Run.bin rfl rfl (Bin.geq _ 0)) rfl ?_
    refine Ops.nil ?_
    refine thenQ_n ?_
    refine VC.sub [(0, _), (1, _), (2, _), (3, _), (5, _), (6, _), (17, _)] (.cons rfl (.cons rfl (.cons rfl (.cons rfl (.cons rfl (.cons rfl (.cons rfl .nil))))))) ?_
    refine VC.meet (σ := Nat) (fun s1 => [(0, .func (.yield l) #[] #[]), (1, .pointer (some ⟨g1, 0, none⟩)), (2, .pointer (some ⟨g2, 0, none⟩)), (3, .pointer (some ⟨g3, 0, none⟩)), (5, .int .i64 ((s1 : Nat) : Int))]) (fun s1 wr2 => i < s1 ∧ s1 ≤ tu ∧ offsF i (linesF (sliceQ q i tu)) = (i, s1) :: offsF s1 (linesF (sliceQ q s1 tu)) ∧ wr = wr2) ?_ ?_
    · skip
      refine VC.condD rfl (fun hc2 => ?_) (fun hc2 => ?_)
      · skip
        obtain ⟨a, b, hab, hna, hix⟩ := (idxB_cases (sliceQ q i tu) 10).resolve_left (fun h => by rw [h.1] at hc2; omega)
        rw [hix]
        have hal : i + a.length + 1 ≤ tu := by
          have := congrArg List.length hab
          rw [hdl] at this
          simp at this
          omega
        have hcutl : offsF i (linesF (sliceQ q i tu)) = (i, i + a.length + 1) :: offsF (i + a.length + 1) (linesF (sliceQ q (i + a.length + 1) tu)) := by
          have e : sliceQ q (i + a.length + 1) tu = b := by
            have e1 : sliceQ (sliceQ q i tu) (a.length + 1) (tu - i) = sliceQ q (i + (a.length + 1)) (i + (tu - i)) := slice_slice (by omega)
            rw [show i + (tu - i) = tu by omega] at e1
            rw [show i + a.length + 1 = i + (a.length + 1) by omega, ← e1, ← hdl, slice_end, hab, List.drop_append, List.drop_eq_nil_of_le (by omega)]
            simp
          rw [e, hab, linesF_cut b hna]
          show (i, i + (a ++ [10]).length) :: offsF (i + (a ++ [10]).length) _ = _
          rw [List.length_append]
          rfl
        refine VC.region ?_
        refine Ops.r (Run.load rfl Tryz.isAgg3 (hb1.cell 0)) rfl ?_
        refine Ops.r (Run.mv rfl) rfl ?_
        refine Ops.r (Run.bin rfl rfl (Bin.add_i64 i a.length (by omega))) rfl ?_
        refine Ops.r (Run.bin rfl rfl (Bin.add_i64 (i + a.length) 1 (by omega))) rfl ?_
        refine Ops.r (Run.asg rfl) rfl ?_
        refine Ops.nil ?_
        refine thenQ_n ⟨(i + a.length + 1), (.cons rfl (.cons rfl (.cons rfl (.cons rfl (.cons rfl .nil))))), ?_⟩
        exact ⟨by omega, hal, hcutl, rfl⟩
      · skip
        have hna : (10 : UInt8) ∉ sliceQ q i tu := by
          rcases idxB_cases (sliceQ q i tu) 10 with ⟨_, h⟩ | ⟨a, b, _, _, hi⟩
          · exact h
          · rw [hi] at hc2; omega
        have hcutl : offsF i (linesF (sliceQ q i tu)) = (i, tu) :: offsF tu (linesF (sliceQ q tu tu)) := by
          rw [linesF_last hr0 hna]
          show [(i, i + (sliceQ q i tu).length)] = _
          rw [hdl, show i + (tu - i) = tu by omega]
          unfold sliceQ
          rw [Nat.sub_self, List.take_zero]
          rfl
        refine VC.skip ?_
        refine thenQ_n ⟨tu, (.cons rfl (.cons rfl (.cons rfl (.cons rfl (.cons rfl .nil))))), ?_⟩
        exact ⟨hc1, Nat.le_refl _, hcutl, rfl⟩
    · skip
      rintro t _ ⟨hit, htl2, hcutl, rfl⟩ Γ hΓ
      have hpre : (pre ++ [(i, t)]) <+: offsF frm (linesF (sliceQ q frm tu)) := ⟨offsF t (linesF (sliceQ q t tu)), by rw [hsp, hcutl]; simp⟩
      refine thenQ_n (VC.sub _ hΓ ?_)
      refine VC.seq ?_
      refine VC.seq ?_
      refine VC.region ?_
      refine Ops.r (Run.mv rfl) rfl ?_
      refine Ops.r (Run.load rfl Tryz.isAgg3 (hb1.cell 0)) rfl ?_
      refine Ops.r (Run.mv rfl) rfl ?_
      refine Ops.yield rfl rfl (evs.cons rfl (evs.cons rfl evs.nil)) ((by simpa using hY pre (i, t) wr hj hpre : YieldsTo Tryz.prog l #[_, _] wr _)) rfl rfl ?_
      rintro e w1 ⟨hoff, hR0⟩
      obtain ⟨yb, rfl, hR⟩ : ∃ yb : Bool, e = .returned (.bool yb) ∧ ((yb = true ∧ J (pre ++ [(i, t)]) w1) ∨ (yb = false ∧ Jx (pre ++ [(i, t)]) w1)) := by
        rcases hR0 with ⟨rfl, h⟩ | ⟨rfl, h⟩
        · exact ⟨true, rfl, .inl ⟨rfl, h⟩⟩
        · exact ⟨false, rfl, .inr ⟨rfl, h⟩⟩
      refine ⟨_, rfl, ?_⟩
      have hb1 := hoff.blk hb1 (by simp)
      have hb2 := hoff.blk hb2 (by simp)
      have hb3 := hoff.blk hb3 (by simp)
      have hrd := hoff.rd hrd (fun hn x hx => List.mem_cons_of_mem _ (List.mem_cons_of_mem _ (List.mem_cons_of_mem _ (obN_of hn hx))))
      refine Ops.r (Run.not rfl) rfl ?_
      refine Ops.nil ?_
      refine thenQ_n ?_
      refine VC.sub [(0, _), (1, _), (2, _), (3, _), (5, _), (26, _)] (.cons rfl (.cons rfl (.cons rfl (.cons rfl (.cons rfl (.cons rfl .nil)))))) ?_
      refine VC.condB rfl (fun hc3 => ?_) (fun hc3 => ?_)
      · skip
        refine VC.ret ?_
        refine thenQ_r (blockQ_r (thenQ_r (blockQ_r (end0 ?_))))
        exact ⟨⟨_, rfl⟩, .inr ⟨_, (hR.resolve_left (fun h => by rw [h.1] at hc3; simp at hc3)).2⟩⟩
      · skip
        refine VC.skip ?_
        refine thenQ_n ?_
        refine VC.sub [(0, _), (1, _), (2, _), (3, _), (5, _)] (.cons rfl (.cons rfl (.cons rfl (.cons rfl (.cons rfl .nil))))) ?_
        refine VC.region ?_
        refine Ops.r (Run.mv rfl) rfl ?_
        refine Ops.st (Acts.store rfl rfl Tryz.sizeOf3 hb1 rfl rfl) ?_
        rintro w2 ⟨hb1n, hf2, _⟩
        have hb1n : Blk w2 g1 3 #[.int .i64 ((t : Nat) : Int)] := hb1n
        have hb2 := hb2.frm hf2 (by simp; exact fun e => hn12 e.symm)
        have hb3 := hb3.frm hf2 (by simp; exact fun e => hn13 e.symm)
        have hrd := hrd.frm hf2 (fun hn x hx => by simp; rintro rfl; exact hnA (obN_of hn hx))
        have hj2 := hJ _ _ _ (hR.resolve_right (fun h => by rw [h.1] at hc3; simp at hc3)).2 hf2
        refine Ops.nil ?_
        refine blockQ_n (thenQ_n ⟨(t, pre ++ [(i, t)]), (.cons rfl (.cons rfl (.cons rfl (.cons rfl .nil)))), ?_, ?_⟩)
        · skip
          exact ⟨by dsimp only; omega, htl2, by rw [hsp, hcutl]; simp, hb1n, hb2, hb3, hrd, hj2⟩
        · skip
          simp only; omega
  · skip
    have hil : i = tu := by omega
    have hfin : offsF frm (linesF (sliceQ q frm tu)) = pre := by rw [hsp, hil]; unfold sliceQ; rw [Nat.sub_self, List.take_zero]; simp [linesF, offsF]
    refine VC.exit ?_
    refine thenQ_x (thenQ_x (blockQ_x ?_))
    refine end0n ?_
    exact ⟨⟨_, rfl⟩, .inl (by rw [hfin]; exact hj)⟩

set_option maxRecDepth 100000 in
theorem plines_spec (A : Option Addr) (n c frm tu : Nat) (w : World) : Calls Tryz.prog 142 #[.slice A n c, .int .i64 ((frm : Nat) : Int), .int .i64 ((tu : Nat) : Int)] w fun e w' => Frm [] w w' ∧ ∃ g1 g2 g3, e = .returned (.func (.func 185) #[] #[.pointer (some ⟨g1, 0, none⟩), .pointer (some ⟨g2, 0, none⟩), .pointer (some ⟨g3, 0, none⟩)]) ∧ Blk w' g1 3 #[.int .i64 ((frm : Nat) : Int)] ∧ Blk w' g2 3 #[.int .i64 ((tu : Nat) : Int)] ∧ Blk w' g3 22 #[.slice A n c] ∧ w.heap.size ≤ g1 ∧ w.heap.size ≤ g2 ∧ w.heap.size ≤ g3 ∧ g1 ≠ g2 ∧ g1 ≠ g3 ∧ g1 < w'.heap.size ∧ g2 < w'.heap.size ∧ g3 < w'.heap.size := by
  refine VC.calls (nt := 8) (res := #[.tmp 6]) Tryz.func142 rfl Tryz.ntmps142 Tryz.results142 rfl ?_
  refine VC.seq ?_
  refine VC.region ?_
  refine Ops.m (Does.box rfl) rfl ?_
  rintro _ w1 ⟨rfl, hF1⟩
  have hb3 := hF1.blk
  refine Ops.m (Does.box rfl) rfl ?_
  rintro _ w2 ⟨rfl, hF2⟩
  have hb4 := hF2.blk
  have hb3 := hb3.frm hF2.frm (by simp)
  refine Ops.m (Does.box rfl) rfl ?_
  rintro _ w3 ⟨rfl, hF3⟩
  have hb5 := hF3.blk
  have l3 := hb3.lt
  have l4 := hb4.lt
  have hb3 := hb3.frm hF3.frm (by simp)
  have hb4 := hb4.frm hF3.frm (by simp)
  have hs1 := hF1.size
  have hs2 := hF2.size
  have hs3 := hF3.size
  have l1 := hF1.blk.lt
  refine Ops.r (Run.asg rfl) rfl ?_
  refine Ops.nil ?_
  refine thenQ_n ?_
  refine VC.sub [(3, _), (4, _), (5, _)] (.cons rfl (.cons rfl (.cons rfl .nil))) ?_
  refine VC.seq ?_
  refine VC.region ?_
  refine Ops.r (Run.mkFunc evs.nil (evs.cons rfl (evs.cons rfl (evs.cons rfl evs.nil)))) rfl ?_
  refine Ops.r (Run.asg rfl) rfl ?_
  refine Ops.nil ?_
  refine thenQ_n ?_
  refine VC.sub [(6, _)] (.cons rfl .nil) ?_
  refine VC.ret ?_
  refine end1 rfl ?_
  exact ⟨(hF1.frm.trans hF2.frm (by simp)).trans hF3.frm (by simp), _, _, _, rfl, hb4, hb5, hb3, by omega, by omega, by omega, by omega, by omega, hb4.lt, hb5.lt, hb3.lt⟩

set_option maxRecDepth 100000 in
theorem bare_spec (A : Option Addr) (c : Nat) (l : Tx) (w : World) (h : Rd w 1 A l.length (U8 l)) (hl : l.length ≤ 1000000) : Calls Tryz.prog 186 #[.slice A l.length c] w fun e w' => e = .returned (encStr (bareL l)) ∧ w = w' := by
  refine VC.calls (nt := 15) (res := #[.tmp 2]) Tryz.func186 rfl Tryz.ntmps186 Tryz.results186 rfl ?_
  refine VC.seq ?_
  refine VC.region ?_
  refine Ops.r (Run.asg rfl) rfl ?_
  refine Ops.nil ?_
  refine thenQ_n ?_
  refine VC.sub [(0, _)] (.cons rfl .nil) ?_
  refine VC.seq ?_
  refine VC.region ?_
  refine Ops.r (Run.mv rfl) rfl ?_
  refine Ops.r (Run.strOfT rfl Tryz.underlying22 Tryz.underlying5 Tryz.underlying9 h) rfl ?_
  refine Ops.r (Run.asg rfl) rfl ?_
  refine Ops.nil ?_
  refine thenQ_n ?_
  refine VC.sub [(3, _)] (.cons rfl .nil) ?_
  refine VC.seq ?_
  refine VC.seq ?_
  refine VC.region ?_
  refine Ops.r (Run.mv rfl) rfl ?_
  refine Ops.cl (Enters.fn (evs.cons rfl (evs.cons rfl evs.nil)) Tryz.call211) (sufSS_spec l 10 _ hl) rfl ?_
  rintro e _ ⟨rfl, rfl⟩
  refine ⟨_, rfl, ?_⟩
  refine Ops.nil ?_
  refine thenQ_n ?_
  refine VC.sub [(3, _), (7, _)] (.cons rfl (.cons rfl .nil)) ?_
  refine VC.condB rfl (fun hc1 => ?_) (fun hc1 => ?_)
  · skip
    have hlast : l.getLast? = some 10 := of_decide_eq_true hc1
    have h0 : 0 < l.length := List.length_pos_iff.2 (fun e => by rw [e] at hlast; cases hlast)
    have hdl : (l.drop 0).take (l.length - 1 - 0) = l.dropLast := by rw [List.dropLast_eq_take]; simp
    refine VC.seq ?_
    refine VC.region ?_
    refine Ops.r (Run.mv rfl) rfl ?_
    refine Ops.r (Run.mv rfl) rfl ?_
    refine Ops.r (Run.lenT rfl Tryz.underlying9) rfl ?_
    refine Ops.r (Run.bin rfl rfl (Bin.sub_i64 l.length 1 h0 (by omega))) rfl ?_
    refine Ops.r (Run.sliceT 0 (l.length - 1) rfl Tryz.underlying9 evB.none_ (evB.some_ rfl) (Nat.zero_le _) (by omega)) rfl ?_
    rw [hdl]
    refine Ops.cl (Enters.fn (evs.cons rfl (evs.cons rfl evs.nil)) Tryz.call124) (trimSfxS_spec l.dropLast 13 _ (by simp; omega)) rfl ?_
    rintro e _ ⟨rfl, rfl⟩
    refine ⟨_, rfl, ?_⟩
    refine Ops.r (Run.asg rfl) rfl ?_
    refine Ops.nil ?_
    refine thenQ_n ?_
    refine VC.sub [(2, _)] (.cons rfl .nil) ?_
    refine VC.ret ?_
    refine thenQ_r (end1 rfl ?_)
    exact ⟨by rw [bare_trim, if_pos hlast], rfl⟩
  · skip
    refine VC.skip ?_
    refine thenQ_n ?_
    refine VC.sub [(3, _)] (.cons rfl .nil) ?_
    refine VC.seq ?_
    refine VC.region ?_
    refine Ops.r (Run.mv rfl) rfl ?_
    refine Ops.r (Run.asg rfl) rfl ?_
    refine Ops.nil ?_
    refine thenQ_n ?_
    refine VC.sub [(2, _)] (.cons rfl .nil) ?_
    refine VC.ret ?_
    refine end1 rfl ?_
    exact ⟨by rw [bare_trim, if_neg (of_decide_eq_false hc1)], rfl⟩

theorem cutPre_spec (s p : Tx) (w : World) : Calls Tryz.prog 80 #[encStr s, encStr p] w fun e w' => e = .returned (.tuple #[encStr (Lib.trimPrefix s p), .bool (p.isPrefixOf s)]) ∧ w = w' := by
  have h := Tryz.strings_CutPrefix ⟨s.toArray⟩ ⟨p.toArray⟩ w
  exact h.mono fun e w' ⟨h, hw⟩ => ⟨h, hw.symm⟩
theorem trimPre_yes {s p : Tx} (h : p.isPrefixOf s = true) : Lib.trimPrefix s p = s.drop p.length ∧ cutPre p s = some (s.drop p.length) := by
  unfold Lib.trimPrefix Lib.hasPrefix cutPre
  rw [if_pos h, if_pos h]
  exact ⟨rfl, rfl⟩
theorem trimPre_no {s p : Tx} (h : p.isPrefixOf s = false) : Lib.trimPrefix s p = s ∧ cutPre p s = none := by
  unfold Lib.trimPrefix Lib.hasPrefix cutPre
  rw [if_neg (by rw [h]; simp), if_neg (by rw [h]; simp)]
  exact ⟨rfl, rfl⟩
theorem trimPre_le (s p : Tx) : (Lib.trimPrefix s p).length ≤ s.length := by unfold Lib.trimPrefix; split <;> simp
theorem parts_of (bd l : Tx) (h : (dash2 ++ bd).isPrefixOf (bareL l) = true) : partsL bd l = (decide (trimQ (Lib.trimPrefix (Lib.trimPrefix (bareL l) (dash2 ++ bd)) dash2) = []), dash2.isPrefixOf (Lib.trimPrefix (bareL l) (dash2 ++ bd))) := by
  obtain ⟨e1, e2⟩ := trimPre_yes h
  unfold partsL
  rw [e2, e1]
  cases h2 : dash2.isPrefixOf ((bareL l).drop (dash2 ++ bd).length) with
  | true =>
    obtain ⟨e3, e4⟩ := trimPre_yes h2
    dsimp only
    rw [e4, e3]
  | false =>
    obtain ⟨e3, e4⟩ := trimPre_no h2
    dsimp only
    rw [e4, e3]
theorem parts_not (bd l : Tx) (h : (dash2 ++ bd).isPrefixOf (bareL l) = false) : partsL bd l = (false, false) := by
  unfold partsL
  rw [(trimPre_no h).2]

set_option maxRecDepth 100000 in
theorem parts_spec (A : Option Addr) (c : Nat) (l bd : Tx) (w : World) (h : Rd w 1 A l.length (U8 l)) (hl : l.length ≤ 1000000) (hb : bd.length ≤ 1000000) : Calls Tryz.prog 143 #[.slice A l.length c, encStr bd] w fun e w' => e = .returned (.tuple #[.bool (partsL bd l).1, .bool (partsL bd l).2]) ∧ Frm [] w w' := by
  refine VC.calls (nt := 28) (res := #[.tmp 4, .tmp 5]) Tryz.func143 rfl Tryz.ntmps143 Tryz.results143 rfl ?_
  refine VC.seq ?_
  refine VC.region ?_
  refine Ops.r (Run.asg rfl) rfl ?_
  refine Ops.r (Run.asg rfl) rfl ?_
  refine Ops.nil ?_
  refine thenQ_n ?_
  refine VC.sub [(0, _), (1, _)] (.cons rfl (.cons rfl .nil)) ?_
  refine VC.seq ?_
  refine VC.region ?_
  refine Ops.r (Run.mv rfl) rfl ?_
  refine Ops.cl (Enters.fn (evs.cons rfl evs.nil) Tryz.call186) (bare_spec _ _ l _ h hl) rfl ?_
  rintro e _ ⟨rfl, rfl⟩
  refine ⟨_, rfl, ?_⟩
  have hbl := bareL_le l
  refine Ops.r (Run.mv rfl) rfl ?_
  refine Ops.r (Run.addT rfl rfl (by simp; omega)) rfl ?_
  refine Ops.cl (Enters.fn (evs.cons rfl (evs.cons rfl evs.nil)) Tryz.call80) (cutPre_spec (bareL l) (dash2 ++ bd) _) rfl ?_
  rintro e _ ⟨rfl, rfl⟩
  refine ⟨_, rfl, ?_⟩
  have htl := trimPre_le (bareL l) (dash2 ++ bd)
  refine Ops.r (Run.mv rfl) rfl ?_
  refine Ops.r (Run.extract rfl rfl) rfl ?_
  refine Ops.r (Run.extract rfl rfl) rfl ?_
  refine Ops.r (Run.asg rfl) rfl ?_
  refine Ops.r (Run.asg rfl) rfl ?_
  refine Ops.nil ?_
  refine thenQ_n ?_
  refine VC.sub [(6, _), (7, _)] (.cons rfl (.cons rfl .nil)) ?_
  refine VC.seq ?_
  refine VC.seq ?_
  refine VC.region ?_
  refine Ops.r (Run.mv rfl) rfl ?_
  refine Ops.r (Run.not rfl) rfl ?_
  refine Ops.nil ?_
  refine thenQ_n ?_
  refine VC.sub [(6, _), (18, _)] (.cons rfl (.cons rfl .nil)) ?_
  refine VC.condB rfl (fun hc1 => ?_) (fun hc1 => ?_)
  · skip
    refine VC.seq ?_
    refine VC.region ?_
    refine Ops.r (Run.asg rfl) rfl ?_
    refine Ops.r (Run.asg rfl) rfl ?_
    refine Ops.nil ?_
    refine thenQ_n ?_
    refine VC.sub [(4, _), (5, _)] (.cons rfl (.cons rfl .nil)) ?_
    refine VC.ret ?_
    refine thenQ_r (end2 rfl rfl ?_)
    exact ⟨by rw [parts_not bd l (by simpa using hc1)], Frm.refl _ _⟩
  · skip
    refine VC.skip ?_
    refine thenQ_n ?_
    refine VC.sub [(6, _)] (.cons rfl .nil) ?_
    refine VC.seq ?_
    refine VC.region ?_
    refine Ops.r (Run.mv rfl) rfl ?_
    refine Ops.cl (Enters.fn (evs.cons rfl (evs.cons rfl evs.nil)) Tryz.call80) (cutPre_spec (Lib.trimPrefix (bareL l) (dash2 ++ bd)) dash2 _) rfl ?_
    rintro e _ ⟨rfl, rfl⟩
    refine ⟨_, rfl, ?_⟩
    have htl2 := trimPre_le (Lib.trimPrefix (bareL l) (dash2 ++ bd)) dash2
    refine Ops.r (Run.mv rfl) rfl ?_
    refine Ops.r (Run.extract rfl rfl) rfl ?_
    refine Ops.r (Run.extract rfl rfl) rfl ?_
    refine Ops.r (Run.asg rfl) rfl ?_
    refine Ops.r (Run.asg rfl) rfl ?_
    refine Ops.nil ?_
    refine thenQ_n ?_
    refine VC.sub [(6, _), (8, _)] (.cons rfl (.cons rfl .nil)) ?_
    refine VC.seq ?_
    refine VC.region ?_
    refine Ops.r (Run.mv rfl) rfl ?_
    refine Ops.cl (Enters.fn (evs.cons rfl (evs.cons rfl evs.nil)) Tryz.call125) (trimS_spec (Lib.trimPrefix (Lib.trimPrefix (bareL l) (dash2 ++ bd)) dash2) _ (by omega)) rfl ?_
    rintro e w1 ⟨rfl, hf1⟩
    refine ⟨_, rfl, ?_⟩
    refine Ops.r (Run.eqlT rfl rfl) rfl ?_
    refine Ops.r (Run.mv rfl) rfl ?_
    refine Ops.r (Run.asg rfl) rfl ?_
    refine Ops.r (Run.asg rfl) rfl ?_
    refine Ops.nil ?_
    refine thenQ_n ?_
    refine VC.sub [(4, _), (5, _)] (.cons rfl (.cons rfl .nil)) ?_
    refine VC.ret ?_
    refine end2 rfl rfl ?_
    exact ⟨by rw [parts_of bd l (by simpa using hc1)]; rfl, hf1⟩

set_option maxRecDepth 100000 in
theorem ahead_spec (A : Option Addr) (c : Nat) (q : Tx) (frm line : Nat) (w : World) (h : Rd w 1 A q.length (U8 q)) (hq : q.length ≤ 1000000) (hl : line ≤ q.length) : Calls Tryz.prog 144 #[.slice A q.length c, .int .i64 ((frm : Nat) : Int), .int .i64 ((line : Nat) : Int)] w fun e w' => e = .returned (.int .i64 ((aheadQ q frm line : Nat) : Int)) ∧ w = w' := by
  have hah : aheadQ q frm line = if line > frm ∧ q[line - 1]? = some 10 then (if line - 1 > frm ∧ q[line - 2]? = some 13 then line - 2 else line - 1) else line := rfl
  refine VC.calls (nt := 34) (res := #[.tmp 6]) Tryz.func144 rfl Tryz.ntmps144 Tryz.results144 rfl ?_
  refine VC.seq ?_
  refine VC.region ?_
  refine Ops.r (v := .int .i64 ((0 : Nat) : Int)) (Run.asg rfl) rfl ?_
  refine Ops.nil ?_
  refine thenQ_n ?_
  refine VC.sub [(0, _), (1, _), (2, _)] (.cons rfl (.cons rfl (.cons rfl .nil))) ?_
  refine VC.seq ?_
  refine VC.seq ?_
  refine VC.split1 [(0, _), (1, _), (2, _)] (.cons rfl (.cons rfl (.cons rfl .nil))) 17 (.bool (decide (line > frm ∧ q[line - 1]? = some 10))) ?_ ?_
  · refine VC.region ?_
    refine Ops.r (Run.mv rfl) rfl ?_
    refine Ops.r (Run.mv rfl) rfl ?_
    refine Ops.r (Run.bin rfl rfl (Bin.gtrN _ _)) rfl ?_
    by_cases hs9 : frm < line
    · skip
      have hil : line - 1 < q.length := by omega
      obtain ⟨ad, rfl, hcell⟩ := U8_at h hil
      have hgx : q[line - 1]? = some q[line - 1] := List.getElem?_eq_getElem hil
      generalize hz : q[line - 1] = z at *
      have hzb : some z = some (10 : UInt8) ↔ z.toNat = 10 := ⟨fun e => by rw [Option.some.inj e]; rfl, fun e => congrArg some (UInt8.toNat_inj.1 e)⟩
      refine Ops.r (Run.mv rfl) rfl ?_
      refine Ops.rg rfl (by first | rfl | assumption | exact decide_eq_true (by assumption) | exact decide_eq_false (by assumption) | decide | (simp; done) | (simp; omega) | (simp [*]; done)) (Run.mv rfl) rfl ?_
      refine Ops.rg rfl (by first | rfl | assumption | exact decide_eq_true (by assumption) | exact decide_eq_false (by assumption) | decide | (simp; done) | (simp; omega) | (simp [*]; done)) (Run.mv rfl) rfl ?_
      refine Ops.rg rfl (by first | rfl | assumption | exact decide_eq_true (by assumption) | exact decide_eq_false (by assumption) | decide | (simp; done) | (simp; omega) | (simp [*]; done)) (Run.bin rfl rfl (Bin.sub_i64 line 1 (by omega) (by omega))) rfl ?_
      refine Ops.rg rfl (by first | rfl | assumption | exact decide_eq_true (by assumption) | exact decide_eq_false (by assumption) | decide | (simp; done) | (simp; omega) | (simp [*]; done)) (Run.index1 (line - 1) rfl rfl Tryz.underlying22 Tryz.sizeOf5 hil) rfl ?_
      refine Ops.rg rfl (by first | rfl | assumption | exact decide_eq_true (by assumption) | exact decide_eq_false (by assumption) | decide | (simp; done) | (simp; omega) | (simp [*]; done)) (Run.load rfl Tryz.isAgg5 hcell) rfl ?_
      refine Ops.rg rfl (by first | rfl | assumption | exact decide_eq_true (by assumption) | exact decide_eq_false (by assumption) | decide | (simp; done) | (simp; omega) | (simp [*]; done)) (Run.bin rfl rfl (Bin.eqlN _ 10)) rfl ?_
      by_cases hs16 : z.toNat = 10
      · skip
        refine Ops.r (Run.pickT rfl rfl (by first | rfl | assumption | exact decide_eq_true (by assumption) | exact decide_eq_false (by assumption) | decide | (simp; done) | (simp; omega) | (simp [*]; done))) rfl ?_
        refine Ops.nil ?_
        refine thenQ_n ⟨(.cons (congrArg (fun b => some (Value.bool b)) (by first | (symm; exact decide_eq_false (fun h => by omega)) | (rw [hgx]; exact decide_eq_decide.2 ⟨fun e => ⟨hs9, hzb.2 e⟩, fun e => hzb.1 e.2⟩))) (.cons rfl (.cons rfl (.cons rfl .nil)))), rfl⟩
      · skip
        refine Ops.r (Run.pickT rfl rfl (by first | rfl | assumption | exact decide_eq_true (by assumption) | exact decide_eq_false (by assumption) | decide | (simp; done) | (simp; omega) | (simp [*]; done))) rfl ?_
        refine Ops.nil ?_
        refine thenQ_n ⟨(.cons (congrArg (fun b => some (Value.bool b)) (by first | (symm; exact decide_eq_false (fun h => by omega)) | (rw [hgx]; exact decide_eq_decide.2 ⟨fun e => ⟨hs9, hzb.2 e⟩, fun e => hzb.1 e.2⟩))) (.cons rfl (.cons rfl (.cons rfl .nil)))), rfl⟩
    · skip
      refine Ops.r (Run.mv rfl) rfl ?_
      refine Ops.sk rfl (by first | rfl | assumption | exact decide_eq_true (by assumption) | exact decide_eq_false (by assumption) | decide | (simp; done) | (simp; omega) | (simp [*]; done)) rfl ?_
      refine Ops.sk rfl (by first | rfl | assumption | exact decide_eq_true (by assumption) | exact decide_eq_false (by assumption) | decide | (simp; done) | (simp; omega) | (simp [*]; done)) rfl ?_
      refine Ops.sk rfl (by first | rfl | assumption | exact decide_eq_true (by assumption) | exact decide_eq_false (by assumption) | decide | (simp; done) | (simp; omega) | (simp [*]; done)) rfl ?_
      refine Ops.sk rfl (by first | rfl | assumption | exact decide_eq_true (by assumption) | exact decide_eq_false (by assumption) | decide | (simp; done) | (simp; omega) | (simp [*]; done)) rfl ?_
      refine Ops.sk rfl (by first | rfl | assumption | exact decide_eq_true (by assumption) | exact decide_eq_false (by assumption) | decide | (simp; done) | (simp; omega) | (simp [*]; done)) rfl ?_
      refine Ops.sk rfl (by first | rfl | assumption | exact decide_eq_true (by assumption) | exact decide_eq_false (by assumption) | decide | (simp; done) | (simp; omega) | (simp [*]; done)) rfl ?_
      refine Ops.r (Run.pickF rfl rfl (by first | rfl | assumption | exact decide_eq_true (by assumption) | exact decide_eq_false (by assumption) | decide | (simp; done) | (simp; omega) | (simp [*]; done))) rfl ?_
      refine Ops.nil ?_
      refine thenQ_n ⟨(.cons (congrArg (fun b => some (Value.bool b)) (by first | (symm; exact decide_eq_false (fun h => by omega)) | (rw [hgx]; exact decide_eq_decide.2 ⟨fun e => ⟨hs9, hzb.2 e⟩, fun e => hzb.1 e.2⟩))) (.cons rfl (.cons rfl (.cons rfl .nil)))), rfl⟩
  · intro Γ hΓ
    refine thenQ_n (VC.sub _ hΓ ?_)
    refine VC.condD rfl (fun hc1 => ?_) (fun hc1 => ?_)
    · skip
      have hlf := hc1.1
      rw [if_pos hc1] at hah
      refine VC.seq ?_
      refine VC.region ?_
      refine Ops.r (Run.mv rfl) rfl ?_
      refine Ops.r (Run.bin rfl rfl (Bin.sub_i64 line 1 (by omega) (by omega))) rfl ?_
      refine Ops.r (Run.asg rfl) rfl ?_
      refine Ops.nil ?_
      refine thenQ_n ?_
      refine VC.sub [(0, _), (1, _), (2, _)] (.cons rfl (.cons rfl (.cons rfl .nil))) ?_
      refine VC.seq ?_
      refine VC.split1 [(2, _)] (.cons rfl .nil) 30 (.bool (decide (line - 1 > frm ∧ q[line - 2]? = some 13))) ?_ ?_
      · refine VC.region ?_
        refine Ops.r (Run.mv rfl) rfl ?_
        refine Ops.r (Run.mv rfl) rfl ?_
        refine Ops.r (Run.bin rfl rfl (Bin.gtrN _ _)) rfl ?_
        by_cases hs22 : frm < line - 1
        · skip
          have hil : line - 2 < q.length := by omega
          obtain ⟨ad, rfl, hcell⟩ := U8_at h hil
          have hgx : q[line - 2]? = some q[line - 2] := List.getElem?_eq_getElem hil
          generalize hz : q[line - 2] = z at *
          have hzb : some z = some (13 : UInt8) ↔ z.toNat = 13 := ⟨fun e => by rw [Option.some.inj e]; rfl, fun e => congrArg some (UInt8.toNat_inj.1 e)⟩
          refine Ops.r (Run.mv rfl) rfl ?_
          refine Ops.rg rfl (by first | rfl | assumption | exact decide_eq_true (by assumption) | exact decide_eq_false (by assumption) | decide | (simp; done) | (simp; omega) | (simp [*]; done)) (Run.mv rfl) rfl ?_
          refine Ops.rg rfl (by first | rfl | assumption | exact decide_eq_true (by assumption) | exact decide_eq_false (by assumption) | decide | (simp; done) | (simp; omega) | (simp [*]; done)) (Run.mv rfl) rfl ?_
          refine Ops.rg rfl (by first | rfl | assumption | exact decide_eq_true (by assumption) | exact decide_eq_false (by assumption) | decide | (simp; done) | (simp; omega) | (simp [*]; done)) (Run.bin rfl rfl (Bin.sub_i64 (line - 1) 1 (by omega) (by omega))) rfl ?_
          refine Ops.rg rfl (by first | rfl | assumption | exact decide_eq_true (by assumption) | exact decide_eq_false (by assumption) | decide | (simp; done) | (simp; omega) | (simp [*]; done)) (Run.index1 (line - 1 - 1) rfl rfl Tryz.underlying22 Tryz.sizeOf5 (by omega)) rfl ?_
          refine Ops.rg rfl (by first | rfl | assumption | exact decide_eq_true (by assumption) | exact decide_eq_false (by assumption) | decide | (simp; done) | (simp; omega) | (simp [*]; done)) (Run.load rfl Tryz.isAgg5 hcell) rfl ?_
          refine Ops.rg rfl (by first | rfl | assumption | exact decide_eq_true (by assumption) | exact decide_eq_false (by assumption) | decide | (simp; done) | (simp; omega) | (simp [*]; done)) (Run.bin rfl rfl (Bin.eqlN _ 13)) rfl ?_
          by_cases hs29 : z.toNat = 13
          · skip
            refine Ops.r (Run.pickT rfl rfl (by first | rfl | assumption | exact decide_eq_true (by assumption) | exact decide_eq_false (by assumption) | decide | (simp; done) | (simp; omega) | (simp [*]; done))) rfl ?_
            refine Ops.nil ?_
            refine thenQ_n ⟨(.cons (congrArg (fun b => some (Value.bool b)) (by first | (symm; exact decide_eq_false (fun h => by omega)) | (rw [hgx]; exact decide_eq_decide.2 ⟨fun e => ⟨hs22, hzb.2 e⟩, fun e => hzb.1 e.2⟩))) (.cons rfl .nil)), rfl⟩
          · skip
            refine Ops.r (Run.pickT rfl rfl (by first | rfl | assumption | exact decide_eq_true (by assumption) | exact decide_eq_false (by assumption) | decide | (simp; done) | (simp; omega) | (simp [*]; done))) rfl ?_
            refine Ops.nil ?_
            refine thenQ_n ⟨(.cons (congrArg (fun b => some (Value.bool b)) (by first | (symm; exact decide_eq_false (fun h => by omega)) | (rw [hgx]; exact decide_eq_decide.2 ⟨fun e => ⟨hs22, hzb.2 e⟩, fun e => hzb.1 e.2⟩))) (.cons rfl .nil)), rfl⟩
        · skip
          refine Ops.r (Run.mv rfl) rfl ?_
          refine Ops.sk rfl (by first | rfl | assumption | exact decide_eq_true (by assumption) | exact decide_eq_false (by assumption) | decide | (simp; done) | (simp; omega) | (simp [*]; done)) rfl ?_
          refine Ops.sk rfl (by first | rfl | assumption | exact decide_eq_true (by assumption) | exact decide_eq_false (by assumption) | decide | (simp; done) | (simp; omega) | (simp [*]; done)) rfl ?_
          refine Ops.sk rfl (by first | rfl | assumption | exact decide_eq_true (by assumption) | exact decide_eq_false (by assumption) | decide | (simp; done) | (simp; omega) | (simp [*]; done)) rfl ?_
          refine Ops.sk rfl (by first | rfl | assumption | exact decide_eq_true (by assumption) | exact decide_eq_false (by assumption) | decide | (simp; done) | (simp; omega) | (simp [*]; done)) rfl ?_
          refine Ops.sk rfl (by first | rfl | assumption | exact decide_eq_true (by assumption) | exact decide_eq_false (by assumption) | decide | (simp; done) | (simp; omega) | (simp [*]; done)) rfl ?_
          refine Ops.sk rfl (by first | rfl | assumption | exact decide_eq_true (by assumption) | exact decide_eq_false (by assumption) | decide | (simp; done) | (simp; omega) | (simp [*]; done)) rfl ?_
          refine Ops.r (Run.pickF rfl rfl (by first | rfl | assumption | exact decide_eq_true (by assumption) | exact decide_eq_false (by assumption) | decide | (simp; done) | (simp; omega) | (simp [*]; done))) rfl ?_
          refine Ops.nil ?_
          refine thenQ_n ⟨(.cons (congrArg (fun b => some (Value.bool b)) (by first | (symm; exact decide_eq_false (fun h => by omega)) | (rw [hgx]; exact decide_eq_decide.2 ⟨fun e => ⟨hs22, hzb.2 e⟩, fun e => hzb.1 e.2⟩))) (.cons rfl .nil)), rfl⟩
      · intro Γ hΓ
        refine thenQ_n (VC.sub _ hΓ ?_)
        refine VC.condD rfl (fun hc2 => ?_) (fun hc2 => ?_)
        · skip
          rw [if_pos hc2] at hah
          refine VC.region ?_
          refine Ops.r (Run.mv rfl) rfl ?_
          refine Ops.r (Run.bin rfl rfl (Bin.sub_i64 (line - 1) 1 (by have := hc2.1; omega) (by omega))) rfl ?_
          refine Ops.r (Run.asg rfl) rfl ?_
          refine Ops.nil ?_
          refine thenQ_n ?_
          refine VC.sub [(2, _)] (.cons rfl .nil) ?_
          refine VC.seq ?_
          refine VC.region ?_
          refine Ops.r (Run.mv rfl) rfl ?_
          refine Ops.r (Run.asg rfl) rfl ?_
          refine Ops.nil ?_
          refine thenQ_n ?_
          refine VC.sub [(6, _)] (.cons rfl .nil) ?_
          refine VC.ret ?_
          refine end1 rfl ?_
          exact ⟨by rw [hah]; rfl, rfl⟩
        · skip
          rw [if_neg hc2] at hah
          refine VC.skip ?_
          refine thenQ_n ?_
          refine VC.sub [(2, _)] (.cons rfl .nil) ?_
          refine VC.seq ?_
          refine VC.region ?_
          refine Ops.r (Run.mv rfl) rfl ?_
          refine Ops.r (Run.asg rfl) rfl ?_
          refine Ops.nil ?_
          refine thenQ_n ?_
          refine VC.sub [(6, _)] (.cons rfl .nil) ?_
          refine VC.ret ?_
          refine end1 rfl ?_
          exact ⟨by rw [hah], rfl⟩
    · skip
      rw [if_neg hc1] at hah
      refine VC.skip ?_
      refine thenQ_n ?_
      refine VC.sub [(2, _)] (.cons rfl .nil) ?_
      refine VC.seq ?_
      refine VC.region ?_
      refine Ops.r (Run.mv rfl) rfl ?_
      refine Ops.r (Run.asg rfl) rfl ?_
      refine Ops.nil ?_
      refine thenQ_n ?_
      refine VC.sub [(6, _)] (.cons rfl .nil) ?_
      refine VC.ret ?_
      refine end1 rfl ?_
      exact ⟨by rw [hah], rfl⟩

end Go.Proofs.YtenbjndldenkfaaGreatDoor
