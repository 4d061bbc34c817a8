/-
  The document's flags: sets.
-/
import Derived.Test.YtmfglifjnoilnaaFlagR
namespace Go.Proofs.Ytmfglifjnoilnaa
open Go.RowKit Go.Sort

theorem filt_snoc {p : Tx → Bool} {l : List Tx} {i : Nat} (h : i < l.length) : (l.take (i + 1)).filter p = (l.take i).filter p ++ (if p l[i] = true then [l[i]] else []) := by
  rw [take_snoc h, List.filter_append]
  by_cases hp : p l[i] = true <;> simp [hp]
theorem filt_le {p : Tx → Bool} (l : List Tx) (i : Nat) : ((l.take i).filter p).length ≤ l.length := by
  refine Nat.le_trans (List.length_filter_le _ _) ?_
  simp
  omega

set_option maxRecDepth 100000 in
theorem lay_spec (A : Option Addr) (c0 : Nat) (l : List Tx) (q : Tx) (w : World) (hn : l.length ≤ 1000000) (hr : Rd w 1 A l.length (SB l)) :
    Calls Try.prog 59 #[.slice A l.length c0, encStr q] w fun e w' => Frm [] w w' ∧ ∃ B d, e = .returned (.slice B (layF l q).length d) ∧ Own w' 9 1 B (layF l q).length d (SB (layF l q)) ∧ (∀ x ∈ ob B, w.heap.size ≤ x) := by
  refine VC.calls (nt := 51) (res := #[.tmp 4]) Try.func59 rfl Try.ntmps59 Try.results59 rfl ?_
  refine VC.seq ?_
  refine VC.region ?_
  refine Ops.r (Run.asg rfl) rfl ?_
  refine Ops.nil ?_
  refine thenQ_n ?_
  refine VC.sub [(0, _), (1, _)] (.cons rfl (.cons rfl .nil)) ?_
  refine VC.seq ?_
  refine VC.region ?_
  refine Ops.r (Run.asg rfl) rfl ?_
  refine Ops.nil ?_
  refine thenQ_n ?_
  refine VC.seq ?_
  refine VC.seq ?_
  refine VC.region ?_
  refine Ops.r (v := .int .i64 ((0 : Nat) : Int)) (Run.asg rfl) rfl ?_
  refine Ops.nil ?_
  refine thenQ_n ?_
  refine VC.block ?_
  refine VC.loop (σ := Nat × Option Addr × Nat) (fun s => [(0, .slice A l.length c0), (1, encStr q), (5, .slice s.2.1 ((l.take s.1).filter (fun x => decide (x < q))).length s.2.2), (6, .int .i64 ((s.1 : Nat) : Int))]) (fun s wr => s.1 ≤ l.length ∧ Own wr 9 1 s.2.1 ((l.take s.1).filter (fun x => decide (x < q))).length s.2.2 (SB ((l.take s.1).filter (fun x => decide (x < q)))) ∧ (∀ x ∈ ob s.2.1, w.heap.size ≤ x) ∧ Frm [] w wr) (fun s => l.length - s.1) (0, none, 0) (.cons rfl (.cons rfl (.cons rfl (.cons rfl .nil)))) ⟨by omega, Own.nil _ _ _, by simp [ob], Frm.refl _ _⟩ ?_
  rintro ⟨i, B, d⟩ wr ⟨hi, hown, hge, hfr⟩
  dsimp only at hi hown hge ⊢
  have hfl := filt_le (p := fun x => decide (x < q)) l i
  refine VC.seq ?_
  refine VC.seq ?_
  refine VC.region ?_
  refine Ops.r (Run.mv rfl) rfl ?_
  refine Ops.r (Run.mv rfl) rfl ?_
  refine Ops.r (Run.lenS rfl Try.underlying43) rfl ?_
  refine Ops.r (Run.bin rfl rfl (Bin.lssN _ _)) rfl ?_
  refine Ops.nil ?_
  refine thenQ_n ?_
  refine VC.sub [(0, _), (1, _), (5, _), (6, _), (11, _)] (.cons rfl (.cons rfl (.cons rfl (.cons rfl (.cons rfl .nil))))) ?_
  refine VC.condD rfl (fun hc1 => ?_) (fun hc1 => ?_)
  · skip
    obtain ⟨ad, rfl, hcell⟩ := SB_at (hr.frm hfr (by simp)) hc1
    have hfs := filt_snoc (p := fun x => decide (x < q)) hc1
    have hgl : l[i] = l[i] := rfl
    generalize hq0 : l[i] = x at *
    refine VC.skip ?_
    refine thenQ_n ?_
    refine VC.sub [(0, _), (1, _), (5, _), (6, _)] (.cons rfl (.cons rfl (.cons rfl (.cons rfl .nil)))) ?_
    refine VC.seq ?_
    refine VC.block ?_
    refine VC.seq ?_
    refine VC.region ?_
    refine Ops.r (Run.mv rfl) rfl ?_
    refine Ops.r (Run.mv rfl) rfl ?_
    refine Ops.r (Run.index1 i rfl rfl Try.underlying43 Try.sizeOf9 hc1) rfl ?_
    refine Ops.r (Run.load rfl Try.isAgg9 hcell) rfl ?_
    refine Ops.r (Run.mv rfl) rfl ?_
    refine Ops.r (Run.lssT rfl rfl) rfl ?_
    refine Ops.nil ?_
    refine thenQ_n ?_
    refine VC.sub [(0, _), (1, _), (5, _), (6, _), (19, _)] (.cons rfl (.cons rfl (.cons rfl (.cons rfl (.cons rfl .nil))))) ?_
    refine VC.meet (σ := Option Addr × Nat) (fun s => [(0, .slice (some ad) l.length c0), (1, encStr q), (5, .slice s.1 ((l.take (i + 1)).filter (fun x => decide (x < q))).length s.2), (6, .int .i64 ((i : Nat) : Int))]) (fun s wm => Own wm 9 1 s.1 ((l.take (i + 1)).filter (fun x => decide (x < q))).length s.2 (SB ((l.take (i + 1)).filter (fun x => decide (x < q)))) ∧ (∀ x ∈ ob s.1, w.heap.size ≤ x) ∧ Frm [] w wm) ?_ ?_
    · skip
      refine VC.condD rfl (fun hc2 => ?_) (fun hc2 => ?_)
      · skip
        refine VC.region ?_
        refine Ops.r (Run.mv rfl) rfl ?_
        refine Ops.r (Run.mv rfl) rfl ?_
        refine Ops.r (Run.mv rfl) rfl ?_
        refine Ops.r (Run.index1 i rfl rfl Try.underlying43 Try.sizeOf9 hc1) rfl ?_
        refine Ops.r (Run.load rfl Try.isAgg9 hcell) rfl ?_
        refine Ops.m (Does.buildS1 rfl Try.underlying43 Try.sizeOf9 zero9 (by decide) (by decide) rfl rfl) rfl ?_
        rintro _ w2 ⟨rfl, hF2⟩
        have hfr2 := hfr.trans hF2.frm (by simp)
        refine Ops.m (Does.app rfl rfl Try.underlying43 (info9) rfl (by decide) (hown.frm hF2.frm (by simp)) (hrd1 hF2) (SB_one _) (by omega) (by omega)) rfl ?_
        rintro _ w3 ⟨A3, c3, rfl, hown3, hfr3, hob3⟩
        rw [← SB_append] at hown3
        have hge3 := up_app hge hob3 hfr2.size
        have hfr3' := hfr2.own hfr3 hge
        refine Ops.r (Run.asg rfl) rfl ?_
        refine Ops.nil ?_
        refine thenQ_n ⟨(A3, c3), (.cons rfl (.cons rfl (.cons (by rw [hfs, if_pos (decide_eq_true hc2), List.length_append]; rfl) (.cons rfl .nil)))), ?_⟩
        rw [hfs, if_pos (decide_eq_true hc2)]
        exact ⟨by simpa using hown3, hge3, hfr3'⟩
      · skip
        refine VC.skip ?_
        refine thenQ_n ⟨(B, d), (.cons rfl (.cons rfl (.cons (by rw [hfs, if_neg (by simpa using hc2), List.append_nil]; rfl) (.cons rfl .nil)))), ?_⟩
        rw [hfs, if_neg (by simpa using hc2), List.append_nil]
        exact ⟨hown, hge, hfr⟩
    · skip
      rintro ⟨B2, d2⟩ wm ⟨hown2, hge2, hfr2⟩ Γ hΓ
      refine blockQ_n (thenQ_n (VC.sub _ hΓ ?_))
      refine VC.region ?_
      refine Ops.r (Run.mv rfl) rfl ?_
      refine Ops.r (Run.bin rfl rfl (Bin.add_i64 _ 1 (by omega))) rfl ?_
      refine Ops.r (Run.asg rfl) rfl ?_
      refine Ops.nil ?_
      refine thenQ_n ⟨(i + 1, B2, d2), (.cons rfl (.cons rfl (.cons rfl (.cons rfl .nil)))), ?_, ?_⟩
      · skip
        exact ⟨hc1, hown2, hge2, hfr2⟩
      · skip
        first | omega | (dsimp only; omega)
  · skip
    have him : i = l.length := by omega
    subst him
    rw [List.take_length] at hown hfl ⊢
    refine VC.exit ?_
    refine thenQ_x (thenQ_x (blockQ_x ?_))
    refine thenQ_n ?_
    refine VC.sub [(0, _), (1, _), (5, _)] (.cons rfl (.cons rfl (.cons rfl .nil))) ?_
    refine VC.seq ?_
    refine VC.region ?_
    refine Ops.r (Run.mv rfl) rfl ?_
    refine Ops.r (Run.mv rfl) rfl ?_
    refine Ops.m (Does.buildS1 rfl Try.underlying43 Try.sizeOf9 zero9 (by decide) (by decide) rfl rfl) rfl ?_
    rintro _ w4 ⟨rfl, hF4⟩
    have hfr4 := hfr.trans hF4.frm (by simp)
    refine Ops.m (Does.app rfl rfl Try.underlying43 (info9) rfl (by decide) (hown.frm hF4.frm (by simp)) (hrd1 hF4) (SB_one _) (by omega) (by omega)) rfl ?_
    rintro _ w5 ⟨A5, c5, rfl, hown5, hfr5, hob5⟩
    rw [← SB_append] at hown5
    have hge5 := up_app hge hob5 hfr4.size
    have hfr5' := hfr4.own hfr5 hge
    refine Ops.r (Run.asg rfl) rfl ?_
    refine Ops.nil ?_
    refine thenQ_n ?_
    refine VC.sub [(0, _), (1, _), (5, _)] (.cons rfl (.cons rfl (.cons rfl .nil))) ?_
    refine VC.seq ?_
    refine VC.seq ?_
    refine VC.region ?_
    refine Ops.r (v := .int .i64 ((0 : Nat) : Int)) (Run.asg rfl) rfl ?_
    refine Ops.nil ?_
    refine thenQ_n ?_
    refine VC.block ?_
    refine VC.loop (σ := Nat × Option Addr × Nat) (fun s => [(0, .slice A l.length c0), (1, encStr q), (5, .slice s.2.1 (l.filter (fun x => decide (x < q)) ++ [q] ++ (l.take s.1).filter (fun x => decide (q < x))).length s.2.2), (7, .int .i64 ((s.1 : Nat) : Int))]) (fun s wr => s.1 ≤ l.length ∧ Own wr 9 1 s.2.1 (l.filter (fun x => decide (x < q)) ++ [q] ++ (l.take s.1).filter (fun x => decide (q < x))).length s.2.2 (SB (l.filter (fun x => decide (x < q)) ++ [q] ++ (l.take s.1).filter (fun x => decide (q < x)))) ∧ (∀ x ∈ ob s.2.1, w.heap.size ≤ x) ∧ Frm [] w wr) (fun s => l.length - s.1) (0, A5, c5) (.cons rfl (.cons rfl (.cons (by simp; rfl) (.cons rfl .nil)))) ⟨by omega, by simpa using hown5, hge5, hfr5'⟩ ?_
    rintro ⟨j, B, d⟩ wr ⟨hj, hown, hge, hfr⟩
    dsimp only at hj hown hge ⊢
    have hfl2 := filt_le (p := fun x => decide (q < x)) l j
    have hlen2 : (l.filter (fun x => decide (x < q)) ++ [q] ++ (l.take j).filter (fun x => decide (q < x))).length ≤ 3000000 := by simp only [List.length_append, List.length_singleton]; omega
    generalize hP : l.filter (fun x => decide (x < q)) ++ [q] = P0 at *
    refine VC.seq ?_
    refine VC.seq ?_
    refine VC.region ?_
    refine Ops.r (Run.mv rfl) rfl ?_
    refine Ops.r (Run.mv rfl) rfl ?_
    refine Ops.r (Run.lenS rfl Try.underlying43) rfl ?_
    refine Ops.r (Run.bin rfl rfl (Bin.lssN _ _)) rfl ?_
    refine Ops.nil ?_
    refine thenQ_n ?_
    refine VC.sub [(0, _), (1, _), (5, _), (7, _), (34, _)] (.cons rfl (.cons rfl (.cons rfl (.cons rfl (.cons rfl .nil))))) ?_
    refine VC.condD rfl (fun hc3 => ?_) (fun hc3 => ?_)
    · skip
      obtain ⟨ad, rfl, hcell⟩ := SB_at (hr.frm hfr (by simp)) hc3
      have hfs := filt_snoc (p := fun x => decide (q < x)) hc3
      generalize hq0 : l[j] = x at *
      refine VC.skip ?_
      refine thenQ_n ?_
      refine VC.sub [(0, _), (1, _), (5, _), (7, _)] (.cons rfl (.cons rfl (.cons rfl (.cons rfl .nil)))) ?_
      refine VC.seq ?_
      refine VC.block ?_
      refine VC.seq ?_
      refine VC.region ?_
      refine Ops.r (Run.mv rfl) rfl ?_
      refine Ops.r (Run.mv rfl) rfl ?_
      refine Ops.r (Run.index1 j rfl rfl Try.underlying43 Try.sizeOf9 hc3) rfl ?_
      refine Ops.r (Run.load rfl Try.isAgg9 hcell) rfl ?_
      refine Ops.r (Run.mv rfl) rfl ?_
      refine Ops.r (Run.gtrT rfl rfl) rfl ?_
      refine Ops.nil ?_
      refine thenQ_n ?_
      refine VC.sub [(0, _), (1, _), (5, _), (7, _), (42, _)] (.cons rfl (.cons rfl (.cons rfl (.cons rfl (.cons rfl .nil))))) ?_
      refine VC.meet (σ := Option Addr × Nat) (fun s => [(0, .slice (some ad) l.length c0), (1, encStr q), (5, .slice s.1 (P0 ++ (l.take (j + 1)).filter (fun x => decide (q < x))).length s.2), (7, .int .i64 ((j : Nat) : Int))]) (fun s wm => Own wm 9 1 s.1 (P0 ++ (l.take (j + 1)).filter (fun x => decide (q < x))).length s.2 (SB (P0 ++ (l.take (j + 1)).filter (fun x => decide (q < x)))) ∧ (∀ x ∈ ob s.1, w.heap.size ≤ x) ∧ Frm [] w wm) ?_ ?_
      · skip
        refine VC.condD rfl (fun hc4 => ?_) (fun hc4 => ?_)
        · skip
          refine VC.region ?_
          refine Ops.r (Run.mv rfl) rfl ?_
          refine Ops.r (Run.mv rfl) rfl ?_
          refine Ops.r (Run.mv rfl) rfl ?_
          refine Ops.r (Run.index1 j rfl rfl Try.underlying43 Try.sizeOf9 hc3) rfl ?_
          refine Ops.r (Run.load rfl Try.isAgg9 hcell) rfl ?_
          refine Ops.m (Does.buildS1 rfl Try.underlying43 Try.sizeOf9 zero9 (by decide) (by decide) rfl rfl) rfl ?_
          rintro _ w6 ⟨rfl, hF6⟩
          have hfr6 := hfr.trans hF6.frm (by simp)
          refine Ops.m (Does.app rfl rfl Try.underlying43 (info9) rfl (by decide) (hown.frm hF6.frm (by simp)) (hrd1 hF6) (SB_one _) (by omega) (by omega)) rfl ?_
          rintro _ w7 ⟨A7, c7, rfl, hown7, hfr7, hob7⟩
          rw [← SB_append] at hown7
          have hge7 := up_app hge hob7 hfr6.size
          have hfr7' := hfr6.own hfr7 hge
          refine Ops.r (Run.asg rfl) rfl ?_
          refine Ops.nil ?_
          refine thenQ_n ⟨(A7, c7), (.cons rfl (.cons rfl (.cons (by rw [hfs, if_pos (decide_eq_true hc4), ← List.append_assoc, List.length_append (bs := [x])]; rfl) (.cons rfl .nil)))), ?_⟩
          rw [hfs, if_pos (decide_eq_true hc4), ← List.append_assoc, List.length_append (bs := [x])]
          exact ⟨hown7, hge7, hfr7'⟩
        · skip
          refine VC.skip ?_
          refine thenQ_n ⟨(B, d), (.cons rfl (.cons rfl (.cons (by rw [hfs, if_neg (by simpa using hc4), List.append_nil]; rfl) (.cons rfl .nil)))), ?_⟩
          rw [hfs, if_neg (by simpa using hc4), List.append_nil]
          exact ⟨hown, hge, hfr⟩
      · skip
        rintro ⟨B2, d2⟩ wm ⟨hown2, hge2, hfr2⟩ Γ hΓ
        refine blockQ_n (thenQ_n (VC.sub _ hΓ ?_))
        refine VC.region ?_
        refine Ops.r (Run.mv rfl) rfl ?_
        refine Ops.r (Run.bin rfl rfl (Bin.add_i64 _ 1 (by omega))) rfl ?_
        refine Ops.r (Run.asg rfl) rfl ?_
        refine Ops.nil ?_
        refine thenQ_n ⟨(j + 1, B2, d2), (.cons rfl (.cons rfl (.cons rfl (.cons rfl .nil)))), ?_, ?_⟩
        · skip
          exact ⟨hc3, hown2, hge2, hfr2⟩
        · skip
          first | omega | (dsimp only; omega)
    · skip
      refine VC.exit ?_
      refine thenQ_x (thenQ_x (blockQ_x ?_))
      refine thenQ_n ?_
      refine VC.sub [(5, _)] (.cons rfl .nil) ?_
      refine VC.seq ?_
      refine VC.region ?_
      refine Ops.r (Run.mv rfl) rfl ?_
      refine Ops.r (Run.asg rfl) rfl ?_
      refine Ops.nil ?_
      refine thenQ_n ?_
      refine VC.sub [(4, _)] (.cons rfl .nil) ?_
      refine VC.ret ?_
      refine end1 rfl ?_
      have hjm : j = l.length := by omega
      subst hjm
      rw [List.take_length] at hown ⊢
      have e : P0 ++ l.filter (fun x => decide (q < x)) = layF l q := by rw [← hP]; rfl
      rw [e] at hown ⊢
      exact ⟨hfr, B, d, rfl, hown, hge⟩

set_option maxRecDepth 100000 in
theorem rsame_spec (A B : Option Addr) (c d : Nat) (a b : List Tx) (w : World) (hla : a.length ≤ 1000000) (hlb : b.length ≤ 1000000) (ha : Rd w 1 A a.length (SB a)) (hb : Rd w 1 B b.length (SB b)) :
    Calls Try.prog 35 #[.slice A a.length c, .slice B b.length d] w fun e w' => e = .returned (.bool (decide (a = b))) ∧ Drawn w w' := by
  refine VC.calls (nt := 26) (res := #[.tmp 4]) Try.func35 rfl Try.ntmps35 Try.results35 rfl ?_
  refine VC.seq ?_
  refine VC.region ?_
  refine Ops.r (Run.asg rfl) rfl ?_
  refine Ops.nil ?_
  refine thenQ_n ?_
  refine VC.sub [(0, _), (1, _)] (.cons rfl (.cons rfl .nil)) ?_
  refine VC.seq ?_
  refine VC.seq ?_
  refine VC.region ?_
  refine Ops.r (Run.mv rfl) rfl ?_
  refine Ops.r (Run.lenS rfl Try.underlying43) rfl ?_
  refine Ops.r (Run.mv rfl) rfl ?_
  refine Ops.r (Run.lenS rfl Try.underlying43) rfl ?_
  refine Ops.r (Run.bin rfl rfl (Bin.neqN _ _)) rfl ?_
  refine Ops.nil ?_
  refine thenQ_n ?_
  refine VC.sub [(0, _), (1, _), (10, _)] (.cons rfl (.cons rfl (.cons rfl .nil))) ?_
  refine VC.condD rfl (fun hc1 => ?_) (fun hc1 => ?_)
  · skip
    have hne : ¬ a = b := fun h => hc1 (by rw [h])
    refine VC.seq ?_
    refine VC.region ?_
    refine Ops.r (Run.asg rfl) rfl ?_
    refine Ops.nil ?_
    refine thenQ_n ?_
    refine VC.sub [(4, _)] (.cons rfl .nil) ?_
    refine VC.ret ?_
    refine thenQ_r (end1 rfl ?_)
    exact ⟨by simp [hne], Drawn.refl _⟩
  · skip
    have hll : a.length = b.length := Classical.not_not.1 hc1
    refine VC.skip ?_
    refine thenQ_n ?_
    refine VC.sub [(0, _), (1, _)] (.cons rfl (.cons rfl .nil)) ?_
    refine VC.seq ?_
    refine VC.seq ?_
    refine VC.region ?_
    refine Ops.r (v := .int .i64 ((0 : Nat) : Int)) (Run.asg rfl) rfl ?_
    refine Ops.nil ?_
    refine thenQ_n ?_
    refine VC.block ?_
    refine VC.loop (σ := Nat) (fun s => [(0, .slice A a.length c), (1, .slice B b.length d), (5, .int .i64 ((s : Nat) : Int))]) (fun s wr => s ≤ a.length ∧ a.take s = b.take s ∧ Drawn w wr) (fun s => a.length - s) 0 (.cons rfl (.cons rfl (.cons rfl .nil))) ⟨by omega, rfl, Drawn.refl _⟩ ?_
    rintro i wr ⟨hi, htk, hd⟩
    refine VC.seq ?_
    refine VC.seq ?_
    refine VC.region ?_
    refine Ops.r (Run.mv rfl) rfl ?_
    refine Ops.r (Run.mv rfl) rfl ?_
    refine Ops.r (Run.lenS rfl Try.underlying43) rfl ?_
    refine Ops.r (Run.bin rfl rfl (Bin.lssN _ _)) rfl ?_
    refine Ops.nil ?_
    refine thenQ_n ?_
    refine VC.sub [(0, _), (1, _), (5, _), (14, _)] (.cons rfl (.cons rfl (.cons rfl (.cons rfl .nil)))) ?_
    refine VC.condD rfl (fun hc2 => ?_) (fun hc2 => ?_)
    · skip
      have hib : i < b.length := by omega
      obtain ⟨ad, rfl, hcell⟩ := SB_at (ha.drawn (hd.trans (Drawn.drew _))) hc2
      obtain ⟨ad2, rfl, hcell2⟩ := SB_at (hb.drawn (hd.trans (Drawn.drew _))) hib
      have hta : a.take (i + 1) = a.take i ++ [a[i]] := take_snoc hc2
      have htb : b.take (i + 1) = b.take i ++ [b[i]] := take_snoc hib
      have hab : a = b → a[i] = b[i] := by rintro rfl; rfl
      generalize a[i] = x at *
      generalize b[i] = y at *
      refine VC.skip ?_
      refine thenQ_n ?_
      refine VC.sub [(0, _), (1, _), (5, _)] (.cons rfl (.cons rfl (.cons rfl .nil))) ?_
      refine VC.seq ?_
      refine VC.block ?_
      refine VC.seq ?_
      refine VC.still (by kernel_rfl) (by kernel_rfl) ?_
      refine SOps.r (Run.mv rfl) rfl ?_
      refine SOps.r (Run.mv rfl) rfl ?_
      refine SOps.r (Run.index1 i rfl rfl Try.underlying43 Try.sizeOf9 hc2) rfl ?_
      refine SOps.r (Run.load rfl Try.isAgg9 hcell) rfl ?_
      refine SOps.r (Run.mv rfl) rfl ?_
      refine SOps.r (Run.mv rfl) rfl ?_
      refine SOps.r (Run.index1 i rfl rfl Try.underlying43 Try.sizeOf9 hib) rfl ?_
      refine SOps.r (Run.load rfl Try.isAgg9 hcell2) rfl ?_
      refine SOps.r (Run.neqT rfl rfl) rfl ?_
      refine SOps.nil ?_
      refine thenQ_n ?_
      refine VC.sub [(0, _), (1, _), (5, _), (25, _)] (.cons rfl (.cons rfl (.cons rfl (.cons rfl .nil)))) ?_
      refine VC.condD rfl (fun hc3 => ?_) (fun hc3 => ?_)
      · skip
        have hne : ¬ a = b := fun h => hc3 (hab h)
        refine VC.seq ?_
        refine VC.region ?_
        refine Ops.r (Run.asg rfl) rfl ?_
        refine Ops.nil ?_
        refine thenQ_n ?_
        refine VC.sub [(4, _)] (.cons rfl .nil) ?_
        refine VC.ret ?_
        refine blockQ_r (thenQ_r (thenQ_r (blockQ_r (thenQ_r (end1 rfl ?_)))))
        exact ⟨by simp [hne], hd.trans (Drawn.drew _)⟩
      · skip
        have hxy : x = y := Classical.not_not.1 hc3
        refine VC.skip ?_
        refine blockQ_n (thenQ_n ?_)
        refine VC.sub [(0, _), (1, _), (5, _)] (.cons rfl (.cons rfl (.cons rfl .nil))) ?_
        refine VC.region ?_
        refine Ops.r (Run.mv rfl) rfl ?_
        refine Ops.r (Run.bin rfl rfl (Bin.add_i64 _ 1 (by omega))) rfl ?_
        refine Ops.r (Run.asg rfl) rfl ?_
        refine Ops.nil ?_
        refine thenQ_n ⟨(i + 1), (.cons rfl (.cons rfl (.cons rfl .nil))), ?_, ?_⟩
        · skip
          exact ⟨hc2, by rw [hta, htb, htk, hxy], hd.trans (Drawn.drew _)⟩
        · skip
          first | omega | (dsimp only; omega)
    · skip
      have hil : i = a.length := by omega
      subst hil
      have heq : a = b := by
        rw [List.take_length, hll, List.take_length] at htk
        exact htk
      refine VC.exit ?_
      refine thenQ_x (thenQ_x (blockQ_x ?_))
      refine thenQ_n ?_
      refine VC.sub [] .nil ?_
      refine VC.seq ?_
      refine VC.region ?_
      refine Ops.r (Run.asg rfl) rfl ?_
      refine Ops.nil ?_
      refine thenQ_n ?_
      refine VC.ret ?_
      refine end1 rfl ?_
      exact ⟨by simp [heq], hd⟩

end Go.Proofs.Ytmfglifjnoilnaa
