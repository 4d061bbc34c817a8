/-
  Media: found values, the same media.
-/
import Derived.Test.YtenbjndldenkfaaGreatDoorParE2
import Derived.Test.YtenbjndldenkfaaGreatDoorEng15
namespace Go.Proofs.YtenbjndldenkfaaGreatDoor
open Go.RowKit Go.Sort

theorem par_eq (x y : Par) (w : World) : (Op.eqFields 9999 (PC1 x).toArray (PC1 y).toArray (Tryz.prog.fieldsOf 102).toList).run Tryz.prog w = .ok (decide (x = y)) w := by
  obtain ⟨a, b⟩ := x
  obtain ⟨c, d⟩ := y
  obtain ⟨f0, f1, hf, ⟨n0, t0, o0⟩, n1, t1, o1⟩ := fields102
  rw [hf]
  have h := eqF_str (P := Tryz.prog) (w := w) (d := 9998) (xs := #[encStr a, encStr b]) (ys := #[encStr c, encStr d]) (f := f0) (fs := [f1]) (a := a) (b := c) (by rw [n0]; decide) (by rw [t0]; exact Tryz.isAgg9) (by rw [t0]; exact Tryz.underlying9) (by rw [o0]; rfl) (by rw [o0]; rfl)
    (eqF_str (a := b) (b := d) (by rw [n1]; decide) (by rw [t1]; exact Tryz.isAgg9) (by rw [t1]; exact Tryz.underlying9) (by rw [o1]; rfl) (by rw [o1]; rfl) eqF_nil)
  have e : decide ((a, b) = (c, d)) = (decide (a = c) && (decide (b = d) && true)) := by
    rw [Bool.eq_iff_iff]
    simp
  rw [e]
  exact h
theorem PC_at {w : World} {A : Option Addr} {l : List Par} {k : Nat} (h : Rd w 2 A l.length (PC l)) (hk : k < l.length) : ∃ ad, A = some ad ∧ ∀ j v, (PC1 l[k])[j]? = some v → w.cell? ((ad.add (k * 2)).add j) = some v := by
  obtain ⟨ad, rfl, hc⟩ := h.elem hk
  refine ⟨ad, rfl, fun j v hj => hc j v ?_⟩
  rw [show PC l = l.flatMap PC1 from rfl, flat_get PC1 2 PC1_len l k hk]
  exact hj
/-- What is found of a name. -/
def findQ : List Par → Tx → Tx × Bool
  | [], _ => ([], false)
  | p :: r, n => if p.1 = n then (p.2, true) else findQ r n
theorem findQ_no {n : Tx} : ∀ {l : List Par}, (∀ p ∈ l, p.1 ≠ n) → findQ l n = ([], false)
  | [], _ => rfl
  | p :: r, h => by rw [findQ, if_neg (h p (by simp)), findQ_no fun p hp => h p (by simp [hp])]
theorem findQ_at {n : Tx} : ∀ {l : List Par} {i : Nat} (hi : i < l.length), (∀ p ∈ l.take i, p.1 ≠ n) → l[i].1 = n → findQ l n = (l[i].2, true)
  | [], _, h, _, _ => by simp at h
  | p :: r, 0, _, _, h => by rw [findQ, if_pos (show p.1 = n from h)]; rfl
  | p :: r, i + 1, hi, h1, h => by
    rw [findQ, if_neg (h1 p (by simp)), findQ_at (i := i) (by simpa using hi) (fun p hp => h1 p (by simp [hp])) (by simpa using h)]
    rfl

set_option maxRecDepth 100000 in
theorem findC_spec (x : Par) (gn : Nat) (n : Tx) (w : World) (hbn : Blk w gn 9 #[encStr n]) :
    Calls Tryz.prog 141 #[.agg (PC1 x).toArray, .pointer (some ⟨gn, 0, none⟩)] w fun e w' => e = .returned (.bool (decide (x.1 = n))) ∧ Frm [] w w' := by
  refine VC.calls (nt := 8) (res := #[.tmp 3]) Tryz.func141 rfl Tryz.ntmps141 Tryz.results141 rfl ?_
  refine VC.seq ?_
  refine VC.region ?_
  refine Ops.m (Does.box rfl) rfl ?_
  rintro _ w1 ⟨rfl, hF1⟩
  have hb2 : Blk w1 w.heap.size 102 (PC1 x).toArray := hF1.blk
  have hbn := hbn.frm hF1.frm (by simp)
  generalize hg2 : w.heap.size = g2 at hb2 ⊢
  refine Ops.r (Run.asg rfl) rfl ?_
  refine Ops.nil ?_
  refine thenQ_n ?_
  refine VC.sub [(1, _), (2, _)] (.cons rfl (.cons rfl .nil)) ?_
  refine VC.seq ?_
  refine VC.region ?_
  refine Ops.r (Run.fieldAddr rfl Tryz.underlying102 rfl Tryz.sizeOf9 (by decide)) rfl ?_
  refine Ops.r (Run.load rfl Tryz.isAgg9 (hb2.cell 0)) rfl ?_
  refine Ops.r (Run.load rfl Tryz.isAgg9 (hbn.cell 0)) rfl ?_
  refine Ops.r (Run.eqlT rfl rfl) rfl ?_
  refine Ops.r (Run.asg rfl) rfl ?_
  refine Ops.nil ?_
  refine thenQ_n ?_
  refine VC.sub [(3, _)] (.cons rfl .nil) ?_
  refine VC.ret ?_
  refine end1 rfl ?_
  exact ⟨rfl, hF1.frm⟩

set_option maxRecDepth 100000 in
theorem idxP_spec (A : Option Addr) (c : Nat) (l : List Par) (gn : Nat) (n : Tx) (w : World) (hl : Rd w 2 A l.length (PC l)) (hn : l.length ≤ 1000000) (hbn : Blk w gn 9 #[encStr n]) :
    Calls Tryz.prog 140 #[.slice A l.length c, .func (.func 141) #[] #[.pointer (some ⟨gn, 0, none⟩)]] w fun e w' => Frm [] w w' ∧ ∃ k : Int, e = .returned (.int .i64 k) ∧ ((k = -1 ∧ ∀ p ∈ l, p.1 ≠ n) ∨ ∃ (i : Nat) (hi : i < l.length), k = (i : Int) ∧ (∀ p ∈ l.take i, p.1 ≠ n) ∧ l[i].1 = n) := by
  refine VC.calls (nt := 19) (res := #[.tmp 4]) Tryz.func140 rfl Tryz.ntmps140 Tryz.results140 rfl ?_
  refine VC.seq ?_
  refine VC.region ?_
  refine Ops.r (v := .int .i64 ((0 : Nat) : Int)) (Run.asg rfl) rfl ?_
  refine Ops.nil ?_
  refine thenQ_n ?_
  refine VC.sub [(0, _), (1, _)] (.cons rfl (.cons rfl .nil)) ?_
  refine VC.seq ?_
  refine VC.seq ?_
  refine VC.region ?_
  refine Ops.r (Run.mv rfl) rfl ?_
  refine Ops.r (Run.lenS rfl Tryz.underlying65) rfl ?_
  refine Ops.r (v := .int .i64 ((0 : Nat) : Int)) (Run.mv rfl) rfl ?_
  refine Ops.nil ?_
  refine thenQ_n ?_
  refine VC.sub [(0, _), (1, _), (7, _), (8, _)] (.cons rfl (.cons rfl (.cons rfl (.cons rfl .nil)))) ?_
  refine VC.block ?_
  refine VC.loop (σ := Nat) (fun s => [(0, .slice A l.length c), (1, .func (.func 141) #[] #[.pointer (some ⟨gn, 0, none⟩)]), (7, .int .i64 ((l.length : Nat) : Int)), (8, .int .i64 ((s : Nat) : Int))]) (fun s wr => s ≤ l.length ∧ Frm [] w wr ∧ ∀ x ∈ l.take s, x.1 ≠ n) (fun s => l.length - s) 0 (.cons rfl (.cons rfl (.cons rfl (.cons rfl .nil)))) ⟨by omega, Frm.refl _ _, by simp⟩ ?_
  rintro i wr ⟨hi, hfr, hno⟩
  refine VC.seq ?_
  refine VC.region ?_
  refine Ops.r (Run.bin rfl rfl (Bin.lssN _ _)) rfl ?_
  refine Ops.nil ?_
  refine thenQ_n ?_
  refine VC.seq ?_
  refine VC.condD rfl (fun hc1 => ?_) (fun hc1 => ?_)
  · skip
    obtain ⟨ad, rfl, hcell⟩ := PC_at (hl.frm hfr (by simp)) hc1
    have hts : l.take (i + 1) = l.take i ++ [l[i]] := by rw [List.take_add_one, List.getElem?_eq_getElem hc1]; rfl
    have hxi : ∀ x, l[i] = x → (l[i].1 = n ↔ x.1 = n) := fun x h => by rw [h]
    generalize hx : l[i] = x at hcell hts
    refine VC.skip ?_
    refine thenQ_n ?_
    refine VC.sub [(0, _), (1, _), (7, _), (8, _)] (.cons rfl (.cons rfl (.cons rfl (.cons rfl .nil)))) ?_
    refine VC.seq ?_
    refine VC.block ?_
    refine VC.seq ?_
    refine VC.region ?_
    refine Ops.r (Run.mv rfl) rfl ?_
    refine Ops.r (Run.asg rfl) rfl ?_
    refine Ops.nil ?_
    refine thenQ_n ?_
    refine VC.sub [(0, _), (1, _), (5, _), (7, _), (8, _)] (.cons rfl (.cons rfl (.cons rfl (.cons rfl (.cons rfl .nil))))) ?_
    refine VC.seq ?_
    refine VC.region ?_
    refine Ops.r (Run.mv rfl) rfl ?_
    refine Ops.r (Run.mv rfl) rfl ?_
    refine Ops.r (Run.mv rfl) rfl ?_
    refine Ops.r (Run.indexS i rfl rfl Tryz.underlying65 Tryz.sizeOf102 hc1) rfl ?_
    refine Ops.r (Run.loadA rfl Tryz.isAgg102 Tryz.sizeOf102 hcell (by first | rfl | (simp; done))) rfl ?_
    refine Ops.cl (Enters.dyn rfl (evs.cons rfl evs.nil) Tryz.call141) ((findC_spec x gn n _ (hbn.frm hfr (by simp)))) rfl ?_
    rintro e w1 ⟨rfl, hf1⟩
    refine ⟨_, rfl, ?_⟩
    refine Ops.nil ?_
    refine thenQ_n ?_
    refine VC.sub [(0, _), (1, _), (5, _), (7, _), (8, _), (16, _)] (.cons rfl (.cons rfl (.cons rfl (.cons rfl (.cons rfl (.cons rfl .nil)))))) ?_
    refine VC.condB rfl (fun hc2 => ?_) (fun hc2 => ?_)
    · skip
      refine VC.seq ?_
      refine VC.region ?_
      refine Ops.r (Run.mv rfl) rfl ?_
      refine Ops.r (Run.asg rfl) rfl ?_
      refine Ops.nil ?_
      refine thenQ_n ?_
      refine VC.sub [(4, _)] (.cons rfl .nil) ?_
      refine VC.ret ?_
      refine blockQ_r (thenQ_r (thenQ_r (blockQ_r (thenQ_r (end1 rfl ?_)))))
      exact ⟨hfr.trans hf1 (by simp), _, rfl, .inr ⟨i, hc1, rfl, hno, (hxi x hx).2 (of_decide_eq_true hc2)⟩⟩
    · skip
      refine VC.skip ?_
      refine blockQ_n (thenQ_n ?_)
      refine VC.sub [(0, _), (1, _), (7, _), (8, _)] (.cons rfl (.cons rfl (.cons rfl (.cons rfl .nil)))) ?_
      refine VC.region ?_
      refine Ops.r (Run.bin rfl rfl (Bin.add_i64 _ 1 (by omega))) rfl ?_
      refine Ops.r (Run.mv rfl) rfl ?_
      refine Ops.nil ?_
      refine thenQ_n ⟨(i + 1), (.cons rfl (.cons rfl (.cons rfl (.cons rfl .nil)))), ?_, ?_⟩
      · skip
        refine ⟨hc1, hfr.trans hf1 (by simp), fun y hy => ?_⟩
        rw [hts] at hy
        rcases List.mem_append.1 hy with h | h
        · exact hno y h
        · simp only [List.mem_singleton] at h; subst h; exact of_decide_eq_false hc2
      · skip
        first | omega | (dsimp only; omega)
  · skip
    refine VC.exit ?_
    refine thenQ_x (thenQ_x (blockQ_x ?_))
    refine thenQ_n ?_
    refine VC.sub [] .nil ?_
    refine VC.seq ?_
    refine VC.region ?_
    refine Ops.r (v := .int .i64 (-1)) (Run.asg rfl) rfl ?_
    refine Ops.nil ?_
    refine thenQ_n ?_
    refine VC.ret ?_
    refine end1 rfl ?_
    refine ⟨hfr, _, rfl, .inl ⟨rfl, ?_⟩⟩
    have hil : i = l.length := by omega
    subst hil
    rw [List.take_length] at hno
    exact hno

set_option maxRecDepth 100000 in
theorem find_spec (m : Med) (A : Option Addr) (c : Nat) (n : Tx) (w : World) (hl : Rd w 2 A m.ps.length (PC m.ps)) (hn : m.ps.length ≤ 1000000) :
    Calls Tryz.prog 105 #[.agg (MdC m A c), encStr n] w fun e w' => Frm [] w w' ∧ e = .returned (.tuple #[encStr (findQ m.ps n).1, .bool (findQ m.ps n).2]) := by
  refine VC.calls (nt := 19) (res := #[.tmp 4, .tmp 5]) Tryz.func105 rfl Tryz.ntmps105 Tryz.results105 rfl ?_
  refine VC.seq ?_
  refine VC.region ?_
  refine Ops.m (Does.box rfl) rfl ?_
  rintro _ w1 ⟨rfl, hF2⟩
  have hb2 : Blk w1 w.heap.size 67 (MdC m A c) := hF2.blk
  have hf2 := hF2.frm
  have hl := hl.frm hf2 (by simp)
  generalize hg2 : w.heap.size = g2 at hb2 ⊢
  refine Ops.m (Does.box rfl) rfl ?_
  rintro _ w2 ⟨rfl, hF3⟩
  have hb3 := hF3.blk
  have hb2 := hb2.frm hF3.frm (by simp)
  have hl := hl.frm hF3.frm (by simp)
  have K := hf2.trans hF3.frm (by simp)
  generalize hg3 : w1.heap.size = g3 at hb3 ⊢
  refine Ops.r (Run.asg rfl) rfl ?_
  refine Ops.r (Run.asg rfl) rfl ?_
  refine Ops.nil ?_
  refine thenQ_n ?_
  refine VC.sub [(2, _), (3, _)] (.cons rfl (.cons rfl .nil)) ?_
  refine VC.seq ?_
  refine VC.region ?_
  refine Ops.r (Run.fieldAddr rfl Tryz.underlying67 rfl Tryz.sizeOf65 (by decide)) rfl ?_
  refine Ops.r (Run.load rfl Tryz.isAgg65 (hb2.cell 2)) rfl ?_
  refine Ops.r (Run.mkFunc evs.nil (evs.cons rfl evs.nil)) rfl ?_
  refine Ops.cl (Enters.fn (evs.cons rfl (evs.cons rfl evs.nil)) Tryz.call140) ((idxP_spec A c m.ps g3 n _ hl hn hb3)) rfl ?_
  rintro e w4 ⟨hf4, k, rfl, hk⟩
  refine ⟨_, rfl, ?_⟩
  have K := K.trans hf4 (by simp)
  have hb2 := hb2.frm hf4 (by simp)
  have hl := hl.frm hf4 (by simp)
  refine Ops.r (Run.asg rfl) rfl ?_
  refine Ops.nil ?_
  refine thenQ_n ?_
  refine VC.sub [(2, _), (6, _)] (.cons rfl (.cons rfl .nil)) ?_
  refine VC.seq ?_
  refine VC.seq ?_
  refine VC.region ?_
  refine Ops.r (Run.mv rfl) rfl ?_
  refine Ops.r (Run.bin rfl rfl (Bin.lss _ 0)) rfl ?_
  refine Ops.nil ?_
  refine thenQ_n ?_
  refine VC.sub [(2, _), (6, _), (12, _)] (.cons rfl (.cons rfl (.cons rfl .nil))) ?_
  refine VC.condD rfl (fun hc1 => ?_) (fun hc1 => ?_)
  · skip
    have hno := findQ_no (hk.resolve_right (by rintro ⟨i, _, rfl, _⟩; omega)).2
    refine VC.seq ?_
    refine VC.region ?_
    refine Ops.r (Run.asg rfl) rfl ?_
    refine Ops.r (Run.asg rfl) rfl ?_
    refine Ops.nil ?_
    refine thenQ_n ?_
    refine VC.sub [(4, _), (5, _)] (.cons rfl (.cons rfl .nil)) ?_
    refine VC.ret ?_
    refine thenQ_r (end2 rfl rfl ?_)
    exact ⟨K, by rw [hno]⟩
  · skip
    obtain ⟨i, hi, rfl, hno, hat⟩ := hk.resolve_left (by rintro ⟨rfl, _⟩; omega)
    have hfq := findQ_at hi hno hat
    obtain ⟨ad, rfl, hcell⟩ := PC_at hl hi
    refine VC.skip ?_
    refine thenQ_n ?_
    refine VC.sub [(2, _), (6, _)] (.cons rfl (.cons rfl .nil)) ?_
    refine VC.seq ?_
    refine VC.region ?_
    refine Ops.r (Run.fieldAddr rfl Tryz.underlying67 rfl Tryz.sizeOf65 (by decide)) rfl ?_
    refine Ops.r (Run.load rfl Tryz.isAgg65 (hb2.cell 2)) rfl ?_
    refine Ops.r (Run.mv rfl) rfl ?_
    refine Ops.r (Run.indexS i rfl rfl Tryz.underlying65 Tryz.sizeOf102 hi) rfl ?_
    refine Ops.r (Run.fieldAddr rfl Tryz.underlying102 rfl Tryz.sizeOf9 (by decide)) rfl ?_
    refine Ops.r (Run.load rfl Tryz.isAgg9 (by have := hcell 1 (encStr m.ps[i].2) rfl; simpa using this)) rfl ?_
    refine Ops.r (Run.asg rfl) rfl ?_
    refine Ops.r (Run.asg rfl) rfl ?_
    refine Ops.nil ?_
    refine thenQ_n ?_
    refine VC.sub [(4, _), (5, _)] (.cons rfl (.cons rfl .nil)) ?_
    refine VC.ret ?_
    refine end2 rfl rfl ?_
    exact ⟨K, by rw [hfq]⟩

def sameQ (a b : Med) : Bool := decide (a.ty = b.ty ∧ a.sub = b.sub ∧ a.ps = b.ps)

end Go.Proofs.YtenbjndldenkfaaGreatDoor
