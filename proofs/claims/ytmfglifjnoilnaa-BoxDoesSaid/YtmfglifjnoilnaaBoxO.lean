/-
  The walk of the document's box: those that go.
-/
import Derived.Test.YtmfglifjnoilnaaBoxQ
namespace Go.Proofs.Ytmfglifjnoilnaa
open Go.RowKit Go.Sort

/-- The places of those that a test names, as they are then: so many stay ahead. -/
def placesQ (q : MsgP → Bool) : Nat → List MsgP → List Nat
  | _, [] => []
  | k, m :: r => if q m = true then (k + 1) :: placesQ q k r else placesQ q (k + 1) r
theorem placesQ_snoc (q : MsgP → Bool) : ∀ (l : List MsgP) (k : Nat) (m : MsgP), placesQ q k (l ++ [m]) = placesQ q k l ++ if q m = true then [k + (l.filter fun x => !q x).length + 1] else []
  | [], k, m => by simp [placesQ]
  | a :: r, k, m => by
    by_cases h : q a = true
    · have ih := placesQ_snoc q r k m
      simp only [List.cons_append, placesQ, h, if_true, ih, List.filter_cons, Bool.not_true, Bool.false_eq_true, if_false]
    · have ih := placesQ_snoc q r (k + 1) m
      have hb : q a = false := by simpa using h
      have e : k + ((r.filter fun x => !q x).length + 1) + 1 = k + 1 + (r.filter fun x => !q x).length + 1 := by omega
      simp only [List.cons_append, placesQ, hb, Bool.false_eq_true, if_false, ih, List.filter_cons, Bool.not_false, if_true, List.length_cons, e]
theorem placesQ_len (q : MsgP → Bool) : ∀ (l : List MsgP) (k : Nat), (placesQ q k l).length = (l.filter q).length
  | [], k => rfl
  | a :: r, k => by
    by_cases h : q a = true
    · simp [placesQ, h, placesQ_len q r]
    · simp [placesQ, h, placesQ_len q r]
/-- What goes is told by its shifted places. -/
theorem shift_marks (q : MsgP → Bool) : ∀ (l : List MsgP) (i k : Nat), k ≤ i → shiftP k (marksQ q i l) = placesQ q (i - k) l
  | [], i, k, _ => rfl
  | a :: r, i, k, h => by
    by_cases hq : q a = true
    · have ih := shift_marks q r (i + 1) (k + 1) (by omega)
      have e1 : i + 1 - k = i - k + 1 := by omega
      have e2 : i + 1 - (k + 1) = i - k := by omega
      simp only [marksQ, placesQ, hq, if_true, shiftP, ih, e1, e2]
    · have ih := shift_marks q r (i + 1) k (by omega)
      have e1 : i + 1 - k = i - k + 1 := by omega
      have hb : q a = false := by simpa using hq
      simp only [marksQ, placesQ, hb, Bool.false_eq_true, if_false, ih, e1]
theorem blobs_marks (q : MsgP → Bool) (all : List MsgP) : ∀ (l : List MsgP) (i : Nat), all.drop i = l → blobsP all (marksQ q i l) = (l.filter q).map MsgP.blob
  | [], i, _ => rfl
  | a :: r, i, h => by
    have h2 : all.drop (i + 1) = r := by
      have := congrArg (List.drop 1) h
      simpa [List.drop_drop] using this
    have ha : all[i]? = some a := by
      have := congrArg List.head? h
      simpa [List.head?_drop] using this
    have ih := blobs_marks q all r (i + 1) h2
    by_cases hq : q a = true
    · simp only [marksQ, hq, if_true, blobsP, List.map_cons, Nat.add_sub_cancel, ha, List.filter_cons] at ih ⊢
      rw [ih]
      rfl
    · simp only [marksQ, hq, if_false, List.filter_cons] at ih ⊢
      exact ih
/-- What stays of the first ones. -/
def stayL (q : MsgP → Bool) (l : List Mc) (i : Nat) : List Mc := (l.take i).filter fun x => !q x.m
theorem stayL_succ (q : MsgP → Bool) {l : List Mc} {i : Nat} (h : i < l.length) : stayL q l (i + 1) = stayL q l i ++ if q (l[i]).m = true then [] else [l[i]] := by
  unfold stayL
  rw [List.take_add_one, List.filter_append, List.getElem?_eq_getElem h]
  cases hq : q (l[i]).m <;> simp [hq]
theorem stayL_len (q : MsgP → Bool) (l : List Mc) (i : Nat) : (stayL q l i).length ≤ l.length := by
  unfold stayL
  have := List.length_filter_le (fun x => !q x.m) (l.take i)
  rw [List.length_take] at this
  omega
def plL (q : MsgP → Bool) (l : List Mc) (i : Nat) : List Nat := placesQ q 0 (Ms (l.take i))
theorem plL_succ (q : MsgP → Bool) {l : List Mc} {i : Nat} (h : i < l.length) : plL q l (i + 1) = plL q l i ++ if q (l[i]).m = true then [(stayL q l i).length + 1] else [] := by
  unfold plL
  rw [Ms_take h, placesQ_snoc]
  have e : ((Ms (l.take i)).filter fun x => !q x).length = (stayL q l i).length := by
    unfold stayL
    rw [← Ms_filter]
    simp [Ms]
  rw [e, Nat.zero_add]
theorem plL_len (q : MsgP → Bool) (l : List Mc) (i : Nat) : (plL q l i).length ≤ l.length := by
  unfold plL
  rw [placesQ_len]
  have h1 := List.length_filter_le q (Ms (l.take i))
  have h2 : (Ms (l.take i)).length ≤ l.length := by simp only [Ms, List.length_map, List.length_take]; omega
  omega
def blL (q : MsgP → Bool) (l : List Mc) (i : Nat) : List Nat := ((Ms (l.take i)).filter q).map MsgP.blob
theorem blL_succ (q : MsgP → Bool) {l : List Mc} {i : Nat} (h : i < l.length) : blL q l (i + 1) = blL q l i ++ if q (l[i]).m = true then [(l[i]).m.blob] else [] := by
  unfold blL
  rw [Ms_take h, List.filter_append, List.map_append]
  cases hq : q (l[i]).m <;> simp [hq]
theorem blL_len (q : MsgP → Bool) (l : List Mc) (i : Nat) : (blL q l i).length ≤ l.length := by
  unfold blL
  have := List.length_filter_le q (Ms (l.take i))
  simp only [Ms, List.length_map, List.length_take] at this ⊢
  omega

set_option maxRecDepth 100000 in
theorem rexpunge_spec (v n : Int) (A : Option Addr) (c : Nat) (l : List Mc) (every : Bool) (O : Option Addr) (co : Nat) (only : List Int) (w : World) (hl : RdM w A l) (hn : l.length ≤ 900000) (ho : Rd w 1 O only.length (IB only)) (hon : only.length ≤ 1000000) :
    Calls Try.prog 14 #[.agg #[.int .i64 v, .int .i64 n, .slice A l.length c], .bool every, .slice O only.length co] w fun e w' => Frm [] w w' ∧ ∃ B d l' P dP ps D dD bs, e = .returned (.tuple #[.agg #[.int .i64 v, .int .i64 n, .slice B l'.length d], .slice P ps.length dP, .slice D bs.length dD]) ∧
      RdM w' B l' ∧ Rd w' 1 P ps.length (NI ps) ∧ Rd w' 1 D bs.length (UBl bs) ∧ Ms l' = (Ms l).filter (fun m => !goesQ every only m) ∧ ps = placesQ (goesQ every only) 0 (Ms l) ∧ bs = ((Ms l).filter (goesQ every only)).map MsgP.blob := by
  refine VC.calls (nt := 56) (res := #[.cell 6 24, .tmp 7, .tmp 8]) Try.func14 rfl Try.ntmps14 Try.results14 rfl ?_
  refine VC.seq ?_
  refine VC.region ?_
  refine Ops.m (Does.box rfl) rfl ?_
  rintro _ w1 ⟨rfl, hF3⟩
  have hb3 := hF3.blk
  have hf3 := hF3.frm
  have hs3 : w.heap.size ≤ w.heap.size := Nat.le_refl _
  generalize hg3 : w.heap.size = g3 at hb3 ⊢
  refine Ops.m (Does.alloc zero24) rfl ?_
  rintro _ w2 ⟨rfl, hF6⟩
  have hb6 := hF6.blk
  have hb3 := hb3.frm hF6.frm (by simp)
  have hf6 := hf3.trans hF6.frm (by simp)
  have hs6 : w.heap.size ≤ w1.heap.size := hf3.size
  generalize hg6 : w1.heap.size = g6 at hb6 hs6 ⊢
  have hn36 : g3 < g6 := by rw [← hg6, ← hg3]; have := hF3.size; omega
  have hgq : ∀ m, goesQ every only m = decide (goesB every only m) := fun m => rfl
  generalize hq : goesQ every only = q at *
  refine Ops.r (Run.asg rfl) rfl ?_
  refine Ops.r (Run.asg rfl) rfl ?_
  refine Ops.nil ?_
  refine thenQ_n ?_
  refine VC.sub [(1, _), (2, _), (3, _), (6, _)] (.cons rfl (.cons rfl (.cons rfl (.cons rfl .nil)))) ?_
  refine VC.seq ?_
  refine VC.region ?_
  refine Ops.r (Run.asg rfl) rfl ?_
  refine Ops.nil ?_
  refine thenQ_n ?_
  refine VC.seq ?_
  refine VC.region ?_
  refine Ops.r (Run.asg rfl) rfl ?_
  refine Ops.nil ?_
  refine thenQ_n ?_
  refine VC.seq ?_
  refine VC.region ?_
  refine Ops.r (Run.asg rfl) rfl ?_
  refine Ops.nil ?_
  refine thenQ_n ?_
  refine VC.seq ?_
  refine VC.seq ?_
  refine VC.region ?_
  refine Ops.r (v := .int .i64 ((0 : Nat) : Int)) (Run.asg rfl) rfl ?_
  refine Ops.nil ?_
  refine thenQ_n ?_
  refine VC.block ?_
  refine VC.loop (σ := Nat × (Option Addr × Nat) × (Option Addr × Nat) × Option Addr × Nat) (fun s => [(1, .bool every), (2, .slice O only.length co), (3, .pointer (some ⟨g3, 0, none⟩)), (6, .pointer (some ⟨g6, 0, none⟩)), (9, .slice s.2.1.1 (plL q l s.1).length s.2.1.2), (10, .slice s.2.2.1.1 (blL q l s.1).length s.2.2.1.2), (11, .slice s.2.2.2.1 (stayL q l s.1).length s.2.2.2.2), (12, .int .i64 ((s.1 : Nat) : Int))]) (fun s wr => s.1 ≤ l.length ∧ Own wr 3 1 s.2.1.1 (plL q l s.1).length s.2.1.2 (NI (plL q l s.1)) ∧ Own wr 38 1 s.2.2.1.1 (blL q l s.1).length s.2.2.1.2 (UBl (blL q l s.1)) ∧ Own wr 45 6 s.2.2.2.1 (stayL q l s.1).length s.2.2.2.2 (MC (stayL q l s.1)) ∧ (∀ b ∈ ob s.2.1.1, w2.heap.size ≤ b) ∧ (∀ b ∈ ob s.2.2.1.1, w2.heap.size ≤ b) ∧ (∀ b ∈ ob s.2.2.2.1, w2.heap.size ≤ b) ∧ Frm [] w2 wr) (fun s => l.length - s.1) (0, (none, 0), (none, 0), none, 0) (.cons rfl (.cons rfl (.cons rfl (.cons rfl (.cons rfl (.cons rfl (.cons rfl (.cons rfl .nil)))))))) ⟨by omega, Own.nil _ _ _, Own.nil _ _ _, Own.nil _ _ _, by simp [ob], by simp [ob], by simp [ob], Frm.refl _ _⟩ ?_
  rintro ⟨i, ⟨P, dP⟩, ⟨D, dD⟩, R, dR⟩ wr ⟨hi, hoP, hoD, hoR, hgP, hgD, hgR, hfr⟩
  dsimp only at hi hoP hoD hoR hgP hgD hgR ⊢
  have hlP := plL_len q l i
  have hlD := blL_len q l i
  have hlR := stayL_len q l i
  have hb3r := hb3.frm hfr (by simp)
  refine VC.seq ?_
  refine VC.seq ?_
  refine VC.region ?_
  refine Ops.r (Run.mv rfl) rfl ?_
  refine Ops.r (Run.fieldAddr rfl Try.underlying24 rfl Try.sizeOf22 (by decide)) rfl ?_
  refine Ops.r (Run.load rfl Try.isAgg22 (hb3r.cell 2)) rfl ?_
  refine Ops.r (Run.lenS rfl Try.underlying22) rfl ?_
  refine Ops.r (Run.bin rfl rfl (Bin.lssN _ _)) rfl ?_
  refine Ops.nil ?_
  refine thenQ_n ?_
  refine VC.sub [(1, _), (2, _), (3, _), (6, _), (9, _), (10, _), (11, _), (12, _), (17, _)] (.cons rfl (.cons rfl (.cons rfl (.cons rfl (.cons rfl (.cons rfl (.cons rfl (.cons rfl (.cons rfl .nil))))))))) ?_
  refine VC.condD rfl (fun hc1 => ?_) (fun hc1 => ?_)
  · skip
    obtain ⟨ad, rfl, hcell⟩ := (hl.frm (hf6.trans hfr (by simp))).elem hc1
    have hlt := (hl.frm (hf6.trans hfr (by simp))).rd.lt (by omega) ad.block (by simp [ob])
    have hxa := (hl.frm (hf6.trans hfr (by simp))).fl (l[i]) (List.getElem_mem hc1)
    have hsP := plL_succ q hc1
    have hsD := blL_succ q hc1
    have hsR := stayL_succ q hc1
    generalize hx : l[i] = x at *
    refine VC.skip ?_
    refine thenQ_n ?_
    refine VC.sub [(1, _), (2, _), (3, _), (6, _), (9, _), (10, _), (11, _), (12, _)] (.cons rfl (.cons rfl (.cons rfl (.cons rfl (.cons rfl (.cons rfl (.cons rfl (.cons rfl .nil)))))))) ?_
    refine VC.seq ?_
    refine VC.block ?_
    refine VC.seq ?_
    refine VC.region ?_
    refine Ops.r (Run.fieldAddr rfl Try.underlying24 rfl Try.sizeOf22 (by decide)) rfl ?_
    refine Ops.r (Run.load rfl Try.isAgg22 (hb3r.cell 2)) rfl ?_
    refine Ops.r (Run.mv rfl) rfl ?_
    refine Ops.r (Run.indexS i rfl rfl Try.underlying22 Try.sizeOf45 hc1) rfl ?_
    refine Ops.r (Run.loadA rfl Try.isAgg45 Try.sizeOf45 hcell (by first | rfl | (simp; done))) rfl ?_
    refine Ops.r (Run.mv rfl) rfl ?_
    refine Ops.r (Run.mv rfl) rfl ?_
    refine Ops.cl (Enters.fn (evs.cons rfl (evs.cons rfl (evs.cons rfl evs.nil))) Try.call34) (rgoes_spec x every O co only _ hxa (ho.frm (hf6.trans hfr (by simp)) (by simp)) hon) rfl ?_
    rintro e w4 ⟨rfl, hf4⟩
    refine ⟨_, rfl, ?_⟩
    have hfr4 := hfr.trans hf4 (by simp)
    have hqx := hgq x.m
    have hoP4 := hoP.frm hf4 (by simp)
    have hoD4 := hoD.frm hf4 (by simp)
    have hoR4 := hoR.frm hf4 (by simp)
    have hcell4 : ∀ (j : Nat) (v : Value), x.cells[j]? = some v → w4.cell? ((ad.add (i * 6)).add j) = some v := fun j v hj => (World.cell?_of_block (by rw [block_add, block_add]; exact hf4.block _ hlt (by simp))).trans (hcell j v hj)
    refine Ops.nil ?_
    refine thenQ_n ?_
    refine VC.sub [(1, _), (2, _), (3, _), (6, _), (9, _), (10, _), (11, _), (12, _), (27, _)] (.cons rfl (.cons rfl (.cons rfl (.cons rfl (.cons rfl (.cons rfl (.cons rfl (.cons rfl (.cons rfl .nil))))))))) ?_
    refine VC.condB rfl (fun hc2 => ?_) (fun hc2 => ?_)
    · skip
      refine VC.seq ?_
      refine VC.region ?_
      refine Ops.r (Run.mv rfl) rfl ?_
      refine Ops.r (Run.mv rfl) rfl ?_
      refine Ops.r (Run.lenS rfl Try.underlying22) rfl ?_
      refine Ops.r (Run.bin rfl rfl (Bin.add_i64 _ 1 (by omega))) rfl ?_
      refine Ops.m (Does.buildS1 rfl Try.underlying25 Try.sizeOf3 zero3 (by decide) (by decide) rfl rfl) rfl ?_
      rintro _ w5 ⟨rfl, hF5⟩
      have hfr5 := hfr4.trans hF5.frm (by simp)
      have hoP5 := hoP4.frm hF5.frm (by simp)
      have hoD5 := hoD4.frm hF5.frm (by simp)
      have hoR5 := hoR4.frm hF5.frm (by simp)
      refine Ops.m (Does.app rfl rfl Try.underlying25 (info3) rfl (by decide) hoP5 (hrdN hF5) (NI_one _) (by omega) (by omega)) rfl ?_
      rintro _ w6 ⟨P6, c6, rfl, hoP6, hf66, hob6⟩
      rw [← NI_append] at hoP6
      have hg6' := up_app hgP hob6 hfr5.size
      have hfr6 := hfr5.own hf66 hgP
      have hoD6 := hoD5.frm hf66 (hoD5.ne_own hoP5 (by decide))
      have hoR6 := hoR5.frm hf66 (hoR5.ne_own hoP5 (by decide))
      have hb36 := hb3.frm hfr6 (by simp)
      have hlt2 : ad.block < w2.heap.size := by
        have h := hl.frm hf6
        exact h.rd.lt (by omega) ad.block (by simp [ob])
      have hcell6 : ∀ (j : Nat) (v : Value), x.cells[j]? = some v → w6.cell? ((ad.add (i * 6)).add j) = some v := fun j v hj => by
        obtain ⟨ad', hA, hc⟩ := (hl.frm (hf6.trans hfr6 (by simp))).elem hc1
        injection hA with hA
        subst hA
        rw [hx] at hc
        exact hc j v hj
      refine Ops.r (Run.asg rfl) rfl ?_
      refine Ops.nil ?_
      refine thenQ_n ?_
      refine VC.sub [(1, _), (2, _), (3, _), (6, _), (9, _), (10, _), (11, _), (12, _)] (.cons rfl (.cons rfl (.cons rfl (.cons rfl (.cons rfl (.cons rfl (.cons rfl (.cons rfl .nil)))))))) ?_
      refine VC.region ?_
      refine Ops.r (Run.mv rfl) rfl ?_
      refine Ops.r (Run.fieldAddr rfl Try.underlying24 rfl Try.sizeOf22 (by decide)) rfl ?_
      refine Ops.r (Run.load rfl Try.isAgg22 (hb36.cell 2)) rfl ?_
      refine Ops.r (Run.mv rfl) rfl ?_
      refine Ops.r (Run.indexS i rfl rfl Try.underlying22 Try.sizeOf45 hc1) rfl ?_
      refine Ops.r (Run.fieldAddr rfl Try.underlying45 rfl Try.sizeOf38 (by decide)) rfl ?_
      refine Ops.r (Run.load rfl Try.isAgg38 (hcell6 4 _ rfl)) rfl ?_
      refine Ops.m (Does.buildS1 rfl Try.underlying27 Try.sizeOf38 zero38 (by decide) (by decide) rfl rfl) rfl ?_
      rintro _ w7 ⟨rfl, hF7⟩
      have hfr7 := hfr6.trans hF7.frm (by simp)
      have hoP7 := hoP6.frm hF7.frm (by simp)
      have hoD7 := hoD6.frm hF7.frm (by simp)
      have hoR7 := hoR6.frm hF7.frm (by simp)
      refine Ops.m (Does.app rfl rfl Try.underlying27 (info38) rfl (by decide) hoD7 (hrdU hF7) (UBl_one _) (by omega) (by omega)) rfl ?_
      rintro _ w8 ⟨D8, c8, rfl, hoD8, hf8, hob8⟩
      rw [← UBl_append] at hoD8
      have hg8 := up_app hgD hob8 hfr7.size
      have hfr8 := hfr7.own hf8 hgD
      have hoP8 := hoP7.frm hf8 (hoP7.ne_own hoD7 (by decide))
      have hoR8 := hoR7.frm hf8 (hoR7.ne_own hoD7 (by decide))
      refine Ops.r (Run.asg rfl) rfl ?_
      refine Ops.nil ?_
      refine blockQ_n (thenQ_n ?_)
      refine VC.sub [(1, _), (2, _), (3, _), (6, _), (9, _), (10, _), (11, _), (12, _)] (.cons rfl (.cons rfl (.cons rfl (.cons rfl (.cons rfl (.cons rfl (.cons rfl (.cons rfl .nil)))))))) ?_
      refine VC.region ?_
      refine Ops.r (Run.mv rfl) rfl ?_
      refine Ops.r (Run.bin rfl rfl (Bin.add_i64 _ 1 (by omega))) rfl ?_
      refine Ops.r (Run.asg rfl) rfl ?_
      refine Ops.nil ?_
      refine thenQ_n ⟨(i + 1, (P6, c6), (D8, c8), R, dR), (.cons rfl (.cons rfl (.cons rfl (.cons rfl (.cons (by rw [hsP, hqx, if_pos hc2, List.length_append]; rfl) (.cons (by rw [hsD, hqx, if_pos hc2, List.length_append]; rfl) (.cons (by rw [hsR, hqx, if_pos hc2, List.append_nil]; rfl) (.cons rfl .nil)))))))), ?_, ?_⟩
      · skip
        refine ⟨hc1, ?_, ?_, ?_, hg6', hg8, hgR, hfr8⟩
        · rw [hsP, hqx, if_pos hc2, List.length_append]; exact hoP8
        · rw [hsD, hqx, if_pos hc2, List.length_append]; exact hoD8
        · rw [hsR, hqx, if_pos hc2, List.append_nil]; exact hoR8
      · skip
        first | omega | (dsimp only; omega)
    · skip
      refine VC.region ?_
      refine Ops.r (Run.mv rfl) rfl ?_
      refine Ops.r (Run.fieldAddr rfl Try.underlying24 rfl Try.sizeOf22 (by decide)) rfl ?_
      refine Ops.r (Run.load rfl Try.isAgg22 ((hb3.frm hfr4 (by simp)).cell 2)) rfl ?_
      refine Ops.r (Run.mv rfl) rfl ?_
      refine Ops.r (Run.indexS i rfl rfl Try.underlying22 Try.sizeOf45 hc1) rfl ?_
      refine Ops.r (Run.loadA rfl Try.isAgg45 Try.sizeOf45 hcell4 (by first | rfl | (simp; done))) rfl ?_
      refine Ops.m (Does.buildS1 rfl Try.underlying22 Try.sizeOf45 zero45 (by decide) (by decide) rfl rfl) rfl ?_
      rintro _ w5 ⟨rfl, hF5⟩
      have hfr5 := hfr4.trans hF5.frm (by simp)
      have hoP5 := hoP4.frm hF5.frm (by simp)
      have hoD5 := hoD4.frm hF5.frm (by simp)
      have hoR5 := hoR4.frm hF5.frm (by simp)
      refine Ops.m (Does.app rfl rfl Try.underlying22 (info45) rfl (by decide) hoR5 (hrdM hF5) (flat_one Mc.cells Mc.cells_one _) (by omega) (by omega)) rfl ?_
      rintro _ w6 ⟨R6, c6, rfl, hoR6, hf66, hob6⟩
      rw [← MC_append] at hoR6
      have hg6' := up_app hgR hob6 hfr5.size
      have hfr6 := hfr5.own hf66 hgR
      have hoP6 := hoP5.frm hf66 (hoP5.ne_own hoR5 (by decide))
      have hoD6 := hoD5.frm hf66 (hoD5.ne_own hoR5 (by decide))
      refine Ops.r (Run.asg rfl) rfl ?_
      refine Ops.nil ?_
      refine blockQ_n (thenQ_n ?_)
      refine VC.sub [(1, _), (2, _), (3, _), (6, _), (9, _), (10, _), (11, _), (12, _)] (.cons rfl (.cons rfl (.cons rfl (.cons rfl (.cons rfl (.cons rfl (.cons rfl (.cons rfl .nil)))))))) ?_
      refine VC.region ?_
      refine Ops.r (Run.mv rfl) rfl ?_
      refine Ops.r (Run.bin rfl rfl (Bin.add_i64 _ 1 (by omega))) rfl ?_
      refine Ops.r (Run.asg rfl) rfl ?_
      refine Ops.nil ?_
      refine thenQ_n ⟨(i + 1, (P, dP), (D, dD), R6, c6), (.cons rfl (.cons rfl (.cons rfl (.cons rfl (.cons (by rw [hsP, hqx, if_neg (by rw [hc2]; decide), List.append_nil]; rfl) (.cons (by rw [hsD, hqx, if_neg (by rw [hc2]; decide), List.append_nil]; rfl) (.cons (by rw [hsR, hqx, if_neg (by rw [hc2]; decide), List.length_append]; rfl) (.cons rfl .nil)))))))), ?_, ?_⟩
      · skip
        refine ⟨hc1, ?_, ?_, ?_, hgP, hgD, hg6', hfr6⟩
        · rw [hsP, hqx, if_neg (by rw [hc2]; decide), List.append_nil]; exact hoP6
        · rw [hsD, hqx, if_neg (by rw [hc2]; decide), List.append_nil]; exact hoD6
        · rw [hsR, hqx, if_neg (by rw [hc2]; decide), List.length_append]; exact hoR6
      · skip
        first | omega | (dsimp only; omega)
  · skip
    refine VC.exit ?_
    refine thenQ_x (thenQ_x (blockQ_x ?_))
    refine thenQ_n ?_
    refine VC.sub [(3, _), (6, _), (9, _), (10, _), (11, _)] (.cons rfl (.cons rfl (.cons rfl (.cons rfl (.cons rfl .nil))))) ?_
    refine VC.seq ?_
    refine VC.region ?_
    refine Ops.r (Run.mv rfl) rfl ?_
    refine Ops.r (Run.fieldAddr rfl Try.underlying24 rfl Try.sizeOf22 (by decide)) rfl ?_
    refine Ops.st (Acts.store rfl rfl Try.sizeOf22 hb3r rfl rfl) ?_
    rintro w9 ⟨hb39, hf9, hs9⟩
    have hb39 : Blk w9 g3 24 (BVc v n R (stayL q l i).length dR).toArray := hb39
    have hb69 := (hb6.frm hfr (by simp)).frm hf9 (by simp; omega)
    have hoP9 := hoP.frm hf9 (fun y hy => by have := hoP.ne_blk hb3r (by decide); simp; rintro rfl; exact this hy)
    have hoD9 := hoD.frm hf9 (fun y hy => by have := hoD.ne_blk hb3r (by decide); simp; rintro rfl; exact this hy)
    have hoR9 := hoR.frm hf9 (fun y hy => by have := hoR.ne_blk hb3r (by decide); simp; rintro rfl; exact this hy)
    have hfr9 : Frm [] w w9 := (hf6.trans hfr (by simp)).own hf9 (fun y hy => by simp at hy; omega)
    refine Ops.nil ?_
    refine thenQ_n ?_
    refine VC.sub [(3, _), (6, _), (9, _), (10, _)] (.cons rfl (.cons rfl (.cons rfl (.cons rfl .nil)))) ?_
    refine VC.seq ?_
    refine VC.region ?_
    refine Ops.r (Run.loadA rfl Try.isAgg24 Try.sizeOf24 (fun j v hj => hb39.cells j v hj) (by first | rfl | (simp; done))) rfl ?_
    refine Ops.r (Run.mv rfl) rfl ?_
    refine Ops.r (Run.mv rfl) rfl ?_
    refine Ops.st (Acts.storeA rfl rfl Try.sizeOf24 hb69 rfl (BVc_one _ _ _ _ _)) ?_
    rintro w10 ⟨hb610, hf10, hs10⟩
    have hoP10 := hoP9.frm hf10 (fun y hy => by have := hoP9.ne_blk hb69 (by decide); simp; rintro rfl; exact this hy)
    have hoD10 := hoD9.frm hf10 (fun y hy => by have := hoD9.ne_blk hb69 (by decide); simp; rintro rfl; exact this hy)
    have hoR10 := hoR9.frm hf10 (fun y hy => by have := hoR9.ne_blk hb69 (by decide); simp; rintro rfl; exact this hy)
    have hfr10 := hfr9.own hf10 (fun y hy => by simp at hy; omega)
    refine Ops.r (Run.asg rfl) rfl ?_
    refine Ops.r (Run.asg rfl) rfl ?_
    refine Ops.nil ?_
    refine thenQ_n ?_
    refine VC.sub [(6, _), (7, _), (8, _)] (.cons rfl (.cons rfl (.cons rfl .nil))) ?_
    refine VC.ret ?_
    refine endR ?_
    refine res_cellA rfl Try.isAgg24 Try.sizeOf24 (fun j v hj => hb610.cells j v hj) (by first | rfl | (simp; done)) ?_
    refine res_tmp rfl ?_
    refine res_tmp rfl ?_
    refine res_nil ?_
    have hil : i = l.length := by omega
    subst hil
    refine ⟨hfr10, R, dR, stayL q l l.length, P, dP, _, D, dD, _, rfl, ⟨hoR10.rd, fun y hy => (hl.frm hfr10).fl y ?_⟩, hoP10.rd, hoD10.rd, ?_, ?_, ?_⟩
    · unfold stayL at hy; rw [List.take_length] at hy; exact (List.mem_filter.1 hy).1
    · unfold stayL; rw [List.take_length, Ms_filter]
    · unfold plL; rw [List.take_length]
    · unfold blL; rw [List.take_length]

end Go.Proofs.Ytmfglifjnoilnaa
