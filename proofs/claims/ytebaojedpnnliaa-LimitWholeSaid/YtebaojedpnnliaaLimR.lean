/-
  The walks of the document's answer for layer 10: Coins, Two.
-/
import Derived.Test.YtebaojedpnnliaaLimQ
namespace Go.Proofs.Ytebaojedpnnliaa
open Go.RowKit

/-- A package of the document: how often each symbol is in it. -/
def RC (n : Nat) (p : PkC) : List Value := [.int .i64 ((p.count : Nat) : Int), .slice p.A n p.c]
theorem RC_len (n : Nat) (p : PkC) : (RC n p).length = 2 := rfl
theorem RC_one (n : Nat) (p : PkC) : ∀ v ∈ RC n p, v.oneCell' = true := by
  intro v hv
  simp only [RC, List.mem_cons, List.not_mem_nil, or_false] at hv
  rcases hv with rfl | rfl <;> rfl
def RkOk (w : World) (n : Nat) (p : PkC) : Prop := Own w 3 1 p.A n p.c (NI (cntV n p.sy))
theorem RkOk.frm {w w' : World} {n : Nat} {p : PkC} {S : List Nat} (h : RkOk w n p) (k : Frm S w w') (hS : ∀ x ∈ ob p.A, x ∉ S) : RkOk w' n p := Own.frm h k hS
def Rps (w : World) (n : Nat) (A : Option Addr) (c : Nat) (ps : List PkC) : Prop := Own w 105 2 A ps.length c (ps.flatMap (RC n)) ∧ ∀ p ∈ ps, RkOk w n p
theorem Rps.frm {w w' : World} {n : Nat} {A : Option Addr} {c : Nat} {ps : List PkC} {S : List Nat} (h : Rps w n A c ps) (k : Frm S w w') (hA : ∀ x ∈ ob A, x ∉ S) (hS : ∀ p ∈ ps, ∀ x ∈ ob p.A, x ∉ S) : Rps w' n A c ps :=
  ⟨h.1.frm k hA, fun p hp => (h.2 p hp).frm k (hS p hp)⟩
theorem Rps.ne {w : World} {n : Nat} {A : Option Addr} {c : Nat} {ps : List PkC} (h : Rps w n A c ps) : ∀ p ∈ ps, ∀ x ∈ ob p.A, x ∉ ob A := fun p hp => Own.ne_own (h.2 p hp) h.1 (by decide)
theorem nil_ob (S : Prop) : ∀ x ∈ ([] : List Nat), S := by simp
/-- Which symbols were chosen. -/
def doneV (n : Nat) (js : List Nat) : List Value := (List.range n).map fun k => Value.bool (decide (k ∈ js))
theorem doneV_len (n : Nat) (js : List Nat) : (doneV n js).length = n := by simp [doneV]
theorem doneV_nil (n : Nat) : (List.replicate n [Value.bool false]).flatten = doneV n [] := by
  have e : (List.replicate n [Value.bool false]).flatten = List.replicate n (Value.bool false) := by
    induction n with
    | zero => rfl
    | succ n ih => rw [List.replicate_succ, List.flatten_cons, ih]; rfl
  rw [e]
  apply List.ext_getElem?
  intro j
  by_cases h : j < n
  · simp [doneV, h]
  · simp [doneV, h]
theorem doneV_snoc {n s : Nat} (js : List Nat) (h : s < n) : (doneV n js).set s (.bool true) = doneV n (js ++ [s]) := by
  apply List.ext_getElem?
  intro j
  by_cases hj : j = s
  · subst hj
    rw [List.getElem?_set_self (by simp [doneV, h])]
    simp [doneV, h]
  · rw [List.getElem?_set_ne (Ne.symm hj)]
    by_cases hn : j < n
    · simp [doneV, hn, hj]
    · simp [doneV, hn]
theorem doneV_cell {w : World} {e n c k : Nat} {A : Option Addr} {js : List Nat} (h : Own w e 1 A n c (doneV n js)) (hk : k < n) : ∃ ad, A = some ad ∧ w.cell? (ad.add k) = some (.bool (decide (k ∈ js))) := by
  obtain ⟨ad', u, hA, hu, hc⟩ := h.rd.at1 hk
  refine ⟨ad', hA, ?_⟩
  rw [hc]
  simp [doneV, hk] at hu
  rw [← hu]
theorem RkOk.at1 {w : World} {n k : Nat} {p : PkC} (h : RkOk w n p) (hk : k < n) : ∃ ad, p.A = some ad ∧ w.cell? (ad.add k) = some (.int .i64 ((p.sy.count k : Nat) : Int)) := by
  obtain ⟨ad, u, hA, hu, hc⟩ := (Own.rd h).at1 hk
  refine ⟨ad, hA, ?_⟩
  rw [hc]
  simp [NI, cntV, hk] at hu
  rw [← hu]

set_option maxRecDepth 100000 in
theorem two_spec (n : Nat) (a b : PkC) (w : World) (hn : n ≤ 320) (ha : RkOk w n a) (hb : RkOk w n b) (hc : a.count + b.count ≤ 9223372036854775807) (hl : a.sy.length + b.sy.length ≤ 1000000) :
    Calls Try.prog 67 #[.agg (RC n a).toArray, .agg (RC n b).toArray] w fun e w' => ∃ A c, e = .returned (.agg (RC n ⟨a.count + b.count, A, c, a.sy ++ b.sy⟩).toArray) ∧ RkOk w' n ⟨a.count + b.count, A, c, a.sy ++ b.sy⟩ ∧ Frm [] w w' ∧ ∀ x ∈ ob A, w.heap.size ≤ x := by
  have hla := Own.lt ha
  have hlb := Own.lt hb
  obtain ⟨ac, aA, acp, asy⟩ := a
  obtain ⟨bc, bA, bcp, bsy⟩ := b
  dsimp only at hc hl hla hlb ⊢
  refine VC.calls (nt := 38) (res := #[.cell 4 105]) Try.func67 rfl Try.ntmps67 Try.results67 rfl ?_
  refine VC.seq ?_
  refine VC.region ?_
  refine Ops.m (Does.box rfl) rfl ?_
  rintro _ w1 ⟨rfl, hF1⟩
  have hb1 : Blk w1 w.heap.size 105 (RC n ⟨ac, aA, acp, asy⟩).toArray := hF1.blk
  refine Ops.m (Does.box rfl) rfl ?_
  rintro _ w2 ⟨rfl, hF2⟩
  have hb2 : Blk w2 w1.heap.size 105 (RC n ⟨bc, bA, bcp, bsy⟩).toArray := hF2.blk
  have hb12 := hb1.frm hF2.frm (by simp)
  refine Ops.m (Does.alloc zero105) rfl ?_
  rintro _ w3 ⟨rfl, hF3⟩
  have hb3 := hF3.blk
  have hb13 := hb12.frm hF3.frm (by simp)
  have hb23 := hb2.frm hF3.frm (by simp)
  have hfr3 := (hF1.frm.own hF2.frm (by simp)).own hF3.frm (by simp)
  have l1 := hb1.lt
  have l2 := hb2.lt
  have l3 := hb3.lt
  have l0 := hF1.frm.size
  generalize hg1 : w.heap.size = g1 at hb13 l1 l0 hla hlb ⊢
  generalize hg2 : w1.heap.size = g2 at *
  generalize hg3 : w2.heap.size = g3 at *
  refine Ops.nil ?_
  refine thenQ_n ?_
  refine VC.sub [(2, _), (3, _), (4, _)] (.cons rfl (.cons rfl (.cons rfl .nil))) ?_
  refine VC.seq ?_
  refine VC.region ?_
  refine Ops.r (Run.fieldAddr rfl Try.underlying105 rfl Try.sizeOf54 (by decide)) rfl ?_
  refine Ops.r (Run.load rfl Try.isAgg54 (hb13.cell 1)) rfl ?_
  refine Ops.r (Run.lenS rfl Try.underlying54) rfl ?_
  refine Ops.m (Does.makeS rfl rfl Try.underlying54 (info3) rfl (by omega) (by omega)) rfl ?_
  rintro _ w4 ⟨rfl, ho4, hf4, hs4⟩
  have ha4 := ha.frm (hfr3.own hf4 (by simp)) (by simp)
  have hbb4 := hb.frm (hfr3.own hf4 (by simp)) (by simp)
  have hb14 := hb13.frm hf4 (by simp)
  have hb24 := hb23.frm hf4 (by simp)
  have hb34 := hb3.frm hf4 (by simp)
  have hfr4 := hfr3.own hf4 (by simp)
  generalize hg4 : w3.heap.size = g4 at *
  have ho4 : Own w4 3 1 (some ⟨g4, 0, none⟩) n n (NI (cntM n [] (asy ++ bsy) 0)) := by rw [cntM_zero, cntV_nil]; exact ho4
  refine Ops.r (Run.asg rfl) rfl ?_
  refine Ops.nil ?_
  refine thenQ_n ?_
  refine VC.sub [(2, _), (3, _), (4, _), (5, _)] (.cons rfl (.cons rfl (.cons rfl (.cons rfl .nil)))) ?_
  refine VC.seq ?_
  refine VC.seq ?_
  refine VC.region ?_
  refine Ops.r (v := .int .i64 ((0 : Nat) : Int)) (Run.asg rfl) rfl ?_
  refine Ops.nil ?_
  refine thenQ_n ?_
  refine VC.block ?_
  refine VC.loop (σ := Nat) (fun s => [(2, .pointer (some ⟨g1, 0, none⟩)), (3, .pointer (some ⟨g2, 0, none⟩)), (4, .pointer (some ⟨g3, 0, none⟩)), (5, .slice (some ⟨g4, 0, none⟩) n n), (6, .int .i64 ((s : Nat) : Int))]) (fun s wr => s ≤ n ∧ Blk wr g1 105 (RC n ⟨ac, aA, acp, asy⟩).toArray ∧ Blk wr g2 105 (RC n ⟨bc, bA, bcp, bsy⟩).toArray ∧ Blk wr g3 105 (Value.agg #[.int .i64 0, .slice none 0 0]).cells ∧ Own wr 3 1 (some ⟨g4, 0, none⟩) n n (NI (cntM n [] (asy ++ bsy) s)) ∧ RkOk wr n ⟨ac, aA, acp, asy⟩ ∧ RkOk wr n ⟨bc, bA, bcp, bsy⟩ ∧ Frm [] w wr) (fun s => n - s) 0 (.cons rfl (.cons rfl (.cons rfl (.cons rfl (.cons rfl .nil))))) ⟨by omega, hb14, hb24, hb34, ho4, ha4, hbb4, hfr4⟩ ?_
  rintro i wr ⟨hi, hb1r, hb2r, hb3r, hor, har, hbr, hfr⟩
  have hd := Drawn.drew wr
  refine VC.seq ?_
  refine VC.seq ?_
  refine VC.region ?_
  refine Ops.r (Run.mv rfl) rfl ?_
  refine Ops.r (Run.mv rfl) rfl ?_
  refine Ops.r (Run.lenS rfl Try.underlying54) rfl ?_
  refine Ops.r (Run.bin rfl rfl (Bin.lssN _ _)) rfl ?_
  refine Ops.nil ?_
  refine thenQ_n ?_
  refine VC.sub [(2, _), (3, _), (4, _), (5, _), (6, _), (14, _)] (.cons rfl (.cons rfl (.cons rfl (.cons rfl (.cons rfl (.cons rfl .nil)))))) ?_
  refine VC.condD rfl (fun hc1 => ?_) (fun hc1 => ?_)
  · skip
    obtain ⟨ad, hadA, hca⟩ := (har.frm hd.frm (by simp)).at1 hc1
    obtain ⟨ad2, hadB, hcb⟩ := (hbr.frm hd.frm (by simp)).at1 hc1
    dsimp only at hadA hadB hca hcb
    subst hadA hadB
    have hqa : asy.count i ≤ asy.length := List.count_le_length
    have hqb : bsy.count i ≤ bsy.length := List.count_le_length
    refine VC.skip ?_
    refine thenQ_n ?_
    refine VC.sub [(2, _), (3, _), (4, _), (5, _), (6, _)] (.cons rfl (.cons rfl (.cons rfl (.cons rfl (.cons rfl .nil))))) ?_
    refine VC.seq ?_
    refine VC.block ?_
    refine VC.tail 14 (by kernel_rfl) (by kernel_rfl) ?_
    simp only [List.take_succ_cons, List.take_zero, List.drop_succ_cons, List.drop_zero]
    refine SOps.r (Run.mv rfl) rfl ?_
    refine SOps.r (Run.mv rfl) rfl ?_
    refine SOps.r (Run.fieldAddr rfl Try.underlying105 rfl Try.sizeOf54 (by decide)) rfl ?_
    refine SOps.r (Run.load rfl Try.isAgg54 ((hb1r.drawn hd).cell 1)) rfl ?_
    refine SOps.r (Run.mv rfl) rfl ?_
    refine SOps.r (Run.index1 _ rfl rfl Try.underlying54 Try.sizeOf3 (by omega)) rfl ?_
    refine SOps.r (Run.load rfl Try.isAgg3 hca) rfl ?_
    refine SOps.r (Run.fieldAddr rfl Try.underlying105 rfl Try.sizeOf54 (by decide)) rfl ?_
    refine SOps.r (Run.load rfl Try.isAgg54 ((hb2r.drawn hd).cell 1)) rfl ?_
    refine SOps.r (Run.mv rfl) rfl ?_
    refine SOps.r (Run.index1 _ rfl rfl Try.underlying54 Try.sizeOf3 (by omega)) rfl ?_
    refine SOps.r (Run.load rfl Try.isAgg3 hcb) rfl ?_
    refine SOps.r (Run.bin rfl rfl (Bin.add_i64 _ _ (by omega))) rfl ?_
    refine SOps.r (Run.index1 _ rfl rfl Try.underlying54 Try.sizeOf3 (by omega)) rfl ?_
    refine SOps.nil ?_
    refine Ops.st (Acts.storeOwn i rfl rfl Try.sizeOf3 (hor.drawn hd) rfl (by omega) rfl) ?_
    rintro w5 ⟨ho5, hf5, hs5⟩
    have hf5w := hfr.drawn hd
    have ne1 : g1 ∉ ob (some ⟨g4, 0, none⟩) := hor.ne_blk hb1r (by decide)
    have ne2 : g2 ∉ ob (some ⟨g4, 0, none⟩) := hor.ne_blk hb2r (by decide)
    have ne3 : g3 ∉ ob (some ⟨g4, 0, none⟩) := hor.ne_blk hb3r (by decide)
    have nea : ∀ x ∈ ob (some ad), x ∉ ob (some ⟨g4, 0, none⟩) := fun x hx => by have := hla x hx; simp [ob]; omega
    have neb : ∀ x ∈ ob (some ad2), x ∉ ob (some ⟨g4, 0, none⟩) := fun x hx => by have := hlb x hx; simp [ob]; omega
    refine Ops.nil ?_
    refine blockQ_n (thenQ_n ?_)
    refine VC.sub [(2, _), (3, _), (4, _), (5, _), (6, _)] (.cons rfl (.cons rfl (.cons rfl (.cons rfl (.cons rfl .nil))))) ?_
    refine VC.region ?_
    refine Ops.r (Run.mv rfl) rfl ?_
    refine Ops.r (Run.bin rfl rfl (Bin.add_i64 _ 1 (by omega))) rfl ?_
    refine Ops.r (Run.asg rfl) rfl ?_
    refine Ops.nil ?_
    refine thenQ_n ⟨(i + 1), (.cons rfl (.cons rfl (.cons rfl (.cons rfl (.cons rfl .nil))))), ?_, ?_⟩
    · skip
      refine ⟨hc1, (hb1r.drawn hd).frm hf5 ne1, (hb2r.drawn hd).frm hf5 ne2, (hb3r.drawn hd).frm hf5 ne3, ?_, (har.frm hd.frm (by simp)).frm hf5 nea, (hbr.frm hd.frm (by simp)).frm hf5 neb, hf5w.own hf5 (fun x hx => by simp [ob] at hx; omega)⟩
      rw [cntM_succ _ _ _ _ hc1]
      simp only [List.count_nil, Nat.zero_add, List.count_append]
      exact ho5
    · skip
      first | omega | (dsimp only; omega)
  · skip
    have hin : i = n := by omega
    subst hin
    rw [cntM_all, List.nil_append] at hor
    refine VC.exit ?_
    refine thenQ_x (thenQ_x (blockQ_x ?_))
    refine thenQ_n ?_
    refine VC.sub [(2, _), (3, _), (4, _), (5, _)] (.cons rfl (.cons rfl (.cons rfl (.cons rfl .nil)))) ?_
    refine VC.seq ?_
    refine VC.region ?_
    refine Ops.r (Run.fieldAddr rfl Try.underlying105 rfl Try.sizeOf3 (by decide)) rfl ?_
    refine Ops.r (Run.load rfl Try.isAgg3 (hb1r.cell 0)) rfl ?_
    refine Ops.r (Run.fieldAddr rfl Try.underlying105 rfl Try.sizeOf3 (by decide)) rfl ?_
    refine Ops.r (Run.load rfl Try.isAgg3 (hb2r.cell 0)) rfl ?_
    refine Ops.r (Run.bin rfl rfl (Bin.add_i64 _ _ (by omega))) rfl ?_
    refine Ops.r (Run.mv rfl) rfl ?_
    refine Ops.r (Run.build (evs.cons rfl (evs.cons rfl evs.nil)) zero105 (places105).choose_spec.1 (places105).choose_spec.2 (cells := (RC i ⟨ac + bc, some ⟨g4, 0, none⟩, i, asy ++ bsy⟩).toArray) rfl) rfl ?_
    refine Ops.st (Acts.storeA rfl rfl Try.sizeOf105 hb3r rfl (RC_one _ _)) ?_
    rintro w6 ⟨hb6, hf6, hs6⟩
    refine Ops.nil ?_
    refine thenQ_n ?_
    refine VC.sub [(4, _)] (.cons rfl .nil) ?_
    refine VC.ret ?_
    refine endR ?_
    refine res_cellA rfl Try.isAgg105 Try.sizeOf105 (hb6.cells) (by first | rfl | (simp; done)) ?_
    refine res_nil ?_
    refine ⟨some ⟨g4, 0, none⟩, i, rfl, RkOk.frm (p := ⟨ac + bc, some ⟨g4, 0, none⟩, i, asy ++ bsy⟩) hor hf6 (fun x hx hx2 => ?_), hfr.own hf6 (fun x hx => by simp at hx; omega), fun x hx => by simp [ob] at hx; omega⟩
    simp at hx2
    subst hx2
    exact hor.ne_blk hb3r (by decide) hx

theorem NI_getD {w : World} {A : Option Addr} {l : List Nat} {k : Nat} (h : Rd w 1 A l.length (NI l)) (hk : k < l.length) : ∃ ad, A = some ad ∧ w.cell? (ad.add k) = some (.int .i64 ((l.getD k 0 : Nat) : Int)) := by
  obtain ⟨ad, h1, h2⟩ := NI_at h hk
  refine ⟨ad, h1, ?_⟩
  rw [h2]
  simp [List.getD, List.getElem?_eq_getElem hk]

set_option maxRecDepth 100000 in
theorem refCoins_spec (A0 : Option Addr) (c0 : Nat) (cs : List Nat) (w : World) (hl : cs.length ≤ 320) (hcs : ∀ x ∈ cs, x ≤ 2147483647) (hr : Rd w 1 A0 cs.length (NI cs)) :
    Calls Try.prog 60 #[.slice A0 cs.length c0] w fun e w' => ∃ B c ps, e = .returned (.slice B ps.length c) ∧ Rps w' cs.length B c ps ∧ IsCoins cs (ps.map PkC.abs) ∧ Frm [] w w' := by
  refine VC.calls (nt := 66) (res := #[.tmp 2]) Try.func60 rfl Try.ntmps60 Try.results60 rfl ?_
  refine VC.seq ?_
  refine VC.region ?_
  refine Ops.r (Run.asg rfl) rfl ?_
  refine Ops.nil ?_
  refine thenQ_n ?_
  refine VC.sub [(0, _)] (.cons rfl .nil) ?_
  refine VC.seq ?_
  refine VC.region ?_
  refine Ops.r (Run.asg rfl) rfl ?_
  refine Ops.nil ?_
  refine thenQ_n ?_
  refine VC.seq ?_
  refine VC.region ?_
  refine Ops.r (Run.mv rfl) rfl ?_
  refine Ops.r (Run.lenS rfl Try.underlying54) rfl ?_
  refine Ops.m (Does.makeS rfl rfl Try.underlying39 (info4) rfl (by omega) (by omega)) rfl ?_
  rintro _ w1 ⟨rfl, ho1, hf1, hs1⟩
  have ho1 : Own w1 4 1 (some ⟨w.heap.size, 0, none⟩) cs.length cs.length (doneV cs.length []) := by rw [← doneV_nil]; exact ho1
  have hlt := fun (hn : 0 < cs.length) => hr.lt hn
  generalize hgd : w.heap.size = gd at *
  refine Ops.r (Run.asg rfl) rfl ?_
  refine Ops.nil ?_
  refine thenQ_n ?_
  refine VC.sub [(0, _), (3, _), (4, _)] (.cons rfl (.cons rfl (.cons rfl .nil))) ?_
  refine VC.block ?_
  refine VC.loop (σ := List Nat × Option Addr × Nat × List PkC) (fun s => [(0, .slice A0 cs.length c0), (3, .slice s.2.1 s.2.2.2.length s.2.2.1), (4, .slice (some ⟨gd, 0, none⟩) cs.length cs.length)]) (fun s wr => JsOk cs s.1 ∧ s.2.2.2.map PkC.abs = s.1.map (fun k => (cs.getD k 0, [k])) ∧ Rps wr cs.length s.2.1 s.2.2.1 s.2.2.2 ∧ Own wr 4 1 (some ⟨gd, 0, none⟩) cs.length cs.length (doneV cs.length s.1) ∧ Frm [] w wr ∧ (∀ x ∈ ob s.2.1, w.heap.size ≤ x) ∧ ∀ p ∈ s.2.2.2, ∀ x ∈ ob p.A, w.heap.size ≤ x) (fun s => cs.length + 1 - s.1.length) ([], none, 0, []) (.cons rfl (.cons rfl (.cons rfl .nil))) ⟨JsOk.nil cs, rfl, ⟨Own.nil _ _ _, by simp⟩, ho1, hf1, up_nil, by simp⟩ ?_
  clear ho1 hf1 hs1
  rintro ⟨js, B, c, ps⟩ w2 ⟨hjs, habs, hP, hD, hfr, huB, huP⟩
  dsimp only at hjs habs hP hD hfr huB huP ⊢
  have hjl := hjs.len
  have hpl : ps.length = js.length := by have h5 := congrArg List.length habs; simpa using h5
  refine VC.block ?_
  refine VC.seq ?_
  refine VC.region ?_
  refine Ops.r (v := .int .i64 (-1)) (Run.asg rfl) rfl ?_
  refine Ops.nil ?_
  refine thenQ_n ?_
  refine VC.seq ?_
  refine VC.seq ?_
  refine VC.region ?_
  refine Ops.r (v := .int .i64 ((0 : Nat) : Int)) (Run.asg rfl) rfl ?_
  refine Ops.nil ?_
  refine thenQ_n ?_
  refine VC.block ?_
  refine VC.loop (σ := Nat × Option Nat) (fun s => [(0, .slice A0 cs.length c0), (3, .slice B ps.length c), (4, .slice (some ⟨gd, 0, none⟩) cs.length cs.length), (5, .int .i64 (bestI s.2)), (6, .int .i64 ((s.1 : Nat) : Int))]) (fun s wr => s.1 ≤ cs.length ∧ BestOk cs js s.1 s.2 ∧ Drawn w2 wr) (fun s => cs.length - s.1) (0, none) (.cons rfl (.cons rfl (.cons rfl (.cons rfl (.cons rfl .nil))))) ⟨by omega, fun k hk => absurd hk (by omega), Drawn.refl _⟩ ?_
  rintro ⟨i, b⟩ wr ⟨hi, hb, hd⟩
  dsimp only at hi hb hd ⊢
  have hd2 := hd.trans (Drawn.drew wr)
  have hbi : ∀ k, b = some k → k < i := fun k e => by subst e; exact hb.1
  refine VC.seq ?_
  refine VC.seq ?_
  refine VC.region ?_
  refine Ops.r (Run.mv rfl) rfl ?_
  refine Ops.r (Run.mv rfl) rfl ?_
  refine Ops.r (Run.lenS rfl Try.underlying54) rfl ?_
  refine Ops.r (Run.bin rfl rfl (Bin.lssN _ _)) rfl ?_
  refine Ops.nil ?_
  refine thenQ_n ?_
  refine VC.sub [(0, _), (3, _), (4, _), (5, _), (6, _), (14, _)] (.cons rfl (.cons rfl (.cons rfl (.cons rfl (.cons rfl (.cons rfl .nil)))))) ?_
  refine VC.condD rfl (fun hc1 => ?_) (fun hc1 => ?_)
  · skip
    obtain ⟨ad, rfl, hcell⟩ := NI_getD (hr.belowW (hfr.drawn hd2).below) hc1
    obtain ⟨ad2, hgd2, hdc⟩ := doneV_cell (hD.drawn hd2) hc1
    obtain rfl : (⟨gd, 0, none⟩ : Addr) = ad2 := by injection hgd2
    refine VC.skip ?_
    refine thenQ_n ?_
    refine VC.sub [(0, _), (3, _), (4, _), (5, _), (6, _)] (.cons rfl (.cons rfl (.cons rfl (.cons rfl (.cons rfl .nil))))) ?_
    refine VC.seq ?_
    refine VC.block ?_
    refine VC.seq ?_
    refine VC.splitR [(0, .slice (some ad) cs.length c0), (3, .slice B ps.length c), (4, .slice (some ⟨gd, 0, none⟩) cs.length cs.length), (5, .int .i64 (bestI b)), (6, .int .i64 ((i : Nat) : Int))] (fun w1 => w1 = wr.drew) 43 (.bool (decide (0 < cs.getD i 0 ∧ i ∉ js ∧ (bestI b < 0 ∨ cs.getD i 0 < cs.getD (b.getD 0) 0)))) ?_ ?_
    · refine VC.still (by kernel_rfl) (by kernel_rfl) ?_
      refine SOps.r (Run.mv rfl) rfl ?_
      refine SOps.r (Run.mv rfl) rfl ?_
      refine SOps.r (Run.index1 _ rfl rfl Try.underlying54 Try.sizeOf3 (by omega)) rfl ?_
      refine SOps.r (Run.load rfl Try.isAgg3 hcell) rfl ?_
      refine SOps.r (Run.bin rfl rfl (Bin.gtrN _ 0)) rfl ?_
      by_cases hs21 : 0 < cs.getD i 0
      · skip
        refine SOps.r (Run.mv rfl) rfl ?_
        refine SOps.rg rfl (by first | rfl | assumption | exact decide_eq_true (by assumption) | exact decide_eq_false (by assumption) | decide | (simp; done) | (simp; omega) | (simp [*]; done)) (Run.mv rfl) rfl ?_
        refine SOps.rg rfl (by first | rfl | assumption | exact decide_eq_true (by assumption) | exact decide_eq_false (by assumption) | decide | (simp; done) | (simp; omega) | (simp [*]; done)) (Run.mv rfl) rfl ?_
        refine SOps.rg rfl (by first | rfl | assumption | exact decide_eq_true (by assumption) | exact decide_eq_false (by assumption) | decide | (simp; done) | (simp; omega) | (simp [*]; done)) (Run.index1 _ rfl rfl Try.underlying39 Try.sizeOf4 (by omega)) rfl ?_
        refine SOps.rg rfl (by first | rfl | assumption | exact decide_eq_true (by assumption) | exact decide_eq_false (by assumption) | decide | (simp; done) | (simp; omega) | (simp [*]; done)) (Run.load rfl Try.isAgg4 hdc) rfl ?_
        by_cases hs26 : i ∈ js
        · skip
          refine SOps.rg rfl (by first | rfl | assumption | exact decide_eq_true (by assumption) | exact decide_eq_false (by assumption) | decide | (simp; done) | (simp; omega) | (simp [*]; done)) (Run.not rfl) rfl ?_
          refine SOps.r (Run.pickT rfl rfl (by first | rfl | assumption | exact decide_eq_true (by assumption) | exact decide_eq_false (by assumption) | decide | (simp; done) | (simp; omega) | (simp [*]; done))) rfl ?_
          refine SOps.r (Run.mv rfl) rfl ?_
          refine SOps.sk rfl (by first | rfl | assumption | exact decide_eq_true (by assumption) | exact decide_eq_false (by assumption) | decide | (simp; done) | (simp; omega) | (simp [*]; done)) rfl ?_
          refine SOps.sk rfl (by first | rfl | assumption | exact decide_eq_true (by assumption) | exact decide_eq_false (by assumption) | decide | (simp; done) | (simp; omega) | (simp [*]; done)) rfl ?_
          refine SOps.sk rfl (by first | rfl | assumption | exact decide_eq_true (by assumption) | exact decide_eq_false (by assumption) | decide | (simp; done) | (simp; omega) | (simp [*]; done)) rfl ?_
          refine SOps.skU rfl rfl ?_
          refine SOps.skU rfl rfl ?_
          refine SOps.skU rfl rfl ?_
          refine SOps.skU rfl rfl ?_
          refine SOps.skU rfl rfl ?_
          refine SOps.skU rfl rfl ?_
          refine SOps.skU rfl rfl ?_
          refine SOps.skU rfl rfl ?_
          refine SOps.skU rfl rfl ?_
          refine SOps.sk rfl (by first | rfl | assumption | exact decide_eq_true (by assumption) | exact decide_eq_false (by assumption) | decide | (simp; done) | (simp; omega) | (simp [*]; done)) rfl ?_
          refine SOps.r (Run.pickF rfl rfl (by first | rfl | assumption | exact decide_eq_true (by assumption) | exact decide_eq_false (by assumption) | decide | (simp; done) | (simp; omega) | (simp [*]; done))) rfl ?_
          refine SOps.nil ?_
          refine thenQ_n ⟨(.cons (congrArg (fun b => some (Value.bool b)) (by grind)) (.cons rfl (.cons rfl (.cons rfl (.cons rfl (.cons rfl .nil)))))), (rfl)⟩
        · skip
          refine SOps.rg rfl (by first | rfl | assumption | exact decide_eq_true (by assumption) | exact decide_eq_false (by assumption) | decide | (simp; done) | (simp; omega) | (simp [*]; done)) (Run.not rfl) rfl ?_
          refine SOps.r (Run.pickT rfl rfl (by first | rfl | assumption | exact decide_eq_true (by assumption) | exact decide_eq_false (by assumption) | decide | (simp; done) | (simp; omega) | (simp [*]; done))) rfl ?_
          refine SOps.r (Run.mv rfl) rfl ?_
          refine SOps.rg rfl (by first | rfl | assumption | exact decide_eq_true (by assumption) | exact decide_eq_false (by assumption) | decide | (simp; done) | (simp; omega) | (simp [*]; done)) (Run.mv rfl) rfl ?_
          refine SOps.rg rfl (by first | rfl | assumption | exact decide_eq_true (by assumption) | exact decide_eq_false (by assumption) | decide | (simp; done) | (simp; omega) | (simp [*]; done)) (Run.bin rfl rfl (Bin.lss _ 0)) rfl ?_
          by_cases hs31 : bestI b < 0
          · skip
            refine SOps.rg rfl (by first | rfl | assumption | exact decide_eq_true (by assumption) | exact decide_eq_false (by assumption) | decide | (simp; done) | (simp; omega) | (simp [*]; done)) (Run.mv rfl) rfl ?_
            refine SOps.sk rfl (by first | rfl | assumption | exact decide_eq_true (by assumption) | exact decide_eq_false (by assumption) | decide | (simp; done) | (simp; omega) | (simp [*]; done)) rfl ?_
            refine SOps.sk rfl (by first | rfl | assumption | exact decide_eq_true (by assumption) | exact decide_eq_false (by assumption) | decide | (simp; done) | (simp; omega) | (simp [*]; done)) rfl ?_
            refine SOps.sk rfl (by first | rfl | assumption | exact decide_eq_true (by assumption) | exact decide_eq_false (by assumption) | decide | (simp; done) | (simp; omega) | (simp [*]; done)) rfl ?_
            refine SOps.sk rfl (by first | rfl | assumption | exact decide_eq_true (by assumption) | exact decide_eq_false (by assumption) | decide | (simp; done) | (simp; omega) | (simp [*]; done)) rfl ?_
            refine SOps.sk rfl (by first | rfl | assumption | exact decide_eq_true (by assumption) | exact decide_eq_false (by assumption) | decide | (simp; done) | (simp; omega) | (simp [*]; done)) rfl ?_
            refine SOps.sk rfl (by first | rfl | assumption | exact decide_eq_true (by assumption) | exact decide_eq_false (by assumption) | decide | (simp; done) | (simp; omega) | (simp [*]; done)) rfl ?_
            refine SOps.sk rfl (by first | rfl | assumption | exact decide_eq_true (by assumption) | exact decide_eq_false (by assumption) | decide | (simp; done) | (simp; omega) | (simp [*]; done)) rfl ?_
            refine SOps.sk rfl (by first | rfl | assumption | exact decide_eq_true (by assumption) | exact decide_eq_false (by assumption) | decide | (simp; done) | (simp; omega) | (simp [*]; done)) rfl ?_
            refine SOps.sk rfl (by first | rfl | assumption | exact decide_eq_true (by assumption) | exact decide_eq_false (by assumption) | decide | (simp; done) | (simp; omega) | (simp [*]; done)) rfl ?_
            refine SOps.rg rfl (by first | rfl | assumption | exact decide_eq_true (by assumption) | exact decide_eq_false (by assumption) | decide | (simp; done) | (simp; omega) | (simp [*]; done)) (Run.pickT rfl rfl (by first | rfl | assumption | exact decide_eq_true (by assumption) | exact decide_eq_false (by assumption) | decide | (simp; done) | (simp; omega) | (simp [*]; done))) rfl ?_
            refine SOps.r (Run.pickT rfl rfl (by first | rfl | assumption | exact decide_eq_true (by assumption) | exact decide_eq_false (by assumption) | decide | (simp; done) | (simp; omega) | (simp [*]; done))) rfl ?_
            refine SOps.nil ?_
            refine thenQ_n ⟨(.cons (congrArg (fun b => some (Value.bool b)) (by grind)) (.cons rfl (.cons rfl (.cons rfl (.cons rfl (.cons rfl .nil)))))), (rfl)⟩
          · skip
            obtain ⟨k0, hbk⟩ : ∃ k0, b = some k0 := by
              cases b with
              | none => exact absurd (show bestI none < 0 by decide) hs31
              | some k0 => exact ⟨k0, rfl⟩
            have hk0 := hbi k0 hbk
            obtain ⟨ad3, hA3, hcell3⟩ := NI_getD (hr.belowW (hfr.drawn hd2).below) (show k0 < cs.length by omega)
            obtain rfl : ad = ad3 := by injection hA3
            rw [show k0 = b.getD 0 by rw [hbk]; rfl] at hcell3
            have hbI : bestI b = ((b.getD 0 : Nat) : Int) := by rw [hbk]; rfl
            refine SOps.rg rfl (by first | rfl | assumption | exact decide_eq_true (by assumption) | exact decide_eq_false (by assumption) | decide | (simp; done) | (simp; omega) | (simp [*]; done)) (Run.mv rfl) rfl ?_
            refine SOps.rg rfl (by first | rfl | assumption | exact decide_eq_true (by assumption) | exact decide_eq_false (by assumption) | decide | (simp; done) | (simp; omega) | (simp [*]; done)) (Run.mv rfl) rfl ?_
            refine SOps.rg rfl (by first | rfl | assumption | exact decide_eq_true (by assumption) | exact decide_eq_false (by assumption) | decide | (simp; done) | (simp; omega) | (simp [*]; done)) (Run.mv rfl) rfl ?_
            refine SOps.rg rfl (by first | rfl | assumption | exact decide_eq_true (by assumption) | exact decide_eq_false (by assumption) | decide | (simp; done) | (simp; omega) | (simp [*]; done)) (Run.index1 _ rfl rfl Try.underlying54 Try.sizeOf3 (by omega)) rfl ?_
            refine SOps.rg rfl (by first | rfl | assumption | exact decide_eq_true (by assumption) | exact decide_eq_false (by assumption) | decide | (simp; done) | (simp; omega) | (simp [*]; done)) (Run.load rfl Try.isAgg3 hcell) rfl ?_
            refine SOps.rg rfl (by first | rfl | assumption | exact decide_eq_true (by assumption) | exact decide_eq_false (by assumption) | decide | (simp; done) | (simp; omega) | (simp [*]; done)) (Run.mv rfl) rfl ?_
            refine SOps.rg rfl (by first | rfl | assumption | exact decide_eq_true (by assumption) | exact decide_eq_false (by assumption) | decide | (simp; done) | (simp; omega) | (simp [*]; done)) (Run.mv rfl) rfl ?_
            refine SOps.rg rfl (by first | rfl | assumption | exact decide_eq_true (by assumption) | exact decide_eq_false (by assumption) | decide | (simp; done) | (simp; omega) | (simp [*]; done)) (Run.index1 (b.getD 0) rfl (congrArg (fun z => some (Value.int .i64 z)) hbI) Try.underlying54 Try.sizeOf3 (by rw [hbk]; simp only [Option.getD_some]; omega)) rfl ?_
            refine SOps.rg rfl (by first | rfl | assumption | exact decide_eq_true (by assumption) | exact decide_eq_false (by assumption) | decide | (simp; done) | (simp; omega) | (simp [*]; done)) (Run.load rfl Try.isAgg3 hcell3) rfl ?_
            refine SOps.rg rfl (by first | rfl | assumption | exact decide_eq_true (by assumption) | exact decide_eq_false (by assumption) | decide | (simp; done) | (simp; omega) | (simp [*]; done)) (Run.bin rfl rfl (Bin.lssN _ _)) rfl ?_
            by_cases hs41 : cs.getD i 0 < cs.getD (b.getD 0) 0
            · skip
              refine SOps.rg rfl (by first | rfl | assumption | exact decide_eq_true (by assumption) | exact decide_eq_false (by assumption) | decide | (simp; done) | (simp; omega) | (simp [*]; done)) (Run.pickF rfl rfl (by first | rfl | assumption | exact decide_eq_true (by assumption) | exact decide_eq_false (by assumption) | decide | (simp; done) | (simp; omega) | (simp [*]; done))) rfl ?_
              refine SOps.r (Run.pickT rfl rfl (by first | rfl | assumption | exact decide_eq_true (by assumption) | exact decide_eq_false (by assumption) | decide | (simp; done) | (simp; omega) | (simp [*]; done))) rfl ?_
              refine SOps.nil ?_
              refine thenQ_n ⟨(.cons (congrArg (fun b => some (Value.bool b)) (by grind)) (.cons rfl (.cons rfl (.cons rfl (.cons rfl (.cons rfl .nil)))))), (rfl)⟩
            · skip
              refine SOps.rg rfl (by first | rfl | assumption | exact decide_eq_true (by assumption) | exact decide_eq_false (by assumption) | decide | (simp; done) | (simp; omega) | (simp [*]; done)) (Run.pickF rfl rfl (by first | rfl | assumption | exact decide_eq_true (by assumption) | exact decide_eq_false (by assumption) | decide | (simp; done) | (simp; omega) | (simp [*]; done))) rfl ?_
              refine SOps.r (Run.pickT rfl rfl (by first | rfl | assumption | exact decide_eq_true (by assumption) | exact decide_eq_false (by assumption) | decide | (simp; done) | (simp; omega) | (simp [*]; done))) rfl ?_
              refine SOps.nil ?_
              refine thenQ_n ⟨(.cons (congrArg (fun b => some (Value.bool b)) (by grind)) (.cons rfl (.cons rfl (.cons rfl (.cons rfl (.cons rfl .nil)))))), (rfl)⟩
      · skip
        refine SOps.r (Run.mv rfl) rfl ?_
        refine SOps.sk rfl (by first | rfl | assumption | exact decide_eq_true (by assumption) | exact decide_eq_false (by assumption) | decide | (simp; done) | (simp; omega) | (simp [*]; done)) rfl ?_
        refine SOps.sk rfl (by first | rfl | assumption | exact decide_eq_true (by assumption) | exact decide_eq_false (by assumption) | decide | (simp; done) | (simp; omega) | (simp [*]; done)) rfl ?_
        refine SOps.sk rfl (by first | rfl | assumption | exact decide_eq_true (by assumption) | exact decide_eq_false (by assumption) | decide | (simp; done) | (simp; omega) | (simp [*]; done)) rfl ?_
        refine SOps.sk rfl (by first | rfl | assumption | exact decide_eq_true (by assumption) | exact decide_eq_false (by assumption) | decide | (simp; done) | (simp; omega) | (simp [*]; done)) rfl ?_
        refine SOps.sk rfl (by first | rfl | assumption | exact decide_eq_true (by assumption) | exact decide_eq_false (by assumption) | decide | (simp; done) | (simp; omega) | (simp [*]; done)) rfl ?_
        refine SOps.r (Run.pickF rfl rfl (by first | rfl | assumption | exact decide_eq_true (by assumption) | exact decide_eq_false (by assumption) | decide | (simp; done) | (simp; omega) | (simp [*]; done))) rfl ?_
        refine SOps.r (Run.mv rfl) rfl ?_
        refine SOps.sk rfl (by first | rfl | assumption | exact decide_eq_true (by assumption) | exact decide_eq_false (by assumption) | decide | (simp; done) | (simp; omega) | (simp [*]; done)) rfl ?_
        refine SOps.sk rfl (by first | rfl | assumption | exact decide_eq_true (by assumption) | exact decide_eq_false (by assumption) | decide | (simp; done) | (simp; omega) | (simp [*]; done)) rfl ?_
        refine SOps.sk rfl (by first | rfl | assumption | exact decide_eq_true (by assumption) | exact decide_eq_false (by assumption) | decide | (simp; done) | (simp; omega) | (simp [*]; done)) rfl ?_
        refine SOps.skU rfl rfl ?_
        refine SOps.skU rfl rfl ?_
        refine SOps.skU rfl rfl ?_
        refine SOps.skU rfl rfl ?_
        refine SOps.skU rfl rfl ?_
        refine SOps.skU rfl rfl ?_
        refine SOps.skU rfl rfl ?_
        refine SOps.skU rfl rfl ?_
        refine SOps.skU rfl rfl ?_
        refine SOps.sk rfl (by first | rfl | assumption | exact decide_eq_true (by assumption) | exact decide_eq_false (by assumption) | decide | (simp; done) | (simp; omega) | (simp [*]; done)) rfl ?_
        refine SOps.r (Run.pickF rfl rfl (by first | rfl | assumption | exact decide_eq_true (by assumption) | exact decide_eq_false (by assumption) | decide | (simp; done) | (simp; omega) | (simp [*]; done))) rfl ?_
        refine SOps.nil ?_
        refine thenQ_n ⟨(.cons (congrArg (fun b => some (Value.bool b)) (by grind)) (.cons rfl (.cons rfl (.cons rfl (.cons rfl (.cons rfl .nil)))))), (rfl)⟩
    · intro Γ w8 hΓ hw8
      refine thenQ_n (VC.sub _ hΓ ?_)
      refine VC.condD rfl (fun hc2 => ?_) (fun hc2 => ?_)
      · skip
        subst hw8
        refine VC.region ?_
        refine Ops.r (Run.mv rfl) rfl ?_
        refine Ops.r (Run.asg rfl) rfl ?_
        refine Ops.nil ?_
        refine blockQ_n (thenQ_n ?_)
        refine VC.sub [(0, _), (3, _), (4, _), (5, _), (6, _)] (.cons rfl (.cons rfl (.cons rfl (.cons rfl (.cons rfl .nil))))) ?_
        refine VC.region ?_
        refine Ops.r (Run.mv rfl) rfl ?_
        refine Ops.r (Run.bin rfl rfl (Bin.add_i64 _ 1 (by omega))) rfl ?_
        refine Ops.r (Run.asg rfl) rfl ?_
        refine Ops.nil ?_
        refine thenQ_n ⟨(i + 1, some i), (.cons rfl (.cons rfl (.cons rfl (.cons rfl (.cons rfl .nil))))), ?_, ?_⟩
        · skip
          exact ⟨hc1, best_yes hb ⟨hc2.1, hc2.2.1⟩ hc2.2.2 (by omega), hd2⟩
        · skip
          first | omega | (dsimp only; omega)
      · skip
        subst hw8
        refine VC.skip ?_
        refine blockQ_n (thenQ_n ?_)
        refine VC.sub [(0, _), (3, _), (4, _), (5, _), (6, _)] (.cons rfl (.cons rfl (.cons rfl (.cons rfl (.cons rfl .nil))))) ?_
        refine VC.region ?_
        refine Ops.r (Run.mv rfl) rfl ?_
        refine Ops.r (Run.bin rfl rfl (Bin.add_i64 _ 1 (by omega))) rfl ?_
        refine Ops.r (Run.asg rfl) rfl ?_
        refine Ops.nil ?_
        refine thenQ_n ⟨(i + 1, b), (.cons rfl (.cons rfl (.cons rfl (.cons rfl (.cons rfl .nil))))), ?_, ?_⟩
        · skip
          exact ⟨hc1, best_no hb hc2, hd2⟩
        · skip
          first | omega | (dsimp only; omega)
  · skip
    have hin : i = cs.length := by omega
    subst hin
    refine VC.exit ?_
    refine thenQ_x (thenQ_x (blockQ_x ?_))
    refine thenQ_n ?_
    refine VC.sub [(0, _), (3, _), (4, _), (5, _)] (.cons rfl (.cons rfl (.cons rfl (.cons rfl .nil)))) ?_
    refine VC.seq ?_
    refine VC.seq ?_
    refine VC.region ?_
    refine Ops.r (Run.mv rfl) rfl ?_
    refine Ops.r (Run.bin rfl rfl (Bin.lss _ 0)) rfl ?_
    refine Ops.nil ?_
    refine thenQ_n ?_
    refine VC.sub [(0, _), (3, _), (4, _), (5, _), (46, _)] (.cons rfl (.cons rfl (.cons rfl (.cons rfl (.cons rfl .nil))))) ?_
    refine VC.condD rfl (fun hc3 => ?_) (fun hc3 => ?_)
    · skip
      obtain rfl : b = none := by
        cases b with
        | none => rfl
        | some k => exfalso; simp only [bestI] at hc3; omega
      refine VC.seq ?_
      refine VC.region ?_
      refine Ops.r (Run.mv rfl) rfl ?_
      refine Ops.r (Run.asg rfl) rfl ?_
      refine Ops.nil ?_
      refine thenQ_n ?_
      refine VC.sub [(2, _)] (.cons rfl .nil) ?_
      refine VC.ret ?_
      refine thenQ_r (blockQ_r (thenQ_r (blockQ_r (end1 rfl ?_))))
      exact ⟨B, c, ps, rfl, hP.frm hd.frm (by simp) (fun _ _ _ _ => by simp), by rw [habs]; exact hjs.done hb, hfr.drawn hd⟩
    · skip
      obtain ⟨k0, rfl⟩ : ∃ k0, b = some k0 := by
        cases b with
        | none => exact absurd (show bestI none < 0 by decide) hc3
        | some k0 => exact ⟨k0, rfl⟩
      have hk0 : k0 < cs.length := hb.1
      have hjs2 := hjs.add hb hl
      have hj2 := hjs2.len
      rw [List.length_append] at hj2
      have hcx : cs.getD k0 0 ≤ 2147483647 := by
        simp only [List.getD, List.getElem?_eq_getElem hk0, Option.getD_some]
        exact hcs _ (List.getElem_mem _)
      refine VC.skip ?_
      refine thenQ_n ?_
      refine VC.sub [(0, _), (3, _), (4, _), (5, _)] (.cons rfl (.cons rfl (.cons rfl (.cons rfl .nil)))) ?_
      refine VC.seq ?_
      refine VC.region ?_
      refine Ops.r (Run.mv rfl) rfl ?_
      refine Ops.r (Run.mv rfl) rfl ?_
      refine Ops.r (Run.index1 k0 rfl rfl Try.underlying39 Try.sizeOf4 (by omega)) rfl ?_
      refine Ops.st (Acts.storeOwn k0 rfl rfl Try.sizeOf4 (hD.drawn hd) rfl (by omega) rfl) ?_
      rintro w3 ⟨hD3, hf3, hs3⟩
      rw [doneV_snoc _ hk0] at hD3
      have hP3 := (hP.frm hd.frm (by simp) (fun _ _ _ _ => by simp)).frm hf3 (hP.1.ne_own hD (by decide)) (fun p hp => Own.ne_own (hP.2 p hp) hD (by decide))
      have hfr3 : Frm [] w w3 := (hfr.drawn hd).own hf3 (fun x hx => by simp [ob] at hx; omega)
      refine Ops.nil ?_
      refine thenQ_n ?_
      refine VC.sub [(0, _), (3, _), (4, _), (5, _)] (.cons rfl (.cons rfl (.cons rfl (.cons rfl .nil)))) ?_
      refine VC.seq ?_
      refine VC.region ?_
      refine Ops.r (Run.mv rfl) rfl ?_
      refine Ops.r (Run.lenS rfl Try.underlying54) rfl ?_
      refine Ops.m (Does.makeS rfl rfl Try.underlying54 (info3) rfl (by omega) (by omega)) rfl ?_
      rintro _ w4 ⟨rfl, ho4, hf4, hs4⟩
      have hP4 := hP3.frm hf4 (by simp) (fun _ _ _ _ => by simp)
      have hD4 := hD3.frm hf4 (by simp)
      have hfr4 := hfr3.own hf4 (by simp)
      have hz4 : Own w4 3 1 (some ⟨w3.heap.size, 0, none⟩) cs.length cs.length (NI (cntV cs.length [])) := by rw [cntV_nil]; exact ho4
      have hsz3 := hfr3.size
      have hplt : ∀ p ∈ ps, ∀ x ∈ ob p.A, x < w3.heap.size := fun p hp => Own.lt (hP3.2 p hp)
      generalize hgt : w3.heap.size = gt at *
      refine Ops.r (Run.asg rfl) rfl ?_
      refine Ops.nil ?_
      refine thenQ_n ?_
      refine VC.sub [(0, _), (3, _), (4, _), (5, _), (7, _)] (.cons rfl (.cons rfl (.cons rfl (.cons rfl (.cons rfl .nil))))) ?_
      refine VC.seq ?_
      refine VC.region ?_
      refine Ops.r (Run.mv rfl) rfl ?_
      refine Ops.r (Run.mv rfl) rfl ?_
      refine Ops.r (Run.index1 k0 rfl rfl Try.underlying54 Try.sizeOf3 (by omega)) rfl ?_
      refine Ops.st (Acts.storeOwn k0 rfl rfl Try.sizeOf3 hz4 rfl (by omega) rfl) ?_
      rintro w5 ⟨ho5, hf5, hs5⟩
      have ho5 : Own w5 3 1 (some ⟨gt, 0, none⟩) cs.length cs.length (NI (cntV cs.length ([] ++ [k0]))) := by rw [cntV_snoc [] hk0]; exact ho5
      have hP5 := hP4.frm hf5 (hP4.1.ne_own hz4 (by decide)) (fun p hp x hx => by have := hplt p hp x hx; simp [ob]; omega)
      have hD5 := hD4.frm hf5 (hD4.ne_own hz4 (by decide))
      have hfr5 : Frm [] w w5 := hfr4.own hf5 (fun x hx => by simp [ob] at hx; omega)
      obtain ⟨ad, rfl, hcell⟩ := NI_getD (hr.belowW hfr5.below) hk0
      generalize hpk : (⟨cs.getD k0 0, some ⟨gt, 0, none⟩, cs.length, [k0]⟩ : PkC) = p
      have hpa : p.abs = (cs.getD k0 0, [k0]) := by subst hpk; rfl
      have hpok : RkOk w5 cs.length p := by subst hpk; exact ho5
      have hpu : ∀ x ∈ ob p.A, w.heap.size ≤ x := by subst hpk; intro x hx; simp [ob] at hx; omega
      refine Ops.nil ?_
      refine thenQ_n ?_
      refine VC.sub [(0, _), (3, _), (4, _), (5, _), (7, _)] (.cons rfl (.cons rfl (.cons rfl (.cons rfl (.cons rfl .nil))))) ?_
      refine VC.region ?_
      refine Ops.r (Run.mv rfl) rfl ?_
      refine Ops.r (Run.mv rfl) rfl ?_
      refine Ops.r (Run.mv rfl) rfl ?_
      refine Ops.r (Run.index1 k0 rfl rfl Try.underlying54 Try.sizeOf3 (by omega)) rfl ?_
      refine Ops.r (Run.load rfl Try.isAgg3 hcell) rfl ?_
      refine Ops.r (Run.mv rfl) rfl ?_
      refine Ops.r (Run.build (evs.cons rfl (evs.cons rfl evs.nil)) zero105 (places105).choose_spec.1 (places105).choose_spec.2 (cells := (RC cs.length p).toArray) (by subst hpk; rfl)) rfl ?_
      refine Ops.m (Does.buildS1 rfl Try.underlying102 Try.sizeOf105 zero105 (by decide) (by decide) rfl rfl) rfl ?_
      rintro _ w6 ⟨rfl, hF6⟩
      have hrd6 : Rd w6 2 (some ⟨w5.heap.size, 0, none⟩) 1 (RC cs.length p) := Rd.of_blk (n := 1) (size := 2) hF6.blk rfl
      have hP6 := hP5.frm hF6.frm (by simp) (fun _ _ _ _ => by simp)
      have hD6 := hD5.frm hF6.frm (by simp)
      have hpok6 := hpok.frm hF6.frm (by simp)
      have hfr6 := hfr5.own hF6.frm (by simp)
      refine Ops.m (Does.app rfl rfl Try.underlying102 (info105) rfl (by decide) hP6.1 hrd6 (RC_one _ _) (by omega) (by omega)) rfl ?_
      rintro _ w7 ⟨B7, c7, rfl, ho7, hf7, hob7⟩
      have hsz6 := hfr6.size
      refine Ops.r (Run.asg rfl) rfl ?_
      refine Ops.nil ?_
      refine blockQ_n (thenQ_n ⟨(js ++ [k0], B7, c7, ps ++ [p]), (.cons rfl (.cons (by rw [show (ps ++ [p]).length = ps.length + 1 from List.length_append]; rfl) (.cons rfl .nil))), ?_, ?_⟩)
      · skip
        refine ⟨hjs2, ?_, ⟨?_, ?_⟩, hD6.frm hf7 (hD6.ne_own hP6.1 (by decide)), hfr6.own hf7 huB, up_app huB hob7 hsz6, ?_⟩
        · rw [List.map_append, List.map_append, habs, List.map_cons, hpa]; rfl
        · rw [show (ps ++ [p]).length = ps.length + 1 from List.length_append, List.flatMap_append]
          simpa using ho7
        · intro q hq
          rcases List.mem_append.1 hq with h5 | h5
          · exact (hP6.2 q h5).frm hf7 (hP6.ne q h5)
          · simp at h5; subst h5; exact hpok6.frm hf7 (Own.ne_own hpok6 hP6.1 (by decide))
        · intro q hq
          rcases List.mem_append.1 hq with h5 | h5
          · exact huP q h5
          · simp at h5; subst h5; exact hpu
      · skip
        simp only [List.length_append, List.length_singleton] at hj2 ⊢; omega

end Go.Proofs.Ytebaojedpnnliaa
