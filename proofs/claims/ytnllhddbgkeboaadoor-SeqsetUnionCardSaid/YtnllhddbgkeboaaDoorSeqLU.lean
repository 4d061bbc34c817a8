/-
  'SeqsetUnion': what two sets name, one behind the other, is what one of them names; either way round a span names the same.
-/
import Derived.Test.YtnllhddbgkeboaaDoorSeqLO
import Derived.Test.YtnllhddbgkeboaaDoorEngC
namespace Go.Proofs.YtnllhddbgkeboaaDoor
open Go.RowKit Go.Sort

section
open Go.ChangeShapes Go.WideShapes Go.Deep
theorem spans_form {H : Type} {enc : TypeId × Value → H} {w : World} {base : Nat} {spare : Nat → Bool} {held : Bool} {n : Nat} {cs : List Value} {x : DataW H × List MemPlace} (h : DataW.trod enc Tryd.prog w base spare held n 37 cs = some x) :
    ∃ (A : Option Addr) (c : Nat) (l : List Sp), cs = [.slice A l.length c] ∧ l.length ≤ c ∧ Rd w 2 A l.length (SC l) := by
  obtain ⟨A, len, c, rfl⟩ := slice_form Tryd.underlying37 h
  obtain ⟨l, rfl, h1, h3⟩ := spans_open h
  exact ⟨A, c, l, rfl, h1, h3⟩

set_option maxRecDepth 100000 in
theorem both_form {H : Type} {enc : TypeId × Value → H} {w : World} {base : Nat} {spare : Nat → Bool} {held : Bool} {n : Nat} {cs : List Value} {x : DataW H × List MemPlace} (h : DataW.trod enc Tryd.prog w base spare held n 44 cs = some x) :
    ∃ (A : Option Addr) (ca : Nat) (a : List Sp) (B : Option Addr) (cb : Nat) (b : List Sp) (nn : Int) (gr : Int), cs = ([.slice A a.length ca] ++ ([.slice B b.length cb] ++ ([.int .i64 nn] ++ ([.int .i64 gr] ++ [] : List Value) : List Value) : List Value) : List Value) ∧ (a.length ≤ ca ∧ Rd w 2 A a.length (SC a)) ∧ (b.length ≤ cb ∧ Rd w 2 B b.length (SC b)) ∧ ((Lit.int .i64 nn).wf = true) ∧ ((Lit.int .i64 gr).wf = true) := by
  obtain ⟨hlen, n', hf⟩ := open_field Tryd.underlying44 h
  have hl : cs.length = 4 := hlen.trans (by kernel_rfl)
  obtain ⟨a0, a1, a2, a3, rfl⟩ : ∃ a0 a1 a2 a3, cs = [a0, a1, a2, a3] := by
    match cs, hl with
    | [a0, a1, a2, a3], _ => exact ⟨a0, a1, a2, a3, rfl⟩
  clear h hlen hl
  obtain ⟨y0, h0⟩ := hf 0 _ rfl
  have h0 : DataW.trod enc Tryd.prog w base spare held n' 37 ([a0, a1, a2, a3].take (Tryd.prog.cellsOf 37)) = some y0 := h0
  rw [show Tryd.prog.cellsOf 37 = 1 by kernel_rfl] at h0
  have h0 : DataW.trod enc Tryd.prog w base spare held n' 37 [a0] = some y0 := h0
  obtain ⟨A, ca, a, e0, q0⟩ := spans_form h0
  obtain ⟨y1, h1⟩ := hf 1 _ rfl
  have h1 : DataW.trod enc Tryd.prog w base spare held n' 37 ([a1, a2, a3].take (Tryd.prog.cellsOf 37)) = some y1 := h1
  rw [show Tryd.prog.cellsOf 37 = 1 by kernel_rfl] at h1
  have h1 : DataW.trod enc Tryd.prog w base spare held n' 37 [a1] = some y1 := h1
  obtain ⟨B, cb, b, e1, q1⟩ := spans_form h1
  obtain ⟨y2, h2⟩ := hf 2 _ rfl
  have h2 : DataW.trod enc Tryd.prog w base spare held n' 3 ([a2, a3].take (Tryd.prog.cellsOf 3)) = some y2 := h2
  rw [show Tryd.prog.cellsOf 3 = 1 by kernel_rfl] at h2
  have h2 : DataW.trod enc Tryd.prog w base spare held n' 3 [a2] = some y2 := h2
  obtain ⟨nn, e2, q2⟩ := int_form Tryd.underlying3 h2
  obtain ⟨y3, h3⟩ := hf 3 _ rfl
  have h3 : DataW.trod enc Tryd.prog w base spare held n' 3 ([a3].take (Tryd.prog.cellsOf 3)) = some y3 := h3
  rw [show Tryd.prog.cellsOf 3 = 1 by kernel_rfl] at h3
  have h3 : DataW.trod enc Tryd.prog w base spare held n' 3 [a3] = some y3 := h3
  obtain ⟨gr, e3, q3⟩ := int_form Tryd.underlying3 h3
  refine ⟨A, ca, a, B, cb, b, nn, gr, ?_, q0, q1, q2, q3⟩
  show ([a0] ++ ([a1] ++ ([a2] ++ ([a3] ++ [] : List Value) : List Value) : List Value) : List Value) = _
  rw [e0, e1, e2, e3]
  try rfl

end
def swapS (x : Sp) : Sp := (x.2, x.1)
theorem ends_swap (x : Sp) (g : Int) : endsQ (swapS x) g = endsQ x g := by
  unfold endsQ swapS
  dsimp only
  generalize (if x.1 = 0 then g else x.1) = a
  generalize (if x.2 = 0 then g else x.2) = b
  by_cases h1 : a < b
  · rw [if_pos h1, if_pos h1, if_neg (by omega), if_neg (by omega)]
  · by_cases h2 : b < a
    · rw [if_neg h1, if_neg h1, if_pos h2, if_pos h2]
    · have : a = b := by omega
      subst this
      simp
theorem has_swap (l : List Sp) (n g : Int) : hasQ (l.map swapS) n g ↔ hasQ l n g := by
  unfold hasQ InQ
  constructor
  · rintro ⟨h1, h2, x, hx, h3⟩
    obtain ⟨y, hy, rfl⟩ := List.mem_map.1 hx
    rw [ends_swap] at h3
    exact ⟨h1, h2, y, hy, h3⟩
  · rintro ⟨h1, h2, x, hx, h3⟩
    exact ⟨h1, h2, swapS x, List.mem_map_of_mem hx, by rw [ends_swap]; exact h3⟩
theorem has_append (a b : List Sp) (n g : Int) : hasQ (a ++ b) n g ↔ hasQ a n g ∨ hasQ b n g := by
  unfold hasQ
  simp only [List.mem_append]
  constructor
  · rintro ⟨h1, h2, x, hx | hx, h3⟩
    · exact .inl ⟨h1, h2, x, hx, h3⟩
    · exact .inr ⟨h1, h2, x, hx, h3⟩
  · rintro (⟨h1, h2, x, hx, h3⟩ | ⟨h1, h2, x, hx, h3⟩)
    · exact ⟨h1, h2, x, .inl hx, h3⟩
    · exact ⟨h1, h2, x, .inr hx, h3⟩
theorem dec_or (a b : List Sp) (n g : Int) : decide (hasQ (a ++ b) n g) = (decide (hasQ a n g) || decide (hasQ b n g)) := by
  rw [Bool.eq_iff_iff]
  simp [has_append]
theorem dec_swap (l : List Sp) (n g : Int) : decide (hasQ (l.map swapS) n g) = decide (hasQ l n g) := decide_eq_decide.2 (has_swap l n g)
theorem few66_le (l : List Sp) : (few66 l).length ≤ 66 := by unfold few66; simp; omega

set_option maxRecDepth 100000 in
theorem union_walk (A : Option Addr) (ca : Nat) (a : List Sp) (B : Option Addr) (cb : Nat) (b : List Sp) (nn gr : Int) (w : World) (hca : a.length ≤ ca) (ha : Rd w 2 A a.length (SC a)) (hcb : b.length ≤ cb) (hb : Rd w 2 B b.length (SC b)) :
    Calls Tryd.prog 8 #[.agg #[.slice A a.length ca, .slice B b.length cb, .int .i64 nn, .int .i64 gr]] w fun e w' => e = .returned (.bool true) ∧ Frm [] w w' := by
  refine VC.calls (nt := 74) (res := #[.tmp 2]) Tryd.func8 rfl Tryd.ntmps8 Tryd.results8 rfl ?_
  refine VC.seq ?_
  refine VC.region ?_
  refine Ops.m (Does.box rfl) rfl ?_
  rintro _ w1 ⟨rfl, hF1⟩
  have hb1 : Blk w1 w.heap.size 44 #[.slice A a.length ca, .slice B b.length cb, .int .i64 nn, .int .i64 gr] := hF1.blk
  have K := hF1.frm
  generalize hg1 : w.heap.size = g1 at hb1 ⊢
  refine Ops.r (Run.asg rfl) rfl ?_
  refine Ops.nil ?_
  refine thenQ_n ?_
  refine VC.sub [(1, _)] (.cons rfl .nil) ?_
  refine VC.seq ?_
  refine VC.meet (σ := (Option Addr × Nat) × (Option Addr × Nat)) (fun s => [(3, .slice s.1.1 (few66 a).length s.1.2), (4, .slice s.2.1 (few66 b).length s.2.2), (5, .int .i64 nn), (6, .int .i64 gr)]) (fun s wr => Rd wr 2 s.1.1 (few66 a).length (SC (few66 a)) ∧ Rd wr 2 s.2.1 (few66 b).length (SC (few66 b)) ∧ Frm [] w wr) ?_ ?_
  · skip
    refine VC.held (fun W => Frm [] w1 W) (by kernel_rfl) ?_
    have hS : Frm [] w1 w1.drew := (Frm.refl _ _).drew
    refine HOps.take 0 rfl (by kernel_rfl) (by kernel_rfl) (by kernel_rfl) hS (fun w0 hw0 => Run.fieldAddr rfl Tryd.underlying44 rfl Tryd.sizeOf37 (by decide)) trivial rfl rfl ?_
    refine HOps.take 1 rfl (by kernel_rfl) (by kernel_rfl) (by kernel_rfl) hS (fun w0 hw0 => Run.load rfl Tryd.isAgg37 ((hb1.frm hw0 (by simp)).cell 0)) trivial rfl rfl ?_
    refine HOps.take 3 rfl (by kernel_rfl) (by kernel_rfl) (by kernel_rfl) hS (fun w0 hw0 => Run.fieldAddr rfl Tryd.underlying44 rfl Tryd.sizeOf37 (by decide)) trivial rfl rfl ?_
    refine HOps.take 4 rfl (by kernel_rfl) (by kernel_rfl) (by kernel_rfl) hS (fun w0 hw0 => Run.load rfl Tryd.isAgg37 ((hb1.frm hw0 (by simp)).cell 1)) trivial rfl rfl ?_
    refine HOps.take 6 rfl (by kernel_rfl) (by kernel_rfl) (by kernel_rfl) hS (fun w0 hw0 => Run.fieldAddr rfl Tryd.underlying44 rfl Tryd.sizeOf3 (by decide)) trivial rfl rfl ?_
    refine HOps.take 7 rfl (by kernel_rfl) (by kernel_rfl) (by kernel_rfl) hS (fun w0 hw0 => Run.load rfl Tryd.isAgg3 ((hb1.frm hw0 (by simp)).cell 2)) trivial rfl rfl ?_
    refine HOps.take 8 rfl (by kernel_rfl) (by kernel_rfl) (by kernel_rfl) hS (fun w0 hw0 => Run.fieldAddr rfl Tryd.underlying44 rfl Tryd.sizeOf3 (by decide)) trivial rfl rfl ?_
    refine HOps.take 9 rfl (by kernel_rfl) (by kernel_rfl) (by kernel_rfl) hS (fun w0 hw0 => Run.load rfl Tryd.isAgg3 ((hb1.frm hw0 (by simp)).cell 3)) trivial rfl rfl ?_
    refine HOps.cl 2 rfl (by kernel_rfl) (Enters.fn (evs.cons rfl evs.nil) Tryd.call21) (few25_spec A ca a _ hca (ha.frm (K.trans hS (by simp)) (by simp))) trivial rfl rfl ?_
    rintro e _ ⟨rfl, A3, c3, rfl, hl3, hc3⟩
    refine ⟨_, rfl, hS, ?_⟩
    refine HOps.cl 5 rfl (by kernel_rfl) (Enters.fn (evs.cons rfl evs.nil) Tryd.call21) (few25_spec B cb b _ hcb (hb.frm (K.trans hS (by simp)) (by simp))) trivial rfl rfl ?_
    rintro e _ ⟨rfl, A4, c4, rfl, hl4, hc4⟩
    refine ⟨_, rfl, hS, ?_⟩
    refine HOps.take 10 rfl (by kernel_rfl) (by kernel_rfl) (by kernel_rfl) hS (fun w0 hw0 => Run.asg rfl) trivial rfl rfl ?_
    refine HOps.take 11 rfl (by kernel_rfl) (by kernel_rfl) (by kernel_rfl) hS (fun w0 hw0 => Run.asg rfl) trivial rfl rfl ?_
    refine HOps.take 12 rfl (by kernel_rfl) (by kernel_rfl) (by kernel_rfl) hS (fun w0 hw0 => Run.asg rfl) trivial rfl rfl ?_
    refine HOps.take 13 rfl (by kernel_rfl) (by kernel_rfl) (by kernel_rfl) hS (fun w0 hw0 => Run.asg rfl) trivial rfl rfl ?_
    refine HOps.done (by kernel_rfl) ?_
    refine thenQ_n ⟨((A3, c3), (A4, c4)), (.cons rfl (.cons rfl (.cons rfl (.cons rfl .nil)))), ?_⟩
    exact ⟨hl3, hl4, K.trans hS (by simp)⟩
  · skip
    rintro ⟨⟨A3, c3⟩, A4, c4⟩ w2 ⟨h3, h4, K⟩ Γ hΓ
    dsimp only at h3 h4
    have hn3 := few66_le a
    have hn4 := few66_le b
    generalize few66 a = l3 at *
    generalize few66 b = l4 at *
    refine thenQ_n (VC.sub _ hΓ ?_)
    refine VC.seq ?_
    refine VC.region ?_
    refine Ops.m (Does.buildS0 Tryd.underlying37 Tryd.sizeOf46) rfl ?_
    rintro _ w3 ⟨rfl, hF3⟩
    have hA0 : Own w3 46 2 (some ⟨_, 0, none⟩) 0 0 [] := Own.of_blk (n := 0) hF3.blk rfl (by decide)
    have hsz2 := K.size
    have hsz3 := hF3.frm.size
    have K2 := hF3.frm
    have K := K.trans hF3.frm (by simp)
    refine Ops.r (Run.mv rfl) rfl ?_
    refine Ops.m (Does.app rfl rfl Tryd.underlying37 (info46) rfl (by decide) hA0 (h3.frm K2 (by simp)) (SC_one _) (by omega) (by omega)) rfl ?_
    rintro _ w4 ⟨A5, c5, rfl, hA5, hf4, hob4⟩
    have hub5 : ∀ x ∈ ob A5, w2.heap.size ≤ x := by
      rcases hob4 with h | h <;> rw [h] <;> simp [ob] <;> omega
    have K := Frm.own K hf4 (by simp [ob]; omega)
    have K2 := Frm.own K2 hf4 (by simp [ob])
    rw [List.nil_append, Nat.zero_add] at hA5
    rw [show (0 + l3.length) = l3.length by omega]
    refine Ops.r (Run.mv rfl) rfl ?_
    refine Ops.m (Does.app rfl rfl Tryd.underlying37 (info46) rfl (by decide) hA5 (h4.frm K2 (by simp)) (SC_one _) (by omega) (by omega)) rfl ?_
    rintro _ w5 ⟨A7, c7, rfl, h7, hf5, hob5⟩
    rw [← SC_append, ← List.length_append] at h7
    rw [← List.length_append]
    have hsz5 := K2.size
    have hub7 := up_app hub5 hob5 hsz5
    have K := Frm.own K hf5 (fun x hx => by have := hub5 x hx; omega)
    have K2 := Frm.own K2 hf5 hub5
    refine Ops.r (Run.asg rfl) rfl ?_
    refine Ops.nil ?_
    refine thenQ_n ?_
    refine VC.sub [(3, _), (4, _), (5, _), (6, _), (7, _)] (.cons rfl (.cons rfl (.cons rfl (.cons rfl (.cons rfl .nil))))) ?_
    refine VC.seq ?_
    refine VC.region ?_
    refine Ops.r (Run.asg rfl) rfl ?_
    refine Ops.nil ?_
    refine thenQ_n ?_
    refine VC.seq ?_
    refine VC.seq ?_
    refine VC.region ?_
    refine Ops.r (v := .int .i64 ((0 : Nat) : Int)) (Run.asg rfl) rfl ?_
    refine Ops.nil ?_
    refine thenQ_n ?_
    refine VC.block ?_
    refine VC.loop (σ := Nat × Option Addr × Nat) (fun s => [(3, .slice A3 l3.length c3), (4, .slice A4 l4.length c4), (5, .int .i64 nn), (6, .int .i64 gr), (7, .slice A7 (l3 ++ l4).length c7), (8, .slice s.2.1 ((l3.take s.1).map swapS).length s.2.2), (9, .int .i64 ((s.1 : Nat) : Int))]) (fun s wr => s.1 ≤ l3.length ∧ Frm [] w wr ∧ Frm [] w2 wr ∧ Own wr 46 2 A7 (l3 ++ l4).length c7 (SC (l3 ++ l4)) ∧ Own wr 46 2 s.2.1 ((l3.take s.1).map swapS).length s.2.2 (SC ((l3.take s.1).map swapS)) ∧ (∀ x ∈ ob s.2.1, w2.heap.size ≤ x ∧ x ∉ ob A7)) (fun s => l3.length - s.1) (0, none, 0) (.cons rfl (.cons rfl (.cons rfl (.cons rfl (.cons rfl (.cons rfl (.cons rfl .nil))))))) ⟨by omega, K, K2, h7, Own.nil _ _ _, by simp [ob]⟩ ?_
    rintro ⟨i, A8, c8⟩ wr ⟨hi, K, K2, h7, h8, hub8⟩
    dsimp only at hi h8 hub8 ⊢
    refine VC.seq ?_
    refine VC.seq ?_
    refine VC.region ?_
    refine Ops.r (Run.mv rfl) rfl ?_
    refine Ops.r (Run.mv rfl) rfl ?_
    refine Ops.r (Run.lenS rfl Tryd.underlying37) rfl ?_
    refine Ops.r (Run.bin rfl rfl (Bin.lssN _ _)) rfl ?_
    refine Ops.nil ?_
    refine thenQ_n ?_
    refine VC.sub [(3, _), (4, _), (5, _), (6, _), (7, _), (8, _), (9, _), (28, _)] (.cons rfl (.cons rfl (.cons rfl (.cons rfl (.cons rfl (.cons rfl (.cons rfl (.cons rfl .nil)))))))) ?_
    refine VC.condD rfl (fun hc1 => ?_) (fun hc1 => ?_)
    · skip
      obtain ⟨ad, rfl, _⟩ := SC_at h3 hc1
      have hcell : ∀ W, Frm [] w2 W → ∀ j v, (SC1 l3[i])[j]? = some v → W.cell? ((ad.add (i * 2)).add j) = some v := fun W hW => SC_cell (h3.frm hW (by simp)) hc1
      have htk := take_snoc hc1
      generalize hx : l3[i] = x at *
      have hml : ((l3.take i).map swapS).length = i := by simp; omega
      refine VC.skip ?_
      refine thenQ_n ?_
      refine VC.sub [(3, _), (4, _), (5, _), (6, _), (7, _), (8, _), (9, _)] (.cons rfl (.cons rfl (.cons rfl (.cons rfl (.cons rfl (.cons rfl (.cons rfl .nil))))))) ?_
      refine VC.seq ?_
      refine VC.block ?_
      refine VC.held (fun W => Frm [] w2 W) (by kernel_rfl) ?_
      have hS : Frm [] w2 wr.drew := K2.drew
      have K := K.drew
      have h7 := h7.frm (Drawn.drew wr).frm (by simp)
      have h8 := h8.frm (Drawn.drew wr).frm (by simp)
      refine HOps.take 0 rfl (by kernel_rfl) (by kernel_rfl) (by kernel_rfl) hS (fun w0 hw0 => Run.mv rfl) trivial rfl rfl ?_
      refine HOps.take 1 rfl (by kernel_rfl) (by kernel_rfl) (by kernel_rfl) hS (fun w0 hw0 => Run.mv rfl) trivial rfl rfl ?_
      refine HOps.take 2 rfl (by kernel_rfl) (by kernel_rfl) (by kernel_rfl) hS (fun w0 hw0 => Run.mv rfl) trivial rfl rfl ?_
      refine HOps.take 3 rfl (by kernel_rfl) (by kernel_rfl) (by kernel_rfl) hS (fun w0 hw0 => Run.indexS i rfl rfl Tryd.underlying37 Tryd.sizeOf46 hc1) trivial rfl rfl ?_
      refine HOps.take 4 rfl (by kernel_rfl) (by kernel_rfl) (by kernel_rfl) hS (fun w0 hw0 => Run.fieldAddr rfl Tryd.underlying46 rfl Tryd.sizeOf3 (by decide)) trivial rfl rfl ?_
      refine HOps.take 5 rfl (by kernel_rfl) (by kernel_rfl) (by kernel_rfl) hS (fun w0 hw0 => Run.load rfl Tryd.isAgg3 (hcell _ hw0 1 _ rfl)) trivial rfl rfl ?_
      refine HOps.take 6 rfl (by kernel_rfl) (by kernel_rfl) (by kernel_rfl) hS (fun w0 hw0 => Run.mv rfl) trivial rfl rfl ?_
      refine HOps.take 7 rfl (by kernel_rfl) (by kernel_rfl) (by kernel_rfl) hS (fun w0 hw0 => Run.mv rfl) trivial rfl rfl ?_
      refine HOps.take 8 rfl (by kernel_rfl) (by kernel_rfl) (by kernel_rfl) hS (fun w0 hw0 => Run.indexS i rfl rfl Tryd.underlying37 Tryd.sizeOf46 hc1) trivial rfl rfl ?_
      refine HOps.take 9 rfl (by kernel_rfl) (by kernel_rfl) (by kernel_rfl) hS (fun w0 hw0 => Run.fieldAddr rfl Tryd.underlying46 rfl Tryd.sizeOf3 (by decide)) trivial rfl rfl ?_
      refine HOps.take 10 rfl (by kernel_rfl) (by kernel_rfl) (by kernel_rfl) hS (fun w0 hw0 => Run.load rfl Tryd.isAgg3 (hcell _ hw0 0 _ rfl)) trivial rfl rfl ?_
      refine HOps.take 11 rfl (by kernel_rfl) (by kernel_rfl) (by kernel_rfl) hS (fun w0 hw0 => Run.build (evs.cons rfl (evs.cons rfl evs.nil)) zero46 (places46).choose_spec.1 (places46).choose_spec.2 (cells := (SC1 (swapS x)).toArray) rfl) trivial rfl rfl ?_
      refine HOps.m 12 rfl (by kernel_rfl) (Does.buildS1 rfl Tryd.underlying37 Tryd.sizeOf46 zero46 (by decide) (by decide) rfl rfl) trivial rfl rfl ?_
      rintro _ w6 ⟨rfl, hF6⟩
      have hS : Frm [] w2 w6 := hS.trans hF6.frm (by simp)
      have K := K.trans hF6.frm (by simp)
      have h7 := h7.frm hF6.frm (by simp)
      have h8 := h8.frm hF6.frm (by simp)
      refine ⟨hS, ?_⟩
      refine HOps.m 13 rfl (by kernel_rfl) (Does.app rfl rfl Tryd.underlying37 (info46) rfl (by decide) h8 (hrdS hF6) (SC_one _) (by omega) (by omega)) trivial rfl rfl ?_
      rintro _ w7 ⟨A9, c9, rfl, h9, hf7, hob7⟩
      have hs26 := hS.size
      have hS : Frm [] w2 w7 := Frm.own hS hf7 (fun y hy => (hub8 y hy).1)
      have hsz6 := K.size
      have hsz62 := hf7.size
      have hlt7 := h7.lt
      have hgs6 := hF6.frm.size
      have K := Frm.own K hf7 (fun y hy => by have := (hub8 y hy).1; omega)
      have h7 := h7.frm hf7 (fun y hy hb => (hub8 y hb).2 hy)
      rw [← SC_append] at h9
      have e9 : (l3.take i).map swapS ++ [swapS x] = (l3.take (i + 1)).map swapS := by rw [htk]; simp
      have e8 : ((l3.take i).map swapS).length + 1 = ((l3.take (i + 1)).map swapS).length := by rw [htk]; simp
      rw [e8, e9] at h9
      refine ⟨hS, ?_⟩
      refine HOps.take 14 rfl (by kernel_rfl) (by kernel_rfl) (by kernel_rfl) hS (fun w0 hw0 => Run.asg rfl) trivial rfl rfl ?_
      refine HOps.done (by kernel_rfl) ?_
      refine blockQ_n (thenQ_n ?_)
      refine VC.sub [(3, _), (4, _), (5, _), (6, _), (7, _), (8, _), (9, _)] (.cons rfl (.cons rfl (.cons rfl (.cons rfl (.cons rfl (.cons rfl (.cons rfl .nil))))))) ?_
      refine VC.region ?_
      refine Ops.r (Run.mv rfl) rfl ?_
      refine Ops.r (Run.bin rfl rfl (Bin.add_i64 _ 1 (by omega))) rfl ?_
      refine Ops.r (Run.asg rfl) rfl ?_
      refine Ops.nil ?_
      refine thenQ_n ⟨(i + 1, A9, c9), (.cons rfl (.cons rfl (.cons rfl (.cons rfl (.cons rfl (.cons (by rw [← e8]; rfl) (.cons rfl .nil))))))), ?_, ?_⟩
      · skip
        refine ⟨hc1, K, hS, h7, h9, fun y hy => ?_⟩
        rcases hob7 with h | h
        · rw [h] at hy; exact hub8 y hy
        · rw [h] at hy
          simp only [List.mem_singleton] at hy
          subst hy
          refine ⟨?_, fun h => absurd (hlt7 _ h) (by omega)⟩
          exact hs26
      · skip
        first | omega | (dsimp only; omega)
    · skip
      have him : i = l3.length := by omega
      subst him
      rw [List.take_length] at *
      refine VC.exit ?_
      refine thenQ_x (thenQ_x (blockQ_x ?_))
      refine thenQ_n ?_
      refine VC.sub [(3, _), (4, _), (5, _), (6, _), (7, _), (8, _)] (.cons rfl (.cons rfl (.cons rfl (.cons rfl (.cons rfl (.cons rfl .nil)))))) ?_
      refine VC.seq ?_
      refine VC.splitR [] (Frm [] w) 2 (.bool (decide (True))) ?_ ?_
      · refine VC.region ?_
        refine Ops.r (Run.mv rfl) rfl ?_
        refine Ops.r (Run.mv rfl) rfl ?_
        refine Ops.r (Run.mv rfl) rfl ?_
        refine Ops.cl (Enters.fn (evs.cons rfl (evs.cons rfl (evs.cons rfl evs.nil))) Tryd.call26) (has_spec A7 c7 (l3 ++ l4) nn gr _ h7.rd (by simp; omega)) rfl ?_
        rintro e wq ⟨rfl, hfq⟩
        rw [dec_or]
        refine ⟨_, rfl, ?_⟩
        have K := K.trans hfq (by simp)
        have K2 := K2.trans hfq (by simp)
        have h7 := h7.frm hfq (by simp)
        have h8 := h8.frm hfq (by simp)
        refine Ops.r (Run.mv rfl) rfl ?_
        refine Ops.r (Run.mv rfl) rfl ?_
        refine Ops.r (Run.mv rfl) rfl ?_
        refine Ops.cl (Enters.fn (evs.cons rfl (evs.cons rfl (evs.cons rfl evs.nil))) Tryd.call26) (has_spec A3 c3 l3 nn gr _ (h3.frm K2 (by simp)) (by omega)) rfl ?_
        rintro e wq ⟨rfl, hfq⟩
        refine ⟨_, rfl, ?_⟩
        have K := K.trans hfq (by simp)
        have K2 := K2.trans hfq (by simp)
        have h7 := h7.frm hfq (by simp)
        have h8 := h8.frm hfq (by simp)
        by_cases hs52 : hasQ l3 nn gr
        · skip
          refine Ops.r (Run.mv rfl) rfl ?_
          refine Ops.sk rfl (by first | rfl | assumption | exact decide_eq_true (by assumption) | exact decide_eq_false (by assumption) | decide | (simp; done) | (simp; omega) | (simp [*]; done)) rfl ?_
          refine Ops.sk rfl (by first | rfl | assumption | exact decide_eq_true (by assumption) | exact decide_eq_false (by assumption) | decide | (simp; done) | (simp; omega) | (simp [*]; done)) rfl ?_
          refine Ops.sk rfl (by first | rfl | assumption | exact decide_eq_true (by assumption) | exact decide_eq_false (by assumption) | decide | (simp; done) | (simp; omega) | (simp [*]; done)) rfl ?_
          refine Ops.sk rfl (by first | rfl | assumption | exact decide_eq_true (by assumption) | exact decide_eq_false (by assumption) | decide | (simp; done) | (simp; omega) | (simp [*]; done)) rfl ?_
          refine Ops.r (Run.pickT rfl rfl (by first | rfl | assumption | exact decide_eq_true (by assumption) | exact decide_eq_false (by assumption) | decide | (simp; done) | (simp; omega) | (simp [*]; done))) rfl ?_
          refine Ops.r (Run.eqlB rfl rfl Tryd.underlying4) rfl ?_
          refine Ops.r (Run.mv rfl) rfl ?_
          refine Ops.rg rfl (by first | rfl | assumption | exact decide_eq_true (by assumption) | exact decide_eq_false (by assumption) | decide | (simp; done) | (simp; omega) | (simp [*]; done)) (Run.mv rfl) rfl ?_
          refine Ops.rg rfl (by first | rfl | assumption | exact decide_eq_true (by assumption) | exact decide_eq_false (by assumption) | decide | (simp; done) | (simp; omega) | (simp [*]; done)) (Run.mv rfl) rfl ?_
          refine Ops.rg rfl (by first | rfl | assumption | exact decide_eq_true (by assumption) | exact decide_eq_false (by assumption) | decide | (simp; done) | (simp; omega) | (simp [*]; done)) (Run.mv rfl) rfl ?_
          refine Ops.clg rfl (by first | rfl | assumption | exact decide_eq_true (by assumption) | exact decide_eq_false (by assumption) | decide | (simp; done) | (simp; omega) | (simp [*]; done)) (Enters.fn (evs.cons rfl (evs.cons rfl (evs.cons rfl evs.nil))) Tryd.call26) (has_spec A8 c8 (l3.map swapS) nn gr _ h8.rd (by simp; omega)) rfl ?_
          rintro e wq ⟨rfl, hfq⟩
          rw [dec_swap]
          refine ⟨_, rfl, ?_⟩
          have K := K.trans hfq (by simp)
          have K2 := K2.trans hfq (by simp)
          have h7 := h7.frm hfq (by simp)
          have h8 := h8.frm hfq (by simp)
          refine Ops.rg rfl (by first | rfl | assumption | exact decide_eq_true (by assumption) | exact decide_eq_false (by assumption) | decide | (simp; done) | (simp; omega) | (simp [*]; done)) (Run.mv rfl) rfl ?_
          refine Ops.rg rfl (by first | rfl | assumption | exact decide_eq_true (by assumption) | exact decide_eq_false (by assumption) | decide | (simp; done) | (simp; omega) | (simp [*]; done)) (Run.mv rfl) rfl ?_
          refine Ops.rg rfl (by first | rfl | assumption | exact decide_eq_true (by assumption) | exact decide_eq_false (by assumption) | decide | (simp; done) | (simp; omega) | (simp [*]; done)) (Run.mv rfl) rfl ?_
          refine Ops.clg rfl (by first | rfl | assumption | exact decide_eq_true (by assumption) | exact decide_eq_false (by assumption) | decide | (simp; done) | (simp; omega) | (simp [*]; done)) (Enters.fn (evs.cons rfl (evs.cons rfl (evs.cons rfl evs.nil))) Tryd.call26) (has_spec A3 c3 l3 nn gr _ (h3.frm K2 (by simp)) (by omega)) rfl ?_
          rintro e wq ⟨rfl, hfq⟩
          refine ⟨_, rfl, ?_⟩
          have K := K.trans hfq (by simp)
          have K2 := K2.trans hfq (by simp)
          have h7 := h7.frm hfq (by simp)
          have h8 := h8.frm hfq (by simp)
          refine Ops.rg rfl (by first | rfl | assumption | exact decide_eq_true (by assumption) | exact decide_eq_false (by assumption) | decide | (simp; done) | (simp; omega) | (simp [*]; done)) (Run.eqlB rfl rfl Tryd.underlying4) rfl ?_
          refine Ops.r (Run.pickT rfl rfl (by first | rfl | assumption | exact decide_eq_true (by assumption) | exact decide_eq_false (by assumption) | decide | (simp; done) | (simp; omega) | (simp [*]; done))) rfl ?_
          refine Ops.r (Run.mv rfl) rfl ?_
          refine Ops.clg rfl (by first | rfl | assumption | exact decide_eq_true (by assumption) | exact decide_eq_false (by assumption) | decide | (simp; done) | (simp; omega) | (simp [*]; done)) (Enters.fn evs.nil Tryd.call25) (awake25_spec _) rfl ?_
          rintro e wq ⟨rfl, hfq⟩
          refine ⟨_, rfl, ?_⟩
          have K := K.trans hfq (by simp)
          have K2 := K2.trans hfq (by simp)
          have h7 := h7.frm hfq (by simp)
          have h8 := h8.frm hfq (by simp)
          refine Ops.r (Run.pickT rfl rfl (by first | rfl | assumption | exact decide_eq_true (by assumption) | exact decide_eq_false (by assumption) | decide | (simp; done) | (simp; omega) | (simp [*]; done))) rfl ?_
          refine Ops.r (Run.asg rfl) rfl ?_
          refine Ops.nil ?_
          refine thenQ_n ⟨(.cons (congrArg (fun b => some (Value.bool b)) ((decide_eq_true trivial).symm)) .nil), (K)⟩
        · skip
          refine Ops.r (Run.mv rfl) rfl ?_
          refine Ops.rg rfl (by first | rfl | assumption | exact decide_eq_true (by assumption) | exact decide_eq_false (by assumption) | decide | (simp; done) | (simp; omega) | (simp [*]; done)) (Run.mv rfl) rfl ?_
          refine Ops.rg rfl (by first | rfl | assumption | exact decide_eq_true (by assumption) | exact decide_eq_false (by assumption) | decide | (simp; done) | (simp; omega) | (simp [*]; done)) (Run.mv rfl) rfl ?_
          refine Ops.rg rfl (by first | rfl | assumption | exact decide_eq_true (by assumption) | exact decide_eq_false (by assumption) | decide | (simp; done) | (simp; omega) | (simp [*]; done)) (Run.mv rfl) rfl ?_
          refine Ops.clg rfl (by first | rfl | assumption | exact decide_eq_true (by assumption) | exact decide_eq_false (by assumption) | decide | (simp; done) | (simp; omega) | (simp [*]; done)) (Enters.fn (evs.cons rfl (evs.cons rfl (evs.cons rfl evs.nil))) Tryd.call26) (has_spec A4 c4 l4 nn gr _ (h4.frm K2 (by simp)) (by omega)) rfl ?_
          rintro e wq ⟨rfl, hfq⟩
          refine ⟨_, rfl, ?_⟩
          have K := K.trans hfq (by simp)
          have K2 := K2.trans hfq (by simp)
          have h7 := h7.frm hfq (by simp)
          have h8 := h8.frm hfq (by simp)
          by_cases hs57 : hasQ l4 nn gr
          · skip
            refine Ops.r (Run.pickF rfl rfl (by first | rfl | assumption | exact decide_eq_true (by assumption) | exact decide_eq_false (by assumption) | decide | (simp; done) | (simp; omega) | (simp [*]; done))) rfl ?_
            refine Ops.r (Run.eqlB rfl rfl Tryd.underlying4) rfl ?_
            refine Ops.r (Run.mv rfl) rfl ?_
            refine Ops.rg rfl (by first | rfl | assumption | exact decide_eq_true (by assumption) | exact decide_eq_false (by assumption) | decide | (simp; done) | (simp; omega) | (simp [*]; done)) (Run.mv rfl) rfl ?_
            refine Ops.rg rfl (by first | rfl | assumption | exact decide_eq_true (by assumption) | exact decide_eq_false (by assumption) | decide | (simp; done) | (simp; omega) | (simp [*]; done)) (Run.mv rfl) rfl ?_
            refine Ops.rg rfl (by first | rfl | assumption | exact decide_eq_true (by assumption) | exact decide_eq_false (by assumption) | decide | (simp; done) | (simp; omega) | (simp [*]; done)) (Run.mv rfl) rfl ?_
            refine Ops.clg rfl (by first | rfl | assumption | exact decide_eq_true (by assumption) | exact decide_eq_false (by assumption) | decide | (simp; done) | (simp; omega) | (simp [*]; done)) (Enters.fn (evs.cons rfl (evs.cons rfl (evs.cons rfl evs.nil))) Tryd.call26) (has_spec A8 c8 (l3.map swapS) nn gr _ h8.rd (by simp; omega)) rfl ?_
            rintro e wq ⟨rfl, hfq⟩
            rw [dec_swap]
            refine ⟨_, rfl, ?_⟩
            have K := K.trans hfq (by simp)
            have K2 := K2.trans hfq (by simp)
            have h7 := h7.frm hfq (by simp)
            have h8 := h8.frm hfq (by simp)
            refine Ops.rg rfl (by first | rfl | assumption | exact decide_eq_true (by assumption) | exact decide_eq_false (by assumption) | decide | (simp; done) | (simp; omega) | (simp [*]; done)) (Run.mv rfl) rfl ?_
            refine Ops.rg rfl (by first | rfl | assumption | exact decide_eq_true (by assumption) | exact decide_eq_false (by assumption) | decide | (simp; done) | (simp; omega) | (simp [*]; done)) (Run.mv rfl) rfl ?_
            refine Ops.rg rfl (by first | rfl | assumption | exact decide_eq_true (by assumption) | exact decide_eq_false (by assumption) | decide | (simp; done) | (simp; omega) | (simp [*]; done)) (Run.mv rfl) rfl ?_
            refine Ops.clg rfl (by first | rfl | assumption | exact decide_eq_true (by assumption) | exact decide_eq_false (by assumption) | decide | (simp; done) | (simp; omega) | (simp [*]; done)) (Enters.fn (evs.cons rfl (evs.cons rfl (evs.cons rfl evs.nil))) Tryd.call26) (has_spec A3 c3 l3 nn gr _ (h3.frm K2 (by simp)) (by omega)) rfl ?_
            rintro e wq ⟨rfl, hfq⟩
            refine ⟨_, rfl, ?_⟩
            have K := K.trans hfq (by simp)
            have K2 := K2.trans hfq (by simp)
            have h7 := h7.frm hfq (by simp)
            have h8 := h8.frm hfq (by simp)
            refine Ops.rg rfl (by first | rfl | assumption | exact decide_eq_true (by assumption) | exact decide_eq_false (by assumption) | decide | (simp; done) | (simp; omega) | (simp [*]; done)) (Run.eqlB rfl rfl Tryd.underlying4) rfl ?_
            refine Ops.r (Run.pickT rfl rfl (by first | rfl | assumption | exact decide_eq_true (by assumption) | exact decide_eq_false (by assumption) | decide | (simp; done) | (simp; omega) | (simp [*]; done))) rfl ?_
            refine Ops.r (Run.mv rfl) rfl ?_
            refine Ops.clg rfl (by first | rfl | assumption | exact decide_eq_true (by assumption) | exact decide_eq_false (by assumption) | decide | (simp; done) | (simp; omega) | (simp [*]; done)) (Enters.fn evs.nil Tryd.call25) (awake25_spec _) rfl ?_
            rintro e wq ⟨rfl, hfq⟩
            refine ⟨_, rfl, ?_⟩
            have K := K.trans hfq (by simp)
            have K2 := K2.trans hfq (by simp)
            have h7 := h7.frm hfq (by simp)
            have h8 := h8.frm hfq (by simp)
            refine Ops.r (Run.pickT rfl rfl (by first | rfl | assumption | exact decide_eq_true (by assumption) | exact decide_eq_false (by assumption) | decide | (simp; done) | (simp; omega) | (simp [*]; done))) rfl ?_
            refine Ops.r (Run.asg rfl) rfl ?_
            refine Ops.nil ?_
            refine thenQ_n ⟨(.cons (congrArg (fun b => some (Value.bool b)) ((decide_eq_true trivial).symm)) .nil), (K)⟩
          · skip
            refine Ops.r (Run.pickF rfl rfl (by first | rfl | assumption | exact decide_eq_true (by assumption) | exact decide_eq_false (by assumption) | decide | (simp; done) | (simp; omega) | (simp [*]; done))) rfl ?_
            refine Ops.r (Run.eqlB rfl rfl Tryd.underlying4) rfl ?_
            refine Ops.r (Run.mv rfl) rfl ?_
            refine Ops.rg rfl (by first | rfl | assumption | exact decide_eq_true (by assumption) | exact decide_eq_false (by assumption) | decide | (simp; done) | (simp; omega) | (simp [*]; done)) (Run.mv rfl) rfl ?_
            refine Ops.rg rfl (by first | rfl | assumption | exact decide_eq_true (by assumption) | exact decide_eq_false (by assumption) | decide | (simp; done) | (simp; omega) | (simp [*]; done)) (Run.mv rfl) rfl ?_
            refine Ops.rg rfl (by first | rfl | assumption | exact decide_eq_true (by assumption) | exact decide_eq_false (by assumption) | decide | (simp; done) | (simp; omega) | (simp [*]; done)) (Run.mv rfl) rfl ?_
            refine Ops.clg rfl (by first | rfl | assumption | exact decide_eq_true (by assumption) | exact decide_eq_false (by assumption) | decide | (simp; done) | (simp; omega) | (simp [*]; done)) (Enters.fn (evs.cons rfl (evs.cons rfl (evs.cons rfl evs.nil))) Tryd.call26) (has_spec A8 c8 (l3.map swapS) nn gr _ h8.rd (by simp; omega)) rfl ?_
            rintro e wq ⟨rfl, hfq⟩
            rw [dec_swap]
            refine ⟨_, rfl, ?_⟩
            have K := K.trans hfq (by simp)
            have K2 := K2.trans hfq (by simp)
            have h7 := h7.frm hfq (by simp)
            have h8 := h8.frm hfq (by simp)
            refine Ops.rg rfl (by first | rfl | assumption | exact decide_eq_true (by assumption) | exact decide_eq_false (by assumption) | decide | (simp; done) | (simp; omega) | (simp [*]; done)) (Run.mv rfl) rfl ?_
            refine Ops.rg rfl (by first | rfl | assumption | exact decide_eq_true (by assumption) | exact decide_eq_false (by assumption) | decide | (simp; done) | (simp; omega) | (simp [*]; done)) (Run.mv rfl) rfl ?_
            refine Ops.rg rfl (by first | rfl | assumption | exact decide_eq_true (by assumption) | exact decide_eq_false (by assumption) | decide | (simp; done) | (simp; omega) | (simp [*]; done)) (Run.mv rfl) rfl ?_
            refine Ops.clg rfl (by first | rfl | assumption | exact decide_eq_true (by assumption) | exact decide_eq_false (by assumption) | decide | (simp; done) | (simp; omega) | (simp [*]; done)) (Enters.fn (evs.cons rfl (evs.cons rfl (evs.cons rfl evs.nil))) Tryd.call26) (has_spec A3 c3 l3 nn gr _ (h3.frm K2 (by simp)) (by omega)) rfl ?_
            rintro e wq ⟨rfl, hfq⟩
            refine ⟨_, rfl, ?_⟩
            have K := K.trans hfq (by simp)
            have K2 := K2.trans hfq (by simp)
            have h7 := h7.frm hfq (by simp)
            have h8 := h8.frm hfq (by simp)
            refine Ops.rg rfl (by first | rfl | assumption | exact decide_eq_true (by assumption) | exact decide_eq_false (by assumption) | decide | (simp; done) | (simp; omega) | (simp [*]; done)) (Run.eqlB rfl rfl Tryd.underlying4) rfl ?_
            refine Ops.r (Run.pickT rfl rfl (by first | rfl | assumption | exact decide_eq_true (by assumption) | exact decide_eq_false (by assumption) | decide | (simp; done) | (simp; omega) | (simp [*]; done))) rfl ?_
            refine Ops.r (Run.mv rfl) rfl ?_
            refine Ops.clg rfl (by first | rfl | assumption | exact decide_eq_true (by assumption) | exact decide_eq_false (by assumption) | decide | (simp; done) | (simp; omega) | (simp [*]; done)) (Enters.fn evs.nil Tryd.call25) (awake25_spec _) rfl ?_
            rintro e wq ⟨rfl, hfq⟩
            refine ⟨_, rfl, ?_⟩
            have K := K.trans hfq (by simp)
            have K2 := K2.trans hfq (by simp)
            have h7 := h7.frm hfq (by simp)
            have h8 := h8.frm hfq (by simp)
            refine Ops.r (Run.pickT rfl rfl (by first | rfl | assumption | exact decide_eq_true (by assumption) | exact decide_eq_false (by assumption) | decide | (simp; done) | (simp; omega) | (simp [*]; done))) rfl ?_
            refine Ops.r (Run.asg rfl) rfl ?_
            refine Ops.nil ?_
            refine thenQ_n ⟨(.cons (congrArg (fun b => some (Value.bool b)) ((decide_eq_true trivial).symm)) .nil), (K)⟩
      · intro Γ wR hΓ hR
        refine thenQ_n (VC.sub _ hΓ ?_)
        refine VC.ret ?_
        refine end1 rfl ?_
        exact ⟨by rw [decide_eq_true trivial], hR⟩

end Go.Proofs.YtnllhddbgkeboaaDoor
