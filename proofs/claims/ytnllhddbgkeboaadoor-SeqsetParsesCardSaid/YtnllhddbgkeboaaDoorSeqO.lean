/-
  The walks of what the laws of layer 25 say it with: spans, few, the examples.
-/
import Derived.Test.YtnllhddbgkeboaaDoorSeqM
namespace Go.Proofs.YtnllhddbgkeboaaDoor
open Go.RowKit Go.Sort

theorem span_eq (x y : Sp) (w : World) : (Op.eqFields 9999 (SC1 x).toArray (SC1 y).toArray (Tryd.prog.fieldsOf 46).toList).run Tryd.prog w = .ok (decide (x = y)) w := by
  obtain ⟨a, b⟩ := x
  obtain ⟨c, d⟩ := y
  obtain ⟨f0, f1, hf, ⟨n0, t0, o0⟩, n1, t1, o1⟩ := fields46
  rw [hf]
  have h := eqF_int (P := Tryd.prog) (w := w) (d := 9998) (xs := #[.int .i64 a, .int .i64 b]) (ys := #[.int .i64 c, .int .i64 d]) (f := f0) (fs := [f1]) (k := .i64) (k' := .i64) (a := a) (b := c) (by rw [n0]; decide) (by rw [t0]; exact Tryd.isAgg3) (by rw [t0]; exact Tryd.underlying3) (by rw [o0]; rfl) (by rw [o0]; rfl)
    (eqF_int (k := .i64) (k' := .i64) (a := b) (b := d) (by rw [n1]; decide) (by rw [t1]; exact Tryd.isAgg3) (by rw [t1]; exact Tryd.underlying3) (by rw [o1]; rfl) (by rw [o1]; rfl) eqF_nil)
  have e : decide ((a, b) = (c, d)) = (decide (a = c) && (decide (b = d) && true)) := by
    rw [Bool.eq_iff_iff]
    simp
  rw [e]
  exact h

set_option maxRecDepth 100000 in
theorem spans25_spec (A B : Option Addr) (c d : Nat) (a b : List Sp) (w : World) (ha : Rd w 2 A a.length (SC a)) (hb : Rd w 2 B b.length (SC b)) (hla : a.length ≤ 1000000) (hlb : b.length ≤ 1000000) :
    Calls Tryd.prog 31 #[.slice A a.length c, .slice B b.length d] w fun e w' => e = .returned (.bool (decide (a = b))) ∧ Frm [] w w' := by
  refine VC.calls (nt := 26) (res := #[.tmp 4]) Tryd.func31 rfl Tryd.ntmps31 Tryd.results31 rfl ?_
  refine VC.seq ?_
  refine VC.region ?_
  refine Ops.r (Run.asg rfl) rfl ?_
  refine Ops.nil ?_
  refine thenQ_n ?_
  refine VC.sub [(0, _), (1, _)] (.cons rfl (.cons rfl .nil)) ?_
  refine VC.seq ?_
  refine VC.seq ?_
  refine VC.region ?_
  refine Ops.r (Run.mv rfl) rfl ?_
  refine Ops.r (Run.lenS rfl Tryd.underlying37) rfl ?_
  refine Ops.r (Run.mv rfl) rfl ?_
  refine Ops.r (Run.lenS rfl Tryd.underlying37) rfl ?_
  refine Ops.r (Run.bin rfl rfl (Bin.neqN _ _)) rfl ?_
  refine Ops.nil ?_
  refine thenQ_n ?_
  refine VC.sub [(0, _), (1, _), (10, _)] (.cons rfl (.cons rfl (.cons rfl .nil))) ?_
  refine VC.condD rfl (fun hc1 => ?_) (fun hc1 => ?_)
  · skip
    refine VC.seq ?_
    refine VC.region ?_
    refine Ops.r (Run.asg rfl) rfl ?_
    refine Ops.nil ?_
    refine thenQ_n ?_
    refine VC.sub [(4, _)] (.cons rfl .nil) ?_
    refine VC.ret ?_
    refine thenQ_r (end1 rfl ?_)
    exact ⟨by rw [decide_eq_false (fun h => hc1 (congrArg List.length h))], Frm.refl _ _⟩
  · skip
    have hab : a.length = b.length := by omega
    refine VC.skip ?_
    refine thenQ_n ?_
    refine VC.sub [(0, _), (1, _)] (.cons rfl (.cons rfl .nil)) ?_
    refine VC.seq ?_
    refine VC.seq ?_
    refine VC.region ?_
    refine Ops.r (v := .int .i64 ((0 : Nat) : Int)) (Run.asg rfl) rfl ?_
    refine Ops.nil ?_
    refine thenQ_n ?_
    refine VC.block ?_
    refine VC.loop (σ := Nat) (fun s => [(0, .slice A a.length c), (1, .slice B b.length d), (5, .int .i64 ((s : Nat) : Int))]) (fun s wr => s ≤ a.length ∧ Frm [] w wr ∧ ∀ j (h1 : j < a.length) (h2 : j < b.length), j < s → a[j] = b[j]) (fun s => a.length - s) 0 (.cons rfl (.cons rfl (.cons rfl .nil))) ⟨by omega, Frm.refl _ _, fun j _ _ h => absurd h (by omega)⟩ ?_
    rintro i wr ⟨hi, hfr, hsm⟩
    refine VC.seq ?_
    refine VC.seq ?_
    refine VC.region ?_
    refine Ops.r (Run.mv rfl) rfl ?_
    refine Ops.r (Run.mv rfl) rfl ?_
    refine Ops.r (Run.lenS rfl Tryd.underlying37) rfl ?_
    refine Ops.r (Run.bin rfl rfl (Bin.lssN _ _)) rfl ?_
    refine Ops.nil ?_
    refine thenQ_n ?_
    refine VC.sub [(0, _), (1, _), (5, _), (14, _)] (.cons rfl (.cons rfl (.cons rfl (.cons rfl .nil)))) ?_
    refine VC.condD rfl (fun hc2 => ?_) (fun hc2 => ?_)
    · skip
      have hc2b : i < b.length := by omega
      obtain ⟨ad, rfl, hcella⟩ := SC_at (ha.frm hfr (by simp)) hc2
      obtain ⟨bd, rfl, hcellb⟩ := SC_at (hb.frm hfr (by simp)) hc2b
      refine VC.skip ?_
      refine thenQ_n ?_
      refine VC.sub [(0, _), (1, _), (5, _)] (.cons rfl (.cons rfl (.cons rfl .nil))) ?_
      refine VC.seq ?_
      refine VC.block ?_
      refine VC.seq ?_
      refine VC.still (by kernel_rfl) (by kernel_rfl) ?_
      refine SOps.r (Run.mv rfl) rfl ?_
      refine SOps.r (Run.mv rfl) rfl ?_
      refine SOps.r (Run.indexS i rfl rfl Tryd.underlying37 Tryd.sizeOf46 hc2) rfl ?_
      refine SOps.r (Run.loadA rfl Tryd.isAgg46 Tryd.sizeOf46 hcella (by first | rfl | (simp; done))) rfl ?_
      refine SOps.r (Run.mv rfl) rfl ?_
      refine SOps.r (Run.mv rfl) rfl ?_
      refine SOps.r (Run.indexS i rfl rfl Tryd.underlying37 Tryd.sizeOf46 hc2b) rfl ?_
      refine SOps.r (Run.loadA rfl Tryd.isAgg46 Tryd.sizeOf46 hcellb (by first | rfl | (simp; done))) rfl ?_
      refine SOps.r (Run.neqAgg rfl rfl (by kernel_rfl) (by kernel_rfl) (by kernel_rfl) (span_eq _ _ _)) rfl ?_
      refine SOps.nil ?_
      refine thenQ_n ?_
      refine VC.sub [(0, _), (1, _), (5, _), (25, _)] (.cons rfl (.cons rfl (.cons rfl (.cons rfl .nil)))) ?_
      refine VC.condB rfl (fun hc3 => ?_) (fun hc3 => ?_)
      · skip
        have hne : a[i] ≠ b[i] := fun h => by rw [decide_eq_true h] at hc3; cases hc3
        refine VC.seq ?_
        refine VC.region ?_
        refine Ops.r (Run.asg rfl) rfl ?_
        refine Ops.nil ?_
        refine thenQ_n ?_
        refine VC.sub [(4, _)] (.cons rfl .nil) ?_
        refine VC.ret ?_
        refine blockQ_r (thenQ_r (thenQ_r (blockQ_r (thenQ_r (end1 rfl ?_)))))
        exact ⟨by rw [decide_eq_false (fun h => hne (by subst h; rfl))], hfr.drew⟩
      · skip
        have heq : a[i] = b[i] := of_decide_eq_true (by simpa using hc3)
        refine VC.skip ?_
        refine blockQ_n (thenQ_n ?_)
        refine VC.sub [(0, _), (1, _), (5, _)] (.cons rfl (.cons rfl (.cons rfl .nil))) ?_
        refine VC.region ?_
        refine Ops.r (Run.mv rfl) rfl ?_
        refine Ops.r (Run.bin rfl rfl (Bin.add_i64 _ 1 (by omega))) rfl ?_
        refine Ops.r (Run.asg rfl) rfl ?_
        refine Ops.nil ?_
        refine thenQ_n ⟨(i + 1), (.cons rfl (.cons rfl (.cons rfl .nil))), ?_, ?_⟩
        · skip
          refine ⟨hc2, hfr.drew, fun j h1 h2 h3 => ?_⟩
          rcases Nat.lt_or_ge j i with h | h
          · exact hsm j h1 h2 h
          · have : j = i := by omega
            subst this
            exact heq
        · skip
          first | omega | (dsimp only; omega)
    · skip
      refine VC.exit ?_
      refine thenQ_x (thenQ_x (blockQ_x ?_))
      refine thenQ_n ?_
      refine VC.sub [] .nil ?_
      refine VC.seq ?_
      refine VC.region ?_
      refine Ops.r (Run.asg rfl) rfl ?_
      refine Ops.nil ?_
      refine thenQ_n ?_
      refine VC.ret ?_
      refine end1 rfl ?_
      exact ⟨by rw [decide_eq_true (List.ext_getElem hab fun j h1 h2 => hsm j h1 h2 (by omega))], hfr⟩

def few66 (l : List Sp) : List Sp := l.take 66
theorem SC_take (l : List Sp) (k : Nat) : SC (l.take k) = (SC l).take (k * 2) := by
  induction l generalizing k with
  | nil => simp [SC]
  | cons a l ih =>
    cases k with
    | zero => simp [SC]
    | succ k =>
      rw [List.take_succ_cons, show SC (a :: l) = SC1 a ++ SC l from rfl, show SC (a :: l.take k) = SC1 a ++ SC (l.take k) from rfl, ih, List.take_append, SC1_len, (List.take_of_length_le (by rw [SC1_len]; omega) : (SC1 a).take ((k + 1) * 2) = SC1 a), show (k + 1) * 2 - 2 = k * 2 by omega]
theorem SC_cut {w : World} {A : Option Addr} {c : Nat} {l : List Sp} (h : Rd w 2 A l.length (SC l)) (k : Nat) (hk : k ≤ l.length) (hc : l.length ≤ c) : Rd w 2 (cutA A c 0 2) (l.take k).length (SC (l.take k)) := by
  have e := h.cut (l := 0) (r := k) (cap := c) (by omega) hk hc
  have e1 : (l.take k).length = k - 0 := by simp; omega
  have e2 : SC (l.take k) = ((SC l).drop (0 * 2)).take ((k - 0) * 2) := by rw [SC_take]; simp
  rw [e1, e2]
  exact e
theorem IB_cut {w : World} {A : Option Addr} {c : Nat} {l : List Int} (h : Rd w 1 A l.length (IB l)) (k : Nat) (hk : k ≤ l.length) (hc : l.length ≤ c) : Rd w 1 (cutA A c 0 1) (l.take k).length (IB (l.take k)) := by
  have e := h.cut (l := 0) (r := k) (cap := c) (by omega) hk hc
  have e1 : (l.take k).length = k - 0 := by simp; omega
  have e2 : IB (l.take k) = ((IB l).drop (0 * 1)).take ((k - 0) * 1) := by simp [IB, List.map_take]
  rw [e1, e2]
  exact e

set_option maxRecDepth 100000 in
theorem few25_spec (A : Option Addr) (c : Nat) (l : List Sp) (w : World) (hc : l.length ≤ c) (hl : Rd w 2 A l.length (SC l)) :
    Calls Tryd.prog 21 #[.slice A l.length c] w fun e w' => w = w' ∧ ∃ B d, e = .returned (.slice B (few66 l).length d) ∧ Rd w' 2 B (few66 l).length (SC (few66 l)) ∧ (few66 l).length ≤ d := by
  refine VC.calls (nt := 9) (res := #[.tmp 2]) Tryd.func21 rfl Tryd.ntmps21 Tryd.results21 rfl ?_
  refine VC.seq ?_
  refine VC.region ?_
  refine Ops.r (Run.asg rfl) rfl ?_
  refine Ops.nil ?_
  refine thenQ_n ?_
  refine VC.sub [(0, _)] (.cons rfl .nil) ?_
  refine VC.seq ?_
  refine VC.seq ?_
  refine VC.region ?_
  refine Ops.r (Run.mv rfl) rfl ?_
  refine Ops.r (Run.lenS rfl Tryd.underlying37) rfl ?_
  refine Ops.r (Run.bin rfl rfl (Bin.gtrN _ 66)) rfl ?_
  refine Ops.nil ?_
  refine thenQ_n ?_
  refine VC.sub [(0, _), (5, _)] (.cons rfl (.cons rfl .nil)) ?_
  refine VC.condD rfl (fun hc1 => ?_) (fun hc1 => ?_)
  · skip
    refine VC.seq ?_
    refine VC.region ?_
    refine Ops.r (Run.mv rfl) rfl ?_
    refine Ops.r (Run.sliceS 0 66 rfl Tryd.underlying37 Tryd.sizeOf46 evB.none_ (evB.some_ rfl) (by omega) (by omega)) rfl ?_
    refine Ops.r (Run.asg rfl) rfl ?_
    refine Ops.nil ?_
    refine thenQ_n ?_
    refine VC.sub [(2, _)] (.cons rfl .nil) ?_
    refine VC.ret ?_
    refine thenQ_r (end1 rfl ?_)
    exact ⟨rfl, cutA A c 0 2, c - 0, by rw [show (few66 l).length = 66 - 0 by unfold few66; simp; omega], SC_cut hl 66 (by omega) hc, by unfold few66; simp; omega⟩
  · skip
    refine VC.skip ?_
    refine thenQ_n ?_
    refine VC.sub [(0, _)] (.cons rfl .nil) ?_
    refine VC.seq ?_
    refine VC.region ?_
    refine Ops.r (Run.mv rfl) rfl ?_
    refine Ops.r (Run.asg rfl) rfl ?_
    refine Ops.nil ?_
    refine thenQ_n ?_
    refine VC.sub [(2, _)] (.cons rfl .nil) ?_
    refine VC.ret ?_
    refine end1 rfl ?_
    have e : few66 l = l := by unfold few66; rw [List.take_of_length_le (by omega)]
    rw [e]
    exact ⟨rfl, A, c, rfl, hl, hc⟩

theorem ex_a : parseQ [49, 58, 51, 44, 53, 44, 42] = [(1, 3), (5, 5), (0, 0)] ∧ perr [49, 58, 51, 44, 53, 44, 42] = 0 := by decide +kernel
theorem ex_b : parseQ [42, 58, 51] = [(0, 3)] ∧ perr [42, 58, 51] = 0 := by decide +kernel
theorem ex_c : parseQ [48] = [] ∧ perr [48] = 3 := by decide +kernel
theorem ex_d : parseQ [49, 58] = [] ∧ perr [49, 58] = 3 := by decide +kernel
theorem ex_p : placesQ [(1, 3), (5, 5), (0, 0)] 9 = [1, 2, 3, 5, 9] := by
  have h : ∀ x ∈ ([(1, 3), (5, 5), (0, 0)] : List Sp), ¬ BadP 9 x := by decide +kernel
  rw [(placesQ_good h).1]
  refine ssI_ext (nubI_spec _).1 (by decide) (fun x => ((nubI_spec _).2 x).trans ?_)
  exact Iff.rfl
theorem ex_e : errP [(1, 3), (5, 5), (0, 0)] 9 = 0 ∧ errP [(1, 3), (5, 5), (0, 0)] 4 = 4 := by decide +kernel
theorem ex_f : placesQ [(1, 3), (5, 5), (0, 0)] 4 = [] := by decide +kernel
theorem ex_o : ofQ [(0, 3)] [2, 4, 7] = [4, 7] := by decide +kernel

set_option maxRecDepth 100000 in
theorem awake25_spec (w : World) : Calls Tryd.prog 25 #[] w fun e w' => e = .returned (.bool true) ∧ Frm [] w w' := by
  have K := Frm.refl [] w
  refine VC.calls (nt := 81) (res := #[.tmp 0]) Tryd.func25 rfl Tryd.ntmps25 Tryd.results25 rfl ?_
  refine VC.seq ?_
  refine VC.region ?_
  refine Ops.r (Run.asg rfl) rfl ?_
  refine Ops.nil ?_
  refine thenQ_n ?_
  refine VC.sub [] .nil ?_
  refine VC.seq ?_
  refine VC.region ?_
  refine Ops.cl (Enters.fn (evs.cons rfl evs.nil) Tryd.call28) (parse_spec [49, 58, 51, 44, 53, 44, 42] _ (by decide)) rfl ?_
  rintro e w1 ⟨hf_w1, A1, q1, rfl, hO1, _⟩
  rw [(ex_a).1] at hO1 ⊢
  rw [(ex_a).2]
  refine ⟨_, rfl, ?_⟩
  have K := Frm.trans K hf_w1 (by simp)
  refine Ops.r (Run.mv rfl) rfl ?_
  refine Ops.r (Run.extract rfl rfl) rfl ?_
  refine Ops.r (Run.extract rfl rfl) rfl ?_
  refine Ops.r (Run.asg rfl) rfl ?_
  refine Ops.r (Run.asg rfl) rfl ?_
  refine Ops.nil ?_
  refine thenQ_n ?_
  refine VC.sub [(1, _), (2, _)] (.cons rfl (.cons rfl .nil)) ?_
  refine VC.seq ?_
  refine VC.region ?_
  refine Ops.r (Run.mv rfl) rfl ?_
  refine Ops.cl (Enters.fn (evs.cons rfl (evs.cons rfl evs.nil)) Tryd.call27) (places_spec A1 q1 [(1, 3), (5, 5), (0, 0)] 9 _ hO1.rd (by decide) (by decide)) rfl ?_
  rintro e w2 ⟨hf_w2, A2, q2, rfl, hO2, _⟩
  rw [ex_p] at hO2 ⊢
  rw [ex_e.1]
  refine ⟨_, rfl, ?_⟩
  have hO1 := hO1.frm hf_w2 (by simp)
  have K := Frm.trans K hf_w2 (by simp)
  refine Ops.r (Run.mv rfl) rfl ?_
  refine Ops.r (Run.extract rfl rfl) rfl ?_
  refine Ops.r (Run.extract rfl rfl) rfl ?_
  refine Ops.r (Run.asg rfl) rfl ?_
  refine Ops.r (Run.asg rfl) rfl ?_
  refine Ops.nil ?_
  refine thenQ_n ?_
  refine VC.sub [(1, _), (2, _), (3, _), (4, _)] (.cons rfl (.cons rfl (.cons rfl (.cons rfl .nil)))) ?_
  refine VC.seq ?_
  refine VC.region ?_
  refine Ops.r (Run.mv rfl) rfl ?_
  refine Ops.cl (Enters.fn (evs.cons rfl (evs.cons rfl evs.nil)) Tryd.call27) (places_spec A1 q1 [(1, 3), (5, 5), (0, 0)] 4 _ hO1.rd (by decide) (by decide)) rfl ?_
  rintro e w3 ⟨hf_w3, A3, q3, rfl, hO3, _⟩
  rw [ex_f] at hO3 ⊢
  rw [ex_e.2]
  refine ⟨_, rfl, ?_⟩
  have hO1 := hO1.frm hf_w3 (by simp)
  have hO2 := hO2.frm hf_w3 (by simp)
  have K := Frm.trans K hf_w3 (by simp)
  refine Ops.r (Run.mv rfl) rfl ?_
  refine Ops.r (Run.extract rfl rfl) rfl ?_
  refine Ops.r (Run.extract rfl rfl) rfl ?_
  refine Ops.r (Run.asg rfl) rfl ?_
  refine Ops.r (Run.asg rfl) rfl ?_
  refine Ops.nil ?_
  refine thenQ_n ?_
  refine VC.sub [(1, _), (2, _), (3, _), (4, _), (6, _)] (.cons rfl (.cons rfl (.cons rfl (.cons rfl (.cons rfl .nil))))) ?_
  refine VC.seq ?_
  refine VC.region ?_
  refine Ops.cl (Enters.fn (evs.cons rfl evs.nil) Tryd.call28) (parse_spec [42, 58, 51] _ (by decide)) rfl ?_
  rintro e w4 ⟨hf_w4, A4, q4, rfl, hO4, _⟩
  rw [(ex_b).1] at hO4 ⊢
  rw [(ex_b).2]
  refine ⟨_, rfl, ?_⟩
  have hO1 := hO1.frm hf_w4 (by simp)
  have hO2 := hO2.frm hf_w4 (by simp)
  have K := Frm.trans K hf_w4 (by simp)
  refine Ops.r (Run.mv rfl) rfl ?_
  refine Ops.r (Run.extract rfl rfl) rfl ?_
  refine Ops.r (Run.extract rfl rfl) rfl ?_
  refine Ops.r (Run.asg rfl) rfl ?_
  refine Ops.r (Run.asg rfl) rfl ?_
  refine Ops.nil ?_
  refine thenQ_n ?_
  refine VC.sub [(1, _), (2, _), (3, _), (4, _), (6, _), (7, _), (8, _)] (.cons rfl (.cons rfl (.cons rfl (.cons rfl (.cons rfl (.cons rfl (.cons rfl .nil))))))) ?_
  refine VC.seq ?_
  refine VC.region ?_
  refine Ops.cl (Enters.fn (evs.cons rfl evs.nil) Tryd.call28) (parse_spec [48] _ (by decide)) rfl ?_
  rintro e w5 ⟨hf_w5, A5, q5, rfl, hO5, _⟩
  rw [(ex_c).1] at hO5 ⊢
  rw [(ex_c).2]
  refine ⟨_, rfl, ?_⟩
  have hO1 := hO1.frm hf_w5 (by simp)
  have hO2 := hO2.frm hf_w5 (by simp)
  have hO4 := hO4.frm hf_w5 (by simp)
  have K := Frm.trans K hf_w5 (by simp)
  refine Ops.r (Run.mv rfl) rfl ?_
  refine Ops.r (Run.extract rfl rfl) rfl ?_
  refine Ops.r (Run.extract rfl rfl) rfl ?_
  refine Ops.r (Run.asg rfl) rfl ?_
  refine Ops.r (Run.asg rfl) rfl ?_
  refine Ops.nil ?_
  refine thenQ_n ?_
  refine VC.sub [(1, _), (2, _), (3, _), (4, _), (6, _), (7, _), (8, _), (10, _)] (.cons rfl (.cons rfl (.cons rfl (.cons rfl (.cons rfl (.cons rfl (.cons rfl (.cons rfl .nil)))))))) ?_
  refine VC.seq ?_
  refine VC.region ?_
  refine Ops.cl (Enters.fn (evs.cons rfl evs.nil) Tryd.call28) (parse_spec [49, 58] _ (by decide)) rfl ?_
  rintro e w6 ⟨hf_w6, A6, q6, rfl, hO6, _⟩
  rw [(ex_d).1] at hO6 ⊢
  rw [(ex_d).2]
  refine ⟨_, rfl, ?_⟩
  have hO1 := hO1.frm hf_w6 (by simp)
  have hO2 := hO2.frm hf_w6 (by simp)
  have hO4 := hO4.frm hf_w6 (by simp)
  have K := Frm.trans K hf_w6 (by simp)
  refine Ops.r (Run.mv rfl) rfl ?_
  refine Ops.r (Run.extract rfl rfl) rfl ?_
  refine Ops.r (Run.extract rfl rfl) rfl ?_
  refine Ops.r (Run.asg rfl) rfl ?_
  refine Ops.r (Run.asg rfl) rfl ?_
  refine Ops.nil ?_
  refine thenQ_n ?_
  refine VC.sub [(1, _), (2, _), (3, _), (4, _), (6, _), (7, _), (8, _), (10, _), (12, _)] (.cons rfl (.cons rfl (.cons rfl (.cons rfl (.cons rfl (.cons rfl (.cons rfl (.cons rfl (.cons rfl .nil))))))))) ?_
  refine VC.seq ?_
  refine VC.region ?_
  refine Ops.r (Run.mv rfl) rfl ?_
  refine Ops.r (Run.build (evs.cons rfl (evs.cons rfl evs.nil)) zero46 (places46).choose_spec.1 (places46).choose_spec.2 rfl) rfl ?_
  refine Ops.r (Run.build (evs.cons rfl (evs.cons rfl evs.nil)) zero46 (places46).choose_spec.1 (places46).choose_spec.2 rfl) rfl ?_
  refine Ops.r (Run.build evs.nil zero46 (places46).choose_spec.1 (places46).choose_spec.2 rfl) rfl ?_
  refine Ops.m (Does.buildN (cells := (SC [(1, 3), (5, 5), (0, 0)]).toArray) (evs.cons rfl (evs.cons rfl (evs.cons rfl evs.nil))) Tryd.underlying37 Tryd.sizeOf46 zero46 rfl rfl (by kernel_rfl)) rfl ?_
  rintro _ w7 ⟨rfl, hF_w7⟩
  have hO1 := hO1.frm hF_w7.frm (by simp)
  have hO2 := hO2.frm hF_w7.frm (by simp)
  have hO4 := hO4.frm hF_w7.frm (by simp)
  have K := Frm.trans K hF_w7.frm (by simp)
  have hr7 : Rd w7 2 (some ⟨_, 0, none⟩) 3 (SC [(1, 3), (5, 5), (0, 0)]) := Rd.of_blk (n := 3) (size := 2) hF_w7.blk rfl
  refine Ops.cl (Enters.fn (evs.cons rfl (evs.cons rfl evs.nil)) Tryd.call31) (spans25_spec A1 _ q1 3 [(1, 3), (5, 5), (0, 0)] [(1, 3), (5, 5), (0, 0)] _ hO1.rd hr7 (by decide) (by decide)) rfl ?_
  rintro e w8 ⟨rfl, hf_w8⟩
  rw [decide_eq_true rfl]
  refine ⟨_, rfl, ?_⟩
  have hO1 := hO1.frm hf_w8 (by simp)
  have hO2 := hO2.frm hf_w8 (by simp)
  have hO4 := hO4.frm hf_w8 (by simp)
  have K := Frm.trans K hf_w8 (by simp)
  refine Ops.r (Run.mv rfl) rfl ?_
  refine Ops.rg rfl (by first | rfl | assumption | exact decide_eq_true (by assumption) | exact decide_eq_false (by assumption) | decide | (simp; done) | (simp; omega) | (simp [*]; done)) (Run.mv rfl) rfl ?_
  refine Ops.rg rfl (by first | rfl | assumption | exact decide_eq_true (by assumption) | exact decide_eq_false (by assumption) | decide | (simp; done) | (simp; omega) | (simp [*]; done)) (Run.bin rfl rfl (Bin.eqlN _ 0)) rfl ?_
  refine Ops.r (Run.pickT rfl rfl (by first | rfl | assumption | exact decide_eq_true (by assumption) | exact decide_eq_false (by assumption) | decide | (simp; done) | (simp; omega) | (simp [*]; done))) rfl ?_
  refine Ops.r (Run.mv rfl) rfl ?_
  refine Ops.rg rfl (by first | rfl | assumption | exact decide_eq_true (by assumption) | exact decide_eq_false (by assumption) | decide | (simp; done) | (simp; omega) | (simp [*]; done)) (Run.mv rfl) rfl ?_
  refine Ops.mg rfl (by first | rfl | assumption | exact decide_eq_true (by assumption) | exact decide_eq_false (by assumption) | decide | (simp; done) | (simp; omega) | (simp [*]; done)) (Does.buildN (cells := (IB [1, 2, 3, 5, 9]).toArray) (evs.cons rfl (evs.cons rfl (evs.cons rfl (evs.cons rfl (evs.cons rfl evs.nil))))) Tryd.underlying38 Tryd.sizeOf3 zero3 rfl rfl (by kernel_rfl)) rfl ?_
  rintro _ w9 ⟨rfl, hF_w9⟩
  have hO1 := hO1.frm hF_w9.frm (by simp)
  have hO2 := hO2.frm hF_w9.frm (by simp)
  have hO4 := hO4.frm hF_w9.frm (by simp)
  have K := Frm.trans K hF_w9.frm (by simp)
  have hr9 : Rd w9 1 (some ⟨_, 0, none⟩) 5 (IB [1, 2, 3, 5, 9]) := Rd.of_blk (n := 5) (size := 1) hF_w9.blk rfl
  refine Ops.clg rfl (by first | rfl | assumption | exact decide_eq_true (by assumption) | exact decide_eq_false (by assumption) | decide | (simp; done) | (simp; omega) | (simp [*]; done)) (Enters.fn (evs.cons rfl (evs.cons rfl evs.nil)) Tryd.call22) (same25_spec A2 _ q2 5 [1, 2, 3, 5, 9] [1, 2, 3, 5, 9] _ hO2.rd hr9 (by decide) (by decide)) rfl ?_
  rintro e w10 ⟨rfl, hf_w10⟩
  rw [decide_eq_true rfl]
  refine ⟨_, rfl, ?_⟩
  have hO1 := hO1.frm hf_w10 (by simp)
  have hO2 := hO2.frm hf_w10 (by simp)
  have hO4 := hO4.frm hf_w10 (by simp)
  have K := Frm.trans K hf_w10 (by simp)
  refine Ops.r (Run.pickT rfl rfl (by first | rfl | assumption | exact decide_eq_true (by assumption) | exact decide_eq_false (by assumption) | decide | (simp; done) | (simp; omega) | (simp [*]; done))) rfl ?_
  refine Ops.r (Run.mv rfl) rfl ?_
  refine Ops.rg rfl (by first | rfl | assumption | exact decide_eq_true (by assumption) | exact decide_eq_false (by assumption) | decide | (simp; done) | (simp; omega) | (simp [*]; done)) (Run.mv rfl) rfl ?_
  refine Ops.rg rfl (by first | rfl | assumption | exact decide_eq_true (by assumption) | exact decide_eq_false (by assumption) | decide | (simp; done) | (simp; omega) | (simp [*]; done)) (Run.bin rfl rfl (Bin.eqlN _ 0)) rfl ?_
  refine Ops.r (Run.pickT rfl rfl (by first | rfl | assumption | exact decide_eq_true (by assumption) | exact decide_eq_false (by assumption) | decide | (simp; done) | (simp; omega) | (simp [*]; done))) rfl ?_
  refine Ops.r (Run.mv rfl) rfl ?_
  refine Ops.rg rfl (by first | rfl | assumption | exact decide_eq_true (by assumption) | exact decide_eq_false (by assumption) | decide | (simp; done) | (simp; omega) | (simp [*]; done)) (Run.mv rfl) rfl ?_
  refine Ops.rg rfl (by first | rfl | assumption | exact decide_eq_true (by assumption) | exact decide_eq_false (by assumption) | decide | (simp; done) | (simp; omega) | (simp [*]; done)) (Run.bin rfl rfl (Bin.eqlN _ 4)) rfl ?_
  refine Ops.r (Run.pickT rfl rfl (by first | rfl | assumption | exact decide_eq_true (by assumption) | exact decide_eq_false (by assumption) | decide | (simp; done) | (simp; omega) | (simp [*]; done))) rfl ?_
  refine Ops.r (Run.mv rfl) rfl ?_
  refine Ops.rg rfl (by first | rfl | assumption | exact decide_eq_true (by assumption) | exact decide_eq_false (by assumption) | decide | (simp; done) | (simp; omega) | (simp [*]; done)) (Run.mv rfl) rfl ?_
  refine Ops.rg rfl (by first | rfl | assumption | exact decide_eq_true (by assumption) | exact decide_eq_false (by assumption) | decide | (simp; done) | (simp; omega) | (simp [*]; done)) (Run.bin rfl rfl (Bin.eqlN _ 0)) rfl ?_
  refine Ops.r (Run.pickT rfl rfl (by first | rfl | assumption | exact decide_eq_true (by assumption) | exact decide_eq_false (by assumption) | decide | (simp; done) | (simp; omega) | (simp [*]; done))) rfl ?_
  refine Ops.r (Run.mv rfl) rfl ?_
  refine Ops.rg rfl (by first | rfl | assumption | exact decide_eq_true (by assumption) | exact decide_eq_false (by assumption) | decide | (simp; done) | (simp; omega) | (simp [*]; done)) (Run.mv rfl) rfl ?_
  refine Ops.mg rfl (by first | rfl | assumption | exact decide_eq_true (by assumption) | exact decide_eq_false (by assumption) | decide | (simp; done) | (simp; omega) | (simp [*]; done)) (Does.buildN (cells := (IB [2, 4, 7]).toArray) (evs.cons rfl (evs.cons rfl (evs.cons rfl evs.nil))) Tryd.underlying38 Tryd.sizeOf3 zero3 rfl rfl (by kernel_rfl)) rfl ?_
  rintro _ w11 ⟨rfl, hF_w11⟩
  have hO1 := hO1.frm hF_w11.frm (by simp)
  have hO2 := hO2.frm hF_w11.frm (by simp)
  have hO4 := hO4.frm hF_w11.frm (by simp)
  have K := Frm.trans K hF_w11.frm (by simp)
  have hr11 : Rd w11 1 (some ⟨_, 0, none⟩) 3 (IB [2, 4, 7]) := Rd.of_blk (n := 3) (size := 1) hF_w11.blk rfl
  refine Ops.clg rfl (by first | rfl | assumption | exact decide_eq_true (by assumption) | exact decide_eq_false (by assumption) | decide | (simp; done) | (simp; omega) | (simp [*]; done)) (Enters.fn (evs.cons rfl (evs.cons rfl evs.nil)) Tryd.call23) (of_spec A4 _ q4 3 [(0, 3)] [2, 4, 7] _ hO4.rd (by decide) hr11 (by decide)) rfl ?_
  rintro e w12 ⟨hf_w12, A7, q7, rfl, hO7, _⟩
  rw [ex_o] at hO7 ⊢
  refine ⟨_, rfl, ?_⟩
  have hO1 := hO1.frm hf_w12 (by simp)
  have hO2 := hO2.frm hf_w12 (by simp)
  have hO4 := hO4.frm hf_w12 (by simp)
  have K := Frm.trans K hf_w12 (by simp)
  refine Ops.mg rfl (by first | rfl | assumption | exact decide_eq_true (by assumption) | exact decide_eq_false (by assumption) | decide | (simp; done) | (simp; omega) | (simp [*]; done)) (Does.buildN (cells := (IB [4, 7]).toArray) (evs.cons rfl (evs.cons rfl evs.nil)) Tryd.underlying38 Tryd.sizeOf3 zero3 rfl rfl (by kernel_rfl)) rfl ?_
  rintro _ w13 ⟨rfl, hF_w13⟩
  have hO1 := hO1.frm hF_w13.frm (by simp)
  have hO2 := hO2.frm hF_w13.frm (by simp)
  have hO4 := hO4.frm hF_w13.frm (by simp)
  have hO7 := hO7.frm hF_w13.frm (by simp)
  have K := Frm.trans K hF_w13.frm (by simp)
  have hr13 : Rd w13 1 (some ⟨_, 0, none⟩) 2 (IB [4, 7]) := Rd.of_blk (n := 2) (size := 1) hF_w13.blk rfl
  refine Ops.clg rfl (by first | rfl | assumption | exact decide_eq_true (by assumption) | exact decide_eq_false (by assumption) | decide | (simp; done) | (simp; omega) | (simp [*]; done)) (Enters.fn (evs.cons rfl (evs.cons rfl evs.nil)) Tryd.call22) (same25_spec A7 _ q7 2 [4, 7] [4, 7] _ hO7.rd hr13 (by decide) (by decide)) rfl ?_
  rintro e w14 ⟨rfl, hf_w14⟩
  rw [decide_eq_true rfl]
  refine ⟨_, rfl, ?_⟩
  have hO1 := hO1.frm hf_w14 (by simp)
  have hO2 := hO2.frm hf_w14 (by simp)
  have hO4 := hO4.frm hf_w14 (by simp)
  have hO7 := hO7.frm hf_w14 (by simp)
  have K := Frm.trans K hf_w14 (by simp)
  refine Ops.r (Run.pickT rfl rfl (by first | rfl | assumption | exact decide_eq_true (by assumption) | exact decide_eq_false (by assumption) | decide | (simp; done) | (simp; omega) | (simp [*]; done))) rfl ?_
  refine Ops.r (Run.mv rfl) rfl ?_
  refine Ops.rg rfl (by first | rfl | assumption | exact decide_eq_true (by assumption) | exact decide_eq_false (by assumption) | decide | (simp; done) | (simp; omega) | (simp [*]; done)) (Run.mv rfl) rfl ?_
  refine Ops.rg rfl (by first | rfl | assumption | exact decide_eq_true (by assumption) | exact decide_eq_false (by assumption) | decide | (simp; done) | (simp; omega) | (simp [*]; done)) (Run.bin rfl rfl (Bin.eqlN _ 3)) rfl ?_
  refine Ops.r (Run.pickT rfl rfl (by first | rfl | assumption | exact decide_eq_true (by assumption) | exact decide_eq_false (by assumption) | decide | (simp; done) | (simp; omega) | (simp [*]; done))) rfl ?_
  refine Ops.r (Run.mv rfl) rfl ?_
  refine Ops.rg rfl (by first | rfl | assumption | exact decide_eq_true (by assumption) | exact decide_eq_false (by assumption) | decide | (simp; done) | (simp; omega) | (simp [*]; done)) (Run.mv rfl) rfl ?_
  refine Ops.rg rfl (by first | rfl | assumption | exact decide_eq_true (by assumption) | exact decide_eq_false (by assumption) | decide | (simp; done) | (simp; omega) | (simp [*]; done)) (Run.bin rfl rfl (Bin.eqlN _ 3)) rfl ?_
  refine Ops.r (Run.pickT rfl rfl (by first | rfl | assumption | exact decide_eq_true (by assumption) | exact decide_eq_false (by assumption) | decide | (simp; done) | (simp; omega) | (simp [*]; done))) rfl ?_
  refine Ops.r (Run.asg rfl) rfl ?_
  refine Ops.nil ?_
  refine thenQ_n ?_
  refine VC.sub [(0, _)] (.cons rfl .nil) ?_
  refine VC.ret ?_
  refine end1 rfl ?_
  exact ⟨rfl, K⟩

end Go.Proofs.YtnllhddbgkeboaaDoor
