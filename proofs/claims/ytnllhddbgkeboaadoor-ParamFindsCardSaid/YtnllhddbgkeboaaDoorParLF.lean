/-
  'ParamFinds': the value of any name in any media, and whether two are the same, is the document's.
-/
import Derived.Test.YtnllhddbgkeboaaDoorParLR
namespace Go.Proofs.YtnllhddbgkeboaaDoor
open Go.RowKit Go.Sort

section
open Go.ChangeShapes Go.WideShapes Go.Deep
theorem pars_open {H : Type} {enc : TypeId × Value → H} {w : World} {base : Nat} {spare : Nat → Bool} {held : Bool} {fuel len cap : Nat} {a : Option Addr} {x : DataW H × List MemPlace}
    (h : DataW.trod enc Tryd.prog w base spare held fuel 24 [.slice a len cap] = some x) : ∃ l : List Par, l.length = len ∧ len ≤ cap ∧ Rd w 2 a len (PC l) := by
  obtain ⟨ls, hll, hlc, hcm, hrd, hels⟩ := rd_structs Tryd.underlying24 Tryd.underlying36 (by kernel_rfl) (by kernel_rfl) (by decide) h
  have key : ∀ q ∈ ls, ∃ s : Par, q = PC1 s := by
    intro q hq
    obtain ⟨hq2, hf⟩ := hels q hq
    have hq2 : q.length = 2 := hq2
    obtain ⟨v0, y0, n0, hv0, ht0⟩ := hf 0 _ rfl
    obtain ⟨v1, y1, n1, hv1, ht1⟩ := hf 1 _ rfl
    obtain ⟨z0, e0, _⟩ := str_form Tryd.underlying9 ht0
    obtain ⟨z1, e1, _⟩ := str_form Tryd.underlying9 ht1
    match q, hq2, hv0, hv1 with
    | [a0, a1], _, hv0, hv1 =>
      simp only [List.getElem?_cons_zero, Option.some.injEq, List.getElem?_cons_succ] at hv0 hv1
      subst hv0 hv1
      cases e0
      cases e1
      exact ⟨(z0, z1), rfl⟩
  have hex : ∃ l : List Par, l.map PC1 = ls := by
    clear hrd hll hels
    induction ls with
    | nil => exact ⟨[], rfl⟩
    | cons q r ih =>
      obtain ⟨s, hs⟩ := key q (by simp)
      obtain ⟨l, hl⟩ := ih (fun x hx => key x (by simp [hx]))
      exact ⟨s :: l, by simp [hs, hl]⟩
  obtain ⟨l, rfl⟩ := hex
  refine ⟨l, by simpa using hll, hlc, ?_⟩
  have e : PC l = (l.map PC1).flatMap id := by rw [List.flatMap_map]; rfl
  rw [e]
  exact hrd
theorem pars_form {H : Type} {enc : TypeId × Value → H} {w : World} {base : Nat} {spare : Nat → Bool} {held : Bool} {n : Nat} {cs : List Value} {x : DataW H × List MemPlace} (h : DataW.trod enc Tryd.prog w base spare held n 24 cs = some x) :
    ∃ (A : Option Addr) (c : Nat) (l : List Par), cs = [.slice A l.length c] ∧ l.length ≤ c ∧ Rd w 2 A l.length (PC l) := by
  obtain ⟨A, len, c, rfl⟩ := slice_form Tryd.underlying24 h
  obtain ⟨l, rfl, h1, h3⟩ := pars_open h
  exact ⟨A, c, l, rfl, h1, h3⟩

set_option maxRecDepth 100000 in
theorem media_form {H : Type} {enc : TypeId × Value → H} {w : World} {base : Nat} {spare : Nat → Bool} {held : Bool} {n : Nat} {cs : List Value} {x : DataW H × List MemPlace} (h : DataW.trod enc Tryd.prog w base spare held n 26 cs = some x) :
    ∃ (ty : Tx) (sub : Tx) (A : Option Addr) (c : Nat) (l : List Par), cs = ([encStr ty] ++ ([encStr sub] ++ ([.slice A l.length c] ++ [] : List Value) : List Value) : List Value) ∧ (ty.length ≤ 9223372036854775807) ∧ (sub.length ≤ 9223372036854775807) ∧ (l.length ≤ c ∧ Rd w 2 A l.length (PC l)) := by
  obtain ⟨hlen, n', hf⟩ := open_field Tryd.underlying26 h
  have hl : cs.length = 3 := hlen.trans (by kernel_rfl)
  obtain ⟨a0, a1, a2, rfl⟩ : ∃ a0 a1 a2, cs = [a0, a1, a2] := by
    match cs, hl with
    | [a0, a1, a2], _ => exact ⟨a0, a1, a2, rfl⟩
  clear h hlen hl
  obtain ⟨y0, h0⟩ := hf 0 _ rfl
  have h0 : DataW.trod enc Tryd.prog w base spare held n' 9 ([a0, a1, a2].take (Tryd.prog.cellsOf 9)) = some y0 := h0
  rw [show Tryd.prog.cellsOf 9 = 1 by kernel_rfl] at h0
  have h0 : DataW.trod enc Tryd.prog w base spare held n' 9 [a0] = some y0 := h0
  obtain ⟨ty, e0, q0⟩ := str_form Tryd.underlying9 h0
  obtain ⟨y1, h1⟩ := hf 1 _ rfl
  have h1 : DataW.trod enc Tryd.prog w base spare held n' 9 ([a1, a2].take (Tryd.prog.cellsOf 9)) = some y1 := h1
  rw [show Tryd.prog.cellsOf 9 = 1 by kernel_rfl] at h1
  have h1 : DataW.trod enc Tryd.prog w base spare held n' 9 [a1] = some y1 := h1
  obtain ⟨sub, e1, q1⟩ := str_form Tryd.underlying9 h1
  obtain ⟨y2, h2⟩ := hf 2 _ rfl
  have h2 : DataW.trod enc Tryd.prog w base spare held n' 24 ([a2].take (Tryd.prog.cellsOf 24)) = some y2 := h2
  rw [show Tryd.prog.cellsOf 24 = 1 by kernel_rfl] at h2
  have h2 : DataW.trod enc Tryd.prog w base spare held n' 24 [a2] = some y2 := h2
  obtain ⟨A, c, l, e2, q2⟩ := pars_form h2
  refine ⟨ty, sub, A, c, l, ?_, q0, q1, q2⟩
  show ([a0] ++ ([a1] ++ ([a2] ++ [] : List Value) : List Value) : List Value) = _
  rw [e0, e1, e2]
  try rfl

end
def cut60 (m : Med) : Med := ⟨m.ty, m.sub, m.ps.take 60⟩
theorem cut60_le (m : Med) : (cut60 m).ps.length ≤ 60 := by unfold cut60; simp; omega
theorem PC_take (l : List Par) (k : Nat) : PC (l.take k) = (PC l).take (k * 2) := by
  induction l generalizing k with
  | nil => simp [PC]
  | cons a l ih =>
    cases k with
    | zero => simp [PC]
    | succ k =>
      rw [List.take_succ_cons, show PC (a :: l) = PC1 a ++ PC l from rfl, show PC (a :: l.take k) = PC1 a ++ PC (l.take k) from rfl, ih, List.take_append, PC1_len, (List.take_of_length_le (by rw [PC1_len]; omega) : (PC1 a).take ((k + 1) * 2) = PC1 a), show (k + 1) * 2 - 2 = k * 2 by omega]
theorem PC_cut {w : World} {A : Option Addr} {c : Nat} {l : List Par} (h : Rd w 2 A l.length (PC l)) (k : Nat) (hk : k ≤ l.length) (hc : l.length ≤ c) : Rd w 2 (cutA A c 0 2) (l.take k).length (PC (l.take k)) := by
  have e := h.cut (l := 0) (r := k) (cap := c) (by omega) hk hc
  have e1 : (l.take k).length = k - 0 := by simp; omega
  have e2 : PC (l.take k) = ((PC l).drop (0 * 2)).take ((k - 0) * 2) := by rw [PC_take]; simp
  rw [e1, e2]
  exact e

set_option maxRecDepth 100000 in
theorem finds_walk (m k : Med) (A B : Option Addr) (c d : Nat) (n : Tx) (w : World) (hmc : m.ps.length ≤ c) (hkd : k.ps.length ≤ d) (hl0 : Rd w 2 A m.ps.length (PC m.ps)) (hk0 : Rd w 2 B k.ps.length (PC k.ps)) :
    Calls Tryd.prog 5 #[.agg (MdC m A c), .agg (MdC k B d), encStr n] w fun e w' => e = .returned (.bool true) ∧ Frm [] w w' := by
  refine VC.calls (nt := 64) (res := #[.tmp 6]) Tryd.func5 rfl Tryd.ntmps5 Tryd.results5 rfl ?_
  refine VC.seq ?_
  refine VC.region ?_
  refine Ops.m (Does.box rfl) rfl ?_
  rintro _ w1 ⟨rfl, hF3⟩
  have hb3 : Blk w1 w.heap.size 26 (MdC m A c) := hF3.blk
  have hf3 := hF3.frm
  
  generalize hg3 : w.heap.size = g3 at hb3 ⊢
  have l3 := hb3.lt
  refine Ops.m (Does.box rfl) rfl ?_
  rintro _ w2 ⟨rfl, hF4⟩
  have hb4 : Blk w2 w1.heap.size 26 (MdC k B d) := hF4.blk
  have hf4 := hF4.frm
  have hb3 := hb3.frm hf4 (by simp)
  have K := hf3.trans hf4 (by simp)
  generalize hg4 : w1.heap.size = g4 at hb4 l3 ⊢
  refine Ops.r (Run.asg rfl) rfl ?_
  refine Ops.nil ?_
  refine thenQ_n ?_
  refine VC.sub [(2, _), (3, _), (4, _)] (.cons rfl (.cons rfl (.cons rfl .nil))) ?_
  refine VC.seq ?_
  refine VC.seq ?_
  refine VC.region ?_
  refine Ops.r (Run.fieldAddr rfl Tryd.underlying26 rfl Tryd.sizeOf24 (by decide)) rfl ?_
  refine Ops.r (Run.load rfl Tryd.isAgg24 (hb3.cell 2)) rfl ?_
  refine Ops.r (Run.lenS rfl Tryd.underlying24) rfl ?_
  refine Ops.r (Run.bin rfl rfl (Bin.gtrN _ 60)) rfl ?_
  refine Ops.nil ?_
  refine thenQ_n ?_
  refine VC.sub [(2, _), (3, _), (4, _), (14, _)] (.cons rfl (.cons rfl (.cons rfl (.cons rfl .nil)))) ?_
  refine VC.meet (σ := Option Addr × Nat) (fun s => [(2, encStr n), (3, .pointer (some ⟨g3, 0, none⟩)), (4, .pointer (some ⟨g4, 0, none⟩))]) (fun s wr => Frm [] w wr ∧ Blk wr g3 26 (MdC (cut60 m) s.1 s.2) ∧ Blk wr g4 26 (MdC k B d) ∧ Rd w 2 s.1 (cut60 m).ps.length (PC (cut60 m).ps)) ?_ ?_
  · skip
    refine VC.condD rfl (fun hc1 => ?_) (fun hc1 => ?_)
    · skip
      refine VC.region ?_
      refine Ops.r (Run.fieldAddr rfl Tryd.underlying26 rfl Tryd.sizeOf24 (by decide)) rfl ?_
      refine Ops.r (Run.load rfl Tryd.isAgg24 (hb3.cell 2)) rfl ?_
      refine Ops.r (Run.sliceS 0 60 rfl Tryd.underlying24 Tryd.sizeOf36 evB.none_ (evB.some_ rfl) (by omega) (by omega)) rfl ?_
      refine Ops.r (Run.fieldAddr rfl Tryd.underlying26 rfl Tryd.sizeOf24 (by decide)) rfl ?_
      refine Ops.st (Acts.store rfl rfl Tryd.sizeOf24 hb3 rfl rfl) ?_
      rintro w3 ⟨hbn, hfw3, _⟩
      refine Ops.nil ?_
      refine thenQ_n ⟨(cutA A c 0 2, c - 0), (.cons rfl (.cons rfl (.cons rfl .nil))), ?_⟩
      refine ⟨Frm.own K hfw3 (fun y hy => by simp at hy; omega), ?_, hb4.frm hfw3 (by simp; omega), ?_⟩
      · unfold MdC cut60
        rw [show (m.ps.take 60).length = 60 - 0 by simp; omega]
        exact hbn
      · exact PC_cut hl0 60 (by omega) hmc
    · skip
      refine VC.skip ?_
      refine thenQ_n ⟨(A, c), (.cons rfl (.cons rfl (.cons rfl .nil))), ?_⟩
      have e : cut60 m = m := by unfold cut60; rw [List.take_of_length_le (by omega)]
      rw [e]
      exact ⟨K, hb3, hb4, hl0⟩
  · skip
    rintro ⟨A, c⟩ w4 ⟨K, hb3, hb4, hl0⟩ Γ hΓ
    dsimp only at hb3 hl0
    have hm1 := cut60_le m
    generalize cut60 m = m1 at *
    refine thenQ_n (VC.sub _ hΓ ?_)
    refine VC.seq ?_
    refine VC.seq ?_
    refine VC.region ?_
    refine Ops.r (Run.fieldAddr rfl Tryd.underlying26 rfl Tryd.sizeOf24 (by decide)) rfl ?_
    refine Ops.r (Run.load rfl Tryd.isAgg24 (hb4.cell 2)) rfl ?_
    refine Ops.r (Run.lenS rfl Tryd.underlying24) rfl ?_
    refine Ops.r (Run.bin rfl rfl (Bin.gtrN _ 60)) rfl ?_
    refine Ops.nil ?_
    refine thenQ_n ?_
    refine VC.sub [(2, _), (3, _), (4, _), (22, _)] (.cons rfl (.cons rfl (.cons rfl (.cons rfl .nil)))) ?_
    refine VC.meet (σ := Option Addr × Nat) (fun s => [(2, encStr n), (3, .pointer (some ⟨g3, 0, none⟩)), (4, .pointer (some ⟨g4, 0, none⟩))]) (fun s wr => Frm [] w wr ∧ Blk wr g4 26 (MdC (cut60 k) s.1 s.2) ∧ Blk wr g3 26 (MdC m1 A c) ∧ Rd w 2 s.1 (cut60 k).ps.length (PC (cut60 k).ps)) ?_ ?_
    · skip
      refine VC.condD rfl (fun hc2 => ?_) (fun hc2 => ?_)
      · skip
        refine VC.region ?_
        refine Ops.r (Run.fieldAddr rfl Tryd.underlying26 rfl Tryd.sizeOf24 (by decide)) rfl ?_
        refine Ops.r (Run.load rfl Tryd.isAgg24 (hb4.cell 2)) rfl ?_
        refine Ops.r (Run.sliceS 0 60 rfl Tryd.underlying24 Tryd.sizeOf36 evB.none_ (evB.some_ rfl) (by omega) (by omega)) rfl ?_
        refine Ops.r (Run.fieldAddr rfl Tryd.underlying26 rfl Tryd.sizeOf24 (by decide)) rfl ?_
        refine Ops.st (Acts.store rfl rfl Tryd.sizeOf24 hb4 rfl rfl) ?_
        rintro w5 ⟨hbn, hfw5, _⟩
        refine Ops.nil ?_
        refine thenQ_n ⟨(cutA B d 0 2, d - 0), (.cons rfl (.cons rfl (.cons rfl .nil))), ?_⟩
        refine ⟨Frm.own K hfw5 (fun y hy => by simp at hy; omega), ?_, hb3.frm hfw5 (by simp; omega), ?_⟩
        · unfold MdC cut60
          rw [show (k.ps.take 60).length = 60 - 0 by simp; omega]
          exact hbn
        · exact PC_cut hk0 60 (by omega) hkd
      · skip
        refine VC.skip ?_
        refine thenQ_n ⟨(B, d), (.cons rfl (.cons rfl (.cons rfl .nil))), ?_⟩
        have e : cut60 k = k := by unfold cut60; rw [List.take_of_length_le (by omega)]
        rw [e]
        exact ⟨K, hb4, hb3, hk0⟩
    · skip
      rintro ⟨B, d⟩ w6 ⟨K, hb4, hb3, hk0⟩ Γ hΓ
      dsimp only at hb4 hk0
      have hm2 := cut60_le k
      generalize cut60 k = k1 at *
      refine thenQ_n (VC.sub _ hΓ ?_)
      refine VC.seq ?_
      refine VC.region ?_
      refine Ops.r (Run.loadA rfl Tryd.isAgg26 Tryd.sizeOf26 (fun j v hj => hb3.cells j v hj) (by first | rfl | (simp; done))) rfl ?_
      refine Ops.r (Run.mv rfl) rfl ?_
      refine Ops.cl (Enters.fn (evs.cons rfl (evs.cons rfl evs.nil)) Tryd.call18) (find_spec m1 A c n _ (hl0.frm K (by simp)) (by omega)) rfl ?_
      rintro e w7 ⟨hf_w7, rfl⟩
      refine ⟨_, rfl, ?_⟩
      have hb3 := hb3.frm hf_w7 (by simp)
      have hb4 := hb4.frm hf_w7 (by simp)
      have K := K.trans hf_w7 (by simp)
      refine Ops.r (Run.mv rfl) rfl ?_
      refine Ops.r (Run.extract rfl rfl) rfl ?_
      refine Ops.r (Run.extract rfl rfl) rfl ?_
      refine Ops.r (Run.asg rfl) rfl ?_
      refine Ops.r (Run.asg rfl) rfl ?_
      refine Ops.nil ?_
      refine thenQ_n ?_
      refine VC.sub [(2, _), (3, _), (4, _), (7, _), (8, _)] (.cons rfl (.cons rfl (.cons rfl (.cons rfl (.cons rfl .nil))))) ?_
      refine VC.seq ?_
      refine VC.region ?_
      refine Ops.r (Run.loadA rfl Tryd.isAgg26 Tryd.sizeOf26 (fun j v hj => hb3.cells j v hj) (by first | rfl | (simp; done))) rfl ?_
      refine Ops.r (Run.mv rfl) rfl ?_
      refine Ops.cl (Enters.fn (evs.cons rfl (evs.cons rfl evs.nil)) Tryd.call19) (rfind_spec m1 A c n _ (hl0.frm K (by simp)) (by omega)) rfl ?_
      rintro e w8 ⟨hf_w8, rfl⟩
      refine ⟨_, rfl, ?_⟩
      have hb3 := hb3.frm hf_w8 (by simp)
      have hb4 := hb4.frm hf_w8 (by simp)
      have K := K.trans hf_w8 (by simp)
      refine Ops.r (Run.mv rfl) rfl ?_
      refine Ops.r (Run.extract rfl rfl) rfl ?_
      refine Ops.r (Run.extract rfl rfl) rfl ?_
      refine Ops.r (Run.asg rfl) rfl ?_
      refine Ops.r (Run.asg rfl) rfl ?_
      refine Ops.nil ?_
      refine thenQ_n ?_
      refine VC.sub [(3, _), (4, _), (7, _), (8, _), (9, _), (10, _)] (.cons rfl (.cons rfl (.cons rfl (.cons rfl (.cons rfl (.cons rfl .nil)))))) ?_
      refine VC.seq ?_
      refine VC.held (fun W => Frm [] w8 W) (by kernel_rfl) ?_
      have hS : Frm [] w8 w8.drew := (Frm.refl [] w8).drew
      have K := K.drew
      refine HOps.take 0 rfl (by kernel_rfl) (by kernel_rfl) (by kernel_rfl) hS (fun w0 hw0 => Run.mv rfl) trivial rfl rfl ?_
      refine HOps.take 1 rfl (by kernel_rfl) (by kernel_rfl) (by kernel_rfl) hS (fun w0 hw0 => Run.mv rfl) trivial rfl rfl ?_
      refine HOps.take 2 rfl (by kernel_rfl) (by kernel_rfl) (by kernel_rfl) hS (fun w0 hw0 => Run.eqlT rfl rfl) trivial rfl rfl ?_
      refine HOps.take 3 rfl (by kernel_rfl) (by kernel_rfl) (by kernel_rfl) hS (fun w0 hw0 => Run.mv rfl) trivial rfl rfl ?_
      refine HOps.take 4 rfl (by kernel_rfl) (by kernel_rfl) (by kernel_rfl) hS (fun w0 hw0 => Run.mv rfl) (Up.g rfl (by first | rfl | assumption | exact decide_eq_true (by assumption) | exact decide_eq_false (by assumption) | decide | (simp; done) | (simp; omega) | (simp [*]; done))) rfl rfl ?_
      refine HOps.take 5 rfl (by kernel_rfl) (by kernel_rfl) (by kernel_rfl) hS (fun w0 hw0 => Run.mv rfl) (Up.g rfl (by first | rfl | assumption | exact decide_eq_true (by assumption) | exact decide_eq_false (by assumption) | decide | (simp; done) | (simp; omega) | (simp [*]; done))) rfl rfl ?_
      refine HOps.take 6 rfl (by kernel_rfl) (by kernel_rfl) (by kernel_rfl) hS (fun w0 hw0 => Run.eqlB rfl rfl Tryd.underlying4) (Up.g rfl (by first | rfl | assumption | exact decide_eq_true (by assumption) | exact decide_eq_false (by assumption) | decide | (simp; done) | (simp; omega) | (simp [*]; done))) rfl rfl ?_
      refine HOps.take 7 rfl (by kernel_rfl) (by kernel_rfl) (by kernel_rfl) hS (fun w0 hw0 => Run.pickT rfl rfl (by first | rfl | assumption | exact decide_eq_true (by assumption) | exact decide_eq_false (by assumption) | decide | (simp; done) | (simp; omega) | (simp [*]; done))) trivial rfl rfl ?_
      refine HOps.take 8 rfl (by kernel_rfl) (by kernel_rfl) (by kernel_rfl) hS (fun w0 hw0 => Run.mv rfl) trivial rfl rfl ?_
      refine HOps.take 9 rfl (by kernel_rfl) (by kernel_rfl) (by kernel_rfl) hS (fun w0 hw0 => Run.loadA rfl Tryd.isAgg26 Tryd.sizeOf26 (fun j v hj => (hb3.frm hw0 (by simp)).cells j v hj) (by first | rfl | (simp; done))) (Up.g rfl (by first | rfl | assumption | exact decide_eq_true (by assumption) | exact decide_eq_false (by assumption) | decide | (simp; done) | (simp; omega) | (simp [*]; done))) rfl rfl ?_
      refine HOps.take 10 rfl (by kernel_rfl) (by kernel_rfl) (by kernel_rfl) hS (fun w0 hw0 => Run.loadA rfl Tryd.isAgg26 Tryd.sizeOf26 (fun j v hj => (hb4.frm hw0 (by simp)).cells j v hj) (by first | rfl | (simp; done))) (Up.g rfl (by first | rfl | assumption | exact decide_eq_true (by assumption) | exact decide_eq_false (by assumption) | decide | (simp; done) | (simp; omega) | (simp [*]; done))) rfl rfl ?_
      refine HOps.take 12 rfl (by kernel_rfl) (by kernel_rfl) (by kernel_rfl) hS (fun w0 hw0 => Run.loadA rfl Tryd.isAgg26 Tryd.sizeOf26 (fun j v hj => (hb3.frm hw0 (by simp)).cells j v hj) (by first | rfl | (simp; done))) (Up.g rfl (by first | rfl | assumption | exact decide_eq_true (by assumption) | exact decide_eq_false (by assumption) | decide | (simp; done) | (simp; omega) | (simp [*]; done))) rfl rfl ?_
      refine HOps.take 13 rfl (by kernel_rfl) (by kernel_rfl) (by kernel_rfl) hS (fun w0 hw0 => Run.loadA rfl Tryd.isAgg26 Tryd.sizeOf26 (fun j v hj => (hb4.frm hw0 (by simp)).cells j v hj) (by first | rfl | (simp; done))) (Up.g rfl (by first | rfl | assumption | exact decide_eq_true (by assumption) | exact decide_eq_false (by assumption) | decide | (simp; done) | (simp; omega) | (simp [*]; done))) rfl rfl ?_
      refine HOps.cl 11 rfl (by kernel_rfl) (Enters.fn (evs.cons rfl (evs.cons rfl evs.nil)) Tryd.call20) (same_spec m1 k1 A B c d _ (hl0.frm K (by simp)) (hk0.frm K (by simp)) (by omega) (by omega)) (Up.g rfl (by first | rfl | assumption | exact decide_eq_true (by assumption) | exact decide_eq_false (by assumption) | decide | (simp; done) | (simp; omega) | (simp [*]; done))) rfl rfl ?_
      rintro e v1 ⟨rfl, hf_v1⟩
      have hS := hS.trans hf_v1 (by simp)
      have K := K.trans hf_v1 (by simp)
      refine ⟨_, rfl, hS, ?_⟩
      refine HOps.cl 14 rfl (by kernel_rfl) (Enters.fn (evs.cons rfl (evs.cons rfl evs.nil)) Tryd.call12) (rsame_spec m1 k1 A B c d _ (hl0.frm K (by simp)) (hk0.frm K (by simp)) (by omega) (by omega)) (Up.g rfl (by first | rfl | assumption | exact decide_eq_true (by assumption) | exact decide_eq_false (by assumption) | decide | (simp; done) | (simp; omega) | (simp [*]; done))) rfl rfl ?_
      rintro e v2 ⟨rfl, hf_v2⟩
      have hS := hS.trans hf_v2 (by simp)
      have K := K.trans hf_v2 (by simp)
      refine ⟨_, rfl, hS, ?_⟩
      refine HOps.take 15 rfl (by kernel_rfl) (by kernel_rfl) (by kernel_rfl) hS (fun w0 hw0 => Run.eqlB rfl rfl Tryd.underlying4) (Up.g rfl (by first | rfl | assumption | exact decide_eq_true (by assumption) | exact decide_eq_false (by assumption) | decide | (simp; done) | (simp; omega) | (simp [*]; done))) rfl rfl ?_
      refine HOps.take 16 rfl (by kernel_rfl) (by kernel_rfl) (by kernel_rfl) hS (fun w0 hw0 => Run.pickT rfl rfl (by first | rfl | assumption | exact decide_eq_true (by assumption) | exact decide_eq_false (by assumption) | decide | (simp; done) | (simp; omega) | (simp [*]; done))) trivial rfl rfl ?_
      refine HOps.take 17 rfl (by kernel_rfl) (by kernel_rfl) (by kernel_rfl) hS (fun w0 hw0 => Run.mv rfl) trivial rfl rfl ?_
      refine HOps.take 18 rfl (by kernel_rfl) (by kernel_rfl) (by kernel_rfl) hS (fun w0 hw0 => Run.loadA rfl Tryd.isAgg26 Tryd.sizeOf26 (fun j v hj => (hb3.frm hw0 (by simp)).cells j v hj) (by first | rfl | (simp; done))) (Up.g rfl (by first | rfl | assumption | exact decide_eq_true (by assumption) | exact decide_eq_false (by assumption) | decide | (simp; done) | (simp; omega) | (simp [*]; done))) rfl rfl ?_
      refine HOps.take 19 rfl (by kernel_rfl) (by kernel_rfl) (by kernel_rfl) hS (fun w0 hw0 => Run.loadA rfl Tryd.isAgg26 Tryd.sizeOf26 (fun j v hj => (hb3.frm hw0 (by simp)).cells j v hj) (by first | rfl | (simp; done))) (Up.g rfl (by first | rfl | assumption | exact decide_eq_true (by assumption) | exact decide_eq_false (by assumption) | decide | (simp; done) | (simp; omega) | (simp [*]; done))) rfl rfl ?_
      refine HOps.cl 20 rfl (by kernel_rfl) (Enters.fn (evs.cons rfl (evs.cons rfl evs.nil)) Tryd.call20) (same_spec m1 m1 A A c c _ (hl0.frm K (by simp)) (hl0.frm K (by simp)) (by omega) (by omega)) (Up.g rfl (by first | rfl | assumption | exact decide_eq_true (by assumption) | exact decide_eq_false (by assumption) | decide | (simp; done) | (simp; omega) | (simp [*]; done))) rfl rfl ?_
      rintro e v3 ⟨rfl, hf_v3⟩
      rw [sameQ_self]
      have hS := hS.trans hf_v3 (by simp)
      have K := K.trans hf_v3 (by simp)
      refine ⟨_, rfl, hS, ?_⟩
      refine HOps.take 21 rfl (by kernel_rfl) (by kernel_rfl) (by kernel_rfl) hS (fun w0 hw0 => Run.pickT rfl rfl (by first | rfl | assumption | exact decide_eq_true (by assumption) | exact decide_eq_false (by assumption) | decide | (simp; done) | (simp; omega) | (simp [*]; done))) trivial rfl rfl ?_
      refine HOps.take 22 rfl (by kernel_rfl) (by kernel_rfl) (by kernel_rfl) hS (fun w0 hw0 => Run.mv rfl) trivial rfl rfl ?_
      refine HOps.cl 23 rfl (by kernel_rfl) (Enters.fn evs.nil Tryd.call17) (awake19_spec _) (Up.g rfl (by first | rfl | assumption | exact decide_eq_true (by assumption) | exact decide_eq_false (by assumption) | decide | (simp; done) | (simp; omega) | (simp [*]; done))) rfl rfl ?_
      rintro e v4 ⟨rfl, hf4⟩
      have hS := hS.trans hf4 (by simp)
      have K := K.trans hf4 (by simp)
      refine ⟨_, rfl, hS, ?_⟩
      refine HOps.take 24 rfl (by kernel_rfl) (by kernel_rfl) (by kernel_rfl) hS (fun w0 hw0 => Run.pickT rfl rfl (by first | rfl | assumption | exact decide_eq_true (by assumption) | exact decide_eq_false (by assumption) | decide | (simp; done) | (simp; omega) | (simp [*]; done))) trivial rfl rfl ?_
      refine HOps.take 25 rfl (by kernel_rfl) (by kernel_rfl) (by kernel_rfl) hS (fun w0 hw0 => Run.asg rfl) trivial rfl rfl ?_
      refine HOps.done (by kernel_rfl) ?_
      refine thenQ_n ?_
      refine VC.sub [(6, _)] (.cons rfl .nil) ?_
      refine VC.ret ?_
      refine end1 rfl ?_
      exact ⟨rfl, K⟩

end Go.Proofs.YtnllhddbgkeboaaDoor
