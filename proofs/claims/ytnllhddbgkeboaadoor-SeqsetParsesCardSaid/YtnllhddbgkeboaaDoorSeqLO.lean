/-
  'SeqsetOf': which of any numbers are named is as the document says.
-/
import Derived.Test.YtnllhddbgkeboaaDoorSeqO
namespace Go.Proofs.YtnllhddbgkeboaaDoor
open Go.RowKit Go.Sort


theorem of_len (l : List Sp) (us : List Int) : (ofQ l us).length ≤ us.length := by
  unfold ofQ
  split
  · exact List.length_filter_le _ _
  · simp
set_option maxRecDepth 100000 in
theorem of_walk (A B : Option Addr) (c d : Nat) (l : List Sp) (us : List Int) (w : World) (hc : l.length ≤ c) (hl : Rd w 2 A l.length (SC l)) (hd : us.length ≤ d) (hu : Rd w 1 B us.length (IB us)) :
    Calls Tryd.prog 7 #[.slice A l.length c, .slice B us.length d] w fun e w' => e = .returned (.bool true) ∧ Frm [] w w' := by
  refine VC.calls (nt := 22) (res := #[.tmp 4]) Tryd.func7 rfl Tryd.ntmps7 Tryd.results7 rfl ?_
  refine VC.seq ?_
  refine VC.region ?_
  refine Ops.r (Run.asg rfl) rfl ?_
  refine Ops.nil ?_
  refine thenQ_n ?_
  refine VC.sub [(0, _), (1, _)] (.cons rfl (.cons rfl .nil)) ?_
  refine VC.seq ?_
  refine VC.region ?_
  refine Ops.r (Run.mv rfl) rfl ?_
  refine Ops.cl (Enters.fn (evs.cons rfl evs.nil) Tryd.call21) (few25_spec A c l _ hc hl) rfl ?_
  rintro e _ ⟨rfl, A1, c1, rfl, hl1, hc1⟩
  refine ⟨_, rfl, ?_⟩
  have hn1 : (few66 l).length ≤ 66 := by unfold few66; simp; omega
  generalize few66 l = l1 at *
  refine Ops.r (Run.asg rfl) rfl ?_
  refine Ops.nil ?_
  refine thenQ_n ?_
  refine VC.sub [(0, _), (1, _)] (.cons rfl (.cons rfl .nil)) ?_
  refine VC.seq ?_
  refine VC.seq ?_
  refine VC.region ?_
  refine Ops.r (Run.mv rfl) rfl ?_
  refine Ops.r (Run.lenS rfl Tryd.underlying38) rfl ?_
  refine Ops.r (Run.bin rfl rfl (Bin.gtrN _ 100)) rfl ?_
  refine Ops.nil ?_
  refine thenQ_n ?_
  refine VC.sub [(0, _), (1, _), (9, _)] (.cons rfl (.cons rfl (.cons rfl .nil))) ?_
  refine VC.meet (σ := Option Addr × Nat) (fun s => [(0, .slice A1 l1.length c1), (1, .slice s.1 (us.take 100).length s.2)]) (fun s wr => w = wr ∧ Rd wr 1 s.1 (us.take 100).length (IB (us.take 100))) ?_ ?_
  · skip
    refine VC.condD rfl (fun hc1 => ?_) (fun hc1 => ?_)
    · skip
      refine VC.region ?_
      refine Ops.r (Run.mv rfl) rfl ?_
      refine Ops.r (Run.sliceS 0 100 rfl Tryd.underlying38 Tryd.sizeOf3 evB.none_ (evB.some_ rfl) (by omega) (by omega)) rfl ?_
      refine Ops.r (Run.asg rfl) rfl ?_
      refine Ops.nil ?_
      refine thenQ_n ⟨(cutA B d 0 1, d - 0), (.cons rfl (.cons (by rw [show (us.take 100).length = 100 - 0 by simp; omega]; rfl) .nil)), ?_⟩
      exact ⟨rfl, IB_cut hu 100 (by omega) hd⟩
    · skip
      refine VC.skip ?_
      refine thenQ_n ⟨(B, d), (.cons rfl (.cons (by rw [List.take_of_length_le (by omega)]; rfl) .nil)), ?_⟩
      exact ⟨rfl, by rw [List.take_of_length_le (by omega)]; exact hu⟩
  · skip
    rintro ⟨B1, d1⟩ _ ⟨rfl, hu1⟩ Γ hΓ
    dsimp only at hu1
    have hm1 : (us.take 100).length ≤ 100 := by simp; omega
    generalize us.take 100 = us1 at *
    refine thenQ_n (VC.sub _ hΓ ?_)
    refine VC.seq ?_
    refine VC.region ?_
    refine Ops.r (Run.mv rfl) rfl ?_
    refine Ops.r (Run.mv rfl) rfl ?_
    refine Ops.cl (Enters.fn (evs.cons rfl (evs.cons rfl evs.nil)) Tryd.call23) (of_spec A1 B1 c1 d1 l1 us1 _ hl1 (by omega) hu1 (by omega)) rfl ?_
    rintro e w1 ⟨hf1, C1, q1, rfl, hO1, _⟩
    refine ⟨_, rfl, ?_⟩
    refine Ops.r (Run.mv rfl) rfl ?_
    refine Ops.r (Run.mv rfl) rfl ?_
    refine Ops.cl (Enters.fn (evs.cons rfl (evs.cons rfl evs.nil)) Tryd.call24) (rof_spec A1 B1 c1 d1 l1 us1 _ (hl1.frm hf1 (by simp)) (by omega) (hu1.frm hf1 (by simp)) (by omega)) rfl ?_
    rintro e w2 ⟨hf2, C2, q2, rfl, hO2, _⟩
    refine ⟨_, rfl, ?_⟩
    have hO1 := hO1.frm hf2 (by simp)
    have hf2 := hf1.trans hf2 (by simp)
    have hol := of_len l1 us1
    refine Ops.cl (Enters.fn (evs.cons rfl (evs.cons rfl evs.nil)) Tryd.call22) (same25_spec C1 C2 q1 q2 _ _ _ hO1.rd hO2.rd (by omega) (by omega)) rfl ?_
    rintro e w3 ⟨rfl, hf3⟩
    rw [decide_eq_true rfl]
    refine ⟨_, rfl, ?_⟩
    have hf3 := hf2.trans hf3 (by simp)
    refine Ops.r (Run.mv rfl) rfl ?_
    refine Ops.clg rfl (by first | rfl | assumption | exact decide_eq_true (by assumption) | exact decide_eq_false (by assumption) | decide | (simp; done) | (simp; omega) | (simp [*]; done)) (Enters.fn evs.nil Tryd.call25) (awake25_spec _) rfl ?_
    rintro e w4 ⟨rfl, hf4⟩
    refine ⟨_, rfl, ?_⟩
    have hf4 := hf3.trans hf4 (by simp)
    refine Ops.r (Run.pickT rfl rfl (by first | rfl | assumption | exact decide_eq_true (by assumption) | exact decide_eq_false (by assumption) | decide | (simp; done) | (simp; omega) | (simp [*]; done))) rfl ?_
    refine Ops.r (Run.asg rfl) rfl ?_
    refine Ops.nil ?_
    refine thenQ_n ?_
    refine VC.sub [(4, _)] (.cons rfl .nil) ?_
    refine VC.ret ?_
    refine end1 rfl ?_
    exact ⟨rfl, hf4⟩

section
open Go.ChangeShapes Go.WideShapes Go.Deep
theorem spans_open {H : Type} {enc : TypeId × Value → H} {w : World} {base : Nat} {spare : Nat → Bool} {held : Bool} {fuel len cap : Nat} {a : Option Addr} {x : DataW H × List MemPlace}
    (h : DataW.trod enc Tryd.prog w base spare held fuel 37 [.slice a len cap] = some x) : ∃ l : List Sp, l.length = len ∧ len ≤ cap ∧ Rd w 2 a len (SC l) := by
  obtain ⟨ls, hll, hlc, hcm, hrd, hels⟩ := rd_structs Tryd.underlying37 Tryd.underlying46 (by kernel_rfl) (by kernel_rfl) (by decide) h
  have key : ∀ q ∈ ls, ∃ s : Sp, q = SC1 s := by
    intro q hq
    obtain ⟨hq2, hf⟩ := hels q hq
    have hq2 : q.length = 2 := hq2
    obtain ⟨v0, y0, n0, hv0, ht0⟩ := hf 0 _ rfl
    obtain ⟨v1, y1, n1, hv1, ht1⟩ := hf 1 _ rfl
    obtain ⟨z0, e0, _⟩ := int_form Tryd.underlying3 ht0
    obtain ⟨z1, e1, _⟩ := int_form Tryd.underlying3 ht1
    match q, hq2, hv0, hv1 with
    | [a0, a1], _, hv0, hv1 =>
      simp only [List.getElem?_cons_zero, Option.some.injEq, List.getElem?_cons_succ] at hv0 hv1
      subst hv0 hv1
      cases e0
      cases e1
      exact ⟨(z0, z1), rfl⟩
  have hex : ∃ l : List Sp, l.map SC1 = ls := by
    clear hrd hll hels
    induction ls with
    | nil => exact ⟨[], rfl⟩
    | cons q r ih =>
      obtain ⟨s, hs⟩ := key q (by simp)
      obtain ⟨l, hl⟩ := ih (fun x hx => key x (by simp [hx]))
      exact ⟨s :: l, by simp [hs, hl]⟩
  obtain ⟨l, rfl⟩ := hex
  refine ⟨l, by simpa using hll, hlc, ?_⟩
  have e : SC l = (l.map SC1).flatMap id := by rw [List.flatMap_map]; rfl
  rw [e]
  exact hrd
end

end Go.Proofs.YtnllhddbgkeboaaDoor
