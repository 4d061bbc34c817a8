/-
  The document's inflating: symbols; what comes out.
-/
import Derived.Test.YtfjhmbgckmhdaaaInfR
import Derived.Test.YtfjhmbgckmhdaaaCanK
namespace Go.Proofs.Ytfjhmbgckmhdaaa
open Go.RowKit

/-- What a symbol comes to. -/
def SymR (L : List Bool) (l : List Int) (p e v p' e' : Nat) : Prop := (e ≠ 0 ∧ v = 0 ∧ p' = p ∧ e' = e) ∨ (e = 0 ∧ symF L l p = .ok (v, p') ∧ e' = 0) ∨ (e = 0 ∧ e' ≠ 0 ∧ symF L l p = .error e')
theorem refTake_at (A B : Option Addr) (c0 c1 : Nat) (l : List Int) (L : List Bool) (n p : Nat) (w : World) (hn : l.length = n) (hg : newE l = 0) (hL : L.length ≤ 1000000000) (hp : p ≤ L.length) (hr : Rd w 1 A n (IB l)) (hrb : Rd w 1 B L.length (BL L)) :
    Calls Try.prog 53 #[.slice A n c0, .slice B L.length c1, .int .i64 ((p : Nat) : Int)] w fun e w' => ∃ v p' k, e = .returned (.tuple #[.int .i64 ((v : Nat) : Int), .int .i64 ((p' : Nat) : Int), .int .i64 ((k : Nat) : Int)]) ∧ Frm [] w w' ∧ p' ≤ L.length ∧ p ≤ p' ∧ SymR L l p 0 v p' k := by
  subst hn
  obtain ⟨h1, h2, h3⟩ := most_eq l hg
  refine (refTake_spec A B c0 c1 l L p w h1 hL hp hr hrb).mono ?_
  rintro e w' ⟨rfl, hf⟩
  rw [← h2]
  obtain ⟨h4, h5, h6, h7⟩ := tk_facts l L (mostC l) 1 0 p (by omega) (by omega) hp
  refine ⟨_, _, _, rfl, hf, h5, h4, ?_⟩
  have hF : symF L l p = if (tk l L (mostC l) 1 0 p).2.2 = 0 then .ok ((tk l L (mostC l) 1 0 p).1, (tk l L (mostC l) 1 0 p).2.1) else .error (tk l L (mostC l) 1 0 p).2.2 := rfl
  by_cases hk : (tk l L (mostC l) 1 0 p).2.2 = 0
  · rw [if_pos hk] at hF
    exact .inr (.inl ⟨rfl, hF, hk⟩)
  · rw [if_neg hk] at hF
    exact .inr (.inr ⟨rfl, hk, hF⟩)

set_option maxRecDepth 100000 in
theorem rsym_spec (gx : Nat) (Ab B : Option Addr) (cb c0 n : Nat) (l : List Int) (L : List Bool) (p : Nat) (A : Option Addr) (c : Nat) (out : List Nat) (most e : Nat) (w : World) (hl : e = 0 → l.length = n ∧ newE l = 0 ∧ Rd w 1 B n (IB l)) (hX : IsY w gx Ab cb L p A c out most e) :
    Calls Try.prog 43 #[.pointer (some ⟨gx, 0, none⟩), .slice B n c0] w fun r w' => ∃ v p' e', r = .returned (.int .i64 ((v : Nat) : Int)) ∧ IsY w' gx Ab cb L p' A c out most e' ∧ Frm [gx] w w' ∧ p ≤ p' ∧ SymR L l p e v p' e' := by
  have hp := hX.2.2.2.1
  have hL := hX.2.2.2.2.1
  refine VC.calls (nt := 35) (res := #[.tmp 4]) Try.func43 rfl Try.ntmps43 Try.results43 rfl ?_
  refine VC.seq ?_
  refine VC.region ?_
  refine Ops.r (v := .int .i64 ((0 : Nat) : Int)) (Run.asg rfl) rfl ?_
  refine Ops.nil ?_
  refine thenQ_n ?_
  refine VC.sub [(0, _), (1, _)] (.cons rfl (.cons rfl .nil)) ?_
  refine VC.seq ?_
  refine VC.seq ?_
  refine VC.region ?_
  refine Ops.r (Run.mv rfl) rfl ?_
  refine Ops.r (Run.nilck rfl) rfl ?_
  refine Ops.r (Run.fieldAddr rfl Try.underlying56 rfl Try.sizeOf3 (by decide)) rfl ?_
  refine Ops.r (Run.load rfl Try.isAgg3 (hX.1.cell 4)) rfl ?_
  refine Ops.r (Run.bin rfl rfl (Bin.neqN _ 0)) rfl ?_
  refine Ops.nil ?_
  refine thenQ_n ?_
  refine VC.sub [(0, _), (1, _), (12, _)] (.cons rfl (.cons rfl (.cons rfl .nil))) ?_
  refine VC.condD rfl (fun hc1 => ?_) (fun hc1 => ?_)
  · skip
    refine VC.seq ?_
    refine VC.region ?_
    refine Ops.r (v := .int .i64 ((0 : Nat) : Int)) (Run.asg rfl) rfl ?_
    refine Ops.nil ?_
    refine thenQ_n ?_
    refine VC.sub [(4, _)] (.cons rfl .nil) ?_
    refine VC.ret ?_
    refine thenQ_r (end1 rfl ?_)
    exact ⟨0, p, e, rfl, hX, Frm.refl _ _, Nat.le_refl _, .inl ⟨hc1, rfl, rfl, rfl⟩⟩
  · skip
    have he : e = 0 := by simpa using hc1
    subst he
    obtain ⟨hl1, hl2, hl3⟩ := hl rfl
    have hd := Drawn.drew w
    have hX1 := hX.frm0 hd.frm
    refine VC.skip ?_
    refine thenQ_n ?_
    refine VC.sub [(0, _), (1, _)] (.cons rfl (.cons rfl .nil)) ?_
    refine VC.seq ?_
    refine VC.held (fun v => Blk v gx 56 #[.slice Ab L.length cb, .int .i64 ((p : Nat) : Int), .slice A out.length c, .int .i64 ((most : Nat) : Int), .int .i64 ((0 : Nat) : Int)]) (by kernel_rfl) ?_
    have hS : (fun v => Blk v gx 56 #[.slice Ab L.length cb, .int .i64 ((p : Nat) : Int), .slice A out.length c, .int .i64 ((most : Nat) : Int), .int .i64 ((0 : Nat) : Int)]) w.drew := hX1.1
    refine HOps.take 0 rfl (by kernel_rfl) (by kernel_rfl) (by kernel_rfl) hS (fun w0 hw0 => Run.mv rfl) trivial rfl rfl ?_
    refine HOps.take 1 rfl (by kernel_rfl) (by kernel_rfl) (by kernel_rfl) hS (fun w0 hw0 => Run.mv rfl) trivial rfl rfl ?_
    refine HOps.take 2 rfl (by kernel_rfl) (by kernel_rfl) (by kernel_rfl) hS (fun w0 hw0 => Run.nilck rfl) trivial rfl rfl ?_
    refine HOps.take 3 rfl (by kernel_rfl) (by kernel_rfl) (by kernel_rfl) hS (fun w0 hw0 => Run.fieldAddr rfl Try.underlying56 rfl Try.sizeOf53 (by decide)) trivial rfl rfl ?_
    refine HOps.take 4 rfl (by kernel_rfl) (by kernel_rfl) (by kernel_rfl) hS (fun w0 hw0 => Run.load rfl Try.isAgg53 (hw0.cell 0)) trivial rfl rfl ?_
    refine HOps.take 5 rfl (by kernel_rfl) (by kernel_rfl) (by kernel_rfl) hS (fun w0 hw0 => Run.mv rfl) trivial rfl rfl ?_
    refine HOps.take 6 rfl (by kernel_rfl) (by kernel_rfl) (by kernel_rfl) hS (fun w0 hw0 => Run.nilck rfl) trivial rfl rfl ?_
    refine HOps.take 7 rfl (by kernel_rfl) (by kernel_rfl) (by kernel_rfl) hS (fun w0 hw0 => Run.fieldAddr rfl Try.underlying56 rfl Try.sizeOf3 (by decide)) trivial rfl rfl ?_
    refine HOps.take 8 rfl (by kernel_rfl) (by kernel_rfl) (by kernel_rfl) hS (fun w0 hw0 => Run.load rfl Try.isAgg3 (hw0.cell 1)) trivial rfl rfl ?_
    refine HOps.cl 9 rfl (by kernel_rfl) (Enters.fn (evs.cons rfl (evs.cons rfl (evs.cons rfl evs.nil))) Try.call53) (refTake_at B Ab c0 cb l L n p _ hl1 hl2 (by omega) hp (hl3.drawn hd) hX1.2.1.rd) trivial rfl rfl ?_
    rintro r w2 ⟨v, p2, k, rfl, hf2, hp2, hpp, hS2⟩
    have hX2 := hX1.frm0 hf2
    refine ⟨_, rfl, hX2.1, ?_⟩
    have hS : (fun v => Blk v gx 56 #[.slice Ab L.length cb, .int .i64 ((p : Nat) : Int), .slice A out.length c, .int .i64 ((most : Nat) : Int), .int .i64 ((0 : Nat) : Int)]) w2 := hX2.1
    refine HOps.take 10 rfl (by kernel_rfl) (by kernel_rfl) (by kernel_rfl) hS (fun w0 hw0 => Run.mv rfl) trivial rfl rfl ?_
    refine HOps.take 11 rfl (by kernel_rfl) (by kernel_rfl) (by kernel_rfl) hS (fun w0 hw0 => Run.extract rfl rfl) trivial rfl rfl ?_
    refine HOps.take 12 rfl (by kernel_rfl) (by kernel_rfl) (by kernel_rfl) hS (fun w0 hw0 => Run.extract rfl rfl) trivial rfl rfl ?_
    refine HOps.take 13 rfl (by kernel_rfl) (by kernel_rfl) (by kernel_rfl) hS (fun w0 hw0 => Run.extract rfl rfl) trivial rfl rfl ?_
    refine HOps.take 14 rfl (by kernel_rfl) (by kernel_rfl) (by kernel_rfl) hS (fun w0 hw0 => Run.asg rfl) trivial rfl rfl ?_
    refine HOps.take 15 rfl (by kernel_rfl) (by kernel_rfl) (by kernel_rfl) hS (fun w0 hw0 => Run.asg rfl) trivial rfl rfl ?_
    refine HOps.take 16 rfl (by kernel_rfl) (by kernel_rfl) (by kernel_rfl) hS (fun w0 hw0 => Run.asg rfl) trivial rfl rfl ?_
    refine HOps.done (by kernel_rfl) ?_
    refine thenQ_n ?_
    refine VC.sub [(0, _), (5, _), (6, _), (7, _)] (.cons rfl (.cons rfl (.cons rfl (.cons rfl .nil)))) ?_
    refine VC.seq ?_
    refine VC.region ?_
    refine Ops.r (Run.mv rfl) rfl ?_
    refine Ops.r (Run.mv rfl) rfl ?_
    refine Ops.r (Run.nilck rfl) rfl ?_
    refine Ops.r (Run.fieldAddr rfl Try.underlying56 rfl Try.sizeOf3 (by decide)) rfl ?_
    refine Ops.st (Acts.store (i := 1) rfl rfl Try.sizeOf3 hX2.1 rfl rfl) ?_
    rintro w3 ⟨hb3, hf3, hs3⟩
    have hX3 := hX2.upd hb3 hf3 hp2
    have hfr3 : Frm [gx] w w3 := ((hd.frm.trans hf2 (by simp)).mono (T := [gx]) (by simp)).trans hf3 (fun x hx => .inl hx)
    refine Ops.nil ?_
    refine thenQ_n ?_
    refine VC.sub [(0, _), (5, _), (7, _)] (.cons rfl (.cons rfl (.cons rfl .nil))) ?_
    refine VC.seq ?_
    refine VC.region ?_
    refine Ops.r (Run.mv rfl) rfl ?_
    refine Ops.r (Run.mv rfl) rfl ?_
    refine Ops.cl (Enters.fn (evs.cons rfl (evs.cons rfl evs.nil)) Try.call28) (rfail_spec gx Ab cb L p2 A c out most 0 k _ hX3) rfl ?_
    rintro r w4 ⟨rfl, hX4, hf4⟩
    refine ⟨_, rfl, ?_⟩
    rw [if_pos rfl] at hX4
    have hfr4 := hfr3.trans hf4 (fun x hx => .inl hx)
    refine Ops.nil ?_
    refine thenQ_n ?_
    refine VC.sub [(5, _)] (.cons rfl .nil) ?_
    refine VC.seq ?_
    refine VC.region ?_
    refine Ops.r (Run.mv rfl) rfl ?_
    refine Ops.r (Run.asg rfl) rfl ?_
    refine Ops.nil ?_
    refine thenQ_n ?_
    refine VC.sub [(4, _)] (.cons rfl .nil) ?_
    refine VC.ret ?_
    refine end1 rfl ?_
    exact ⟨v, p2, k, rfl, hX4, hfr4, hpp, hS2⟩

set_option maxRecDepth 100000 in
theorem rput_spec (gx : Nat) (Ab B : Option Addr) (cb c0 n : Nat) (b : List Nat) (L : List Bool) (p : Nat) (A : Option Addr) (c : Nat) (out : List Nat) (most e : Nat) (w : World) (hn : b.length = n) (hn2 : n ≤ 1000000) (hlt : ∀ x ∈ b, x < 256) (hr : Rd w 1 B n (NB b)) (hX : IsY w gx Ab cb L p A c out most e) :
    Calls Try.prog 42 #[.pointer (some ⟨gx, 0, none⟩), .slice B n c0] w fun r w' => ∃ A' c' out' e', r = .returned (.tuple #[]) ∧ IsY w' gx Ab cb L p A' c' out' most e' ∧ Frm (gx :: ob A) w w' ∧ (∀ y ∈ ob A', y ∈ ob A ∨ w.heap.size ≤ y) ∧
      ((e ≠ 0 ∧ e' = e) ∨ (e = 0 ∧ most < out.length + b.length ∧ e' = 13) ∨ (e = 0 ∧ ¬ most < out.length + b.length ∧ e' = 0 ∧ out' = out ++ b)) := by
  have hol := hX.2.2.2.2.2.1
  have hmo := hX.2.2.2.2.2.2.1
  have hd := Drawn.drew w
  have hXd := hX.frm0 hd.frm
  subst hn
  refine VC.calls (nt := 40) (res := #[]) Try.func42 rfl Try.ntmps42 Try.results42 rfl ?_
  refine VC.seq ?_
  refine VC.seq ?_
  refine VC.splitR [(0, .pointer (some ⟨gx, 0, none⟩)), (1, .slice B b.length c0)] (fun w1 => w1 = w.drew) 23 (.bool (decide (e = 0 ∧ most < out.length + b.length))) ?_ ?_
  · refine VC.still (by kernel_rfl) (by kernel_rfl) ?_
    refine SOps.r (Run.mv rfl) rfl ?_
    refine SOps.r (Run.nilck rfl) rfl ?_
    refine SOps.r (Run.fieldAddr rfl Try.underlying56 rfl Try.sizeOf3 (by decide)) rfl ?_
    refine SOps.r (Run.load rfl Try.isAgg3 (hXd.1.cell 4)) rfl ?_
    refine SOps.r (Run.bin rfl rfl (Bin.eqlN _ 0)) rfl ?_
    by_cases hs8 : e = 0
    · skip
      refine SOps.r (Run.mv rfl) rfl ?_
      refine SOps.rg rfl (by first | rfl | assumption | exact decide_eq_true (by assumption) | exact decide_eq_false (by assumption) | decide | (simp; done) | (simp; omega) | (simp [*]; done)) (Run.mv rfl) rfl ?_
      refine SOps.rg rfl (by first | rfl | assumption | exact decide_eq_true (by assumption) | exact decide_eq_false (by assumption) | decide | (simp; done) | (simp; omega) | (simp [*]; done)) (Run.nilck rfl) rfl ?_
      refine SOps.rg rfl (by first | rfl | assumption | exact decide_eq_true (by assumption) | exact decide_eq_false (by assumption) | decide | (simp; done) | (simp; omega) | (simp [*]; done)) (Run.fieldAddr rfl Try.underlying56 rfl Try.sizeOf22 (by decide)) rfl ?_
      refine SOps.rg rfl (by first | rfl | assumption | exact decide_eq_true (by assumption) | exact decide_eq_false (by assumption) | decide | (simp; done) | (simp; omega) | (simp [*]; done)) (Run.load rfl Try.isAgg22 (hXd.1.cell 2)) rfl ?_
      refine SOps.rg rfl (by first | rfl | assumption | exact decide_eq_true (by assumption) | exact decide_eq_false (by assumption) | decide | (simp; done) | (simp; omega) | (simp [*]; done)) (Run.lenS rfl Try.underlying22) rfl ?_
      refine SOps.rg rfl (by first | rfl | assumption | exact decide_eq_true (by assumption) | exact decide_eq_false (by assumption) | decide | (simp; done) | (simp; omega) | (simp [*]; done)) (Run.mv rfl) rfl ?_
      refine SOps.rg rfl (by first | rfl | assumption | exact decide_eq_true (by assumption) | exact decide_eq_false (by assumption) | decide | (simp; done) | (simp; omega) | (simp [*]; done)) (Run.lenS rfl Try.underlying22) rfl ?_
      refine SOps.rg rfl (by first | rfl | assumption | exact decide_eq_true (by assumption) | exact decide_eq_false (by assumption) | decide | (simp; done) | (simp; omega) | (simp [*]; done)) (Run.bin rfl rfl (Bin.add_i64 _ _ (by omega))) rfl ?_
      refine SOps.rg rfl (by first | rfl | assumption | exact decide_eq_true (by assumption) | exact decide_eq_false (by assumption) | decide | (simp; done) | (simp; omega) | (simp [*]; done)) (Run.mv rfl) rfl ?_
      refine SOps.rg rfl (by first | rfl | assumption | exact decide_eq_true (by assumption) | exact decide_eq_false (by assumption) | decide | (simp; done) | (simp; omega) | (simp [*]; done)) (Run.nilck rfl) rfl ?_
      refine SOps.rg rfl (by first | rfl | assumption | exact decide_eq_true (by assumption) | exact decide_eq_false (by assumption) | decide | (simp; done) | (simp; omega) | (simp [*]; done)) (Run.fieldAddr rfl Try.underlying56 rfl Try.sizeOf3 (by decide)) rfl ?_
      refine SOps.rg rfl (by first | rfl | assumption | exact decide_eq_true (by assumption) | exact decide_eq_false (by assumption) | decide | (simp; done) | (simp; omega) | (simp [*]; done)) (Run.load rfl Try.isAgg3 (hXd.1.cell 3)) rfl ?_
      refine SOps.rg rfl (by first | rfl | assumption | exact decide_eq_true (by assumption) | exact decide_eq_false (by assumption) | decide | (simp; done) | (simp; omega) | (simp [*]; done)) (Run.bin rfl rfl (Bin.gtrN _ _)) rfl ?_
      by_cases hs22 : most < out.length + b.length
      · skip
        refine SOps.r (Run.pickT rfl rfl (by first | rfl | assumption | exact decide_eq_true (by assumption) | exact decide_eq_false (by assumption) | decide | (simp; done) | (simp; omega) | (simp [*]; done))) rfl ?_
        refine SOps.nil ?_
        refine thenQ_n ⟨(.cons (congrArg (fun b => some (Value.bool b)) (by simp [*])) (.cons rfl (.cons rfl .nil))), (rfl)⟩
      · skip
        refine SOps.r (Run.pickT rfl rfl (by first | rfl | assumption | exact decide_eq_true (by assumption) | exact decide_eq_false (by assumption) | decide | (simp; done) | (simp; omega) | (simp [*]; done))) rfl ?_
        refine SOps.nil ?_
        refine thenQ_n ⟨(.cons (congrArg (fun b => some (Value.bool b)) (by simp [*])) (.cons rfl (.cons rfl .nil))), (rfl)⟩
    · skip
      refine SOps.r (Run.mv rfl) rfl ?_
      refine SOps.sk rfl (by first | rfl | assumption | exact decide_eq_true (by assumption) | exact decide_eq_false (by assumption) | decide | (simp; done) | (simp; omega) | (simp [*]; done)) rfl ?_
      refine SOps.sk rfl (by first | rfl | assumption | exact decide_eq_true (by assumption) | exact decide_eq_false (by assumption) | decide | (simp; done) | (simp; omega) | (simp [*]; done)) rfl ?_
      refine SOps.sk rfl (by first | rfl | assumption | exact decide_eq_true (by assumption) | exact decide_eq_false (by assumption) | decide | (simp; done) | (simp; omega) | (simp [*]; done)) rfl ?_
      refine SOps.sk rfl (by first | rfl | assumption | exact decide_eq_true (by assumption) | exact decide_eq_false (by assumption) | decide | (simp; done) | (simp; omega) | (simp [*]; done)) rfl ?_
      refine SOps.sk rfl (by first | rfl | assumption | exact decide_eq_true (by assumption) | exact decide_eq_false (by assumption) | decide | (simp; done) | (simp; omega) | (simp [*]; done)) rfl ?_
      refine SOps.sk rfl (by first | rfl | assumption | exact decide_eq_true (by assumption) | exact decide_eq_false (by assumption) | decide | (simp; done) | (simp; omega) | (simp [*]; done)) rfl ?_
      refine SOps.sk rfl (by first | rfl | assumption | exact decide_eq_true (by assumption) | exact decide_eq_false (by assumption) | decide | (simp; done) | (simp; omega) | (simp [*]; done)) rfl ?_
      refine SOps.sk rfl (by first | rfl | assumption | exact decide_eq_true (by assumption) | exact decide_eq_false (by assumption) | decide | (simp; done) | (simp; omega) | (simp [*]; done)) rfl ?_
      refine SOps.sk rfl (by first | rfl | assumption | exact decide_eq_true (by assumption) | exact decide_eq_false (by assumption) | decide | (simp; done) | (simp; omega) | (simp [*]; done)) rfl ?_
      refine SOps.sk rfl (by first | rfl | assumption | exact decide_eq_true (by assumption) | exact decide_eq_false (by assumption) | decide | (simp; done) | (simp; omega) | (simp [*]; done)) rfl ?_
      refine SOps.sk rfl (by first | rfl | assumption | exact decide_eq_true (by assumption) | exact decide_eq_false (by assumption) | decide | (simp; done) | (simp; omega) | (simp [*]; done)) rfl ?_
      refine SOps.sk rfl (by first | rfl | assumption | exact decide_eq_true (by assumption) | exact decide_eq_false (by assumption) | decide | (simp; done) | (simp; omega) | (simp [*]; done)) rfl ?_
      refine SOps.sk rfl (by first | rfl | assumption | exact decide_eq_true (by assumption) | exact decide_eq_false (by assumption) | decide | (simp; done) | (simp; omega) | (simp [*]; done)) rfl ?_
      refine SOps.r (Run.pickF rfl rfl (by first | rfl | assumption | exact decide_eq_true (by assumption) | exact decide_eq_false (by assumption) | decide | (simp; done) | (simp; omega) | (simp [*]; done))) rfl ?_
      refine SOps.nil ?_
      refine thenQ_n ⟨(.cons (congrArg (fun b => some (Value.bool b)) (by simp [*])) (.cons rfl (.cons rfl .nil))), (rfl)⟩
  · intro Γ w1 hΓ hd1
    refine thenQ_n (VC.sub _ hΓ ?_)
    refine VC.condD rfl (fun hc1 => ?_) (fun hc1 => ?_)
    · skip
      obtain ⟨rfl, hm⟩ := hc1
      subst hd1
      refine VC.region ?_
      refine Ops.r (Run.mv rfl) rfl ?_
      refine Ops.cl (Enters.fn (evs.cons rfl (evs.cons rfl evs.nil)) Try.call28) (rfail_spec gx Ab cb L p A c out most 0 13 _ hXd) rfl ?_
      rintro r w2 ⟨rfl, hX2, hf2⟩
      refine ⟨_, rfl, ?_⟩
      rw [if_pos rfl] at hX2
      refine Ops.nil ?_
      refine thenQ_n ?_
      refine VC.sub [(0, _), (1, _)] (.cons rfl (.cons rfl .nil)) ?_
      refine VC.seq ?_
      refine VC.region ?_
      refine Ops.r (Run.mv rfl) rfl ?_
      refine Ops.r (Run.nilck rfl) rfl ?_
      refine Ops.r (Run.fieldAddr rfl Try.underlying56 rfl Try.sizeOf3 (by decide)) rfl ?_
      refine Ops.r (Run.load rfl Try.isAgg3 (hX2.1.cell 4)) rfl ?_
      refine Ops.r (Run.bin rfl rfl (Bin.eqlN _ 0)) rfl ?_
      refine Ops.nil ?_
      refine thenQ_n ?_
      refine VC.sub [(0, _), (1, _), (30, _)] (.cons rfl (.cons rfl (.cons rfl .nil))) ?_
      refine VC.condF rfl (by simp) ?_
      refine VC.skip ?_
      refine end0n ?_
      exact ⟨A, c, out, 13, rfl, hX2, (hd.frm.mono (T := gx :: ob A) (by simp)).trans (hf2.mono (T := gx :: ob A) (by simp)) (fun x hx => .inl hx), fun y hy => .inl hy, .inr (.inl ⟨rfl, hm, rfl⟩)⟩
    · skip
      subst hd1
      have hX2 := hXd
      refine VC.skip ?_
      refine thenQ_n ?_
      refine VC.sub [(0, _), (1, _)] (.cons rfl (.cons rfl .nil)) ?_
      refine VC.seq ?_
      refine VC.region ?_
      refine Ops.r (Run.mv rfl) rfl ?_
      refine Ops.r (Run.nilck rfl) rfl ?_
      refine Ops.r (Run.fieldAddr rfl Try.underlying56 rfl Try.sizeOf3 (by decide)) rfl ?_
      refine Ops.r (Run.load rfl Try.isAgg3 (hX2.1.cell 4)) rfl ?_
      refine Ops.r (Run.bin rfl rfl (Bin.eqlN _ 0)) rfl ?_
      refine Ops.nil ?_
      refine thenQ_n ?_
      refine VC.sub [(0, _), (1, _), (30, _)] (.cons rfl (.cons rfl (.cons rfl .nil))) ?_
      refine VC.condD rfl (fun hc2 => ?_) (fun hc2 => ?_)
      · skip
        subst hc2
        have hle : ¬ most < out.length + b.length := fun h => hc1 ⟨rfl, h⟩
        refine VC.region ?_
        refine Ops.r (Run.mv rfl) rfl ?_
        refine Ops.r (Run.mv rfl) rfl ?_
        refine Ops.r (Run.nilck rfl) rfl ?_
        refine Ops.r (Run.fieldAddr rfl Try.underlying56 rfl Try.sizeOf22 (by decide)) rfl ?_
        refine Ops.r (Run.load rfl Try.isAgg22 (hX2.1.cell 2)) rfl ?_
        refine Ops.r (Run.mv rfl) rfl ?_
        refine Ops.m (Does.app rfl rfl Try.underlying22 (info5) rfl (by decide) hX2.2.2.1 (hr.drawn hd) (NB_one _) (by omega) (by omega)) rfl ?_
        rintro _ w4 ⟨B4, c4, rfl, ho4, hf4, hob4⟩
        have hb4 := hX2.1.frm hf4 hX2.gxA
        refine Ops.r (Run.nilck rfl) rfl ?_
        refine Ops.r (Run.fieldAddr rfl Try.underlying56 rfl Try.sizeOf22 (by decide)) rfl ?_
        refine Ops.st (Acts.store (i := 2) rfl rfl Try.sizeOf22 hb4 rfl rfl) ?_
        rintro w5 ⟨hb5, hf5, hs5⟩
        have hlen : (out ++ b).length = out.length + b.length := List.length_append
        have hu : ∀ y ∈ ob B4, y ∈ ob A ∨ w.heap.size ≤ y := fun y hy => by
          rcases hob4 with h | h
          · exact .inl (h ▸ hy)
          · rw [h, List.mem_singleton] at hy
            exact .inr (by have := hd.frm.size; omega)
        have hgx4 : gx ∉ ob B4 := fun h => by
          rcases hob4 with h2 | h2
          · exact hX2.gxA (h2 ▸ h)
          · rw [h2, List.mem_singleton] at h
            have := hX2.lt.1
            omega
        have hX5 : IsY w5 gx Ab cb L p B4 c4 (out ++ b) most 0 := by
          refine ⟨by rw [hlen]; exact hb5, (hX2.2.1.frm hf4 hX2.AB).frm hf5 (fun x hx h2 => hX2.gxB (by simp at h2; exact h2 ▸ hx)), ?_, hX2.2.2.2.1, hX2.2.2.2.2.1, by rw [hlen]; omega, hmo, fun x hx => (List.mem_append.1 hx).elim (hX2.2.2.2.2.2.2.2 x) (hlt x)⟩
          rw [hlen, NB_app]
          exact ho4.frm hf5 (fun x hx h2 => hgx4 (by simp at h2; exact h2 ▸ hx))
        refine Ops.nil ?_
        refine end0n ?_
        exact ⟨B4, c4, out ++ b, 0, rfl, hX5, (hd.frm.mono (T := gx :: ob A) (by simp)).trans ((hf4.mono (T := gx :: ob A) (fun x hx => by simp [hx])).trans (hf5.mono (T := gx :: ob A) (by simp)) (fun x hx => .inl hx)) (fun x hx => .inl hx), hu, .inr (.inr ⟨rfl, hle, rfl, rfl⟩)⟩
      · skip
        refine VC.skip ?_
        refine end0n ?_
        exact ⟨A, c, out, e, rfl, hX2, hd.frm.mono (by simp), fun y hy => .inl hy, .inl ⟨hc2, rfl⟩⟩

end Go.Proofs.Ytfjhmbgckmhdaaa
