/-
  The document's inflating: its bits, numbers and symbols.
-/
import Derived.Test.YtfjhmbgckmhdaaaInfJ
import Derived.Test.YtfjhmbgckmhdaaaEng10
namespace Go.Proofs.Ytfjhmbgckmhdaaa
open Go.RowKit

/-- The document's state: bits, how far, what came out, the most, the first error. -/
def IsY (w : World) (gx : Nat) (Ab : Option Addr) (cb : Nat) (L : List Bool) (p : Nat) (A : Option Addr) (c : Nat) (out : List Nat) (most e : Nat) : Prop :=
  Blk w gx 56 #[.slice Ab L.length cb, .int .i64 ((p : Nat) : Int), .slice A out.length c, .int .i64 ((most : Nat) : Int), .int .i64 ((e : Nat) : Int)] ∧ Own w 4 1 Ab L.length cb (BL L) ∧ Own w 5 1 A out.length c (NB out) ∧ p ≤ L.length ∧ L.length ≤ 100000000 ∧ out.length ≤ 10000000 ∧ most ≤ 1000000 ∧ ∀ x ∈ out, x < 256
section
variable {w w' : World} {gx : Nat} {Ab : Option Addr} {cb : Nat} {L : List Bool} {p : Nat} {A : Option Addr} {c : Nat} {out : List Nat} {most e : Nat} {S : List Nat}
theorem IsY.gxA (h : IsY w gx Ab cb L p A c out most e) : gx ∉ ob A := h.2.2.1.ne_blk h.1 (by decide)
theorem IsY.gxB (h : IsY w gx Ab cb L p A c out most e) : gx ∉ ob Ab := h.2.1.ne_blk h.1 (by decide)
theorem IsY.AB (h : IsY w gx Ab cb L p A c out most e) : ∀ x ∈ ob Ab, x ∉ ob A := h.2.1.ne_own h.2.2.1 (by decide)
theorem IsY.lt (h : IsY w gx Ab cb L p A c out most e) : gx < w.heap.size ∧ (∀ x ∈ ob Ab, x < w.heap.size) ∧ ∀ x ∈ ob A, x < w.heap.size := ⟨h.1.lt, h.2.1.lt, h.2.2.1.lt⟩
theorem IsY.frm (h : IsY w gx Ab cb L p A c out most e) (hf : Frm S w w') (hS : ∀ x ∈ gx :: (ob Ab ++ ob A), x ∉ S) : IsY w' gx Ab cb L p A c out most e :=
  ⟨h.1.frm hf (hS gx (by simp)), h.2.1.frm hf (fun x hx => hS x (by simp [hx])), h.2.2.1.frm hf (fun x hx => hS x (by simp [hx])), h.2.2.2⟩
theorem IsY.frm0 (h : IsY w gx Ab cb L p A c out most e) (hf : Frm [] w w') : IsY w' gx Ab cb L p A c out most e := h.frm hf (by simp)
theorem IsY.upd {p' e' : Nat} (h : IsY w gx Ab cb L p A c out most e) (hb : Blk w' gx 56 #[.slice Ab L.length cb, .int .i64 ((p' : Nat) : Int), .slice A out.length c, .int .i64 ((most : Nat) : Int), .int .i64 ((e' : Nat) : Int)]) (hf : Frm [gx] w w') (hp : p' ≤ L.length) : IsY w' gx Ab cb L p' A c out most e' :=
  ⟨hb, h.2.1.frm hf (fun x hx h2 => h.gxB (by simp at h2; exact h2 ▸ hx)), h.2.2.1.frm hf (fun x hx h2 => h.gxA (by simp at h2; exact h2 ▸ hx)), hp, h.2.2.2.2⟩
end
theorem number_at (B : Option Addr) (c0 : Nat) (l : List Bool) (n : Nat) (w : World) (hl : l.length = n) (h63 : n ≤ 63) (hr : Rd w 1 B n (BL l)) :
    Calls Try.prog 41 #[.slice B n c0] w fun e w' => e = .returned (.int .u64 ((num l : Nat) : Int)) ∧ w = w' := by
  subst hl
  exact number_spec B c0 l w h63 hr
theorem BL_cutn {w : World} {A : Option Addr} {c : Nat} {l : List Bool} (h : Rd w 1 A l.length (BL l)) (p n : Nat) (hk : p + n ≤ l.length) (hc : l.length ≤ c) : Rd w 1 (cutA A c p 1) (p + n - p) (BL ((l.drop p).take n)) := by
  have e := h.cut (l := p) (r := p + n) (cap := c) (by omega) hk hc
  have e2 : BL ((l.drop p).take n) = ((BL l).drop (p * 1)).take ((p + n - p) * 1) := by simp [BL, List.map_take, List.map_drop]
  rw [e2]
  exact e
def longL : List Nat := longT.map (·.1)
def wayL : List Nat := wayT.map (·.1)

set_option maxRecDepth 100000 in
theorem rlengths_spec (w : World) : Calls Try.prog 19 #[] w fun e w' => ∃ A c, e = .returned (.slice A 29 c) ∧ Own w' 3 1 A 29 c (NI longL) ∧ Frm [] w w' ∧ ∀ x ∈ ob A, w.heap.size ≤ x := by
  refine VC.calls (nt := 2) (res := #[.tmp 0]) Try.func19 rfl Try.ntmps19 Try.results19 rfl ?_
  refine VC.seq ?_
  refine VC.region ?_
  refine Ops.r (Run.asg rfl) rfl ?_
  refine Ops.nil ?_
  refine thenQ_n ?_
  refine VC.sub [] .nil ?_
  refine VC.seq ?_
  refine VC.region ?_
  refine Ops.m (Does.buildN (cells := (NI longL).toArray) (evs.cons rfl (evs.cons rfl (evs.cons rfl (evs.cons rfl (evs.cons rfl (evs.cons rfl (evs.cons rfl (evs.cons rfl (evs.cons rfl (evs.cons rfl (evs.cons rfl (evs.cons rfl (evs.cons rfl (evs.cons rfl (evs.cons rfl (evs.cons rfl (evs.cons rfl (evs.cons rfl (evs.cons rfl (evs.cons rfl (evs.cons rfl (evs.cons rfl (evs.cons rfl (evs.cons rfl (evs.cons rfl (evs.cons rfl (evs.cons rfl (evs.cons rfl (evs.cons rfl evs.nil))))))))))))))))))))))))))))) Try.underlying37 Try.sizeOf3 zero3 rfl rfl (by kernel_rfl)) rfl ?_
  rintro _ w1 ⟨rfl, hF1⟩
  have ho1 : Own w1 3 1 (some ⟨w.heap.size, 0, none⟩) 29 29 (NI longL) := Own.of_blk (n := 29) hF1.blk rfl (by decide)
  refine Ops.r (Run.asg rfl) rfl ?_
  refine Ops.nil ?_
  refine thenQ_n ?_
  refine VC.sub [(0, _)] (.cons rfl .nil) ?_
  refine VC.ret ?_
  refine end1 rfl ?_
  exact ⟨_, _, rfl, ho1, hF1.frm, by simp [ob]⟩

set_option maxRecDepth 100000 in
theorem rways_spec (w : World) : Calls Try.prog 21 #[] w fun e w' => ∃ A c, e = .returned (.slice A 30 c) ∧ Own w' 3 1 A 30 c (NI wayL) ∧ Frm [] w w' ∧ ∀ x ∈ ob A, w.heap.size ≤ x := by
  refine VC.calls (nt := 2) (res := #[.tmp 0]) Try.func21 rfl Try.ntmps21 Try.results21 rfl ?_
  refine VC.seq ?_
  refine VC.region ?_
  refine Ops.r (Run.asg rfl) rfl ?_
  refine Ops.nil ?_
  refine thenQ_n ?_
  refine VC.sub [] .nil ?_
  refine VC.seq ?_
  refine VC.region ?_
  refine Ops.m (Does.buildN (cells := (NI wayL).toArray) (evs.cons rfl (evs.cons rfl (evs.cons rfl (evs.cons rfl (evs.cons rfl (evs.cons rfl (evs.cons rfl (evs.cons rfl (evs.cons rfl (evs.cons rfl (evs.cons rfl (evs.cons rfl (evs.cons rfl (evs.cons rfl (evs.cons rfl (evs.cons rfl (evs.cons rfl (evs.cons rfl (evs.cons rfl (evs.cons rfl (evs.cons rfl (evs.cons rfl (evs.cons rfl (evs.cons rfl (evs.cons rfl (evs.cons rfl (evs.cons rfl (evs.cons rfl (evs.cons rfl (evs.cons rfl evs.nil)))))))))))))))))))))))))))))) Try.underlying37 Try.sizeOf3 zero3 rfl rfl (by kernel_rfl)) rfl ?_
  rintro _ w1 ⟨rfl, hF1⟩
  have ho1 : Own w1 3 1 (some ⟨w.heap.size, 0, none⟩) 30 30 (NI wayL) := Own.of_blk (n := 30) hF1.blk rfl (by decide)
  refine Ops.r (Run.asg rfl) rfl ?_
  refine Ops.nil ?_
  refine thenQ_n ?_
  refine VC.sub [(0, _)] (.cons rfl .nil) ?_
  refine VC.ret ?_
  refine end1 rfl ?_
  exact ⟨_, _, rfl, ho1, hF1.frm, by simp [ob]⟩

set_option maxRecDepth 100000 in
theorem rlongBits_spec (i : Nat) (w : World) (hi : i < 29) : Calls Try.prog 18 #[.int .i64 ((i : Nat) : Int)] w fun e w' => e = .returned (.int .i64 (((longT.getD i (0, 0)).2 : Nat) : Int)) ∧ w = w' := by
  have hb : ∀ i, i < 29 → (longT.getD i (0, 0)).2 = if i < 8 ∨ i = 28 then 0 else (i - 4) / 4 := by decide +kernel
  rw [hb i hi]
  refine VC.calls (nt := 12) (res := #[.tmp 2]) Try.func18 rfl Try.ntmps18 Try.results18 rfl ?_
  refine VC.seq ?_
  refine VC.region ?_
  refine Ops.r (v := .int .i64 ((0 : Nat) : Int)) (Run.asg rfl) rfl ?_
  refine Ops.nil ?_
  refine thenQ_n ?_
  refine VC.sub [(0, _)] (.cons rfl .nil) ?_
  refine VC.seq ?_
  refine VC.seq ?_
  refine VC.split1 [(0, _)] (.cons rfl .nil) 8 (.bool (decide ((i < 8) ∨ (i = 28)))) ?_ ?_
  · by_cases hs0 : i < 8
    · skip
      refine VC.region ?_
      refine Ops.r (Run.mv rfl) rfl ?_
      refine Ops.r (Run.bin rfl rfl (Bin.lssN _ 8)) rfl ?_
      refine Ops.r (Run.mv rfl) rfl ?_
      refine Ops.sk rfl (by first | rfl | assumption | exact decide_eq_true (by assumption) | exact decide_eq_false (by assumption) | decide | (simp; done) | (simp; omega) | (simp [*]; done)) rfl ?_
      refine Ops.sk rfl (by first | rfl | assumption | exact decide_eq_true (by assumption) | exact decide_eq_false (by assumption) | decide | (simp; done) | (simp; omega) | (simp [*]; done)) rfl ?_
      refine Ops.r (Run.pickT rfl rfl (by first | rfl | assumption | exact decide_eq_true (by assumption) | exact decide_eq_false (by assumption) | decide | (simp; done) | (simp; omega) | (simp [*]; done))) rfl ?_
      refine Ops.nil ?_
      refine thenQ_n ⟨(.cons (by rw [dor1 hs0]; rfl) (.cons rfl .nil)), rfl⟩
    · skip
      refine VC.region ?_
      refine Ops.r (Run.mv rfl) rfl ?_
      refine Ops.r (Run.bin rfl rfl (Bin.lssN _ 8)) rfl ?_
      refine Ops.r (Run.mv rfl) rfl ?_
      refine Ops.rg rfl (by first | rfl | assumption | exact decide_eq_true (by assumption) | exact decide_eq_false (by assumption) | decide | (simp; done) | (simp; omega) | (simp [*]; done)) (Run.mv rfl) rfl ?_
      refine Ops.rg rfl (by first | rfl | assumption | exact decide_eq_true (by assumption) | exact decide_eq_false (by assumption) | decide | (simp; done) | (simp; omega) | (simp [*]; done)) (Run.bin rfl rfl (Bin.eqlN _ 28)) rfl ?_
      refine Ops.r (Run.pickF rfl rfl (by first | rfl | assumption | exact decide_eq_true (by assumption) | exact decide_eq_false (by assumption) | decide | (simp; done) | (simp; omega) | (simp [*]; done))) rfl ?_
      refine Ops.nil ?_
      refine thenQ_n ⟨(.cons (by rw [dor0 hs0]; rfl) (.cons rfl .nil)), rfl⟩
  · intro Γ hΓ
    refine thenQ_n (VC.sub _ hΓ ?_)
    refine VC.condD rfl (fun hc1 => ?_) (fun hc1 => ?_)
    · skip
      refine VC.seq ?_
      refine VC.region ?_
      refine Ops.r (v := .int .i64 ((0 : Nat) : Int)) (Run.asg rfl) rfl ?_
      refine Ops.nil ?_
      refine thenQ_n ?_
      refine VC.sub [(2, _)] (.cons rfl .nil) ?_
      refine VC.ret ?_
      refine thenQ_r (end1 rfl ?_)
      exact ⟨by rw [if_pos hc1], rfl⟩
    · skip
      have h8 : 8 ≤ i := by omega
      refine VC.skip ?_
      refine thenQ_n ?_
      refine VC.sub [(0, _)] (.cons rfl .nil) ?_
      refine VC.seq ?_
      refine VC.region ?_
      refine Ops.r (Run.mv rfl) rfl ?_
      refine Ops.r (Run.bin rfl rfl (Bin.sub_i64 _ 4 (by omega) (by omega))) rfl ?_
      refine Ops.r (Run.bin rfl rfl (Bin.quo_i64 _ 4 (by omega) (by omega))) rfl ?_
      refine Ops.r (Run.asg rfl) rfl ?_
      refine Ops.nil ?_
      refine thenQ_n ?_
      refine VC.sub [(2, _)] (.cons rfl .nil) ?_
      refine VC.ret ?_
      refine end1 rfl ?_
      exact ⟨by rw [if_neg hc1], rfl⟩

set_option maxRecDepth 100000 in
theorem rwayBits_spec (i : Nat) (w : World) (hi : i < 30) : Calls Try.prog 20 #[.int .i64 ((i : Nat) : Int)] w fun e w' => e = .returned (.int .i64 (((wayT.getD i (0, 0)).2 : Nat) : Int)) ∧ w = w' := by
  have hb : ∀ i, i < 30 → (wayT.getD i (0, 0)).2 = if i < 4 then 0 else (i - 2) / 2 := by decide +kernel
  rw [hb i hi]
  refine VC.calls (nt := 8) (res := #[.tmp 2]) Try.func20 rfl Try.ntmps20 Try.results20 rfl ?_
  refine VC.seq ?_
  refine VC.region ?_
  refine Ops.r (v := .int .i64 ((0 : Nat) : Int)) (Run.asg rfl) rfl ?_
  refine Ops.nil ?_
  refine thenQ_n ?_
  refine VC.sub [(0, _)] (.cons rfl .nil) ?_
  refine VC.seq ?_
  refine VC.seq ?_
  refine VC.region ?_
  refine Ops.r (Run.mv rfl) rfl ?_
  refine Ops.r (Run.bin rfl rfl (Bin.lssN _ 4)) rfl ?_
  refine Ops.nil ?_
  refine thenQ_n ?_
  refine VC.sub [(0, _), (4, _)] (.cons rfl (.cons rfl .nil)) ?_
  refine VC.condD rfl (fun hc1 => ?_) (fun hc1 => ?_)
  · skip
    refine VC.seq ?_
    refine VC.region ?_
    refine Ops.r (v := .int .i64 ((0 : Nat) : Int)) (Run.asg rfl) rfl ?_
    refine Ops.nil ?_
    refine thenQ_n ?_
    refine VC.sub [(2, _)] (.cons rfl .nil) ?_
    refine VC.ret ?_
    refine thenQ_r (end1 rfl ?_)
    exact ⟨by rw [if_pos hc1], rfl⟩
  · skip
    refine VC.skip ?_
    refine thenQ_n ?_
    refine VC.sub [(0, _)] (.cons rfl .nil) ?_
    refine VC.seq ?_
    refine VC.region ?_
    refine Ops.r (Run.mv rfl) rfl ?_
    refine Ops.r (Run.bin rfl rfl (Bin.sub_i64 _ 2 (by omega) (by omega))) rfl ?_
    refine Ops.r (Run.bin rfl rfl (Bin.quo_i64 _ 2 (by omega) (by omega))) rfl ?_
    refine Ops.r (Run.asg rfl) rfl ?_
    refine Ops.nil ?_
    refine thenQ_n ?_
    refine VC.sub [(2, _)] (.cons rfl .nil) ?_
    refine VC.ret ?_
    refine end1 rfl ?_
    exact ⟨by rw [if_neg hc1], rfl⟩

set_option maxRecDepth 100000 in
theorem rfail_spec (gx : Nat) (Ab : Option Addr) (cb : Nat) (L : List Bool) (p : Nat) (A : Option Addr) (c : Nat) (out : List Nat) (most e k : Nat) (w : World) (hX : IsY w gx Ab cb L p A c out most e) :
    Calls Try.prog 28 #[.pointer (some ⟨gx, 0, none⟩), .int .i64 ((k : Nat) : Int)] w fun r w' => r = .returned (.tuple #[]) ∧ IsY w' gx Ab cb L p A c out most (if e = 0 then k else e) ∧ Frm [gx] w w' := by
  refine VC.calls (nt := 13) (res := #[]) Try.func28 rfl Try.ntmps28 Try.results28 rfl ?_
  refine VC.seq ?_
  refine VC.region ?_
  refine Ops.r (Run.mv rfl) rfl ?_
  refine Ops.r (Run.nilck rfl) rfl ?_
  refine Ops.r (Run.fieldAddr rfl Try.underlying56 rfl Try.sizeOf3 (by decide)) rfl ?_
  refine Ops.r (Run.load rfl Try.isAgg3 (hX.1.cell 4)) rfl ?_
  refine Ops.r (Run.bin rfl rfl (Bin.eqlN _ 0)) rfl ?_
  refine Ops.nil ?_
  refine thenQ_n ?_
  refine VC.sub [(0, _), (1, _), (8, _)] (.cons rfl (.cons rfl (.cons rfl .nil))) ?_
  refine VC.condD rfl (fun hc1 => ?_) (fun hc1 => ?_)
  · skip
    refine VC.region ?_
    refine Ops.r (Run.mv rfl) rfl ?_
    refine Ops.r (Run.mv rfl) rfl ?_
    refine Ops.r (Run.nilck rfl) rfl ?_
    refine Ops.r (Run.fieldAddr rfl Try.underlying56 rfl Try.sizeOf3 (by decide)) rfl ?_
    refine Ops.st (Acts.store (i := 4) rfl rfl Try.sizeOf3 hX.1 rfl rfl) ?_
    rintro w1 ⟨hb1, hf1, hs1⟩
    refine Ops.nil ?_
    refine end0n ?_
    exact ⟨rfl, by rw [if_pos hc1]; exact hX.upd hb1 hf1 hX.2.2.2.1, hf1⟩
  · skip
    refine VC.skip ?_
    refine end0n ?_
    exact ⟨rfl, by rw [if_neg hc1]; exact hX, Frm.refl _ _⟩

/-- What a number comes to. -/
def NumR (L : List Bool) (n p e v p' e' : Nat) : Prop := (e ≠ 0 ∧ v = 0 ∧ p' = p ∧ e' = e) ∨ (e = 0 ∧ takeF L n p = .ok (v, p') ∧ e' = 0) ∨ (e = 0 ∧ takeF L n p = .error 2 ∧ v = 0 ∧ p' = p ∧ e' = 2)
theorem NumR.lt {L : List Bool} {n p e v p' e' : Nat} (h : NumR L n p e v p' e') : v < 2 ^ n ∧ p ≤ p' := by
  rcases h with ⟨_, rfl, rfl, _⟩ | ⟨_, h, _⟩ | ⟨_, _, rfl, rfl, _⟩
  · exact ⟨Nat.two_pow_pos n, Nat.le_refl _⟩
  · obtain ⟨h1, h2, h3, _⟩ := takeF_ok h
    exact ⟨h3, by omega⟩
  · exact ⟨Nat.two_pow_pos n, Nat.le_refl _⟩

set_option maxRecDepth 100000 in
theorem rnum_spec (gx : Nat) (Ab : Option Addr) (cb : Nat) (L : List Bool) (p : Nat) (A : Option Addr) (c : Nat) (out : List Nat) (most e n : Nat) (w : World) (hn : n ≤ 16) (hX : IsY w gx Ab cb L p A c out most e) :
    Calls Try.prog 27 #[.pointer (some ⟨gx, 0, none⟩), .int .i64 ((n : Nat) : Int)] w fun r w' => ∃ v p' e', r = .returned (.int .i64 ((v : Nat) : Int)) ∧ IsY w' gx Ab cb L p' A c out most e' ∧ Frm [gx] w w' ∧ NumR L n p e v p' e' := by
  have hp := hX.2.2.2.1
  have hL := hX.2.2.2.2.1
  have hXd := hX.frm0 (Drawn.drew w).frm
  have hfd := (Drawn.drew w).frm
  refine VC.calls (nt := 56) (res := #[.tmp 4]) Try.func27 rfl Try.ntmps27 Try.results27 rfl ?_
  refine VC.seq ?_
  refine VC.region ?_
  refine Ops.r (v := .int .i64 ((0 : Nat) : Int)) (Run.asg rfl) rfl ?_
  refine Ops.nil ?_
  refine thenQ_n ?_
  refine VC.sub [(0, _), (1, _)] (.cons rfl (.cons rfl .nil)) ?_
  refine VC.seq ?_
  refine VC.seq ?_
  refine VC.splitR [(0, .pointer (some ⟨gx, 0, none⟩)), (1, .int .i64 ((n : Nat) : Int))] (fun w1 => w1 = w.drew) 23 (.bool (decide (e = 0 ∧ L.length - p < n))) ?_ ?_
  · refine VC.still (by kernel_rfl) (by kernel_rfl) ?_
    refine SOps.r (Run.mv rfl) rfl ?_
    refine SOps.r (Run.nilck rfl) rfl ?_
    refine SOps.r (Run.fieldAddr rfl Try.underlying56 rfl Try.sizeOf3 (by decide)) rfl ?_
    refine SOps.r (Run.load rfl Try.isAgg3 (hXd.1.cell 4)) rfl ?_
    refine SOps.r (Run.bin rfl rfl (Bin.eqlN _ 0)) rfl ?_
    by_cases hs9 : e = 0
    · skip
      refine SOps.r (Run.mv rfl) rfl ?_
      refine SOps.rg rfl (by first | rfl | assumption | exact decide_eq_true (by assumption) | exact decide_eq_false (by assumption) | decide | (simp; done) | (simp; omega) | (simp [*]; done)) (Run.mv rfl) rfl ?_
      refine SOps.rg rfl (by first | rfl | assumption | exact decide_eq_true (by assumption) | exact decide_eq_false (by assumption) | decide | (simp; done) | (simp; omega) | (simp [*]; done)) (Run.mv rfl) rfl ?_
      refine SOps.rg rfl (by first | rfl | assumption | exact decide_eq_true (by assumption) | exact decide_eq_false (by assumption) | decide | (simp; done) | (simp; omega) | (simp [*]; done)) (Run.nilck rfl) rfl ?_
      refine SOps.rg rfl (by first | rfl | assumption | exact decide_eq_true (by assumption) | exact decide_eq_false (by assumption) | decide | (simp; done) | (simp; omega) | (simp [*]; done)) (Run.fieldAddr rfl Try.underlying56 rfl Try.sizeOf53 (by decide)) rfl ?_
      refine SOps.rg rfl (by first | rfl | assumption | exact decide_eq_true (by assumption) | exact decide_eq_false (by assumption) | decide | (simp; done) | (simp; omega) | (simp [*]; done)) (Run.load rfl Try.isAgg53 (hXd.1.cell 0)) rfl ?_
      refine SOps.rg rfl (by first | rfl | assumption | exact decide_eq_true (by assumption) | exact decide_eq_false (by assumption) | decide | (simp; done) | (simp; omega) | (simp [*]; done)) (Run.lenS rfl Try.underlying53) rfl ?_
      refine SOps.rg rfl (by first | rfl | assumption | exact decide_eq_true (by assumption) | exact decide_eq_false (by assumption) | decide | (simp; done) | (simp; omega) | (simp [*]; done)) (Run.mv rfl) rfl ?_
      refine SOps.rg rfl (by first | rfl | assumption | exact decide_eq_true (by assumption) | exact decide_eq_false (by assumption) | decide | (simp; done) | (simp; omega) | (simp [*]; done)) (Run.nilck rfl) rfl ?_
      refine SOps.rg rfl (by first | rfl | assumption | exact decide_eq_true (by assumption) | exact decide_eq_false (by assumption) | decide | (simp; done) | (simp; omega) | (simp [*]; done)) (Run.fieldAddr rfl Try.underlying56 rfl Try.sizeOf3 (by decide)) rfl ?_
      refine SOps.rg rfl (by first | rfl | assumption | exact decide_eq_true (by assumption) | exact decide_eq_false (by assumption) | decide | (simp; done) | (simp; omega) | (simp [*]; done)) (Run.load rfl Try.isAgg3 (hXd.1.cell 1)) rfl ?_
      refine SOps.rg rfl (by first | rfl | assumption | exact decide_eq_true (by assumption) | exact decide_eq_false (by assumption) | decide | (simp; done) | (simp; omega) | (simp [*]; done)) (Run.bin rfl rfl (Bin.sub_i64 _ _ (by omega) (by omega))) rfl ?_
      refine SOps.rg rfl (by first | rfl | assumption | exact decide_eq_true (by assumption) | exact decide_eq_false (by assumption) | decide | (simp; done) | (simp; omega) | (simp [*]; done)) (Run.bin rfl rfl (Bin.gtrN _ _)) rfl ?_
      by_cases hs22 : L.length - p < n
      · skip
        refine SOps.r (Run.pickT rfl rfl (by first | rfl | assumption | exact decide_eq_true (by assumption) | exact decide_eq_false (by assumption) | decide | (simp; done) | (simp; omega) | (simp [*]; done))) rfl ?_
        refine SOps.nil ?_
        refine thenQ_n ⟨(.cons (congrArg (fun b => some (Value.bool b)) (by simp [*])) (.cons rfl (.cons rfl .nil))), (rfl)⟩
      · skip
        refine SOps.r (Run.pickT rfl rfl (by first | rfl | assumption | exact decide_eq_true (by assumption) | exact decide_eq_false (by assumption) | decide | (simp; done) | (simp; omega) | (simp [*]; done))) rfl ?_
        refine SOps.nil ?_
        refine thenQ_n ⟨(.cons (congrArg (fun b => some (Value.bool b)) (by simp [*])) (.cons rfl (.cons rfl .nil))), (rfl)⟩
    · skip
      refine SOps.r (Run.mv rfl) rfl ?_
      refine SOps.sk rfl (by first | rfl | assumption | exact decide_eq_true (by assumption) | exact decide_eq_false (by assumption) | decide | (simp; done) | (simp; omega) | (simp [*]; done)) rfl ?_
      refine SOps.sk rfl (by first | rfl | assumption | exact decide_eq_true (by assumption) | exact decide_eq_false (by assumption) | decide | (simp; done) | (simp; omega) | (simp [*]; done)) rfl ?_
      refine SOps.sk rfl (by first | rfl | assumption | exact decide_eq_true (by assumption) | exact decide_eq_false (by assumption) | decide | (simp; done) | (simp; omega) | (simp [*]; done)) rfl ?_
      refine SOps.sk rfl (by first | rfl | assumption | exact decide_eq_true (by assumption) | exact decide_eq_false (by assumption) | decide | (simp; done) | (simp; omega) | (simp [*]; done)) rfl ?_
      refine SOps.sk rfl (by first | rfl | assumption | exact decide_eq_true (by assumption) | exact decide_eq_false (by assumption) | decide | (simp; done) | (simp; omega) | (simp [*]; done)) rfl ?_
      refine SOps.sk rfl (by first | rfl | assumption | exact decide_eq_true (by assumption) | exact decide_eq_false (by assumption) | decide | (simp; done) | (simp; omega) | (simp [*]; done)) rfl ?_
      refine SOps.sk rfl (by first | rfl | assumption | exact decide_eq_true (by assumption) | exact decide_eq_false (by assumption) | decide | (simp; done) | (simp; omega) | (simp [*]; done)) rfl ?_
      refine SOps.sk rfl (by first | rfl | assumption | exact decide_eq_true (by assumption) | exact decide_eq_false (by assumption) | decide | (simp; done) | (simp; omega) | (simp [*]; done)) rfl ?_
      refine SOps.sk rfl (by first | rfl | assumption | exact decide_eq_true (by assumption) | exact decide_eq_false (by assumption) | decide | (simp; done) | (simp; omega) | (simp [*]; done)) rfl ?_
      refine SOps.sk rfl (by first | rfl | assumption | exact decide_eq_true (by assumption) | exact decide_eq_false (by assumption) | decide | (simp; done) | (simp; omega) | (simp [*]; done)) rfl ?_
      refine SOps.sk rfl (by first | rfl | assumption | exact decide_eq_true (by assumption) | exact decide_eq_false (by assumption) | decide | (simp; done) | (simp; omega) | (simp [*]; done)) rfl ?_
      refine SOps.sk rfl (by first | rfl | assumption | exact decide_eq_true (by assumption) | exact decide_eq_false (by assumption) | decide | (simp; done) | (simp; omega) | (simp [*]; done)) rfl ?_
      refine SOps.r (Run.pickF rfl rfl (by first | rfl | assumption | exact decide_eq_true (by assumption) | exact decide_eq_false (by assumption) | decide | (simp; done) | (simp; omega) | (simp [*]; done))) rfl ?_
      refine SOps.nil ?_
      refine thenQ_n ⟨(.cons (congrArg (fun b => some (Value.bool b)) (by simp [*])) (.cons rfl (.cons rfl .nil))), (rfl)⟩
  · intro Γ w1 hΓ hd1
    refine thenQ_n (VC.sub _ hΓ ?_)
    refine VC.condD rfl (fun hc1 => ?_) (fun hc1 => ?_)
    · skip
      obtain ⟨rfl, hlt⟩ := hc1
      subst hd1
      refine VC.region ?_
      refine Ops.r (Run.mv rfl) rfl ?_
      refine Ops.cl (Enters.fn (evs.cons rfl (evs.cons rfl evs.nil)) Try.call28) (rfail_spec gx Ab cb L p A c out most 0 2 _ hXd) rfl ?_
      rintro r w2 ⟨rfl, hX2, hf2⟩
      refine ⟨_, rfl, ?_⟩
      rw [if_pos rfl] at hX2
      refine Ops.nil ?_
      refine thenQ_n ?_
      refine VC.sub [(0, _), (1, _)] (.cons rfl (.cons rfl .nil)) ?_
      refine VC.seq ?_
      refine VC.seq ?_
      refine VC.region ?_
      refine Ops.r (Run.mv rfl) rfl ?_
      refine Ops.r (Run.nilck rfl) rfl ?_
      refine Ops.r (Run.fieldAddr rfl Try.underlying56 rfl Try.sizeOf3 (by decide)) rfl ?_
      refine Ops.r (Run.load rfl Try.isAgg3 (hX2.1.cell 4)) rfl ?_
      refine Ops.r (Run.bin rfl rfl (Bin.neqN _ 0)) rfl ?_
      refine Ops.nil ?_
      refine thenQ_n ?_
      refine VC.sub [(0, _), (1, _), (30, _)] (.cons rfl (.cons rfl (.cons rfl .nil))) ?_
      refine VC.condT rfl (by simp) ?_
      refine VC.seq ?_
      refine VC.region ?_
      refine Ops.r (v := .int .i64 ((0 : Nat) : Int)) (Run.asg rfl) rfl ?_
      refine Ops.nil ?_
      refine thenQ_n ?_
      refine VC.sub [(4, _)] (.cons rfl .nil) ?_
      refine VC.ret ?_
      refine thenQ_r (end1 rfl ?_)
      refine ⟨0, p, 2, rfl, hX2, (hfd.mono (by simp)).trans hf2 (fun x hx => .inl hx), .inr (.inr ⟨rfl, ?_, rfl, rfl, rfl⟩)⟩
      unfold takeF
      rw [if_neg (by omega)]
    · skip
      subst hd1
      have hX2 := hXd
      refine VC.skip ?_
      refine thenQ_n ?_
      refine VC.sub [(0, _), (1, _)] (.cons rfl (.cons rfl .nil)) ?_
      refine VC.seq ?_
      refine VC.seq ?_
      refine VC.region ?_
      refine Ops.r (Run.mv rfl) rfl ?_
      refine Ops.r (Run.nilck rfl) rfl ?_
      refine Ops.r (Run.fieldAddr rfl Try.underlying56 rfl Try.sizeOf3 (by decide)) rfl ?_
      refine Ops.r (Run.load rfl Try.isAgg3 (hX2.1.cell 4)) rfl ?_
      refine Ops.r (Run.bin rfl rfl (Bin.neqN _ 0)) rfl ?_
      refine Ops.nil ?_
      refine thenQ_n ?_
      refine VC.sub [(0, _), (1, _), (30, _)] (.cons rfl (.cons rfl (.cons rfl .nil))) ?_
      refine VC.condD rfl (fun hc2 => ?_) (fun hc2 => ?_)
      · skip
        refine VC.seq ?_
        refine VC.region ?_
        refine Ops.r (v := .int .i64 ((0 : Nat) : Int)) (Run.asg rfl) rfl ?_
        refine Ops.nil ?_
        refine thenQ_n ?_
        refine VC.sub [(4, _)] (.cons rfl .nil) ?_
        refine VC.ret ?_
        refine thenQ_r (end1 rfl ?_)
        exact ⟨0, p, e, rfl, hX2, hfd.mono (by simp), .inl ⟨hc2, rfl, rfl, rfl⟩⟩
      · skip
        have he : e = 0 := by simpa using hc2
        have hle : p + n ≤ L.length := by
          have : ¬ L.length - p < n := fun h => hc1 ⟨he, h⟩
          omega
        refine VC.skip ?_
        refine thenQ_n ?_
        refine VC.sub [(0, _), (1, _)] (.cons rfl (.cons rfl .nil)) ?_
        refine VC.seq ?_
        refine VC.region ?_
        refine Ops.r (Run.mv rfl) rfl ?_
        refine Ops.r (Run.nilck rfl) rfl ?_
        refine Ops.r (Run.fieldAddr rfl Try.underlying56 rfl Try.sizeOf3 (by decide)) rfl ?_
        refine Ops.r (Run.load rfl Try.isAgg3 (hX2.1.cell 1)) rfl ?_
        refine Ops.r (Run.mv rfl) rfl ?_
        refine Ops.r (Run.bin rfl rfl (Bin.add_i64 _ _ (by omega))) rfl ?_
        refine Ops.r (Run.nilck rfl) rfl ?_
        refine Ops.r (Run.fieldAddr rfl Try.underlying56 rfl Try.sizeOf3 (by decide)) rfl ?_
        refine Ops.st (Acts.store (i := 1) (v := .int .i64 ((p + n : Nat) : Int)) rfl rfl Try.sizeOf3 hX2.1 rfl rfl) ?_
        rintro w3 ⟨hb3, hf3, hs3⟩
        have hX3 := hX2.upd hb3 hf3 hle
        have hX4 := hX3.frm0 (Drawn.drew w3).frm
        have hf4 : Frm [gx] w w3.drew := ((hfd.mono (T := [gx]) (by simp)).trans hf3 (fun x hx => .inl hx)).drawn (Drawn.drew w3)
        refine Ops.nil ?_
        refine thenQ_n ?_
        refine VC.sub [(0, _), (1, _)] (.cons rfl (.cons rfl .nil)) ?_
        refine VC.seq ?_
        refine VC.held (fun v => Blk v gx 56 #[.slice Ab L.length cb, .int .i64 ((p + n : Nat) : Int), .slice A out.length c, .int .i64 ((most : Nat) : Int), .int .i64 ((e : Nat) : Int)]) (by kernel_rfl) ?_
        have hS : (fun v => Blk v gx 56 #[.slice Ab L.length cb, .int .i64 ((p + n : Nat) : Int), .slice A out.length c, .int .i64 ((most : Nat) : Int), .int .i64 ((e : Nat) : Int)]) w3.drew := hX4.1
        have hcap := hX4.2.1.le
        have hv := num_lt ((L.drop p).take n)
        rw [List.length_take, List.length_drop, Nat.min_eq_left (by omega)] at hv
        have hv2 : 2 ^ n ≤ 2 ^ 16 := Nat.pow_le_pow_right (by omega) hn
        refine HOps.take 0 rfl (by kernel_rfl) (by kernel_rfl) (by kernel_rfl) hS (fun w0 hw0 => Run.mv rfl) trivial rfl rfl ?_
        refine HOps.take 1 rfl (by kernel_rfl) (by kernel_rfl) (by kernel_rfl) hS (fun w0 hw0 => Run.nilck rfl) trivial rfl rfl ?_
        refine HOps.take 2 rfl (by kernel_rfl) (by kernel_rfl) (by kernel_rfl) hS (fun w0 hw0 => Run.fieldAddr rfl Try.underlying56 rfl Try.sizeOf53 (by decide)) trivial rfl rfl ?_
        refine HOps.take 3 rfl (by kernel_rfl) (by kernel_rfl) (by kernel_rfl) hS (fun w0 hw0 => Run.load rfl Try.isAgg53 (hw0.cell 0)) trivial rfl rfl ?_
        refine HOps.take 4 rfl (by kernel_rfl) (by kernel_rfl) (by kernel_rfl) hS (fun w0 hw0 => Run.mv rfl) trivial rfl rfl ?_
        refine HOps.take 5 rfl (by kernel_rfl) (by kernel_rfl) (by kernel_rfl) hS (fun w0 hw0 => Run.nilck rfl) trivial rfl rfl ?_
        refine HOps.take 6 rfl (by kernel_rfl) (by kernel_rfl) (by kernel_rfl) hS (fun w0 hw0 => Run.fieldAddr rfl Try.underlying56 rfl Try.sizeOf3 (by decide)) trivial rfl rfl ?_
        refine HOps.take 7 rfl (by kernel_rfl) (by kernel_rfl) (by kernel_rfl) hS (fun w0 hw0 => Run.load rfl Try.isAgg3 (hw0.cell 1)) trivial rfl rfl ?_
        refine HOps.take 8 rfl (by kernel_rfl) (by kernel_rfl) (by kernel_rfl) hS (fun w0 hw0 => Run.mv rfl) trivial rfl rfl ?_
        refine HOps.take 9 rfl (by kernel_rfl) (by kernel_rfl) (by kernel_rfl) hS (fun w0 hw0 => Run.bin rfl rfl (Bin.sub_i64 _ _ (by omega) (by omega))) trivial rfl rfl ?_
        rw [Nat.add_sub_cancel]
        refine HOps.take 10 rfl (by kernel_rfl) (by kernel_rfl) (by kernel_rfl) hS (fun w0 hw0 => Run.mv rfl) trivial rfl rfl ?_
        refine HOps.take 11 rfl (by kernel_rfl) (by kernel_rfl) (by kernel_rfl) hS (fun w0 hw0 => Run.nilck rfl) trivial rfl rfl ?_
        refine HOps.take 12 rfl (by kernel_rfl) (by kernel_rfl) (by kernel_rfl) hS (fun w0 hw0 => Run.fieldAddr rfl Try.underlying56 rfl Try.sizeOf3 (by decide)) trivial rfl rfl ?_
        refine HOps.take 13 rfl (by kernel_rfl) (by kernel_rfl) (by kernel_rfl) hS (fun w0 hw0 => Run.load rfl Try.isAgg3 (hw0.cell 1)) trivial rfl rfl ?_
        refine HOps.take 14 rfl (by kernel_rfl) (by kernel_rfl) (by kernel_rfl) hS (fun w0 hw0 => Run.sliceS _ _ rfl Try.underlying53 Try.sizeOf4 (evB.some_ rfl) (evB.some_ rfl) (by omega) (by omega)) trivial rfl rfl ?_
        refine HOps.cl 15 rfl (by kernel_rfl) (Enters.fn (evs.cons rfl evs.nil) Try.call41) (number_at _ _ ((L.drop p).take n) (p + n - p) _ (by simp; omega) (by omega) (BL_cutn hX4.2.1.rd p n (by omega) hcap)) trivial rfl rfl ?_
        rintro e2 _ ⟨rfl, rfl⟩
        refine ⟨_, rfl, hS, ?_⟩
        refine HOps.take 16 rfl (by kernel_rfl) (by kernel_rfl) (by kernel_rfl) hS (fun w0 hw0 => Run.convN _ rfl Try.underlying74 Try.underlying3 (by simp only [bmax]; omega)) trivial rfl rfl ?_
        refine HOps.take 17 rfl (by kernel_rfl) (by kernel_rfl) (by kernel_rfl) hS (fun w0 hw0 => Run.asg rfl) trivial rfl rfl ?_
        refine HOps.done (by kernel_rfl) ?_
        refine thenQ_n ?_
        refine VC.sub [(4, _)] (.cons rfl .nil) ?_
        refine VC.ret ?_
        refine end1 rfl ?_
        subst he
        refine ⟨_, _, _, rfl, hX4, hf4, .inr (.inl ⟨rfl, ?_, rfl⟩)⟩
        unfold takeF
        rw [if_pos hle]

end Go.Proofs.Ytfjhmbgckmhdaaa
