/-
  The walk of canon: what a decoder takes.
-/
import Derived.Test.YtfjhmbgckmhdaaaCanC
import Derived.Test.YtfjhmbgckmhdaaaBitsT
namespace Go.Proofs.Ytfjhmbgckmhdaaa
open Go.RowKit

theorem hit_none {l : List Int} {n v : Nat} (h : ¬ (fst' l n ≤ v ∧ v - fst' l n < cn l n)) : hit l n v = none := by unfold hit; rw [if_neg h]
theorem hit_some {l : List Int} {n v : Nat} (h : fst' l n ≤ v ∧ v - fst' l n < cn l n) : hit l n v = some ((order l).getD (atL l n + (v - fst' l n)) 0) := by unfold hit; rw [if_pos h]
theorem or_bit (v : Nat) (b : Bool) : (v * 2 ^ 1) ||| b.toNat = 2 * v + b.toNat := by
  have h := or_top b.toNat 1 true (by cases b <;> decide)
  have h2 : (v * 2 ^ 1) ||| b.toNat = v * 2 ^ 1 + b.toNat := by
    rw [Nat.mul_comm, ← Nat.two_pow_add_eq_or_of_lt (by cases b <;> decide)]
  rw [h2]
  omega

set_option maxRecDepth 100000 in
theorem takeD_spec (g gr : Nat) (B Ar : Option Addr) (c : Nat) (l : List Int) (most p : Nat) (bs : List Nat) (w : World) (hl : l.length ≤ 320) (hm : most ≤ 15) (hp : p ≤ 8 * bs.length) (hbs : bs.length ≤ 1000000000) (hB : ∀ b ∈ bs, b < 256)
    (hD : IsD w g B c (cn l) (fst' l) (order l) most) (hR : IsR w gr Ar bs p) :
    Calls Try.prog 62 #[.pointer (some ⟨g, 0, none⟩), .pointer (some ⟨gr, 0, none⟩)] w fun e w' => e = .returned (.tuple #[.int .i64 (((tk l (ofB bs) most 1 0 p).1 : Nat) : Int), .int .i64 (((tk l (ofB bs) most 1 0 p).2.2 : Nat) : Int)]) ∧
      (tk l (ofB bs) most 1 0 p).2.1 ≤ 8 * bs.length ∧ IsR w' gr Ar bs (tk l (ofB bs) most 1 0 p).2.1 ∧ Frm [gr] w w' := by
  have hgr : g ≠ gr := hD.1.ne hR.choose_spec.1 (by decide)
  have hgB : gr ∉ ob B := hD.2.ne_blk hR.choose_spec.1 (by decide)
  have hne : ∀ x ∈ g :: ob B, x ∉ [gr] := by
    intro x hx hx2
    simp at hx2
    subst hx2
    rcases List.mem_cons.1 hx with h | h
    · exact hgr h.symm
    · exact hgB h
  generalize hT : tk l (ofB bs) most 1 0 p = R
  have holen := ordTo_len l 16
  have hbl := ofB_len bs
  refine VC.calls (nt := 77) (res := #[.tmp 4, .tmp 5]) Try.func62 rfl Try.ntmps62 Try.results62 rfl ?_
  refine VC.seq ?_
  refine VC.region ?_
  refine Ops.r (v := .int .i64 ((0 : Nat) : Int)) (Run.asg rfl) rfl ?_
  refine Ops.r (v := .int .i64 ((0 : Nat) : Int)) (Run.asg rfl) rfl ?_
  refine Ops.nil ?_
  refine thenQ_n ?_
  refine VC.sub [(0, _), (1, _)] (.cons rfl (.cons rfl .nil)) ?_
  refine VC.seq ?_
  refine VC.region ?_
  refine Ops.r (v := .int .u64 ((0 : Nat) : Int)) (Run.asg rfl) rfl ?_
  refine Ops.r (v := .int .i64 ((0 : Nat) : Int)) (Run.asg rfl) rfl ?_
  refine Ops.nil ?_
  refine thenQ_n ?_
  refine VC.seq ?_
  refine VC.seq ?_
  refine VC.region ?_
  refine Ops.r (v := .int .i64 ((1 : Nat) : Int)) (Run.asg rfl) rfl ?_
  refine Ops.nil ?_
  refine thenQ_n ?_
  refine VC.block ?_
  refine VC.loop (σ := Nat × Nat × Nat × Nat) (fun s => [(0, .pointer (some ⟨g, 0, none⟩)), (1, .pointer (some ⟨gr, 0, none⟩)), (6, .int .u64 ((s.2.2.1 : Nat) : Int)), (7, .int .i64 ((atL l s.2.1 : Nat) : Int)), (8, .int .i64 ((s.2.1 : Nat) : Int))]) (fun s wr => s.1 + s.2.1 = most + 1 ∧ 1 ≤ s.2.1 ∧ s.2.2.1 < 2 ^ (s.2.1 - 1) ∧ s.2.2.2 ≤ 8 * bs.length ∧ tk l (ofB bs) s.1 s.2.1 s.2.2.1 s.2.2.2 = R ∧ IsR wr gr Ar bs s.2.2.2 ∧ IsD wr g B c (cn l) (fst' l) (order l) most ∧ Frm [gr] w wr) (fun s => s.1) (most, 1, 0, p) (.cons rfl (.cons rfl (.cons rfl (.cons (by rw [show atL l 1 = 0 by simp [atL, cn]]; rfl) (.cons rfl .nil))))) ⟨rfl, Nat.le_refl 1, by simp, hp, hT, hR, hD, Frm.refl _ _⟩ ?_
  clear hT hR hp hD
  rintro ⟨m, n, v, q⟩ wr ⟨hmn, hn1, hv, hq, hT, hR, hD, hfr⟩
  dsimp only at hmn hn1 hv hq hT hR hD hfr ⊢
  refine VC.seq ?_
  refine VC.seq ?_
  refine VC.region ?_
  refine Ops.r (Run.mv rfl) rfl ?_
  refine Ops.r (Run.mv rfl) rfl ?_
  refine Ops.r (Run.nilck rfl) rfl ?_
  refine Ops.r (Run.fieldAddr rfl Try.underlying100 rfl Try.sizeOf3 (by decide)) rfl ?_
  refine Ops.r (Run.load rfl Try.isAgg3 (hD.1.cell 33)) rfl ?_
  refine Ops.r (Run.bin rfl rfl (Bin.leqN _ _)) rfl ?_
  refine Ops.nil ?_
  refine thenQ_n ?_
  refine VC.sub [(0, _), (1, _), (6, _), (7, _), (8, _), (17, _)] (.cons rfl (.cons rfl (.cons rfl (.cons rfl (.cons rfl (.cons rfl .nil)))))) ?_
  refine VC.condD rfl (fun hc1 => ?_) (fun hc1 => ?_)
  · skip
    obtain ⟨m, rfl⟩ : ∃ k, m = k + 1 := ⟨m - 1, by omega⟩
    have hpw : 2 ^ (n - 1) ≤ 2 ^ 14 := Nat.pow_le_pow_right (by omega) (by omega)
    have hpn : 2 ^ n = 2 ^ (n - 1) * 2 := by rw [← Nat.pow_succ]; congr 1; omega
    have hsm := fst_small l hl n (by omega)
    have hat := atL_le l (n + 1)
    have hat2 : atL l (n + 1) = atL l n + cn l n := rfl
    have hat16 := atL_mono l (show n + 1 ≤ 16 by omega)
    refine VC.skip ?_
    refine thenQ_n ?_
    refine VC.sub [(0, _), (1, _), (6, _), (7, _), (8, _)] (.cons rfl (.cons rfl (.cons rfl (.cons rfl (.cons rfl .nil))))) ?_
    refine VC.seq ?_
    refine VC.block ?_
    refine VC.seq ?_
    refine VC.region ?_
    refine Ops.r (Run.mv rfl) rfl ?_
    refine Ops.cl (Enters.fn (evs.cons rfl (evs.cons rfl evs.nil)) Try.call45) (take_any gr q 1 Ar bs _ hq (by omega) hB hR) rfl ?_
    rintro e w4 ⟨b0, e4, q4, rfl, hTk, hq4, hR4, hf4⟩
    refine ⟨_, rfl, ?_⟩
    have hD4 := hD.frm hf4 hne
    have hfr4 := hfr.trans hf4 (by simp)
    obtain ⟨k1, hk1, _, hTk⟩ := hTk.resolve_left (by omega)
    have hk1 : k1 = 1 := by omega
    subst hk1
    refine Ops.r (Run.mv rfl) rfl ?_
    refine Ops.r (Run.extract rfl rfl) rfl ?_
    refine Ops.r (Run.extract rfl rfl) rfl ?_
    refine Ops.r (Run.asg rfl) rfl ?_
    refine Ops.r (Run.asg rfl) rfl ?_
    refine Ops.nil ?_
    refine thenQ_n ?_
    refine VC.sub [(0, _), (1, _), (6, _), (7, _), (8, _), (9, _), (10, _)] (.cons rfl (.cons rfl (.cons rfl (.cons rfl (.cons rfl (.cons rfl (.cons rfl .nil))))))) ?_
    refine VC.seq ?_
    refine VC.seq ?_
    refine VC.region ?_
    refine Ops.r (Run.mv rfl) rfl ?_
    refine Ops.r (Run.bin rfl rfl (Bin.neqN _ 0)) rfl ?_
    refine Ops.nil ?_
    refine thenQ_n ?_
    refine VC.sub [(0, _), (1, _), (6, _), (7, _), (8, _), (9, _), (10, _), (26, _)] (.cons rfl (.cons rfl (.cons rfl (.cons rfl (.cons rfl (.cons rfl (.cons rfl (.cons rfl .nil)))))))) ?_
    refine VC.condD rfl (fun hc2 => ?_) (fun hc2 => ?_)
    · skip
      obtain ⟨hq5, rfl, rfl, rfl⟩ := hTk.resolve_right (fun h => by have := h.2.2.1; omega)
      have hnone : (ofB bs)[q4]? = none := List.getElem?_eq_none (by omega)
      rw [tk, hnone] at hT
      dsimp only at hT
      subst hT
      refine VC.seq ?_
      refine VC.region ?_
      refine Ops.r (Run.mv rfl) rfl ?_
      refine Ops.r (v := .int .i64 ((0 : Nat) : Int)) (Run.asg rfl) rfl ?_
      refine Ops.r (Run.asg rfl) rfl ?_
      refine Ops.nil ?_
      refine thenQ_n ?_
      refine VC.sub [(4, _), (5, _)] (.cons rfl (.cons rfl .nil)) ?_
      refine VC.ret ?_
      refine thenQ_r (blockQ_r (thenQ_r (thenQ_r (blockQ_r (thenQ_r (end2 rfl rfl ?_))))))
      exact ⟨rfl, hq4, hR4, hfr4⟩
    · skip
      obtain ⟨hq5, hb0, _, rfl⟩ := hTk.resolve_left (fun h => by have := h.2.2.1; omega)
      obtain ⟨b, hb⟩ : ∃ b, (ofB bs)[q]? = some b := ⟨_, List.getElem?_eq_getElem (show q < (ofB bs).length by omega)⟩
      have hb0e : b0 = b.toNat := by rw [hb0, take1 _ _ _ hb]; simp [num]
      clear hb0
      subst hb0e
      have hb1 : b.toNat ≤ 1 := Bool.toNat_le _
      rw [tk, hb] at hT
      dsimp only at hT
      refine VC.skip ?_
      refine thenQ_n ?_
      refine VC.sub [(0, _), (1, _), (6, _), (7, _), (8, _), (9, _)] (.cons rfl (.cons rfl (.cons rfl (.cons rfl (.cons rfl (.cons rfl .nil)))))) ?_
      refine VC.seq ?_
      refine VC.region ?_
      refine Ops.r (Run.mv rfl) rfl ?_
      refine Ops.r (Run.bin rfl rfl (Bin.shl_u64 _ 1 (by omega) (by omega))) rfl ?_
      refine Ops.r (Run.mv rfl) rfl ?_
      refine Ops.r (Run.bin rfl rfl (Bin.or_u64 _ _ (by omega) (by omega))) rfl ?_
      rw [or_bit]
      refine Ops.r (Run.asg rfl) rfl ?_
      refine Ops.nil ?_
      refine thenQ_n ?_
      refine VC.sub [(0, _), (1, _), (6, _), (7, _), (8, _)] (.cons rfl (.cons rfl (.cons rfl (.cons rfl (.cons rfl .nil))))) ?_
      refine VC.seq ?_
      refine VC.seq ?_
      refine VC.region ?_
      refine Ops.r (Run.mv rfl) rfl ?_
      refine Ops.r (Run.mv rfl) rfl ?_
      refine Ops.r (Run.mv rfl) rfl ?_
      refine Ops.r (Run.nilck rfl) rfl ?_
      refine Ops.r (Run.fieldAddr rfl Try.underlying100 rfl Try.sizeOf97 (by decide)) rfl ?_
      refine Ops.r (Run.indexA1 _ rfl rfl Try.underlying97 Try.sizeOf74 (by omega)) rfl ?_
      refine Ops.r (Run.load rfl Try.isAgg74 (by simpa using (hD4.1.cell (16 + n)).trans (DC_f _ _ _ _ _ _ n (by omega)))) rfl ?_
      refine Ops.r (Run.bin rfl rfl (Bin.subU _ _ (by omega))) rfl ?_
      refine Ops.r (Run.asg rfl) rfl ?_
      refine Ops.nil ?_
      refine thenQ_n ?_
      refine VC.sub [(0, _), (1, _), (6, _), (7, _), (8, _), (11, _)] (.cons rfl (.cons rfl (.cons rfl (.cons rfl (.cons rfl (.cons rfl .nil)))))) ?_
      refine VC.seq ?_
      refine VC.split1 [(0, _), (1, _), (6, _), (7, _), (8, _), (11, _)] (.cons rfl (.cons rfl (.cons rfl (.cons rfl (.cons rfl (.cons rfl .nil)))))) 58 (.bool (decide (fst' l n ≤ 2 * v + b.toNat ∧ 2 * v + b.toNat - fst' l n < cn l n))) ?_ ?_
      · refine VC.region ?_
        refine Ops.r (Run.mv rfl) rfl ?_
        refine Ops.r (Run.mv rfl) rfl ?_
        refine Ops.r (Run.mv rfl) rfl ?_
        refine Ops.r (Run.nilck rfl) rfl ?_
        refine Ops.r (Run.fieldAddr rfl Try.underlying100 rfl Try.sizeOf97 (by decide)) rfl ?_
        refine Ops.r (Run.indexA1 _ rfl rfl Try.underlying97 Try.sizeOf74 (by omega)) rfl ?_
        refine Ops.r (Run.load rfl Try.isAgg74 (by simpa using (hD4.1.cell (16 + n)).trans (DC_f _ _ _ _ _ _ n (by omega)))) rfl ?_
        refine Ops.r (Run.bin rfl rfl (Bin.geqN _ _)) rfl ?_
        by_cases hs47 : fst' l n ≤ 2 * v + b.toNat
        · skip
          have hsub : (2 * v + b.toNat + 18446744073709551616 - fst' l n) % 18446744073709551616 = 2 * v + b.toNat - fst' l n := by omega
          refine Ops.r (Run.mv rfl) rfl ?_
          refine Ops.rg rfl (by first | rfl | assumption | decide | (simp; done) | (simp; omega) | (simp [*]; done)) (Run.mv rfl) rfl ?_
          refine Ops.rg rfl (by first | rfl | assumption | decide | (simp; done) | (simp; omega) | (simp [*]; done)) (Run.mv rfl) rfl ?_
          refine Ops.rg rfl (by first | rfl | assumption | decide | (simp; done) | (simp; omega) | (simp [*]; done)) (Run.mv rfl) rfl ?_
          refine Ops.rg rfl (by first | rfl | assumption | decide | (simp; done) | (simp; omega) | (simp [*]; done)) (Run.nilck rfl) rfl ?_
          refine Ops.rg rfl (by first | rfl | assumption | decide | (simp; done) | (simp; omega) | (simp [*]; done)) (Run.fieldAddr rfl Try.underlying100 rfl Try.sizeOf94 (by decide)) rfl ?_
          refine Ops.rg rfl (by first | rfl | assumption | decide | (simp; done) | (simp; omega) | (simp [*]; done)) (Run.indexA1 _ rfl rfl Try.underlying94 Try.sizeOf3 (by omega)) rfl ?_
          refine Ops.rg rfl (by first | rfl | assumption | decide | (simp; done) | (simp; omega) | (simp [*]; done)) (Run.load rfl Try.isAgg3 (by simpa using (hD4.1.cell n).trans (DC_c _ _ _ _ _ _ n (by omega)))) rfl ?_
          refine Ops.rg rfl (by first | rfl | assumption | decide | (simp; done) | (simp; omega) | (simp [*]; done)) (Run.convN _ rfl Try.underlying3 Try.underlying74 (by simp only [bmax]; omega)) rfl ?_
          refine Ops.rg rfl (by first | rfl | assumption | decide | (simp; done) | (simp; omega) | (simp [*]; done)) (Run.bin rfl rfl (Bin.lssN _ _)) rfl ?_
          by_cases hs57 : 2 * v + b.toNat - fst' l n < cn l n
          · skip
            refine Ops.r (Run.pickT rfl rfl (by first | rfl | assumption | decide | (simp; done) | (simp; omega) | (simp [*]; done))) rfl ?_
            refine Ops.nil ?_
            refine thenQ_n ⟨(.cons (congrArg (fun b => some (Value.bool b)) (by simp [*])) (.cons rfl (.cons rfl (.cons rfl (.cons rfl (.cons rfl (.cons rfl .nil))))))), rfl⟩
          · skip
            refine Ops.r (Run.pickT rfl rfl (by first | rfl | assumption | decide | (simp; done) | (simp; omega) | (simp [*]; done))) rfl ?_
            refine Ops.nil ?_
            refine thenQ_n ⟨(.cons (congrArg (fun b => some (Value.bool b)) (by simp [*])) (.cons rfl (.cons rfl (.cons rfl (.cons rfl (.cons rfl (.cons rfl .nil))))))), rfl⟩
        · skip
          refine Ops.r (Run.mv rfl) rfl ?_
          refine Ops.sk rfl (by first | rfl | assumption | decide | (simp; done) | (simp; omega) | (simp [*]; done)) rfl ?_
          refine Ops.sk rfl (by first | rfl | assumption | decide | (simp; done) | (simp; omega) | (simp [*]; done)) rfl ?_
          refine Ops.sk rfl (by first | rfl | assumption | decide | (simp; done) | (simp; omega) | (simp [*]; done)) rfl ?_
          refine Ops.sk rfl (by first | rfl | assumption | decide | (simp; done) | (simp; omega) | (simp [*]; done)) rfl ?_
          refine Ops.sk rfl (by first | rfl | assumption | decide | (simp; done) | (simp; omega) | (simp [*]; done)) rfl ?_
          refine Ops.sk rfl (by first | rfl | assumption | decide | (simp; done) | (simp; omega) | (simp [*]; done)) rfl ?_
          refine Ops.sk rfl (by first | rfl | assumption | decide | (simp; done) | (simp; omega) | (simp [*]; done)) rfl ?_
          refine Ops.sk rfl (by first | rfl | assumption | decide | (simp; done) | (simp; omega) | (simp [*]; done)) rfl ?_
          refine Ops.sk rfl (by first | rfl | assumption | decide | (simp; done) | (simp; omega) | (simp [*]; done)) rfl ?_
          refine Ops.r (Run.pickF rfl rfl (by first | rfl | assumption | decide | (simp; done) | (simp; omega) | (simp [*]; done))) rfl ?_
          refine Ops.nil ?_
          refine thenQ_n ⟨(.cons (congrArg (fun b => some (Value.bool b)) (by simp [*])) (.cons rfl (.cons rfl (.cons rfl (.cons rfl (.cons rfl (.cons rfl .nil))))))), rfl⟩
      · intro Γ hΓ
        refine thenQ_n (VC.sub _ hΓ ?_)
        refine VC.condD rfl (fun hc3 => ?_) (fun hc3 => ?_)
        · skip
          have hsub : (2 * v + b.toNat + 18446744073709551616 - fst' l n) % 18446744073709551616 = 2 * v + b.toNat - fst' l n := by omega
          rw [hit_some hc3] at hT
          dsimp only at hT
          subst hT
          have hlt : atL l n + (2 * v + b.toNat - fst' l n) < (order l).length := by unfold order; rw [holen]; omega
          obtain ⟨ad, rfl, hcell⟩ := NI_at hD4.2.rd hlt
          refine VC.seq ?_
          refine VC.region ?_
          refine Ops.r (Run.mv rfl) rfl ?_
          refine Ops.r (Run.nilck rfl) rfl ?_
          refine Ops.r (Run.fieldAddr rfl Try.underlying100 rfl Try.sizeOf37 (by decide)) rfl ?_
          refine Ops.r (Run.load rfl Try.isAgg37 (hD4.1.cell 32)) rfl ?_
          refine Ops.r (Run.mv rfl) rfl ?_
          refine Ops.r (Run.mv rfl) rfl ?_
          refine Ops.r (Run.convN _ rfl Try.underlying74 Try.underlying3 (by simp only [bmax]; omega)) rfl ?_
          refine Ops.r (Run.bin rfl rfl (Bin.add_i64 _ _ (by omega))) rfl ?_
          refine Ops.r (Run.index1 _ rfl rfl Try.underlying37 Try.sizeOf3 (by omega)) rfl ?_
          refine Ops.r (Run.load rfl Try.isAgg3 (by rw [hsub]; exact hcell)) rfl ?_
          refine Ops.r (Run.asg rfl) rfl ?_
          refine Ops.r (v := .int .i64 ((0 : Nat) : Int)) (Run.asg rfl) rfl ?_
          refine Ops.nil ?_
          refine thenQ_n ?_
          refine VC.sub [(4, _), (5, _)] (.cons rfl (.cons rfl .nil)) ?_
          refine VC.ret ?_
          refine thenQ_r (blockQ_r (thenQ_r (thenQ_r (blockQ_r (thenQ_r (end2 rfl rfl ?_))))))
          refine ⟨?_, hq4, hR4, hfr4⟩
          rw [List.getD_eq_getElem?_getD, List.getElem?_eq_getElem hlt]
          rfl
        · skip
          rw [hit_none hc3] at hT
          dsimp only at hT
          refine VC.skip ?_
          refine thenQ_n ?_
          refine VC.sub [(0, _), (1, _), (6, _), (7, _), (8, _)] (.cons rfl (.cons rfl (.cons rfl (.cons rfl (.cons rfl .nil))))) ?_
          refine VC.region ?_
          refine Ops.r (Run.mv rfl) rfl ?_
          refine Ops.r (Run.mv rfl) rfl ?_
          refine Ops.r (Run.mv rfl) rfl ?_
          refine Ops.r (Run.nilck rfl) rfl ?_
          refine Ops.r (Run.fieldAddr rfl Try.underlying100 rfl Try.sizeOf94 (by decide)) rfl ?_
          refine Ops.r (Run.indexA1 _ rfl rfl Try.underlying94 Try.sizeOf3 (by omega)) rfl ?_
          refine Ops.r (Run.load rfl Try.isAgg3 (by simpa using (hD4.1.cell n).trans (DC_c _ _ _ _ _ _ n (by omega)))) rfl ?_
          refine Ops.r (Run.bin rfl rfl (Bin.add_i64 _ _ (by omega))) rfl ?_
          refine Ops.r (Run.asg rfl) rfl ?_
          refine Ops.nil ?_
          refine blockQ_n (thenQ_n ?_)
          refine VC.sub [(0, _), (1, _), (6, _), (7, _), (8, _)] (.cons rfl (.cons rfl (.cons rfl (.cons rfl (.cons rfl .nil))))) ?_
          refine VC.region ?_
          refine Ops.r (Run.mv rfl) rfl ?_
          refine Ops.r (Run.bin rfl rfl (Bin.add_i64 _ 1 (by omega))) rfl ?_
          refine Ops.r (Run.asg rfl) rfl ?_
          refine Ops.nil ?_
          refine thenQ_n ⟨(m, n + 1, 2 * v + b.toNat, q + 1), (.cons rfl (.cons rfl (.cons rfl (.cons rfl (.cons rfl .nil))))), ?_, ?_⟩
          · skip
            exact ⟨by dsimp only; omega, by dsimp only; omega, by dsimp only; rw [Nat.add_sub_cancel]; omega, hq4, hT, hR4, hD4, hfr4⟩
          · skip
            first | omega | (dsimp only; omega)
  · skip
    have hm0 : m = 0 := by omega
    subst hm0
    rw [tk] at hT
    subst hT
    refine VC.exit ?_
    refine thenQ_x (thenQ_x (blockQ_x ?_))
    refine thenQ_n ?_
    refine VC.sub [] .nil ?_
    refine VC.seq ?_
    refine VC.region ?_
    refine Ops.r (v := .int .i64 ((0 : Nat) : Int)) (Run.asg rfl) rfl ?_
    refine Ops.r (v := .int .i64 ((11 : Nat) : Int)) (Run.asg rfl) rfl ?_
    refine Ops.nil ?_
    refine thenQ_n ?_
    refine VC.ret ?_
    refine end2 rfl rfl ?_
    exact ⟨rfl, hq, hR, hfr⟩

end Go.Proofs.Ytfjhmbgckmhdaaa
