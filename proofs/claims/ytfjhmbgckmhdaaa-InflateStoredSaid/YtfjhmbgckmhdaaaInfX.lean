/-
  The document's inflating: a block as it is.
-/
import Derived.Test.YtfjhmbgckmhdaaaInfV
namespace Go.Proofs.Ytfjhmbgckmhdaaa
open Go.RowKit

theorem xor_sum {a b : Nat} (ha : a < 2 ^ 16) (hb : b < 2 ^ 16) : a ^^^ b = 65535 ↔ a + b = 65535 := by
  have h1 : ∀ a, a < 2 ^ 16 → a ^^^ 65535 = 65535 - a := fun a ha => by
    have h := congrArg BitVec.toNat (BitVec.xor_allOnes (x := BitVec.ofNat 16 a))
    rw [BitVec.toNat_xor, BitVec.toNat_not, BitVec.toNat_ofNat, BitVec.toNat_allOnes, Nat.mod_eq_of_lt ha] at h
    have e : (2 ^ 16 - 1 : Nat) = 65535 := by decide
    rw [show (2 ^ 16 - 1 - a : Nat) = 65535 - a by omega, e] at h
    exact h
  constructor
  · intro h
    have h2 : b = a ^^^ 65535 := by rw [← h, ← Nat.xor_assoc, Nat.xor_self, Nat.zero_xor]
    rw [h1 a ha] at h2
    omega
  · intro h
    have h2 : b = a ^^^ 65535 := by rw [h1 a ha]; omega
    rw [h2, ← Nat.xor_assoc, Nat.xor_self, Nat.zero_xor]
theorem oct_take {bs : List Nat} (hB : ∀ b ∈ bs, b < 256) {j p : Nat} (hp : p = 8 * j) (hj : j < bs.length) : takeF (ofB bs) 8 p = .ok (bs.getD j 0, p + 8) := by
  subst hp
  have h1 := pack_get (ofB bs) j (by rw [ofB_len]; omega)
  rw [pack_ofB bs hB] at h1
  unfold takeF
  rw [if_pos (by rw [ofB_len]; omega)]
  simp [List.getD, h1]
/-- What a step that may give up comes to. -/
def ResR (F : Except Nat (Nat × List Nat)) (p' : Nat) (out' : List Nat) (e' : Nat) : Prop := match F with
  | .ok x => e' = 0 ∧ p' = x.1 ∧ out' = x.2
  | .error k => e' = k ∧ k ≠ 0
theorem stored_res {bs : List Nat} {most p q v2 p2 e2 v3 p3 e3 e4 e5 i e' : Nat} {out out' : List Nat} (hq : q = (p + 7) / 8 * 8) (hN2 : NumR (ofB bs) 16 q 0 v2 p2 e2) (hN3 : NumR (ofB bs) 16 p2 e2 v3 p3 e3)
    (he4 : e4 = if e3 = 0 ∧ v2 + v3 ≠ 65535 then 3 else e3) (he5 : e5 = if e4 = 0 ∧ (ofB bs).length - p3 < 8 * v2 then 2 else e4) (hi : ¬ (i < v2 ∧ e5 = 0)) (hi2 : i ≤ v2) (hbl : ((bs.drop (p3 / 8)).take i).length = i)
    (hput : (e5 ≠ 0 ∧ e' = e5) ∨ (e5 = 0 ∧ most < out.length + ((bs.drop (p3 / 8)).take i).length ∧ e' = 13) ∨ (e5 = 0 ∧ ¬ most < out.length + ((bs.drop (p3 / 8)).take i).length ∧ e' = 0 ∧ out' = out ++ (bs.drop (p3 / 8)).take i)) : ResR (storedF bs most p out) (p3 + 8 * i) out' e' := by
  unfold storedF
  rw [← hq]
  rcases hN2 with ⟨h, _⟩ | ⟨_, hT2, rfl⟩ | ⟨_, hT2, _, rfl, rfl⟩
  · exact absurd rfl h
  · rw [hT2, bnd_k]
    dsimp only
    rcases hN3 with ⟨h, _⟩ | ⟨_, hT3, rfl⟩ | ⟨_, hT3, _, rfl, rfl⟩
    · exact absurd rfl h
    · rw [hT3, bnd_k]
      dsimp only
      obtain ⟨h1, h2, h3, _⟩ := takeF_ok hT2
      obtain ⟨h4, h5, h6, _⟩ := takeF_ok hT3
      rw [ofB_len] at h2 h5 he5
      have hx := xor_sum h3 h6
      by_cases h7 : v2 + v3 = 65535
      · rw [if_neg (by simpa using hx.2 h7)]
        rw [if_neg (fun h => h.2 h7)] at he4
        subst he4
        have h8 : (8 * bs.length - p3) / 8 < v2 ↔ 8 * bs.length - p3 < 8 * v2 := by omega
        by_cases h9 : 8 * bs.length - p3 < 8 * v2
        · rw [if_pos (h8.2 h9)]
          rw [if_pos ⟨rfl, h9⟩] at he5
          subst he5
          rcases hput with ⟨_, rfl⟩ | ⟨h, _⟩ | ⟨h, _⟩
          · exact ⟨rfl, by decide⟩
          · cases h
          · cases h
        · rw [if_neg (fun h => h9 (h8.1 h))]
          rw [if_neg (fun h => h9 h.2)] at he5
          subst he5
          have hiv : i = v2 := by
            have : ¬ i < v2 := fun h => hi ⟨h, rfl⟩
            omega
          subst hiv
          rw [hbl] at hput
          rcases hput with ⟨h, _⟩ | ⟨_, hm, rfl⟩ | ⟨_, hm, rfl, rfl⟩
          · exact absurd rfl h
          · rw [if_pos hm]; exact ⟨rfl, by decide⟩
          · rw [if_neg hm]; exact ⟨rfl, rfl, rfl⟩
      · rw [if_pos (fun h => h7 (hx.1 h))]
        rw [if_pos ⟨rfl, h7⟩] at he4
        subst he4
        rw [if_neg (fun h => by cases h.1)] at he5
        subst he5
        rcases hput with ⟨_, rfl⟩ | ⟨h, _⟩ | ⟨h, _⟩
        · exact ⟨rfl, by decide⟩
        · cases h
        · cases h
    · rw [hT3, bnd_e]
      rw [if_neg (fun h => by cases h.1)] at he4
      subst he4
      rw [if_neg (fun h => by cases h.1)] at he5
      subst he5
      rcases hput with ⟨_, rfl⟩ | ⟨h, _⟩ | ⟨h, _⟩
      · exact ⟨rfl, by decide⟩
      · cases h
      · cases h
  · rw [hT2, bnd_e]
    rcases hN3 with ⟨_, _, rfl, rfl⟩ | ⟨h, _⟩ | ⟨h, _⟩
    · rw [if_neg (fun h => by cases h.1)] at he4
      subst he4
      rw [if_neg (fun h => by cases h.1)] at he5
      subst he5
      rcases hput with ⟨_, rfl⟩ | ⟨h, _⟩ | ⟨h, _⟩
      · exact ⟨rfl, by decide⟩
      · cases h
      · cases h
    · cases h
    · cases h

set_option maxRecDepth 100000 in
theorem rstored_spec (gx : Nat) (Ab : Option Addr) (cb : Nat) (bs : List Nat) (p : Nat) (A : Option Addr) (c : Nat) (out : List Nat) (most : Nat) (w : World) (hB : ∀ b ∈ bs, b < 256) (hX : IsY w gx Ab cb (ofB bs) p A c out most 0) :
    Calls Try.prog 29 #[.pointer (some ⟨gx, 0, none⟩)] w fun r w' => ∃ p' A' c' out' e', r = .returned (.tuple #[]) ∧ IsY w' gx Ab cb (ofB bs) p' A' c' out' most e' ∧ Frm (gx :: ob A) w w' ∧ (∀ y ∈ ob A', y ∈ ob A ∨ w.heap.size ≤ y) ∧ ResR (storedF bs most p out) p' out' e' := by
  have hp := hX.2.2.2.1
  have hL := hX.2.2.2.2.1
  have hlen := ofB_len bs
  have hltA := hX.lt.2.2
  refine VC.calls (nt := 79) (res := #[]) Try.func29 rfl Try.ntmps29 Try.results29 rfl ?_
  refine VC.seq ?_
  refine VC.block ?_
  refine VC.loop (σ := Nat) (fun s => [(0, .pointer (some ⟨gx, 0, none⟩))]) (fun s wr => IsY wr gx Ab cb (ofB bs) s A c out most 0 ∧ Frm [gx] w wr ∧ (s + 7) / 8 = (p + 7) / 8) (fun s => (p + 7) / 8 * 8 - s) p (.cons rfl .nil) ⟨hX, Frm.refl _ _, rfl⟩ ?_
  clear hX
  rintro q wr ⟨hX, hfr, hq⟩
  have hpq := hX.2.2.2.1
  refine VC.seq ?_
  refine VC.seq ?_
  refine VC.region ?_
  refine Ops.r (Run.mv rfl) rfl ?_
  refine Ops.r (Run.nilck rfl) rfl ?_
  refine Ops.r (Run.fieldAddr rfl Try.underlying56 rfl Try.sizeOf3 (by decide)) rfl ?_
  refine Ops.r (Run.load rfl Try.isAgg3 (hX.1.cell 1)) rfl ?_
  refine Ops.r (Run.bin rfl rfl (Bin.remN _ 8 (by omega))) rfl ?_
  refine Ops.r (Run.bin rfl rfl (Bin.neqN _ 0)) rfl ?_
  refine Ops.nil ?_
  refine thenQ_n ?_
  refine VC.sub [(0, _), (11, _)] (.cons rfl (.cons rfl .nil)) ?_
  refine VC.condD rfl (fun hc1 => ?_) (fun hc1 => ?_)
  · skip
    refine VC.skip ?_
    refine thenQ_n ?_
    refine VC.sub [(0, _)] (.cons rfl .nil) ?_
    refine VC.block ?_
    refine VC.region ?_
    refine Ops.r (Run.mv rfl) rfl ?_
    refine Ops.r (Run.nilck rfl) rfl ?_
    refine Ops.r (Run.fieldAddr rfl Try.underlying56 rfl Try.sizeOf3 (by decide)) rfl ?_
    refine Ops.r (Run.load rfl Try.isAgg3 (hX.1.cell 1)) rfl ?_
    refine Ops.r (Run.bin rfl rfl (Bin.add_i64 _ 1 (by omega))) rfl ?_
    refine Ops.r (Run.nilck rfl) rfl ?_
    refine Ops.r (Run.fieldAddr rfl Try.underlying56 rfl Try.sizeOf3 (by decide)) rfl ?_
    refine Ops.st (Acts.store (i := 1) (v := .int .i64 ((q + 1 : Nat) : Int)) rfl rfl Try.sizeOf3 hX.1 rfl rfl) ?_
    rintro w3 ⟨hb3, hf3, hs3⟩
    have hX3 := hX.upd hb3 hf3 (by omega)
    refine Ops.nil ?_
    refine blockQ_n (thenQ_n ⟨(q + 1), (.cons rfl .nil), ?_, ?_⟩)
    · skip
      exact ⟨hX3, hfr.trans hf3 (fun x hx => .inl hx), by omega⟩
    · skip
      omega
  · skip
    have hq8 : q = (p + 7) / 8 * 8 := by omega
    refine VC.exit ?_
    refine thenQ_x (thenQ_x (blockQ_x ?_))
    refine thenQ_n ?_
    refine VC.sub [(0, _)] (.cons rfl .nil) ?_
    refine VC.seq ?_
    refine VC.region ?_
    refine Ops.r (Run.mv rfl) rfl ?_
    refine Ops.cl (Enters.fn (evs.cons rfl (evs.cons rfl evs.nil)) Try.call27) (rnum_spec gx Ab cb (ofB bs) q A c out most 0 16 _ (by omega) hX) rfl ?_
    rintro r w2 ⟨v2, p2, e2, rfl, hX2, hf2, hN2⟩
    refine ⟨_, rfl, ?_⟩
    have hfr2 := hfr.trans hf2 (fun x hx => .inl hx)
    refine Ops.r (Run.asg rfl) rfl ?_
    refine Ops.nil ?_
    refine thenQ_n ?_
    refine VC.sub [(0, _), (2, _)] (.cons rfl (.cons rfl .nil)) ?_
    refine VC.seq ?_
    refine VC.region ?_
    refine Ops.r (Run.mv rfl) rfl ?_
    refine Ops.cl (Enters.fn (evs.cons rfl (evs.cons rfl evs.nil)) Try.call27) (rnum_spec gx Ab cb (ofB bs) p2 A c out most e2 16 _ (by omega) hX2) rfl ?_
    rintro r w3 ⟨v3, p3, e3, rfl, hX3, hf3, hN3⟩
    refine ⟨_, rfl, ?_⟩
    have hfr3 := hfr2.trans hf3 (fun x hx => .inl hx)
    have hv2 := hN2.lt.1
    have hv3 := hN3.lt.1
    have hp3 := hX3.2.2.2.1
    refine Ops.r (Run.asg rfl) rfl ?_
    refine Ops.nil ?_
    refine thenQ_n ?_
    refine VC.sub [(0, _), (2, _), (3, _)] (.cons rfl (.cons rfl (.cons rfl .nil))) ?_
    refine VC.seq ?_
    refine VC.seq ?_
    refine VC.split1 [(0, _), (2, _)] (.cons rfl (.cons rfl .nil)) 33 (.bool (decide (e3 = 0 ∧ v2 + v3 ≠ 65535))) ?_ ?_
    · refine VC.region ?_
      refine Ops.r (Run.mv rfl) rfl ?_
      refine Ops.r (Run.nilck rfl) rfl ?_
      refine Ops.r (Run.fieldAddr rfl Try.underlying56 rfl Try.sizeOf3 (by decide)) rfl ?_
      refine Ops.r (Run.load rfl Try.isAgg3 (hX3.1.cell 4)) rfl ?_
      refine Ops.r (Run.bin rfl rfl (Bin.eqlN _ 0)) rfl ?_
      by_cases hs27 : e3 = 0
      · skip
        refine Ops.r (Run.mv rfl) rfl ?_
        refine Ops.rg rfl (by first | rfl | assumption | exact decide_eq_true (by assumption) | exact decide_eq_false (by assumption) | decide | (simp; done) | (simp; omega) | (simp [*]; done)) (Run.mv rfl) rfl ?_
        refine Ops.rg rfl (by first | rfl | assumption | exact decide_eq_true (by assumption) | exact decide_eq_false (by assumption) | decide | (simp; done) | (simp; omega) | (simp [*]; done)) (Run.mv rfl) rfl ?_
        refine Ops.rg rfl (by first | rfl | assumption | exact decide_eq_true (by assumption) | exact decide_eq_false (by assumption) | decide | (simp; done) | (simp; omega) | (simp [*]; done)) (Run.bin rfl rfl (Bin.add_i64 _ _ (by omega))) rfl ?_
        refine Ops.rg rfl (by first | rfl | assumption | exact decide_eq_true (by assumption) | exact decide_eq_false (by assumption) | decide | (simp; done) | (simp; omega) | (simp [*]; done)) (Run.bin rfl rfl (Bin.neqN _ 65535)) rfl ?_
        by_cases hs32 : v2 + v3 ≠ 65535
        · skip
          refine Ops.r (Run.pickT rfl rfl (by first | rfl | assumption | exact decide_eq_true (by assumption) | exact decide_eq_false (by assumption) | decide | (simp; done) | (simp; omega) | (simp [*]; done))) rfl ?_
          refine Ops.nil ?_
          refine thenQ_n ⟨(.cons (congrArg (fun b => some (Value.bool b)) (by simp [*])) (.cons rfl (.cons rfl .nil))), rfl⟩
        · skip
          refine Ops.r (Run.pickT rfl rfl (by first | rfl | assumption | exact decide_eq_true (by assumption) | exact decide_eq_false (by assumption) | decide | (simp; done) | (simp; omega) | (simp [*]; done))) rfl ?_
          refine Ops.nil ?_
          refine thenQ_n ⟨(.cons (congrArg (fun b => some (Value.bool b)) (by simp [*])) (.cons rfl (.cons rfl .nil))), rfl⟩
      · skip
        refine Ops.r (Run.mv rfl) rfl ?_
        refine Ops.sk rfl (by first | rfl | assumption | exact decide_eq_true (by assumption) | exact decide_eq_false (by assumption) | decide | (simp; done) | (simp; omega) | (simp [*]; done)) rfl ?_
        refine Ops.sk rfl (by first | rfl | assumption | exact decide_eq_true (by assumption) | exact decide_eq_false (by assumption) | decide | (simp; done) | (simp; omega) | (simp [*]; done)) rfl ?_
        refine Ops.sk rfl (by first | rfl | assumption | exact decide_eq_true (by assumption) | exact decide_eq_false (by assumption) | decide | (simp; done) | (simp; omega) | (simp [*]; done)) rfl ?_
        refine Ops.sk rfl (by first | rfl | assumption | exact decide_eq_true (by assumption) | exact decide_eq_false (by assumption) | decide | (simp; done) | (simp; omega) | (simp [*]; done)) rfl ?_
        refine Ops.r (Run.pickF rfl rfl (by first | rfl | assumption | exact decide_eq_true (by assumption) | exact decide_eq_false (by assumption) | decide | (simp; done) | (simp; omega) | (simp [*]; done))) rfl ?_
        refine Ops.nil ?_
        refine thenQ_n ⟨(.cons (congrArg (fun b => some (Value.bool b)) (by simp [*])) (.cons rfl (.cons rfl .nil))), rfl⟩
    · intro Γ hΓ
      refine thenQ_n (VC.sub _ hΓ ?_)
      refine VC.meet (σ := Nat) (fun s => [(0, .pointer (some ⟨gx, 0, none⟩)), (2, .int .i64 ((v2 : Nat) : Int))]) (fun s wr => IsY wr gx Ab cb (ofB bs) p3 A c out most s ∧ Frm [gx] w wr ∧ s = if e3 = 0 ∧ v2 + v3 ≠ 65535 then 3 else e3) ?_ ?_
      · skip
        refine VC.condD rfl (fun hc2 => ?_) (fun hc2 => ?_)
        · skip
          refine VC.region ?_
          refine Ops.r (Run.mv rfl) rfl ?_
          refine Ops.cl (Enters.fn (evs.cons rfl (evs.cons rfl evs.nil)) Try.call28) (rfail_spec gx Ab cb _ p3 A c out most e3 3 _ hX3) rfl ?_
          rintro r w4 ⟨rfl, hX4, hf4⟩
          refine ⟨_, rfl, ?_⟩
          rw [if_pos hc2.1] at hX4
          refine Ops.nil ?_
          refine thenQ_n ⟨3, (.cons rfl (.cons rfl .nil)), ?_⟩
          exact ⟨hX4, hfr3.trans hf4 (fun x hx => .inl hx), by rw [if_pos hc2]⟩
        · skip
          refine VC.skip ?_
          refine thenQ_n ⟨e3, (.cons rfl (.cons rfl .nil)), ?_⟩
          exact ⟨hX3, hfr3, by rw [if_neg hc2]⟩
      · skip
        rintro e4 w4 ⟨hX4, hfr4, he4⟩ Γ hΓ
        have hX4d := hX4.frm0 (Drawn.drew w4).frm
        refine thenQ_n (VC.sub _ hΓ ?_)
        refine VC.seq ?_
        refine VC.seq ?_
        refine VC.splitR [(0, .pointer (some ⟨gx, 0, none⟩)), (2, .int .i64 ((v2 : Nat) : Int))] (fun w1 => w1 = w4.drew) 55 (.bool (decide (e4 = 0 ∧ (ofB bs).length - p3 < 8 * v2))) ?_ ?_
        · refine VC.still (by kernel_rfl) (by kernel_rfl) ?_
          refine SOps.r (Run.mv rfl) rfl ?_
          refine SOps.r (Run.nilck rfl) rfl ?_
          refine SOps.r (Run.fieldAddr rfl Try.underlying56 rfl Try.sizeOf3 (by decide)) rfl ?_
          refine SOps.r (Run.load rfl Try.isAgg3 (hX4d.1.cell 4)) rfl ?_
          refine SOps.r (Run.bin rfl rfl (Bin.eqlN _ 0)) rfl ?_
          by_cases hs40 : e4 = 0
          · skip
            refine SOps.r (Run.mv rfl) rfl ?_
            refine SOps.rg rfl (by first | rfl | assumption | exact decide_eq_true (by assumption) | exact decide_eq_false (by assumption) | decide | (simp; done) | (simp; omega) | (simp [*]; done)) (Run.mv rfl) rfl ?_
            refine SOps.rg rfl (by first | rfl | assumption | exact decide_eq_true (by assumption) | exact decide_eq_false (by assumption) | decide | (simp; done) | (simp; omega) | (simp [*]; done)) (Run.bin rfl rfl (Bin.mul_i64 8 _ (by omega))) rfl ?_
            refine SOps.rg rfl (by first | rfl | assumption | exact decide_eq_true (by assumption) | exact decide_eq_false (by assumption) | decide | (simp; done) | (simp; omega) | (simp [*]; done)) (Run.mv rfl) rfl ?_
            refine SOps.rg rfl (by first | rfl | assumption | exact decide_eq_true (by assumption) | exact decide_eq_false (by assumption) | decide | (simp; done) | (simp; omega) | (simp [*]; done)) (Run.nilck rfl) rfl ?_
            refine SOps.rg rfl (by first | rfl | assumption | exact decide_eq_true (by assumption) | exact decide_eq_false (by assumption) | decide | (simp; done) | (simp; omega) | (simp [*]; done)) (Run.fieldAddr rfl Try.underlying56 rfl Try.sizeOf53 (by decide)) rfl ?_
            refine SOps.rg rfl (by first | rfl | assumption | exact decide_eq_true (by assumption) | exact decide_eq_false (by assumption) | decide | (simp; done) | (simp; omega) | (simp [*]; done)) (Run.load rfl Try.isAgg53 (hX4d.1.cell 0)) rfl ?_
            refine SOps.rg rfl (by first | rfl | assumption | exact decide_eq_true (by assumption) | exact decide_eq_false (by assumption) | decide | (simp; done) | (simp; omega) | (simp [*]; done)) (Run.lenS rfl Try.underlying53) rfl ?_
            refine SOps.rg rfl (by first | rfl | assumption | exact decide_eq_true (by assumption) | exact decide_eq_false (by assumption) | decide | (simp; done) | (simp; omega) | (simp [*]; done)) (Run.mv rfl) rfl ?_
            refine SOps.rg rfl (by first | rfl | assumption | exact decide_eq_true (by assumption) | exact decide_eq_false (by assumption) | decide | (simp; done) | (simp; omega) | (simp [*]; done)) (Run.nilck rfl) rfl ?_
            refine SOps.rg rfl (by first | rfl | assumption | exact decide_eq_true (by assumption) | exact decide_eq_false (by assumption) | decide | (simp; done) | (simp; omega) | (simp [*]; done)) (Run.fieldAddr rfl Try.underlying56 rfl Try.sizeOf3 (by decide)) rfl ?_
            refine SOps.rg rfl (by first | rfl | assumption | exact decide_eq_true (by assumption) | exact decide_eq_false (by assumption) | decide | (simp; done) | (simp; omega) | (simp [*]; done)) (Run.load rfl Try.isAgg3 (hX4d.1.cell 1)) rfl ?_
            refine SOps.rg rfl (by first | rfl | assumption | exact decide_eq_true (by assumption) | exact decide_eq_false (by assumption) | decide | (simp; done) | (simp; omega) | (simp [*]; done)) (Run.bin rfl rfl (Bin.sub_i64 _ _ (by omega) (by omega))) rfl ?_
            refine SOps.rg rfl (by first | rfl | assumption | exact decide_eq_true (by assumption) | exact decide_eq_false (by assumption) | decide | (simp; done) | (simp; omega) | (simp [*]; done)) (Run.bin rfl rfl (Bin.gtrN _ _)) rfl ?_
            by_cases hs54 : (ofB bs).length - p3 < 8 * v2
            · skip
              refine SOps.r (Run.pickT rfl rfl (by first | rfl | assumption | exact decide_eq_true (by assumption) | exact decide_eq_false (by assumption) | decide | (simp; done) | (simp; omega) | (simp [*]; done))) rfl ?_
              refine SOps.nil ?_
              refine thenQ_n ⟨(.cons (congrArg (fun b => some (Value.bool b)) (by grind)) (.cons rfl (.cons rfl .nil))), (rfl)⟩
            · skip
              refine SOps.r (Run.pickT rfl rfl (by first | rfl | assumption | exact decide_eq_true (by assumption) | exact decide_eq_false (by assumption) | decide | (simp; done) | (simp; omega) | (simp [*]; done))) rfl ?_
              refine SOps.nil ?_
              refine thenQ_n ⟨(.cons (congrArg (fun b => some (Value.bool b)) (by grind)) (.cons rfl (.cons rfl .nil))), (rfl)⟩
          · skip
            refine SOps.r (Run.mv rfl) rfl ?_
            refine SOps.sk rfl (by first | rfl | assumption | exact decide_eq_true (by assumption) | exact decide_eq_false (by assumption) | decide | (simp; done) | (simp; omega) | (simp [*]; done)) rfl ?_
            refine SOps.sk rfl (by first | rfl | assumption | exact decide_eq_true (by assumption) | exact decide_eq_false (by assumption) | decide | (simp; done) | (simp; omega) | (simp [*]; done)) rfl ?_
            refine SOps.sk rfl (by first | rfl | assumption | exact decide_eq_true (by assumption) | exact decide_eq_false (by assumption) | decide | (simp; done) | (simp; omega) | (simp [*]; done)) rfl ?_
            refine SOps.sk rfl (by first | rfl | assumption | exact decide_eq_true (by assumption) | exact decide_eq_false (by assumption) | decide | (simp; done) | (simp; omega) | (simp [*]; done)) rfl ?_
            refine SOps.sk rfl (by first | rfl | assumption | exact decide_eq_true (by assumption) | exact decide_eq_false (by assumption) | decide | (simp; done) | (simp; omega) | (simp [*]; done)) rfl ?_
            refine SOps.sk rfl (by first | rfl | assumption | exact decide_eq_true (by assumption) | exact decide_eq_false (by assumption) | decide | (simp; done) | (simp; omega) | (simp [*]; done)) rfl ?_
            refine SOps.sk rfl (by first | rfl | assumption | exact decide_eq_true (by assumption) | exact decide_eq_false (by assumption) | decide | (simp; done) | (simp; omega) | (simp [*]; done)) rfl ?_
            refine SOps.sk rfl (by first | rfl | assumption | exact decide_eq_true (by assumption) | exact decide_eq_false (by assumption) | decide | (simp; done) | (simp; omega) | (simp [*]; done)) rfl ?_
            refine SOps.sk rfl (by first | rfl | assumption | exact decide_eq_true (by assumption) | exact decide_eq_false (by assumption) | decide | (simp; done) | (simp; omega) | (simp [*]; done)) rfl ?_
            refine SOps.sk rfl (by first | rfl | assumption | exact decide_eq_true (by assumption) | exact decide_eq_false (by assumption) | decide | (simp; done) | (simp; omega) | (simp [*]; done)) rfl ?_
            refine SOps.sk rfl (by first | rfl | assumption | exact decide_eq_true (by assumption) | exact decide_eq_false (by assumption) | decide | (simp; done) | (simp; omega) | (simp [*]; done)) rfl ?_
            refine SOps.sk rfl (by first | rfl | assumption | exact decide_eq_true (by assumption) | exact decide_eq_false (by assumption) | decide | (simp; done) | (simp; omega) | (simp [*]; done)) rfl ?_
            refine SOps.sk rfl (by first | rfl | assumption | exact decide_eq_true (by assumption) | exact decide_eq_false (by assumption) | decide | (simp; done) | (simp; omega) | (simp [*]; done)) rfl ?_
            refine SOps.r (Run.pickF rfl rfl (by first | rfl | assumption | exact decide_eq_true (by assumption) | exact decide_eq_false (by assumption) | decide | (simp; done) | (simp; omega) | (simp [*]; done))) rfl ?_
            refine SOps.nil ?_
            refine thenQ_n ⟨(.cons (congrArg (fun b => some (Value.bool b)) (by grind)) (.cons rfl (.cons rfl .nil))), (rfl)⟩
        · intro Γ w5 hΓ hd5
          refine thenQ_n (VC.sub _ hΓ ?_)
          refine VC.meet (σ := Nat) (fun s => [(0, .pointer (some ⟨gx, 0, none⟩)), (2, .int .i64 ((v2 : Nat) : Int))]) (fun s wr => IsY wr gx Ab cb (ofB bs) p3 A c out most s ∧ Frm [gx] w wr ∧ s = if e4 = 0 ∧ (ofB bs).length - p3 < 8 * v2 then 2 else e4) ?_ ?_
          · skip
            refine VC.condD rfl (fun hc3 => ?_) (fun hc3 => ?_)
            · skip
              subst hd5
              refine VC.region ?_
              refine Ops.r (Run.mv rfl) rfl ?_
              refine Ops.cl (Enters.fn (evs.cons rfl (evs.cons rfl evs.nil)) Try.call28) (rfail_spec gx Ab cb _ p3 A c out most e4 2 _ hX4d) rfl ?_
              rintro r w6 ⟨rfl, hX6, hf6⟩
              refine ⟨_, rfl, ?_⟩
              rw [if_pos hc3.1] at hX6
              refine Ops.nil ?_
              refine thenQ_n ⟨2, (.cons rfl (.cons rfl .nil)), ?_⟩
              exact ⟨hX6, (hfr4.drawn (Drawn.drew w4)).trans hf6 (fun x hx => .inl hx), by rw [if_pos hc3]⟩
            · skip
              subst hd5
              refine VC.skip ?_
              refine thenQ_n ⟨e4, (.cons rfl (.cons rfl .nil)), ?_⟩
              exact ⟨hX4d, hfr4.drawn (Drawn.drew w4), by rw [if_neg hc3]⟩
          · skip
            rintro e5 w6 ⟨hX6, hfr6, he5⟩ Γ hΓ
            have hgood : e5 = 0 → p3 % 8 = 0 ∧ p3 + 8 * v2 ≤ 8 * bs.length := fun h => by
              have h4 : e4 = 0 ∧ ¬ (ofB bs).length - p3 < 8 * v2 := by
                by_cases h5 : e4 = 0 ∧ (ofB bs).length - p3 < 8 * v2
                · rw [if_pos h5] at he5; omega
                · rw [if_neg h5] at he5; exact ⟨by omega, fun h6 => h5 ⟨by omega, h6⟩⟩
              have h3 : e3 = 0 := by
                by_cases h5 : e3 = 0 ∧ v2 + v3 ≠ 65535
                · exact h5.1
                · rw [if_neg h5] at he4; omega
              rcases hN3 with ⟨h6, _, _, h7⟩ | ⟨h6, h7, _⟩ | ⟨_, _, _, _, h7⟩
              · omega
              · rcases hN2 with ⟨h8, _⟩ | ⟨_, h8, _⟩ | ⟨_, _, _, _, h8⟩
                · omega
                · have h9 := (takeF_ok h7).1
                  have h10 := (takeF_ok h8).1
                  omega
                · omega
              · omega
            refine thenQ_n (VC.sub _ hΓ ?_)
            refine VC.seq ?_
            refine VC.region ?_
            refine Ops.r (Run.asg rfl) rfl ?_
            refine Ops.nil ?_
            refine thenQ_n ?_
            refine VC.seq ?_
            refine VC.seq ?_
            refine VC.region ?_
            refine Ops.r (v := .int .i64 ((0 : Nat) : Int)) (Run.asg rfl) rfl ?_
            refine Ops.nil ?_
            refine thenQ_n ?_
            refine VC.block ?_
            refine VC.loop (σ := Nat × Option Addr × Nat) (fun s => [(0, .pointer (some ⟨gx, 0, none⟩)), (2, .int .i64 ((v2 : Nat) : Int)), (4, .slice s.2.1 s.1 s.2.2), (5, .int .i64 ((s.1 : Nat) : Int))]) (fun s wr => s.1 ≤ v2 ∧ (e5 ≠ 0 → s.1 = 0) ∧ IsY wr gx Ab cb (ofB bs) (p3 + 8 * s.1) A c out most e5 ∧ Own wr 5 1 s.2.1 s.1 s.2.2 (NB ((bs.drop (p3 / 8)).take s.1)) ∧ Frm [gx] w wr ∧ (∀ y ∈ ob s.2.1, w.heap.size ≤ y)) (fun s => v2 - s.1) (0, none, 0) (.cons rfl (.cons rfl (.cons rfl (.cons rfl .nil)))) ⟨by omega, fun _ => rfl, hX6, Own.nil _ _ _, hfr6, by simp [ob]⟩ ?_
            clear hX6 hfr6
            rintro ⟨i, B, cB⟩ wr ⟨hi, hi0, hX6, hb, hfr6, hu⟩
            dsimp only at hi hi0 hX6 hb hfr6 hu ⊢
            have hs6 := hfr6.size
            have hbl : ((bs.drop (p3 / 8)).take i).length = i := by have := hb.len; simpa [NB] using this
            refine VC.seq ?_
            refine VC.seq ?_
            refine VC.split1 [(0, _), (2, _), (4, _), (5, _)] (.cons rfl (.cons rfl (.cons rfl (.cons rfl .nil)))) 67 (.bool (decide (i < v2 ∧ e5 = 0))) ?_ ?_
            · refine VC.region ?_
              refine Ops.r (Run.mv rfl) rfl ?_
              refine Ops.r (Run.mv rfl) rfl ?_
              refine Ops.r (Run.bin rfl rfl (Bin.lssN _ _)) rfl ?_
              by_cases hs60 : i < v2
              · skip
                refine Ops.r (Run.mv rfl) rfl ?_
                refine Ops.rg rfl (by first | rfl | assumption | exact decide_eq_true (by assumption) | exact decide_eq_false (by assumption) | decide | (simp; done) | (simp; omega) | (simp [*]; done)) (Run.mv rfl) rfl ?_
                refine Ops.rg rfl (by first | rfl | assumption | exact decide_eq_true (by assumption) | exact decide_eq_false (by assumption) | decide | (simp; done) | (simp; omega) | (simp [*]; done)) (Run.nilck rfl) rfl ?_
                refine Ops.rg rfl (by first | rfl | assumption | exact decide_eq_true (by assumption) | exact decide_eq_false (by assumption) | decide | (simp; done) | (simp; omega) | (simp [*]; done)) (Run.fieldAddr rfl Try.underlying56 rfl Try.sizeOf3 (by decide)) rfl ?_
                refine Ops.rg rfl (by first | rfl | assumption | exact decide_eq_true (by assumption) | exact decide_eq_false (by assumption) | decide | (simp; done) | (simp; omega) | (simp [*]; done)) (Run.load rfl Try.isAgg3 (hX6.1.cell 4)) rfl ?_
                refine Ops.rg rfl (by first | rfl | assumption | exact decide_eq_true (by assumption) | exact decide_eq_false (by assumption) | decide | (simp; done) | (simp; omega) | (simp [*]; done)) (Run.bin rfl rfl (Bin.eqlN _ 0)) rfl ?_
                by_cases hs66 : e5 = 0
                · skip
                  refine Ops.r (Run.pickT rfl rfl (by first | rfl | assumption | exact decide_eq_true (by assumption) | exact decide_eq_false (by assumption) | decide | (simp; done) | (simp; omega) | (simp [*]; done))) rfl ?_
                  refine Ops.nil ?_
                  refine thenQ_n ⟨(.cons (congrArg (fun b => some (Value.bool b)) (by grind)) (.cons rfl (.cons rfl (.cons rfl (.cons rfl .nil))))), rfl⟩
                · skip
                  refine Ops.r (Run.pickT rfl rfl (by first | rfl | assumption | exact decide_eq_true (by assumption) | exact decide_eq_false (by assumption) | decide | (simp; done) | (simp; omega) | (simp [*]; done))) rfl ?_
                  refine Ops.nil ?_
                  refine thenQ_n ⟨(.cons (congrArg (fun b => some (Value.bool b)) (by grind)) (.cons rfl (.cons rfl (.cons rfl (.cons rfl .nil))))), rfl⟩
              · skip
                refine Ops.r (Run.mv rfl) rfl ?_
                refine Ops.sk rfl (by first | rfl | assumption | exact decide_eq_true (by assumption) | exact decide_eq_false (by assumption) | decide | (simp; done) | (simp; omega) | (simp [*]; done)) rfl ?_
                refine Ops.sk rfl (by first | rfl | assumption | exact decide_eq_true (by assumption) | exact decide_eq_false (by assumption) | decide | (simp; done) | (simp; omega) | (simp [*]; done)) rfl ?_
                refine Ops.sk rfl (by first | rfl | assumption | exact decide_eq_true (by assumption) | exact decide_eq_false (by assumption) | decide | (simp; done) | (simp; omega) | (simp [*]; done)) rfl ?_
                refine Ops.sk rfl (by first | rfl | assumption | exact decide_eq_true (by assumption) | exact decide_eq_false (by assumption) | decide | (simp; done) | (simp; omega) | (simp [*]; done)) rfl ?_
                refine Ops.sk rfl (by first | rfl | assumption | exact decide_eq_true (by assumption) | exact decide_eq_false (by assumption) | decide | (simp; done) | (simp; omega) | (simp [*]; done)) rfl ?_
                refine Ops.r (Run.pickF rfl rfl (by first | rfl | assumption | exact decide_eq_true (by assumption) | exact decide_eq_false (by assumption) | decide | (simp; done) | (simp; omega) | (simp [*]; done))) rfl ?_
                refine Ops.nil ?_
                refine thenQ_n ⟨(.cons (congrArg (fun b => some (Value.bool b)) (by grind)) (.cons rfl (.cons rfl (.cons rfl (.cons rfl .nil))))), rfl⟩
            · intro Γ hΓ
              refine thenQ_n (VC.sub _ hΓ ?_)
              refine VC.condD rfl (fun hc4 => ?_) (fun hc4 => ?_)
              · skip
                obtain ⟨hiv, he50⟩ := hc4
                obtain ⟨hg1, hg2⟩ := hgood he50
                have hoct := oct_take hB (j := p3 / 8 + i) (p := p3 + 8 * i) (by omega) (by omega)
                refine VC.skip ?_
                refine thenQ_n ?_
                refine VC.sub [(0, _), (2, _), (4, _), (5, _)] (.cons rfl (.cons rfl (.cons rfl (.cons rfl .nil)))) ?_
                refine VC.seq ?_
                refine VC.block ?_
                refine VC.region ?_
                refine Ops.r (Run.mv rfl) rfl ?_
                refine Ops.r (Run.mv rfl) rfl ?_
                refine Ops.cl (Enters.fn (evs.cons rfl (evs.cons rfl evs.nil)) Try.call27) (rnum_spec gx Ab cb (ofB bs) (p3 + 8 * i) A c out most e5 8 _ (by omega) hX6) rfl ?_
                rintro r w7 ⟨v7, p7, e7, rfl, hX7, hf7, hN7⟩
                refine ⟨_, rfl, ?_⟩
                obtain ⟨rfl, rfl, rfl⟩ : v7 = bs.getD (p3 / 8 + i) 0 ∧ p7 = p3 + 8 * i + 8 ∧ e7 = e5 := by
                  rcases hN7 with ⟨h, _⟩ | ⟨_, h, h2⟩ | ⟨_, h, _⟩
                  · exact absurd he50 h
                  · rw [hoct] at h; injection h with h; injection h with h h3; exact ⟨h.symm, h3.symm, by omega⟩
                  · rw [hoct] at h; cases h
                have hlt : bs.getD (p3 / 8 + i) 0 < 256 := by
                  have h5 : p3 / 8 + i < bs.length := by omega
                  simp only [List.getD, List.getElem?_eq_getElem h5, Option.getD_some]
                  exact hB _ (List.getElem_mem _)
                have hbne : ∀ x ∈ ob B, x ∉ [gx] := fun x hx h => by
                  rw [List.mem_singleton] at h
                  exact hb.ne_blk hX6.1 (by decide) (h ▸ hx)
                have hb7 := hb.frm hf7 hbne
                refine Ops.r (Run.conv8 _ rfl Try.underlying3 Try.underlying5) rfl ?_
                refine Ops.m (Does.buildS1 rfl Try.underlying22 Try.sizeOf5 zero5 (by decide) (by decide) rfl rfl) rfl ?_
                rintro _ w8 ⟨rfl, hF8⟩
                have hm : ((bs.getD (p3 / 8 + i) 0 % 256 : Nat) : Int) = ((bs.getD (p3 / 8 + i) 0 : Nat) : Int) := by rw [Nat.mod_eq_of_lt hlt]
                have hrd8 : Rd w8 1 (some ⟨w7.heap.size, 0, none⟩) 1 (NB [bs.getD (p3 / 8 + i) 0]) := by
                  have h5 : Rd w8 1 (some ⟨w7.heap.size, 0, none⟩) 1 [.int .u8 ((bs.getD (p3 / 8 + i) 0 % 256 : Nat) : Int)] := Rd.of_blk (n := 1) (size := 1) hF8.blk rfl
                  rw [hm] at h5
                  exact h5
                have hX8 := hX7.frm0 hF8.frm
                have hb8 := hb7.frm hF8.frm (by simp)
                refine Ops.m (Does.app rfl rfl Try.underlying22 (info5) rfl (by decide) hb8 hrd8 (NB_one _) (by omega) (by omega)) rfl ?_
                rintro _ w9 ⟨B9, c9, rfl, ho9, hf9, hob9⟩
                have hdj : ∀ x ∈ gx :: (ob Ab ++ ob A), x ∉ ob B := fun x hx h => by
                  rcases List.mem_cons.1 hx with h2 | hx
                  · exact hb8.ne_blk hX8.1 (by decide) (h2 ▸ h)
                  rcases List.mem_append.1 hx with hx | hx
                  · exact hX8.2.1.ne_own hb8 (by decide) x hx h
                  · have h3 := hu x h
                    have h4 := hltA x hx
                    omega
                have hX9 := hX8.frm hf9 hdj
                have hs7 := hf7.size
                have hs8 := hF8.frm.size
                have hfr9 : Frm [gx] w w9 := ((hfr6.trans hf7 (fun x hx => .inl hx)).trans hF8.frm (by simp)).trans hf9 (fun x hx => .inr (hu x hx))
                refine Ops.r (Run.asg rfl) rfl ?_
                refine Ops.nil ?_
                refine blockQ_n (thenQ_n ?_)
                refine VC.sub [(0, _), (2, _), (4, _), (5, _)] (.cons rfl (.cons rfl (.cons rfl (.cons rfl .nil)))) ?_
                refine VC.region ?_
                refine Ops.r (Run.mv rfl) rfl ?_
                refine Ops.r (Run.bin rfl rfl (Bin.add_i64 _ 1 (by omega))) rfl ?_
                refine Ops.r (Run.asg rfl) rfl ?_
                refine Ops.nil ?_
                refine thenQ_n ⟨(i + 1, B9, c9), (.cons rfl (.cons rfl (.cons rfl (.cons rfl .nil)))), ?_, ?_⟩
                · skip
                  have hnx : (bs.drop (p3 / 8)).take (i + 1) = (bs.drop (p3 / 8)).take i ++ [bs.getD (p3 / 8 + i) 0] := by
                    have h5 : p3 / 8 + i < bs.length := by omega
                    rw [List.take_add_one, List.getElem?_drop, List.getElem?_eq_getElem h5]
                    simp [List.getD, List.getElem?_eq_getElem h5]
                  refine ⟨hiv, fun h => absurd he50 h, hX9, ?_, hfr9, fun y hy => ?_⟩
                  · dsimp only
                    rw [hnx, NB_app]
                    exact ho9
                  · rcases hob9 with h | h
                    · exact hu y (h ▸ hy)
                    · rw [h, List.mem_singleton] at hy
                      omega
                · skip
                  dsimp only; omega
              · skip
                refine VC.exit ?_
                refine thenQ_x (thenQ_x (blockQ_x ?_))
                refine thenQ_n ?_
                refine VC.sub [(0, _), (4, _)] (.cons rfl (.cons rfl .nil)) ?_
                refine VC.region ?_
                refine Ops.r (Run.mv rfl) rfl ?_
                refine Ops.r (Run.mv rfl) rfl ?_
                refine Ops.cl (Enters.fn (evs.cons rfl (evs.cons rfl evs.nil)) Try.call42) (rput_spec gx Ab B cb cB i ((bs.drop (p3 / 8)).take i) (ofB bs) (p3 + 8 * i) A c out most e5 _ hbl (by omega) (fun x hx => hB x (List.mem_of_mem_drop (List.mem_of_mem_take hx))) hb.rd hX6) rfl ?_
                rintro r w7 ⟨A7, c7, out7, e7, rfl, hX7, hf7, hu7, hput⟩
                refine ⟨_, rfl, ?_⟩
                refine Ops.nil ?_
                refine end0n ?_
                have hres := stored_res hq8 hN2 hN3 he4 he5 hc4 hi hbl hput
                exact ⟨_, _, _, _, _, rfl, hX7, (hfr6.mono (T := gx :: ob A) (by simp)).trans hf7 (fun x hx => .inl hx), fun y hy => (hu7 y hy).imp id (fun h => Nat.le_trans hs6 h), hres⟩

end Go.Proofs.Ytfjhmbgckmhdaaa
