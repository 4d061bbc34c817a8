/-
  The law 'CanonTakes' of layer 9: by any lengths, from any octets, symbol by symbol.
-/
import Derived.Test.YtebaojedpnnliaaCanL
namespace Go.Proofs.Ytebaojedpnnliaa
open Go.RowKit

theorem KC_two (l : List Int) : ∀ i, KC (cn l) i ≤ 16384 * atL l i
  | 0 => by simp [KC]
  | i + 1 => by
    have ih := KC_two l i
    have e : KC (cn l) (i + 1) = KC (cn l) i + cn l i * 2 ^ (15 - i) := rfl
    have e2 : atL l (i + 1) = atL l i + cn l i := rfl
    by_cases hi : i = 0
    · subst hi; simp [KC, cn]
    · have h1 : cn l i * 2 ^ (15 - i) ≤ cn l i * 2 ^ 14 := Nat.mul_le_mul_left _ (Nat.pow_le_pow_right (by omega) (by omega))
      omega
/-- Who may be read by is read as far as the document says. -/
theorem most_eq (l : List Int) (h : newE l = 0) : good l ∧ mostC l = mostL l ∧ mostC l ≤ 15 := by
  have hch : chk l ≠ 1 := by
    intro h1
    unfold newE at h
    rw [h1, if_neg (by omega)] at h
    omega
  refine ⟨chk_good hch, ?_⟩
  unfold mostC mostL
  by_cases h2 : chk l = 2
  · rw [if_pos h2]
    unfold newE at h
    split at h
    · rename_i h3
      have : (order l).length < 2 := by rcases h3.2 with h4 | h4 <;> omega
      rw [if_pos this]
      exact ⟨rfl, by omega⟩
    · omega
  · rw [if_neg h2]
    have h0 : chk l = 0 := by
      unfold newE at h
      rw [if_neg (fun h3 => h2 h3.1)] at h
      exact h
    have hk : KC (cn l) 16 = 32768 := by
      unfold chk at h0
      split at h0
      · omega
      · split at h0
        · omega
        · split at h0
          · omega
          · omega
    have := KC_two l 16
    have e := order_len l
    rw [if_neg (by omega)]
    exact ⟨rfl, Nat.le_refl _⟩

set_option maxRecDepth 100000 in
theorem takes_walk (A : Option Addr) (n c0 : Nat) (l : List Int) (B : Option Addr) (bl bc : Nat) (bs : List Nat) (sk : Nat) (w : World) (hn : l.length = n) (hc : n ≤ c0) (hr : Rd w 1 A n (IB l))
    (hbl : bs.length = bl) (hbc : bl ≤ bc) (hb : ∀ b ∈ bs, b < 256) (hrb : Rd w 1 B bl (NB bs)) (hsk : sk < 256) :
    Calls Try.prog 8 #[.slice A n c0, .slice B bl bc, .int .u8 ((sk : Nat) : Int)] w fun e w' => e = .returned (.bool true) ∧ Frm [] w w' := by
  subst hn
  subst hbl
  refine VC.calls (nt := 110) (res := #[.tmp 6]) Try.func8 rfl Try.ntmps8 Try.results8 rfl ?_
  refine VC.seq ?_
  refine VC.region ?_
  refine Ops.r (Run.asg rfl) rfl ?_
  refine Ops.nil ?_
  refine thenQ_n ?_
  refine VC.sub [(0, _), (1, _), (2, _)] (.cons rfl (.cons rfl (.cons rfl .nil))) ?_
  refine VC.seq ?_
  refine VC.region ?_
  refine Ops.r (Run.mv rfl) rfl ?_
  refine Ops.cl (Enters.fn (evs.cons rfl evs.nil) Try.call33) (few9_spec A c0 l _ hc hr) rfl ?_
  rintro e _ ⟨⟨A1, c1, rfl, hr1⟩, rfl⟩
  refine ⟨_, rfl, ?_⟩
  have hl : (l.take 321).length ≤ 321 := by simp; omega
  generalize l.take 321 = l at *
  refine Ops.r (Run.asg rfl) rfl ?_
  refine Ops.nil ?_
  refine thenQ_n ?_
  refine VC.sub [(0, _), (1, _), (2, _)] (.cons rfl (.cons rfl (.cons rfl .nil))) ?_
  refine VC.seq ?_
  refine VC.seq ?_
  refine VC.region ?_
  refine Ops.r (Run.mv rfl) rfl ?_
  refine Ops.r (Run.lenS rfl Try.underlying26) rfl ?_
  refine Ops.r (Run.bin rfl rfl (Bin.gtrN _ 60)) rfl ?_
  refine Ops.nil ?_
  refine thenQ_n ?_
  refine VC.sub [(0, _), (1, _), (2, _), (25, _)] (.cons rfl (.cons rfl (.cons rfl (.cons rfl .nil)))) ?_
  refine VC.meet (σ := Option Addr × Nat) (fun s => [(0, .slice A1 l.length c1), (1, .slice s.1 (bs.take 60).length s.2), (2, .int .u8 ((sk : Nat) : Int))]) (fun s w9 => w = w9 ∧ Rd w 1 s.1 (bs.take 60).length (NB (bs.take 60)) ∧ (bs.take 60).length ≤ s.2) ?_ ?_
  · skip
    refine VC.condD rfl (fun hc1 => ?_) (fun hc1 => ?_)
    · skip
      refine VC.region ?_
      refine Ops.r (Run.mv rfl) rfl ?_
      refine Ops.r (Run.sliceS 0 60 rfl Try.underlying26 Try.sizeOf5 evB.none_ (evB.some_ rfl) (by omega) (by omega)) rfl ?_
      refine Ops.r (Run.asg rfl) rfl ?_
      refine Ops.nil ?_
      refine thenQ_n ⟨(cutA B bc 0 1, bc - 0), (.cons rfl (.cons (by rw [show (bs.take 60).length = 60 - 0 from by simp; omega]; rfl) (.cons rfl .nil))), ?_⟩
      refine ⟨rfl, ?_, by simp; omega⟩
      have := NB_cut bs 0 60 (by omega) hrb hbc
      simpa using this
    · skip
      refine VC.skip ?_
      refine thenQ_n ⟨(B, bc), (.cons rfl (.cons (by rw [List.take_of_length_le (by omega)]; rfl) (.cons rfl .nil))), ?_⟩
      rw [List.take_of_length_le (by omega)]
      exact ⟨rfl, hrb, hbc⟩
  · skip
    rintro ⟨B1, d1⟩ _ ⟨rfl, hrb1, hbc1⟩ Γ hΓ
    dsimp only at hrb1 hbc1
    have hb1 : ∀ b ∈ bs.take 60, b < 256 := fun b hb' => hb b (List.mem_of_mem_take hb')
    have hl1 : (bs.take 60).length ≤ 60 := by simp; omega
    generalize bs.take 60 = b1 at *
    refine thenQ_n (VC.sub _ hΓ ?_)
    refine VC.seq ?_
    refine VC.region ?_
    refine Ops.r (Run.mv rfl) rfl ?_
    refine Ops.cl (Enters.fn (evs.cons rfl evs.nil) Try.call39) (newD_spec A1 c1 l _ (by omega) hr1) rfl ?_
    rintro e w2 ⟨hf2, he⟩
    obtain ⟨vd, ve, hee, he2⟩ : ∃ vd ve, e = .returned (.tuple #[.pointer vd, .int .i64 ((ve : Nat) : Int)]) ∧ (newE l ≠ 0 ∧ vd = none ∧ ve = newE l ∨ newE l = 0 ∧ ve = 0 ∧ ∃ g C c, vd = some ⟨g, 0, none⟩ ∧ IsD w2 g C c (cn l) (fst' l) (order l) (mostC l) ∧ ∀ x ∈ g :: ob C, w.heap.size ≤ x) := by
      by_cases h : newE l = 0
      · rw [if_pos h] at he; obtain ⟨g, C, c, h1, h2, h3⟩ := he; exact ⟨_, 0, h1, .inr ⟨h, rfl, g, C, c, rfl, h2, h3⟩⟩
      · rw [if_neg h] at he; exact ⟨_, _, he, .inl ⟨h, rfl, rfl⟩⟩
    clear he
    subst hee
    refine ⟨_, rfl, ?_⟩
    refine Ops.r (Run.mv rfl) rfl ?_
    refine Ops.r (Run.extract rfl rfl) rfl ?_
    refine Ops.r (Run.extract rfl rfl) rfl ?_
    refine Ops.r (Run.asg rfl) rfl ?_
    refine Ops.r (Run.asg rfl) rfl ?_
    refine Ops.nil ?_
    refine thenQ_n ?_
    refine VC.sub [(0, _), (1, _), (2, _), (7, _), (8, _)] (.cons rfl (.cons rfl (.cons rfl (.cons rfl (.cons rfl .nil))))) ?_
    refine VC.seq ?_
    refine VC.seq ?_
    refine VC.region ?_
    refine Ops.r (Run.mv rfl) rfl ?_
    refine Ops.cl (Enters.fn (evs.cons rfl evs.nil) Try.call40) (refNew_spec A1 c1 l _ (by omega) (hr1.belowW hf2.below)) rfl ?_
    rintro e w3 ⟨rfl, hf3⟩
    refine ⟨_, rfl, ?_⟩
    have hfr3 := hf2.own hf3 (by simp)
    refine Ops.r (Run.asg rfl) rfl ?_
    refine Ops.nil ?_
    refine thenQ_n ?_
    refine VC.sub [(0, _), (1, _), (2, _), (7, _), (8, _), (9, _)] (.cons rfl (.cons rfl (.cons rfl (.cons rfl (.cons rfl (.cons rfl .nil)))))) ?_
    refine VC.seq ?_
    refine VC.region ?_
    refine Ops.r (Run.mv rfl) rfl ?_
    refine Ops.r (Run.bin rfl rfl (Bin.neqN _ 0)) rfl ?_
    refine Ops.nil ?_
    refine thenQ_n ?_
    refine VC.sub [(0, _), (1, _), (2, _), (7, _), (8, _), (9, _), (36, _)] (.cons rfl (.cons rfl (.cons rfl (.cons rfl (.cons rfl (.cons rfl (.cons rfl .nil))))))) ?_
    refine VC.condD rfl (fun hc2 => ?_) (fun hc2 => ?_)
    · skip
      obtain ⟨_, rfl, rfl⟩ := he2.resolve_right (fun h => by omega)
      refine VC.seq ?_
      refine VC.region ?_
      refine Ops.r (Run.mv rfl) rfl ?_
      refine Ops.r (Run.eqlNilP rfl rfl Try.underlying65) rfl ?_
      refine Ops.r (Run.mv rfl) rfl ?_
      refine Ops.rg rfl (by first | rfl | (simp; done)) (Run.mv rfl) rfl ?_
      refine Ops.rg rfl (by first | rfl | (simp; done)) (Run.mv rfl) rfl ?_
      refine Ops.rg rfl (by first | rfl | (simp; done)) (Run.bin rfl rfl (Bin.eqlN _ _)) rfl ?_
      refine Ops.r (Run.pickT rfl rfl (by first | rfl | assumption | decide | (simp; done) | (simp; omega) | (simp [*]; done))) rfl ?_
      refine Ops.r (Run.mv rfl) rfl ?_
      refine Ops.clg rfl (by first | rfl | (simp; done)) (Enters.fn evs.nil Try.call37) (awake09_spec _) rfl ?_
      rintro e w8 ⟨rfl, hf8⟩
      refine ⟨_, rfl, ?_⟩
      refine Ops.r (Run.pickT rfl rfl (by first | rfl | assumption | decide | (simp; done) | (simp; omega) | (simp [*]; done))) rfl ?_
      refine Ops.r (Run.asg rfl) rfl ?_
      refine Ops.nil ?_
      refine thenQ_n ?_
      refine VC.sub [(6, _)] (.cons rfl .nil) ?_
      refine VC.ret ?_
      refine thenQ_r (end1 rfl ?_)
      exact ⟨rfl, hfr3.own hf8 (by simp)⟩
    · skip
      obtain ⟨hne, rfl, g, C, c, rfl, hD, hug⟩ := he2.resolve_left (fun h => hc2 h.1)
      obtain ⟨hgl, hmost, hm15⟩ := most_eq l hne
      have hD3 := hD.frm hf3 (by simp)
      refine VC.skip ?_
      refine thenQ_n ?_
      refine VC.sub [(0, _), (1, _), (2, _), (7, _), (8, _)] (.cons rfl (.cons rfl (.cons rfl (.cons rfl (.cons rfl .nil))))) ?_
      refine VC.seq ?_
      refine VC.region ?_
      refine Ops.r (Run.mv rfl) rfl ?_
      refine Ops.cl (Enters.fn (evs.cons rfl evs.nil) Try.call16) (read_spec B1 d1 b1 _ (by omega) (hrb1.belowW hfr3.below)) rfl ?_
      rintro e w4 ⟨gr, Ar, rfl, hR4, hf4, hA4⟩
      refine ⟨_, rfl, ?_⟩
      have hD4 := hD3.frm hf4 (by simp)
      have hfr4 := hfr3.own hf4 (by simp)
      have hgr : w.heap.size ≤ gr := Nat.le_trans hfr3.size (hA4 gr (by simp))
      have hne2 : ∀ x ∈ g :: ob C, x ∉ [gr] := by
        intro x hx hx2
        simp at hx2
        subst hx2
        have h1 := hA4 x (by simp)
        rcases List.mem_cons.1 hx with h | h
        · have := hD3.1.lt; omega
        · have := hD3.2.lt x h; omega
      refine Ops.r (Run.asg rfl) rfl ?_
      refine Ops.nil ?_
      refine thenQ_n ?_
      refine VC.sub [(0, _), (1, _), (2, _), (7, _), (8, _), (10, _)] (.cons rfl (.cons rfl (.cons rfl (.cons rfl (.cons rfl (.cons rfl .nil)))))) ?_
      refine VC.seq ?_
      refine VC.seq ?_
      refine VC.region ?_
      refine Ops.r (Run.mv rfl) rfl ?_
      refine Ops.r (Run.eqlNilP rfl rfl Try.underlying65) rfl ?_
      refine Ops.r (Run.mv rfl) rfl ?_
      refine Ops.rg rfl (by first | rfl | (simp; done)) (Run.mv rfl) rfl ?_
      refine Ops.rg rfl (by first | rfl | (simp; done)) (Run.bin rfl rfl (Bin.neqN _ 0)) rfl ?_
      refine Ops.r (Run.pickF rfl rfl (by first | rfl | assumption | decide | (simp; done) | (simp; omega) | (simp [*]; done))) rfl ?_
      refine Ops.r (Run.mv rfl) rfl ?_
      refine Ops.rg rfl (by first | rfl | (simp; done)) (Run.mv rfl) rfl ?_
      refine Ops.rg rfl (by first | rfl | (simp; done)) (Run.eqlNilP rfl rfl Try.underlying31) rfl ?_
      refine Ops.r (Run.pickF rfl rfl (by first | rfl | assumption | decide | (simp; done) | (simp; omega) | (simp [*]; done))) rfl ?_
      refine Ops.nil ?_
      refine thenQ_n ?_
      refine VC.sub [(0, _), (1, _), (2, _), (7, _), (10, _), (58, _)] (.cons rfl (.cons rfl (.cons rfl (.cons rfl (.cons rfl (.cons rfl .nil)))))) ?_
      refine VC.condF rfl (by simp) ?_
      refine VC.skip ?_
      refine thenQ_n ?_
      refine VC.sub [(0, _), (1, _), (2, _), (7, _), (10, _)] (.cons rfl (.cons rfl (.cons rfl (.cons rfl (.cons rfl .nil))))) ?_
      refine VC.seq ?_
      refine VC.region ?_
      refine Ops.r (Run.mv rfl) rfl ?_
      refine Ops.cl (Enters.fn (evs.cons rfl evs.nil) Try.call26) (of_spec B1 d1 b1 _ (by omega) hb1 (hrb1.belowW hfr4.below)) rfl ?_
      rintro e w5 ⟨A8, c8, rfl, ho8, hf5, hA8⟩
      refine ⟨_, rfl, ?_⟩
      have hR5 := hR4.frm hf5 (by simp)
      have hD5 := hD4.frm hf5 (by simp)
      have hfr5 := hfr4.own hf5 (by simp)
      have hol := ofB_len b1
      rw [← hol] at ho8
      refine Ops.r (Run.asg rfl) rfl ?_
      refine Ops.nil ?_
      refine thenQ_n ?_
      refine VC.sub [(0, _), (2, _), (7, _), (10, _), (11, _)] (.cons rfl (.cons rfl (.cons rfl (.cons rfl (.cons rfl .nil))))) ?_
      refine VC.seq ?_
      refine VC.region ?_
      refine Ops.r (v := .int .i64 ((0 : Nat) : Int)) (Run.asg rfl) rfl ?_
      refine Ops.nil ?_
      refine thenQ_n ?_
      refine VC.seq ?_
      refine VC.seq ?_
      refine VC.region ?_
      refine Ops.r (Run.mv rfl) rfl ?_
      refine Ops.r (Run.mv rfl) rfl ?_
      refine Ops.r (Run.bin rfl rfl (Bin.remN _ 8 (by omega))) rfl ?_
      refine Ops.r (Run.convN _ rfl Try.underlying5 Try.underlying3 (by simp only [bmax]; omega)) rfl ?_
      refine Ops.cl (Enters.fn (evs.cons rfl (evs.cons rfl evs.nil)) Try.call18) (take_any gr 0 ((sk % 8 : Nat) : Int) Ar b1 _ (by omega) (by omega) hb1 hR5) rfl ?_
      rintro e w6 ⟨v6, e6, p6, rfl, hT6, hp6, hR6, hf6⟩
      refine ⟨_, rfl, ?_⟩
      have hD6 := hD5.frm hf6 hne2
      have ho6 := ho8.frm hf6 (ho8.ne_r hR5 (by decide))
      have hfr6 := hfr5.own hf6 (up_one hgr)
      have hp6e : p6 = if e6 = 0 then sk % 8 else 0 := by
        rcases hT6 with ⟨h, _⟩ | ⟨m, hm, _, ⟨_, _, h1, h2⟩ | ⟨_, _, h1, h2⟩⟩
        · omega
        · rw [h1, if_neg (by omega)]; exact h2
        · rw [h1, if_pos rfl]; omega
      refine Ops.r (Run.mv rfl) rfl ?_
      refine Ops.r (Run.extract rfl rfl) rfl ?_
      refine Ops.r (Run.extract rfl rfl) rfl ?_
      refine Ops.r (Run.asg rfl) rfl ?_
      refine Ops.r (Run.asg rfl) rfl ?_
      refine Ops.nil ?_
      refine thenQ_n ?_
      refine VC.sub [(0, _), (2, _), (7, _), (10, _), (11, _), (12, _), (14, _)] (.cons rfl (.cons rfl (.cons rfl (.cons rfl (.cons rfl (.cons rfl (.cons rfl .nil))))))) ?_
      refine VC.seq ?_
      refine VC.region ?_
      refine Ops.r (Run.mv rfl) rfl ?_
      refine Ops.r (Run.bin rfl rfl (Bin.eqlN _ 0)) rfl ?_
      refine Ops.nil ?_
      refine thenQ_n ?_
      refine VC.sub [(0, _), (2, _), (7, _), (10, _), (11, _), (12, _), (70, _)] (.cons rfl (.cons rfl (.cons rfl (.cons rfl (.cons rfl (.cons rfl (.cons rfl .nil))))))) ?_
      refine VC.meet (σ := Unit) (fun s => [(0, .slice A1 l.length c1), (7, .pointer (some ⟨g, 0, none⟩)), (10, .pointer (some ⟨gr, 0, none⟩)), (11, .slice A8 (8 * b1.length) c8), (12, .int .i64 ((p6 : Nat) : Int))]) (fun s w9 => w6 = w9) ?_ ?_
      · skip
        refine VC.condD rfl (fun hc4 => ?_) (fun hc4 => ?_)
        · skip
          refine VC.region ?_
          refine Ops.r (Run.mv rfl) rfl ?_
          refine Ops.r (Run.bin rfl rfl (Bin.remN _ 8 (by omega))) rfl ?_
          refine Ops.r (Run.convN _ rfl Try.underlying5 Try.underlying3 (by simp only [bmax]; omega)) rfl ?_
          refine Ops.r (Run.asg rfl) rfl ?_
          refine Ops.nil ?_
          refine thenQ_n ⟨(), (.cons rfl (.cons rfl (.cons rfl (.cons rfl (.cons (by rw [hp6e, if_pos hc4]; rfl) .nil))))), ?_⟩
          rfl
        · skip
          refine VC.skip ?_
          refine thenQ_n ⟨(), (.cons rfl (.cons rfl (.cons rfl (.cons rfl (.cons (by rw [hp6e, if_neg hc4]; rfl) .nil))))), ?_⟩
          rfl
      · skip
        rintro _ _ rfl Γ hΓ
        refine thenQ_n (VC.sub _ hΓ ?_)
        refine VC.seq ?_
        refine VC.seq ?_
        refine VC.region ?_
        refine Ops.r (v := .int .i64 ((0 : Nat) : Int)) (Run.asg rfl) rfl ?_
        refine Ops.nil ?_
        refine thenQ_n ?_
        refine VC.block ?_
        refine VC.loop (σ := Nat × Nat) (fun s => [(0, .slice A1 l.length c1), (7, .pointer (some ⟨g, 0, none⟩)), (10, .pointer (some ⟨gr, 0, none⟩)), (11, .slice A8 (8 * b1.length) c8), (12, .int .i64 ((s.2 : Nat) : Int)), (15, .int .i64 ((s.1 : Nat) : Int))]) (fun s wr => s.1 ≤ 40 ∧ s.2 ≤ 8 * b1.length ∧ IsR wr gr Ar b1 s.2 ∧ IsD wr g C c (cn l) (fst' l) (order l) (mostC l) ∧ Own wr 4 1 A8 (ofB b1).length c8 (BL (ofB b1)) ∧ Frm [] w wr) (fun s => 40 - s.1) (0, p6) (.cons rfl (.cons rfl (.cons rfl (.cons rfl (.cons rfl (.cons rfl .nil)))))) ⟨by omega, hp6, hR6, hD6, ho6, hfr6⟩ ?_
        clear hR4 hR5 hR6 hD4 hD5 hD6 ho8 ho6 hD3 hD
        rintro ⟨i, p⟩ wr ⟨hi, hp, hR, hD, ho, hfr⟩
        dsimp only at hi hp hR hD ho hfr ⊢
        refine VC.seq ?_
        refine VC.seq ?_
        refine VC.region ?_
        refine Ops.r (Run.mv rfl) rfl ?_
        refine Ops.r (Run.bin rfl rfl (Bin.lssN _ 40)) rfl ?_
        refine Ops.nil ?_
        refine thenQ_n ?_
        refine VC.sub [(0, _), (7, _), (10, _), (11, _), (12, _), (15, _), (75, _)] (.cons rfl (.cons rfl (.cons rfl (.cons rfl (.cons rfl (.cons rfl (.cons rfl .nil))))))) ?_
        refine VC.condD rfl (fun hc5 => ?_) (fun hc5 => ?_)
        · skip
          refine VC.skip ?_
          refine thenQ_n ?_
          refine VC.sub [(0, _), (7, _), (10, _), (11, _), (12, _), (15, _)] (.cons rfl (.cons rfl (.cons rfl (.cons rfl (.cons rfl (.cons rfl .nil)))))) ?_
          refine VC.seq ?_
          refine VC.block ?_
          refine VC.seq ?_
          refine VC.region ?_
          refine Ops.r (Run.mv rfl) rfl ?_
          refine Ops.r (Run.mv rfl) rfl ?_
          refine Ops.cl (Enters.fn (evs.cons rfl (evs.cons rfl evs.nil)) Try.call41) (takeD_spec g gr C Ar c l (mostC l) p b1 _ hgl.1 hm15 hp (by omega) hb1 hD hR) rfl ?_
          rintro e w6 ⟨rfl, hq6, hR6, hf6⟩
          refine ⟨_, rfl, ?_⟩
          have hD6 := hD.frm hf6 hne2
          have ho6 := ho.frm hf6 (ho.ne_r hR (by decide))
          have hfr6 := hfr.own hf6 (up_one hgr)
          refine Ops.r (Run.mv rfl) rfl ?_
          refine Ops.r (Run.extract rfl rfl) rfl ?_
          refine Ops.r (Run.extract rfl rfl) rfl ?_
          refine Ops.r (Run.asg rfl) rfl ?_
          refine Ops.r (Run.asg rfl) rfl ?_
          refine Ops.nil ?_
          refine thenQ_n ?_
          refine VC.sub [(0, _), (7, _), (10, _), (11, _), (12, _), (15, _), (16, _), (17, _)] (.cons rfl (.cons rfl (.cons rfl (.cons rfl (.cons rfl (.cons rfl (.cons rfl (.cons rfl .nil)))))))) ?_
          refine VC.seq ?_
          refine VC.region ?_
          refine Ops.r (Run.mv rfl) rfl ?_
          refine Ops.r (Run.mv rfl) rfl ?_
          refine Ops.r (Run.mv rfl) rfl ?_
          refine Ops.cl (Enters.fn (evs.cons rfl (evs.cons rfl (evs.cons rfl evs.nil))) Try.call42) ((by have h := refTake_spec A1 A8 c1 c8 l (ofB b1) p w6 hgl (by omega) (by omega) (hr1.belowW hfr6.below) ho6.rd; rw [← hmost, hol] at h; exact h)) rfl ?_
          rintro e w7 ⟨rfl, hf7⟩
          refine ⟨_, rfl, ?_⟩
          generalize tk l (ofB b1) (mostC l) 1 0 p = R at *
          obtain ⟨R1, R2, R3⟩ := R
          dsimp only at hq6 hR6 ⊢
          have hR7 := hR6.frm hf7 (by simp)
          have hD7 := hD6.frm hf7 (by simp)
          have ho7 := ho6.frm hf7 (by simp)
          have hfr7 := hfr6.own hf7 (by simp)
          refine Ops.r (Run.mv rfl) rfl ?_
          refine Ops.r (Run.extract rfl rfl) rfl ?_
          refine Ops.r (Run.extract rfl rfl) rfl ?_
          refine Ops.r (Run.extract rfl rfl) rfl ?_
          refine Ops.r (Run.asg rfl) rfl ?_
          refine Ops.r (Run.asg rfl) rfl ?_
          refine Ops.r (Run.asg rfl) rfl ?_
          refine Ops.nil ?_
          refine thenQ_n ?_
          refine VC.sub [(0, _), (7, _), (10, _), (11, _), (15, _), (16, _), (17, _), (18, _), (19, _), (20, _)] (.cons rfl (.cons rfl (.cons rfl (.cons rfl (.cons rfl (.cons rfl (.cons rfl (.cons rfl (.cons rfl (.cons rfl .nil)))))))))) ?_
          refine VC.seq ?_
          refine VC.seq ?_
          refine VC.region ?_
          refine Ops.r (Run.mv rfl) rfl ?_
          refine Ops.r (Run.mv rfl) rfl ?_
          refine Ops.r (Run.bin rfl rfl (Bin.neqN _ _)) rfl ?_
          refine Ops.r (Run.mv rfl) rfl ?_
          refine Ops.rg rfl (by first | rfl | (simp; done)) (Run.mv rfl) rfl ?_
          refine Ops.rg rfl (by first | rfl | (simp; done)) (Run.mv rfl) rfl ?_
          refine Ops.rg rfl (by first | rfl | (simp; done)) (Run.bin rfl rfl (Bin.neqN _ _)) rfl ?_
          refine Ops.r (Run.pickF rfl rfl (by simp)) rfl ?_
          refine Ops.r (Run.mv rfl) rfl ?_
          refine Ops.rg rfl (by first | rfl | (simp; done)) (Run.mv rfl) rfl ?_
          refine Ops.clg rfl (by first | rfl | (simp; done)) (Enters.fn (evs.cons rfl evs.nil) Try.call32) (at_spec gr R2 Ar b1 _ hR7) rfl ?_
          rintro e _ ⟨rfl, rfl⟩
          refine ⟨_, rfl, ?_⟩
          refine Ops.rg rfl (by first | rfl | (simp; done)) (Run.mv rfl) rfl ?_
          refine Ops.rg rfl (by first | rfl | (simp; done)) (Run.bin rfl rfl (Bin.neqN _ _)) rfl ?_
          refine Ops.r (Run.pickF rfl rfl (by simp)) rfl ?_
          refine Ops.nil ?_
          refine thenQ_n ?_
          refine VC.sub [(0, _), (7, _), (10, _), (11, _), (15, _), (19, _), (20, _), (105, _)] (.cons rfl (.cons rfl (.cons rfl (.cons rfl (.cons rfl (.cons rfl (.cons rfl (.cons rfl .nil)))))))) ?_
          refine VC.condF rfl (by simp) ?_
          refine VC.skip ?_
          refine thenQ_n ?_
          refine VC.sub [(0, _), (7, _), (10, _), (11, _), (15, _), (19, _), (20, _)] (.cons rfl (.cons rfl (.cons rfl (.cons rfl (.cons rfl (.cons rfl (.cons rfl .nil))))))) ?_
          refine VC.seq ?_
          refine VC.region ?_
          refine Ops.r (Run.mv rfl) rfl ?_
          refine Ops.r (Run.asg rfl) rfl ?_
          refine Ops.nil ?_
          refine thenQ_n ?_
          refine VC.sub [(0, _), (7, _), (10, _), (11, _), (12, _), (15, _), (20, _)] (.cons rfl (.cons rfl (.cons rfl (.cons rfl (.cons rfl (.cons rfl (.cons rfl .nil))))))) ?_
          refine VC.seq ?_
          refine VC.region ?_
          refine Ops.r (Run.mv rfl) rfl ?_
          refine Ops.r (Run.bin rfl rfl (Bin.neqN _ 0)) rfl ?_
          refine Ops.nil ?_
          refine thenQ_n ?_
          refine VC.sub [(0, _), (7, _), (10, _), (11, _), (12, _), (15, _), (108, _)] (.cons rfl (.cons rfl (.cons rfl (.cons rfl (.cons rfl (.cons rfl (.cons rfl .nil))))))) ?_
          refine VC.condD rfl (fun hc7 => ?_) (fun hc7 => ?_)
          · skip
            refine VC.exit ?_
            refine blockQ_o rfl (thenQ_x (thenQ_x (blockQ_x ?_)))
            refine thenQ_n ?_
            refine VC.sub [] .nil ?_
            refine VC.seq ?_
            refine VC.region ?_
            refine Ops.cl (Enters.fn evs.nil Try.call37) (awake09_spec _) rfl ?_
            rintro e w8 ⟨rfl, hf8⟩
            refine ⟨_, rfl, ?_⟩
            refine Ops.r (Run.asg rfl) rfl ?_
            refine Ops.nil ?_
            refine thenQ_n ?_
            refine VC.sub [(6, _)] (.cons rfl .nil) ?_
            refine VC.ret ?_
            refine end1 rfl ?_
            exact ⟨rfl, hfr7.own hf8 (by simp)⟩
          · skip
            refine VC.skip ?_
            refine blockQ_n (thenQ_n ?_)
            refine VC.sub [(0, _), (7, _), (10, _), (11, _), (12, _), (15, _)] (.cons rfl (.cons rfl (.cons rfl (.cons rfl (.cons rfl (.cons rfl .nil)))))) ?_
            refine VC.region ?_
            refine Ops.r (Run.mv rfl) rfl ?_
            refine Ops.r (Run.bin rfl rfl (Bin.add_i64 _ 1 (by omega))) rfl ?_
            refine Ops.r (Run.asg rfl) rfl ?_
            refine Ops.nil ?_
            refine thenQ_n ⟨(i + 1, R2), (.cons rfl (.cons rfl (.cons rfl (.cons rfl (.cons rfl (.cons rfl .nil)))))), ?_, ?_⟩
            · skip
              exact ⟨by dsimp only; omega, hq6, hR7, hD7, ho7, hfr7⟩
            · skip
              first | omega | (dsimp only; omega)
        · skip
          refine VC.exit ?_
          refine thenQ_x (thenQ_x (blockQ_x ?_))
          refine thenQ_n ?_
          refine VC.sub [] .nil ?_
          refine VC.seq ?_
          refine VC.region ?_
          refine Ops.cl (Enters.fn evs.nil Try.call37) (awake09_spec _) rfl ?_
          rintro e w8 ⟨rfl, hf8⟩
          refine ⟨_, rfl, ?_⟩
          refine Ops.r (Run.asg rfl) rfl ?_
          refine Ops.nil ?_
          refine thenQ_n ?_
          refine VC.sub [(6, _)] (.cons rfl .nil) ?_
          refine VC.ret ?_
          refine end1 rfl ?_
          exact ⟨rfl, hfr.own hf8 (by simp)⟩

end Go.Proofs.Ytebaojedpnnliaa
