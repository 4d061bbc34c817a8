/-
  The walks of inflate: a block.
-/
import Derived.Test.YtfjhmbgckmhdaaaInfN
namespace Go.Proofs.Ytfjhmbgckmhdaaa
open Go.RowKit

theorem storedF_le {bs : List Nat} {most p : Nat} {out : List Nat} {x : Nat × List Nat} (h : storedF bs most p out = .ok x) : p < x.1 := by
  unfold storedF at h
  rcases hT : takeF (ofB bs) 16 ((p + 7) / 8 * 8) with k | ⟨v, p2⟩
  · rw [hT] at h; cases h
  rw [hT, bnd_k] at h
  obtain ⟨h3, h4, _, _⟩ := takeF_ok hT
  dsimp only at h
  rcases hT2 : takeF (ofB bs) 16 p2 with k | ⟨v2, p3⟩
  · rw [hT2] at h; cases h
  rw [hT2, bnd_k] at h
  obtain ⟨h7, h8, _, _⟩ := takeF_ok hT2
  dsimp only at h
  split at h
  · cases h
  split at h
  · cases h
  split at h
  · cases h
  simp only [Except.ok.injEq] at h
  subst h
  show p < p3 + 8 * v
  omega
theorem fixedL_len : fixedL.length = 288 := by decide +kernel
theorem fixedW_len : fixedW.length = 32 := by decide +kernel

set_option maxRecDepth 100000 in
theorem iblock_spec (gx gr p : Nat) (Ar A : Option Addr) (bs : List Nat) (c : Nat) (out : List Nat) (most : Nat) (w : World) (hmo : most ≤ 1000000) (hbs : bs.length ≤ 1000000) (hB : ∀ b ∈ bs, b < 256) (hX : IsX w gx gr Ar bs p A c out most) :
    Calls Try.prog 24 #[.pointer (some ⟨gx, 0, none⟩)] w fun e w' => Frm (gx :: gr :: ob A) w w' ∧ match blockF bs most p out with
      | .error k => e = .panicked (Pan k)
      | .ok x => ∃ A' c', e = .returned (.bool x.1) ∧ IsX w' gx gr Ar bs x.2.1 A' c' x.2.2 most ∧ ∀ y ∈ ob A', y ∈ ob A ∨ w.heap.size ≤ y := by
  generalize hF : blockF bs most p out = F
  unfold blockF at hF
  refine VC.calls (nt := 43) (res := #[.tmp 2]) Try.func24 rfl Try.ntmps24 Try.results24 rfl ?_
  refine VC.seq ?_
  refine VC.region ?_
  refine Ops.r (Run.asg rfl) rfl ?_
  refine Ops.nil ?_
  refine thenQ_n ?_
  refine VC.sub [(0, _)] (.cons rfl .nil) ?_
  refine VC.seq ?_
  refine VC.region ?_
  refine Ops.r (Run.mv rfl) rfl ?_
  refine Ops.clp (Enters.fn (evs.cons rfl (evs.cons rfl evs.nil)) Try.call34) (itake_spec gx gr 1 p Ar A bs c out most _ (by omega) hbs hB hX) rfl ?_
  rintro e w1 ⟨hf1, he⟩
  have hfr1 := hf1
  rcases hT1 : takeF (ofB bs) 1 p with kk | ⟨v1, p1⟩
  · rw [hT1] at he
    simp only [hT1, bnd_e] at hF
    subst hF
    exact .inr ⟨_, he, thenQ_p (endQ_p ⟨hfr1.mono (by simp), rfl⟩)⟩
  rw [hT1] at he
  simp only [hT1, bnd_k] at hF
  obtain ⟨rfl, hX1⟩ := he
  obtain ⟨hp1, hpl1, hv1, _⟩ := takeF_ok hT1
  refine .inl ⟨_, rfl, ?_⟩
  refine Ops.r (Run.mv rfl) rfl ?_
  refine Ops.clp (Enters.fn (evs.cons rfl (evs.cons rfl evs.nil)) Try.call34) (itake_spec gx gr 2 p1 Ar A bs c out most _ (by omega) hbs hB hX1) rfl ?_
  rintro e w2 ⟨hf2, he⟩
  have hfr2 := hfr1.trans hf2 (fun x hx => .inl hx)
  rcases hT2 : takeF (ofB bs) 2 p1 with kk | ⟨v2, p2⟩
  · rw [hT2] at he
    simp only [hT2, bnd_e] at hF
    subst hF
    exact .inr ⟨_, he, thenQ_p (endQ_p ⟨hfr2.mono (by simp), rfl⟩)⟩
  rw [hT2] at he
  simp only [hT2, bnd_k] at hF
  obtain ⟨rfl, hX2⟩ := he
  obtain ⟨hp2, hpl2, hv2, _⟩ := takeF_ok hT2
  refine .inl ⟨_, rfl, ?_⟩
  rw [ofB_len] at hpl1 hpl2
  have hs2 := hfr2.size
  refine Ops.r (Run.asg rfl) rfl ?_
  refine Ops.r (Run.asg rfl) rfl ?_
  refine Ops.nil ?_
  refine thenQ_n ?_
  refine VC.sub [(0, _), (3, _), (4, _)] (.cons rfl (.cons rfl (.cons rfl .nil))) ?_
  refine VC.seq ?_
  refine VC.region ?_
  refine Ops.r (Run.mv rfl) rfl ?_
  refine Ops.r (Run.bin rfl rfl (Bin.lssN _ 3)) rfl ?_
  refine Ops.clp (Enters.fn (evs.cons rfl (evs.cons rfl evs.nil)) Try.call35) (need_spec (decide (v2 < 3)) 3 _) rfl ?_
  rintro e _ ⟨rfl, rfl⟩
  by_cases hN1 : v2 < 3
  rotate_left
  · refine .inr ⟨_, by rw [if_neg (by simpa using hN1)], thenQ_p (endQ_p ?_)⟩
    rw [if_pos hN1] at hF
    subst hF
    exact ⟨hfr2.mono (by simp), rfl⟩
  refine .inl ⟨_, by rw [if_pos (by simpa using hN1)], ?_⟩
  rw [if_neg (by simpa using hN1)] at hF
  refine Ops.nil ?_
  refine thenQ_n ?_
  refine VC.sub [(0, _), (3, _), (4, _)] (.cons rfl (.cons rfl (.cons rfl .nil))) ?_
  refine VC.seq ?_
  refine VC.seq ?_
  refine VC.region ?_
  refine Ops.r (Run.mv rfl) rfl ?_
  refine Ops.nil ?_
  refine thenQ_n ?_
  refine VC.sub [(0, _), (3, _), (14, _)] (.cons rfl (.cons rfl (.cons rfl .nil))) ?_
  refine VC.block ?_
  refine VC.seq ?_
  refine VC.region ?_
  refine Ops.r (Run.bin rfl rfl (Bin.eqlN _ 0)) rfl ?_
  refine Ops.r (Run.asg rfl) rfl ?_
  refine Ops.nil ?_
  refine thenQ_n ?_
  refine VC.sub [(0, _), (3, _), (14, _), (15, _)] (.cons rfl (.cons rfl (.cons rfl (.cons rfl .nil)))) ?_
  refine VC.condD rfl (fun hc1 => ?_) (fun hc1 => ?_)
  · skip
    rw [if_pos hc1] at hF
    refine VC.seq ?_
    refine VC.region ?_
    refine Ops.r (Run.mv rfl) rfl ?_
    refine Ops.clp (Enters.fn (evs.cons rfl evs.nil) Try.call36) (istored_spec gx gr p2 Ar A bs c out most _ hmo hbs hB hX2) rfl ?_
    rintro e w3 ⟨hf3, he⟩
    have hfr3 : Frm (gx :: gr :: ob A) w w3 := (hfr2.mono (T := gx :: gr :: ob A) (by simp)).trans hf3 (fun x hx => .inl hx)
    rcases hT3 : storedF bs most p2 out with kk | ⟨q3, o3⟩
    · rw [hT3] at he hF
      simp only [bnd_e] at hF
      subst hF
      exact .inr ⟨_, he, thenQ_p (blockQ_p (thenQ_p (endQ_p ⟨hfr3, rfl⟩)))⟩
    rw [hT3] at he hF
    simp only [bnd_k] at hF
    obtain ⟨A3, c3, rfl, hX3, hu3⟩ := he
    dsimp only at hX3 hu3 hF
    subst hF
    refine .inl ⟨_, rfl, ?_⟩
    refine Ops.nil ?_
    refine thenQ_n ?_
    refine VC.sub [(3, _)] (.cons rfl .nil) ?_
    refine VC.seq ?_
    refine VC.region ?_
    refine Ops.r (Run.mv rfl) rfl ?_
    refine Ops.r (Run.bin rfl rfl (Bin.eqlN _ 0)) rfl ?_
    refine Ops.r (Run.asg rfl) rfl ?_
    refine Ops.nil ?_
    refine thenQ_n ?_
    refine VC.sub [(2, _)] (.cons rfl .nil) ?_
    refine VC.ret ?_
    refine blockQ_r (thenQ_r (end1 rfl ?_))
    exact ⟨hfr3, A3, c3, rfl, hX3, fun y hy => (hu3 y hy).imp id (fun h => Nat.le_trans hs2 h)⟩
  · skip
    rw [if_neg hc1] at hF
    refine VC.seq ?_
    refine VC.region ?_
    refine Ops.r (Run.bin rfl rfl (Bin.eqlN _ 1)) rfl ?_
    refine Ops.r (Run.asg rfl) rfl ?_
    refine Ops.nil ?_
    refine thenQ_n ?_
    refine VC.sub [(0, _), (3, _), (14, _), (21, _)] (.cons rfl (.cons rfl (.cons rfl (.cons rfl .nil)))) ?_
    refine VC.condD rfl (fun hc2 => ?_) (fun hc2 => ?_)
    · skip
      rw [if_pos hc2] at hF
      obtain ⟨hg1, hg2, _⟩ := fixed_good
      refine VC.seq ?_
      refine VC.region ?_
      refine Ops.cl (Enters.fn evs.nil Try.call13) (ifixed_spec _) rfl ?_
      rintro e w3 ⟨A3, c3, B3, d3, rfl, hO3, hQ3, hf3⟩
      refine ⟨_, rfl, ?_⟩
      have hX3 := hX2.frm0 hf3
      have hfr3 := hfr2.trans hf3 (by simp)
      refine Ops.r (Run.mv rfl) rfl ?_
      refine Ops.r (Run.extract rfl rfl) rfl ?_
      refine Ops.r (Run.extract rfl rfl) rfl ?_
      refine Ops.r (Run.asg rfl) rfl ?_
      refine Ops.r (Run.asg rfl) rfl ?_
      refine Ops.nil ?_
      refine thenQ_n ?_
      refine VC.sub [(0, _), (3, _), (5, _), (6, _)] (.cons rfl (.cons rfl (.cons rfl (.cons rfl .nil)))) ?_
      refine VC.region ?_
      refine Ops.r (Run.mv rfl) rfl ?_
      refine Ops.r (Run.mv rfl) rfl ?_
      refine Ops.clp (Enters.fn (evs.cons rfl evs.nil) Try.call38) (code_at _ _ fixedL 288 _ (by rw [fixedL_len]; omega) fixedL_len hO3.rd) rfl ?_
      rintro e w4 ⟨hf4, he⟩
      have hfr4 := (hfr3).trans hf4 (by simp)
      rw [if_pos hg1] at he
      obtain ⟨gd4, Bd4, cd4, rfl, hD4, hgd4⟩ := he
      refine .inl ⟨_, rfl, ?_⟩
      have hX4 := hX3.frm0 hf4
      have hQ4 := hQ3.frm hf4 (by simp)
      refine Ops.r (Run.mv rfl) rfl ?_
      refine Ops.clp (Enters.fn (evs.cons rfl evs.nil) Try.call38) (code_at _ _ fixedW 32 _ (by rw [fixedW_len]; omega) fixedW_len hQ4.rd) rfl ?_
      rintro e w5 ⟨hf5, he⟩
      have hfr5 := (hfr4).trans hf5 (by simp)
      rw [if_pos hg2] at he
      obtain ⟨gd5, Bd5, cd5, rfl, hD5, hgd5⟩ := he
      refine .inl ⟨_, rfl, ?_⟩
      have hX5 := hX4.frm0 hf5
      have hD45 := hD4.frm hf5 (by simp)
      refine Ops.clp (Enters.fn (evs.cons rfl (evs.cons rfl (evs.cons rfl evs.nil))) Try.call37) (itokens_spec gx gr p2 gd4 gd5 (8 * bs.length + 1) Ar A Bd4 Bd5 _ _ fixedL fixedW bs c out most _ hg1 hg2 (by omega) hmo hbs hB hX5 hD45 hD5) rfl ?_
      rintro e w6 ⟨hf6, he⟩
      have hfr6 : Frm (gx :: gr :: ob A) w w6 := (hfr5.mono (T := gx :: gr :: ob A) (by simp)).trans hf6 (fun x hx => .inl hx)
      rcases hT6 : tokensF (ofB bs) fixedL fixedW most (8 * bs.length + 1) p2 out with kk | ⟨q6, o6⟩
      · rw [hT6] at he hF
        simp only [bnd_e] at hF
        subst hF
        exact .inr ⟨_, he, blockQ_p (thenQ_p (endQ_p ⟨hfr6, rfl⟩))⟩
      rw [hT6] at he hF
      simp only [bnd_k] at hF
      obtain ⟨A6, c6, rfl, hX6, hu6⟩ := he
      dsimp only at hX6 hu6 hF
      subst hF
      refine .inl ⟨_, rfl, ?_⟩
      refine Ops.nil ?_
      refine blockQ_n (thenQ_n ?_)
      refine VC.sub [(3, _)] (.cons rfl .nil) ?_
      refine VC.seq ?_
      refine VC.region ?_
      refine Ops.r (Run.mv rfl) rfl ?_
      refine Ops.r (Run.bin rfl rfl (Bin.eqlN _ 0)) rfl ?_
      refine Ops.r (Run.asg rfl) rfl ?_
      refine Ops.nil ?_
      refine thenQ_n ?_
      refine VC.sub [(2, _)] (.cons rfl .nil) ?_
      refine VC.ret ?_
      refine end1 rfl ?_
      exact ⟨hfr6, A6, c6, rfl, hX6, fun y hy => (hu6 y hy).imp id (fun h => Nat.le_trans hfr5.size h)⟩
    · skip
      rw [if_neg hc2] at hF
      refine VC.seq ?_
      refine VC.region ?_
      refine Ops.r (Run.bin rfl rfl (Bin.eqlN _ 2)) rfl ?_
      refine Ops.r (Run.asg rfl) rfl ?_
      refine Ops.nil ?_
      refine thenQ_n ?_
      refine VC.sub [(0, _), (3, _), (33, _)] (.cons rfl (.cons rfl (.cons rfl .nil))) ?_
      refine VC.condD rfl (fun hc3 => ?_) (fun hc3 => ?_)
      · skip
        refine VC.region ?_
        refine Ops.r (Run.mv rfl) rfl ?_
        refine Ops.r (Run.mv rfl) rfl ?_
        refine Ops.clp (Enters.fn (evs.cons rfl evs.nil) Try.call39) (idyn_spec gx gr p2 Ar A bs c out most _ hbs hB hX2) rfl ?_
        rintro e w3 ⟨hf3, he⟩
        have hfr3 := hfr2.trans hf3 (fun x hx => .inl hx)
        rcases hT3 : dynF (ofB bs) p2 with kk | ⟨q3, la, lb⟩
        · rw [hT3] at he hF
          simp only [bnd_e] at hF
          subst hF
          exact .inr ⟨_, he, blockQ_p (thenQ_p (endQ_p ⟨hfr3.mono (by simp), rfl⟩))⟩
        rw [hT3] at he hF
        simp only [bnd_k] at hF
        obtain ⟨ga, Ba, ca, gb, Bb, cb, rfl, hX3, hDa, hDb, hna, hnb⟩ := he
        dsimp only at hX3 hDa hDb hna hnb hF
        refine .inl ⟨_, rfl, ?_⟩
        refine Ops.r (Run.extract rfl rfl) rfl ?_
        refine Ops.r (Run.extract rfl rfl) rfl ?_
        refine Ops.clp (Enters.fn (evs.cons rfl (evs.cons rfl (evs.cons rfl evs.nil))) Try.call37) (itokens_spec gx gr q3 ga gb (8 * bs.length + 1) Ar A Ba Bb _ _ la lb bs c out most _ hna hnb (by omega) hmo hbs hB hX3 hDa hDb) rfl ?_
        rintro e w6 ⟨hf6, he⟩
        have hfr6 : Frm (gx :: gr :: ob A) w w6 := (hfr3.mono (T := gx :: gr :: ob A) (by simp)).trans hf6 (fun x hx => .inl hx)
        rcases hT6 : tokensF (ofB bs) la lb most (8 * bs.length + 1) q3 out with kk | ⟨q6, o6⟩
        · rw [hT6] at he hF
          simp only [bnd_e] at hF
          subst hF
          exact .inr ⟨_, he, blockQ_p (thenQ_p (endQ_p ⟨hfr6, rfl⟩))⟩
        rw [hT6] at he hF
        simp only [bnd_k] at hF
        obtain ⟨A6, c6, rfl, hX6, hu6⟩ := he
        dsimp only at hX6 hu6 hF
        subst hF
        refine .inl ⟨_, rfl, ?_⟩
        refine Ops.nil ?_
        refine blockQ_n (thenQ_n ?_)
        refine VC.sub [(3, _)] (.cons rfl .nil) ?_
        refine VC.seq ?_
        refine VC.region ?_
        refine Ops.r (Run.mv rfl) rfl ?_
        refine Ops.r (Run.bin rfl rfl (Bin.eqlN _ 0)) rfl ?_
        refine Ops.r (Run.asg rfl) rfl ?_
        refine Ops.nil ?_
        refine thenQ_n ?_
        refine VC.sub [(2, _)] (.cons rfl .nil) ?_
        refine VC.ret ?_
        refine end1 rfl ?_
        exact ⟨hfr6, A6, c6, rfl, hX6, fun y hy => (hu6 y hy).imp id (fun h => Nat.le_trans hfr3.size h)⟩
      · skip
        omega

end Go.Proofs.Ytfjhmbgckmhdaaa
