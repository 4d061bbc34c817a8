/-
  The walks of inflate: all tokens of a block, a block.
-/
import Derived.Test.YtfjhmbgckmhdaaaInfK
namespace Go.Proofs.Ytfjhmbgckmhdaaa
open Go.RowKit

theorem tokenF_lt {L : List Bool} {a b : List Int} {most p : Nat} {out : List Nat} {x : Bool × Nat × List Nat} (hm : mostC a ≤ 15) (hm2 : mostC b ≤ 15) (hp : p ≤ L.length) (h : tokenF L a b most p out = .ok x) : p < x.2.1 ∧ x.2.1 ≤ L.length := by
  unfold tokenF at h
  rcases hS : symF L a p with k | ⟨s, p1⟩
  · rw [hS] at h; cases h
  rw [hS, bnd_k] at h
  obtain ⟨h1, h2, _⟩ := symF_ok hm hp hS
  dsimp only at h
  split at h
  · split at h
    · injection h with h; subst h; exact ⟨h1, h2⟩
    · cases h
  split at h
  · injection h with h; subst h; exact ⟨h1, h2⟩
  split at h
  · cases h
  generalize longT.getD (s - 257) (0, 0) = lg at h
  rcases hT : takeF L lg.2 p1 with k | ⟨v, p2⟩
  · rw [hT] at h; cases h
  rw [hT, bnd_k] at h
  obtain ⟨h3, h4, _, _⟩ := takeF_ok hT
  dsimp only at h
  rcases hS2 : symF L b p2 with k | ⟨s2, p3⟩
  · rw [hS2] at h; cases h
  rw [hS2, bnd_k] at h
  obtain ⟨h5, h6, _⟩ := symF_ok hm2 (by omega) hS2
  dsimp only at h
  split at h
  · cases h
  generalize wayT.getD s2 (0, 0) = wg at h
  rcases hT2 : takeF L wg.2 p3 with k | ⟨v2, p4⟩
  · rw [hT2] at h; cases h
  rw [hT2, bnd_k] at h
  obtain ⟨h7, h8, _, _⟩ := takeF_ok hT2
  dsimp only at h
  split at h
  · cases h
  split at h
  · cases h
  injection h with h; subst h
  show p < p4 ∧ p4 ≤ L.length
  omega
theorem IsX.ofD {w : World} {gx gr : Nat} {Ar : Option Addr} {bs : List Nat} {p : Nat} {A : Option Addr} {c : Nat} {out : List Nat} {most g : Nat} {B : Option Addr} {d : Nat} {f F : Nat → Nat} {sy : List Nat} {m : Nat} (h : IsX w gx gr Ar bs p A c out most) (hD : IsD w g B d f F sy m) : ∀ x ∈ g :: ob B, x ∉ gx :: gr :: ob A := fun x hx h5 => by
  rcases List.mem_cons.1 h5 with rfl | h5
  · rcases List.mem_cons.1 hx with h6 | hx
    · exact hD.1.ne h.1 (by decide) h6.symm
    · exact hD.2.ne_blk h.1 (by decide) hx
  rcases List.mem_cons.1 h5 with rfl | h5
  · rcases List.mem_cons.1 hx with h6 | hx
    · exact hD.1.ne h.2.1.choose_spec.1 (by decide) h6.symm
    · exact hD.2.ne_blk h.2.1.choose_spec.1 (by decide) hx
  rcases List.mem_cons.1 hx with h6 | hx
  · subst h6; exact h.2.2.1.ne_blk hD.1 (by decide) h5
  · exact hD.2.ne_own h.2.2.1 (by decide) x hx h5

set_option maxRecDepth 100000 in
theorem itokens_spec (gx gr p ga gb f : Nat) (Ar A Ba Bb : Option Addr) (ca cb : Nat) (a b : List Int) (bs : List Nat) (c : Nat) (out : List Nat) (most : Nat) (w : World) (hna : newE a = 0) (hnb : newE b = 0) (hfp : 8 * bs.length < f + p) (hmo : most ≤ 1000000) (hbs : bs.length ≤ 1000000) (hB : ∀ b ∈ bs, b < 256) (hX : IsX w gx gr Ar bs p A c out most)
    (hDa : IsD w ga Ba ca (cn a) (fst' a) (order a) (mostC a)) (hDb : IsD w gb Bb cb (cn b) (fst' b) (order b) (mostC b)) :
    Calls Try.prog 37 #[.pointer (some ⟨gx, 0, none⟩), .pointer (some ⟨ga, 0, none⟩), .pointer (some ⟨gb, 0, none⟩)] w fun e w' => Frm (gx :: gr :: ob A) w w' ∧ match tokensF (ofB bs) a b most f p out with
      | .error k => e = .panicked (Pan k)
      | .ok x => ∃ A' c', e = .returned (.tuple #[]) ∧ IsX w' gx gr Ar bs x.1 A' c' x.2 most ∧ ∀ y ∈ ob A', y ∈ ob A ∨ w.heap.size ≤ y := by
  generalize hF : tokensF (ofB bs) a b most f p out = F
  obtain ⟨hal, ham⟩ := newE_good hna
  obtain ⟨hbl, hbm⟩ := newE_good hnb
  refine VC.calls (nt := 10) (res := #[]) Try.func37 rfl Try.ntmps37 Try.results37 rfl ?_
  refine VC.block ?_
  refine VC.loop (σ := Nat × Nat × List Nat × Option Addr × Nat) (fun s => [(0, .pointer (some ⟨gx, 0, none⟩)), (1, .pointer (some ⟨ga, 0, none⟩)), (2, .pointer (some ⟨gb, 0, none⟩))]) (fun s wr => tokensF (ofB bs) a b most s.1 s.2.1 s.2.2.1 = F ∧ 8 * bs.length < s.1 + s.2.1 ∧ IsX wr gx gr Ar bs s.2.1 s.2.2.2.1 s.2.2.2.2 s.2.2.1 most ∧ IsD wr ga Ba ca (cn a) (fst' a) (order a) (mostC a) ∧ IsD wr gb Bb cb (cn b) (fst' b) (order b) (mostC b) ∧ Frm (gx :: gr :: ob A) w wr ∧ ∀ y ∈ ob s.2.2.2.1, y ∈ ob A ∨ w.heap.size ≤ y) (fun s => 8 * bs.length + 1 - s.2.1) (f, p, out, A, c) (.cons rfl (.cons rfl (.cons rfl .nil))) ⟨hF, hfp, hX, hDa, hDb, Frm.refl _ _, fun y hy => .inl hy⟩ ?_
  clear hF hX hDa hDb
  rintro ⟨f, q, o, A2, c2⟩ wr ⟨hF, hfq, hX, hDa, hDb, hfr, hu⟩
  dsimp only at hF hfq hX hDa hDb hfr hu ⊢
  have hp := hX.2.2.2.2.1
  have hp2 : q ≤ (ofB bs).length := by rw [ofB_len]; exact hp
  obtain ⟨f, rfl⟩ : ∃ f', f = f' + 1 := ⟨f - 1, by omega⟩
  simp only [tokensF] at hF
  have hs := hfr.size
  refine VC.seq ?_
  refine VC.seq ?_
  refine VC.region ?_
  refine Ops.r (Run.mv rfl) rfl ?_
  refine Ops.r (Run.mv rfl) rfl ?_
  refine Ops.r (Run.mv rfl) rfl ?_
  refine Ops.clp (Enters.fn (evs.cons rfl (evs.cons rfl (evs.cons rfl evs.nil))) Try.call49) (itoken_spec gx gr q ga gb Ar A2 Ba Bb ca cb a b bs c2 o most _ hna hnb hmo hbs hB hX hDa hDb) rfl ?_
  rintro e w1 ⟨hf1, he⟩
  have hfr1 : Frm (gx :: gr :: ob A) w w1 := hfr.trans hf1 (fun x hx => by
    rcases List.mem_cons.1 hx with rfl | hx
    · exact .inl (by simp)
    rcases List.mem_cons.1 hx with rfl | hx
    · exact .inl (by simp)
    rcases hu x hx with h6 | h6
    · exact .inl (by simp [h6])
    · exact .inr h6)
  rcases hT : tokenF (ofB bs) a b most q o with kk | ⟨go, q2, o2⟩
  · rw [hT] at he hF
    simp only [bnd_e] at hF
    subst hF
    exact .inr ⟨_, he, thenQ_p (thenQ_p (thenQ_p (blockQ_p (endQ_p ⟨hfr1, rfl⟩))))⟩
  have hlt := (tokenF_lt ham hbm hp2 hT).1
  rw [hT] at he hF
  simp only [bnd_k] at hF
  obtain ⟨A3, c3, rfl, hX1, hu1⟩ := he
  dsimp only at hX1 hu1 hF hlt
  have hDa1 := hDa.frm hf1 (hX.ofD hDa)
  have hDb1 := hDb.frm hf1 (hX.ofD hDb)
  have hp3 := hX1.2.2.2.2.1
  refine .inl ⟨_, rfl, ?_⟩
  refine Ops.nil ?_
  refine thenQ_n ?_
  refine VC.sub [(0, _), (1, _), (2, _), (9, _)] (.cons rfl (.cons rfl (.cons rfl (.cons rfl .nil)))) ?_
  refine VC.condB rfl (fun hc1 => ?_) (fun hc1 => ?_)
  · skip
    refine VC.skip ?_
    refine thenQ_n ?_
    refine VC.sub [(0, _), (1, _), (2, _)] (.cons rfl (.cons rfl (.cons rfl .nil))) ?_
    refine VC.block ?_
    refine VC.skip ?_
    refine blockQ_n (thenQ_n ⟨(f, q2, o2, A3, c3), (.cons rfl (.cons rfl (.cons rfl .nil))), ?_, ?_⟩)
    · skip
      rw [if_pos hc1] at hF
      exact ⟨hF, by dsimp only; omega, hX1, hDa1, hDb1, hfr1, fun y hy => (hu1 y hy).elim (hu y) (fun h => .inr (Nat.le_trans hs h))⟩
    · skip
      dsimp only; omega
  · skip
    refine VC.exit ?_
    refine thenQ_x (thenQ_x (blockQ_x ?_))
    refine end0n ?_
    rw [if_neg (by simpa using hc1)] at hF
    subst hF
    exact ⟨hfr1, A3, c3, rfl, hX1, fun y hy => (hu1 y hy).elim (hu y) (fun h => .inr (Nat.le_trans hs h))⟩

end Go.Proofs.Ytfjhmbgckmhdaaa
