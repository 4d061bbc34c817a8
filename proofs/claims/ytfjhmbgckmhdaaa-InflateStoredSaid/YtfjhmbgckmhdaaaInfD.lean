/-
  The walk of inflate: the codes of kind 2.
-/
import Derived.Test.YtfjhmbgckmhdaaaInfM
namespace Go.Proofs.Ytfjhmbgckmhdaaa
open Go.RowKit

theorem third_take (k i : Nat) (h : i < k) (hk : k ≤ 19) : (orderT.take k).drop i = orderT.getD i 0 :: (orderT.take k).drop (i + 1) ∧ orderT.getD i 0 < 19 := by
  have hl : orderT.length = 19 := rfl
  refine ⟨?_, ?_⟩
  · rw [List.drop_eq_getElem_cons (by rw [List.length_take]; omega), List.getElem_take]
    simp [List.getD, List.getElem?_eq_getElem (show i < orderT.length by omega)]
  · have : ∀ i, i < 19 → orderT.getD i 0 < 19 := by decide
    exact this i (by omega)
theorem IB_set (l : List Int) (k : Nat) (x : Int) : (IB l).set k (.int .i64 x) = IB (l.set k x) := by simp [IB, List.map_set]
theorem code_at (A : Option Addr) (c0 : Nat) (l : List Int) (n : Nat) (w : World) (hl : l.length ≤ 1000000) (hn : l.length = n) (hr : Rd w 1 A n (IB l)) :
    Calls Try.prog 38 #[.slice A n c0] w fun e w' => Frm [] w w' ∧ if newE l = 0 then ∃ g B c, e = .returned (.pointer (some ⟨g, 0, none⟩)) ∧ IsD w' g B c (cn l) (fst' l) (order l) (mostC l) ∧ ∀ x ∈ g :: ob B, w.heap.size ≤ x
      else e = .panicked (Pan 11) := by
  subst hn
  exact code_spec A c0 l w hl hr
theorem IB_cutL {w : World} {A : Option Addr} {c : Nat} {l : List Int} (h : Rd w 1 A l.length (IB l)) (k : Nat) (hk : k ≤ l.length) (hc : l.length ≤ c) : Rd w 1 (cutA A c 0 1) (k - 0) (IB (l.take k)) := by
  have e := h.cut (l := 0) (r := k) (cap := c) (by omega) hk hc
  have e2 : IB (l.take k) = ((IB l).drop (0 * 1)).take ((k - 0) * 1) := by simp [IB, List.map_take]
  rw [e2]
  exact e
theorem IB_cutD {w : World} {A : Option Addr} {c : Nat} {l : List Int} (h : Rd w 1 A l.length (IB l)) (k : Nat) (hk : k ≤ l.length) (hc : l.length ≤ c) : Rd w 1 (cutA A c k 1) (l.length - k) (IB (l.drop k)) := by
  have e := h.cut (l := k) (r := l.length) (cap := c) hk (Nat.le_refl _) hc
  have e2 : IB (l.drop k) = ((IB l).drop (k * 1)).take ((l.length - k) * 1) := by
    rw [Nat.mul_one, Nat.mul_one, List.take_of_length_le (by simp [IB])]
    simp [IB, List.map_drop]
  rw [e2]
  exact e
theorem newE_good {l : List Int} (h : newE l = 0) : l.length ≤ 320 ∧ mostC l ≤ 15 := by
  have hch : chk l ≠ 1 := by
    intro h1
    unfold newE at h
    rw [h1, if_neg (by omega)] at h
    omega
  have hg := chk_good hch
  refine ⟨hg.1, ?_⟩
  unfold mostC
  split
  · rename_i h2
    unfold newE at h
    split at h
    · rename_i h3
      rcases h3.2 with h4 | h4 <;> omega
    · omega
  · exact Nat.le_refl _

set_option maxRecDepth 100000 in
theorem idyn_spec (gx gr p : Nat) (Ar A : Option Addr) (bs : List Nat) (c : Nat) (out : List Nat) (most : Nat) (w : World) (hbs : bs.length ≤ 1000000) (hB : ∀ b ∈ bs, b < 256) (hX : IsX w gx gr Ar bs p A c out most) :
    Calls Try.prog 39 #[.pointer (some ⟨gx, 0, none⟩)] w fun e w' => Frm [gr] w w' ∧ match dynF (ofB bs) p with
      | .error k => e = .panicked (Pan k)
      | .ok x => ∃ ga Ba ca gb Bb cb, e = .returned (.tuple #[.pointer (some ⟨ga, 0, none⟩), .pointer (some ⟨gb, 0, none⟩)]) ∧ IsX w' gx gr Ar bs x.1 A c out most ∧ IsD w' ga Ba ca (cn x.2.1) (fst' x.2.1) (order x.2.1) (mostC x.2.1) ∧ IsD w' gb Bb cb (cn x.2.2) (fst' x.2.2) (order x.2.2) (mostC x.2.2) ∧ newE x.2.1 = 0 ∧ newE x.2.2 = 0 := by
  generalize hF : dynF (ofB bs) p = F
  unfold dynF at hF
  refine VC.calls (nt := 72) (res := #[.tmp 2, .tmp 3]) Try.func39 rfl Try.ntmps39 Try.results39 rfl ?_
  refine VC.seq ?_
  refine VC.region ?_
  refine Ops.r (Run.asg rfl) rfl ?_
  refine Ops.r (Run.asg rfl) rfl ?_
  refine Ops.nil ?_
  refine thenQ_n ?_
  refine VC.sub [(0, _)] (.cons rfl .nil) ?_
  refine VC.seq ?_
  refine VC.region ?_
  refine Ops.r (Run.mv rfl) rfl ?_
  refine Ops.clp (Enters.fn (evs.cons rfl (evs.cons rfl evs.nil)) Try.call34) (itake_spec gx gr 5 p Ar A bs c out most _ (by omega) hbs hB hX) rfl ?_
  rintro e w1 ⟨hf1, he⟩
  have hfr1 := hf1
  rcases hT1 : takeF (ofB bs) 5 p with kk | ⟨v1, p1⟩
  · rw [hT1] at he
    simp only [hT1, bnd_e] at hF
    subst hF
    exact .inr ⟨_, he, thenQ_p (endQ_p ⟨hfr1, rfl⟩)⟩
  rw [hT1] at he
  simp only [hT1, bnd_k] at hF
  obtain ⟨rfl, hX1⟩ := he
  obtain ⟨hp1, hpl1, hv1, _⟩ := takeF_ok hT1
  refine .inl ⟨_, rfl, ?_⟩
  refine Ops.r (Run.bin rfl rfl (Bin.add_i64 257 _ (by omega))) rfl ?_
  refine Ops.r (Run.mv rfl) rfl ?_
  refine Ops.clp (Enters.fn (evs.cons rfl (evs.cons rfl evs.nil)) Try.call34) (itake_spec gx gr 5 p1 Ar A bs c out most _ (by omega) hbs hB hX1) rfl ?_
  rintro e w2 ⟨hf2, he⟩
  have hfr2 := hfr1.trans hf2 (fun x hx => .inl hx)
  rcases hT2 : takeF (ofB bs) 5 p1 with kk | ⟨v2, p2⟩
  · rw [hT2] at he
    simp only [hT2, bnd_e] at hF
    subst hF
    exact .inr ⟨_, he, thenQ_p (endQ_p ⟨hfr2, rfl⟩)⟩
  rw [hT2] at he
  simp only [hT2, bnd_k] at hF
  obtain ⟨rfl, hX2⟩ := he
  obtain ⟨hp2, hpl2, hv2, _⟩ := takeF_ok hT2
  refine .inl ⟨_, rfl, ?_⟩
  refine Ops.r (Run.bin rfl rfl (Bin.add_i64 1 _ (by omega))) rfl ?_
  refine Ops.r (Run.mv rfl) rfl ?_
  refine Ops.clp (Enters.fn (evs.cons rfl (evs.cons rfl evs.nil)) Try.call34) (itake_spec gx gr 4 p2 Ar A bs c out most _ (by omega) hbs hB hX2) rfl ?_
  rintro e w3 ⟨hf3, he⟩
  have hfr3 := hfr2.trans hf3 (fun x hx => .inl hx)
  rcases hT3 : takeF (ofB bs) 4 p2 with kk | ⟨v3, p3⟩
  · rw [hT3] at he
    simp only [hT3, bnd_e] at hF
    subst hF
    exact .inr ⟨_, he, thenQ_p (endQ_p ⟨hfr3, rfl⟩)⟩
  rw [hT3] at he
  simp only [hT3, bnd_k] at hF
  obtain ⟨rfl, hX3⟩ := he
  obtain ⟨hp3, hpl3, hv3, _⟩ := takeF_ok hT3
  refine .inl ⟨_, rfl, ?_⟩
  rw [ofB_len] at hpl1 hpl2 hpl3
  refine Ops.r (Run.bin rfl rfl (Bin.add_i64 4 _ (by omega))) rfl ?_
  refine Ops.r (Run.asg rfl) rfl ?_
  refine Ops.r (Run.asg rfl) rfl ?_
  refine Ops.r (Run.asg rfl) rfl ?_
  refine Ops.nil ?_
  refine thenQ_n ?_
  refine VC.sub [(0, _), (4, _), (5, _), (6, _)] (.cons rfl (.cons rfl (.cons rfl (.cons rfl .nil)))) ?_
  refine VC.seq ?_
  refine VC.region ?_
  refine Ops.r (Run.mv rfl) rfl ?_
  refine Ops.r (Run.bin rfl rfl (Bin.leqN _ 286)) rfl ?_
  refine Ops.r (Run.mv rfl) rfl ?_
  by_cases hs24 : 257 + v1 ≤ 286
  rotate_left
  · skip
    refine Ops.sk rfl (by first | rfl | assumption | exact decide_eq_true (by assumption) | exact decide_eq_false (by assumption) | decide | (simp; done) | (simp; omega) | (simp [*]; done)) rfl ?_
    refine Ops.sk rfl (by first | rfl | assumption | exact decide_eq_true (by assumption) | exact decide_eq_false (by assumption) | decide | (simp; done) | (simp; omega) | (simp [*]; done)) rfl ?_
    refine Ops.r (Run.pickF rfl rfl (by first | rfl | assumption | exact decide_eq_true (by assumption) | exact decide_eq_false (by assumption) | decide | (simp; done) | (simp; omega) | (simp [*]; done))) rfl ?_
    refine Ops.clp (Enters.fn (evs.cons rfl (evs.cons rfl evs.nil)) Try.call35) (need_spec false 3 _) rfl ?_
    rintro e _ ⟨rfl, rfl⟩
    refine .inr ⟨_, by rw [if_neg (by decide)], thenQ_p (endQ_p ?_)⟩
    rw [if_pos (fun h => hs24 h.1)] at hF
    subst hF
    exact ⟨hfr3, rfl⟩
  refine Ops.rg rfl (by first | rfl | assumption | exact decide_eq_true (by assumption) | exact decide_eq_false (by assumption) | decide | (simp; done) | (simp; omega) | (simp [*]; done)) (Run.mv rfl) rfl ?_
  refine Ops.rg rfl (by first | rfl | assumption | exact decide_eq_true (by assumption) | exact decide_eq_false (by assumption) | decide | (simp; done) | (simp; omega) | (simp [*]; done)) (Run.bin rfl rfl (Bin.leqN _ 30)) rfl ?_
  refine Ops.r (Run.pickT rfl rfl (by first | rfl | assumption | exact decide_eq_true (by assumption) | exact decide_eq_false (by assumption) | decide | (simp; done) | (simp; omega) | (simp [*]; done))) rfl ?_
  refine Ops.clp (Enters.fn (evs.cons rfl (evs.cons rfl evs.nil)) Try.call35) (need_spec (decide (1 + v2 ≤ 30)) 3 _) rfl ?_
  rintro e _ ⟨rfl, rfl⟩
  by_cases hN1 : 1 + v2 ≤ 30
  rotate_left
  · refine .inr ⟨_, by rw [if_neg (by simpa using hN1)], thenQ_p (endQ_p ?_)⟩
    rw [if_pos (fun h => hN1 h.2)] at hF
    subst hF
    exact ⟨hfr3, rfl⟩
  refine .inl ⟨_, by rw [if_pos (by simpa using hN1)], ?_⟩
  refine Ops.nil ?_
  refine thenQ_n ?_
  refine VC.sub [(0, _), (4, _), (5, _), (6, _)] (.cons rfl (.cons rfl (.cons rfl (.cons rfl .nil)))) ?_
  refine VC.seq ?_
  refine VC.region ?_
  refine Ops.m (Does.makeS (n := 19) rfl rfl Try.underlying37 (info3) rfl (by decide) (by decide)) rfl ?_
  rintro _ w4 ⟨rfl, ho4, hf4, hs4⟩
  have hX4 := hX3.frm0 hf4
  have hfr4 := hfr3.trans hf4 (by simp)
  have ho4 : Own w4 3 1 (some ⟨w3.heap.size, 0, none⟩) 19 19 (IB (List.replicate 19 0)) := ho4
  have hg3 := hfr3.size
  have hlt3 := hX3.lt
  generalize hgl : w3.heap.size = gl at *
  refine Ops.r (Run.asg rfl) rfl ?_
  refine Ops.nil ?_
  refine thenQ_n ?_
  refine VC.sub [(0, _), (4, _), (5, _), (6, _), (7, _)] (.cons rfl (.cons rfl (.cons rfl (.cons rfl (.cons rfl .nil))))) ?_
  refine VC.seq ?_
  refine VC.region ?_
  refine Ops.cl (Enters.fn evs.nil Try.call51) (iorder_spec _) rfl ?_
  rintro e w5 ⟨rfl, hf5⟩
  refine ⟨_, rfl, ?_⟩
  have hX5 := hX4.frm0 hf5
  have ho5 := ho4.frm hf5 (by simp)
  have hfr5 := hfr4.trans hf5 (by simp)
  refine Ops.m (Does.alloc zero86) rfl ?_
  rintro _ w6 ⟨rfl, hF6⟩
  have hX6 := hX5.frm0 hF6.frm
  have ho6 := ho5.frm hF6.frm (by simp)
  have hfr6 := hfr5.trans hF6.frm (by simp)
  have hg5 := hfr5.size
  have hlt5 := hX5.lt
  have hb6 := hF6.blk
  refine Ops.st (Acts.storeA rfl rfl Try.sizeOf86 hb6 rfl (NI_one orderT)) ?_
  rintro w7 ⟨hb7, hf7, hs7⟩
  have hb7 : Blk w7 w5.heap.size 86 (NI orderT).toArray := hb7
  have hX7 := hX6.frm hf7 (fun x hx h5 => by
    simp at h5
    subst h5
    rcases List.mem_cons.1 hx with h6 | hx
    · have := hlt5.1; omega
    rcases List.mem_cons.1 hx with h6 | hx
    · have := hlt5.2.1; omega
    rcases List.mem_append.1 hx with hx | hx
    · have := hlt5.2.2.1 _ hx; omega
    · have := hlt5.2.2.2 _ hx; omega)
  have hfr7 : Frm [gr] w w7 := hfr6.trans hf7 (fun x hx => .inr (by simp at hx; omega))
  have hltl := ho5.lt gl (by simp [ob])
  have ho7 := ho6.frm hf7 (fun x hx h5 => by simp [ob] at hx h5; omega)
  rw [if_neg (fun h => h ⟨hs24, hN1⟩)] at hF
  generalize hgo : w5.heap.size = go at *
  refine Ops.nil ?_
  refine thenQ_n ?_
  refine VC.sub [(0, _), (4, _), (5, _), (6, _), (7, _), (8, _)] (.cons rfl (.cons rfl (.cons rfl (.cons rfl (.cons rfl (.cons rfl .nil)))))) ?_
  refine VC.seq ?_
  refine VC.seq ?_
  refine VC.region ?_
  refine Ops.r (Run.mv rfl) rfl ?_
  refine Ops.r (Run.sliceA 0 _ rfl Try.underlying86 Try.sizeOf3 evB.none_ (evB.some_ rfl) (by omega) (by omega)) rfl ?_
  rw [cutA_0, Nat.sub_zero, Nat.sub_zero]
  refine Ops.r (Run.lenS rfl Try.underlying37) rfl ?_
  refine Ops.r (v := .int .i64 ((0 : Nat) : Int)) (Run.mv rfl) rfl ?_
  refine Ops.nil ?_
  refine thenQ_n ?_
  refine VC.sub [(0, _), (4, _), (5, _), (7, _), (32, _), (33, _), (34, _)] (.cons rfl (.cons rfl (.cons rfl (.cons rfl (.cons rfl (.cons rfl (.cons rfl .nil))))))) ?_
  refine VC.block ?_
  refine VC.loop (σ := Nat × Nat × List Int) (fun s => [(0, .pointer (some ⟨gx, 0, none⟩)), (4, .int .i64 ((257 + v1 : Nat) : Int)), (5, .int .i64 ((1 + v2 : Nat) : Int)), (7, .slice (some ⟨gl, 0, none⟩) 19 19), (32, .slice (some ⟨go, 0, none⟩) (4 + v3) 19), (33, .int .i64 ((4 + v3 : Nat) : Int)), (34, .int .i64 ((s.1 : Nat) : Int))]) (fun s wr => s.1 ≤ 4 + v3 ∧ bnd (thirdF (ofB bs) ((orderT.take (4 + v3)).drop s.1) s.2.1 s.2.2) (dynG (ofB bs) (257 + v1) (1 + v2)) = F ∧ s.2.2.length = 19 ∧ IsX wr gx gr Ar bs s.2.1 A c out most ∧ Own wr 3 1 (some ⟨gl, 0, none⟩) 19 19 (IB s.2.2) ∧ Blk wr go 86 (NI orderT).toArray ∧ Frm [gr] w wr) (fun s => 4 + v3 - s.1) (0, p3, List.replicate 19 0) (.cons rfl (.cons rfl (.cons rfl (.cons rfl (.cons rfl (.cons rfl (.cons rfl .nil))))))) ⟨by omega, hF, rfl, hX7, ho7, hb7, hfr7⟩ ?_
  clear hF hX7 ho7 hb7 hfr7
  rintro ⟨i, q, l⟩ w8 ⟨hi, hF, hll, hX8, ho8, hb8, hfr8⟩
  dsimp only at hi hF hll hX8 ho8 hb8 hfr8 ⊢
  refine VC.seq ?_
  refine VC.region ?_
  refine Ops.r (Run.bin rfl rfl (Bin.lssN _ _)) rfl ?_
  refine Ops.nil ?_
  refine thenQ_n ?_
  refine VC.seq ?_
  refine VC.condD rfl (fun hc1 => ?_) (fun hc1 => ?_)
  · skip
    obtain ⟨htk, hs19⟩ := third_take (4 + v3) i hc1 (by omega)
    rw [htk] at hF
    simp only [thirdF] at hF
    have hcell : w8.cell? ((⟨go, 0, none⟩ : Addr).add i) = some (.int .i64 ((orderT.getD i 0 : Nat) : Int)) := by
      rw [add_mk, hb8.cell]
      have h5 : i < orderT.length := by have : orderT.length = 19 := rfl; omega
      simp [NI, List.getD, List.getElem?_eq_getElem h5]
    generalize orderT.getD i 0 = si at *
    refine VC.skip ?_
    refine thenQ_n ?_
    refine VC.sub [(0, _), (4, _), (5, _), (7, _), (32, _), (33, _), (34, _)] (.cons rfl (.cons rfl (.cons rfl (.cons rfl (.cons rfl (.cons rfl (.cons rfl .nil))))))) ?_
    refine VC.seq ?_
    refine VC.block ?_
    refine VC.seq ?_
    refine VC.region ?_
    refine Ops.r (Run.index1 _ rfl rfl Try.underlying37 Try.sizeOf3 (by omega)) rfl ?_
    refine Ops.r (Run.load rfl Try.isAgg3 hcell) rfl ?_
    refine Ops.r (Run.asg rfl) rfl ?_
    refine Ops.nil ?_
    refine thenQ_n ?_
    refine VC.sub [(0, _), (4, _), (5, _), (7, _), (10, _), (32, _), (33, _), (34, _)] (.cons rfl (.cons rfl (.cons rfl (.cons rfl (.cons rfl (.cons rfl (.cons rfl (.cons rfl .nil)))))))) ?_
    refine VC.region ?_
    refine Ops.r (Run.mv rfl) rfl ?_
    refine Ops.r (Run.mv rfl) rfl ?_
    refine Ops.r (Run.mv rfl) rfl ?_
    refine Ops.clp (Enters.fn (evs.cons rfl (evs.cons rfl evs.nil)) Try.call34) (itake_spec gx gr 3 q Ar A bs c out most _ (by omega) hbs hB hX8) rfl ?_
    rintro e w9 ⟨hf9, he⟩
    have hfr9 := hfr8.trans hf9 (fun x hx => .inl hx)
    rcases hT9 : takeF (ofB bs) 3 q with kk | ⟨v9, p9⟩
    · rw [hT9] at he
      rw [hT9] at hF
      simp only [bnd_e] at hF
      subst hF
      exact .inr ⟨_, he, blockQ_p (thenQ_p (thenQ_p (blockQ_p (thenQ_p (endQ_p ⟨hfr9, rfl⟩)))))⟩
    rw [hT9] at he
    rw [hT9] at hF
    simp only [bnd_k] at hF
    obtain ⟨rfl, hX9⟩ := he
    obtain ⟨hp9, hpl9, hv9, _⟩ := takeF_ok hT9
    refine .inl ⟨_, rfl, ?_⟩
    have hgrl : gr ≠ gl := fun h => by have := hlt3.2.1; omega
    have hgro : gr ≠ go := fun h => by have := hlt5.2.1; omega
    have ho9 := ho8.frm hf9 (fun x hx h5 => by simp [ob] at hx h5; omega)
    have hb9 := hb8.frm hf9 (by simp; omega)
    refine Ops.r (Run.index1 _ rfl rfl Try.underlying37 Try.sizeOf3 (by omega)) rfl ?_
    refine Ops.st (Acts.storeOwn si rfl rfl Try.sizeOf3 ho9 rfl (by omega) rfl) ?_
    rintro w10 ⟨ho10, hf10, hs10⟩
    rw [IB_set] at ho10
    have hX10 := hX9.frm hf10 (fun x hx h5 => by
      simp [ob] at h5
      subst h5
      rcases List.mem_cons.1 hx with h6 | hx
      · have := hlt3.1; omega
      rcases List.mem_cons.1 hx with h6 | hx
      · have := hlt3.2.1; omega
      rcases List.mem_append.1 hx with hx | hx
      · have := hlt3.2.2.1 _ hx; omega
      · have := hlt3.2.2.2 _ hx; omega)
    refine Ops.nil ?_
    refine blockQ_n (thenQ_n ?_)
    refine VC.sub [(0, _), (4, _), (5, _), (7, _), (32, _), (33, _), (34, _)] (.cons rfl (.cons rfl (.cons rfl (.cons rfl (.cons rfl (.cons rfl (.cons rfl .nil))))))) ?_
    refine VC.region ?_
    refine Ops.r (Run.bin rfl rfl (Bin.add_i64 _ 1 (by omega))) rfl ?_
    refine Ops.r (Run.mv rfl) rfl ?_
    refine Ops.nil ?_
    refine thenQ_n ⟨(i + 1, p9, l.set si (v9 : Int)), (.cons rfl (.cons rfl (.cons rfl (.cons rfl (.cons rfl (.cons rfl (.cons rfl .nil))))))), ?_, ?_⟩
    · skip
      refine ⟨by dsimp only; omega, hF, by dsimp only; rw [List.length_set]; exact hll, hX10, ho10, hb9.frm hf10 (by simp [ob]; omega), hfr9.trans hf10 (fun x hx => .inr (by simp [ob] at hx; omega))⟩
    · skip
      first | omega | (dsimp only; omega)
  · skip
    have hiv : i = 4 + v3 := by omega
    subst hiv
    rw [List.drop_eq_nil_of_le (by rw [List.length_take]; omega)] at hF
    simp only [thirdF, bnd_k] at hF
    refine VC.exit ?_
    refine thenQ_x (thenQ_x (blockQ_x ?_))
    refine thenQ_n ?_
    refine VC.sub [(0, _), (4, _), (5, _), (7, _)] (.cons rfl (.cons rfl (.cons rfl (.cons rfl .nil)))) ?_
    refine VC.seq ?_
    refine VC.region ?_
    refine Ops.r (Run.mv rfl) rfl ?_
    refine Ops.clp (Enters.fn (evs.cons rfl evs.nil) Try.call38) (code_at _ 19 l 19 _ (by omega) hll ho8.rd) rfl ?_
    rintro e w11 ⟨hf11, he⟩
    by_cases hn11 : newE l = 0
    rotate_left
    · rw [if_neg hn11] at he
      refine .inr ⟨_, he, thenQ_p (endQ_p ?_)⟩
      simp only [dynG] at hF
      rw [if_pos hn11] at hF
      subst hF
      exact ⟨hfr8.trans hf11 (by simp), rfl⟩
    rw [if_pos hn11] at he
    obtain ⟨gd11, Bd11, cd11, rfl, hD11, hgd11⟩ := he
    refine .inl ⟨_, rfl, ?_⟩
    simp only [dynG] at hF
    rw [if_neg (by simpa using hn11)] at hF
    have hX11 := hX8.frm0 hf11
    have hfr11 := hfr8.trans hf11 (by simp)
    obtain ⟨hl11, hm11⟩ := newE_good hn11
    rw [ofB_len] at hF
    refine Ops.r (Run.asg rfl) rfl ?_
    refine Ops.nil ?_
    refine thenQ_n ?_
    refine VC.sub [(0, _), (4, _), (5, _), (11, _)] (.cons rfl (.cons rfl (.cons rfl (.cons rfl .nil)))) ?_
    refine VC.seq ?_
    refine VC.region ?_
    refine Ops.r (Run.asg rfl) rfl ?_
    refine Ops.nil ?_
    refine thenQ_n ?_
    refine VC.seq ?_
    refine VC.block ?_
    refine VC.loop (σ := Nat × Nat × List Int × Option Addr × Nat) (fun s => [(0, .pointer (some ⟨gx, 0, none⟩)), (4, .int .i64 ((257 + v1 : Nat) : Int)), (5, .int .i64 ((1 + v2 : Nat) : Int)), (11, .pointer (some ⟨gd11, 0, none⟩)), (12, .slice s.2.2.2.1 s.2.2.1.length s.2.2.2.2)]) (fun s wr => bnd (moresF (ofB bs) l (257 + v1 + (1 + v2)) s.1 s.2.1 s.2.2.1) (dynH (257 + v1)) = F ∧ 8 * bs.length < s.1 + s.2.1 ∧ s.2.2.1.length ≤ 257 + v1 + (1 + v2) ∧ IsX wr gx gr Ar bs s.2.1 A c out most ∧ IsD wr gd11 Bd11 cd11 (cn l) (fst' l) (order l) (mostC l) ∧ Own wr 3 1 s.2.2.2.1 s.2.2.1.length s.2.2.2.2 (IB s.2.2.1) ∧ Frm [gr] w wr ∧ (∀ x ∈ ob s.2.2.2.1, w.heap.size ≤ x) ∧ ∀ x ∈ gd11 :: ob Bd11, x ∉ ob s.2.2.2.1) (fun s => 8 * bs.length + 1 - s.2.1) (8 * bs.length + 1, q, [], none, 0) (.cons rfl (.cons rfl (.cons rfl (.cons rfl (.cons rfl .nil))))) ⟨hF, by dsimp only; omega, by simp, hX11, hD11, Own.nil _ _ _, hfr11, up_nil, by simp [ob]⟩ ?_
    clear hF hX11 hfr11
    rintro ⟨f, q2, all, Al, cl⟩ w12 ⟨hF, hfq, hal, hX12, hD12, hO12, hfr, hul, hdl⟩
    dsimp only at hF hfq hal hX12 hD12 hO12 hfr hul hdl ⊢
    have hp12 := hX12.2.2.2.2.1
    obtain ⟨f, rfl⟩ : ∃ f', f = f' + 1 := ⟨f - 1, by omega⟩
    simp only [moresF] at hF
    have hs12 := hfr.size
    have hltD := hD12.2.lt
    have hltd := hD12.1.lt
    refine VC.seq ?_
    refine VC.seq ?_
    refine VC.region ?_
    refine Ops.r (Run.mv rfl) rfl ?_
    refine Ops.r (Run.lenS rfl Try.underlying37) rfl ?_
    refine Ops.r (Run.mv rfl) rfl ?_
    refine Ops.r (Run.mv rfl) rfl ?_
    refine Ops.r (Run.bin rfl rfl (Bin.add_i64 _ _ (by omega))) rfl ?_
    refine Ops.r (Run.bin rfl rfl (Bin.lssN _ _)) rfl ?_
    refine Ops.nil ?_
    refine thenQ_n ?_
    refine VC.sub [(0, _), (4, _), (5, _), (11, _), (12, _), (51, _)] (.cons rfl (.cons rfl (.cons rfl (.cons rfl (.cons rfl (.cons rfl .nil)))))) ?_
    refine VC.condD rfl (fun hc2 => ?_) (fun hc2 => ?_)
    · skip
      rw [if_pos hc2] at hF
      refine VC.skip ?_
      refine thenQ_n ?_
      refine VC.sub [(0, _), (4, _), (5, _), (11, _), (12, _)] (.cons rfl (.cons rfl (.cons rfl (.cons rfl (.cons rfl .nil))))) ?_
      refine VC.block ?_
      refine VC.region ?_
      refine Ops.r (Run.mv rfl) rfl ?_
      refine Ops.r (Run.mv rfl) rfl ?_
      refine Ops.r (Run.mv rfl) rfl ?_
      refine Ops.r (Run.mv rfl) rfl ?_
      refine Ops.r (Run.mv rfl) rfl ?_
      refine Ops.r (Run.bin rfl rfl (Bin.add_i64 _ _ (by omega))) rfl ?_
      refine Ops.clp (Enters.fn (evs.cons rfl (evs.cons rfl (evs.cons rfl (evs.cons rfl evs.nil)))) Try.call52) (imore_spec gx gr q2 gd11 Ar A Bd11 cd11 l bs c out most Al cl all (257 + v1 + (1 + v2)) _ hl11 hm11 hbs hB (by omega) hal hX12 hD12 hO12) rfl ?_
      rintro e w13 ⟨hf13, he⟩
      have hfr13 : Frm [gr] w w13 := hfr.trans hf13 (fun x hx => by rcases List.mem_cons.1 hx with rfl | hx; exact .inl (by simp); exact .inr (hul x hx))
      rcases hT13 : moreF (ofB bs) l q2 all (257 + v1 + (1 + v2)) with kk | ⟨q3, all3⟩
      · rw [hT13] at he hF
        simp only [bnd_e] at hF
        subst hF
        exact .inr ⟨_, he, blockQ_p (thenQ_p (blockQ_p (thenQ_p (endQ_p ⟨hfr13, rfl⟩))))⟩
      rw [hT13] at he hF
      simp only [bnd_k] at hF
      obtain ⟨B13, c13, rfl, hX13, hO13, hu13⟩ := he
      dsimp only at hX13 hO13 hu13
      obtain ⟨hq1, hq2, hq3, hq4⟩ := moreF_ok hm11 (by rw [ofB_len]; exact hp12) hT13
      refine .inl ⟨_, rfl, ?_⟩
      refine Ops.r (Run.asg rfl) rfl ?_
      refine Ops.nil ?_
      refine blockQ_n (thenQ_n ⟨(f, q3, all3, B13, c13), (.cons rfl (.cons rfl (.cons rfl (.cons rfl (.cons rfl .nil))))), ?_, ?_⟩)
      · skip
        have hgrd : ∀ x ∈ gd11 :: ob Bd11, x ∉ gr :: ob Al := fun x hx h5 => by
          rcases List.mem_cons.1 h5 with rfl | h5
          · rcases List.mem_cons.1 hx with h6 | hx
            · exact hD12.1.ne hX12.2.1.choose_spec.1 (by decide) h6.symm
            · exact hD12.2.ne_blk hX12.2.1.choose_spec.1 (by decide) hx
          · exact hdl x hx h5
        refine ⟨hF, by dsimp only; omega, hq3, hX13, hD12.frm hf13 hgrd, hO13, hfr13, fun x hx => (hu13 x hx).elim (hul x) (fun h => Nat.le_trans hs12 h), fun x hx h5 => ?_⟩
        rcases hu13 x h5 with h6 | h6
        · exact hdl x hx h6
        · rcases List.mem_cons.1 hx with rfl | hx
          · omega
          · have := hltD x hx; omega
      · skip
        dsimp only; rw [ofB_len] at hq2; omega
    · skip
      rw [if_neg hc2] at hF
      simp only [bnd_k] at hF
      have hle : all.length = 257 + v1 + (1 + v2) := by omega
      obtain ⟨ad, rfl, hc256⟩ := IB_at hO12.rd (k := 256) (by omega)
      have hg256 : all.getD 256 0 = all[256] := by simp [List.getD, List.getElem?_eq_getElem (show 256 < all.length by omega)]
      refine VC.exit ?_
      refine thenQ_x (thenQ_x (blockQ_x ?_))
      refine thenQ_n ?_
      refine VC.sub [(4, _), (12, _)] (.cons rfl (.cons rfl .nil)) ?_
      refine VC.seq ?_
      refine VC.region ?_
      refine Ops.r (Run.mv rfl) rfl ?_
      refine Ops.r (Run.index1 256 rfl rfl Try.underlying37 Try.sizeOf3 (by omega)) rfl ?_
      refine Ops.r (Run.load rfl Try.isAgg3 hc256) rfl ?_
      refine Ops.r (Run.bin rfl rfl (Bin.gtr _ 0)) rfl ?_
      refine Ops.clp (Enters.fn (evs.cons rfl (evs.cons rfl evs.nil)) Try.call35) (need_spec (decide (0 < all[256])) 11 _) rfl ?_
      rintro e _ ⟨rfl, rfl⟩
      by_cases hN2 : 0 < all[256]
      rotate_left
      · refine .inr ⟨_, by rw [if_neg (by simpa using hN2)], thenQ_p (endQ_p ?_)⟩
        simp only [dynH, hg256] at hF
        rw [if_pos (by simpa using hN2)] at hF
        subst hF
        exact ⟨hfr, rfl⟩
      refine .inl ⟨_, by rw [if_pos (by simpa using hN2)], ?_⟩
      simp only [dynH, hg256] at hF
      rw [if_neg (by simpa using hN2)] at hF
      have hcap := hO12.le
      refine Ops.nil ?_
      refine thenQ_n ?_
      refine VC.sub [(4, _), (12, _)] (.cons rfl (.cons rfl .nil)) ?_
      refine VC.seq ?_
      refine VC.held (fun _ => True) (by kernel_rfl) ?_
      refine HOps.take 0 rfl (by kernel_rfl) (by kernel_rfl) (by kernel_rfl) trivial (fun w0 hw0 => Run.mv rfl) trivial rfl rfl ?_
      refine HOps.take 1 rfl (by kernel_rfl) (by kernel_rfl) (by kernel_rfl) trivial (fun w0 hw0 => Run.mv rfl) trivial rfl rfl ?_
      refine HOps.take 2 rfl (by kernel_rfl) (by kernel_rfl) (by kernel_rfl) trivial (fun w0 hw0 => Run.sliceS 0 _ rfl Try.underlying37 Try.sizeOf3 evB.none_ (evB.some_ rfl) (by omega) (by omega)) trivial rfl rfl ?_
      refine HOps.take 4 rfl (by kernel_rfl) (by kernel_rfl) (by kernel_rfl) trivial (fun w0 hw0 => Run.mv rfl) trivial rfl rfl ?_
      refine HOps.take 5 rfl (by kernel_rfl) (by kernel_rfl) (by kernel_rfl) trivial (fun w0 hw0 => Run.mv rfl) trivial rfl rfl ?_
      refine HOps.take 6 rfl (by kernel_rfl) (by kernel_rfl) (by kernel_rfl) trivial (fun w0 hw0 => Run.sliceS _ _ rfl Try.underlying37 Try.sizeOf3 (evB.some_ rfl) evB.none_ (by omega) (by omega)) trivial rfl rfl ?_
      refine HOps.clp 3 rfl (by kernel_rfl) (Enters.fn (evs.cons rfl evs.nil) Try.call38) (code_at _ _ (all.take (257 + v1)) _ _ (by simp; omega) (by first | (simp; done) | (simp; omega)) (IB_cutL ((hO12.rd).drawn (Drawn.drew w12)) (257 + v1) (by omega) hcap)) trivial rfl rfl ?_
      rintro e w14 ⟨hf14, he⟩
      have hfr14 := (hfr.drawn (Drawn.drew w12)).trans hf14 (by simp)
      by_cases hn14 : newE (all.take (257 + v1)) = 0
      rotate_left
      · rw [if_neg hn14] at he
        refine .inr ⟨_, he, thenQ_p (endQ_p ?_)⟩
        rw [if_pos hn14] at hF
        subst hF
        exact ⟨hfr14, rfl⟩
      rw [if_pos hn14] at he
      rw [if_neg (by simpa using hn14)] at hF
      obtain ⟨gd14, Bd14, cd14, rfl, hD14, hgd14⟩ := he
      refine .inl ⟨_, rfl, trivial, ?_⟩
      refine HOps.clp 7 rfl (by kernel_rfl) (Enters.fn (evs.cons rfl evs.nil) Try.call38) (code_at _ _ (all.drop (257 + v1)) _ _ (by simp; omega) (by first | (simp; done) | (simp; omega)) ((IB_cutD ((hO12.rd).drawn (Drawn.drew w12)) (257 + v1) (by omega) hcap).frm hf14 (by simp))) trivial rfl rfl ?_
      rintro e w15 ⟨hf15, he⟩
      have hfr15 := (hfr14).trans hf15 (by simp)
      by_cases hn15 : newE (all.drop (257 + v1)) = 0
      rotate_left
      · rw [if_neg hn15] at he
        refine .inr ⟨_, he, thenQ_p (endQ_p ?_)⟩
        rw [if_pos hn15] at hF
        subst hF
        exact ⟨hfr15, rfl⟩
      rw [if_pos hn15] at he
      rw [if_neg (by simpa using hn15)] at hF
      obtain ⟨gd15, Bd15, cd15, rfl, hD15, hgd15⟩ := he
      refine .inl ⟨_, rfl, trivial, ?_⟩
      refine HOps.take 8 rfl (by kernel_rfl) (by kernel_rfl) (by kernel_rfl) trivial (fun w0 hw0 => Run.asg rfl) trivial rfl rfl ?_
      refine HOps.take 9 rfl (by kernel_rfl) (by kernel_rfl) (by kernel_rfl) trivial (fun w0 hw0 => Run.asg rfl) trivial rfl rfl ?_
      refine HOps.done (by kernel_rfl) ?_
      refine thenQ_n ?_
      refine VC.sub [(2, _), (3, _)] (.cons rfl (.cons rfl .nil)) ?_
      refine VC.ret ?_
      refine end2 rfl rfl ?_
      subst hF
      exact ⟨hfr15, gd14, Bd14, cd14, gd15, Bd15, cd15, rfl, (hX12.frm0 (Drawn.drew w12).frm).frm0 (hf14.trans hf15 (by simp)), hD14.frm hf15 (by simp), hD15, hn14, hn15⟩

end Go.Proofs.Ytfjhmbgckmhdaaa
