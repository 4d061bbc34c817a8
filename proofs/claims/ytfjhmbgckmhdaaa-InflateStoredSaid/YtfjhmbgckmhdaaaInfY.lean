/-
  The document's inflating: codes.
-/
import Derived.Test.YtfjhmbgckmhdaaaInfZ
import Derived.Test.YtfjhmbgckmhdaaaInfD
namespace Go.Proofs.Ytfjhmbgckmhdaaa
open Go.RowKit

/-- The last of the three numbers of a dynamic block, and what follows. -/
def dynM (L : List Bool) (x y : Nat) (z : Nat × Nat) : Except Nat (Nat × List Int × List Int) :=
  if ¬ (257 + x ≤ 286 ∧ 1 + y ≤ 30) then .error 3 else bnd (thirdF L (orderT.take (4 + z.1)) z.2 (List.replicate 19 0)) (dynG L (257 + x) (1 + y))
theorem dynF_M (L : List Bool) (p : Nat) : dynF L p = bnd (takeF L 5 p) fun x => bnd (takeF L 5 x.2) fun y => bnd (takeF L 4 y.2) (dynM L x.1 y.1) := rfl
/-- How many of what come next: behind the check that there is one before. -/
def moreS (L : List Bool) (all : List Int) (x : Nat × Nat) : Except Nat (Nat × Int × Nat) :=
  if x.1 = 16 then bnd (takeF L 2 x.2) fun v => .ok (v.2, all.getD (all.length - 1) 0, 3 + v.1)
  else if x.1 = 17 then bnd (takeF L 3 x.2) fun v => .ok (v.2, 0, 3 + v.1)
  else if x.1 = 18 then bnd (takeF L 7 x.2) fun v => .ok (v.2, 0, 11 + v.1)
  else .ok (x.2, (x.1 : Int), 1)
def moreT (most : Nat) (all : List Int) (y : Nat × Int × Nat) : Except Nat (Nat × List Int) := if most < all.length + y.2.2 then .error 11 else .ok (y.1, all ++ List.replicate y.2.2 y.2.1)
theorem moreF_S (L : List Bool) (l : List Int) (p : Nat) (all : List Int) (most : Nat) : moreF L l p all most = bnd (symF L l p) fun x => if x.1 = 16 ∧ all.length = 0 then .error 11 else bnd (moreS L all x) (moreT most all) := by
  unfold moreF
  congr 1
  funext x
  by_cases h1 : x.1 = 16
  · by_cases h2 : all.length = 0
    · rw [if_pos h1, if_pos h2, if_pos ⟨h1, h2⟩]; rfl
    · rw [if_pos h1, if_neg h2, if_neg (fun h : x.1 = 16 ∧ all.length = 0 => h2 h.2)]
      unfold moreS
      rw [if_pos h1]
      rfl
  · rw [if_neg h1, if_neg (fun h : x.1 = 16 ∧ all.length = 0 => h1 h.1)]
    unfold moreS
    rw [if_neg h1]
    rfl
section
variable {α β : Type} {F : Except Nat α} {L : List Bool} {l : List Int} {M f q e : Nat} {all : List Int} {G : Nat × List Int → Except Nat β} {K : β → Except Nat α}
/-- What follows the next lengths of a list. -/
def moreK (L : List Bool) (l : List Int) (M f : Nat) (all : List Int) (G : Nat × List Int → Except Nat β) (K : β → Except Nat α) (y : Nat × Int × Nat) : Except Nat α := bnd (moreT M all y) fun z => bnd (bnd (moresF L l M f z.1 z.2) G) K
theorem Stg.mores (h : Stg F 0 (bnd (bnd (moresF L l M (f + 1) q all) G) K)) (hl : all.length < M) : Stg F 0 (bnd (symF L l q) fun x => if x.1 = 16 ∧ all.length = 0 then .error 11 else bnd (moreS L all x) (moreK L l M f all G K)) := by
  have h := h.right
  unfold moresF at h
  rw [if_pos hl, moreF_S, bnd_assoc, bnd_assoc, bnd_assoc] at h
  refine .mk0 (h.trans ?_)
  congr 1
  funext x
  rw [bnd_if]
  split
  · rfl
  · rw [bnd_assoc]
    congr 1
    funext y
    unfold moreK
    congr 1
    funext z
    rw [bnd_assoc]
theorem Stg.moresEnd (h : Stg F 0 (bnd (bnd (moresF L l M (f + 1) q all) G) K)) (hl : ¬ all.length < M) : Stg F 0 (bnd (G (q, all)) K) := by
  have h := h.right
  unfold moresF at h
  rw [if_neg hl] at h
  exact .mk0 h
theorem Stg.moreK {y : Nat × Int × Nat} (h : Stg F e (moreK L l M f all G K y)) : Stg F (if e = 0 ∧ M < all.length + y.2.2 then 11 else e) (bnd (bnd (moresF L l M f y.1 (all ++ List.replicate y.2.2 y.2.1)) G) K) := by
  unfold Go.Proofs.Ytfjhmbgckmhdaaa.moreK moreT at h
  rw [bnd_if] at h
  exact h.fail (by decide)
end
theorem thirdF_cons (L : List Bool) (s : Nat) (r : List Nat) (p : Nat) (l : List Int) : thirdF L (s :: r) p l = bnd (takeF L 3 p) fun v => thirdF L r v.2 (l.set s (v.1 : Int)) := rfl
theorem order_drop (n i : Nat) (hi : i < n) (hn : n ≤ 19) : (orderT.take n).drop i = orderT.getD i 0 :: (orderT.take n).drop (i + 1) := by
  have h0 : orderT.length = 19 := rfl
  have h1 : i < (orderT.take n).length := by rw [List.length_take, h0]; omega
  rw [List.drop_eq_getElem_cons h1]
  congr 1
  rw [List.getElem_take]
  simp [List.getD, List.getElem?_eq_getElem (show i < orderT.length by omega)]
theorem order_lt : ∀ i, i < 19 → orderT.getD i 0 < 19 := by decide
theorem refNew_at (A : Option Addr) (c0 : Nat) (l : List Int) (n : Nat) (w : World) (hn : l.length = n) (hl : n ≤ 1000000) (hr : Rd w 1 A n (IB l)) :
    Calls Try.prog 44 #[.slice A n c0] w fun e w' => e = .returned (.int .i64 ((newE l : Nat) : Int)) ∧ Frm [] w w' := by
  subst hn
  exact refNew_spec A c0 l w hl hr
theorem dynH_or (many q : Nat) (all : List Int) (h0 : ∀ x ∈ all, 0 ≤ x) : dynH many (q, all) = if all.getD 256 0 = 0 ∨ newE (all.take many) ≠ 0 ∨ newE (all.drop many) ≠ 0 then .error 11 else .ok (q, all.take many, all.drop many) := by
  unfold dynH
  dsimp only
  have hg : 0 ≤ all.getD 256 0 := by
    by_cases h : 256 < all.length
    · simp only [List.getD, List.getElem?_eq_getElem h, Option.getD_some]
      exact h0 _ (List.getElem_mem _)
    · simp [List.getD, List.getElem?_eq_none (Nat.le_of_not_lt h)]
  by_cases h1 : all.getD 256 0 = 0
  · rw [if_pos (by omega), if_pos (.inl h1)]
  rw [if_neg (by omega)]
  by_cases h2 : newE (all.take many) = 0
  · rw [if_neg (by simpa using h2)]
    by_cases h3 : newE (all.drop many) = 0
    · rw [if_neg (by simpa using h3), if_neg (fun h => by rcases h with h | h | h; exact h1 h; exact h h2; exact h h3)]
    · rw [if_pos h3, if_pos (.inr (.inr h3))]
  · rw [if_pos h2, if_pos (.inr (.inl h2))]
theorem ib_at {w : World} {A : Option Addr} {l : List Int} {k n : Nat} (h : Rd w 1 A n (IB l)) (hl : l.length = n) (hk : k < n) : ∃ ad, A = some ad ∧ w.cell? (ad.add k) = some (.int .i64 (l.getD k 0)) := by
  subst hl
  obtain ⟨ad, hA, hc⟩ := IB_at h hk
  refine ⟨ad, hA, ?_⟩
  rw [hc]
  simp [List.getD, List.getElem?_eq_getElem hk]

section
variable {α : Type} {L : List Bool} {all : List Int} {s p : Nat} {KK : Nat × Int × Nat → Except Nat α}
theorem moreS16 (h : s = 16) : bnd (moreS L all (s, p)) KK = bnd (takeF L 2 p) fun v => KK (v.2, all.getD (all.length - 1) 0, 3 + v.1) := by
  subst h
  unfold moreS
  rw [if_pos rfl, bnd_assoc]
  rfl
theorem moreS17 (h : s = 17) : bnd (moreS L all (s, p)) KK = bnd (takeF L 3 p) fun v => KK (v.2, 0, 3 + v.1) := by
  subst h
  unfold moreS
  rw [if_neg (show ¬ 17 = 16 by decide), if_pos rfl, bnd_assoc]
  rfl
theorem moreS18 (h : s = 18) : bnd (moreS L all (s, p)) KK = bnd (takeF L 7 p) fun v => KK (v.2, 0, 11 + v.1) := by
  subst h
  unfold moreS
  rw [if_neg (show ¬ 18 = 16 by decide), if_neg (show ¬ 18 = 17 by decide), if_pos rfl, bnd_assoc]
  rfl
theorem moreS0 (h1 : s ≠ 16) (h2 : s ≠ 17) (h3 : s ≠ 18) : bnd (moreS L all (s, p)) KK = KK (p, (s : Int), 1) := by
  unfold moreS
  rw [if_neg h1, if_neg h2, if_neg h3]
  rfl
theorem getD_nn {l : List Int} (h : ∀ x ∈ l, 0 ≤ x) (k : Nat) : 0 ≤ l.getD k 0 := by
  by_cases hk : k < l.length
  · simp only [List.getD, List.getElem?_eq_getElem hk, Option.getD_some]
    exact h _ (List.getElem_mem _)
  · simp [List.getD, List.getElem?_eq_none (Nat.le_of_not_lt hk)]
end

set_option maxRecDepth 100000 in
theorem rcodes_spec {α : Type} (F : Except Nat α) (K : Nat × List Int × List Int → Except Nat α) (gx : Nat) (Ab : Option Addr) (cb : Nat) (L : List Bool) (p : Nat) (A : Option Addr) (c : Nat) (out : List Nat) (most : Nat) (w : World) (hF : Stg F 0 (bnd (dynF L p) K)) (hX : IsY w gx Ab cb L p A c out most 0) :
    Calls Try.prog 31 #[.pointer (some ⟨gx, 0, none⟩)] w fun r w' => ∃ p' B1 n1 c1 B2 n2 c2 la lb e', r = .returned (.tuple #[.slice B1 n1 c1, .slice B2 n2 c2]) ∧ IsY w' gx Ab cb L p' A c out most e' ∧ Frm [gx] w w' ∧ Stg F e' (K (p', la, lb)) ∧ (e' = 0 → (la.length = n1 ∧ newE la = 0 ∧ Rd w' 1 B1 n1 (IB la)) ∧ lb.length = n2 ∧ newE lb = 0 ∧ Rd w' 1 B2 n2 (IB lb)) ∧ (e' = 0 → ∀ x ∈ ob B1 ++ ob B2, x ∉ gx :: ob A) := by
  have hLl := hX.2.2.2.2.1
  rw [dynF_M, bnd_assoc] at hF
  refine VC.calls (nt := 168) (res := #[.tmp 2, .tmp 3]) Try.func31 rfl Try.ntmps31 Try.results31 rfl ?_
  refine VC.seq ?_
  refine VC.region ?_
  refine Ops.r (Run.asg rfl) rfl ?_
  refine Ops.r (Run.asg rfl) rfl ?_
  refine Ops.nil ?_
  refine thenQ_n ?_
  refine VC.sub [(0, _)] (.cons rfl .nil) ?_
  refine VC.seq ?_
  refine VC.region ?_
  refine Ops.r (Run.mv rfl) rfl ?_
  refine Ops.cl (Enters.fn (evs.cons rfl (evs.cons rfl evs.nil)) Try.call27) (rnum_spec gx Ab cb L p A c out most 0 5 _ (by omega) hX) rfl ?_
  rintro r w1 ⟨v1, p1, e1, rfl, hX1, hf1, hN1⟩
  refine ⟨_, rfl, ?_⟩
  obtain ⟨hv1, hp1⟩ := hN1.lt
  have hfr1 : Frm [gx] w w1 := hf1
  have hF1 := hF.num hN1
  rw [bnd_assoc] at hF1
  refine Ops.r (Run.bin rfl rfl (Bin.add_i64 257 _ (by omega))) rfl ?_
  refine Ops.r (Run.asg rfl) rfl ?_
  refine Ops.nil ?_
  refine thenQ_n ?_
  refine VC.sub [(0, _), (4, _)] (.cons rfl (.cons rfl .nil)) ?_
  refine VC.seq ?_
  refine VC.region ?_
  refine Ops.r (Run.mv rfl) rfl ?_
  refine Ops.cl (Enters.fn (evs.cons rfl (evs.cons rfl evs.nil)) Try.call27) (rnum_spec gx Ab cb L p1 A c out most e1 5 _ (by omega) hX1) rfl ?_
  rintro r w2 ⟨v2, p2, e2, rfl, hX2, hf2, hN2⟩
  refine ⟨_, rfl, ?_⟩
  obtain ⟨hv2, hp2⟩ := hN2.lt
  have hfr2 : Frm [gx] w w2 := hfr1.trans hf2 (fun x hx => .inl hx)
  have hF2 := hF1.num hN2
  rw [bnd_assoc] at hF2
  refine Ops.r (Run.bin rfl rfl (Bin.add_i64 1 _ (by omega))) rfl ?_
  refine Ops.r (Run.asg rfl) rfl ?_
  refine Ops.nil ?_
  refine thenQ_n ?_
  refine VC.sub [(0, _), (4, _), (5, _)] (.cons rfl (.cons rfl (.cons rfl .nil))) ?_
  refine VC.seq ?_
  refine VC.region ?_
  refine Ops.r (Run.mv rfl) rfl ?_
  refine Ops.cl (Enters.fn (evs.cons rfl (evs.cons rfl evs.nil)) Try.call27) (rnum_spec gx Ab cb L p2 A c out most e2 4 _ (by omega) hX2) rfl ?_
  rintro r w3 ⟨v3, p3, e3, rfl, hX3, hf3, hN3⟩
  refine ⟨_, rfl, ?_⟩
  obtain ⟨hv3, hp3⟩ := hN3.lt
  have hfr3 : Frm [gx] w w3 := hfr2.trans hf3 (fun x hx => .inl hx)
  have hF3 := hF2.num hN3
  unfold dynM at hF3
  rw [bnd_if] at hF3
  have hF4 := Stg.fail hF3 (by decide)
  try dsimp only at hF4
  refine Ops.r (Run.bin rfl rfl (Bin.add_i64 4 _ (by omega))) rfl ?_
  refine Ops.r (Run.asg rfl) rfl ?_
  refine Ops.nil ?_
  refine thenQ_n ?_
  refine VC.sub [(0, _), (4, _), (5, _), (6, _)] (.cons rfl (.cons rfl (.cons rfl (.cons rfl .nil)))) ?_
  refine VC.seq ?_
  refine VC.seq ?_
  refine VC.split1 [(0, _), (4, _), (5, _), (6, _)] (.cons rfl (.cons rfl (.cons rfl (.cons rfl .nil)))) 29 (.bool (decide ((286 < 257 + v1) ∨ (30 < 1 + v2)))) ?_ ?_
  · by_cases hs0 : 286 < 257 + v1
    · skip
      refine VC.region ?_
      refine Ops.r (Run.mv rfl) rfl ?_
      refine Ops.r (Run.bin rfl rfl (Bin.gtrN _ 286)) rfl ?_
      refine Ops.r (Run.mv rfl) rfl ?_
      refine Ops.sk rfl (by first | rfl | assumption | exact decide_eq_true (by assumption) | exact decide_eq_false (by assumption) | decide | (simp; done) | (simp; omega) | (simp [*]; done)) rfl ?_
      refine Ops.sk rfl (by first | rfl | assumption | exact decide_eq_true (by assumption) | exact decide_eq_false (by assumption) | decide | (simp; done) | (simp; omega) | (simp [*]; done)) rfl ?_
      refine Ops.r (Run.pickT rfl rfl (by first | rfl | assumption | exact decide_eq_true (by assumption) | exact decide_eq_false (by assumption) | decide | (simp; done) | (simp; omega) | (simp [*]; done))) rfl ?_
      refine Ops.nil ?_
      refine thenQ_n ⟨(.cons (by rw [dor1 hs0]; rfl) (.cons rfl (.cons rfl (.cons rfl (.cons rfl .nil))))), rfl⟩
    · skip
      refine VC.region ?_
      refine Ops.r (Run.mv rfl) rfl ?_
      refine Ops.r (Run.bin rfl rfl (Bin.gtrN _ 286)) rfl ?_
      refine Ops.r (Run.mv rfl) rfl ?_
      refine Ops.rg rfl (by first | rfl | assumption | exact decide_eq_true (by assumption) | exact decide_eq_false (by assumption) | decide | (simp; done) | (simp; omega) | (simp [*]; done)) (Run.mv rfl) rfl ?_
      refine Ops.rg rfl (by first | rfl | assumption | exact decide_eq_true (by assumption) | exact decide_eq_false (by assumption) | decide | (simp; done) | (simp; omega) | (simp [*]; done)) (Run.bin rfl rfl (Bin.gtrN _ 30)) rfl ?_
      refine Ops.r (Run.pickF rfl rfl (by first | rfl | assumption | exact decide_eq_true (by assumption) | exact decide_eq_false (by assumption) | decide | (simp; done) | (simp; omega) | (simp [*]; done))) rfl ?_
      refine Ops.nil ?_
      refine thenQ_n ⟨(.cons (by rw [dor0 hs0]; rfl) (.cons rfl (.cons rfl (.cons rfl (.cons rfl .nil))))), rfl⟩
  · intro Γ hΓ
    refine thenQ_n (VC.sub _ hΓ ?_)
    refine VC.meet (σ := Nat) (fun s => [(0, .pointer (some ⟨gx, 0, none⟩)), (4, .int .i64 ((257 + v1 : Nat) : Int)), (5, .int .i64 ((1 + v2 : Nat) : Int)), (6, .int .i64 ((4 + v3 : Nat) : Int))]) (fun s wr => IsY wr gx Ab cb L p3 A c out most s ∧ Frm [gx] w wr ∧ s = if e3 = 0 ∧ ¬ (257 + v1 ≤ 286 ∧ 1 + v2 ≤ 30) then 3 else e3) ?_ ?_
    · skip
      refine VC.condD rfl (fun hc1 => ?_) (fun hc1 => ?_)
      · skip
        refine VC.region ?_
        refine Ops.r (Run.mv rfl) rfl ?_
        refine Ops.cl (Enters.fn (evs.cons rfl (evs.cons rfl evs.nil)) Try.call28) (rfail_spec gx Ab cb L p3 A c out most e3 3 _ hX3) rfl ?_
        rintro r w4 ⟨rfl, hX4, hf4⟩
        refine ⟨_, rfl, ?_⟩
        refine Ops.nil ?_
        refine thenQ_n ⟨(if e3 = 0 then 3 else e3), (.cons rfl (.cons rfl (.cons rfl (.cons rfl .nil)))), ?_⟩
        exact ⟨hX4, hfr3.trans hf4 (fun x hx => .inl hx), by grind⟩
      · skip
        refine VC.skip ?_
        refine thenQ_n ⟨e3, (.cons rfl (.cons rfl (.cons rfl (.cons rfl .nil)))), ?_⟩
        exact ⟨hX3, hfr3, by grind⟩
    · skip
      rintro e4 w4 ⟨hX4, hfr4, he4⟩ Γ hΓ
      rw [← he4] at hF4
      clear he4 hX hX1 hX2 hX3
      refine thenQ_n (VC.sub _ hΓ ?_)
      refine VC.seq ?_
      refine VC.region ?_
      refine Ops.m (Does.makeS (n := 19) rfl rfl Try.underlying37 (info3) rfl (by omega) (by omega)) rfl ?_
      rintro _ w6 ⟨rfl, ho6, hf6, hs6⟩
      rw [mk_ints] at ho6
      have hX6 := hX4.frm0 hf6
      refine Ops.r (Run.asg rfl) rfl ?_
      refine Ops.nil ?_
      refine thenQ_n ?_
      refine VC.sub [(0, _), (4, _), (5, _), (6, _), (7, _)] (.cons rfl (.cons rfl (.cons rfl (.cons rfl (.cons rfl .nil))))) ?_
      refine VC.seq ?_
      refine VC.region ?_
      refine Ops.m (Does.buildN (cells := (NI orderT).toArray) (evs.cons rfl (evs.cons rfl (evs.cons rfl (evs.cons rfl (evs.cons rfl (evs.cons rfl (evs.cons rfl (evs.cons rfl (evs.cons rfl (evs.cons rfl (evs.cons rfl (evs.cons rfl (evs.cons rfl (evs.cons rfl (evs.cons rfl (evs.cons rfl (evs.cons rfl (evs.cons rfl (evs.cons rfl evs.nil))))))))))))))))))) Try.underlying37 Try.sizeOf3 zero3 rfl rfl (by kernel_rfl)) rfl ?_
      rintro _ w7 ⟨rfl, hF7⟩
      have ho7 : Own w7 3 1 (some ⟨w6.heap.size, 0, none⟩) 19 19 (NI orderT) := Own.of_blk (n := 19) hF7.blk rfl (by decide)
      have hX7 := hX6.frm0 hF7.frm
      have hl7 := ho6.frm hF7.frm (by simp)
      have hfr7 : Frm [gx] w w7 := (hfr4.trans hf6 (by simp)).trans hF7.frm (by simp)
      have hg6 := hfr4.size
      have hg67 : w4.heap.size ≠ w6.heap.size := by omega
      generalize w4.heap.size = g6 at hl7 hg6 hg67 ⊢
      generalize w6.heap.size = g7 at ho7 hg67 ⊢
      have hgx6 : gx ≠ g6 := fun h => hl7.ne_blk hX7.1 (by decide) (by simp [ob, h])
      have hgx7 : gx ≠ g7 := fun h => ho7.ne_blk hX7.1 (by decide) (by simp [ob, h])
      refine Ops.r (Run.asg rfl) rfl ?_
      refine Ops.nil ?_
      refine thenQ_n ?_
      refine VC.sub [(0, _), (4, _), (5, _), (6, _), (7, _), (8, _)] (.cons rfl (.cons rfl (.cons rfl (.cons rfl (.cons rfl (.cons rfl .nil)))))) ?_
      refine VC.seq ?_
      refine VC.seq ?_
      refine VC.region ?_
      refine Ops.r (v := .int .i64 ((0 : Nat) : Int)) (Run.asg rfl) rfl ?_
      refine Ops.nil ?_
      refine thenQ_n ?_
      refine VC.block ?_
      refine VC.loop (σ := Nat × List Int × Nat × Nat) (fun s => [(0, .pointer (some ⟨gx, 0, none⟩)), (4, .int .i64 ((257 + v1 : Nat) : Int)), (5, .int .i64 ((1 + v2 : Nat) : Int)), (6, .int .i64 ((4 + v3 : Nat) : Int)), (7, .slice (some ⟨g6, 0, none⟩) 19 19), (8, .slice (some ⟨g7, 0, none⟩) 19 19), (9, .int .i64 ((s.1 : Nat) : Int))]) (fun s wr => s.1 ≤ 4 + v3 ∧ s.2.1.length = 19 ∧ IsY wr gx Ab cb L s.2.2.1 A c out most s.2.2.2 ∧ Own wr 3 1 (some ⟨g6, 0, none⟩) 19 19 (IB s.2.1) ∧ Own wr 3 1 (some ⟨g7, 0, none⟩) 19 19 (NI orderT) ∧ Frm [gx] w wr ∧ Stg F s.2.2.2 (bnd (bnd (thirdF L ((orderT.take (4 + v3)).drop s.1) s.2.2.1 s.2.1) (dynG L (257 + v1) (1 + v2))) K)) (fun s => 4 + v3 - s.1) (0, List.replicate 19 0, p3, e4) (.cons rfl (.cons rfl (.cons rfl (.cons rfl (.cons rfl (.cons rfl (.cons rfl .nil))))))) ⟨by omega, by simp, hX7, hl7, ho7, hfr7, hF4⟩ ?_
      clear hF hF1 hF2 hF3 hF4 hX4 hX6 hX7 hl7 ho7 ho6 hfr7
      rintro ⟨i, l9, q, e9⟩ wr ⟨hi, hli, hX, hl, ho, hfr, hF⟩
      dsimp only at hi hli hX hl ho hfr hF ⊢
      refine VC.seq ?_
      refine VC.seq ?_
      refine VC.region ?_
      refine Ops.r (Run.mv rfl) rfl ?_
      refine Ops.r (Run.mv rfl) rfl ?_
      refine Ops.r (Run.bin rfl rfl (Bin.lssN _ _)) rfl ?_
      refine Ops.nil ?_
      refine thenQ_n ?_
      refine VC.sub [(0, _), (4, _), (5, _), (6, _), (7, _), (8, _), (9, _), (36, _)] (.cons rfl (.cons rfl (.cons rfl (.cons rfl (.cons rfl (.cons rfl (.cons rfl (.cons rfl .nil)))))))) ?_
      refine VC.condD rfl (fun hc2 => ?_) (fun hc2 => ?_)
      · skip
        have hd := Drawn.drew wr
        have hXd := hX.frm0 hd.frm
        have hoi := order_lt i (by omega)
        have hco : (fun v => v.cell? ((⟨g7, 0, none⟩ : Addr).add i) = some (.int .i64 ((orderT.getD i 0 : Nat) : Int))) wr.drew := by
          obtain ⟨ad, hA, hc⟩ := ni_at (ho.rd.drawn hd) rfl (k := i) (by omega)
          injection hA with hA
          subst hA
          exact hc
        refine VC.skip ?_
        refine thenQ_n ?_
        refine VC.sub [(0, _), (4, _), (5, _), (6, _), (7, _), (8, _), (9, _)] (.cons rfl (.cons rfl (.cons rfl (.cons rfl (.cons rfl (.cons rfl (.cons rfl .nil))))))) ?_
        refine VC.seq ?_
        refine VC.block ?_
        refine VC.heldL 8 (fun v => v.cell? ((⟨g7, 0, none⟩ : Addr).add i) = some (.int .i64 ((orderT.getD i 0 : Nat) : Int))) (by kernel_rfl) ?_
        have hS := hco
        refine HOps.take 0 rfl (by kernel_rfl) (by kernel_rfl) (by kernel_rfl) hS (fun w0 hw0 => Run.mv rfl) trivial rfl rfl ?_
        refine HOps.take 1 rfl (by kernel_rfl) (by kernel_rfl) (by kernel_rfl) hS (fun w0 hw0 => Run.mv rfl) trivial rfl rfl ?_
        refine HOps.take 2 rfl (by kernel_rfl) (by kernel_rfl) (by kernel_rfl) hS (fun w0 hw0 => Run.mv rfl) trivial rfl rfl ?_
        refine HOps.take 3 rfl (by kernel_rfl) (by kernel_rfl) (by kernel_rfl) hS (fun w0 hw0 => Run.index1 _ rfl rfl Try.underlying37 Try.sizeOf3 (by omega)) trivial rfl rfl ?_
        refine HOps.take 4 rfl (by kernel_rfl) (by kernel_rfl) (by kernel_rfl) hS (fun w0 hw0 => Run.load rfl Try.isAgg3 hw0) trivial rfl rfl ?_
        refine HOps.r1 5 rfl (by kernel_rfl) hS (Run.mv rfl) trivial rfl rfl ?_
        refine HOps.cl 6 rfl (by kernel_rfl) (Enters.fn (evs.cons rfl (evs.cons rfl evs.nil)) Try.call27) (rnum_spec gx Ab cb L q A c out most e9 3 _ (by omega) hXd) trivial rfl rfl ?_
        rintro r w8 ⟨v8, p8, e8, rfl, hX8, hf8, hN8⟩
        have hS : (fun v => v.cell? ((⟨g7, 0, none⟩ : Addr).add i) = some (.int .i64 ((orderT.getD i 0 : Nat) : Int))) w8 := hf8.cell hco (by rw [blk_add]; simp; omega)
        refine ⟨_, rfl, hS, ?_⟩
        have hl8 := (hl.drawn hd).frm hf8 (by simp [ob]; omega)
        have ho8 := (ho.drawn hd).frm hf8 (by simp [ob]; omega)
        have hfr8 := (hfr.drawn hd).trans hf8 (fun x hx => .inl hx)
        refine HOps.r1 7 rfl (by kernel_rfl) hS (Run.index1 _ rfl rfl Try.underlying37 Try.sizeOf3 (by omega)) trivial rfl rfl ?_
        refine HOps.stL rfl (by kernel_rfl) (Acts.storeOwn (orderT.getD i 0) rfl rfl Try.sizeOf3 hl8 rfl (by omega) rfl) trivial rfl ?_
        rintro w9 ⟨hl9, hf9, hs9⟩
        rw [IB_set] at hl9
        refine HOps.done (by kernel_rfl) ?_
        refine blockQ_n (thenQ_n ?_)
        refine VC.sub [(0, _), (4, _), (5, _), (6, _), (7, _), (8, _), (9, _)] (.cons rfl (.cons rfl (.cons rfl (.cons rfl (.cons rfl (.cons rfl (.cons rfl .nil))))))) ?_
        refine VC.region ?_
        refine Ops.r (Run.mv rfl) rfl ?_
        refine Ops.r (Run.bin rfl rfl (Bin.add_i64 _ 1 (by omega))) rfl ?_
        refine Ops.r (Run.asg rfl) rfl ?_
        refine Ops.nil ?_
        refine thenQ_n ⟨(i + 1, l9.set (orderT.getD i 0) (v8 : Int), p8, e8), (.cons rfl (.cons rfl (.cons rfl (.cons rfl (.cons rfl (.cons rfl (.cons rfl .nil))))))), ?_, ?_⟩
        · skip
          rw [order_drop _ _ hc2 (by omega), thirdF_cons, bnd_assoc, bnd_assoc] at hF
          exact ⟨hc2, by simp [hli], hX8.frm hf9 (fun x hx h => by
            rcases List.mem_cons.1 hx with h2 | hx
            · exact hl8.ne_blk hX8.1 (by decide) (h2 ▸ h)
            rcases List.mem_append.1 hx with hx | hx
            · exact hX8.2.1.ne_own hl8 (by decide) x hx h
            · exact hX8.2.2.1.ne_own hl8 (by decide) x hx h), hl9, ho8.frm hf9 (by simp [ob]; omega), hfr8.trans hf9 (fun x hx => .inr (by simp [ob] at hx; omega)), by dsimp only; rw [bnd_assoc]; exact Stg.num hF hN8⟩
        · skip
          dsimp only; omega
      · skip
        have hin : i = 4 + v3 := by omega
        rw [hin, List.drop_eq_nil_of_le (by rw [List.length_take]; omega)] at hF
        have hF9 : Stg F e9 (bnd (dynG L (257 + v1) (1 + v2) (q, l9)) K) := hF
        unfold dynG at hF9
        rw [bnd_if] at hF9
        have hF10 := Stg.fail hF9 (by decide)
        try dsimp only at hF10
        clear hF hF9
        refine VC.exit ?_
        refine thenQ_x (thenQ_x (blockQ_x ?_))
        refine thenQ_n ?_
        refine VC.sub [(0, _), (4, _), (5, _), (7, _)] (.cons rfl (.cons rfl (.cons rfl (.cons rfl .nil)))) ?_
        refine VC.seq ?_
        refine VC.seq ?_
        refine VC.splitR [(0, .pointer (some ⟨gx, 0, none⟩)), (4, .int .i64 ((257 + v1 : Nat) : Int)), (5, .int .i64 ((1 + v2 : Nat) : Int)), (7, .slice (some ⟨g6, 0, none⟩) 19 19)] (fun w1 => Frm [] wr w1) 56 (.bool (decide (e9 = 0 ∧ newE l9 ≠ 0))) ?_ ?_
        · refine VC.region ?_
          refine Ops.r (Run.mv rfl) rfl ?_
          refine Ops.r (Run.nilck rfl) rfl ?_
          refine Ops.r (Run.fieldAddr rfl Try.underlying56 rfl Try.sizeOf3 (by decide)) rfl ?_
          refine Ops.r (Run.load rfl Try.isAgg3 (hX.1.cell 4)) rfl ?_
          refine Ops.r (Run.bin rfl rfl (Bin.eqlN _ 0)) rfl ?_
          by_cases hs51 : e9 = 0
          · skip
            refine Ops.r (Run.mv rfl) rfl ?_
            refine Ops.rg rfl (by first | rfl | assumption | exact decide_eq_true (by assumption) | exact decide_eq_false (by assumption) | decide | (simp; done) | (simp; omega) | (simp [*]; done)) (Run.mv rfl) rfl ?_
            refine Ops.clg rfl (by first | rfl | assumption | exact decide_eq_true (by assumption) | exact decide_eq_false (by assumption) | decide | (simp; done) | (simp; omega) | (simp [*]; done)) (Enters.fn (evs.cons rfl evs.nil) Try.call44) (refNew_at _ _ l9 19 _ hli (by omega) hl.rd) rfl ?_
            rintro r w11 ⟨rfl, hf11⟩
            refine ⟨_, rfl, ?_⟩
            refine Ops.rg rfl (by first | rfl | assumption | exact decide_eq_true (by assumption) | exact decide_eq_false (by assumption) | decide | (simp; done) | (simp; omega) | (simp [*]; done)) (Run.bin rfl rfl (Bin.neqN _ 0)) rfl ?_
            by_cases hs55 : newE l9 ≠ 0
            · skip
              refine Ops.r (Run.pickT rfl rfl (by first | rfl | assumption | exact decide_eq_true (by assumption) | exact decide_eq_false (by assumption) | decide | (simp; done) | (simp; omega) | (simp [*]; done))) rfl ?_
              refine Ops.nil ?_
              refine thenQ_n ⟨(.cons (congrArg (fun b => some (Value.bool b)) (by grind)) (.cons rfl (.cons rfl (.cons rfl (.cons rfl .nil))))), (by first | exact Frm.refl _ _ | assumption)⟩
            · skip
              refine Ops.r (Run.pickT rfl rfl (by first | rfl | assumption | exact decide_eq_true (by assumption) | exact decide_eq_false (by assumption) | decide | (simp; done) | (simp; omega) | (simp [*]; done))) rfl ?_
              refine Ops.nil ?_
              refine thenQ_n ⟨(.cons (congrArg (fun b => some (Value.bool b)) (by grind)) (.cons rfl (.cons rfl (.cons rfl (.cons rfl .nil))))), (by first | exact Frm.refl _ _ | assumption)⟩
          · skip
            refine Ops.r (Run.mv rfl) rfl ?_
            refine Ops.sk rfl (by first | rfl | assumption | exact decide_eq_true (by assumption) | exact decide_eq_false (by assumption) | decide | (simp; done) | (simp; omega) | (simp [*]; done)) rfl ?_
            refine Ops.sk rfl (by first | rfl | assumption | exact decide_eq_true (by assumption) | exact decide_eq_false (by assumption) | decide | (simp; done) | (simp; omega) | (simp [*]; done)) rfl ?_
            refine Ops.sk rfl (by first | rfl | assumption | exact decide_eq_true (by assumption) | exact decide_eq_false (by assumption) | decide | (simp; done) | (simp; omega) | (simp [*]; done)) rfl ?_
            refine Ops.r (Run.pickF rfl rfl (by first | rfl | assumption | exact decide_eq_true (by assumption) | exact decide_eq_false (by assumption) | decide | (simp; done) | (simp; omega) | (simp [*]; done))) rfl ?_
            refine Ops.nil ?_
            refine thenQ_n ⟨(.cons (congrArg (fun b => some (Value.bool b)) (by grind)) (.cons rfl (.cons rfl (.cons rfl (.cons rfl .nil))))), (by first | exact Frm.refl _ _ | assumption)⟩
        · intro Γ w10 hΓ hf10
          refine thenQ_n (VC.sub _ hΓ ?_)
          refine VC.meet (σ := Nat) (fun s => [(0, .pointer (some ⟨gx, 0, none⟩)), (4, .int .i64 ((257 + v1 : Nat) : Int)), (5, .int .i64 ((1 + v2 : Nat) : Int)), (7, .slice (some ⟨g6, 0, none⟩) 19 19)]) (fun s wr => IsY wr gx Ab cb L q A c out most s ∧ Frm [gx] w10 wr ∧ s = if e9 = 0 ∧ newE l9 ≠ 0 then 11 else e9) ?_ ?_
          · skip
            refine VC.condD rfl (fun hc3 => ?_) (fun hc3 => ?_)
            · skip
              refine VC.region ?_
              refine Ops.r (Run.mv rfl) rfl ?_
              refine Ops.cl (Enters.fn (evs.cons rfl (evs.cons rfl evs.nil)) Try.call28) (rfail_spec gx Ab cb L q A c out most e9 11 _ (hX.frm0 hf10)) rfl ?_
              rintro r w11 ⟨rfl, hX11, hf11⟩
              refine ⟨_, rfl, ?_⟩
              refine Ops.nil ?_
              refine thenQ_n ⟨(if e9 = 0 then 11 else e9), (.cons rfl (.cons rfl (.cons rfl (.cons rfl .nil)))), ?_⟩
              exact ⟨hX11, hf11, by grind⟩
            · skip
              refine VC.skip ?_
              refine thenQ_n ⟨e9, (.cons rfl (.cons rfl (.cons rfl (.cons rfl .nil)))), ?_⟩
              exact ⟨hX.frm0 hf10, Frm.refl _ _, by grind⟩
          · skip
            rintro e10 w12 ⟨hX12, hf12, he10⟩ Γ hΓ
            rw [← he10] at hF10
            have hn10 : e10 = 0 → newE l9 = 0 := by grind
            have hl12 := (hl.frm hf10 (by simp)).frm hf12 (by simp [ob]; omega)
            have hfr12 := (hfr.trans hf10 (by simp)).trans hf12 (fun x hx => .inl hx)
            clear he10 hX hl hfr hi hin
            refine thenQ_n (VC.sub _ hΓ ?_)
            refine VC.seq ?_
            refine VC.region ?_
            refine Ops.r (Run.asg rfl) rfl ?_
            refine Ops.nil ?_
            refine thenQ_n ?_
            refine VC.seq ?_
            refine VC.meet (σ := Nat × Nat × List Int × Option Addr × Nat) (fun s => [(0, .pointer (some ⟨gx, 0, none⟩)), (4, .int .i64 ((257 + v1 : Nat) : Int)), (10, .slice s.2.2.2.1 s.2.2.1.length s.2.2.2.2)]) (fun s wr => IsY wr gx Ab cb L s.1 A c out most s.2.1 ∧ Own wr 3 1 s.2.2.2.1 s.2.2.1.length s.2.2.2.2 (IB s.2.2.1) ∧ Frm [gx] w wr ∧ Stg F s.2.1 (bnd (dynH (257 + v1) (s.1, s.2.2.1)) K) ∧ (s.2.1 = 0 → s.2.2.1.length = 257 + v1 + (1 + v2)) ∧ (∀ x ∈ s.2.2.1, 0 ≤ x) ∧ s.2.2.1.length ≤ 1000) ?_ ?_
            · skip
              refine VC.block ?_
              refine VC.loop (σ := Nat × Nat × List Int × Option Addr × Nat × Nat) (fun s => [(0, .pointer (some ⟨gx, 0, none⟩)), (4, .int .i64 ((257 + v1 : Nat) : Int)), (5, .int .i64 ((1 + v2 : Nat) : Int)), (7, .slice (some ⟨g6, 0, none⟩) 19 19), (10, .slice s.2.2.2.1 s.2.2.1.length s.2.2.2.2.1)]) (fun s wr => (s.2.2.2.2.2 = 0 → L.length < s.1 + s.2.1 ∧ s.2.2.1.length ≤ 257 + v1 + (1 + v2)) ∧ s.2.2.1.length ≤ 1000 ∧ (∀ x ∈ s.2.2.1, 0 ≤ x) ∧ IsY wr gx Ab cb L s.2.1 A c out most s.2.2.2.2.2 ∧ Own wr 3 1 (some ⟨g6, 0, none⟩) 19 19 (IB l9) ∧ Own wr 3 1 s.2.2.2.1 s.2.2.1.length s.2.2.2.2.1 (IB s.2.2.1) ∧ Frm [gx] w wr ∧ (∀ y ∈ ob s.2.2.2.1, w.heap.size ≤ y ∧ y ≠ g6) ∧ Stg F s.2.2.2.2.2 (bnd (bnd (moresF L l9 (257 + v1 + (1 + v2)) s.1 s.2.1 s.2.2.1) (dynH (257 + v1))) K) ∧ (s.2.2.2.2.2 = 0 → newE l9 = 0)) (fun s => if s.2.2.2.2.2 = 0 then L.length + 2 - s.2.1 else 0) (L.length + 1, q, [], none, 0, e10) (.cons rfl (.cons rfl (.cons rfl (.cons rfl (.cons rfl .nil))))) ⟨fun _ => ⟨by dsimp only; omega, by simp⟩, by simp, by simp, hX12, hl12, Own.nil _ _ _, hfr12, by simp [ob], hF10, hn10⟩ ?_
              clear hX12 hl12 hfr12 hF10
              rintro ⟨f, q, all, Al, cl, e0⟩ wr ⟨hfq, hle, hall0, hX, hl, hal, hfr, hu, hF, hnl⟩
              dsimp only at hfq hle hall0 hX hl hal hfr hu hF hnl ⊢
              have hsr := hfr.size
              refine VC.seq ?_
              refine VC.seq ?_
              refine VC.split1 [(0, _), (4, _), (5, _), (7, _), (10, _)] (.cons rfl (.cons rfl (.cons rfl (.cons rfl (.cons rfl .nil))))) 71 (.bool (decide (e0 = 0 ∧ all.length < 257 + v1 + (1 + v2)))) ?_ ?_
              · refine VC.region ?_
                refine Ops.r (Run.mv rfl) rfl ?_
                refine Ops.r (Run.nilck rfl) rfl ?_
                refine Ops.r (Run.fieldAddr rfl Try.underlying56 rfl Try.sizeOf3 (by decide)) rfl ?_
                refine Ops.r (Run.load rfl Try.isAgg3 (hX.1.cell 4)) rfl ?_
                refine Ops.r (Run.bin rfl rfl (Bin.eqlN _ 0)) rfl ?_
                by_cases hs63 : e0 = 0
                · skip
                  refine Ops.r (Run.mv rfl) rfl ?_
                  refine Ops.rg rfl (by first | rfl | assumption | exact decide_eq_true (by assumption) | exact decide_eq_false (by assumption) | decide | (simp; done) | (simp; omega) | (simp [*]; done)) (Run.mv rfl) rfl ?_
                  refine Ops.rg rfl (by first | rfl | assumption | exact decide_eq_true (by assumption) | exact decide_eq_false (by assumption) | decide | (simp; done) | (simp; omega) | (simp [*]; done)) (Run.lenS rfl Try.underlying37) rfl ?_
                  refine Ops.rg rfl (by first | rfl | assumption | exact decide_eq_true (by assumption) | exact decide_eq_false (by assumption) | decide | (simp; done) | (simp; omega) | (simp [*]; done)) (Run.mv rfl) rfl ?_
                  refine Ops.rg rfl (by first | rfl | assumption | exact decide_eq_true (by assumption) | exact decide_eq_false (by assumption) | decide | (simp; done) | (simp; omega) | (simp [*]; done)) (Run.mv rfl) rfl ?_
                  refine Ops.rg rfl (by first | rfl | assumption | exact decide_eq_true (by assumption) | exact decide_eq_false (by assumption) | decide | (simp; done) | (simp; omega) | (simp [*]; done)) (Run.bin rfl rfl (Bin.add_i64 _ _ (by omega))) rfl ?_
                  refine Ops.rg rfl (by first | rfl | assumption | exact decide_eq_true (by assumption) | exact decide_eq_false (by assumption) | decide | (simp; done) | (simp; omega) | (simp [*]; done)) (Run.bin rfl rfl (Bin.lssN _ _)) rfl ?_
                  by_cases hs70 : all.length < 257 + v1 + (1 + v2)
                  · skip
                    refine Ops.r (Run.pickT rfl rfl (by first | rfl | assumption | exact decide_eq_true (by assumption) | exact decide_eq_false (by assumption) | decide | (simp; done) | (simp; omega) | (simp [*]; done))) rfl ?_
                    refine Ops.nil ?_
                    refine thenQ_n ⟨(.cons (congrArg (fun b => some (Value.bool b)) (by grind)) (.cons rfl (.cons rfl (.cons rfl (.cons rfl (.cons rfl .nil)))))), rfl⟩
                  · skip
                    refine Ops.r (Run.pickT rfl rfl (by first | rfl | assumption | exact decide_eq_true (by assumption) | exact decide_eq_false (by assumption) | decide | (simp; done) | (simp; omega) | (simp [*]; done))) rfl ?_
                    refine Ops.nil ?_
                    refine thenQ_n ⟨(.cons (congrArg (fun b => some (Value.bool b)) (by grind)) (.cons rfl (.cons rfl (.cons rfl (.cons rfl (.cons rfl .nil)))))), rfl⟩
                · skip
                  refine Ops.r (Run.mv rfl) rfl ?_
                  refine Ops.sk rfl (by first | rfl | assumption | exact decide_eq_true (by assumption) | exact decide_eq_false (by assumption) | decide | (simp; done) | (simp; omega) | (simp [*]; done)) rfl ?_
                  refine Ops.sk rfl (by first | rfl | assumption | exact decide_eq_true (by assumption) | exact decide_eq_false (by assumption) | decide | (simp; done) | (simp; omega) | (simp [*]; done)) rfl ?_
                  refine Ops.sk rfl (by first | rfl | assumption | exact decide_eq_true (by assumption) | exact decide_eq_false (by assumption) | decide | (simp; done) | (simp; omega) | (simp [*]; done)) rfl ?_
                  refine Ops.sk rfl (by first | rfl | assumption | exact decide_eq_true (by assumption) | exact decide_eq_false (by assumption) | decide | (simp; done) | (simp; omega) | (simp [*]; done)) rfl ?_
                  refine Ops.sk rfl (by first | rfl | assumption | exact decide_eq_true (by assumption) | exact decide_eq_false (by assumption) | decide | (simp; done) | (simp; omega) | (simp [*]; done)) rfl ?_
                  refine Ops.sk rfl (by first | rfl | assumption | exact decide_eq_true (by assumption) | exact decide_eq_false (by assumption) | decide | (simp; done) | (simp; omega) | (simp [*]; done)) rfl ?_
                  refine Ops.r (Run.pickF rfl rfl (by first | rfl | assumption | exact decide_eq_true (by assumption) | exact decide_eq_false (by assumption) | decide | (simp; done) | (simp; omega) | (simp [*]; done))) rfl ?_
                  refine Ops.nil ?_
                  refine thenQ_n ⟨(.cons (congrArg (fun b => some (Value.bool b)) (by grind)) (.cons rfl (.cons rfl (.cons rfl (.cons rfl (.cons rfl .nil)))))), rfl⟩
              · intro Γ hΓ
                refine thenQ_n (VC.sub _ hΓ ?_)
                refine VC.condD rfl (fun hc4 => ?_) (fun hc4 => ?_)
                · skip
                  obtain ⟨he00, hlt⟩ := hc4
                  subst he00
                  obtain ⟨hfq, _⟩ := hfq rfl
                  have hnl := hnl rfl
                  have hpq := hX.2.2.2.1
                  obtain ⟨f, rfl⟩ : ∃ f', f = f' + 1 := ⟨f - 1, by omega⟩
                  have hF0 := hF.mores hlt
                  clear hF
                  refine VC.skip ?_
                  refine thenQ_n ?_
                  refine VC.sub [(0, _), (4, _), (5, _), (7, _), (10, _)] (.cons rfl (.cons rfl (.cons rfl (.cons rfl (.cons rfl .nil))))) ?_
                  refine VC.block ?_
                  refine VC.seq ?_
                  refine VC.region ?_
                  refine Ops.r (Run.mv rfl) rfl ?_
                  refine Ops.r (Run.mv rfl) rfl ?_
                  refine Ops.cl (Enters.fn (evs.cons rfl (evs.cons rfl evs.nil)) Try.call43) (rsym_spec gx Ab (some ⟨g6, 0, none⟩) cb 19 19 l9 L q A c out most 0 _ (fun _ => ⟨hli, hnl, hl.rd⟩) hX) rfl ?_
                  rintro r w13 ⟨s1, p1, e1, rfl, hX13, hf13, hpp1, hS1⟩
                  refine ⟨_, rfl, ?_⟩
                  have hF1 := hF0.sym hS1
                  have hF2 := Stg.fail hF1 (by decide)
                  try dsimp only at hF2
                  clear hF0 hF1
                  refine Ops.r (Run.asg rfl) rfl ?_
                  refine Ops.nil ?_
                  refine thenQ_n ?_
                  refine VC.sub [(0, _), (4, _), (5, _), (7, _), (10, _), (11, _)] (.cons rfl (.cons rfl (.cons rfl (.cons rfl (.cons rfl (.cons rfl .nil)))))) ?_
                  refine VC.seq ?_
                  refine VC.region ?_
                  refine Ops.r (Run.mv rfl) rfl ?_
                  refine Ops.r (Run.asg rfl) rfl ?_
                  refine Ops.r (v := .int .i64 ((1 : Nat) : Int)) (Run.asg rfl) rfl ?_
                  refine Ops.nil ?_
                  refine thenQ_n ?_
                  refine VC.sub [(0, _), (4, _), (5, _), (7, _), (10, _), (11, _), (12, _), (13, _)] (.cons rfl (.cons rfl (.cons rfl (.cons rfl (.cons rfl (.cons rfl (.cons rfl (.cons rfl .nil)))))))) ?_
                  refine VC.seq ?_
                  refine VC.seq ?_
                  refine VC.split1 [(0, _), (4, _), (5, _), (7, _), (10, _), (11, _), (12, _), (13, _)] (.cons rfl (.cons rfl (.cons rfl (.cons rfl (.cons rfl (.cons rfl (.cons rfl (.cons rfl .nil)))))))) 82 (.bool (decide ((s1 = 16) ∧ (all.length = 0)))) ?_ ?_
                  · by_cases hs0 : s1 = 16
                    · skip
                      refine VC.region ?_
                      refine Ops.r (Run.mv rfl) rfl ?_
                      refine Ops.r (Run.bin rfl rfl (Bin.eqlN _ 16)) rfl ?_
                      refine Ops.r (Run.mv rfl) rfl ?_
                      refine Ops.rg rfl (by first | rfl | assumption | exact decide_eq_true (by assumption) | exact decide_eq_false (by assumption) | decide | (simp; done) | (simp; omega) | (simp [*]; done)) (Run.mv rfl) rfl ?_
                      refine Ops.rg rfl (by first | rfl | assumption | exact decide_eq_true (by assumption) | exact decide_eq_false (by assumption) | decide | (simp; done) | (simp; omega) | (simp [*]; done)) (Run.lenS rfl Try.underlying37) rfl ?_
                      refine Ops.rg rfl (by first | rfl | assumption | exact decide_eq_true (by assumption) | exact decide_eq_false (by assumption) | decide | (simp; done) | (simp; omega) | (simp [*]; done)) (Run.bin rfl rfl (Bin.eqlN _ 0)) rfl ?_
                      refine Ops.r (Run.pickT rfl rfl (by first | rfl | assumption | exact decide_eq_true (by assumption) | exact decide_eq_false (by assumption) | decide | (simp; done) | (simp; omega) | (simp [*]; done))) rfl ?_
                      refine Ops.nil ?_
                      refine thenQ_n ⟨(.cons (by rw [dand1 hs0]; rfl) (.cons rfl (.cons rfl (.cons rfl (.cons rfl (.cons rfl (.cons rfl (.cons rfl (.cons rfl .nil))))))))), rfl⟩
                    · skip
                      refine VC.region ?_
                      refine Ops.r (Run.mv rfl) rfl ?_
                      refine Ops.r (Run.bin rfl rfl (Bin.eqlN _ 16)) rfl ?_
                      refine Ops.r (Run.mv rfl) rfl ?_
                      refine Ops.sk rfl (by first | rfl | assumption | exact decide_eq_true (by assumption) | exact decide_eq_false (by assumption) | decide | (simp; done) | (simp; omega) | (simp [*]; done)) rfl ?_
                      refine Ops.sk rfl (by first | rfl | assumption | exact decide_eq_true (by assumption) | exact decide_eq_false (by assumption) | decide | (simp; done) | (simp; omega) | (simp [*]; done)) rfl ?_
                      refine Ops.sk rfl (by first | rfl | assumption | exact decide_eq_true (by assumption) | exact decide_eq_false (by assumption) | decide | (simp; done) | (simp; omega) | (simp [*]; done)) rfl ?_
                      refine Ops.r (Run.pickF rfl rfl (by first | rfl | assumption | exact decide_eq_true (by assumption) | exact decide_eq_false (by assumption) | decide | (simp; done) | (simp; omega) | (simp [*]; done))) rfl ?_
                      refine Ops.nil ?_
                      refine thenQ_n ⟨(.cons (by rw [dand0 hs0]; rfl) (.cons rfl (.cons rfl (.cons rfl (.cons rfl (.cons rfl (.cons rfl (.cons rfl (.cons rfl .nil))))))))), rfl⟩
                  · intro Γ hΓ
                    refine thenQ_n (VC.sub _ hΓ ?_)
                    refine VC.meet (σ := Nat) (fun s => [(0, .pointer (some ⟨gx, 0, none⟩)), (4, .int .i64 ((257 + v1 : Nat) : Int)), (5, .int .i64 ((1 + v2 : Nat) : Int)), (7, .slice (some ⟨g6, 0, none⟩) 19 19), (10, .slice Al all.length cl), (11, .int .i64 ((s1 : Nat) : Int)), (12, .int .i64 ((s1 : Nat) : Int)), (13, .int .i64 ((1 : Nat) : Int))]) (fun s wr => IsY wr gx Ab cb L p1 A c out most s ∧ Frm [gx] w13 wr ∧ s = if e1 = 0 ∧ (s1 = 16 ∧ all.length = 0) then 11 else e1) ?_ ?_
                    · skip
                      refine VC.condD rfl (fun hc5 => ?_) (fun hc5 => ?_)
                      · skip
                        refine VC.region ?_
                        refine Ops.r (Run.mv rfl) rfl ?_
                        refine Ops.cl (Enters.fn (evs.cons rfl (evs.cons rfl evs.nil)) Try.call28) (rfail_spec gx Ab cb L p1 A c out most e1 11 _ hX13) rfl ?_
                        rintro r w14 ⟨rfl, hX14, hf14⟩
                        refine ⟨_, rfl, ?_⟩
                        refine Ops.nil ?_
                        refine thenQ_n ⟨(if e1 = 0 then 11 else e1), (.cons rfl (.cons rfl (.cons rfl (.cons rfl (.cons rfl (.cons rfl (.cons rfl (.cons rfl .nil)))))))), ?_⟩
                        exact ⟨hX14, hf14, by grind⟩
                      · skip
                        refine VC.skip ?_
                        refine thenQ_n ⟨e1, (.cons rfl (.cons rfl (.cons rfl (.cons rfl (.cons rfl (.cons rfl (.cons rfl (.cons rfl .nil)))))))), ?_⟩
                        exact ⟨hX13, Frm.refl _ _, by grind⟩
                    · skip
                      rintro e2 w14 ⟨hX14, hf14, he2⟩ Γ hΓ
                      rw [← he2] at hF2
                      have hl14 := (hl.frm hf13 (by simp [ob]; omega)).frm hf14 (by simp [ob]; omega)
                      have hgxl : ∀ x ∈ ob Al, x ∉ [gx] := fun x hx h => by
                        rw [List.mem_singleton] at h
                        exact hal.ne_blk hX.1 (by decide) (h ▸ hx)
                      have hal14 := (hal.frm hf13 hgxl).frm hf14 hgxl
                      have hfr14 := (hfr.trans hf13 (fun x hx => .inl hx)).trans hf14 (fun x hx => .inl hx)
                      refine thenQ_n (VC.sub _ hΓ ?_)
                      refine VC.seq ?_
                      refine VC.seq ?_
                      refine VC.region ?_
                      refine Ops.r (Run.mv rfl) rfl ?_
                      refine Ops.r (Run.nilck rfl) rfl ?_
                      refine Ops.r (Run.fieldAddr rfl Try.underlying56 rfl Try.sizeOf3 (by decide)) rfl ?_
                      refine Ops.r (Run.load rfl Try.isAgg3 (hX14.1.cell 4)) rfl ?_
                      refine Ops.r (Run.bin rfl rfl (Bin.neqN _ 0)) rfl ?_
                      refine Ops.nil ?_
                      refine thenQ_n ?_
                      refine VC.sub [(0, _), (4, _), (5, _), (7, _), (10, _), (11, _), (12, _), (13, _), (89, _)] (.cons rfl (.cons rfl (.cons rfl (.cons rfl (.cons rfl (.cons rfl (.cons rfl (.cons rfl (.cons rfl .nil))))))))) ?_
                      refine VC.condD rfl (fun hc6 => ?_) (fun hc6 => ?_)
                      · skip
                        refine VC.exit ?_
                        refine thenQ_x (blockQ_o rfl (thenQ_x (blockQ_x ?_)))
                        refine thenQ_n ⟨(p1, e2, all, Al, cl), (.cons rfl (.cons rfl (.cons rfl .nil))), ?_⟩
                        exact ⟨hX14, hal14, hfr14, hF2.left hc6, fun h => absurd h hc6, hall0, hle⟩
                      · skip
                        have he20 : e2 = 0 := by simpa using hc6
                        have he10 : e1 = 0 ∧ ¬ (s1 = 16 ∧ all.length = 0) := by grind
                        clear he2
                        subst he20
                        obtain ⟨he10, hn16⟩ := he10
                        subst he10
                        obtain ⟨hq1, hp1L, _⟩ : q < p1 ∧ p1 ≤ L.length ∧ s1 < l9.length := by
                          rcases hS1 with ⟨h, _⟩ | ⟨_, h, _⟩ | ⟨_, h, _⟩
                          · exact absurd rfl h
                          · exact symF_ok (newE_good hnl).2 hpq h
                          · exact absurd rfl h
                        refine VC.skip ?_
                        refine thenQ_n ?_
                        refine VC.sub [(0, _), (4, _), (5, _), (7, _), (10, _), (11, _), (12, _), (13, _)] (.cons rfl (.cons rfl (.cons rfl (.cons rfl (.cons rfl (.cons rfl (.cons rfl (.cons rfl .nil)))))))) ?_
                        refine VC.seq ?_
                        refine VC.seq ?_
                        refine VC.region ?_
                        refine Ops.r (Run.mv rfl) rfl ?_
                        refine Ops.r (Run.bin rfl rfl (Bin.eqlN _ 16)) rfl ?_
                        refine Ops.nil ?_
                        refine thenQ_n ?_
                        refine VC.sub [(0, _), (4, _), (5, _), (7, _), (10, _), (11, _), (12, _), (13, _), (91, _)] (.cons rfl (.cons rfl (.cons rfl (.cons rfl (.cons rfl (.cons rfl (.cons rfl (.cons rfl (.cons rfl .nil))))))))) ?_
                        refine VC.meet (σ := Int × Nat × Nat × Nat) (fun s => [(0, .pointer (some ⟨gx, 0, none⟩)), (4, .int .i64 ((257 + v1 : Nat) : Int)), (5, .int .i64 ((1 + v2 : Nat) : Int)), (7, .slice (some ⟨g6, 0, none⟩) 19 19), (10, .slice Al all.length cl), (11, .int .i64 ((s1 : Nat) : Int)), (12, .int .i64 s.1), (13, .int .i64 ((s.2.1 : Nat) : Int))]) (fun s wr => IsY wr gx Ab cb L s.2.2.1 A c out most s.2.2.2 ∧ Frm [gx] w14 wr ∧ (s1 = 16 → Stg F s.2.2.2 ((moreK L l9 (257 + v1 + (1 + v2)) f all (dynH (257 + v1)) K) (s.2.2.1, s.1, s.2.1))) ∧ (s1 ≠ 16 → s.2.2.1 = p1 ∧ s.2.2.2 = 0 ∧ s.1 = (s1 : Int) ∧ s.2.1 = 1) ∧ s.2.1 ≤ 200 ∧ 0 ≤ s.1 ∧ p1 ≤ s.2.2.1) ?_ ?_
                        · skip
                          refine VC.condD rfl (fun hc7 => ?_) (fun hc7 => ?_)
                          · skip
                            obtain ⟨ad, hAd, hck⟩ := ib_at hal14.rd rfl (k := all.length - 1) (by omega)
                            subst hAd
                            rw [moreS16 hc7] at hF2
                            refine VC.seq ?_
                            refine VC.region ?_
                            refine Ops.r (Run.mv rfl) rfl ?_
                            refine Ops.r (Run.mv rfl) rfl ?_
                            refine Ops.r (Run.lenS rfl Try.underlying37) rfl ?_
                            refine Ops.r (Run.bin rfl rfl (Bin.sub_i64 _ 1 (by omega) (by omega))) rfl ?_
                            refine Ops.r (Run.index1 _ rfl rfl Try.underlying37 Try.sizeOf3 (by omega)) rfl ?_
                            refine Ops.r (Run.load rfl Try.isAgg3 hck) rfl ?_
                            refine Ops.r (Run.asg rfl) rfl ?_
                            refine Ops.nil ?_
                            refine thenQ_n ?_
                            refine VC.sub [(0, _), (4, _), (5, _), (7, _), (10, _), (11, _), (12, _)] (.cons rfl (.cons rfl (.cons rfl (.cons rfl (.cons rfl (.cons rfl (.cons rfl .nil))))))) ?_
                            refine VC.region ?_
                            refine Ops.r (Run.mv rfl) rfl ?_
                            refine Ops.cl (Enters.fn (evs.cons rfl (evs.cons rfl evs.nil)) Try.call27) (rnum_spec gx Ab cb L p1 A c out most 0 2 _ (by omega) hX14) rfl ?_
                            rintro r w15 ⟨v15, p15, e15, rfl, hX15, hf15, hN15⟩
                            refine ⟨_, rfl, ?_⟩
                            obtain ⟨hv15, hp15⟩ := hN15.lt
                            have hfr15 : Frm [gx] w14 w15 := hf15
                            have hF15 := Stg.num (hF2) hN15
                            try dsimp only at hF15
                            refine Ops.r (Run.bin rfl rfl (Bin.add_i64 3 _ (by omega))) rfl ?_
                            refine Ops.r (Run.asg rfl) rfl ?_
                            refine Ops.nil ?_
                            refine thenQ_n ⟨(all.getD (all.length - 1) 0, 3 + v15, p15, e15), (.cons rfl (.cons rfl (.cons rfl (.cons rfl (.cons rfl (.cons rfl (.cons rfl (.cons rfl .nil)))))))), ?_⟩
                            exact ⟨hX15, hfr15, fun _ => hF15, fun h => absurd hc7 h, by dsimp only; omega, getD_nn hall0 _, hp15⟩
                          · skip
                            refine VC.skip ?_
                            refine thenQ_n ⟨((s1 : Int), 1, p1, 0), (.cons rfl (.cons rfl (.cons rfl (.cons rfl (.cons rfl (.cons rfl (.cons rfl (.cons rfl .nil)))))))), ?_⟩
                            exact ⟨hX14, Frm.refl _ _, fun h => absurd h hc7, fun _ => ⟨rfl, rfl, rfl, rfl⟩, by dsimp only; omega, by dsimp only; omega, Nat.le_refl _⟩
                        · skip
                          rintro ⟨n7, t7, p7, e7⟩ w16 ⟨hX16, hf16, hA16, hB16, ht16, hn7, hp16⟩ Γ hΓ
                          dsimp only at hX16 hf16 hA16 hB16 ht16 hn7 hp16 hΓ
                          refine thenQ_n (VC.sub _ hΓ ?_)
                          refine VC.seq ?_
                          refine VC.seq ?_
                          refine VC.region ?_
                          refine Ops.r (Run.mv rfl) rfl ?_
                          refine Ops.r (Run.bin rfl rfl (Bin.eqlN _ 17)) rfl ?_
                          refine Ops.nil ?_
                          refine thenQ_n ?_
                          refine VC.sub [(0, _), (4, _), (5, _), (7, _), (10, _), (11, _), (12, _), (13, _), (102, _)] (.cons rfl (.cons rfl (.cons rfl (.cons rfl (.cons rfl (.cons rfl (.cons rfl (.cons rfl (.cons rfl .nil))))))))) ?_
                          refine VC.meet (σ := Int × Nat × Nat × Nat) (fun s => [(0, .pointer (some ⟨gx, 0, none⟩)), (4, .int .i64 ((257 + v1 : Nat) : Int)), (5, .int .i64 ((1 + v2 : Nat) : Int)), (7, .slice (some ⟨g6, 0, none⟩) 19 19), (10, .slice Al all.length cl), (11, .int .i64 ((s1 : Nat) : Int)), (12, .int .i64 s.1), (13, .int .i64 ((s.2.1 : Nat) : Int))]) (fun s wr => IsY wr gx Ab cb L s.2.2.1 A c out most s.2.2.2 ∧ Frm [gx] w14 wr ∧ ((s1 = 16 ∨ s1 = 17) → Stg F s.2.2.2 ((moreK L l9 (257 + v1 + (1 + v2)) f all (dynH (257 + v1)) K) (s.2.2.1, s.1, s.2.1))) ∧ ((s1 ≠ 16 ∧ s1 ≠ 17) → s.2.2.1 = p1 ∧ s.2.2.2 = 0 ∧ s.1 = (s1 : Int) ∧ s.2.1 = 1) ∧ s.2.1 ≤ 200 ∧ 0 ≤ s.1 ∧ p1 ≤ s.2.2.1) ?_ ?_
                          · skip
                            refine VC.condD rfl (fun hc8 => ?_) (fun hc8 => ?_)
                            · skip
                              obtain ⟨h1, rfl, rfl, rfl⟩ := hB16 (by omega)
                              have h1 := h1.symm
                              subst h1
                              rw [moreS17 hc8] at hF2
                              refine VC.seq ?_
                              refine VC.region ?_
                              refine Ops.r (v := .int .i64 ((0 : Nat) : Int)) (Run.asg rfl) rfl ?_
                              refine Ops.nil ?_
                              refine thenQ_n ?_
                              refine VC.sub [(0, _), (4, _), (5, _), (7, _), (10, _), (11, _), (12, _)] (.cons rfl (.cons rfl (.cons rfl (.cons rfl (.cons rfl (.cons rfl (.cons rfl .nil))))))) ?_
                              refine VC.region ?_
                              refine Ops.r (Run.mv rfl) rfl ?_
                              refine Ops.cl (Enters.fn (evs.cons rfl (evs.cons rfl evs.nil)) Try.call27) (rnum_spec gx Ab cb L p1 A c out most 0 3 _ (by omega) hX16) rfl ?_
                              rintro r w17 ⟨v17, p17, e17, rfl, hX17, hf17, hN17⟩
                              refine ⟨_, rfl, ?_⟩
                              obtain ⟨hv17, hp17⟩ := hN17.lt
                              have hfr17 : Frm [gx] w14 w17 := hf16.trans hf17 (fun x hx => .inl hx)
                              have hF17 := Stg.num (hF2) hN17
                              try dsimp only at hF17
                              refine Ops.r (Run.bin rfl rfl (Bin.add_i64 3 _ (by omega))) rfl ?_
                              refine Ops.r (Run.asg rfl) rfl ?_
                              refine Ops.nil ?_
                              refine thenQ_n ⟨(0, 3 + v17, p17, e17), (.cons rfl (.cons rfl (.cons rfl (.cons rfl (.cons rfl (.cons rfl (.cons rfl (.cons rfl .nil)))))))), ?_⟩
                              exact ⟨hX17, hfr17, fun _ => hF17, fun h => absurd hc8 h.2, by dsimp only; omega, by dsimp only; omega, hp17⟩
                            · skip
                              refine VC.skip ?_
                              refine thenQ_n ⟨(n7, t7, p7, e7), (.cons rfl (.cons rfl (.cons rfl (.cons rfl (.cons rfl (.cons rfl (.cons rfl (.cons rfl .nil)))))))), ?_⟩
                              exact ⟨hX16, hf16, fun h => h.elim hA16 (fun h => absurd h hc8), fun h => hB16 h.1, ht16, hn7, hp16⟩
                          · skip
                            clear hX16 hf16 hA16 hB16 ht16 hn7 hp16
                            rintro ⟨n8, t8, p8, e8⟩ w18 ⟨hX18, hf18, hA18, hB18, ht18, hn8, hp18⟩ Γ hΓ
                            dsimp only at hX18 hf18 hA18 hB18 ht18 hn8 hp18 hΓ
                            refine thenQ_n (VC.sub _ hΓ ?_)
                            refine VC.seq ?_
                            refine VC.seq ?_
                            refine VC.region ?_
                            refine Ops.r (Run.mv rfl) rfl ?_
                            refine Ops.r (Run.bin rfl rfl (Bin.eqlN _ 18)) rfl ?_
                            refine Ops.nil ?_
                            refine thenQ_n ?_
                            refine VC.sub [(0, _), (4, _), (5, _), (7, _), (10, _), (12, _), (13, _), (107, _)] (.cons rfl (.cons rfl (.cons rfl (.cons rfl (.cons rfl (.cons rfl (.cons rfl (.cons rfl .nil)))))))) ?_
                            refine VC.meet (σ := Int × Nat × Nat × Nat) (fun s => [(0, .pointer (some ⟨gx, 0, none⟩)), (4, .int .i64 ((257 + v1 : Nat) : Int)), (5, .int .i64 ((1 + v2 : Nat) : Int)), (7, .slice (some ⟨g6, 0, none⟩) 19 19), (10, .slice Al all.length cl), (12, .int .i64 s.1), (13, .int .i64 ((s.2.1 : Nat) : Int))]) (fun s wr => IsY wr gx Ab cb L s.2.2.1 A c out most s.2.2.2 ∧ Frm [gx] w14 wr ∧ Stg F s.2.2.2 ((moreK L l9 (257 + v1 + (1 + v2)) f all (dynH (257 + v1)) K) (s.2.2.1, s.1, s.2.1)) ∧ s.2.1 ≤ 200 ∧ 0 ≤ s.1 ∧ p1 ≤ s.2.2.1) ?_ ?_
                            · skip
                              refine VC.condD rfl (fun hc9 => ?_) (fun hc9 => ?_)
                              · skip
                                obtain ⟨h1, rfl, rfl, rfl⟩ := hB18 (by omega)
                                have h1 := h1.symm
                                subst h1
                                rw [moreS18 hc9] at hF2
                                refine VC.seq ?_
                                refine VC.region ?_
                                refine Ops.r (v := .int .i64 ((0 : Nat) : Int)) (Run.asg rfl) rfl ?_
                                refine Ops.nil ?_
                                refine thenQ_n ?_
                                refine VC.sub [(0, _), (4, _), (5, _), (7, _), (10, _), (12, _)] (.cons rfl (.cons rfl (.cons rfl (.cons rfl (.cons rfl (.cons rfl .nil)))))) ?_
                                refine VC.region ?_
                                refine Ops.r (Run.mv rfl) rfl ?_
                                refine Ops.cl (Enters.fn (evs.cons rfl (evs.cons rfl evs.nil)) Try.call27) (rnum_spec gx Ab cb L p1 A c out most 0 7 _ (by omega) hX18) rfl ?_
                                rintro r w19 ⟨v19, p19, e19, rfl, hX19, hf19, hN19⟩
                                refine ⟨_, rfl, ?_⟩
                                obtain ⟨hv19, hp19⟩ := hN19.lt
                                have hfr19 : Frm [gx] w14 w19 := hf18.trans hf19 (fun x hx => .inl hx)
                                have hF19 := Stg.num (hF2) hN19
                                try dsimp only at hF19
                                refine Ops.r (Run.bin rfl rfl (Bin.add_i64 11 _ (by omega))) rfl ?_
                                refine Ops.r (Run.asg rfl) rfl ?_
                                refine Ops.nil ?_
                                refine thenQ_n ⟨(0, 11 + v19, p19, e19), (.cons rfl (.cons rfl (.cons rfl (.cons rfl (.cons rfl (.cons rfl (.cons rfl .nil))))))), ?_⟩
                                exact ⟨hX19, hfr19, hF19, by dsimp only; omega, by dsimp only; omega, hp19⟩
                              · skip
                                refine VC.skip ?_
                                refine thenQ_n ⟨(n8, t8, p8, e8), (.cons rfl (.cons rfl (.cons rfl (.cons rfl (.cons rfl (.cons rfl (.cons rfl .nil))))))), ?_⟩
                                refine ⟨hX18, hf18, ?_, ht18, hn8, hp18⟩
                                by_cases h : s1 = 16 ∨ s1 = 17
                                · exact hA18 h
                                · obtain ⟨h1, rfl, rfl, rfl⟩ := hB18 ⟨fun h2 => h (.inl h2), fun h2 => h (.inr h2)⟩
                                  rw [moreS0 (fun h2 => h (.inl h2)) (fun h2 => h (.inr h2)) hc9] at hF2
                                  have h1 := h1.symm
                                  subst h1
                                  exact hF2
                            · skip
                              clear hX18 hf18 hA18 hB18 ht18 hn8 hp18
                              rintro ⟨n9, t9, p9, e9⟩ w20 ⟨hX20, hf20, hF20, ht20, hn9, hp20⟩ Γ hΓ
                              dsimp only at hX20 hf20 hF20 ht20 hn9 hp20 hΓ
                              have hF21 := hF20.moreK
                              try dsimp only at hF21
                              clear hF2 hF20
                              refine thenQ_n (VC.sub _ hΓ ?_)
                              refine VC.seq ?_
                              refine VC.seq ?_
                              refine VC.region ?_
                              refine Ops.r (Run.mv rfl) rfl ?_
                              refine Ops.r (Run.lenS rfl Try.underlying37) rfl ?_
                              refine Ops.r (Run.mv rfl) rfl ?_
                              refine Ops.r (Run.bin rfl rfl (Bin.add_i64 _ _ (by omega))) rfl ?_
                              refine Ops.r (Run.mv rfl) rfl ?_
                              refine Ops.r (Run.mv rfl) rfl ?_
                              refine Ops.r (Run.bin rfl rfl (Bin.add_i64 _ _ (by omega))) rfl ?_
                              refine Ops.r (Run.bin rfl rfl (Bin.gtrN _ _)) rfl ?_
                              refine Ops.nil ?_
                              refine thenQ_n ?_
                              refine VC.sub [(0, _), (4, _), (5, _), (7, _), (10, _), (12, _), (13, _), (118, _)] (.cons rfl (.cons rfl (.cons rfl (.cons rfl (.cons rfl (.cons rfl (.cons rfl (.cons rfl .nil)))))))) ?_
                              refine VC.meet (σ := Nat) (fun s => [(0, .pointer (some ⟨gx, 0, none⟩)), (4, .int .i64 ((257 + v1 : Nat) : Int)), (5, .int .i64 ((1 + v2 : Nat) : Int)), (7, .slice (some ⟨g6, 0, none⟩) 19 19), (10, .slice Al all.length cl), (12, .int .i64 n9), (13, .int .i64 ((t9 : Nat) : Int))]) (fun s wr => IsY wr gx Ab cb L p9 A c out most s ∧ Frm [gx] w20 wr ∧ s = if e9 = 0 ∧ 257 + v1 + (1 + v2) < all.length + t9 then 11 else e9) ?_ ?_
                              · skip
                                refine VC.condD rfl (fun hc10 => ?_) (fun hc10 => ?_)
                                · skip
                                  refine VC.region ?_
                                  refine Ops.r (Run.mv rfl) rfl ?_
                                  refine Ops.cl (Enters.fn (evs.cons rfl (evs.cons rfl evs.nil)) Try.call28) (rfail_spec gx Ab cb L p9 A c out most e9 11 _ hX20) rfl ?_
                                  rintro r w21 ⟨rfl, hX21, hf21⟩
                                  refine ⟨_, rfl, ?_⟩
                                  refine Ops.nil ?_
                                  refine thenQ_n ⟨(if e9 = 0 then 11 else e9), (.cons rfl (.cons rfl (.cons rfl (.cons rfl (.cons rfl (.cons rfl (.cons rfl .nil))))))), ?_⟩
                                  exact ⟨hX21, hf21, by grind⟩
                                · skip
                                  refine VC.skip ?_
                                  refine thenQ_n ⟨e9, (.cons rfl (.cons rfl (.cons rfl (.cons rfl (.cons rfl (.cons rfl (.cons rfl .nil))))))), ?_⟩
                                  exact ⟨hX20, Frm.refl _ _, by grind⟩
                              · skip
                                rintro e21 w22 ⟨hX22, hf22, he21⟩ Γ hΓ
                                rw [← he21] at hF21
                                have hl22 := (hl14.frm hf20 (by simp [ob]; omega)).frm hf22 (by simp [ob]; omega)
                                have hal22 := (hal14.frm hf20 hgxl).frm hf22 hgxl
                                have hfr22 := (hfr14.trans hf20 (fun x hx => .inl hx)).trans hf22 (fun x hx => .inl hx)
                                have hle21 : e21 = 0 → all.length + t9 ≤ 257 + v1 + (1 + v2) := by grind
                                clear he21 hX20 hf20 hf22
                                refine thenQ_n (VC.sub _ hΓ ?_)
                                refine VC.seq ?_
                                refine VC.region ?_
                                refine Ops.r (v := .int .i64 ((0 : Nat) : Int)) (Run.asg rfl) rfl ?_
                                refine Ops.nil ?_
                                refine thenQ_n ?_
                                refine VC.block ?_
                                refine VC.loop (σ := Nat × Option Addr × Nat) (fun s => [(0, .pointer (some ⟨gx, 0, none⟩)), (4, .int .i64 ((257 + v1 : Nat) : Int)), (5, .int .i64 ((1 + v2 : Nat) : Int)), (7, .slice (some ⟨g6, 0, none⟩) 19 19), (10, .slice s.2.1 (all.length + s.1) s.2.2), (12, .int .i64 n9), (13, .int .i64 ((t9 : Nat) : Int)), (14, .int .i64 ((s.1 : Nat) : Int))]) (fun s wr => s.1 ≤ t9 ∧ IsY wr gx Ab cb L p9 A c out most e21 ∧ Own wr 3 1 (some ⟨g6, 0, none⟩) 19 19 (IB l9) ∧ Own wr 3 1 s.2.1 (all.length + s.1) s.2.2 (IB (all ++ List.replicate s.1 n9)) ∧ Frm [gx] w wr ∧ ∀ y ∈ ob s.2.1, w.heap.size ≤ y ∧ y ≠ g6) (fun s => t9 - s.1) (0, Al, cl) (.cons rfl (.cons rfl (.cons rfl (.cons rfl (.cons rfl (.cons rfl (.cons rfl (.cons rfl .nil)))))))) ⟨by omega, hX22, hl22, by simpa using hal22, hfr22, hu⟩ ?_
                                clear hX22 hl22 hal22 hfr22
                                rintro ⟨i, A3, c3⟩ w23 ⟨hi3, hX23, hl23, hal23, hfr23, hu3⟩
                                dsimp only at hi3 hX23 hl23 hal23 hfr23 hu3 ⊢
                                have hs23 := hfr23.size
                                refine VC.seq ?_
                                refine VC.seq ?_
                                refine VC.region ?_
                                refine Ops.r (Run.mv rfl) rfl ?_
                                refine Ops.r (Run.mv rfl) rfl ?_
                                refine Ops.r (Run.bin rfl rfl (Bin.lssN _ _)) rfl ?_
                                refine Ops.nil ?_
                                refine thenQ_n ?_
                                refine VC.sub [(0, _), (4, _), (5, _), (7, _), (10, _), (12, _), (13, _), (14, _), (123, _)] (.cons rfl (.cons rfl (.cons rfl (.cons rfl (.cons rfl (.cons rfl (.cons rfl (.cons rfl (.cons rfl .nil))))))))) ?_
                                refine VC.condD rfl (fun hc11 => ?_) (fun hc11 => ?_)
                                · skip
                                  refine VC.skip ?_
                                  refine thenQ_n ?_
                                  refine VC.sub [(0, _), (4, _), (5, _), (7, _), (10, _), (12, _), (13, _), (14, _)] (.cons rfl (.cons rfl (.cons rfl (.cons rfl (.cons rfl (.cons rfl (.cons rfl (.cons rfl .nil)))))))) ?_
                                  refine VC.seq ?_
                                  refine VC.block ?_
                                  refine VC.region ?_
                                  refine Ops.r (Run.mv rfl) rfl ?_
                                  refine Ops.r (Run.mv rfl) rfl ?_
                                  refine Ops.m (Does.buildS1 rfl Try.underlying37 Try.sizeOf3 zero3 (by decide) (by decide) rfl rfl) rfl ?_
                                  rintro _ w24 ⟨rfl, hF24⟩
                                  have hrd24 : Rd w24 1 (some ⟨_, 0, none⟩) 1 (IB [n9]) := Rd.of_blk (n := 1) (size := 1) hF24.blk rfl
                                  have hX24 := hX23.frm0 hF24.frm
                                  have hl24 := hl23.frm hF24.frm (by simp)
                                  have hal24 := hal23.frm hF24.frm (by simp)
                                  have hs24 := hF24.frm.size
                                  refine Ops.m (Does.app rfl rfl Try.underlying37 (info3) rfl (by decide) hal24 hrd24 (IB_one _) (by omega) (by omega)) rfl ?_
                                  rintro _ w25 ⟨B25, c25, rfl, ho25, hf25, hob25⟩
                                  have hdj : ∀ x ∈ gx :: (ob Ab ++ ob A), x ∉ ob A3 := fun x hx h => by
                                    rcases List.mem_cons.1 hx with h2 | hx
                                    · exact hal24.ne_blk hX24.1 (by decide) (h2 ▸ h)
                                    rcases List.mem_append.1 hx with hx | hx
                                    · exact hX24.2.1.ne_own hal24 (by decide) x hx h
                                    · exact hX24.2.2.1.ne_own hal24 (by decide) x hx h
                                  have hlg := hl24.lt g6 (by simp [ob])
                                  have hu25 : ∀ y ∈ ob B25, w.heap.size ≤ y ∧ y ≠ g6 := fun y hy => by
                                    rcases hob25 with h | h
                                    · exact hu3 y (h ▸ hy)
                                    · rw [h, List.mem_singleton] at hy
                                      exact ⟨by omega, by omega⟩
                                  refine Ops.r (Run.asg rfl) rfl ?_
                                  refine Ops.nil ?_
                                  refine blockQ_n (thenQ_n ?_)
                                  refine VC.sub [(0, _), (4, _), (5, _), (7, _), (10, _), (12, _), (13, _), (14, _)] (.cons rfl (.cons rfl (.cons rfl (.cons rfl (.cons rfl (.cons rfl (.cons rfl (.cons rfl .nil)))))))) ?_
                                  refine VC.region ?_
                                  refine Ops.r (Run.mv rfl) rfl ?_
                                  refine Ops.r (Run.bin rfl rfl (Bin.add_i64 _ 1 (by omega))) rfl ?_
                                  refine Ops.r (Run.asg rfl) rfl ?_
                                  refine Ops.nil ?_
                                  refine thenQ_n ⟨(i + 1, B25, c25), (.cons rfl (.cons rfl (.cons rfl (.cons rfl (.cons rfl (.cons rfl (.cons rfl (.cons rfl .nil)))))))), ?_, ?_⟩
                                  · skip
                                    refine ⟨hc11, hX24.frm hf25 hdj, hl24.frm hf25 (fun x hx h => (hu3 x h).2 (by simpa [ob] using hx)), ?_, (hfr23.trans hF24.frm (by simp)).trans hf25 (fun x hx => .inr (hu3 x hx).1), hu25⟩
                                    dsimp only
                                    rw [List.replicate_succ', ← List.append_assoc, IB_snoc]
                                    exact ho25
                                  · skip
                                    dsimp only; omega
                                · skip
                                  have hit : t9 = i := by omega
                                  subst hit
                                  have hlen3 : all.length + t9 = (all ++ List.replicate t9 n9).length := by simp
                                  rw [hlen3] at hal23 hle21 ⊢
                                  refine VC.exit ?_
                                  refine thenQ_x (thenQ_x (blockQ_x ?_))
                                  refine blockQ_n (thenQ_n ⟨(f, p9, all ++ List.replicate t9 n9, A3, c3, e21), (.cons rfl (.cons rfl (.cons rfl (.cons rfl (.cons rfl .nil))))), ?_, ?_⟩)
                                  · skip
                                    exact ⟨fun h => ⟨by dsimp only; omega, hle21 h⟩, by dsimp only; omega, fun x hx => (List.mem_append.1 hx).elim (hall0 x) (fun h => by rw [(List.mem_replicate.1 h).2]; exact hn9), hX23, hl23, hal23, hfr23, hu3, hF21, fun _ => hnl⟩
                                  · skip
                                    dsimp only; rw [if_pos rfl]; split <;> omega
                · skip
                  refine VC.exit ?_
                  refine thenQ_x (thenQ_x (blockQ_x ?_))
                  refine thenQ_n ⟨(q, e0, all, Al, cl), (.cons rfl (.cons rfl (.cons rfl .nil))), ?_⟩
                  by_cases he : e0 = 0
                  · subst he
                    obtain ⟨h1, h2⟩ := hfq rfl
                    have hpq := hX.2.2.2.1
                    obtain ⟨f, rfl⟩ : ∃ f', f = f' + 1 := ⟨f - 1, by omega⟩
                    have h3 : ¬ all.length < 257 + v1 + (1 + v2) := fun h => hc4 ⟨rfl, h⟩
                    exact ⟨hX, hal, hfr, hF.moresEnd h3, fun _ => by dsimp only; omega, hall0, hle⟩
                  · exact ⟨hX, hal, hfr, hF.left he, fun h => absurd h he, hall0, hle⟩
            · skip
              rintro ⟨p30, e30, all, Al, cl⟩ w30 ⟨hX, hal, hfr, hF, hlen, hall0, hle⟩ Γ hΓ
              dsimp only at hX hal hfr hF hlen hall0 hle hΓ
              rw [dynH_or _ _ _ hall0, bnd_if] at hF
              have hF31 := Stg.fail hF (by decide)
              try dsimp only at hF31
              have hcap := hal.le
              refine thenQ_n (VC.sub _ hΓ ?_)
              refine VC.seq ?_
              refine VC.seq ?_
              refine VC.splitR [(0, .pointer (some ⟨gx, 0, none⟩)), (4, .int .i64 ((257 + v1 : Nat) : Int)), (10, .slice Al all.length cl)] (fun w1 => Frm [] w30 w1) 154 (.bool (decide (e30 = 0 ∧ (all.getD 256 0 = 0 ∨ newE (all.take (257 + v1)) ≠ 0 ∨ newE (all.drop (257 + v1)) ≠ 0)))) ?_ ?_
              · refine VC.region ?_
                refine Ops.r (Run.mv rfl) rfl ?_
                refine Ops.r (Run.nilck rfl) rfl ?_
                refine Ops.r (Run.fieldAddr rfl Try.underlying56 rfl Try.sizeOf3 (by decide)) rfl ?_
                refine Ops.r (Run.load rfl Try.isAgg3 (hX.1.cell 4)) rfl ?_
                refine Ops.r (Run.bin rfl rfl (Bin.eqlN _ 0)) rfl ?_
                by_cases hs134 : e30 = 0
                · skip
                  have hM := hlen hs134
                  obtain ⟨ad, hAd, hck⟩ := ib_at hal.rd rfl (k := 256) (by omega)
                  subst hAd
                  refine Ops.r (Run.mv rfl) rfl ?_
                  refine Ops.rg rfl (by first | rfl | assumption | exact decide_eq_true (by assumption) | exact decide_eq_false (by assumption) | decide | (simp; done) | (simp; omega) | (simp [*]; done)) (Run.mv rfl) rfl ?_
                  refine Ops.rg rfl (by first | rfl | assumption | exact decide_eq_true (by assumption) | exact decide_eq_false (by assumption) | decide | (simp; done) | (simp; omega) | (simp [*]; done)) (Run.index1 256 rfl rfl Try.underlying37 Try.sizeOf3 (by omega)) rfl ?_
                  refine Ops.rg rfl (by first | rfl | assumption | exact decide_eq_true (by assumption) | exact decide_eq_false (by assumption) | decide | (simp; done) | (simp; omega) | (simp [*]; done)) (Run.load rfl Try.isAgg3 hck) rfl ?_
                  refine Ops.rg rfl (by first | rfl | assumption | exact decide_eq_true (by assumption) | exact decide_eq_false (by assumption) | decide | (simp; done) | (simp; omega) | (simp [*]; done)) (Run.bin rfl rfl (Bin.eql _ 0)) rfl ?_
                  by_cases hs139 : all.getD 256 0 = 0
                  · skip
                    refine Ops.rg rfl (by first | rfl | assumption | exact decide_eq_true (by assumption) | exact decide_eq_false (by assumption) | decide | (simp; done) | (simp; omega) | (simp [*]; done)) (Run.mv rfl) rfl ?_
                    refine Ops.sk rfl (by first | rfl | assumption | exact decide_eq_true (by assumption) | exact decide_eq_false (by assumption) | decide | (simp; done) | (simp; omega) | (simp [*]; done)) rfl ?_
                    refine Ops.sk rfl (by first | rfl | assumption | exact decide_eq_true (by assumption) | exact decide_eq_false (by assumption) | decide | (simp; done) | (simp; omega) | (simp [*]; done)) rfl ?_
                    refine Ops.sk rfl (by first | rfl | assumption | exact decide_eq_true (by assumption) | exact decide_eq_false (by assumption) | decide | (simp; done) | (simp; omega) | (simp [*]; done)) rfl ?_
                    refine Ops.sk rfl (by first | rfl | assumption | exact decide_eq_true (by assumption) | exact decide_eq_false (by assumption) | decide | (simp; done) | (simp; omega) | (simp [*]; done)) rfl ?_
                    refine Ops.sk rfl (by first | rfl | assumption | exact decide_eq_true (by assumption) | exact decide_eq_false (by assumption) | decide | (simp; done) | (simp; omega) | (simp [*]; done)) rfl ?_
                    refine Ops.rg rfl (by first | rfl | assumption | exact decide_eq_true (by assumption) | exact decide_eq_false (by assumption) | decide | (simp; done) | (simp; omega) | (simp [*]; done)) (Run.pickT rfl rfl (by first | rfl | assumption | exact decide_eq_true (by assumption) | exact decide_eq_false (by assumption) | decide | (simp; done) | (simp; omega) | (simp [*]; done))) rfl ?_
                    refine Ops.rg rfl (by first | rfl | assumption | exact decide_eq_true (by assumption) | exact decide_eq_false (by assumption) | decide | (simp; done) | (simp; omega) | (simp [*]; done)) (Run.mv rfl) rfl ?_
                    refine Ops.sk rfl (by first | rfl | assumption | exact decide_eq_true (by assumption) | exact decide_eq_false (by assumption) | decide | (simp; done) | (simp; omega) | (simp [*]; done)) rfl ?_
                    refine Ops.sk rfl (by first | rfl | assumption | exact decide_eq_true (by assumption) | exact decide_eq_false (by assumption) | decide | (simp; done) | (simp; omega) | (simp [*]; done)) rfl ?_
                    refine Ops.sk rfl (by first | rfl | assumption | exact decide_eq_true (by assumption) | exact decide_eq_false (by assumption) | decide | (simp; done) | (simp; omega) | (simp [*]; done)) rfl ?_
                    refine Ops.sk rfl (by first | rfl | assumption | exact decide_eq_true (by assumption) | exact decide_eq_false (by assumption) | decide | (simp; done) | (simp; omega) | (simp [*]; done)) rfl ?_
                    refine Ops.sk rfl (by first | rfl | assumption | exact decide_eq_true (by assumption) | exact decide_eq_false (by assumption) | decide | (simp; done) | (simp; omega) | (simp [*]; done)) rfl ?_
                    refine Ops.rg rfl (by first | rfl | assumption | exact decide_eq_true (by assumption) | exact decide_eq_false (by assumption) | decide | (simp; done) | (simp; omega) | (simp [*]; done)) (Run.pickT rfl rfl (by first | rfl | assumption | exact decide_eq_true (by assumption) | exact decide_eq_false (by assumption) | decide | (simp; done) | (simp; omega) | (simp [*]; done))) rfl ?_
                    refine Ops.r (Run.pickT rfl rfl (by first | rfl | assumption | exact decide_eq_true (by assumption) | exact decide_eq_false (by assumption) | decide | (simp; done) | (simp; omega) | (simp [*]; done))) rfl ?_
                    refine Ops.nil ?_
                    refine thenQ_n ⟨(.cons (congrArg (fun b => some (Value.bool b)) (by grind)) (.cons rfl (.cons rfl (.cons rfl .nil)))), (by first | exact hf31.trans hf32 (by simp) | exact hf31 | exact Frm.refl _ _)⟩
                  · skip
                    refine Ops.rg rfl (by first | rfl | assumption | exact decide_eq_true (by assumption) | exact decide_eq_false (by assumption) | decide | (simp; done) | (simp; omega) | (simp [*]; done)) (Run.mv rfl) rfl ?_
                    refine Ops.rg rfl (by first | rfl | assumption | exact decide_eq_true (by assumption) | exact decide_eq_false (by assumption) | decide | (simp; done) | (simp; omega) | (simp [*]; done)) (Run.mv rfl) rfl ?_
                    refine Ops.rg rfl (by first | rfl | assumption | exact decide_eq_true (by assumption) | exact decide_eq_false (by assumption) | decide | (simp; done) | (simp; omega) | (simp [*]; done)) (Run.mv rfl) rfl ?_
                    refine Ops.rg rfl (by first | rfl | assumption | exact decide_eq_true (by assumption) | exact decide_eq_false (by assumption) | decide | (simp; done) | (simp; omega) | (simp [*]; done)) (Run.sliceS 0 _ rfl Try.underlying37 Try.sizeOf3 evB.none_ (evB.some_ rfl) (by omega) (by omega)) rfl ?_
                    refine Ops.clg rfl (by first | rfl | assumption | exact decide_eq_true (by assumption) | exact decide_eq_false (by assumption) | decide | (simp; done) | (simp; omega) | (simp [*]; done)) (Enters.fn (evs.cons rfl evs.nil) Try.call44) (refNew_at _ _ (all.take (257 + v1)) (257 + v1 - 0) _ (by simp; omega) (by omega) (IB_cutL hal.rd (257 + v1) (by omega) hcap)) rfl ?_
                    rintro r w31 ⟨rfl, hf31⟩
                    refine ⟨_, rfl, ?_⟩
                    refine Ops.rg rfl (by first | rfl | assumption | exact decide_eq_true (by assumption) | exact decide_eq_false (by assumption) | decide | (simp; done) | (simp; omega) | (simp [*]; done)) (Run.bin rfl rfl (Bin.neqN _ 0)) rfl ?_
                    by_cases hs145 : newE (all.take (257 + v1)) ≠ 0
                    · skip
                      refine Ops.rg rfl (by first | rfl | assumption | exact decide_eq_true (by assumption) | exact decide_eq_false (by assumption) | decide | (simp; done) | (simp; omega) | (simp [*]; done)) (Run.pickF rfl rfl (by first | rfl | assumption | exact decide_eq_true (by assumption) | exact decide_eq_false (by assumption) | decide | (simp; done) | (simp; omega) | (simp [*]; done))) rfl ?_
                      refine Ops.rg rfl (by first | rfl | assumption | exact decide_eq_true (by assumption) | exact decide_eq_false (by assumption) | decide | (simp; done) | (simp; omega) | (simp [*]; done)) (Run.mv rfl) rfl ?_
                      refine Ops.sk rfl (by first | rfl | assumption | exact decide_eq_true (by assumption) | exact decide_eq_false (by assumption) | decide | (simp; done) | (simp; omega) | (simp [*]; done)) rfl ?_
                      refine Ops.sk rfl (by first | rfl | assumption | exact decide_eq_true (by assumption) | exact decide_eq_false (by assumption) | decide | (simp; done) | (simp; omega) | (simp [*]; done)) rfl ?_
                      refine Ops.sk rfl (by first | rfl | assumption | exact decide_eq_true (by assumption) | exact decide_eq_false (by assumption) | decide | (simp; done) | (simp; omega) | (simp [*]; done)) rfl ?_
                      refine Ops.sk rfl (by first | rfl | assumption | exact decide_eq_true (by assumption) | exact decide_eq_false (by assumption) | decide | (simp; done) | (simp; omega) | (simp [*]; done)) rfl ?_
                      refine Ops.sk rfl (by first | rfl | assumption | exact decide_eq_true (by assumption) | exact decide_eq_false (by assumption) | decide | (simp; done) | (simp; omega) | (simp [*]; done)) rfl ?_
                      refine Ops.rg rfl (by first | rfl | assumption | exact decide_eq_true (by assumption) | exact decide_eq_false (by assumption) | decide | (simp; done) | (simp; omega) | (simp [*]; done)) (Run.pickT rfl rfl (by first | rfl | assumption | exact decide_eq_true (by assumption) | exact decide_eq_false (by assumption) | decide | (simp; done) | (simp; omega) | (simp [*]; done))) rfl ?_
                      refine Ops.r (Run.pickT rfl rfl (by first | rfl | assumption | exact decide_eq_true (by assumption) | exact decide_eq_false (by assumption) | decide | (simp; done) | (simp; omega) | (simp [*]; done))) rfl ?_
                      refine Ops.nil ?_
                      refine thenQ_n ⟨(.cons (congrArg (fun b => some (Value.bool b)) (by grind)) (.cons rfl (.cons rfl (.cons rfl .nil)))), (by first | exact hf31.trans hf32 (by simp) | exact hf31 | exact Frm.refl _ _)⟩
                    · skip
                      refine Ops.rg rfl (by first | rfl | assumption | exact decide_eq_true (by assumption) | exact decide_eq_false (by assumption) | decide | (simp; done) | (simp; omega) | (simp [*]; done)) (Run.pickF rfl rfl (by first | rfl | assumption | exact decide_eq_true (by assumption) | exact decide_eq_false (by assumption) | decide | (simp; done) | (simp; omega) | (simp [*]; done))) rfl ?_
                      refine Ops.rg rfl (by first | rfl | assumption | exact decide_eq_true (by assumption) | exact decide_eq_false (by assumption) | decide | (simp; done) | (simp; omega) | (simp [*]; done)) (Run.mv rfl) rfl ?_
                      refine Ops.rg rfl (by first | rfl | assumption | exact decide_eq_true (by assumption) | exact decide_eq_false (by assumption) | decide | (simp; done) | (simp; omega) | (simp [*]; done)) (Run.mv rfl) rfl ?_
                      refine Ops.rg rfl (by first | rfl | assumption | exact decide_eq_true (by assumption) | exact decide_eq_false (by assumption) | decide | (simp; done) | (simp; omega) | (simp [*]; done)) (Run.mv rfl) rfl ?_
                      refine Ops.rg rfl (by first | rfl | assumption | exact decide_eq_true (by assumption) | exact decide_eq_false (by assumption) | decide | (simp; done) | (simp; omega) | (simp [*]; done)) (Run.sliceS _ _ rfl Try.underlying37 Try.sizeOf3 (evB.some_ rfl) evB.none_ (by omega) (by omega)) rfl ?_
                      refine Ops.clg rfl (by first | rfl | assumption | exact decide_eq_true (by assumption) | exact decide_eq_false (by assumption) | decide | (simp; done) | (simp; omega) | (simp [*]; done)) (Enters.fn (evs.cons rfl evs.nil) Try.call44) (refNew_at _ _ (all.drop (257 + v1)) (all.length - (257 + v1)) _ (by simp) (by omega) ((IB_cutD hal.rd (257 + v1) (by omega) hcap).frm hf31 (by simp))) rfl ?_
                      rintro r w32 ⟨rfl, hf32⟩
                      refine ⟨_, rfl, ?_⟩
                      refine Ops.rg rfl (by first | rfl | assumption | exact decide_eq_true (by assumption) | exact decide_eq_false (by assumption) | decide | (simp; done) | (simp; omega) | (simp [*]; done)) (Run.bin rfl rfl (Bin.neqN _ 0)) rfl ?_
                      by_cases hs152 : newE (all.drop (257 + v1)) ≠ 0
                      · skip
                        refine Ops.rg rfl (by first | rfl | assumption | exact decide_eq_true (by assumption) | exact decide_eq_false (by assumption) | decide | (simp; done) | (simp; omega) | (simp [*]; done)) (Run.pickF rfl rfl (by first | rfl | assumption | exact decide_eq_true (by assumption) | exact decide_eq_false (by assumption) | decide | (simp; done) | (simp; omega) | (simp [*]; done))) rfl ?_
                        refine Ops.r (Run.pickT rfl rfl (by first | rfl | assumption | exact decide_eq_true (by assumption) | exact decide_eq_false (by assumption) | decide | (simp; done) | (simp; omega) | (simp [*]; done))) rfl ?_
                        refine Ops.nil ?_
                        refine thenQ_n ⟨(.cons (congrArg (fun b => some (Value.bool b)) (by grind)) (.cons rfl (.cons rfl (.cons rfl .nil)))), (by first | exact hf31.trans hf32 (by simp) | exact hf31 | exact Frm.refl _ _)⟩
                      · skip
                        refine Ops.rg rfl (by first | rfl | assumption | exact decide_eq_true (by assumption) | exact decide_eq_false (by assumption) | decide | (simp; done) | (simp; omega) | (simp [*]; done)) (Run.pickF rfl rfl (by first | rfl | assumption | exact decide_eq_true (by assumption) | exact decide_eq_false (by assumption) | decide | (simp; done) | (simp; omega) | (simp [*]; done))) rfl ?_
                        refine Ops.r (Run.pickT rfl rfl (by first | rfl | assumption | exact decide_eq_true (by assumption) | exact decide_eq_false (by assumption) | decide | (simp; done) | (simp; omega) | (simp [*]; done))) rfl ?_
                        refine Ops.nil ?_
                        refine thenQ_n ⟨(.cons (congrArg (fun b => some (Value.bool b)) (by grind)) (.cons rfl (.cons rfl (.cons rfl .nil)))), (by first | exact hf31.trans hf32 (by simp) | exact hf31 | exact Frm.refl _ _)⟩
                · skip
                  refine Ops.r (Run.mv rfl) rfl ?_
                  refine Ops.sk rfl (by first | rfl | assumption | exact decide_eq_true (by assumption) | exact decide_eq_false (by assumption) | decide | (simp; done) | (simp; omega) | (simp [*]; done)) rfl ?_
                  refine Ops.sk rfl (by first | rfl | assumption | exact decide_eq_true (by assumption) | exact decide_eq_false (by assumption) | decide | (simp; done) | (simp; omega) | (simp [*]; done)) rfl ?_
                  refine Ops.sk rfl (by first | rfl | assumption | exact decide_eq_true (by assumption) | exact decide_eq_false (by assumption) | decide | (simp; done) | (simp; omega) | (simp [*]; done)) rfl ?_
                  refine Ops.sk rfl (by first | rfl | assumption | exact decide_eq_true (by assumption) | exact decide_eq_false (by assumption) | decide | (simp; done) | (simp; omega) | (simp [*]; done)) rfl ?_
                  refine Ops.sk rfl (by first | rfl | assumption | exact decide_eq_true (by assumption) | exact decide_eq_false (by assumption) | decide | (simp; done) | (simp; omega) | (simp [*]; done)) rfl ?_
                  refine Ops.skU rfl rfl ?_
                  refine Ops.skU rfl rfl ?_
                  refine Ops.skU rfl rfl ?_
                  refine Ops.skU rfl rfl ?_
                  refine Ops.skU rfl rfl ?_
                  refine Ops.sk rfl (by first | rfl | assumption | exact decide_eq_true (by assumption) | exact decide_eq_false (by assumption) | decide | (simp; done) | (simp; omega) | (simp [*]; done)) rfl ?_
                  refine Ops.sk rfl (by first | rfl | assumption | exact decide_eq_true (by assumption) | exact decide_eq_false (by assumption) | decide | (simp; done) | (simp; omega) | (simp [*]; done)) rfl ?_
                  refine Ops.skU rfl rfl ?_
                  refine Ops.skU rfl rfl ?_
                  refine Ops.skU rfl rfl ?_
                  refine Ops.skU rfl rfl ?_
                  refine Ops.skU rfl rfl ?_
                  refine Ops.sk rfl (by first | rfl | assumption | exact decide_eq_true (by assumption) | exact decide_eq_false (by assumption) | decide | (simp; done) | (simp; omega) | (simp [*]; done)) rfl ?_
                  refine Ops.r (Run.pickF rfl rfl (by first | rfl | assumption | exact decide_eq_true (by assumption) | exact decide_eq_false (by assumption) | decide | (simp; done) | (simp; omega) | (simp [*]; done))) rfl ?_
                  refine Ops.nil ?_
                  refine thenQ_n ⟨(.cons (congrArg (fun b => some (Value.bool b)) (by grind)) (.cons rfl (.cons rfl (.cons rfl .nil)))), (by first | exact hf31.trans hf32 (by simp) | exact hf31 | exact Frm.refl _ _)⟩
              · intro Γ w33 hΓ hf33
                refine thenQ_n (VC.sub _ hΓ ?_)
                refine VC.meet (σ := Nat) (fun s => [(0, .pointer (some ⟨gx, 0, none⟩)), (4, .int .i64 ((257 + v1 : Nat) : Int)), (10, .slice Al all.length cl)]) (fun s wr => IsY wr gx Ab cb L p30 A c out most s ∧ Frm [gx] w33 wr ∧ s = if e30 = 0 ∧ (all.getD 256 0 = 0 ∨ newE (all.take (257 + v1)) ≠ 0 ∨ newE (all.drop (257 + v1)) ≠ 0) then 11 else e30) ?_ ?_
                · skip
                  refine VC.condD rfl (fun hc12 => ?_) (fun hc12 => ?_)
                  · skip
                    refine VC.region ?_
                    refine Ops.r (Run.mv rfl) rfl ?_
                    refine Ops.cl (Enters.fn (evs.cons rfl (evs.cons rfl evs.nil)) Try.call28) (rfail_spec gx Ab cb L p30 A c out most e30 11 _ (hX.frm0 hf33)) rfl ?_
                    rintro r w34 ⟨rfl, hX34, hf34⟩
                    refine ⟨_, rfl, ?_⟩
                    refine Ops.nil ?_
                    refine thenQ_n ⟨(if e30 = 0 then 11 else e30), (.cons rfl (.cons rfl (.cons rfl .nil))), ?_⟩
                    exact ⟨hX34, hf34, by grind⟩
                  · skip
                    refine VC.skip ?_
                    refine thenQ_n ⟨e30, (.cons rfl (.cons rfl (.cons rfl .nil))), ?_⟩
                    exact ⟨hX.frm0 hf33, Frm.refl _ _, by grind⟩
                · skip
                  rintro e35 w35 ⟨hX35, hf35, he35⟩ Γ hΓ
                  rw [← he35] at hF31
                  have hgxl : ∀ x ∈ ob Al, x ∉ [gx] := fun x hx h => by
                    rw [List.mem_singleton] at h
                    exact hal.ne_blk hX.1 (by decide) (h ▸ hx)
                  have hal35 := (hal.frm hf33 (by simp)).frm hf35 hgxl
                  have hfr35 := (hfr.trans hf33 (by simp)).trans hf35 (fun x hx => .inl hx)
                  refine thenQ_n (VC.sub _ hΓ ?_)
                  refine VC.seq ?_
                  refine VC.seq ?_
                  refine VC.region ?_
                  refine Ops.r (Run.mv rfl) rfl ?_
                  refine Ops.r (Run.nilck rfl) rfl ?_
                  refine Ops.r (Run.fieldAddr rfl Try.underlying56 rfl Try.sizeOf3 (by decide)) rfl ?_
                  refine Ops.r (Run.load rfl Try.isAgg3 (hX35.1.cell 4)) rfl ?_
                  refine Ops.r (Run.bin rfl rfl (Bin.neqN _ 0)) rfl ?_
                  refine Ops.nil ?_
                  refine thenQ_n ?_
                  refine VC.sub [(4, _), (10, _), (161, _)] (.cons rfl (.cons rfl (.cons rfl .nil))) ?_
                  refine VC.condD rfl (fun hc13 => ?_) (fun hc13 => ?_)
                  · skip
                    refine VC.seq ?_
                    refine VC.region ?_
                    refine Ops.r (Run.asg rfl) rfl ?_
                    refine Ops.r (Run.asg rfl) rfl ?_
                    refine Ops.nil ?_
                    refine thenQ_n ?_
                    refine VC.sub [(2, _), (3, _)] (.cons rfl (.cons rfl .nil)) ?_
                    refine VC.ret ?_
                    refine thenQ_r (end2 rfl rfl ?_)
                    exact ⟨p30, none, 0, 0, none, 0, 0, [], [], e35, rfl, hX35, hfr35, hF31.left hc13, fun h => absurd h hc13, fun h => absurd h hc13⟩
                  · skip
                    have he350 : e35 = 0 := by simpa using hc13
                    obtain ⟨he30, hn1, hn2⟩ : e30 = 0 ∧ newE (all.take (257 + v1)) = 0 ∧ newE (all.drop (257 + v1)) = 0 := by grind
                    have hM := hlen he30
                    clear he35
                    subst he350
                    refine VC.skip ?_
                    refine thenQ_n ?_
                    refine VC.sub [(4, _), (10, _)] (.cons rfl (.cons rfl .nil)) ?_
                    refine VC.seq ?_
                    refine VC.still (by kernel_rfl) (by kernel_rfl) ?_
                    refine SOps.r (Run.mv rfl) rfl ?_
                    refine SOps.r (Run.mv rfl) rfl ?_
                    refine SOps.r (Run.sliceS 0 _ rfl Try.underlying37 Try.sizeOf3 evB.none_ (evB.some_ rfl) (by omega) (by omega)) rfl ?_
                    refine SOps.r (Run.mv rfl) rfl ?_
                    refine SOps.r (Run.mv rfl) rfl ?_
                    refine SOps.r (Run.sliceS _ _ rfl Try.underlying37 Try.sizeOf3 (evB.some_ rfl) evB.none_ (by omega) (by omega)) rfl ?_
                    refine SOps.r (Run.asg rfl) rfl ?_
                    refine SOps.r (Run.asg rfl) rfl ?_
                    refine SOps.nil ?_
                    refine thenQ_n ?_
                    refine VC.sub [(2, _), (3, _)] (.cons rfl (.cons rfl .nil)) ?_
                    refine VC.ret ?_
                    refine end2 rfl rfl ?_
                    have hd := Drawn.drew w35
                    refine ⟨p30, _, _, _, _, _, _, all.take (257 + v1), all.drop (257 + v1), 0, rfl, hX35.frm0 hd.frm, hfr35.drawn hd, hF31, fun _ => ⟨⟨by simp; omega, hn1, (IB_cutL hal35.rd (257 + v1) (by omega) hcap).drawn hd⟩, by simp, hn2, (IB_cutD hal35.rd (257 + v1) (by omega) hcap).drawn hd⟩, fun _ x hx h => ?_⟩
                    have hcut : ∀ k, ∀ x ∈ ob (cutA Al cl k 1), x ∈ ob Al := fun k x hx => by rw [ob_cutA] at hx; exact hx
                    have hxa : x ∈ ob Al := (List.mem_append.1 hx).elim (hcut _ x) (hcut _ x)
                    rcases List.mem_cons.1 h with h2 | h2
                    · exact hal35.ne_blk hX35.1 (by decide) (h2 ▸ hxa)
                    · exact hX35.2.2.1.ne_own hal35 (by decide) x h2 hxa

end Go.Proofs.Ytfjhmbgckmhdaaa
