/-
  Lemmas on the way, joined: StoZu, StoZv, StoZw, StoZx, OctP, OctW, StoBa, StoBe, StoBf, StoBb, StoBc, StoBh, StoQM, StoQT.
-/
import Derived.Test.YtgmbmfpfhcekiaaGreatPk4
set_option maxRecDepth 100000
set_option linter.unusedVariables false
set_option linter.unusedSimpArgs false
namespace Go.Proofs.YtgmbmfpfhcekiaaGreat
section
open Go.RowKit Go.Sort
theorem qJ4 {S P i k : Nat} (hi : i ≤ S) (hk : k ≤ P) : i * (P + 1) + k < (S + 1) * (P + 1) := by
 have h := zaw (P + 1) hi
 rw [Nat.succ_mul]
 omega
theorem qVq {P i k i2 k2 : Nat} (hk : k ≤ P) (hk2 : k2 ≤ P) (h : i * (P + 1) + k = i2 * (P + 1) + k2) : i = i2 ∧ k = k2 := by
 have e1 : (i * (P + 1) + k) % (P + 1) = k := by rw [zej, Nat.mul_add_mod, Nat.mod_eq_of_lt jo]
 have e2 : (i2 * (P + 1) + k2) % (P + 1) = k2 := by rw [zej, Nat.mul_add_mod, Nat.mod_eq_of_lt jo]
 have hkk : k = k2 := by rw [← e1, ← e2, h]
 subst hkk
 exact ⟨Nat.eq_of_mul_eq_mul_right (Nat.succ_pos P) (jo : i * (P + 1) = i2 * (P + 1)), rfl⟩
def ans (b : Bool) : Nat := if b then 1 else 2
def KOk (s p : Tx) (K : List Nat) : Prop := K.length = (s.length + 1) * (p.length + 1) ∧ ∀ i k, i ≤ s.length → k ≤ p.length → K.getD (i * (p.length + 1) + k) 0 = 0 ∨ K.getD (i * (p.length + 1) + k) 0 = ans (mtA s p i k)
theorem qJf {l : List Nat} {j x n : Nat} (hj : j < l.length) : (l.set j x).getD n 0 = if n = j then x else l.getD n 0 := by
 rw [zdc, zef]
 by_cases h : j = n
 · rw [if_pos h, if_pos hj, if_pos h.symm]; rfl
 rw [if_neg h, if_neg (fun e => h e.symm), zdc]
theorem KOk.set {s p : Tx} {K : List Nat} {i k : Nat} (h : KOk s p K) (hi : i ≤ s.length) (hk : k ≤ p.length) {x : Nat} (hx : x = ans (mtA s p i k)) : KOk s p (K.set (i * (p.length + 1) + k) x) := by
 have hlt := qJ4 hi hk
 refine ⟨by rw [zdf]; exact h.1, fun i2 k2 hi2 hk2 => ?_⟩
 rw [qJf (by rw [h.1]; exact hlt)]
 by_cases e : i2 * (p.length + 1) + k2 = i * (p.length + 1) + k
 ·
  obtain ⟨rfl, rfl⟩ := qVq hk2 hk e
  rw [if_pos rfl]
  exact .inr hx
 rw [if_neg e]
 exact h.2 i2 k2 hi2 hk2
theorem qXo (a : List Nat) (i x : Nat) : (NB a).set i (.int .u8 ((x : Nat) : Int)) = NB (a.set i x) := by simp [NB, zfb]
def uQ (M : Nat) : Prop := ∀ (q p : Tx) (A : Option Addr) (c N : Nat) (K : List Nat) (i k : Nat) (w : World), q.length ≤ 60 → p.length ≤ 60 → N = (q.length + 1) * (p.length + 1) → KOk q p K → Own w 5 1 A N c (NB K) → i ≤ q.length → k ≤ p.length → (q.length - i) + (p.length - k) < M →
  Calls Tryz.prog 125 #[encStr q, encStr p, .int .i64 ((i : Nat) : Int), .int .i64 ((k : Nat) : Int), .slice A N c] w fun e w' => ∃ K', e = .returned (.bool (mtA q p i k)) ∧ KOk q p K' ∧ Own w' 5 1 A N c (NB K') ∧ Frm (ob A) w w'
set_option maxHeartbeats 1000000 in
theorem zW (M : Nat) (hrec : uQ M) : uQ (M + 1) := by
 intro q p A c N K i k w hs hp hN hK ho hi hk hM
 have hlt := qJ4 hi hk
 have hmul : i * (p.length + 1) ≤ 60 * 61 := Nat.mul_le_mul jo jo
 obtain ⟨n, hn⟩ : ∃ n, n = i * (p.length + 1) + k := ⟨_, rfl⟩
 rw [← hN, ← hn] at hlt
 have hKl : K.length = N := by rw [hK.1, hN]
 obtain ⟨ad, rfl, hcell⟩ := qJe ho.rd hKl hlt
 have hKa := hK.2 i k hi hk
 rw [← hn] at hKa
 have Kf := Frm.refl (ob (some ad)) w
 have hk8 : K.getD n 0 ≤ 2 := by rcases hKa with h | h <;> rw [h]; omega; unfold ans; split <;> omega
 refine VC.calls (nt := 113) (res := #[.tmp 10]) Tryz.func125 rfl Tryz.ntmps125 Tryz.results125 rfl ?_
 refine jS (jR (ja rfl (jO (jN (jv5 0 1 2 3 4 ?_)))))
 refine jS (jR (jm rfl (jm rfl (je (Run.lenT rfl zj) (jb rfl rfl (Bin.add_i64 _ 1 jo) (jb rfl rfl (Bin.mul_i64 _ _ jo) ?_))))))
 skip
 refine jm rfl (jb rfl rfl (Bin.add_i64 _ _ jo) ?_)
 rw [← hn]
 refine ja rfl (jO (jN (jv6 0 1 2 3 4 11 ?_)))
 refine jS (jS (jR (jm rfl (jm rfl (je (Run.index1 _ rfl rfl zat zbk jo) (jl rfl zdd hcell (jb rfl rfl (Bin.gtrN _ 0) (jO (jN (jv7 0 1 2 3 4 11 24 ?_))))))))))
 refine jD rfl (fun hc1 => ?_) fun hc1 => ?_
 ·
  have hv : decide (K.getD n 0 = 1) = mtA q p i k := by
   rcases hKa with h | h
   · omega
   rw [h]
   unfold ans
   cases mtA q p i k <;> rfl
  refine jS (jR (jm rfl (jm rfl (je (Run.index1 _ rfl rfl zat zbk jo) (jl rfl zdd hcell (jb rfl rfl (Bin.eqlN _ 1) (ja rfl (jO (jN (jv1 10 ?_))))))))))
  refine jT ?_
  refine qZ (qR rfl ?_)
  exact ⟨K, by rw [hv], hK, ho, Kf⟩
 refine jQ (jN (jv6 0 1 2 3 4 11 ?_))
 refine jS (jR (ja rfl (jO (jN (jv6 0 1 2 3 4 11 ?_)))))
 refine jS (jS (jR (jm rfl (jm rfl (je (Run.lenT rfl zj) (jb rfl rfl (Bin.eqlN _ _) (jO (jN (jv7 0 1 2 3 4 11 33 ?_)))))))))
 refine VC.meet (σ := List Nat) (fun s => [(4, .slice (some ad) N c), (11, .int .i64 ((n : Nat) : Int)), (12, .bool (mtA q p i k))]) (fun s wm => KOk q p s ∧ Own wm 5 1 (some ad) N c (NB s) ∧ Frm (ob (some ad)) w wm) ?_ ?_
 ·
  refine jD rfl (fun hc2 => ?_) fun hc2 => ?_
  ·
   have hA : mtA q p i k = decide (i = q.length) := rQ hi jo
   refine jR (jm rfl (jm rfl (je (Run.lenT rfl zj) (jb rfl rfl (Bin.eqlN _ _) (ja rfl (jO ?_))))))
   refine jN ⟨K, (js3 rfl rfl (by rw [hA]; rfl)), ?_⟩
   exact ⟨hK, ho, Kf⟩
  have hk2 : k < p.length := jo
  have hww : bO p[k] ↔ (p[k].toNat = 42 ∨ p[k].toNat = 37) := Iff.rfl
  refine jS ?_
  refine VC.split1 [(0, _), (1, _), (2, _), (3, _), (4, _), (11, _)] (js6 rfl rfl rfl rfl rfl rfl) 47 (.bool (decide (bO p[k]))) ?_ ?_
  ·
   refine jR ?_
   refine jm rfl (jM ?_)
   refine je (Run.indexT _ rfl rfl zj (zb hk2)) ?_
   refine jb rfl rfl (Bin.eqlN _ 42) ?_
   by_cases hs41 : p[k].toNat = 42
   ·
    refine jM ?_
    refine jU ?_
    refine jU ?_
    refine jU ?_
    refine jU ?_
    refine je (Run.pickT rfl rfl au) (jO ?_)
    refine jN ⟨(js7 (jC (by first | (simp [hww, hs41]; done) | (simp [hww, hs41, hs46]; done))) rfl rfl rfl rfl rfl rfl), rfl⟩
   refine jM ?_
   refine jG ?_
   refine jG ?_
   refine jk (Run.indexT _ rfl rfl zj (zb hk2)) ?_
   refine jk (Run.bin rfl rfl (Bin.eqlN _ 37)) ?_
   by_cases hs46 : p[k].toNat = 37
   ·
    refine je (Run.pickF rfl rfl au) (jO ?_)
    refine jN ⟨(js7 (jC (by first | (simp [hww, hs41]; done) | (simp [hww, hs41, hs46]; done))) rfl rfl rfl rfl rfl rfl), rfl⟩
   refine je (Run.pickF rfl rfl au) (jO ?_)
   refine jN ⟨(js7 (jC (by first | (simp [hww, hs41]; done) | (simp [hww, hs41, hs46]; done))) rfl rfl rfl rfl rfl rfl), rfl⟩
  intro Γ hΓ
  refine jN (VC.sub _ hΓ ?_)
  refine jD rfl (fun hc3 => ?_) fun hc3 => ?_
  ·
   have hc3 : bO p[k] := by first | exact hc3 | exact of_decide_eq_true hc3
   have hM8 := gI (s := q) (i := i) hk2 hc3
   refine VC.splitR [(4, .slice (some ad) N c), (11, .int .i64 ((n : Nat) : Int))] (fun wz => ∃ K', KOk q p K' ∧ Own wz 5 1 (some ad) N c (NB K') ∧ Frm (ob (some ad)) w wz) 12 (.bool (decide (mtA q p i k = true))) ?_ ?_
   ·
    refine jR ?_
    refine jm rfl (jm rfl (jm rfl (jm rfl (jb rfl rfl (Bin.add_i64 _ 1 jo) (jM ?_)))))
    refine Ops.cl (jE5 Tryz.call125) (hrec q p (some ad) c N _ (i) (k + 1) _ hs hp hN hK ho jo jo jo) rfl ?_
    rintro e w1 ⟨K2, rfl, hK, ho, hfw1⟩
    have Kf := Kf.trans hfw1 (fun x hx => .inl hx)
    refine ⟨_, rfl, ?_⟩
    by_cases hs54 : mtA q p i (k + 1) = true
    ·
     refine jM ?_
     refine jU ?_
     refine jU ?_
     refine jU ?_
     refine jU ?_
     refine jU ?_
     refine Ops.skU rfl rfl ?_
     refine Ops.skU rfl rfl ?_
     refine Ops.skU rfl rfl ?_
     refine Ops.skU rfl rfl ?_
     refine Ops.skU rfl rfl ?_
     refine Ops.skU rfl rfl ?_
     refine Ops.skU rfl rfl ?_
     refine Ops.skU rfl rfl ?_
     refine Ops.skU rfl rfl ?_
     refine Ops.skU rfl rfl ?_
     refine jU ?_
     refine jU ?_
     refine Ops.skU rfl rfl ?_
     refine Ops.skU rfl rfl ?_
     refine Ops.skU rfl rfl ?_
     refine Ops.skU rfl rfl ?_
     refine Ops.skU rfl rfl ?_
     refine Ops.skU rfl rfl ?_
     refine Ops.skU rfl rfl ?_
     refine jU ?_
     refine je (Run.pickT rfl rfl au) (ja rfl (jO ?_))
     refine jN ⟨(js3 (jC (by first | (simp [hM8, hs54]; done) | (simp [hM8, hs54, hs59]; done) | (simp [hM8, hs54, hs59, hs64]; done) | (simp [hM8, hs54, hs59, hs64, hs79]; done) | (simp [hM8, hs54, hs59, hs64, hs69]; done) | (simp [hM8, hs54, hs59, hs64, hs69, hs79]; done))) rfl rfl), (⟨_, hK, ho, Kf⟩)⟩
    refine jM ?_
    refine jG ?_
    refine jG ?_
    refine jk (Run.lenT rfl zj) ?_
    refine jk (Run.bin rfl rfl (Bin.lssN _ _)) ?_
    by_cases hs59 : i < q.length
    ·
     refine jG ?_
     refine jG ?_
     refine jG ?_
     refine jk (Run.indexT _ rfl rfl zj (zb hk2)) ?_
     refine jk (Run.bin rfl rfl (Bin.eqlN _ 42)) ?_
     by_cases hs64 : p[k].toNat = 42
     ·
      refine jG ?_
      refine jU ?_
      refine jU ?_
      refine jU ?_
      refine jU ?_
      refine jk (Run.pickT rfl rfl au) ?_
      refine jk (Run.pickT rfl rfl au) ?_
      refine jG ?_
      refine jG ?_
      refine jG ?_
      refine jG ?_
      refine jk (Run.bin rfl rfl (Bin.add_i64 _ 1 jo)) ?_
      refine jG ?_
      refine jG ?_
      refine Ops.clg rfl au (jE5 Tryz.call125) (hrec q p (some ad) c N _ (i + 1) (k) _ hs hp hN hK ho jo jo jo) rfl ?_
      rintro e w2 ⟨K2, rfl, hK, ho, hfw2⟩
      have Kf := Kf.trans hfw2 (fun x hx => .inl hx)
      refine ⟨_, rfl, ?_⟩
      by_cases hs79 : mtA q p (i + 1) k = true
      ·
       refine jk (Run.pickT rfl rfl au) ?_
       refine je (Run.pickF rfl rfl au) (ja rfl (jO ?_))
       refine jN ⟨(js3 (jC (by first | (simp [hM8, hs54]; done) | (simp [hM8, hs54, hs59]; done) | (simp [hM8, hs54, hs59, hs64]; done) | (simp [hM8, hs54, hs59, hs64, hs79]; done) | (simp [hM8, hs54, hs59, hs64, hs69]; done) | (simp [hM8, hs54, hs59, hs64, hs69, hs79]; done))) rfl rfl), (⟨_, hK, ho, Kf⟩)⟩
      refine jk (Run.pickT rfl rfl au) ?_
      refine je (Run.pickF rfl rfl au) (ja rfl (jO ?_))
      refine jN ⟨(js3 (jC (by first | (simp [hM8, hs54]; done) | (simp [hM8, hs54, hs59]; done) | (simp [hM8, hs54, hs59, hs64]; done) | (simp [hM8, hs54, hs59, hs64, hs79]; done) | (simp [hM8, hs54, hs59, hs64, hs69]; done) | (simp [hM8, hs54, hs59, hs64, hs69, hs79]; done))) rfl rfl), (⟨_, hK, ho, Kf⟩)⟩
     refine jG ?_
     refine jG ?_
     refine jG ?_
     refine jk (Run.indexT _ rfl rfl zj (zb hs59)) ?_
     refine jk (Run.bin rfl rfl (Bin.neqN _ 47)) ?_
     by_cases hs69 : q[i].toNat ≠ 47
     ·
      refine jk (Run.pickF rfl rfl au) ?_
      refine jk (Run.pickT rfl rfl au) ?_
      refine jG ?_
      refine jG ?_
      refine jG ?_
      refine jG ?_
      refine jk (Run.bin rfl rfl (Bin.add_i64 _ 1 jo)) ?_
      refine jG ?_
      refine jG ?_
      refine Ops.clg rfl au (jE5 Tryz.call125) (hrec q p (some ad) c N _ (i + 1) (k) _ hs hp hN hK ho jo jo jo) rfl ?_
      rintro e w2 ⟨K2, rfl, hK, ho, hfw2⟩
      have Kf := Kf.trans hfw2 (fun x hx => .inl hx)
      refine ⟨_, rfl, ?_⟩
      by_cases hs79 : mtA q p (i + 1) k = true
      ·
       refine jk (Run.pickT rfl rfl au) ?_
       refine je (Run.pickF rfl rfl au) (ja rfl (jO ?_))
       refine jN ⟨(js3 (jC (by first | (simp [hM8, hs54]; done) | (simp [hM8, hs54, hs59]; done) | (simp [hM8, hs54, hs59, hs64]; done) | (simp [hM8, hs54, hs59, hs64, hs79]; done) | (simp [hM8, hs54, hs59, hs64, hs69]; done) | (simp [hM8, hs54, hs59, hs64, hs69, hs79]; done))) rfl rfl), (⟨_, hK, ho, Kf⟩)⟩
      refine jk (Run.pickT rfl rfl au) ?_
      refine je (Run.pickF rfl rfl au) (ja rfl (jO ?_))
      refine jN ⟨(js3 (jC (by first | (simp [hM8, hs54]; done) | (simp [hM8, hs54, hs59]; done) | (simp [hM8, hs54, hs59, hs64]; done) | (simp [hM8, hs54, hs59, hs64, hs79]; done) | (simp [hM8, hs54, hs59, hs64, hs69]; done) | (simp [hM8, hs54, hs59, hs64, hs69, hs79]; done))) rfl rfl), (⟨_, hK, ho, Kf⟩)⟩
     refine jk (Run.pickF rfl rfl au) ?_
     refine jk (Run.pickT rfl rfl au) ?_
     refine jG ?_
     refine jU ?_
     refine jU ?_
     refine jU ?_
     refine jU ?_
     refine jU ?_
     refine jU ?_
     refine jU ?_
     refine jk (Run.pickF rfl rfl au) ?_
     refine je (Run.pickF rfl rfl au) (ja rfl (jO ?_))
     refine jN ⟨(js3 (jC (by first | (simp [hM8, hs54]; done) | (simp [hM8, hs54, hs59]; done) | (simp [hM8, hs54, hs59, hs64]; done) | (simp [hM8, hs54, hs59, hs64, hs79]; done) | (simp [hM8, hs54, hs59, hs64, hs69]; done) | (simp [hM8, hs54, hs59, hs64, hs69, hs79]; done))) rfl rfl), (⟨_, hK, ho, Kf⟩)⟩
    refine jG ?_
    refine jU ?_
    refine jU ?_
    refine jU ?_
    refine jU ?_
    refine jU ?_
    refine Ops.skU rfl rfl ?_
    refine Ops.skU rfl rfl ?_
    refine Ops.skU rfl rfl ?_
    refine Ops.skU rfl rfl ?_
    refine jU ?_
    refine jk (Run.pickF rfl rfl au) ?_
    refine jG ?_
    refine jU ?_
    refine jU ?_
    refine jU ?_
    refine jU ?_
    refine jU ?_
    refine jU ?_
    refine jU ?_
    refine jk (Run.pickF rfl rfl au) ?_
    refine je (Run.pickF rfl rfl au) (ja rfl (jO ?_))
    refine jN ⟨(js3 (jC (by first | (simp [hM8, hs54]; done) | (simp [hM8, hs54, hs59]; done) | (simp [hM8, hs54, hs59, hs64]; done) | (simp [hM8, hs54, hs59, hs64, hs79]; done) | (simp [hM8, hs54, hs59, hs64, hs69]; done) | (simp [hM8, hs54, hs59, hs64, hs69, hs79]; done))) rfl rfl), (⟨_, hK, ho, Kf⟩)⟩
   intro Γ wz hΓ ⟨K3, hK, ho, Kf⟩
   refine jN ⟨K3, (js3 (hΓ.get _ _ rfl) (hΓ.get _ _ rfl) ((hΓ.get 12 _ rfl).trans jp)), ?_⟩
   exact ⟨hK, ho, Kf⟩
  have hc3 : ¬ bO p[k] := by first | exact hc3 | exact of_decide_eq_false hc3
  have hM9 := oN (s := q) (i := i) hk2 hc3
  refine VC.meet (σ := Unit) (fun s => [(4, .slice (some ad) N c), (11, .int .i64 ((n : Nat) : Int)), (12, .bool (decide (mtA q p i k = true)))]) (fun s wz => ∃ K', KOk q p K' ∧ Own wz 5 1 (some ad) N c (NB K') ∧ Frm (ob (some ad)) w wz) ?_ ?_
  ·
   refine VC.held (fun _ => True) jK ?_
   have hS : True := trivial
   have ho := ho.frm (qK.drew w).frm jp
   have Kf := Kf.trans (qK.drew w).frm jp
   refine jH 0 rfl hS (fun w0 hw0 => Run.mv rfl) ?_
   refine jH 1 rfl hS (fun w0 hw0 => Run.mv rfl) ?_
   refine jH 2 rfl hS (fun w0 hw0 => Run.lenT rfl zj) ?_
   refine jH 3 rfl hS (fun w0 hw0 => Run.bin rfl rfl (Bin.lssN _ _)) ?_
   by_cases hs85 : i < q.length
   ·
    refine jH 4 rfl hS (fun w0 hw0 => Run.mv rfl) ?_
    refine qQ.take 5 rfl jK jK jK hS (fun w0 hw0 => Run.mv rfl) (Up.g rfl (by first | rfl | exact decide_eq_true hs85 | (simp [hs85]; done))) rfl rfl ?_
    refine qQ.take 6 rfl jK jK jK hS (fun w0 hw0 => Run.mv rfl) (Up.g rfl (by first | rfl | exact decide_eq_true hs85 | (simp [hs85]; done))) rfl rfl ?_
    refine qQ.take 7 rfl jK jK jK hS (fun w0 hw0 => Run.indexT _ rfl rfl zj (zb hs85)) (Up.g rfl (by first | rfl | exact decide_eq_true hs85 | (simp [hs85]; done))) rfl rfl ?_
    refine qQ.take 8 rfl jK jK jK hS (fun w0 hw0 => Run.mv rfl) (Up.g rfl (by first | rfl | exact decide_eq_true hs85 | (simp [hs85]; done))) rfl rfl ?_
    refine qQ.take 9 rfl jK jK jK hS (fun w0 hw0 => Run.mv rfl) (Up.g rfl (by first | rfl | exact decide_eq_true hs85 | (simp [hs85]; done))) rfl rfl ?_
    refine qQ.take 10 rfl jK jK jK hS (fun w0 hw0 => Run.indexT _ rfl rfl zj (zb hk2)) (Up.g rfl (by first | rfl | exact decide_eq_true hs85 | (simp [hs85]; done))) rfl rfl ?_
    refine qQ.take 11 rfl jK jK jK hS (fun w0 hw0 => Run.bin rfl rfl (Bin.eqlN _ _)) (Up.g rfl (by first | rfl | exact decide_eq_true hs85 | (simp [hs85]; done))) rfl rfl ?_
    by_cases hs93 : q[i].toNat = p[k].toNat
    ·
     refine jH 12 rfl hS (fun w0 hw0 => Run.pickT rfl rfl (by first | rfl | exact decide_eq_true hs85 | exact decide_eq_true hs93 | (simp [hs85]; done) | (simp [hs93]; done))) ?_
     refine jH 13 rfl hS (fun w0 hw0 => Run.mv rfl) ?_
     refine qQ.take 14 rfl jK jK jK hS (fun w0 hw0 => Run.mv rfl) (Up.g rfl (by first | rfl | exact decide_eq_true hs85 | exact decide_eq_true hs93 | (simp [hs85]; done) | (simp [hs93]; done))) rfl rfl ?_
     refine qQ.take 15 rfl jK jK jK hS (fun w0 hw0 => Run.mv rfl) (Up.g rfl (by first | rfl | exact decide_eq_true hs85 | exact decide_eq_true hs93 | (simp [hs85]; done) | (simp [hs93]; done))) rfl rfl ?_
     refine qQ.take 16 rfl jK jK jK hS (fun w0 hw0 => Run.mv rfl) (Up.g rfl (by first | rfl | exact decide_eq_true hs85 | exact decide_eq_true hs93 | (simp [hs85]; done) | (simp [hs93]; done))) rfl rfl ?_
     refine qQ.take 17 rfl jK jK jK hS (fun w0 hw0 => Run.bin rfl rfl (Bin.add_i64 _ 1 jo)) (Up.g rfl (by first | rfl | exact decide_eq_true hs85 | exact decide_eq_true hs93 | (simp [hs85]; done) | (simp [hs93]; done))) rfl rfl ?_
     refine qQ.take 18 rfl jK jK jK hS (fun w0 hw0 => Run.mv rfl) (Up.g rfl (by first | rfl | exact decide_eq_true hs85 | exact decide_eq_true hs93 | (simp [hs85]; done) | (simp [hs93]; done))) rfl rfl ?_
     refine qQ.take 19 rfl jK jK jK hS (fun w0 hw0 => Run.bin rfl rfl (Bin.add_i64 _ 1 jo)) (Up.g rfl (by first | rfl | exact decide_eq_true hs85 | exact decide_eq_true hs93 | (simp [hs85]; done) | (simp [hs93]; done))) rfl rfl ?_
     refine qQ.take 20 rfl jK jK jK hS (fun w0 hw0 => Run.mv rfl) (Up.g rfl (by first | rfl | exact decide_eq_true hs85 | exact decide_eq_true hs93 | (simp [hs85]; done) | (simp [hs93]; done))) rfl rfl ?_
     refine qQ.cl 21 rfl jK (jE5 Tryz.call125) (hrec q p (some ad) c N _ (i + 1) (k + 1) _ hs hp hN hK ho jo jo jo) (Up.g rfl (by first | rfl | exact decide_eq_true hs85 | exact decide_eq_true hs93 | (simp [hs85]; done) | (simp [hs93]; done))) rfl rfl ?_
     rintro e w3 ⟨K2, rfl, hK, ho, hfw3⟩
     have Kf := Kf.trans hfw3 (fun x hx => .inl hx)
     refine ⟨_, rfl, trivial, ?_⟩
     by_cases hs103 : mtA q p (i + 1) (k + 1) = true
     ·
      refine jH 22 rfl hS (fun w0 hw0 => Run.pickT rfl rfl (by first | rfl | exact decide_eq_true hs85 | exact decide_eq_true hs93 | exact decide_eq_true hs103 | (simp [hs85]; done) | (simp [hs93]; done) | (simp [hs103]; done))) ?_
      refine jH 23 rfl hS (fun w0 hw0 => Run.asg rfl) ?_
      refine qQ.done jK ?_
      refine jN ⟨(), (js3 rfl rfl (jC (by first | (simp [hM9, hs85]; done) | (simp [hM9, hs85, ← UInt8.toNat_inj, hs93]; done) | (simp [hM9, hs85, ← UInt8.toNat_inj, hs93, hs103]; done)))), ?_⟩
      exact ⟨_, hK, ho, Kf⟩
     refine jH 22 rfl hS (fun w0 hw0 => Run.pickT rfl rfl (by first | rfl | exact decide_eq_true hs85 | exact decide_eq_true hs93 | exact decide_eq_false hs103 | (simp [hs85]; done) | (simp [hs93]; done) | (simp [hs103]; done))) ?_
     refine jH 23 rfl hS (fun w0 hw0 => Run.asg rfl) ?_
     refine qQ.done jK ?_
     refine jN ⟨(), (js3 rfl rfl (jC (by first | (simp [hM9, hs85]; done) | (simp [hM9, hs85, ← UInt8.toNat_inj, hs93]; done) | (simp [hM9, hs85, ← UInt8.toNat_inj, hs93, hs103]; done)))), ?_⟩
     exact ⟨_, hK, ho, Kf⟩
    refine jH 12 rfl hS (fun w0 hw0 => Run.pickT rfl rfl (by first | rfl | exact decide_eq_true hs85 | exact decide_eq_false hs93 | (simp [hs85]; done) | (simp [hs93]; done))) ?_
    refine jH 13 rfl hS (fun w0 hw0 => Run.mv rfl) ?_
    refine qQ.skip 14 rfl jK jK jK hS rfl rfl (by first | rfl | exact decide_eq_true hs85 | exact decide_eq_false hs93 | (simp [hs85]; done) | (simp [hs93]; done)) rfl rfl ?_
    refine qQ.skip 15 rfl jK jK jK hS rfl rfl (by first | rfl | exact decide_eq_true hs85 | exact decide_eq_false hs93 | (simp [hs85]; done) | (simp [hs93]; done)) rfl rfl ?_
    refine qQ.skip 16 rfl jK jK jK hS rfl rfl (by first | rfl | exact decide_eq_true hs85 | exact decide_eq_false hs93 | (simp [hs85]; done) | (simp [hs93]; done)) rfl rfl ?_
    refine qQ.skip 17 rfl jK jK jK hS rfl rfl (by first | rfl | exact decide_eq_true hs85 | exact decide_eq_false hs93 | (simp [hs85]; done) | (simp [hs93]; done)) rfl rfl ?_
    refine qQ.skip 18 rfl jK jK jK hS rfl rfl (by first | rfl | exact decide_eq_true hs85 | exact decide_eq_false hs93 | (simp [hs85]; done) | (simp [hs93]; done)) rfl rfl ?_
    refine qQ.skip 19 rfl jK jK jK hS rfl rfl (by first | rfl | exact decide_eq_true hs85 | exact decide_eq_false hs93 | (simp [hs85]; done) | (simp [hs93]; done)) rfl rfl ?_
    refine qQ.skip 20 rfl jK jK jK hS rfl rfl (by first | rfl | exact decide_eq_true hs85 | exact decide_eq_false hs93 | (simp [hs85]; done) | (simp [hs93]; done)) rfl rfl ?_
    refine qQ.skip 21 rfl jK jK jK hS rfl rfl (by first | rfl | exact decide_eq_true hs85 | exact decide_eq_false hs93 | (simp [hs85]; done) | (simp [hs93]; done)) rfl rfl ?_
    refine jH 22 rfl hS (fun w0 hw0 => Run.pickF rfl rfl (by first | rfl | exact decide_eq_true hs85 | exact decide_eq_false hs93 | (simp [hs85]; done) | (simp [hs93]; done))) ?_
    refine jH 23 rfl hS (fun w0 hw0 => Run.asg rfl) ?_
    refine qQ.done jK ?_
    refine jN ⟨(), (js3 rfl rfl (jC (by first | (simp [hM9, hs85]; done) | (simp [hM9, hs85, ← UInt8.toNat_inj, hs93]; done) | (simp [hM9, hs85, ← UInt8.toNat_inj, hs93, hs103]; done)))), ?_⟩
    exact ⟨_, hK, ho, Kf⟩
   refine jH 4 rfl hS (fun w0 hw0 => Run.mv rfl) ?_
   refine qQ.skip 5 rfl jK jK jK hS rfl rfl (by first | rfl | exact decide_eq_false hs85 | (simp [hs85]; done)) rfl rfl ?_
   refine qQ.skip 6 rfl jK jK jK hS rfl rfl (by first | rfl | exact decide_eq_false hs85 | (simp [hs85]; done)) rfl rfl ?_
   refine qQ.skip 7 rfl jK jK jK hS rfl rfl (by first | rfl | exact decide_eq_false hs85 | (simp [hs85]; done)) rfl rfl ?_
   refine qQ.skip 8 rfl jK jK jK hS rfl rfl (by first | rfl | exact decide_eq_false hs85 | (simp [hs85]; done)) rfl rfl ?_
   refine qQ.skip 9 rfl jK jK jK hS rfl rfl (by first | rfl | exact decide_eq_false hs85 | (simp [hs85]; done)) rfl rfl ?_
   refine qQ.skip 10 rfl jK jK jK hS rfl rfl (by first | rfl | exact decide_eq_false hs85 | (simp [hs85]; done)) rfl rfl ?_
   refine qQ.skip 11 rfl jK jK jK hS rfl rfl (by first | rfl | exact decide_eq_false hs85 | (simp [hs85]; done)) rfl rfl ?_
   refine jH 12 rfl hS (fun w0 hw0 => Run.pickF rfl rfl (by first | rfl | exact decide_eq_false hs85 | (simp [hs85]; done))) ?_
   refine jH 13 rfl hS (fun w0 hw0 => Run.mv rfl) ?_
   refine qQ.skip 14 rfl jK jK jK hS rfl rfl (by first | rfl | exact decide_eq_false hs85 | (simp [hs85]; done)) rfl rfl ?_
   refine qQ.skip 15 rfl jK jK jK hS rfl rfl (by first | rfl | exact decide_eq_false hs85 | (simp [hs85]; done)) rfl rfl ?_
   refine qQ.skip 16 rfl jK jK jK hS rfl rfl (by first | rfl | exact decide_eq_false hs85 | (simp [hs85]; done)) rfl rfl ?_
   refine qQ.skip 17 rfl jK jK jK hS rfl rfl (by first | rfl | exact decide_eq_false hs85 | (simp [hs85]; done)) rfl rfl ?_
   refine qQ.skip 18 rfl jK jK jK hS rfl rfl (by first | rfl | exact decide_eq_false hs85 | (simp [hs85]; done)) rfl rfl ?_
   refine qQ.skip 19 rfl jK jK jK hS rfl rfl (by first | rfl | exact decide_eq_false hs85 | (simp [hs85]; done)) rfl rfl ?_
   refine qQ.skip 20 rfl jK jK jK hS rfl rfl (by first | rfl | exact decide_eq_false hs85 | (simp [hs85]; done)) rfl rfl ?_
   refine qQ.skip 21 rfl jK jK jK hS rfl rfl (by first | rfl | exact decide_eq_false hs85 | (simp [hs85]; done)) rfl rfl ?_
   refine jH 22 rfl hS (fun w0 hw0 => Run.pickF rfl rfl (by first | rfl | exact decide_eq_false hs85 | (simp [hs85]; done))) ?_
   refine jH 23 rfl hS (fun w0 hw0 => Run.asg rfl) ?_
   refine qQ.done jK ?_
   refine jN ⟨(), (js3 rfl rfl (jC (by first | (simp [hM9, hs85]; done) | (simp [hM9, hs85, ← UInt8.toNat_inj, hs93]; done) | (simp [hM9, hs85, ← UInt8.toNat_inj, hs93, hs103]; done)))), ?_⟩
   exact ⟨_, hK, ho, Kf⟩
  rintro _ wz hfz Γ hΓ
  obtain ⟨K3, hK, ho, Kf⟩ := hfz
  refine jN ⟨K3, (js3 (hΓ.get _ _ rfl) (hΓ.get _ _ rfl) ((hΓ.get 12 _ rfl).trans jp)), ?_⟩
  exact ⟨hK, ho, Kf⟩
 rintro K4 wm ⟨hK, ho, Kf⟩ Γ hΓ
 have hKl4 : K4.length = N := by rw [hK.1, hN]
 refine jN (VC.sub _ hΓ (jS (jR (jm rfl (jm rfl (je (Run.index1 _ rfl rfl zat zbk jo) ?_))))))
 refine Ops.st (qP.storeOwn n rfl rfl zbk ho rfl jo rfl) ?_
 rintro w5 ⟨ho5, hf5, hs5⟩
 have ho5 : Own w5 5 1 (some ad) N c (NB (K4.set n 2)) := by rw [← qXo]; exact ho5
 have Kf := Kf.trans hf5 (fun x hx => .inl hx)
 refine jO (jN (jv3 4 11 12 ?_))
 refine jS (jS (jR (jm rfl (jO (jN ?_)))))
 refine VC.condB rfl (fun hc4 => ?_) (fun hc4 => ?_)
 ·
  refine jR (jm rfl (jm rfl (je (Run.index1 _ rfl rfl zat zbk jo) ?_)))
  refine Ops.st (qP.storeOwn n rfl rfl zbk ho5 rfl jo rfl) ?_
  rintro w6 ⟨ho6, hf6, hs6⟩
  have ho6 : Own w6 5 1 (some ad) N c (NB (K4.set n 1)) := by rw [← List.set_set (a := 2), ← qXo]; exact ho6
  have Kf := Kf.trans hf6 (fun x hx => .inl hx)
  refine jO (jN (jv1 12 ?_))
  refine jS (jR (jm rfl (ja rfl (jO (jN (jv1 10 ?_))))))
  refine jT ?_
  refine qR rfl ?_
  exact ⟨_, rfl, by rw [hn]; exact hK.set hi hk (by rw [hc4]; rfl), ho6, Kf⟩
 refine jQ (jN (jv1 12 ?_))
 refine jS (jR (jm rfl (ja rfl (jO (jN (jv1 10 ?_))))))
 refine jT ?_
 refine qR rfl ?_
 exact ⟨_, rfl, by rw [hn]; exact hK.set hi hk (by rw [hc4]; rfl), ho5, Kf⟩
end
section
open Go.RowKit Go.Sort
theorem rF : ∀ M, uQ M
 | 0 => fun q p A c N K i k w _ _ _ _ _ _ _ h => jo
 | M + 1 => zW M (rF M)
theorem qJg (q p : Tx) (N : Nat) (h : N = (q.length + 1) * (p.length + 1)) : KOk q p (List.replicate N 0) := by
 refine ⟨by rw [List.length_replicate, h], fun i k _ _ => .inl ?_⟩
 rw [zdc, zff]
 split <;> rfl
theorem qJh (n : Nat) : (List.replicate n [Value.int .u8 0]).flatten = NB (List.replicate n 0) := by
 induction n with
 | zero => rfl
 | succ n ih => rw [List.replicate_succ, List.flatten_cons, ih, List.replicate_succ]; rfl
theorem vR (q p : Tx) (w : World) (hq : q.length ≤ 1000000) (hp : p.length ≤ 1000000) : Calls Tryz.prog 84 #[encStr q, encStr p] w fun e w' => e = .returned (.bool (decide (meetsN q p))) ∧ Frm [] w w' := by
 refine VC.calls (nt := 30) (res := #[.tmp 4]) Tryz.func84 rfl Tryz.ntmps84 Tryz.results84 rfl ?_
 refine jS (jR (ja rfl (jO (jN (jv2 0 1 ?_)))))
 refine jS (jS ?_)
 refine VC.split1 [(0, _), (1, _)] (js2 rfl rfl) 14 (.bool (decide (¬ isN q ∨ 60 < p.length))) ?_ ?_
 ·
  refine jR (jM ?_)
  refine Ops.cl (jE1 Tryz.call50) (oM q _ hq) rfl ?_
  rintro e _ ⟨rfl, rfl⟩
  refine ⟨_, rfl, ?_⟩
  by_cases hs8 : isN q
  ·
   refine je (Run.not rfl) (jM ?_)
   refine jG ?_
   refine jk (Run.lenT rfl zj) ?_
   refine jk (Run.bin rfl rfl (Bin.gtrN _ 60)) ?_
   by_cases hs13 : 60 < p.length
   ·
    refine je (Run.pickF rfl rfl au) (jO ?_)
    refine jN ⟨(js3 (jC (by first | (simp [hs8]; done) | (simp [hs8, hs13]; done))) rfl rfl), rfl⟩
   refine je (Run.pickF rfl rfl au) (jO ?_)
   refine jN ⟨(js3 (jC (by first | (simp [hs8]; done) | (simp [hs8, hs13]; done))) rfl rfl), rfl⟩
  refine je (Run.not rfl) (jM ?_)
  refine jU ?_
  refine jU ?_
  refine jU ?_
  refine je (Run.pickT rfl rfl au) (jO ?_)
  refine jN ⟨(js3 (jC (by first | (simp [hs8]; done) | (simp [hs8, hs13]; done))) rfl rfl), rfl⟩
 intro Γ hΓ
 refine jN (VC.sub _ hΓ ?_)
 refine jD rfl (fun hc1 => ?_) fun hc1 => ?_
 ·
  have hn : ¬ meetsN q p := fun h => by rcases hc1 with h1 | h1; exact h1 h.1; have := h.2.1; omega
  refine jS (jR (ja rfl (jO (jN (jv1 4 ?_)))))
  refine jT ?_
  refine qZ (qR rfl ?_)
  exact ⟨by rw [decide_eq_false hn], Frm.refl _ _⟩
 have hqn : isN q := Classical.not_not.1 (fun h => hc1 (.inl h))
 have hp60 : p.length ≤ 60 := Nat.le_of_not_lt (fun h => hc1 (.inr h))
 have hq60 := hqn.2.1
 have htl := cH q
 have hil := pE p
 obtain ⟨a, ha⟩ : ∃ a, a = qS q := ⟨_, rfl⟩
 obtain ⟨b, hb⟩ : ∃ b, b = eG p := ⟨_, rfl⟩
 rw [← ha] at htl
 rw [← hb] at hil
 refine jQ (jN (jv2 0 1 ?_))
 refine jS (jR (jM ?_))
 refine Ops.cl (jE1 Tryz.call60) (jL q _ hq) rfl ?_
 rintro e w1 ⟨rfl, hf1⟩
 refine ⟨_, rfl, ?_⟩
 rw [← ha]
 refine jM ?_
 refine Ops.cl (jE1 Tryz.call111) (nC p _ hp) rfl ?_
 rintro e w2 ⟨rfl, hf2⟩
 refine ⟨_, rfl, ?_⟩
 rw [← hb]
 refine ja rfl (ja rfl (jO (jN (jv2 5 6 ?_))))
 refine jS (jR (jm rfl (jm rfl (jm rfl (je (Run.lenT rfl zj) (jb rfl rfl (Bin.add_i64 _ 1 jo) (jm rfl (je (Run.lenT rfl zj) (jb rfl rfl (Bin.add_i64 _ 1 jo) ?_)))))))))
 have hNb : (a.length + 1) * (b.length + 1) ≤ 61 * 61 := Nat.mul_le_mul jo jo
 refine jb rfl rfl (Bin.mul_i64 _ _ jo) ?_
 obtain ⟨N, hN⟩ : ∃ N, N = (a.length + 1) * (b.length + 1) := ⟨_, rfl⟩
 rw [← hN] at hNb ⊢
 refine Ops.m (qV.makeS rfl rfl zat (oB) rfl jo jo) rfl ?_
 rintro _ w3 ⟨rfl, ho, hf3, hs3⟩
 have ho : Own w3 5 1 (some ⟨w2.heap.size, 0, none⟩) N N (NB (List.replicate N 0)) := by rw [← qJh]; exact ho
 refine Ops.cl (jE5 Tryz.call125) (rF (a.length + b.length + 1) a b _ N N _ 0 0 _ jo jo hN (qJg a b N hN) ho jo jo jo) rfl ?_
 rintro e w4 ⟨K', rfl, _, _, hf4⟩
 have hfr : Frm [] w w4 := ((hf1.trans hf2 jp).trans hf3 jp).own hf4 (fun y hy => by simp only [ob, za] at hy; have := (hf1.trans hf2 jp).size; omega)
 have he : decide (meetsN q p) = mtA a b 0 0 := by
  rw [zbt, decide_eq_true_iff, ← qVp, htl, ha, hb]
  exact ⟨fun h => h.2.2, fun h => ⟨hqn, hp60, h⟩⟩
 refine ⟨_, rfl, ?_⟩
 refine ja rfl (jO (jN (jv1 4 ?_)))
 refine jT ?_
 refine qR rfl ?_
 exact ⟨by rw [he], hfr⟩
end
section
open Go.RowKit Go.Sort
def zY (m : MailP) (p : Tx) (subs : Bool) : List Tx := (if subs = true then m.subs else qB m).filter (fun x => decide (meetsN x p))
theorem mO {m : MailP} (h : bV m) (p : Tx) (subs : Bool) : jJ m p subs = zY m p subs := if_pos h
theorem vS {l : List Tx} {f : Tx → Bool} {i : Nat} (h : i < l.length) : (l.take (i + 1)).filter f = (l.take i).filter f ++ (if f l[i] = true then [l[i]] else []) := by
 rw [zan, zb h, zca]
 congr 1
 simp [zea]
theorem uX {w : World} {A : Option Addr} {l : List Tx} {k : Nat} (h : Rd w 1 A l.length (SB l)) (hk : k < l.length) : ∃ ad, A = some ad ∧ ∀ W, Frm [] w W → W.cell? ((ad.add (k * 1)).add 0) = some (encStr l[k]) := by
 obtain ⟨ad, hA, _⟩ := mU h hk
 refine ⟨ad, hA, fun W hW => ?_⟩
 obtain ⟨ad', hA', hc⟩ := mU (h.frm hW jp) hk
 rw [hA] at hA'
 cases hA'
 exact hc
theorem qJi (m : MlC) {i : Nat} (h : i < m.l.length) : ((qB m.p).take (i + 1)) = (qB m.p).take i ++ [(m.l[i]).nm] := by
 have h2 : i < (qB m.p).length := by rw [zah, dK]; exact h
 rw [zan, zb h2]
 congr 2
 simp [qB, cE m h, Nc.p]
theorem nE (A B : Option Addr) (c d : Nat) (l : List Tx) (w : World) (ha : Rd w 1 A l.length (SB l)) (hb : Rd w 1 B l.length (SB l)) (hl : l.length ≤ 1000000) :
  Calls Tryz.prog 31 #[.slice A l.length c, .slice B l.length d] w fun e w' => e = .returned (.bool true) ∧ Frm [] w w' := by
 refine VC.calls (nt := 26) (res := #[.tmp 4]) Tryz.func31 rfl Tryz.ntmps31 Tryz.results31 rfl ?_
 refine jS (jR (ja rfl (jO (jN (jv2 0 1 ?_)))))
 refine jS (jS (jR (jm rfl (je (Run.lenS rfl zc) (jm rfl (je (Run.lenS rfl zc) (jb rfl rfl (Bin.neqN _ _) (jO (jN (jv3 0 1 10 ?_))))))))))
 refine VC.condF rfl jp ?_
 refine jQ (jN (jv2 0 1 ?_))
 refine jS (jS (jR (jz 0 (jO (jN (jB ?_))))))
 refine VC.loop (σ := Nat) (fun s => [(0, .slice A l.length c), (1, .slice B l.length d), (5, .int .i64 ((s : Nat) : Int))]) (fun s wr => s ≤ l.length ∧ Frm [] w wr) (fun s => l.length - s) 0 (js3 rfl rfl rfl) ⟨zae _, Frm.refl _ _⟩ ?_
 rintro i wr ⟨hi, K⟩
 refine jS (jS (jR (jm rfl (jm rfl (je (Run.lenS rfl zc) (jb rfl rfl (Bin.lssN _ _) (jO (jN (jv4 0 1 5 14 ?_)))))))))
 refine jD rfl (fun hc2 => ?_) fun hc2 => ?_
 ·
  obtain ⟨ad1, hA1, hc1a⟩ := uX ha hc2
  obtain ⟨ad2, hA2, hc2a⟩ := uX hb hc2
  refine jQ (jN (jv3 0 1 5 ?_))
  refine jS (jB (jS ?_))
  refine VC.held (fun W => Frm [] wr W) jK ?_
  have hS : Frm [] wr wr.drew := (Frm.refl _ _).drew
  refine jH 0 rfl hS (fun w0 hw0 => Run.mv rfl) ?_
  refine jH 1 rfl hS (fun w0 hw0 => Run.mv rfl) ?_
  refine jH 2 rfl hS (fun w0 hw0 => Run.indexS i (show _ = some (Value.slice (some ad1) l.length c) by rw [← hA1]; rfl) rfl zc zm hc2) ?_
  refine jH 3 rfl hS (fun w0 hw0 => Run.load rfl zx (hc1a _ (K.trans hw0 jp))) ?_
  refine jH 4 rfl hS (fun w0 hw0 => Run.mv rfl) ?_
  refine jH 5 rfl hS (fun w0 hw0 => Run.mv rfl) ?_
  refine jH 6 rfl hS (fun w0 hw0 => Run.indexS i (show _ = some (Value.slice (some ad2) l.length d) by rw [← hA2]; rfl) rfl zc zm hc2) ?_
  refine jH 7 rfl hS (fun w0 hw0 => Run.load rfl zx (hc2a _ (K.trans hw0 jp))) ?_
  refine jH 8 rfl hS (fun w0 hw0 => Run.neqT rfl rfl) ?_
  refine qQ.done jK ?_
  refine jN (jv4 0 1 5 25 ?_)
  refine VC.condF rfl jp ?_
  refine jQ ?_
  refine qW (jN ?_)
  refine jv3 0 1 5 ?_
  refine jR (jm rfl (jb rfl rfl (Bin.add_i64 _ 1 jo) (ja rfl (jO ?_))))
  refine jN ⟨(i + 1), (js3 rfl rfl rfl), ?_, ?_⟩
  · exact ⟨hc2, K.trans hS jp⟩
  first | omega | (dsimp only; omega)
 refine jX ?_
 refine qJ (qJ (qN ?_))
 refine jN ?_
 refine VC.sub [] .nil ?_
 refine jS (jR (ja rfl (jO (jN (jT ?_)))))
 refine qR rfl ?_
 exact ⟨rfl, K⟩
set_option maxHeartbeats 1000000 in
theorem nF (m : MlC) (q : Tx) (subs : Bool) (w : World) (hm : RdL w m) (hq : q.length ≤ 1000000) :
  Calls Tryz.prog 32 #[m.val, encStr q, .bool subs] w fun e w' => ∃ B d, ∃ ss : List Tx, e = .returned (.slice B ss.length d) ∧ Own w' 9 1 B ss.length d (SB ss) ∧ ss = zY m.p q subs ∧ Frm [] w w' := by
 have hln := hm.ln
 have hpl := dK m
 have hnl : (qB m.p).length = m.l.length := by rw [zah, hpl]
 refine VC.calls (nt := 50) (res := #[.tmp 6]) Tryz.func32 rfl Tryz.ntmps32 Tryz.results32 rfl ?_
 refine jS (jR ?_)
 refine Ops.m (qV.box rfl) rfl ?_
 rintro _ w1 ⟨rfl, hF_w1⟩
 have hb3 : Blk w1 w.heap.size 25 #[.slice m.A m.l.length m.c, .slice m.S m.ss.length m.d, .int .i64 m.v, .int .i64 m.b] := hF_w1.blk
 have K := hF_w1.frm
 generalize hg3e : w.heap.size = g3 at hb3 ⊢
 refine ja rfl (jO (jN (jv3 1 2 3 ?_)))
 refine jS (jR (ja rfl (ja rfl (jO (jN (jS (jS (jR (jz 0 (jO (jN (jB ?_))))))))))))
 refine VC.loop (σ := Nat × Option Addr × Nat) (fun s => [(1, encStr q), (2, .bool subs), (3, .pointer (some ⟨g3, 0, none⟩)), (7, .slice s.2.1 s.1 s.2.2), (8, .slice none 0 0), (9, .int .i64 ((s.1 : Nat) : Int))]) (fun s wr => s.1 ≤ m.l.length ∧ Blk wr g3 25 #[.slice m.A m.l.length m.c, .slice m.S m.ss.length m.d, .int .i64 m.v, .int .i64 m.b] ∧ Own wr 9 1 s.2.1 s.1 s.2.2 (SB ((qB m.p).take s.1)) ∧ (∀ b ∈ ob s.2.1, w.heap.size ≤ b) ∧ Frm [] w wr) (fun s => m.l.length - s.1) (0, none, 0) (js6 rfl rfl rfl rfl rfl rfl) ⟨zae _, hb3, Own.nil _ _ _, by simp [ob], K⟩ ?_
 rintro ⟨i, B, d⟩ wr ⟨hi, hb3, ho, hob, K⟩
 dsimp only at *
 refine jS (jS (jR (jm rfl (jf rfl zf rfl zaf (jl rfl zap (hb3.cell 0) (je (Run.lenS rfl zg) (jb rfl rfl (Bin.lssN _ _) (jO (jN (jv7 1 2 3 7 8 9 15 ?_))))))))))
 refine jD rfl (fun hc1 => ?_) fun hc1 => ?_
 ·
  obtain ⟨ad, hA, hel⟩ := (hm.l.frm K).elem hc1
  have hts := qJi m hc1
  generalize hx : m.l[i] = x at *
  refine jQ (jN (jv6 1 2 3 7 8 9 ?_))
  refine jS (jB (jR (jm rfl (jf rfl zf rfl zaf (jl rfl zap (hb3.cell 0) (jm rfl (je (Run.indexS i (show _ = some (Value.slice (some ad) m.l.length m.c) by rw [← hA]; rfl) rfl zg zq hc1) (jf rfl zy rfl zm (jl rfl zx (hel 0 (encStr x.nm) rfl) ?_)))))))))
  refine Ops.m (qV.buildS1 rfl zc zm dI jd jd rfl rfl) rfl ?_
  rintro _ w4 ⟨rfl, hF4⟩
  have hr4 : Rd w4 1 (some ⟨wr.heap.size, 0, none⟩) 1 (SB [x.nm]) := Rd.of_blk (n := 1) (size := 1) hF4.blk rfl
  have hk4 := K.size
  have K := K.trans hF4.frm jp
  have ho := ho.frm hF4.frm jp
  have hs4 := hF4.size
  have hb3 := hb3.frm hF4.frm jp
  refine Ops.m (qV.app rfl rfl zc (eF) rfl jd ho hr4 (dS _) jo jo) rfl ?_
  rintro _ w5 ⟨B5, d5, rfl, ho5, hf5, hob5⟩
  rw [← bA] at ho5
  have hKs := K.size
  have K5 := K.own hf5 hob
  have hb3 := hb3.frm hf5 (ho.ne_blk hb3 jd)
  have hob6 : ∀ b ∈ ob B5, w.heap.size ≤ b := fun b hb => by
   rcases hob5 with h | h
   · rw [h] at hb; exact hob b hb
   rw [h, za] at hb; omega
  refine ja rfl (jO ?_)
  refine qW (jN ?_)
  refine jv6 1 2 3 7 8 9 ?_
  refine jR (jm rfl (jb rfl rfl (Bin.add_i64 _ 1 jo) (ja rfl (jO ?_))))
  refine jN ⟨(i + 1, B5, d5), (js6 rfl rfl rfl rfl rfl rfl), ?_, ?_⟩
  · exact ⟨hc1, hb3, by rw [hts]; exact ho5, hob6, K5⟩
  first | omega | (dsimp only; omega)
 obtain rfl : i = m.l.length := jo
 rw [zv jo] at ho
 refine jX ?_
 refine qJ (qJ (qN ?_))
 refine jN (jv5 1 2 3 7 8 ?_)
 refine jS (jS (jR (jm rfl (jO (jN (jv5 1 3 7 8 27 ?_))))))
 refine VC.meet (σ := Option Addr × Nat × List Tx) (fun s => [(1, encStr q), (7, .slice s.1 s.2.2.length s.2.1), (8, .slice none 0 0)]) (fun s wm => s.2.2 = (if subs = true then m.p.subs else qB m.p) ∧ s.2.2.length ≤ 1000000 ∧ (∀ x ∈ s.2.2, x.length ≤ 1000000) ∧ Rd wm 1 s.1 s.2.2.length (SB s.2.2) ∧ Frm [] w wm) ?_ ?_
 ·
  refine VC.condB rfl (fun hc2 => ?_) (fun hc2 => ?_)
  ·
   refine jR (jf rfl zf rfl zaj (jl rfl zar (hb3.cell 1) (ja rfl (jO ?_))))
   refine jN ⟨(m.S, m.d, m.ss), (js3 rfl rfl rfl), ?_⟩
   exact ⟨by rw [if_pos (by first | exact hc2 | assumption)]; rfl, hm.sn, hm.sq, (hm.frm K).s, K⟩
  refine jQ ?_
  refine jN ⟨(B, d, qB m.p), (js3 rfl (by rw [hnl]; rfl) rfl), ?_⟩
  exact ⟨by rw [if_neg (by first | exact hc2 | (simp [hc2]; done))], by rw [hnl]; exact hln, fun x hx => nJ hm x hx, by rw [hnl]; exact ho.rd, K⟩
 rintro ⟨A, c, ls⟩ wm ⟨hls, hl1, hl2, hrd, K⟩ Γ hΓ
 dsimp only at *
 refine jN (VC.sub _ hΓ (jS (jS (jR (jz 0 (jO (jN (jB ?_))))))))
 have K0 := K
 refine VC.loop (σ := Nat × Option Addr × Nat × List Tx) (fun s => [(1, encStr q), (7, .slice A ls.length c), (8, .slice s.2.1 s.2.2.2.length s.2.2.1), (10, .int .i64 ((s.1 : Nat) : Int))]) (fun s wr => s.1 ≤ ls.length ∧ Own wr 9 1 s.2.1 s.2.2.2.length s.2.2.1 (SB s.2.2.2) ∧ s.2.2.2 = (ls.take s.1).filter (fun x => decide (meetsN x q)) ∧ (∀ b ∈ ob s.2.1, wm.heap.size ≤ b) ∧ Frm [] wm wr) (fun s => ls.length - s.1) (0, none, 0, []) (js4 rfl rfl rfl rfl) ⟨zae _, Own.nil _ _ _, rfl, by simp [ob], Frm.refl _ _⟩ ?_
 rintro ⟨i, B2, d2, os⟩ wr ⟨hi2, ho, hos, hob, K⟩
 dsimp only at *
 have hosl : os.length ≤ i := by rw [hos]; exact zax (zce _ _) (zdl _ _)
 refine jS (jS (jR (jm rfl (jm rfl (je (Run.lenS rfl zc) (jb rfl rfl (Bin.lssN _ _) (jO (jN (jv5 1 7 8 10 33 ?_)))))))))
 refine jD rfl (fun hc3 => ?_) fun hc3 => ?_
 ·
  obtain ⟨ad, hA, hcw⟩ := uX hrd hc3
  have hsn := vS (f := fun x => decide (meetsN x q)) hc3
  have hx2 := hl2 _ (zaa hc3)
  generalize hx : ls[i] = x at *
  refine jQ (jN (jv4 1 7 8 10 ?_))
  refine jS (jB (jS (jR (jm rfl (jm rfl (je (Run.indexS i (show _ = some (Value.slice (some ad) ls.length c) by rw [← hA]; rfl) rfl zc zm hc3) (jl rfl zx (hcw _ K) (jM ?_))))))))
  refine Ops.cl (jE2 Tryz.call84) (vR x q _ hx2 hq) rfl ?_
  rintro e w6 ⟨rfl, hf6⟩
  have K := K.trans hf6 jp
  have ho := ho.frm hf6 jp
  refine ⟨_, rfl, ?_⟩
  refine jO (jN (jv5 1 7 8 10 41 ?_))
  refine VC.meet (σ := Option Addr × Nat × List Tx) (fun s => [(1, encStr q), (7, .slice A ls.length c), (8, .slice s.1 s.2.2.length s.2.1), (10, .int .i64 ((i : Nat) : Int))]) (fun s wn => Own wn 9 1 s.1 s.2.2.length s.2.1 (SB s.2.2) ∧ s.2.2 = (ls.take (i + 1)).filter (fun x => decide (meetsN x q)) ∧ (∀ b ∈ ob s.1, wm.heap.size ≤ b) ∧ Frm [] wm wn) ?_ ?_
  ·
   refine VC.condB rfl (fun hc4 => ?_) (fun hc4 => ?_)
   ·
    refine jR (jm rfl (jm rfl (jm rfl (je (Run.indexS i (show _ = some (Value.slice (some ad) ls.length c) by rw [← hA]; rfl) rfl zc zm hc3) (jl rfl zx (hcw _ K) ?_)))))
    refine Ops.m (qV.buildS1 rfl zc zm dI jd jd rfl rfl) rfl ?_
    rintro _ w7 ⟨rfl, hF4⟩
    have hr4 : Rd w7 1 (some ⟨w6.heap.size, 0, none⟩) 1 (SB [x]) := Rd.of_blk (n := 1) (size := 1) hF4.blk rfl
    have hk4 := K.size
    have K := K.trans hF4.frm jp
    have ho := ho.frm hF4.frm jp
    have hs4 := hF4.size
    refine Ops.m (qV.app rfl rfl zc (eF) rfl jd ho hr4 (dS _) jo jo) rfl ?_
    rintro _ w8 ⟨B5, d5, rfl, ho5, hf5, hob5⟩
    rw [← bA] at ho5
    have hKs := K.size
    have K5 := K.own hf5 hob
    have hob6 : ∀ b ∈ ob B5, wm.heap.size ≤ b := fun b hb => by
     rcases hob5 with h | h
     · rw [h] at hb; exact hob b hb
     rw [h, za] at hb; omega
    refine ja rfl (jO ?_)
    refine jN ⟨(B5, d5, os ++ [x]), (js4 rfl rfl (by rw [zi]; rfl) rfl), ?_⟩
    exact ⟨by rw [zi]; exact ho5, by rw [hsn, if_pos (by simpa using hc4), hos], hob6, K5⟩
   refine jQ ?_
   refine jN ⟨(B2, d2, os), (js4 rfl rfl rfl rfl), ?_⟩
   exact ⟨ho, by rw [hsn, if_neg (by simpa using hc4), hos, zbs], hob, K⟩
  rintro ⟨B3, d3, os3⟩ wn ⟨ho, hos, hob, K⟩ Γ hΓ
  dsimp only at *
  refine qW (jN (VC.sub _ hΓ ?_))
  refine jR (jm rfl (jb rfl rfl (Bin.add_i64 _ 1 jo) (ja rfl (jO ?_))))
  refine jN ⟨(i + 1, B3, d3, os3), (js4 rfl rfl rfl rfl), ?_, ?_⟩
  · exact ⟨hc3, ho, hos, hob, K⟩
  first | omega | (dsimp only; omega)
 obtain rfl : i = ls.length := jo
 rw [zv (zw _)] at hos
 refine jX ?_
 refine qJ (qJ (qN ?_))
 refine jN (jv1 8 ?_)
 refine jS (jR (jm rfl (ja rfl (jO (jN (jv1 6 ?_))))))
 refine jT ?_
 refine qR rfl ?_
 exact ⟨B2, d2, os, rfl, ho, by rw [hos, hls]; rfl, K0.trans K jp⟩
end
section
open Go.RowKit Go.Sort
def oP (n nx b : Nat) : Nat := if n ≤ b ∧ (nx = 0 ∨ b < nx) then b else nx
def fK (n : Nat) (l : List Nat) : Nat := l.foldl (oP n) 0
theorem qJj (n : Nat) (l : List Nat) (b : Nat) : fK n (l ++ [b]) = oP n (fK n l) b := by unfold fK; rw [zeg]; rfl
def qJk (n : Nat) (pre : List Nat) (nx : Nat) : Prop := (nx = 0 ∧ ∀ b ∈ pre, b < n) ∨ (nx ∈ pre ∧ n ≤ nx ∧ ∀ b ∈ pre, n ≤ b → nx ≤ b)
theorem wM {n : Nat} (h0 : 1 ≤ n) : ∀ (l pre : List Nat) (nx : Nat), qJk n pre nx → qJk n (pre ++ l) (l.foldl (oP n) nx)
 | [], pre, nx, h => by rw [zbs]; exact h
 | b :: l, pre, nx, h => by
  rw [show pre ++ b :: l = (pre ++ [b]) ++ l by simp, List.foldl_cons]
  refine wM h0 l (pre ++ [b]) _ ?_
  unfold oP
  split
  ·
   rename_i hc
   refine .inr ⟨jp, hc.1, fun x hx hn => ?_⟩
   rcases zds.1 hx with hx | hx
   ·
    rcases h with ⟨_, h2⟩ | ⟨_, h2, h3⟩
    · have := h2 x hx; omega
    have := h3 x hx hn
    rcases hc.2 with h4 | h4
    · omega
    omega
   rw [za] at hx; omega
  rename_i hc
  rcases h with ⟨h1, h2⟩ | ⟨h1, h2, h3⟩
  ·
   refine .inl ⟨h1, fun x hx => ?_⟩
   rcases zds.1 hx with hx | hx
   · exact h2 x hx
   rw [za] at hx
   subst hx
   exact Nat.lt_of_not_le (fun h => hc ⟨h, .inl h1⟩)
  refine .inr ⟨zet _ h1, h2, fun x hx hn => ?_⟩
  rcases zds.1 hx with hx | hx
  · exact h3 x hx hn
  rw [za] at hx
  subst hx
  exact Nat.le_of_not_lt (fun h => hc ⟨hn, .inr h⟩)
theorem rA {n : Nat} (h0 : 1 ≤ n) (l : List Nat) : qJk n l (fK n l) := by
 have := wM h0 l [] 0 (.inl ⟨rfl, jp⟩)
 rwa [zcg] at this
theorem zG {m : MailP} {b : Nat} : b ∈ eQ m ↔ ∃ x ∈ m.l, ∃ y ∈ x.2.l, y.blob = b := by
 unfold eQ
 rw [List.mem_flatMap]
 constructor
 ·
  rintro ⟨x, hx, hb⟩
  obtain ⟨y, hy, rfl⟩ := List.mem_map.1 hb
  exact ⟨x, hx, y, hy, rfl⟩
 rintro ⟨x, hx, y, hy, rfl⟩
 exact ⟨x, hx, zbr hy⟩
theorem zH {m : MailP} (h : bV m) : ∀ x ∈ eQ m, 1 ≤ x ∧ x ≤ 2147483647 := by
 intro b hb
 obtain ⟨x, hx, y, hy, rfl⟩ := zG.1 hb
 obtain ⟨i, hi, rfl⟩ := zag hx
 obtain ⟨⟨_, hG⟩, _, _, hbl⟩ := h.2 i hi
 have h1 := hbl y hy
 have h2 := h.1.2.2.2.2.2.1
 obtain ⟨j, hj, rfl⟩ := zag hy
 have h3 := (hG j hj).2.2.2.2.1
 omega
structure BlI (L : List Nat) (n : Nat) (out : List Nat) : Prop where
 n1 : 1 ≤ n
 n2 : n ≤ 2147483648
 rise : out.Pairwise (· < ·)
 mem : ∀ x, x ∈ out ↔ (x ∈ L ∧ x < n)
theorem uZ {n : Nat} : ∀ (l : List Nat) (lo : Nat), l.Pairwise (· < ·) → (∀ x ∈ l, lo ≤ x ∧ x < n) → l = [] ∨ l.length + lo ≤ n
 | [], _, _, _ => .inl rfl
 | x :: r, lo, hp, hb => by
  have hp := List.pairwise_cons.1 hp
  have hx := hb x zfd
  rcases uZ r (x + 1) hp.2 (fun y hy => ⟨hp.1 y hy, (hb y (zdh _ hy)).2⟩) with rfl | h
  · right; show 1 + lo ≤ n; omega
  right; rw [zbi]; omega
theorem BlI.len {L : List Nat} {n : Nat} {out : List Nat} (h : BlI L n out) : out.length ≤ 2147483648 := by
 have := h.n2
 rcases uZ (n := n) out 0 h.rise (fun x hx => ⟨zae _, ((h.mem x).1 hx).2⟩) with rfl | q
 · exact zae _
 omega
theorem BlI.next {L : List Nat} {n : Nat} {out : List Nat} (h : BlI L n out) (hb : ∀ x ∈ L, 1 ≤ x ∧ x ≤ 2147483647) (hx : fK n L ≠ 0) : n ≤ fK n L ∧ fK n L ≤ 2147483647 ∧ BlI L (fK n L + 1) (out ++ [fK n L]) := by
 rcases rA h.n1 L with ⟨h1, _⟩ | ⟨h1, h2, h3⟩
 · exact absurd h1 hx
 have hb1 := hb _ h1
 refine ⟨h2, hb1.2, jo, jo, ?_, fun x => ?_⟩
 ·
  rw [List.pairwise_append]
  refine ⟨h.rise, jp, fun a ha b hb => ?_⟩
  rw [za] at hb
  have := ((h.mem a).1 ha).2
  omega
 rw [zds, za, h.mem]
 constructor
 ·
  rintro (⟨q1, q2⟩ | rfl)
  · exact ⟨q1, jo⟩
  exact ⟨h1, jo⟩
 rintro ⟨q1, q2⟩
 by_cases q3 : x < n
 · exact .inl ⟨q1, q3⟩
 have := h3 x q1 jo
 exact .inr jo
theorem BlI.done {L : List Nat} {n : Nat} {out : List Nat} (h : BlI L n out) (hx : fK n L = 0) (hb : ∀ x ∈ L, 1 ≤ x ∧ x ≤ 2147483647) : lT L out := by
 refine ⟨h.rise, fun x => ?_⟩
 rw [h.mem]
 rcases rA h.n1 L with ⟨_, h2⟩ | ⟨h1, _, _⟩
 · exact ⟨fun q => q.1, fun q => ⟨q, h2 x q⟩⟩
 rw [hx] at h1
 have := hb 0 h1
 omega
set_option maxHeartbeats 1000000 in
theorem vT (m : MlC) (w : World) (hm : RdL w m) (hmay : bV m.p) :
  Calls Tryz.prog 33 #[m.val] w fun e w' => ∃ B c ls, e = .returned (.slice B ls.length c) ∧ Own w' 40 1 B ls.length c (UB ls) ∧ lT (eQ m.p) ls ∧ Frm [] w w' := by
 have hln := hm.ln
 have hpl := dK m
 have hbb := zH hmay
 have hLL : eQ m.p = (m.l.take m.l.length).flatMap (fun x => (Ms x.l).map MsgP.blob) := by rw [zaq]; unfold eQ; rw [show m.p.l = m.l.map Nc.p from rfl, List.flatMap_map]; rfl
 refine VC.calls (nt := 62) (res := #[.tmp 2]) Tryz.func33 rfl Tryz.ntmps33 Tryz.results33 rfl ?_
 refine jS (jR ?_)
 refine Ops.m (qV.box rfl) rfl ?_
 rintro _ w1 ⟨rfl, hF_w1⟩
 have hb1 : Blk w1 w.heap.size 25 #[.slice m.A m.l.length m.c, .slice m.S m.ss.length m.d, .int .i64 m.v, .int .i64 m.b] := hF_w1.blk
 have K := hF_w1.frm
 generalize hg1 : w.heap.size = g1 at hb1 ⊢
 refine ja rfl (jO (jN (jv1 1 ?_)))
 refine jS (jR (ja rfl (jO (jN (jS (jR ?_))))))
 refine jy .u64 1 ?_
 refine jO (jN (jB ?_))
 refine VC.loop (σ := Nat × Option Addr × Nat × List Nat) (fun s => [(1, .pointer (some ⟨g1, 0, none⟩)), (3, .slice s.2.1 s.2.2.2.length s.2.2.1), (4, .int .u64 ((s.1 : Nat) : Int))]) (fun s wr => BlI (eQ m.p) s.1 s.2.2.2 ∧ Blk wr g1 25 #[.slice m.A m.l.length m.c, .slice m.S m.ss.length m.d, .int .i64 m.v, .int .i64 m.b] ∧ Own wr 40 1 s.2.1 s.2.2.2.length s.2.2.1 (UB s.2.2.2) ∧ (∀ b ∈ ob s.2.1, w.heap.size ≤ b) ∧ Frm [] w wr) (fun s => 2147483649 - s.1) (1, none, 0, []) (js3 rfl rfl rfl) ⟨⟨jo, jd, jp, fun x => ⟨fun h => (by cases h), fun h => by have := hbb x h.1; omega⟩⟩, hb1, Own.nil _ _ _, by simp [ob], K⟩ ?_
 rintro ⟨n, B, d, out⟩ wr ⟨hI, hb1, ho, hob, K⟩
 dsimp only at *
 have hn1 := hI.n1
 have hn2 := hI.n2
 have hol := hI.len
 refine jS (jB (jS (jR ?_)))
 refine jy .u64 0 ?_
 refine jO (jN (jS (jS (jR (jz 0 (jO (jN (jB ?_))))))))
 refine VC.loop (σ := Nat) (fun s => [(1, .pointer (some ⟨g1, 0, none⟩)), (3, .slice B out.length d), (4, .int .u64 ((n : Nat) : Int)), (5, .int .u64 ((fK n ((m.l.take s).flatMap (fun x => (Ms x.l).map MsgP.blob)) : Nat) : Int)), (6, .int .i64 ((s : Nat) : Int))]) (fun s wr => s ≤ m.l.length ∧ Blk wr g1 25 #[.slice m.A m.l.length m.c, .slice m.S m.ss.length m.d, .int .i64 m.v, .int .i64 m.b] ∧ Own wr 40 1 B out.length d (UB out) ∧ Frm [] w wr) (fun s => m.l.length - s) 0 (js5 rfl rfl rfl rfl rfl) ⟨zae _, hb1, ho, K⟩ ?_
 rintro i wr ⟨hi, hb1, ho, K⟩
 refine jS (jS (jR (jm rfl (jf rfl zf rfl zaf (jl rfl zap (hb1.cell 0) (je (Run.lenS rfl zg) (jb rfl rfl (Bin.lssN _ _) (jO (jN (jv6 1 3 4 5 6 15 ?_))))))))))
 refine jD rfl (fun hc1 => ?_) fun hc1 => ?_
 ·
  obtain ⟨ad, hA, hel⟩ := (hm.l.frm K).elem hc1
  have hel0 := hm.l
  have hxa := hm.l.el _ (zaa hc1)
  have hts : (m.l.take (i + 1)).flatMap (fun x => (Ms x.l).map MsgP.blob) = (m.l.take i).flatMap (fun x => (Ms x.l).map MsgP.blob) ++ (Ms (m.l[i]).l).map MsgP.blob := by rw [zan, zb hc1, zeb]; simp
  have helw : ∀ W, Frm [] w W → ∀ j v, (m.l[i]).cells[j]? = some v → W.cell? ((ad.add (i * 4)).add j) = some v := fun W hW j v hj => by
   obtain ⟨ad', hA', h⟩ := (hm.l.frm hW).elem hc1
   rw [hA] at hA'
   cases hA'
   exact h j v hj
  generalize hx : m.l[i] = x at *
  obtain ⟨L0, hL0⟩ : ∃ L0, L0 = (m.l.take i).flatMap (fun x => (Ms x.l).map MsgP.blob) := ⟨_, rfl⟩
  rw [← hL0] at hts ⊢
  refine jQ (jN (jv5 1 3 4 5 6 ?_))
  refine jS (jB (jS (jR (jz 0 (jO (jN (jB ?_)))))))
  refine VC.loop (σ := Nat) (fun s => [(1, .pointer (some ⟨g1, 0, none⟩)), (3, .slice B out.length d), (4, .int .u64 ((n : Nat) : Int)), (5, .int .u64 ((fK n (L0 ++ ((Ms x.l).take s).map MsgP.blob) : Nat) : Int)), (6, .int .i64 ((i : Nat) : Int)), (7, .int .i64 ((s : Nat) : Int))]) (fun s wr => s ≤ x.l.length ∧ Blk wr g1 25 #[.slice m.A m.l.length m.c, .slice m.S m.ss.length m.d, .int .i64 m.v, .int .i64 m.b] ∧ Own wr 40 1 B out.length d (UB out) ∧ Frm [] w wr) (fun s => x.l.length - s) 0 (js6 rfl rfl rfl (by rw [show L0 ++ ((Ms x.l).take 0).map MsgP.blob = L0 by simp]; rfl) rfl rfl) ⟨zae _, hb1, ho, K⟩ ?_
  rintro k wr ⟨hk, hb1, ho, K⟩
  have hel := helw _ K
  have hxn := hxa.n
  refine jS (jS (jR (jm rfl (jf rfl zf rfl zaf (jl rfl zap (hb1.cell 0) (jm rfl (je (Run.indexS i (show _ = some (Value.slice (some ad) m.l.length m.c) by rw [← hA]; rfl) rfl zg zq hc1) (jf rfl zy rfl zu (jf rfl zl rfl zak (jl rfl zas (by rw [Go.Proofs.YtgmbmfpfhcekiaaGreat.add_add]; exact hel 3 (.slice x.A x.l.length x.c) rfl) (je (Run.lenS rfl zab) (jb rfl rfl (Bin.lssN _ _) (jO (jN (jv7 1 3 4 5 6 7 27 ?_)))))))))))))))
  refine jD rfl (fun hc2 => ?_) fun hc2 => ?_
  ·
   obtain ⟨ad2, hA2, hel2⟩ := (hxa.rd.frm K).elem hc2
   have hts2 : L0 ++ ((Ms x.l).take (k + 1)).map MsgP.blob = (L0 ++ ((Ms x.l).take k).map MsgP.blob) ++ [(x.l[k]).m.blob] := by rw [zan, zcm, zb hc2, zbc, zbf]; rfl
   have hsn := qJj n (L0 ++ ((Ms x.l).take k).map MsgP.blob) (x.l[k]).m.blob
   rw [← hts2] at hsn
   generalize hy : x.l[k] = y at *
   obtain ⟨nx, hnx⟩ : ∃ nx, nx = fK n (L0 ++ ((Ms x.l).take k).map MsgP.blob) := ⟨_, rfl⟩
   rw [← hnx] at hsn ⊢
   refine jQ (jN (jv6 1 3 4 5 6 7 ?_))
   refine jS (jB (jS (jR (jf rfl zf rfl zaf (jl rfl zap (hb1.cell 0) (jm rfl (je (Run.indexS i (show _ = some (Value.slice (some ad) m.l.length m.c) by rw [← hA]; rfl) rfl zg zq hc1) (jf rfl zy rfl zu (jf rfl zl rfl zak (jl rfl zas (by rw [Go.Proofs.YtgmbmfpfhcekiaaGreat.add_add]; exact hel 3 (.slice x.A x.l.length x.c) rfl) ?_))))))))))
   refine jm rfl (je (Run.indexS k (show _ = some (Value.slice (some ad2) x.l.length x.c) by rw [← hA2]; rfl) rfl zab zam hc2) (jf rfl zad rfl zd (jl rfl zk (hel2 4 _ rfl) (ja rfl (jO (jN (jv7 1 3 4 5 6 7 8 ?_)))))))
   refine jS ?_
   refine VC.split1 [(1, _), (3, _), (4, _), (5, _), (6, _), (7, _), (8, _)] (js7 rfl rfl rfl rfl rfl rfl rfl) 52 (.bool (decide (n ≤ y.m.blob ∧ (nx = 0 ∨ y.m.blob < nx)))) ?_ ?_
   ·
    refine jR ?_
    refine jm rfl (jm rfl (jb rfl rfl (Bin.geqN _ _) ?_))
    by_cases hs43 : n ≤ y.m.blob
    ·
     refine jM ?_
     refine jG ?_
     refine jk (Run.bin rfl rfl (Bin.eqlN _ 0)) ?_
     by_cases hs46 : nx = 0
     ·
      refine jG ?_
      refine jU ?_
      refine jU ?_
      refine jU ?_
      refine jk (Run.pickT rfl rfl au) ?_
      refine je (Run.pickT rfl rfl au) (jO ?_)
      refine jN ⟨(js8 (jC (by grind)) rfl rfl rfl rfl rfl rfl rfl), rfl⟩
     refine jG ?_
     refine jG ?_
     refine jG ?_
     refine jk (Run.bin rfl rfl (Bin.lssN _ _)) ?_
     by_cases hs50 : y.m.blob < nx
     ·
      refine jk (Run.pickF rfl rfl au) ?_
      refine je (Run.pickT rfl rfl au) (jO ?_)
      refine jN ⟨(js8 (jC (by grind)) rfl rfl rfl rfl rfl rfl rfl), rfl⟩
     refine jk (Run.pickF rfl rfl au) ?_
     refine je (Run.pickT rfl rfl au) (jO ?_)
     refine jN ⟨(js8 (jC (by grind)) rfl rfl rfl rfl rfl rfl rfl), rfl⟩
    refine jM ?_
    refine jU ?_
    refine jU ?_
    refine jU ?_
    refine Ops.skU rfl rfl ?_
    refine Ops.skU rfl rfl ?_
    refine Ops.skU rfl rfl ?_
    refine jU ?_
    refine je (Run.pickF rfl rfl au) (jO ?_)
    refine jN ⟨(js8 (jC (by grind)) rfl rfl rfl rfl rfl rfl rfl), rfl⟩
   intro Γ hΓ
   refine jN (VC.sub _ hΓ ?_)
   refine VC.meet (σ := Unit) (fun s => [(1, .pointer (some ⟨g1, 0, none⟩)), (3, .slice B out.length d), (4, .int .u64 ((n : Nat) : Int)), (5, .int .u64 ((oP n nx y.m.blob : Nat) : Int)), (6, .int .i64 ((i : Nat) : Int)), (7, .int .i64 ((k : Nat) : Int))]) (fun s wm => wm = wr) ?_ ?_
   ·
    refine jD rfl (fun hc3 => ?_) fun hc3 => ?_
    ·
     refine jR (jm rfl (ja rfl (jO ?_)))
     refine jN ⟨(), (js6 rfl rfl rfl (by unfold oP; rw [if_pos (by first | exact hc3 | exact of_decide_eq_true hc3)]; rfl) rfl rfl), ?_⟩
     rfl
    refine jQ ?_
    refine jN ⟨(), (js6 rfl rfl rfl (by unfold oP; rw [if_neg (by first | exact hc3 | exact of_decide_eq_false hc3)]; rfl) rfl rfl), ?_⟩
    rfl
   rintro _ _ rfl Γ hΓ
   refine qW (jN (VC.sub _ hΓ ?_))
   refine jR (jm rfl (jb rfl rfl (Bin.add_i64 _ 1 jo) (ja rfl (jO ?_))))
   refine jN ⟨(k + 1), (js6 rfl rfl rfl (by rw [hsn]; rfl) rfl rfl), ?_, ?_⟩
   · exact ⟨hc2, hb1, ho, K⟩
   first | omega | (dsimp only; omega)
  obtain rfl : k = x.l.length := jo
  rw [zv (by rw [zah]; omega), ← hts]
  refine jX ?_
  refine qJ (qJ (qN ?_))
  refine qW (jN ?_)
  refine jv5 1 3 4 5 6 ?_
  refine jR (jm rfl (jb rfl rfl (Bin.add_i64 _ 1 jo) (ja rfl (jO ?_))))
  refine jN ⟨(i + 1), (js5 rfl rfl rfl rfl rfl), ?_, ?_⟩
  · exact ⟨hc1, hb1, ho, K⟩
  first | omega | (dsimp only; omega)
 obtain rfl : i = m.l.length := jo
 rw [← hLL]
 obtain ⟨nx, hnx⟩ : ∃ nx, nx = fK n (eQ m.p) := ⟨_, rfl⟩
 rw [← hnx]
 refine jX ?_
 refine qJ (qJ (qN ?_))
 refine jN (jv3 1 3 5 ?_)
 refine jS (jS (jR (jm rfl (jb rfl rfl (Bin.eqlN _ 0) (jO (jN (jv4 1 3 5 55 ?_)))))))
 refine jD rfl (fun hc4 => ?_) fun hc4 => ?_
 ·
  refine jS (jR (jm rfl (ja rfl (jO (jN (jv1 2 ?_))))))
  refine jT ?_
  refine qZ (qH (qZ (qZ (qH (qR rfl ?_)))))
  exact ⟨B, d, out, rfl, ho, hI.done (by rw [← hnx]; exact hc4) hbb, K⟩
 obtain ⟨z1, z2, z3⟩ := hI.next hbb (by rw [← hnx]; exact hc4)
 rw [← hnx] at z1 z2 z3
 refine jQ (jN (jv3 1 3 5 ?_))
 refine jS (jR (jm rfl (jM ?_)))
 refine Ops.m (qV.buildS1 rfl ze zd sS jd jd rfl rfl) rfl ?_
 rintro _ w7 ⟨rfl, hF7⟩
 have hr7 : Rd w7 1 (some ⟨_, 0, none⟩) 1 (UB [nx]) := Rd.of_blk (n := 1) (size := 1) hF7.blk rfl
 have hk7 := K.size
 have K := K.trans hF7.frm jp
 have ho := ho.frm hF7.frm jp
 have hb1 := hb1.frm hF7.frm jp
 refine Ops.m (qV.app rfl rfl ze (zD) rfl jd ho hr7 (qQ8 _) jo jo) rfl ?_
 rintro _ w8 ⟨B5, d5, rfl, ho5, hf5, hob5⟩
 rw [← mC] at ho5
 have hk8 := hF7.size
 have hb1 := hb1.frm hf5 (ho.ne_blk hb1 jd)
 have K5 := K.own hf5 hob
 have hob6 : ∀ b ∈ ob B5, w.heap.size ≤ b := fun b hb => by
  rcases hob5 with h | h
  · rw [h] at hb; exact hob b hb
  rw [h, za] at hb; omega
 refine ja rfl (jO (jN (jv3 1 3 5 ?_)))
 refine jR (jm rfl (ja rfl (jO ?_)))
 refine qW (jN ?_)
 refine jv3 1 3 4 ?_
 refine jR (jm rfl (jb rfl rfl (Bin.add_u64 _ 1 jo) (ja rfl (jO ?_))))
 refine jN ⟨(nx + 1, B5, d5, out ++ [nx]), (js3 rfl (by rw [zi]; rfl) rfl), ?_, ?_⟩
 · exact ⟨z3, hb1, by rw [zi]; exact ho5, hob6, K5⟩
 first | omega | (dsimp only; omega)
end
section
def bH : Nat → Nat → List Nat
 | _, 0 => []
 | v, n + 1 => v % 256 :: bH (v / 256) n
theorem bK : ∀ v n, (bH v n).length = n
 | _, 0 => rfl
 | v, n + 1 => by rw [bH, zbi, bK]
theorem cS : ∀ v n, ∀ b ∈ bH v n, b < 256
 | _, 0, b, h => by cases h
 | v, n + 1, b, h => by
  rcases zbh.1 h with rfl | h
  · omega
  exact cS _ n b h
theorem rI : ∀ n v, bH v (n + 1) = bH v n ++ [v / 256 ^ n % 256]
 | 0, v => by simp [bH]
 | n + 1, v => by
  have ih := rI n (v / 256)
  rw [bH, ih, Nat.div_div_eq_div_mul, ← Nat.pow_succ']
  rfl
end
section
open Go.RowKit
theorem zM (v n : Nat) (w : World) (hn1 : 1 ≤ n) (hn8 : n ≤ 8) (hv : v < 256 ^ n) :
  Calls Tryz.prog 98 #[.int .u64 ((v : Nat) : Int), .int .i64 ((n : Nat) : Int)] w fun e w' => ∃ B d, e = .returned (.tuple #[.slice B n d, .int .i64 ((0 : Nat) : Int)]) ∧ Own w' 5 1 B n d (NB (bH v n)) ∧ Frm [] w w' ∧ ∀ x ∈ ob B, w.heap.size ≤ x := by
 have hv64 : v < 18446744073709551616 := zec hv (by
  have : (256 : Nat) ^ n ≤ 256 ^ 8 := Nat.pow_le_pow_right jo hn8
  exact this)
 refine VC.calls (nt := 29) (res := #[.tmp 4, .tmp 5]) Tryz.func98 rfl Tryz.ntmps98 Tryz.results98 rfl ?_
 refine jS (jR (ja rfl (jz 0 (jO (jN (jv2 0 1 ?_))))))
 refine jS (jS ?_)
 refine VC.split1 [(0, _), (1, _)] (js2 rfl rfl) 12 (.bool (decide (n < 1 ∨ 8 < n))) ?_ ?_
 ·
  refine jR ?_
  refine jm rfl (jb rfl rfl (Bin.lssN _ 1) ?_)
  by_cases hs8 : n < 1
  ·
   refine jM ?_
   refine jU ?_
   refine jU ?_
   refine je (Run.pickT rfl rfl au) (jO ?_)
   refine jN ⟨(js3 (jC (by first | (simp [*]; done) | (simp; omega))) rfl rfl), rfl⟩
  refine jM ?_
  refine jG ?_
  refine jk (Run.bin rfl rfl (Bin.gtrN _ 8)) ?_
  by_cases hs11 : 8 < n
  ·
   refine je (Run.pickF rfl rfl au) (jO ?_)
   refine jN ⟨(js3 (jC (by first | (simp [*]; done) | (simp; omega))) rfl rfl), rfl⟩
  refine je (Run.pickF rfl rfl au) (jO ?_)
  refine jN ⟨(js3 (jC (by first | (simp [*]; done) | (simp; omega))) rfl rfl), rfl⟩
 intro Γ hΓ
 refine jN (VC.sub _ hΓ ?_)
 refine VC.condF rfl (decide_eq_false jo) ?_
 refine jQ (jN (jv2 0 1 ?_))
 refine jS (jR (jM ?_))
 refine Ops.m (qV.make0 rfl rfl zat (oB) jo jo) rfl ?_
 rintro _ w1 ⟨rfl, ho1, hf1, hs1⟩
 refine ja rfl (jO (jN (jv3 0 1 6 ?_)))
 refine jS (jS (jR (jM ?_)))
 refine jx .i64 0 ?_
 refine jO (jN (jv4 0 6 15 16 ?_))
 refine jB ?_
 refine VC.loop (σ := Nat × Option Addr × Nat) (fun s => [(0, .int .u64 ((v / 256 ^ s.1 : Nat) : Int)), (6, .slice s.2.1 s.1 s.2.2), (15, .int .i64 ((n : Nat) : Int)), (16, .int .i64 ((s.1 : Nat) : Int))]) (fun s wr => s.1 ≤ n ∧ Own wr 5 1 s.2.1 s.1 s.2.2 (NB (bH v s.1)) ∧ Frm [] w wr ∧ ∀ x ∈ ob s.2.1, w.heap.size ≤ x) (fun s => n - s.1) (0, _, n) (js4 (by rw [Nat.pow_zero, Nat.div_one]; rfl) rfl rfl rfl) ⟨jo, ho1, hf1, by simp [ob]⟩ ?_
 rintro ⟨i, B, d⟩ wr ⟨hi, ho, K, hu⟩
 dsimp only at hi ho hu ⊢
 have hvl : v / 256 ^ i ≤ v := Nat.div_le_self _ _
 refine jS (jR (jb rfl rfl (Bin.lssN _ _) (jO (jN (jS ?_)))))
 refine jD rfl (fun hc2 => ?_) fun hc2 => ?_
 ·
  refine jQ (jN (jv4 0 6 15 16 ?_))
  refine jS (jB (jS (jR (jm rfl (jm rfl (je (Run.conv8 _ rfl zay zbx) ?_))))))
  refine Ops.m (qV.buildS1 rfl zat zbk qJv jd jd rfl rfl) rfl ?_
  rintro _ w2 ⟨rfl, hF2⟩
  have ho2 := ho.frm hF2.frm jp
  have hrd2 : Rd w2 1 (some ⟨_, 0, none⟩) 1 (NB [v / 256 ^ i % 256]) := Rd.of_blk (n := 1) (size := 1) hF2.blk rfl
  refine Ops.m (qV.app rfl rfl zat (oB) rfl jd ho2 hrd2 (qXm _) jo jo) rfl ?_
  rintro _ w3 ⟨B3, d3, rfl, ho3, hf3, hob3⟩
  rw [← mI, ← rI] at ho3
  have K3 := (K.trans hF2.frm jp).own hf3 hu
  have hu3 := fF hu hob3 (by have := K.size; have := hF2.size; omega)
  refine ja rfl (jO (jN (jv4 0 6 15 16 ?_)))
  refine jR (jm rfl (jb rfl rfl (Bin.shr_u64 _ 8 jo) ?_))
  rw [Nat.div_div_eq_div_mul, show (256 : Nat) ^ i * 2 ^ 8 = 256 ^ (i + 1) from (Nat.pow_succ ..).symm]
  refine ja rfl (jO ?_)
  refine qW (jN ?_)
  refine jv4 0 6 15 16 ?_
  refine jR (jb rfl rfl (Bin.add_i64 _ 1 jo) (jm rfl (jO ?_)))
  refine jN ⟨(i + 1, B3, d3), (js4 rfl rfl rfl rfl), ?_, ?_⟩
  · exact ⟨jo, ho3, K3, hu3⟩
  first | omega | (dsimp only; omega)
 refine jX ?_
 refine qJ (qJ (qN ?_))
 refine jN (jv2 0 6 ?_)
 refine jS (jS (jR (jm rfl (jb rfl rfl (Bin.neqN _ 0) (jO (jN (jv2 6 27 ?_)))))))
 refine VC.condF rfl (decide_eq_false (by rw [show i = n by omega, Nat.div_eq_of_lt hv]; simp)) ?_
 refine jQ (jN (jv1 6 ?_))
 refine jS (jR (jm rfl (ja rfl (jz 0 (jO (jN (jv2 4 5 ?_)))))))
 refine jT ?_
 refine cF rfl rfl ?_
 obtain rfl : i = n := jo
 exact ⟨B, d, rfl, ho, K, hu⟩
def zN (w : World) (g : Nat) (A : Option Addr) (c : Nat) (bs : List Nat) (a e wh : Nat) : Prop := Blk w g 151 #[.slice A bs.length c, .int .i64 ((a : Nat) : Int), .int .i64 ((e : Nat) : Int), .int .i64 ((wh : Nat) : Int)] ∧ Own w 5 1 A bs.length c (NB bs)
theorem zN.frm {w w' : World} {g : Nat} {A : Option Addr} {c : Nat} {bs : List Nat} {a e wh : Nat} {S : List Nat} (h : zN w g A c bs a e wh) (k : Frm S w w') (hS : ∀ x ∈ g :: ob A, x ∉ S) : zN w' g A c bs a e wh := ⟨h.1.frm k (hS g jp), h.2.frm k (fun x hx => hS x (by simp [hx]))⟩
end
section
open Go.RowKit
abbrev Oc := List Nat
def tO (s : Tx) : Oc := s.map UInt8.toNat
theorem qXp (s : Tx) : (tO s).length = s.length := zah _
theorem qWd (s : Tx) : ∀ b ∈ tO s, b < 256 := fun b hb => by
 obtain ⟨u, _, rfl⟩ := List.mem_map.1 hb
 exact UInt8.toNat_lt u
theorem wN {l : Oc} (h : ∀ b ∈ l, b < 256) : tO (l.map UInt8.ofNat) = l := by
 unfold tO
 rw [zcs]
 exact (List.map_congr_left (g := id) fun x hx => by have := h x hx; simp; omega).trans (List.map_id _)
def u64 (x : Int) : Nat := (x % 18446744073709551616).toNat
theorem qXq (x : Int) : u64 x < 18446744073709551616 := by unfold u64; omega
def txL (s : Tx) : Oc := bH s.length 1 ++ tO s
def rX (l : List Tx) : Oc := bH l.length 1 ++ l.flatMap txL
def uJ (m : MsgP) : Oc := bH (u64 m.uid) 4 ++ bH (u64 m.sec) 8 ++ bH (u64 (m.zone + 1440)) 2 ++ bH (u64 m.size) 8 ++ bH m.blob 4
def kK (m : MsgP) : Oc := uJ m ++ rX m.flags
def uK (b : BoxV) : Oc := bH (u64 b.valid) 4 ++ bH (u64 b.next) 4 ++ bH b.l.length 1
def qJl (b : BoxV) : Oc := uK b ++ b.l.flatMap kK
def nmL (x : NmP) : Oc := txL x.1 ++ qJl x.2
def pT (m : MailP) : Oc := bH (u64 m.valid) 4 ++ bH (u64 m.blob) 4 ++ bH m.l.length 1 ++ m.l.flatMap nmL ++ rX m.subs
abbrev Rs := Option Oc
structure MsgFit (m : MsgP) : Prop where
 u0 : 0 ≤ m.uid
 u1 : m.uid < 4294967296
 s0 : -9223372036854775808 ≤ m.sec
 s1 : m.sec ≤ 9223372036854775807
 z0 : 0 ≤ m.zone + 1440
 z1 : m.zone + 1440 < 65536
 n0 : 0 ≤ m.size
 n1 : m.size ≤ 9223372036854775807
 b1 : m.blob < 4294967296
 f1 : m.flags.length < 256
 f2 : ∀ s ∈ m.flags, s.length < 256
structure BoxFit (b : BoxV) : Prop where
 v0 : 0 ≤ b.valid
 v1 : b.valid < 4294967296
 n0 : 0 ≤ b.next
 n1 : b.next < 4294967296
 l1 : b.l.length < 256
 el : ∀ m ∈ b.l, MsgFit m
structure MailFit (m : MailP) : Prop where
 v0 : 0 ≤ m.valid
 v1 : m.valid < 4294967296
 b0 : 0 ≤ m.blob
 b1 : m.blob < 4294967296
 l1 : m.l.length < 256
 s1 : m.subs.length < 256
 s2 : ∀ s ∈ m.subs, s.length < 256
 el : ∀ x ∈ m.l, x.1.length < 256 ∧ BoxFit x.2
theorem uV {next : Int} {l : List MsgP} (h : ∀ j (hj : j < l.length), bC next l j l[j]) : ∀ j (hj : j < l.length), 0 ≤ prevU l j ∧ 0 ≤ l[j].uid := by
 intro j
 induction j with
 | zero => intro hj; have := (h 0 hj).1; exact ⟨Int.le_refl _, by simp only [prevU] at this; omega⟩
 | succ j ih =>
  intro hj
  have h1 := (ih jo).2
  have h2 := (h (j + 1) hj).1
  have e : prevU l (j + 1) = l[j].uid := by show ((l[j]?).map MsgP.uid).getD 0 = _; rw [zb jo]; rfl
  rw [e] at h2 ⊢
  exact ⟨h1, jo⟩
end
section
open Go.RowKit Go.Sort
structure Bts (w w' : World) (base : Nat) : Prop where
 blk : ∀ g t cs, t ≠ 76 → t ≠ 5 → Blk w g t cs → Blk w' g t cs
 frm : ∀ w0, w0.heap.size = base → Frm [] w0 w → Frm [] w0 w'
 le : w.heap.size ≤ w'.heap.size
theorem Bts.trans {a b c : World} {base : Nat} (h : Bts a b base) (k : Bts b c base) : Bts a c base := ⟨fun g t cs h1 h2 hb => k.blk g t cs h1 h2 (h.blk g t cs h1 h2 hb), fun w0 h0 hf => k.frm w0 h0 (h.frm w0 h0 hf), zax h.le k.le⟩
theorem Bts.nil {w w' : World} {base : Nat} (k : Frm [] w w') : Bts w w' base := ⟨fun g t cs _ _ hb => hb.frm k jp, fun w0 _ hf => hf.trans k jp, k.size⟩
theorem Bts.one {w w' : World} {base g : Nat} {cs : Array Value} {t : TypeId} (k : Frm [g] w w') (hb : Blk w g t cs) (ht : t = 76 ∨ t = 5) (hg : base ≤ g) : Bts w w' base :=
 ⟨fun y t2 cs2 h1 h2 hy => hy.frm k (fun e => by
  rw [za] at e
  subst e
  rcases ht with rfl | rfl
  · exact hy.ne hb h1 rfl
  exact hy.ne hb h2 rfl), fun w0 h0 hf => hf.own k (fun y hy => by rw [za] at hy; omega), k.size⟩
theorem Bts.own {w w' : World} {base n d : Nat} {B : Option Addr} {xs : List Value} (k : Frm (ob B) w w') (ho : Own w 5 1 B n d xs) (hB : ∀ x ∈ ob B, base ≤ x) : Bts w w' base :=
 ⟨fun y t2 cs2 h1 h2 hy => hy.frm k (fun e => ho.ne_blk hy h2.symm e), fun w0 h0 hf => hf.own k (fun y hy => by have := hB y hy; omega), k.size⟩
def dA (w : World) (g base : Nat) (bs : Oc) : Prop := base ≤ g ∧ ∃ B d, Blk w g 76 #[.slice B bs.length d] ∧ Own w 5 1 B bs.length d (NB bs) ∧ ∀ x ∈ ob B, base ≤ x
theorem dA.blk {w w' : World} {g g2 base : Nat} {bs : Oc} {t : TypeId} {cs : Array Value} (h : dA w g base bs) (k : Frm [g2] w w') (hb : Blk w g2 t cs) (h1 : 76 ≠ t) (h2 : 5 ≠ t) : dA w' g base bs := by
 obtain ⟨h0, B, d, h3, h4, h5⟩ := h
 exact ⟨h0, B, d, h3.frm k (fun e => by rw [za] at e; exact h3.ne hb h1 e), h4.frm k (fun y hy e => by rw [za] at e; subst e; exact h4.ne_blk hb h2 hy), h5⟩
theorem dA.nil {w w' : World} {g base : Nat} {bs : Oc} (h : dA w g base bs) (k : Frm [] w w') : dA w' g base bs := by
 obtain ⟨h0, B, d, h3, h4, h5⟩ := h
 exact ⟨h0, B, d, h3.frm k jp, h4.frm k jp, h5⟩
theorem qWe (q : Tx) : NB (tO q) = U8 q := by simp [NB, U8, tO, zcs, Function.comp_def]
theorem cW (v n gb base : Nat) (bs : Oc) (w : World) (hn1 : 1 ≤ n) (hn8 : n ≤ 8) (hv : v < 256 ^ n) (hl : bs.length ≤ 10000000) (hI : dA w gb base bs) (hbase : base ≤ w.heap.size) :
  Calls Tryz.prog 97 #[.int .u64 ((v : Nat) : Int), .int .i64 ((n : Nat) : Int), .pointer (some ⟨gb, 0, none⟩)] w fun e w' => e = .returned (.tuple #[]) ∧ dA w' gb base (bs ++ bH v n) ∧ Bts w w' base := by
 obtain ⟨h0, B, d, hb, ho, hob⟩ := hI
 refine VC.calls (nt := 16) (res := #[]) Tryz.func97 rfl Tryz.ntmps97 Tryz.results97 rfl ?_
 refine jS (jR (jm rfl (jM ?_)))
 refine Ops.cl (jE2 Tryz.call98) (zM v n _ hn1 hn8 hv) rfl ?_
 rintro e w1 ⟨C, dc, rfl, hoc, hf1, hoc1⟩
 have hb := hb.frm hf1 jp
 have ho := ho.frm hf1 jp
 have K : Bts w w1 base := .nil hf1
 refine ⟨_, rfl, ?_⟩
 refine jm rfl (je (Run.extract rfl rfl) (je (Run.extract rfl rfl) (ja rfl (ja rfl (jO (jN (jv2 2 5 ?_)))))))
 refine jR (jl rfl Tryz.isAgg76 (hb.cell 0) (jM ?_))
 refine Ops.m (qV.app rfl rfl zat (oB) rfl jd ho (show Rd _ 1 C n (NB (bH v n)) from hoc.rd) (qXm _) jo jo) rfl ?_
 rintro _ w2 ⟨B5, d5, rfl, ho5, hf5, hob5⟩
 rw [← mI] at ho5
 have hb := hb.frm hf5 (ho.ne_blk hb jd)
 have hk2 := hf1.size
 have K := K.trans (Bts.own hf5 ho hob)
 have hob6 : ∀ b ∈ ob B5, base ≤ b := fun b hb => by
  rcases hob5 with h | h
  · rw [h] at hb; exact hob b hb
  rw [h, za] at hb; omega
 have hbo := hb
 refine Ops.st (qP.store rfl rfl Tryz.sizeOf76 hb rfl rfl) ?_
 rintro w3 ⟨hbn, (hf3 : Frm [gb] _ _), hs3⟩
 have hb : Blk w3 gb 76 #[.slice B5 (bs ++ bH v n).length d5] := by rw [zi, bK]; exact hbn
 have ho6 : Own w3 5 1 B5 (bs ++ bH v n).length d5 (NB (bs ++ bH v n)) := by
  rw [zi, bK]
  exact ho5.frm hf3 (fun y hy h => by rw [za] at h; subst h; exact ho5.ne_blk hbo jd hy)
 have K := K.trans (Bts.one hf3 hbo (.inl rfl) h0)
 refine jO ?_
 refine gK ?_
 exact ⟨rfl, ⟨h0, B5, d5, hb, ho6, hob6⟩, K⟩
theorem lU (q : Tx) (gn gb base : Nat) (bs : Oc) (w : World) (hq : q.length < 256) (hl : bs.length ≤ 10000000) (hI : dA w gb base bs) (hN : Blk w gn 130 #[.func (.func 97) #[] #[.pointer (some ⟨gb, 0, none⟩)]]) (hbase : base ≤ w.heap.size) :
  Calls Tryz.prog 99 #[encStr q, .pointer (some ⟨gn, 0, none⟩), .pointer (some ⟨gb, 0, none⟩)] w fun e w' => e = .returned (.tuple #[]) ∧ dA w' gb base (bs ++ txL q) ∧ Bts w w' base := by
 refine VC.calls (nt := 12) (res := #[]) Tryz.func99 rfl Tryz.ntmps99 Tryz.results99 rfl ?_
 refine jS (jR (jl rfl zcf (hN.cell 0) (jm rfl (je (Run.lenT rfl zj) (je (Run.convN _ rfl zac zay (by simp only [bmax]; omega)) ?_)))))
 refine Ops.cl (bQ.dyn rfl (evs.cons rfl (evs.cons rfl evs.nil)) zcu) (cW q.length 1 gb base bs _ jo jo jo hl hI hbase) rfl ?_
 rintro e w1 ⟨rfl, hI1, K⟩
 have hbase := zax hbase K.le
 refine ⟨_, rfl, ?_⟩
 obtain ⟨h0, B, d, hb, ho, hob⟩ := hI1
 refine jO (jN (jv2 0 2 ?_))
 refine jR (jl rfl Tryz.isAgg76 (hb.cell 0) (jM ?_))
 refine Ops.m (qV.appStr base rfl rfl zat zj (oB) ho hob hbase (by rw [zi, bK]; omega)) rfl ?_
 rintro _ w2 ⟨B5, d5, rfl, ho5, hf5, hob5⟩
 rw [← qWe, ← mI, zbf, show bH q.length 1 ++ tO q = txL q from rfl] at ho5
 have hb := hb.frm hf5 (ho.ne_blk hb jd)
 have K := K.trans (Bts.own hf5 ho hob)
 have hbo := hb
 have hL : (bs ++ txL q).length = (bs ++ bH q.length 1).length + q.length := by unfold txL; simp only [zi, qXp]; omega
 refine Ops.st (qP.store rfl rfl Tryz.sizeOf76 hb rfl rfl) ?_
 rintro w3 ⟨hbn, (hf3 : Frm [gb] _ _), hs3⟩
 have hb : Blk w3 gb 76 #[.slice B5 (bs ++ txL q).length d5] := by rw [hL]; exact hbn
 have ho6 : Own w3 5 1 B5 (bs ++ txL q).length d5 (NB (bs ++ txL q)) := by
  rw [hL]
  exact ho5.frm hf3 (fun y hy h => by rw [za] at h; subst h; exact ho5.ne_blk hbo jd hy)
 have K := K.trans (Bts.one hf3 hbo (.inl rfl) h0)
 refine jO ?_
 refine gK ?_
 exact ⟨rfl, ⟨h0, B5, d5, hb, ho6, hob5⟩, K⟩
end
section
open Go.RowKit Go.Sort
theorem qVr (w : World) : (zeroValue 130).run Tryz.prog w = .ok .nilFunc w := by
 simp only [zeroValue, Sem.run_bind, Tryz.typeInfo130, Result.andThen_ok]; rfl
theorem fL (x : Int) : IntKind.u64.wrap x = ((u64 x : Nat) : Int) := by
 have h := Int.emod_nonneg x (show (18446744073709551616 : Int) ≠ 0 by decide)
 unfold u64
 simp [IntKind.wrap, IntKind.bits, IntKind.signed]
 omega
theorem fP {α : Type} {f : α → Oc} {c : Nat} : ∀ l : List α, (∀ x ∈ l, (f x).length ≤ c) → (l.flatMap f).length ≤ l.length * c
 | [], _ => jp
 | x :: r, h => by
  have h1 := fP r (fun y hy => h y (zdh _ hy))
  have h2 := h x zfd
  rw [zfh, zi, zbi, Nat.succ_mul]
  omega
structure MsgRm (m : MsgP) : Prop where
 u0 : 0 ≤ m.uid
 u1 : m.uid < 4294967296
 z0 : 0 ≤ m.zone + 1440
 z1 : m.zone + 1440 < 65536
 b1 : m.blob < 4294967296
 f1 : m.flags.length ≤ 16
 f2 : ∀ s ∈ m.flags, s.length ≤ 20
structure BoxRm (b : BoxV) : Prop where
 v0 : 0 ≤ b.valid
 v1 : b.valid < 4294967296
 n0 : 0 ≤ b.next
 n1 : b.next < 4294967296
 l1 : b.l.length ≤ 128
 el : ∀ m ∈ b.l, MsgRm m
structure MailRm (m : MailP) : Prop where
 v0 : 0 ≤ m.valid
 v1 : m.valid < 4294967296
 b0 : 0 ≤ m.blob
 b1 : m.blob < 4294967296
 l1 : m.l.length ≤ 24
 s1 : m.subs.length ≤ 24
 s2 : ∀ s ∈ m.subs, s.length ≤ 60
 el : ∀ x ∈ m.l, x.1.length ≤ 60 ∧ BoxRm x.2
theorem pU {l : List Tx} (h : dZ l) : l.length ≤ 24 ∧ ∀ s ∈ l, s.length ≤ 60 := by
 refine ⟨h.1, fun s hs => ?_⟩
 obtain ⟨i, hi, rfl⟩ := zag hs
 exact (h.2 i hi).1.1.2.1
theorem qVs {m : MailP} (h : bV m) : MailRm m := by
 obtain ⟨⟨hn, hs, hv0, hv1, hb0, hb1, _⟩, hB⟩ := h
 obtain ⟨n1, n2⟩ := pU hn
 obtain ⟨s1, s2⟩ := pU hs
 refine ⟨jo, jo, jo, jo, by rwa [zah] at n1, s1, s2, fun x hx => ⟨n2 _ (zbr hx), ?_⟩⟩
 obtain ⟨i, hi, rfl⟩ := zag hx
 obtain ⟨⟨⟨b1, b2, b3, b4, b5⟩, hG⟩, _, _, hbl⟩ := hB i hi
 refine ⟨jo, jo, jo, jo, jo, fun y hy => ?_⟩
 have hbl := hbl y hy
 obtain ⟨j, hj, rfl⟩ := zag hy
 obtain ⟨g1, g2, ⟨d1, d2, d3, d4⟩, g4, g5, g6⟩ := hG j hj
 have hu := (uV hG j hj).2
 obtain ⟨_, f1, _, f2⟩ := eI g6
 exact ⟨hu, jo, jo, jo, jo, f1, fun s hs => (hZ (f2 s hs)).2⟩
theorem bU (s : Tx) : (txL s).length = 1 + s.length := by unfold txL; rw [zi, bK, qXp]
theorem uW (m : MsgP) : (uJ m).length = 26 := by unfold uJ; simp only [zi, bK]
theorem uY (b : BoxV) : (uK b).length = 9 := by unfold uK; simp only [zi, bK]
theorem wP {m : MsgP} (h : MsgRm m) : (kK m).length ≤ 363 := by
 have h1 := fP (f := txL) (c := 21) m.flags (fun s hs => by rw [bU]; have := h.f2 s hs; omega)
 have h2 := h.f1
 have h3 : m.flags.length * 21 ≤ 16 * 21 := zaw _ h2
 unfold kK rX
 rw [zi, uW, zi, bK]
 omega
theorem qVt {x : NmP} (h1 : x.1.length ≤ 60) (h : BoxRm x.2) : (nmL x).length ≤ 50000 := by
 have h3 := fP (f := kK) (c := 363) x.2.l (fun s hs => wP (h.el s hs))
 have h2 := h.l1
 have h4 : x.2.l.length * 363 ≤ 128 * 363 := zaw _ h2
 unfold nmL qJl
 rw [zi, bU, zi, uY]
 omega
def fR (m : MailP) (i : Nat) : Oc := bH (u64 m.valid) 4 ++ bH (u64 m.blob) 4 ++ bH m.l.length 1 ++ (m.l.take i).flatMap nmL
def gJ (bs : Oc) (x : NmP) (k : Nat) : Oc := bs ++ (txL x.1 ++ (uK x.2 ++ (x.2.l.take k).flatMap kK))
def kV (bs : Oc) (y : MsgP) (j : Nat) : Oc := bs ++ (uJ y ++ (bH y.flags.length 1 ++ (y.flags.take j).flatMap txL))
def fS (m : MailP) (j : Nat) : Oc := fR m m.l.length ++ (bH m.subs.length 1 ++ (m.subs.take j).flatMap txL)
theorem jW {α : Type} {f : α → Oc} {l : List α} {i : Nat} (h : i < l.length) : (l.take (i + 1)).flatMap f = (l.take i).flatMap f ++ f l[i] := by
 rw [zan, zb h, zeb]
 simp
theorem wS {m : MailP} (h : MailRm m) (i : Nat) : (fR m i).length ≤ 1300000 := by
 have h1 := fP (f := nmL) (c := 50000) (m.l.take i) (fun x hx => qVt (h.el x (zci hx)).1 (h.el x (zci hx)).2)
 have h2 : (m.l.take i).length ≤ 24 := zax (zeu _ _) h.l1
 have h3 : (m.l.take i).length * 50000 ≤ 24 * 50000 := zaw _ h2
 unfold fR
 simp only [zi, bK]
 omega
theorem qK0 {bs : Oc} {x : NmP} (h1 : x.1.length ≤ 60) (h : BoxRm x.2) (k : Nat) : (gJ bs x k).length ≤ bs.length + 50000 := by
 have h3 := fP (f := kK) (c := 363) (x.2.l.take k) (fun s hs => wP (h.el s (zci hs)))
 have h2 : (x.2.l.take k).length ≤ 128 := zax (zeu _ _) h.l1
 have h4 : (x.2.l.take k).length * 363 ≤ 128 * 363 := zaw _ h2
 unfold gJ
 simp only [zi, bU, uY]
 omega
theorem qK1 {bs : Oc} {y : MsgP} (h : MsgRm y) (j : Nat) : (kV bs y j).length ≤ bs.length + 363 := by
 have h1 := fP (f := txL) (c := 21) (y.flags.take j) (fun s hs => by rw [bU]; have := h.f2 s (zci hs); omega)
 have h2 : (y.flags.take j).length ≤ 16 := zax (zeu _ _) h.f1
 have h3 : (y.flags.take j).length * 21 ≤ 16 * 21 := zaw _ h2
 unfold kV
 simp only [zi, bK, uW]
 omega
theorem qK2 {m : MailP} (h : MailRm m) (j : Nat) : (fS m j).length ≤ 1400000 := by
 have h0 := wS h m.l.length
 have h1 := fP (f := txL) (c := 61) (m.subs.take j) (fun s hs => by rw [bU]; have := h.s2 s (zci hs); omega)
 have h2 : (m.subs.take j).length ≤ 24 := zax (zeu _ _) h.s1
 have h3 : (m.subs.take j).length * 61 ≤ 24 * 61 := zaw _ h2
 unfold fS
 simp only [zi, bK]
 omega
theorem qVu (m : MailP) : bH (u64 m.valid) 4 ++ bH (u64 m.blob) 4 ++ bH m.l.length 1 = fR m 0 := by simp [fR]
theorem qXr {m : MailP} {i : Nat} (h : i < m.l.length) : fR m (i + 1) = fR m i ++ nmL m.l[i] := by unfold fR; rw [jW h, zbf _ _ (nmL _)]
theorem qVv (bs : Oc) (x : NmP) : bs ++ txL x.1 ++ bH (u64 x.2.valid) 4 ++ bH (u64 x.2.next) 4 ++ bH x.2.l.length 1 = gJ bs x 0 := by simp [gJ, uK, zbf]
theorem qXs {bs : Oc} {x : NmP} {k : Nat} (h : k < x.2.l.length) : gJ bs x (k + 1) = gJ bs x k ++ kK x.2.l[k] := by unfold gJ; rw [jW h]; simp only [zbf]
theorem qJm (bs : Oc) (x : NmP) : gJ bs x x.2.l.length = bs ++ nmL x := by unfold gJ nmL qJl; rw [zv (zw _)]
theorem qVw (bs : Oc) (y : MsgP) : bs ++ bH (u64 y.uid) 4 ++ bH (u64 y.sec) 8 ++ bH (u64 (y.zone + 1440)) 2 ++ bH (u64 y.size) 8 ++ bH y.blob 4 ++ bH y.flags.length 1 = kV bs y 0 := by simp [kV, uJ, zbf]
theorem qXt {bs : Oc} {y : MsgP} {j : Nat} (h : j < y.flags.length) : kV bs y (j + 1) = kV bs y j ++ txL y.flags[j] := by unfold kV; rw [jW h]; simp only [zbf]
theorem qJn (bs : Oc) (y : MsgP) : kV bs y y.flags.length = bs ++ kK y := by unfold kV kK rX; rw [zv (zw _)]
theorem qVx (m : MailP) : fR m m.l.length ++ bH m.subs.length 1 = fS m 0 := by simp [fS]
theorem qXu {m : MailP} {j : Nat} (h : j < m.subs.length) : fS m (j + 1) = fS m j ++ txL m.subs[j] := by unfold fS; rw [jW h]; simp only [zbf]
theorem qJo (m : MailP) : fS m m.subs.length = pT m := by unfold fS fR pT rX; rw [zv (zw _), zv (zw _)]
theorem gY {x : Int} {n : Nat} (h0 : 0 ≤ x) (h : x < (n : Int)) (hn : n ≤ 18446744073709551616) : u64 x < n := by unfold u64; omega
def fT (m : MailP) : Oc := if bV m then pT m else []
set_option maxHeartbeats 2000000 in
theorem nQ (m : MlC) (w : World) (hm : RdL w m) (hv : cQ w) :
  Calls Tryz.prog 43 #[m.val] w fun e w' => ∃ B d, e = .returned (.slice B (fT m.p).length d) ∧ Own w' 5 1 B (fT m.p).length d (NB (fT m.p)) ∧ Frm [] w w' := by
 refine VC.calls (nt := 137) (res := #[.tmp 2]) Tryz.func43 rfl Tryz.ntmps43 Tryz.results43 rfl ?_
 refine jS (jR ?_)
 refine Ops.m (qV.box rfl) rfl ?_
 rintro _ w1 ⟨rfl, hF_w1⟩
 have hb1 : Blk w1 w.heap.size 25 #[.slice m.A m.l.length m.c, .slice m.S m.ss.length m.d, .int .i64 m.v, .int .i64 m.b] := hF_w1.blk
 have K := hF_w1.frm
 generalize hg1 : w.heap.size = g1 at hb1 ⊢
 refine ja rfl (jO (jN (jv1 1 ?_)))
 refine jS (jS (jR (je (Run.loadA rfl zo zh hb1.cells (by first | rfl | (simp; done))) ?_)))
 refine Ops.cl (jE1 zdo) (cO m _ (hm.frm K) (hv.frm K)) rfl ?_
 rintro e w2 ⟨rfl, hf2⟩
 refine ⟨_, rfl, ?_⟩
 have hb1 := hb1.frm hf2 jp
 have hKs := K.size
 have K := K.trans hf2 jp
 refine je (Run.not rfl) (jO (jN (jv2 1 16 ?_)))
 refine VC.condB rfl (fun hc1 => ?_) (fun hc1 => ?_)
 ·
  have hc1 : ¬ bV m.p := by simpa using hc1
  refine jS (jR (ja rfl (jO (jN (jv1 2 ?_)))))
  refine jT ?_
  refine qZ (qR rfl ?_)
  have hE : fT m.p = [] := if_neg hc1
  rw [hE]
  exact ⟨none, 0, rfl, Own.nil _ _ _, K⟩
 have hc1 : bV m.p := by simpa using hc1
 have hrm := qVs hc1
 have hpl : m.p.l.length = m.l.length := bP m.l
 have hl24 := hrm.l1
 have hs24 : m.ss.length ≤ 24 := hrm.s1
 refine jQ (jN (jv1 1 ?_))
 refine jS (jR ?_)
 refine Ops.m (qV.alloc qK7) rfl ?_
 rintro _ w3 ⟨rfl, hF3⟩
 have hb3 := hF3.blk
 have hb1 := hb1.frm hF3.frm jp
 have hk3 := K.size
 have K := K.trans hF3.frm jp
 generalize hg3e : w2.heap.size = g3 at hb3 hk3 ⊢
 refine jO (jN (jS (jR (je (Run.mkFunc evs.nil (evs.cons rfl evs.nil)) ?_))))
 refine Ops.m (qV.alloc qVr) rfl ?_
 rintro _ w4 ⟨rfl, hF4⟩
 have hb4 := hF4.blk
 have hb1 := hb1.frm hF4.frm jp
 have hb3 := hb3.frm hF4.frm jp
 have hl3 := hb3.lt
 have hk4 := K.size
 have K := K.trans hF4.frm jp
 generalize hg4e : w3.heap.size = g4 at hb4 hk4 ⊢
 have hbo := hb4
 refine Ops.st (qP.store rfl rfl Tryz.sizeOf130 hb4 rfl rfl) ?_
 rintro w5 ⟨hbn, (hf5 : Frm [g4] _ _), hs5⟩
 have hb4 : Blk w5 g4 130 #[.func (.func 97) #[] #[.pointer (some ⟨g3, 0, none⟩)]] := hbn
 have hb1 := hb1.frm hf5 (fun e => by rw [za] at e; exact hb1.ne hbo jd e)
 have hb3 := hb3.frm hf5 (fun e => by rw [za] at e; exact hb3.ne hbo jd e)
 have hI : dA w5 g3 w.heap.size [] := ⟨hk3, none, 0, hb3, Own.nil _ _ _, by simp [ob]⟩
 have K := K.own hf5 (fun y hy => by rw [za] at hy; omega)
 refine jO (jN (jv3 1 3 4 ?_))
 refine jS (jR (je (Run.mkFunc evs.nil (evs.cons rfl (evs.cons rfl evs.nil))) (ja rfl (jO (jN (jv4 1 3 4 5 ?_))))))
 refine jS (jR (jl rfl zcf (hb4.cell 0) (jf rfl zf rfl zn (jl rfl zp (hb1.cell 2) (je (Run.conv rfl zac zay _ (fL (m.v))) ?_)))))
 refine Ops.cl (bQ.dyn rfl (evs.cons rfl (evs.cons rfl evs.nil)) zcu) (cW (u64 m.v) 4 g3 w.heap.size _ _ jo jo (gY (n := 256 ^ 4) hrm.v0 hrm.v1 jd) (by first | (simp only [zi, zbj, bK, bU]; omega) | omega) hI K.size) rfl ?_
 rintro e w6 ⟨rfl, hI, hTw6⟩
 have hb1 := hTw6.blk _ _ _ jd jd hb1
 have hb4 := hTw6.blk _ _ _ jd jd hb4
 have K := hTw6.frm w rfl K
 refine ⟨_, rfl, ?_⟩
 refine jO (jN (jv4 1 3 4 5 ?_))
 refine jS (jR (jl rfl zcf (hb4.cell 0) (jf rfl zf rfl zn (jl rfl zp (hb1.cell 3) (je (Run.conv rfl zac zay _ (fL (m.b))) ?_)))))
 refine Ops.cl (bQ.dyn rfl (evs.cons rfl (evs.cons rfl evs.nil)) zcu) (cW (u64 m.b) 4 g3 w.heap.size _ _ jo jo (gY (n := 256 ^ 4) hrm.b0 hrm.b1 jd) (by first | (simp only [zi, zbj, bK, bU]; omega) | omega) hI K.size) rfl ?_
 rintro e w7 ⟨rfl, hI, hTw7⟩
 have hb1 := hTw7.blk _ _ _ jd jd hb1
 have hb4 := hTw7.blk _ _ _ jd jd hb4
 have K := hTw7.frm w rfl K
 refine ⟨_, rfl, ?_⟩
 refine jO (jN (jv4 1 3 4 5 ?_))
 refine jS (jR (jl rfl zcf (hb4.cell 0) (jf rfl zf rfl zaf (jl rfl zap (hb1.cell 0) (je (Run.lenS rfl zg) (je (Run.convN _ rfl zac zay (by simp only [bmax]; omega)) ?_))))))
 refine Ops.cl (bQ.dyn rfl (evs.cons rfl (evs.cons rfl evs.nil)) zcu) (cW m.l.length 1 g3 w.heap.size _ _ jo jo jo (by first | (simp only [zi, zbj, bK, bU]; omega) | omega) hI K.size) rfl ?_
 rintro e w8 ⟨rfl, hI, hTw8⟩
 have hb1 := hTw8.blk _ _ _ jd jd hb1
 have hb4 := hTw8.blk _ _ _ jd jd hb4
 have K := hTw8.frm w rfl K
 refine ⟨_, rfl, ?_⟩
 refine jO (jN (jv4 1 3 4 5 ?_))
 refine jS (jS (jR (jf rfl zf rfl zaf (jl rfl zap (hb1.cell 0) (je (Run.lenS rfl zg) ?_)))))
 refine jx .i64 0 ?_
 refine jO (jN (jv7 1 3 4 5 36 37 38 ?_))
 refine jB ?_
 have hI : dA w8 g3 w.heap.size (fR m.p 0) := by rw [← qVu, hpl]; exact hI
 refine VC.loop (σ := Nat) (fun s => [(1, .pointer (some ⟨g1, 0, none⟩)), (3, .pointer (some ⟨g3, 0, none⟩)), (4, .pointer (some ⟨g4, 0, none⟩)), (5, .func (.func 99) #[] #[.pointer (some ⟨g4, 0, none⟩), .pointer (some ⟨g3, 0, none⟩)]), (36, .slice m.A m.l.length m.c), (37, .int .i64 ((m.l.length : Nat) : Int)), (38, .int .i64 ((s : Nat) : Int))]) (fun s wr => s ≤ m.l.length ∧ Blk wr g1 25 #[.slice m.A m.l.length m.c, .slice m.S m.ss.length m.d, .int .i64 m.v, .int .i64 m.b] ∧ Blk wr g4 130 #[.func (.func 97) #[] #[.pointer (some ⟨g3, 0, none⟩)]] ∧ dA wr g3 w.heap.size (fR m.p s) ∧ Frm [] w wr) (fun s => m.l.length - s) 0 (js7 rfl rfl rfl rfl rfl rfl rfl) ⟨zae _, hb1, hb4, hI, K⟩ ?_
 rintro i wr ⟨hi, hb1, hb4, hI, K⟩
 have hp1 := wS hrm i
 refine jS (jR (jb rfl rfl (Bin.lssN _ _) (jO (jN (jS ?_)))))
 refine jD rfl (fun hc2 => ?_) fun hc2 => ?_
 ·
  obtain ⟨ad, hA, hel⟩ := (hm.l.frm K).elem hc2
  have hsuc := qXr (m := m.p) (i := i) jo
  have hxR := hrm.el _ (zaa (jo : i < m.p.l.length))
  have hxa := hm.l.el _ (zaa hc2)
  rw [cE m hc2 jo] at hsuc hxR
  generalize hx : m.l[i] = x at *
  obtain ⟨hxn, hxB⟩ := hxR
  have hxn : x.nm.length ≤ 60 := hxn
  obtain ⟨bs, hbs⟩ : ∃ bs, bs = fR m.p i := ⟨_, rfl⟩
  rw [← hbs] at hI hp1 hsuc
  have hxl : x.l.length ≤ 128 := by have := hxB.l1; rwa [show x.p.2.l.length = x.l.length from zah _] at this
  refine jQ (jN (jv7 1 3 4 5 36 37 38 ?_))
  refine jS (jB (jS (jR (je (Run.indexS i (show _ = some (Value.slice (some ad) m.l.length m.c) by rw [← hA]; rfl) rfl zg zq hc2) (je (Run.loadA rfl zde zq hel (by first | rfl | (simp; done))) ?_)))))
  refine Ops.m (qV.alloc cJ) rfl ?_
  rintro _ w9 ⟨rfl, hFw9⟩
  have hb7 := hFw9.blk
  have hb1 := hb1.frm hFw9.frm jp
  have hb4 := hb4.frm hFw9.frm jp
  have hI := hI.nil hFw9.frm
  have hk7 := K.size
  have K := K.trans hFw9.frm jp
  generalize hg7e : wr.heap.size = g7 at hb7 hk7 ⊢
  have hbo := hb7
  refine Ops.st (qP.storeA rfl rfl zq hb7 rfl (x.cells_one)) ?_
  rintro w10 ⟨hbn, (hfw10 : Frm [g7] _ _), hsw10⟩
  have hb7 : Blk w10 g7 45 x.cells.toArray := hbn
  have hb1 := hb1.frm hfw10 (fun e => by rw [za] at e; exact hb1.ne hbo jd e)
  have hb4 := hb4.frm hfw10 (fun e => by rw [za] at e; exact hb4.ne hbo jd e)
  have hI := hI.blk hfw10 hbo jd jd
  have K := K.own hfw10 (fun z hz => by rw [za] at hz; omega)
  refine jO (jN (jv8 1 3 4 5 7 36 37 38 ?_))
  refine jS (jR (jm rfl (jf rfl zy rfl zm (jl rfl zx (hb7.cell 0) ?_))))
  refine Ops.cl (bQ.dyn rfl (evs.cons rfl evs.nil) Tryz.call99) (lU x.nm g4 g3 w.heap.size _ _ jo (by first | (simp only [zi, zbj, bK, bU]; omega) | omega) hI hb4 K.size) rfl ?_
  rintro e w11 ⟨rfl, hI, hTw11⟩
  have hb1 := hTw11.blk _ _ _ jd jd hb1
  have hb4 := hTw11.blk _ _ _ jd jd hb4
  have hb7 := hTw11.blk _ _ _ jd jd hb7
  have K := hTw11.frm w rfl K
  refine ⟨_, rfl, ?_⟩
  refine jO (jN (jv8 1 3 4 5 7 36 37 38 ?_))
  refine jS (jR (jl rfl zcf (hb4.cell 0) (jf rfl zy rfl zu (jf rfl zl rfl zn (jl rfl zp (hb7.cell 1) (je (Run.conv rfl zac zay _ (fL (x.v))) ?_))))))
  refine Ops.cl (bQ.dyn rfl (evs.cons rfl (evs.cons rfl evs.nil)) zcu) (cW (u64 x.v) 4 g3 w.heap.size _ _ jo jo (gY (n := 256 ^ 4) hxB.v0 hxB.v1 jd) (by first | (simp only [zi, zbj, bK, bU]; omega) | omega) hI K.size) rfl ?_
  rintro e w12 ⟨rfl, hI, hTw12⟩
  have hb1 := hTw12.blk _ _ _ jd jd hb1
  have hb4 := hTw12.blk _ _ _ jd jd hb4
  have hb7 := hTw12.blk _ _ _ jd jd hb7
  have K := hTw12.frm w rfl K
  refine ⟨_, rfl, ?_⟩
  refine jO (jN (jv8 1 3 4 5 7 36 37 38 ?_))
  refine jS (jR (jl rfl zcf (hb4.cell 0) (jf rfl zy rfl zu (jf rfl zl rfl zn (jl rfl zp (hb7.cell 2) (je (Run.conv rfl zac zay _ (fL (x.n))) ?_))))))
  refine Ops.cl (bQ.dyn rfl (evs.cons rfl (evs.cons rfl evs.nil)) zcu) (cW (u64 x.n) 4 g3 w.heap.size _ _ jo jo (gY (n := 256 ^ 4) hxB.n0 hxB.n1 jd) (by first | (simp only [zi, zbj, bK, bU]; omega) | omega) hI K.size) rfl ?_
  rintro e w13 ⟨rfl, hI, hTw13⟩
  have hb1 := hTw13.blk _ _ _ jd jd hb1
  have hb4 := hTw13.blk _ _ _ jd jd hb4
  have hb7 := hTw13.blk _ _ _ jd jd hb7
  have K := hTw13.frm w rfl K
  refine ⟨_, rfl, ?_⟩
  refine jO (jN (jv8 1 3 4 5 7 36 37 38 ?_))
  refine jS (jR (jl rfl zcf (hb4.cell 0) (jf rfl zy rfl zu (jf rfl zl rfl zak (jl rfl zas (hb7.cell 3) (je (Run.lenS rfl zab) (je (Run.convN _ rfl zac zay (by simp only [bmax]; omega)) ?_)))))))
  refine Ops.cl (bQ.dyn rfl (evs.cons rfl (evs.cons rfl evs.nil)) zcu) (cW x.l.length 1 g3 w.heap.size _ _ jo jo jo (by first | (simp only [zi, zbj, bK, bU]; omega) | omega) hI K.size) rfl ?_
  rintro e w14 ⟨rfl, hI, hTw14⟩
  have hb1 := hTw14.blk _ _ _ jd jd hb1
  have hb4 := hTw14.blk _ _ _ jd jd hb4
  have hb7 := hTw14.blk _ _ _ jd jd hb7
  have K := hTw14.frm w rfl K
  refine ⟨_, rfl, ?_⟩
  refine jO (jN (jv8 1 3 4 5 7 36 37 38 ?_))
  refine jS (jR (jf rfl zy rfl zu (jf rfl zl rfl zak (jl rfl zas (hb7.cell 3) (je (Run.lenS rfl zab) ?_)))))
  refine jx .i64 0 ?_
  refine jO (jN (jv10 1 3 4 5 36 37 38 67 68 69 ?_))
  refine jB ?_
  have hI : dA w14 g3 w.heap.size (gJ bs x.p 0) := by rw [← qVv, show x.p.2.l.length = x.l.length from zah _]; exact hI
  refine VC.loop (σ := Nat) (fun s => [(1, .pointer (some ⟨g1, 0, none⟩)), (3, .pointer (some ⟨g3, 0, none⟩)), (4, .pointer (some ⟨g4, 0, none⟩)), (5, .func (.func 99) #[] #[.pointer (some ⟨g4, 0, none⟩), .pointer (some ⟨g3, 0, none⟩)]), (36, .slice m.A m.l.length m.c), (37, .int .i64 ((m.l.length : Nat) : Int)), (38, .int .i64 ((i : Nat) : Int)), (67, .slice x.A x.l.length x.c), (68, .int .i64 ((x.l.length : Nat) : Int)), (69, .int .i64 ((s : Nat) : Int))]) (fun s wr => s ≤ x.l.length ∧ Blk wr g7 45 x.cells.toArray ∧ Blk wr g1 25 #[.slice m.A m.l.length m.c, .slice m.S m.ss.length m.d, .int .i64 m.v, .int .i64 m.b] ∧ Blk wr g4 130 #[.func (.func 97) #[] #[.pointer (some ⟨g3, 0, none⟩)]] ∧ dA wr g3 w.heap.size (gJ bs x.p s) ∧ Frm [] w wr) (fun s => x.l.length - s) 0 (js10 rfl rfl rfl rfl rfl rfl rfl rfl rfl rfl) ⟨zae _, hb7, hb1, hb4, hI, K⟩ ?_
  rintro k wr2 ⟨hk, hb7, hb1, hb4, hI, K⟩
  have hp2 := qK0 (bs := bs) hxn hxB k
  refine jS (jR (jb rfl rfl (Bin.lssN _ _) (jO (jN (jS ?_)))))
  refine jD rfl (fun hc3 => ?_) fun hc3 => ?_
  ·
   obtain ⟨ad2, hA2, hel2⟩ := (hxa.rd.frm K).elem hc3
   have hkl : k < x.p.2.l.length := by rw [show x.p.2.l.length = x.l.length from zah _]; exact hc3
   have hsuc2 := qXs (bs := bs) (x := x.p) (k := k) hkl
   have hyR := hxB.el _ (zaa hkl)
   have hya := hxa.rd.fl _ (zaa hc3)
   rw [show x.p.2.l[k] = (x.l[k]).m from zbe _] at hsuc2 hyR
   generalize hy : x.l[k] = y at *
   obtain ⟨bs2, hbs2⟩ : ∃ bs2, bs2 = gJ bs x.p k := ⟨_, rfl⟩
   rw [← hbs2] at hI hp2 hsuc2
   have hyf := hyR.f1
   have hyz0 := hyR.z0
   have hyz1 := hyR.z1
   refine jQ (jN (jv10 1 3 4 5 36 37 38 67 68 69 ?_))
   refine jS (jB (jS (jR (je (Run.indexS k (show _ = some (Value.slice (some ad2) x.l.length x.c) by rw [← hA2]; rfl) rfl zab zam hc3) (je (Run.loadA rfl zdb zam hel2 (by first | rfl | (simp; done))) ?_)))))
   refine Ops.m (qV.alloc eA) rfl ?_
   rintro _ w15 ⟨rfl, hFw15⟩
   have hb9 := hFw15.blk
   have hb1 := hb1.frm hFw15.frm jp
   have hb4 := hb4.frm hFw15.frm jp
   have hb7 := hb7.frm hFw15.frm jp
   have hI := hI.nil hFw15.frm
   have hk9 := K.size
   have K := K.trans hFw15.frm jp
   generalize hg9e : wr2.heap.size = g9 at hb9 hk9 ⊢
   have hbo := hb9
   refine Ops.st (qP.storeA rfl rfl zam hb9 rfl (y.cells_one)) ?_
   rintro w16 ⟨hbn, (hfw16 : Frm [g9] _ _), hsw16⟩
   have hb9 : Blk w16 g9 60 y.cells.toArray := hbn
   have hb1 := hb1.frm hfw16 (fun e => by rw [za] at e; exact hb1.ne hbo jd e)
   have hb4 := hb4.frm hfw16 (fun e => by rw [za] at e; exact hb4.ne hbo jd e)
   have hb7 := hb7.frm hfw16 (fun e => by rw [za] at e; exact hb7.ne hbo jd e)
   have hI := hI.blk hfw16 hbo jd jd
   have K := K.own hfw16 (fun z hz => by rw [za] at hz; omega)
   refine jO (jN (jv11 1 3 4 5 9 36 37 38 67 68 69 ?_))
   refine jS (jR (jl rfl zcf (hb4.cell 0) (jf rfl zad rfl zn (jl rfl zp (hb9.cell 0) (je (Run.conv rfl zac zay _ (fL (y.m.uid))) ?_)))))
   refine Ops.cl (bQ.dyn rfl (evs.cons rfl (evs.cons rfl evs.nil)) zcu) (cW (u64 y.m.uid) 4 g3 w.heap.size _ _ jo jo (gY (n := 256 ^ 4) hyR.u0 hyR.u1 jd) (by first | (simp only [zi, zbj, bK, bU]; omega) | omega) hI K.size) rfl ?_
   rintro e w17 ⟨rfl, hI, hTw17⟩
   have hb1 := hTw17.blk _ _ _ jd jd hb1
   have hb4 := hTw17.blk _ _ _ jd jd hb4
   have hb7 := hTw17.blk _ _ _ jd jd hb7
   have hb9 := hTw17.blk _ _ _ jd jd hb9
   have K := hTw17.frm w rfl K
   refine ⟨_, rfl, ?_⟩
   refine jO (jN (jv11 1 3 4 5 9 36 37 38 67 68 69 ?_))
   refine jS (jR (jl rfl zcf (hb4.cell 0) (jf rfl zad rfl zcx (jf rfl zbg rfl zel (jl rfl zed (hb9.cell 1) (je (Run.conv rfl Tryz.underlying2 zay _ (fL (y.m.sec))) ?_))))))
   refine Ops.cl (bQ.dyn rfl (evs.cons rfl (evs.cons rfl evs.nil)) zcu) (cW (u64 y.m.sec) 8 g3 w.heap.size _ _ jo jo (qXq _) (by first | (simp only [zi, zbj, bK, bU]; omega) | omega) hI K.size) rfl ?_
   rintro e w18 ⟨rfl, hI, hTw18⟩
   have hb1 := hTw18.blk _ _ _ jd jd hb1
   have hb4 := hTw18.blk _ _ _ jd jd hb4
   have hb7 := hTw18.blk _ _ _ jd jd hb7
   have hb9 := hTw18.blk _ _ _ jd jd hb9
   have K := hTw18.frm w rfl K
   refine ⟨_, rfl, ?_⟩
   refine jO (jN (jv11 1 3 4 5 9 36 37 38 67 68 69 ?_))
   refine jS (jR (jl rfl zcf (hb4.cell 0) (jf rfl zad rfl zcx (jf rfl zbg rfl zn (jl rfl zp (hb9.cell 2) (jb rfl rfl (Bin.addZ _ 1440 jo jo) (je (Run.conv rfl zac zay _ (fL (y.m.zone + 1440))) ?_)))))))
   refine Ops.cl (bQ.dyn rfl (evs.cons rfl (evs.cons rfl evs.nil)) zcu) (cW (u64 (y.m.zone + 1440)) 2 g3 w.heap.size _ _ jo jo (gY (n := 256 ^ 2) hyR.z0 hyR.z1 jd) (by first | (simp only [zi, zbj, bK, bU]; omega) | omega) hI K.size) rfl ?_
   rintro e w19 ⟨rfl, hI, hTw19⟩
   have hb1 := hTw19.blk _ _ _ jd jd hb1
   have hb4 := hTw19.blk _ _ _ jd jd hb4
   have hb7 := hTw19.blk _ _ _ jd jd hb7
   have hb9 := hTw19.blk _ _ _ jd jd hb9
   have K := hTw19.frm w rfl K
   refine ⟨_, rfl, ?_⟩
   refine jO (jN (jv11 1 3 4 5 9 36 37 38 67 68 69 ?_))
   refine jS (jR (jl rfl zcf (hb4.cell 0) (jf rfl zad rfl zn (jl rfl zp (hb9.cell 3) (je (Run.conv rfl zac zay _ (fL (y.m.size))) ?_)))))
   refine Ops.cl (bQ.dyn rfl (evs.cons rfl (evs.cons rfl evs.nil)) zcu) (cW (u64 y.m.size) 8 g3 w.heap.size _ _ jo jo (qXq _) (by first | (simp only [zi, zbj, bK, bU]; omega) | omega) hI K.size) rfl ?_
   rintro e w20 ⟨rfl, hI, hTw20⟩
   have hb1 := hTw20.blk _ _ _ jd jd hb1
   have hb4 := hTw20.blk _ _ _ jd jd hb4
   have hb7 := hTw20.blk _ _ _ jd jd hb7
   have hb9 := hTw20.blk _ _ _ jd jd hb9
   have K := hTw20.frm w rfl K
   refine ⟨_, rfl, ?_⟩
   refine jO (jN (jv11 1 3 4 5 9 36 37 38 67 68 69 ?_))
   refine jS (jR (jl rfl zcf (hb4.cell 0) (jf rfl zad rfl zd (jl rfl zk (hb9.cell 4) ?_))))
   refine Ops.cl (bQ.dyn rfl (evs.cons rfl (evs.cons rfl evs.nil)) zcu) (cW y.m.blob 4 g3 w.heap.size _ _ jo jo (by have := hyR.b1; omega) (by first | (simp only [zi, zbj, bK, bU]; omega) | omega) hI K.size) rfl ?_
   rintro e w21 ⟨rfl, hI, hTw21⟩
   have hb1 := hTw21.blk _ _ _ jd jd hb1
   have hb4 := hTw21.blk _ _ _ jd jd hb4
   have hb7 := hTw21.blk _ _ _ jd jd hb7
   have hb9 := hTw21.blk _ _ _ jd jd hb9
   have K := hTw21.frm w rfl K
   refine ⟨_, rfl, ?_⟩
   refine jO (jN (jv11 1 3 4 5 9 36 37 38 67 68 69 ?_))
   refine jS (jR (jl rfl zcf (hb4.cell 0) (jf rfl zad rfl zaj (jl rfl zar (hb9.cell 5) (je (Run.lenS rfl zc) (je (Run.convN _ rfl zac zay (by simp only [bmax]; omega)) ?_))))))
   refine Ops.cl (bQ.dyn rfl (evs.cons rfl (evs.cons rfl evs.nil)) zcu) (cW y.m.flags.length 1 g3 w.heap.size _ _ jo jo jo (by first | (simp only [zi, zbj, bK, bU]; omega) | omega) hI K.size) rfl ?_
   rintro e w22 ⟨rfl, hI, hTw22⟩
   have hb1 := hTw22.blk _ _ _ jd jd hb1
   have hb4 := hTw22.blk _ _ _ jd jd hb4
   have hb7 := hTw22.blk _ _ _ jd jd hb7
   have hb9 := hTw22.blk _ _ _ jd jd hb9
   have K := hTw22.frm w rfl K
   refine ⟨_, rfl, ?_⟩
   refine jO (jN (jv11 1 3 4 5 9 36 37 38 67 68 69 ?_))
   refine jS (jR (jf rfl zad rfl zaj (jl rfl zar (hb9.cell 5) (je (Run.lenS rfl zc) ?_))))
   refine jx .i64 0 ?_
   refine jO (jN (jv13 1 3 4 5 36 37 38 67 68 69 107 108 109 ?_))
   refine jB ?_
   rw [qVw] at hI
   refine VC.loop (σ := Nat) (fun s => [(1, .pointer (some ⟨g1, 0, none⟩)), (3, .pointer (some ⟨g3, 0, none⟩)), (4, .pointer (some ⟨g4, 0, none⟩)), (5, .func (.func 99) #[] #[.pointer (some ⟨g4, 0, none⟩), .pointer (some ⟨g3, 0, none⟩)]), (36, .slice m.A m.l.length m.c), (37, .int .i64 ((m.l.length : Nat) : Int)), (38, .int .i64 ((i : Nat) : Int)), (67, .slice x.A x.l.length x.c), (68, .int .i64 ((x.l.length : Nat) : Int)), (69, .int .i64 ((k : Nat) : Int)), (107, .slice y.A y.m.flags.length y.c), (108, .int .i64 ((y.m.flags.length : Nat) : Int)), (109, .int .i64 ((s : Nat) : Int))]) (fun s wr => s ≤ y.m.flags.length ∧ Blk wr g9 60 y.cells.toArray ∧ Blk wr g7 45 x.cells.toArray ∧ Blk wr g1 25 #[.slice m.A m.l.length m.c, .slice m.S m.ss.length m.d, .int .i64 m.v, .int .i64 m.b] ∧ Blk wr g4 130 #[.func (.func 97) #[] #[.pointer (some ⟨g3, 0, none⟩)]] ∧ dA wr g3 w.heap.size (kV bs2 y.m s) ∧ Frm [] w wr) (fun s => y.m.flags.length - s) 0 (js13 rfl rfl rfl rfl rfl rfl rfl rfl rfl rfl rfl rfl rfl) ⟨zae _, hb9, hb7, hb1, hb4, hI, K⟩ ?_
   rintro j wr3 ⟨hj, hb9, hb7, hb1, hb4, hI, K⟩
   have hp3 := qK1 (bs := bs2) hyR j
   refine jS (jR (jb rfl rfl (Bin.lssN _ _) (jO (jN (jS ?_)))))
   refine jD rfl (fun hc4 => ?_) fun hc4 => ?_
   ·
    obtain ⟨ad3, hA3, hcf⟩ := mU (hya.rd.frm K jp) hc4
    have hsuc3 := qXt (bs := bs2) (y := y.m) (j := j) hc4
    have hfl := hyR.f2 _ (zaa hc4)
    generalize hfq : y.m.flags[j] = fq at *
    refine jQ (jN (jv13 1 3 4 5 36 37 38 67 68 69 107 108 109 ?_))
    refine jS (jB (jS (jR (je (Run.indexS j (show _ = some (Value.slice (some ad3) y.m.flags.length y.c) by rw [← hA3]; rfl) rfl zc zm hc4) (jl rfl zx hcf (ja rfl (jO (jN (jv14 1 3 4 5 11 36 37 38 67 68 69 107 108 109 ?_)))))))))
    refine jR (jm rfl (jM ?_))
    refine Ops.cl (bQ.dyn rfl (evs.cons rfl evs.nil) Tryz.call99) (lU fq g4 g3 w.heap.size _ _ jo (by first | (simp only [zi, zbj, bK, bU]; omega) | omega) hI hb4 K.size) rfl ?_
    rintro e w23 ⟨rfl, hI, hTw23⟩
    have hb1 := hTw23.blk _ _ _ jd jd hb1
    have hb4 := hTw23.blk _ _ _ jd jd hb4
    have hb7 := hTw23.blk _ _ _ jd jd hb7
    have hb9 := hTw23.blk _ _ _ jd jd hb9
    have K := hTw23.frm w rfl K
    refine ⟨_, rfl, ?_⟩
    refine jO ?_
    refine qW (jN ?_)
    refine jv13 1 3 4 5 36 37 38 67 68 69 107 108 109 ?_
    refine jR (jb rfl rfl (Bin.add_i64 _ 1 jo) (jm rfl (jO ?_)))
    refine jN ⟨(j + 1), (js13 rfl rfl rfl rfl rfl rfl rfl rfl rfl rfl rfl rfl rfl), ?_, ?_⟩
    · exact ⟨hc4, hb9, hb7, hb1, hb4, by rw [hsuc3]; exact hI, K⟩
    first | omega | (dsimp only; omega)
   refine jX ?_
   refine qJ (qJ (qN ?_))
   refine qW (jN ?_)
   refine jv10 1 3 4 5 36 37 38 67 68 69 ?_
   refine jR (jb rfl rfl (Bin.add_i64 _ 1 jo) (jm rfl (jO ?_)))
   refine jN ⟨(k + 1), (js10 rfl rfl rfl rfl rfl rfl rfl rfl rfl rfl), ?_, ?_⟩
   ·
    obtain rfl : j = y.m.flags.length := jo
    rw [qJn] at hI
    exact ⟨hc3, hb7, hb1, hb4, by rw [hsuc2]; exact hI, K⟩
   first | omega | (dsimp only; omega)
  refine jX ?_
  refine qJ (qJ (qN ?_))
  refine qW (jN ?_)
  refine jv7 1 3 4 5 36 37 38 ?_
  refine jR (jb rfl rfl (Bin.add_i64 _ 1 jo) (jm rfl (jO ?_)))
  refine jN ⟨(i + 1), (js7 rfl rfl rfl rfl rfl rfl rfl), ?_, ?_⟩
  ·
   obtain rfl : k = x.l.length := jo
   rw [show x.l.length = x.p.2.l.length from (zah _).symm, qJm] at hI
   exact ⟨hc2, hb1, hb4, by rw [hsuc]; exact hI, K⟩
  first | omega | (dsimp only; omega)
 obtain rfl : i = m.l.length := jo
 refine jX ?_
 refine qJ (qJ (qN ?_))
 refine jN (jv4 1 3 4 5 ?_)
 refine jS (jR (jl rfl zcf (hb4.cell 0) (jf rfl zf rfl zaj (jl rfl zar (hb1.cell 1) (je (Run.lenS rfl zc) (je (Run.convN _ rfl zac zay (by simp only [bmax]; omega)) ?_))))))
 refine Ops.cl (bQ.dyn rfl (evs.cons rfl (evs.cons rfl evs.nil)) zcu) (cW m.ss.length 1 g3 w.heap.size _ _ jo jo jo (by first | (simp only [zi, zbj, bK, bU]; omega) | omega) hI K.size) rfl ?_
 rintro e w24 ⟨rfl, hI, hTw24⟩
 have hb1 := hTw24.blk _ _ _ jd jd hb1
 have hb4 := hTw24.blk _ _ _ jd jd hb4
 have K := hTw24.frm w rfl K
 refine ⟨_, rfl, ?_⟩
 refine jO (jN (jv3 1 3 5 ?_))
 refine jS (jS (jR (jf rfl zf rfl zaj (jl rfl zar (hb1.cell 1) (je (Run.lenS rfl zc) ?_)))))
 refine jx .i64 0 ?_
 refine jO (jN (jv5 3 5 126 127 128 ?_))
 refine jB ?_
 have hI : dA w24 g3 w.heap.size (fS m.p 0) := by rw [← qVx, hpl]; exact hI
 refine VC.loop (σ := Nat) (fun s => [(3, .pointer (some ⟨g3, 0, none⟩)), (5, .func (.func 99) #[] #[.pointer (some ⟨g4, 0, none⟩), .pointer (some ⟨g3, 0, none⟩)]), (126, .slice m.S m.ss.length m.d), (127, .int .i64 ((m.ss.length : Nat) : Int)), (128, .int .i64 ((s : Nat) : Int))]) (fun s wr => s ≤ m.ss.length ∧ Blk wr g1 25 #[.slice m.A m.l.length m.c, .slice m.S m.ss.length m.d, .int .i64 m.v, .int .i64 m.b] ∧ Blk wr g4 130 #[.func (.func 97) #[] #[.pointer (some ⟨g3, 0, none⟩)]] ∧ dA wr g3 w.heap.size (fS m.p s) ∧ Frm [] w wr) (fun s => m.ss.length - s) 0 (js5 rfl rfl rfl rfl rfl) ⟨zae _, hb1, hb4, hI, K⟩ ?_
 rintro j wr ⟨hj, hb1, hb4, hI, K⟩
 have hp4 := qK2 hrm j
 refine jS (jR (jb rfl rfl (Bin.lssN _ _) (jO (jN (jS ?_)))))
 refine jD rfl (fun hc5 => ?_) fun hc5 => ?_
 ·
  obtain ⟨ad4, hA4, hcs⟩ := mU (hm.s.frm K jp) hc5
  have hsuc4 := qXu (m := m.p) (j := j) hc5
  have hsl : (m.ss[j]).length ≤ 60 := hrm.s2 _ (zaa hc5)
  have hsuc4 : fS m.p (j + 1) = fS m.p j ++ txL m.ss[j] := hsuc4
  generalize hsq : m.ss[j] = sq at *
  refine jQ (jN (jv5 3 5 126 127 128 ?_))
  refine jS (jB (jS (jR (je (Run.indexS j (show _ = some (Value.slice (some ad4) m.ss.length m.d) by rw [← hA4]; rfl) rfl zc zm hc5) (jl rfl zx hcs (ja rfl (jO (jN (jv6 3 5 13 126 127 128 ?_)))))))))
  refine jR (jm rfl (jM ?_))
  refine Ops.cl (bQ.dyn rfl (evs.cons rfl evs.nil) Tryz.call99) (lU sq g4 g3 w.heap.size _ _ jo (by first | (simp only [zi, zbj, bK, bU]; omega) | omega) hI hb4 K.size) rfl ?_
  rintro e w25 ⟨rfl, hI, hTw25⟩
  have hb1 := hTw25.blk _ _ _ jd jd hb1
  have hb4 := hTw25.blk _ _ _ jd jd hb4
  have K := hTw25.frm w rfl K
  refine ⟨_, rfl, ?_⟩
  refine jO ?_
  refine qW (jN ?_)
  refine jv5 3 5 126 127 128 ?_
  refine jR (jb rfl rfl (Bin.add_i64 _ 1 jo) (jm rfl (jO ?_)))
  refine jN ⟨(j + 1), (js5 rfl rfl rfl rfl rfl), ?_, ?_⟩
  · exact ⟨hc5, hb1, hb4, by rw [hsuc4]; exact hI, K⟩
  first | omega | (dsimp only; omega)
 obtain rfl : j = m.ss.length := jo
 rw [show m.ss.length = m.p.subs.length from rfl, qJo] at hI
 obtain ⟨_, B, d, hbB, hoB, hob⟩ := hI
 refine jX ?_
 refine qJ (qJ (qN ?_))
 refine jN (jv1 3 ?_)
 refine jS (jR (jl rfl Tryz.isAgg76 (hbB.cell 0) (ja rfl (jO (jN (jv1 2 ?_))))))
 refine jT ?_
 refine qR rfl ?_
 have hE : fT m.p = pT m.p := if_pos hc1
 rw [hE]
 exact ⟨B, d, rfl, hoB, K⟩
end
section
open Go.RowKit Go.Sort
def stO (bs : Oc) (a e : Nat) : Rs := if e = 0 then some (bs.drop a) else none
def kW (w : World) (g : Nat) (A : Option Addr) (bs : Oc) (st : Rs) : Prop := ∃ c a e wh, zN w g A c bs a e wh ∧ a ≤ bs.length ∧ st = stO bs a e
theorem kW.frm {w w' : World} {g : Nat} {A : Option Addr} {bs : Oc} {st : Rs} {S : List Nat} (h : kW w g A bs st) (k : Frm S w w') (hS : ∀ x ∈ g :: ob A, x ∉ S) : kW w' g A bs st := by
 obtain ⟨c, a, e, wh, h1, h2⟩ := h
 exact ⟨c, a, e, wh, h1.frm k hS, h2⟩
theorem kW.nil {w w' : World} {g : Nat} {A : Option Addr} {bs : Oc} {st : Rs} (h : kW w g A bs st) (k : Frm [] w w') : kW w' g A bs st := h.frm k jp
theorem kW.lt {w : World} {g : Nat} {A : Option Addr} {bs : Oc} {st : Rs} (h : kW w g A bs st) : g < w.heap.size := by
 obtain ⟨c, a, e, wh, h1, h2⟩ := h
 exact h1.1.lt
end
section
open Go.RowKit Go.Sort
theorem kW.blk {w : World} {g : Nat} {A : Option Addr} {bs : Oc} {st : Rs} (h : kW w g A bs st) : ∃ cs, Blk w g 151 cs := by
 obtain ⟨c, a, e, wh, h1, _⟩ := h
 exact ⟨_, h1.1⟩
end
section
open Go.RowKit Go.Sort
theorem uG {w : World} {A : Option Addr} {xs : Oc} (h : Rd w 1 A xs.length (NB xs)) (hB : ∀ b ∈ xs, b < 256) : Lib.BytesIn w A xs.length (xs.map fun x : Nat => (x : Int)) := by
 intro hn
 obtain ⟨ad, rfl, hlt, hc⟩ := h.2 hn
 refine Lib.BytesIn.of_cells (fun i hi => ?_) hn
 rw [hc i _ (qXn xs i hi)]
 simp [zdc, zb hi]
theorem qJp {xs ys : Oc} (hx : ∀ b ∈ xs, b < 256) (hy : ∀ b ∈ ys, b < 256) : (Lib.bytesOf (xs.map fun x : Nat => (x : Int)) == Lib.bytesOf (ys.map fun x : Nat => (x : Int))) = decide (xs = ys) := by
 have e : ∀ zs : Oc, Lib.bytesOf (zs.map fun x : Nat => (x : Int)) = zs.map UInt8.ofNat := fun zs => by unfold Lib.bytesOf; rw [zcs]; rfl
 rw [e, e]
 by_cases h : xs = ys
 · rw [h, decide_eq_true rfl]; simp
 rw [decide_eq_false h, beq_eq_false_iff_ne]
 intro h2
 exact h (by rw [← wN hx, ← wN hy, h2])
theorem qJq (A B : Option Addr) (c d : Nat) (xs ys : Oc) (w : World) (hx : ∀ b ∈ xs, b < 256) (hy : ∀ b ∈ ys, b < 256) (h1 : Rd w 1 A xs.length (NB xs)) (h2 : Rd w 1 B ys.length (NB ys)) :
  Calls Tryz.prog 83 #[.slice A xs.length c, .slice B ys.length d] w fun e w' => e = .returned (.bool (decide (xs = ys))) ∧ w' = w := by
 refine Calls.mono (Tryz.bytes_Equal_all A B xs.length c ys.length d (xs.map fun x : Nat => (x : Int)) (ys.map fun x : Nat => (x : Int)) w (zah _) (zah _) (uG h1 hx) (uG h2 hy)) (fun e w' h => ?_)
 rw [qJp hx hy] at h
 exact h
theorem dX {a b : Oc} (ha : ∀ x ∈ a, x < 256) (hb : ∀ x ∈ b, x < 256) : ∀ x ∈ a ++ b, x < 256 := fun x hx => by
 rcases zds.1 hx with h | h
 · exact ha x h
 exact hb x h
theorem rZ {α : Type} {f : α → Oc} {l : List α} (h : ∀ x ∈ l, ∀ b ∈ f x, b < 256) : ∀ b ∈ l.flatMap f, b < 256 := fun b hb => by
 obtain ⟨x, hx, hb⟩ := List.mem_flatMap.1 hb
 exact h x hx b hb
theorem qXv (s : Tx) : ∀ b ∈ txL s, b < 256 := dX (cS _ _) (qWd s)
theorem wT (l : List Tx) : ∀ b ∈ rX l, b < 256 := dX (cS _ _) (rZ fun x _ => qXv x)
theorem qK3 (m : MsgP) : ∀ b ∈ kK m, b < 256 := dX (dX (dX (dX (dX (cS _ _) (cS _ _)) (cS _ _)) (cS _ _)) (cS _ _)) (wT _)
theorem qVy (x : NmP) : ∀ b ∈ nmL x, b < 256 := dX (qXv _) (dX (dX (dX (cS _ _) (cS _ _)) (cS _ _)) (rZ fun y _ => qK3 y))
theorem qJr (m : MailP) : ∀ b ∈ pT m, b < 256 := dX (dX (dX (dX (cS _ _) (cS _ _)) (cS _ _)) (rZ fun x _ => qVy x)) (wT _)
theorem wU (m : MailP) : ∀ b ∈ fT m, b < 256 := by
 unfold fT
 split
 · exact qJr m
 intro b hb; cases hb
def fE (a b : MailP) : Prop := bV a ∧ bV b ∧ fT a = fT b
instance (a b : MailP) : Decidable (fE a b) := by unfold fE; infer_instance
theorem zP (a b : MlC) (w : World) (ha : RdL w a) (hb : RdL w b) (hv : cQ w) :
  Calls Tryz.prog 29 #[a.val, b.val] w fun e w' => e = .returned (.bool (decide (fE a.p b.p))) ∧ Frm [] w w' := by
 refine VC.calls (nt := 18) (res := #[.tmp 4]) Tryz.func29 rfl Tryz.ntmps29 Tryz.results29 rfl ?_
 refine jS (jR ?_)
 refine Ops.m (qV.box rfl) rfl ?_
 rintro _ w1 ⟨rfl, hF1⟩
 have hb1 : Blk w1 w.heap.size 25 a.cells.toArray := hF1.blk
 have K := hF1.frm
 generalize hg1 : w.heap.size = g1 at hb1 ⊢
 refine Ops.m (qV.box rfl) rfl ?_
 rintro _ w2 ⟨rfl, hF2⟩
 have hb2 : Blk w2 w1.heap.size 25 b.cells.toArray := hF2.blk
 have hb1 := hb1.frm hF2.frm jp
 have K := K.trans hF2.frm jp
 generalize hg2 : w1.heap.size = g2 at hb2 ⊢
 refine ja rfl (jO (jN (jv2 2 3 ?_)))
 refine jS ?_
 refine VC.meet (σ := Unit) (fun s => [(4, .bool (decide (fE a.p b.p)))]) (fun s wz => Frm [] w2 wz) ?_ ?_
 ·
  refine VC.held (fun W => Frm [] w2 W) jK ?_
  have hS : Frm [] w2 w2.drew := (Frm.refl _ _).drew
  refine jH 0 rfl hS (fun w0 hw0 => Run.loadA rfl zo zh (fun j v hj => (hb1.frm hw0 jp).cells j v hj) (by first | rfl | (simp; done))) ?_
  refine qQ.cl 1 rfl jK (jE1 zdo) (cO a _ ((ha.frm K).frm hS) ((hv.frm K).frm hS)) trivial rfl rfl ?_
  rintro e w3 ⟨rfl, hf3⟩
  have hS := hS.trans hf3 jp
  refine ⟨_, rfl, hS, ?_⟩
  by_cases hs6 : bV a.p
  ·
   refine jH 2 rfl hS (fun w0 hw0 => Run.mv rfl) ?_
   refine qQ.take 3 rfl jK jK jK hS (fun w0 hw0 => Run.loadA rfl zo zh (fun j v hj => (hb2.frm hw0 jp).cells j v hj) (by first | rfl | (simp; done))) (Up.g rfl (by first | rfl | exact decide_eq_true hs6 | (simp [hs6]; done))) rfl rfl ?_
   refine qQ.cl 4 rfl jK (jE1 zdo) (cO b _ ((hb.frm K).frm hS) ((hv.frm K).frm hS)) (Up.g rfl (by first | rfl | exact decide_eq_true hs6 | (simp [hs6]; done))) rfl rfl ?_
   rintro e w4 ⟨rfl, hf4⟩
   have hS := hS.trans hf4 jp
   refine ⟨_, rfl, hS, ?_⟩
   by_cases hs9 : bV b.p
   ·
    refine jH 5 rfl hS (fun w0 hw0 => Run.pickT rfl rfl (by first | rfl | exact decide_eq_true hs6 | exact decide_eq_true hs9 | (simp [hs6]; done) | (simp [hs9]; done))) ?_
    refine jH 6 rfl hS (fun w0 hw0 => Run.mv rfl) ?_
    refine qQ.take 7 rfl jK jK jK hS (fun w0 hw0 => Run.loadA rfl zo zh (fun j v hj => (hb1.frm hw0 jp).cells j v hj) (by first | rfl | (simp; done))) (Up.g rfl (by first | rfl | exact decide_eq_true hs6 | exact decide_eq_true hs9 | (simp [hs6]; done) | (simp [hs9]; done))) rfl rfl ?_
    refine qQ.take 9 rfl jK jK jK hS (fun w0 hw0 => Run.loadA rfl zo zh (fun j v hj => (hb2.frm hw0 jp).cells j v hj) (by first | rfl | (simp; done))) (Up.g rfl (by first | rfl | exact decide_eq_true hs6 | exact decide_eq_true hs9 | (simp [hs6]; done) | (simp [hs9]; done))) rfl rfl ?_
    refine qQ.cl 8 rfl jK (jE1 Tryz.call43) (nQ a _ ((ha.frm K).frm hS) ((hv.frm K).frm hS)) (Up.g rfl (by first | rfl | exact decide_eq_true hs6 | exact decide_eq_true hs9 | (simp [hs6]; done) | (simp [hs9]; done))) rfl rfl ?_
    rintro e w5 ⟨A5, d5, rfl, ho5, hf5⟩
    have hS := hS.trans hf5 jp
    refine ⟨_, rfl, hS, ?_⟩
    refine qQ.cl 10 rfl jK (jE1 Tryz.call43) (nQ b _ ((hb.frm K).frm hS) ((hv.frm K).frm hS)) (Up.g rfl (by first | rfl | exact decide_eq_true hs6 | exact decide_eq_true hs9 | (simp [hs6]; done) | (simp [hs9]; done))) rfl rfl ?_
    rintro e w6 ⟨A6, d6, rfl, ho6, hf6⟩
    have hS := hS.trans hf6 jp
    have ho5 := ho5.frm hf6 jp
    refine ⟨_, rfl, hS, ?_⟩
    refine qQ.cl 11 rfl jK (jE2 Tryz.call83) (qJq A5 A6 d5 d6 (fT a.p) (fT b.p) _ (wU _) (wU _) ho5.rd ho6.rd) (Up.g rfl (by first | rfl | exact decide_eq_true hs6 | exact decide_eq_true hs9 | (simp [hs6]; done) | (simp [hs9]; done))) rfl rfl ?_
    rintro e _ ⟨rfl, rfl⟩
    refine ⟨_, rfl, hS, ?_⟩
    by_cases hs16 : fT a.p = fT b.p
    ·
     refine jH 12 rfl hS (fun w0 hw0 => Run.pickT rfl rfl (by first | rfl | exact decide_eq_true hs6 | exact decide_eq_true hs9 | exact decide_eq_true hs16 | (simp [hs6]; done) | (simp [hs9]; done) | (simp [hs16]; done))) ?_
     refine jH 13 rfl hS (fun w0 hw0 => Run.asg rfl) ?_
     refine qQ.done jK ?_
     refine jN ⟨(), (js1 (jC (by unfold fE; grind))), ?_⟩
     exact hS
    refine jH 12 rfl hS (fun w0 hw0 => Run.pickT rfl rfl (by first | rfl | exact decide_eq_true hs6 | exact decide_eq_true hs9 | exact decide_eq_false hs16 | (simp [hs6]; done) | (simp [hs9]; done) | (simp [hs16]; done))) ?_
    refine jH 13 rfl hS (fun w0 hw0 => Run.asg rfl) ?_
    refine qQ.done jK ?_
    refine jN ⟨(), (js1 (jC (by unfold fE; grind))), ?_⟩
    exact hS
   refine jH 5 rfl hS (fun w0 hw0 => Run.pickT rfl rfl (by first | rfl | exact decide_eq_true hs6 | exact decide_eq_false hs9 | (simp [hs6]; done) | (simp [hs9]; done))) ?_
   refine jH 6 rfl hS (fun w0 hw0 => Run.mv rfl) ?_
   refine qQ.skip 7 rfl jK jK jK hS rfl rfl (by first | rfl | exact decide_eq_true hs6 | exact decide_eq_false hs9 | (simp [hs6]; done) | (simp [hs9]; done)) rfl rfl ?_
   refine qQ.skip 8 rfl jK jK jK hS rfl rfl (by first | rfl | exact decide_eq_true hs6 | exact decide_eq_false hs9 | (simp [hs6]; done) | (simp [hs9]; done)) rfl rfl ?_
   refine qQ.skip 9 rfl jK jK jK hS rfl rfl (by first | rfl | exact decide_eq_true hs6 | exact decide_eq_false hs9 | (simp [hs6]; done) | (simp [hs9]; done)) rfl rfl ?_
   refine qQ.skip 10 rfl jK jK jK hS rfl rfl (by first | rfl | exact decide_eq_true hs6 | exact decide_eq_false hs9 | (simp [hs6]; done) | (simp [hs9]; done)) rfl rfl ?_
   refine qQ.skip 11 rfl jK jK jK hS rfl rfl (by first | rfl | exact decide_eq_true hs6 | exact decide_eq_false hs9 | (simp [hs6]; done) | (simp [hs9]; done)) rfl rfl ?_
   refine jH 12 rfl hS (fun w0 hw0 => Run.pickF rfl rfl (by first | rfl | exact decide_eq_true hs6 | exact decide_eq_false hs9 | (simp [hs6]; done) | (simp [hs9]; done))) ?_
   refine jH 13 rfl hS (fun w0 hw0 => Run.asg rfl) ?_
   refine qQ.done jK ?_
   refine jN ⟨(), (js1 (jC (by unfold fE; grind))), ?_⟩
   exact hS
  refine jH 2 rfl hS (fun w0 hw0 => Run.mv rfl) ?_
  refine qQ.skip 3 rfl jK jK jK hS rfl rfl (by first | rfl | exact decide_eq_false hs6 | (simp [hs6]; done)) rfl rfl ?_
  refine qQ.skip 4 rfl jK jK jK hS rfl rfl (by first | rfl | exact decide_eq_false hs6 | (simp [hs6]; done)) rfl rfl ?_
  refine jH 5 rfl hS (fun w0 hw0 => Run.pickF rfl rfl (by first | rfl | exact decide_eq_false hs6 | (simp [hs6]; done))) ?_
  refine jH 6 rfl hS (fun w0 hw0 => Run.mv rfl) ?_
  refine qQ.skip 7 rfl jK jK jK hS rfl rfl (by first | rfl | exact decide_eq_false hs6 | (simp [hs6]; done)) rfl rfl ?_
  refine qQ.skip 8 rfl jK jK jK hS rfl rfl (by first | rfl | exact decide_eq_false hs6 | (simp [hs6]; done)) rfl rfl ?_
  refine qQ.skip 9 rfl jK jK jK hS rfl rfl (by first | rfl | exact decide_eq_false hs6 | (simp [hs6]; done)) rfl rfl ?_
  refine qQ.skip 10 rfl jK jK jK hS rfl rfl (by first | rfl | exact decide_eq_false hs6 | (simp [hs6]; done)) rfl rfl ?_
  refine qQ.skip 11 rfl jK jK jK hS rfl rfl (by first | rfl | exact decide_eq_false hs6 | (simp [hs6]; done)) rfl rfl ?_
  refine jH 12 rfl hS (fun w0 hw0 => Run.pickF rfl rfl (by first | rfl | exact decide_eq_false hs6 | (simp [hs6]; done))) ?_
  refine jH 13 rfl hS (fun w0 hw0 => Run.asg rfl) ?_
  refine qQ.done jK ?_
  refine jN ⟨(), (js1 (jC (by unfold fE; grind))), ?_⟩
  exact hS
 rintro _ wz hfz Γ hΓ
 have K := K.trans hfz jp
 refine jN (VC.sub _ hΓ ?_)
 refine jT ?_
 refine qR rfl ?_
 exact ⟨rfl, K⟩
structure OwD (w : World) (m : MlC) : Prop where
 l : Own w 45 4 m.A m.l.length m.c (NDC m.l)
 el : ∀ x ∈ m.l, OwM w x.A x.c x.l ∧ x.l.length ≤ 900000 ∧ x.nm.length ≤ 1000000
 s : Own w 9 1 m.S m.ss.length m.d (SB m.ss)
 ln : m.l.length ≤ 1000000
 sn : m.ss.length ≤ 1000000
 sq : ∀ q ∈ m.ss, q.length ≤ 1000000
theorem OwD.frm {w w' : World} {m : MlC} (h : OwD w m) (k : Frm [] w w') : OwD w' m := ⟨h.l.frm k jp, fun x hx => ⟨(h.el x hx).1.frm k, (h.el x hx).2⟩, h.s.frm k jp, h.ln, h.sn, h.sq⟩
theorem OwD.rdl {w : World} {m : MlC} (h : OwD w m) : RdL w m := ⟨⟨h.l.rd, fun x hx => ⟨(h.el x hx).1.rdm, (h.el x hx).2.1, (h.el x hx).2.2⟩⟩, h.s.rd, h.l.le, h.s.le, h.ln, h.sn, h.sq⟩
theorem OwD.blk {w w' : World} {m : MlC} {g : Nat} {t : TypeId} {cs : Array Value} (h : OwD w m) (k : Frm [g] w w') (hb : Blk w g t cs) (h0 : 45 ≠ t) (h1 : 60 ≠ t) (h2 : 9 ≠ t) : OwD w' m :=
 ⟨h.l.frm k (fun y hy h' => by rw [za] at h'; subst h'; exact h.l.ne_blk hb h0 hy), fun x hx => ⟨(h.el x hx).1.blk k hb h1 h2, (h.el x hx).2⟩, h.s.frm k (fun y hy h' => by rw [za] at h'; subst h'; exact h.s.ne_blk hb h2 hy), h.ln, h.sn, h.sq⟩
end
section
open Go.RowKit Go.Sort
theorem qJ5 {w : World} {A : Option Addr} {c : Nat} {l : List Nat} {i : Nat} (h : Own w 40 1 A l.length c (UB l)) (hi : i < l.length) : ∃ ad, A = some ad ∧ ∀ W, Frm [] w W → W.cell? (ad.add i) = some (.int .u64 ((l[i] : Nat) : Int)) := by
 have hr : Rd w 1 A l.length (UB l) := h.rd
 obtain ⟨ad, h1, _, _⟩ := hr.2 jo
 refine ⟨ad, h1, fun W hW => ?_⟩
 have hr2 : Rd W 1 A l.length (UB l) := (h.frm hW jp).rd
 obtain ⟨ad2, h2, _, hc⟩ := hr2.2 jo
 rw [h1] at h2
 cases h2
 exact hc i _ (by simp [UB, hi])
end
section
open Go.RowKit Go.Sort
theorem qXw (m : MailP) : fE m m ↔ bV m := ⟨fun h => h.1, fun h => ⟨h, h, rfl⟩⟩
def pB (g : Nat) : MlC := ⟨some ⟨g, 0, none⟩, 1, [⟨qC, 1, 1, none, 0, []⟩], none, 0, [], 1, 0⟩
theorem qK4 (g : Nat) : qZn = (pB g).p := rfl
theorem qJs {w : World} {g : Nat} (h : Rd w 4 (some ⟨g, 0, none⟩) 1 (NDC [⟨qC, 1, 1, none, 0, []⟩])) : RdL w (pB g) :=
 ⟨⟨h, fun x hx => by
  rw [show (pB g).l = [⟨qC, 1, 1, none, 0, []⟩] from rfl, za] at hx
  subst hx
  exact ⟨RdM.nil _ _, jd, jd⟩⟩, Rd.nil _ _ _, zw _, zw _, by show 1 ≤ 1000000; decide, by show 0 ≤ 1000000; decide, by intro q hq; cases hq⟩
theorem qJt {m : MlC} {q : Tx} (h : bV m.p) : (eO m.p q = none → atR (Ns m.l) (qS q) < 0) ∧ ∀ b, eO m.p q = some b → ∃ k : Nat, atR (Ns m.l) (qS q) = (k : Int) ∧ ∃ hk : k < m.l.length, (m.l[k]).p.2 = b := by
 have hf : eO m.p q = hU m.p.l (qS q) := if_pos h
 have hr := sO h
 have key : ¬ atR (Ns m.l) (qS q) < 0 → ∃ k : Nat, atR (Ns m.l) (qS q) = (k : Int) ∧ ∃ hk : k < m.l.length, hU m.p.l (qS q) = some (m.l[k]).p.2 := fun h1 => by
  obtain ⟨k, h2, hk, he⟩ := qVn h1
  exact ⟨k, h2, hk, qQ7 hr hk he⟩
 refine ⟨fun hn => ?_, fun b hb => ?_⟩
 ·
  by_cases h1 : atR (Ns m.l) (qS q) < 0
  · exact h1
  obtain ⟨k, _, hk, e⟩ := key h1
  rw [hf, e] at hn
  cases hn
 rw [hf] at hb
 have h1 : ¬ atR (Ns m.l) (qS q) < 0 := fun h1 => by
  have := pX (qKu.1 h1)
  rw [show m.p.l = Ns m.l from rfl] at hb
  rw [this] at hb
  cases hb
 obtain ⟨k, h2, hk, e⟩ := key h1
 rw [e] at hb
 exact ⟨k, h2, hk, Option.some.inj hb⟩
set_option maxHeartbeats 2000000 in
theorem zR (m : MlC) (q : Tx) (subs : Bool) (w : World) (hm : RawL w m) (hbb : m.b ≤ 9223372036854775807) (hv : cQ w) :
  Calls Tryz.prog 7 #[m.val, encStr q, .bool subs] w fun e w' => e = .returned (.bool true) ∧ Frm [] w w' := by
 have hq70 : (q.take 70).length ≤ 70 := zdl _ _
 obtain ⟨q7, hq7⟩ : ∃ q7, q7 = q.take 70 := ⟨_, rfl⟩
 rw [← hq7] at hq70
 refine VC.calls (nt := 129) (res := #[.tmp 6]) Tryz.func7 rfl Tryz.ntmps7 Tryz.results7 rfl ?_
 refine jS (jR ?_)
 refine Ops.m (qV.box rfl) rfl ?_
 rintro _ w1 ⟨rfl, hF1⟩
 have hb3 : Blk w1 w.heap.size 25 m.cells.toArray := hF1.blk
 have hk3 : w.heap.size ≤ w.heap.size := zw _
 have K := hF1.frm
 have hl3 := hb3.lt
 generalize hg3e : w.heap.size = g3 at hb3 hk3 hl3 ⊢
 refine ja rfl (jO (jN (jv3 1 2 3 ?_)))
 refine jS (jR (je (Run.loadA rfl zo zh (fun j v hj => hb3.cells j v hj) (by first | rfl | (simp; done))) ?_))
 refine Ops.cl (jE1 Tryz.call11) (yU m _ (hm.frm K)) rfl ?_
 rintro e w2 ⟨m1, rfl, hp1, hO1, hv1, _, hf2⟩
 have hb3 := hb3.frm hf2 jp
 have K := K.trans hf2 jp
 refine ⟨_, rfl, ?_⟩
 refine jM ?_
 refine Ops.cl (jE1 Tryz.call12) (kX q _) rfl ?_
 rintro e _ ⟨rfl, rfl⟩
 refine ⟨_, rfl, ?_⟩
 rw [← hq7]
 have hbo := hb3
 refine Ops.st (qP.storeA rfl rfl zh hb3 rfl (MlC.cells_one m1)) ?_
 rintro w3 ⟨hbn, (hf3 : Frm [g3] _ _), hs3⟩
 have hb3 : Blk w3 g3 25 m1.cells.toArray := hbn
 have hO1 := hO1.blk hf3 hbo jd jd jd
 have K := K.own hf3 (fun y hy => by rw [za] at hy; omega)
 refine ja rfl (jO (jN (jv3 1 2 3 ?_)))
 refine jS (jR (je (Run.loadA rfl zo zh (fun j v hj => hb3.cells j v hj) (by first | rfl | (simp; done))) ?_))
 refine Ops.cl (jE1 Tryz.call26) (yN m1 _ hO1.rdl (by rw [hv1]; exact hbb)) rfl ?_
 rintro e w4 ⟨rfl, hf4⟩
 have hb3 := hb3.frm hf4 jp
 have hO1 := hO1.frm hf4
 have K := K.trans hf4 jp
 refine ⟨_, rfl, ?_⟩
 refine ja rfl (jO (jN (jv4 1 2 3 7 ?_)))
 refine jS (jR (je (Run.loadA rfl zo zh (fun j v hj => hb3.cells j v hj) (by first | rfl | (simp; done))) (jM ?_)))
 refine Ops.cl (jE2 Tryz.call23) (lG m1 q7 _ hO1.rdl jo (hv.frm K)) rfl ?_
 rintro e w5 ⟨v, n, B, d, lm, b, rfl, hoM, hfd, hf5⟩
 have hb3 := hb3.frm hf5 jp
 have hO1 := hO1.frm hf5
 have K := K.trans hf5 jp
 refine ⟨_, rfl, ?_⟩
 refine jm rfl (je (Run.extract rfl rfl) (je (Run.extract rfl rfl) ?_))
 refine Ops.m (qV.alloc cN) rfl ?_
 rintro _ w6 ⟨rfl, hF6⟩
 have hb8 := hF6.blk
 have hl3 := hb3.lt
 have hk8 := K.size
 have hb3 := hb3.frm hF6.frm jp
 have hO1 := hO1.frm hF6.frm
 have K := K.trans hF6.frm jp
 have hoM := hoM.frm hF6.frm
 generalize hg8e : w5.heap.size = g8 at hb8 hk8 hl3 ⊢
 have hbo := hb8
 refine Ops.st (qP.storeA rfl rfl zu hb8 rfl (cR v n B lm.length d)) ?_
 rintro w7 ⟨hbn, (hf7 : Frm [g8] _ _), hs7⟩
 have hb8 : Blk w7 g8 43 (BVc v n B lm.length d).toArray := hbn
 have hb3 := hb3.frm hf7 (by simp; omega)
 have hO1 := hO1.blk hf7 hbo jd jd jd
 have hoM := hoM.blk hf7 hbo jd jd
 have K := K.own hf7 (fun y hy => by rw [za] at hy; omega)
 refine ja rfl (jO (jN (jv6 1 2 3 7 8 9 ?_)))
 refine jS (jR (je (Run.loadA rfl zo zh (fun j v hj => hb3.cells j v hj) (by first | rfl | (simp; done))) (jm rfl (jM ?_))))
 refine Ops.cl (jE3 Tryz.call27) (pH m1 q7 subs _ hO1.rdl jo (hv.frm K)) rfl ?_
 rintro e w8 ⟨Bs, ds, ss, rfl, hoS, hss, _, hf8⟩
 have hb3 := hb3.frm hf8 jp
 have hO1 := hO1.frm hf8
 have K := K.trans hf8 jp
 have hb8 := hb8.frm hf8 jp
 have hoM := hoM.frm hf8
 refine ⟨_, rfl, ?_⟩
 refine ja rfl (jO (jN (jv7 1 2 3 7 8 9 10 ?_)))
 refine jS (jR (je (Run.loadA rfl zo zh (fun j v hj => hb3.cells j v hj) (by first | rfl | (simp; done))) ?_))
 refine Ops.cl (jE1 Tryz.call20) (vP m1 _ hO1.rdl (hv.frm K)) rfl ?_
 rintro e w9 ⟨Bb, cb, ls, rfl, hoB, hnub, hnil, hf9⟩
 have hb3 := hb3.frm hf9 jp
 have hO1 := hO1.frm hf9
 have K := K.trans hf9 jp
 have hb8 := hb8.frm hf9 jp
 have hoM := hoM.frm hf9
 have hoS := hoS.frm hf9 jp
 refine ⟨_, rfl, ?_⟩
 refine ja rfl (jO (jN (jv8 1 2 3 7 8 9 10 11 ?_)))
 refine jS (jS (jR (je (Run.loadA rfl zo zh (fun j v hj => hb3.cells j v hj) (by first | rfl | (simp; done))) ?_)))
 refine Ops.cl (jE1 zdo) (cO m1 _ hO1.rdl (hv.frm K)) rfl ?_
 rintro e w10 ⟨rfl, hf10⟩
 have hb3 := hb3.frm hf10 jp
 have hO1 := hO1.frm hf10
 have K := K.trans hf10 jp
 have hb8 := hb8.frm hf10 jp
 have hoM := hoM.frm hf10
 have hoS := hoS.frm hf10 jp
 have hoB := hoB.frm hf10 jp
 refine ⟨_, rfl, ?_⟩
 refine jm rfl (je (Run.neqB rfl rfl zbd) (jM ?_))
 refine Ops.clg rfl au (jE0 Tryz.call28) (rB _) rfl ?_
 rintro e w11 ⟨m0, rfl, hm0, ⟨S0, hk0⟩, hf11⟩
 have hb3 := hb3.frm hf11 jp
 have hO1 := hO1.frm hf11
 have K := K.trans hf11 jp
 have hb8 := hb8.frm hf11 jp
 have hoM := hoM.frm hf11
 have hoS := hoS.frm hf11 jp
 have hoB := hoB.frm hf11 jp
 have hm0R := hk0.now (RdL.zero _)
 refine ⟨_, rfl, ?_⟩
 refine jk (Run.build (evs.cons rfl (evs.cons rfl evs.nil)) cN (cB).choose_spec.1 (cB).choose_spec.2 rfl) ?_
 refine jk (Run.build (evs.cons rfl (evs.cons rfl evs.nil)) cJ (dL).choose_spec.1 (dL).choose_spec.2 rfl) ?_
 refine Ops.mg rfl au (qV.buildS1 rfl zg zq cJ jd jd rfl rfl) rfl ?_
 rintro _ w12 ⟨rfl, hF12⟩
 have hr12 : Rd w12 4 (some ⟨w11.heap.size, 0, none⟩) 1 (NDC [⟨qC, 1, 1, none, 0, []⟩]) := sG (x := ⟨qC, 1, 1, none, 0, []⟩) hF12
 have hb3 := hb3.frm hF12.frm jp
 have hO1 := hO1.frm hF12.frm
 have K := K.trans hF12.frm jp
 have hb8 := hb8.frm hF12.frm jp
 have hoM := hoM.frm hF12.frm
 have hoS := hoS.frm hF12.frm jp
 have hoB := hoB.frm hF12.frm jp
 have hm0R := hm0R.frm hF12.frm
 refine jk (Run.build (evs.cons rfl (evs.cons rfl evs.nil)) bW (qI).choose_spec.1 (qI).choose_spec.2 rfl) ?_
 refine Ops.clg rfl au (jE2 Tryz.call15) (vK m0 (pB w11.heap.size) _ hm0R (qJs hr12)) rfl ?_
 rintro e w13 ⟨rfl, hf13⟩
 have hb3 := hb3.frm hf13 jp
 have hO1 := hO1.frm hf13
 have K := K.trans hf13 jp
 have hb8 := hb8.frm hf13 jp
 have hoM := hoM.frm hf13
 have hoS := hoS.frm hf13 jp
 have hoB := hoB.frm hf13 jp
 rw [decide_eq_true (show m0.p = (pB w11.heap.size).p from hm0.trans (qK4 _))]
 refine ⟨_, rfl, ?_⟩
 refine jk (Run.not rfl) ?_
 refine je (Run.pickF rfl rfl au) (jM ?_)
 refine jk (Run.loadA rfl zo zh (fun j v hj => hb3.cells j v hj) (by first | rfl | (simp; done))) ?_
 refine jk (Run.loadA rfl zo zh (fun j v hj => hb3.cells j v hj) (by first | rfl | (simp; done))) ?_
 refine Ops.clg rfl au (jE2 Tryz.call29) (zP m1 m1 _ hO1.rdl hO1.rdl (hv.frm K)) rfl ?_
 rintro e w14 ⟨rfl, hf14⟩
 have hb3 := hb3.frm hf14 jp
 have hO1 := hO1.frm hf14
 have K := K.trans hf14 jp
 have hb8 := hb8.frm hf14 jp
 have hoM := hoM.frm hf14
 have hoS := hoS.frm hf14 jp
 have hoB := hoB.frm hf14 jp
 rw [show decide (fE m1.p m1.p) = decide (bV m1.p) from decide_eq_decide.2 (qXw _)]
 refine ⟨_, rfl, ?_⟩
 refine jG ?_
 refine jk (Run.neqB rfl rfl zbd) ?_
 refine je (Run.pickF rfl rfl au) (jO (jN (jv9 1 2 3 7 8 9 10 11 52 ?_)))
 refine VC.condF rfl jp ?_
 refine jQ (jN (jv8 1 2 3 7 8 9 10 11 ?_))
 refine jS (jS (jR (jm rfl (je (Run.not rfl) (jO (jN (jv8 1 2 3 8 9 10 11 54 ?_)))))))
 refine VC.condB rfl (fun hc2 => ?_) (fun hc2 => ?_)
 ·
  have hc2 : ¬ bV m1.p := by simpa using hc2
  obtain ⟨rfl, rfl, rfl, rfl, rfl, rfl⟩ : b = false ∧ v = 0 ∧ n = 0 ∧ B = none ∧ d = 0 ∧ lm = [] := by
   rcases hfd with ⟨_, h⟩ | ⟨h1, _, h2, h3, h4, h5, h6⟩
   · unfold eO at h; rw [if_neg hc2] at h; cases h
   exact ⟨h1, h2, h3, h4, h5, h6⟩
  obtain rfl : ss = [] := by rw [hss]; exact if_neg hc2
  obtain rfl := hnil hc2
  refine jS (jR (jm rfl (je (Run.not rfl) (jM ?_))))
  refine jk (Run.loadA rfl zaz zu (fun j v hj => hb8.cells j v hj) (by first | rfl | (simp; done))) ?_
  refine jk (Run.build evs.nil cN (cB).choose_spec.1 (cB).choose_spec.2 rfl) ?_
  refine Ops.clg rfl au (jE2 Tryz.call22) (kQ 0 0 0 0 none none 0 0 [] [] _ (RdM.nil _ _) (RdM.nil _ _) jd jd) rfl ?_
  rintro e w15 ⟨rfl, hf15⟩
  have K := K.trans hf15 jp
  rw [decide_eq_true ⟨rfl, rfl, rfl⟩]
  refine ⟨_, rfl, ?_⟩
  refine je (Run.pickT rfl rfl au) (jM ?_)
  refine jG ?_
  refine jk (Run.lenS rfl zc) ?_
  refine jk (Run.bin rfl rfl (Bin.eqlN _ 0)) ?_
  refine je (Run.pickT rfl rfl au) (jM ?_)
  refine jG ?_
  refine jk (Run.lenS rfl ze) ?_
  refine jk (Run.bin rfl rfl (Bin.eqlN _ 0)) ?_
  refine je (Run.pickT rfl rfl au) (jM ?_)
  refine Ops.clg rfl au (jE0 Tryz.call16) (mP _ (hv.frm K)) rfl ?_
  rintro e w16 ⟨rfl, hfw16⟩
  have K := K.trans hfw16 jp
  refine ⟨_, rfl, ?_⟩
  refine je (Run.pickT rfl rfl au) (ja rfl (jO (jN (jv1 6 ?_))))
  refine jT ?_
  refine qZ (qR rfl ?_)
  exact ⟨rfl, K⟩
 have hc2 : bV m1.p := by simpa using hc2
 have hnub := hnub hc2
 have hfa := qJt (q := q7) hc2
 have hmln := hO1.ln
 have hssl : ss.length ≤ 1000000 := by
  rw [hss, mO hc2]
  unfold zY
  refine zax (zce _ _) ?_
  split
  ·
   have : m1.p.subs.length ≤ 25 := hO1.sn
   omega
  rw [zah, dK]
  omega
 refine jQ (jN (jv7 1 2 3 8 9 10 11 ?_))
 refine jS (jR (jf rfl zf rfl zaf (jl rfl zap (hb3.cell 0) (jM ?_))))
 refine Ops.cl (jE2 Tryz.call30) (qZ0 m1.A m1.c m1.l q7 _ hO1.rdl.l jo jo) rfl ?_
 rintro e w17 ⟨rfl, hf17⟩
 have hb3 := hb3.frm hf17 jp
 have hO1 := hO1.frm hf17
 have K := K.trans hf17 jp
 have hb8 := hb8.frm hf17 jp
 have hoM := hoM.frm hf17
 have hoS := hoS.frm hf17 jp
 have hoB := hoB.frm hf17 jp
 obtain ⟨at_, hat⟩ : ∃ at_, at_ = atR (Ns m1.l) (qS q7) := ⟨_, rfl⟩
 rw [← hat] at hfa ⊢
 refine ⟨_, rfl, ?_⟩
 have hbat : (b != decide (0 ≤ at_)) = false := by
  rcases hfd with ⟨h1, h2⟩ | ⟨h1, h2, _⟩
  ·
   obtain ⟨k, hk, _⟩ := hfa.2 _ h2
   rw [h1, decide_eq_true jo]; rfl
  have := hfa.1 h2
  rw [h1, decide_eq_false jo]; rfl
 refine ja rfl (jO (jN (jv8 1 2 3 8 9 10 11 12 ?_)))
 refine jS (jS ?_)
 refine VC.meet (σ := Unit) (fun s => [(3, .pointer (some ⟨g3, 0, none⟩)), (11, .slice Bb ls.length cb), (105, .bool (decide (False)))]) (fun s wz => Frm [] w17 wz) ?_ ?_
 ·
  refine VC.held (fun W => Frm [] w17 W) jK ?_
  have hS : Frm [] w17 w17.drew := (Frm.refl _ _).drew
  refine jH 0 rfl hS (fun w0 hw0 => Run.mv rfl) ?_
  refine jH 1 rfl hS (fun w0 hw0 => Run.mv rfl) ?_
  refine jH 2 rfl hS (fun w0 hw0 => Run.bin rfl rfl (Bin.geq _ 0)) ?_
  refine jH 3 rfl hS (fun w0 hw0 => Run.neqB rfl rfl zbd) ?_
  rw [hbat]
  refine jH 4 rfl hS (fun w0 hw0 => Run.mv rfl) ?_
  refine qQ.take 5 rfl jK jK jK hS (fun w0 hw0 => Run.mv rfl) (Up.g rfl (by first | rfl)) rfl rfl ?_
  refine qQ.take 6 rfl jK jK jK hS (fun w0 hw0 => Run.mv rfl) (Up.g rfl (by first | rfl)) rfl rfl ?_
  by_cases hs85 : b = true
  ·
   obtain ⟨k, hk, hkl, hkb⟩ : ∃ k : Nat, at_ = (k : Int) ∧ ∃ hk : k < m1.l.length, (m1.l[k]).p.2 = ⟨v, n, Ms lm⟩ := by
    rcases hfd with ⟨_, h2⟩ | ⟨h1, _⟩
    · exact hfa.2 _ h2
    rw [h1] at hs85; cases hs85
   rw [hk]
   obtain ⟨ad, hA, _⟩ := hO1.rdl.l.elem hkl
   have helw : ∀ W, Frm [] w17 W → ∀ j v, (m1.l[k]).cells[j]? = some v → W.cell? ((ad.add (k * 4)).add j) = some v := fun W hW j v hj => by
    obtain ⟨ad', hA', h⟩ := (hO1.rdl.frm hW).l.elem hkl
    rw [hA] at hA'
    cases hA'
    exact h j v hj
   have hxa := hO1.rdl.l.el _ (zaa hkl)
   generalize hx : m1.l[k] = x at *
   have hlm : lm.length ≤ 900000 := by
    have h1 : (Ms x.l).length = (Ms lm).length := congrArg (fun b : BoxV => b.l.length) hkb
    rw [zah, zah] at h1
    have := hxa.n
    omega
   refine qQ.take 7 rfl jK jK jK hS (fun w0 hw0 => Run.loadA rfl zaz zu (fun j v hj => (hb8.frm hw0 jp).cells j v hj) (by first | rfl | (simp; done))) (Up.g rfl (by first | rfl | exact decide_eq_true hs85 | (simp [hs85]; done))) rfl rfl ?_
   refine qQ.take 8 rfl jK jK jK hS (fun w0 hw0 => Run.fieldAddr rfl zf rfl zaf jd) (Up.g rfl (by first | rfl | exact decide_eq_true hs85 | (simp [hs85]; done))) rfl rfl ?_
   refine qQ.take 9 rfl jK jK jK hS (fun w0 hw0 => Run.load rfl zap ((hb3.frm hw0 jp).cell 0)) (Up.g rfl (by first | rfl | exact decide_eq_true hs85 | (simp [hs85]; done))) rfl rfl ?_
   refine qQ.take 10 rfl jK jK jK hS (fun w0 hw0 => Run.mv rfl) (Up.g rfl (by first | rfl | exact decide_eq_true hs85 | (simp [hs85]; done))) rfl rfl ?_
   refine qQ.take 11 rfl jK jK jK hS (fun w0 hw0 => Run.indexS k (show _ = some (Value.slice (some ad) m1.l.length m1.c) by rw [← hA]; rfl) rfl zg zq hkl) (Up.g rfl (by first | rfl | exact decide_eq_true hs85 | (simp [hs85]; done))) rfl rfl ?_
   refine qQ.take 12 rfl jK jK jK hS (fun w0 hw0 => Run.fieldAddr rfl zy rfl zu jd) (Up.g rfl (by first | rfl | exact decide_eq_true hs85 | (simp [hs85]; done))) rfl rfl ?_
   refine qQ.take 13 rfl jK jK jK hS (fun w0 hw0 => Run.loadA rfl zaz zu (cs := BVc x.v x.n x.A x.l.length x.c) (fun j v hj => by rw [Go.Proofs.YtgmbmfpfhcekiaaGreat.add_add]; exact helw _ hw0 (1 + j) v (by rw [zeh]; exact hj)) (by first | rfl | (simp; done))) (Up.g rfl (by first | rfl | exact decide_eq_true hs85 | (simp [hs85]; done))) rfl rfl ?_
   refine qQ.cl 14 rfl jK (jE2 Tryz.call22) (kQ v n x.v x.n B x.A d x.c lm x.l _ (hoM.rdm.frm hS) (hxa.rd.frm hS) jo (by have := hxa.n; omega)) (Up.g rfl (by first | rfl | exact decide_eq_true hs85 | (simp [hs85]; done))) rfl rfl ?_
   rintro e w18 ⟨rfl, hfw18⟩
   have hS1 := hS.trans hfw18 jp
   have hbe : (⟨x.v, x.n, Ms x.l⟩ : BoxV) = ⟨v, n, Ms lm⟩ := hkb
   injection hbe with e1 e2 e3
   rw [decide_eq_true (show v = x.v ∧ n = x.n ∧ Ms lm = Ms x.l from ⟨e1.symm, e2.symm, e3.symm⟩)]
   refine ⟨_, rfl, hS1, ?_⟩
   have hS := hS1
   refine qQ.take 15 rfl jK jK jK hS (fun w0 hw0 => Run.not rfl) (Up.g rfl (by first | rfl | exact decide_eq_true hs85 | (simp [hs85]; done))) rfl rfl ?_
   refine qQ.take 16 rfl jK jK jK hS (fun w0 hw0 => Run.pickT rfl rfl (by first | rfl | exact decide_eq_true hs85 | (simp [hs85]; done))) (Up.g rfl (by first | rfl | exact decide_eq_true hs85 | (simp [hs85]; done))) rfl rfl ?_
   refine jH 17 rfl hS (fun w0 hw0 => Run.pickF rfl rfl (by first | rfl | exact decide_eq_true hs85 | (simp [hs85]; done))) ?_
   refine jH 18 rfl hS (fun w0 hw0 => Run.mv rfl) ?_
   refine qQ.take 19 rfl jK jK jK hS (fun w0 hw0 => Run.mv rfl) (Up.g rfl (by first | rfl | exact decide_eq_true hs85 | (simp [hs85]; done))) rfl rfl ?_
   refine qQ.take 20 rfl jK jK jK hS (fun w0 hw0 => Run.loadA rfl zo zh (fun j v hj => (hb3.frm hw0 jp).cells j v hj) (by first | rfl | (simp; done))) (Up.g rfl (by first | rfl | exact decide_eq_true hs85 | (simp [hs85]; done))) rfl rfl ?_
   refine qQ.take 21 rfl jK jK jK hS (fun w0 hw0 => Run.mv rfl) (Up.g rfl (by first | rfl | exact decide_eq_true hs85 | (simp [hs85]; done))) rfl rfl ?_
   refine qQ.take 22 rfl jK jK jK hS (fun w0 hw0 => Run.mv rfl) (Up.g rfl (by first | rfl | exact decide_eq_true hs85 | (simp [hs85]; done))) rfl rfl ?_
   refine qQ.cl 23 rfl jK (jE3 Tryz.call32) (nF m1 q7 subs _ (hO1.rdl.frm hS) jo) (Up.g rfl (by first | rfl | exact decide_eq_true hs85 | (simp [hs85]; done))) rfl rfl ?_
   rintro e w19 ⟨Br, dr, sr, rfl, hoR, hsr, hfw19⟩
   have hS1 := hS.trans hfw19 jp
   have hs2 : ss = sr := by rw [hsr, hss, mO hc2]
   subst hs2
   refine ⟨_, rfl, hS1, ?_⟩
   have hS := hS1
   refine qQ.cl 24 rfl jK (jE2 Tryz.call31) (nE Bs Br ds dr ss _ (hoS.rd.frm hS jp) hoR.rd hssl) (Up.g rfl (by first | rfl | exact decide_eq_true hs85 | (simp [hs85]; done))) rfl rfl ?_
   rintro e w20 ⟨rfl, hfw20⟩
   have hS1 := hS.trans hfw20 jp
   refine ⟨_, rfl, hS1, ?_⟩
   have hS := hS1
   refine qQ.take 25 rfl jK jK jK hS (fun w0 hw0 => Run.not rfl) (Up.g rfl (by first | rfl | exact decide_eq_true hs85 | (simp [hs85]; done))) rfl rfl ?_
   refine jH 26 rfl hS (fun w0 hw0 => Run.pickF rfl rfl (by first | rfl | exact decide_eq_true hs85 | (simp [hs85]; done))) ?_
   refine qQ.done jK ?_
   refine jN ⟨(), (js3 rfl rfl (jC jp)), ?_⟩
   exact hS
  refine qQ.skip 7 rfl jK jK jK hS rfl rfl (by first | rfl | exact decide_eq_false hs85 | (simp [hs85]; done)) rfl rfl ?_
  refine qQ.skip 8 rfl jK jK jK hS rfl rfl (by first | rfl | exact decide_eq_false hs85 | (simp [hs85]; done)) rfl rfl ?_
  refine qQ.skip 9 rfl jK jK jK hS rfl rfl (by first | rfl | exact decide_eq_false hs85 | (simp [hs85]; done)) rfl rfl ?_
  refine qQ.skip 10 rfl jK jK jK hS rfl rfl (by first | rfl | exact decide_eq_false hs85 | (simp [hs85]; done)) rfl rfl ?_
  refine qQ.skip 11 rfl jK jK jK hS rfl rfl (by first | rfl | exact decide_eq_false hs85 | (simp [hs85]; done)) rfl rfl ?_
  refine qQ.skip 12 rfl jK jK jK hS rfl rfl (by first | rfl | exact decide_eq_false hs85 | (simp [hs85]; done)) rfl rfl ?_
  refine qQ.skip 13 rfl jK jK jK hS rfl rfl (by first | rfl | exact decide_eq_false hs85 | (simp [hs85]; done)) rfl rfl ?_
  refine qQ.skip 14 rfl jK jK jK hS rfl rfl (by first | rfl | exact decide_eq_false hs85 | (simp [hs85]; done)) rfl rfl ?_
  refine qQ.skip 15 rfl jK jK jK hS rfl rfl (by first | rfl | exact decide_eq_false hs85 | (simp [hs85]; done)) rfl rfl ?_
  refine qQ.take 16 rfl jK jK jK hS (fun w0 hw0 => Run.pickF rfl rfl (by first | rfl | exact decide_eq_false hs85 | (simp [hs85]; done))) (Up.g rfl (by first | rfl | exact decide_eq_false hs85 | (simp [hs85]; done))) rfl rfl ?_
  refine jH 17 rfl hS (fun w0 hw0 => Run.pickF rfl rfl (by first | rfl | exact decide_eq_false hs85 | (simp [hs85]; done))) ?_
  refine jH 18 rfl hS (fun w0 hw0 => Run.mv rfl) ?_
  refine qQ.take 19 rfl jK jK jK hS (fun w0 hw0 => Run.mv rfl) (Up.g rfl (by first | rfl | exact decide_eq_false hs85 | (simp [hs85]; done))) rfl rfl ?_
  refine qQ.take 20 rfl jK jK jK hS (fun w0 hw0 => Run.loadA rfl zo zh (fun j v hj => (hb3.frm hw0 jp).cells j v hj) (by first | rfl | (simp; done))) (Up.g rfl (by first | rfl | exact decide_eq_false hs85 | (simp [hs85]; done))) rfl rfl ?_
  refine qQ.take 21 rfl jK jK jK hS (fun w0 hw0 => Run.mv rfl) (Up.g rfl (by first | rfl | exact decide_eq_false hs85 | (simp [hs85]; done))) rfl rfl ?_
  refine qQ.take 22 rfl jK jK jK hS (fun w0 hw0 => Run.mv rfl) (Up.g rfl (by first | rfl | exact decide_eq_false hs85 | (simp [hs85]; done))) rfl rfl ?_
  refine qQ.cl 23 rfl jK (jE3 Tryz.call32) (nF m1 q7 subs _ (hO1.rdl.frm hS) jo) (Up.g rfl (by first | rfl | exact decide_eq_false hs85 | (simp [hs85]; done))) rfl rfl ?_
  rintro e w19 ⟨Br, dr, sr, rfl, hoR, hsr, hfw19⟩
  have hS1 := hS.trans hfw19 jp
  have hs2 : ss = sr := by rw [hsr, hss, mO hc2]
  subst hs2
  refine ⟨_, rfl, hS1, ?_⟩
  have hS := hS1
  refine qQ.cl 24 rfl jK (jE2 Tryz.call31) (nE Bs Br ds dr ss _ (hoS.rd.frm hS jp) hoR.rd hssl) (Up.g rfl (by first | rfl | exact decide_eq_false hs85 | (simp [hs85]; done))) rfl rfl ?_
  rintro e w20 ⟨rfl, hfw20⟩
  have hS1 := hS.trans hfw20 jp
  refine ⟨_, rfl, hS1, ?_⟩
  have hS := hS1
  refine qQ.take 25 rfl jK jK jK hS (fun w0 hw0 => Run.not rfl) (Up.g rfl (by first | rfl | exact decide_eq_false hs85 | (simp [hs85]; done))) rfl rfl ?_
  refine jH 26 rfl hS (fun w0 hw0 => Run.pickF rfl rfl (by first | rfl | exact decide_eq_false hs85 | (simp [hs85]; done))) ?_
  refine qQ.done jK ?_
  refine jN ⟨(), (js3 rfl rfl (jC jp)), ?_⟩
  exact hS
 rintro _ wz hfz Γ hΓ
 have hb3 := hb3.frm hfz jp
 have hO1 := hO1.frm hfz
 have hoB := hoB.frm hfz jp
 have K := K.trans hfz jp
 refine jN (VC.sub _ hΓ ?_)
 refine VC.condF rfl jp ?_
 refine jQ (jN (jv2 3 11 ?_))
 refine jS (jR (je (Run.loadA rfl zo zh (fun j v hj => hb3.cells j v hj) (by first | rfl | (simp; done))) ?_))
 refine Ops.cl (jE1 Tryz.call33) (vT m1 _ hO1.rdl hc2) rfl ?_
 rintro e w21 ⟨B2, c2, l2, rfl, ho2, hnub2, hf21⟩
 have hb3 := hb3.frm hf21 jp
 have hO1 := hO1.frm hf21
 have K := K.trans hf21 jp
 have hoB := hoB.frm hf21 jp
 obtain rfl := hnub.ext hnub2
 refine ⟨_, rfl, ?_⟩
 refine ja rfl (jO (jN (jv2 11 13 ?_)))
 refine jS (jS (jR (jm rfl (je (Run.lenS rfl ze) (jm rfl (je (Run.lenS rfl ze) (jb rfl rfl (Bin.neqN _ _) (jO (jN (jv3 11 13 112 ?_))))))))))
 refine VC.condF rfl jp ?_
 refine jQ (jN (jv2 11 13 ?_))
 refine jS (jS (jR (jz 0 (jO (jN (jB ?_))))))
 have hl1b : ls.length ≤ 9223372036854775807 := by
  rcases hoB.cases with ⟨_, h0, _⟩ | ⟨_, _, _, _, h1, h2, _⟩
  · omega
  unfold maxLen at h2; omega
 refine VC.loop (σ := Nat) (fun s => [(11, .slice Bb ls.length cb), (13, .slice B2 ls.length c2), (14, .int .i64 ((s : Nat) : Int))]) (fun s wr => s ≤ ls.length ∧ Own wr 40 1 Bb ls.length cb (UB ls) ∧ Own wr 40 1 B2 ls.length c2 (UB ls) ∧ Frm [] w wr) (fun s => ls.length - s) 0 (js3 rfl rfl rfl) ⟨zae _, hoB, ho2, K⟩ ?_
 rintro i wr ⟨hi, hoB, ho2, K⟩
 refine jS (jS (jR (jm rfl (jm rfl (je (Run.lenS rfl ze) (jb rfl rfl (Bin.lssN _ _) (jO (jN (jv4 11 13 14 116 ?_)))))))))
 refine jD rfl (fun hc5 => ?_) fun hc5 => ?_
 ·
  obtain ⟨ad1, rfl, hc1a⟩ := qJ5 hoB hc5
  obtain ⟨ad2, rfl, hc2a⟩ := qJ5 ho2 hc5
  refine jQ (jN (jv3 11 13 14 ?_))
  refine jS (jB (jS ?_))
  refine VC.held (fun W => Frm [] wr W) jK ?_
  have hS : Frm [] wr wr.drew := (Frm.refl _ _).drew
  refine jH 0 rfl hS (fun w0 hw0 => Run.mv rfl) ?_
  refine jH 1 rfl hS (fun w0 hw0 => Run.mv rfl) ?_
  refine jH 2 rfl hS (fun w0 hw0 => Run.index1 _ rfl rfl ze zd jo) ?_
  refine jH 3 rfl hS (fun w0 hw0 => Run.load rfl zk (hc1a _ hw0)) ?_
  refine jH 4 rfl hS (fun w0 hw0 => Run.mv rfl) ?_
  refine jH 5 rfl hS (fun w0 hw0 => Run.mv rfl) ?_
  refine jH 6 rfl hS (fun w0 hw0 => Run.index1 _ rfl rfl ze zd jo) ?_
  refine jH 7 rfl hS (fun w0 hw0 => Run.load rfl zk (hc2a _ hw0)) ?_
  refine jH 8 rfl hS (fun w0 hw0 => Run.bin rfl rfl (Bin.neqN _ _)) ?_
  refine qQ.done jK ?_
  refine jN (jv4 11 13 14 127 ?_)
  refine VC.condF rfl jp ?_
  refine jQ ?_
  refine qW (jN ?_)
  refine jv3 11 13 14 ?_
  refine jR (jm rfl (jb rfl rfl (Bin.add_i64 _ 1 jo) (ja rfl (jO ?_))))
  refine jN ⟨(i + 1), (js3 rfl rfl rfl), ?_, ?_⟩
  · exact ⟨hc5, hoB.frm hS jp, ho2.frm hS jp, K.trans hS jp⟩
  first | omega | (dsimp only; omega)
 refine jX ?_
 refine qJ (qJ (qN ?_))
 refine jN ?_
 refine VC.sub [] .nil ?_
 refine jS (jR ?_)
 refine Ops.cl (jE0 Tryz.call16) (mP _ (hv.frm K)) rfl ?_
 rintro e w30 ⟨rfl, hfw30⟩
 have K := K.trans hfw30 jp
 refine ⟨_, rfl, ?_⟩
 refine ja rfl (jO (jN (jv1 6 ?_)))
 refine jT ?_
 refine qR rfl ?_
 exact ⟨rfl, K⟩
end
end Go.Proofs.YtgmbmfpfhcekiaaGreat
