/-
  Lemmas on the way, joined: OpnA, OpnB, OpnC, OpnD, RfO, RfA, RfB, RfC, AllA, OctR, RfD, RfE, RfF, RfG, RfH, RfI.
-/
import Derived.Test.YtoniopdkbeogjaaGreatPk3
set_option maxRecDepth 100000
set_option linter.unusedVariables false
set_option linter.unusedSimpArgs false
set_option maxHeartbeats 8000000
namespace Go.Proofs.YtoniopdkbeogjaaGreat
section
open Go.RowKit
def ndV (A kA : Option Addr) (n pc kn kc : Nat) (i : Bool) : Array Value := #[.slice A n pc, .slice kA kn kc, .bool i]
theorem oH (A kA : Option Addr) (n pc kn kc : Nat) (i : Bool) : ∀ u ∈ (ndV A kA n pc kn kc i).toList, u.oneCell' = true := by
 intro u hu
 simp only [ndV, zaq, zaz, or_false] at hu
 rcases hu with rfl | rfl | rfl <;> rfl
structure NdQ where
 i : Nat
 pA : Option Addr
 pc : Nat
 ps : List Pr
 kA : Option Addr
 kc : Nat
 ks : List Kd
structure IsNd (w0 w : World) (g2 g8 : Nat) (b : List Nat) (s : NdQ) : Prop where
 b2 : Blk w g2 222 (ndV none none 0 0 0 0 false)
 b8 : Blk w g8 222 (ndV s.pA s.kA s.ps.length s.pc s.ks.length s.kc (decide (b.getD 0 0 = 2)))
 P : Own w 128 2 s.pA s.ps.length s.pc (PC2 s.ps)
 Kr : Own w 214 2 s.kA s.ks.length s.kc (KC s.ks)
 eq : s.ps = if b.getD 0 0 = 2 then [] else (List.range s.i).map fun i => (dK b (2 + 16 * i), dK b (10 + 16 * i))
 lp : s.ps.length ≤ s.i ∧ s.ks.length ≤ s.i
 K : Frm [] w0 w
 up : (∀ x ∈ ob s.pA, g8 < x) ∧ ∀ x ∈ ob s.kA, g8 < x
theorem qKj {b : List Nat} {a : Nat} (h : a + 8 ≤ b.length) : bC b a 8 = dK b a := (eI h).2
theorem rX (A : Option Addr) (c L a n : Nat) (bs : List Nat) (w : World) (hl : bs.length = L) (hLb : L ≤ 1000000) (ha : a ≤ 1000000) (h1 : 1 ≤ n) (h8 : n ≤ 8) (hB : ∀ b ∈ bs, b < 256) (hr : Rd w 1 A L (NB bs)) :
  Calls Tryz.prog 160 #[.slice A L c, jI1 a, jI1 n] w fun e w' => e = .returned (jI2 (bC bs a n)) ∧ w = w' := by
 refine jV Tryz.func160 Tryz.ntmps160 Tryz.results160 ?_
 refine jS (jR ?_)
 refine jy .u64 0 ?_
 refine jO (jN (jv3 0 1 2 ?_))
 refine jS (jR (jm rfl (jm rfl (jM ?_))))
 refine jc0 (jE3 zhg) (lY A c L a n bs w hl jo jo h1 h8 hB hr) ?_
 refine jm rfl (jY rfl rfl (jY rfl rfl (ja rfl (ja rfl (jO (jN (jv1 7 ?_)))))))
 refine jS (jR (jm rfl (ja rfl (jO (jN (jv1 6 ?_))))))
 refine jT ?_
 refine qS rfl ?_
 exact ⟨rfl, rfl⟩
theorem qVm (A : Option Addr) (c : Nat) (b : List Nat) (w : World) (hp : eC b) (hc : 128 ≤ c) (hB : ∀ x ∈ b, x < 256) (hr : Rd w 1 A 128 (NB b)) :
  Calls Tryz.prog 148 #[.slice A 128 c] w fun e w' => Frm [] w w' ∧ ∃ PA pc kA kn kc inn, e = .returned (.tuple #[.agg (ndV PA kA (dF b).length pc kn kc inn), .bool true]) ∧ Rd w' 2 PA (dF b).length (PC2 (dF b)) ∧ ∀ x ∈ ob PA, w.heap.size ≤ x := by
 obtain ⟨hl, hk, hpg⟩ := hp
 obtain ⟨ad, rfl, _, _⟩ := hr.2 jo
 have hcl : ∀ V, Frm [] w V → ∀ i, i < 128 → V.cell? (ad.add i) = some (.int .u8 ((b.getD i 0 : Nat) : Int)) := fun V hV i hi => by
  obtain ⟨ad2, he, h2⟩ := gF (hr.frm hV jp) hl hi
  cases he
  exact h2
 have hrV : ∀ V, Frm [] w V → Rd V 1 (some ad) 128 (NB b) := fun V hV => hr.frm hV jp
 obtain ⟨k0, hk0⟩ : ∃ k0, k0 = b.getD 0 0 := ⟨_, rfl⟩
 obtain ⟨k1, hk1⟩ : ∃ k1, k1 = b.getD 1 0 := ⟨_, rfl⟩
 rw [← hk0, ← hk1] at hpg
 rw [← hk0, ← hk1] at hk
 have hc0 : ∀ V, Frm [] w V → V.cell? (ad.add 0) = some (.int .u8 ((k0 : Nat) : Int)) := fun V hV => by rw [hk0]; exact hcl V hV 0 jo
 have hc1 : ∀ V, Frm [] w V → V.cell? (ad.add 1) = some (.int .u8 ((k1 : Nat) : Int)) := fun V hV => by rw [hk1]; exact hcl V hV 1 jo
 have hp1 : dF b = if k0 = 2 then [] else (List.range k1).map fun i => (dK b (2 + 16 * i), dK b (10 + 16 * i)) := by rw [hk0, hk1]; rfl
 refine jV Tryz.func148 Tryz.ntmps148 Tryz.results148 ?_
 refine jS (jR ?_)
 refine Ops.m (qV.alloc lJ) rfl ?_
 rintro _ w1 ⟨rfl, hF1⟩
 have hb2 : Blk w1 w.heap.size 222 (ndV none none 0 0 0 0 false) := hF1.blk
 have K := hF1.frm
 have q1 := hF1.size
 generalize hg2 : w.heap.size = g2 at hb2 q1 ⊢
 refine ja rfl (jO (jN (jv2 0 2 ?_)))
 refine jS (jS (jR (jm rfl (jL rfl zg (jb rfl rfl (Bin.neqN _ 128) (jO (jN (jv3 0 2 13 ?_))))))))
 refine VC.condF rfl (rfl) ?_
 refine jQ (jN (jv2 0 2 ?_))
 refine jS (jR (jm rfl (je (Run.index1 1 rfl rfl zg zam jo) (jl rfl zdk (hc1 _ K) (je (Run.convN _ rfl zac zz (by simp only [bmax]; omega)) (ja rfl (jO (jN (jv3 0 2 4 ?_)))))))))
 refine jS (jR (jz 16 (jz 7 (jO (jN (jS (jB (jS (jR (jm rfl (je (Run.index1 0 rfl rfl zg zam jo) (jl rfl zdk (hc0 _ K) (jb rfl rfl (Bin.eqlN _ 2) (ja rfl (jO (jN (jv6 0 2 4 5 6 19 ?_)))))))))))))))))
 refine VC.meet (σ := Nat × Nat) (fun s => [(0, .slice (some ad) 128 c), (2, jI0 g2), (4, jI1 k1), (5, jI1 s.1), (6, jI1 s.2)]) (fun s wz => w1 = wz ∧ (k0 = 2 ∧ s.1 = 10 ∧ s.2 = 12 ∨ k0 = 1 ∧ s.1 = 16 ∧ s.2 = 7)) ?_ ?_
 ·
  refine jD rfl (fun hc2 => ?_) fun hc2 => ?_
  ·
   refine jR (jz 10 (jz 12 (jO ?_)))
   refine jN ⟨(10, 12), (js5 rfl rfl rfl rfl rfl), ?_⟩
   exact ⟨rfl, .inl ⟨hc2, rfl, rfl⟩⟩
  refine jS (jR (jm rfl (je (Run.index1 0 rfl rfl zg zam jo) (jl rfl zdk (hc0 _ K) (jb rfl rfl (Bin.neqN _ 1) (ja rfl (jO (jN (jv6 0 2 4 5 6 24 ?_)))))))))
  refine VC.condF rfl jdf ?_
  refine jQ ?_
  refine jN ⟨(16, 7), (js5 rfl rfl rfl rfl rfl), ?_⟩
  exact ⟨rfl, .inr ⟨jo, rfl, rfl⟩⟩
 rintro ⟨ea, mo⟩ _ ⟨rfl, hem⟩ Γ hΓ
 dsimp only at hem hΓ
 have hsz : ea * k1 ≤ 120 := by
  rcases hem with ⟨_, h, _⟩ | ⟨_, h, _⟩
  · rw [h]; omega
  rw [h]; omega
 have hcut : Rd w1 1 (some ad) (2 + ea * k1) (NB (b.take (2 + ea * k1))) := by
  have h1 := (hrV _ K).cut (l := 0) (r := 2 + ea * k1) (cap := c) (zj _) jo hc
  rw [dP, zcc, zei, zbz, zds, (nR _ _).1] at h1
  exact h1
 have hea : ea = pD k0 := by
  rcases hem with ⟨h0, h, _⟩ | ⟨h0, h, _⟩ <;> rw [h, h0] <;> rfl
 rw [← hea] at hpg
 refine qH (jN (VC.sub _ hΓ ?_))
 refine jS (jS ?_)
 refine VC.split1 [(0, _), (2, _), (4, _), (5, _)] (js4 rfl rfl rfl rfl) 42 (.bool (decide (mo < k1 ∨ k0 = 2 ∧ k1 = 0))) ?_ ?_
 ·
  refine jR ?_
  refine jm rfl (jm rfl (jb rfl rfl (Bin.gtrN _ _) ?_))
  by_cases hs32 : mo < k1
  ·
   refine jM ?_
   refine jU ?_
   refine jU ?_
   refine jU ?_
   refine jU ?_
   refine jU ?_
   refine Ops.skU rfl rfl ?_
   refine Ops.skU rfl rfl ?_
   refine jU ?_
   refine jW rfl rfl au (jO ?_)
   refine jN ⟨(js5 (jC (by grind)) rfl rfl rfl rfl), rfl⟩
  refine jM ?_
  refine jG ?_
  refine jk (Run.index1 0 rfl rfl zg zam jo) ?_
  refine jk (Run.load rfl zdk (hc0 _ K)) ?_
  refine jk (Run.bin rfl rfl (Bin.eqlN _ 2)) ?_
  by_cases hs37 : k0 = 2
  ·
   refine jG ?_
   refine jG ?_
   refine jk (Run.bin rfl rfl (Bin.eqlN _ 0)) ?_
   by_cases hs40 : k1 = 0
   ·
    refine jk (Run.pickT rfl rfl au) ?_
    refine jF rfl rfl au (jO ?_)
    refine jN ⟨(js5 (jC (by grind)) rfl rfl rfl rfl), rfl⟩
   refine jk (Run.pickT rfl rfl au) ?_
   refine jF rfl rfl au (jO ?_)
   refine jN ⟨(js5 (jC (by grind)) rfl rfl rfl rfl), rfl⟩
  refine jG ?_
  refine jU ?_
  refine jU ?_
  refine jk (Run.pickF rfl rfl au) ?_
  refine jF rfl rfl au (jO ?_)
  refine jN ⟨(js5 (jC (by grind)) rfl rfl rfl rfl), rfl⟩
 intro Γ hΓ
 refine jN (VC.sub _ hΓ ?_)
 refine VC.condF rfl jdf ?_
 refine jQ (jN (jv4 0 2 4 5 ?_))
 refine jS (jR (jm rfl (jm rfl (jb rfl rfl (Bin.mul_i64 _ _ jo) (jb rfl rfl (Bin.add_i64 2 _ jo) (ja rfl (jO (jN (jv5 0 2 4 5 7 ?_)))))))))
 refine jS (jS (jR (jm rfl (jm rfl (je (Run.sliceS 0 _ rfl zg zam evB.none_ (evB.some_ rfl) jo jo) ?_)))))
 rw [dP, zcc]
 refine jc (jE1 Tryz.call142) (nO (some ad) _ (2 + ea * k1) (b.take (2 + ea * k1)) _ (by rw [zk]; omega) jo (fun x hx => hB x (zo hx)) hcut) ?_
 rintro e w3 ⟨PB, pd, rfl, hoP, hf3, hupP⟩
 refine ⟨_, rfl, ?_⟩
 rw [hpg] at hoP
 refine jM ?_
 refine jc0 (jE2 zhh) (mD PB (some ad) 128 128 pd c b b w3 hl hl hB hB hoP.rd (hrV _ (K.trans hf3 jp))) ?_
 refine je (Run.not rfl) (jO (jN (jv5 0 2 4 5 54 ?_)))
 refine VC.condF rfl (by simp [hpg]) ?_
 refine jQ (jN (jv4 0 2 4 5 ?_))
 refine jS (jR (jm rfl (je (Run.index1 0 rfl rfl zg zam jo) (jl rfl zdk (hc0 _ (K.trans hf3 jp)) (jb rfl rfl (Bin.eqlN _ 2) (je (Run.build (evs.cons rfl evs.nil) lJ (fF).choose_spec.1 (fF).choose_spec.2 (cells := ndV none none 0 0 0 0 (decide (k0 = 2))) rfl) ?_))))))
 refine Ops.m (qV.alloc lJ) rfl ?_
 rintro _ w4 ⟨rfl, hF4⟩
 have K4 := K.trans hf3 jp
 have q3 := hf3.size
 have q4 := hF4.size
 have hb24 := (hb2.frm hf3 jp).frm hF4.frm jp
 have h28 : g2 < w3.heap.size := by have := hb2.lt; omega
 have K4 := K4.trans hF4.frm jp
 refine Ops.st (qT.storeA rfl rfl zec hF4.blk rfl (oH _ _ _ _ _ _ _)) ?_
 rintro w5 ⟨hb8, hf5, hs5⟩
 have hb8 : Blk w5 w3.heap.size 222 (ndV none none 0 0 0 0 (decide (k0 = 2))) := hb8
 generalize hg8 : w3.heap.size = g8 at *
 have hb25 := hb24.frm hf5 (by simp; omega)
 have K5 := K4.own hf5 (by simp; omega)
 have hnd : IsNd w w5 g2 g8 b ⟨0, none, 0, [], none, 0, []⟩ := ⟨hb25, by rw [← hk0]; exact hb8, Own.nil _ _ _, Own.nil _ _ _, by split <;> rfl, ⟨zag _, zag _⟩, K5, by simp [ob], by simp [ob]⟩
 refine jO (jN (jv5 0 2 4 5 8 ?_))
 refine jS (jS (jR (jM ?_)))
 refine jx .i64 0 ?_
 refine jO (jN (jv6 0 2 5 8 61 62 ?_))
 refine jB ?_
 refine VC.loop (σ := NdQ) (fun s => [(0, .slice (some ad) 128 c), (2, jI0 g2), (5, jI1 ea), (8, jI0 g8), (61, jI1 k1), (62, jI1 s.i)]) (fun s wr => s.i ≤ k1 ∧ IsNd w wr g2 g8 b s) (fun s => k1 - s.i) ⟨0, none, 0, [], none, 0, []⟩ (js6 rfl rfl rfl rfl rfl rfl) ⟨zj _, hnd⟩ ?_
 rintro ⟨i, pA, pc, ps, kA, kc, ks⟩ wr ⟨hi, hb2, hb8, hP, hKr, hpse, ⟨hlp, hlk⟩, K, hup⟩
 dsimp only at hi hb8 hP hKr hpse hlp hlk hup ⊢
 rw [← hk0] at hb8 hpse
 have ks0 := K.size
 have q8 := hb8.lt
 have n8p : g8 ∉ ob pA := fun h => zcj _ (hup.1 _ h)
 have n8k : g8 ∉ ob kA := fun h => zcj _ (hup.2 _ h)
 have hg2w : w.heap.size = g2 := hg2
 have hup1 : ∀ x ∈ ob pA, w.heap.size ≤ x := fun x hx => by have := hup.1 x hx; omega
 have hup2 : ∀ x ∈ ob kA, w.heap.size ≤ x := fun x hx => by have := hup.2 x hx; omega
 have n2p : g2 ∉ ob pA := fun h => by have := hup.1 _ h; omega
 have n2k : g2 ∉ ob kA := fun h => by have := hup.2 _ h; omega
 refine jS (jR (jb rfl rfl (Bin.lssN _ _) (jO (jN (jS ?_)))))
 refine jD rfl (fun hc6 => ?_) fun hc6 => ?_
 ·
  have hmi : ea * i + ea ≤ ea * k1 := by
   have := Nat.mul_le_mul_left ea (jo : i + 1 ≤ k1)
   rw [Nat.mul_succ] at this
   exact this
  refine jQ (jN (jv6 0 2 5 8 61 62 ?_))
  refine jS (jB (jS (jR (jm rfl (ja rfl (jO (jN (jv7 0 2 5 8 9 61 62 ?_))))))))
  refine jS (jR (jm rfl (jm rfl (jb rfl rfl (Bin.mul_i64 _ _ jo) (jb rfl rfl (Bin.add_i64 2 _ jo) (ja rfl (jO (jN (jv7 0 2 5 8 10 61 62 ?_)))))))))
  refine jS (jR (jf rfl zfb rfl zat (jl rfl zcr (hb8.cell 2) (jO (jN (jv8 0 2 5 8 10 61 62 70 ?_))))))
  refine VC.condB rfl (fun hc7 => ?_) (fun hc7 => ?_)
  ·
   have hk2 : k0 = 2 := by simpa using hc7
   obtain rfl : ea = 10 := jo
   have hv2 := sQ hB (2 + 10 * i + 8)
   rw [← (eI (hd := b) (a := 2 + 10 * i + 8) (n := 2) jo).2] at hv2
   refine VC.heldL 14 (fun V => Frm (ob kA) wr V) jK ?_
   have hS : Frm (ob kA) wr wr.drew := (Frm.refl _ _).drew
   refine jH 0 rfl hS (fun w0 hw0 => Run.fieldAddr rfl zfb rfl zhl jd) ?_
   refine jH 1 rfl hS (fun w0 hw0 => Run.load rfl zha ((hb8.frm hw0 n8k).cell 1)) ?_
   refine jh 2 hS ?_
   refine jh 3 hS ?_
   refine jh 5 hS ?_
   refine jh 6 hS ?_
   refine jH 7 rfl hS (fun w0 hw0 => Run.bin rfl rfl (Bin.add_i64 _ 8 jo)) ?_
   refine qJ.cl 4 rfl jK (jE3 Tryz.call160) (rX (some ad) c 128 (2 + 10 * i) 8 b _ hl jo jo jo jo hB (hrV _ (K.own hS hup2))) trivial rfl rfl ?_
   rintro e _ ⟨rfl, rfl⟩
   refine ⟨_, rfl, hS, ?_⟩
   refine qJ.cl 8 rfl jK (jE3 Tryz.call160) (rX (some ad) c 128 (2 + 10 * i + 8) 2 b _ hl jo jo jo jo hB (hrV _ (K.own hS hup2))) trivial rfl rfl ?_
   rintro e _ ⟨rfl, rfl⟩
   refine ⟨_, rfl, hS, ?_⟩
   refine qJ.r1 9 rfl jK hS (Run.convN _ rfl zr zz (by simp only [bmax]; omega)) trivial rfl rfl ?_
   refine qJ.r1 10 rfl jK hS (Run.build (evs.cons rfl (evs.cons rfl evs.nil)) mG (lV).choose_spec.1 (lV).choose_spec.2 (cells := (kdC (bC b (2 + 10 * i) 8, bC b (2 + 10 * i + 8) 2)).toArray) rfl) trivial rfl rfl ?_
   refine qJ.m 11 rfl jK (qV.buildS1 rfl zcm zez mG jd jd rfl rfl) trivial rfl rfl ?_
   rintro _ w6 ⟨rfl, hF6⟩
   have hS := hS.trans hF6.frm jp
   refine ⟨hS, ?_⟩
   have k6 : Frm [] wr w6 := (qP.drew wr).frm.trans hF6.frm jp
   have hr6 : Rd w6 2 (some ⟨wr.drew.heap.size, 0, none⟩) 1 (kdC (bC b (2 + 10 * i) 8, bC b (2 + 10 * i + 8) 2)) := Rd.of_blk (n := 1) (size := 2) hF6.blk rfl
   have hK6 := hKr.frm k6 jp
   refine qJ.m 12 rfl jK (qV.app rfl rfl zcm (yB) rfl jd hK6 hr6 (vJ _) jo jo) trivial rfl rfl ?_
   rintro _ w7 ⟨B7, d7, rfl, ho7, hf7, hob7⟩
   have hS := hS.trans hf7 (fun x hx => .inl hx)
   refine ⟨hS, ?_⟩
   rw [← yL] at ho7
   have hb87 := (hb8.frm k6 jp).frm hf7 n8k
   have hup7 : ∀ x ∈ ob B7, g8 < x := (Fk.of_app hf7 hob7).up (b := g8 + 1) hup.2 (by have := k6.size; omega)
   refine qJ.r1 13 rfl jK hS (Run.fieldAddr rfl zfb rfl zhl jd) trivial rfl rfl ?_
   refine qJ.stL rfl jK (qT.store rfl rfl zhl hb87 rfl rfl) trivial rfl ?_
   rintro w8 ⟨hb88, hf8, hs8⟩
   have hf8 : Frm [g8] w7 w8 := hf8
   have hb88 : Blk w8 g8 222 (ndV pA B7 ps.length pc (ks.length + 1) d7 (decide (k0 = 2))) := hb88
   have K8 := (K.own hS hup2).own hf8 (by simp; omega)
   have kk8 : Frm (g8 :: ob kA) wr w8 := (hS.mono (fun x hx => .inl (by simp [hx]))).trans hf8 (fun x hx => .inl (by simp at hx; simp [hx]))
   have hP8 := hP.frm kk8 (fun x hx h => by
    rcases zaq.1 h with rfl | h
    · exact n8p hx
    exact hP.ne_own hKr jd x hx h)
   have ho8 := ho7.frm hf8 (fun x hx h => by rw [za] at h; have := hup7 x hx; omega)
   have hb28 := hb2.frm kk8 (fun h => by
    rcases zaq.1 h with h | h
    · omega
    exact n2k h)
   refine qJ.done jK ?_
   refine qH (jN ?_)
   refine jv6 0 2 5 8 61 62 ?_
   refine jR (jb rfl rfl (Bin.add_i64 _ 1 jo) (jm rfl (jO ?_)))
   refine jN ⟨⟨i + 1, pA, pc, ps, B7, d7, ks ++ [(bC b (2 + 10 * i) 8, bC b (2 + 10 * i + 8) 2)]⟩, (js6 rfl rfl rfl rfl rfl rfl), ?_, ?_⟩
   · exact ⟨hc6, hb28, by dsimp only; rw [zf, ← hk0]; exact hb88, hP8, by dsimp only; rw [zf]; exact ho8, by dsimp only; rw [hpse, ← hk0, if_pos hk2, if_pos hk2], ⟨by dsimp only; omega, by dsimp only; rw [zf, zck]; omega⟩, K8, hup.1, hup7⟩
   exact jq
  have hk2 : k0 ≠ 2 := by simpa using hc7
  obtain rfl : ea = 16 := jo
  refine VC.heldL 13 (fun V => Frm (ob pA) wr V) jK ?_
  have hS : Frm (ob pA) wr wr.drew := (Frm.refl _ _).drew
  refine jH 0 rfl hS (fun w0 hw0 => Run.fieldAddr rfl zfb rfl zbk jd) ?_
  refine jH 1 rfl hS (fun w0 hw0 => Run.load rfl zci ((hb8.frm hw0 n8p).cell 0)) ?_
  refine jh 2 hS ?_
  refine jh 3 hS ?_
  refine jh 5 hS ?_
  refine jh 6 hS ?_
  refine jH 7 rfl hS (fun w0 hw0 => Run.bin rfl rfl (Bin.add_i64 _ 8 jo)) ?_
  refine qJ.cl 4 rfl jK (jE3 Tryz.call160) (rX (some ad) c 128 (2 + 16 * i) 8 b _ hl jo jo jo jo hB (hrV _ (K.own hS hup1))) trivial rfl rfl ?_
  rintro e _ ⟨rfl, rfl⟩
  refine ⟨_, rfl, hS, ?_⟩
  refine qJ.cl 8 rfl jK (jE3 Tryz.call160) (rX (some ad) c 128 (2 + 16 * i + 8) 8 b _ hl jo jo jo jo hB (hrV _ (K.own hS hup1))) trivial rfl rfl ?_
  rintro e _ ⟨rfl, rfl⟩
  refine ⟨_, rfl, hS, ?_⟩
  refine qJ.r1 9 rfl jK hS (Run.build (evs.cons rfl (evs.cons rfl evs.nil)) dL (fE).choose_spec.1 (fE).choose_spec.2 (cells := (prC (bC b (2 + 16 * i) 8, bC b (2 + 16 * i + 8) 8)).toArray) rfl) trivial rfl rfl ?_
  refine qJ.m 10 rfl jK (qV.buildS1 rfl zl zu dL jd jd rfl rfl) trivial rfl rfl ?_
  rintro _ w6 ⟨rfl, hF6⟩
  have hS := hS.trans hF6.frm jp
  refine ⟨hS, ?_⟩
  have k6 : Frm [] wr w6 := (qP.drew wr).frm.trans hF6.frm jp
  have hr6 : Rd w6 2 (some ⟨wr.drew.heap.size, 0, none⟩) 1 (prC (bC b (2 + 16 * i) 8, bC b (2 + 16 * i + 8) 8)) := Rd.of_blk (n := 1) (size := 2) hF6.blk rfl
  have hP6 := hP.frm k6 jp
  refine qJ.m 11 rfl jK (qV.app rfl rfl zl (kK) rfl jd hP6 hr6 (eH _) jo jo) trivial rfl rfl ?_
  rintro _ w7 ⟨B7, d7, rfl, ho7, hf7, hob7⟩
  have hS := hS.trans hf7 (fun x hx => .inl hx)
  refine ⟨hS, ?_⟩
  have e7 : PC2 ps ++ prC (bC b (2 + 16 * i) 8, bC b (2 + 16 * i + 8) 8) = PC2 (ps ++ [(dK b (2 + 16 * i), dK b (10 + 16 * i))]) := by
   rw [fS, qKj jo, qKj jo, show 2 + 16 * i + 8 = 10 + 16 * i by omega]
   simp [PC2]
  rw [e7] at ho7
  have hb87 := (hb8.frm k6 jp).frm hf7 n8p
  have hup7 : ∀ x ∈ ob B7, g8 < x := (Fk.of_app hf7 hob7).up (b := g8 + 1) hup.1 (by have := k6.size; omega)
  refine qJ.r1 12 rfl jK hS (Run.fieldAddr rfl zfb rfl zbk jd) trivial rfl rfl ?_
  refine qJ.stL rfl jK (qT.store rfl rfl zbk hb87 rfl rfl) trivial rfl ?_
  rintro w8 ⟨hb88, hf8, hs8⟩
  have hf8 : Frm [g8] w7 w8 := hf8
  have hb88 : Blk w8 g8 222 (ndV B7 kA (ps.length + 1) d7 ks.length kc (decide (k0 = 2))) := hb88
  have K8 := (K.own hS hup1).own hf8 (by simp; omega)
  have kk8 : Frm (g8 :: ob pA) wr w8 := (hS.mono (fun x hx => .inl (by simp [hx]))).trans hf8 (fun x hx => .inl (by simp at hx; simp [hx]))
  have hK8 := hKr.frm kk8 (fun x hx h => by
   rcases zaq.1 h with rfl | h
   · exact n8k hx
   exact hP.ne_own hKr jd x h hx)
  have ho8 := ho7.frm hf8 (fun x hx h => by rw [za] at h; have := hup7 x hx; omega)
  have hb28 := hb2.frm kk8 (fun h => by
   rcases zaq.1 h with h | h
   · omega
   exact n2p h)
  refine qJ.done jK ?_
  refine qH (jN ?_)
  refine jv6 0 2 5 8 61 62 ?_
  refine jR (jb rfl rfl (Bin.add_i64 _ 1 jo) (jm rfl (jO ?_)))
  refine jN ⟨⟨i + 1, B7, d7, ps ++ [(dK b (2 + 16 * i), dK b (10 + 16 * i))], kA, kc, ks⟩, (js6 rfl rfl rfl rfl rfl rfl), ?_, ?_⟩
  · exact ⟨hc6, hb28, by dsimp only; rw [zf, ← hk0]; exact hb88, by dsimp only; rw [zf]; exact ho8, hK8, by dsimp only; rw [← hk0, if_neg hk2, zda, zv, hpse, if_neg hk2]; rfl, ⟨by dsimp only; rw [zf, zck]; omega, by dsimp only; omega⟩, K8, hup7, hup.2⟩
  exact jq
 refine jX ?_
 refine qZ (qZ (qN ?_))
 refine jN (jv2 2 8 ?_)
 refine jS (jR (je (Run.loadA rfl Tryz.isAgg222 zec hb8.cells (by first | rfl | (simp; done))) ?_))
 refine Ops.st (qT.storeA rfl rfl zec hb2 rfl (oH _ _ _ _ _ _ _)) ?_
 rintro w9 ⟨hb2, hf9, hs9⟩
 refine ja rfl (jO (jN (jv2 2 3 ?_)))
 refine jT ?_
 refine eO ?_
 refine cW rfl Tryz.isAgg222 zec (hb2.cells) (by first | rfl | (simp; done) | (simp [*]; done)) ?_
 refine dH rfl ?_
 refine cY ?_
 obtain rfl : i = k1 := jo
 rw [hp1, ← hpse]
 exact ⟨K.own hf9 (by simp; omega), pA, pc, kA, _, _, _, rfl, (hP.frm hf9 (fun x hx h => by rw [za] at h; subst h; exact n2p hx)).rd, fun x hx => by have := hup1 x hx; omega⟩
def RdR (w : World) (ps : List Pg) : Prop := ∀ x ∈ ps, Rd w 1 x.1 x.2.2.length (NB x.2.2) ∧ ∀ b ∈ x.2.2, b < 256
theorem RdR.frm {w w' : World} {ps : List Pg} (h : RdR w ps) (k : Frm [] w w') : RdR w' ps := fun x hx => ⟨(h x hx).1.frm k jp, (h x hx).2⟩
def pg0 : Pg := (none, 0, [])
theorem qVn {w : World} {A : Option Addr} {n : Nat} {ps : List Pg} (h : Rd w 1 A n (ps.map SL)) (hn : ps.length = n) {k : Nat} (hk : k < n) : ∃ ad, A = some ad ∧ w.cell? (ad.add k) = some (SL (ps.getD k pg0)) := by
 obtain ⟨ad, h1, _, hc⟩ := h.2 jo
 exact ⟨ad, h1, hc k _ (by simp [zb, ze (jo : k < ps.length)])⟩
theorem qZo {ps : List Pg} {k : Nat} (h : k < ps.length) : ps.getD k pg0 ∈ ps := by
 rw [zb, ze h]
 exact zbp h
theorem vG {ps : List Pg} {k : Nat} (h : k < ps.length) : ps.take (k + 1) = ps.take k ++ [ps.getD k pg0] := by
 rw [zcq, ze h, zb, ze h]
 rfl
theorem qH9 {ps qs : List Pg} (he : ps.map (·.2.2) = qs.map (·.2.2)) (k : Nat) : (ps.getD k pg0).2.2 = (qs.getD k pg0).2.2 := by
 have h1 := congrArg (·[k]?) he
 simp only [zbr] at h1
 rw [zb, zb]
 cases ha : ps[k]? <;> cases hb : qs[k]? <;> rw [ha, hb] at h1 <;> simp at h1 ⊢
 exact h1
theorem qQp (a : List (List Nat)) (x : List Nat) : cU (a ++ [x]) = cU a ++ dF x := by unfold cU; rw [zan]; simp
theorem qW9 (a : List (List Nat)) (k : Nat) : (cU (a.take k)).length ≤ (cU a).length := by
 conv => rhs; rw [← zbq k a]
 unfold cU
 rw [zan, zf]
 omega
theorem zY {b : List Nat} (hB : ∀ x ∈ b, x < 256) (a : Nat) : dK b a < 18446744073709551616 := by
 have h1 := rE ((b.drop a).take 8) (fun x hx => hB x (zau (zo hx)))
 have h2 : (256 : Nat) ^ ((b.drop a).take 8).length ≤ 256 ^ 8 := zcg jo (by rw [zk]; omega)
 have e : (256 : Nat) ^ 8 = 18446744073709551616 := rfl
 unfold dK
 omega
theorem qYa {b : List Nat} (hB : ∀ x ∈ b, x < 256) : OkP (dF b) := fun x hx => by
 unfold dF at hx
 split at hx
 · cases hx
 obtain ⟨i, _, rfl⟩ := List.mem_map.1 hx
 exact ⟨zY hB _, zY hB _⟩
theorem sV {ps : List (List Nat)} (h : ∀ p ∈ ps, ∀ b ∈ p, b < 256) : OkP (cU ps) := fun x hx => by
 obtain ⟨p, hp, hx⟩ := List.mem_flatMap.1 hx
 exact qYa (h p hp) x hx
structure IsRh (w : World) (h g : Nat) (F : List Nat) (d : Dk) : Prop where
 c0 : w.cell? ⟨h, 0, none⟩ = some (jI0 g)
 dk : IsDk w g F d
 n : h ∉ F
 sz : 44 ≤ d.has.length
 big : d.has.length ≤ 2048
 wts : d.wts.length ≤ 100000
 on : d.off = false
theorem IsRh.frm {w w' : World} {h g : Nat} {F S : List Nat} {d : Dk} (a : IsRh w h g F d) (k : Frm S w w') (hS : ∀ x ∈ h :: F, x ∉ S) : IsRh w' h g F d :=
 ⟨k.cell a.c0 (hS h jp), a.dk.frm k (fun x hx => hS x (by simp [hx])), a.n, a.sz, a.big, a.wts, a.on⟩
theorem IsRh.f0 {w w' : World} {h g : Nat} {F : List Nat} {d : Dk} (a : IsRh w h g F d) (k : Frm [] w w') : IsRh w' h g F d := a.frm k jp
theorem qYb (bs : List Nat) (h : bs.length ≤ 124) : ∃ r, dR bs = bs ++ r := by
 unfold dR eS fW
 rw [if_neg (by rw [zf, numL_len]; omega), zab]
 exact ⟨_, rfl⟩
theorem yW {dir : List Nat} (h : dir.length ≤ 59) : (bR dir).length = 128 := fM (by rw [eE]; omega)
theorem qYc (dir : List Nat) : ∀ b ∈ bR dir, b < 256 := fL (lH dir)
theorem jI {l : List Nat} {i : Nat} (h : i < l.length) : l.take (i + 1) = l.take i ++ [l.getD i 0] := by
 rw [zcq, ze h, zb, ze h]
 rfl
theorem rR (h g : Nat) (F : List Nat) (d : Dk) (w : World) (hR : IsRh w h g F d) : Calls Tryz.prog 39 #[jI0 h] w fun e w' => e = .returned (jI1 (d.has.length - 42)) ∧ w = w' := by
 have hsz := hR.sz
 have hbg := hR.big
 refine jV Tryz.func39 Tryz.ntmps39 Tryz.results39 ?_
 refine jS (jR (jz 0 (jO (jN (jv1 0 ?_)))))
 refine jS (jR (jm rfl (jZ rfl (jf rfl zaj rfl zeu (jl rfl zfh hR.c0 ?_)))))
 refine jc0 (jE1 zfe) (dU g F _ w hR.dk) ?_
 refine jb rfl rfl (Bin.sub_i64 _ 42 jo jo) (ja rfl (jO (jN (jv1 2 ?_))))
 refine jT ?_
 refine qS rfl ?_
 exact ⟨rfl, rfl⟩
theorem yY (p : Nat) (h g : Nat) (F : List Nat) (d : Dk) (w : World) (hR : IsRh w h g F d) (hp : p < d.has.length - 42) : Calls Tryz.prog 71 #[jI0 h, jI1 p] w fun e w' => ∃ B, e = .returned (.tuple #[.slice B 128 128, .bool true]) ∧ Rd w' 1 B 128 (NB (d.sec (42 + p))) ∧ Frm [] w w' ∧ ∀ x ∈ ob B, w.heap.size ≤ x := by
 have hsz := hR.sz
 have hbg := hR.big
 have hwt := hR.wts
 refine jV Tryz.func71 Tryz.ntmps71 Tryz.results71 ?_
 refine jS (jR (ja rfl (ja rfl (jO (jN (jv2 0 1 ?_))))))
 refine jS (jS (jR (jm rfl (jb rfl rfl (Bin.lssN _ 0) (jM ?_)))))
 refine Ops.rg rfl jdf (Run.mv rfl) rfl ?_
 refine Ops.rg rfl jdf (Run.mv rfl) rfl ?_
 refine Ops.clg rfl jdf (jE1 zgl) (rR h g F d w hR) rfl ?_
 rintro e _ ⟨rfl, rfl⟩
 refine ⟨_, rfl, ?_⟩
 refine Ops.rg rfl jdf (Run.bin rfl rfl (Bin.geqN _ _)) rfl ?_
 refine jF rfl rfl jdf (jO (jN (jv3 0 1 15 ?_)))
 refine VC.condF rfl jdf ?_
 refine jQ (jN (jv2 0 1 ?_))
 refine jS (jR (jm rfl (jZ rfl (jf rfl zaj rfl zeu (jl rfl zfh hR.c0 (jm rfl (jb rfl rfl (Bin.add_i64 42 _ jo) ?_)))))))
 refine jc (jE2 Tryz.call28) (kH g (42 + p) F d w hR.dk jo) ?_
 rintro e w1 ⟨B, rfl, hr, hf, hup, _⟩
 refine ⟨_, rfl, ?_⟩
 have hrd : d.read (42 + p) = (0, d.sec (42 + p)) := by unfold Dk.read; rw [if_neg jo, if_neg (by simp [hR.on])]
 rw [hrd] at hr ⊢
 have hsl := (hR.dk.ok.secAt (jo : 42 + p < d.has.length)).1
 dsimp only at hr ⊢
 rw [hsl] at hr ⊢
 refine jm rfl (jY rfl rfl (jY rfl rfl (ja rfl (ja rfl (jO (jN (jv2 6 7 ?_)))))))
 refine jS (jR (jm rfl (jm rfl (jb rfl rfl (Bin.eqlN _ 0) (ja rfl (ja rfl (jO (jN (jv2 4 5 ?_)))))))))
 refine jT ?_
 refine bX rfl rfl ?_
 exact ⟨B, rfl, hr, hf, hup⟩
theorem qM5 (ps : List Pg) : ∀ u ∈ ps.map SL, u.oneCell' = true := fun u hu => by
 obtain ⟨x, _, rfl⟩ := List.mem_map.1 hu
 rfl
section
variable {P : Program} {Γ : Env} {w : World} {dst : Option Tmp} {T : TypeId} {pos : String} {after : Array Edge} {g : Option (Nat × Bool)}
theorem Run.addO {t yT : TypeId} {x y : Operand} {a b : List Nat} (hx : ev? Γ x = some (.string (qF a))) (hy : ev? Γ y = some (.string (qF b))) (hs : a.length + b.length ≤ 9223372036854775807) :
  Run P ⟨dst, .binOp .add t x y yT, T, pos, after, g⟩ Γ w (.string (qF (a ++ b))) := by
 rw [← vR]
 exact Run.addStr hx hy (by rw [lW, lW]; exact hs)
theorem Run.lenO {t : TypeId} {x : Operand} {a : List Nat} (hx : ev? Γ x = some (.string (qF a))) (ht : P.underlying t = some .string) :
  Run P ⟨dst, .call ⟨.builtin .len, #[x], #[t]⟩, T, pos, after, g⟩ Γ w (jI1 a.length) := by
 have := Run.lenStr (P := P) (w := w) (dst := dst) (T := T) (pos := pos) (after := after) (g := g) hx ht
 rw [lW] at this
 exact this
theorem Run.indexO {t : TypeId} {x i : Operand} {a : List Nat} {k : IntKind} (j : Nat) (hx : ev? Γ x = some (.string (qF a))) (hi : ev? Γ i = some (.int k j)) (ht : P.underlying t = some .string) (hj : j < a.length) (hB : ∀ x ∈ a, x < 256) :
  Run P ⟨dst, .index t x i, T, pos, after, g⟩ Γ w (.int .u8 ((a.getD j 0 : Nat) : Int)) := by
 have hg : a.getD j 0 = a[j] := by rw [zb, ze hj]; rfl
 have hb : a[j] < 256 := hB _ (zbp hj)
 have h1 := Run.indexStr (P := P) (w := w) (dst := dst) (T := T) (pos := pos) (after := after) (g := g) j (UInt8.ofNat a[j]) hx hi ht (by simp [qF, hj])
 have e : (UInt8.ofNat a[j]).toNat = a[j] := by simp; omega
 rw [e] at h1
 rw [hg]
 exact h1
theorem qGu (a : List Nat) (l h : Nat) : (qF a).extract l h = qF ((a.take h).drop l) := by
 apply ByteArray.ext
 rw [ByteArray.data_extract]
 unfold qF
 apply Array.ext'
 simp [zdn, List.map_drop, List.extract_eq_take_drop, List.drop_take]
theorem Run.sliceO {t : TypeId} {x : Operand} {a : List Nat} {lo hi : Option Operand} (l h : Nat) (hx : ev? Γ x = some (.string (qF a))) (ht : P.underlying t = some .string)
  (hlo : evB Γ lo 0 l) (hhi : evB Γ hi a.length h) (h1 : l ≤ h) (h2 : h ≤ a.length) :
  Run P ⟨dst, .slice t x lo hi none, T, pos, after, g⟩ Γ w (.string (qF ((a.take h).drop l))) := by
 rw [← qGu]
 exact Run.sliceStr l h hx ht hlo (by rw [lW]; exact hhi) h1 (by rw [lW]; exact h2)
theorem Run.eqlO {t yT : TypeId} {x y : Operand} {a b : List Nat} (hx : ev? Γ x = some (.string (qF a))) (hy : ev? Γ y = some (.string (qF b))) (ha : ∀ x ∈ a, x < 256) (hb : ∀ x ∈ b, x < 256) :
  Run P ⟨dst, .binOp .eql t x y yT, T, pos, after, g⟩ Γ w (.bool (decide (a = b))) := by
 have h1 := Run.eqlStr (P := P) (w := w) (dst := dst) (T := T) (t := t) (yT := yT) (pos := pos) (after := after) (g := g) hx hy
 rw [qJ9 ha hb] at h1
 exact h1
theorem Run.neqO {t yT : TypeId} {x y : Operand} {a b : List Nat} (hx : ev? Γ x = some (.string (qF a))) (hy : ev? Γ y = some (.string (qF b))) (ha : ∀ x ∈ a, x < 256) (hb : ∀ x ∈ b, x < 256) :
  Run P ⟨dst, .binOp .neq t x y yT, T, pos, after, g⟩ Γ w (.bool (decide (¬ a = b))) := by
 have h1 := Run.neqStr (P := P) (w := w) (dst := dst) (T := T) (t := t) (yT := yT) (pos := pos) (after := after) (g := g) hx hy
 have e : decide ((qF a).data.toList ≠ (qF b).data.toList) = decide (¬ a = b) := by
  by_cases h : a = b
  · subst h; simp
  exact (decide_eq_true (show (qF a).data.toList ≠ (qF b).data.toList from fun e => h (qX5 ha hb e))).trans (decide_eq_true h).symm
 rw [e] at h1
 exact h1
end
theorem qM6 {w : World} {g e n : Nat} {cs : Array Value} {xs : List Value} (h : Fro w g e cs) (ht : cs.toList.take n = xs) (hl : xs.length = n) : Rd w 1 (some ⟨g, 0, none⟩) n xs := by
 refine ⟨jo, fun _ => ⟨_, rfl, h.lt, fun j u hu => ?_⟩⟩
 rw [oM, h.cell]
 rw [← ht] at hu
 have hj : j < n := by
  have := (List.getElem?_eq_some_iff.1 hu).1
  rw [zk] at this
  omega
 rw [zcf hj] at hu
 rw [← hu, zgr]
theorem qV.octO {P : Program} {Γ : Env} {w : World} {dst : Option Tmp} {T : TypeId} {pos : String} {after : Array Edge} {g : Option (Nat × Bool)} {src dstT e : TypeId} {x : Operand} {a : List Nat} (hx : ev? Γ x = some (.string (qF a))) (hs : P.underlying src = some .string) (hd : P.underlying dstT = some (.slice e)) (he : P.underlying e = some (.int .u8)) (hB : ∀ b ∈ a, b < 256) :
  qV P ⟨dst, .convert src dstT x, T, pos, after, g⟩ Γ w (fun r w' => ∃ B c, r = .slice B a.length c ∧ Rd w' 1 B a.length (NB a) ∧ Frm [] w w' ∧ ∀ y ∈ ob B, w.heap.size ≤ y) := by
 refine qV.mono (qV.bytesOf hx hs hd he) fun r w' ⟨c, cs, hr, hf, ht, hk⟩ => ?_
 have hl : (qF a).data.toList.length = a.length := by simp [qF]
 have hu : (qF a).data.toList = a.map UInt8.ofNat := by simp [qF]
 rw [hl] at hr ht
 refine ⟨_, c, hr, qM6 hf (by rw [ht, hu, qKz a hB]) (by simp [NB]), hk, fun y hy => ?_⟩
 simp [ob] at hy
 omega
def SS (s : List Nat) : Value := .string (qF s)
theorem yG (l : List (List Nat)) : ∀ u ∈ l.map SS, u.oneCell' = true := fun u hu => by
 obtain ⟨x, _, rfl⟩ := List.mem_map.1 hu
 rfl
def wtC (x : Nat × List Nat) : List Value := [jI1 x.1, .string (qF x.2)]
theorem qMa (x : Nat × List Nat) : (wtC x).length = 2 := rfl
theorem qMb (x : Nat × List Nat) : ∀ u ∈ wtC x, u.oneCell' = true := by
 intro u hu
 simp only [wtC, zaq, zaz, or_false] at hu
 rcases hu with rfl | rfl <;> rfl
structure IsRd (w : World) (g : Nat) (F : List Nat) (d : Dk) : Prop where
 ok : d.ok
 ex : ∃ A c B cb, Blk w g 61 #[.slice A d.has.length c, .slice B d.wts.length cb, .int .i64 d.bud, .bool d.off] ∧ Own w 9 1 A d.has.length c (d.has.map SS) ∧ Own w 144 2 B d.wts.length cb (d.wts.flatMap wtC) ∧ F = g :: (ob A ++ ob B)
theorem IsRd.lt {w : World} {g : Nat} {F : List Nat} {d : Dk} (h : IsRd w g F d) : ∀ x ∈ F, x < w.heap.size := by
 obtain ⟨A, c, B, cb, hb, hA, hB, rfl⟩ := h.ex
 intro x hx
 rcases zaq.1 hx with rfl | hx
 · exact hb.lt
 rcases zcp.1 hx with hx | hx
 · exact hA.lt x hx
 exact hB.lt x hx
theorem IsRd.mem {w : World} {g : Nat} {F : List Nat} {d : Dk} (h : IsRd w g F d) : g ∈ F := by
 obtain ⟨A, c, B, cb, hb, hA, hB, rfl⟩ := h.ex
 exact zcl
theorem IsRd.frm {w w' : World} {g : Nat} {F S : List Nat} {d : Dk} (h : IsRd w g F d) (k : Frm S w w') (hS : ∀ x ∈ F, x ∉ S) : IsRd w' g F d := by
 obtain ⟨A, c, B, cb, hb, hA, hB, rfl⟩ := h.ex
 exact ⟨h.ok, A, c, B, cb, hb.frm k (hS g zcl), hA.frm k (fun x hx => hS x (by simp [hx])), hB.frm k (fun x hx => hS x (by simp [hx])), rfl⟩
theorem IsRd.parts {w : World} {g : Nat} {F : List Nat} {d : Dk} (h : IsRd w g F d) : ∃ A c B cb, Blk w g 61 #[.slice A d.has.length c, .slice B d.wts.length cb, .int .i64 d.bud, .bool d.off] ∧ Own w 9 1 A d.has.length c (d.has.map SS) ∧ Own w 144 2 B d.wts.length cb (d.wts.flatMap wtC) ∧ F = g :: (ob A ++ ob B) ∧ g ∉ ob A ∧ g ∉ ob B ∧ (∀ x ∈ ob A, x ∉ ob B) := by
 obtain ⟨A, c, B, cb, hb, hA, hB, rfl⟩ := h.ex
 exact ⟨A, c, B, cb, hb, hA, hB, rfl, hA.ne_blk hb jd, hB.ne_blk hb jd, hA.ne_own hB jd⟩
theorem oX {w : World} {A : Option Addr} {n : Nat} {l : List (List Nat)} (h : Rd w 1 A n (l.map SS)) (hn : l.length = n) {k : Nat} (hk : k < n) : ∃ ad, A = some ad ∧ w.cell? (ad.add k) = some (.string (qF (l.getD k []))) := by
 obtain ⟨ad, h1, _, hc⟩ := h.2 jo
 exact ⟨ad, h1, hc k _ (by simp [zb, ze (jo : k < l.length), SS])⟩
def wt0 : Nat × List Nat := (0, [])
theorem yH {w : World} {A : Option Addr} {n : Nat} {l : List (Nat × List Nat)} (h : Rd w 2 A n (l.flatMap wtC)) (hn : l.length = n) {k : Nat} (hk : k < n) : ∃ ad, A = some ad ∧ ∀ j v, (wtC (l.getD k wt0))[j]? = some v → w.cell? ((ad.add (k * 2)).add j) = some v := rdF wtC 2 qMa h hn hk wt0
theorem qYd {l : List (Nat × List Nat)} {k : Nat} (h : k < l.length) : l.getD k wt0 ∈ l := by
 rw [zb, ze h]
 exact zbp h
theorem zG {l : List (Nat × List Nat)} {k : Nat} (h : k < l.length) : l.take (k + 1) = l.take k ++ [l.getD k wt0] := by
 rw [zcq, ze h, zb, ze h]
 rfl
theorem qYe (i : Nat) (l : List (Nat × List Nat)) (x : Nat × List Nat) (s : List Nat) : (eX i (l ++ [x])).getD s = if x.1 = i then x.2 else (eX i l).getD s := by
 rw [kY]
 split <;> rfl
theorem yM (hold : Nat → Bool) : ∀ (a b : List (Nat × List Nat)) (k : Nat) (h : List (List Nat)), (∀ i, k + a.length ≤ i → hold i = false) → bB hold k h (a ++ b) = bB hold k h a
 | [], b, k, h, hf => by
  have key : ∀ (b : List (Nat × List Nat)) (k : Nat), (∀ i, k ≤ i → hold i = false) → bB hold k h b = h := by
   intro b
   induction b with
   | nil => intro k _; rfl
   | cons x r ih =>
    intro k hk
    obtain ⟨u, v⟩ := x
    rw [bB, hk k (zag _), if_neg jp]
    exact ih (k + 1) (fun i hi => hk i jo)
  exact key b k (fun i hi => hf i (by simpa using hi))
 | (u, v) :: a, b, k, h, hf => by
  rw [zcx, bB, bB, yM hold a b (k + 1) _ (fun i hi => hf i (by rw [zad]; omega))]
theorem uC (w : World) : Calls Tryz.prog 55 #[] w fun e w' => e = .returned (.string (qF (noM 128))) ∧ Frm [] w w' := by
 refine jV Tryz.func55 Tryz.ntmps55 Tryz.results55 ?_
 refine jS (jR ?_)
 refine Ops.r (v := .string (qF [])) (Run.asg rfl) rfl ?_
 refine jO (jN ?_)
 refine VC.sub [] .nil ?_
 refine jS (jR ?_)
 refine Ops.m (qV.makeS (n := 128) rfl rfl zg (eY) rfl jo jo) rfl ?_
 rintro _ w1 ⟨rfl, ho1, hf1, hs1⟩
 rw [lG] at ho1
 have e0 : List.replicate 128 (Value.int .u8 ((0 : Nat) : Int)) = NB (noM 128) := by rw [NB, noM, zdr]
 rw [e0] at ho1
 refine je (Run.strOf rfl zg zac zt (rdU ho1.rd (noM_lt 128))) (ja rfl (jO (jN (jv1 0 ?_))))
 refine jT ?_
 refine qS rfl ?_
 exact ⟨rfl, hf1⟩
theorem qQq (n : Int) (w : World) (h1 : -9223372036854775808 ≤ n) (h2 : n ≤ 2048) : Calls Tryz.prog 18 #[.int .i64 n] w fun e w' => ∃ g F, e = .returned (jI0 g) ∧ IsRd w' g F (Dk.new n.toNat) ∧ Frm [] w w' ∧ ∀ x ∈ F, w.heap.size ≤ x := by
 refine jV Tryz.func18 Tryz.ntmps18 Tryz.results18 ?_
 refine jS (jR (ja rfl (jO (jN (jv1 0 ?_)))))
 refine jS (jR (je (Run.build (evs.cons rfl evs.nil) qMq (qXf).choose_spec.1 (qXf).choose_spec.2 (cells := #[.slice none 0 0, .slice none 0 0, .int .i64 (-1), .bool false]) rfl) ?_))
 refine Ops.m (qV.box rfl) rfl ?_
 rintro _ w1 ⟨rfl, hF1⟩
 have hb1 : Blk w1 w.heap.size 61 #[.slice none 0 0, .slice none 0 0, .int .i64 (-1), .bool false] := hF1.blk
 have K1 := hF1.frm
 have q1 := hF1.size
 generalize hge : w.heap.size = gd at *
 refine ja rfl (jO (jN (jv2 0 3 ?_)))
 refine jS (jS (jR (jz 0 (jO (jN (jB ?_))))))
 refine VC.loop (σ := Nat × Option Addr × Nat) (fun s => [(0, .int .i64 n), (3, jI0 gd), (4, jI1 s.1)]) (fun s wr => s.1 ≤ n.toNat ∧ Blk wr gd 61 #[.slice s.2.1 s.1 s.2.2, .slice none 0 0, .int .i64 (-1), .bool false] ∧ Own wr 9 1 s.2.1 s.1 s.2.2 ((List.replicate s.1 (noM 128)).map SS) ∧ Frm [] w wr ∧ ∀ x ∈ ob s.2.1, gd < x) (fun s => n.toNat - s.1) (0, none, 0) (js3 rfl rfl rfl) ⟨zj _, hb1, Own.nil _ _ _, K1, by simp [ob]⟩ ?_
 rintro ⟨i, A, ca⟩ wr ⟨hi, hb, ho, K, hup⟩
 dsimp only at hi hb ho hup ⊢
 have ks := K.size
 have q := hb.lt
 have ngA : gd ∉ ob A := fun hx => zcj _ (hup _ hx)
 refine jS (jS (jR (jm rfl (jm rfl (jb rfl rfl (Bin.lss _ _) (jO (jN (jv4 0 3 4 9 ?_))))))))
 refine jD rfl (fun hc1 => ?_) fun hc1 => ?_
 ·
  refine jQ (jN (jv3 0 3 4 ?_))
  refine jS (jB ?_)
  refine VC.heldL 10 (fun V => Frm (ob A) wr V) jK ?_
  have hS : Frm (ob A) wr wr.drew := (Frm.refl _ _).drew
  refine jh 0 hS ?_
  refine jh 1 hS ?_
  refine jH 2 rfl hS (fun w0 hw0 => Run.nilck rfl) ?_
  refine jH 3 rfl hS (fun w0 hw0 => Run.fieldAddr rfl zaf rfl zdc jd) ?_
  refine jH 4 rfl hS (fun w0 hw0 => Run.load rfl zdv ((hb.frm hw0 ngA).cell 0)) ?_
  refine qJ.cl 5 rfl jK (jE0 Tryz.call55) (uC _) trivial rfl rfl ?_
  rintro e w5 ⟨rfl, hf5⟩
  have hS := hS.trans hf5 jp
  refine ⟨_, rfl, hS, ?_⟩
  refine qJ.m 6 rfl jK (qV.buildS1 rfl zar zbm qQ4 jd jd rfl rfl) trivial rfl rfl ?_
  rintro _ w6 ⟨rfl, hF6⟩
  have hS := hS.trans hF6.frm jp
  refine ⟨hS, ?_⟩
  have k6 : Frm [] wr w6 := ((qP.drew wr).frm.trans hf5 jp).trans hF6.frm jp
  have hr6 : Rd w6 1 (some ⟨w5.heap.size, 0, none⟩) 1 ([noM 128].map SS) := Rd.of_blk (n := 1) (size := 1) hF6.blk rfl
  have ho6 := ho.frm k6 jp
  refine qJ.m 7 rfl jK (qV.app rfl rfl zar (qQ5) rfl jd ho6 hr6 (yG _) jo jo) trivial rfl rfl ?_
  rintro _ w7 ⟨B7, d7, rfl, ho7, hf7, hob7⟩
  have hS := hS.trans hf7 (fun x hx => .inl hx)
  refine ⟨hS, ?_⟩
  rw [← zv, ← List.replicate_succ'] at ho7
  have hb7 := (hb.frm k6 jp).frm hf7 ngA
  have hup7 : ∀ x ∈ ob B7, gd < x := (Fk.of_app hf7 hob7).up (b := gd + 1) hup (by have := k6.size; omega)
  refine qJ.r1 8 rfl jK hS (Run.nilck rfl) trivial rfl rfl ?_
  refine qJ.r1 9 rfl jK hS (Run.fieldAddr rfl zaf rfl zdc jd) trivial rfl rfl ?_
  refine qJ.stL rfl jK (qT.store rfl rfl zdc hb7 rfl rfl) trivial rfl ?_
  rintro w8 ⟨hb8, hf8, hs8⟩
  have hf8 : Frm [gd] w7 w8 := hf8
  refine qJ.done jK ?_
  refine qH (jN ?_)
  refine jv3 0 3 4 ?_
  refine jR (jm rfl (jb rfl rfl (Bin.add_i64 _ 1 jo) (ja rfl (jO ?_))))
  refine jN ⟨(i + 1, B7, d7), (js3 rfl rfl rfl), ?_, ?_⟩
  · exact ⟨by dsimp only; omega, hb8, ho7.frm hf8 (fun x hx h => by rw [za] at h; have := hup7 x hx; omega), (K.own hS (fun x hx => by have := hup x hx; omega)).own hf8 (by simp; omega), hup7⟩
  exact jq
 refine jX ?_
 refine qZ (qZ (qN ?_))
 refine jN (jv1 3 ?_)
 refine jS (jR (jm rfl (ja rfl (jO (jN (jv1 2 ?_))))))
 refine jT ?_
 refine qS rfl ?_
 obtain rfl : i = n.toNat := jo
 have e3 : (Dk.new n.toNat).has.length = n.toNat := by simp [Dk.new]
 refine ⟨gd, gd :: (ob A ++ []), rfl, ⟨⟨fun s hs => ?_, by simp [Dk.new], by simp [Dk.new], jo, by simp [Dk.new]⟩, A, ca, none, 0, ?_, ?_, Own.nil _ _ _, rfl⟩, K, fun x hx => ?_⟩
 ·
  obtain ⟨_, rfl⟩ := List.mem_replicate.1 hs
  exact ⟨by simp [noM], fun b hb => by obtain ⟨_, rfl⟩ := List.mem_replicate.1 hb; omega⟩
 · rw [e3]; exact hb
 · rw [e3]; exact ho
 simp at hx
 rcases hx with rfl | hx
 · omega
 have := hup x hx; omega
theorem mK (i : Nat) (g : Nat) (F : List Nat) (d : Dk) (w : World) (hD : IsRd w g F d) (hwl : d.wts.length ≤ 1000000) :
  Calls Tryz.prog 83 #[jI0 g, jI1 i] w fun e w' => e = .returned (.tuple #[.string (qF (d.read i).2), jI1 ((d.read i).1)]) ∧ w = w' := by
 obtain ⟨A, c, B, cb, hb, hA, hB, rfl, hgA, hgB, hAB⟩ := hD.parts
 have hbig := hD.ok.big
 have hok := hD.ok
 refine jV Tryz.func83 Tryz.ntmps83 Tryz.results83 ?_
 refine jS (jR ?_)
 refine Ops.r (v := .string (qF [])) (Run.asg rfl) rfl ?_
 refine jz 0 (jO (jN (jv2 0 1 ?_)))
 refine jS (jS (jR (jm rfl (jb rfl rfl (Bin.lssN _ 0) (jM ?_)))))
 refine Ops.rg rfl jdf (Run.mv rfl) rfl ?_
 refine Ops.rg rfl jdf (Run.mv rfl) rfl ?_
 refine Ops.rg rfl jdf (Run.nilck rfl) rfl ?_
 refine Ops.rg rfl jdf (Run.fieldAddr rfl zaf rfl zdc jd) rfl ?_
 refine Ops.rg rfl jdf (Run.load rfl zdv (hb.cell 0)) rfl ?_
 refine Ops.rg rfl jdf (Run.lenS rfl zar) rfl ?_
 refine Ops.rg rfl jdf (Run.bin rfl rfl (Bin.geqN _ _)) rfl ?_
 refine jF rfl rfl jdf (jO (jN (jv3 0 1 18 ?_)))
 refine VC.condB rfl (fun hc1 => ?_) (fun hc1 => ?_)
 ·
  have hc1 : d.has.length ≤ i := of_decide_eq_true hc1
  have er : d.read i = (4, []) := by unfold Dk.read; rw [if_pos jo]
  rw [er]
  refine jS (jR ?_)
  refine Ops.r (v := .string (qF [])) (Run.asg rfl) rfl ?_
  refine jz 4 (jO (jN (jv2 4 5 ?_)))
  refine jT ?_
  refine qQ (bX rfl rfl ?_)
  exact ⟨rfl, rfl⟩
 have hc1 : ¬ d.has.length ≤ i := of_decide_eq_false hc1
 have hlt : i < d.has.length := jo
 refine jQ (jN (jv2 0 1 ?_))
 refine jS (jS (jR (jm rfl (jZ rfl (jf rfl zaf rfl zat (jl rfl zcr (hb.cell 3) (jO (jN (jv3 0 1 22 ?_)))))))))
 refine VC.condB rfl (fun hc2 => ?_) (fun hc2 => ?_)
 ·
  have er : d.read i = (10, []) := by unfold Dk.read; rw [if_neg jo, if_pos hc2]
  rw [er]
  refine jS (jR ?_)
  refine Ops.r (v := .string (qF [])) (Run.asg rfl) rfl ?_
  refine jz 10 (jO (jN (jv2 4 5 ?_)))
  refine jT ?_
  refine qQ (bX rfl rfl ?_)
  exact ⟨rfl, rfl⟩
 have hoff : d.off = false := by simpa using hc2
 have er : d.read i = (0, d.sec i) := by unfold Dk.read; rw [if_neg jo, if_neg (by simp [hoff])]
 rw [er]
 obtain ⟨ad, hA1, hcA⟩ := oX hA.rd rfl hlt
 rw [hA1] at hb
 refine jQ (jN (jv2 0 1 ?_))
 refine jS (jR (jm rfl (jZ rfl (jf rfl zaf rfl zdc (jl rfl zdv (hb.cell 0) (jm rfl (je (Run.index1 _ rfl rfl zar zbm jo) (jl rfl zde hcA (ja rfl (jO (jN (jv3 0 1 6 ?_))))))))))))
 refine jS (jS (jR (jz 0 (jO (jN (jB ?_))))))
 refine VC.loop (σ := Nat) (fun s => [(0, jI0 g), (1, jI1 i), (6, .string (qF ((eX i (d.wts.take s)).getD (d.has.getD i [])))), (7, jI1 s)]) (fun s wr => s ≤ d.wts.length ∧ w = wr) (fun s => d.wts.length - s) 0 (js4 rfl rfl rfl rfl) ⟨zj _, rfl⟩ ?_
 rintro k _ ⟨hk, rfl⟩
 refine jS (jS (jR (jm rfl (jm rfl (jZ rfl (jf rfl zaf rfl zcv (jl rfl zfi (hb.cell 1) (jL rfl zdm (jb rfl rfl (Bin.lssN _ _) (jO (jN (jv5 0 1 6 7 36 ?_))))))))))))
 refine jD rfl (fun hc3 => ?_) fun hc3 => ?_
 ·
  obtain ⟨bd, hB1, hcB⟩ := yH hB.rd rfl hc3
  have hsn := qYe i (d.wts.take k) (d.wts.getD k wt0) (d.has.getD i [])
  rw [← zG hc3] at hsn
  rw [hB1] at hb
  generalize d.wts.getD k wt0 = x at hcB hsn
  obtain ⟨xi, xs⟩ := x
  dsimp only at hsn
  refine jQ (jN (jv4 0 1 6 7 ?_))
  refine jS (jB (jS (jR (jm rfl (jZ rfl (jf rfl zaf rfl zcv (jl rfl zfi (hb.cell 1) (jm rfl (je (Run.indexS _ rfl rfl zdm zgd jo) (jf rfl zfa rfl zm (jl rfl zaa (hcB 0 _ rfl) ?_)))))))))))
  refine jm rfl (jb rfl rfl (Bin.eqlN _ _) (jO (jN (jv5 0 1 6 7 48 ?_))))
  refine jD rfl (fun hc4 => ?_) fun hc4 => ?_
  ·
   refine jR (jm rfl (jZ rfl (jf rfl zaf rfl zcv (jl rfl zfi (hb.cell 1) (jm rfl (je (Run.indexS _ rfl rfl zdm zgd jo) (jf rfl zfa rfl zbm (jl rfl zde (hcB 1 _ rfl) ?_))))))))
   refine ja rfl (jO ?_)
   refine qH (jN ?_)
   refine jv4 0 1 6 7 ?_
   refine jR (jm rfl (jb rfl rfl (Bin.add_i64 _ 1 jo) (ja rfl (jO ?_))))
   refine jN ⟨k + 1, (js4 rfl rfl (by rw [hsn, if_pos hc4]; rfl) rfl), ?_, ?_⟩
   · exact ⟨hc3, rfl⟩
   exact jq
  refine jQ ?_
  refine qH (jN ?_)
  refine jv4 0 1 6 7 ?_
  refine jR (jm rfl (jb rfl rfl (Bin.add_i64 _ 1 jo) (ja rfl (jO ?_))))
  refine jN ⟨k + 1, (js4 rfl rfl (by rw [hsn, if_neg hc4]; rfl) rfl), ?_, ?_⟩
  · exact ⟨hc3, rfl⟩
  exact jq
 refine jX ?_
 refine qZ (qZ (qN ?_))
 refine jN (jv1 6 ?_)
 refine jS (jR (jm rfl (ja rfl (jz 0 (jO (jN (jv2 4 5 ?_)))))))
 refine jT ?_
 refine bX rfl rfl ?_
 obtain rfl : k = d.wts.length := jo
 rw [zbw]
 exact ⟨rfl, rfl⟩
theorem vL (g : Nat) (F : List Nat) (d : Dk) (w : World) (hD : IsRd w g F d) : Calls Tryz.prog 80 #[jI0 g] w fun e w' => e = .returned (.bool (decide d.fails)) ∧ IsRd w' g F (if d.fails then d.dead else d.less) ∧ Frm [g] w w' ∧ w'.heap.size = w.heap.size := by
 obtain ⟨A, c, B, cb, hb, hA, hB, rfl, hgA, hgB, hAB⟩ := hD.parts
 have hbig := hD.ok.big
 have hok := hD.ok
 have hbud := hok.bud
 have hbm := hok.bmax
 have fin : ∀ (w' : World) (b : Int) (o : Bool), Blk w' g 61 #[.slice A d.has.length c, .slice B d.wts.length cb, .int .i64 b, .bool o] → Frm [g] w w' → (-1 ≤ b ∧ b ≤ 9223372036854775807) → IsRd w' g (g :: (ob A ++ ob B)) { d with bud := b, off := o } := fun w' b o h k hbb =>
  ⟨⟨hok.sec, hok.wt, hbb.1, hok.big, hbb.2⟩, A, c, B, cb, h, hA.frm k (fun x hx => by simp; rintro rfl; exact hgA hx), hB.frm k (fun x hx => by simp; rintro rfl; exact hgB hx), rfl⟩
 refine jV Tryz.func80 Tryz.ntmps80 Tryz.results80 ?_
 refine jS (jR (ja rfl (jO (jN (jv1 0 ?_)))))
 refine jS (jS ?_)
 refine VC.split1 [(0, _)] (js1 rfl) 13 (.bool (decide (d.fails))) ?_ ?_
 ·
  refine jR ?_
  refine jm rfl (jZ rfl (jf rfl zaf rfl zat (jl rfl zcr (hb.cell 3) ?_)))
  by_cases hs6 : d.off = true
  ·
   refine jM ?_
   refine jU ?_
   refine jU ?_
   refine jU ?_
   refine jU ?_
   refine jU ?_
   refine jW rfl rfl au (jO ?_)
   refine jN ⟨(js2 (jC (by simp [Dk.fails, *])) rfl), rfl⟩
  refine jM ?_
  refine jG ?_
  refine jk (Run.nilck rfl) ?_
  refine jk (Run.fieldAddr rfl zaf rfl zm jd) ?_
  refine jk (Run.load rfl zaa (hb.cell 2)) ?_
  refine jk (Run.bin rfl rfl (Bin.eql _ 0)) ?_
  by_cases hs12 : d.bud = 0
  ·
   refine jF rfl rfl au (jO ?_)
   refine jN ⟨(js2 (jC (by simp [Dk.fails, *])) rfl), rfl⟩
  refine jF rfl rfl au (jO ?_)
  refine jN ⟨(js2 (jC (by simp [Dk.fails, *])) rfl), rfl⟩
 intro Γ hΓ
 refine jN (VC.sub _ hΓ ?_)
 refine jD rfl (fun hc1 => ?_) fun hc1 => ?_
 ·
  refine jS (jR (jm rfl (jZ rfl (jf rfl zaf rfl zat ?_))))
  refine Ops.st (qT.store rfl rfl zat hb rfl rfl) ?_
  rintro w1 ⟨hb1, hf1, hs1⟩
  refine jO (jN ?_)
  refine VC.sub [] .nil ?_
  refine jS (jR (ja rfl (jO (jN (jT ?_)))))
  refine qQ (qS rfl ?_)
  rw [if_pos hc1, decide_eq_true hc1]
  exact ⟨rfl, fin w1 d.bud true hb1 hf1 ⟨hbud, hbm⟩, hf1, hs1⟩
 have ho : d.off = false := by simpa [Dk.fails] using fun h => hc1 (.inl h)
 refine jQ (jN (jv1 0 ?_))
 refine jS (jS (jR (jm rfl (jZ rfl (jf rfl zaf rfl zm (jl rfl zaa (hb.cell 2) (jb rfl rfl (Bin.gtr _ 0) (jO (jN (jv2 0 21 ?_))))))))))
 refine jD rfl (fun hc2 => ?_) fun hc2 => ?_
 ·
  refine jR (jm rfl (jZ rfl (jf rfl zaf rfl zm (jl rfl zaa (hb.cell 2) (jb rfl rfl (Bin.subZ _ 1 jo jo) (jZ rfl (jf rfl zaf rfl zm ?_)))))))
  refine Ops.st (qT.store rfl rfl zm hb rfl rfl) ?_
  rintro w2 ⟨hb2, hf2, hs2⟩
  refine jO (jN ?_)
  refine VC.sub [] .nil ?_
  refine jS (jR (ja rfl (jO (jN (jT ?_)))))
  refine qS rfl ?_
  rw [if_neg hc1, decide_eq_false hc1]
  refine ⟨rfl, ?_, hf2, hs2⟩
  have := fin w2 (d.bud - 1) d.off hb2 hf2 ⟨jo, jo⟩
  simp only [Dk.less, if_pos hc2]
  exact this
 refine jQ (jN ?_)
 refine VC.sub [] .nil ?_
 refine jS (jR (ja rfl (jO (jN (jT ?_)))))
 refine qS rfl ?_
 rw [if_neg hc1, decide_eq_false hc1]
 refine ⟨rfl, ?_, Frm.refl _ _, rfl⟩
 simp only [Dk.less, if_neg hc2]
 exact hD
theorem kD (i : Nat) (s : List Nat) (g : Nat) (F : List Nat) (d : Dk) (w : World) (hD : IsRd w g F d) (hwl : d.wts.length ≤ 1000000) (hs : ∀ x ∈ s, x < 256) (hsl : s.length ≤ 1000000000) :
  Calls Tryz.prog 30 #[jI0 g, jI1 i, .string (qF s)] w fun e w' => ∃ F', e = .returned (jI1 ((d.write i s).1)) ∧ IsRd w' g F' (d.write i s).2 ∧ Fk F w w' F' := by
 have hbig := hD.ok.big
 have hok := hD.ok
 have hDD := hD
 obtain ⟨A, c, B, cb, hb, hA, hB, hFe, hgA, hgB, hAB⟩ := hD.parts
 refine jV Tryz.func30 Tryz.ntmps30 Tryz.results30 ?_
 refine jS (jR (jz 0 (jO (jN (jv3 0 1 2 ?_)))))
 refine jS (jS (jR (jm rfl (jb rfl rfl (Bin.lssN _ 0) (jM ?_)))))
 refine Ops.rg rfl jdf (Run.mv rfl) rfl ?_
 refine Ops.rg rfl jdf (Run.mv rfl) rfl ?_
 refine Ops.rg rfl jdf (Run.nilck rfl) rfl ?_
 refine Ops.rg rfl jdf (Run.fieldAddr rfl zaf rfl zdc jd) rfl ?_
 refine Ops.rg rfl jdf (Run.load rfl zdv (hb.cell 0)) rfl ?_
 refine Ops.rg rfl jdf (Run.lenS rfl zar) rfl ?_
 refine Ops.rg rfl jdf (Run.bin rfl rfl (Bin.geqN _ _)) rfl ?_
 refine jF rfl rfl jdf (jO (jN (jv4 0 1 2 17 ?_)))
 refine VC.condB rfl (fun hc1 => ?_) (fun hc1 => ?_)
 ·
  have hc1 : d.has.length ≤ i := of_decide_eq_true hc1
  have er : d.write i s = (4, d) := by unfold Dk.write; rw [if_pos jo]
  rw [er]
  refine jS (jR (jz 4 (jO (jN (jv1 6 ?_)))))
  refine jT ?_
  refine qQ (qS rfl ?_)
  exact ⟨F, rfl, hDD, Fk.refl _ _⟩
 have hc1 : ¬ d.has.length ≤ i := of_decide_eq_false hc1
 refine jQ (jN (jv3 0 1 2 ?_))
 refine jS (jS (jR (jm rfl (je (Run.lenO rfl zt) (jb rfl rfl (Bin.neqN _ 128) (jO (jN (jv4 0 1 2 20 ?_))))))))
 refine jD rfl (fun hc2 => ?_) fun hc2 => ?_
 ·
  have er : d.write i s = (1, d) := by unfold Dk.write; rw [if_neg jo, if_pos hc2]
  rw [er]
  refine jS (jR (jz 1 (jO (jN (jv1 6 ?_)))))
  refine jT ?_
  refine qQ (qS rfl ?_)
  exact ⟨F, rfl, hDD, Fk.refl _ _⟩
 refine jQ (jN (jv3 0 1 2 ?_))
 refine jS (jS (jR (jM ?_)))
 refine jc (jE1 Tryz.call80) (vL g F d w hDD) ?_
 rintro e w2 ⟨rfl, hD2, hf2, hs2⟩
 refine ⟨_, rfl, ?_⟩
 refine jO (jN (jv4 0 1 2 22 ?_))
 refine VC.condB rfl (fun hc3 => ?_) (fun hc3 => ?_)
 ·
  have hc3 : d.fails := of_decide_eq_true hc3
  have er : d.write i s = (10, d.dead) := by unfold Dk.write; rw [if_neg jo, if_neg hc2, if_pos hc3]
  rw [er]
  rw [if_pos hc3] at hD2
  refine jS (jR (jz 10 (jO (jN (jv1 6 ?_)))))
  refine jT ?_
  refine qQ (qS rfl ?_)
  exact ⟨F, rfl, hD2, hf2.mono (by simp [hDD.mem]), fun x hx => .inl hx⟩
 have hc3 : ¬ d.fails := of_decide_eq_false hc3
 have er : d.write i s = (0, { d.less with wts := d.wts ++ [(i, s)] }) := by unfold Dk.write; rw [if_neg jo, if_neg hc2, if_neg hc3]
 rw [er]
 rw [if_neg hc3] at hD2
 have hok2 := hD2.ok
 have hwl2 : d.less.wts.length ≤ 1000000 := hwl
 clear hb hA hB hFe hgA hgB hAB
 obtain ⟨A, c, B, cb, hb, hA, hB, hFe, hgA, hgB, hAB⟩ := hD2.parts
 refine jQ (jN (jv3 0 1 2 ?_))
 refine jS (jR (jm rfl (jm rfl (jZ rfl (jf rfl zaf rfl zcv (jl rfl zfi (hb.cell 1) (jm rfl (jm rfl (je (Run.build (evs.cons rfl (evs.cons rfl evs.nil)) qJ0 (zC).choose_spec.1 (zC).choose_spec.2 (cells := (wtC (i, s)).toArray) rfl) ?_)))))))))
 refine Ops.m (qV.buildS1 rfl zdm zgd qJ0 jd jd rfl rfl) rfl ?_
 rintro _ w3 ⟨rfl, hF3⟩
 have hr3 : Rd w3 2 (some ⟨w2.heap.size, 0, none⟩) 1 (wtC (i, s)) := Rd.of_blk (n := 1) (size := 2) hF3.blk rfl
 have hb3 := hb.frm hF3.frm jp
 have hA3 := hA.frm hF3.frm jp
 have hB3 := hB.frm hF3.frm jp
 have hgl := hb3.lt
 have hAl := hA3.lt
 have hwe : d.less.wts = d.wts := rfl
 refine Ops.m (qV.app rfl rfl zdm (qHm) rfl jd hB3 hr3 (qMb _) jo jo) rfl ?_
 rintro _ w4 ⟨B4, d4, rfl, hB4, hf4, hob4⟩
 have e4 : d.less.wts.flatMap wtC ++ wtC (i, s) = (d.wts ++ [(i, s)]).flatMap wtC := by rw [hwe]; simp
 rw [e4] at hB4
 have hb4 := hb3.frm hf4 hgB
 have hA4 := hA3.frm hf4 (fun x hx => hAB x hx)
 have kB := Fk.of_app hf4 hob4
 have hgB4 : g ∉ ob B4 := kB.out hgl hgB
 refine jZ rfl (jf rfl zaf rfl zcv ?_)
 refine Ops.st (qT.store rfl rfl zcv hb4 rfl rfl) ?_
 rintro w5 ⟨hb5, hf5, hs5⟩
 have hf5 : Frm [g] w4 w5 := hf5
 have hA5 := hA4.frm hf5 (fun x hx => by simp; rintro rfl; exact hgA hx)
 have hB5 := hB4.frm hf5 (fun x hx => by simp; rintro rfl; exact hgB4 hx)
 refine jO (jN ?_)
 refine VC.sub [] .nil ?_
 refine jS (jR (jz 0 (jO (jN (jT ?_)))))
 refine qS rfl ?_
 refine ⟨g :: (ob A ++ ob B4), rfl, ⟨⟨hok2.sec, fun x hx => ?_, hok2.bud, hok2.big, hok2.bmax⟩, A, c, B4, d4, ?_, hA5, ?_, rfl⟩, ?_, ?_⟩
 ·
  rcases zcp.1 hx with hx | hx
  · exact hok2.wt x hx
  rw [za] at hx; subst hx; exact ⟨by show i < d.has.length; omega, by dsimp only; omega, hs⟩
 · rw [zf]; exact hb5
 · rw [zf]; exact hB5
 ·
  rw [hFe]
  exact (((hf2.mono jp).trans (hF3.frm.mono (T := g :: (ob A ++ ob B)) jp) (fun x hx => .inl hx)).trans hf4 (fun x hx => .inl (by simp [hx]))).trans hf5 (fun x hx => .inl (by simp at hx; simp [hx]))
 intro x hx
 rw [hFe]
 simp only [zaq, zcp] at hx ⊢
 rcases hx with h | h | h
 · exact .inl (.inl h)
 · exact .inl (.inr (.inl h))
 rcases kB.2 x h with h1 | h1
 · exact .inl (.inr (.inr h1))
 exact .inr (by have := hF3.frm.size; omega)
theorem kE (g : Nat) (F : List Nat) (d : Dk) (w : World) (hD : IsRd w g F d) (hwl : d.wts.length ≤ 1000000) :
  Calls Tryz.prog 32 #[jI0 g] w fun e w' => ∃ F', e = .returned (jI1 ((d.flush).1)) ∧ IsRd w' g F' d.flush.2 ∧ Fk F w w' F' := by
 have hok := hD.ok
 have hmem := hD.mem
 refine jV Tryz.func32 Tryz.ntmps32 Tryz.results32 ?_
 refine jS (jR (jz 0 (jO (jN (jv1 0 ?_)))))
 refine jS (jS (jR (jM ?_)))
 refine jc (jE1 Tryz.call80) (vL g F d w hD) ?_
 rintro e w2 ⟨rfl, hD2, hf2, hs2⟩
 refine ⟨_, rfl, ?_⟩
 refine jO (jN (jv2 0 5 ?_))
 refine VC.condB rfl (fun hc1 => ?_) (fun hc1 => ?_)
 ·
  have hc1 : d.fails := of_decide_eq_true hc1
  have er : d.flush = (10, d.dead) := by unfold Dk.flush; rw [if_pos hc1]
  rw [er]
  rw [if_pos hc1] at hD2
  refine jS (jR (jz 10 (jO (jN (jv1 2 ?_)))))
  refine jT ?_
  refine qQ (qS rfl ?_)
  exact ⟨F, rfl, hD2, hf2.mono (by simp [hmem]), fun x hx => .inl hx⟩
 have hc1 : ¬ d.fails := of_decide_eq_false hc1
 have er : d.flush = (0, { d.less with has := bB (fun _ => true) 0 d.has d.wts, wts := [] }) := by unfold Dk.flush; rw [if_neg hc1]
 rw [er]
 rw [if_neg hc1] at hD2
 have hok2 := hD2.ok
 have hbig := hok2.big
 obtain ⟨A, c, B, cb, hb, hA, hB, hFe, hgA, hgB, hAB⟩ := hD2.parts
 have hA0 : Own w2 9 1 A d.has.length c ((bB (fun _ => true) 0 d.has (d.wts.take 0)).map SS) := hA
 refine jQ (jN (jv1 0 ?_))
 refine jS (jS (jR (jz 0 (jO (jN (jB ?_))))))
 refine VC.loop (σ := Nat) (fun s => [(0, jI0 g), (3, jI1 s)]) (fun s wr => s ≤ d.wts.length ∧ Own wr 9 1 A d.has.length c ((bB (fun _ => true) 0 d.has (d.wts.take s)).map SS) ∧ Frm (ob A) w2 wr) (fun s => d.wts.length - s) 0 (js2 rfl rfl) ⟨zj _, hA0, Frm.refl _ _⟩ ?_
 rintro k wr ⟨hk, hAk, Kk⟩
 have hbk := hb.frm Kk hgA
 have hBk := hB.frm Kk (fun x hx h => hAB x h hx)
 refine jS (jS (jR (jm rfl (jm rfl (jZ rfl (jf rfl zaf rfl zcv (jl rfl zfi (hbk.cell 1) (jL rfl zdm (jb rfl rfl (Bin.lssN _ _) (jO (jN (jv3 0 3 12 ?_))))))))))))
 refine jD rfl (fun hc2 => ?_) fun hc2 => ?_
 ·
  have hc2 : k < d.wts.length := hc2
  obtain ⟨bd, hB1, hcB⟩ := yH hBk.rd rfl hc2
  have hwx := hok.wt _ (qYd hc2)
  have hsn := nE (fun _ => true) (d.wts.getD k wt0) (d.wts.take k) 0 d.has
  rw [← zG hc2, if_pos rfl] at hsn
  have hcBV : ∀ V, Frm [] wr V → ∀ j v, (wtC (d.wts.getD k wt0))[j]? = some v → V.cell? ((bd.add (k * 2)).add j) = some v := fun V hV => by
   obtain ⟨bd2, h1, h2⟩ := yH (hBk.frm hV jp).rd rfl hc2
   rw [hB1] at h1
   cases h1
   exact h2
  generalize d.wts.getD k wt0 = x at hcBV hsn hwx
  obtain ⟨xi, xs⟩ := x
  dsimp only at hsn hwx
  have hAl : (bB (fun _ => true) 0 d.has (d.wts.take k)).length = d.has.length := eQ _ _ _ _
  obtain ⟨ad, hA1, _⟩ := hAk.rd.2 jo
  have hbA : ∀ V, Frm [] wr V → Blk V g 61 #[.slice (some ad) d.has.length c, .slice (some bd) d.wts.length cb, .int .i64 d.less.bud, .bool d.less.off] := fun V hV => by
   rw [← hA1, ← hB1]
   exact hbk.frm hV jp
  refine jQ (jN (jv2 0 3 ?_))
  refine jS (jB ?_)
  refine VC.heldL 21 (fun V => Frm [] wr V) jK ?_
  have hS : Frm [] wr wr.drew := (Frm.refl _ _).drew
  refine jh 0 hS ?_
  refine jH 1 rfl hS (fun w0 hw0 => Run.nilck rfl) ?_
  refine jH 2 rfl hS (fun w0 hw0 => Run.fieldAddr rfl zaf rfl zdc jd) ?_
  refine jH 3 rfl hS (fun w0 hw0 => Run.load rfl zdv ((hbA _ hw0).cell 0)) ?_
  refine jh 4 hS ?_
  refine jH 5 rfl hS (fun w0 hw0 => Run.nilck rfl) ?_
  refine jH 6 rfl hS (fun w0 hw0 => Run.fieldAddr rfl zaf rfl zcv jd) ?_
  refine jH 7 rfl hS (fun w0 hw0 => Run.load rfl zfi ((hbA _ hw0).cell 1)) ?_
  refine jh 8 hS ?_
  refine jH 9 rfl hS (fun w0 hw0 => Run.indexS _ rfl rfl zdm zgd jo) ?_
  refine jH 10 rfl hS (fun w0 hw0 => Run.fieldAddr rfl zfa rfl zm jd) ?_
  refine jH 11 rfl hS (fun w0 hw0 => Run.load rfl zaa (hcBV _ hw0 0 _ rfl)) ?_
  refine jh 12 hS ?_
  refine jH 13 rfl hS (fun w0 hw0 => Run.nilck rfl) ?_
  refine jH 14 rfl hS (fun w0 hw0 => Run.fieldAddr rfl zaf rfl zcv jd) ?_
  refine jH 15 rfl hS (fun w0 hw0 => Run.load rfl zfi ((hbA _ hw0).cell 1)) ?_
  refine qJ.r1 16 rfl jK hS (Run.mv rfl) trivial rfl rfl ?_
  refine qJ.r1 17 rfl jK hS (Run.indexS _ rfl rfl zdm zgd jo) trivial rfl rfl ?_
  refine qJ.r1 18 rfl jK hS (Run.fieldAddr rfl zfa rfl zbm jd) trivial rfl rfl ?_
  refine qJ.r1 19 rfl jK hS (Run.load rfl zde (hcBV _ hS 1 _ rfl)) trivial rfl rfl ?_
  refine qJ.r1 20 rfl jK hS (Run.index1 _ rfl rfl zar zbm jo) trivial rfl rfl ?_
  refine qJ.stL rfl jK (qT.storeOwn xi rfl rfl zbm (hAk.frm hS jp) hA1 jo rfl) trivial rfl ?_
  rintro w6 ⟨hA6, hf6, hs6⟩
  have e6 : ((bB (fun _ => true) 0 d.has (d.wts.take k)).map SS).set xi (.string (qF xs)) = (bB (fun _ => true) 0 d.has (d.wts.take (k + 1))).map SS := by rw [hsn, zfg]; rfl
  rw [e6] at hA6
  have kk6 : Frm (ob A) wr w6 := (hS.mono jp).trans hf6 (fun x hx => .inl hx)
  refine qJ.done jK ?_
  refine qH (jN ?_)
  refine jv2 0 3 ?_
  refine jR (jm rfl (jb rfl rfl (Bin.add_i64 _ 1 jo) (ja rfl (jO ?_))))
  refine jN ⟨k + 1, (js2 rfl rfl), ?_, ?_⟩
  · exact ⟨hc2, hA6, Kk.trans kk6 (fun x hx => .inl hx)⟩
  exact jq
 have hc2 : ¬ k < d.wts.length := hc2
 refine jX ?_
 refine qZ (qZ (qN ?_))
 refine jN (jv1 0 ?_)
 refine jS (jR (jm rfl (jZ rfl (jf rfl zaf rfl zcv ?_))))
 refine Ops.st (qT.store rfl rfl zcv hbk rfl rfl) ?_
 rintro w7 ⟨hb7, hf7, hs7⟩
 have hf7 : Frm [g] wr w7 := hf7
 have hA7 := hAk.frm hf7 (fun x hx => by simp; rintro rfl; exact hgA hx)
 refine jO (jN ?_)
 refine VC.sub [] .nil ?_
 refine jS (jR (jz 0 (jO (jN (jT ?_)))))
 refine qS rfl ?_
 obtain rfl : k = d.wts.length := jo
 rw [zbw] at hA7
 have hdl : (bB (fun _ => true) 0 d.has d.wts).length = d.has.length := eQ _ _ _ _
 refine ⟨g :: (ob A ++ []), rfl, ⟨⟨pP _ (fun s => s.length = 128 ∧ ∀ b ∈ s, b < 256) _ _ _ hok.sec (fun x hx => (hok.wt x hx).2), (fun x hx => by cases hx), hok2.bud, by rw [hdl]; exact hok.big, hok2.bmax⟩, A, c, none, 0, ?_, ?_, Own.nil _ _ _, rfl⟩, ?_, ?_⟩
 · rw [hdl]; exact hb7
 · rw [hdl]; exact hA7
 ·
  rw [hFe]
  exact ((hf2.mono jp).trans Kk (fun x hx => .inl (by simp [hx]))).trans hf7 (fun x hx => .inl (by simp at hx; simp [hx]))
 intro x hx
 rw [hFe]
 simp at hx ⊢
 rcases hx with h | h
 · exact .inl (.inl h)
 exact .inl (.inr (.inl h))
theorem qYf (S : Option Addr) (n cS : Nat) (l : List Bool) (g : Nat) (F : List Nat) (d : Dk) (w : World) (hD : IsRd w g F d) (hwl : d.wts.length ≤ 1000000) (hn : l.length = n) (hr : Rd w 1 S n (BL l)) (hS0 : 0 < n → ∀ x ∈ ob S, x ∉ F) :
  Calls Tryz.prog 26 #[jI0 g, .slice S n cS] w fun e w' => ∃ F', e = .returned (.tuple #[]) ∧ IsRd w' g F' (d.cut l) ∧ Fk F w w' F' := by
 have hok := hD.ok
 have hbig := hok.big
 obtain ⟨A, c, B, cb, hb, hA, hB, hFe, hgA, hgB, hAB⟩ := hD.parts
 have hA0 : Own w 9 1 A d.has.length c ((bB (fun k => l.getD k false) 0 d.has (d.wts.take 0)).map SS) := hA
 refine jV Tryz.func26 Tryz.ntmps26 Tryz.results26 ?_
 refine jS (jS (jR (jz 0 (jO (jN (jB ?_))))))
 refine VC.loop (σ := Nat) (fun s => [(0, jI0 g), (1, .slice S n cS), (4, jI1 s)]) (fun s wr => s ≤ d.wts.length ∧ s ≤ n ∧ Own wr 9 1 A d.has.length c ((bB (fun k => l.getD k false) 0 d.has (d.wts.take s)).map SS) ∧ Frm (ob A) w wr) (fun s => d.wts.length - s) 0 (js3 rfl rfl rfl) ⟨zj _, zj _, hA0, Frm.refl _ _⟩ ?_
 rintro k wr ⟨hk, hkn, hAk, Kk⟩
 have hbk := hb.frm Kk hgA
 have hBk := hB.frm Kk (fun x hx h => hAB x h hx)
 have hrk := hr.frm Kk (fun h0 x hx h => hS0 h0 x hx (by rw [hFe]; simp [h]))
 refine jS (jS ?_)
 refine VC.split1 [(0, _), (1, _), (4, _)] (js3 rfl rfl rfl) 17 (.bool (decide (k < d.wts.length ∧ k < n))) ?_ ?_
 ·
  refine jR ?_
  refine jm rfl (jm rfl (jZ rfl (jf rfl zaf rfl zcv (jl rfl zfi (hbk.cell 1) (jL rfl zdm (jb rfl rfl (Bin.lssN _ _) ?_))))))
  by_cases hs11 : k < d.wts.length
  ·
   refine jM ?_
   refine jG ?_
   refine jG ?_
   refine jk (Run.lenS rfl zcd) ?_
   refine jk (Run.bin rfl rfl (Bin.lssN _ _)) ?_
   by_cases hs16 : k < n
   ·
    refine jW rfl rfl au (jO ?_)
    refine jN ⟨(js4 (jC (by grind)) rfl rfl rfl), rfl⟩
   refine jW rfl rfl au (jO ?_)
   refine jN ⟨(js4 (jC (by grind)) rfl rfl rfl), rfl⟩
  refine jM ?_
  refine jU ?_
  refine jU ?_
  refine jU ?_
  refine jU ?_
  refine jF rfl rfl au (jO ?_)
  refine jN ⟨(js4 (jC (by grind)) rfl rfl rfl), rfl⟩
 intro Γ hΓ
 refine jN (VC.sub _ hΓ ?_)
 refine jD rfl (fun hc1 => ?_) fun hc1 => ?_
 ·
  obtain ⟨hc1a, hc1b⟩ := hc1
  obtain ⟨sd, hS1, hcS⟩ := oV hrk hn hc1b
  obtain ⟨bd, hB1, hcB⟩ := yH hBk.rd rfl hc1a
  have hwx := hok.wt _ (qYd hc1a)
  have hsn := nE (fun k => l.getD k false) (d.wts.getD k wt0) (d.wts.take k) 0 d.has
  rw [← zG hc1a, show 0 + (d.wts.take k).length = k by rw [zk]; omega] at hsn
  have hcBV : ∀ V, Frm [] wr V → ∀ j v, (wtC (d.wts.getD k wt0))[j]? = some v → V.cell? ((bd.add (k * 2)).add j) = some v := fun V hV => by
   obtain ⟨bd2, h1, h2⟩ := yH (hBk.frm hV jp).rd rfl hc1a
   rw [hB1] at h1
   cases h1
   exact h2
  generalize d.wts.getD k wt0 = x at hcBV hsn hwx
  obtain ⟨xi, xs⟩ := x
  dsimp only at hsn hwx
  have hAl : (bB (fun k => l.getD k false) 0 d.has (d.wts.take k)).length = d.has.length := eQ _ _ _ _
  obtain ⟨ad, hA1, _⟩ := hAk.rd.2 jo
  have hbA : ∀ V, Frm [] wr V → Blk V g 61 #[.slice (some ad) d.has.length c, .slice (some bd) d.wts.length cb, .int .i64 d.bud, .bool d.off] := fun V hV => by
   rw [← hA1, ← hB1]
   exact hbk.frm hV jp
  rw [hS1]
  refine jQ (jN (jv3 0 1 4 ?_))
  refine jS (jB (jS (jR (jm rfl (jm rfl (je (Run.index1 _ rfl rfl zcd zat jo) (jl rfl zcr hcS (jO (jN (jv4 0 1 4 23 ?_))))))))))
  refine VC.condB rfl (fun hc2 => ?_) (fun hc2 => ?_)
  ·
   have hc2 : l.getD k false = true := hc2
   rw [if_pos hc2] at hsn
   refine VC.heldL 21 (fun V => Frm [] wr V) jK ?_
   have hS : Frm [] wr wr.drew := (Frm.refl _ _).drew
   refine jh 0 hS ?_
   refine jH 1 rfl hS (fun w0 hw0 => Run.nilck rfl) ?_
   refine jH 2 rfl hS (fun w0 hw0 => Run.fieldAddr rfl zaf rfl zdc jd) ?_
   refine jH 3 rfl hS (fun w0 hw0 => Run.load rfl zdv ((hbA _ hw0).cell 0)) ?_
   refine jh 4 hS ?_
   refine jH 5 rfl hS (fun w0 hw0 => Run.nilck rfl) ?_
   refine jH 6 rfl hS (fun w0 hw0 => Run.fieldAddr rfl zaf rfl zcv jd) ?_
   refine jH 7 rfl hS (fun w0 hw0 => Run.load rfl zfi ((hbA _ hw0).cell 1)) ?_
   refine jh 8 hS ?_
   refine jH 9 rfl hS (fun w0 hw0 => Run.indexS _ rfl rfl zdm zgd jo) ?_
   refine jH 10 rfl hS (fun w0 hw0 => Run.fieldAddr rfl zfa rfl zm jd) ?_
   refine jH 11 rfl hS (fun w0 hw0 => Run.load rfl zaa (hcBV _ hw0 0 _ rfl)) ?_
   refine jh 12 hS ?_
   refine jH 13 rfl hS (fun w0 hw0 => Run.nilck rfl) ?_
   refine jH 14 rfl hS (fun w0 hw0 => Run.fieldAddr rfl zaf rfl zcv jd) ?_
   refine jH 15 rfl hS (fun w0 hw0 => Run.load rfl zfi ((hbA _ hw0).cell 1)) ?_
   refine qJ.r1 16 rfl jK hS (Run.mv rfl) trivial rfl rfl ?_
   refine qJ.r1 17 rfl jK hS (Run.indexS _ rfl rfl zdm zgd jo) trivial rfl rfl ?_
   refine qJ.r1 18 rfl jK hS (Run.fieldAddr rfl zfa rfl zbm jd) trivial rfl rfl ?_
   refine qJ.r1 19 rfl jK hS (Run.load rfl zde (hcBV _ hS 1 _ rfl)) trivial rfl rfl ?_
   refine qJ.r1 20 rfl jK hS (Run.index1 _ rfl rfl zar zbm jo) trivial rfl rfl ?_
   refine qJ.stL rfl jK (qT.storeOwn xi rfl rfl zbm (hAk.frm hS jp) hA1 jo rfl) trivial rfl ?_
   rintro w6 ⟨hA6, hf6, hs6⟩
   have e6 : ((bB (fun k => l.getD k false) 0 d.has (d.wts.take k)).map SS).set xi (.string (qF xs)) = (bB (fun k => l.getD k false) 0 d.has (d.wts.take (k + 1))).map SS := by rw [hsn, zfg]; rfl
   rw [e6] at hA6
   have kk6 : Frm (ob A) wr w6 := (hS.mono jp).trans hf6 (fun x hx => .inl hx)
   rw [← hS1]
   refine qJ.done jK ?_
   refine qH (jN ?_)
   refine jv3 0 1 4 ?_
   refine jR (jm rfl (jb rfl rfl (Bin.add_i64 _ 1 jo) (ja rfl (jO ?_))))
   refine jN ⟨k + 1, (js3 rfl rfl rfl), ?_, ?_⟩
   · exact ⟨hc1a, hc1b, hA6, Kk.trans kk6 (fun x hx => .inl hx)⟩
   exact jq
  have hc2 : l.getD k false = false := hc2
  rw [if_neg (by rw [hc2]; exact Bool.false_ne_true)] at hsn
  rw [← hS1]
  refine jQ ?_
  refine qH (jN ?_)
  refine jv3 0 1 4 ?_
  refine jR (jm rfl (jb rfl rfl (Bin.add_i64 _ 1 jo) (ja rfl (jO ?_))))
  refine jN ⟨k + 1, (js3 rfl rfl rfl), ?_, ?_⟩
  · exact ⟨hc1a, hc1b, by rw [hsn]; exact hAk, Kk⟩
  exact jq
 refine jX ?_
 refine qZ (qZ (qN ?_))
 refine jN (jv1 0 ?_)
 refine jS (jR (jm rfl (jZ rfl (jf rfl zaf rfl zcv ?_))))
 refine Ops.st (qT.store rfl rfl zcv hbk rfl rfl) ?_
 rintro w7 ⟨hb7, hf7, hs7⟩
 have hf7 : Frm [g] wr w7 := hf7
 refine jO (jN (jv1 0 ?_))
 refine jR (jm rfl (jZ rfl (jf rfl zaf rfl zat ?_)))
 refine Ops.st (qT.store rfl rfl zat hb7 rfl rfl) ?_
 rintro w8 ⟨hb8, hf8, hs8⟩
 have hf8 : Frm [g] w7 w8 := hf8
 have hA8 := (hAk.frm hf7 (fun x hx => by simp; rintro rfl; exact hgA hx)).frm hf8 (fun x hx => by simp; rintro rfl; exact hgA hx)
 refine jO ?_
 refine pY ?_
 have hde : bB (fun k => l.getD k false) 0 d.has (d.wts.take k) = bB (fun k => l.getD k false) 0 d.has d.wts := by
  by_cases hkk : k < d.wts.length
  ·
   have hkn2 : k = n := jo
   conv => rhs; rw [← zbq k d.wts]
   rw [yM _ _ _ _ _ (fun i hi => by
    rw [zk] at hi
    rw [zb, zct jo]
    rfl)]
  rw [zh jo]
 rw [hde] at hA8
 have hdl : (bB (fun k => l.getD k false) 0 d.has d.wts).length = d.has.length := eQ _ _ _ _
 refine ⟨g :: (ob A ++ []), rfl, ⟨hok.cut_ok l, A, c, none, 0, ?_, ?_, Own.nil _ _ _, rfl⟩, ?_, ?_⟩
 · unfold Dk.cut; dsimp only; rw [hdl]; exact hb8
 · unfold Dk.cut; dsimp only; rw [hdl]; exact hA8
 ·
  rw [hFe]
  exact ((Kk.mono (fun x hx => .inl (by simp [hx]))).trans hf7 (fun x hx => .inl (by simp at hx; simp [hx]))).trans hf8 (fun x hx => .inl (by simp at hx; simp [hx]))
 intro x hx
 rw [hFe]
 simp at hx ⊢
 rcases hx with h | h
 · exact .inl (.inl h)
 exact .inl (.inr (.inl h))
theorem qGv (g : Nat) (F : List Nat) (d : Dk) (w : World) (hD : IsRd w g F d) :
  Calls Tryz.prog 27 #[jI0 g] w fun e w' => ∃ F', e = .returned (.tuple #[]) ∧ IsRd w' g F' d.on ∧ Fk F w w' F' := by
 obtain ⟨A, c, B, cb, hb, hA, hB, rfl, hgA, hgB, hAB⟩ := hD.parts
 have hbig := hD.ok.big
 have hok := hD.ok
 refine jV Tryz.func27 Tryz.ntmps27 Tryz.results27 ?_
 refine jS (jR (jm rfl (jZ rfl (jf rfl zaf rfl zcv ?_))))
 refine Ops.st (qT.store rfl rfl zcv hb rfl rfl) ?_
 rintro w1 ⟨hb1, hf1, hs1⟩
 refine jO (jN (jv1 0 ?_))
 refine jS (jR (jm rfl (jZ rfl (jf rfl zaf rfl zm ?_))))
 refine Ops.st (qT.store rfl rfl zm hb1 rfl rfl) ?_
 rintro w2 ⟨hb2, hf2, hs2⟩
 refine jO (jN (jv1 0 ?_))
 refine jR (jm rfl (jZ rfl (jf rfl zaf rfl zat ?_)))
 refine Ops.st (qT.store rfl rfl zat hb2 rfl rfl) ?_
 rintro w3 ⟨hb3, hf3, hs3⟩
 refine jO ?_
 refine pY ?_
 have K := (hf1.trans hf2 jp).trans hf3 jp
 have hA3 := hA.frm K (fun x hx => by simp; rintro rfl; exact hgA hx)
 exact ⟨g :: (ob A ++ []), rfl, ⟨hok.on_ok, A, c, none, 0, hb3, hA3, Own.nil _ _ _, rfl⟩, K.mono jp, fun x hx => .inl (by
  simp at hx ⊢
  rcases hx with h | h
  · exact .inl h
  exact .inr (.inl h))⟩
theorem qMc {bs : List Nat} {a n j : Nat} (h : a + n ≤ bs.length) (hj : j < n) : cT ((bs.drop (a + j)).take (n - j)) = bs.getD (a + j) 0 + 256 * cT ((bs.drop (a + (j + 1))).take (n - (j + 1))) := by
 have hl : a + j < bs.length := jo
 rw [List.drop_eq_getElem_cons hl, show n - j = (n - (j + 1)) + 1 by omega, zed, cT, zb, ze hl]
 rfl
theorem sW {bs : List Nat} (hB : ∀ b ∈ bs, b < 256) (a n : Nat) : cT ((bs.drop a).take n) < 256 ^ n := by
 have h1 := rE ((bs.drop a).take n) (fun x hx => hB x (zau (zo hx)))
 exact zas h1 (zcg jo (by rw [zk]; omega))
theorem qKk : ∀ (l : List Pq) (s : Nat), s < 4294967296 → (∀ x ∈ l, ∀ b ∈ x.2.2.2, b < 256) → (puL l).foldl (fun s x => moreM s x.2) s = moreM s (l.flatMap fun x => x.2.2.2)
 | [], s, hs, _ => by
  show s = moreM s []
  unfold moreM goM
  rw [List.foldl_nil]
  omega
 | x :: r, s, hs, h => by
  show (puL r).foldl _ (moreM s x.2.2.2) = _
  rw [qKk r _ (qXp _ _) (fun y hy => h y (by simp [hy])), zaw, qXq _ _ _ (h x jp)]
theorem xJ {bs : List Nat} {k : Nat} (h : bs.length + k < 128) : (bs ++ noM k) ++ [0] = bs ++ noM (k + 1) := by
 rw [zab, noM, noM, List.replicate_succ']
theorem lP (s : List Nat) (a n : Nat) (w : World) (hB : ∀ b ∈ s, b < 256) (hl : s.length ≤ 1000000000) (hn1 : 1 ≤ n) (hn8 : n ≤ 8) (h : a + n ≤ s.length) :
  Calls Tryz.prog 84 #[.string (qF s), jI1 a, jI1 n] w fun e w' => e = .returned (.tuple #[jI2 (cT ((s.drop a).take n)), .int .i64 0]) ∧ w = w' := by
 have h256 : (256 : Nat) ^ n ≤ 256 ^ 8 := zcg jo hn8
 have e8 : (256 : Nat) ^ 8 = 18446744073709551616 := rfl
 refine jV Tryz.func84 Tryz.ntmps84 Tryz.results84 ?_
 refine jS (jR ?_)
 refine jy .u64 0 ?_
 refine jz 0 (jO (jN (jv3 0 1 2 ?_)))
 refine jS (jS ?_)
 refine VC.split1 [(0, _), (1, _), (2, _)] (js3 rfl rfl rfl) 15 (.bool (decide (n < 1 ∨ 8 < n))) ?_ ?_
 ·
  refine jR ?_
  refine jm rfl (jb rfl rfl (Bin.lssN _ 1) ?_)
  by_cases hs11 : n < 1
  ·
   refine jM ?_
   refine jU ?_
   refine jU ?_
   refine jW rfl rfl au (jO ?_)
   refine jN ⟨(js4 (jC (by grind)) rfl rfl rfl), rfl⟩
  refine jM ?_
  refine jG ?_
  refine jk (Run.bin rfl rfl (Bin.gtrN _ 8)) ?_
  by_cases hs14 : 8 < n
  ·
   refine jF rfl rfl au (jO ?_)
   refine jN ⟨(js4 (jC (by grind)) rfl rfl rfl), rfl⟩
  refine jF rfl rfl au (jO ?_)
  refine jN ⟨(js4 (jC (by grind)) rfl rfl rfl), rfl⟩
 intro Γ hΓ
 refine jN (VC.sub _ hΓ ?_)
 refine VC.condF rfl jdf ?_
 refine jQ (jN (jv3 0 1 2 ?_))
 refine jS (jS (jR (jm rfl (jb rfl rfl (Bin.lssN _ 0) (jM ?_)))))
 refine Ops.rg rfl jdf (Run.mv rfl) rfl ?_
 refine Ops.rg rfl jdf (Run.mv rfl) rfl ?_
 refine Ops.rg rfl jdf (Run.lenO rfl zt) rfl ?_
 refine Ops.rg rfl jdf (Run.bin rfl rfl (Bin.gtrN _ _)) rfl ?_
 refine jF rfl rfl jdf (jO (jN (jv4 0 1 2 23 ?_)))
 refine VC.condF rfl jdf ?_
 refine jQ (jN (jv3 0 1 2 ?_))
 refine jS (jS (jR (jm rfl (jm rfl (je (Run.lenO rfl zt) (jm rfl (jb rfl rfl (Bin.sub_i64 _ _ jo jo) (jb rfl rfl (Bin.gtrN _ _) (jO (jN (jv4 0 1 2 29 ?_)))))))))))
 refine VC.condF rfl jdf ?_
 refine jQ (jN (jv3 0 1 2 ?_))
 refine jS (jR ?_)
 refine jy .u64 0 ?_
 refine jO (jN (jS (jS (jR (jm rfl (jb rfl rfl (Bin.subZ _ 1 jo jo) (ja rfl (jO (jN (jv4 0 1 8 9 ?_))))))))))
 refine jB ?_
 refine VC.loop (σ := Nat) (fun s1 => [(0, .string (qF s)), (1, jI1 a), (8, jI2 (cT ((s.drop (a + s1)).take (n - s1)))), (9, .int .i64 (((s1 : Nat) : Int) - 1))]) (fun s1 wr => s1 ≤ n ∧ w = wr) (fun s1 => s1) n (js4 rfl rfl (by rw [zes, zcs]; rfl) rfl) ⟨zag _, rfl⟩ ?_
 rintro k _ ⟨hk, rfl⟩
 refine jS (jS (jR (jm rfl (jb rfl rfl (Bin.geq _ 0) (jO (jN (jv5 0 1 8 9 33 ?_)))))))
 refine jD rfl (fun hc4 => ?_) fun hc4 => ?_
 ·
  obtain ⟨j, rfl⟩ : ∃ j, k = j + 1 := ⟨k - 1, jo⟩
  have hpe : (((j + 1 : Nat) : Int) - 1) = ((j : Nat) : Int) := jo
  rw [hpe]
  have hva := qMc h (jo : j < n)
  have hvb := sW hB (a + j) (n - j)
  have hvn : (256 : Nat) ^ (n - j) ≤ 256 ^ 8 := zcg jo jo
  generalize cT ((s.drop (a + (j + 1))).take (n - (j + 1))) = v at *
  refine jQ (jN (jv4 0 1 8 9 ?_))
  refine jS (jB (jR (jm rfl (jb rfl rfl (Bin.mul_u64 _ 256 jo) (jm rfl (jm rfl (jm rfl (jb rfl rfl (Bin.addZ _ _ jo jo) ?_))))))))
  rw [show ((a : Nat) : Int) + ((j : Nat) : Int) = ((a + j : Nat) : Int) from rfl]
  refine je (Run.indexO _ rfl rfl zt jo hB) (je (Run.convN _ rfl zac zr (by simp only [bmax]; omega)) (jb rfl rfl (Bin.add_u64 _ _ jo) (ja rfl (jO ?_))))
  refine qH (jN ?_)
  refine jv4 0 1 8 9 ?_
  refine jR (jm rfl (jb rfl rfl (Bin.subZ _ 1 jo jo) (ja rfl (jO ?_))))
  refine jN ⟨j, (js4 rfl rfl (by rw [hva, zgp, zff 256 v]; rfl) rfl), ?_, ?_⟩
  · exact ⟨jo, rfl⟩
  exact jq
 refine jX ?_
 refine qZ (qZ (qN ?_))
 refine jN (jv1 8 ?_)
 refine jS (jR (jm rfl (ja rfl (jz 0 (jO (jN (jv2 6 7 ?_)))))))
 refine jT ?_
 refine bX rfl rfl ?_
 obtain rfl : k = 0 := jo
 exact ⟨rfl, rfl⟩
theorem oZ (A : Option Addr) (c n : Nat) (bs : List Nat) (w : World) (hn : bs.length = n) (hl : n ≤ 1000000000) (hB : ∀ b ∈ bs, b < 256) (hr : Rd w 1 A n (NB bs)) :
  Calls Tryz.prog 67 #[.slice A n c] w fun e w' => e = .returned (.string (qF (fW bs))) ∧ Frm [] w w' := by
 have hc := kW bs
 have hnum : qC (crcM bs) 4 = [crcM bs % 256, crcM bs / 256 % 256, crcM bs / 65536 % 256, crcM bs / 16777216] := by
  simp only [qC, zfq]
  rw [zdb (jo : crcM bs / 16777216 < 256)]
 refine jV Tryz.func67 Tryz.ntmps67 Tryz.results67 ?_
 refine jS (jR ?_)
 refine Ops.r (v := .string (qF [])) (Run.asg rfl) rfl ?_
 refine jO (jN (jv1 0 ?_))
 refine jS (jR (jM ?_))
 refine jc0 (jE1 Tryz.call61) (nG A c n bs w hn hl hB hr) ?_
 refine ja rfl (jO (jN (jv2 0 3 ?_)))
 refine jS (jR (jm rfl (je (Run.strOf rfl zg zac zt (rdU hr hB)) (jm rfl (jb rfl rfl (Bin.remN _ 256 jo) (je (Run.conv8 _ rfl zby zac) ?_))))))
 rw [zdb (jo : crcM bs % 256 < 256)]
 refine jm rfl (jb rfl rfl (Bin.quo_u32 _ 256 jo jo) (jb rfl rfl (Bin.remN _ 256 jo) (je (Run.conv8 _ rfl zby zac) ?_)))
 rw [zdb (jo : crcM bs / 256 % 256 < 256)]
 refine jm rfl (jb rfl rfl (Bin.quo_u32 _ 65536 jo jo) (jb rfl rfl (Bin.remN _ 256 jo) (je (Run.conv8 _ rfl zby zac) ?_)))
 rw [zdb (jo : crcM bs / 65536 % 256 < 256)]
 refine jm rfl (jb rfl rfl (Bin.quo_u32 _ 16777216 jo jo) (je (Run.conv8 _ rfl zby zac) ?_))
 rw [zdb (jo : crcM bs / 16777216 < 256)]
 refine Ops.m (qV.buildN (cells := #[.int .u8 ((crcM bs % 256 : Nat) : Int), .int .u8 ((crcM bs / 256 % 256 : Nat) : Int), .int .u8 ((crcM bs / 65536 % 256 : Nat) : Int), .int .u8 ((crcM bs / 16777216 : Nat) : Int)]) (evs.cons rfl (evs.cons rfl (evs.cons rfl (evs.cons rfl evs.nil)))) zg zam pM rfl rfl jK) rfl ?_
 rintro _ w2 ⟨rfl, hF2⟩
 have hr2 : Rd w2 1 (some ⟨w.heap.size, 0, none⟩) 4 (NB (qC (crcM bs) 4)) := by rw [hnum]; exact Rd.of_blk (n := 4) (size := 1) hF2.blk rfl
 refine je (Run.strOf rfl zg zac zt (rdU hr2 (numL_lt _ _))) (je (Run.addO (a := bs) (b := qC (crcM bs) 4) rfl rfl (by rw [numL_len]; omega)) (ja rfl (jO (jN (jv1 2 ?_)))))
 refine jT ?_
 refine qS rfl ?_
 exact ⟨rfl, hF2.frm⟩
theorem qVo (S : Option Addr) (n c size : Nat) (l : List Pq) (w : World) (hn : n ≤ 1000000) (hs : size ≤ 1000000000) (hr : RdP w S n l) :
  Calls Tryz.prog 151 #[.slice S n c, jI1 size] w fun e w' => e = .returned (.bool (decide (cH (puL l) size))) ∧ Frm [] w w' := by
 have hln := hr.len
 have hall := qX1 (l := l) (size := size)
 refine jV Tryz.func151 Tryz.ntmps151 Tryz.results151 ?_
 refine jS (jR (ja rfl (jO (jN (jv2 0 1 ?_)))))
 refine jS (jS (jR (jz 0 (jO (jN (jB ?_))))))
 refine VC.loop (σ := Nat) (fun s => [(0, .slice S n c), (1, jI1 size), (5, jI1 s)]) (fun s wr => s ≤ n ∧ Frm [] w wr ∧ uQ l size s) (fun s => n - s) 0 (js3 rfl rfl rfl) ⟨zj _, Frm.refl _ _, fun j hj => jo⟩ ?_
 rintro i wr ⟨hi, K, hK⟩
 refine jS (jS (jR (jm rfl (jm rfl (jL rfl zx (jb rfl rfl (Bin.lssN _ _) (jO (jN (jv4 0 1 5 10 ?_)))))))))
 refine jD rfl (fun hc1 => ?_) fun hc1 => ?_
 ·
  obtain ⟨ad, hS, -⟩ := (hr.frm K).cell hc1
  have hel : ∀ V, Frm [] wr V → ∀ k, k < n → ∀ j v, (pqC (l.getD k pq0))[j]? = some v → V.cell? ((ad.add (k * 2)).add j) = some v := fun V hV k hk => by
   obtain ⟨ad2, h1, h2⟩ := ((hr.frm K).frm hV).cell hk
   rw [hS] at h1
   cases h1
   exact h2
  have hKs : ((41 ≤ (l.getD i pq0).1 ∧ (l.getD i pq0).1 < size) ∧ (l.getD i pq0).2.2.2.length = 128) ∧ (l.getD i pq0).1 ∉ (l.take i).map (·.1) → uQ l size (i + 1) := qQe hK
  have hKn : ¬ (((41 ≤ (l.getD i pq0).1 ∧ (l.getD i pq0).1 < size) ∧ (l.getD i pq0).2.2.2.length = 128) ∧ (l.getD i pq0).1 ∉ (l.take i).map (·.1)) → ¬ cH (puL l) size := fun h hm => h (((hall.1 hm).2) i jo)
  have hxi := hel
  obtain ⟨x, hx⟩ : ∃ x, x = l.getD i pq0 := ⟨_, rfl⟩
  rw [← hx] at hKs hKn
  have heli : ∀ V, Frm [] wr V → ∀ j v, (pqC x)[j]? = some v → V.cell? ((ad.add (i * 2)).add j) = some v := fun V hV => by rw [hx]; exact hel V hV i hc1
  obtain ⟨xa, xA, xc, xb⟩ := x
  dsimp only at hKs hKn
  rw [hS]
  refine jQ (jN (jv3 0 1 5 ?_))
  refine jS (jB (jS (jS ?_)))
  refine VC.split1 [(0, _), (1, _), (5, _)] (js3 rfl rfl rfl) 36 (.bool (decide (¬ ((41 ≤ xa ∧ xa < size) ∧ xb.length = 128)))) ?_ ?_
  ·
   refine jR ?_
   refine jm rfl (jm rfl (je (Run.indexS _ rfl rfl zx zbe jo) (jf rfl zbs rfl zm (jl rfl zaa (heli _ (Frm.refl _ _) 0 _ rfl) (jb rfl rfl (Bin.lssN _ 41) ?_)))))
   by_cases hs18 : xa < 41
   ·
    refine jM ?_
    refine jU ?_
    refine jU ?_
    refine jU ?_
    refine jU ?_
    refine jU ?_
    refine jU ?_
    refine jU ?_
    refine jW rfl rfl au (jM ?_)
    refine jU ?_
    refine jU ?_
    refine jU ?_
    refine jU ?_
    refine jU ?_
    refine jU ?_
    refine jU ?_
    refine jW rfl rfl au (jO ?_)
    refine jN ⟨(js4 (jC (by grind)) rfl rfl rfl), rfl⟩
   refine jM ?_
   refine jG ?_
   refine jG ?_
   refine jk (Run.indexS _ rfl rfl zx zbe jo) ?_
   refine jk (Run.fieldAddr rfl zbs rfl zm jd) ?_
   refine jk (Run.load rfl zaa (heli _ (Frm.refl _ _) 0 _ rfl)) ?_
   refine jG ?_
   refine jk (Run.bin rfl rfl (Bin.geqN _ _)) ?_
   by_cases hs26 : size ≤ xa
   ·
    refine jF rfl rfl au (jM ?_)
    refine jU ?_
    refine jU ?_
    refine jU ?_
    refine jU ?_
    refine jU ?_
    refine jU ?_
    refine jU ?_
    refine jW rfl rfl au (jO ?_)
    refine jN ⟨(js4 (jC (by grind)) rfl rfl rfl), rfl⟩
   refine jF rfl rfl au (jM ?_)
   refine jG ?_
   refine jG ?_
   refine jk (Run.indexS _ rfl rfl zx zbe jo) ?_
   refine jk (Run.fieldAddr rfl zbs rfl zah jd) ?_
   refine jk (Run.load rfl zba (heli _ (Frm.refl _ _) 1 _ rfl)) ?_
   refine jk (Run.lenS rfl zg) ?_
   refine jk (Run.bin rfl rfl (Bin.neqN _ 128)) ?_
   by_cases hs35 : ¬ xb.length = 128
   ·
    refine jF rfl rfl au (jO ?_)
    refine jN ⟨(js4 (jC (by grind)) rfl rfl rfl), rfl⟩
   refine jF rfl rfl au (jO ?_)
   refine jN ⟨(js4 (jC (by grind)) rfl rfl rfl), rfl⟩
  intro Γ hΓ
  refine jN (VC.sub _ hΓ ?_)
  refine jD rfl (fun hc2 => ?_) fun hc2 => ?_
  ·
   rw [show decide (cH (puL l) size) = false from decide_eq_false (hKn (fun h => hc2 h.1))]
   refine jS (jR (ja rfl (jO (jN (jv1 4 ?_)))))
   refine jT ?_
   refine qQ (qR (qQ (qQ (qR (qQ (qS rfl ?_))))))
   exact ⟨rfl, K⟩
  have hc2 := Classical.not_not.1 hc2
  obtain ⟨wo, hwo⟩ : ∃ wo, wo = wr := ⟨_, rfl⟩
  refine jQ (jN (jv3 0 1 5 ?_))
  refine jS (jR (jz 0 (jO (jN (jB ?_)))))
  refine VC.loop (σ := Nat) (fun s => [(0, .slice (some ad) n c), (1, jI1 size), (5, jI1 i), (6, jI1 s)]) (fun s wr => s ≤ i ∧ Frm [] wo wr ∧ xa ∉ (l.take s).map (·.1)) (fun s => i - s) 0 (js4 rfl rfl rfl rfl) ⟨zj _, by rw [hwo]; exact Frm.refl _ _, jp⟩ ?_
  rintro k wk ⟨hk, Kk, hno⟩
  rw [hwo] at Kk
  refine jS (jS (jR (jm rfl (jm rfl (jb rfl rfl (Bin.lssN _ _) (jO (jN (jv5 0 1 5 6 39 ?_))))))))
  refine jD rfl (fun hc3 => ?_) fun hc3 => ?_
  ·
   have hki : k < i := hc3
   have hsn := mC (jo : k < l.length)
   have helk := fun V (hV : Frm [] wk V) => hel V (Kk.trans hV jp) k jo
   have heli2 := fun V (hV : Frm [] wk V) => heli V (Kk.trans hV jp)
   have hym : (l.getD k pq0).1 ∈ (l.take i).map (·.1) := List.mem_map.2 ⟨l.getD k pq0, by
    rw [zb, ze (jo : k < l.length)]
    exact List.mem_take_iff_getElem.2 ⟨k, jo, rfl⟩, rfl⟩
   generalize l.getD k pq0 = y at helk hsn hym
   obtain ⟨ya, yA, yc, yb⟩ := y
   dsimp only at hym
   refine jQ (jN (jv4 0 1 5 6 ?_))
   refine jS (jB (jS ?_))
   refine VC.still jK jK ?_
   refine qM ?_
   refine qM ?_
   refine qE (Run.indexS _ rfl rfl zx zbe jo) ?_
   refine qE (Run.fieldAddr rfl zbs rfl zm jd) ?_
   refine qE (Run.load rfl zaa (helk _ (qP.drew _).frm 0 _ rfl)) ?_
   refine qM ?_
   refine qM ?_
   refine qE (Run.indexS _ rfl rfl zx zbe jo) ?_
   refine qE (Run.fieldAddr rfl zbs rfl zm jd) ?_
   refine qE (Run.load rfl zaa (heli2 _ (qP.drew _).frm 0 _ rfl)) ?_
   refine qE (Run.bin rfl rfl (Bin.eqlN _ _)) ?_
   refine bJ.nil ?_
   refine jN (jv5 0 1 5 6 52 ?_)
   refine jD rfl (fun hc4 => ?_) fun hc4 => ?_
   ·
    have hc4 : ya = xa := hc4
    rw [show decide (cH (puL l) size) = false from decide_eq_false (hKn (fun h => h.2 (hc4 ▸ hym)))]
    refine jS (jR (ja rfl (jO (jN (jv1 4 ?_)))))
    refine jT ?_
    refine qR (qQ (qQ (qR (qR (qQ (qQ (qR (qQ (qS rfl ?_)))))))))
    exact ⟨rfl, (K.trans Kk jp).drawn (qP.drew _)⟩
   refine jQ ?_
   refine qH (jN ?_)
   refine jv4 0 1 5 6 ?_
   refine jR (jm rfl (jb rfl rfl (Bin.add_i64 _ 1 jo) (ja rfl (jO ?_))))
   refine jN ⟨k + 1, (js4 rfl rfl rfl rfl), ?_, ?_⟩
   ·
    exact ⟨hc3, by rw [hwo]; exact Kk.drawn (qP.drew _), by
     rw [hsn, zv, zcp]
     rintro (h | h)
     · exact hno h
     simp at h; exact hc4 h.symm⟩
   exact jq
  obtain rfl : k = i := jo
  rw [← hS]
  refine jX ?_
  refine qZ (qZ (qN ?_))
  refine qH (jN ?_)
  refine jv3 0 1 5 ?_
  refine jR (jm rfl (jb rfl rfl (Bin.add_i64 _ 1 jo) (ja rfl (jO ?_))))
  refine jN ⟨k + 1, (js3 rfl rfl rfl), ?_, ?_⟩
  · exact ⟨hc1, K.trans Kk jp, hKs ⟨hc2, hno⟩⟩
  exact jq
 refine jX ?_
 refine qZ (qZ (qN ?_))
 refine jN (jv1 0 ?_)
 refine jS ?_
 refine VC.split1 [] .nil 4 (.bool (decide (1 ≤ n ∧ n ≤ 40))) ?_ ?_
 ·
  refine jR ?_
  refine jm rfl (jL rfl zx (jb rfl rfl (Bin.leqN 1 _) ?_))
  by_cases hs55 : 1 ≤ n
  ·
   refine jM ?_
   refine jG ?_
   refine jk (Run.lenS rfl zx) ?_
   refine jk (Run.bin rfl rfl (Bin.leqN _ 40)) ?_
   by_cases hs59 : n ≤ 40
   ·
    refine jW rfl rfl au (ja rfl (jO ?_))
    refine jN ⟨(js1 (jC (by grind))), rfl⟩
   refine jW rfl rfl au (ja rfl (jO ?_))
   refine jN ⟨(js1 (jC (by grind))), rfl⟩
  refine jM ?_
  refine jU ?_
  refine jU ?_
  refine jU ?_
  refine jF rfl rfl au (ja rfl (jO ?_))
  refine jN ⟨(js1 (jC (by grind))), rfl⟩
 intro Γ hΓ
 refine jN (VC.sub _ hΓ ?_)
 refine jT ?_
 refine qS rfl ?_
 obtain rfl : i = n := jo
 rw [show decide (cH (puL l) size) = decide (1 ≤ i ∧ i ≤ 40) from by
  by_cases h : 1 ≤ i ∧ i ≤ 40
  · rw [decide_eq_true h, decide_eq_true (hall.2 ⟨by rw [hln]; exact h, by rw [hln]; exact hK⟩)]
  rw [decide_eq_false h, decide_eq_false (fun hm => h (by have := (hall.1 hm).1; rw [hln] at this; exact this))]]
 exact ⟨rfl, K⟩
def wrS (x : Pu) : Stp := .wr x.1 x.2
def rS (k : Nat) : List Pu → List Pu
 | [] => []
 | x :: r => (1 + k, x.2) :: rS (k + 1) r
theorem xK : ∀ (l : List Pu) (k : Nat), fD k l = (rS k l).map wrS
 | [], _ => rfl
 | x :: r, k => by rw [fD, rS, zbo, xK r]; rfl
theorem xV : ∀ (l : List Pu) (k : Nat), (rS k l).length = l.length
 | [], _ => rfl
 | x :: r, k => by rw [rS, zad, xV r, zad]
section
variable {H H' : Hm} {l : List Pu} {h : List (List Nat)}
end
theorem qVp (v n : Nat) (w : World) (hn1 : 1 ≤ n) (hn8 : n ≤ 8) (hv : v < 256 ^ n) :
  Calls Tryz.prog 120 #[jI2 v, jI1 n] w fun e w' => e = .returned (.tuple #[.string (qF (qC v n)), jI1 0]) ∧ Frm [] w w' := by
 have hv64 : v < 18446744073709551616 := zas hv (by
  have : (256 : Nat) ^ n ≤ 256 ^ 8 := zcg jo hn8
  exact this)
 refine jV Tryz.func120 Tryz.ntmps120 Tryz.results120 ?_
 refine jS (jR (ja rfl (jz 0 (jO (jN (jv2 0 1 ?_))))))
 refine jS (jS ?_)
 refine VC.split1 [(0, _), (1, _)] (js2 rfl rfl) 13 (.bool (decide (n < 1 ∨ 8 < n))) ?_ ?_
 ·
  refine jR ?_
  refine jm rfl (jb rfl rfl (Bin.lssN _ 1) ?_)
  by_cases hs9 : n < 1
  ·
   refine jM ?_
   refine jU ?_
   refine jU ?_
   refine jW rfl rfl au (jO ?_)
   refine jN ⟨(js3 (jC (by first | (simp [*]; done) | (simp; omega))) rfl rfl), rfl⟩
  refine jM ?_
  refine jG ?_
  refine jk (Run.bin rfl rfl (Bin.gtrN _ 8)) ?_
  by_cases hs12 : 8 < n
  ·
   refine jF rfl rfl au (jO ?_)
   refine jN ⟨(js3 (jC (by first | (simp [*]; done) | (simp; omega))) rfl rfl), rfl⟩
  refine jF rfl rfl au (jO ?_)
  refine jN ⟨(js3 (jC (by first | (simp [*]; done) | (simp; omega))) rfl rfl), rfl⟩
 intro Γ hΓ
 refine jN (VC.sub _ hΓ ?_)
 refine VC.condF rfl jdf ?_
 refine jQ (jN (jv2 0 1 ?_))
 refine jS (jR (ja rfl (jO (jN (jS (jS (jR (jz 0 (jO (jN (jB ?_)))))))))))
 refine VC.loop (σ := Nat) (fun s => [(0, jI2 (v / 256 ^ s)), (1, jI1 n), (6, .string (qF (qC v s))), (7, jI1 s)]) (fun s wr => s ≤ n ∧ Frm [] w wr) (fun s => n - s) 0 (js4 (by rw [Nat.pow_zero, Nat.div_one]; rfl) rfl rfl rfl) ⟨jo, Frm.refl _ _⟩ ?_
 rintro i wr ⟨hi, K⟩
 have hvl : v / 256 ^ i ≤ v := zgh _ _
 have hsz : (qF (qC v i)).size ≤ 8 := by rw [lW, numL_len]; omega
 refine jS (jS (jR (jm rfl (jm rfl (jb rfl rfl (Bin.lssN _ _) (jO (jN (jv5 0 1 6 7 16 ?_))))))))
 refine jD rfl (fun hc2 => ?_) fun hc2 => ?_
 ·
  refine jQ (jN (jv4 0 1 6 7 ?_))
  refine jS (jB (jS (jR (jm rfl (jm rfl (jb rfl rfl (Bin.remN _ 256 jo) (je (Run.conv8 _ rfl zr zac) ?_)))))))
  rw [zdb (by omega : v / 256 ^ i % 256 < 256)]
  refine Ops.m (qV.buildS1 rfl zg zam pM jd jd rfl rfl) rfl ?_
  rintro _ w2 ⟨rfl, hF2⟩
  have hrd2 : Rd w2 1 (some ⟨wr.heap.size, 0, none⟩) 1 (U8 ([v / 256 ^ i % 256].map UInt8.ofNat)) := by
   rw [← qKz [v / 256 ^ i % 256] (by intro b hb; simp at hb; omega)]
   exact Rd.of_blk (n := 1) (size := 1) hF2.blk rfl
  refine je (Run.strOf rfl zg zac zt hrd2) (je (Run.addStr rfl rfl (by show (qF (qC v i)).size + 1 ≤ 9223372036854775807; omega)) (ja rfl (jO (jN (jv4 0 1 6 7 ?_)))))
  refine jR (jm rfl (jb rfl rfl (Bin.quo_u64 _ 256 jo jo) ?_))
  rw [zfq, show (256 : Nat) ^ i * 256 = 256 ^ (i + 1) from (Nat.pow_succ ..).symm]
  refine ja rfl (jO ?_)
  refine qH (jN ?_)
  refine jv4 0 1 6 7 ?_
  refine jR (jm rfl (jb rfl rfl (Bin.add_i64 _ 1 jo) (ja rfl (jO ?_))))
  refine jN ⟨i + 1, (js4 rfl rfl (by rw [tT, ← vR]; rfl) rfl), ?_, ?_⟩
  · exact ⟨jo, K.trans hF2.frm jp⟩
  exact jq
 refine jX ?_
 refine qZ (qZ (qN ?_))
 refine jN (jv2 0 6 ?_)
 refine jS (jS (jR (jm rfl (jb rfl rfl (Bin.gtrN _ 0) (jO (jN (jv2 6 29 ?_)))))))
 refine VC.condF rfl (decide_eq_false (by rw [show i = n by omega, zgs hv]; simp)) ?_
 refine jQ (jN (jv1 6 ?_))
 refine jS (jR (jm rfl (ja rfl (jz 0 (jO (jN (jv2 4 5 ?_)))))))
 refine jT ?_
 refine bX rfl rfl ?_
 obtain rfl : i = n := jo
 exact ⟨rfl, K⟩
theorem kQ (v n : Nat) (w : World) (hn1 : 1 ≤ n) (hn8 : n ≤ 8) (hv : v < 256 ^ n) :
  Calls Tryz.prog 65 #[jI2 v, jI1 n] w fun e w' => e = .returned (.string (qF (qC v n))) ∧ Frm [] w w' := by
 refine jV Tryz.func65 Tryz.ntmps65 Tryz.results65 ?_
 refine jS (jR (ja rfl (jO (jN (jv2 0 1 ?_)))))
 refine jS (jR (jm rfl (jM ?_)))
 refine jc (jE2 Tryz.call120) (qVp v n w hn1 hn8 hv) ?_
 rintro e w1 ⟨rfl, K⟩
 refine ⟨_, rfl, ?_⟩
 refine jm rfl (jY rfl rfl (jY rfl rfl (ja rfl (ja rfl (jO (jN (jv1 5 ?_)))))))
 refine jS (jR (jm rfl (ja rfl (jO (jN (jv1 4 ?_))))))
 refine jT ?_
 refine qS rfl ?_
 exact ⟨rfl, K⟩
section
variable {g i : Nat} {F0 F F' : List Nat} {w0 w w' : World} {d : Dk} {L : List Stp} {r : Nat × Dk}
structure AtS (g : Nat) (F0 : List Nat) (w0 : World) (d : Dk) (L : List Stp) (w : World) (i : Nat) (F : List Nat) : Prop where
 z : (qL d (L.take i)).1 = 0
 wl : (qL d (L.take i)).2.wts.length ≤ d.wts.length + i
 D : IsRd w g F (qL d (L.take i)).2
 K : Fk F0 w0 w F
theorem AtS.next (a : AtS g F0 w0 d L w i F) (hi : i < L.length) (hr : (L.getD i .fl).run (qL d (L.take i)).2 = r) (hD : IsRd w' g F' r.2) (k : Fk F w w' F') (h0 : r.1 = 0) : AtS g F0 w0 d L w' (i + 1) F' := by
 have e : qL d (L.take (i + 1)) = r := by rw [sA hi, nY _ _ _ a.z, hr]
 refine ⟨by rw [e]; exact h0, ?_, by rw [e]; exact hD, a.K.trans k⟩
 have h1 := Stp.run_wts (qL d (L.take i)).2 (L.getD i .fl)
 rw [hr] at h1
 have := a.wl
 rw [e]
 omega
theorem AtS.stop (a : AtS g F0 w0 d L w i F) (hi : i < L.length) (hr : (L.getD i .fl).run (qL d (L.take i)).2 = r) (hD : IsRd w' g F' r.2) (k : Fk F w w' F') (h1 : ¬ r.1 = 0) : qL d L = r ∧ IsRd w' g F' (qL d L).2 ∧ Fk F0 w0 w' F' := by
 have e : qL d L = r := (qQf hi a.z (by rw [hr]; exact h1)).trans hr
 exact ⟨e, by rw [e]; exact hD, a.K.trans k⟩
theorem AtS.tail (a : AtS g F0 w0 d L w i F) : qL d L = qL (qL d (L.take i)).2 (L.drop i) := by
 conv => lhs; rw [← zbq i L]
 rw [nQ, if_neg (by simp [a.z])]
end
theorem qYg {l : List Pu} {i : Nat} (h : i < l.length) : (bF l).getD i .fl = .wr (l.getD i (0, [])).1 (l.getD i (0, [])).2 := by
 unfold bF
 rw [zb, zdl (by rw [zae]; exact h), zbr, ze h, zb, ze h]
 rfl
theorem qGw (l : List Pu) : (bF l).getD l.length .fl = .fl ∧ (bF l).drop (l.length + 1) = dV := by
 unfold bF
 refine ⟨?_, ?_⟩
 ·
  rw [zb, zcz (by rw [zae]; exact zag _), zae, zes]
  rfl
 rw [← zey, zgi (zae _)]
 rfl
theorem qQr : ∀ (l : List Pu) (k i : Nat), i < l.length → (rS k l).getD i (0, []) = (1 + k + i, (l.getD i (0, [])).2)
 | x :: r, k, 0, _ => rfl
 | x :: r, k, i + 1, h => by
  rw [rS, List.getD_cons_succ, List.getD_cons_succ, qQr r (k + 1) i (by simpa using h), show 1 + (k + 1) + i = 1 + k + (i + 1) by omega]
theorem qYh {l : List Pu} {i : Nat} (h : i < l.length) : (bO l).getD i .fl = .wr (i + 1) (l.getD i (0, [])).2 := by
 have hl := xV l 0
 have h1 := qQr l 0 i h
 unfold bO
 rw [xK, zab, zb, zdl (by rw [zae]; omega), zbr, ze jo]
 rw [zb, ze jo] at h1
 have h1 : (rS 0 l)[i] = (1 + 0 + i, (l.getD i (0, [])).2) := h1
 rw [zdx, h1]
 show Stp.wr (1 + 0 + i) _ = _
 rw [show 1 + 0 + i = i + 1 by omega]
theorem qGx (l : List Pu) : (bO l).getD l.length .fl = .fl ∧ (bO l).getD (l.length + 1) .fl = .wr 0 (dC l) ∧ (bO l).getD (l.length + 2) .fl = .fl ∧ (bO l).drop (l.length + 3) = bF l := by
 have hl : ((rS 0 l).map wrS).length = l.length := by rw [zae, xV]
 have he : bO l = (rS 0 l).map wrS ++ ([.fl, .wr 0 (dC l), .fl] ++ bF l) := by unfold bO; rw [xK, zab]
 have hg : ∀ k, (bO l).getD (l.length + k) .fl = (([.fl, .wr 0 (dC l), .fl] : List Stp) ++ bF l).getD k .fl := fun k => by
  rw [he, zb, zcz (by rw [hl]; omega), hl, show l.length + k - l.length = k by omega, zb]
 refine ⟨hg 0, hg 1, hg 2, ?_⟩
 rw [he, ← zey, zgi hl]
 rfl
theorem qYi {l : List Pq} {i : Nat} (h : i < l.length) : (puL l).getD i (0, []) = ((l.getD i pq0).1, (l.getD i pq0).2.2.2) := by
 rw [puL, zb, zbr, ze h, zb, ze h]
 rfl
theorem qGy (d : Dk) (s : Stp) : qL d [s, .fl] = if (s.run d).1 ≠ 0 then s.run d else (s.run d).2.flush := by
 rw [qL]
 by_cases h : (s.run d).1 ≠ 0
 · rw [if_pos h, if_pos h]
 rw [if_neg h, if_neg h, qL]
 by_cases h2 : (Stp.run (s.run d).2 .fl).1 ≠ 0
 · rw [if_pos h2]; rfl
 rw [if_neg h2, qL]
 have h3 : (Stp.run (s.run d).2 .fl).1 = 0 := Classical.not_not.1 h2
 show (0, ((s.run d).2.flush).2) = (s.run d).2.flush
 rw [← h3]
 rfl
theorem vO (S : Option Addr) (n c : Nat) (l : List Pq) (w : World) (hn : n ≤ 40) (hr : RdP w S n l) (h128 : ∀ x ∈ l, x.2.2.2.length = 128) (hat : ∀ x ∈ l, x.1 < 65536) :
  Calls Tryz.prog 121 #[.slice S n c] w fun e w' => e = .returned (.string (qF (dC (puL l)))) ∧ Frm [] w w' := by
 have hln := hr.len
 have hfl : ∀ k, k ≤ n → ((l.take k).flatMap fun x => x.2.2.2).length = 128 * k := fun k hk => by
  have key : ∀ m : List Pq, (∀ x ∈ m, x.2.2.2.length = 128) → (m.flatMap fun x => x.2.2.2).length = 128 * m.length := by
   intro m
   induction m with
   | nil => intro _; rfl
   | cons x r ih => intro hm; rw [zaw, zf, hm x jp, ih (fun y hy => hm y (by simp [hy])), zad]; omega
  rw [key _ (fun x hx => h128 x (zo hx)), zk]
  omega
 have hoct : ∀ k, ∀ b ∈ (l.take k).flatMap (fun x => x.2.2.2), b < 256 := fun k b hb => by
  obtain ⟨x, hx, hb⟩ := List.mem_flatMap.1 hb
  exact hr.oct x (zo hx) b hb
 have ha2 : ∀ k, k ≤ n → (at2 (l.take k)).length = 2 * k := fun k hk => by rw [qNe, zk]; omega
 refine jV Tryz.func121 Tryz.ntmps121 Tryz.results121 ?_
 refine jS (jR ?_)
 refine Ops.r (v := .string (qF [])) (Run.asg rfl) rfl ?_
 refine jO (jN (jv1 0 ?_))
 refine jS (jR (ja rfl (jO (jN (jS (jR ?_))))))
 refine Ops.r (v := .string (qF [])) (Run.asg rfl) rfl ?_
 refine jO (jN (jS (jS (jR (jz 0 (jO (jN (jB ?_))))))))
 refine VC.loop (σ := Nat × Option Addr × Nat) (fun s => [(0, .slice S n c), (3, .slice s.2.1 (128 * s.1) s.2.2), (4, .string (qF (at2 (l.take s.1)))), (5, jI1 s.1)]) (fun s wr => s.1 ≤ n ∧ Own wr 5 1 s.2.1 (128 * s.1) s.2.2 (NB ((l.take s.1).flatMap fun x => x.2.2.2)) ∧ Frm [] w wr ∧ ∀ x ∈ ob s.2.1, w.heap.size ≤ x) (fun s => n - s.1) (0, none, 0) (js4 rfl rfl rfl rfl) ⟨zj _, Own.nil _ _ _, Frm.refl _ _, by simp [ob]⟩ ?_
 rintro ⟨i, B, d⟩ wr ⟨hi, ho, K, hup⟩
 dsimp only at hi ho hup ⊢
 have hai := ha2 i hi
 have ks := K.size
 refine jS (jS (jR (jm rfl (jm rfl (jL rfl zx (jb rfl rfl (Bin.lssN _ _) (jO (jN (jv5 0 3 4 5 10 ?_)))))))))
 refine jD rfl (fun hc1 => ?_) fun hc1 => ?_
 ·
  obtain ⟨ad, hS, -⟩ := (hr.frm K).cell hc1
  have hel : ∀ V, Frm [] w V → ∀ j v, (pqC (l.getD i pq0))[j]? = some v → V.cell? ((ad.add (i * 2)).add j) = some v := fun V hV => by
   obtain ⟨ad2, h1, h2⟩ := (hr.frm hV).cell hc1
   rw [hS] at h1
   cases h1
   exact h2
  have hm := lL (jo : i < l.length)
  have hsn := mC (jo : i < l.length)
  have hxe := (hr.frm K).el _ hm
  have hx8 := h128 _ hm
  have hxa := hat _ hm
  have hfs : ((l.take (i + 1)).flatMap fun x => x.2.2.2) = ((l.take i).flatMap fun x => x.2.2.2) ++ (l.getD i pq0).2.2.2 := by rw [hsn, zan]; simp
  have has := qX2 (jo : i < l.length)
  generalize l.getD i pq0 = x at hel hxe hx8 hxa hfs has
  obtain ⟨xa, xA, xc, xb⟩ := x
  dsimp only at hxe hx8 hxa hfs has
  rw [hS]
  refine jQ (jN (jv4 0 3 4 5 ?_))
  refine jS (jB (jS (jR (jm rfl (jm rfl (jm rfl (je (Run.indexS _ rfl rfl zx zbe jo) (jf rfl zbs rfl zah (jl rfl zba (hel _ K 1 _ rfl) ?_)))))))))
  rw [show SL (xA, xc, xb) = .slice xA xb.length xc from rfl]
  refine Ops.m (qV.app rfl rfl zg (eY) rfl jd ho hxe (eZ _) jo jo) rfl ?_
  rintro _ w5 ⟨B5, d5, rfl, ho5, hf5, hob5⟩
  have h8 : 128 * i + xb.length = 128 * (i + 1) := jo
  rw [← dM, ← hfs, h8] at ho5
  have K5 := K.own hf5 hup
  have hup5 := (Fk.of_app hf5 hob5).up hup ks
  refine ja rfl (jO (jN (jv4 0 3 4 5 ?_)))
  refine jR (jm rfl (jm rfl (jm rfl (je (Run.indexS _ rfl rfl zx zbe jo) (jf rfl zbs rfl zm (jl rfl zaa (hel _ K5 0 _ rfl) (je (Run.convN _ rfl zz zr (by simp only [bmax]; omega)) ?_)))))))
  refine jc (jE2 zgm) (kQ xa 2 _ jo jo jo) ?_
  rintro e w6 ⟨rfl, hf6⟩
  refine ⟨_, rfl, ?_⟩
  rw [← hS]
  refine je (Run.addO rfl rfl (by first | omega | (simp only [zf, zad, zdy, numL_len]; omega))) (ja rfl (jO ?_))
  refine qH (jN ?_)
  refine jv4 0 3 4 5 ?_
  refine jR (jm rfl (jb rfl rfl (Bin.add_i64 _ 1 jo) (ja rfl (jO ?_))))
  refine jN ⟨(i + 1, B5, d5), (js4 rfl (by rw [h8]; rfl) (by rw [has]; rfl) rfl), ?_, ?_⟩
  · exact ⟨hc1, ho5.frm hf6 jp, K5.trans hf6 jp, hup5⟩
  exact jq
 obtain rfl : i = n := jo
 rw [zh (jo : l.length ≤ i)] at ho hai ⊢
 have hsj := yE (puL l)
 have hso := hoct i
 rw [zh (jo : l.length ≤ i)] at hso
 have hfe := hfl i (zag _)
 rw [zh (jo : l.length ≤ i)] at hfe
 have hse : crcM (l.flatMap fun x => x.2.2.2) = mU (puL l) := by
  rw [qV9, mU, qKk l 0 jo hr.oct]
 have hbe := qX3 l
 rw [hln] at hbe
 have hbl := pR (puL l)
 rw [cQ] at hbl
 refine jX ?_
 refine qZ (qZ (qN ?_))
 refine jN (jv3 0 3 4 ?_)
 refine jS (jR (jm rfl (jL rfl zx (je (Run.convN _ rfl zz zr (by simp only [bmax]; omega)) ?_))))
 refine jc (jE2 zgm) (kQ i 2 _ jo jo jo) ?_
 rintro e w6 ⟨rfl, hf6⟩
 refine ⟨_, rfl, ?_⟩
 refine je (Run.addO (a := [116, 110, 108, 106]) rfl rfl (by first | omega | (simp only [zf, zad, zdy, numL_len]; omega))) (jM ?_)
 refine jc0 (jE1 Tryz.call61) (nG B d (128 * i) (l.flatMap fun x => x.2.2.2) w6 hfe jo hso (ho.frm hf6 jp).rd) ?_
 rw [hse]
 refine je (Run.convN _ rfl zby zr (by simp only [bmax]; omega)) ?_
 refine jc (jE2 zgm) (kQ (mU (puL l)) 4 _ jo jo jo) ?_
 rintro e w7 ⟨rfl, hf7⟩
 refine ⟨_, rfl, ?_⟩
 refine je (Run.addO rfl rfl (by first | omega | (simp only [zf, zad, zdy, numL_len]; omega))) (jm rfl (je (Run.addO rfl rfl (by simp only [zf, zad, zdy, numL_len]; omega)) ?_))
 rw [show (([116, 110, 108, 106] ++ qC i 2) ++ qC (mU (puL l)) 4) ++ at2 l = kM (puL l) by rw [hbe, show ([116, 110, 108, 106] : List Nat) = qC 1785491060 4 by decide]; simp only [zab]]
 refine Ops.m (qV.octO rfl zt zg zac (sU _)) rfl ?_
 rintro _ w8 ⟨CB, cc, rfl, hrC, hf8, hupC⟩
 refine jc (jE1 Tryz.call67) (oZ CB cc _ (kM (puL l)) _ rfl jo (sU _) hrC) ?_
 rintro e w9 ⟨rfl, hf9⟩
 refine ⟨_, rfl, ?_⟩
 obtain ⟨SB, hSB⟩ : ∃ SB, SB = fW (kM (puL l)) := ⟨_, rfl⟩
 have hSl : SB.length ≤ 128 := by rw [hSB, fY]; omega
 have hhe : dC (puL l) = SB ++ noM (128 - SB.length) := by rw [hSB, dC, eS, if_neg (by rw [← hSB]; omega)]
 rw [← hSB]
 have K9 := (((K.trans hf6 jp).trans hf7 jp).trans hf8 jp).trans hf9 jp
 refine ja rfl (jO (jN (jv1 6 ?_)))
 refine jS (jB ?_)
 refine VC.loop (σ := Nat) (fun s => [(6, .string (qF (SB ++ noM s)))]) (fun s wr => SB.length + s ≤ 128 ∧ w9 = wr) (fun s => 128 - s) 0 (js1 (by rw [show noM 0 = [] from rfl, zav]; rfl)) ⟨hSl, rfl⟩ ?_
 rintro k _ ⟨hk, rfl⟩
 have hkl : (SB ++ noM k).length = SB.length + k := by rw [zf, noM, zeg]
 refine jS (jS (jR (jm rfl (je (Run.lenO rfl zt) ?_))))
 rw [hkl]
 refine jb rfl rfl (Bin.lssN _ 128) (jO (jN (jv2 6 45 ?_)))
 refine jD rfl (fun hc2 => ?_) fun hc2 => ?_
 ·
  refine jQ (jN (jv1 6 ?_))
  refine jB (jR (jm rfl (je (Run.addO (b := [0]) rfl rfl (by rw [hkl]; simp; omega)) ?_)))
  rw [xJ jo]
  refine ja rfl (jO ?_)
  refine qH (jN ⟨k + 1, (js1 rfl), ?_, ?_⟩)
  · exact ⟨jo, rfl⟩
  exact jq
 refine jX ?_
 refine qZ (qZ (qN ?_))
 refine jN (jv1 6 ?_)
 refine jS (jR (jm rfl (ja rfl (jO (jN (jv1 2 ?_))))))
 refine jT ?_
 refine qS rfl ?_
 rw [hhe, show 128 - SB.length = k by omega]
 exact ⟨rfl, K9⟩
theorem nC (g : Nat) (F : List Nat) (d : Dk) (w : World) (hD : IsRd w g F d) (hwl : d.wts.length ≤ 900000) : Calls Tryz.prog 56 #[jI0 g] w fun e w' => ∃ F', e = .returned (jI1 ((qL d dV).1)) ∧ IsRd w' g F' (qL d dV).2 ∧ Fk F w w' F' := by
 have hrt := qGy d (.wr 0 (noM 128))
 have hru : Stp.run d (.wr 0 (noM 128)) = d.write 0 (noM 128) := rfl
 have hrw := Stp.run_wts d (.wr 0 (noM 128))
 rw [hru] at hrt hrw
 rw [show dV = [.wr 0 (noM 128), .fl] from rfl, hrt]
 refine jV Tryz.func56 Tryz.ntmps56 Tryz.results56 ?_
 refine jS (jR (jz 0 (jO (jN (jv1 0 ?_)))))
 refine jS (jS (jR (jM ?_)))
 refine jc (jE0 Tryz.call55) (uC w) ?_
 rintro e w1 ⟨rfl, hf1⟩
 refine ⟨_, rfl, ?_⟩
 refine jc (jE3 Tryz.call30) (kD 0 (noM 128) g F d w1 (hD.frm hf1 jp) jo (noM_lt _) (by simp [noM])) ?_
 rintro e w2 ⟨F2, rfl, hD2, hk2⟩
 refine ⟨_, rfl, ?_⟩
 have hk2 := Fk.pre hf1 hk2
 obtain ⟨r, hr⟩ : ∃ r, r = d.write 0 (noM 128) := ⟨_, rfl⟩
 rw [← hr] at hD2 hrw ⊢
 refine ja rfl (jO (jN (jv2 0 3 ?_)))
 refine jS (jR (jm rfl (jb rfl rfl (Bin.neqN _ 0) (jO (jN (jv3 0 3 8 ?_))))))
 refine jD rfl (fun hc1 => ?_) fun hc1 => ?_
 ·
  rw [if_pos (show r.1 ≠ 0 from hc1)]
  refine jS (jR (jm rfl (ja rfl (jO (jN (jv1 2 ?_))))))
  refine jT ?_
  refine qQ (qS rfl ?_)
  exact ⟨F2, rfl, hD2, hk2⟩
 rw [if_neg (show ¬ r.1 ≠ 0 from hc1)]
 refine jQ (jN (jv1 0 ?_))
 refine jS (jR (jM ?_))
 refine jc (jE1 Tryz.call32) (kE g F2 r.2 w2 hD2 jo) ?_
 rintro e w3 ⟨F3, rfl, hD3, hk3⟩
 refine ⟨_, rfl, ?_⟩
 refine ja rfl (jO (jN (jv1 2 ?_)))
 refine jT ?_
 refine qS rfl ?_
 exact ⟨F3, rfl, hD3, hk2.trans hk3⟩
theorem yN (S : Option Addr) (n c : Nat) (l : List Pq) (g : Nat) (F : List Nat) (d : Dk) (w : World) (hD : IsRd w g F d) (hwl : d.wts.length ≤ 800000) (hn : n ≤ 40) (hr : RdP w S n l) (hoff : ∀ x ∈ F, x < w.heap.size → ∀ y ∈ l, x ∉ ob y.2.1) (hS : ∀ y ∈ ob S, y ∉ F) (h128 : ∀ x ∈ l, x.2.2.2.length ≤ 1000000) (hup : ∀ x ∈ F, True) :
  Calls Tryz.prog 122 #[jI0 g, .slice S n c] w fun e w' => ∃ F', e = .returned (jI1 ((qL d (bF (puL l))).1)) ∧ IsRd w' g F' (qL d (bF (puL l))).2 ∧ Fk F w w' F' := by
 have hln := hr.len
 obtain ⟨L, hL⟩ : ∃ L, L = bF (puL l) := ⟨_, rfl⟩
 rw [← hL]
 have hLl : L.length = n + 3 := by rw [hL, nX, cQ, hln]
 have hsn := qGw (puL l)
 rw [← hL, cQ, hln] at hsn
 have hFl := hD.lt
 have hrV : ∀ V F', Fk F w V F' → RdP V S n l := fun V F' k => ⟨hr.len, hr.rd.frm k.1 (fun _ y hy => hS y hy), fun x hx => (hr.el x hx).frm k.1 (fun _ y hy hyF => hoff y hyF (hFl y hyF) x hx hy), hr.num, hr.oct⟩
 have a0 : AtS g F w d L w 0 F := ⟨rfl, zag _, hD, Fk.refl _ _⟩
 refine jV Tryz.func122 Tryz.ntmps122 Tryz.results122 ?_
 refine jS (jR (jz 0 (jO (jN (jv2 0 1 ?_)))))
 refine jS (jS (jR (jz 0 (jO (jN (jB ?_))))))
 refine VC.loop (σ := Nat × List Nat) (fun s => [(0, jI0 g), (1, .slice S n c), (5, jI1 s.1)]) (fun s wr => s.1 ≤ n ∧ AtS g F w d L wr s.1 s.2) (fun s => n - s.1) (0, F) (js3 rfl rfl rfl) ⟨zj _, a0⟩ ?_
 rintro ⟨i, Fi⟩ wr ⟨hi, a⟩
 dsimp only at hi a ⊢
 have hri := hrV wr Fi a.K
 have hwi := a.wl
 refine jS (jS (jR (jm rfl (jm rfl (jL rfl zx (jb rfl rfl (Bin.lssN _ _) (jO (jN (jv4 0 1 5 11 ?_)))))))))
 refine jD rfl (fun hc1 => ?_) fun hc1 => ?_
 ·
  obtain ⟨ad, hS1, -⟩ := hri.cell hc1
  have hrF : ∀ V, Frm Fi wr V → RdP V S n l := fun V hV => hrV V Fi (a.K.trans ⟨hV, fun x hx => .inl hx⟩)
  have hel : ∀ V, Frm Fi wr V → ∀ j v, (pqC (l.getD i pq0))[j]? = some v → V.cell? ((ad.add (i * 2)).add j) = some v := fun V hV => by
   obtain ⟨ad2, h1, h2⟩ := (hrF V hV).cell hc1
   rw [hS1] at h1
   cases h1
   exact h2
  have hm := lL (jo : i < l.length)
  have hxe := fun V hV => (hrF V hV).el _ hm
  have hxn := hri.num _ hm
  have hxo := hri.oct _ hm
  have hx8 := h128 _ hm
  have hat := qYg (l := puL l) (i := i) (by rw [cQ]; omega)
  rw [← hL, qYi jo] at hat
  generalize l.getD i pq0 = x at hel hxe hxn hxo hx8 hat
  obtain ⟨xa, xA, xc, xb⟩ := x
  dsimp only at hxe hxn hxo hx8 hat
  rw [hS1]
  refine jQ (jN (jv3 0 1 5 ?_))
  refine jS (jB (jS ?_))
  refine VC.held (fun V => Frm Fi wr V) jK ?_
  have hS : Frm Fi wr wr.drew := (Frm.refl _ _).drew
  refine jh 0 hS ?_
  refine jh 1 hS ?_
  refine jh 2 hS ?_
  refine jH 3 rfl hS (fun w0 hw0 => Run.indexS _ rfl rfl zx zbe jo) ?_
  refine jH 4 rfl hS (fun w0 hw0 => Run.fieldAddr rfl zbs rfl zm jd) ?_
  refine jH 5 rfl hS (fun w0 hw0 => Run.load rfl zaa (hel _ hw0 0 _ rfl)) ?_
  refine jh 6 hS ?_
  refine jh 7 hS ?_
  refine jH 8 rfl hS (fun w0 hw0 => Run.indexS _ rfl rfl zx zbe jo) ?_
  refine jH 9 rfl hS (fun w0 hw0 => Run.fieldAddr rfl zbs rfl zah jd) ?_
  refine jH 10 rfl hS (fun w0 hw0 => Run.load rfl zba (hel _ hw0 1 _ rfl)) ?_
  refine jH 11 rfl hS (fun w0 hw0 => Run.strOf rfl zg zac zt (rdU (hxe _ hw0) hxo)) ?_
  refine qJ.cl 12 rfl jK (jE3 Tryz.call30) (kD xa xb g Fi _ _ (a.D.frm (qP.drew _).frm jp) jo hxo jo) trivial rfl rfl ?_
  rintro e w6 ⟨F6, rfl, hD6, hk6⟩
  have hS := hS.trans hk6.1 (fun x hx => .inl hx)
  refine ⟨_, rfl, hS, ?_⟩
  have hk6 := Fk.pre (qP.drew wr).frm hk6
  obtain ⟨r, hr6⟩ : ∃ r, r = (qL d (L.take i)).2.write xa xb := ⟨_, rfl⟩
  have hrun : (L.getD i .fl).run (qL d (L.take i)).2 = r := by rw [hat, hr6]; rfl
  rw [← hr6] at hD6 ⊢
  refine jH 13 rfl hS (fun w0 hw0 => Run.asg rfl) ?_
  refine qJ.done jK ?_
  refine jN (jv4 0 1 5 6 ?_)
  refine jS (jR (jm rfl (jb rfl rfl (Bin.neqN _ 0) (jO (jN (jv5 0 1 5 6 28 ?_))))))
  refine jD rfl (fun hc2 => ?_) fun hc2 => ?_
  ·
   obtain ⟨e1, e2, e3⟩ := a.stop jo hrun hD6 hk6 hc2
   rw [e1] at e2 ⊢
   refine jS (jR (jm rfl (ja rfl (jO (jN (jv1 4 ?_))))))
   refine jT ?_
   refine qR (qQ (qQ (qR (qQ (qS rfl ?_)))))
   exact ⟨F6, rfl, e2, e3⟩
  have hc2 : r.1 = 0 := jo
  have a6 := a.next jo hrun hD6 hk6 hc2
  rw [← hS1]
  refine jQ ?_
  refine qH (jN ?_)
  refine jv3 0 1 5 ?_
  refine jR (jm rfl (jb rfl rfl (Bin.add_i64 _ 1 jo) (ja rfl (jO ?_))))
  refine jN ⟨(i + 1, F6), (js3 rfl rfl rfl), ?_, ?_⟩
  · exact ⟨hc1, a6⟩
  exact jq
 obtain rfl : i = n := jo
 refine jX ?_
 refine qZ (qZ (qN ?_))
 refine jN (jv1 0 ?_)
 refine jS (jS (jR (jM ?_)))
 refine jc (jE1 Tryz.call32) (kE g Fi _ wr a.D jo) ?_
 rintro e w6 ⟨F6, rfl, hD6, hk6⟩
 refine ⟨_, rfl, ?_⟩
 obtain ⟨r, hr6⟩ : ∃ r, r = (qL d (L.take i)).2.flush := ⟨_, rfl⟩
 have hrun : (L.getD i .fl).run (qL d (L.take i)).2 = r := by rw [hsn.1, hr6]; rfl
 rw [← hr6] at hD6 ⊢
 refine ja rfl (jO (jN (jv2 0 7 ?_)))
 refine jS (jR (jm rfl (jb rfl rfl (Bin.neqN _ 0) (jO (jN (jv3 0 7 33 ?_))))))
 refine jD rfl (fun hc3 => ?_) fun hc3 => ?_
 ·
  obtain ⟨e1, e2, e3⟩ := a.stop jo hrun hD6 hk6 hc3
  rw [e1] at e2 ⊢
  refine jS (jR (jm rfl (ja rfl (jO (jN (jv1 4 ?_))))))
  refine jT ?_
  refine qQ (qS rfl ?_)
  exact ⟨F6, rfl, e2, e3⟩
 have hc3 : r.1 = 0 := jo
 have a6 := a.next jo hrun hD6 hk6 hc3
 have htl := a6.tail
 rw [hsn.2] at htl
 have hw6 := a6.wl
 refine jQ (jN (jv1 0 ?_))
 refine jS (jR (jM ?_))
 refine jc (jE1 Tryz.call56) (nC g F6 _ w6 a6.D jo) ?_
 rintro e w7 ⟨F7, rfl, hD7, hk7⟩
 refine ⟨_, rfl, ?_⟩
 rw [← htl] at hD7 ⊢
 refine ja rfl (jO (jN (jv1 4 ?_)))
 refine jT ?_
 refine qS rfl ?_
 exact ⟨F7, rfl, hD7, a6.K.trans hk7⟩
structure OffS (w : World) (F : List Nat) (S : Option Addr) (l : List Pq) : Prop where
 S : ∀ y ∈ ob S, y ∉ F ∧ y < w.heap.size
 el : ∀ x ∈ l, ∀ y ∈ ob x.2.1, y ∉ F ∧ y < w.heap.size
theorem OffS.fk {w w' : World} {F F' : List Nat} {S : Option Addr} {l : List Pq} (h : OffS w F S l) (k : Fk F w w' F') : OffS w' F' S l :=
 ⟨fun y hy => ⟨k.out (h.S y hy).2 (h.S y hy).1, zas (h.S y hy).2 k.1.size⟩, fun x hx y hy => ⟨k.out (h.el x hx y hy).2 (h.el x hx y hy).1, zas (h.el x hx y hy).2 k.1.size⟩⟩
theorem RdP.fk {w w' : World} {F F' : List Nat} {S : Option Addr} {n : Nat} {l : List Pq} (hr : RdP w S n l) (h : OffS w F S l) (k : Fk F w w' F') : RdP w' S n l :=
 ⟨hr.len, hr.rd.frm k.1 (fun _ y hy => (h.S y hy).1), fun x hx => (hr.el x hx).frm k.1 (fun _ y hy => (h.el x hx y hy).1), hr.num, hr.oct⟩
theorem qQ0 (S : Option Addr) (n c : Nat) (l : List Pq) (g : Nat) (F : List Nat) (d : Dk) (w : World) (hD : IsRd w g F d) (hwl : d.wts.length ≤ 700000) (hn : n ≤ 40) (hr : RdP w S n l) (ho : OffS w F S l) (h128 : ∀ x ∈ l, x.2.2.2.length = 128) (ha6 : ∀ x ∈ l, x.1 < 65536) :
  Calls Tryz.prog 68 #[jI0 g, .slice S n c] w fun e w' => ∃ F', e = .returned (jI1 ((qL d (bO (puL l))).1)) ∧ IsRd w' g F' (qL d (bO (puL l))).2 ∧ Fk F w w' F' := by
 have hln := hr.len
 obtain ⟨L, hL⟩ : ∃ L, L = bO (puL l) := ⟨_, rfl⟩
 rw [← hL]
 have hLl : L.length = 2 * n + 6 := by rw [hL, rV, cQ, hln]
 have hsn := qGx (puL l)
 rw [← hL, cQ, hln] at hsn
 have hhl := tE (l := puL l) (by rw [cQ]; omega)
 have a0 : AtS g F w d L w 0 F := ⟨rfl, zag _, hD, Fk.refl _ _⟩
 refine jV Tryz.func68 Tryz.ntmps68 Tryz.results68 ?_
 refine jS (jR (jz 0 (jO (jN (jv2 0 1 ?_)))))
 refine jS (jS (jR (jz 0 (jO (jN (jB ?_))))))
 refine VC.loop (σ := Nat × List Nat) (fun s => [(0, jI0 g), (1, .slice S n c), (5, jI1 s.1)]) (fun s wr => s.1 ≤ n ∧ AtS g F w d L wr s.1 s.2) (fun s => n - s.1) (0, F) (js3 rfl rfl rfl) ⟨zj _, a0⟩ ?_
 rintro ⟨i, Fi⟩ wr ⟨hi, a⟩
 dsimp only at hi a ⊢
 have hri := hr.fk ho a.K
 have hwi := a.wl
 refine jS (jS (jR (jm rfl (jm rfl (jL rfl zx (jb rfl rfl (Bin.lssN _ _) (jO (jN (jv4 0 1 5 13 ?_)))))))))
 refine jD rfl (fun hc1 => ?_) fun hc1 => ?_
 ·
  obtain ⟨ad, hS1, hel⟩ := hri.cell hc1
  have hm := lL (jo : i < l.length)
  have hxe := hri.el _ hm
  have hxo := hri.oct _ hm
  have hx8 := h128 _ hm
  have hat := qYh (l := puL l) (i := i) (by rw [cQ]; omega)
  rw [← hL, qYi jo] at hat
  generalize l.getD i pq0 = x at hel hxe hxo hx8 hat
  obtain ⟨xa, xA, xc, xb⟩ := x
  dsimp only at hxe hxo hx8 hat
  rw [hS1]
  refine jQ (jN (jv3 0 1 5 ?_))
  refine jS (jB (jS (jR (jm rfl (jm rfl (jb rfl rfl (Bin.add_i64 _ 1 jo) (jm rfl (jm rfl (je (Run.indexS _ rfl rfl zx zbe jo) (jf rfl zbs rfl zah (jl rfl zba (hel 1 _ rfl) (je (Run.strOf rfl zg zac zt (rdU hxe hxo)) ?_))))))))))))
  refine jc (jE3 Tryz.call30) (kD (i + 1) xb g Fi _ wr a.D jo hxo jo) ?_
  rintro e w6 ⟨F6, rfl, hD6, hk6⟩
  refine ⟨_, rfl, ?_⟩
  obtain ⟨r, hr6⟩ : ∃ r, r = (qL d (L.take i)).2.write (i + 1) xb := ⟨_, rfl⟩
  have hrun : (L.getD i .fl).run (qL d (L.take i)).2 = r := by rw [hat, hr6]; rfl
  rw [← hr6] at hD6 ⊢
  refine ja rfl (jO (jN (jv4 0 1 5 6 ?_)))
  refine jS (jR (jm rfl (jb rfl rfl (Bin.neqN _ 0) (jO (jN (jv5 0 1 5 6 27 ?_))))))
  refine jD rfl (fun hc2 => ?_) fun hc2 => ?_
  ·
   obtain ⟨e1, e2, e3⟩ := a.stop jo hrun hD6 hk6 hc2
   rw [e1] at e2 ⊢
   refine jS (jR (jm rfl (ja rfl (jO (jN (jv1 4 ?_))))))
   refine jT ?_
   refine qR (qQ (qQ (qR (qQ (qS rfl ?_)))))
   exact ⟨F6, rfl, e2, e3⟩
  have hc2 : r.1 = 0 := jo
  have a6 := a.next jo hrun hD6 hk6 hc2
  rw [← hS1]
  refine jQ ?_
  refine qH (jN ?_)
  refine jv3 0 1 5 ?_
  refine jR (jm rfl (jb rfl rfl (Bin.add_i64 _ 1 jo) (ja rfl (jO ?_))))
  refine jN ⟨(i + 1, F6), (js3 rfl rfl rfl), ?_, ?_⟩
  · exact ⟨hc1, a6⟩
  exact jq
 obtain rfl : i = n := jo
 refine jX ?_
 refine qZ (qZ (qN ?_))
 refine jN (jv2 0 1 ?_)
 refine jS (jS (jR (jM ?_)))
 refine jc (jE1 Tryz.call32) (kE g Fi _ wr a.D jo) ?_
 rintro e w6 ⟨F6, rfl, hD6, hk6⟩
 refine ⟨_, rfl, ?_⟩
 obtain ⟨r, hr6⟩ : ∃ r, r = (qL d (L.take i)).2.flush := ⟨_, rfl⟩
 have hrun : (L.getD i .fl).run (qL d (L.take i)).2 = r := by rw [hsn.1, hr6]; rfl
 rw [← hr6] at hD6 ⊢
 refine ja rfl (jO (jN (jv3 0 1 7 ?_)))
 refine jS (jR (jm rfl (jb rfl rfl (Bin.neqN _ 0) (jO (jN (jv4 0 1 7 32 ?_))))))
 refine jD rfl (fun hc3 => ?_) fun hc3 => ?_
 ·
  obtain ⟨e1, e2, e3⟩ := a.stop jo hrun hD6 hk6 hc3
  rw [e1] at e2 ⊢
  refine jS (jR (jm rfl (ja rfl (jO (jN (jv1 4 ?_))))))
  refine jT ?_
  refine qQ (qS rfl ?_)
  exact ⟨F6, rfl, e2, e3⟩
 have hc3 : r.1 = 0 := jo
 have a6 := a.next jo hrun hD6 hk6 hc3
 have hw6 := a6.wl
 refine jQ (jN (jv2 0 1 ?_))
 refine jS (jS (jR (jm rfl (jM ?_))))
 refine jc (jE1 Tryz.call121) (vO S i c l w6 hn (hr.fk ho a6.K) h128 ha6) ?_
 rintro e w7 ⟨rfl, hf7⟩
 refine ⟨_, rfl, ?_⟩
 refine jc (jE3 Tryz.call30) (kD 0 (dC (puL l)) g F6 _ w7 (a6.D.frm hf7 jp) jo (headJ_lt _) jo) ?_
 rintro e w8 ⟨F8, rfl, hD8, hk8⟩
 refine ⟨_, rfl, ?_⟩
 have hk8 := Fk.pre hf7 hk8
 obtain ⟨r8, hr8⟩ : ∃ r, r = (qL d (L.take (i + 1))).2.write 0 (dC (puL l)) := ⟨_, rfl⟩
 have hrun8 : (L.getD (i + 1) .fl).run (qL d (L.take (i + 1))).2 = r8 := by rw [hsn.2.1, hr8]; rfl
 rw [← hr8] at hD8 ⊢
 refine ja rfl (jO (jN (jv3 0 1 8 ?_)))
 refine jS (jR (jm rfl (jb rfl rfl (Bin.neqN _ 0) (jO (jN (jv4 0 1 8 39 ?_))))))
 refine jD rfl (fun hc4 => ?_) fun hc4 => ?_
 ·
  obtain ⟨e1, e2, e3⟩ := a6.stop jo hrun8 hD8 hk8 hc4
  rw [e1] at e2 ⊢
  refine jS (jR (jm rfl (ja rfl (jO (jN (jv1 4 ?_))))))
  refine jT ?_
  refine qQ (qS rfl ?_)
  exact ⟨F8, rfl, e2, e3⟩
 have hc4 : r8.1 = 0 := jo
 have a8 := a6.next jo hrun8 hD8 hk8 hc4
 have hw8 := a8.wl
 refine jQ (jN (jv2 0 1 ?_))
 refine jS (jS (jR (jM ?_)))
 refine jc (jE1 Tryz.call32) (kE g F8 _ w8 a8.D jo) ?_
 rintro e w9 ⟨F9, rfl, hD9, hk9⟩
 refine ⟨_, rfl, ?_⟩
 obtain ⟨r9, hr9⟩ : ∃ r, r = (qL d (L.take (i + 2))).2.flush := ⟨_, rfl⟩
 have hrun9 : (L.getD (i + 2) .fl).run (qL d (L.take (i + 2))).2 = r9 := by rw [hsn.2.2.1, hr9]; rfl
 rw [show (qL d (L.take (i + 1 + 1))).2.flush = r9 from hr9.symm] at hD9 ⊢
 refine ja rfl (jO (jN (jv3 0 1 9 ?_)))
 refine jS (jR (jm rfl (jb rfl rfl (Bin.neqN _ 0) (jO (jN (jv4 0 1 9 44 ?_))))))
 refine jD rfl (fun hc5 => ?_) fun hc5 => ?_
 ·
  obtain ⟨e1, e2, e3⟩ := a8.stop jo hrun9 hD9 hk9 hc5
  rw [e1] at e2 ⊢
  refine jS (jR (jm rfl (ja rfl (jO (jN (jv1 4 ?_))))))
  refine jT ?_
  refine qQ (qS rfl ?_)
  exact ⟨F9, rfl, e2, e3⟩
 have hc5 : r9.1 = 0 := jo
 have a9 := a8.next jo hrun9 hD9 hk9 hc5
 have hw9 := a9.wl
 have htl := a9.tail
 rw [show i + 1 + 1 + 1 = i + 3 by omega, hsn.2.2.2] at htl
 have ho9 := ho.fk a9.K
 refine jQ (jN (jv2 0 1 ?_))
 refine jS (jR (jm rfl (jM ?_)))
 refine jc (jE2 Tryz.call122) (yN S i c l g F9 _ w9 a9.D jo hn (hr.fk ho a9.K) (fun x hx _ y hy hxy => (ho9.el y hy x hxy).1 hx) (fun y hy => (ho9.S y hy).1) (fun x hx => by rw [h128 x hx]; omega) (fun _ _ => trivial)) ?_
 rintro e w10 ⟨F10, rfl, hD10, hk10⟩
 refine ⟨_, rfl, ?_⟩
 rw [show (qL (qL d (L.take (i + 1 + 1 + 1))).2 (bF (puL l))) = qL d L from htl.symm] at hD10 ⊢
 refine ja rfl (jO (jN (jv1 4 ?_)))
 refine jT ?_
 refine qS rfl ?_
 exact ⟨F10, rfl, hD10, a9.K.trans hk10⟩
theorem qJq (g : Nat) (F : List Nat) (d : Dk) (w : World) (hD : IsRd w g F d) (hwl : d.wts.length ≤ 800000) (hon : d.off = false) (hbig : 41 < d.has.length) :
  Calls Tryz.prog 125 #[jI0 g] w fun e w' => ∃ S n c l, e = .returned (.tuple #[.slice S n c, .bool (decide (dD d (d.sec 0)))]) ∧ (dD d (d.sec 0) → RdP w' S n l ∧ puL l = dY d (d.sec 0) (headN (d.sec 0)) ∧ n = headN (d.sec 0) ∧ OffS w' F S l ∧ ∀ x ∈ l, x.2.2.2.length = 128) ∧ Frm [] w w' := by
 have hb8 := hD.ok.big
 have hsecs : ∀ i, i < d.has.length → (d.sec i).length = 128 ∧ ∀ b ∈ d.sec i, b < 256 := fun i hi => hD.ok.secAt hi
 obtain ⟨hl0, hB0⟩ := hsecs 0 jo
 obtain ⟨hd, hhd⟩ : ∃ hd, hd = d.sec 0 := ⟨_, rfl⟩
 rw [← hhd] at hl0 hB0 ⊢
 have hrd : ∀ i, i < d.has.length → d.read i = (0, d.sec i) := fun i hi => by unfold Dk.read; rw [if_neg jo, if_neg (by simp [hon])]
 have hv4 := sQ hB0 4
 have hFl := hD.lt
 rw [show cT ((hd.drop 4).take 2) = headN hd from rfl] at hv4
 refine jV Tryz.func125 Tryz.ntmps125 Tryz.results125 ?_
 refine jS (jR (ja rfl (ja rfl (jO (jN (jv1 0 ?_))))))
 refine jS (jR (jM ?_))
 refine jc (jE2 Tryz.call83) (mK 0 g F d w hD jo) ?_
 rintro e _ ⟨rfl, rfl⟩
 rw [hrd 0 jo, ← hhd]
 refine ⟨_, rfl, ?_⟩
 refine jm rfl (jY rfl rfl (jY rfl rfl (ja rfl (ja rfl (jO (jN (jv3 0 4 5 ?_)))))))
 refine jS (jS (jR (jm rfl (jb rfl rfl (Bin.neqN _ 0) (jO (jN (jv3 0 4 20 ?_)))))))
 refine VC.condF rfl jdp ?_
 refine jQ (jN (jv2 0 4 ?_))
 refine jS (jR (jM ?_))
 refine jc0 (jE3 Tryz.call84) (lP hd 4 2 w hB0 jo jo jo jo) ?_
 rw [show cT ((hd.drop 4).take 2) = headN hd from rfl]
 refine jm rfl (jY rfl rfl (jY rfl rfl (ja rfl (ja rfl (jO (jN (jv3 0 4 6 ?_)))))))
 refine jS (jS ?_)
 refine VC.split1 [(0, _), (4, _), (6, _)] (js3 rfl rfl rfl) 31 (.bool (decide (¬ (1 ≤ headN hd ∧ headN hd ≤ 40)))) ?_ ?_
 ·
  refine jR ?_
  refine jm rfl (jb rfl rfl (Bin.lssN _ 1) ?_)
  by_cases hs27 : headN hd < 1
  ·
   refine jM ?_
   refine jU ?_
   refine jU ?_
   refine jW rfl rfl au (jO ?_)
   refine jN ⟨(js4 (jC (by grind)) rfl rfl rfl), rfl⟩
  refine jM ?_
  refine jG ?_
  refine jk (Run.bin rfl rfl (Bin.gtrN _ 40)) ?_
  by_cases hs30 : 40 < headN hd
  ·
   refine jF rfl rfl au (jO ?_)
   refine jN ⟨(js4 (jC (by grind)) rfl rfl rfl), rfl⟩
  refine jF rfl rfl au (jO ?_)
  refine jN ⟨(js4 (jC (by grind)) rfl rfl rfl), rfl⟩
 intro Γ hΓ
 refine jN (VC.sub _ hΓ ?_)
 refine jD rfl (fun hc2 => ?_) fun hc2 => ?_
 ·
  rw [show decide (dD d hd) = false from decide_eq_false (fun h => hc2 h.1)]
  refine jS (jR (ja rfl (ja rfl (jO (jN (jv2 2 3 ?_))))))
  refine jT ?_
  refine qQ (bX rfl rfl ?_)
  exact ⟨none, 0, 0, [], rfl, fun h => absurd h.1 hc2, Frm.refl _ _⟩
 have hc2 := Classical.not_not.1 hc2
 refine jQ (jN (jv3 0 4 6 ?_))
 refine jS (jR (ja rfl (jO (jN (jS (jS (jR (jz 0 (jO (jN (jB ?_)))))))))))
 refine VC.loop (σ := Nat × Option Addr × Nat × List Pq) (fun s => [(0, jI0 g), (4, .string (qF hd)), (6, jI2 (headN hd)), (8, .slice s.2.1 s.1 s.2.2.1), (9, jI1 s.1)]) (fun s wr => s.1 ≤ headN hd ∧ Own wr 132 2 s.2.1 s.1 s.2.2.1 (s.2.2.2.flatMap pqC) ∧ puL s.2.2.2 = dY d hd s.1 ∧ Frm [] w wr ∧ (∀ x ∈ ob s.2.1, w.heap.size ≤ x) ∧ ∀ x ∈ s.2.2.2, (Rd wr 1 x.2.1 x.2.2.2.length (NB x.2.2.2) ∧ x.1 < 65536 ∧ x.2.2.2.length = 128 ∧ ∀ b ∈ x.2.2.2, b < 256) ∧ ∀ y ∈ ob x.2.1, w.heap.size ≤ y ∧ y < wr.heap.size ∧ y ∉ ob s.2.1) (fun s => headN hd - s.1) (0, none, 0, []) (js5 rfl rfl rfl rfl rfl) ⟨zj _, Own.nil _ _ _, rfl, Frm.refl _ _, by simp [ob], fun x hx => by cases hx⟩ ?_
 rintro ⟨i, B, d8, l⟩ wr ⟨hi, ho, hpu, K, hup, hal⟩
 dsimp only at hi ho hpu hup hal ⊢
 have ks := K.size
 have hll : l.length = i := by have := congrArg List.length hpu; rwa [cQ, qWk] at this
 refine jS (jS (jR (jm rfl (jm rfl (je (Run.convN _ rfl zr zz (by simp only [bmax]; omega)) (jb rfl rfl (Bin.lssN _ _) (jO (jN (jv6 0 4 6 8 9 35 ?_)))))))))
 refine jD rfl (fun hc3 => ?_) fun hc3 => ?_
 ·
  refine jQ (jN (jv5 0 4 6 8 9 ?_))
  refine jS (jB (jS (jR (jm rfl (jm rfl (jb rfl rfl (Bin.mul_i64 2 _ jo) (jb rfl rfl (Bin.add_i64 10 _ jo) ?_)))))))
  refine jc0 (jE3 Tryz.call84) (lP hd (10 + 2 * i) 2 wr hB0 jo jo jo jo) ?_
  have hva := sQ hB0 (10 + 2 * i)
  obtain ⟨va, hvae⟩ : ∃ va, va = cT ((hd.drop (10 + 2 * i)).take 2) := ⟨_, rfl⟩
  rw [← hvae] at hva ⊢
  refine jm rfl (jY rfl rfl (jY rfl rfl (ja rfl (ja rfl (jO (jN (jv6 0 4 6 8 9 10 ?_)))))))
  refine jS (jR (jm rfl (jm rfl (jb rfl rfl (Bin.add_i64 1 _ jo) ?_))))
  refine jc (jE2 Tryz.call83) (mK (1 + i) g F d wr (hD.frm K jp) jo) ?_
  rintro e _ ⟨rfl, rfl⟩
  obtain ⟨hl1, hB1⟩ := hsecs (1 + i) jo
  rw [hrd (1 + i) jo]
  have htn := yX d hd i
  rw [← hvae] at htn
  generalize d.sec (1 + i) = sb at hl1 hB1 htn
  refine ⟨_, rfl, ?_⟩
  refine jm rfl (jY rfl rfl (jY rfl rfl (ja rfl (ja rfl (jO (jN (jv7 0 4 6 8 9 10 12 ?_)))))))
  refine jR (jm rfl (jm rfl (je (Run.convN _ rfl zr zz (by simp only [bmax]; omega)) (jM ?_))))
  refine Ops.m (qV.octO rfl zt zg zac hB1) rfl ?_
  rintro _ w5 ⟨CB, cc, rfl, hrC, hf5, hupC⟩
  have hrC : Rd w5 1 CB sb.length (NB sb) := hrC
  have hCl := hrC.lt jo
  have hol := ho.lt
  have ho := ho.frm hf5 jp
  have q5 := hf5.size
  refine je (Run.build (evs.cons rfl (evs.cons rfl evs.nil)) cP (cR).choose_spec.1 (cR).choose_spec.2 (cells := (pqC (va, CB, cc, sb)).toArray) rfl) ?_
  refine Ops.m (qV.buildS1 rfl zx zbe cP jd jd rfl rfl) rfl ?_
  rintro _ w6 ⟨rfl, hF6⟩
  have hr6 : Rd w6 2 (some ⟨w5.heap.size, 0, none⟩) 1 (pqC (va, CB, cc, sb)) := Rd.of_blk (n := 1) (size := 2) hF6.blk rfl
  have ho := ho.frm hF6.frm jp
  have q6 := hF6.frm.size
  refine Ops.m (qV.app rfl rfl zx (gW) rfl jd ho hr6 (eG _) jo jo) rfl ?_
  rintro _ w7 ⟨B7, d7, rfl, ho7, hf7, hob7⟩
  have e7 : l.flatMap pqC ++ pqC (va, CB, cc, sb) = (l ++ [(va, CB, cc, sb)]).flatMap pqC := jp
  rw [e7] at ho7
  have kB := Fk.of_app hf7 hob7
  have k57 : Frm [] wr w6 := hf5.trans hF6.frm jp
  have K7 := (K.trans k57 jp).own hf7 hup
  have hup7 := kB.up hup jo
  have hCB : ∀ y ∈ ob CB, y ∉ ob B := fun y hy hx => by have := hupC y hy; have := hol y hx; omega
  have hal7 : ∀ x ∈ l ++ [(va, CB, cc, sb)], (Rd w7 1 x.2.1 x.2.2.2.length (NB x.2.2.2) ∧ x.1 < 65536 ∧ x.2.2.2.length = 128 ∧ ∀ b ∈ x.2.2.2, b < 256) ∧ ∀ y ∈ ob x.2.1, w.heap.size ≤ y ∧ y < w7.heap.size ∧ y ∉ ob B7 := fun x hx => by
   have q7 := hf7.size
   rcases zcp.1 hx with hx | hx
   ·
    obtain ⟨⟨h1, h2⟩, h3⟩ := hal x hx
    exact ⟨⟨(h1.frm k57 jp).frm hf7 (fun _ y hy => (h3 y hy).2.2), h2⟩, fun y hy => ⟨(h3 y hy).1, by have := (h3 y hy).2.1; omega, kB.out (by have := (h3 y hy).2.1; omega) (h3 y hy).2.2⟩⟩
   rw [za] at hx
   subst hx
   exact ⟨⟨(hrC.frm hF6.frm jp).frm hf7 (fun _ y hy => hCB y hy), hva, hl1, hB1⟩, fun y hy => ⟨by have := hupC y hy; omega, by have := hCl y hy; omega, kB.out (by have := hCl y hy; omega) (hCB y hy)⟩⟩
  refine ja rfl (jO ?_)
  refine qH (jN ?_)
  refine jv5 0 4 6 8 9 ?_
  refine jR (jm rfl (jb rfl rfl (Bin.add_i64 _ 1 jo) (ja rfl (jO ?_))))
  refine jN ⟨(i + 1, B7, d7, l ++ [(va, CB, cc, sb)]), (js5 rfl rfl rfl rfl rfl), ?_, ?_⟩
  · exact ⟨hc3, ho7, by dsimp only; rw [htn, ← hpu, puL, zv]; rfl, K7, hup7, hal7⟩
  exact jq
 obtain rfl : i = headN hd := jo
 obtain ⟨A, c, B3, cb, hb, hA, hB, hFe, hgA, hgB, hAB⟩ := hD.parts
 have hrP : RdP wr B (headN hd) l := ⟨hll, ho.rd, fun x hx => (hal x hx).1.1, fun x hx => by have := (hal x hx).1.2.1; omega, fun x hx => (hal x hx).1.2.2.2⟩
 have hoS : OffS wr F B l := ⟨fun y hy => ⟨fun h => by have := hFl y h; have := hup y hy; omega, ho.lt y hy⟩, fun x hx y hy => ⟨fun h => by have := hFl y h; have := ((hal x hx).2 y hy).1; omega, ((hal x hx).2 y hy).2.1⟩⟩
 refine jX ?_
 refine qZ (qZ (qN ?_))
 refine jN (jv3 0 4 8 ?_)
 refine jS (jS ?_)
 refine VC.splitR [(8, .slice B (headN hd) d8)] (fun w1 => Frm [] wr w1) 74 (.bool (decide (¬ (cH (dY d hd (headN hd)) d.has.length ∧ dC (dY d hd (headN hd)) = hd)))) ?_ ?_
 ·
  refine jR ?_
  refine jm rfl (jm rfl (jZ rfl (jf rfl zaf rfl zdc (jl rfl zdv ((hb.frm K jp).cell 0) (jL rfl zar ?_)))))
  refine jc (jE2 Tryz.call151) (qVo B (headN hd) d8 d.has.length l wr jo jo hrP) ?_
  rintro e w5 ⟨rfl, hf5⟩
  refine ⟨_, rfl, ?_⟩
  rw [hpu]
  by_cases hs67 : cH (dY d hd (headN hd)) d.has.length
  ·
   refine je (Run.not rfl) (jM ?_)
   refine jG ?_
   refine Ops.clg rfl au (jE1 Tryz.call121) (vO B (headN hd) d8 l w5 jo (hrP.frm hf5) (fun x hx => (hal x hx).1.2.2.1) (fun x hx => (hal x hx).1.2.1)) rfl ?_
   rintro e w6 ⟨rfl, hf6⟩
   refine ⟨_, rfl, ?_⟩
   rw [hpu]
   refine jG ?_
   refine jk (Run.neqO rfl rfl (headJ_lt _) hB0) ?_
   by_cases hs73 : ¬ dC (dY d hd (headN hd)) = hd
   ·
    refine jF rfl rfl au (jO ?_)
    refine jN ⟨(js2 (jC (by grind)) rfl), (by first | exact hf5.trans hf6 jp | exact hf5)⟩
   refine jF rfl rfl au (jO ?_)
   refine jN ⟨(js2 (jC (by grind)) rfl), (by first | exact hf5.trans hf6 jp | exact hf5)⟩
  refine je (Run.not rfl) (jM ?_)
  refine jU ?_
  refine jU ?_
  refine jU ?_
  refine jU ?_
  refine jW rfl rfl au (jO ?_)
  refine jN ⟨(js2 (jC (by grind)) rfl), (by first | exact hf5.trans hf6 jp | exact hf5)⟩
 intro Γ w9 hΓ hf9
 refine jN (VC.sub _ hΓ ?_)
 refine jD rfl (fun hc4 => ?_) fun hc4 => ?_
 ·
  rw [show decide (dD d hd) = false from decide_eq_false (fun h => hc4 h.2)]
  refine jS (jR (ja rfl (ja rfl (jO (jN (jv2 2 3 ?_))))))
  refine jT ?_
  refine qQ (bX rfl rfl ?_)
  exact ⟨none, 0, 0, [], rfl, fun h => absurd h.2 hc4, K.trans hf9 jp⟩
 have hc4 := Classical.not_not.1 hc4
 have hT : dD d hd := ⟨hc2, hc4⟩
 rw [decide_eq_true hT]
 refine jQ (jN (jv1 8 ?_))
 refine jS (jR (jm rfl (ja rfl (ja rfl (jO (jN (jv2 2 3 ?_)))))))
 refine jT ?_
 refine bX rfl rfl ?_
 exact ⟨B, headN hd, d8, l, rfl, fun _ => ⟨hrP.frm hf9, hpu, rfl, hoS.fk (Fk.self hf9 jp), fun x hx => (hal x hx).1.2.2.1⟩, K.trans hf9 jp⟩
theorem zH (g : Nat) (F : List Nat) (d : Dk) (w : World) (hD : IsRd w g F d) (hwl : d.wts.length ≤ 800000) (hbig : 41 < d.has.length) :
  Calls Tryz.prog 82 #[jI0 g] w fun e w' => ∃ F', e = .returned (.tuple #[jI1 ((bW d).1), jI1 ((bW d).2.1)]) ∧ IsRd w' g F' (bW d).2.2 ∧ Fk F w w' F' := by
 have hb8 := hD.ok.big
 obtain ⟨hl0, hB0⟩ := hD.ok.secAt (jo : 0 < d.has.length)
 refine jV Tryz.func82 Tryz.ntmps82 Tryz.results82 ?_
 refine jS (jR (jz 0 (jz 0 (jO (jN (jv1 0 ?_))))))
 refine jS (jR (jM ?_))
 refine jc0 (jE2 Tryz.call83) (mK 0 g F d w hD jo) ?_
 obtain ⟨er, sr, her⟩ : ∃ er sr, d.read 0 = (er, sr) := ⟨_, _, rfl⟩
 have hre := her
 unfold Dk.read at her
 rw [if_neg jo] at her
 rw [hre]
 refine jm rfl (jY rfl rfl (jY rfl rfl (ja rfl (ja rfl (jO (jN (jv3 0 4 5 ?_)))))))
 refine jS (jS (jR (jm rfl (jb rfl rfl (Bin.neqN _ 0) (jO (jN (jv4 0 4 5 15 ?_)))))))
 refine jD rfl (fun hc1 => ?_) fun hc1 => ?_
 ·
  have hoff : d.off = true := by
   by_cases ho : d.off = true
   · exact ho
   rw [if_neg ho] at her
   cases her
   exact absurd rfl hc1
  rw [if_pos hoff] at her
  cases her
  rw [show bW d = (0, 10, d) by unfold bW; rw [if_neg jo, if_pos hoff]]
  refine jS (jR (jm rfl (jz 0 (ja rfl (jO (jN (jv2 2 3 ?_)))))))
  refine jT ?_
  refine qQ (bX rfl rfl ?_)
  exact ⟨F, rfl, hD, Fk.refl _ _⟩
 have hon : ¬ d.off = true := fun ho => by
  rw [if_pos ho] at her
  cases her
  omega
 rw [if_neg hon] at her
 cases her
 have hon : d.off = false := by simpa using hon
 have hrec : bW d = if dD d (d.sec 0) then
   if (qL d (bF (dY d (d.sec 0) (headN (d.sec 0))))).1 ≠ 0 then (0, qL d (bF (dY d (d.sec 0) (headN (d.sec 0))))) else (headN (d.sec 0), qL d (bF (dY d (d.sec 0) (headN (d.sec 0)))))
  else if d.sec 0 ≠ noM 128 then (0, qL d dV) else (0, 0, d) := by
  unfold bW
  rw [if_neg jo, if_neg (by simp [hon])]
 refine jQ (jN (jv2 0 4 ?_))
 refine jS (jR (jM ?_))
 refine jc (jE1 Tryz.call125) (qJq g F d w hD hwl hon hbig) ?_
 rintro e w2 ⟨S, n, c, l, rfl, hT, hf2⟩
 refine ⟨_, rfl, ?_⟩
 refine jm rfl (jY rfl rfl (jY rfl rfl (ja rfl (ja rfl (jO (jN (jv4 0 4 6 7 ?_)))))))
 refine jS (jS (jR (jm rfl (jO (jN (jv4 0 4 6 22 ?_))))))
 refine VC.condB rfl (fun hc2 => ?_) (fun hc2 => ?_)
 ·
  have hc2 : dD d (d.sec 0) := of_decide_eq_true hc2
  obtain ⟨hrP, hpu, hne, hoS, h128⟩ := hT hc2
  rw [if_pos hc2, ← hpu, ← hne] at hrec
  have hn40 := hc2.1.2
  rw [← hne] at hn40
  refine jS (jS (jR (jm rfl (jM ?_))))
  refine jc (jE2 Tryz.call122) (yN S n c l g F d w2 (hD.frm hf2 jp) hwl hn40 hrP (fun x hx _ y hy hxy => (hoS.el y hy x hxy).1 hx) (fun y hy => (hoS.S y hy).1) (fun x hx => by rw [h128 x hx]; omega) (fun _ _ => trivial)) ?_
  rintro e w3 ⟨F3, rfl, hD3, hk3⟩
  refine ⟨_, rfl, ?_⟩
  have hk3 := Fk.pre hf2 hk3
  obtain ⟨r, hr3⟩ : ∃ r, r = qL d (bF (puL l)) := ⟨_, rfl⟩
  rw [← hr3] at hD3 hrec ⊢
  refine ja rfl (jO (jN (jv2 6 8 ?_)))
  refine jS (jR (jm rfl (jb rfl rfl (Bin.neqN _ 0) (jO (jN (jv3 6 8 27 ?_))))))
  refine jD rfl (fun hc3 => ?_) fun hc3 => ?_
  ·
   rw [if_pos (show r.1 ≠ 0 from hc3)] at hrec
   rw [hrec]
   refine jS (jR (jm rfl (jz 0 (ja rfl (jO (jN (jv2 2 3 ?_)))))))
   refine jT ?_
   refine qQ (qQ (bX rfl rfl ?_))
   exact ⟨F3, rfl, hD3, hk3⟩
  rw [if_neg (show ¬ r.1 ≠ 0 from hc3)] at hrec
  have hc3 : r.1 = 0 := jo
  rw [hrec]
  refine jQ (jN (jv1 6 ?_))
  refine jS (jR (jm rfl (jL rfl zx (ja rfl (jz 0 (jO (jN (jv2 2 3 ?_))))))))
  refine jT ?_
  refine qQ (bX rfl rfl ?_)
  exact ⟨F3, by rw [hc3], hD3, hk3⟩
 have hc2 : ¬ dD d (d.sec 0) := of_decide_eq_false hc2
 rw [if_neg hc2] at hrec
 refine jQ (jN (jv2 0 4 ?_))
 refine jS (jS (jR (jM ?_)))
 refine jc (jE0 Tryz.call55) (uC w2) ?_
 rintro e w3 ⟨rfl, hf3⟩
 refine ⟨_, rfl, ?_⟩
 have hk3 : Fk F w w3 F := Fk.self (hf2.trans hf3 jp) jp
 refine je (Run.neqO rfl rfl hB0 (noM_lt _)) (jO (jN (jv2 0 33 ?_)))
 refine jD rfl (fun hc4 => ?_) fun hc4 => ?_
 ·
  rw [if_pos hc4] at hrec
  rw [hrec]
  refine jS (jR (jM ?_))
  refine jc (jE1 Tryz.call56) (nC g F d w3 (hD.frm (hf2.trans hf3 jp) jp) jo) ?_
  rintro e w4 ⟨F4, rfl, hD4, hk4⟩
  refine ⟨_, rfl, ?_⟩
  refine jz 0 (ja rfl (jO (jN (jv2 2 3 ?_))))
  refine jT ?_
  refine qQ (bX rfl rfl ?_)
  exact ⟨F4, rfl, hD4, hk3.trans hk4⟩
 rw [if_neg hc4] at hrec
 rw [hrec]
 refine jQ (jN ?_)
 refine VC.sub [] .nil ?_
 refine jS (jR (jz 0 (jz 0 (jO (jN (jT ?_))))))
 refine bX rfl rfl ?_
 exact ⟨F, rfl, hD.frm (hf2.trans hf3 jp) jp, hk3⟩
def lvl (LS : List Nat) (f : Nat) : List Kd := (List.range (LS.length - f)).map fun j => (LS.getD (f + j) 0, f + j)
theorem qMd (LS : List Nat) (f : Nat) : (lvl LS f).length = LS.length - f := by simp [lvl]
theorem qYj {LS : List Nat} {f j : Nat} (h : f + j < LS.length) : (lvl LS f).getD j (0, 0) = (LS.getD (f + j) 0, f + j) := by
 unfold lvl
 rw [zb, zbr, ze (by simp; omega)]
 simp
def gQ (cs : List (List Kd)) : List Nat := cs.map fun c => (c.getD 0 (0, 0)).1
theorem qGz (LS : List Nat) (cs : List (List Kd)) : lvl (LS ++ gQ cs) LS.length = nextM LS.length cs := by
 unfold lvl nextM gQ
 refine zew jp fun i h1 h2 => ?_
 have hi : i < cs.length := by simpa using h2
 rw [zgv, zdq, List.getElem_mapIdx, zb, zcz jo, zhp, zbr, ze hi]
 rfl
theorem qG0 (l : List Pr) (k : Nat) : fG l k = lvl ((List.range k).map fun i => dJ (bD l i)) 0 := by
 unfold fG lvl
 refine zew jp fun i h1 h2 => ?_
 have hi : i < k := by simpa using h1
 rw [zgv, zdq, zgv, zdq, zch, zb, zbr, ze (by simpa using hi), zdq]
 rfl
theorem qG1 {O : List (List Nat)} {lv : List Kd} (h : 1 < lv.length) : upM O lv = upM (O ++ (eV lv).map gO) (nextM O.length (eV lv)) := by
 rw [upM, dif_neg jo]
theorem qYk {l : List Kd} {t : Nat} (h : t < (eV l).length) : (eV l).getD t [] = (l.drop (12 * t)).take 12 := by
 unfold eV at h ⊢
 rw [zae, zdd] at h
 rw [zb, zbr, ze (by simpa using h), zdq]
 rfl
theorem eN {α : Type} {l : List α} {k : Nat} (d : α) (h : k < l.length) : l.take (k + 1) = l.take k ++ [l.getD k d] := by
 rw [zcq, ze h, zb, ze h]
 rfl
theorem qYl (l : List Nat) : ∀ u ∈ ZU l, u.oneCell' = true := fun u hu => by
 obtain ⟨x, _, rfl⟩ := List.mem_map.1 hu
 rfl
theorem qYm (a b : List Nat) : ZU (a ++ b) = ZU a ++ ZU b := by simp [ZU]
theorem qQs (l : List Pr) (n : Nat) : (l.flatMap fun x => qC x.1 8 ++ qC x.2 n).length = (8 + n) * l.length := qXx l n
theorem tW (v : Nat) (w : World) (hv : v < 18446744073709551616) : Calls Tryz.prog 117 #[jI2 v] w fun e w' => e = .returned (.string (qF (qC v 8))) ∧ Frm [] w w' := by
 refine jV Tryz.func117 Tryz.ntmps117 Tryz.results117 ?_
 refine jS (jR ?_)
 refine Ops.r (v := .string (qF [])) (Run.asg rfl) rfl ?_
 refine jO (jN (jv1 0 ?_))
 refine jS (jR (jM ?_))
 refine jc (jE2 zgm) (kQ v 8 w jo jo jo) ?_
 rintro e w1 ⟨rfl, hf1⟩
 refine ⟨_, rfl, ?_⟩
 refine ja rfl (jO (jN (jv1 2 ?_)))
 refine jT ?_
 refine qS rfl ?_
 exact ⟨rfl, hf1⟩
theorem rT (bs : List Nat) (w : World) (hl : bs.length ≤ 124) (hB : ∀ b ∈ bs, b < 256) : Calls Tryz.prog 118 #[.string (qF bs)] w fun e w' => e = .returned (.string (qF (dR bs))) ∧ Frm [] w w' := by
 refine jV Tryz.func118 Tryz.ntmps118 Tryz.results118 ?_
 refine jS (jR ?_)
 refine Ops.r (v := .string (qF [])) (Run.asg rfl) rfl ?_
 refine jO (jN (jv1 0 ?_))
 refine jS (jR (jM ?_))
 refine Ops.m (qV.octO rfl zt zg zac hB) rfl ?_
 rintro _ w8 ⟨CB, cc, rfl, hrC, hf8, hupC⟩
 refine jc (jE1 Tryz.call67) (oZ CB cc _ bs _ rfl jo hB hrC) ?_
 rintro e w9 ⟨rfl, hf9⟩
 refine ⟨_, rfl, ?_⟩
 obtain ⟨SB, hSB⟩ : ∃ SB, SB = fW bs := ⟨_, rfl⟩
 have hSl : SB.length ≤ 128 := by rw [hSB, fY]; omega
 have hhe : dR bs = SB ++ noM (128 - SB.length) := by rw [hSB, dR, eS, if_neg (by rw [← hSB]; omega)]
 rw [← hSB]
 have K9 := hf8.trans hf9 jp
 refine ja rfl (jO (jN (jv1 3 ?_)))
 refine jS (jB ?_)
 refine VC.loop (σ := Nat) (fun s => [(3, .string (qF (SB ++ noM s)))]) (fun s wr => SB.length + s ≤ 128 ∧ w9 = wr) (fun s => 128 - s) 0 (js1 (by rw [show noM 0 = [] from rfl, zav]; rfl)) ⟨hSl, rfl⟩ ?_
 rintro k _ ⟨hk, rfl⟩
 have hkl : (SB ++ noM k).length = SB.length + k := by rw [zf, noM, zeg]
 refine jS (jS (jR (jm rfl (je (Run.lenO rfl zt) ?_))))
 rw [hkl]
 refine jb rfl rfl (Bin.lssN _ 128) (jO (jN (jv2 3 9 ?_)))
 refine jD rfl (fun hc1 => ?_) fun hc1 => ?_
 ·
  refine jQ (jN (jv1 3 ?_))
  refine jB (jR (jm rfl (je (Run.addO (b := [0]) rfl rfl (by rw [hkl]; simp; omega)) ?_)))
  rw [xJ jo]
  refine ja rfl (jO ?_)
  refine qH (jN ⟨k + 1, (js1 rfl), ?_, ?_⟩)
  · exact ⟨jo, rfl⟩
  exact jq
 refine jX ?_
 refine qZ (qZ (qN ?_))
 refine jN (jv1 3 ?_)
 refine jS (jR (jm rfl (ja rfl (jO (jN (jv1 2 ?_))))))
 refine jT ?_
 refine qS rfl ?_
 rw [hhe, show 128 - SB.length = k by omega]
 exact ⟨rfl, K9⟩
theorem qVq (S : Option Addr) (n c : Nat) (l : List Pr) (w : World) (hn : l.length = n) (hnb : n ≤ 1000000) (hr : Rd w 2 S n (PC2 l)) :
  Calls Tryz.prog 128 #[.slice S n c] w fun e w' => e = .returned (.bool (decide (MayT l))) ∧ Frm [] w w' := by
 refine jV Tryz.func128 Tryz.ntmps128 Tryz.results128 ?_
 refine jS (jR (ja rfl (jO (jN (jv1 0 ?_)))))
 refine jS (jS (jR (jz 1 (jO (jN (jB ?_))))))
 refine VC.loop (σ := Nat) (fun s => [(0, .slice S n c), (3, jI1 s)]) (fun s wr => 1 ≤ s ∧ (s ≤ n ∨ s = 1) ∧ Frm [] w wr ∧ ∀ i, i + 1 < s → (l.getD i (0, 0)).1 < (l.getD (i + 1) (0, 0)).1) (fun s => n - s) 1 (js2 rfl rfl) ⟨zag _, .inr rfl, Frm.refl _ _, fun i hi => jo⟩ ?_
 rintro i wr ⟨hi1, hi, K, hlt⟩
 refine jS (jS (jR (jm rfl (jm rfl (jL rfl zl (jb rfl rfl (Bin.lssN _ _) (jO (jN (jv3 0 3 7 ?_)))))))))
 refine jD rfl (fun hc1 => ?_) fun hc1 => ?_
 ·
  obtain ⟨j, rfl⟩ : ∃ j, i = j + 1 := ⟨i - 1, jo⟩
  obtain ⟨ad, hS, -⟩ := gM (hr.frm K jp) hn hc1
  have hel : ∀ V, Frm [] wr V → ∀ k, k < n → ∀ j v, (prC (l.getD k (0, 0)))[j]? = some v → V.cell? ((ad.add (k * 2)).add j) = some v := fun V hV k hk => by
   obtain ⟨ad2, h1, h2⟩ := gM ((hr.frm K jp).frm hV jp) hn hk
   rw [hS] at h1
   cases h1
   exact h2
  rw [hS]
  refine jQ (jN (jv2 0 3 ?_))
  refine jS (jB (jS ?_))
  refine VC.still jK jK ?_
  refine qM ?_
  refine qM ?_
  refine qE (Run.bin rfl rfl (Bin.sub_i64 _ 1 jo jo)) ?_
  rw [show j + 1 - 1 = j by omega]
  refine qE (Run.indexS _ rfl rfl zl zu jo) ?_
  refine qE (Run.fieldAddr rfl zbj rfl zy jd) ?_
  refine qE (Run.load rfl zai (hel _ (qP.drew _).frm j jo 0 _ rfl)) ?_
  refine qM ?_
  refine qM ?_
  refine qE (Run.indexS _ rfl rfl zl zu jo) ?_
  refine qE (Run.fieldAddr rfl zbj rfl zy jd) ?_
  refine qE (Run.load rfl zai (hel _ (qP.drew _).frm (j + 1) jo 0 _ rfl)) ?_
  refine qE (Run.bin rfl rfl (Bin.geqN _ _)) ?_
  refine bJ.nil ?_
  refine jN (jv3 0 3 21 ?_)
  refine jD rfl (fun hc2 => ?_) fun hc2 => ?_
  ·
   have hc2 : (l.getD (j + 1) (0, 0)).1 ≤ (l.getD j (0, 0)).1 := hc2
   rw [show decide (MayT l) = false from decide_eq_false (fun h => by have := h.1 j jo; omega)]
   refine jS (jR (ja rfl (jO (jN (jv1 2 ?_)))))
   refine jT ?_
   refine qR (qQ (qQ (qR (qQ (qS rfl ?_)))))
   exact ⟨rfl, K.drawn (qP.drew _)⟩
  have hc2 : ¬ (l.getD (j + 1) (0, 0)).1 ≤ (l.getD j (0, 0)).1 := hc2
  rw [← hS]
  refine jQ ?_
  refine qH (jN ?_)
  refine jv2 0 3 ?_
  refine jR (jm rfl (jb rfl rfl (Bin.add_i64 _ 1 jo) (ja rfl (jO ?_))))
  refine jN ⟨j + 1 + 1, (js2 rfl rfl), ?_, ?_⟩
  ·
   exact ⟨jo, .inl jo, K.drawn (qP.drew _), fun i hi => by
    by_cases h : i = j
    · subst h; omega
    exact hlt i jo⟩
  exact jq
 refine jX ?_
 refine qZ (qZ (qN ?_))
 refine jN (jv1 0 ?_)
 refine jS (jR (jm rfl (jL rfl zl (jb rfl rfl (Bin.leqN _ 600) (ja rfl (jO (jN (jv1 2 ?_))))))))
 refine jT ?_
 refine qS rfl ?_
 rw [show decide (MayT l) = decide (n ≤ 600) from by
  by_cases h : n ≤ 600
  · rw [decide_eq_true h, decide_eq_true (show MayT l from ⟨fun k hk => hlt k jo, jo⟩)]
  rw [decide_eq_false h, decide_eq_false (fun hm : MayT l => h (by have := hm.2; omega))]]
 exact ⟨rfl, K⟩
theorem pQ (S : Option Addr) (n c : Nat) (l : List Pr) (w : World) (hn : l.length = n) (hnb : n ≤ 600) (hr : Rd w 2 S n (PC2 l)) (hok : OkP l) :
  Calls Tryz.prog 60 #[.slice S n c] w fun e w' => ∃ B d, e = .returned (.slice B (bQ l).length d) ∧ Own w' 9 1 B (bQ l).length d ((bQ l).map SS) ∧ Frm [] w w' ∧ ∀ x ∈ ob B, w.heap.size ≤ x := by
 obtain ⟨kk, hkk⟩ : ∃ kk, kk = bI l.length 7 := ⟨_, rfl⟩
 have hkv : (kk = 1 ∨ 7 * kk < n + 7) ∧ n ≤ 7 * kk ∧ 1 ≤ kk ∧ kk ≤ 86 := by rw [hkk]; unfold bI; omega
 refine jV Tryz.func60 Tryz.ntmps60 Tryz.results60 ?_
 refine jS (jR (ja rfl (jO (jN (jv1 0 ?_)))))
 refine jS (jR (ja rfl (jO (jN (jS (jR (ja rfl (jO (jN (jS (jS (jR (jz 0 (jO (jN (jB ?_))))))))))))))))
 refine VC.loop (σ := Nat × Option Addr × Nat × Option Addr × Nat) (fun s => [(0, .slice S n c), (3, .slice s.2.1 s.1 s.2.2.1), (4, .slice s.2.2.2.1 s.1 s.2.2.2.2), (5, jI1 (7 * s.1))]) (fun s wr => s.1 ≤ kk ∧ Own wr 9 1 s.2.1 s.1 s.2.2.1 ((eA l s.1).map SS) ∧ Own wr 54 1 s.2.2.2.1 s.1 s.2.2.2.2 (ZU ((List.range s.1).map fun i => dJ (bD l i))) ∧ Frm [] w wr ∧ (∀ x ∈ ob s.2.1, w.heap.size ≤ x) ∧ ∀ x ∈ ob s.2.2.2.1, w.heap.size ≤ x) (fun s => kk - s.1) (0, none, 0, none, 0) (js4 rfl rfl rfl rfl) ⟨zj _, Own.nil _ _ _, Own.nil _ _ _, Frm.refl _ _, by simp [ob], by simp [ob]⟩ ?_
 rintro ⟨i, B, d, LA, ld⟩ wr ⟨hi, ho, hoL, K, hup, hupL⟩
 dsimp only at hi ho hoL hup hupL ⊢
 have ks := K.size
 refine jS (jS ?_)
 refine VC.split1 [(0, _), (3, _), (4, _), (5, _)] (js4 rfl rfl rfl rfl) 23 (.bool (decide (i < kk))) ?_ ?_
 ·
  refine jR ?_
  refine jm rfl (jb rfl rfl (Bin.eqlN _ 0) ?_)
  by_cases hs17 : 7 * i = 0
  ·
   refine jM ?_
   refine jU ?_
   refine jU ?_
   refine jU ?_
   refine jU ?_
   refine jW rfl rfl au (jO ?_)
   refine jN ⟨(js5 (jC (by first | (simp; omega) | grind)) rfl rfl rfl rfl), rfl⟩
  refine jM ?_
  refine jG ?_
  refine jG ?_
  refine jk (Run.lenS rfl zl) ?_
  refine jk (Run.bin rfl rfl (Bin.lssN _ _)) ?_
  by_cases hs22 : 7 * i < n
  ·
   refine jF rfl rfl au (jO ?_)
   refine jN ⟨(js5 (jC (by first | (simp; omega) | grind)) rfl rfl rfl rfl), rfl⟩
  refine jF rfl rfl au (jO ?_)
  refine jN ⟨(js5 (jC (by first | (simp; omega) | grind)) rfl rfl rfl rfl), rfl⟩
 intro Γ hΓ
 refine jN (VC.sub _ hΓ ?_)
 refine jD rfl (fun hc1 => ?_) fun hc1 => ?_
 ·
  obtain ⟨nn, hnn⟩ : ∃ nn, nn = (bD l i).length := ⟨_, rfl⟩
  have hnv := qKa l i
  rw [← hnn] at hnv
  have hnv : nn = if n - 7 * i < 7 then n - 7 * i else 7 := by rw [hnv, hn, show (n - 7 * i).min 7 = min (n - 7 * i) 7 from rfl, Nat.min_def]; split <;> split <;> omega
  have hn7 : nn ≤ 7 ∧ 7 * i + nn ≤ n := by rw [hnv]; split <;> omega
  have hlq : ∀ j, j < nn → (bD l i).getD j (0, 0) = l.getD (7 * i + j) (0, 0) := fun j hj => by
   unfold bD
   rw [zb, zcf jo, zdp, ← zb]
  have hel : ∀ V, Frm [] w V → ∀ k, k < n → ∃ ad, S = some ad ∧ ∀ j v, (prC (l.getD k (0, 0)))[j]? = some v → V.cell? ((ad.add (k * 2)).add j) = some v := fun V hV k hk => gM (hr.frm hV jp) hn hk
  have hokP : OkP (bD l i) := fun x hx => hok x (zau (zo hx))
  refine jQ (jN (jv4 0 3 4 5 ?_))
  refine jS (jB (jS (jR (jm rfl (jL rfl zl (jm rfl (jb rfl rfl (Bin.sub_i64 _ _ jo jo) (ja rfl (jO (jN (jv5 0 3 4 5 6 ?_)))))))))))
  refine jS (jS (jR (jm rfl (jb rfl rfl (Bin.gtrN _ 7) (jO (jN (jv6 0 3 4 5 6 31 ?_)))))))
  refine VC.meet (σ := Unit) (fun s => [(0, .slice S n c), (3, .slice B i d), (4, .slice LA i ld), (5, jI1 (7 * i)), (6, jI1 nn)]) (fun s wz => wr = wz) ?_ ?_
  ·
   refine jD rfl (fun hc2 => ?_) fun hc2 => ?_
   ·
    refine jR (jz 7 (jO ?_))
    refine jN ⟨(), (js5 rfl rfl rfl rfl (by rw [hnv, if_neg jo]; rfl)), ?_⟩
    rfl
   refine jQ ?_
   refine jN ⟨(), (js5 rfl rfl rfl rfl (by rw [hnv]; split <;> first | rfl | (rw [show n - 7 * i = 7 by omega]; rfl))), ?_⟩
   rfl
  rintro _ _ rfl Γ hΓ
  refine jN (VC.sub _ hΓ (jS (jR (jm rfl (je (Run.conv8 _ rfl zz zac) ?_)))))
  rw [show nn % 256 = nn from zdb jo]
  refine Ops.m (qV.buildS1 rfl zg zam pM jd jd rfl rfl) rfl ?_
  rintro _ w2 ⟨rfl, hF2⟩
  have hrd2 : Rd w2 1 (some ⟨wr.heap.size, 0, none⟩) 1 (NB [nn]) := Rd.of_blk (n := 1) (size := 1) hF2.blk rfl
  refine je (Run.strOf rfl zg zac zt (rdU hrd2 (by intro b hb; simp at hb; omega))) (je (Run.addO (a := [1]) (b := [nn]) rfl rfl jp) ?_)
  have K2 := K.trans hF2.frm jp
  have hh0 : nZ (bD l i) = [1, nn] ++ (bD l i).flatMap fun x => qC x.1 8 ++ qC x.2 8 := by rw [nZ, ← hnn]; rfl
  refine ja rfl (jO (jN (jv6 0 3 4 5 6 7 ?_)))
  refine jS (jS (jR (jm rfl (ja rfl (jO (jN (jv7 0 3 4 5 6 7 8 ?_)))))))
  refine jB ?_
  refine VC.loop (σ := Nat) (fun s => [(0, .slice S n c), (3, .slice B i d), (4, .slice LA i ld), (5, jI1 (7 * i)), (6, jI1 nn), (7, .string (qF ([1, nn] ++ ((bD l i).take s).flatMap fun x => qC x.1 8 ++ qC x.2 8))), (8, jI1 (7 * i + s))]) (fun s wr => s ≤ nn ∧ Frm [] w2 wr) (fun s => nn - s) 0 (js7 rfl rfl rfl rfl rfl rfl rfl) ⟨zj _, Frm.refl _ _⟩ ?_
  rintro j wj ⟨hj, Kj⟩
  have hfl := qQs ((bD l i).take j) 8
  rw [zk, ← hnn, zbh hj] at hfl
  have Kw := K2.trans Kj jp
  refine jS (jS (jR (jm rfl (jm rfl (jm rfl (jb rfl rfl (Bin.add_i64 _ _ jo) (jb rfl rfl (Bin.lssN _ _) (jO (jN (jv8 0 3 4 5 6 7 8 42 ?_))))))))))
  refine jD rfl (fun hc3 => ?_) fun hc3 => ?_
  ·
   have hjn : j < nn := jo
   obtain ⟨ad, hS, -⟩ := hel _ (Frm.refl _ _) (7 * i + j) jo
   have helk : ∀ V, Frm [] w V → ∀ q v, (prC (l.getD (7 * i + j) (0, 0)))[q]? = some v → V.cell? ((ad.add ((7 * i + j) * 2)).add q) = some v := fun V hV => by
    obtain ⟨ad2, h1, h2⟩ := hel V hV (7 * i + j) jo
    rw [hS] at h1
    cases h1
    exact h2
   have hts := eN (l := bD l i) (0, 0) (k := j) jo
   rw [hlq j hjn] at hts
   have hox := hok _ (fN (jo : 7 * i + j < l.length))
   generalize l.getD (7 * i + j) (0, 0) = x at helk hts hox
   obtain ⟨xk, xv⟩ := x
   dsimp only at hox
   rw [hS]
   refine jQ (jN (jv7 0 3 4 5 6 7 8 ?_))
   refine jS (jB ?_)
   refine VC.held (fun V => Frm [] wj V) jK ?_
   have hS0 : Frm [] wj wj.drew := (Frm.refl _ _).drew
   have hS1 := hS
   have hS := hS0
   refine jh 0 hS ?_
   refine jh 1 hS ?_
   refine jh 2 hS ?_
   refine jH 3 rfl hS (fun w0 hw0 => Run.indexS _ rfl rfl zl zu jo) ?_
   refine jH 4 rfl hS (fun w0 hw0 => Run.fieldAddr rfl zbj rfl zy jd) ?_
   refine jH 5 rfl hS (fun w0 hw0 => Run.load rfl zai (helk _ (Kw.trans hw0 jp) 0 _ rfl)) ?_
   refine jh 7 hS ?_
   refine jh 8 hS ?_
   refine jH 9 rfl hS (fun w0 hw0 => Run.indexS _ rfl rfl zl zu jo) ?_
   refine jH 10 rfl hS (fun w0 hw0 => Run.fieldAddr rfl zbj rfl zy jd) ?_
   refine jH 11 rfl hS (fun w0 hw0 => Run.load rfl zai (helk _ (Kw.trans hw0 jp) 1 _ rfl)) ?_
   refine qJ.cl 6 rfl jK (jE1 Tryz.call117) (tW xk _ hox.1) trivial rfl rfl ?_
   rintro e w5 ⟨rfl, hf5⟩
   have hS := hS.trans hf5 jp
   refine ⟨_, rfl, hS, ?_⟩
   refine qJ.cl 12 rfl jK (jE1 Tryz.call117) (tW xv _ hox.2) trivial rfl rfl ?_
   rintro e w6 ⟨rfl, hf6⟩
   have hS := hS.trans hf6 jp
   refine ⟨_, rfl, hS, ?_⟩
   refine jH 13 rfl hS (fun w0 hw0 => Run.addO rfl rfl (by first | omega | (simp only [zf, zad, zdy, numL_len]; omega))) ?_
   refine jH 14 rfl hS (fun w0 hw0 => Run.addO rfl rfl (by simp only [zf, zad, zdy, numL_len]; omega)) ?_
   rw [← hS1]
   refine jH 15 rfl hS (fun w0 hw0 => Run.asg rfl) ?_
   refine qJ.done jK ?_
   refine qH (jN ?_)
   refine jv7 0 3 4 5 6 7 8 ?_
   refine jR (jm rfl (jb rfl rfl (Bin.add_i64 _ 1 jo) (ja rfl (jO ?_))))
   refine jN ⟨j + 1, (js7 rfl rfl rfl rfl rfl (by rw [hts, zan, zaw, zek, zav]; exact congrArg (fun z => some (Value.string (qF z))) (zab _ _ _)) rfl), ?_, ?_⟩
   · exact ⟨hjn, Kj.trans hS jp⟩
   exact jq
  obtain rfl : j = nn := jo
  rw [zh (jo : (bD l i).length ≤ j), ← hh0]
  have hsn := uW l i
  have hlb := tO (bD l i)
  have hlo : (List.range (i + 1)).map (fun i => dJ (bD l i)) = (List.range i).map (fun i => dJ (bD l i)) ++ [dJ (bD l i)] := by rw [zda, zv]; rfl
  refine jX ?_
  refine qZ (qZ (qN ?_))
  refine jN (jv6 0 3 4 5 6 7 ?_)
  refine jS (jR ?_)
  refine jy .u64 0 ?_
  refine jO (jN (jS (jS (jR (jm rfl (jb rfl rfl (Bin.gtrN _ 0) (jO (jN (jv7 0 3 4 5 7 9 61 ?_)))))))))
  refine VC.meet (σ := Unit) (fun s => [(0, .slice S n c), (3, .slice B i d), (4, .slice LA i ld), (5, jI1 (7 * i)), (7, .string (qF (nZ (bD l i)))), (9, jI2 (dJ (bD l i)))]) (fun s wz => wj = wz) ?_ ?_
  ·
   refine jD rfl (fun hc4 => ?_) fun hc4 => ?_
   ·
    obtain ⟨ad, hS, helk⟩ := hel _ Kw (7 * i) jo
    have hl0 : dJ (bD l i) = (l.getD (7 * i) (0, 0)).1 := by unfold dJ; rw [hlq 0 jo]; rfl
    have hS1 := hS
    rw [hS]
    refine jR (jm rfl (jm rfl (je (Run.indexS _ rfl rfl zl zu jo) (jf rfl zbj rfl zy (jl rfl zai (helk 0 _ rfl) (ja rfl (jO ?_)))))))
    refine jN ⟨(), (js6 rfl rfl rfl rfl rfl (by rw [hl0]; rfl)), ?_⟩
    rfl
   refine jQ ?_
   refine jN ⟨(), (js6 rfl rfl rfl rfl rfl (by rw [show dJ (bD l i) = 0 by unfold dJ; rw [zca (jo : (bD l i).length = 0)]; rfl]; rfl)), ?_⟩
   rfl
  rintro _ _ rfl Γ hΓ
  have K2j := hF2.frm.trans Kj jp
  have hoL2 := hoL.frm K2j jp
  have ho2 := ho.frm K2j jp
  refine jN (VC.sub _ hΓ (jS (jR (jm rfl (jM ?_)))))
  refine Ops.m (qV.buildS1 rfl zbv zy lU jd jd rfl rfl) rfl ?_
  rintro _ w6 ⟨rfl, hF6⟩
  have hr6 : Rd w6 1 (some ⟨wj.heap.size, 0, none⟩) 1 (ZU [dJ (bD l i)]) := Rd.of_blk (n := 1) (size := 1) hF6.blk rfl
  have hoL2 := hoL2.frm hF6.frm jp
  have ho2 := ho2.frm hF6.frm jp
  have q6 := ((K.trans K2j jp).trans hF6.frm jp).size
  have hne := ho2.ne_own hoL2 jd
  refine Ops.m (qV.app rfl rfl zbv (qXc) rfl jd hoL2 hr6 (qYl _) jo jo) rfl ?_
  rintro _ w7 ⟨LB, le, rfl, hoL7, hf7, hobL⟩
  rw [← qYm, ← hlo] at hoL7
  have ho7 := ho2.frm hf7 hne
  have K7 := ((K.trans K2j jp).trans hF6.frm jp).own hf7 hupL
  have hupL7 := (Fk.of_app hf7 hobL).up hupL q6
  refine ja rfl (jO (jN (jv5 0 3 4 5 7 ?_)))
  refine jR (jm rfl (jM ?_))
  refine jc (jE1 Tryz.call118) (rT (nZ (bD l i)) w7 jo (wF jo)) ?_
  rintro e w8 ⟨rfl, hf8⟩
  refine ⟨_, rfl, ?_⟩
  rw [show dR (nZ (bD l i)) = pC (bD l i) from rfl]
  refine Ops.m (qV.buildS1 rfl zar zbm qQ4 jd jd rfl rfl) rfl ?_
  rintro _ w9 ⟨rfl, hF9⟩
  have hr9 : Rd w9 1 (some ⟨w8.heap.size, 0, none⟩) 1 ([pC (bD l i)].map SS) := Rd.of_blk (n := 1) (size := 1) hF9.blk rfl
  have k79 : Frm [] w7 w9 := hf8.trans hF9.frm jp
  have ho9 := ho7.frm k79 jp
  have hoL9 := hoL7.frm k79 jp
  have K9 := K7.trans k79 jp
  have q9 := K9.size
  have hne9 := ho9.ne_own hoL9 jd
  refine Ops.m (qV.app rfl rfl zar (qQ5) rfl jd ho9 hr9 (yG _) jo jo) rfl ?_
  rintro _ w10 ⟨B10, d10, rfl, ho10, hf10, hob10⟩
  rw [← zv, ← hsn] at ho10
  have hoL10 := hoL9.frm hf10 (fun x hx h => hne9 x h hx)
  have hup10 := (Fk.of_app hf10 hob10).up hup q9
  refine ja rfl (jO ?_)
  refine qH (jN ?_)
  refine jv4 0 3 4 5 ?_
  refine jR (jm rfl (jb rfl rfl (Bin.add_i64 _ 7 jo) (ja rfl (jO ?_))))
  refine jN ⟨(i + 1, B10, d10, LB, le), (js4 rfl rfl rfl rfl), ?_, ?_⟩
  · exact ⟨hc1, ho10, hoL10, K9.own hf10 hup, hup10, hupL7⟩
  exact jq
 obtain rfl : i = kk := jo
 have hst : upM (eA l i) (lvl ((List.range i).map fun i => dJ (bD l i)) 0) = bQ l := by rw [← qG0, hkk]; rfl
 have hls0 : ∀ v ∈ (List.range i).map (fun i => dJ (bD l i)), v < 18446744073709551616 := fun v hv => by
  obtain ⟨q, _, rfl⟩ := List.mem_map.1 hv
  unfold dJ
  cases hc : bD l q with
  | nil => exact (by decide : (0 : Nat) < 18446744073709551616)
  | cons y r => exact (hok y (zau (zo (show y ∈ (l.drop (7 * q)).take 7 by rw [show (l.drop (7 * q)).take 7 = bD l q from rfl, hc]; exact zcl)))).1
 have htl := fH l
 have hpl : cK l.length ≤ 200 := by
  have h1 := vV _ _ (zag (bI l.length 7))
  unfold cK
  rw [← hkk] at h1 ⊢
  omega
 refine jX ?_
 refine qZ (qZ (qN ?_))
 refine jN (jv2 3 4 ?_)
 refine jS (jR (jz 0 (jO (jN (jS (jB ?_))))))
 refine VC.loop (σ := List (List Nat) × List Nat × Nat × Option Addr × Nat × Option Addr × Nat) (fun s => [(3, .slice s.2.2.2.1 s.1.length s.2.2.2.2.1), (4, .slice s.2.2.2.2.2.1 s.2.1.length s.2.2.2.2.2.2), (10, jI1 s.2.2.1)]) (fun s wr => (s.2.1.length = s.1.length ∧ s.2.2.1 < s.1.length) ∧ upM s.1 (lvl s.2.1 s.2.2.1) = bQ l ∧ Own wr 9 1 s.2.2.2.1 s.1.length s.2.2.2.2.1 (s.1.map SS) ∧ Own wr 54 1 s.2.2.2.2.2.1 s.2.1.length s.2.2.2.2.2.2 (ZU s.2.1) ∧ (∀ v ∈ s.2.1, v < 18446744073709551616) ∧ Frm [] w wr ∧ (∀ x ∈ ob s.2.2.2.1, w.heap.size ≤ x) ∧ ∀ x ∈ ob s.2.2.2.2.2.1, w.heap.size ≤ x) (fun s => s.2.1.length - s.2.2.1) (eA l i, (List.range i).map (fun i => dJ (bD l i)), 0, B, d, LA, ld) (js3 (by rw [gY]; rfl) (by rw [zae, zdd]; rfl) rfl) ⟨⟨by simp [gY], by show 0 < (eA l i).length; rw [gY]; omega⟩, hst, by dsimp only; rw [gY]; exact ho, by dsimp only; rw [zae, zdd]; exact hoL, hls0, K, hup, hupL⟩ ?_
 rintro ⟨O, LS, fr, B, d, LA, ld⟩ wr ⟨⟨hll, hfr⟩, hst, ho, hoL, hls, K, hup, hupL⟩
 dsimp only at hll hfr hst ho hoL hls hup hupL ⊢
 have ks := K.size
 obtain ⟨lv, hlv⟩ : ∃ lv, lv = lvl LS fr := ⟨_, rfl⟩
 have hlvl : lv.length = O.length - fr := by rw [hlv, qMd, hll]
 have hsz := qJ4 _ O lv rfl jo
 rw [hlv, hst, ← hlv, htl] at hsz
 have hO2 : O.length ≤ 400 := by
  have h1 := vV _ _ (zag lv.length)
  have h2 : 1 ≤ lv.length := jo
  have h3 : lv.length ≤ lF lv.length := by rw [lF]; split <;> omega
  omega
 refine jS (jS (jR (jm rfl (jL rfl zar (jm rfl (jb rfl rfl (Bin.sub_i64 _ _ jo jo) (jb rfl rfl (Bin.gtrN _ 1) (jO (jN (jv4 3 4 10 80 ?_))))))))))
 refine jD rfl (fun hc5 => ?_) fun hc5 => ?_
 ·
  have hl1 : 1 < lv.length := jo
  have hus := qG1 (O := O) hl1
  obtain ⟨cs, hcs⟩ : ∃ cs, cs = eV lv := ⟨_, rfl⟩
  have hcl : cs.length = (lv.length + 11) / 12 := by rw [hcs]; exact eU lv
  have hcg : ∀ t, t < cs.length → cs.getD t [] = (lv.drop (12 * t)).take 12 := fun t ht => by rw [hcs] at ht ⊢; exact qYk ht
  rw [← hcs] at hus
  have hh0 : ∀ t, (gQ (cs.take t)).length = (cs.take t).length := fun t => by simp [gQ]
  refine jQ (jN (jv3 3 4 10 ?_))
  refine jB (jS (jR (jm rfl (jL rfl zar (ja rfl (jO (jN (jv4 3 4 10 11 ?_))))))))
  refine jS (jS (jR (jm rfl (ja rfl (jO (jN (jv4 3 4 11 12 ?_)))))))
  refine jB ?_
  refine VC.loop (σ := Nat × Option Addr × Nat × Option Addr × Nat) (fun s => [(3, .slice s.2.1 (O.length + s.1) s.2.2.1), (4, .slice s.2.2.2.1 (LS.length + s.1) s.2.2.2.2), (11, jI1 O.length), (12, jI1 (fr + 12 * s.1))]) (fun s wr => s.1 ≤ cs.length ∧ Own wr 9 1 s.2.1 (O.length + s.1) s.2.2.1 ((O ++ (cs.take s.1).map gO).map SS) ∧ Own wr 54 1 s.2.2.2.1 (LS.length + s.1) s.2.2.2.2 (ZU (LS ++ gQ (cs.take s.1))) ∧ Frm [] w wr ∧ (∀ x ∈ ob s.2.1, w.heap.size ≤ x) ∧ ∀ x ∈ ob s.2.2.2.1, w.heap.size ≤ x) (fun s => cs.length - s.1) (0, B, d, LA, ld) (js4 rfl rfl rfl rfl) ⟨zj _, by simpa [gQ] using ho, by simpa [gQ] using hoL, K, hup, hupL⟩ ?_
  rintro ⟨t, B, d, LA, ld⟩ wt ⟨ht, ho, hoL, K, hup, hupL⟩
  dsimp only at ht ho hoL hup hupL ⊢
  have ks := K.size
  refine jS (jS (jR (jm rfl (jm rfl (jb rfl rfl (Bin.lssN _ _) (jO (jN (jv5 3 4 11 12 86 ?_))))))))
  refine jD rfl (fun hc6 => ?_) fun hc6 => ?_
  ·
   have htc : t < cs.length := jo
   have hct := hcg t htc
   obtain ⟨cc, hcc⟩ : ∃ cc, cc = cs.getD t [] := ⟨_, rfl⟩
   rw [← hcc] at hct
   have hccl : cc.length = if O.length - (fr + 12 * t) < 12 then O.length - (fr + 12 * t) else 12 := by
    rw [hct, zk, zq, hlvl, Nat.min_def]
    split <;> split <;> omega
   have hc12 : cc.length ≤ 12 ∧ 1 ≤ cc.length ∧ fr + 12 * t + cc.length ≤ O.length := by rw [hccl]; split <;> omega
   have hcq : ∀ j, j < cc.length → cc.getD j (0, 0) = (LS.getD (fr + 12 * t + j) 0, fr + 12 * t + j) := fun j hj => by
    have h1 : cc.getD j (0, 0) = lv.getD (12 * t + j) (0, 0) := by
     rw [hct, zb, zcf jo, zdp, ← zb]
    rw [h1, hlv, qYj jo, show fr + (12 * t + j) = fr + 12 * t + j by omega]
   have htk := eN (l := cs) [] (k := t) htc
   rw [← hcc] at htk
   obtain ⟨nn, hnn⟩ : ∃ nn, nn = cc.length := ⟨_, rfl⟩
   rw [← hnn] at hccl hc12 hcq
   have helL : ∀ V, Frm [] wt V → ∀ q, q < LS.length → ∃ ad, LA = some ad ∧ V.cell? (ad.add q) = some (jI2 (LS.getD q 0)) := fun V hV q hq => by
    obtain ⟨ad, h1, h2⟩ := rdZU (hoL.frm hV jp).rd (by rw [zf, hh0, zk]; omega) (jo : q < LS.length + t)
    have h3 : (LS ++ gQ (cs.take t)).getD q 0 = LS.getD q 0 := by rw [zb, zdl hq, ← zb]
    rw [h3] at h2
    exact ⟨ad, h1, h2⟩
   have hlsq : ∀ q, q < LS.length → LS.getD q 0 < 18446744073709551616 := fun q hq => hls _ (bG hq)
   refine jQ (jN (jv4 3 4 11 12 ?_))
   refine jS (jB (jS (jR (jm rfl (jm rfl (jb rfl rfl (Bin.sub_i64 _ _ jo jo) (ja rfl (jO (jN (jv5 3 4 11 12 13 ?_))))))))))
   refine jS (jS (jR (jm rfl (jb rfl rfl (Bin.gtrN _ 12) (jO (jN (jv6 3 4 11 12 13 93 ?_)))))))
   refine VC.meet (σ := Unit) (fun s => [(3, .slice B (O.length + t) d), (4, .slice LA (LS.length + t) ld), (11, jI1 O.length), (12, jI1 (fr + 12 * t)), (13, jI1 nn)]) (fun s wz => wt = wz) ?_ ?_
   ·
    refine jD rfl (fun hc7 => ?_) fun hc7 => ?_
    ·
     refine jR (jz 12 (jO ?_))
     refine jN ⟨(), (js5 rfl rfl rfl rfl (by rw [hccl, if_neg jo]; rfl)), ?_⟩
     rfl
    refine jQ ?_
    refine jN ⟨(), (js5 rfl rfl rfl rfl (by rw [hccl]; split <;> first | rfl | (rw [show O.length - (fr + 12 * t) = 12 by omega]; rfl))), ?_⟩
    rfl
   rintro _ _ rfl Γ hΓ
   refine jN (VC.sub _ hΓ (jS (jR (jm rfl (je (Run.conv8 _ rfl zz zac) ?_)))))
   rw [show nn % 256 = nn from zdb jo]
   refine Ops.m (qV.buildS1 rfl zg zam pM jd jd rfl rfl) rfl ?_
   rintro _ w2 ⟨rfl, hF2⟩
   have hrd2 : Rd w2 1 (some ⟨wt.heap.size, 0, none⟩) 1 (NB [nn]) := Rd.of_blk (n := 1) (size := 1) hF2.blk rfl
   refine je (Run.strOf rfl zg zac zt (rdU hrd2 (by intro b hb; simp at hb; omega))) (je (Run.addO (a := [2]) (b := [nn]) rfl rfl jp) ?_)
   have hhI : sF cc = [2, nn] ++ cc.flatMap fun x => qC x.1 8 ++ qC x.2 2 := by rw [sF, ← hnn]; rfl
   refine ja rfl (jO (jN (jv6 3 4 11 12 13 14 ?_)))
   refine jS (jS (jR (jm rfl (ja rfl (jO (jN (jv7 3 4 11 12 13 14 15 ?_)))))))
   refine jB ?_
   refine VC.loop (σ := Nat) (fun s => [(3, .slice B (O.length + t) d), (4, .slice LA (LS.length + t) ld), (11, jI1 O.length), (12, jI1 (fr + 12 * t)), (13, jI1 nn), (14, .string (qF ([2, nn] ++ (cc.take s).flatMap fun x => qC x.1 8 ++ qC x.2 2))), (15, jI1 (fr + 12 * t + s))]) (fun s wr => s ≤ nn ∧ Frm [] wt wr) (fun s => nn - s) 0 (js7 rfl rfl rfl rfl rfl rfl rfl) ⟨zj _, hF2.frm⟩ ?_
   rintro j wj ⟨hj, Kj⟩
   have hfl : ((cc.take j).flatMap fun x => qC x.1 8 ++ qC x.2 2).length = (8 + 2) * (cc.take j).length := qQs (cc.take j) 2
   rw [zk, ← hnn, zbh hj] at hfl
   refine jS (jS (jR (jm rfl (jm rfl (jm rfl (jb rfl rfl (Bin.add_i64 _ _ jo) (jb rfl rfl (Bin.lssN _ _) (jO (jN (jv8 3 4 11 12 13 14 15 104 ?_))))))))))
   refine jD rfl (fun hc8 => ?_) fun hc8 => ?_
   ·
    have hjn : j < nn := jo
    obtain ⟨ad, hLA, hcL⟩ := helL _ Kj (fr + 12 * t + j) jo
    have hts := eN (l := cc) (0, 0) (k := j) jo
    rw [hcq j hjn] at hts
    have hlv64 := hlsq (fr + 12 * t + j) jo
    have hLA1 := hLA
    rw [hLA]
    refine jQ (jN (jv7 3 4 11 12 13 14 15 ?_))
    refine jS (jB (jR (jm rfl (jm rfl (jm rfl (je (Run.index1 _ rfl rfl zbv zy jo) (jl rfl zai hcL ?_)))))))
    refine jc (jE1 Tryz.call117) (tW _ wj hlv64) ?_
    rintro e w5 ⟨rfl, hf5⟩
    refine ⟨_, rfl, ?_⟩
    refine jm rfl (je (Run.convN _ rfl zz zr (by simp only [bmax]; omega)) ?_)
    refine jc (jE2 zgm) (kQ (fr + 12 * t + j) 2 _ jo jo jo) ?_
    rintro e w6 ⟨rfl, hf6⟩
    refine ⟨_, rfl, ?_⟩
    refine je (Run.addO rfl rfl (by first | omega | (simp only [zf, zad, zdy, numL_len]; omega))) (je (Run.addO rfl rfl (by simp only [zf, zad, zdy, numL_len]; omega)) ?_)
    rw [← hLA1]
    refine ja rfl (jO ?_)
    refine qH (jN ?_)
    refine jv7 3 4 11 12 13 14 15 ?_
    refine jR (jm rfl (jb rfl rfl (Bin.add_i64 _ 1 jo) (ja rfl (jO ?_))))
    refine jN ⟨j + 1, (js7 rfl rfl rfl rfl rfl (by rw [hts, zan, zaw, zek, zav]; exact congrArg (fun z => some (Value.string (qF z))) (zab _ _ _)) rfl), ?_, ?_⟩
    · exact ⟨hjn, (Kj.trans hf5 jp).trans hf6 jp⟩
    exact jq
   obtain rfl : j = nn := jo
   rw [zh (jo : cc.length ≤ j), ← hhI]
   have hib := wD cc
   obtain ⟨ad, hLA, hcL⟩ := helL _ Kj (fr + 12 * t) jo
   have hc0 : (cc.getD 0 (0, 0)).1 = LS.getD (fr + 12 * t) 0 := by rw [hcq 0 jo]; rfl
   have hLA1 := hLA
   have hoL2 := hoL.frm Kj jp
   have ho2 := ho.frm Kj jp
   have hhs : gQ (cs.take (t + 1)) = gQ (cs.take t) ++ [(cc.getD 0 (0, 0)).1] := by rw [htk, gQ, gQ, zv]; rfl
   rw [hLA]
   refine jX ?_
   refine qZ (qZ (qN ?_))
   refine jN (jv5 3 4 11 12 14 ?_)
   refine jS (jR (jm rfl (jm rfl (jm rfl (je (Run.index1 _ rfl rfl zbv zy jo) (jl rfl zai hcL ?_))))))
   rw [← hLA1]
   refine Ops.m (qV.buildS1 rfl zbv zy lU jd jd rfl rfl) rfl ?_
   rintro _ w6 ⟨rfl, hF6⟩
   have hr6 : Rd w6 1 (some ⟨wj.heap.size, 0, none⟩) 1 (ZU [(cc.getD 0 (0, 0)).1]) := by rw [hc0]; exact Rd.of_blk (n := 1) (size := 1) hF6.blk rfl
   have hoL2 := hoL2.frm hF6.frm jp
   have ho2 := ho2.frm hF6.frm jp
   have q6 := ((K.trans Kj jp).trans hF6.frm jp).size
   have hne := ho2.ne_own hoL2 jd
   refine Ops.m (qV.app rfl rfl zbv (qXc) rfl jd hoL2 hr6 (qYl _) jo jo) rfl ?_
   rintro _ w7 ⟨LB, le, rfl, hoL7, hf7, hobL⟩
   rw [← qYm, zab, ← hhs] at hoL7
   have ho7 := ho2.frm hf7 hne
   have K7 := ((K.trans Kj jp).trans hF6.frm jp).own hf7 hupL
   have hupL7 := (Fk.of_app hf7 hobL).up hupL q6
   refine ja rfl (jO (jN (jv5 3 4 11 12 14 ?_)))
   refine jR (jm rfl (jM ?_))
   refine jc (jE1 Tryz.call118) (rT (sF cc) w7 jo (yI jo)) ?_
   rintro e w8 ⟨rfl, hf8⟩
   refine ⟨_, rfl, ?_⟩
   rw [show dR (sF cc) = gO cc from rfl]
   refine Ops.m (qV.buildS1 rfl zar zbm qQ4 jd jd rfl rfl) rfl ?_
   rintro _ w9 ⟨rfl, hF9⟩
   have hr9 : Rd w9 1 (some ⟨w8.heap.size, 0, none⟩) 1 ([gO cc].map SS) := Rd.of_blk (n := 1) (size := 1) hF9.blk rfl
   have k79 : Frm [] w7 w9 := hf8.trans hF9.frm jp
   have ho9 := ho7.frm k79 jp
   have hoL9 := hoL7.frm k79 jp
   have K9 := K7.trans k79 jp
   have q9 := K9.size
   have hne9 := ho9.ne_own hoL9 jd
   refine Ops.m (qV.app rfl rfl zar (qQ5) rfl jd ho9 hr9 (yG _) jo jo) rfl ?_
   rintro _ w10 ⟨B10, d10, rfl, ho10, hf10, hob10⟩
   have e10 : (O ++ (cs.take t).map gO).map SS ++ [gO cc].map SS = (O ++ (cs.take (t + 1)).map gO).map SS := by
    rw [htk]
    simp only [zv, zab, zbo, zge]
   rw [e10] at ho10
   have hoL10 := hoL9.frm hf10 (fun x hx h => hne9 x h hx)
   have hup10 := (Fk.of_app hf10 hob10).up hup q9
   refine ja rfl (jO ?_)
   refine qH (jN ?_)
   refine jv4 3 4 11 12 ?_
   refine jR (jm rfl (jb rfl rfl (Bin.add_i64 _ 12 jo) (ja rfl (jO ?_))))
   refine jN ⟨(t + 1, B10, d10, LB, le), (js4 rfl rfl rfl rfl), ?_, ?_⟩
   · exact ⟨htc, ho10, hoL10, K9.own hf10 hup, hup10, hupL7⟩
   exact jq
  obtain rfl : t = cs.length := jo
  rw [zbw] at ho hoL
  have hO9 : (O ++ cs.map gO).length = O.length + cs.length := by rw [zf, zae]
  have hL9 : (LS ++ gQ cs).length = LS.length + cs.length := by rw [zf]; simp [gQ]
  refine jX ?_
  refine qZ (qZ (qN ?_))
  refine jN (jv3 3 4 11 ?_)
  refine jR (jm rfl (ja rfl (jO ?_)))
  refine qH (jN ⟨(O ++ cs.map gO, LS ++ gQ cs, O.length, B, d, LA, ld), (js3 (by rw [hO9]; rfl) (by rw [hL9]; rfl) rfl), ?_, ?_⟩)
  ·
   exact ⟨⟨by dsimp only; omega, by dsimp only; omega⟩, by
    dsimp only
    rw [← hll, qGz, hll, ← hus, hlv]
    exact hst, by dsimp only; rw [hO9]; exact ho, by dsimp only; rw [hL9]; exact hoL, fun v hv => by
    rcases zcp.1 hv with hv | hv
    · exact hls v hv
    obtain ⟨c, hc, rfl⟩ := List.mem_map.1 hv
    obtain ⟨q, hq, rfl⟩ := zcw hc
    have h1 := hcg q hq
    rw [zb, ze hq] at h1
    have h1 : cs[q] = (lv.drop (12 * q)).take 12 := h1
    rw [h1, zb, zcf jo, zdp, ← zb, hlv, qYj jo]
    exact hls _ (bG jo), K, hup, hupL⟩
  dsimp only; omega
 refine jX ?_
 refine qZ (qZ (qN ?_))
 refine jN (jv1 3 ?_)
 refine jS (jR (jm rfl (ja rfl (jO (jN (jv1 2 ?_))))))
 refine jT ?_
 refine qS rfl ?_
 have hsu : upM O lv = O := by rw [upM, dif_pos jo]
 rw [← hlv, hsu] at hst
 rw [← hst]
 exact ⟨B, d, rfl, ho, K, hup⟩
theorem qZp {a b : List (List Nat)} (hl : a.length = b.length) : a = b ↔ ∀ i, i < b.length → a.getD i [] = b.getD i [] := by
 constructor
 · rintro rfl i _; rfl
 intro h
 refine zew hl fun i h1 h2 => ?_
 have := h i h2
 rw [zb, ze h1, zb, ze h2] at this
 exact this
theorem zM {l : List (List Nat)} {k : Nat} (h : k < l.length) : l.getD k [] ∈ l := by
 rw [zb, ze h]
 exact zbp h
theorem qZq {b : List Nat} (h : eC b) : (dF b).length ≤ 7 := by
 unfold dF
 split
 · simp
 next h2 =>
 rw [zae, zdd]
 rcases h.2.1 with h3 | h3
 · exact absurd h3.1 h2
 exact h3.2
theorem yP (k : Nat) (w : World) : Calls Tryz.prog 152 #[.int .u8 ((k : Nat) : Int)] w fun e w' => e = .returned (jI1 (if k = 1 then 16 else if k = 2 then 10 else 0)) ∧ w = w' := by
 refine jV Tryz.func152 Tryz.ntmps152 Tryz.results152 ?_
 refine jS (jR (jz 0 (jO (jN (jv1 0 ?_)))))
 refine jS (jS (jR (jm rfl (jb rfl rfl (Bin.eqlN _ 1) (jO (jN (jv2 0 4 ?_)))))))
 refine jD rfl (fun hc1 => ?_) fun hc1 => ?_
 ·
  refine jS (jR (jz 16 (jO (jN (jv1 2 ?_)))))
  refine jT ?_
  refine qQ (qS rfl ?_)
  rw [if_pos hc1]
  exact ⟨rfl, rfl⟩
 refine jQ (jN (jv1 0 ?_))
 refine jS (jS (jR (jm rfl (jb rfl rfl (Bin.eqlN _ 2) (jO (jN (jv1 6 ?_)))))))
 refine jD rfl (fun hc2 => ?_) fun hc2 => ?_
 ·
  refine jS (jR (jz 10 (jO (jN (jv1 2 ?_)))))
  refine jT ?_
  refine qQ (qS rfl ?_)
  rw [if_neg hc1, if_pos hc2]
  exact ⟨rfl, rfl⟩
 refine jQ (jN ?_)
 refine VC.sub [] .nil ?_
 refine jS (jR (jz 0 (jO (jN (jT ?_)))))
 refine qS rfl ?_
 rw [if_neg hc1, if_neg hc2]
 exact ⟨rfl, rfl⟩
theorem qQt (s : List Nat) (a : Nat) (w : World) (hB : ∀ b ∈ s, b < 256) (hl : s.length ≤ 1000000000) (h : a + 8 ≤ s.length) : Calls Tryz.prog 153 #[.string (qF s), jI1 a] w fun e w' => e = .returned (jI2 (dK s a)) ∧ w = w' := by
 refine jV Tryz.func153 Tryz.ntmps153 Tryz.results153 ?_
 refine jS (jR ?_)
 refine jy .u64 0 ?_
 refine jO (jN (jv2 0 1 ?_))
 refine jS (jR (jm rfl (jM ?_)))
 refine jc0 (jE3 Tryz.call84) (lP s a 8 w hB hl jo jo h) ?_
 refine jm rfl (jY rfl rfl (jY rfl rfl (ja rfl (ja rfl (jO (jN (jv1 5 ?_)))))))
 refine jS (jR (jm rfl (ja rfl (jO (jN (jv1 4 ?_))))))
 refine jT ?_
 refine qS rfl ?_
 exact ⟨rfl, rfl⟩
theorem qG2 (b : List Nat) (w : World) (hl : b.length = 128) (hB : ∀ x ∈ b, x < 256) : Calls Tryz.prog 126 #[.string (qF b)] w fun e w' => e = .returned (.bool (decide (eC b))) ∧ Frm [] w w' := by
 obtain ⟨k0, hk0⟩ : ∃ k0, k0 = b.getD 0 0 := ⟨_, rfl⟩
 obtain ⟨k1, hk1⟩ : ∃ k1, k1 = b.getD 1 0 := ⟨_, rfl⟩
 have hb1 : k1 < 256 := by rw [hk1, zb, ze jo]; exact hB _ (zbp jo)
 have hpe : eC b ↔ ((k0 = 2 ∧ k1 ≤ 12 ∧ k1 ≠ 0) ∨ (k0 = 1 ∧ k1 ≤ 7)) ∧ dR (b.take (2 + pD k0 * k1)) = b := by
  unfold eC
  rw [← hk0, ← hk1]
  exact ⟨fun h => h.2, fun h => ⟨hl, h⟩⟩
 refine jV Tryz.func126 Tryz.ntmps126 Tryz.results126 ?_
 refine jS (jR (ja rfl (jO (jN (jv1 0 ?_)))))
 refine jS (jS ?_)
 refine VC.split1 [(0, _)] (js1 rfl) 36 (.bool (decide (¬ ((k0 = 2 ∧ k1 ≤ 12 ∧ k1 ≠ 0) ∨ (k0 = 1 ∧ k1 ≤ 7))))) ?_ ?_
 ·
  refine jR ?_
  refine jm rfl (je (Run.lenO rfl zt) (jb rfl rfl (Bin.neqN _ 128) ?_))
  by_cases hs5 : ¬ b.length = 128
  ·
   refine jM ?_
   refine jU ?_
   refine jU ?_
   refine jU ?_
   refine jU ?_
   refine jW rfl rfl au (jM ?_)
   refine jU ?_
   refine jU ?_
   refine jU ?_
   refine jU ?_
   refine Ops.skU rfl rfl ?_
   refine Ops.skU rfl rfl ?_
   refine Ops.skU rfl rfl ?_
   refine jU ?_
   refine jW rfl rfl au (jM ?_)
   refine jU ?_
   refine jU ?_
   refine jU ?_
   refine jU ?_
   refine Ops.skU rfl rfl ?_
   refine Ops.skU rfl rfl ?_
   refine Ops.skU rfl rfl ?_
   refine Ops.skU rfl rfl ?_
   refine Ops.skU rfl rfl ?_
   refine Ops.skU rfl rfl ?_
   refine Ops.skU rfl rfl ?_
   refine Ops.skU rfl rfl ?_
   refine jU ?_
   refine jW rfl rfl au (jO ?_)
   refine jN ⟨(js2 (jC (by grind)) rfl), rfl⟩
  refine jM ?_
  refine jG ?_
  refine jk (Run.indexO 0 rfl rfl zt jo hB) ?_
  rw [← hk0]
  refine Ops.clg rfl au (jE1 Tryz.call152) (yP k0 w) rfl ?_
  rintro e _ ⟨rfl, rfl⟩
  refine ⟨_, rfl, ?_⟩
  refine jk (Run.bin rfl rfl (Bin.eqlN _ 0)) ?_
  by_cases hs10 : (if k0 = 1 then 16 else if k0 = 2 then 10 else 0) = 0
  ·
   refine jF rfl rfl au (jM ?_)
   refine jU ?_
   refine jU ?_
   refine jU ?_
   refine jU ?_
   refine Ops.skU rfl rfl ?_
   refine Ops.skU rfl rfl ?_
   refine Ops.skU rfl rfl ?_
   refine jU ?_
   refine jW rfl rfl au (jM ?_)
   refine jU ?_
   refine jU ?_
   refine jU ?_
   refine jU ?_
   refine Ops.skU rfl rfl ?_
   refine Ops.skU rfl rfl ?_
   refine Ops.skU rfl rfl ?_
   refine Ops.skU rfl rfl ?_
   refine Ops.skU rfl rfl ?_
   refine Ops.skU rfl rfl ?_
   refine Ops.skU rfl rfl ?_
   refine Ops.skU rfl rfl ?_
   refine jU ?_
   refine jW rfl rfl au (jO ?_)
   refine jN ⟨(js2 (jC (by grind)) rfl), rfl⟩
  refine jF rfl rfl au (jM ?_)
  refine jG ?_
  refine jk (Run.indexO 0 rfl rfl zt jo hB) ?_
  rw [← hk0]
  refine jk (Run.bin rfl rfl (Bin.eqlN _ 1)) ?_
  by_cases hs15 : k0 = 1
  ·
   refine jG ?_
   refine jG ?_
   refine jk (Run.indexO 1 rfl rfl zt jo hB) ?_
   rw [← hk1]
   refine jk (Run.bin rfl rfl (Bin.gtrN _ 7)) ?_
   by_cases hs19 : 7 < k1
   ·
    refine jk (Run.pickT rfl rfl au) ?_
    refine jF rfl rfl au (jM ?_)
    refine jU ?_
    refine jU ?_
    refine jU ?_
    refine jU ?_
    refine Ops.skU rfl rfl ?_
    refine Ops.skU rfl rfl ?_
    refine Ops.skU rfl rfl ?_
    refine Ops.skU rfl rfl ?_
    refine Ops.skU rfl rfl ?_
    refine Ops.skU rfl rfl ?_
    refine Ops.skU rfl rfl ?_
    refine Ops.skU rfl rfl ?_
    refine jU ?_
    refine jW rfl rfl au (jO ?_)
    refine jN ⟨(js2 (jC (by grind)) rfl), rfl⟩
   refine jk (Run.pickT rfl rfl au) ?_
   refine jF rfl rfl au (jM ?_)
   refine jG ?_
   refine jk (Run.indexO 0 rfl rfl zt jo hB) ?_
   rw [← hk0]
   refine jk (Run.bin rfl rfl (Bin.eqlN _ 2)) ?_
   by_cases hs25 : k0 = 2
   ·
    refine jG ?_
    refine jG ?_
    refine jk (Run.indexO 1 rfl rfl zt jo hB) ?_
    rw [← hk1]
    refine jk (Run.bin rfl rfl (Bin.gtrN _ 12)) ?_
    by_cases hs29 : 12 < k1
    ·
     refine jG ?_
     refine jU ?_
     refine jU ?_
     refine jU ?_
     refine jk (Run.pickT rfl rfl au) ?_
     refine jk (Run.pickT rfl rfl au) ?_
     refine jF rfl rfl au (jO ?_)
     refine jN ⟨(js2 (jC (by grind)) rfl), rfl⟩
    refine jG ?_
    refine jG ?_
    refine jk (Run.indexO 1 rfl rfl zt jo hB) ?_
    rw [← hk1]
    refine jk (Run.bin rfl rfl (Bin.eqlN _ 0)) ?_
    by_cases hs33 : k1 = 0
    ·
     refine jk (Run.pickF rfl rfl au) ?_
     refine jk (Run.pickT rfl rfl au) ?_
     refine jF rfl rfl au (jO ?_)
     refine jN ⟨(js2 (jC (by grind)) rfl), rfl⟩
    refine jk (Run.pickF rfl rfl au) ?_
    refine jk (Run.pickT rfl rfl au) ?_
    refine jF rfl rfl au (jO ?_)
    refine jN ⟨(js2 (jC (by grind)) rfl), rfl⟩
   refine jG ?_
   refine jU ?_
   refine jU ?_
   refine jU ?_
   refine jU ?_
   refine Ops.skU rfl rfl ?_
   refine Ops.skU rfl rfl ?_
   refine Ops.skU rfl rfl ?_
   refine jU ?_
   refine jk (Run.pickF rfl rfl au) ?_
   refine jF rfl rfl au (jO ?_)
   refine jN ⟨(js2 (jC (by grind)) rfl), rfl⟩
  refine jG ?_
  refine jU ?_
  refine jU ?_
  refine jU ?_
  refine jk (Run.pickF rfl rfl au) ?_
  refine jF rfl rfl au (jM ?_)
  refine jG ?_
  refine jk (Run.indexO 0 rfl rfl zt jo hB) ?_
  rw [← hk0]
  refine jk (Run.bin rfl rfl (Bin.eqlN _ 2)) ?_
  by_cases hs25 : k0 = 2
  ·
   refine jG ?_
   refine jG ?_
   refine jk (Run.indexO 1 rfl rfl zt jo hB) ?_
   rw [← hk1]
   refine jk (Run.bin rfl rfl (Bin.gtrN _ 12)) ?_
   by_cases hs29 : 12 < k1
   ·
    refine jG ?_
    refine jU ?_
    refine jU ?_
    refine jU ?_
    refine jk (Run.pickT rfl rfl au) ?_
    refine jk (Run.pickT rfl rfl au) ?_
    refine jF rfl rfl au (jO ?_)
    refine jN ⟨(js2 (jC (by grind)) rfl), rfl⟩
   refine jG ?_
   refine jG ?_
   refine jk (Run.indexO 1 rfl rfl zt jo hB) ?_
   rw [← hk1]
   refine jk (Run.bin rfl rfl (Bin.eqlN _ 0)) ?_
   by_cases hs33 : k1 = 0
   ·
    refine jk (Run.pickF rfl rfl au) ?_
    refine jk (Run.pickT rfl rfl au) ?_
    refine jF rfl rfl au (jO ?_)
    refine jN ⟨(js2 (jC (by grind)) rfl), rfl⟩
   refine jk (Run.pickF rfl rfl au) ?_
   refine jk (Run.pickT rfl rfl au) ?_
   refine jF rfl rfl au (jO ?_)
   refine jN ⟨(js2 (jC (by grind)) rfl), rfl⟩
  refine jG ?_
  refine jU ?_
  refine jU ?_
  refine jU ?_
  refine jU ?_
  refine Ops.skU rfl rfl ?_
  refine Ops.skU rfl rfl ?_
  refine Ops.skU rfl rfl ?_
  refine jU ?_
  refine jk (Run.pickF rfl rfl au) ?_
  refine jF rfl rfl au (jO ?_)
  refine jN ⟨(js2 (jC (by grind)) rfl), rfl⟩
 intro Γ hΓ
 refine jN (VC.sub _ hΓ ?_)
 refine jD rfl (fun hc1 => ?_) fun hc1 => ?_
 ·
  rw [show decide (eC b) = false from decide_eq_false (fun h => hc1 (hpe.1 h).1)]
  refine jS (jR (ja rfl (jO (jN (jv1 2 ?_)))))
  refine jT ?_
  refine qQ (qS rfl ?_)
  exact ⟨rfl, Frm.refl _ _⟩
 have hc1 := Classical.not_not.1 hc1
 obtain ⟨ea, hea⟩ : ∃ ea, ea = (if k0 = 1 then 16 else if k0 = 2 then 10 else 0) := ⟨_, rfl⟩
 have hee : ea = pD k0 := by
  rw [hea]
  unfold pD
  rcases hc1 with h | h
  · rw [if_neg jo, if_pos h.1, if_pos h.1]
  rw [if_pos h.1, if_neg jo]
 have hsz : ea * k1 ≤ 120 := by
  rw [hee]
  unfold pD
  rcases hc1 with h | h
  · rw [if_pos h.1]; omega
  rw [if_neg jo]; omega
 refine jQ (jN (jv1 0 ?_))
 refine jS ?_
 refine VC.held (fun V => Frm [] w V) jK ?_
 have hS : Frm [] w w.drew := (Frm.refl _ _).drew
 refine jh 0 hS ?_
 refine jh 1 hS ?_
 refine jH 2 rfl hS (fun w0 hw0 => Run.indexO 0 rfl rfl zt jo hB) ?_
 rw [← hk0]
 refine jh 4 hS ?_
 refine jH 5 rfl hS (fun w0 hw0 => Run.indexO 1 rfl rfl zt jo hB) ?_
 rw [← hk1]
 refine jH 6 rfl hS (fun w0 hw0 => Run.convN _ rfl zac zz (by simp only [bmax]; omega)) ?_
 refine jh 11 hS ?_
 refine qJ.cl 3 rfl jK (jE1 Tryz.call152) (yP k0 _) trivial rfl rfl ?_
 rintro e _ ⟨rfl, rfl⟩
 refine ⟨_, rfl, hS, ?_⟩
 rw [← hea]
 refine jH 7 rfl hS (fun w0 hw0 => Run.bin rfl rfl (Bin.mul_i64 _ _ jo)) ?_
 refine jH 8 rfl hS (fun w0 hw0 => Run.bin rfl rfl (Bin.add_i64 2 _ jo)) ?_
 refine jH 9 rfl hS (fun w0 hw0 => Run.sliceO 0 _ rfl zt evB.none_ (evB.some_ rfl) jo jo) ?_
 rw [zbz]
 refine qJ.cl 10 rfl jK (jE1 Tryz.call118) (rT (b.take (2 + ea * k1)) _ (by rw [zk]; omega) (fun x hx => hB x (zo hx))) trivial rfl rfl ?_
 rintro e w3 ⟨rfl, hf3⟩
 have hS := hS.trans hf3 jp
 refine ⟨_, rfl, hS, ?_⟩
 refine jH 12 rfl hS (fun w0 hw0 => Run.eqlO rfl rfl (fL (fun x hx => hB x (zo hx))) hB) ?_
 refine jH 13 rfl hS (fun w0 hw0 => Run.asg rfl) ?_
 refine qJ.done jK ?_
 refine jN (jv1 2 ?_)
 refine jT ?_
 refine qS rfl ?_
 rw [show decide (eC b) = decide (dR (b.take (2 + ea * k1)) = b) from by
  rw [hee]
  by_cases h : dR (b.take (2 + pD k0 * k1)) = b
  · rw [decide_eq_true h, decide_eq_true (hpe.2 ⟨hc1, h⟩)]
  rw [decide_eq_false h, decide_eq_false (fun hp => h (hpe.1 hp).2)]]
 exact ⟨rfl, (qP.drew _).frm.trans hf3 jp⟩
theorem qJr (b : List Nat) (w : World) (hp : eC b) (hB : ∀ x ∈ b, x < 256) : Calls Tryz.prog 127 #[.string (qF b)] w fun e w' => ∃ B d, e = .returned (.slice B (dF b).length d) ∧ Rd w' 2 B (dF b).length (PC2 (dF b)) ∧ Frm [] w w' ∧ ∀ x ∈ ob B, w.heap.size ≤ x := by
 have hl := hp.1
 obtain ⟨k0, hk0⟩ : ∃ k0, k0 = b.getD 0 0 := ⟨_, rfl⟩
 obtain ⟨k1, hk1⟩ : ∃ k1, k1 = b.getD 1 0 := ⟨_, rfl⟩
 have hk := hp.2.1
 rw [← hk0, ← hk1] at hk
 have hp1 : dF b = if k0 = 2 then [] else (List.range k1).map fun i => (dK b (2 + 16 * i), dK b (10 + 16 * i)) := by rw [hk0, hk1]; rfl
 have hof : ∀ a, dK b a < 18446744073709551616 := fun a => zY hB a
 refine jV Tryz.func127 Tryz.ntmps127 Tryz.results127 ?_
 refine jS (jR (ja rfl (jO (jN (jv1 0 ?_)))))
 refine jS (jR (ja rfl (jO (jN (jS (jS (jR (jz 0 (jO (jN (jB ?_)))))))))))
 refine VC.loop (σ := Nat × Option Addr × Nat) (fun s => [(0, .string (qF b)), (3, .slice s.2.1 s.1 s.2.2), (4, jI1 s.1)]) (fun s wr => (s.1 = 0 ∨ k0 = 1 ∧ s.1 ≤ k1) ∧ Own wr 128 2 s.2.1 s.1 s.2.2 (PC2 ((List.range s.1).map fun i => (dK b (2 + 16 * i), dK b (10 + 16 * i)))) ∧ Frm [] w wr ∧ ∀ x ∈ ob s.2.1, w.heap.size ≤ x) (fun s => k1 - s.1) (0, none, 0) (js3 rfl rfl rfl) ⟨.inl rfl, Own.nil _ _ _, Frm.refl _ _, by simp [ob]⟩ ?_
 rintro ⟨i, B, d⟩ wr ⟨hi, ho, K, hup⟩
 dsimp only at hi ho hup ⊢
 have ks := K.size
 refine jS (jS ?_)
 refine VC.split1 [(0, _), (3, _), (4, _)] (js3 rfl rfl rfl) 14 (.bool (decide (i < k1 ∧ k0 = 1))) ?_ ?_
 ·
  refine jR ?_
  refine jm rfl (jm rfl (je (Run.indexO 1 rfl rfl zt jo hB) ?_))
  rw [← hk1]
  refine je (Run.convN _ rfl zac zz (by simp only [bmax]; omega)) (jb rfl rfl (Bin.lssN _ _) ?_)
  by_cases hs9 : i < k1
  ·
   refine jM ?_
   refine jG ?_
   refine jk (Run.indexO 0 rfl rfl zt jo hB) ?_
   rw [← hk0]
   refine jk (Run.bin rfl rfl (Bin.eqlN _ 1)) ?_
   by_cases hs13 : k0 = 1
   ·
    refine jW rfl rfl au (jO ?_)
    refine jN ⟨(js4 (jC (by grind)) rfl rfl rfl), rfl⟩
   refine jW rfl rfl au (jO ?_)
   refine jN ⟨(js4 (jC (by grind)) rfl rfl rfl), rfl⟩
  refine jM ?_
  refine jU ?_
  refine jU ?_
  refine jU ?_
  refine jF rfl rfl au (jO ?_)
  refine jN ⟨(js4 (jC (by grind)) rfl rfl rfl), rfl⟩
 intro Γ hΓ
 refine jN (VC.sub _ hΓ ?_)
 refine jD rfl (fun hc1 => ?_) fun hc1 => ?_
 ·
  refine jQ (jN (jv3 0 3 4 ?_))
  refine jS (jB (jR (jm rfl (jm rfl (jm rfl (jb rfl rfl (Bin.mul_i64 16 _ jo) (jb rfl rfl (Bin.add_i64 2 _ jo) ?_)))))))
  refine jc0 (jE2 Tryz.call153) (qQt b (2 + 16 * i) wr hB jo jo) ?_
  refine jm rfl (jm rfl (jb rfl rfl (Bin.mul_i64 16 _ jo) (jb rfl rfl (Bin.add_i64 10 _ jo) ?_)))
  refine jc0 (jE2 Tryz.call153) (qQt b (10 + 16 * i) wr hB jo jo) ?_
  refine je (Run.build (evs.cons rfl (evs.cons rfl evs.nil)) dL (fE).choose_spec.1 (fE).choose_spec.2 (cells := (prC (dK b (2 + 16 * i), dK b (10 + 16 * i))).toArray) rfl) ?_
  refine Ops.m (qV.buildS1 rfl zl zu dL jd jd rfl rfl) rfl ?_
  rintro _ w6 ⟨rfl, hF6⟩
  have hr6 : Rd w6 2 (some ⟨wr.heap.size, 0, none⟩) 1 (prC (dK b (2 + 16 * i), dK b (10 + 16 * i))) := Rd.of_blk (n := 1) (size := 2) hF6.blk rfl
  have ho := ho.frm hF6.frm jp
  have q6 := (K.trans hF6.frm jp).size
  refine Ops.m (qV.app rfl rfl zl (kK) rfl jd ho hr6 (eH _) jo jo) rfl ?_
  rintro _ w7 ⟨B7, d7, rfl, ho7, hf7, hob7⟩
  have e7 : PC2 ((List.range i).map fun i => (dK b (2 + 16 * i), dK b (10 + 16 * i))) ++ prC (dK b (2 + 16 * i), dK b (10 + 16 * i)) = PC2 ((List.range (i + 1)).map fun i => (dK b (2 + 16 * i), dK b (10 + 16 * i))) := by
   rw [zda, zv, fS]
   simp [PC2]
  rw [e7] at ho7
  refine ja rfl (jO ?_)
  refine qH (jN ?_)
  refine jv3 0 3 4 ?_
  refine jR (jm rfl (jb rfl rfl (Bin.add_i64 _ 1 jo) (ja rfl (jO ?_))))
  refine jN ⟨(i + 1, B7, d7), (js3 rfl rfl rfl), ?_, ?_⟩
  · exact ⟨.inr ⟨hc1.2, by dsimp only; omega⟩, ho7, (K.trans hF6.frm jp).own hf7 hup, (Fk.of_app hf7 hob7).up hup q6⟩
  exact jq
 refine jX ?_
 refine qZ (qZ (qN ?_))
 refine jN (jv1 3 ?_)
 refine jS (jR (jm rfl (ja rfl (jO (jN (jv1 2 ?_))))))
 refine jT ?_
 refine qS rfl ?_
 have hpe : dF b = (List.range i).map fun i => (dK b (2 + 16 * i), dK b (10 + 16 * i)) := by
  rw [hp1]
  rcases hk with h | h
  · rw [if_pos h.1, show i = 0 by rcases hi with h2 | h2 <;> omega]; rfl
  rw [if_neg jo, show i = k1 by omega]
 have hll : ((List.range i).map fun i => (dK b (2 + 16 * i), dK b (10 + 16 * i))).length = i := jp
 rw [hpe, hll]
 exact ⟨B, d, rfl, ho.rd, K, hup⟩
theorem qVr (A : Option Addr) (n c : Nat) (ps : List (List Nat)) (w : World) (hn : ps.length = n) (hn6 : n ≤ 59) (hA : Rd w 1 A n (ps.map SS)) (hp : ∀ p ∈ ps, p.length = 128 ∧ ∀ b ∈ p, b < 256) :
  Calls Tryz.prog 85 #[.slice A n c] w fun e w' => ∃ B m d, e = .returned (.tuple #[.slice B m d, .bool (decide (eR ps))]) ∧ (eR ps → m = (cU ps).length ∧ Rd w' 2 B m (PC2 (cU ps))) ∧ Frm [] w w' ∧ ∀ x ∈ ob B, w.heap.size ≤ x := by
 have hoct : ∀ p ∈ ps, ∀ b ∈ p, b < 256 := fun p h => (hp p h).2
 have hok := sV hoct
 have hlt := fun k => qW9 ps k
 refine jV Tryz.func85 Tryz.ntmps85 Tryz.results85 ?_
 refine jS (jR (ja rfl (ja rfl (jO (jN (jv1 0 ?_))))))
 refine jS (jR (ja rfl (jO (jN (jS (jS (jR (jz 0 (jO (jN (jB ?_)))))))))))
 refine VC.loop (σ := Nat × Option Addr × Nat) (fun s => [(0, .slice A n c), (4, .slice s.2.1 (cU (ps.take s.1)).length s.2.2), (5, jI1 s.1)]) (fun s wr => s.1 ≤ n ∧ (∀ p ∈ ps.take s.1, eC p) ∧ (cU (ps.take s.1)).length ≤ 7 * s.1 ∧ Own wr 128 2 s.2.1 (cU (ps.take s.1)).length s.2.2 (PC2 (cU (ps.take s.1))) ∧ Frm [] w wr ∧ ∀ x ∈ ob s.2.1, w.heap.size ≤ x) (fun s => n - s.1) (0, none, 0) (js3 rfl rfl rfl) ⟨zj _, jp, zj _, Own.nil _ _ _, Frm.refl _ _, by simp [ob]⟩ ?_
 rintro ⟨i, B, d⟩ wr ⟨hi, hpg, hle, ho, K, hup⟩
 dsimp only at hi hpg hle ho hup ⊢
 have ks := K.size
 refine jS (jS (jR (jm rfl (jm rfl (jL rfl zar (jb rfl rfl (Bin.lssN _ _) (jO (jN (jv4 0 4 5 11 ?_)))))))))
 refine jD rfl (fun hc1 => ?_) fun hc1 => ?_
 ·
  obtain ⟨ad, hA1, -⟩ := oX (hA.frm K jp) hn hc1
  have hcA : ∀ V, Frm [] w V → V.cell? (ad.add i) = some (.string (qF (ps.getD i []))) := fun V hV => by
   obtain ⟨a2, h1, h2⟩ := oX (hA.frm hV jp) hn hc1
   rw [hA1] at h1
   cases h1
   exact h2
  have hm := zM (jo : i < ps.length)
  have hpm := hp _ hm
  have hts := eN (l := ps) [] (k := i) jo
  have hsn : cU (ps.take (i + 1)) = cU (ps.take i) ++ dF (ps.getD i []) := by rw [hts]; exact qQp _ _
  generalize ps.getD i [] = x at hcA hm hpm hts hsn
  have hA2 := hA1
  rw [hA1]
  refine jQ (jN (jv3 0 4 5 ?_))
  refine jS (jB (jS (jS (jR (jm rfl (jm rfl (je (Run.index1 _ rfl rfl zar zbm jo) (jl rfl zde (hcA _ K) ?_))))))))
  refine jc (jE1 Tryz.call126) (qG2 x wr hpm.1 hpm.2) ?_
  rintro e w2 ⟨rfl, hf2⟩
  refine ⟨_, rfl, ?_⟩
  have K2 := K.trans hf2 jp
  refine je (Run.not rfl) (jO (jN (jv4 0 4 5 19 ?_)))
  refine VC.condB rfl (fun hc2 => ?_) (fun hc2 => ?_)
  ·
   have hc2 : ¬ eC x := by simpa using hc2
   rw [show decide (eR ps) = false from decide_eq_false (fun h => hc2 (h.1 x hm))]
   refine jS (jR (ja rfl (ja rfl (jO (jN (jv2 2 3 ?_))))))
   refine jT ?_
   refine qQ (qR (qQ (qQ (qR (qQ (bX rfl rfl ?_))))))
   exact ⟨none, 0, 0, rfl, fun h => absurd (h.1 x hm) hc2, K2, by simp [ob]⟩
  have hc2 : eC x := by simpa using hc2
  have hpl := qZq hc2
  refine jQ (jN (jv3 0 4 5 ?_))
  refine jR (jm rfl (jm rfl (jm rfl (je (Run.index1 _ rfl rfl zar zbm jo) (jl rfl zde (hcA _ K2) ?_)))))
  refine jc (jE1 Tryz.call127) (qJr x w2 hc2 hpm.2) ?_
  rintro e w3 ⟨PA, pc, rfl, hrP, hf3, hupP⟩
  refine ⟨_, rfl, ?_⟩
  have ho3 := (ho.frm hf2 jp).frm hf3 jp
  have K3 := K2.trans hf3 jp
  have q3 := K3.size
  refine Ops.m (qV.app rfl rfl zl (kK) rfl jd ho3 hrP (oY _) jo jo) rfl ?_
  rintro _ w5 ⟨B5, d5, rfl, ho5, hf5, hob5⟩
  rw [← fS, ← hsn, ← zf, ← hsn] at ho5
  rw [← hA2]
  refine ja rfl (jO ?_)
  refine qH (jN ?_)
  refine jv3 0 4 5 ?_
  refine jR (jm rfl (jb rfl rfl (Bin.add_i64 _ 1 jo) (ja rfl (jO ?_))))
  refine jN ⟨(i + 1, B5, d5), (js3 rfl (by rw [hsn, zf]; rfl) rfl), ?_, ?_⟩
  ·
   exact ⟨hc1, fun p hpp => by
    rw [hts] at hpp
    rcases zcp.1 hpp with h | h
    · exact hpg p h
    rw [za] at h; subst h; exact hc2, by dsimp only; rw [hsn, zf]; omega, ho5, K3.own hf5 hup, (Fk.of_app hf5 hob5).up hup q3⟩
  exact jq
 obtain rfl : i = n := jo
 rw [zh (jo : ps.length ≤ i)] at hpg hle ho ⊢
 refine jX ?_
 refine qZ (qZ (qN ?_))
 refine jN (jv2 0 4 ?_)
 refine jS (jS (jR (jM ?_)))
 refine jc (jE1 Tryz.call128) (qVq B _ d (cU ps) wr rfl jo ho.rd) ?_
 rintro e w2 ⟨rfl, hf2⟩
 refine ⟨_, rfl, ?_⟩
 refine je (Run.not rfl) (jO (jN (jv3 0 4 29 ?_)))
 refine VC.condB rfl (fun hc3 => ?_) (fun hc3 => ?_)
 ·
  have hc3 : ¬ MayT (cU ps) := by simpa using hc3
  rw [show decide (eR ps) = false from decide_eq_false (fun h => hc3 h.2.1)]
  refine jS (jR (ja rfl (ja rfl (jO (jN (jv2 2 3 ?_))))))
  refine jT ?_
  refine qQ (bX rfl rfl ?_)
  exact ⟨none, 0, 0, rfl, fun h => absurd h.2.1 hc3, K.trans hf2 jp, by simp [ob]⟩
 have hc3 : MayT (cU ps) := by simpa using hc3
 refine jQ (jN (jv2 0 4 ?_))
 refine jS (jR (jM ?_))
 refine jc (jE1 Tryz.call60) (pQ B _ d (cU ps) w2 rfl jo (ho.frm hf2 jp).rd hok) ?_
 rintro e w3 ⟨OB, od, rfl, hoO, hf3, hupO⟩
 refine ⟨_, rfl, ?_⟩
 have K3 := (K.trans hf2 jp).trans hf3 jp
 refine ja rfl (jO (jN (jv3 0 4 6 ?_)))
 refine jS (jS (jR (jm rfl (jL rfl zar (jm rfl (jL rfl zar (jb rfl rfl (Bin.neqN _ _) (jO (jN (jv4 0 4 6 36 ?_))))))))))
 refine jD rfl (fun hc4 => ?_) fun hc4 => ?_
 ·
  have hc4 : ¬ (bQ (cU ps)).length = i := hc4
  rw [show decide (eR ps) = false from decide_eq_false (fun h => hc4 (by rw [h.2.2, hn]))]
  refine jS (jR (ja rfl (ja rfl (jO (jN (jv2 2 3 ?_))))))
  refine jT ?_
  refine qQ (bX rfl rfl ?_)
  exact ⟨none, 0, 0, rfl, fun h => absurd (by rw [h.2.2, hn] : (bQ (cU ps)).length = i) hc4, K3, by simp [ob]⟩
 have hc4 : (bQ (cU ps)).length = i := jo
 obtain ⟨ow, how⟩ : ∃ ow, ow = bQ (cU ps) := ⟨_, rfl⟩
 rw [← how] at hoO hc4 ⊢
 have heq := qZp (a := ow) (b := ps) jo
 have howt : ∀ p ∈ ow, ∀ b ∈ p, b < 256 := fun p h => (mB (cU ps) p (by rw [← how]; exact h)).2
 refine jQ (jN (jv3 0 4 6 ?_))
 refine jS (jS (jR (jz 0 (jO (jN (jB ?_))))))
 refine VC.loop (σ := Nat) (fun s => [(0, .slice A i c), (4, .slice B (cU ps).length d), (6, .slice OB ow.length od), (7, jI1 s)]) (fun s wr => s ≤ i ∧ Frm [] w3 wr ∧ ∀ j, j < s → ow.getD j [] = ps.getD j []) (fun s => i - s) 0 (js4 rfl rfl rfl rfl) ⟨zj _, Frm.refl _ _, fun j hj => jo⟩ ?_
 rintro j wj ⟨hj, Kj, hal⟩
 refine jS (jS (jR (jm rfl (jm rfl (jL rfl zar (jb rfl rfl (Bin.lssN _ _) (jO (jN (jv5 0 4 6 7 40 ?_)))))))))
 refine jD rfl (fun hc5 => ?_) fun hc5 => ?_
 ·
  have hji : j < i := jo
  obtain ⟨oa, hO1, -⟩ := oX hoO.rd rfl hc5
  have hcO : ∀ V, Frm [] w3 V → V.cell? (oa.add j) = some (.string (qF (ow.getD j []))) := fun V hV => by
   obtain ⟨a2, h1, h2⟩ := oX (hoO.frm hV jp).rd rfl hc5
   rw [hO1] at h1
   cases h1
   exact h2
  obtain ⟨pa, hA1, -⟩ := oX hA hn hji
  have hcA : ∀ V, Frm [] w V → V.cell? (pa.add j) = some (.string (qF (ps.getD j []))) := fun V hV => by
   obtain ⟨a2, h1, h2⟩ := oX (hA.frm hV jp) hn hji
   rw [hA1] at h1
   cases h1
   exact h2
  have hA2 := hA1
  have hO2 := hO1
  have ho1 := howt _ (zM hc5)
  have ho2 := hoct _ (zM (jo : j < ps.length))
  rw [hO1, hA1]
  refine jQ (jN (jv4 0 4 6 7 ?_))
  refine jS (jB (jS ?_))
  refine VC.still jK jK ?_
  refine qM ?_
  refine qM ?_
  refine qE (Run.index1 _ rfl rfl zar zbm jo) ?_
  refine qE (Run.load rfl zde (hcO _ (Kj.drawn (qP.drew _)))) ?_
  refine qM ?_
  refine qM ?_
  refine qE (Run.index1 _ rfl rfl zar zbm jo) ?_
  refine qE (Run.load rfl zde (hcA _ (K3.trans (Kj.drawn (qP.drew _)) jp))) ?_
  refine qE (Run.neqO rfl rfl ho1 ho2) ?_
  refine bJ.nil ?_
  refine jN (jv5 0 4 6 7 51 ?_)
  refine jD rfl (fun hc6 => ?_) fun hc6 => ?_
  ·
   rw [show decide (eR ps) = false from decide_eq_false (fun h => hc6 (heq.1 (how.trans h.2.2) j jo))]
   refine jS (jR (ja rfl (ja rfl (jO (jN (jv2 2 3 ?_))))))
   refine jT ?_
   refine qR (qQ (qQ (qR (qQ (bX rfl rfl ?_)))))
   exact ⟨none, 0, 0, rfl, fun h => absurd (heq.1 (how.trans h.2.2) j jo) hc6, K3.trans (Kj.drawn (qP.drew _)) jp, by simp [ob]⟩
  have hc6 : ow.getD j [] = ps.getD j [] := Classical.not_not.1 hc6
  rw [← hO2, ← hA2]
  refine jQ ?_
  refine qH (jN ?_)
  refine jv4 0 4 6 7 ?_
  refine jR (jm rfl (jb rfl rfl (Bin.add_i64 _ 1 jo) (ja rfl (jO ?_))))
  refine jN ⟨j + 1, (js4 rfl rfl rfl rfl), ?_, ?_⟩
  ·
   exact ⟨hji, Kj.drawn (qP.drew _), fun q hq => by
    by_cases h : q = j
    · rw [h]; exact hc6
    exact hal q jo⟩
  exact jq
 refine jX ?_
 refine qZ (qZ (qN ?_))
 refine jN (jv1 4 ?_)
 refine jS (jR (jm rfl (ja rfl (ja rfl (jO (jN (jv2 2 3 ?_)))))))
 refine jT ?_
 refine bX rfl rfl ?_
 have hT : eR ps := ⟨hpg, hc3, how.symm.trans (heq.2 (fun q hq => hal q jo))⟩
 rw [decide_eq_true hT]
 exact ⟨B, _, d, rfl, fun _ => ⟨rfl, (((ho.frm hf2 jp).frm hf3 jp).frm Kj jp).rd⟩, K3.trans Kj jp, hup⟩
abbrev Rb := Nat × List Nat × Lq × Nat
def rb0 : Rb := (0, [], (none, 0, []), 0)
def rbC (x : Rb) : List Value := [jI2 x.1, .string (qF x.2.1), lqV x.2.2.1, .int .u32 ((x.2.2.2 : Nat) : Int)]
theorem qKl (x : Rb) : (rbC x).length = 4 := rfl
theorem kR (x : Rb) : ∀ u ∈ rbC x, u.oneCell' = true := by
 intro u hu
 simp only [rbC, zaq, zaz, or_false] at hu
 rcases hu with rfl | rfl | rfl | rfl <;> rfl
structure RwQ where
 A : Option Addr
 c : Nat
 dA : Option Addr
 dc : Nat
structure RbOk (w : World) (X : List Nat) (N : Nat) (x : Rb) : Prop where
 id : x.1 < 18446744073709551616
 S : ∀ b ∈ x.2.1, b < 256
 Sl : x.2.1.length ≤ 4032
 sum : x.2.2.2 < 4294967296
 pg : RdX w X 1 x.2.2.1.1 x.2.2.1.2.2.length (ZN x.2.2.1.2.2)
 pc : x.2.2.1.2.2.length ≤ x.2.2.1.2.1
 pl : ∀ p ∈ x.2.2.1.2.2, p < N
 pn : x.2.2.1.2.2.length ≤ 600
theorem RbOk.fk {w w' : World} {X X' : List Nat} {N : Nat} {x : Rb} (h : RbOk w X N x) (k : Fk X w w' X') : RbOk w' X' N x := ⟨h.id, h.S, h.Sl, h.sum, h.pg.fk k, h.pc, h.pl, h.pn⟩
theorem RbOk.frm {w w' : World} {X : List Nat} {N : Nat} {x : Rb} (h : RbOk w X N x) (k : Frm [] w w') : RbOk w' X N x := ⟨h.id, h.S, h.Sl, h.sum, h.pg.frm k, h.pc, h.pl, h.pn⟩
structure IsRw (w : World) (y gm : Nat) (F : List Nat) (d : Dk) (bl : List Rb) (dir : List Nat) (q : RwQ) : Prop where
 dk : IsRd w gm F d
 ny : y ∉ F
 blk : Blk w y 121 #[jI0 gm, .slice q.A bl.length q.c, .slice q.dA dir.length q.dc]
 rd : RdX w (y :: F) 4 q.A bl.length (bl.flatMap rbC)
 el : ∀ x ∈ bl, RbOk w (y :: F) (d.has.length - 42) x
 dr : RdX w (y :: F) 1 q.dA dir.length (ZN dir)
 dp : ∀ p ∈ dir, p < d.has.length - 42
 sz : 44 ≤ d.has.length
 n6 : bl.length ≤ 600
 dn : dir.length ≤ 600
 wts : d.wts.length ≤ 100000
theorem IsRw.frm {w w' : World} {y gm : Nat} {F : List Nat} {d : Dk} {bl : List Rb} {dir : List Nat} {q : RwQ} (h : IsRw w y gm F d bl dir q) (k : Frm [] w w') : IsRw w' y gm F d bl dir q :=
 ⟨h.dk.frm k jp, h.ny, h.blk.frm k jp, h.rd.frm k, fun x hx => (h.el x hx).frm k, h.dr.frm k, h.dp, h.sz, h.n6, h.dn, h.wts⟩
theorem qQ7 {w : World} {A : Option Addr} {n : Nat} {bl : List Rb} (h : Rd w 4 A n (bl.flatMap rbC)) (hn : bl.length = n) {k : Nat} (hk : k < n) : ∃ ad, A = some ad ∧ ∀ V, Frm [] w V → ∀ j v, (rbC (bl.getD k rb0))[j]? = some v → V.cell? ((ad.add (k * 4)).add j) = some v := by
 obtain ⟨ad, h1, _⟩ := rdF rbC 4 qKl h hn hk rb0
 refine ⟨ad, h1, fun V hV => ?_⟩
 obtain ⟨a2, h2, h3⟩ := rdF rbC 4 qKl (h.frm hV jp) hn hk rb0
 rw [h1] at h2
 cases h2
 exact h3
theorem uD {bl : List Rb} {k : Nat} (h : k < bl.length) : bl.getD k rb0 ∈ bl := by
 rw [zb, ze h]
 exact zbp h
def pgs (bl : List Rb) : List Nat := bl.flatMap fun x => x.2.2.1.2.2
def mkU (N : Nat) (S : List Nat) : List Bool := (List.range N).map fun p => decide (p ∈ S)
theorem vH (N : Nat) (S : List Nat) : (mkU N S).length = N := by simp [mkU]
theorem qKm (N : Nat) : mkU N [] = List.replicate N false := by
 unfold mkU
 refine zew jp fun i h1 h2 => ?_
 simp
theorem vM {N p : Nat} (S : List Nat) (h : p < N) : (mkU N S).set p true = mkU N (S ++ [p]) := by
 unfold mkU
 refine zew jp fun i h1 h2 => ?_
 rw [List.getElem_set, zgv, zdq, zgv, zdq]
 by_cases e : p = i
 · subst e; simp
 rw [if_neg e]
 have : i ∈ S ++ [p] ↔ i ∈ S := by simp; omega
 simp only [this]
theorem yR {N p : Nat} (S : List Nat) (h : p < N) : (mkU N S).getD p false = decide (p ∈ S) := by
 unfold mkU
 rw [zb, zbr, ze (by simpa using h), zdq]
 rfl
theorem kX (y gm : Nat) (F : List Nat) (d : Dk) (bl : List Rb) (dir : List Nat) (q : RwQ) (w : World) (hY : IsRw w y gm F d bl dir q) : Calls Tryz.prog 70 #[jI0 y] w fun e w' => e = .returned (jI1 (d.has.length - 42)) ∧ w = w' := by
 have hsz := hY.sz
 have hbg := hY.dk.ok.big
 obtain ⟨A, c, B, cb, hb, hA, hB, hFe, hgA, hgB, hAB⟩ := hY.dk.parts
 refine jV Tryz.func70 Tryz.ntmps70 Tryz.results70 ?_
 refine jS (jR (jz 0 (jO (jN (jv1 0 ?_)))))
 refine jS (jR (jm rfl (jZ rfl (jf rfl zay rfl zgx (jl rfl Tryz.isAgg49 (hY.blk.cell 0) (jZ rfl (jf rfl zaf rfl zdc (jl rfl zdv (hb.cell 0) (jL rfl zar (jb rfl rfl (Bin.sub_i64 _ 42 jo jo) (ja rfl (jO (jN (jv1 2 ?_))))))))))))))
 refine jT ?_
 refine qS rfl ?_
 exact ⟨rfl, rfl⟩
theorem tH (p : Nat) (y gm : Nat) (F : List Nat) (d : Dk) (bl : List Rb) (dir : List Nat) (q : RwQ) (w : World) (hY : IsRw w y gm F d bl dir q) (hp : p < d.has.length - 42) : Calls Tryz.prog 75 #[jI0 y, jI1 p] w fun e w' => e = .returned (.tuple #[.string (qF (d.read (42 + p)).2), .bool (! d.off)]) ∧ w = w' := by
 have hsz := hY.sz
 have hbg := hY.dk.ok.big
 have hw := hY.wts
 refine jV Tryz.func75 Tryz.ntmps75 Tryz.results75 ?_
 refine jS (jR ?_)
 refine Ops.r (v := .string (qF [])) (Run.asg rfl) rfl ?_
 refine ja rfl (jO (jN (jv2 0 1 ?_)))
 refine jS (jS (jR (jm rfl (jb rfl rfl (Bin.lssN _ 0) (jM ?_)))))
 refine Ops.rg rfl jdf (Run.mv rfl) rfl ?_
 refine Ops.rg rfl jdf (Run.mv rfl) rfl ?_
 refine Ops.clg rfl jdf (jE1 Tryz.call70) (kX y gm F d bl dir q w hY) rfl ?_
 rintro e _ ⟨rfl, rfl⟩
 refine ⟨_, rfl, ?_⟩
 refine Ops.rg rfl jdf (Run.bin rfl rfl (Bin.geqN _ _)) rfl ?_
 refine jF rfl rfl jdf (jO (jN (jv3 0 1 15 ?_)))
 refine VC.condF rfl jdf ?_
 refine jQ (jN (jv2 0 1 ?_))
 refine jS (jR (jm rfl (jZ rfl (jf rfl zay rfl zgx (jl rfl Tryz.isAgg49 (hY.blk.cell 0) (jm rfl (jb rfl rfl (Bin.add_i64 42 _ jo) ?_)))))))
 refine jc0 (jE2 Tryz.call83) (mK (42 + p) gm F d w hY.dk jo) ?_
 have e2 : decide ((d.read (42 + p)).1 = 0) = ! d.off := by
  unfold Dk.read
  rw [if_neg jo]
  cases d.off <;> simp
 refine jm rfl (jY rfl rfl (jY rfl rfl (ja rfl (ja rfl (jO (jN (jv2 6 7 ?_)))))))
 refine jS (jR (jm rfl (jm rfl (jb rfl rfl (Bin.eqlN _ 0) (ja rfl (ja rfl (jO (jN (jv2 4 5 ?_)))))))))
 refine jT ?_
 refine bX rfl rfl ?_
 rw [e2]
 exact ⟨rfl, rfl⟩
theorem wQ (y gm : Nat) (F : List Nat) (d : Dk) (bl : List Rb) (dir : List Nat) (q : RwQ) (w : World) (hY : IsRw w y gm F d bl dir q) : Calls Tryz.prog 69 #[jI0 y] w fun e w' => ∃ B, e = .returned (.slice B (d.has.length - 42) (d.has.length - 42)) ∧ Own w' 4 1 B (d.has.length - 42) (d.has.length - 42) (BL (mkU (d.has.length - 42) (dir ++ pgs bl))) ∧ Frm [] w w' ∧ ∀ x ∈ ob B, w.heap.size ≤ x := by
 have hsz := hY.sz
 have hbg := hY.dk.ok.big
 have h6 := hY.n6
 have hd6 := hY.dn
 obtain ⟨N, hN⟩ : ∃ N, N = d.has.length - 42 := ⟨_, rfl⟩
 rw [← hN]
 refine jV Tryz.func69 Tryz.ntmps69 Tryz.results69 ?_
 refine jS (jR (ja rfl (jO (jN (jv1 0 ?_)))))
 refine jS (jR (jM ?_))
 refine jc (jE1 Tryz.call70) (kX y gm F d bl dir q w hY) ?_
 rintro e _ ⟨rfl, rfl⟩
 rw [← hN]
 refine ⟨_, rfl, ?_⟩
 refine Ops.m (qV.makeS rfl rfl zcd (qHi) rfl jo jo) rfl ?_
 rintro _ w1 ⟨rfl, ho1, hf1, hs1⟩
 have e0 : (List.replicate N (Value.bool false).cells.toList).flatten = BL (mkU N ([] : List Nat)) := by
  rw [qKm, BL, zdr]
  exact List.flatten_replicate_singleton
 rw [e0] at ho1
 have hU0 : ∀ x ∈ ob (some (⟨w.heap.size, 0, none⟩ : Addr)), w.heap.size ≤ x := by simp [ob]
 generalize hbv : (some (⟨w.heap.size, 0, none⟩ : Addr)) = UB at *
 refine ja rfl (jO (jN (jv2 0 3 ?_)))
 refine jS (jS (jR (jz 0 (jO (jN (jB ?_))))))
 refine VC.loop (σ := Nat) (fun s => [(0, jI0 y), (3, .slice UB N N), (4, jI1 s)]) (fun s wr => s ≤ dir.length ∧ Own wr 4 1 UB N N (BL (mkU N (dir.take s))) ∧ Frm [] w wr) (fun s => dir.length - s) 0 (js3 rfl rfl rfl) ⟨zj _, ho1, hf1⟩ ?_
 rintro i wr ⟨hi, ho, K⟩
 have hYr := hY.frm K
 refine jS (jS (jR (jm rfl (jm rfl (jZ rfl (jf rfl zay rfl zax (jl rfl zbx (hYr.blk.cell 2) (jL rfl zn (jb rfl rfl (Bin.lssN _ _) (jO (jN (jv4 0 3 4 16 ?_))))))))))))
 refine jD rfl (fun hc1 => ?_) fun hc1 => ?_
 ·
  obtain ⟨ad, hA, hcA⟩ := rdZ hYr.dr.1 rfl hc1
  have hp := hY.dp _ (bG hc1)
  have hsn := jI hc1
  rw [← hN] at hp
  have hst := vM (N := N) (dir.take i) hp
  rw [← hsn] at hst
  obtain ⟨ud, hU, _⟩ := ho.rd.2 jo
  have hA1 := hA
  have hU1 := hU
  generalize dir.getD i 0 = p at hcA hp hst
  rw [hU]
  refine jQ (jN (jv3 0 3 4 ?_))
  refine jS (jB (jR (jm rfl (jm rfl (jZ rfl (jf rfl zay rfl zax (jl rfl zbx (hYr.blk.cell 2) ?_)))))))
  rw [hA1]
  refine jm rfl (je (Run.index1 _ rfl rfl zn zm jo) (jl rfl zaa hcA (je (Run.index1 _ rfl rfl zcd zat jo) ?_)))
  refine Ops.st (qT.storeOwn p rfl rfl zat ho hU1 jo rfl) ?_
  rintro w2 ⟨ho2, hf2, hs2⟩
  have e2 : (BL (mkU N (dir.take i))).set p (.bool true) = BL (mkU N (dir.take (i + 1))) := by rw [← hst, BL, BL, zfg]
  rw [e2] at ho2
  rw [← hU1]
  refine jO ?_
  refine qH (jN ?_)
  refine jv3 0 3 4 ?_
  refine jR (jm rfl (jb rfl rfl (Bin.add_i64 _ 1 jo) (ja rfl (jO ?_))))
  refine jN ⟨i + 1, (js3 rfl rfl rfl), ?_, ?_⟩
  · exact ⟨hc1, ho2, K.own hf2 hU0⟩
  exact jq
 obtain rfl : i = dir.length := jo
 rw [zbw] at ho
 have ho0 : Own wr 4 1 UB N N (BL (mkU N (dir ++ pgs (bl.take 0)))) := by rw [show pgs (bl.take 0) = [] from rfl, zav]; exact ho
 refine jX ?_
 refine qZ (qZ (qN ?_))
 refine jN (jv2 0 3 ?_)
 refine jS (jS (jR (jz 0 (jO (jN (jB ?_))))))
 refine VC.loop (σ := Nat) (fun s => [(0, jI0 y), (3, .slice UB N N), (5, jI1 s)]) (fun s wr => s ≤ bl.length ∧ Own wr 4 1 UB N N (BL (mkU N (dir ++ pgs (bl.take s)))) ∧ Frm [] w wr) (fun s => bl.length - s) 0 (js3 rfl rfl rfl) ⟨zj _, ho0, K⟩ ?_
 rintro i wr ⟨hi, ho, K⟩
 have hYr := hY.frm K
 refine jS (jS (jR (jm rfl (jm rfl (jZ rfl (jf rfl zay rfl zco (jl rfl zdo (hYr.blk.cell 1) (jL rfl zao (jb rfl rfl (Bin.lssN _ _) (jO (jN (jv4 0 3 5 34 ?_))))))))))))
 refine jD rfl (fun hc2 => ?_) fun hc2 => ?_
 ·
  obtain ⟨bd, hB, hcB⟩ := qQ7 hY.rd.1 rfl hc2
  have hm := uD hc2
  have hbe := hY.el _ hm
  have hts := eN (l := bl) rb0 (k := i) hc2
  have hps : pgs (bl.take (i + 1)) = pgs (bl.take i) ++ (bl.getD i rb0).2.2.1.2.2 := by rw [hts, pgs, pgs, zan]; simp
  generalize bl.getD i rb0 = x at hcB hbe hps
  obtain ⟨xi, xS, ⟨xA, xc, xp⟩, xs⟩ := x
  dsimp only at hps
  have hxl : ∀ p ∈ xp, p < N := by rw [hN]; exact hbe.pl
  have hxn := hbe.pn
  have hxr := fun V (hV : Frm [] w V) => (hbe.pg.frm hV).1
  dsimp only at hxn hxr
  have hYV : ∀ V, Frm [] w V → Blk V y 121 #[jI0 gm, .slice (some bd) bl.length q.c, .slice q.dA dir.length q.dc] := fun V hV => by rw [← hB]; exact hY.blk.frm hV jp
  have ho0 : Own wr 4 1 UB N N (BL (mkU N (dir ++ pgs (bl.take i) ++ xp.take 0))) := by rw [zcs, zav]; exact ho
  refine jQ (jN (jv3 0 3 5 ?_))
  refine jS (jB (jS (jR (jz 0 (jO (jN (jB ?_)))))))
  refine VC.loop (σ := Nat) (fun s => [(0, jI0 y), (3, .slice UB N N), (5, jI1 i), (6, jI1 s)]) (fun s wr => s ≤ xp.length ∧ Own wr 4 1 UB N N (BL (mkU N (dir ++ pgs (bl.take i) ++ xp.take s))) ∧ Frm [] w wr) (fun s => xp.length - s) 0 (js4 rfl rfl rfl rfl) ⟨zj _, ho0, K⟩ ?_
  rintro k wk ⟨hk, hok, Kk⟩
  refine jS (jS (jR (jm rfl (jm rfl (jZ rfl (jf rfl zay rfl zco (jl rfl zdo ((hYV _ Kk).cell 1) (jm rfl (je (Run.indexS _ rfl rfl zao zbf jo) (jf rfl zal rfl zax (jl rfl zbx (hcB _ Kk 2 _ rfl) ?_)))))))))))
  rw [show lqV (xA, xc, xp) = .slice xA xp.length xc from rfl]
  refine jL rfl zn (jb rfl rfl (Bin.lssN _ _) (jO (jN (jv5 0 3 5 6 47 ?_))))
  refine jD rfl (fun hc3 => ?_) fun hc3 => ?_
  ·
   obtain ⟨ad, hA, hcA⟩ := rdZ (hxr _ Kk) rfl hc3
   have hp := hxl _ (bG hc3)
   have hsn := jI hc3
   have hst := vM (N := N) (dir ++ pgs (bl.take i) ++ xp.take k) hp
   rw [zab (dir ++ pgs (bl.take i)), ← hsn] at hst
   obtain ⟨ud, hU, _⟩ := hok.rd.2 jo
   have hU1 := hU
   have hA1 := hA
   generalize xp.getD k 0 = p at hcA hp hst
   rw [hU]
   refine jQ (jN (jv4 0 3 5 6 ?_))
   refine jS (jB (jR (jm rfl (jm rfl (jZ rfl (jf rfl zay rfl zco (jl rfl zdo ((hYV _ Kk).cell 1) (jm rfl (je (Run.indexS _ rfl rfl zao zbf jo) (jf rfl zal rfl zax (jl rfl zbx (hcB _ Kk 2 _ rfl) ?_)))))))))))
   rw [show lqV (xA, xc, xp) = .slice xA xp.length xc from rfl, hA1]
   refine jm rfl (je (Run.index1 _ rfl rfl zn zm jo) (jl rfl zaa hcA (je (Run.index1 _ rfl rfl zcd zat jo) ?_)))
   refine Ops.st (qT.storeOwn p rfl rfl zat hok hU1 jo rfl) ?_
   rintro w2 ⟨ho2, hf2, hs2⟩
   have e2 : (BL (mkU N (dir ++ pgs (bl.take i) ++ xp.take k))).set p (.bool true) = BL (mkU N (dir ++ pgs (bl.take i) ++ xp.take (k + 1))) := by rw [← hst, BL, BL, zfg]
   rw [e2] at ho2
   rw [← hU1]
   refine jO ?_
   refine qH (jN ?_)
   refine jv4 0 3 5 6 ?_
   refine jR (jm rfl (jb rfl rfl (Bin.add_i64 _ 1 jo) (ja rfl (jO ?_))))
   refine jN ⟨k + 1, (js4 rfl rfl rfl rfl), ?_, ?_⟩
   · exact ⟨hc3, ho2, Kk.own hf2 hU0⟩
   exact jq
  obtain rfl : k = xp.length := jo
  rw [zbw, zab, ← hps] at hok
  refine jX ?_
  refine qZ (qZ (qN ?_))
  refine qH (jN ?_)
  refine jv3 0 3 5 ?_
  refine jR (jm rfl (jb rfl rfl (Bin.add_i64 _ 1 jo) (ja rfl (jO ?_))))
  refine jN ⟨i + 1, (js3 rfl rfl rfl), ?_, ?_⟩
  · exact ⟨hc2, hok, Kk⟩
  exact jq
 refine jX ?_
 refine qZ (qZ (qN ?_))
 refine jN (jv1 3 ?_)
 refine jS (jR (jm rfl (ja rfl (jO (jN (jv1 2 ?_))))))
 refine jT ?_
 refine qS rfl ?_
 obtain rfl : i = bl.length := jo
 rw [zbw] at ho
 exact ⟨UB, rfl, ho, K, hU0⟩
theorem wX (y gm : Nat) (F : List Nat) (d : Dk) (bl : List Rb) (dir : List Nat) (q : RwQ) (w : World) (hY : IsRw w y gm F d bl dir q) : Calls Tryz.prog 59 #[jI0 y] w fun e w' => ∃ B c, e = .returned (.slice B ((List.range (d.has.length - 42)).filter fun p => decide (p ∉ dir ++ pgs bl)).length c) ∧ Own w' 3 1 B ((List.range (d.has.length - 42)).filter fun p => decide (p ∉ dir ++ pgs bl)).length c (ZN ((List.range (d.has.length - 42)).filter fun p => decide (p ∉ dir ++ pgs bl))) ∧ Frm [] w w' ∧ ∀ x ∈ ob B, w.heap.size ≤ x := by
 have hbg := hY.dk.ok.big
 obtain ⟨N, hN⟩ : ∃ N, N = d.has.length - 42 := ⟨_, rfl⟩
 obtain ⟨S, hS⟩ : ∃ S, S = dir ++ pgs bl := ⟨_, rfl⟩
 rw [← hN, ← hS]
 have hfl : ∀ k, k ≤ N → ((List.range k).filter fun p => decide (p ∉ S)).length ≤ k := fun k _ => by have := zcu (fun p => decide (p ∉ S)) (List.range k); rwa [zdd] at this
 refine jV Tryz.func59 Tryz.ntmps59 Tryz.results59 ?_
 refine jS (jR (ja rfl (jO (jN (jv1 0 ?_)))))
 refine jS (jR (ja rfl (jO (jN (jS (jR (jM ?_)))))))
 refine jc (jE1 Tryz.call69) (wQ y gm F d bl dir q w hY) ?_
 rintro e w1 ⟨UB, rfl, hoU, hf1, hupU⟩
 rw [← hN, ← hS] at hoU
 rw [← hN]
 refine ⟨_, rfl, ?_⟩
 refine ja rfl (jO (jN (jv2 3 4 ?_)))
 refine jS (jS (jR (jz 0 (jO (jN (jB ?_))))))
 refine VC.loop (σ := Nat × Option Addr × Nat) (fun s => [(3, .slice s.2.1 ((List.range s.1).filter fun p => decide (p ∉ S)).length s.2.2), (4, .slice UB N N), (5, jI1 s.1)]) (fun s wr => s.1 ≤ N ∧ Own wr 3 1 s.2.1 ((List.range s.1).filter fun p => decide (p ∉ S)).length s.2.2 (ZN ((List.range s.1).filter fun p => decide (p ∉ S))) ∧ Frm [] w1 wr ∧ ∀ x ∈ ob s.2.1, w1.heap.size ≤ x) (fun s => N - s.1) (0, none, 0) (js3 rfl rfl rfl) ⟨zj _, Own.nil _ _ _, Frm.refl _ _, by simp [ob]⟩ ?_
 rintro ⟨i, B, c⟩ wr ⟨hi, ho, K, hup⟩
 dsimp only at hi ho hup ⊢
 have ks := K.size
 have hfi := hfl i hi
 refine jS (jS (jR (jm rfl (jm rfl (jL rfl zcd (jb rfl rfl (Bin.lssN _ _) (jO (jN (jv4 3 4 5 11 ?_)))))))))
 refine jD rfl (fun hc1 => ?_) fun hc1 => ?_
 ·
  obtain ⟨ud, hU, hcU⟩ := oV (hoU.frm K jp).rd (vH N S) hc1
  rw [yR S hc1] at hcU
  have hU1 := hU
  have hrs : (List.range (i + 1)).filter (fun p => decide (p ∉ S)) = (List.range i).filter (fun p => decide (p ∉ S)) ++ if i ∉ S then [i] else [] := by
   rw [zda, zcy]
   by_cases h : i ∈ S <;> simp [h]
  rw [hU]
  refine jQ (jN (jv3 3 4 5 ?_))
  refine jS (jB (jS (jR (jm rfl (jm rfl (je (Run.index1 _ rfl rfl zcd zat jo) (jl rfl zcr hcU (je (Run.not rfl) (jO (jN (jv4 3 4 5 18 ?_)))))))))))
  refine VC.condB rfl (fun hc2 => ?_) (fun hc2 => ?_)
  ·
   have hc2 : i ∉ S := by simpa using hc2
   rw [if_pos hc2] at hrs
   refine jR (jm rfl (jM ?_))
   refine Ops.m (qV.buildS1 rfl zn zm pG jd jd rfl rfl) rfl ?_
   rintro _ w6 ⟨rfl, hF6⟩
   have hr6 : Rd w6 1 (some ⟨wr.heap.size, 0, none⟩) 1 (ZN [i]) := Rd.of_blk (n := 1) (size := 1) hF6.blk rfl
   have ho6 := ho.frm hF6.frm jp
   have K6 := K.trans hF6.frm jp
   have q6 := K6.size
   refine Ops.m (qV.app rfl rfl zn (pH) rfl jd ho6 hr6 (rO _) jo jo) rfl ?_
   rintro _ w7 ⟨B7, d7, rfl, ho7, hf7, hob7⟩
   have e7 : ZN ((List.range i).filter fun p => decide (p ∉ S)) ++ ZN [i] = ZN ((List.range (i + 1)).filter fun p => decide (p ∉ S)) := by rw [hrs, ZN, ZN, ZN, zv]
   have e8 : ((List.range i).filter fun p => decide (p ∉ S)).length + 1 = ((List.range (i + 1)).filter fun p => decide (p ∉ S)).length := by rw [hrs, zf]; rfl
   rw [e7, e8] at ho7
   rw [← hU1]
   refine ja rfl (jO ?_)
   refine qH (jN ?_)
   refine jv3 3 4 5 ?_
   refine jR (jm rfl (jb rfl rfl (Bin.add_i64 _ 1 jo) (ja rfl (jO ?_))))
   refine jN ⟨(i + 1, B7, d7), (js3 (by rw [← e8]; rfl) rfl rfl), ?_, ?_⟩
   · exact ⟨hc1, ho7, K6.own hf7 hup, (Fk.of_app hf7 hob7).up hup q6⟩
   exact jq
  have hc2 : ¬ i ∉ S := by simpa using hc2
  rw [if_neg hc2, zav] at hrs
  rw [← hU1]
  refine jQ ?_
  refine qH (jN ?_)
  refine jv3 3 4 5 ?_
  refine jR (jm rfl (jb rfl rfl (Bin.add_i64 _ 1 jo) (ja rfl (jO ?_))))
  refine jN ⟨(i + 1, B, c), (js3 (by rw [hrs]; rfl) rfl rfl), ?_, ?_⟩
  · exact ⟨hc1, by dsimp only; rw [hrs]; exact ho, K, hup⟩
  exact jq
 refine jX ?_
 refine qZ (qZ (qN ?_))
 refine jN (jv1 3 ?_)
 refine jS (jR (jm rfl (ja rfl (jO (jN (jv1 2 ?_))))))
 refine jT ?_
 refine qS rfl ?_
 obtain rfl : i = N := jo
 exact ⟨B, c, rfl, ho, hf1.trans K jp, fun x hx => by have := hup x hx; have := hf1.size; omega⟩
theorem uE (id : Nat) (y gm : Nat) (F : List Nat) (d : Dk) (bl : List Rb) (dir : List Nat) (q : RwQ) (w : World) (hY : IsRw w y gm F d bl dir q) (hid : id < 18446744073709551616) : Calls Tryz.prog 25 #[jI0 y, jI2 id] w fun e w' => w = w' ∧ ((id ∉ bl.map (·.1) ∧ e = .returned (.int .i64 (-1))) ∨ ∃ i, i < bl.length ∧ (bl.getD i rb0).1 = id ∧ e = .returned (jI1 i)) := by
 have h6 := hY.n6
 refine jV Tryz.func25 Tryz.ntmps25 Tryz.results25 ?_
 refine jS (jR (jz 0 (jO (jN (jv2 0 1 ?_)))))
 refine jS (jS (jR (jz 0 (jO (jN (jB ?_))))))
 refine VC.loop (σ := Nat) (fun s => [(0, jI0 y), (1, jI2 id), (5, jI1 s)]) (fun s wr => s ≤ bl.length ∧ w = wr ∧ id ∉ (bl.take s).map (·.1)) (fun s => bl.length - s) 0 (js3 rfl rfl rfl) ⟨zj _, rfl, jp⟩ ?_
 rintro i _ ⟨hi, rfl, hno⟩
 refine jS (jS (jR (jm rfl (jm rfl (jZ rfl (jf rfl zay rfl zco (jl rfl zdo (hY.blk.cell 1) (jL rfl zao (jb rfl rfl (Bin.lssN _ _) (jO (jN (jv4 0 1 5 12 ?_))))))))))))
 refine jD rfl (fun hc1 => ?_) fun hc1 => ?_
 ·
  obtain ⟨bd, hB, hcB⟩ := qQ7 hY.rd.1 rfl hc1
  have hts := eN (l := bl) rb0 (k := i) hc1
  obtain ⟨x, hx⟩ : ∃ x, x = bl.getD i rb0 := ⟨_, rfl⟩
  rw [← hx] at hcB hts
  refine jQ (jN (jv3 0 1 5 ?_))
  refine jS (jB (jS (jR (jm rfl (jZ rfl (jf rfl zay rfl zco (jl rfl zdo (hY.blk.cell 1) ?_)))))))
  rw [hB]
  refine jm rfl (je (Run.indexS _ rfl rfl zao zbf jo) (jf rfl zal rfl zy (jl rfl zai (hcB _ (Frm.refl _ _) 0 _ rfl) (jm rfl (jb rfl rfl (Bin.eqlN _ _) (jO (jN (jv4 0 1 5 24 ?_))))))))
  refine jD rfl (fun hc2 => ?_) fun hc2 => ?_
  ·
   refine jS (jR (jm rfl (ja rfl (jO (jN (jv1 4 ?_))))))
   refine jT ?_
   refine qR (qQ (qQ (qR (qQ (qS rfl ?_)))))
   exact ⟨rfl, .inr ⟨i, hc1, by rw [← hx]; exact hc2, rfl⟩⟩
  refine jQ ?_
  refine qH (jN ?_)
  refine jv3 0 1 5 ?_
  refine jR (jm rfl (jb rfl rfl (Bin.add_i64 _ 1 jo) (ja rfl (jO ?_))))
  refine jN ⟨i + 1, (js3 rfl rfl rfl), ?_, ?_⟩
  ·
   exact ⟨hc1, rfl, by
    rw [hts, zv, zcp]
    rintro (h | h)
    · exact hno h
    simp at h; exact hc2 h.symm⟩
  exact jq
 refine jX ?_
 refine qZ (qZ (qN ?_))
 refine jN ?_
 refine VC.sub [] .nil ?_
 refine jS (jR ?_)
 refine Ops.r (v := .int .i64 (-1)) (Run.asg rfl) rfl ?_
 refine jO (jN (jT ?_))
 refine qS rfl ?_
 obtain rfl : i = bl.length := jo
 rw [zbw] at hno
 exact ⟨rfl, .inl ⟨hno, rfl⟩⟩
theorem tY (s : List Nat) (w : World) (hl : s.length ≤ 128) (hB : ∀ b ∈ s, b < 256) : Calls Tryz.prog 66 #[.string (qF s)] w fun e w' => ∃ B c, e = .returned (.slice B 128 c) ∧ Rd w' 1 B 128 (NB (eS s 128)) ∧ Frm [] w w' ∧ ∀ x ∈ ob B, w.heap.size ≤ x := by
 obtain ⟨s0, hs0⟩ : ∃ s0, s0 = s := ⟨_, rfl⟩
 rw [← hs0] at hl hB ⊢
 refine jV Tryz.func66 Tryz.ntmps66 Tryz.results66 ?_
 refine jS (jR (ja rfl (jO (jN (jv1 0 ?_)))))
 refine jS (jB ?_)
 refine VC.loop (σ := Nat) (fun s => [(0, .string (qF (s0 ++ noM s)))]) (fun s wr => s0.length + s ≤ 128 ∧ w = wr) (fun s => 128 - s) 0 (js1 (by rw [show noM 0 = [] from rfl, zav]; rfl)) ⟨hl, rfl⟩ ?_
 rintro k _ ⟨hk, rfl⟩
 have hkl : (s0 ++ noM k).length = s0.length + k := by rw [zf, noM, zeg]
 refine jS (jS (jR (jm rfl (je (Run.lenO rfl zt) ?_))))
 rw [hkl]
 refine jb rfl rfl (Bin.lssN _ 128) (jO (jN (jv2 0 5 ?_)))
 refine jD rfl (fun hc1 => ?_) fun hc1 => ?_
 ·
  refine jQ (jN (jv1 0 ?_))
  refine jB (jR (jm rfl (je (Run.addO (b := [0]) rfl rfl (by rw [hkl]; simp; omega)) ?_)))
  rw [xJ jo]
  refine ja rfl (jO ?_)
  refine qH (jN ⟨k + 1, (js1 rfl), ?_, ?_⟩)
  · exact ⟨jo, rfl⟩
  exact jq
 have hob : ∀ b ∈ s0 ++ noM k, b < 256 := fun b hb => by
  rcases zcp.1 hb with h | h
  · exact hB b h
  exact noM_lt _ b h
 have hpe : eS s0 128 = s0 ++ noM k := by unfold eS; rw [if_neg jo, show 128 - s0.length = k by omega]
 refine jX ?_
 refine qZ (qZ (qN ?_))
 refine jN (jv1 0 ?_)
 refine jS (jR (jM ?_))
 refine Ops.m (qV.octO rfl zt zg zac hob) rfl ?_
 rintro _ w8 ⟨CB, cc, rfl, hrC, hf8, hupC⟩
 refine ja rfl (jO (jN (jv1 2 ?_)))
 refine jT ?_
 refine qS rfl ?_
 rw [hkl, show s0.length + k = 128 by omega] at hrC ⊢
 rw [hpe]
 exact ⟨CB, cc, rfl, hrC, hf8, hupC⟩
theorem qVs (S : Option Addr) (n c : Nat) (l : List Cq) (w : World) (hn : n ≤ 1000) (hr : RdC w S n l) : Calls Tryz.prog 57 #[.slice S n c] w fun e w' => e = .returned (.bool (decide (cV (chL l)))) ∧ Frm [] w w' := by
 have hln := hr.len
 refine jV Tryz.func57 Tryz.ntmps57 Tryz.results57 ?_
 refine jS (jR (ja rfl (jO (jN (jv1 0 ?_)))))
 refine jS (jS (jR (jz 0 (jO (jN (jB ?_))))))
 refine VC.loop (σ := Nat) (fun s => [(0, .slice S n c), (3, jI1 s)]) (fun s wr => s ≤ n ∧ Frm [] w wr ∧ cV (chL (l.take s))) (fun s => n - s) 0 (js2 rfl rfl) ⟨zj _, Frm.refl _ _, by simp [cV, chL]⟩ ?_
 rintro i wr ⟨hi, K, hK⟩
 refine jS (jS (jR (jm rfl (jm rfl (jL rfl zap (jb rfl rfl (Bin.lssN _ _) (jO (jN (jv3 0 3 8 ?_)))))))))
 refine jD rfl (fun hc1 => ?_) fun hc1 => ?_
 ·
  obtain ⟨ad, hS, _⟩ := hr.cell hc1
  have hel : ∀ V, Frm [] w V → ∀ k, k < n → ∀ j v, (cqC (l.getD k cq0))[j]? = some v → V.cell? ((ad.add (k * 3)).add j) = some v := fun V hV k hk => by
   obtain ⟨a2, h2, h3⟩ := (hr.frm hV).cell hk
   rw [hS] at h2
   cases h2
   exact h3
  have hsn := gH (jo : i < l.length)
  have hxn := hr.num _ (nN (jo : i < l.length))
  have hms := uH (chL (l.take i)) (chO (l.getD i cq0))
  rw [← hsn] at hms
  have hKn : ¬ cV (chL (l.take (i + 1))) → ¬ cV (chL l) := fun h hm => h (by
   have := uM hm (i + 1)
   rw [chL, ← zdn] at this
   exact this)
  have heli : ∀ V, Frm [] wr V → ∀ j v, (cqC (l.getD i cq0))[j]? = some v → V.cell? ((ad.add (i * 3)).add j) = some v := fun V hV => hel V (K.trans hV jp) i hc1
  generalize l.getD i cq0 = x at heli hsn hxn hms
  obtain ⟨xa, ⟨xA, xc, xb⟩, xg⟩ := x
  dsimp only [chO] at hms hxn hsn
  rw [hS]
  refine jQ (jN (jv2 0 3 ?_))
  refine jS (jB (jS (jS ?_)))
  refine VC.split1 [(0, _), (3, _)] (js2 rfl rfl) 33 (.bool (decide (¬ (xb.length ≤ 4032 ∧ (xg = true → xb.length = 0))))) ?_ ?_
  ·
   refine jR ?_
   refine jm rfl (jm rfl (je (Run.indexS _ rfl rfl zap zbi jo) (jf rfl zak rfl zah (jl rfl zba (heli _ (Frm.refl _ _) 1 _ rfl) ?_))))
   rw [show SL (xA, xc, xb) = .slice xA xb.length xc from rfl]
   refine jL rfl zg (jb rfl rfl (Bin.gtrN _ 4032) ?_)
   by_cases hs17 : 4032 < xb.length
   ·
    refine jM ?_
    refine jU ?_
    refine jU ?_
    refine jU ?_
    refine jU ?_
    refine jU ?_
    refine jU ?_
    refine Ops.skU rfl rfl ?_
    refine Ops.skU rfl rfl ?_
    refine Ops.skU rfl rfl ?_
    refine Ops.skU rfl rfl ?_
    refine Ops.skU rfl rfl ?_
    refine Ops.skU rfl rfl ?_
    refine Ops.skU rfl rfl ?_
    refine jU ?_
    refine jW rfl rfl au (jO ?_)
    refine jN ⟨(js3 (jC (by grind)) rfl rfl), rfl⟩
   refine jM ?_
   refine jG ?_
   refine jG ?_
   refine jk (Run.indexS _ rfl rfl zap zbi jo) ?_
   refine jk (Run.fieldAddr rfl zak rfl zat jd) ?_
   refine jk (Run.load rfl zcr (heli _ (Frm.refl _ _) 2 _ rfl)) ?_
   by_cases hs23 : xg = true
   ·
    refine jG ?_
    refine jG ?_
    refine jG ?_
    refine jk (Run.indexS _ rfl rfl zap zbi jo) ?_
    refine jk (Run.fieldAddr rfl zak rfl zah jd) ?_
    refine jk (Run.load rfl zba (heli _ (Frm.refl _ _) 1 _ rfl)) ?_
    rw [show SL (xA, xc, xb) = .slice xA xb.length xc from rfl]
    refine jk (Run.lenS rfl zg) ?_
    refine jk (Run.bin rfl rfl (Bin.gtrN _ 0)) ?_
    by_cases hs31 : 0 < xb.length
    ·
     refine jk (Run.pickT rfl rfl au) ?_
     refine jF rfl rfl au (jO ?_)
     refine jN ⟨(js3 (jC (by grind)) rfl rfl), rfl⟩
    refine jk (Run.pickT rfl rfl au) ?_
    refine jF rfl rfl au (jO ?_)
    refine jN ⟨(js3 (jC (by grind)) rfl rfl), rfl⟩
   refine jG ?_
   refine jU ?_
   refine jU ?_
   refine jU ?_
   refine jU ?_
   refine jU ?_
   refine jU ?_
   refine jU ?_
   refine jk (Run.pickF rfl rfl au) ?_
   refine jF rfl rfl au (jO ?_)
   refine jN ⟨(js3 (jC (by grind)) rfl rfl), rfl⟩
  intro Γ hΓ
  refine jN (VC.sub _ hΓ ?_)
  refine jD rfl (fun hc2 => ?_) fun hc2 => ?_
  ·
   rw [show decide (cV (chL l)) = false from decide_eq_false (hKn (fun h => hc2 (hms.1 h).2.2))]
   refine jS (jR (ja rfl (jO (jN (jv1 2 ?_)))))
   refine jT ?_
   refine qQ (qR (qQ (qQ (qR (qQ (qS rfl ?_))))))
   exact ⟨rfl, K⟩
  have hc2 := Classical.not_not.1 hc2
  obtain ⟨wo, hwo⟩ : ∃ wo, wo = wr := ⟨_, rfl⟩
  refine jQ (jN (jv2 0 3 ?_))
  refine jS (jR (jz 0 (jO (jN (jB ?_)))))
  refine VC.loop (σ := Nat) (fun s => [(0, .slice (some ad) n c), (3, jI1 i), (4, jI1 s)]) (fun s wr => s ≤ i ∧ Frm [] wo wr ∧ xa ∉ (chL (l.take s)).map (·.1)) (fun s => i - s) 0 (js3 rfl rfl rfl) ⟨zj _, by rw [hwo]; exact Frm.refl _ _, by simp [chL]⟩ ?_
  rintro k wk ⟨hk, Kk, hno⟩
  rw [hwo] at Kk
  refine jS (jS (jR (jm rfl (jm rfl (jb rfl rfl (Bin.lssN _ _) (jO (jN (jv4 0 3 4 36 ?_))))))))
  refine jD rfl (fun hc3 => ?_) fun hc3 => ?_
  ·
   have hki : k < i := hc3
   have hsn2 := gH (jo : k < l.length)
   have helk := fun V (hV : Frm [] wk V) => hel V ((K.trans Kk jp).trans hV jp) k jo
   have heli2 := fun V (hV : Frm [] wk V) => heli V (Kk.trans hV jp)
   have hym : (chO (l.getD k cq0)).1 ∈ (chL (l.take i)).map (·.1) := List.mem_map.2 ⟨_, List.mem_map.2 ⟨l.getD k cq0, by
    rw [zb, ze (jo : k < l.length)]
    exact List.mem_take_iff_getElem.2 ⟨k, jo, rfl⟩, rfl⟩, rfl⟩
   generalize l.getD k cq0 = y at helk hsn2 hym
   obtain ⟨ya, ⟨yA, yc, yb⟩, yg⟩ := y
   dsimp only [chO] at hym hsn2
   refine jQ (jN (jv3 0 3 4 ?_))
   refine jS (jB (jS ?_))
   refine VC.still jK jK ?_
   refine qM ?_
   refine qM ?_
   refine qE (Run.indexS _ rfl rfl zap zbi jo) ?_
   refine qE (Run.fieldAddr rfl zak rfl zy jd) ?_
   refine qE (Run.load rfl zai (helk _ (qP.drew _).frm 0 _ rfl)) ?_
   refine qM ?_
   refine qM ?_
   refine qE (Run.indexS _ rfl rfl zap zbi jo) ?_
   refine qE (Run.fieldAddr rfl zak rfl zy jd) ?_
   refine qE (Run.load rfl zai (heli2 _ (qP.drew _).frm 0 _ rfl)) ?_
   refine qE (Run.bin rfl rfl (Bin.eqlN _ _)) ?_
   refine bJ.nil ?_
   refine jN (jv4 0 3 4 49 ?_)
   refine jD rfl (fun hc4 => ?_) fun hc4 => ?_
   ·
    have hc4 : ya = xa := hc4
    rw [show decide (cV (chL l)) = false from decide_eq_false (hKn (fun h => (hms.1 h).2.1 (hc4 ▸ hym)))]
    refine jS (jR (ja rfl (jO (jN (jv1 2 ?_)))))
    refine jT ?_
    refine qR (qQ (qQ (qR (qR (qQ (qQ (qR (qQ (qS rfl ?_)))))))))
    exact ⟨rfl, (K.trans Kk jp).drawn (qP.drew _)⟩
   refine jQ ?_
   refine qH (jN ?_)
   refine jv3 0 3 4 ?_
   refine jR (jm rfl (jb rfl rfl (Bin.add_i64 _ 1 jo) (ja rfl (jO ?_))))
   refine jN ⟨k + 1, (js3 rfl rfl rfl), ?_, ?_⟩
   ·
    exact ⟨hc3, by rw [hwo]; exact Kk.drawn (qP.drew _), by
     rw [hsn2, zv, zcp]
     rintro (h | h)
     · exact hno h
     simp at h; exact hc4 h.symm⟩
   exact jq
  obtain rfl : k = i := jo
  rw [← hS]
  refine jX ?_
  refine qZ (qZ (qN ?_))
  refine qH (jN ?_)
  refine jv2 0 3 ?_
  refine jR (jm rfl (jb rfl rfl (Bin.add_i64 _ 1 jo) (ja rfl (jO ?_))))
  refine jN ⟨k + 1, (js2 rfl rfl), ?_, ?_⟩
  · exact ⟨hc1, K.trans Kk jp, hms.2 ⟨hK, hno, hc2⟩⟩
  exact jq
 refine jX ?_
 refine qZ (qZ (qN ?_))
 refine jN ?_
 refine VC.sub [] .nil ?_
 refine jS (jR (ja rfl (jO (jN (jT ?_)))))
 refine qS rfl ?_
 obtain rfl : i = n := jo
 rw [zh jo] at hK
 rw [show decide (cV (chL l)) = true from decide_eq_true hK]
 exact ⟨rfl, K⟩
theorem qZr (xi : Nat) (xS : List Nat) (xA : Option Addr) (xc : Nat) (xp : List Nat) (xs : Nat) (w : World) (hS : ∀ b ∈ xS, b < 256) (hSl : xS.length ≤ 1000000) (hpn : xp.length ≤ 600) (hne : 126 * xp.length ≤ xS.length + 125) (hp : ∀ p ∈ xp, p < 2048) (hr : Rd w 1 xA xp.length (ZN xp)) :
  Calls Tryz.prog 62 #[.agg (rbC (xi, xS, (xA, xc, xp), xs)).toArray] w fun e w' => ∃ B d ps, e = .returned (.slice B xp.length d) ∧ Own w' 132 2 B xp.length d (ps.flatMap pqC) ∧ puL ps = dN xS xp ∧ PuS w.heap.size w' (ob B) ps ∧ Frm [] w w' ∧ ∀ x ∈ ob B, w.heap.size ≤ x := by
 refine jV Tryz.func62 Tryz.ntmps62 Tryz.results62 ?_
 refine jS (jR ?_)
 refine Ops.m (qV.box rfl) rfl ?_
 rintro _ w1 ⟨rfl, hF1⟩
 have hb1 : Blk w1 w.heap.size 111 #[jI2 xi, .string (qF xS), .slice xA xp.length xc, .int .u32 ((xs : Nat) : Int)] := hF1.blk
 have hr1 := hr.frm hF1.frm jp
 have K1 := hF1.frm
 have q1 := hF1.size
 generalize hg1 : w.heap.size = g1 at hb1 q1 ⊢
 refine ja rfl (jO (jN (jv1 1 ?_)))
 refine jS (jR (ja rfl (jO (jN (jS (jS (jR (jz 0 (jO (jN (jB ?_)))))))))))
 refine VC.loop (σ := Nat × Option Addr × Nat × List Pq) (fun s => [(1, jI0 g1), (3, .slice s.2.1 s.1 s.2.2.1), (4, jI1 s.1)]) (fun s wr => s.1 ≤ xp.length ∧ Own wr 132 2 s.2.1 s.1 s.2.2.1 (s.2.2.2.flatMap pqC) ∧ puL s.2.2.2 = lO xS xp s.1 ∧ PuS g1 wr (ob s.2.1) s.2.2.2 ∧ Frm [] w1 wr ∧ ∀ x ∈ ob s.2.1, w1.heap.size ≤ x) (fun s => xp.length - s.1) (0, none, 0, []) (js3 rfl rfl rfl) ⟨zj _, Own.nil _ _ _, rfl, PuS.nil _ _ _, Frm.refl _ _, by simp [ob]⟩ ?_
 rintro ⟨i, B, d, ps⟩ wr ⟨hi, ho, hps, hpu, K, hup⟩
 dsimp only at hi ho hps hpu hup ⊢
 have ks := K.size
 have hb := hb1.frm K jp
 have hbV : ∀ V, Frm (ob B) wr V → Blk V g1 111 #[jI2 xi, .string (qF xS), .slice xA xp.length xc, .int .u32 ((xs : Nat) : Int)] := fun V hV => hb.frm hV (fun h => by have := hup _ h; omega)
 refine jS (jS (jR (jm rfl (jf rfl zal rfl zax (jl rfl zbx (hb.cell 2) (jL rfl zn (jb rfl rfl (Bin.lssN _ _) (jO (jN (jv4 1 3 4 11 ?_))))))))))
 refine jD rfl (fun hc1 => ?_) fun hc1 => ?_
 ·
  obtain ⟨P, hP⟩ : ∃ P, P = fR xS i := ⟨_, rfl⟩
  have hPn := nM xS i
  rw [← hP] at hPn
  have hPlt : ∀ b ∈ P, b < 256 := by rw [hP]; exact wL hS i
  have hsn := vF xS xp i
  have hlk : dG xS xp i = eS (qC (eD xp i) 2 ++ P) 128 := by rw [hP]; rfl
  have hllen := uY xS xp i
  have h126 : P.length ≤ 126 := by rw [hPn]; exact zel _ _
  obtain ⟨ad, hA, hcA⟩ := rdZ (hr1.frm K jp) rfl hc1
  have hcV : ∀ V, Frm (ob B) wr V → V.cell? (ad.add i) = some (jI1 (xp.getD i 0)) := fun V hV => by
   obtain ⟨a2, h2, h3⟩ := rdZ ((hr1.frm K jp).frm hV (fun h0 y hy h => by have := hr1.lt h0 y hy; have := hup y h; omega)) rfl hc1
   rw [hA] at h2
   cases h2
   exact h3
  have hpx := hp _ (bG hc1)
  have hnl : eD xp i ≤ 2048 := by
   unfold eD
   split
   · have := hp _ (bG (jo : i + 1 < xp.length)); omega
   omega
  have hq2 : (126 * i ≤ xS.length ∧ (126 * i + P.length = 126 * (i + 1) ∧ 126 * (i + 1) ≤ xS.length ∨ 126 * i + P.length = xS.length ∧ xS.length ≤ 126 * (i + 1))) := by
   rw [hPn]
   rcases Nat.le_total 126 (xS.length - 126 * i) with h | h
   · rw [show Nat.min (xS.length - 126 * i) 126 = 126 from zej h]; omega
   rw [show Nat.min (xS.length - 126 * i) 126 = xS.length - 126 * i from zbh h]; omega
  have hPe : (xS.take (126 * i + P.length)).drop (126 * i) = P := by
   rw [List.drop_take, zhp, hP]
   exact oE _ _
  have hfl : ∀ b ∈ qC (eD xp i) 2 ++ P, b < 256 := fun b hb => by
   rcases zcp.1 hb with h | h
   · exact numL_lt _ _ b h
   exact hPlt b h
  obtain ⟨p, hpe⟩ : ∃ p, p = xp.getD i 0 := ⟨_, rfl⟩
  rw [← hpe] at hcV hcA hpx hsn
  refine jQ (jN (jv3 1 3 4 ?_))
  refine jS (jB (jS (jR (jz 0 (jO (jN (jS (jS (jR (jm rfl (jb rfl rfl (Bin.add_i64 _ 1 jo) (jf rfl zal rfl zax (jl rfl zbx (hb.cell 2) (jL rfl zn (jb rfl rfl (Bin.lssN _ _) (jO (jN (jv5 1 3 4 5 19 ?_))))))))))))))))))
  refine VC.meet (σ := Unit) (fun s => [(1, jI0 g1), (3, .slice B i d), (4, jI1 i), (5, jI1 (eD xp i))]) (fun s wz => wr = wz) ?_ ?_
  ·
   refine jD rfl (fun hc2 => ?_) fun hc2 => ?_
   ·
    obtain ⟨adM, hLb, helM⟩ := rdZ (hr1.frm K jp) rfl hc2
    have hpy := hp _ (bG hc2)
    refine jR (jf rfl zal rfl zax (jl rfl zbx (hb.cell 2) ?_))
    rw [hLb]
    refine jm rfl (jb rfl rfl (Bin.add_i64 _ 1 jo) (je (Run.index1 _ rfl rfl zn zm jo) (jl rfl zaa helM (jb rfl rfl (Bin.add_i64 _ 1 jo) (ja rfl (jO ?_))))))
    refine jN ⟨(), (js4 rfl rfl rfl (by rw [eD, if_pos jo]; rfl)), ?_⟩
    rfl
   refine jQ ?_
   refine jN ⟨(), (js4 rfl rfl rfl (by rw [eD, if_neg jo]; rfl)), ?_⟩
   rfl
  rintro _ _ rfl Γ hΓ
  refine jN (VC.sub _ hΓ (jS (jR (jm rfl (jb rfl rfl (Bin.add_i64 _ 1 jo) (jb rfl rfl (Bin.mul_i64 126 _ jo) (ja rfl (jO (jN (jv5 1 3 4 5 6 ?_))))))))))
  refine jS (jS (jR (jm rfl (jf rfl zal rfl zbm (jl rfl zde (hb.cell 1) (je (Run.lenO rfl zt) (jb rfl rfl (Bin.gtrN _ _) (jO (jN (jv6 1 3 4 5 6 34 ?_))))))))))
  refine VC.meet (σ := Unit) (fun s => [(1, jI0 g1), (3, .slice B i d), (4, jI1 i), (5, jI1 (eD xp i)), (6, jI1 (126 * i + P.length))]) (fun s wz => wr = wz) ?_ ?_
  ·
   refine jD rfl (fun hc3 => ?_) fun hc3 => ?_
   ·
    refine jR (jf rfl zal rfl zbm (jl rfl zde (hb.cell 1) (je (Run.lenO rfl zt) (ja rfl (jO ?_)))))
    refine jN ⟨(), (js5 rfl rfl rfl rfl (by rw [show 126 * i + P.length = xS.length by omega]; rfl)), ?_⟩
    rfl
   refine jQ ?_
   refine jN ⟨(), (js5 rfl rfl rfl rfl (by rw [show 126 * i + P.length = 126 * (i + 1) by omega]; rfl)), ?_⟩
   rfl
  rintro _ _ rfl Γ hΓ
  refine jN (VC.sub _ hΓ ?_)
  refine VC.held (fun V => Frm (ob B) wr V) jK ?_
  have hT : Frm [] wr wr.drew := (Frm.refl _ _).drew
  have hS : Frm (ob B) wr wr.drew := (Frm.refl _ _).drew
  refine jh 0 hS ?_
  refine jH 1 rfl hS (fun w0 hw0 => Run.fieldAddr rfl zal rfl zax jd) ?_
  refine jH 2 rfl hS (fun w0 hw0 => Run.load rfl zbx ((hbV _ hw0).cell 2)) ?_
  rw [hA]
  refine jh 3 hS ?_
  refine jH 4 rfl hS (fun w0 hw0 => Run.index1 _ rfl rfl zn zm jo) ?_
  refine jH 5 rfl hS (fun w0 hw0 => Run.load rfl zaa (hcV _ hw0)) ?_
  refine jH 6 rfl hS (fun w0 hw0 => Run.bin rfl rfl (Bin.add_i64 42 _ jo)) ?_
  refine jh 7 hS ?_
  refine jH 8 rfl hS (fun w0 hw0 => Run.convN _ rfl zz zr (by simp only [bmax]; omega)) ?_
  refine jH 10 rfl hS (fun w0 hw0 => Run.fieldAddr rfl zal rfl zbm jd) ?_
  refine jH 11 rfl hS (fun w0 hw0 => Run.load rfl zde ((hbV _ hw0).cell 1)) ?_
  refine jh 12 hS ?_
  refine jH 13 rfl hS (fun w0 hw0 => Run.bin rfl rfl (Bin.mul_i64 126 _ jo)) ?_
  refine jh 14 hS ?_
  refine jH 15 rfl hS (fun w0 hw0 => Run.sliceO (126 * i) (126 * i + P.length) rfl zt (evB.some_ rfl) (evB.some_ rfl) jo jo) ?_
  rw [hPe]
  refine qJ.cl 9 rfl jK (jE2 zgm) (kQ (eD xp i) 2 _ jo jo jo) trivial rfl rfl ?_
  rintro e w2 ⟨rfl, hf2⟩
  refine ⟨_, rfl, hS.trans hf2 jp, ?_⟩
  have hS := hS.trans hf2 jp
  have hT := hT.trans hf2 jp
  refine jH 16 rfl hS (fun w0 hw0 => Run.addO rfl rfl (by rw [numL_len]; omega)) ?_
  refine qJ.cl 17 rfl jK (jE1 Tryz.call66) (tY (qC (eD xp i) 2 ++ P) _ (by rw [zf, numL_len]; omega) hfl) trivial rfl rfl ?_
  rintro e w4 ⟨B4, d4, rfl, ho4, hf4, hup4⟩
  rw [← hlk] at ho4
  refine ⟨_, rfl, hS.trans hf4 jp, ?_⟩
  have s4 := hS.size
  have hS := hS.trans hf4 jp
  have hT := hT.trans hf4 jp
  refine jH 18 rfl hS (fun w0 hw0 => Run.build (evs.cons rfl (evs.cons rfl evs.nil)) cP (cR).choose_spec.1 (cR).choose_spec.2 (cells := (pqC (42 + p, (B4, d4, dG xS xp i))).toArray) (by rw [pqC, SL, hllen]; rfl)) ?_
  refine qJ.m 19 rfl jK (qV.buildS1 rfl zx zbe cP jd jd rfl rfl) trivial rfl rfl ?_
  rintro _ w5 ⟨rfl, hF5⟩
  refine ⟨hS.trans hF5.frm jp, ?_⟩
  have hr5 : Rd w5 2 (some ⟨w4.heap.size, 0, none⟩) 1 (pqC (42 + p, (B4, d4, dG xS xp i))) := Rd.of_blk (n := 1) (size := 2) hF5.blk rfl
  have hS := hS.trans hF5.frm jp
  have hT := hT.trans hF5.frm jp
  have hOlt := ho.lt
  have ho := ho.frm hT jp
  have hpu := hpu.frm hT
  have K := K.trans hT jp
  have s5 := hS.size
  refine qJ.m 20 rfl jK (qV.app rfl rfl zx (gW) rfl jd ho hr5 (eG _) jo jo) trivial rfl rfl ?_
  rintro _ w6 ⟨B6, d6, rfl, ho6, hf6, hob6⟩
  refine ⟨hS.trans hf6 (fun x hx => .inl hx), ?_⟩
  have hS := hS.trans hf6 (fun x hx => .inl hx)
  have hk6 : Fk (ob B) w5 w6 (ob B6) := Fk.of_app hf6 hob6
  have ho4w := (ho4.frm hF5.frm jp).frm hf6 (fun _ x hx hy => by have := hOlt x hy; have := hup4 x hx; omega)
  have hnew : ∀ y ∈ ob B4, (y < w6.heap.size ∧ y ∉ ob B6) ∧ g1 ≤ y := fun y hy => by
   have h1 := ho4.lt jo y hy
   have h2 := hup4 y hy
   have h3 := hf6.size
   have h4 := hF5.frm.size
   refine ⟨⟨jo, fun hy6 => ?_⟩, jo⟩
   rcases hob6 with h | h
   · rw [h] at hy6; have := hOlt y hy6; omega
   rw [h, za] at hy6; omega
  have hpu := (hpu.fk hk6).snoc (x := (42 + p, (B4, d4, dG xS xp i))) (by rw [hllen]; exact ho4w) hnew
  have hup6 := hk6.up hup jo
  have K := K.own hf6 hup
  have e6 : ps.flatMap pqC ++ pqC (42 + p, (B4, d4, dG xS xp i)) = (ps ++ [(42 + p, (B4, d4, dG xS xp i))]).flatMap pqC := jp
  rw [e6] at ho6
  refine jH 21 rfl hS (fun w0 hw0 => Run.asg rfl) ?_
  refine qJ.done jK ?_
  refine qH (jN ?_)
  refine jv3 1 3 4 ?_
  refine jR (jm rfl (jb rfl rfl (Bin.add_i64 _ 1 jo) (ja rfl (jO ?_))))
  refine jN ⟨(i + 1, B6, d6, ps ++ [(42 + p, (B4, d4, dG xS xp i))]), (js3 rfl rfl rfl), ?_, ?_⟩
  · exact ⟨hc1, ho6, by dsimp only; rw [hsn, ← hps]; simp [puL], hpu, K, hup6⟩
  exact jq
 refine jX ?_
 refine qZ (qZ (qN ?_))
 refine jN (jv1 3 ?_)
 refine jS (jR (jm rfl (ja rfl (jO (jN (jv1 2 ?_))))))
 refine jT ?_
 refine qS rfl ?_
 obtain rfl : i = xp.length := jo
 exact ⟨B, d, ps, rfl, ho, hps, hpu, K1.trans K jp, fun x hx => by have := hup x hx; omega⟩
theorem qJs (xi : Nat) (xS : List Nat) (xA : Option Addr) (xc : Nat) (xp : List Nat) (xs : Nat) (w : World) (hi : xi < 18446744073709551616) (hSl : xS.length ≤ 4032) (hs : xs < 4294967296) (hp : ∀ p ∈ xp, p < 2048) (hpn : xp.length ≤ 600) (hr : Rd w 1 xA xp.length (ZN xp)) :
  Calls Tryz.prog 64 #[.agg (rbC (xi, xS, (xA, xc, xp), xs)).toArray] w fun e w' => e = .returned (.agg (prC (xi, atP xp + xS.length * 65536 + xs * 4294967296)).toArray) ∧ Frm [] w w' := by
 refine jV Tryz.func64 Tryz.ntmps64 Tryz.results64 ?_
 refine jS (jR ?_)
 refine Ops.m (qV.box rfl) rfl ?_
 rintro _ w1 ⟨rfl, hF1⟩
 have hb1 : Blk w1 w.heap.size 111 #[jI2 xi, .string (qF xS), .slice xA xp.length xc, .int .u32 ((xs : Nat) : Int)] := hF1.blk
 have hr1 := hr.frm hF1.frm jp
 have K1 := hF1.frm
 have q1 := hF1.size
 generalize hg1 : w.heap.size = g1 at hb1 q1 ⊢
 refine Ops.m (qV.alloc dL) rfl ?_
 rintro _ w2 ⟨rfl, hF2⟩
 have hb2 := hb1.frm hF2.frm jp
 have hr2 := hr1.frm hF2.frm jp
 have K2 := K1.trans hF2.frm jp
 have hat : atP xp ≤ 2048 := by
  unfold atP
  split
  · omega
  have := hp _ (bG (jo : 0 < xp.length))
  omega
 refine jO (jN (jv2 1 2 ?_))
 refine jS (jR ?_)
 refine jy .u64 0 ?_
 refine jO (jN (jS (jS (jR (jf rfl zal rfl zax (jl rfl zbx (hb2.cell 2) (jL rfl zn (jb rfl rfl (Bin.gtrN _ 0) (jO (jN (jv4 1 2 3 7 ?_)))))))))))
 refine VC.meet (σ := Unit) (fun s => [(1, jI0 g1), (2, jI0 w1.heap.size), (3, jI2 (atP xp))]) (fun s wz => w2 = wz) ?_ ?_
 ·
  refine jD rfl (fun hc1 => ?_) fun hc1 => ?_
  ·
   obtain ⟨ad, hA, hel⟩ := rdZ hr2 rfl hc1
   have hpx := hp _ (bG hc1)
   refine jR (jf rfl zal rfl zax (jl rfl zbx (hb2.cell 2) ?_))
   rw [hA]
   refine je (Run.index1 0 rfl rfl zn zm jo) (jl rfl zaa hel (je (Run.convN _ rfl zz zr (by simp only [bmax]; omega)) (jb rfl rfl (Bin.add_u64 _ 1 jo) (ja rfl (jO ?_)))))
   refine jN ⟨(), (js3 rfl rfl (by rw [atP, if_neg jo]; rfl)), ?_⟩
   rfl
  refine jQ ?_
  refine jN ⟨(), (js3 rfl rfl (by rw [atP, if_pos jo]; rfl)), ?_⟩
  rfl
 rintro _ _ rfl Γ hΓ
 refine jN (VC.sub _ hΓ (jS (jR (jf rfl zal rfl zy (jl rfl zai (hb2.cell 0) (jm rfl (jf rfl zal rfl zbm (jl rfl zde (hb2.cell 1) (je (Run.lenO rfl zt) (je (Run.convN _ rfl zz zr (by simp only [bmax]; omega)) (jb rfl rfl (Bin.mul_u64 _ 65536 jo) (jb rfl rfl (Bin.add_u64 _ _ jo) (jf rfl zal rfl zgb (jl rfl Tryz.isAgg109 (hb2.cell 3) (je (Run.convN _ rfl zby zr (by simp only [bmax]; omega)) (jb rfl rfl (Bin.mul_u64 _ 4294967296 jo) (jb rfl rfl (Bin.add_u64 _ _ jo) (je (Run.build (evs.cons rfl (evs.cons rfl evs.nil)) dL (fE).choose_spec.1 (fE).choose_spec.2 (cells := (prC (xi, atP xp + xS.length * 65536 + xs * 4294967296)).toArray) rfl) ?_))))))))))))))))))
 refine Ops.st (qT.storeA rfl rfl zu hF2.blk rfl (eH _)) ?_
 rintro w3 ⟨hb3, hf3, hs3⟩
 refine jO (jN (jv1 2 ?_))
 refine jT ?_
 refine eO ?_
 refine cW rfl zea zu (hb3.cells) (by first | rfl | (simp; done) | (simp [*]; done)) ?_
 refine cY ?_
 exact ⟨rfl, K2.own hf3 (by simp; omega)⟩
end
end Go.Proofs.YtoniopdkbeogjaaGreat
