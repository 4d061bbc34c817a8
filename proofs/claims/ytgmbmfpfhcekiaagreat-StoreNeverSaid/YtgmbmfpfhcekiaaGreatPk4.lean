/-
  Lemmas on the way, joined: StoQN.
-/
import Derived.Test.YtgmbmfpfhcekiaaGreatPk3
set_option maxRecDepth 100000
set_option linter.unusedVariables false
set_option linter.unusedSimpArgs false
namespace Go.Proofs.YtgmbmfpfhcekiaaGreat
section
open Go.RowKit Go.Sort
theorem tL (q : Tx) (h : q.length ≤ 1000) : keyOf Tryz.prog 9 (encStr q) = some (.string q) := by
 have hs : (⟨q.toArray⟩ : ByteArray).size ≤ maxLen := by show q.toArray.size ≤ _; simp [maxLen]; omega
 simp [keyOf, mapKey, zn, encStr, hs]
theorem wY : ∀ a b : Tx, encStr a = encStr b → a = b := fun a b h => by
 injection h with h
 have := congrArg (fun x : ByteArray => x.data.toList) h
 simpa using this
def Stb (L : List Nat) (w : World) (m : MlC) : Prop := ∀ w'' T, Frm T w w'' → (∀ y ∈ T, y ∈ L ∨ w.heap.size ≤ y) → RdL w'' m
theorem Stb.now {L : List Nat} {w : World} {m : MlC} (h : Stb L w m) : RdL w m := h w [] (Frm.refl _ _) jp
theorem Stb.step {L : List Nat} {w w' : World} {T : List Nat} {m : MlC} (h : Stb L w m) (k : Frm T w w') (hT : ∀ y ∈ T, y ∈ L ∨ w.heap.size ≤ y) : Stb L w' m := fun w'' T2 k2 h2 =>
 h w'' (T ++ T2) ((k.mono (fun y hy => .inl (zcx _ hy))).trans k2 (fun y hy => .inl (zcl _ hy))) (fun y hy => by
  rcases List.mem_append.1 hy with q | q
  · exact hT y q
  rcases h2 y q with q | q
  · exact .inl q
  exact .inr (zar k.size q))
theorem Stb.frm {L : List Nat} {w w' : World} {m : MlC} (h : Stb L w m) (k : Frm [] w w') : Stb L w' m := h.step k jp
theorem Stb.one {L : List Nat} {w w' : World} {g : Nat} {m : MlC} (h : Stb L w m) (k : Frm [g] w w') (hg : g ∈ L) : Stb L w' m := h.step k (fun y hy => by rw [za] at hy; rw [hy]; exact .inl hg)
theorem Stb.add {L : List Nat} {w w' : World} {g : Nat} {m : MlC} (h : Stb L w m) (k : Frm [] w w') (hg : w.heap.size ≤ g) : Stb (g :: L) w' m := fun w'' T k2 h2 =>
 h w'' T (k.mono jp |>.trans k2 (fun y hy => .inl hy)) (fun y hy => by
  rcases h2 y hy with q | q
  ·
   rcases zy.1 q with q | q
   · exact .inr jo
   exact .inl q
  exact .inr (zar k.size q))
theorem Stb.less {L : List Nat} {w : World} {g : Nat} {m : MlC} (h : Stb (g :: L) w m) : Stb L w m := fun w'' T k2 h2 => h w'' T k2 (fun y hy => (h2 y hy).imp (zce _) id)
theorem pW {T L : List Nat} {w w' : World} (k : Frm T w w') (h : ∀ y ∈ T, y ∈ L ∨ w.heap.size ≤ y) : Frm L w w' := k.mono h
theorem qZo {L : List Nat} {w w' : World} {S : List Nat} {m x : MlC} (h : Stb L w m) (f : Frm [] w w') (hk : bA w w' S m x) (hL : ∀ y ∈ L, y < w.heap.size) : Stb L w' x := fun w'' T k hT =>
 hk.2 w'' L (pW k hT) (fun y hy hS => by
  have := hk.1 y hS
  have := hL y hy
  omega) (h.frm f w'' T k hT)
theorem sW {L : List Nat} {w w' : World} {m x : MlC} (h : Stb L w m) (f : Frm [] w w') (hk : Kt w w' m x) (hL : ∀ y ∈ L, y < w.heap.size) (hN : ∀ y ∈ L, dG w' y) : Stb L w' x := fun w'' T k hT =>
 hk w'' L (pW k hT) (fun y hy => ⟨hL y hy, hN y hy⟩) (h.frm f w'' T k hT)
theorem qX1 {g3 : Nat} {w : World} {m : MlC} {cs : Array Value} (h : OwL w m) (hb : Blk w g3 25 cs) : Stb [g3] w m := fun w'' T k hT => (h.blk (pW k hT) hb jd jd jd).rdl
theorem mM {P : Program} {k : TypeId} {enc : Tx → Value} {w : World} {g : Nat} {M : Tx → Option Value} (h : MpF P k enc w g M) : dG w g := by
 obtain ⟨es, c, hh, _⟩ := h
 exact ⟨fun cs hb => (by unfold Blk at hb; rw [hh] at hb; cases hb), fun cs hb => (by unfold Blk at hb; rw [hh] at hb; cases hb)⟩
def eN (L : List Nat) (w : World) (m x : MlC) (s : Tx) (a k : Nat) : Prop := k = 0 → qI x.p ∧ m.v ≤ x.v ∧ m.b ≤ x.b ∧ Stb L w x ∧ (a < 2 → ∃ b, eU x.p s = some b ∧ m.v < b.valid)
theorem eN.one {L : List Nat} {w w' : World} {g : Nat} {m x : MlC} {s : Tx} {a k : Nat} (h : eN L w m x s a k) (f : Frm [g] w w') (hg : g ∈ L) : eN L w' m x s a k := fun h0 => by
 obtain ⟨h1, h2, h3, h4, h5⟩ := h h0
 exact ⟨h1, h2, h3, h4.one f hg, h5⟩
theorem lt3 {a b c n : Nat} (h1 : a < n) (h2 : b < n) (h3 : c < n) : ∀ y ∈ [a, b, c], y < n := by
 intro y hy
 simp only [zy, zaa, or_false] at hy
 rcases hy with rfl | rfl | rfl <;> assumption
theorem no3 {w : World} {a b c : Nat} (h1 : dG w a) (h2 : dG w b) (h3 : dG w c) : ∀ y ∈ [a, b, c], dG w y := by
 intro y hy
 simp only [zy, zaa, or_false] at hy
 rcases hy with rfl | rfl | rfl <;> assumption
theorem qZ4 {w w' : World} {m x : MlC} {F : Except Nat MailP} (h : bF w w' m F x 0) : F = .ok x.p := by
 obtain ⟨_, ⟨_, h⟩ | ⟨h, _⟩⟩ := h
 · exact h
 exact absurd rfl h
theorem mN {L : List Nat} {w w' : World} {m x : MlC} {F : Except Nat MailP} {s : Tx} {a k : Nat} (h : bF w w' m F x k) (hs : Stb L w m) (f : Frm [] w w') (hL : ∀ y ∈ L, y < w.heap.size)
  (hF : ∀ y, F = .ok y → qI y ∧ m.v ≤ y.valid ∧ m.b ≤ y.blob ∧ (a < 2 → ∃ b, eU y s = some b ∧ m.v < b.valid)) : eN L w' m x s a k := by
 rintro rfl
 obtain ⟨q1, q2, q3, q4⟩ := hF _ (qZ4 h)
 obtain ⟨⟨S, hS⟩, _⟩ := h
 exact ⟨q1, q2, q3, qZo hs f hS hL, q4⟩
theorem yS (q : Tx) : (q.take 70).length ≤ 70 := zeb _ _
def rJ : Mc := ⟨⟨0, 0, 0, 0, 0, []⟩, none, 0⟩
theorem yU {w : World} {A : Option Addr} {l : List Tx} {k : Nat} (h : Rd w 1 A l.length (SB l)) (hk : k < l.length) : ∃ ad, A = some ad ∧ w.cell? ((ad.add (k * 1)).add 0) = some (encStr l[k]) := by
 obtain ⟨ad, hA, hc⟩ := h.elem hk
 exact ⟨ad, hA, hc 0 _ (by simp [SB, ze hk])⟩
theorem yB {w : World} {A : Option Addr} {l : List Nat} {k : Nat} (h : Rd w 1 A l.length (NB l)) (hk : k < l.length) : ∃ ad, A = some ad ∧ w.cell? ((ad.add (k * 1)).add 0) = some (.int .u8 ((l[k] : Nat) : Int)) := by
 obtain ⟨ad, hA, hc⟩ := h.elem hk
 exact ⟨ad, hA, hc 0 _ (by simp [NB, ze hk])⟩
set_option maxHeartbeats 2000000 in
theorem sY (m : MlC) (N : Option Addr) (nc : Nat) (ns : List Tx) (C : Option Addr) (ac : Nat) (bs : List Nat) (w : World) (hm : RawL w m) (hns : Rd w 1 N ns.length (SB ns)) (has : Rd w 1 C bs.length (NB bs)) (h8 : ∀ b ∈ bs, b < 256) (hv : cX w) :
  Calls Tryz.prog 9 #[m.val, .slice N ns.length nc, .slice C bs.length ac] w fun e w' => e = .returned (.bool true) ∧ Frm [] w w' := by
 refine VC.calls (nt := 177) (res := #[.tmp 6]) Tryz.func9 rfl Tryz.ntmps9 Tryz.results9 rfl ?_
 refine jS (jR ?_)
 refine Ops.m (qJ.box rfl) rfl ?_
 rintro _ w1 ⟨rfl, hF1⟩
 have hb3 : Blk w1 w.heap.size 25 m.cells.toArray := hF1.blk
 have K := hF1.frm
 have hsK := K.size
 generalize hg3 : w.heap.size = g3 at hb3 ⊢
 refine ja rfl (jO (jN (jv3 1 2 3 ?_)))
 refine jS (jR (je (Run.loadA rfl zc zb (fun j v hj => hb3.cells j v hj) (by first | rfl | (simp; done))) ?_))
 refine Ops.cl (jE1 Tryz.call11) (vD m _ (hm.frm K)) rfl ?_
 rintro e w2 ⟨m1, rfl, hpm1, hO1, hvm1, _, hf_w2⟩
 refine ⟨_, rfl, ?_⟩
 have hb3 := hb3.frm hf_w2 jp
 have K := Frm.trans K hf_w2 jp
 refine Ops.st (qK.storeA rfl rfl zb hb3 rfl (MlC.cells_one m1)) ?_
 rintro w3 ⟨hbn_w3, hf_w3, hsz_w3⟩
 have hO1 := hO1.blk hf_w3 hb3 jd jd jd
 have hb3 : Blk w3 g3 25 (m1.cells.toArray) := hbn_w3
 have K := Frm.own K hf_w3 (fun y hy => by simp at hy; omega)
 refine jO (jN (jv3 1 2 3 ?_))
 refine jS (jS ?_)
 refine VC.splitR [(1, .slice N ns.length nc), (2, .slice C bs.length ac), (3, .pointer (some ⟨g3, 0, none⟩))] (Frm [] w3) 24 (.bool (decide (¬ qI m1.p ∨ ns.length = 0))) ?_ ?_
 ·
  refine jR (je (Run.loadA rfl zc zb (fun j v hj => hb3.cells j v hj) (by first | rfl | (simp; done))) ?_)
  refine Ops.cl (jE1 zdh) (cF m1 _ hO1.rdl (hv.frm K)) rfl ?_
  rintro e w4 ⟨rfl, hf_w4⟩
  refine ⟨_, rfl, ?_⟩
  by_cases hs18 : qI m1.p
  ·
   refine je (Run.not rfl) (jM ?_)
   refine jG ?_
   refine jk (Run.lenS rfl zd) ?_
   refine jk (Run.bin rfl rfl (Bin.eqlN _ 0)) ?_
   refine je (Run.pickF rfl rfl au) (jO ?_)
   refine jN ⟨(js4 (jC (by first | exact (decide_eq_true (p := ¬ qI m1.p ∨ ns.length = 0) (.inl hs18)).symm | exact decide_eq_decide.2 ⟨.inr, fun h => h.resolve_left (fun q => q hs18)⟩)) rfl rfl rfl), (hf_w4)⟩
  refine je (Run.not rfl) (jM ?_)
  refine jU ?_
  refine jU ?_
  refine jU ?_
  refine je (Run.pickT rfl rfl au) (jO ?_)
  refine jN ⟨(js4 (jC (by first | exact (decide_eq_true (p := ¬ qI m1.p ∨ ns.length = 0) (.inl hs18)).symm | exact decide_eq_decide.2 ⟨.inr, fun h => h.resolve_left (fun q => q hs18)⟩)) rfl rfl rfl), (hf_w4)⟩
 intro Γ w4 hΓ hf_w4
 refine jN (VC.sub _ hΓ ?_)
 refine jD rfl (fun hc1 => ?_) fun hc1 => ?_
 ·
  have hb3 := hb3.frm hf_w4 jp
  have hO1 := hO1.frm hf_w4
  have K := Frm.trans K hf_w4 jp
  refine jS (jR ?_)
  refine Ops.cl (jE0 Tryz.call16) (mV _ (hv.frm K)) rfl ?_
  rintro e w5 ⟨rfl, hf_w5⟩
  refine ⟨_, rfl, ?_⟩
  have hb3 := hb3.frm hf_w5 jp
  have hO1 := hO1.frm hf_w5
  have K := Frm.trans K hf_w5 jp
  refine ja rfl (jO (jN (jv1 6 ?_)))
  refine jT ?_
  refine qZ (qL rfl ?_)
  exact ⟨rfl, K⟩
 have hb3 := hb3.frm hf_w4 jp
 have hO1 := hO1.frm hf_w4
 have K := Frm.trans K hf_w4 jp
 have hmay : qI m1.p := Classical.not_not.1 (fun h => hc1 (.inl h))
 have hn0 : 0 < ns.length := Nat.pos_of_ne_zero (fun h => hc1 (.inr h))
 refine jQ (jN (jv3 1 2 3 ?_))
 refine jS (jR ?_)
 refine Ops.m (qJ.makeMap (k := 9) (enc := encStr)) rfl ?_
 rintro _ w6 ⟨rfl, hmp, hf6, hs6⟩
 have hgm : w.heap.size ≤ w4.heap.size := K.size
 have hgl : g3 < w4.heap.size := hb3.lt
 have hStb := (qX1 hO1 hb3).add hf6 (zw _)
 have K := K.trans hf6 jp
 have hb3 := hb3.frm hf6 jp
 generalize hgg : w4.heap.size = gm at hmp hgm hgl hStb ⊢
 refine ja rfl (jO (jN (jv4 1 2 3 7 ?_)))
 refine jS (jS (jR (jz 0 (jO (jN (jB ?_))))))
 refine VC.loop (σ := Nat × MlC × (Tx → Option Value)) (fun s => [(1, .slice N ns.length nc), (2, .slice C bs.length ac), (3, .pointer (some ⟨g3, 0, none⟩)), (7, .map (some gm)), (8, .int .i64 ((s.1 : Nat) : Int))]) (fun s wr => s.1 ≤ bs.length ∧ s.1 ≤ 40 ∧ Blk wr g3 25 s.2.1.cells.toArray ∧ MpF Tryz.prog 9 encStr wr gm s.2.2 ∧ Stb [gm, g3] wr s.2.1 ∧ qI s.2.1.p ∧ (∀ q : Tx, ∃ z : Int, (s.2.2 q).getD (.int .i64 0) = .int .i64 z ∧ z ≤ s.2.1.v) ∧ g3 < gm ∧ Frm [] w wr) (fun s => bs.length - s.1) (0, m1, fun _ => none) (js5 rfl rfl rfl rfl rfl) ⟨zal _, zal _, hb3, hmp, hStb, hmay, fun q => ⟨0, rfl, by have := (cZ hmay).2.1; show (0 : Int) ≤ m1.v; omega⟩, hgl, K⟩ ?_
 rintro ⟨i, mm, M⟩ wr ⟨hi, hi40, hb3, hmp, hStb, hmay, hseen, hgl, K⟩
 dsimp only at *
 obtain ⟨hm24, hv1, hv2, hb0, hb2, hr, hin⟩ := cZ hmay
 refine jS (jS ?_)
 refine VC.split1 [(1, _), (2, _), (3, _), (7, _), (8, _)] (js5 rfl rfl rfl rfl rfl) 34 (.bool (decide (i < bs.length ∧ i < 40))) ?_ ?_
 ·
  refine jR ?_
  refine jm rfl (jm rfl (je (Run.lenS rfl zbb) (jb rfl rfl (Bin.lssN _ _) ?_)))
  by_cases hs30 : i < bs.length
  ·
   refine jM ?_
   refine jG ?_
   refine jk (Run.bin rfl rfl (Bin.lssN _ 40)) ?_
   by_cases hs33 : i < 40
   ·
    refine je (Run.pickT rfl rfl au) (jO ?_)
    refine jN ⟨(js6 (jC (by first | (simp [hs30, hs33]; done) | (simp [hs30]; done))) rfl rfl rfl rfl rfl), rfl⟩
   refine je (Run.pickT rfl rfl au) (jO ?_)
   refine jN ⟨(js6 (jC (by first | (simp [hs30, hs33]; done) | (simp [hs30]; done))) rfl rfl rfl rfl rfl), rfl⟩
  refine jM ?_
  refine jU ?_
  refine jU ?_
  refine je (Run.pickF rfl rfl au) (jO ?_)
  refine jN ⟨(js6 (jC (by first | (simp [hs30, hs33]; done) | (simp [hs30]; done))) rfl rfl rfl rfl rfl), rfl⟩
 intro Γ hΓ
 refine jN (VC.sub _ hΓ ?_)
 refine jD rfl (fun hc2 => ?_) fun hc2 => ?_
 ·
  obtain ⟨hia, hi4⟩ := hc2
  have hmod := Nat.mod_lt i hn0
  obtain ⟨adn, hadn, hcn⟩ := yU (hns.frm K jp) hmod
  obtain ⟨ada, hada, hca⟩ := yB (has.frm K jp) hia
  have hb8 := h8 _ (zm hia)
  have hcaK : ∀ W, Frm [] w W → W.cell? ((ada.add (i * 1)).add 0) = some (.int .u8 ((bs[i] : Nat) : Int)) := fun W hW => by
   obtain ⟨ad', e, h⟩ := yB (has.frm hW jp) hia
   rw [hada] at e
   cases e
   exact h
  generalize hbi : bs[i] = a at *
  have hmod2 := Nat.mod_lt (a / 8) hn0
  obtain ⟨adt, hadt, hct⟩ := yU (hns.frm K jp) hmod2
  generalize hsq : ns[i % ns.length] = s0 at *
  generalize htq : ns[a / 8 % ns.length] = t0 at *
  have hgl3 := hb3.lt
  have hglm := hmp.lt
  obtain ⟨sx, hse⟩ : ∃ s, s = s0.take 70 := ⟨_, rfl⟩
  obtain ⟨t, hte⟩ : ∃ t, t = t0.take 70 := ⟨_, rfl⟩
  have hs70 : sx.length ≤ 70 := by rw [hse]; exact yS _
  have ht70 : t.length ≤ 70 := by rw [hte]; exact yS _
  refine jQ (jN (jv5 1 2 3 7 8 ?_))
  refine jS (jB (jS (jR (jm rfl (jm rfl (jm rfl (je (Run.lenS rfl zd) (jb rfl rfl (Bin.remN _ _ jo) (je (Run.indexS (i % ns.length) (show _ = some (Value.slice (some adn) ns.length nc) by rw [← hadn]; rfl) rfl zd zl hmod) (jl rfl zab hcn ?_))))))))))
  refine Ops.cl (jE1 Tryz.call12) (fL s0 _) rfl ?_
  rintro e _ ⟨rfl, rfl⟩
  rw [← hse]
  refine ⟨_, rfl, ?_⟩
  refine ja rfl (jO (jN (jv6 1 2 3 7 8 9 ?_)))
  refine jS (jR (jm rfl (jm rfl (jm rfl (je (Run.indexS i (show _ = some (Value.slice (some ada) bs.length ac) by rw [← hada]; rfl) rfl zbb zcc hia) (jl rfl zdg (hcaK _ K) (jb rfl rfl (Bin.quoN a 8 jd (by simp only [bmax]; omega)) (je (Run.convN _ rfl zco zac (by simp only [bmax]; omega)) (jm rfl (je (Run.lenS rfl zd) (jb rfl rfl (Bin.remN _ _ jo) (je (Run.indexS (a / 8 % ns.length) (show _ = some (Value.slice (some adt) ns.length nc) by rw [← hadt]; rfl) rfl zd zl hmod2) (jl rfl zab hct ?_)))))))))))))
  refine Ops.cl (jE1 Tryz.call12) (fL t0 _) rfl ?_
  rintro e _ ⟨rfl, rfl⟩
  rw [← hte]
  refine ⟨_, rfl, ?_⟩
  refine ja rfl (jO (jN (jv7 1 2 3 7 8 9 10 ?_)))
  refine jS (jR (je (Run.loadA rfl zc zb (fun j v hj => hb3.cells j v hj) (by first | rfl | (simp; done))) ?_))
  refine Ops.m (qJ.alloc qD) rfl ?_
  rintro _ w7 ⟨rfl, hF7⟩
  have hb11o := hF7.blk
  have hb3 := hb3.frm hF7.frm jp
  have hmp := hmp.frm hF7.frm jp
  have hStb0 := hStb
  have hKr := K.size
  have K := K.trans hF7.frm jp
  have hn3 : g3 ≠ wr.heap.size := jo
  have hnm : gm ≠ wr.heap.size := jo
  generalize hg11 : wr.heap.size = g11 at hb11o hKr hn3 hnm hgl3 hglm ⊢
  refine Ops.st (qK.storeA rfl rfl zb hb11o rfl (MlC.cells_one mm)) ?_
  rintro w8 ⟨hb11, (hf8 : Frm [g11] _ _), hs8⟩
  have hb11 : Blk w8 g11 25 mm.cells.toArray := hb11
  have hb3 := hb3.frm hf8 (by simp; omega)
  have hmp := hmp.frm hf8 (by simp; omega)
  have hl7 : w7.heap.size = g11 + 1 := by rw [← hg11]; exact hF7.size
  have hStb : Stb [g11, gm, g3] w8 mm := (hStb0.add hF7.frm jo).one hf8 jp
  have K := K.own hf8 (fun y hy => by rw [za] at hy; omega)
  have hl8 : g11 < w8.heap.size := hb11.lt
  refine jz 0 (jO (jN (jv8 1 2 3 7 8 9 10 11 ?_)))
  refine jS (jS (jR (jm rfl (jm rfl (je (Run.indexS i (show _ = some (Value.slice (some ada) bs.length ac) by rw [← hada]; rfl) rfl zbb zcc hia) (jl rfl zdg (hcaK _ K) (jb rfl rfl (Bin.remN _ 8 jo) (jO (jN (jv9 1 2 3 7 8 9 10 11 63 ?_))))))))))
  refine VC.meet (σ := MlC × Nat) (fun s => [(1, .slice N ns.length nc), (2, .slice C bs.length ac), (3, .pointer (some ⟨g3, 0, none⟩)), (7, .map (some gm)), (8, .int .i64 ((i : Nat) : Int)), (9, encStr sx), (11, .pointer (some ⟨g11, 0, none⟩)), (12, .int .i64 ((s.2 : Nat) : Int))]) (fun s wm => Blk wm g3 25 mm.cells.toArray ∧ Blk wm g11 25 s.1.cells.toArray ∧ MpF Tryz.prog 9 encStr wm gm M ∧ Stb [g11, gm, g3] wm mm ∧ eN [g11, gm, g3] wm mm s.1 sx (a % 8) s.2 ∧ Frm [] w wm) ?_ ?_
  ·
   refine jB (jS (jS (jR (jb rfl rfl (Bin.eqlN _ 0) (ja rfl (jO (jN (jv10 1 2 3 7 8 9 10 11 63 73 ?_))))))))
   refine jD rfl (fun hc3 => ?_) fun hc3 => ?_
   ·
    refine jQ (jN ?_)
    refine VC.condT rfl (decide_eq_true hc3) ?_
    refine jR (je (Run.loadA rfl zc zb (fun j v hj => hb3.cells j v hj) (by first | rfl | (simp; done))) (jM ?_))
    refine Ops.cl (jE2 Tryz.call13) (gA mm sx _ hStb.now jo (hv.frm K)) rfl ?_
    rintro e w9 ⟨x, k, rfl, hI, hf9⟩
    refine ⟨_, rfl, ?_⟩
    have hlL := lt3 hb11.lt hmp.lt hb3.lt
    have hact : eN [g11, gm, g3] w9 mm x sx (a % 8) k := mN hI hStb hf9 hlL (fun y hy => by
     have q := lR hy
     exact ⟨q.2.1, q.2.2.1, by rw [← q.2.2.2.1]; exact zbu _, fun _ => oE hy⟩)
    have hb3 := hb3.frm hf9 jp
    have hb11 := hb11.frm hf9 jp
    have hmp := hmp.frm hf9 jp
    have hStb := hStb.frm hf9
    have hKs := K.size
    have K := K.trans hf9 jp
    refine jm rfl (je (Run.extract rfl rfl) (je (Run.extract rfl rfl) ?_))
    refine Ops.st (qK.storeA rfl rfl zb hb11 rfl (MlC.cells_one x)) ?_
    rintro w10 ⟨hb11, (hf10 : Frm [g11] _ _), hs10⟩
    have hb11 : Blk w10 g11 25 x.cells.toArray := hb11
    have hb3 := hb3.frm hf10 (by simp; omega)
    have hmp := hmp.frm hf10 (by simp; omega)
    have K := K.own hf10 (fun y hy => by rw [za] at hy; omega)
    have hStb := hStb.one hf10 jp
    have hact := hact.one hf10 jp
    refine ja rfl (jO ?_)
    refine qR (jN ⟨(x, k), (js8 rfl rfl rfl rfl rfl rfl rfl rfl), ?_⟩)
    exact ⟨hb3, hb11, hmp, hStb, hact, K⟩
   refine jR (jb rfl rfl (Bin.eqlN _ 1) (ja rfl (jO (jN (jv10 1 2 3 7 8 9 10 11 63 73 ?_)))))
   refine jD rfl (fun hc4 => ?_) fun hc4 => ?_
   ·
    refine jR (je (Run.loadA rfl zc zb (fun j v hj => hb3.cells j v hj) (by first | rfl | (simp; done))) (jM ?_))
    refine Ops.cl (jE2 Tryz.call13) (gA mm sx _ hStb.now jo (hv.frm K)) rfl ?_
    rintro e w9 ⟨x, k, rfl, hI, hf9⟩
    refine ⟨_, rfl, ?_⟩
    have hlL := lt3 hb11.lt hmp.lt hb3.lt
    have hact : eN [g11, gm, g3] w9 mm x sx (a % 8) k := mN hI hStb hf9 hlL (fun y hy => by
     have q := lR hy
     exact ⟨q.2.1, q.2.2.1, by rw [← q.2.2.2.1]; exact zbu _, fun _ => oE hy⟩)
    have hb3 := hb3.frm hf9 jp
    have hb11 := hb11.frm hf9 jp
    have hmp := hmp.frm hf9 jp
    have hStb := hStb.frm hf9
    have hKs := K.size
    have K := K.trans hf9 jp
    refine jm rfl (je (Run.extract rfl rfl) (je (Run.extract rfl rfl) ?_))
    refine Ops.st (qK.storeA rfl rfl zb hb11 rfl (MlC.cells_one x)) ?_
    rintro w10 ⟨hb11, (hf10 : Frm [g11] _ _), hs10⟩
    have hb11 : Blk w10 g11 25 x.cells.toArray := hb11
    have hb3 := hb3.frm hf10 (by simp; omega)
    have hmp := hmp.frm hf10 (by simp; omega)
    have K := K.own hf10 (fun y hy => by rw [za] at hy; omega)
    have hStb := hStb.one hf10 jp
    have hact := hact.one hf10 jp
    refine ja rfl (jO ?_)
    refine qR (jN ⟨(x, k), (js8 rfl rfl rfl rfl rfl rfl rfl rfl), ?_⟩)
    exact ⟨hb3, hb11, hmp, hStb, hact, K⟩
   refine jS (jR (jb rfl rfl (Bin.eqlN _ 2) (ja rfl (jO (jN (jv10 1 2 3 7 8 9 10 11 63 82 ?_))))))
   refine jD rfl (fun hc5 => ?_) fun hc5 => ?_
   ·
    refine jR (je (Run.loadA rfl zc zb (fun j v hj => hb3.cells j v hj) (by first | rfl | (simp; done))) (jM ?_))
    refine Ops.cl (jE2 Tryz.call17) (gI mm sx _ hStb.now jo (hv.frm K)) rfl ?_
    rintro e w9 ⟨x, k, rfl, hI, hf9⟩
    refine ⟨_, rfl, ?_⟩
    have hlL := lt3 hb11.lt hmp.lt hb3.lt
    have hact : eN [g11, gm, g3] w9 mm x sx (a % 8) k := mN hI hStb hf9 hlL (fun y hy => by
     have q := wK hy
     exact ⟨q.2.1, by rw [← q.2.2.1]; exact zbu _, by rw [← q.2.2.2]; exact zbu _, fun h => jo⟩)
    have hb3 := hb3.frm hf9 jp
    have hb11 := hb11.frm hf9 jp
    have hmp := hmp.frm hf9 jp
    have hStb := hStb.frm hf9
    have hKs := K.size
    have K := K.trans hf9 jp
    refine jm rfl (je (Run.extract rfl rfl) (je (Run.extract rfl rfl) ?_))
    refine Ops.st (qK.storeA rfl rfl zb hb11 rfl (MlC.cells_one x)) ?_
    rintro w10 ⟨hb11, (hf10 : Frm [g11] _ _), hs10⟩
    have hb11 : Blk w10 g11 25 x.cells.toArray := hb11
    have hb3 := hb3.frm hf10 (by simp; omega)
    have hmp := hmp.frm hf10 (by simp; omega)
    have K := K.own hf10 (fun y hy => by rw [za] at hy; omega)
    have hStb := hStb.one hf10 jp
    have hact := hact.one hf10 jp
    refine ja rfl (jO ?_)
    refine qR (jN ⟨(x, k), (js8 rfl rfl rfl rfl rfl rfl rfl rfl), ?_⟩)
    exact ⟨hb3, hb11, hmp, hStb, hact, K⟩
   refine jS (jR (jb rfl rfl (Bin.eqlN _ 3) (ja rfl (jO (jN (jv10 1 2 3 7 8 9 10 11 63 90 ?_))))))
   refine jD rfl (fun hc6 => ?_) fun hc6 => ?_
   ·
    refine jR (je (Run.loadA rfl zc zb (fun j v hj => hb3.cells j v hj) (by first | rfl | (simp; done))) (jm rfl (jM ?_)))
    refine Ops.cl (jE3 Tryz.call19) (wW mm sx t _ hStb.now jo jo (hv.frm K)) rfl ?_
    rintro e w9 ⟨x, k, rfl, hI, hf9⟩
    refine ⟨_, rfl, ?_⟩
    have hlL := lt3 hb11.lt hmp.lt hb3.lt
    have hact : eN [g11, gm, g3] w9 mm x sx (a % 8) k := mN hI hStb hf9 hlL (fun y hy => by
     have q := wV hy
     exact ⟨q.2.1, q.2.2.1, by rw [← q.2.2.2]; exact zbu _, fun h => jo⟩)
    have hb3 := hb3.frm hf9 jp
    have hb11 := hb11.frm hf9 jp
    have hmp := hmp.frm hf9 jp
    have hStb := hStb.frm hf9
    have hKs := K.size
    have K := K.trans hf9 jp
    refine jm rfl (je (Run.extract rfl rfl) (je (Run.extract rfl rfl) ?_))
    refine Ops.st (qK.storeA rfl rfl zb hb11 rfl (MlC.cells_one x)) ?_
    rintro w10 ⟨hb11, (hf10 : Frm [g11] _ _), hs10⟩
    have hb11 : Blk w10 g11 25 x.cells.toArray := hb11
    have hb3 := hb3.frm hf10 (by simp; omega)
    have hmp := hmp.frm hf10 (by simp; omega)
    have K := K.own hf10 (fun y hy => by rw [za] at hy; omega)
    have hStb := hStb.one hf10 jp
    have hact := hact.one hf10 jp
    refine ja rfl (jO ?_)
    refine qR (jN ⟨(x, k), (js8 rfl rfl rfl rfl rfl rfl rfl rfl), ?_⟩)
    exact ⟨hb3, hb11, hmp, hStb, hact, K⟩
   refine jS (jR (jb rfl rfl (Bin.eqlN _ 4) (ja rfl (jO (jN (jv10 1 2 3 7 8 9 10 11 63 99 ?_))))))
   refine jD rfl (fun hc7 => ?_) fun hc7 => ?_
   ·
    refine VC.held (fun W => Frm [g11] w8.drew W) jK ?_
    have hd8 : Frm [] w8 w8.drew := (bJ.drew w8).frm
    have hb3 := hb3.frm hd8 jp
    have hb11 := hb11.frm hd8 jp
    have hmp := hmp.frm hd8 jp
    have hStb := hStb.frm hd8
    have hKs := K.size
    have K := K.trans hd8 jp
    have hS : Frm [g11] w8.drew w8.drew := Frm.refl _ _
    refine jH 0 rfl hS (fun w0 hw0 => Run.loadA rfl zc zb (fun j v hj => (hb3.frm hw0 (by simp; omega)).cells j v hj) (by first | rfl | (simp; done))) ?_
    refine jH 1 rfl hS (fun w0 hw0 => Run.mv rfl) ?_
    refine jH 2 rfl hS (fun w0 hw0 => Run.mv rfl) ?_
    refine jH 3 rfl hS (fun w0 hw0 => Run.mv rfl) ?_
    refine jH 4 rfl hS (fun w0 hw0 => Run.indexS i (show _ = some (Value.slice (some ada) bs.length ac) by rw [← hada]; rfl) rfl zbb zcc hia) ?_
    refine jH 5 rfl hS (fun w0 hw0 => Run.load rfl zdg (hcaK _ (K.own hw0 (fun y hy => by rw [za] at hy; omega)))) ?_
    refine jH 6 rfl hS (fun w0 hw0 => Run.bin rfl rfl (Bin.gtrN _ 99)) ?_
    refine qS.cl 7 rfl jK (jE3 Tryz.call24) (oD mm sx (decide (99 < a)) _ hStb.now jo (hv.frm K)) trivial rfl rfl ?_
    rintro e w9 ⟨x, k, rfl, hI, hf9⟩
    have hS := hS.trans hf9 jp
    refine ⟨_, rfl, hS, ?_⟩
    have hlL := lt3 hb11.lt hmp.lt hb3.lt
    have hact : eN [g11, gm, g3] w9 mm x sx (a % 8) k := mN hI hStb hf9 hlL (fun y hy => by
     have q := qXy hy
     exact ⟨q.2.1, by rw [← q.2.2.1]; exact zbu _, by rw [← q.2.2.2]; exact zbu _, fun h => jo⟩)
    have hb3 := hb3.frm hf9 jp
    have hb11 := hb11.frm hf9 jp
    have hmp := hmp.frm hf9 jp
    have hStb := hStb.frm hf9
    have hKs := K.size
    have K := K.trans hf9 jp
    refine jH 8 rfl hS (fun w0 hw0 => Run.mv rfl) ?_
    refine jH 9 rfl hS (fun w0 hw0 => Run.extract rfl rfl) ?_
    refine jH 10 rfl hS (fun w0 hw0 => Run.extract rfl rfl) ?_
    refine qS.st 11 rfl jK (qK.storeA rfl rfl zb hb11 rfl (MlC.cells_one x)) trivial rfl ?_
    rintro w10 ⟨hb11, (hf10 : Frm [g11] _ _), hs10⟩
    have hb11 : Blk w10 g11 25 x.cells.toArray := hb11
    have hb3 := hb3.frm hf10 (by simp; omega)
    have hmp := hmp.frm hf10 (by simp; omega)
    have K := K.own hf10 (fun y hy => by rw [za] at hy; omega)
    have hStb := hStb.one hf10 jp
    have hact := hact.one hf10 jp
    have hS := hS.trans hf10 (fun y hy => .inl hy)
    refine ⟨hS, ?_⟩
    refine jH 12 rfl hS (fun w0 hw0 => Run.asg rfl) ?_
    refine qS.done jK ?_
    refine qR (jN ⟨(x, k), (js8 rfl rfl rfl rfl rfl rfl rfl rfl), ?_⟩)
    exact ⟨hb3, hb11, hmp, hStb, hact, K⟩
   refine jS (jS (jR (jb rfl rfl (Bin.eqlN _ 5) (ja rfl (jO (jN (jv10 1 2 3 7 8 9 10 11 63 112 ?_)))))))
   refine jD rfl (fun hc8 => ?_) fun hc8 => ?_
   ·
    refine jQ (jN (jv9 1 2 3 7 8 9 10 11 112 ?_))
    refine VC.condT rfl (decide_eq_true hc8) ?_
    refine jR (je (Run.loadA rfl zc zb (fun j v hj => hb3.cells j v hj) (by first | rfl | (simp; done))) (jm rfl (je (Run.build evs.nil fV (kF).choose_spec.1 (kF).choose_spec.2 rfl) ?_)))
    refine Ops.cl (jE3 Tryz.call35) (mG mm sx rJ _ hStb.now jo ⟨Rd.nil _ _ _, jd, by simp [rJ]⟩ (hv.frm K)) rfl ?_
    rintro e w9 ⟨x, u, k, rfl, hI, hkt, hf9⟩
    refine ⟨_, rfl, ?_⟩
    have hlL := lt3 hb11.lt hmp.lt hb3.lt
    have hact : eN [g11, gm, g3] w9 mm x sx (a % 8) k := by
     rintro rfl
     obtain ⟨_, ⟨_, h⟩ | ⟨h, _⟩⟩ := hI
     ·
      obtain ⟨_, q1, q2, q3⟩ := oF h
      exact ⟨q1, Int.le_of_eq q2, q3, sW hStb hf9 hkt hlL (no3 (dG.of_blk (hb11.frm hf9 jp) jd jd) (mM (hmp.frm hf9 jp)) (dG.of_blk (hb3.frm hf9 jp) jd jd)), fun h => jo⟩
     exact absurd rfl h
    have hb3 := hb3.frm hf9 jp
    have hb11 := hb11.frm hf9 jp
    have hmp := hmp.frm hf9 jp
    have hStb := hStb.frm hf9
    have hKs := K.size
    have K := K.trans hf9 jp
    refine jm rfl (je (Run.extract rfl rfl) (je (Run.extract rfl rfl) (je (Run.extract rfl rfl) ?_)))
    refine Ops.st (qK.storeA rfl rfl zb hb11 rfl (MlC.cells_one x)) ?_
    rintro w10 ⟨hb11, (hf10 : Frm [g11] _ _), hs10⟩
    have hb11 : Blk w10 g11 25 x.cells.toArray := hb11
    have hb3 := hb3.frm hf10 (by simp; omega)
    have hmp := hmp.frm hf10 (by simp; omega)
    have K := K.own hf10 (fun y hy => by rw [za] at hy; omega)
    have hStb := hStb.one hf10 jp
    have hact := hact.one hf10 jp
    refine ja rfl (jO ?_)
    refine qR (jN ⟨(x, k), (js8 rfl rfl rfl rfl rfl rfl rfl rfl), ?_⟩)
    exact ⟨hb3, hb11, hmp, hStb, hact, K⟩
   refine jR (jb rfl rfl (Bin.eqlN _ 6) (ja rfl (jO (jN (jv9 1 2 3 7 8 9 10 11 112 ?_)))))
   refine jD rfl (fun hc9 => ?_) fun hc9 => ?_
   ·
    refine jR (je (Run.loadA rfl zc zb (fun j v hj => hb3.cells j v hj) (by first | rfl | (simp; done))) (jm rfl (je (Run.build evs.nil fV (kF).choose_spec.1 (kF).choose_spec.2 rfl) ?_)))
    refine Ops.cl (jE3 Tryz.call35) (mG mm sx rJ _ hStb.now jo ⟨Rd.nil _ _ _, jd, by simp [rJ]⟩ (hv.frm K)) rfl ?_
    rintro e w9 ⟨x, u, k, rfl, hI, hkt, hf9⟩
    refine ⟨_, rfl, ?_⟩
    have hlL := lt3 hb11.lt hmp.lt hb3.lt
    have hact : eN [g11, gm, g3] w9 mm x sx (a % 8) k := by
     rintro rfl
     obtain ⟨_, ⟨_, h⟩ | ⟨h, _⟩⟩ := hI
     ·
      obtain ⟨_, q1, q2, q3⟩ := oF h
      exact ⟨q1, Int.le_of_eq q2, q3, sW hStb hf9 hkt hlL (no3 (dG.of_blk (hb11.frm hf9 jp) jd jd) (mM (hmp.frm hf9 jp)) (dG.of_blk (hb3.frm hf9 jp) jd jd)), fun h => jo⟩
     exact absurd rfl h
    have hb3 := hb3.frm hf9 jp
    have hb11 := hb11.frm hf9 jp
    have hmp := hmp.frm hf9 jp
    have hStb := hStb.frm hf9
    have hKs := K.size
    have K := K.trans hf9 jp
    refine jm rfl (je (Run.extract rfl rfl) (je (Run.extract rfl rfl) (je (Run.extract rfl rfl) ?_)))
    refine Ops.st (qK.storeA rfl rfl zb hb11 rfl (MlC.cells_one x)) ?_
    rintro w10 ⟨hb11, (hf10 : Frm [g11] _ _), hs10⟩
    have hb11 : Blk w10 g11 25 x.cells.toArray := hb11
    have hb3 := hb3.frm hf10 (by simp; omega)
    have hmp := hmp.frm hf10 (by simp; omega)
    have K := K.own hf10 (fun y hy => by rw [za] at hy; omega)
    have hStb := hStb.one hf10 jp
    have hact := hact.one hf10 jp
    refine ja rfl (jO ?_)
    refine qR (jN ⟨(x, k), (js8 rfl rfl rfl rfl rfl rfl rfl rfl), ?_⟩)
    exact ⟨hb3, hb11, hmp, hStb, hact, K⟩
   refine jR (je (Run.loadA rfl zc zb (fun j v hj => hb3.cells j v hj) (by first | rfl | (simp; done))) (jM ?_))
   refine Ops.m (qJ.buildS1 rfl zdn zk uW jd jd rfl rfl) rfl ?_
   rintro _ w8a ⟨rfl, hF8a⟩
   have hr8a : Rd w8a 1 (some ⟨w8.heap.size, 0, none⟩) [(1 : Int)].length (IB [1]) := Rd.of_blk (n := 1) (size := 1) hF8a.blk rfl
   have hb3 := hb3.frm hF8a.frm jp
   have hb11 := hb11.frm hF8a.frm jp
   have hmp := hmp.frm hF8a.frm jp
   have hStb := hStb.frm hF8a.frm
   have K := K.trans hF8a.frm jp
   have hl8 : g11 < w8a.heap.size := hb11.lt
   refine jM ?_
   refine Ops.cl (jE4 Tryz.call37) (wZ mm sx t _ 1 [1] _ hStb.now jo jo hr8a jd (hv.frm K)) rfl ?_
   rintro e w9 ⟨x, U, du, us, k, rfl, hI, hkt, hf9⟩
   refine ⟨_, rfl, ?_⟩
   have hlL := lt3 hb11.lt hmp.lt hb3.lt
   have hact : eN [g11, gm, g3] w9 mm x sx (a % 8) k := by
    rintro rfl
    obtain ⟨_, _, _, ⟨_, h⟩ | ⟨h, _⟩⟩ := hI
    ·
     obtain ⟨_, q1, q2, q3⟩ := qQn h
     exact ⟨q1, Int.le_of_eq q2, Int.le_of_eq q3, sW hStb hf9 hkt hlL (no3 (dG.of_blk (hb11.frm hf9 jp) jd jd) (mM (hmp.frm hf9 jp)) (dG.of_blk (hb3.frm hf9 jp) jd jd)), fun h => jo⟩
    exact absurd rfl h
   have hb3 := hb3.frm hf9 jp
   have hb11 := hb11.frm hf9 jp
   have hmp := hmp.frm hf9 jp
   have hStb := hStb.frm hf9
   have hKs := K.size
   have K := K.trans hf9 jp
   refine jm rfl (je (Run.extract rfl rfl) (je (Run.extract rfl rfl) (je (Run.extract rfl rfl) ?_)))
   refine Ops.st (qK.storeA rfl rfl zb hb11 rfl (MlC.cells_one x)) ?_
   rintro w10 ⟨hb11, (hf10 : Frm [g11] _ _), hs10⟩
   have hb11 : Blk w10 g11 25 x.cells.toArray := hb11
   have hb3 := hb3.frm hf10 (by simp; omega)
   have hmp := hmp.frm hf10 (by simp; omega)
   have K := K.own hf10 (fun y hy => by rw [za] at hy; omega)
   have hStb := hStb.one hf10 jp
   have hact := hact.one hf10 jp
   refine ja rfl (jO ?_)
   refine qR (jN ⟨(x, k), (js8 rfl rfl rfl rfl rfl rfl rfl rfl), ?_⟩)
   exact ⟨hb3, hb11, hmp, hStb, hact, K⟩
  rintro ⟨x, k⟩ wm ⟨hb3, hb11, hmp, hStb, hact, K⟩ Γ hΓ
  dsimp only at hb11 hact
  refine jN (VC.sub _ hΓ (jS (jS (jR (jm rfl (jb rfl rfl (Bin.neqN _ 0) (jO (jN (jv8 1 2 3 7 8 9 11 124 ?_)))))))))
  refine jD rfl (fun hc10 => ?_) fun hc10 => ?_
  ·
   refine jX ?_
   refine qT (bZ ?_)
   refine jN (jv5 1 2 3 7 8 ?_)
   refine jR (jm rfl (jb rfl rfl (Bin.add_i64 _ 1 jo) (ja rfl (jO ?_))))
   refine jN ⟨(i + 1, mm, M), (js5 rfl rfl rfl rfl rfl), ?_, ?_⟩
   · exact ⟨hia, hi4, hb3, hmp, hStb.less, hmay, hseen, hgl, K⟩
   first | omega | (dsimp only; omega)
  obtain rfl : k = 0 := by simpa using hc10
  obtain ⟨hx1, hx2, hx3, hx4, hx5⟩ := hact rfl
  refine jQ (jN (jv7 1 2 3 7 8 9 11 ?_))
  refine jS (jS (jR (je (Run.loadA rfl zc zb (fun j v hj => hb11.cells j v hj) (by first | rfl | (simp; done))) ?_)))
  refine Ops.cl (jE1 zdh) (cF x _ hx4.now (hv.frm K)) rfl ?_
  rintro e w12 ⟨rfl, hf12⟩
  rw [decide_eq_true hx1]
  refine ⟨_, rfl, ?_⟩
  have hb3 := hb3.frm hf12 jp
  have hb11 := hb11.frm hf12 jp
  have hmp := hmp.frm hf12 jp
  have hx4 := hx4.frm hf12
  have K := K.trans hf12 jp
  refine je (Run.not rfl) (jM ?_)
  refine jk (Run.fieldAddr rfl zh rfl zk jd) ?_
  refine jk (Run.load rfl zu (hb11.cell 2)) ?_
  refine jk (Run.fieldAddr rfl zh rfl zk jd) ?_
  refine jk (Run.load rfl zu (hb3.cell 2)) ?_
  refine jk (Run.bin rfl rfl (Bin.lss _ _)) ?_
  refine je (Run.pickF rfl rfl (rfl)) (jM ?_)
  refine Ops.rg rfl (decide_eq_false jo) (Run.fieldAddr rfl zh rfl zk jd) rfl ?_
  refine Ops.rg rfl (decide_eq_false jo) (Run.load rfl zu (hb11.cell 3)) rfl ?_
  refine Ops.rg rfl (decide_eq_false jo) (Run.fieldAddr rfl zh rfl zk jd) rfl ?_
  refine Ops.rg rfl (decide_eq_false jo) (Run.load rfl zu (hb3.cell 3)) rfl ?_
  refine Ops.rg rfl (decide_eq_false jo) (Run.bin rfl rfl (Bin.lss _ _)) rfl ?_
  refine je (Run.pickF rfl rfl (decide_eq_false jo)) (jO (jN (jv8 1 2 3 7 8 9 11 141 ?_)))
  refine VC.condF rfl (decide_eq_false jo) ?_
  refine jQ (jN (jv7 1 2 3 7 8 9 11 ?_))
  refine jS (jS (jR (jm rfl (jm rfl (je (Run.indexS i (show _ = some (Value.slice (some ada) bs.length ac) by rw [← hada]; rfl) rfl zbb zcc hia) (jl rfl zdg (hcaK _ K) (jb rfl rfl (Bin.remN _ 8 jo) (jb rfl rfl (Bin.lssN _ 2) (jO (jN (jv8 1 2 3 7 8 9 11 147 ?_)))))))))))
  refine jD rfl (fun hc12 => ?_) fun hc12 => ?_
  ·
   have hc12 : a % 8 < 2 := by first | exact hc12 | exact of_decide_eq_true hc12
   obtain ⟨bx, hfb, hbv⟩ := hx5 hc12
   refine jS (jR (je (Run.loadA rfl zc zb (fun j v hj => hb11.cells j v hj) (by first | rfl | (simp; done))) (jM ?_)))
   refine Ops.cl (jE2 Tryz.call23) (lV x sx _ hx4.now jo (hv.frm K)) rfl ?_
   rintro e w13 ⟨v, n, B, d, l, bb, rfl, _, hres, hf13⟩
   obtain ⟨rfl, hve⟩ : bb = true ∧ v = bx.valid := by
    rcases hres with ⟨h1, h2⟩ | ⟨_, h2, _⟩
    ·
     rw [hfb] at h2
     injection h2 with h2
     exact ⟨h1, by rw [h2]⟩
    rw [hfb] at h2
    cases h2
   refine ⟨_, rfl, ?_⟩
   have hbv2 : v ≤ x.v := by
    have h := hfb
    unfold eU at h
    rw [if_pos hx1] at h
    have := (((bP _).1 hx1).2.1 _ (jP h)).2.1
    rw [hve]
    exact this
   obtain ⟨z, hz, hzl⟩ := hseen sx
   have hb3 := hb3.frm hf13 jp
   have hb11 := hb11.frm hf13 jp
   have hmp := hmp.frm hf13 jp
   have hx4 := hx4.frm hf13
   have K := K.trans hf13 jp
   refine jm rfl (je (Run.extract rfl rfl) (je (Run.extract rfl rfl) ?_))
   refine Ops.m (qJ.alloc bL) rfl ?_
   rintro _ w14 ⟨rfl, hF14⟩
   have hb13o := hF14.blk
   have hl3 := hb3.lt
   have hl11 := hb11.lt
   have hlm := hmp.lt
   have hKs := K.size
   have hb3 := hb3.frm hF14.frm jp
   have hb11 := hb11.frm hF14.frm jp
   have hmp := hmp.frm hF14.frm jp
   have hx40 := hx4
   have K := K.trans hF14.frm jp
   have hn3 : g3 ≠ w13.heap.size := jo
   have hn11 : g11 ≠ w13.heap.size := jo
   have hnm2 : gm ≠ w13.heap.size := jo
   generalize hg13 : w13.heap.size = g13 at hb13o hKs hn3 hn11 hnm2 ⊢
   refine Ops.st (qK.storeA rfl rfl zj hb13o rfl (bU v n B l.length d)) ?_
   rintro w15 ⟨hb13, (hf15 : Frm [g13] _ _), hs15⟩
   have hb13 : Blk w15 g13 43 (BVc v n B l.length d).toArray := hb13
   have hb3 := hb3.frm hf15 (by simp; omega)
   have hb11 := hb11.frm hf15 (by simp; omega)
   have hmp := hmp.frm hf15 (by simp; omega)
   have hx4 : Stb [g11, gm, g3] w15 x := (hx40.add hF14.frm jo).one hf15 (zdf ..) |>.less
   have K := K.own hf15 (fun y hy => by rw [za] at hy; omega)
   refine ja rfl (jO (jN (jv9 1 2 3 7 8 9 11 13 14 ?_)))
   refine jS (jS (jR (jm rfl (je (Run.not rfl) (jM ?_)))))
   refine jk (Run.fieldAddr rfl zr rfl zk jd) ?_
   refine jk (Run.load rfl zu (hb13.cell 0)) ?_
   refine jG ?_
   refine jG ?_
   refine jk (Run.lookup (enc := encStr) (x := sx) rfl rfl hmp (Go.Maps.string_keyed zn) Tryz.underlying77 uW (tL _ jo)) ?_
   rw [hz]
   refine jk (Run.bin rfl rfl (Bin.leq _ _)) ?_
   refine je (Run.pickF rfl rfl (rfl)) (jM ?_)
   refine Ops.rg rfl (decide_eq_false jo) (Run.fieldAddr rfl zr rfl zk jd) rfl ?_
   refine Ops.rg rfl (decide_eq_false jo) (Run.load rfl zu (hb13.cell 0)) rfl ?_
   refine Ops.rg rfl (decide_eq_false jo) (Run.fieldAddr rfl zh rfl zk jd) rfl ?_
   refine Ops.rg rfl (decide_eq_false jo) (Run.load rfl zu (hb3.cell 2)) rfl ?_
   refine Ops.rg rfl (decide_eq_false jo) (Run.bin rfl rfl (Bin.leq _ _)) rfl ?_
   refine je (Run.pickF rfl rfl (decide_eq_false jo)) (jO (jN (jv9 1 2 3 7 8 9 11 13 170 ?_)))
   refine VC.condF rfl (decide_eq_false jo) ?_
   refine jQ (jN (jv8 1 2 3 7 8 9 11 13 ?_))
   refine jR (jm rfl (jm rfl (jf rfl zr rfl zk (jl rfl zu (hb13.cell 0) ?_))))
   refine Ops.st (qK.mapUpd (x := sx) rfl rfl rfl hmp (Go.Maps.string_keyed zn) wY Tryz.underlying77 (tL _ jo)) ?_
   rintro w16 ⟨hmp, (hf16 : Frm [gm] _ _), hs16⟩
   have hb3 := hb3.frm hf16 (by simp; omega)
   have hb11 := hb11.frm hf16 (by simp; omega)
   have hx4 := hx4.one hf16 jp
   have K := K.own hf16 (fun y hy => by rw [za] at hy; omega)
   refine jO (jN (jv6 1 2 3 7 8 11 ?_))
   refine jR (je (Run.loadA rfl zc zb (fun j v hj => hb11.cells j v hj) (by first | rfl | (simp; done))) ?_)
   refine Ops.st (qK.storeA rfl rfl zb hb3 rfl (MlC.cells_one x)) ?_
   rintro w17 ⟨hb3, (hf17 : Frm [g3] _ _), hs17⟩
   have hb3 : Blk w17 g3 25 x.cells.toArray := hb3
   have hmp := hmp.frm hf17 (by simp; omega)
   have hx4 := hx4.one hf17 jp
   have K := K.own hf17 (fun y hy => by rw [za] at hy; omega)
   refine jO ?_
   refine qR (jN ?_)
   refine jv5 1 2 3 7 8 ?_
   refine jR (jm rfl (jb rfl rfl (Bin.add_i64 _ 1 jo) (ja rfl (jO ?_))))
   refine jN ⟨(i + 1, x, fun y => if y = sx then some (.int .i64 v) else M y), (js5 rfl rfl rfl rfl rfl), ?_, ?_⟩
   ·
    refine ⟨hia, hi4, hb3, hmp, hx4.less, hx1, fun q => ?_, hgl, K⟩
    dsimp only
    by_cases hq : q = sx
    ·
     rw [if_pos hq]
     exact ⟨v, rfl, hbv2⟩
    rw [if_neg hq]
    obtain ⟨z2, hz2, hzl2⟩ := hseen q
    exact ⟨z2, hz2, Int.le_trans hzl2 hx2⟩
   first | omega | (dsimp only; omega)
  refine jQ (jN (jv6 1 2 3 7 8 11 ?_))
  refine jR (je (Run.loadA rfl zc zb (fun j v hj => hb11.cells j v hj) (by first | rfl | (simp; done))) ?_)
  refine Ops.st (qK.storeA rfl rfl zb hb3 rfl (MlC.cells_one x)) ?_
  rintro w17 ⟨hb3, (hf17 : Frm [g3] _ _), hs17⟩
  have hb3 : Blk w17 g3 25 x.cells.toArray := hb3
  have hmp := hmp.frm hf17 (by simp; omega)
  have hx4 := hx4.one hf17 jp
  have K := K.own hf17 (fun y hy => by rw [za] at hy; omega)
  refine jO ?_
  refine qR (jN ?_)
  refine jv5 1 2 3 7 8 ?_
  refine jR (jm rfl (jb rfl rfl (Bin.add_i64 _ 1 jo) (ja rfl (jO ?_))))
  refine jN ⟨(i + 1, x, M), (js5 rfl rfl rfl rfl rfl), ?_, ?_⟩
  ·
   refine ⟨hia, hi4, hb3, hmp, hx4.less, hx1, fun q => ?_, hgl, K⟩
   obtain ⟨z2, hz2, hzl2⟩ := hseen q
   exact ⟨z2, hz2, Int.le_trans hzl2 hx2⟩
  first | omega | (dsimp only; omega)
 refine jX ?_
 refine qT (qT (bZ ?_))
 refine jN ?_
 refine VC.sub [] .nil ?_
 refine jS (jR ?_)
 refine Ops.cl (jE0 Tryz.call16) (mV _ (hv.frm K)) rfl ?_
 rintro e w18 ⟨rfl, hf18⟩
 refine ⟨_, rfl, ?_⟩
 have K := K.trans hf18 jp
 refine ja rfl (jO (jN (jv1 6 ?_)))
 refine jT ?_
 refine qL rfl ?_
 exact ⟨rfl, K⟩
end
end Go.Proofs.YtgmbmfpfhcekiaaGreat
