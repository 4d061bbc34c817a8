/-
  Lemmas on the way, joined: OpgD, RfN, PlaA, PlaB, PlaO, PlaN, PlaF, HotWs, PlaW.
-/
import Derived.Test.YtoniopdkbeogjaaGreatPk5
set_option maxRecDepth 100000
set_option linter.unusedVariables false
set_option linter.unusedSimpArgs false
set_option maxHeartbeats 8000000
namespace Go.Proofs.YtoniopdkbeogjaaGreat
section
open Go.RowKit
theorem qMi (u1 u2 : Value) (h g : Nat) (F : List Nat) (H : Hm) (q : HtQ) (w : World) (hH : IsHc w h g F H q u1 u2) : Calls Tryz.prog 47 #[jI0 h] w fun e w' => ∃ vs ok, e = .returned (.tuple #[.agg vs, .bool ok]) ∧ vs.size = 2 ∧ (∀ u ∈ vs.toList, u.oneCell' = true) ∧ Frm [] w w' ∧ (ok = true ↔ (bH H).Nodup) ∧ (ok = true → ∃ B c, vs = spV H.N B c ∧ RdS w' B H.N (fun p => decide (p ∈ bH H)) ∧ ∀ x ∈ ob B, w.heap.size ≤ x) := by
 have hl : ∀ p ∈ bH H, p < H.N := fun p hp => by
  rcases (lN _ p).1 hp with h1 | ⟨x, hx, h1⟩
  · exact hH.ok.dirp p h1
  exact (hH.ok.pg x hx).1 p h1
 cases hm : bN H.N (fun _ => false) (bH H) with
 | some U =>
  obtain ⟨n1, _, n3⟩ := qZ0 _ _ _ _ hm
  have hU : U = fun p => decide (p ∈ bH H) := funext fun p => by rw [n3 p, Bool.false_or]
  subst hU
  refine (uS _ u1 u2 h g F H q w hH hm).mono ?_
  rintro e w' ⟨B, c, rfl, hr, hf, hup⟩
  exact ⟨_, true, rfl, rfl, dO _ _ _, hf, ⟨fun _ => n1, fun _ => rfl⟩, fun _ => ⟨B, c, rfl, hr, hup⟩⟩
 | none =>
  refine (qYv u1 u2 h g F H q w hH hm).mono ?_
  rintro e w' ⟨vs, rfl, h1, h2, hf⟩
  refine ⟨vs, false, rfl, h1, h2, hf, ⟨fun h => (by cases h), fun hn => ?_⟩, fun h => (by cases h)⟩
  obtain ⟨V, hV, _⟩ := pL H.N (bH H) (fun _ => false) hl hn (fun _ _ => rfl)
  rw [hV] at hm
  cases hm
theorem qNa (E : List Nat) (m h g : Nat) (F : List Nat) (d : Dk) (w : World) (hE : ∀ x ∈ E, x < w.heap.size) (hmE : m ∉ E) (hb : Blk w h 91 #[jI0 g, .slice none 0 0, .slice none 0 0, .map (some m), .int .i64 0, .slice none 0 0]) (hD : IsDk w g F d) (hF : h ∉ F) (hm : MpU w m (fun _ => none)) (hmX : m ∉ h :: F) (h44 : 44 ≤ d.has.length) (hwt : d.wts.length ≤ 100000) (hon : d.off = false) :
  Calls Tryz.prog 49 #[jI0 h] w fun e w' => ∃ ok, e = .returned (.bool ok) ∧ Frm [h, m] w w' ∧ IsDk w' g F d ∧ (ok = true ↔ OpenOk d) ∧ (ok = true → ∃ q, IsHt w' h g F (cI d) q ∧ OffQ E (cI d) q) := by
 have hbg := hD.ok.big
 obtain ⟨dir, hdir⟩ : ∃ dir, dir = fK d := ⟨_, rfl⟩
 have hR : IsRh w h g F d := ⟨hb.cell 0, hD, hF, h44, hbg, hwt, hon⟩
 have hX3 : ∀ x ∈ m :: h :: (F ++ E), x < w.heap.size := fun x hx => by
  rcases zaq.1 hx with rfl | hx
  · exact hm.lt
  rcases zaq.1 hx with rfl | hx
  · exact hb.lt
  rcases zcp.1 hx with hx | hx
  · exact hD.lt x hx
  exact hE x hx
 have hEX : ∀ x ∈ E, x ∈ m :: h :: (F ++ E) := fun x hx => by simp [hx]
 have hhm : h ≠ m := fun e => hmX (by simp [e])
 have hmF : m ∉ F := fun e => hmX (by simp [e])
 have fail : ∀ V, Frm [h, m] w V → ¬ OpenOk d → ∃ ok, Ending.returned (.bool false) = .returned (.bool ok) ∧ Frm [h, m] w V ∧ IsDk V g F d ∧ (ok = true ↔ OpenOk d) ∧ (ok = true → ∃ q, IsHt V h g F (cI d) q ∧ OffQ E (cI d) q) := fun V hV hno =>
  ⟨false, rfl, hV, hD.frm hV (fun x hx e => by simp at e; rcases e with e | e <;> subst e; exact hF hx; exact hmF hx), ⟨fun h => (by cases h), fun h => absurd h hno⟩, fun h => (by cases h)⟩
 obtain ⟨hsl, hsB⟩ := hD.ok.secAt (jo : 41 < d.has.length)
 refine jV Tryz.func49 Tryz.ntmps49 Tryz.results49 ?_
 refine jS (jR (ja rfl (jO (jN (jv1 0 ?_)))))
 refine jS (jR (jm rfl (jZ rfl (jf rfl zaj rfl zeu (jl rfl zfh (hb.cell 0) ?_)))))
 refine jc (jE2 Tryz.call28) (kH g 41 F d w hD jo) ?_
 rintro e w1 ⟨B, rfl, hr, hf, hup, _⟩
 refine ⟨_, rfl, ?_⟩
 have hrd : d.read 41 = (0, d.sec 41) := by unfold Dk.read; rw [if_neg jo, if_neg (by simp [hon])]
 rw [hrd] at hr ⊢
 dsimp only at hr ⊢
 rw [hsl] at hr ⊢
 have K := hf
 refine jm rfl (jY rfl rfl (jY rfl rfl (ja rfl (ja rfl (jO (jN (jv2 0 3 ?_)))))))
 refine jS (jR (jm rfl (jM ?_)))
 refine jc (jE2 Tryz.call114) (qNf B 128 (d.sec 41) h g F d w1 (hR.f0 K) hsl hsB hr) ?_
 rintro e w2 ⟨DA, dl, dc, ok, rfl, hoki, hokd, hf2, hupD⟩
 refine ⟨_, rfl, ?_⟩
 have K := K.trans hf2 jp
 have hupD : ∀ x ∈ ob DA, w.heap.size ≤ x := fun x hx => by have := hupD x hx; have := hf.size; omega
 refine jm rfl (jY rfl rfl (jY rfl rfl (ja rfl (ja rfl (jO (jN (jv3 0 5 6 ?_)))))))
 refine jS (jS (jR (jm rfl (je (Run.not rfl) (jO (jN (jv3 0 5 31 ?_)))))))
 refine VC.condB rfl (fun hc1 => ?_) (fun hc1 => ?_)
 ·
  have hok0 : ¬ ok = true := by simpa using hc1
  have hno : ¬ OpenOk d := fun ho => hok0 (hoki.2 ho.sup)
  refine jS (jR (ja rfl (jO (jN (jv1 2 ?_)))))
  refine jT ?_
  refine qQ (qS rfl ?_)
  exact fail _ (K.mono jp) hno
 have hok1 : ok = true := by simpa using hc1
 have hsup := hoki.1 hok1
 obtain ⟨hdl, hoD⟩ := hokd hok1
 have hdd : eF (d.sec 41) = dir := hdir.symm
 rw [hdd] at hdl hoD
 subst hdl
 have hdp : ∀ p ∈ dir, p < d.has.length - 42 := by rw [← hdd]; exact hsup.2.2
 have hd59 : dir.length ≤ 59 := by rw [← hdd, lX]; exact hsup.1
 refine jQ (jN (jv2 0 5 ?_))
 refine jS (jR (ja rfl (jO (jN (jS (jS (jR (jm rfl (jL rfl zn ?_)))))))))
 refine jx .i64 0 ?_
 refine jO (jN (jB ?_))
 refine VC.loop (σ := Nat × Option Addr × Nat × List Pg) (fun s => [(0, jI0 h), (5, .slice DA dir.length dc), (7, .slice s.2.1 s.1 s.2.2.1), (32, .slice DA dir.length dc), (33, jI1 dir.length), (34, jI1 s.1)]) (fun s wr => s.1 ≤ dir.length ∧ Own wr 63 1 s.2.1 s.1 s.2.2.1 (s.2.2.2.map SL) ∧ s.2.2.2.map (·.2.2) = (dir.take s.1).map (fun p => d.sec (42 + p)) ∧ PgS w2.heap.size wr (ob s.2.1) s.2.2.2 ∧ (∀ x ∈ s.2.2.2, x.2.2.length ≤ x.2.1) ∧ Frm [] w2 wr ∧ ∀ x ∈ ob s.2.1, w2.heap.size ≤ x) (fun s => dir.length - s.1) (0, none, 0, []) (js6 rfl rfl rfl rfl rfl rfl) ⟨zj _, Own.nil _ _ _, rfl, PgS.nil _ _ _, (fun x hx => by cases hx), Frm.refl _ _, by simp [ob]⟩ ?_
 rintro ⟨i, B, dB, ps⟩ wr ⟨hi, ho, hps, hpg, hcap, K2, hup⟩
 dsimp only at hi ho hps hpg hcap hup ⊢
 have Kw := K.trans K2 jp
 have ks := Kw.size
 have ks2 := K2.size
 refine jS (jR (jb rfl rfl (Bin.lssN _ _) (jO (jN (jS ?_)))))
 refine jD rfl (fun hc2 => ?_) fun hc2 => ?_
 ·
  obtain ⟨ad, hDA, hcD⟩ := rdZ (hoD.frm K2 jp).rd rfl hc2
  have hpi := hdp _ (bG hc2)
  have hsn := jI hc2
  subst hDA
  generalize dir.getD i 0 = p at hcD hpi hsn
  obtain ⟨hsl, hso⟩ := hD.ok.secAt (jo : 42 + p < d.has.length)
  refine jQ (jN (jv6 0 5 7 32 33 34 ?_))
  refine jS (jB (jS (jR (je (Run.index1 _ rfl rfl zn zm jo) (jl rfl zaa hcD (ja rfl (jO (jN (jv7 0 5 7 9 32 33 34 ?_)))))))))
  refine jS (jR (jm rfl (jM ?_)))
  refine jc (jE2 Tryz.call71) (yY p h g F d _ (hR.f0 Kw) hpi) ?_
  rintro e w5 ⟨GB, rfl, hrG, hf5, hupG⟩
  refine ⟨_, rfl, ?_⟩
  have hBl := ho.lt
  have ho := ho.frm hf5 jp
  have hpg := hpg.frm hf5
  refine jm rfl (jY rfl rfl (jY rfl rfl (ja rfl (ja rfl (jO (jN (jv7 0 5 7 10 32 33 34 ?_)))))))
  refine jR (jm rfl (jM ?_))
  refine Ops.m (qV.buildS1 rfl zbc zah tP jd jd rfl rfl) rfl ?_
  rintro _ w6 ⟨rfl, hF6⟩
  have hr6 : Rd w6 1 (some ⟨w5.heap.size, 0, none⟩) 1 ([(GB, 128, d.sec (42 + p))].map SL) := by
   have h1 : Rd w6 1 (some ⟨w5.heap.size, 0, none⟩) 1 [.slice GB 128 128] := Rd.of_blk (n := 1) (size := 1) hF6.blk rfl
   rw [zbo, zge, SL]
   dsimp only
   rw [hsl]
   exact h1
  have ho := ho.frm hF6.frm jp
  have hpg := hpg.frm hF6.frm
  have hrG := hrG.frm hF6.frm jp
  have q5 := hf5.size
  have q6 := hF6.frm.size
  have hgl := hrG.lt jo
  refine Ops.m (qV.app rfl rfl zbc (qXd) rfl jd ho hr6 (qM5 _) jo jo) rfl ?_
  rintro _ w7 ⟨B7, d7, rfl, ho7, hf7, hob7⟩
  have k7 : Fk (ob B) w6 w7 (ob B7) := Fk.of_app hf7 hob7
  rw [← zv] at ho7
  have hGB : ∀ y ∈ ob GB, y ∉ ob B := fun y hy hx => by have := hupG y hy; have := hBl y hx; omega
  have hpg7 := (hpg.fk k7).snoc (x := (GB, 128, d.sec (42 + p))) (by dsimp only; rw [hsl]; exact hrG.frm hf7 (fun _ y hy => hGB y hy)) (fun y hy => ⟨zas (hgl y hy) hf7.size, k7.out (hgl y hy) (hGB y hy)⟩) (fun y hy => by have := hupG y hy; omega)
  have K27 := ((K2.trans hf5 jp).trans hF6.frm jp).own hf7 hup
  have hup7 := k7.up hup jo
  refine ja rfl (jO ?_)
  refine qH (jN ?_)
  refine jv6 0 5 7 32 33 34 ?_
  refine jR (jb rfl rfl (Bin.add_i64 _ 1 jo) (jm rfl (jO ?_)))
  refine jN ⟨(i + 1, B7, d7, ps ++ [(GB, 128, d.sec (42 + p))]), (js6 rfl rfl rfl rfl rfl rfl), ?_, ?_⟩
  ·
   exact ⟨hc2, ho7, by dsimp only; rw [zv, hps, hsn, zv]; rfl, hpg7, fun x hx => by
    rcases zcp.1 hx with hx | hx
    · exact hcap x hx
    rw [za] at hx; subst hx; dsimp only; omega, K27, hup7⟩
  exact jq
 obtain rfl : i = dir.length := jo
 rw [zbw] at hps
 have hps : ps.map (·.2.2) = pK d := by rw [hps, hdir]; rfl
 have hpl : ps.length = dir.length := by have := congrArg List.length hps; rw [zae, pK, zae, ← hdir] at this; exact this
 have hp8 : ∀ x ∈ ps, x.2.2.length = 128 ∧ ∀ b ∈ x.2.2, b < 256 := fun x hx => by
  have h1 : x.2.2 ∈ pK d := by rw [← hps]; exact List.mem_map.2 ⟨x, hx, rfl⟩
  obtain ⟨p, hp, he⟩ := List.mem_map.1 h1
  rw [← he]
  have := hdp p (by rw [hdir]; exact hp)
  exact hD.ok.secAt jo
 refine jX ?_
 refine qZ (qZ (qN ?_))
 refine jN (jv3 0 5 7 ?_)
 refine jS (jR (jM ?_))
 refine jc (jE1 Tryz.call115) (qVx B dir.length dB ps wr hpl jo ho.rd (fun x hx => ⟨(hpg x hx).1, (hp8 x hx).2⟩) hcap (fun x hx => (hp8 x hx).1)) ?_
 rintro e w3 ⟨hf3, PA, pm, pc, er, rfl, heri, herd⟩
 rw [hps] at heri herd
 refine ⟨_, rfl, ?_⟩
 have Kw3 := Kw.trans hf3 jp
 refine jm rfl (jY rfl rfl (jY rfl rfl (ja rfl (ja rfl (jO (jN (jv4 0 5 12 13 ?_)))))))
 refine jS (jS (jR (jm rfl (jb rfl rfl (Bin.neqN _ 0) (jO (jN (jv4 0 5 12 55 ?_)))))))
 refine jD rfl (fun hc3 => ?_) fun hc3 => ?_
 ·
  have hno : ¬ OpenOk d := fun ho => by have := heri.2 ho.tree; omega
  refine jS (jR (ja rfl (jO (jN (jv1 2 ?_)))))
  refine jT ?_
  refine qQ (qS rfl ?_)
  exact fail _ (Kw3.mono jp) hno
 have hT := heri.1 jo
 obtain ⟨hpm, hoP, hupP⟩ := herd jo
 have hpm : pm = (opL d).length := hpm
 have hoP : Own w3 128 2 PA pm pc (PC2 (opL d)) := hoP
 subst hpm
 have h600 : (opL d).length ≤ 600 := hT.2.1.2
 have hokL : OkP (opL d) := sV (fun p hp => by
  rw [← hps] at hp
  obtain ⟨x, hx, rfl⟩ := List.mem_map.1 hp
  exact (hp8 x hx).2)
 have hPX : RdX w3 (m :: h :: (F ++ E)) 2 PA (opL d).length (PC2 (opL d)) := RdX.of_new (w := w) hoP.rd (fun x hx => by have := hupP x hx; omega) hX3
 have hDX : RdX w3 (m :: h :: (F ++ E)) 1 DA dir.length (ZN dir) := RdX.of_new (w := w) ((hoD.frm K2 jp).frm hf3 jp).rd hupD hX3
 have hpc := hoP.le
 have hb3 := hb.frm Kw3 jp
 have hm3 := hm.frm Kw3 jp
 have hD3 := hD.frm Kw3 jp
 refine jQ (jN (jv3 0 5 12 ?_))
 refine jS (jR (jm rfl (jm rfl (jm rfl (jm rfl (jZ rfl (jf rfl zaj rfl zbk ?_)))))))
 refine Ops.st (qT.store rfl rfl zbk hb3 rfl rfl) ?_
 rintro w4 ⟨hb4, hf4, hs4⟩
 have hf4 : Frm [h] w3 w4 := hf4
 refine jZ rfl (jf rfl zaj rfl zax ?_)
 refine Ops.st (qT.store rfl rfl zax hb4 rfl rfl) ?_
 rintro w5 ⟨hb5, hf5, hs5⟩
 have hf5 : Frm [h] w4 w5 := hf5
 have hb5 : Blk w5 h 91 #[jI0 g, .slice PA (opL d).length pc, .slice DA dir.length dc, .map (some m), .int .i64 0, .slice none 0 0] := hb5
 have k35 : Frm [h] w3 w5 := hf4.trans hf5 (fun x hx => .inl hx)
 have kk35 : Fk (m :: h :: (F ++ E)) w3 w5 (m :: h :: (F ++ E)) := Fk.self k35 jp
 have hPX := hPX.fk kk35
 have hDX := hDX.fk kk35
 have hm5 := hm3.frm k35 (by simp; exact Ne.symm hhm)
 have hD5 := hD3.frm k35 (fun x hx e => by rw [za] at e; subst e; exact hF hx)
 have q5 : w.heap.size ≤ w5.heap.size := zbd Kw3.size k35.size
 have Kw5 : Frm [h, m] w w5 := (Kw3.mono jp).trans k35 (fun x hx => .inl (by simp at hx; simp [hx]))
 refine jO (jN (jv2 0 12 ?_))
 refine jS (jS (jR (jm rfl (jL rfl zl ?_))))
 refine jx .i64 0 ?_
 refine jO (jN (jv4 0 64 65 66 ?_))
 refine jB ?_
 refine VC.loop (σ := Nat × (Nat → Option Lq)) (fun s => [(0, jI0 h), (64, .slice PA (opL d).length pc), (65, jI1 ((opL d).length)), (66, jI1 s.1)]) (fun s wr => s.1 ≤ (opL d).length ∧ MpU wr m s.2 ∧ (∀ id x, s.2 id = some x → RdX wr (m :: h :: (F ++ E)) 1 x.1 x.2.2.length (ZN x.2.2) ∧ id < 18446744073709551616) ∧ (∀ x ∈ (opL d).take s.1, ∃ r, s.2 x.1 = some r ∧ r.2.2 = pgO d x) ∧ Frm [m] w5 wr ∧ ∀ x ∈ (opL d).take s.1, (eW d x).isSome = true) (fun s => (opL d).length - s.1) (0, fun _ => none) (js4 rfl rfl rfl rfl) ⟨zj _, hm5, (fun id x hx => by cases hx), (fun x hx => by cases hx), Frm.refl _ _, (fun x hx => by cases hx)⟩ ?_
 rintro ⟨i, ly⟩ wr ⟨hi, hml, hly, hlyH, Kr, htrs⟩
 dsimp only at hi hml hly hlyH htrs ⊢
 have hbr := hb5.frm Kr (by simpa using hhm)
 have kkr : Fk (m :: h :: (F ++ E)) w5 wr (m :: h :: (F ++ E)) := Fk.self Kr jp
 have hPr := hPX.fk kkr
 have hDr := hDX.fk kkr
 have hDkr := hD5.frm Kr (fun x hx e => by rw [za] at e; subst e; exact hmF hx)
 have qr := Kr.size
 refine jS (jR (jb rfl rfl (Bin.lssN _ _) (jO (jN (jS ?_)))))
 refine jD rfl (fun hc4 => ?_) fun hc4 => ?_
 ·
  obtain ⟨ad, hA, hel⟩ := gM hPr.1 rfl hc4
  have hmem := fN hc4
  have hsn := sX hc4
  have hokx := hokL _ hmem
  have hsrt := zN hT.2.1.1
  have hlt : ∀ y ∈ (opL d).take i, y.1 ≠ ((opL d).getD i (0, 0)).1 := fun y hy e => by
   have h1 : opL d = (opL d).take (i + 1) ++ (opL d).drop (i + 1) := (zbq _ _).symm
   have h2 : Srt ((opL d).take (i + 1)) := hsrt.sublist (zhr _ _)
   rw [hsn] at h2
   have h3 := (List.pairwise_append.1 h2).2.2 y hy _ (za.2 rfl)
   omega
  subst hA
  generalize (opL d).getD i (0, 0) = x at hel hmem hsn hokx hlt
  obtain ⟨xk, xv⟩ := x
  dsimp only at hokx hlt
  refine jQ (jN (jv4 0 64 65 66 ?_))
  refine jS (jB (jS (jR (je (Run.indexS _ rfl rfl zl zu jo) (je (Run.loadA rfl zea zu hel (by first | rfl | (simp; done))) ?_)))))
  refine Ops.m (qV.alloc dL) rfl ?_
  rintro _ w6 ⟨rfl, hF6⟩
  refine Ops.st (qT.storeA rfl rfl zu hF6.blk rfl (eH (xk, xv))) ?_
  rintro w7 ⟨hb15, hf7, hs7⟩
  have hb15 : Blk w7 wr.heap.size 128 (prC (xk, xv)).toArray := hb15
  have k67 : Frm [] wr w7 := hF6.frm.own hf7 jp
  have hbr := hbr.frm k67 jp
  have hml := hml.frm k67 jp
  have hDkr := hDkr.frm k67 jp
  have h15 : wr.heap.size ≠ m := by have := hX3 m jp; omega
  have hR7 : IsRh w7 h g F d := ⟨hbr.cell 0, hDkr, hF, h44, hbg, hwt, hon⟩
  generalize hg15 : wr.heap.size = g15 at *
  refine jO (jN (jv5 0 15 64 65 66 ?_))
  refine jS ?_
  refine VC.held (fun V => Frm [m] w7 V) jK ?_
  have hS : Frm [m] w7 w7.drew := (Frm.refl _ _).drew
  refine jh 0 hS ?_
  refine jH 1 rfl hS (fun w0 hw0 => Run.nilck rfl) ?_
  refine jH 2 rfl hS (fun w0 hw0 => Run.fieldAddr rfl zaj rfl zdu jd) ?_
  refine jH 3 rfl hS (fun w0 hw0 => Run.load rfl zfr ((hbr.frm hw0 (by simpa using hhm)).cell 3)) ?_
  refine jH 4 rfl hS (fun w0 hw0 => Run.fieldAddr rfl zbj rfl zy jd) ?_
  refine jH 5 rfl hS (fun w0 hw0 => Run.load rfl zai ((hb15.frm hw0 (by simpa using h15)).cell 0)) ?_
  refine jh 6 hS ?_
  refine jH 7 rfl hS (fun w0 hw0 => Run.loadA rfl zea zu ((hb15.frm hw0 (by simpa using h15)).cells) (by first | rfl | (simp; done))) ?_
  refine qJ.cl 8 rfl jK (jE2 Tryz.call116) (qMh (xk, xv) h g F d _ (hR7.frm hS (fun y hy e => by rw [za] at e; subst e; exact hmX hy)) hokx) trivial rfl rfl ?_
  rintro e w8 ⟨LB, ll, lc, tok, rfl, htoki, htokd, hf8, hupL⟩
  have hS := hS.trans hf8 jp
  refine ⟨_, rfl, hS, ?_⟩
  have k78 : Frm [] w7 w8 := (qP.drew w7).frm.trans hf8 jp
  have hml := hml.frm k78 jp
  obtain ⟨xs, hxl, hxs⟩ : ∃ xs : List Nat, xs.length = ll ∧ (tok = true → xs = pgO d (xk, xv)) := by
   cases ht : tok with
   | true => exact ⟨_, (htokd ht).1.symm, fun _ => rfl⟩
   | false => exact ⟨List.replicate ll 0, jp, fun h => (by cases h)⟩
  have hLX : tok = true → RdX w8 (m :: h :: (F ++ E)) 1 LB xs.length (ZN xs) := fun ht => by
   rw [hxl, hxs ht]
   exact RdX.of_new (w := w) (htokd ht).2.rd (fun y hy => by have h1 := hupL y hy; have h2 := k67.size; rw [show w7.drew.heap.size = w7.heap.size from rfl] at h1; omega) hX3
  refine jh 9 hS ?_
  refine jH 10 rfl hS (fun w0 hw0 => Run.extract rfl rfl) ?_
  refine jH 11 rfl hS (fun w0 hw0 => Run.extract rfl rfl) ?_
  refine qJ.st 12 rfl jK (qT.mapUpd (x := xk) rfl rfl rfl hml (Go.Maps.int_keyed zr) mE zeq (kP _ hokx.1)) trivial rfl ?_
  rintro w9 ⟨hml9, hf9, hs9⟩
  have hS := hS.trans hf9 (fun y hy => .inl hy)
  refine ⟨hS, ?_⟩
  have hml9 : MpU w9 m (fun y => if y = xk then some (LB, lc, xs) else ly y) := by
   have e : lyV (fun y => if y = xk then some (LB, lc, xs) else ly y) = fun y => if y = xk then some (.slice LB ll lc) else lyV ly y := by
    funext y
    unfold lyV
    dsimp only
    by_cases h : y = xk
    · rw [if_pos h, if_pos h, ← hxl]; rfl
    rw [if_neg h, if_neg h]
   rw [MpU, e]
   exact hml9
  have k9 : Fk (m :: h :: (F ++ E)) w8 w9 (m :: h :: (F ++ E)) := Fk.self hf9 jp
  have Kr9 : Frm [m] w5 w9 := (Kr.trans k67 jp).trans hS (fun y hy => .inl hy)
  refine jH 13 rfl hS (fun w0 hw0 => Run.asg rfl) ?_
  refine qJ.done jK ?_
  refine jN (jv5 0 6 64 65 66 ?_)
  refine jS (jR (jm rfl (je (Run.not rfl) (jO (jN (jv5 0 64 65 66 83 ?_))))))
  refine VC.condB rfl (fun hc5 => ?_) (fun hc5 => ?_)
  ·
   have ht0 : ¬ tok = true := by simpa using hc5
   have hno : ¬ OpenOk d := fun ho => ht0 (htoki.2 (ho.tr _ hmem))
   refine jS (jR (ja rfl (jO (jN (jv1 2 ?_)))))
   refine jT ?_
   refine qR (qQ (qQ (qR (qQ (qS rfl ?_)))))
   exact fail _ (Kw5.trans Kr9 (fun x hx => .inl (by simp at hx; simp [hx]))) hno
  have ht1 : tok = true := by simpa using hc5
  have hxs := hxs ht1
  have hLX := hLX ht1
  refine jQ ?_
  refine qH (jN ?_)
  refine jv4 0 64 65 66 ?_
  refine jR (jb rfl rfl (Bin.add_i64 _ 1 jo) (jm rfl (jO ?_)))
  refine jN ⟨(i + 1, fun y => if y = xk then some (LB, lc, xs) else ly y), (js4 rfl rfl rfl rfl), ?_, ?_⟩
  ·
   exact ⟨hc4, hml9, fun id r hid => by
    have hid : (if id = xk then some (LB, lc, xs) else ly id) = some r := hid
    by_cases h : id = xk
    ·
     rw [if_pos h] at hid
     cases hid
     exact ⟨hLX.fk k9, by rw [h]; exact hokx.1⟩
    ·
     rw [if_neg h] at hid
     exact ⟨(((hly id r hid).1.frm k67).frm k78).fk k9, (hly id r hid).2⟩, fun z hz => by
    dsimp only at hz ⊢
    rw [hsn] at hz
    rcases zcp.1 hz with hz | hz
    ·
     rw [if_neg (hlt z hz)]
     exact hlyH z hz
    ·
     rw [za] at hz
     subst hz
     exact ⟨_, if_pos rfl, hxs⟩, Kr9, fun z hz => by
    dsimp only at hz
    rw [hsn] at hz
    rcases zcp.1 hz with hz | hz
    · exact htrs z hz
    rw [za] at hz; subst hz; exact htoki.1 ht1⟩
  exact jq
 obtain rfl : i = (opL d).length := jo
 rw [zbw] at hlyH htrs
 have hpre : OpenPre d := ⟨hsup, hT, htrs⟩
 have hokH := hpre.ok hD.ok h44 hwt
 have hXs : ∀ y ∈ h :: F, y ∈ m :: h :: (F ++ E) := fun y hy => by
  rcases zaq.1 hy with rfl | hy
  · simp
  simp [hy]
 have hHd : (cI d).dir = dir := hdir.symm
 have hN : (cI d).N = d.has.length - 42 := rfl
 have hC : IsHc wr h g F (cI d) ⟨PA, pc, DA, dc, m, none, 0, ly⟩ (.int .i64 0) (.slice none 0 0) := ⟨hokH, hDkr, hF, by rw [hHd]; exact hbr, hPr.mono hXs, hpc, by rw [hHd]; exact hDr.mono hXs, hml, hmX, fun id x hx => ⟨(hly id x hx).1.mono hXs, (hly id x hx).2⟩, fun x hx => by
  obtain ⟨r, h1, h2⟩ := hlyH x hx
  exact ⟨r, h1, by rw [h2]; exact (hpre.lies hx).symm⟩⟩
 refine jX ?_
 refine qZ (qZ (qN ?_))
 refine jN (jv1 0 ?_)
 refine jS (jR (jm rfl (jM ?_)))
 refine jc (jE1 Tryz.call47) (qMi _ _ h g F (cI d) _ wr hC) ?_
 rintro e w6 ⟨vs, cok, rfl, hvs, hv1, hf6, hcok, hcd⟩
 refine ⟨_, rfl, ?_⟩
 have hC6 := hC.frm hf6
 have ho6 : Own w6 91 6 (some ⟨h, 0, none⟩) 1 1 _ := Own.of_blk hC6.blk rfl jd
 have hX6 : ∀ x ∈ h :: F, x < wr.heap.size := fun x hx => by have := hX3 x (hXs x hx); omega
 refine jm rfl (jY rfl rfl (jY rfl rfl (jZ rfl (jf rfl zaj rfl zw ?_))))
 refine Ops.st (qT.storeSub (o := 4) rfl rfl (by rw [hvs]; exact zw) ho6 (by rw [hvs]; exact zag 6) hv1) ?_
 rintro w7 ⟨ho7, hf7, hs7⟩
 have hf7 : Frm [h] w6 w7 := hf7
 have k7 : Fk (h :: F) w6 w7 (h :: F) := Fk.self hf7 jp
 have Kw7 : Frm [h, m] w w7 := ((Kw5.trans Kr (fun x hx => .inl (by simp at hx; simp [hx]))).trans hf6 jp).trans hf7 (fun x hx => .inl (by simp at hx; simp [hx]))
 have hD7 := hC6.dk.frm hf7 (fun x hx e => by rw [za] at e; subst e; exact hF hx)
 refine ja rfl (jO (jN (jv1 6 ?_)))
 refine jS (jR (jm rfl (ja rfl (jO (jN (jv1 2 ?_))))))
 refine jT ?_
 refine qS rfl ?_
 refine ⟨cok, rfl, Kw7, hD7, ?_, fun hck => ?_⟩
 ·
  rw [hcok, hpre.all]
  exact ⟨fun hn => ⟨hpre, hn⟩, fun ho => ho.nod⟩
 obtain ⟨UB, uc, rfl, hrU, hupU⟩ := hcd hck
 have hb7 := ho7.blk1
 have hrX : RdX w6 (h :: F) 1 UB (((cI d).N + 7) / 8) (NB (cL (cI d).N (fun p => decide (p ∈ bH (cI d))))) := RdX.of_new (w := wr) hrU hupU hX6
 refine ⟨⟨PA, pc, DA, dc, m, UB, uc, ly⟩, ?_, ⟨fun h0 y hy hx => (hPr.2 h0 y hy).2 (hEX y hx), fun h0 y hy hx => (hDr.2 (by rw [← hHd]; exact h0) y hy).2 (hEX y hx), hmE, fun id x hx h0 y hy hx2 => ((hly id x hx).1.2 h0 y hy).2 (hEX y hx2), fun _ y hy hx => by have h1 := hupU y hy; have h2 := hX3 y (hEX y hx); omega⟩⟩
 refine ⟨hokH, hD7, hF, hb7, hC6.pr.fk k7, hpc, hC6.dr.fk k7, hC6.mp.frm hf7 (fun e => hhm (za.1 e).symm), hmX, fun id x hx => ⟨(hC6.ly id x hx).1.fk k7, (hC6.ly id x hx).2⟩, hC6.lyH, ?_⟩
 have hue : (cI d).used = fun p => decide (p ∈ bH (cI d)) := by rw [hpre.all]; rfl
 rw [hue]
 exact hrX.fk k7
theorem qNb (E : List Nat) (g : Nat) (F : List Nat) (d : Dk) (w : World) (hE : ∀ x ∈ E, x < w.heap.size) (hD : IsDk w g F d) (hwl : d.wts.length ≤ 90000) (h44 : 44 ≤ d.has.length) (hl2 : (bW d).2.2.has.length = d.has.length) (hon : (bW d).2.1 = 0 → (bW d).2.2.off = false) :
  Calls Tryz.prog 12 #[jI0 g] w fun e w' => ∃ F', IsDk w' g F' (bW d).2.2 ∧ Fk F w w' F' ∧
   ((bW d).2.1 ≠ 0 ∧ e = .returned (.tuple #[.pointer none, jI1 ((bW d).2.1)]) ∨ (bW d).2.1 = 0 ∧ ¬ OpenOk (bW d).2.2 ∧ e = .returned (.tuple #[.pointer none, .int .i64 3]) ∨
    (bW d).2.1 = 0 ∧ OpenOk (bW d).2.2 ∧ ∃ h q, e = .returned (.tuple #[jI0 h, .int .i64 0]) ∧ IsHt w' h g F' (cI (bW d).2.2) q ∧ w.heap.size ≤ h ∧ OffQ E (cI (bW d).2.2) q) := by
 have hbg := hD.ok.big
 refine jV Tryz.func12 Tryz.ntmps12 Tryz.results12 ?_
 refine jS (jR (ja rfl (jz 0 (jO (jN (jv1 0 ?_))))))
 refine jS (jS (jR (jM ?_)))
 refine jc0 (jE1 Tryz.call35) (nJ g F d w hD) ?_
 refine jO (jN (jv2 0 8 ?_))
 refine VC.condF rfl jdf ?_
 refine jQ (jN (jv1 0 ?_))
 refine jS (jS (jR (jM ?_)))
 refine jc (jE1 Tryz.call48) (qQz g F d w hD jo) ?_
 rintro e w1 ⟨F1, rfl, hD1, hk1⟩
 refine ⟨_, rfl, ?_⟩
 have hrw := xY d
 generalize bW d = rc at *
 obtain ⟨rn, re, d1⟩ := rc
 dsimp only at hD1 hon hl2 hrw ⊢
 refine jm rfl (jY rfl rfl (jY rfl rfl (ja rfl (ja rfl (jO (jN (jv2 0 5 ?_)))))))
 refine jS (jR (jm rfl (jb rfl rfl (Bin.neqN _ 0) (jO (jN (jv3 0 5 15 ?_))))))
 refine jD rfl (fun hc2 => ?_) fun hc2 => ?_
 ·
  have hre : re ≠ 0 := jo
  refine jS (jR (jm rfl (ja rfl (ja rfl (jO (jN (jv2 2 3 ?_)))))))
  refine jT ?_
  refine qQ (bX rfl rfl ?_)
  exact ⟨F1, hD1, hk1, .inl ⟨hre, rfl⟩⟩
 have hre : re = 0 := jo
 have hoff := hon hre
 subst hre
 refine jQ (jN (jv1 0 ?_))
 refine jS (jR (jM ?_))
 refine Ops.m (qV.makeMap (k := 54) (enc := fO)) rfl ?_
 rintro _ w2 ⟨rfl, hmp, hf2, hs2⟩
 have hD2 := hD1.frm hf2 jp
 generalize hgm : w1.heap.size = m at hmp hs2 ⊢
 have hmp : MpU w2 m (fun _ => none) := hmp
 have hml := hmp.lt
 refine je (Run.build (evs.cons rfl (evs.cons rfl evs.nil)) qXe (mH).choose_spec.1 (mH).choose_spec.2 (cells := #[jI0 g, .slice none 0 0, .slice none 0 0, .map (some m), .int .i64 0, .slice none 0 0]) rfl) ?_
 refine Ops.m (qV.box rfl) rfl ?_
 rintro _ w3 ⟨rfl, hF3⟩
 have hb3 : Blk w3 w2.heap.size 91 #[jI0 g, .slice none 0 0, .slice none 0 0, .map (some m), .int .i64 0, .slice none 0 0] := hF3.blk
 have hmp3 := hmp.frm hF3.frm jp
 have hD3 := hD2.frm hF3.frm jp
 have hFl := hD1.lt
 have q1 := hk1.1.size
 have hh2 : w2.heap.size ∉ F1 := fun hx => by have := hFl _ hx; have := hf2.size; omega
 have hm2 : m ∉ w2.heap.size :: F1 := fun hx => by
  rcases zaq.1 hx with h1 | h1
  · omega
  have := hFl _ h1; omega
 have q2 : w1.heap.size ≤ w2.heap.size := hf2.size
 generalize hgh : w2.heap.size = h at *
 refine ja rfl (jO (jN (jv1 6 ?_)))
 refine jS (jS (jR (jM ?_)))
 refine jc (jE1 Tryz.call49) (qNa E m h g F1 d1 w3 (fun x hx => by have h1 := hE x hx; have h2 := hb3.lt; omega) (fun hx => by have h1 := hE _ hx; omega) hb3 hD3 hh2 hmp3 hm2 jo jo hoff) ?_
 rintro e w4 ⟨ok, rfl, hf4, hD4, hoki, hokd⟩
 refine ⟨_, rfl, ?_⟩
 have hk4 : Fk F w w4 F1 := ⟨((hk1.1.trans hf2 jp).trans hF3.frm jp).trans hf4 (fun x hx => .inr (by simp at hx; omega)), hk1.2⟩
 refine je (Run.not rfl) (jO (jN (jv2 6 23 ?_)))
 refine VC.condB rfl (fun hc3 => ?_) (fun hc3 => ?_)
 ·
  have ho0 : ¬ ok = true := by simpa using hc3
  have hno : ¬ OpenOk d1 := fun ho => ho0 (hoki.2 ho)
  refine jS (jR (ja rfl (jz 3 (jO (jN (jv2 2 3 ?_))))))
  refine jT ?_
  refine qQ (bX rfl rfl ?_)
  exact ⟨F1, hD4, hk4, .inr (.inl ⟨rfl, hno, rfl⟩)⟩
 have ho1 : ok = true := by simpa using hc3
 have hoo := hoki.1 ho1
 obtain ⟨q, hHt, hqE⟩ := hokd ho1
 refine jQ (jN (jv1 6 ?_))
 refine jS (jR (jm rfl (ja rfl (jz 0 (jO (jN (jv2 2 3 ?_)))))))
 refine jT ?_
 refine bX rfl rfl ?_
 exact ⟨F1, hD4, hk4, .inr (.inr ⟨rfl, hoo, h, q, rfl, hHt, jo, hqE⟩)⟩
theorem qQx {d : Dk} (h1 : 44 ≤ d.has.length) (h2 : d.has.length ≤ 2048) (h3 : d.wts.length ≤ 100000) (B : Nat → List Nat) : InvS (bP d) B :=
 ⟨vW h1 h2 h3, zhn, (fun x hx => by cases hx), (fun x hx => by cases hx), (fun x hx => by cases hx), (fun p hp => by simp [bP, bH, cF]), (fun x hx => by cases hx)⟩
theorem OffR.nil (E : List Nat) (q : RwQ) : OffR E [] 0 q := ⟨fun h => absurd h jp, fun h => absurd h jp, fun x hx => by cases hx⟩
theorem qQ1 (g : Nat) (F : List Nat) (d : Dk) (w : World) (hD : IsDk w g F d) (hsz : d.has.length < 44) :
  Calls Tryz.prog 7 #[jI0 g] w fun e w' => e = .returned (.tuple #[.pointer none, .int .i64 1]) ∧ w = w' := by
 refine jV Tryz.func7 Tryz.ntmps7 Tryz.results7 ?_
 refine jS (jR (ja rfl (jz 0 (jO (jN (jv1 0 ?_))))))
 refine jS (jS (jR (jM ?_)))
 refine jc0 (jE1 Tryz.call35) (nJ g F d w hD) ?_
 refine jO (jN (jv2 0 10 ?_))
 refine VC.condT rfl (decide_eq_true hsz) ?_
 refine jS (jR (ja rfl (jz 1 (jO (jN (jv2 2 3 ?_))))))
 refine jT ?_
 refine qQ (bX rfl rfl ?_)
 exact ⟨rfl, rfl⟩
theorem zP (gm : Nat) (F : List Nat) (d : Dk) (w : World) (hD : IsRd w gm F d) (hsz : d.has.length < 44) :
  Calls Tryz.prog 19 #[jI0 gm] w fun e w' => e = .returned (.tuple #[.pointer none, .int .i64 1]) ∧ w = w' := by
 obtain ⟨A, c, B, cb, hb, hA, hB, hFe, hgA, hgB, hAB⟩ := hD.parts
 have hbig := hD.ok.big
 refine jV Tryz.func19 Tryz.ntmps19 Tryz.results19 ?_
 refine jS (jR (ja rfl (jz 0 (jO (jN (jv1 0 ?_))))))
 refine jS (jS (jR (jm rfl (jZ rfl (jf rfl zaf rfl zdc (jl rfl zdv (hb.cell 0) (jL rfl zar (jb rfl rfl (Bin.lssN _ 44) (jO (jN (jv2 0 12 ?_)))))))))))
 refine VC.condT rfl (decide_eq_true jo) ?_
 refine jS (jR (ja rfl (jz 1 (jO (jN (jv2 2 3 ?_))))))
 refine jT ?_
 refine qQ (bX rfl rfl ?_)
 exact ⟨rfl, rfl⟩
theorem qQ2 (gm : Nat) (F : List Nat) (d : Dk) (w : World) (hD : IsRd w gm F d) (hsz : 44 ≤ d.has.length) (hwl : d.wts.length ≤ 90000) (hf : (bY d).1 = 0) (hb0 : (qB (bP (bY d).2) []).1 = 0) :
  Calls Tryz.prog 19 #[jI0 gm] w fun e w' => ∃ y F' bl q, e = .returned (.tuple #[jI0 y, .int .i64 0]) ∧ IsRw w' y gm F' (qB (bP (bY d).2) []).2.dk bl (qB (bP (bY d).2) []).2.dir q ∧ bE (qB (bP (bY d).2) []).2.pairs (qB (bP (bY d).2) []).2.lies (fun _ => []) bl ∧ Fk F w w' (y :: F') ∧ w.heap.size ≤ y ∧ ∀ E : List Nat, (∀ z ∈ E, z < w.heap.size) → OffR E bl (qB (bP (bY d).2) []).2.dir.length q := by
 obtain ⟨A, c, B, cb, hb, hA, hB, hFe, hgA, hgB, hAB⟩ := hD.parts
 have hbig := hD.ok.big
 have hfe : qL d dV = bY d := by unfold bY; rw [if_neg jo]
 have hl := mA d
 have hwt : (bY d).2.wts.length ≤ 99000 := by
  have h1 := pZ dV d
  rw [hfe] at h1
  have h2 : dV.length = 2 := rfl
  omega
 refine jV Tryz.func19 Tryz.ntmps19 Tryz.results19 ?_
 refine jS (jR (ja rfl (jz 0 (jO (jN (jv1 0 ?_))))))
 refine jS (jS (jR (jm rfl (jZ rfl (jf rfl zaf rfl zdc (jl rfl zdv (hb.cell 0) (jL rfl zar (jb rfl rfl (Bin.lssN _ 44) (jO (jN (jv2 0 12 ?_)))))))))))
 refine VC.condF rfl jdf ?_
 refine jQ (jN (jv1 0 ?_))
 refine jS (jS (jR (jM ?_)))
 refine jc (jE1 Tryz.call56) (nC gm F d w hD jo) ?_
 rintro e w1 ⟨F1, rfl, hD1, hk1⟩
 refine ⟨_, rfl, ?_⟩
 rw [hfe] at hD1 ⊢
 rw [hf]
 refine ja rfl (jO (jN (jv2 0 4 ?_)))
 refine jS (jR (jm rfl (jb rfl rfl (Bin.neqN _ 0) (jO (jN (jv3 0 4 16 ?_))))))
 refine VC.condF rfl jp ?_
 refine jQ (jN (jv1 0 ?_))
 refine jS (jR (jm rfl (je (Run.build (evs.cons rfl evs.nil) qJz (pN).choose_spec.1 (pN).choose_spec.2 (cells := #[jI0 gm, .slice none 0 0, .slice none 0 0]) rfl) ?_)))
 refine Ops.m (qV.box rfl) rfl ?_
 rintro _ w3 ⟨rfl, hF3⟩
 have hb3 : Blk w3 w1.heap.size 121 #[jI0 gm, .slice none 0 0, .slice none 0 0] := hF3.blk
 have K3 := hF3.frm
 have hq3 := hF3.size
 have hq1 := hk1.1.size
 have hD3 := hD1.frm K3 jp
 have hF1 := hD1.lt
 obtain ⟨y, hy⟩ : ∃ y, y = w1.heap.size := ⟨_, rfl⟩
 rw [← hy] at hb3 hq3 ⊢
 have hY : IsRw w3 y gm F1 (bP (bY d).2).dk [] (bP (bY d).2).dir ⟨none, 0, none, 0⟩ := ⟨hD3, fun hx => by have := hF1 y hx; omega, hb3, ⟨Rd.nil _ _ _, fun h0 => absurd h0 jp⟩, (fun x hx => by cases hx), ⟨Rd.nil _ _ _, fun h0 => absurd h0 (by simp [bP])⟩, (fun p hp => by cases hp), by show 44 ≤ (bY d).2.has.length; omega, by simp, by simp [bP], by show (bY d).2.wts.length ≤ 100000; omega⟩
 have hk3 : Fk F w w3 (y :: F1) := ⟨hk1.1.trans K3 jp, fun x hx => by
  rcases zaq.1 hx with rfl | hx
  · right; omega
  exact hk1.2 x hx⟩
 refine ja rfl (jO (jN (jv1 5 ?_)))
 refine jS (jS (jR (jM ?_)))
 refine jc (jE2 Tryz.call20) (uL none 0 0 [] y gm F1 (bP (bY d).2) (fun _ => []) [] ⟨none, 0, none, 0⟩ w3 hY (qQx jo jo jo _) (by simp [bE, bP]) (by show (bY d).2.wts.length ≤ 99000; omega) jo (RdC.nil w3)) ?_
 rintro e w7 ⟨F', bl, q, rfl, hH', hrel, hk7, hoff⟩
 refine ⟨_, rfl, ?_⟩
 rw [show chL [] = [] from rfl] at hH' hrel hoff ⊢
 rw [hb0]
 rw [hb0, if_pos rfl] at hrel
 refine ja rfl (jO (jN (jv2 5 6 ?_)))
 refine jS (jR (jm rfl (jb rfl rfl (Bin.neqN _ 0) (jO (jN (jv3 5 6 24 ?_))))))
 refine VC.condF rfl jp ?_
 refine jQ (jN (jv1 5 ?_))
 refine jS (jR (jm rfl (ja rfl (jz 0 (jO (jN (jv2 2 3 ?_)))))))
 refine jT ?_
 refine bX rfl rfl ?_
 exact ⟨y, F', bl, q, rfl, hH', hrel, hk3.trans hk7, jo, fun E hE => hoff E (fun z hz => by have := hE z hz; omega) (OffR.nil E _)⟩
section
variable {H : Hm} {B : Nat → List Nat} {bl : List Rb}
theorem rJ : ∀ {l : List Pr}, Srt l → (l.map (·.1)).Nodup := fun h => by
 rw [zev, zhs]
 exact h.imp (fun hab => Nat.ne_of_lt hab)
theorem gZ {α β : Type} {f : α → β} : ∀ {l : List α}, (l.map f).Nodup → ∀ {a b : α}, a ∈ l → b ∈ l → f a = f b → a = b
 | [], _, _, _, ha, _, _ => by cases ha
 | x :: r, hn, a, b, ha, hb, he => by
  rw [zbo, zft] at hn
  rcases zaq.1 ha with h1 | h1
  ·
   rcases zaq.1 hb with h2 | h2
   · rw [h1, h2]
   exact absurd (List.mem_map.2 ⟨b, h2, by rw [← he, h1]⟩) hn.1
  rcases zaq.1 hb with h2 | h2
  · exact absurd (List.mem_map.2 ⟨a, h1, by rw [he, h2]⟩) hn.1
  exact gZ hn.2 h1 h2 he
theorem qHa (h : InvS H B) (hr : bE H.pairs H.lies B bl) (id : Nat) : gN H id = tG H.dk bl id := by
 have hids := hr.ids
 unfold gN tG
 by_cases hid : id ∈ H.pairs.map (·.1)
 ·
  rw [if_neg (not_not_intro hid)]
  obtain ⟨p1, p2, p3⟩ := oF h.ok.srt hid
  have hid2 := hid
  rw [← hids] at hid2
  obtain ⟨x, hx, rfl⟩ := List.mem_map.1 hid2
  have hnd : (bl.map (·.1)).Nodup := by rw [hids]; exact (rJ h.ok.srt)
  have hf : bl.find? (fun y => decide (y.1 = x.1)) = some x := by
   cases hc : bl.find? (fun y => decide (y.1 = x.1)) with
   | none => exact absurd (List.find?_eq_none.1 hc x hx) jp
   | some z =>
    have h1 := zhc hc
    have h2 := zfd hc
    rw [gZ hnd h2 hx (by simpa using h1)]
  rw [hf]
  dsimp only
  by_cases ho : H.dk.off = true
  · rw [if_pos ho, if_pos ho]
  rw [if_neg ho, if_neg ho]
  obtain ⟨z, hz, he⟩ := hr.mem hx
  have hzx : z.1 = x.1 := (congrArg (·.1) he).symm
  have hzp : z = H.pairs.getD (cD H.pairs x.1) (0, 0) := gZ (f := (·.1)) (rJ h.ok.srt) hz p2 (by rw [p3, hzx])
  rw [← hzp]
  have e1 : x.2.1 = B z.1 := congrArg (·.2.1) he
  have e2 : x.2.2.1.2.2 = H.lies z.1 := congrArg (·.2.2.1) he
  have e3 : x.2.2.2 = z.2 / 4294967296 := congrArg (·.2.2.2) he
  have hb := h.blob z hz
  have hlen : cN z = (B z.1).length := by
   have h1 := hb.1
   have h2 := hb.2.2.1
   have h3 : atP (H.lies z.1) < 65536 := by
    unfold atP
    have h4 := (h.ok.pg z hz).1
    have h5 := h.ok.big
    cases hl : H.lies z.1 with
    | nil => simp
    | cons a r =>
     have h6 := h4 a (by rw [hl]; simp)
     unfold Hm.N at h6
     simp
     omega
   unfold cN
   omega
  rw [e1, e2, e3, ← hlen, ← hzx]
  rfl
 rw [if_pos hid]
 have hf : bl.find? (fun y => decide (y.1 = id)) = none := List.find?_eq_none.2 fun y hy => by
  have : id ∉ bl.map (·.1) := by rw [hids]; exact hid
  simp only [decide_eq_true_eq]
  intro e
  exact this (List.mem_map.2 ⟨y, hy, e⟩)
 rw [hf]
theorem qYw (h : InvS H B) (hr : bE H.pairs H.lies B bl) : (bl.map (·.1)).Nodup := by rw [hr.ids]; exact rJ h.ok.srt
theorem qHb (h : InvS H B) (hr : bE H.pairs H.lies B bl) : ∀ x ∈ bl, x.2.1.length ≤ 126 * x.2.2.1.2.2.length := fun x hx => by
 obtain ⟨z, hz, he⟩ := hr.mem hx
 have e1 : x.2.1 = B z.1 := congrArg (·.2.1) he
 have e2 : x.2.2.1.2.2 = H.lies z.1 := congrArg (·.2.2.1) he
 rw [e1, e2, (h.blob z hz).2.1]
 unfold qI
 omega
end
theorem wJ (g gm : Nat) (F G : List Nat) (d : Dk) (w : World) (hD : IsDk w g F d) (hM : IsRd w gm G d) :
  Calls Tryz.prog 34 #[jI0 g, jI0 gm] w fun e w' => e = .returned (.bool true) ∧ Frm [] w w' := by
 obtain ⟨A, c, C, cb, hb, hA, hC, hFe, hgA, hgC, hAC⟩ := hM.parts
 have hbig := hM.ok.big
 have K0 := Frm.refl [] w
 refine jV Tryz.func34 Tryz.ntmps34 Tryz.results34 ?_
 refine jS (jR (ja rfl (jO (jN (jv2 0 1 ?_)))))
 refine jS (jS ?_)
 refine VC.held (fun V => Frm [] w V) jK ?_
 have hS : Frm [] w w.drew := (Frm.refl _ _).drew
 refine jh 0 hS ?_
 refine jh 2 hS ?_
 refine jH 3 rfl hS (fun w0 hw0 => Run.nilck rfl) ?_
 refine jH 4 rfl hS (fun w0 hw0 => Run.fieldAddr rfl zaf rfl zdc jd) ?_
 refine jH 5 rfl hS (fun w0 hw0 => Run.load rfl zdv ((hb.frm hw0 jp).cell 0)) ?_
 refine jH 6 rfl hS (fun w0 hw0 => Run.lenS rfl zar) ?_
 refine qJ.cl 1 rfl jK (jE1 zfe) (dU g F d _ (hD.frm hS jp)) trivial rfl rfl ?_
 rintro e _ ⟨rfl, rfl⟩
 refine ⟨_, rfl, hS, ?_⟩
 refine jH 7 rfl hS (fun w0 hw0 => Run.bin rfl rfl (Bin.neqN _ _)) ?_
 refine qJ.done jK ?_
 refine jN (jv3 0 1 15 ?_)
 refine VC.condF rfl jp ?_
 refine jQ (jN (jv2 0 1 ?_))
 refine jS (jS (jR (jz 0 (jO (jN (jB ?_))))))
 refine VC.loop (σ := Nat) (fun s => [(0, jI0 g), (1, jI0 gm), (5, jI1 s)]) (fun s wr => s ≤ d.has.length ∧ Frm [] w wr) (fun s => d.has.length - s) 0 (js3 rfl rfl rfl) ⟨zj _, by first | exact K0 | exact K0.drawn (qP.drew _)⟩ ?_
 rintro i wr ⟨hi, K⟩
 refine jS (jS (jR (jm rfl (jm rfl (jZ rfl (jf rfl zaf rfl zdc (jl rfl zdv ((hb.frm K jp).cell 0) (jL rfl zar (jb rfl rfl (Bin.lssN _ _) (jO (jN (jv4 0 1 5 22 ?_))))))))))))
 refine jD rfl (fun hc2 => ?_) fun hc2 => ?_
 ·
  obtain ⟨ad, hAd, -⟩ := oX hA.rd jp hc2
  have hel : ∀ V, Frm [] w V → V.cell? (ad.add i) = some (.string (qF (d.has.getD i []))) := fun V hV => by
   obtain ⟨ad2, h1, h2⟩ := oX (hA.frm hV jp).rd jp hc2
   rw [hAd] at h1
   cases h1
   exact h2
  have hoc : ∀ b ∈ d.has.getD i [], b < 256 := (hM.ok.sec _ (by rw [zb, ze hc2]; exact zbp hc2)).2
  subst hAd
  refine jQ (jN (jv3 0 1 5 ?_))
  refine jS (jB (jS (jR (jm rfl (jM ?_)))))
  refine jc (jE2 Tryz.call86) (qV8 g i F d wr (hD.frm K jp) hc2) ?_
  rintro e w2 ⟨B, rfl, hrB, hf2⟩
  refine ⟨_, rfl, ?_⟩
  have K := K.trans hf2 jp
  refine jm rfl (jY rfl rfl (jY rfl rfl (ja rfl (ja rfl (jO (jN (jv5 0 1 5 6 7 ?_)))))))
  refine jS ?_
  refine VC.still jK jK ?_
  refine qM ?_
  refine qE (Run.strOf rfl zg zac zt (rdU (hrB.drawn (qP.drew _)) hoc)) ?_
  refine qM ?_
  refine qE (Run.nilck rfl) ?_
  refine qE (Run.fieldAddr rfl zaf rfl zdc jd) ?_
  refine qE (Run.load rfl zdv ((hb.frm (K.drawn (qP.drew _)) jp).cell 0)) ?_
  refine qM ?_
  refine qE (Run.index1 _ rfl rfl zar zbm jo) ?_
  refine qE (Run.load rfl zde (hel _ (K.drawn (qP.drew _)))) ?_
  refine qE (Run.neqO rfl rfl hoc hoc) ?_
  refine qM ?_
  refine bJ.rg rfl jdp (Run.mv rfl) rfl ?_
  refine bJ.rg rfl jdp (Run.bin rfl rfl (Bin.neqN _ 0)) rfl ?_
  refine qE (Run.pickF rfl rfl jdp) ?_
  refine bJ.nil ?_
  refine jN (jv4 0 1 5 44 ?_)
  refine VC.condF rfl jp ?_
  refine jQ ?_
  refine qH (jN ?_)
  refine jv3 0 1 5 ?_
  refine jR (jm rfl (jb rfl rfl (Bin.add_i64 _ 1 jo) (ja rfl (jO ?_))))
  refine jN ⟨i + 1, (js3 rfl rfl rfl), ?_, ?_⟩
  · exact ⟨hc2, K.drawn (qP.drew _)⟩
  exact jq
 refine jX ?_
 refine qZ (qZ (qN ?_))
 refine jN ?_
 refine VC.sub [] .nil ?_
 refine jS (jR (ja rfl (jO (jN (jT ?_)))))
 refine qS rfl ?_
 exact ⟨rfl, K⟩
theorem qYx (U : Nat → Bool) (N i : Nat) (hi : i < N) (hU : U i = true) : ((List.range i).filter U).length < ((List.range N).filter U).length ∧ ((List.range N).filter U).getD ((List.range i).filter U).length 0 = i := by
 obtain ⟨k, rfl⟩ : ∃ k, N = i + (k + 1) := ⟨N - i - 1, jo⟩
 have e : (List.range (i + (k + 1))).filter U = (List.range i).filter U ++ i :: ((List.range k).map (fun j => i + (j + 1))).filter U := by
  rw [List.range_add, zcy, List.range_succ_eq_map, zbo, zfk (by simpa using hU), zeh]
  rfl
 rw [e]
 refine ⟨by rw [zf, zad]; omega, ?_⟩
 rw [zb, zcz (zag _), zes]
 rfl
theorem qJv (U : Nat → Bool) (i : Nat) : ((List.range (i + 1)).filter U).length = ((List.range i).filter U).length + if U i then 1 else 0 := by
 rw [zda, zcy, zf]
 congr 1
 by_cases h : U i = true
 · rw [zfk h, if_pos h]; rfl
 rw [zfl h, if_neg h]; rfl
theorem rdG {f : Nat → Value} {w : World} {A : Option Addr} {n : Nat} {l : List Nat} (h : Rd w 1 A n (l.map f)) (hn : l.length = n) {k : Nat} (hk : k < n) (d : Nat) : ∃ ad, A = some ad ∧ w.cell? (ad.add k) = some (f (l.getD k d)) := by
 obtain ⟨ad, h1, _, hc⟩ := h.2 jo
 exact ⟨ad, h1, hc k _ (by simp [zb, ze (jo : k < l.length)])⟩
theorem qHc {H : Hm} {B : Nat → List Nat} (h : InvS H B) {z : Pr} (hz : z ∈ H.pairs) : cN z = (B z.1).length := by
 have hb := h.blob z hz
 have h1 := hb.1
 have h2 := hb.2.2.1
 have h3 : atP (H.lies z.1) < 65536 := by
  unfold atP
  have h4 := (h.ok.pg z hz).1
  have h5 := h.ok.big
  cases hl : H.lies z.1 with
  | nil => simp
  | cons a r =>
   have h6 := h4 a (by rw [hl]; simp)
   unfold Hm.N at h6
   simp
   omega
 unfold cN
 omega
theorem wK (g gm h y : Nat) (F G : List Nat) (H : Hm) (B : Nat → List Nat) (bl : List Rb) (q : HtQ) (rq : RwQ) (w : World) (hH : IsHt w h g F H q) (hY : IsRw w y gm G H.dk bl H.dir rq) (hI : InvS H B) (hrel : bE H.pairs H.lies B bl) :
  Calls Tryz.prog 21 #[jI0 h, jI0 g, jI0 y] w fun e w' => e = .returned (.bool true) ∧ Frm [] w w' := by
 have hsz := hY.sz
 have hbg := hY.dk.ok.big
 have hl := hrel.len
 have hids := hrel.ids
 have h600 := hH.ok.n600
 have hN : H.N = H.dk.has.length - 42 := rfl
 obtain ⟨N, hNN⟩ : ∃ N, N = H.dk.has.length - 42 := ⟨_, rfl⟩
 have hwh : H.dir ++ pgs bl = bH H := by rw [hrel.pgs]; rfl
 have hfr := qQw hI hrel
 obtain ⟨U, hU⟩ : ∃ U, U = (List.range N).filter H.used := ⟨_, rfl⟩
 obtain ⟨IL, hIL⟩ : ∃ IL, IL = H.pairs.map (·.1) := ⟨_, rfl⟩
 obtain ⟨np, hnp⟩ : ∃ np, np = H.pairs.length := ⟨_, rfl⟩
 have hILn : IL.length = np := by rw [hIL, hnp, zae]
 refine jV Tryz.func21 Tryz.ntmps21 Tryz.results21 ?_
 refine jS (jR (ja rfl (jO (jN (jv3 0 1 2 ?_)))))
 refine jS (jR (jM ?_))
 refine jc (jE1 Tryz.call50) (qWw h g F H q w hH) ?_
 rintro e w1 ⟨IB, ic, rfl, hoI, hf1, hupI⟩
 refine ⟨_, rfl, ?_⟩
 rw [← hIL, ← hnp] at hoI
 rw [← hnp]
 refine ja rfl (jO (jN (jv4 0 1 2 7 ?_)))
 refine jS (jR (jM ?_))
 refine jc (jE1 Tryz.call69) (wQ y gm G H.dk bl H.dir rq w1 (hY.frm hf1)) ?_
 rintro e w2 ⟨VB, rfl, hoV, hf2, hupV⟩
 refine ⟨_, rfl, ?_⟩
 have K := hf1.trans hf2 jp
 rw [hwh, ← hNN] at hoV
 rw [← hNN]
 refine ja rfl (jO (jN (jv5 0 1 2 7 8 ?_)))
 refine jS (jR (jM ?_))
 refine jc (jE1 Tryz.call9) (sO h g F H q w2 (hH.frm K)) ?_
 rintro e w3 ⟨UB, uc, rfl, hoU, hf3, hupU⟩
 refine ⟨_, rfl, ?_⟩
 have K := K.trans hf3 jp
 rw [hN, ← hNN, ← hU] at hoU ⊢
 have hoI := (hoI.frm hf2 jp).frm hf3 jp
 have hoV := hoV.frm hf3 jp
 have hUl : U.length ≤ 2048 := by rw [hU]; exact zbd (zcu _ _) (by rw [zdd]; omega)
 refine ja rfl (jO (jN (jv6 0 1 2 7 8 9 ?_)))
 refine jS (jS (jR (jm rfl (jL rfl zbv (jm rfl (jZ rfl (jf rfl zay rfl zco (jl rfl zdo ((hY.frm K).blk.cell 1) (jL rfl zao (jb rfl rfl (Bin.neqN _ _) (jM ?_)))))))))))
 refine Ops.rg rfl jdf (Run.mv rfl) rfl ?_
 refine Ops.clg rfl jdf (jE1 zgl) (kC h g F H q w3 (hH.frm K)) rfl ?_
 rintro e _ ⟨rfl, rfl⟩
 refine ⟨_, rfl, ?_⟩
 refine Ops.rg rfl jdf (Run.mv rfl) rfl ?_
 refine Ops.clg rfl jdf (jE1 Tryz.call70) (kX y gm G H.dk bl H.dir rq w3 (hY.frm K)) rfl ?_
 rintro e _ ⟨rfl, rfl⟩
 refine ⟨_, rfl, ?_⟩
 refine Ops.rg rfl jdf (Run.bin rfl rfl (Bin.neqN _ _)) rfl ?_
 refine jF rfl rfl jdf (jM ?_)
 refine Ops.rg rfl jdf (Run.mv rfl) rfl ?_
 refine Ops.clg rfl jdf (jE1 Tryz.call51) (sL h g F H q w3 (hH.frm K)) rfl ?_
 rintro e w4 ⟨rfl, hf4⟩
 refine ⟨_, rfl, ?_⟩
 have K := K.trans hf4 jp
 refine Ops.rg rfl jdf (Run.mv rfl) rfl ?_
 refine Ops.clg rfl jdf (jE1 Tryz.call59) (wX y gm G H.dk bl H.dir rq w4 (hY.frm K)) rfl ?_
 rintro e w5 ⟨FB, fc, rfl, hoF, hf5, hupF⟩
 refine ⟨_, rfl, ?_⟩
 have K := K.trans hf5 jp
 have hfl : ((List.range (H.dk.has.length - 42)).filter fun p => decide (p ∉ H.dir ++ pgs bl)).length = H.N - dW H.N H.used := by
  rw [← hN, hfr, gL]
 have hoI := (hoI.frm hf4 jp).frm hf5 jp
 have hoV := (hoV.frm hf4 jp).frm hf5 jp
 have hoU := (hoU.frm hf4 jp).frm hf5 jp
 refine Ops.rg rfl jdf (Run.lenS rfl zn) rfl ?_
 refine Ops.rg rfl jdf (Run.bin rfl rfl (Bin.neqN _ _)) rfl ?_
 refine jF rfl rfl jdf (jO (jN (jv7 0 1 2 7 8 9 43 ?_)))
 refine VC.condF rfl jdf ?_
 refine jQ (jN (jv6 0 1 2 7 8 9 ?_))
 refine jS (jS (jR (jz 0 (jO (jN (jB ?_))))))
 refine VC.loop (σ := Nat) (fun s => [(0, jI0 h), (1, jI0 g), (2, jI0 y), (7, .slice IB np ic), (8, .slice VB N N), (9, .slice UB U.length uc), (10, jI1 s)]) (fun s wr => s ≤ np ∧ Frm [] w5 wr) (fun s => np - s) 0 (js7 rfl rfl rfl rfl rfl rfl rfl) ⟨zj _, Frm.refl _ _⟩ ?_
 rintro i wq ⟨hi, K5⟩
 have Kw := K.trans K5 jp
 have hIr := hoI.frm K5 jp
 refine jS (jS (jR (jm rfl (jm rfl (jL rfl zbv (jb rfl rfl (Bin.lssN _ _) (jO (jN (jv8 0 1 2 7 8 9 10 47 ?_)))))))))
 refine jD rfl (fun hc2 => ?_) fun hc2 => ?_
 ·
  have hip : i < H.pairs.length := jo
  obtain ⟨ad, hA, -⟩ := rdG (f := fun a : Nat => Value.int .u64 (a : Int)) hIr.rd hILn hc2 0
  have hcI : ∀ V, Frm [] wq V → V.cell? (ad.add i) = some (jI2 (IL.getD i 0)) := fun V hV => by
   obtain ⟨ad2, h1, h2⟩ := rdG (f := fun a : Nat => Value.int .u64 (a : Int)) (hIr.frm hV jp).rd hILn hc2 0
   rw [hA] at h1
   cases h1
   exact h2
  have hix : IL.getD i 0 = (H.pairs.getD i (0, 0)).1 := by
   rw [hIL, zb, zbr, zb, ze hip]
   rfl
  obtain ⟨xm, hxm⟩ : ∃ xm, xm = H.pairs.getD i (0, 0) := ⟨_, rfl⟩
  have hmem : xm ∈ H.pairs := by rw [hxm]; exact fN hip
  have hx64 := (hH.ok.okp _ hmem).1
  have hpm : xm.1 ∈ H.pairs.map (·.1) := List.mem_map.2 ⟨xm, hmem, rfl⟩
  obtain ⟨p1, p2, p3⟩ := oF hH.ok.srt hpm
  have hpe : H.pairs.getD (cD H.pairs xm.1) (0, 0) = xm := gZ (f := (·.1)) (rJ hH.ok.srt) p2 hmem p3
  obtain ⟨ab, hAb, hcb⟩ := qQ7 (hY.frm Kw).rd.1 rfl (jo : i < bl.length)
  have hb1 : rbv (bl.getD i rb0) = (xm.1, B xm.1, H.lies xm.1, xm.2 / 4294967296) := by
   have h1 : (bl.map rbv)[i]? = (H.pairs.map fun x => (x.1, B x.1, H.lies x.1, x.2 / 4294967296))[i]? := congrArg (·[i]?) hrel
   rw [zbr, zbr, ze hip, ze (jo : i < bl.length)] at h1
   rw [hxm, zb, zb, ze hip, ze (jo : i < bl.length)]
   exact Option.some.inj h1
  rw [hix, ← hxm] at hcI
  have hlx := qHc hI hmem
  generalize bl.getD i rb0 = xb at hcb hb1
  obtain ⟨xk, xs, xl, xu⟩ := xb
  obtain rfl : xk = xm.1 := congrArg (·.1) hb1
  obtain rfl : xs = B xm.1 := congrArg (·.2.1) hb1
  subst hA
  refine jQ (jN (jv7 0 1 2 7 8 9 10 ?_))
  refine jS (jB (jS (jR (jm rfl (jm rfl (jm rfl (je (Run.index1 _ rfl rfl zbv zy jo) (jl rfl zai (hcI _ (Frm.refl _ _)) ?_))))))))
  refine jc (jE2 Tryz.call24) (yZ xm.1 h g F H q wq (hH.frm Kw) hx64) ?_
  rintro e w6 ⟨rfl, hf6⟩
  refine ⟨_, rfl, ?_⟩
  rw [if_pos hpm, if_pos hpm, hpe]
  refine jm rfl (jY rfl rfl (jY rfl rfl (ja rfl (ja rfl (jO (jN (jv9 0 1 2 7 8 9 10 11 12 ?_)))))))
  refine jS ?_
  refine VC.still jK jK ?_
  refine qM ?_
  refine qM ?_
  refine qE (Run.index1 _ rfl rfl zbv zy jo) ?_
  refine qE (Run.load rfl zai (hcI _ (hf6.drawn (qP.drew _)))) ?_
  refine qM ?_
  refine qE (Run.nilck rfl) ?_
  refine qE (Run.fieldAddr rfl zay rfl zco jd) ?_
  refine qE (Run.load rfl zdo ((hY.frm (Kw.trans (hf6.drawn (qP.drew _)) jp)).blk.cell 1)) ?_
  rw [hAb]
  refine qM ?_
  refine qE (Run.indexS _ rfl rfl zao zbf jo) ?_
  refine qE (Run.fieldAddr rfl zal rfl zy jd) ?_
  refine qE (Run.load rfl zai (hcb _ (hf6.drawn (qP.drew _)) 0 _ rfl)) ?_
  refine qE (Run.bin rfl rfl (Bin.neqN _ _)) ?_
  refine qM ?_
  refine bJ.rg rfl jdf (Run.mv rfl) rfl ?_
  refine bJ.rg rfl jdf (Run.mv rfl) rfl ?_
  refine bJ.rg rfl jdf (Run.nilck rfl) rfl ?_
  refine bJ.rg rfl jdf (Run.fieldAddr rfl zay rfl zco jd) rfl ?_
  refine bJ.rg rfl jdf (Run.load rfl zdo ((hY.frm (Kw.trans (hf6.drawn (qP.drew _)) jp)).blk.cell 1)) rfl ?_
  rw [hAb]
  refine bJ.rg rfl jdf (Run.mv rfl) rfl ?_
  refine bJ.rg rfl jdf (Run.indexS _ rfl rfl zao zbf jo) rfl ?_
  refine bJ.rg rfl jdf (Run.fieldAddr rfl zal rfl zbm jd) rfl ?_
  refine bJ.rg rfl jdf (Run.load rfl zde (hcb _ (hf6.drawn (qP.drew _)) 1 _ rfl)) rfl ?_
  refine bJ.rg rfl jdf (Run.lenO rfl zt) rfl ?_
  refine bJ.rg rfl jdf (Run.bin rfl rfl (Bin.neqN _ _)) rfl ?_
  refine qE (Run.pickF rfl rfl jdf) ?_
  refine qM ?_
  refine bJ.rg rfl (decide_eq_false (by dsimp only; omega)) (Run.mv rfl) rfl ?_
  refine bJ.rg rfl (decide_eq_false (by dsimp only; omega)) (Run.bin rfl rfl (Bin.neqN _ 0)) rfl ?_
  refine qE (Run.pickF rfl rfl (decide_eq_false (by dsimp only; omega))) ?_
  refine bJ.nil ?_
  refine jN (jv8 0 1 2 7 8 9 10 88 ?_)
  refine VC.condF rfl jdf ?_
  refine jQ ?_
  refine qH (jN ?_)
  refine jv7 0 1 2 7 8 9 10 ?_
  refine jR (jm rfl (jb rfl rfl (Bin.add_i64 _ 1 jo) (ja rfl (jO ?_))))
  refine jN ⟨i + 1, (js7 rfl rfl rfl rfl rfl rfl rfl), ?_, ?_⟩
  · exact ⟨hc2, K5.trans (hf6.drawn (qP.drew _)) jp⟩
  exact jq
 have hVr := hoV.frm K5 jp
 have hUr := hoU.frm K5 jp
 refine jX ?_
 refine qZ (qZ (qN ?_))
 refine jN (jv4 1 2 8 9 ?_)
 refine jS (jR (jz 0 (jO (jN (jS (jS (jR (jz 0 (jO (jN (jB ?_)))))))))))
 refine VC.loop (σ := Nat) (fun s => [(1, jI0 g), (2, jI0 y), (8, .slice VB N N), (9, .slice UB U.length uc), (13, jI1 (((List.range s).filter H.used).length)), (14, jI1 s)]) (fun s wr => s ≤ N ∧ Frm [] wq wr) (fun s => N - s) 0 (js6 rfl rfl rfl rfl rfl rfl) ⟨zj _, Frm.refl _ _⟩ ?_
 rintro i wr ⟨hi, K6⟩
 have hfu := qYx H.used N i
 rw [← hU] at hfu
 refine jS (jS (jR (jm rfl (jm rfl (jL rfl zcd (jb rfl rfl (Bin.lssN _ _) (jO (jN (jv7 1 2 8 9 13 14 92 ?_)))))))))
 refine jD rfl (fun hc4 => ?_) fun hc4 => ?_
 ·
  obtain ⟨av, hV, hcv⟩ := oV (hVr.frm K6 jp).rd (vH _ _) hc4
  rw [yR _ hc4, ← hI.used i jo] at hcv
  subst hV
  have hfl2 : ((List.range i).filter H.used).length ≤ 2048 := zbd (zcu _ _) (by rw [zdd]; omega)
  have hst := qJv H.used i
  refine jQ (jN (jv6 1 2 8 9 13 14 ?_))
  refine jS (jB (jS (jR (jm rfl (jm rfl (je (Run.index1 _ rfl rfl zcd zat jo) (jl rfl zcr hcv (jO (jN (jv7 1 2 8 9 13 14 98 ?_))))))))))
  refine VC.condB rfl (fun hc5 => ?_) (fun hc5 => ?_)
  ·
   obtain ⟨hfu1, hfu2⟩ := hfu hc4 hc5
   rw [if_pos hc5] at hst
   obtain ⟨au, hUa, hcu⟩ := rdZ (hUr.frm K6 jp).rd rfl hfu1
   rw [hfu2] at hcu
   subst hUa
   refine jS (jS (jR (jm rfl (jm rfl (jL rfl zn (jb rfl rfl (Bin.geqN _ _) (jM ?_)))))))
   refine Ops.rg rfl jdf (Run.mv rfl) rfl ?_
   refine Ops.rg rfl jdf (Run.mv rfl) rfl ?_
   refine Ops.rg rfl jdf (Run.index1 _ rfl rfl zn zm jo) rfl ?_
   refine Ops.rg rfl jdf (Run.load rfl zaa hcu) rfl ?_
   refine Ops.rg rfl jdf (Run.mv rfl) rfl ?_
   refine Ops.rg rfl jdf (Run.bin rfl rfl (Bin.neqN _ _)) rfl ?_
   refine jF rfl rfl jdf (jO (jN (jv7 1 2 8 9 13 14 110 ?_)))
   refine VC.condF rfl jdf ?_
   refine jQ (jN (jv6 1 2 8 9 13 14 ?_))
   refine jR (jm rfl (jb rfl rfl (Bin.add_i64 _ 1 jo) (ja rfl (jO ?_))))
   refine qH (jN ?_)
   refine jv6 1 2 8 9 13 14 ?_
   refine jR (jm rfl (jb rfl rfl (Bin.add_i64 _ 1 jo) (ja rfl (jO ?_))))
   refine jN ⟨i + 1, (js6 rfl rfl rfl rfl (by rw [hst]; rfl) rfl), ?_, ?_⟩
   · exact ⟨hc4, K6⟩
   exact jq
  have hc50 : ¬ H.used i = true := by simpa using hc5
  rw [if_neg hc50] at hst
  refine jQ ?_
  refine qH (jN ?_)
  refine jv6 1 2 8 9 13 14 ?_
  refine jR (jm rfl (jb rfl rfl (Bin.add_i64 _ 1 jo) (ja rfl (jO ?_))))
  refine jN ⟨i + 1, (js6 rfl rfl rfl rfl (by rw [hst]; rfl) rfl), ?_, ?_⟩
  · exact ⟨hc4, K6⟩
  exact jq
 obtain rfl : i = N := jo
 rw [← hU]
 have Kw := (K.trans K5 jp).trans K6 jp
 have hYw := hY.frm Kw
 refine jX ?_
 refine qZ (qZ (qN ?_))
 refine jN (jv4 1 2 9 13 ?_)
 refine jS (jR (jm rfl (jm rfl (jL rfl zn (jb rfl rfl (Bin.eqlN _ _) (jM ?_))))))
 refine Ops.rg rfl (decide_eq_true (by rfl)) (Run.mv rfl) rfl ?_
 refine Ops.rg rfl (decide_eq_true (by rfl)) (Run.mv rfl) rfl ?_
 refine Ops.rg rfl (decide_eq_true (by rfl)) (Run.nilck rfl) rfl ?_
 refine Ops.rg rfl (decide_eq_true (by rfl)) (Run.fieldAddr rfl zay rfl zgx jd) rfl ?_
 refine Ops.rg rfl (decide_eq_true (by rfl)) (Run.load rfl Tryz.isAgg49 (hYw.blk.cell 0)) rfl ?_
 refine Ops.clg rfl (decide_eq_true (by rfl)) (jE2 Tryz.call34) (wJ g gm F G H.dk wr (hH.frm Kw).dk hYw.dk) rfl ?_
 rintro e w9 ⟨rfl, hf9⟩
 refine ⟨_, rfl, ?_⟩
 refine jW rfl rfl (decide_eq_true (by rfl)) (ja rfl (jO (jN (jv1 6 ?_))))
 refine jT ?_
 refine qS rfl ?_
 exact ⟨rfl, Kw.trans hf9 jp⟩
theorem runS_on : ∀ (l : List Stp) (d : Dk), d.off = false → (qL d l).1 = 0 → (qL d l).2.off = false
 | [], d, h, _ => h
 | s :: r, d, h, h0 => by
  rw [qL] at h0 ⊢
  by_cases hs : (s.run d).1 = 0
  ·
   rw [if_neg (not_not_intro hs)] at h0 ⊢
   refine runS_on r _ ?_ h0
   cases s with
   | wr i b =>
    show (d.write i b).2.off = false
    have hs : (d.write i b).1 = 0 := hs
    unfold Dk.write at hs ⊢
    by_cases h1 : i < d.has.length
    ·
     rw [if_neg (not_not_intro h1)] at hs ⊢
     by_cases h2 : b.length = 128
     ·
      rw [if_neg (not_not_intro h2)] at hs ⊢
      by_cases h3 : d.fails
      · rw [if_pos h3] at hs; cases hs
      rw [if_neg h3]; exact h
     rw [if_pos h2] at hs; cases hs
    rw [if_pos h1] at hs; cases hs
   | fl =>
    show d.flush.2.off = false
    have hs : d.flush.1 = 0 := hs
    unfold Dk.flush at hs ⊢
    by_cases h3 : d.fails
    · rw [if_pos h3] at hs; cases hs
    rw [if_neg h3]; exact h
  rw [if_pos hs] at h0
  exact absurd h0 hs
theorem xG (d : Dk) : (bW d).2.2.has.length = d.has.length := by
 unfold bW
 split
 · rfl
 split
 · rfl
 split
 ·
  split
  · exact mT _ _
  exact mT _ _
 split
 · exact mT _ _
 rfl
theorem qKt {d : Dk} (h : d.off = false) : (bW d).2.1 = 0 → (bW d).2.2.off = false := by
 unfold bW
 split
 · intro h0; cases h0
 split
 · intro h0; cases h0
 split
 ·
  split
  · next h1 => intro h0; exact absurd h0 h1
  next h1 => intro _; exact runS_on _ _ h (Classical.not_not.1 h1)
 split
 · intro h0; exact runS_on _ _ h h0
 intro _; exact h
def qHd (d : Dk) : Prop := (bW d).2.1 = 0 ∧ OpenOk (bW d).2.2
structure ErrY (d : Dk) (er : Nat) : Prop where
 z : qHd d → er = 0
 r : (bW d).2.1 ≠ 0 → er = (bW d).2.1
 n : (bW d).2.1 = 0 → ¬ OpenOk (bW d).2.2 → er = 3
theorem ErrY.eq {d : Dk} {a b : Nat} (h : ErrY d a) (k : ErrY d b) : a = b := by
 by_cases h1 : (bW d).2.1 = 0
 ·
  by_cases h2 : OpenOk (bW d).2.2
  · rw [h.z ⟨h1, h2⟩, k.z ⟨h1, h2⟩]
  rw [h.n h1 h2, k.n h1 h2]
 rw [h.r h1, k.r h1]
def ptr (x : Option Nat) : Option Addr := x.map fun a => ⟨a, 0, none⟩
theorem qNc (E : List Nat) (g : Nat) (F : List Nat) (d : Dk) (w : World) (hE : ∀ x ∈ E, x < w.heap.size) (hD : IsDk w g F d) (hwl : d.wts.length ≤ 90000) (h44 : 44 ≤ d.has.length) (hoff : d.off = false) :
  Calls Tryz.prog 12 #[jI0 g] w fun e w' => ∃ F' x er, e = .returned (.tuple #[.pointer (ptr x), jI1 er]) ∧ IsDk w' g F' (bW d).2.2 ∧ Fk F w w' F' ∧ ErrY d er ∧ (x.isSome = true ↔ qHd d) ∧ ∀ h, x = some h → ∃ q, IsHt w' h g F' (cI (bW d).2.2) q ∧ w.heap.size ≤ h ∧ OffQ E (cI (bW d).2.2) q := by
 refine (qNb E g F d w hE hD hwl h44 (xG d) (qKt hoff)).mono ?_
 rintro e w' ⟨F', hD', hk, h1 | h1 | h1⟩
 ·
  obtain ⟨a1, rfl⟩ := h1
  exact ⟨F', none, _, rfl, hD', hk, ⟨fun h => absurd h.1 a1, fun _ => rfl, fun h => absurd h a1⟩, ⟨fun h => (by cases h), fun h => absurd h.1 a1⟩, fun h hh => by cases hh⟩
 ·
  obtain ⟨a1, a2, rfl⟩ := h1
  exact ⟨F', none, 3, rfl, hD', hk, ⟨fun h => absurd h.2 a2, fun h => absurd a1 h, fun _ _ => rfl⟩, ⟨fun h => (by cases h), fun h => absurd h.2 a2⟩, fun h hh => by cases hh⟩
 obtain ⟨a1, a2, h, q, rfl, a3, a4, a5⟩ := h1
 exact ⟨F', some h, 0, rfl, hD', hk, ⟨fun _ => rfl, fun h => absurd a1 h, fun _ h => absurd a2 h⟩, ⟨fun _ => ⟨a1, a2⟩, fun _ => rfl⟩, fun h' hh => by cases hh; exact ⟨q, a3, a4, a5⟩⟩
theorem qMj (gm : Nat) (F : List Nat) (d : Dk) (w : World) (hD : IsRd w gm F d) (hwl : d.wts.length ≤ 90000) (h44 : 44 ≤ d.has.length) (hoff : d.off = false) :
  Calls Tryz.prog 33 #[jI0 gm] w fun e w' => ∃ F' x er, e = .returned (.tuple #[.pointer (ptr x), jI1 er]) ∧ IsRd w' gm F' (bW d).2.2 ∧ Fk F w w' F' ∧ ErrY d er ∧ (x.isSome = true ↔ qHd d) ∧ ∀ y, x = some y → ∃ bl q, IsRw w' y gm F' (bW d).2.2 bl (fK (bW d).2.2) q ∧ bE (opL (bW d).2.2) (cI (bW d).2.2).lies (oJ (bW d).2.2) bl ∧ w.heap.size ≤ y ∧ ∀ E : List Nat, (∀ z ∈ E, z < w.heap.size) → OffR E bl (fK (bW d).2.2).length q := by
 refine (qJu gm F d w hD hwl h44 (xG d) (qKt hoff)).mono ?_
 rintro e w' ⟨F', hD', hk, h1 | h1 | h1⟩
 ·
  obtain ⟨a1, rfl⟩ := h1
  exact ⟨F', none, _, rfl, hD', hk, ⟨fun h => absurd h.1 a1, fun _ => rfl, fun h => absurd h a1⟩, ⟨fun h => (by cases h), fun h => absurd h.1 a1⟩, fun h hh => by cases hh⟩
 ·
  obtain ⟨a1, a2, rfl⟩ := h1
  exact ⟨F', none, 3, rfl, hD', hk, ⟨fun h => absurd h.2 a2, fun h => absurd a1 h, fun _ _ => rfl⟩, ⟨fun h => (by cases h), fun h => absurd h.2 a2⟩, fun h hh => by cases hh⟩
 obtain ⟨a1, a2, y, bl, q, rfl, a3, a4, a5, a6⟩ := h1
 exact ⟨F', some y, 0, rfl, hD', hk, ⟨fun _ => rfl, fun h => absurd a1 h, fun _ h => absurd a2 h⟩, ⟨fun _ => ⟨a1, a2⟩, fun _ => rfl⟩, fun h' hh => by cases hh; exact ⟨bl, q, a3, a4, a5, a6⟩⟩
section
variable {w w' : World} {g gm h y : Nat} {F F' G G' E E' : List Nat} {H H' : Hm} {B : Nat → List Nat} {d d' : Dk} {bl : List Rb} {dir : List Nat} {q : HtQ} {rq : RwQ}
theorem IsRw.lt (a : IsRw w y gm G d bl dir rq) : ∀ x ∈ y :: G, x < w.heap.size := fun x hx => by
 rcases zaq.1 hx with rfl | hx
 · exact a.blk.lt
 exact a.dk.lt x hx
theorem IsRw.aside (a : IsRw w y gm G d bl dir rq) (o : OffR E bl dir.length rq) (k : Frm E w w') (hE : ∀ x ∈ y :: G, x ∉ E) : IsRw w' y gm G d bl dir rq := by
 have tr : ∀ {A : Option Addr} {sz n : Nat} {xs : List Value}, RdX w (y :: G) sz A n xs → (0 < n → ∀ z ∈ ob A, z ∉ E) → RdX w' (y :: G) sz A n xs := fun hr ho => ⟨hr.1.frm k ho, fun h0 z hz => ⟨zas (hr.2 h0 z hz).1 k.size, (hr.2 h0 z hz).2⟩⟩
 exact ⟨a.dk.frm k (fun x hx => hE x (by simp [hx])), a.ny, a.blk.frm k (hE y jp), tr a.rd o.rd, fun x hx => ⟨(a.el x hx).id, (a.el x hx).S, (a.el x hx).Sl, (a.el x hx).sum, tr (a.el x hx).pg (o.el x hx), (a.el x hx).pc, (a.el x hx).pl, (a.el x hx).pn⟩, tr a.dr o.dr, a.dp, a.sz, a.n6, a.dn, a.wts⟩
theorem OffR.fk (o : OffR E bl dir.length rq) (a : IsRw w y gm G d bl dir rq) (k : Fk E w w' E') : OffR E' bl dir.length rq :=
 ⟨fun h0 z hz => k.out (a.rd.2 h0 z hz).1 (o.rd h0 z hz), fun h0 z hz => k.out (a.dr.2 h0 z hz).1 (o.dr h0 z hz), fun x hx h0 z hz => k.out ((a.el x hx).pg.2 h0 z hz).1 (o.el x hx h0 z hz)⟩
theorem OffQ.fk (o : OffQ E H q) (a : IsHt w h g F H q) (k : Fk E w w' E') : OffQ E' H q :=
 ⟨fun h0 z hz => k.out (a.pr.2 h0 z hz).1 (o.pr h0 z hz), fun h0 z hz => k.out (a.dr.2 h0 z hz).1 (o.dr h0 z hz), k.out a.mp.lt o.ml, fun id x hx h0 z hz => k.out ((a.ly id x hx).1.2 h0 z hz).1 (o.ly id x hx h0 z hz), fun h0 z hz => k.out (a.us.2 h0 z hz).1 (o.us h0 z hz)⟩
theorem InvS.dks (a : InvS H B) (hl : d'.has.length = H.dk.has.length) (hw : d'.wts.length ≤ 100000) : InvS { H with dk := d' } B := by
 have hN : ({ H with dk := d' } : Hm).N = H.N := by unfold Hm.N; dsimp only; rw [hl]
 have k := a.ok
 exact ⟨⟨k.srt, k.okp, k.n600, by dsimp only; rw [hl]; exact k.sz, by dsimp only; rw [hl]; exact k.big, hw, k.d59, fun p hp => by rw [hN]; exact k.dirp p hp, fun x hx => by rw [hN]; exact k.pg x hx⟩, a.dnod, a.lnod, a.dl, a.ll, fun p hp => a.used p (by rw [← hN]; exact hp), a.blob⟩
structure IsJ (w : World) (g gm h y : Nat) (F G : List Nat) (H : Hm) (B : Nat → List Nat) (bl : List Rb) (q : HtQ) (rq : RwQ) : Prop where
 ht : IsHt w h g F H q
 rw : IsRw w y gm G H.dk bl H.dir rq
 inv : InvS H B
 rel : bE H.pairs H.lies B bl
 dis : ∀ x ∈ h :: F, x ∉ y :: G
 oh : OffQ (y :: G) H q
 or : OffR (h :: F) bl H.dir.length rq
theorem IsJ.frm (j : IsJ w g gm h y F G H B bl q rq) (k : Frm [] w w') : IsJ w' g gm h y F G H B bl q rq := ⟨j.ht.frm k, j.rw.frm k, j.inv, j.rel, j.dis, j.oh, j.or⟩
theorem xH (h1 : ∀ x ∈ E, x ∉ G) (k : Fk E w w' E') (hG : ∀ x ∈ G, x < w.heap.size) : ∀ x ∈ E', x ∉ G := fun x hx hg => by
 rcases k.2 x hx with h2 | h2
 · exact h1 x h2 hg
 have := hG x hg; omega
theorem rK (h1 : ∀ x ∈ E, x ∉ G) (k : Fk G w w' G') (hE : ∀ x ∈ E, x < w.heap.size) : ∀ x ∈ E, x ∉ G' := fun x hx hg => by
 rcases k.2 x hg with h2 | h2
 · exact h1 x hx h2
 have := hE x hx; omega
end
theorem qMk (n : Int) (w : World) (h1 : n < 1) : Calls Tryz.prog 6 #[.int .i64 n] w fun e w' => e = .returned (.tuple #[.pointer none, .int .i64 1]) ∧ w = w' := by
 refine jV Tryz.func6 Tryz.ntmps6 Tryz.results6 ?_
 refine jS (jR (ja rfl (jz 0 (jO (jN (jv1 0 ?_))))))
 refine jS (jS (jR (jm rfl (jb rfl rfl (Bin.lss _ 1) (jM ?_)))))
 refine Ops.sk rfl (decide_eq_true h1) rfl ?_
 refine Ops.sk rfl (decide_eq_true h1) rfl ?_
 refine jW rfl rfl (decide_eq_true h1) (jO (jN (jv2 0 9 ?_)))
 refine VC.condT rfl (rfl) ?_
 refine jS (jR (ja rfl (jz 1 (jO (jN (jv2 2 3 ?_))))))
 refine jT ?_
 refine qQ (bX rfl rfl ?_)
 exact ⟨rfl, rfl⟩
end
section
open Go.RowKit
open Go.ChangeShapes Go.WideShapes Go.Deep
abbrev Ac := Int × Int × Int × Nat × Bt × Option Addr × Nat × List Bool
def ac0 : Ac := (0, 0, 0, 0, (none, 0, []), none, 0, [])
def acC (x : Ac) : List Value := [.int .i64 x.1, .int .i64 x.2.1, .int .i64 x.2.2.1, jI2 x.2.2.2.1, btV x.2.2.2.2.1, .slice x.2.2.2.2.2.1 x.2.2.2.2.2.2.2.length x.2.2.2.2.2.2.1]
theorem vN (x : Ac) : (acC x).length = 6 := rfl
theorem qMl (x : Ac) : ∀ u ∈ acC x, u.oneCell' = true := by
 intro u hu
 simp only [acC, zaq, zaz, or_false] at hu
 rcases hu with rfl | rfl | rfl | rfl | rfl | rfl <;> rfl
structure RawA (w : World) (x : Ac) : Prop where
 d : -9223372036854775808 ≤ x.1 ∧ x.1 ≤ 9223372036854775807
 n : -9223372036854775808 ≤ x.2.1 ∧ x.2.1 ≤ 9223372036854775807
 a : -9223372036854775808 ≤ x.2.2.1 ∧ x.2.2.1 ≤ 9223372036854775807
 id : x.2.2.2.1 < 18446744073709551616
 lc : x.2.2.2.2.1.2.2.length ≤ x.2.2.2.2.1.2.1 ∧ x.2.2.2.2.1.2.1 ≤ 9223372036854775807
 l : RdQ w x.2.2.2.2.1.1 x.2.2.2.2.1.2.2.length x.2.2.2.2.1.2.2
 k : Rd w 1 x.2.2.2.2.2.1 x.2.2.2.2.2.2.2.length (BL x.2.2.2.2.2.2.2)
structure RdAc (w : World) (S : Option Addr) (n : Nat) (l : List Ac) : Prop where
 len : l.length = n
 rd : Rd w 6 S n (l.flatMap acC)
 el : ∀ x ∈ l, RawA w x
theorem RdQ.frm7 {w w' : World} {S : Option Addr} {n : Nat} {l : List Cq} (h : RdQ w S n l) (k : Frm [] w w') : RdQ w' S n l := ⟨h.len, h.rd.frm k jp, fun x hx => ⟨(h.el x hx).1.frm k jp, (h.el x hx).2⟩, h.num, h.oct⟩
theorem RawA.frm {w w' : World} {x : Ac} (h : RawA w x) (k : Frm [] w w') : RawA w' x := ⟨h.d, h.n, h.a, h.id, h.lc, h.l.frm7 k, h.k.frm k jp⟩
theorem RdAc.frm {w w' : World} {S : Option Addr} {n : Nat} {l : List Ac} (h : RdAc w S n l) (k : Frm [] w w') : RdAc w' S n l := ⟨h.len, h.rd.frm k jp, fun x hx => (h.el x hx).frm k⟩
section
variable {H : Type} {enc : TypeId × Value → H} {w : World} {base : Nat} {spare : Nat → Bool} {held : Bool} {n : Nat} {cs : List Value} {x : DataW H × List MemPlace}
theorem qJw (h : DataW.trod enc Tryz.prog w base spare held n 43 cs = some x) : ∃ (A : Option Addr) (c : Nat) (bs : List Bool), cs = [.slice A bs.length c] ∧ bs.length ≤ c ∧ Rd w 1 A bs.length (BL bs) := by
 obtain ⟨A, len, c, rfl⟩ := sP zcd h
 obtain ⟨bs, h1, h2, h3, h4, _⟩ := qV2 Value.bool (fun _ => True) zcd jK (fun v n y hh => by
  obtain ⟨b, hb, _⟩ := qQo hh
  exact ⟨b, (List.cons.inj hb).1, trivial⟩) h
 subst h1
 exact ⟨A, c, bs, rfl, h2, h4⟩
end
theorem qHe {H : Type} {enc : TypeId × Value → H} {w : World} {base : Nat} {spare : Nat → Bool} {held : Bool} {n : Nat} {cs : List Value} {x : DataW H × List MemPlace} (h : DataW.trod enc Tryz.prog w base spare held n 56 cs = some x) :
  ∃ (dd : Int) (nn : Int) (aa : Int) (id : Int) (A : Option Addr) (c : Nat) (l : List Cq) (A2 : Option Addr) (c2 : Nat) (bs : List Bool), cs = ([.int .i64 dd] ++ ([.int .i64 nn] ++ ([.int .i64 aa] ++ ([.int .u64 id] ++ ([.slice A l.length c] ++ ([.slice A2 bs.length c2] ++ [] : List Value) : List Value) : List Value) : List Value) : List Value) : List Value) ∧ ((Lit.int .i64 dd).wf = true) ∧ ((Lit.int .i64 nn).wf = true) ∧ ((Lit.int .i64 aa).wf = true) ∧ ((Lit.int .u64 id).wf = true) ∧ (l.length ≤ c ∧ c ≤ 9223372036854775807 ∧ Rd w 3 A l.length (l.flatMap cqC) ∧ ∀ y ∈ l, qZm w y) ∧ (bs.length ≤ c2 ∧ Rd w 1 A2 bs.length (BL bs)) := by
 obtain ⟨hlen, n', hf⟩ := xB zbt h
 have hl : cs.length = 6 := hlen.trans jK
 obtain ⟨a0, a1, a2, a3, a4, a5, rfl⟩ : ∃ a0 a1 a2 a3 a4 a5, cs = [a0, a1, a2, a3, a4, a5] := by
  match cs, hl with
  | [a0, a1, a2, a3, a4, a5], _ => exact ⟨a0, a1, a2, a3, a4, a5, rfl⟩
 clear h hlen hl
 obtain ⟨y0, h0⟩ := hf 0 _ rfl
 have h0 : DataW.trod enc Tryz.prog w base spare held n' 3 ([a0, a1, a2, a3, a4, a5].take (Tryz.prog.cellsOf 3)) = some y0 := h0
 rw [show Tryz.prog.cellsOf 3 = 1 by kernel_rfl] at h0
 have h0 : DataW.trod enc Tryz.prog w base spare held n' 3 [a0] = some y0 := h0
 obtain ⟨dd, e0, q0⟩ := oS zz h0
 obtain ⟨y1, h1⟩ := hf 1 _ rfl
 have h1 : DataW.trod enc Tryz.prog w base spare held n' 3 ([a1, a2, a3, a4, a5].take (Tryz.prog.cellsOf 3)) = some y1 := h1
 rw [show Tryz.prog.cellsOf 3 = 1 by kernel_rfl] at h1
 have h1 : DataW.trod enc Tryz.prog w base spare held n' 3 [a1] = some y1 := h1
 obtain ⟨nn, e1, q1⟩ := oS zz h1
 obtain ⟨y2, h2⟩ := hf 2 _ rfl
 have h2 : DataW.trod enc Tryz.prog w base spare held n' 3 ([a2, a3, a4, a5].take (Tryz.prog.cellsOf 3)) = some y2 := h2
 rw [show Tryz.prog.cellsOf 3 = 1 by kernel_rfl] at h2
 have h2 : DataW.trod enc Tryz.prog w base spare held n' 3 [a2] = some y2 := h2
 obtain ⟨aa, e2, q2⟩ := oS zz h2
 obtain ⟨y3, h3⟩ := hf 3 _ rfl
 have h3 : DataW.trod enc Tryz.prog w base spare held n' 54 ([a3, a4, a5].take (Tryz.prog.cellsOf 54)) = some y3 := h3
 rw [show Tryz.prog.cellsOf 54 = 1 by kernel_rfl] at h3
 have h3 : DataW.trod enc Tryz.prog w base spare held n' 54 [a3] = some y3 := h3
 obtain ⟨id, e3, q3⟩ := oS zr h3
 obtain ⟨y4, h4⟩ := hf 4 _ rfl
 have h4 : DataW.trod enc Tryz.prog w base spare held n' 31 ([a4, a5].take (Tryz.prog.cellsOf 31)) = some y4 := h4
 rw [show Tryz.prog.cellsOf 31 = 1 by kernel_rfl] at h4
 have h4 : DataW.trod enc Tryz.prog w base spare held n' 31 [a4] = some y4 := h4
 obtain ⟨A, c, l, e4, q4⟩ := qZn h4
 obtain ⟨y5, h5⟩ := hf 5 _ rfl
 have h5 : DataW.trod enc Tryz.prog w base spare held n' 43 ([a5].take (Tryz.prog.cellsOf 43)) = some y5 := h5
 rw [show Tryz.prog.cellsOf 43 = 1 by kernel_rfl] at h5
 have h5 : DataW.trod enc Tryz.prog w base spare held n' 43 [a5] = some y5 := h5
 obtain ⟨A2, c2, bs, e5, q5⟩ := qJw h5
 refine ⟨dd, nn, aa, id, A, c, l, A2, c2, bs, ?_, q0, q1, q2, q3, q4, q5⟩
 show ([a0] ++ ([a1] ++ ([a2] ++ ([a3] ++ ([a4] ++ ([a5] ++ [] : List Value) : List Value) : List Value) : List Value) : List Value) : List Value) = _
 rw [e0, e1, e2, e3, e4, e5]
 try rfl
section
variable {H : Type} {enc : TypeId × Value → H} {w : World} {base : Nat} {spare : Nat → Bool} {held : Bool}
theorem qHf {n : Nat} {cs : List Value} {x : DataW H × List MemPlace} (h : DataW.trod enc Tryz.prog w base spare held n 56 cs = some x) : ∃ y : Ac, cs = acC y ∧ RawA w y := by
 obtain ⟨dd, nn, aa, id, A, c, l, A2, c2, bs, rfl, h0, h1, h2, h3, ⟨h4, h5, h6, h7⟩, h8, h9⟩ := qHe h
 have hid : 0 ≤ id ∧ id < 18446744073709551616 := by
  simp [Lit.wf, IntKind.min, IntKind.max, IntKind.signed, IntKind.bits] at h3
  omega
 have hd : -9223372036854775808 ≤ dd ∧ dd ≤ 9223372036854775807 := by
  simp [Lit.wf, IntKind.min, IntKind.max, IntKind.signed, IntKind.bits] at h0
  omega
 have hn : -9223372036854775808 ≤ nn ∧ nn ≤ 9223372036854775807 := by
  simp [Lit.wf, IntKind.min, IntKind.max, IntKind.signed, IntKind.bits] at h1
  omega
 have ha : -9223372036854775808 ≤ aa ∧ aa ≤ 9223372036854775807 := by
  simp [Lit.wf, IntKind.min, IntKind.max, IntKind.signed, IntKind.bits] at h2
  omega
 refine ⟨(dd, nn, aa, id.toNat, (A, c, l), A2, c2, bs), ?_, ⟨hd, hn, ha, by dsimp only; omega, ⟨h4, h5⟩, ⟨rfl, h6, fun z hz => ⟨(h7 z hz).2.2.1, (h7 z hz).2.2.2⟩, fun z hz => (h7 z hz).1, fun z hz => (h7 z hz).2.1⟩, h9⟩⟩
 show [Value.int .i64 dd, .int .i64 nn, .int .i64 aa, .int .u64 id, .slice A l.length c, .slice A2 bs.length c2] = [.int .i64 dd, .int .i64 nn, .int .i64 aa, .int .u64 ((id.toNat : Nat) : Int), .slice A l.length c, .slice A2 bs.length c2]
 rw [zgf hid.1]
theorem qMm {fuel len cap : Nat} {a : Option Addr} {x : DataW H × List MemPlace} (h : DataW.trod enc Tryz.prog w base spare held fuel 48 [.slice a len cap] = some x) :
  ∃ l : List Ac, len ≤ cap ∧ cap ≤ 9223372036854775807 ∧ RdAc w a len l := by
 have hC : Tryz.prog.cellsOf 56 = 6 := by kernel_rfl
 rcases open_slice Tryz.underlying48 h with ⟨hcs, _⟩ | ⟨ad, l, c, m, n, D, Pl, hcs, _, hl, hm, hmm, _, hi⟩
 ·
  simp only [List.cons.injEq, Value.slice.injEq, and_true] at hcs
  obtain ⟨rfl, rfl, rfl⟩ := hcs
  exact ⟨[], zag _, jo, rfl, Rd.nil _ _ _, jp⟩
 simp only [List.cons.injEq, Value.slice.injEq, and_true] at hcs
 obtain ⟨rfl, rfl, rfl⟩ := hcs
 have hml : len ≤ m := by rw [hmm]; split <;> omega
 rw [hC] at hi
 have key : ∀ i, i < len → ∃ y : Ac, (∀ j, j < 6 → w.cell? ((ad.add (i * 6)).add j) = (acC y)[j]?) ∧ RawA w y := by
  intro i hil
  obtain ⟨cs', hc, ht'⟩ := hi i jo
  obtain ⟨_, hcl, hat⟩ := World.cells?_some hc
  obtain ⟨y, rfl, h1⟩ := qHf ht'
  exact ⟨y, fun j hj => hat j hj, h1⟩
 obtain ⟨ls, hll, hq⟩ := mO len key
 have hlen : (ls.flatMap acC).length = ls.length * 6 := oP acC 6 vN ls
 have hcell : ∀ j u, (ls.flatMap acC)[j]? = some u → w.cell? (ad.add j) = some u := by
  intro j u hu
  rw [wM acC 6 jo vN] at hu
  obtain ⟨y, hy, hu'⟩ := Option.bind_eq_some_iff.1 hu
  have := (hq _ y hy).1 (j % 6) (Nat.mod_lt _ jo)
  rw [Go.Proofs.YtoniopdkbeogjaaGreat.add_add, zff, Nat.div_add_mod] at this
  rw [this, hu']
 have hall : ∀ y ∈ ls, RawA w y := fun y hy => by
  obtain ⟨i, hi', hli⟩ := zcw hy
  exact (hq i y (by rw [ze hi', hli])).2
 subst hll
 refine ⟨ls, hl, by simpa [maxLen] using hm, rfl, ⟨by rw [hlen], fun hn => ⟨ad, rfl, ?_, hcell⟩⟩, hall⟩
 have h0 : 0 < (ls.flatMap acC).length := by rw [hlen]; omega
 have := World.block_lt_of_cell? w _ (hcell 0 _ (ze h0))
 rwa [gU] at this
end
theorem RdAc.cell {w : World} {S : Option Addr} {n : Nat} {l : List Ac} (h : RdAc w S n l) {k : Nat} (hk : k < n) : ∃ ad, S = some ad ∧ ∀ W, Frm [] w W → ∀ j v, (acC (l.getD k ac0))[j]? = some v → W.cell? ((ad.add (k * 6)).add j) = some v := by
 obtain ⟨ad, h1, _⟩ := rdF acC 6 vN h.rd h.len hk ac0
 refine ⟨ad, h1, fun W hW => ?_⟩
 obtain ⟨a2, h2, h3⟩ := rdF acC 6 vN (h.frm hW).rd h.len hk ac0
 rw [h1] at h2
 cases h2
 exact h3
end
section
open Go.RowKit
theorem qVy (n : Int) (S : Option Addr) (m c : Nat) (w : World) (hn : n < 1) :
  Calls Tryz.prog 5 #[.int .i64 n, .slice S m c] w fun e w' => e = .returned (.bool true) ∧ Frm [] w w' := by
 refine jV Tryz.func5 Tryz.ntmps5 Tryz.results5 ?_
 refine jS (jR (ja rfl (jO (jN (jv2 0 1 ?_)))))
 refine jS (jS (jR (jm rfl (jb rfl rfl (Bin.gtr _ 120) (jO (jN (jv3 0 1 28 ?_)))))))
 refine VC.condF rfl jdf ?_
 refine jQ (jN (jv2 0 1 ?_))
 refine jS (jR (jM ?_))
 refine jc0 (jE1 Tryz.call6) (qMk n w hn) ?_
 refine jm rfl (jY rfl rfl (jY rfl rfl (ja rfl (ja rfl (jO (jN (jv4 0 1 5 6 ?_)))))))
 refine jS (jS (jR (jm rfl (jb rfl rfl (Bin.neqN _ 0) (jM ?_)))))
 refine Ops.sk rfl (rfl) rfl ?_
 refine Ops.sk rfl (rfl) rfl ?_
 refine jW rfl rfl (rfl) (jO (jN (jv5 0 1 5 6 39 ?_)))
 refine VC.condT rfl (rfl) ?_
 refine jS (jR (jm rfl (je (Run.eqlNilP rfl rfl zht) (jM ?_))))
 refine Ops.rg rfl (rfl) (Run.mv rfl) rfl ?_
 refine Ops.rg rfl (rfl) (Run.bin rfl rfl (Bin.eqlN _ 1)) rfl ?_
 refine jW rfl rfl (rfl) (jM ?_)
 refine Ops.rg rfl (rfl) (Run.mv rfl) rfl ?_
 refine Ops.rg rfl (rfl) (Run.bin rfl rfl (Bin.lss _ 1)) rfl ?_
 refine jW rfl rfl (rfl) (jM ?_)
 refine Ops.clg rfl (decide_eq_true hn) (jE0 Tryz.call14) (nW w) rfl ?_
 rintro e w9 ⟨rfl, hf9⟩
 refine ⟨_, rfl, ?_⟩
 refine jW rfl rfl (decide_eq_true hn) (ja rfl (jO (jN (jv1 4 ?_))))
 refine jT ?_
 refine qQ (qS rfl ?_)
 exact ⟨rfl, hf9⟩
theorem qZ1 (n : Nat) (S : Option Addr) (m c : Nat) (w : World) (hn : 1 ≤ n) (hn2 : n < 44) :
  Calls Tryz.prog 5 #[jI1 n, .slice S m c] w fun e w' => e = .returned (.bool true) ∧ Frm [] w w' := by
 have hl : (Dk.new n).has.length = n := by simp [Dk.new]
 refine jV Tryz.func5 Tryz.ntmps5 Tryz.results5 ?_
 refine jS (jR (ja rfl (jO (jN (jv2 0 1 ?_)))))
 refine jS (jS (jR (jm rfl (jb rfl rfl (Bin.gtrN _ 120) (jO (jN (jv3 0 1 28 ?_)))))))
 refine VC.condF rfl jdf ?_
 refine jQ (jN (jv2 0 1 ?_))
 refine jS (jR (jM ?_))
 refine jc (jE1 Tryz.call6) (tD n w jo jo) ?_
 rintro e w1 ⟨g, F, rfl, hD, K, hupF⟩
 refine ⟨_, rfl, ?_⟩
 refine jm rfl (jY rfl rfl (jY rfl rfl (ja rfl (ja rfl (jO (jN (jv4 0 1 5 6 ?_)))))))
 refine jS (jS (jR (jm rfl (jb rfl rfl (Bin.neqN _ 0) (jM ?_)))))
 refine Ops.rg rfl (rfl) (Run.mv rfl) rfl ?_
 refine Ops.rg rfl (rfl) (Run.eqlNilP rfl rfl zht) rfl ?_
 refine jF rfl rfl (rfl) (jO (jN (jv5 0 1 5 6 39 ?_)))
 refine VC.condF rfl (rfl) ?_
 refine jQ (jN (jv3 0 1 5 ?_))
 refine jS (jR (jM ?_))
 refine jc (jE1 Tryz.call18) (qQq ((n : Nat) : Int) w1 jo jo) ?_
 rintro e w2 ⟨gm, G, rfl, hM, K2, hupG⟩
 refine ⟨_, rfl, ?_⟩
 rw [zdt] at hM
 refine ja rfl (jO (jN (jv4 0 1 5 7 ?_)))
 refine jS (jR (jM ?_))
 refine jc0 (jE1 Tryz.call7) (qQ1 g F (Dk.new n) w2 (hD.frm K2 jp) jo) ?_
 refine jm rfl (jY rfl rfl (jY rfl rfl (ja rfl (ja rfl (jO (jN (jv6 0 1 5 7 8 9 ?_)))))))
 refine jS (jR (jM ?_))
 refine jc0 (jE1 Tryz.call19) (zP gm G (Dk.new n) w2 hM jo) ?_
 refine jm rfl (jY rfl rfl (jY rfl rfl (ja rfl (ja rfl (jO (jN (jv8 0 1 5 7 8 9 10 11 ?_)))))))
 refine jS (jS (jR (jm rfl (je (Run.eqlNilP rfl rfl zhv) (jO (jN (jv9 0 1 5 7 8 9 10 11 66 ?_)))))))
 refine VC.condT rfl (rfl) ?_
 refine jS (jR (jm rfl (je (Run.eqlNilP rfl rfl zhu) (jM ?_))))
 refine Ops.rg rfl (rfl) (Run.mv rfl) rfl ?_
 refine Ops.rg rfl (rfl) (Run.mv rfl) rfl ?_
 refine Ops.rg rfl (rfl) (Run.bin rfl rfl (Bin.eqlN _ _)) rfl ?_
 refine jW rfl rfl (rfl) (jM ?_)
 refine Ops.clg rfl (rfl) (jE0 Tryz.call14) (nW w2) rfl ?_
 rintro e w9 ⟨rfl, hf9⟩
 refine ⟨_, rfl, ?_⟩
 refine jW rfl rfl (rfl) (ja rfl (jO (jN (jv1 4 ?_))))
 refine jT ?_
 refine qQ (qS rfl ?_)
 exact ⟨rfl, (K.trans K2 jp).trans hf9 jp⟩
theorem qQ3 (E : List Nat) (g : Nat) (F : List Nat) (d : Dk) (w : World) (hD : IsDk w g F d) (hE : ∀ y ∈ E, y < w.heap.size) (hsz : 44 ≤ d.has.length) (hwl : d.wts.length ≤ 100000) (hf : (bY d).1 = 0) (hwl2 : (bY d).2.wts.length ≤ 100000) (hmk : mJ (bP (bY d).2) []) (hok' : (qB (bP (bY d).2) []).2.ok) (hb0 : (qB (bP (bY d).2) []).1 = 0) :
  Calls Tryz.prog 7 #[jI0 g] w fun e w' => ∃ h F' q, e = .returned (.tuple #[jI0 h, .int .i64 0]) ∧ IsHt w' h g F' (qB (bP (bY d).2) []).2 q ∧ Fk F w w' (h :: F') ∧ OffQ E (qB (bP (bY d).2) []).2 q ∧ w.heap.size ≤ h := by
 have hbg := hD.ok.big
 have hl := mA d
 have hN : (bP (bY d).2).N = d.has.length - 42 := by unfold Hm.N bP; dsimp only; rw [hl]
 refine jV Tryz.func7 Tryz.ntmps7 Tryz.results7 ?_
 refine jS (jR (ja rfl (jz 0 (jO (jN (jv1 0 ?_))))))
 refine jS (jS (jR (jM ?_)))
 refine jc0 (jE1 Tryz.call35) (nJ g F d w hD) ?_
 refine jO (jN (jv2 0 10 ?_))
 refine VC.condF rfl jdf ?_
 refine jQ (jN (jv1 0 ?_))
 refine jS (jS (jR (jM ?_)))
 refine jc (jE1 Tryz.call36) (oD g F d w hD jo) ?_
 rintro e w1 ⟨F1, rfl, hD1, hk1⟩
 refine ⟨_, rfl, ?_⟩
 rw [hf]
 refine ja rfl (jO (jN (jv2 0 4 ?_)))
 refine jS (jR (jm rfl (jb rfl rfl (Bin.neqN _ 0) (jO (jN (jv3 0 4 14 ?_))))))
 refine VC.condF rfl jp ?_
 refine jQ (jN (jv1 0 ?_))
 refine jS (jR (jM ?_))
 refine jc0 (jE1 zfe) (dU g F1 _ w1 hD1) ?_
 rw [hl]
 refine jb rfl rfl (Bin.sub_i64 _ 42 jo jo) ?_
 refine jc (jE1 Tryz.call37) (pU (d.has.length - 42) w1 jo) ?_
 rintro e w2 ⟨SB, sc, rfl, hrS, hf2, hupS⟩
 refine ⟨_, rfl, ?_⟩
 refine jm rfl (jY rfl rfl (jY rfl rfl ?_))
 refine Ops.m (qV.alloc fX) rfl ?_
 rintro _ w3 ⟨rfl, hF3⟩
 refine Ops.st (qT.storeA rfl rfl zw hF3.blk rfl (dO _ _ _)) ?_
 rintro w4 ⟨hb5, hf4, hs4⟩
 have k24 : Frm [] w2 w4 := hF3.frm.own hf4 jp
 have hb5 : Blk w4 w2.heap.size 85 (spV (d.has.length - 42) SB sc) := hb5
 refine ja rfl (jO (jN (jv2 0 5 ?_)))
 refine jS (jR (jM ?_))
 refine Ops.m (qV.makeMap (k := 54) (enc := fO)) rfl ?_
 rintro _ w5 ⟨rfl, hmp, hf5, hs5⟩
 have k14 : Frm [] w1 w4 := hf2.trans k24 jp
 have q14 := k14.size
 generalize hgm : w4.heap.size = m at *
 refine je (Run.loadA rfl zbb zw ((hb5.frm hf5 jp).cells) (by first | rfl | (simp; done))) (je (Run.build (evs.cons rfl (evs.cons rfl (evs.cons rfl evs.nil))) qXe (mH).choose_spec.1 (mH).choose_spec.2 (cells := #[jI0 g, .slice none 0 0, .slice none 0 0, .map (some m), jI1 (d.has.length - 42), .slice SB ((d.has.length - 42 + 7) / 8) sc]) rfl) ?_)
 refine Ops.m (qV.box rfl) rfl ?_
 rintro _ w6 ⟨rfl, hF6⟩
 have hb7 : Blk w6 w5.heap.size 91 #[jI0 g, .slice none 0 0, .slice none 0 0, .map (some m), jI1 (d.has.length - 42), .slice SB ((d.has.length - 42 + 7) / 8) sc] := hF6.blk
 have k16 : Frm [] w1 w6 := (k14.trans hf5 jp).trans hF6.frm jp
 have hF1l := hD1.lt
 have hSl := hrS.lt (jo : 0 < (d.has.length - 42 + 7) / 8)
 have ks2 := hf2.size
 have ks24 := k24.size
 generalize hgh : w5.heap.size = h at *
 have hH : IsHt w6 h g F1 (bP (bY d).2) ⟨none, 0, none, 0, m, SB, sc, fun _ => none⟩ := by
  refine ⟨vW jo jo hwl2, hD1.frm k16 jp, fun hx => by have := hF1l _ hx; omega, by rw [hN]; exact hb7, ⟨Rd.nil _ _ _, fun h0 => absurd h0 (zcj 0)⟩, zag _, ⟨Rd.nil _ _ _, fun h0 => absurd h0 (zcj 0)⟩, hmp.frm hF6.frm jp, fun hx => ?_, (fun id x hx => by cases hx), (fun x hx => by cases hx), ?_⟩
  ·
   rcases zaq.1 hx with hx | hx
   ·
    have := hmp.lt
    dsimp only at hx
    omega
   have := hF1l _ hx
   dsimp only at this
   omega
  rw [hN]
  refine ⟨((hrS.frm k24 jp).frm hf5 jp).frm hF6.frm jp, fun h0 y hy => ?_⟩
  have h1 := hSl y hy
  have h2 := hupS y hy
  have h3 := hF6.size
  have h4 := hmp.lt
  refine ⟨jo, fun hx => ?_⟩
  rcases zaq.1 hx with hx | hx
  · omega
  have := hF1l _ hx; omega
 refine ja rfl (jO (jN (jv1 7 ?_)))
 refine jS (jS (jR (jM ?_)))
 refine jc (jE2 Tryz.call10) (oL E none 0 0 [] h g F1 (bP (bY d).2) _ w6 hH (fun y hy => by have h1 := hE y hy; have h2 := hk1.1.size; have h3 := k16.size; omega) ⟨fun h0 => absurd h0 (by simp [bP]), fun h0 => absurd h0 (by simp [bP]), fun hx => by have h1 : m < w.heap.size := hE m hx; have h2 := hk1.1.size; omega, fun id x hx => (by cases hx), fun _ z hz hx => by have h1 := hE z hx; have h2 := hupS z hz; have h3 := hk1.1.size; omega⟩ jo (RdC.nil w6) hmk hok') ?_
 rintro e w7 ⟨F', q', rfl, hH', hk7, hoE⟩
 refine ⟨_, rfl, ?_⟩
 rw [show chL [] = [] from rfl] at hH' ⊢
 rw [hb0]
 refine ja rfl (jO (jN (jv2 7 8 ?_)))
 refine jS (jR (jm rfl (jb rfl rfl (Bin.neqN _ 0) (jO (jN (jv3 7 8 31 ?_))))))
 refine VC.condF rfl jp ?_
 refine jQ (jN (jv1 7 ?_))
 refine jS (jR (jm rfl (ja rfl (jz 0 (jO (jN (jv2 2 3 ?_)))))))
 refine jT ?_
 refine bX rfl rfl ?_
 have hgt : w.heap.size ≤ h := by have := hk1.1.size; have := hmp.lt; omega
 refine ⟨h, F', q', rfl, hH', ?_, hoE, hgt⟩
 have k1 : Fk F w w6 F1 := hk1.frm k16 jp
 refine ⟨k1.1.trans hk7.1 (fun x hx => ?_), fun x hx => ?_⟩
 ·
  rcases zaq.1 hx with rfl | hx
  · right; have := hk1.1.size; have := hmp.lt; omega
  exact k1.2 x hx
 rcases hk7.2 x hx with h1 | h1
 ·
  rcases zaq.1 h1 with rfl | h1
  · right; have := hk1.1.size; omega
  exact k1.2 x h1
 right; have := k1.1.size; omega
theorem OwQ.aside {b : Nat} {w w' : World} {X S : List Nat} {l : List Cq} (h : OwQ b w X l) (k : Frm S w w') (hS : ∀ y, b ≤ y → y < w.heap.size → y ∉ S) : OwQ b w' X l :=
 ⟨fun x hx => ⟨(h.1 x hx).1.frm k (fun y hy => hS y ((h.1 x hx).2 y hy).2 ((h.1 x hx).2 y hy).1.1), fun y hy => ⟨⟨zas ((h.1 x hx).2 y hy).1.1 k.size, ((h.1 x hx).2 y hy).1.2⟩, ((h.1 x hx).2 y hy).2⟩⟩, h.2⟩
structure Js where
 i : Nat
 h : Nat
 y : Nat
 F : List Nat
 G : List Nat
 H : Hm
 B : Nat → List Nat
 bl : List Rb
 q : HtQ
 rq : RwQ
structure IsJs (n0 m : Nat) (w wr : World) (g gm : Nat) (s : Js) : Prop where
 hi : s.i ≤ n0 ∧ s.i ≤ 16
 J : IsJ wr g gm s.h s.y s.F s.G s.H s.B s.bl s.q s.rq
 len : s.H.dk.has.length = m
 wts : s.H.dk.wts.length ≤ 100 * s.i + 100
 K : Frm [] w wr
 upF : ∀ x ∈ s.h :: s.F, w.heap.size ≤ x
 upG : ∀ x ∈ s.y :: s.G, w.heap.size ≤ x
structure IsD2 (m : Nat) (w wr : World) (g gm a3 : Nat) (cs : Array Value) (s : List Nat × List Nat × Dk) : Prop where
 dk : IsDk wr g s.1 s.2.2
 rd : IsRd wr gm s.2.1 s.2.2
 dis : ∀ x ∈ s.1, x ∉ s.2.1
 len : s.2.2.has.length = m
 wts : s.2.2.wts.length ≤ 2000
 K : Frm [] w wr
 upF : ∀ x ∈ s.1, w.heap.size ≤ x
 upG : ∀ x ∈ s.2.1, w.heap.size ≤ x
 blk : Blk wr a3 56 cs
 aF : a3 ∉ s.1
 aG : a3 ∉ s.2.1
section
variable {m g gm a3 : Nat} {w w1 w2 : World} {cs : Array Value} {F G F' G' : List Nat} {d d' : Dk}
theorem IsD2.left (j : IsD2 m w w1 g gm a3 cs (F, G, d)) (hD : IsDk w2 g F' d') (k : Fk F w1 w2 F') : IsRd w2 gm G d ∧ (∀ x ∈ F', x ∉ G) ∧ Frm [] w w2 ∧ (∀ x ∈ F', w.heap.size ≤ x) ∧ Blk w2 a3 56 cs ∧ a3 ∉ F' := by
 obtain ⟨h1, h2, h3, h4, h5, h6, h7, h8, h9, hA, hB⟩ := j
 dsimp only at h1 h2 h3 h4 h5 h7 h8 hA hB
 refine ⟨h2.frm k.1 (fun x hx h => h3 x h hx), xH h3 k h2.lt, h6.own k.1 h7, fun x hx => ?_, h9.frm k.1 hA, k.out h9.lt hA⟩
 rcases k.2 x hx with h | h
 · exact h7 x h
 exact zbd h6.size h
theorem IsD2.right (hD : IsDk w1 g F d') (hG : IsRd w2 gm G' d') (k : Fk G w1 w2 G') (hdis : ∀ x ∈ F, x ∉ G) (K : Frm [] w w1) (uF : ∀ x ∈ F, w.heap.size ≤ x) (uG : ∀ x ∈ G, w.heap.size ≤ x) (hb : Blk w1 a3 56 cs) (aF : a3 ∉ F) (aG : a3 ∉ G) (hl : d'.has.length = m) (hw : d'.wts.length ≤ 2000) : IsD2 m w w2 g gm a3 cs (F, G', d') := by
 refine ⟨hD.frm k.1 hdis, hG, rK hdis k hD.lt, hl, hw, K.own k.1 uG, uF, fun x hx => ?_, hb.frm k.1 aG, aF, k.out hb.lt aG⟩
 rcases k.2 x hx with h | h
 · exact uG x h
 exact zbd K.size h
theorem IsD2.frm {s : List Nat × List Nat × Dk} (j : IsD2 m w w1 g gm a3 cs s) (k : Frm [] w1 w2) : IsD2 m w w2 g gm a3 cs s := ⟨j.dk.frm k jp, j.rd.frm k jp, j.dis, j.len, j.wts, j.K.trans k jp, j.upF, j.upG, j.blk.frm k jp, j.aF, j.aG⟩
theorem Dk.cut_len (d : Dk) (l : List Bool) : (d.cut l).has.length = d.has.length := eQ _ _ _ _
theorem qNd {l : List Ac} {i : Nat} (h : i < l.length) : l.getD i ac0 ∈ l := by
 rw [zb, ze h]
 exact zbp h
theorem qZ2 {w : World} {g : Nat} {F : List Nat} {d : Dk} (h : IsRd w g F d) : w.cell? ⟨g, 3, none⟩ = some (.bool d.off) := by
 obtain ⟨A, c, B, cb, hb, hA, hB, hFe, hgA, hgB, hAB⟩ := h.parts
 exact hb.cell 3
theorem qHg (d : Dk) : ¬ d.on.fails := fun h => by rcases h with h | h <;> cases h
theorem qNg {d : Dk} {k : Nat} {s : List Nat} (hk : k < d.has.length) (hs : s.length = 128) : (d.on.write k s).2.wts.length ≤ 1 ∧ ((d.on.write k s).2.flush).2.off = false ∧ ((d.on.write k s).2.flush).2.wts = [] ∧ ((d.on.write k s).2.flush).2.has.length = d.has.length ∧ (d.on.write k s).2.has.length = d.has.length := by
 have e : d.on.write k s = (0, { d.on.less with wts := d.on.wts ++ [(k, s)] }) := by
  unfold Dk.write
  rw [if_neg (not_not_intro (show k < d.on.has.length from hk)), if_neg (not_not_intro hs), if_neg (qHg d)]
 rw [e]
 have hf : ¬ ({ d.on.less with wts := d.on.wts ++ [(k, s)] } : Dk).fails := fun h => by rcases h with h | h <;> cases h
 refine ⟨zag _, ?_, ?_, ?_, rfl⟩
 ·
  show (Dk.flush _).2.off = false
  unfold Dk.flush
  rw [if_neg hf]
  rfl
 ·
  show (Dk.flush _).2.wts = []
  unfold Dk.flush
  rw [if_neg hf]
 show (Dk.flush _).2.has.length = _
 unfold Dk.flush
 rw [if_neg hf]
 exact eQ _ _ _ _
end
theorem qVz (n : Int) (S0 : Option Addr) (n0 c0 : Nat) (l : List Ac) (w : World) (hn : 44 ≤ n) (hn64 : n ≤ 9223372036854775807) (hn0 : n0 ≤ 9223372036854775807) (hr : RdAc w S0 n0 l) :
  Calls Tryz.prog 5 #[.int .i64 n, .slice S0 n0 c0] w fun e w' => e = .returned (.bool true) ∧ Frm [] w w' := by
 obtain ⟨m, hm⟩ : ∃ m : Nat, m = (if 120 < n then 120 else n.toNat) := ⟨_, rfl⟩
 have hm1 : 120 < n → m = 120 := fun h => by rw [hm, if_pos h]
 have hm2 : ¬ 120 < n → ((m : Nat) : Int) = n := fun h => by rw [hm, if_neg h]; omega
 have hmb : 44 ≤ m ∧ m ≤ 120 := by
  by_cases h : 120 < n
  · have := hm1 h; omega
  have := hm2 h; omega
 clear hm
 have hl : (Dk.new m).has.length = m := by simp [Dk.new]
 have hp : Pow (Dk.new m) := ⟨rfl, rfl⟩
 obtain ⟨f1, f2, f3, f4, f5, f6, f7, f8, f9⟩ := tV hp jo jo
 have fu := qZk hp jo
 have fh := mA (Dk.new m)
 refine jV Tryz.func5 Tryz.ntmps5 Tryz.results5 ?_
 refine jS (jR (ja rfl (jO (jN (jv2 0 1 ?_)))))
 refine jS (jS (jR (jm rfl (jb rfl rfl (Bin.gtr _ 120) (jO (jN (jv3 0 1 28 ?_)))))))
 refine VC.meet (σ := Unit) (fun s => [(0, jI1 m), (1, .slice S0 n0 c0)]) (fun s wr => w = wr) ?_ ?_
 ·
  refine jD rfl (fun hc1 => ?_) fun hc1 => ?_
  ·
   refine jR (jz 120 (jO ?_))
   refine jN ⟨(), (js2 (congrArg (fun z : Nat => some (jI1 z)) (hm1 jo).symm) rfl), ?_⟩
   rfl
  refine jQ ?_
  refine jN ⟨(), (js2 (congrArg (fun z : Int => some (Value.int .i64 z)) (hm2 jo).symm) rfl), ?_⟩
  rfl
 intro _ wr hw0 Γ hΓ
 subst hw0
 refine jN (VC.sub _ hΓ (jS (jR (jM ?_))))
 refine jc (jE1 Tryz.call6) (tD m w jo jo) ?_
 rintro e w1 ⟨g, F, rfl, hD, K, hupF⟩
 refine ⟨_, rfl, ?_⟩
 refine jm rfl (jY rfl rfl (jY rfl rfl (ja rfl (ja rfl (jO (jN (jv4 0 1 5 6 ?_)))))))
 refine jS (jS (jR (jm rfl (jb rfl rfl (Bin.neqN _ 0) (jM ?_)))))
 refine Ops.rg rfl (rfl) (Run.mv rfl) rfl ?_
 refine Ops.rg rfl (rfl) (Run.eqlNilP rfl rfl zht) rfl ?_
 refine jF rfl rfl (rfl) (jO (jN (jv5 0 1 5 6 39 ?_)))
 refine VC.condF rfl (rfl) ?_
 refine jQ (jN (jv3 0 1 5 ?_))
 refine jS (jR (jM ?_))
 refine jc (jE1 Tryz.call18) (qQq ((m : Nat) : Int) w1 jo jo) ?_
 rintro e w2 ⟨gm, G, rfl, hM, K2, hupG⟩
 refine ⟨_, rfl, ?_⟩
 rw [zdt] at hM
 have hFl := hD.lt
 have hs1 := K.size
 refine ja rfl (jO (jN (jv4 0 1 5 7 ?_)))
 refine jS (jR (jM ?_))
 refine jc (jE1 Tryz.call7) (qQ3 G g F (Dk.new m) w2 (hD.frm K2 jp) hM.lt jo (zj _) f1 f2 f3 f4 f5) ?_
 rintro e w3 ⟨h, F2, q, rfl, hH, hk2, oh3, -⟩
 refine ⟨_, rfl, ?_⟩
 have hGl := hM.lt
 have hs2 := K2.size
 have hdis0 : ∀ x ∈ F, x ∉ G := fun x hx hg => by have := hFl x hx; have := hupG x hg; omega
 have hdis2 : ∀ x ∈ h :: F2, x ∉ G := xH hdis0 hk2 hGl
 have hM3 := hM.frm hk2.1 (fun x hx hf => hdis0 x hf hx)
 have K3 := (K.trans K2 jp).own hk2.1 hupF
 have hup2 : ∀ x ∈ h :: F2, w.heap.size ≤ x := fun x hx => by
  rcases hk2.2 x hx with h1 | h1
  · exact hupF x h1
  omega
 have hs3 := hk2.1.size
 have hHl := hH.lt
 refine jm rfl (jY rfl rfl (jY rfl rfl (ja rfl (ja rfl (jO (jN (jv6 0 1 5 7 8 9 ?_)))))))
 refine jS (jR (jM ?_))
 refine jc (jE1 Tryz.call19) (qQ2 gm G (Dk.new m) w3 hM3 jo (zj _) f1 f5) ?_
 rintro e w4 ⟨y, G2, bl, rq, rfl, hY, hrel, hk4, hy4, hoff4⟩
 refine ⟨_, rfl, ?_⟩
 obtain ⟨H0, hH0⟩ : ∃ H0, H0 = (qB (bP (bY (Dk.new m)).2) []).2 := ⟨_, rfl⟩
 obtain ⟨a1, a2, a3, a4, a5⟩ := qZs (qQx (d := (bY (Dk.new m)).2) jo jo f2 (fun _ => [])) (l := []) (fun c hc => by cases hc) (by show (bY (Dk.new m)).2.wts.length ≤ 99000; rw [fu.2.2]; exact zj _)
 rw [f5, if_pos rfl] at a3
 have a5 : (qB (bP (bY (Dk.new m)).2) []).2.dk.wts.length ≤ 86 := by
  have h1 : (bP (bY (Dk.new m)).2).dk.wts = [] := fu.2.2
  rw [h1] at a5
  exact a5
 rw [← hH0] at hH hY hrel hoff4 f7 a3 a5 oh3
 have hG4l : ∀ x ∈ y :: G2, x < w4.heap.size := hY.lt
 have hdis4 : ∀ x ∈ h :: F2, x ∉ y :: G2 := rK hdis2 hk4 hHl
 have K4 := K3.own hk4.1 (fun x hx => by have := hupG x hx; omega)
 have hup4 : ∀ x ∈ y :: G2, w.heap.size ≤ x := fun x hx => by
  rcases hk4.2 x hx with h1 | h1
  · have := hupG x h1; omega
  omega
 have J4 : IsJ w4 g gm h y F2 G2 H0 (dZ (fun _ => []) []) bl q rq := ⟨hH.aside oh3 hk4.1 hdis2, hY, a3, hrel, hdis4, oh3.fk hH hk4, hoff4 _ hHl⟩
 clear hp f1 f2 f3 f4 f5 f6 f8 f9 fu fh hl a1 a2 a4
 refine jm rfl (jY rfl rfl (jY rfl rfl (ja rfl (ja rfl (jO (jN (jv8 0 1 5 7 8 9 10 11 ?_)))))))
 refine jS (jS (jR (jm rfl (je (Run.eqlNilP rfl rfl zhv) (jO (jN (jv9 0 1 5 7 8 9 10 11 66 ?_)))))))
 refine VC.condF rfl (rfl) ?_
 refine jQ (jN (jv7 0 1 5 7 8 9 10 ?_))
 refine jS (jS (jR (jm rfl (je (Run.eqlNilP rfl rfl zhu) (jM ?_)))))
 refine Ops.rg rfl (rfl) (Run.mv rfl) rfl ?_
 refine Ops.rg rfl (rfl) (Run.bin rfl rfl (Bin.neqN _ 0)) rfl ?_
 refine jF rfl rfl (rfl) (jO (jN (jv7 0 1 5 7 8 10 82 ?_)))
 refine VC.condF rfl (rfl) ?_
 refine jQ (jN (jv6 0 1 5 7 8 10 ?_))
 refine jS (jS (jR (jz 0 (jO (jN (jB ?_))))))
 refine VC.loop (σ := Js) (fun s => [(0, jI1 m), (1, .slice S0 n0 c0), (5, jI0 g), (7, jI0 gm), (8, jI0 s.h), (10, jI0 s.y), (12, jI1 s.i)]) (fun s wr => IsJs n0 m w wr g gm s) (fun s => n0 - s.i) ⟨0, h, y, F2, G2, H0, dZ (fun _ => []) [], bl, q, rq⟩ (js7 rfl rfl rfl rfl rfl rfl rfl) ⟨⟨zj _, zj _⟩, J4, by rw [f7]; simp [Dk.new], by dsimp only; omega, K4, hup2, hup4⟩ ?_
 rintro ⟨i, h, y, F, G, H, B, bl, q, rq⟩ wr ⟨⟨hi, hi16⟩, J, hlen, hwts, K, hupF, hupG⟩
 dsimp only at hi hi16 J hlen hwts hupF hupG ⊢
 refine jS (jS ?_)
 refine VC.split1 [(0, _), (1, _), (5, _), (7, _), (8, _), (10, _), (12, _)] (js7 rfl rfl rfl rfl rfl rfl rfl) 90 (.bool (decide (i < n0 ∧ i < 16))) ?_ ?_
 ·
  refine jR ?_
  refine jm rfl (jm rfl (jL rfl Tryz.underlying48 (jb rfl rfl (Bin.lssN _ _) ?_)))
  by_cases hs86 : i < n0
  ·
   refine jM ?_
   refine jG ?_
   refine jk (Run.bin rfl rfl (Bin.lssN _ 16)) ?_
   by_cases hs89 : i < 16
   ·
    refine jW rfl rfl au (jO ?_)
    refine jN ⟨(js8 (jC (by grind)) rfl rfl rfl rfl rfl rfl rfl), rfl⟩
   refine jW rfl rfl au (jO ?_)
   refine jN ⟨(js8 (jC (by grind)) rfl rfl rfl rfl rfl rfl rfl), rfl⟩
  refine jM ?_
  refine jU ?_
  refine jU ?_
  refine jF rfl rfl au (jO ?_)
  refine jN ⟨(js8 (jC (by grind)) rfl rfl rfl rfl rfl rfl rfl), rfl⟩
 intro Γ hΓ
 refine jN (VC.sub _ hΓ ?_)
 refine jD rfl (fun hc5 => ?_) fun hc5 => ?_
 ·
  obtain ⟨hin, hin16⟩ := hc5
  obtain ⟨ad, hS0, hel⟩ := (hr.frm K).cell hin
  subst hS0
  have hraw := hr.el _ (qNd (show i < l.length by have := hr.len; omega))
  generalize l.getD i ac0 = x at hel hraw
  obtain ⟨dd, nn, aa, id, ⟨LA, lc, ll⟩, KA, kc, kl⟩ := x
  have rk0 : 0 < kl.length → ∀ x ∈ ob KA, x < w.heap.size := fun h0 => hraw.k.lt h0
  have hraw := hraw.frm K
  obtain ⟨rd, rn, ra, rid, ⟨rlc, rcc⟩, rl, rk⟩ := hraw
  dsimp only at rd rn ra rid rlc rcc rl rk
  have hbig := J.ht.ok.big
  refine jQ (jN (jv7 0 1 5 7 8 10 12 ?_))
  refine jS (jB (jS (jR (jm rfl (jm rfl (je (Run.indexS _ rfl rfl Tryz.underlying48 Tryz.sizeOf56 jo) (je (Run.loadA rfl Tryz.isAgg56 Tryz.sizeOf56 (hel _ (Frm.refl _ _)) (by first | rfl | (simp; done))) ?_)))))))
  refine Ops.m (qV.alloc qMp) rfl ?_
  rintro _ w1 ⟨rfl, hF1⟩
  refine Ops.st (qT.storeA rfl rfl Tryz.sizeOf56 hF1.blk rfl (qMl (dd, nn, aa, id, (LA, lc, ll), KA, kc, kl))) ?_
  rintro w2 ⟨hb, hf2, hs2⟩
  have hb : Blk w2 wr.heap.size 56 #[.int .i64 dd, .int .i64 nn, .int .i64 aa, jI2 id, .slice LA ll.length lc, .slice KA kl.length kc] := hb
  have k2 : Frm [] wr w2 := hF1.frm.own hf2 jp
  have hHl := J.ht.lt
  have hYl := J.rw.lt
  have K0 := K
  have J := J.frm k2
  have K := K.trans k2 jp
  have hs2 := k2.size
  have rl := rl.frm7 k2
  have rk := rk.frm k2 jp
  obtain ⟨a3, ha3⟩ : ∃ a3, a3 = wr.heap.size := ⟨_, rfl⟩
  have a3F : a3 ∉ h :: F := fun hx => by have := hHl _ hx; omega
  have a3G : a3 ∉ y :: G := fun hx => by have := hYl _ hx; omega
  have a3u : w.heap.size ≤ a3 := by have := K0.size; omega
  rw [← ha3] at hb ⊢
  have hw2 := hb.lt
  have H3 := J.inv.ok.sz
  clear ha3 k2 hf2 hF1
  refine jO (jN (jv8 0 1 5 7 8 10 12 13 ?_))
  refine jS (jR (jf rfl zbt rfl zm (jl rfl zaa (hb.cell 0) (jO (jN (jv9 0 1 5 7 8 10 12 13 98 ?_))))))
  refine jB (jS (jR (jb rfl rfl (Bin.eql _ 0) (ja rfl (jO (jN (jv10 0 1 5 7 8 10 12 13 98 215 ?_)))))))
  refine jD rfl (fun hc6 => ?_) fun hc6 => ?_
  ·
   refine jS (jR (jf rfl zbt rfl Tryz.sizeOf31 (jl rfl Tryz.isAgg31 (hb.cell 4) ?_)))
   refine jc (jE1 Tryz.call8) (qW7 LA ll.length lc ll w2 jo rlc rl) ?_
   rintro e wb ⟨CB, cd, cl, rfl, hoC, hqC, hcC, hfb, hupC⟩
   refine ⟨_, rfl, ?_⟩
   have hbs := hfb.size
   obtain ⟨cn, co, c12⟩ := qM4 rl hcC
   have Jb := J.frm hfb
   have hrC : RdC wb CB cl.length cl := hqC.rdc rfl hoC.rd cn co
   have hbc : ∀ c ∈ chL cl, c.1 < 18446744073709551616 ∧ ∀ b ∈ c.2.1, b < 256 := fun c hc => by
    obtain ⟨x, hx, rfl⟩ := List.mem_map.1 hc
    exact ⟨(cn x hx).1, co x hx⟩
   obtain ⟨m1, m2, m3, m4, m5⟩ := qZs J.inv hbc jo
   have hHl2 := J.ht.lt
   have hYl2 := J.rw.lt
   have Kb := K.trans hfb jp
   have hbb := hb.frm hfb jp
   refine ja rfl (jO (jN (jv8 0 1 5 7 8 10 12 14 ?_)))
   refine jS (jS (jR (jm rfl (jM ?_))))
   refine jc (jE2 Tryz.call10) (oL (y :: G) CB cl.length cd cl h g F H q wb Jb.ht Jb.rw.lt Jb.oh jo hrC m1 m2) ?_
   rintro e wd ⟨F3, q3, rfl, hH3, hk3, oh3⟩
   refine ⟨_, rfl, ?_⟩
   have hY3 := Jb.rw.aside Jb.or hk3.1 (fun x hx hx2 => Jb.dis x hx2 hx)
   have hdis3 := xH Jb.dis hk3 Jb.rw.lt
   have or3 := Jb.or.fk Jb.rw hk3
   have K3 := Kb.own hk3.1 hupF
   have hs3 := hk3.1.size
   have hH3l := hH3.lt
   have hrC3 : RdC wd CB cl.length cl := (hqC.aside hk3.1 (fun z h1 h2 hx => by have := hHl2 z hx; omega)).rdc rfl (hoC.rd.frm hk3.1 (fun _ z hz hx => by have := hHl2 z hx; have := hupC z hz; omega)) cn co
   have hup3 : ∀ x ∈ h :: F3, w.heap.size ≤ x := fun x hx => by
    rcases hk3.2 x hx with h1 | h1
    · exact hupF x h1
    have := Kb.size; omega
   refine jm rfl (jM ?_)
   refine jc (jE2 Tryz.call20) (uL CB cl.length cd cl y gm G H B bl rq wd hY3 J.inv J.rel jo jo hrC3) ?_
   rintro e we ⟨G4, bl4, rq4, rfl, hY4, hrel4, hk4, hoff4⟩
   refine ⟨_, rfl, ?_⟩
   have hs4 := hk4.1.size
   have J4 : IsJ we g gm h y F3 G4 (qB H (chL cl)).2 (if (qB H (chL cl)).1 = 0 then dZ B (chL cl) else B) bl4 q3 rq4 := ⟨hH3.aside oh3 hk4.1 hdis3, hY4, m3, hrel4, rK hdis3 hk4 hH3l, oh3.fk hH3 hk4, hoff4 _ hH3l or3⟩
   have K4 := K3.own hk4.1 hupG
   have hup4 : ∀ x ∈ y :: G4, w.heap.size ≤ x := fun x hx => by
    rcases hk4.2 x hx with h1 | h1
    · exact hupG x h1
    have := K3.size; omega
   generalize hHe : (qB H (chL cl)).2 = H5 at *
   generalize (if (qB H (chL cl)).1 = 0 then dZ B (chL cl) else B) = B5 at *
   generalize (qB H (chL cl)).1 = e5 at *
   refine jb rfl rfl (Bin.neqN _ _) (jO (jN (jv8 0 1 5 7 8 10 12 226 ?_)))
   refine VC.condF rfl jdp ?_
   refine jQ (jN (jv7 0 1 5 7 8 10 12 ?_))
   refine jS ?_
   refine VC.splitR [(0, jI1 m), (1, .slice (some ad) n0 c0), (5, jI0 g), (7, jI0 gm), (8, jI0 h), (10, jI0 y), (12, jI1 i)] (fun wz => Frm [] we wz) 238 (.bool (decide (False))) ?_ ?_
   ·
    refine jR ?_
    refine jm rfl (jZ rfl (jf rfl zaf rfl zat (jl rfl zcr (qZ2 J4.rw.dk) ?_)))
    by_cases hs230 : H5.dk.off = true
    ·
     refine je (Run.not rfl) (jM ?_)
     refine jU ?_
     refine jU ?_
     refine jU ?_
     refine jU ?_
     refine jU ?_
     refine jF rfl rfl au (jO ?_)
     refine jN ⟨(js8 (jC (by simp [*])) rfl rfl rfl rfl rfl rfl rfl), (by first | exact K9 | exact Frm.refl _ _)⟩
    refine je (Run.not rfl) (jM ?_)
    refine jG ?_
    refine jG ?_
    refine jG ?_
    refine Ops.clg rfl au (jE3 Tryz.call21) (wK g gm h y F3 G4 H5 B5 bl4 q3 rq4 we J4.ht J4.rw J4.inv J4.rel) rfl ?_
    rintro e w9 ⟨rfl, K9⟩
    refine ⟨_, rfl, ?_⟩
    refine jk (Run.not rfl) ?_
    refine jW rfl rfl au (jO ?_)
    refine jN ⟨(js8 (jC (by simp [*])) rfl rfl rfl rfl rfl rfl rfl), (by first | exact K9 | exact Frm.refl _ _)⟩
   intro Γ wz hΓ Kz
   refine jN (VC.sub _ hΓ ?_)
   refine VC.condF rfl (rfl) ?_
   refine jQ ?_
   refine qH (qH (jN ?_))
   refine jv7 0 1 5 7 8 10 12 ?_
   refine jR (jm rfl (jb rfl rfl (Bin.add_i64 _ 1 jo) (ja rfl (jO ?_))))
   refine jN ⟨⟨i + 1, h, y, F3, G4, H5, B5, bl4, q3, rq4⟩, (js7 rfl rfl rfl rfl rfl rfl rfl), ?_, ?_⟩
   · exact ⟨⟨by dsimp only; omega, by dsimp only; omega⟩, J4.frm Kz, by dsimp only; omega, by dsimp only; omega, K4.trans Kz jp, hup3, hup4⟩
   exact jq
  refine jS (jR (jb rfl rfl (Bin.eql _ 1) (ja rfl (jO (jN (jv10 0 1 5 7 8 10 12 13 98 239 ?_))))))
  refine jD rfl (fun hc9 => ?_) fun hc9 => ?_
  ·
   refine jS (jR (jm rfl (jf rfl zbt rfl zy (jl rfl zai (hb.cell 3) ?_))))
   refine jc (jE2 Tryz.call22) (qQi id h g F H q w2 J.ht rid) ?_
   rintro e w4 ⟨GB, gd, rfl, hrG, hf4, hupG4⟩
   refine ⟨_, rfl, ?_⟩
   have J4 := J.frm hf4
   have hgl := qH7 (J.ht.dk.ok) J.ht.ok id
   have hgs := qHa J.inv J.rel id
   refine jm rfl (jY rfl rfl (jY rfl rfl (ja rfl (ja rfl (jO (jN (jv10 0 1 5 7 8 10 12 13 15 16 ?_)))))))
   refine jS (jR (jm rfl (jf rfl zbt rfl zy (jl rfl zai ((hb.frm hf4 jp).cell 3) ?_))))
   refine jc (jE2 Tryz.call23) (qVv id y gm G H.dk bl H.dir rq w4 J4.rw rid (qHb J.inv J.rel) (qYw J.inv J.rel)) ?_
   rintro e w5 ⟨rfl, hf5, -⟩
   refine ⟨_, rfl, ?_⟩
   rw [← hgs]
   generalize gN H id = gv at *
   obtain ⟨ge, gb⟩ := gv
   dsimp only at hrG hgl ⊢
   have k5 := hf4.trans hf5 jp
   refine jm rfl (jY rfl rfl (jY rfl rfl (ja rfl (ja rfl (jO (jN (jv12 0 1 5 7 8 10 12 13 15 16 17 18 ?_)))))))
   refine jS (jS (jR (jm rfl (je (Run.strOf rfl zg zac zt (rdU (hrG.frm hf5 jp) hgl)) (jm rfl (je (Run.neqO rfl rfl hgl hgl) (jM ?_)))))))
   refine Ops.rg rfl jdp (Run.mv rfl) rfl ?_
   refine Ops.rg rfl jdp (Run.mv rfl) rfl ?_
   refine Ops.rg rfl jdp (Run.bin rfl rfl (Bin.neqN _ _)) rfl ?_
   refine jF rfl rfl jdp (jO (jN (jv9 0 1 5 7 8 10 12 13 263 ?_)))
   refine VC.condF rfl jdp ?_
   refine jQ (jN (jv8 0 1 5 7 8 10 12 13 ?_))
   refine jS (jR (jm rfl (jf rfl zbt rfl zy (jl rfl zai ((hb.frm k5 jp).cell 3) ?_))))
   refine jc (jE2 Tryz.call24) (yZ id h g F H q w5 (J4.frm hf5).ht rid) ?_
   rintro e w6 ⟨rfl, hf6⟩
   refine ⟨_, rfl, ?_⟩
   have k6 := k5.trans hf6 jp
   have J6 := J.frm k6
   refine jm rfl (jY rfl rfl (jY rfl rfl (ja rfl (ja rfl (jO (jN (jv9 0 1 5 7 8 10 12 13 20 ?_)))))))
   refine jS (jR (jm rfl (jb rfl rfl (Bin.eqlN _ 0) (jm rfl (jf rfl zbt rfl zy (jl rfl zai ((hb.frm k6 jp).cell 3) ?_))))))
   refine jc (jE2 Tryz.call25) (uE id y gm G H.dk bl H.dir rq w6 J6.rw rid) ?_
   rintro e _ ⟨rfl, hat⟩
   obtain ⟨z, rfl, hz⟩ : ∃ z : Int, e = .returned (.int .i64 z) ∧ (0 ≤ z ↔ id ∈ H.pairs.map (·.1)) := by
    rw [← J.rel.ids]
    rcases hat with ⟨h1, rfl⟩ | ⟨k, h1, h2, rfl⟩
    · exact ⟨_, rfl, ⟨fun h => jo, fun h => absurd h h1⟩⟩
    refine ⟨_, rfl, ⟨fun _ => ?_, fun _ => jo⟩⟩
    rw [← h2]
    exact List.mem_map.2 ⟨_, uD h1, rfl⟩
   refine ⟨_, rfl, ?_⟩
   refine jb rfl rfl (Bin.geq _ 0) (je (Run.neqB rfl rfl Tryz.underlying4) (jO (jN (jv8 0 1 5 7 8 10 12 278 ?_))))
   refine VC.condF rfl (by by_cases hid : id ∈ H.pairs.map (·.1) <;> simp [hid, hz]) ?_
   refine jQ ?_
   refine qH (qH (jN ?_))
   refine jv7 0 1 5 7 8 10 12 ?_
   refine jR (jm rfl (jb rfl rfl (Bin.add_i64 _ 1 jo) (ja rfl (jO ?_))))
   refine jN ⟨⟨i + 1, h, y, F, G, H, B, bl, q, rq⟩, (js7 rfl rfl rfl rfl rfl rfl rfl), ?_, ?_⟩
   · exact ⟨⟨by dsimp only; omega, by dsimp only; omega⟩, J6, hlen, by dsimp only; omega, K.trans k6 jp, hupF, hupG⟩
   exact jq
  refine jS (jR (jb rfl rfl (Bin.eql _ 2) (ja rfl (jO (jN (jv9 0 1 5 7 8 10 12 13 279 ?_))))))
  refine jD rfl (fun hc12 => ?_) fun hc12 => ?_
  ·
   refine jS (jR (jm rfl (jf rfl zbt rfl zm (jl rfl zaa (hb.cell 1) ?_))))
   refine jc (jE2 Tryz.call15) (qXo g nn F H.dk w2 J.ht.dk rn.1 rn.2) ?_
   rintro e w4 ⟨rfl, hD4, hf4⟩
   refine ⟨_, rfl, ?_⟩
   have hk4 : Fk (h :: F) w2 w4 (h :: F) := Fk.self hf4 (fun x hx => by simp [hx])
   have kF : Fk F w2 w4 F := ⟨hf4, fun x hx => .inl hx⟩
   have hY4 := J.rw.aside J.or hk4.1 (fun x hx hx2 => J.dis x hx2 hx)
   have K4 := K.own hk4.1 hupF
   refine jb rfl rfl (Bin.eql _ 0) (jO (jN (jv9 0 1 5 7 8 10 12 13 285 ?_)))
   refine jD rfl (fun hc13 => ?_) fun hc13 => ?_
   ·
    have hnn : ¬ nn < -1 := fun h => by rw [if_pos h] at hc13; simp at hc13
    rw [if_neg hnn] at hD4
    have hH4 := J.ht.dks hD4 kF (J.inv.dks (d' := { H.dk with bud := nn }) rfl (by show H.dk.wts.length ≤ 100000; omega)).ok rfl
    have hb4 := hb.frm hk4.1 a3F
    obtain ⟨A, c, C, cb, hbm, hAm, hCm, hFe, hgA, hgC, hAC⟩ := hY4.dk.parts
    refine jR (jm rfl (jf rfl zbt rfl zm (jl rfl zaa (hb4.cell 1) (jZ rfl (jf rfl zaf rfl zm ?_)))))
    refine Ops.st (qT.store rfl rfl zm hbm rfl rfl) ?_
    rintro w5 ⟨hbm5, hf5, hs5⟩
    have hf5 : Frm [gm] w4 w5 := hf5
    have hgG : ∀ x ∈ [gm], x ∈ G := fun x hx => by rw [za] at hx; subst hx; rw [hFe]; simp
    have kG : Fk G w4 w5 G := Fk.self hf5 hgG
    have hM5 : IsRd w5 gm G { H.dk with bud := nn } := ⟨hD4.ok, A, c, C, cb, hbm5, hAm.frm hf5 (fun x hx h => hgA (by rw [za] at h; subst h; exact hx)), hCm.frm hf5 (fun x hx h => hgC (by rw [za] at h; subst h; exact hx)), hFe⟩
    obtain ⟨hY5, hk5⟩ := hY4.disk hM5 kG rfl (by show H.dk.wts.length ≤ 100000; omega)
    have oh4 : OffQ (y :: G) ({ H with dk := { H.dk with bud := nn } } : Hm) q := ⟨J.oh.pr, J.oh.dr, J.oh.ml, J.oh.ly, J.oh.us⟩
    refine jO ?_
    refine qH (qH (jN ?_))
    refine jv7 0 1 5 7 8 10 12 ?_
    refine jR (jm rfl (jb rfl rfl (Bin.add_i64 _ 1 jo) (ja rfl (jO ?_))))
    refine jN ⟨⟨i + 1, h, y, F, G, { H with dk := { H.dk with bud := nn } }, B, bl, q, rq⟩, (js7 rfl rfl rfl rfl rfl rfl rfl), ?_, ?_⟩
    · exact ⟨⟨by dsimp only; omega, by dsimp only; omega⟩, ⟨hH4.aside oh4 hk5.1 J.dis, hY5, J.inv.dks rfl (by show H.dk.wts.length ≤ 100000; omega), J.rel, J.dis, oh4, J.or⟩, hlen, by show H.dk.wts.length ≤ _; dsimp only; omega, K4.own hk5.1 hupG, hupF, hupG⟩
    exact jq
   have hnn : nn < -1 := Classical.byContradiction fun h => hc13 (by rw [if_neg h])
   rw [if_pos hnn] at hD4
   have hH4 := J.ht.dks hD4 kF (J.inv.dks (d' := H.dk) rfl jo).ok rfl
   refine jQ ?_
   refine qH (qH (jN ?_))
   refine jv7 0 1 5 7 8 10 12 ?_
   refine jR (jm rfl (jb rfl rfl (Bin.add_i64 _ 1 jo) (ja rfl (jO ?_))))
   refine jN ⟨⟨i + 1, h, y, F, G, H, B, bl, q, rq⟩, (js7 rfl rfl rfl rfl rfl rfl rfl), ?_, ?_⟩
   · exact ⟨⟨by dsimp only; omega, by dsimp only; omega⟩, ⟨hH4, hY4, J.inv, J.rel, J.dis, J.oh, J.or⟩, hlen, by dsimp only; omega, K4, hupF, hupG⟩
   exact jq
  refine jS (jS ?_)
  refine VC.split1 [(0, _), (1, _), (5, _), (7, _), (12, _), (13, _)] (js6 rfl rfl rfl rfl rfl rfl) 107 (.bool (decide (dd = 3 ∨ H.dk.off = true))) ?_ ?_
  ·
   refine jR (jf rfl zbt rfl zm (jl rfl zaa (hb.cell 0) (jb rfl rfl (Bin.eql _ 3) ?_)))
   by_cases hs101 : dd = 3
   ·
    refine jM ?_
    refine jU ?_
    refine jU ?_
    refine jU ?_
    refine jU ?_
    refine jW rfl rfl au (jO ?_)
    refine jN ⟨(js7 (jC (by grind)) rfl rfl rfl rfl rfl rfl), rfl⟩
   refine jM ?_
   refine jG ?_
   refine jk (Run.nilck rfl) ?_
   refine jk (Run.fieldAddr rfl zaf rfl zat jd) ?_
   refine jk (Run.load rfl zcr (qZ2 J.rw.dk)) ?_
   by_cases hs106 : H.dk.off = true
   ·
    refine jF rfl rfl au (jO ?_)
    refine jN ⟨(js7 (jC (by grind)) rfl rfl rfl rfl rfl rfl), rfl⟩
   refine jF rfl rfl au (jO ?_)
   refine jN ⟨(js7 (jC (by grind)) rfl rfl rfl rfl rfl rfl), rfl⟩
  intro Γ hΓ
  refine jN (VC.sub _ hΓ ?_)
  refine VC.meet (σ := List Nat × List Nat × Dk) (fun s => [(0, jI1 m), (1, .slice (some ad) n0 c0), (5, jI0 g), (7, jI0 gm), (12, jI1 i), (13, jI0 a3)]) (fun s wr => IsD2 m w wr g gm a3 #[.int .i64 dd, .int .i64 nn, .int .i64 aa, jI2 id, .slice LA ll.length lc, .slice KA kl.length kc] s) ?_ ?_
  ·
   refine jD rfl (fun hc14 => ?_) fun hc14 => ?_
   ·
    have j2 : IsD2 m w w2 g gm a3 #[.int .i64 dd, .int .i64 nn, .int .i64 aa, jI2 id, .slice LA ll.length lc, .slice KA kl.length kc] (F, G, H.dk) := ⟨J.ht.dk, J.rw.dk, fun x hx hg => J.dis x (by simp [hx]) (by simp [hg]), hlen, by dsimp only; omega, K, fun x hx => hupF x (by simp [hx]), fun x hx => hupG x (by simp [hx]), hb, fun hx => a3F (by simp [hx]), fun hx => a3G (by simp [hx])⟩
    refine jS (jR (jm rfl (jf rfl zbt rfl Tryz.sizeOf43 (jl rfl Tryz.isAgg43 (hb.cell 5) ?_))))
    refine jc (jE2 Tryz.call16) (qV7 g kl.length kc KA kl F H.dk w2 J.ht.dk jo rfl rk (fun h0 x hx hx2 => by have h1 := rk0 h0 x hx; have h2 := hupF x (by simp [hx2]); omega)) ?_
    rintro e w4 ⟨F4, rfl, hD4, hk4⟩
    refine ⟨_, rfl, ?_⟩
    obtain ⟨b1, b2, b3, b4, b5, b6⟩ := j2.left hD4 hk4
    refine jO (jN (jv6 0 1 5 7 12 13 ?_))
    refine jR (jm rfl (jf rfl zbt rfl Tryz.sizeOf43 (jl rfl Tryz.isAgg43 (b5.cell 5) ?_)))
    refine jc (jE2 Tryz.call26) (qYf KA kl.length kc kl gm G H.dk w4 b1 jo rfl (rk.frm hk4.1 (fun h0 x hx hx2 => by have h1 := rk0 h0 x hx; have h2 := hupF x (by simp [hx2]); omega)) (fun h0 x hx hx2 => by have h1 := rk0 h0 x hx; have h2 := hupG x (by simp [hx2]); omega)) ?_
    rintro e w5 ⟨G5, rfl, hM5, hk5⟩
    refine ⟨_, rfl, ?_⟩
    refine jO ?_
    refine jN ⟨(F4, G5, H.dk.cut kl), (js6 rfl rfl rfl rfl rfl rfl), ?_⟩
    exact IsD2.right hD4 hM5 hk5 b2 b3 b4 j2.upG b5 b6 j2.aG (by rw [Dk.cut_len]; exact hlen) (zj _)
   refine jQ ?_
   refine jN ⟨(F, G, H.dk), (js6 rfl rfl rfl rfl rfl rfl), ?_⟩
   exact ⟨J.ht.dk, J.rw.dk, fun x hx hg => J.dis x (by simp [hx]) (by simp [hg]), hlen, by dsimp only; omega, K, fun x hx => hupF x (by simp [hx]), fun x hx => hupG x (by simp [hx]), hb, fun hx => a3F (by simp [hx]), fun hx => a3G (by simp [hx])⟩
  rintro ⟨F5, G5, d5⟩ w5 j5 Γ hΓ
  refine jN (VC.sub _ hΓ (jS (jR (jM ?_))))
  refine jc (jE1 Tryz.call17) (qY9 g F5 d5 w5 j5.dk) ?_
  rintro e w6 ⟨F6, rfl, hD6, hk6⟩
  refine ⟨_, rfl, ?_⟩
  obtain ⟨b1, b2, b3, b4, b5, b6⟩ := j5.left hD6 hk6
  refine jO (jN (jv6 0 1 5 7 12 13 ?_))
  refine jS (jR (jM ?_))
  refine jc (jE1 Tryz.call27) (qGv gm G5 d5 w6 b1) ?_
  rintro e w7 ⟨G6, rfl, hM7, hk7⟩
  refine ⟨_, rfl, ?_⟩
  have j7 : IsD2 m w w7 g gm a3 #[.int .i64 dd, .int .i64 nn, .int .i64 aa, jI2 id, .slice LA ll.length lc, .slice KA kl.length kc] (F6, G6, d5.on) := IsD2.right hD6 hM7 hk7 b2 b3 b4 j5.upG b5 b6 j5.aG j5.len (zj _)
  have hb7 := j7.blk
  have hl5 : d5.has.length = m := j5.len
  refine jO (jN (jv6 0 1 5 7 12 13 ?_))
  refine jS (jS ?_)
  refine VC.split1 [(0, _), (1, _), (5, _), (7, _), (12, _), (13, _)] (js6 rfl rfl rfl rfl rfl rfl) 143 (.bool (decide (dd = 4 ∧ 0 ≤ nn ∧ nn < ((m : Nat) : Int) ∧ 0 ≤ aa ∧ aa < 128))) ?_ ?_
  ·
   refine jR (jf rfl zbt rfl zm (jl rfl zaa (hb7.cell 0) (jb rfl rfl (Bin.eql _ 4) ?_)))
   by_cases hs122 : dd = 4
   ·
    refine jM ?_
    refine jk (Run.fieldAddr rfl zbt rfl zm jd) ?_
    refine jk (Run.load rfl zaa (hb7.cell 1)) ?_
    refine jk (Run.bin rfl rfl (Bin.geq _ 0)) ?_
    by_cases hs126 : 0 ≤ nn
    ·
     refine jW rfl rfl au (jM ?_)
     refine jk (Run.fieldAddr rfl zbt rfl zm jd) ?_
     refine jk (Run.load rfl zaa (hb7.cell 1)) ?_
     refine jG ?_
     refine jk (Run.bin rfl rfl (Bin.lss _ _)) ?_
     by_cases hs132 : nn < ((m : Nat) : Int)
     ·
      refine jW rfl rfl au (jM ?_)
      refine jk (Run.fieldAddr rfl zbt rfl zm jd) ?_
      refine jk (Run.load rfl zaa (hb7.cell 2)) ?_
      refine jk (Run.bin rfl rfl (Bin.geq _ 0)) ?_
      by_cases hs137 : 0 ≤ aa
      ·
       refine jW rfl rfl au (jM ?_)
       refine jk (Run.fieldAddr rfl zbt rfl zm jd) ?_
       refine jk (Run.load rfl zaa (hb7.cell 2)) ?_
       refine jk (Run.bin rfl rfl (Bin.lss _ 128)) ?_
       by_cases hs142 : aa < 128
       ·
        refine jW rfl rfl au (jO ?_)
        refine jN ⟨(js7 (jC (by grind)) rfl rfl rfl rfl rfl rfl), rfl⟩
       refine jW rfl rfl au (jO ?_)
       refine jN ⟨(js7 (jC (by grind)) rfl rfl rfl rfl rfl rfl), rfl⟩
      refine jW rfl rfl au (jM ?_)
      refine jU ?_
      refine jU ?_
      refine jU ?_
      refine jF rfl rfl au (jO ?_)
      refine jN ⟨(js7 (jC (by grind)) rfl rfl rfl rfl rfl rfl), rfl⟩
     refine jW rfl rfl au (jM ?_)
     refine jU ?_
     refine jU ?_
     refine jU ?_
     refine jF rfl rfl au (jM ?_)
     refine jU ?_
     refine jU ?_
     refine jU ?_
     refine jF rfl rfl au (jO ?_)
     refine jN ⟨(js7 (jC (by grind)) rfl rfl rfl rfl rfl rfl), rfl⟩
    refine jW rfl rfl au (jM ?_)
    refine jU ?_
    refine jU ?_
    refine jU ?_
    refine jU ?_
    refine jF rfl rfl au (jM ?_)
    refine jU ?_
    refine jU ?_
    refine jU ?_
    refine jF rfl rfl au (jM ?_)
    refine jU ?_
    refine jU ?_
    refine jU ?_
    refine jF rfl rfl au (jO ?_)
    refine jN ⟨(js7 (jC (by grind)) rfl rfl rfl rfl rfl rfl), rfl⟩
   refine jM ?_
   refine jU ?_
   refine jU ?_
   refine jU ?_
   refine jF rfl rfl au (jM ?_)
   refine jU ?_
   refine jU ?_
   refine jU ?_
   refine jU ?_
   refine jF rfl rfl au (jM ?_)
   refine jU ?_
   refine jU ?_
   refine jU ?_
   refine jF rfl rfl au (jM ?_)
   refine jU ?_
   refine jU ?_
   refine jU ?_
   refine jF rfl rfl au (jO ?_)
   refine jN ⟨(js7 (jC (by grind)) rfl rfl rfl rfl rfl rfl), rfl⟩
  intro Γ hΓ
  refine jN (VC.sub _ hΓ ?_)
  refine VC.meet (σ := List Nat × List Nat × Dk) (fun s => [(0, jI1 m), (1, .slice (some ad) n0 c0), (5, jI0 g), (7, jI0 gm), (12, jI1 i)]) (fun s wr => IsD2 m w wr g gm a3 #[.int .i64 dd, .int .i64 nn, .int .i64 aa, jI2 id, .slice LA ll.length lc, .slice KA kl.length kc] s ∧ s.2.2.off = false ∧ s.2.2.wts = []) ?_ ?_
  ·
   refine jD rfl (fun hc15 => ?_) fun hc15 => ?_
   ·
    obtain ⟨-, hn0', hnm, ha0, ha128⟩ := hc15
    obtain ⟨k, rfl⟩ : ∃ k : Nat, nn = ((k : Nat) : Int) := ⟨nn.toNat, jo⟩
    obtain ⟨j, rfl⟩ : ∃ j : Nat, aa = ((j : Nat) : Int) := ⟨aa.toNat, jo⟩
    have hkm : k < d5.has.length := jo
    have hj128 : j < 128 := jo
    have hrd : d5.on.read k = (0, d5.on.sec k) := by unfold Dk.read; rw [if_neg (not_not_intro (show k < d5.on.has.length from hkm)), if_neg (by simp [Dk.on])]
    have hsl : (d5.on.sec k).length = 128 := (j7.dk.ok.secAt (show k < d5.on.has.length from hkm)).1
    have hso : ∀ b ∈ d5.on.sec k, b < 256 := (j7.dk.ok.secAt (show k < d5.on.has.length from hkm)).2
    refine jS (jR (jm rfl (jf rfl zbt rfl zm (jl rfl zaa (hb7.cell 1) ?_))))
    refine jc (jE2 Tryz.call28) (kH g k F6 d5.on w7 j7.dk (zj _)) ?_
    rintro e w8 ⟨RB, rfl, hrR, hf8, hupR, hR0⟩
    refine ⟨_, rfl, ?_⟩
    obtain ⟨rb, rfl, hRb⟩ := hR0 (by rw [hrd])
    rw [hrd] at hrR hRb ⊢
    dsimp only at hrR hRb ⊢
    rw [hsl] at hrR ⊢
    have hoR : Own w8 149 1 (some ⟨rb, 0, none⟩) 128 128 (NB (d5.on.sec k)) := Own.of_blk (n := 128) (size := 1) hRb (by simp [NB, hsl]) jd
    have hb8 := hb7.frm hf8 jp
    have hx256 : (d5.on.sec k).getD j 0 < 256 := hso _ (by rw [zb, ze (jo : j < (d5.on.sec k).length)]; exact zbp _)
    have hcj : ∀ V, Frm [] w8 V → V.cell? ((⟨rb, 0, none⟩ : Addr).add j) = some (.int .u8 (((d5.on.sec k).getD j 0 : Nat) : Int)) := fun V hV => by
     obtain ⟨ad2, h1, h2⟩ := rdG (f := fun b : Nat => Value.int .u8 (b : Int)) (hrR.frm hV jp) hsl hj128 0
     cases h1
     exact h2
    have hFl7 := j7.dk.lt
    have hGl7 := j7.rd.lt
    refine jm rfl (jY rfl rfl (jY rfl rfl (ja rfl (ja rfl (jO (jN (jv7 0 1 5 7 12 13 21 ?_)))))))
    refine jS (jS (jR (jm rfl (jL rfl zg (jb rfl rfl (Bin.neqN _ 128) (jO (jN (jv8 0 1 5 7 12 13 21 153 ?_))))))))
    refine VC.condF rfl jdf ?_
    refine jQ (jN (jv7 0 1 5 7 12 13 21 ?_))
    refine jS ?_
    refine VC.tail 10 jK jK ?_
    simp only [zed, zcs, zfn, zbz]
    refine qM ?_
    refine qE (Run.fieldAddr rfl zbt rfl zm jd) ?_
    refine qE (Run.load rfl zaa ((hb8.frm (qP.drew _).frm jp).cell 2)) ?_
    refine qM ?_
    refine qE (Run.fieldAddr rfl zbt rfl zm jd) ?_
    refine qE (Run.load rfl zaa ((hb8.frm (qP.drew _).frm jp).cell 2)) ?_
    refine qE (Run.index1 _ rfl rfl zg zam jo) ?_
    refine qE (Run.load rfl zdk (hcj _ (qP.drew _).frm)) ?_
    refine qE (Run.bin rfl rfl (Bin.xor_u8 _ 5 jo jo)) ?_
    refine qE (Run.index1 _ rfl rfl zg zam jo) ?_
    refine bJ.nil ?_
    refine Ops.st (qT.storeOwn j rfl rfl zam (hoR.frm (qP.drew w8).frm jp) rfl jo rfl) ?_
    rintro w9 ⟨ho9, hf9, hs9⟩
    obtain ⟨b9, hb9⟩ : ∃ b9, b9 = (d5.on.sec k).set j (((d5.on.sec k).getD j 0) ^^^ 5) := ⟨_, rfl⟩
    have e9 : (NB (d5.on.sec k)).set j (.int .u8 (((((d5.on.sec k).getD j 0) ^^^ 5 : Nat)) : Int)) = NB b9 := by rw [hb9, NB, NB, zfg]
    rw [e9] at ho9
    have hl9 : b9.length = 128 := by rw [hb9, List.length_set]; exact hsl
    have hx5 : ((d5.on.sec k).getD j 0) ^^^ 5 < 256 := zgj (n := 8) hx256 jo
    have ho9B : ∀ x ∈ b9, x < 256 := fun x hx => by
     rw [hb9] at hx
     rcases List.mem_or_eq_of_mem_set hx with h1 | h1
     · exact hso x h1
     rw [h1]; exact hx5
    have hrb : w7.heap.size ≤ rb := hupR rb (by simp [ob])
    have k79 : Frm [] w7 w9 := (hf8.trans (qP.drew w8).frm jp).own hf9 (fun x hx => by simp [ob] at hx; omega)
    have j9 := j7.frm k79
    have hr9 := ho9.rd
    have hrbF : rb ∉ F6 := fun hx => by have := hFl7 _ hx; omega
    have hrbG : rb ∉ G6 := fun hx => by have := hGl7 _ hx; omega
    obtain ⟨s1, s2, s3, s4, s5⟩ := qNg (d := d5) hkm hl9
    have hb9b := j9.blk
    refine jO (jN (jv7 0 1 5 7 12 13 21 ?_))
    refine jS (jR (jm rfl (jf rfl zbt rfl zm (jl rfl zaa (hb9b.cell 1) (jM ?_)))))
    refine jc (jE3 Tryz.call29) (vT g k 128 128 (some ⟨rb, 0, none⟩) b9 F6 d5.on w9 j9.dk (zj _) hl9 jo ho9B hr9 (fun _ x hx => by simp [ob] at hx; subst hx; exact hrbF)) ?_
    rintro e wA ⟨FA, rfl, hDA, hkA⟩
    refine ⟨_, rfl, ?_⟩
    obtain ⟨c1, c2, c3, c4, c5, c6⟩ := j9.left hDA hkA
    have hrA := hr9.frm hkA.1 (fun _ x hx => by simp [ob] at hx; subst hx; exact hrbF)
    refine jO (jN (jv7 0 1 5 7 12 13 21 ?_))
    refine jS (jR (jm rfl (jf rfl zbt rfl zm (jl rfl zaa (c5.cell 1) (jm rfl (je (Run.strOf rfl zg zac zt (rdU hrA ho9B)) ?_))))))
    refine jc (jE3 Tryz.call30) (kD k b9 gm G6 d5.on wA c1 (zj _) ho9B jo) ?_
    rintro e wB ⟨GB, rfl, hMB, hkB⟩
    refine ⟨_, rfl, ?_⟩
    have dZ8 : IsD2 m w wB g gm a3 #[.int .i64 dd, jI1 k, jI1 j, jI2 id, .slice LA ll.length lc, .slice KA kl.length kc] (FA, GB, (d5.on.write k b9).2) := IsD2.right hDA hMB hkB c2 c3 c4 j9.upG c5 c6 j9.aG jo jo
    refine jO (jN (jv5 0 1 5 7 12 ?_))
    refine jS (jR (jM ?_))
    refine jc (jE1 Tryz.call31) (vU g FA (d5.on.write k b9).2 wB dZ8.dk jo) ?_
    rintro e wC ⟨FC, rfl, hDC, hkC⟩
    refine ⟨_, rfl, ?_⟩
    obtain ⟨e1, e2, e3, e4, e5, e6⟩ := dZ8.left hDC hkC
    refine jO (jN (jv5 0 1 5 7 12 ?_))
    refine jR (jM ?_)
    refine jc (jE1 Tryz.call32) (kE gm GB (d5.on.write k b9).2 wC e1 jo) ?_
    rintro e wE ⟨GE, rfl, hME, hkE⟩
    refine ⟨_, rfl, ?_⟩
    have dZ9 : IsD2 m w wE g gm a3 #[.int .i64 dd, jI1 k, jI1 j, jI2 id, .slice LA ll.length lc, .slice KA kl.length kc] (FC, GE, ((d5.on.write k b9).2.flush).2) := IsD2.right hDC hME hkE e2 e3 e4 dZ8.upG e5 e6 dZ8.aG jo (by rw [s3]; exact zj _)
    refine jO ?_
    refine jN ⟨(FC, GE, ((d5.on.write k b9).2.flush).2), (js5 rfl rfl rfl rfl rfl), ?_⟩
    exact ⟨dZ9, s2, s3⟩
   refine jQ ?_
   refine jN ⟨(F6, G6, d5.on), (js5 rfl rfl rfl rfl rfl), ?_⟩
   exact ⟨j7, rfl, rfl⟩
  rintro ⟨F7, G7, d7⟩ wa ⟨dZ7, hoff7, hwt7⟩ Γ hΓ
  dsimp only at hoff7 hwt7
  have hl7 : d7.has.length = m := dZ7.len
  have hlM := xG d7
  have hwM := xY d7
  rw [hwt7] at hwM
  have hG7l := dZ7.rd.lt
  have hF7l := dZ7.dk.lt
  refine jN (VC.sub _ hΓ (jS (jR (jM ?_))))
  refine jc (jE1 Tryz.call12) (qNc G7 g F7 d7 wa hG7l dZ7.dk (by rw [hwt7]; exact zj _) jo hoff7) ?_
  rintro e wc ⟨FC, hx, er, rfl, hDC, hkC, herC, hxo, hxs⟩
  refine ⟨_, rfl, ?_⟩
  obtain ⟨b1, b2, b3, b4, b5, b6⟩ := dZ7.left hDC hkC
  have hsC := hkC.1.size
  refine jm rfl (jY rfl rfl (jY rfl rfl (ja rfl (ja rfl (jO (jN (jv7 0 1 5 7 12 23 24 ?_)))))))
  refine jS (jR (jM ?_))
  refine jc (jE1 Tryz.call33) (qMj gm G7 d7 wc b1 (by rw [hwt7]; exact zj _) jo hoff7) ?_
  rintro e wd ⟨GD, yx, er2, rfl, hMD, hkD, herD, hyo, hys⟩
  refine ⟨_, rfl, ?_⟩
  obtain rfl : er = er2 := herC.eq herD
  have hnn : ((ptr hx).isNone != (ptr yx).isNone) = false := by
   have h1 : hx.isSome = yx.isSome := by rw [Bool.eq_iff_iff, hxo, hyo]
   cases hx <;> cases yx <;> first | rfl | cases h1
  have hDd := hDC.frm hkD.1 b2
  have hsD := hkD.1.size
  have Kd := b3.own hkD.1 dZ7.upG
  have hupD : ∀ x ∈ GD, w.heap.size ≤ x := fun x hx => by
   rcases hkD.2 x hx with h1 | h1
   · exact dZ7.upG x h1
   have := b3.size; omega
  refine jm rfl (jY rfl rfl (jY rfl rfl (ja rfl (ja rfl (jO (jN (jv9 0 1 5 7 12 23 24 25 26 ?_)))))))
  refine jS (jS (jR (jm rfl (je (Run.eqlNilP rfl rfl zhu) (jm rfl (je (Run.eqlNilP rfl rfl zhv) (je (Run.neqB rfl rfl Tryz.underlying4) (jM ?_))))))))
  refine Ops.rg rfl (hnn) (Run.mv rfl) rfl ?_
  refine Ops.rg rfl (hnn) (Run.mv rfl) rfl ?_
  refine Ops.rg rfl (hnn) (Run.bin rfl rfl (Bin.neqN _ _)) rfl ?_
  refine jF rfl rfl (hnn) (jM ?_)
  refine Ops.rg rfl jdp (Run.mv rfl) rfl ?_
  refine Ops.rg rfl jdp (Run.mv rfl) rfl ?_
  refine Ops.clg rfl jdp (jE2 Tryz.call34) (wJ g gm FC GD (bW d7).2.2 wd hDd hMD) rfl ?_
  rintro e w9 ⟨rfl, hf9⟩
  refine ⟨_, rfl, ?_⟩
  have K9 := Kd.trans hf9 jp
  refine Ops.rg rfl jdp (Run.not rfl) rfl ?_
  refine jF rfl rfl jdp (jO (jN (jv8 0 1 5 7 12 23 25 204 ?_)))
  refine VC.condF rfl (rfl) ?_
  refine jQ (jN (jv7 0 1 5 7 12 23 25 ?_))
  refine jS (jS (jR (jm rfl (je (Run.eqlNilP rfl rfl zhv) (jO (jN (jv8 0 1 5 7 12 23 25 206 ?_)))))))
  refine VC.condB rfl (fun hc18 => ?_) (fun hc18 => ?_)
  ·
   refine jS (jR ?_)
   refine jc (jE0 Tryz.call14) (nW w9) ?_
   rintro e wz ⟨rfl, hfz⟩
   refine ⟨_, rfl, ?_⟩
   refine ja rfl (jO (jN (jv1 4 ?_)))
   refine jT ?_
   refine qQ (qR (qR (qQ (qQ (qR (qQ (qS rfl ?_)))))))
   exact ⟨rfl, K9.trans hfz jp⟩
  obtain ⟨y8, rfl⟩ : ∃ y8, yx = some y8 := by
   cases yx with
   | none => simp [ptr] at hc18
   | some a => exact ⟨a, rfl⟩
  have hopn := hyo.1 rfl
  obtain ⟨h8, rfl⟩ : ∃ h8, hx = some h8 := Option.isSome_iff_exists.1 (hxo.2 hopn)
  obtain ⟨q8, hH8, hh8, oh8⟩ := hxs _ rfl
  obtain ⟨bl8, rq8, hY8, hrel8, hy8, hoff8⟩ := hys _ rfl
  have kD8 : Fk G7 wc wd (y8 :: GD) := ⟨hkD.1, fun x hx => by
   rcases zaq.1 hx with rfl | hx
   · exact .inr hy8
   exact hkD.2 x hx⟩
  have dis8 : ∀ x ∈ h8 :: FC, x ∉ G7 := fun x hx hg => by
   rcases zaq.1 hx with rfl | hx
   · have := hG7l _ hg; omega
   exact b2 x hx hg
  have J8 : IsJ wd g gm h8 y8 FC GD (cI (bW d7).2.2) (oJ (bW d7).2.2) bl8 q8 rq8 := ⟨hH8.aside oh8 hkD.1 dis8, hY8, hopn.2.inv hDC.ok jo (by simp at hwM; omega), hrel8, rK dis8 kD8 hH8.lt, oh8.fk hH8 kD8, hoff8 _ hH8.lt⟩
  have J9 := J8.frm hf9
  have hup8 : ∀ x ∈ h8 :: FC, w.heap.size ≤ x := fun x hx => by
   rcases zaq.1 hx with rfl | hx
   · have := dZ7.K.size; omega
   exact b4 x hx
  have hupy : ∀ x ∈ y8 :: GD, w.heap.size ≤ x := fun x hx => by
   rcases zaq.1 hx with rfl | hx
   · have := b3.size; omega
   exact hupD x hx
  refine jQ (jN (jv7 0 1 5 7 12 23 25 ?_))
  refine jS (jR (jm rfl (jm rfl (ja rfl (ja rfl (jO (jN (jv7 0 1 5 7 8 10 12 ?_))))))))
  refine jS (jR (jm rfl (jm rfl (jM ?_))))
  refine jc (jE3 Tryz.call21) (wK g gm h8 y8 FC GD (cI (bW d7).2.2) (oJ (bW d7).2.2) bl8 q8 rq8 w9 J9.ht J9.rw J9.inv J9.rel) ?_
  rintro e wz ⟨rfl, hfz⟩
  refine ⟨_, rfl, ?_⟩
  refine je (Run.not rfl) (jO (jN (jv8 0 1 5 7 8 10 12 214 ?_)))
  refine VC.condF rfl (rfl) ?_
  refine jQ ?_
  refine qH (qH (jN ?_))
  refine jv7 0 1 5 7 8 10 12 ?_
  refine jR (jm rfl (jb rfl rfl (Bin.add_i64 _ 1 jo) (ja rfl (jO ?_))))
  refine jN ⟨⟨i + 1, h8, y8, FC, GD, cI (bW d7).2.2, oJ (bW d7).2.2, bl8, q8, rq8⟩, (js7 rfl rfl rfl rfl rfl rfl rfl), ?_, ?_⟩
  ·
   have hwM : (bW d7).2.2.wts.length ≤ 90 := by simpa using hwM
   exact ⟨⟨by dsimp only; omega, by dsimp only; omega⟩, J9.frm hfz, by show (bW d7).2.2.has.length = m; omega, by show (bW d7).2.2.wts.length ≤ _; dsimp only; omega, K9.trans hfz jp, hup8, hupy⟩
  exact jq
 refine jX ?_
 refine qZ (qZ (qN ?_))
 refine jN ?_
 refine VC.sub [] .nil ?_
 refine jS (jR ?_)
 refine jc (jE0 Tryz.call14) (nW wr) ?_
 rintro e wz ⟨rfl, hfz⟩
 refine ⟨_, rfl, ?_⟩
 refine ja rfl (jO (jN (jv1 4 ?_)))
 refine jT ?_
 refine qS rfl ?_
 exact ⟨rfl, K.trans hfz jp⟩
theorem qJx (n : Int) (S0 : Option Addr) (n0 c0 : Nat) (l : List Ac) (w : World) (hn64 : n ≤ 9223372036854775807) (hn0 : n0 ≤ 9223372036854775807) (hr : RdAc w S0 n0 l) :
  Calls Tryz.prog 5 #[.int .i64 n, .slice S0 n0 c0] w fun e w' => e = .returned (.bool true) ∧ Frm [] w w' := by
 by_cases h1 : n < 1
 · exact qVy n S0 n0 c0 w h1
 by_cases h2 : n < 44
 ·
  obtain ⟨k, rfl⟩ : ∃ k : Nat, n = ((k : Nat) : Int) := ⟨n.toNat, jo⟩
  exact qZ1 k S0 n0 c0 w jo jo
 exact qVz n S0 n0 c0 l w jo hn64 hn0 hr
end
end Go.Proofs.YtoniopdkbeogjaaGreat
