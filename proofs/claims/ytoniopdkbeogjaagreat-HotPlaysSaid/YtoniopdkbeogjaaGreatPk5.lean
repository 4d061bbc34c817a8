/-
  Lemmas on the way, joined: RfJ, RfP, RfQ, RfK, RfR, RfL, RfM, OpgA, OpgB, OpgC.
-/
import Derived.Test.YtoniopdkbeogjaaGreatPk4
set_option maxRecDepth 100000
set_option linter.unusedVariables false
set_option linter.unusedSimpArgs false
set_option maxHeartbeats 8000000
namespace Go.Proofs.YtoniopdkbeogjaaGreat
section
open Go.RowKit
def gX (l : List Rb) (id : Nat) : List Rb := l.filter fun x => decide (x.1 < id)
def mV (l : List Rb) (id : Nat) : List Rb := l.filter fun x => decide (id < x.1)
def gP (l : List Rb) (x : Rb) (k : Nat) : List Rb := gX l x.1 ++ [x] ++ mV (l.take k) x.1
def pX (l : List Rb) (x : Rb) : List Rb := gX l x.1 ++ x :: mV l x.1
theorem qYn : ∀ {l : List Rb}, (l.map (·.1)).Nodup → ∀ {a b : Rb}, a ∈ l → b ∈ l → a.1 = b.1 → a = b
 | c :: r, hn, a, b, ha, hb, h => by
  rw [zbo, zft] at hn
  rcases zaq.1 ha with e1 | h1
  ·
   rcases zaq.1 hb with e2 | h2
   · rw [e1, e2]
   exact absurd (List.mem_map.2 ⟨b, h2, by rw [← h, e1]⟩) hn.1
  rcases zaq.1 hb with e2 | h2
  · exact absurd (List.mem_map.2 ⟨a, h1, by rw [h, e2]⟩) hn.1
  exact qYn hn.2 h1 h2 h
theorem qG3 (l : List Rb) (x : Rb) : gP l x l.length = pX l x := by unfold gP pX; rw [zbw, zab]; rfl
theorem qYo (l : List Rb) (x : Rb) (id : Nat) : gX (l ++ [x]) id = gX l id ++ if x.1 < id then [x] else [] := by
 unfold gX; rw [zcy]; congr 1
 by_cases h : x.1 < id <;> simp [h]
theorem qVt (l : List Rb) (x : Rb) (id : Nat) : mV (l ++ [x]) id = mV l id ++ if id < x.1 then [x] else [] := by
 unfold mV; rw [zcy]; congr 1
 by_cases h : id < x.1 <;> simp [h]
theorem qMe (l : List Rb) (id k : Nat) : (gX (l.take k) id).length ≤ l.length := zbd (zcu _ _) (by rw [zk]; exact zel _ _)
theorem qG4 (l : List Rb) (id k : Nat) : (mV (l.take k) id).length ≤ l.length := zbd (zcu _ _) (by rw [zk]; exact zel _ _)
theorem qG5 (l : List Rb) (id : Nat) : (gX l id).length ≤ l.length := zcu _ _
theorem uA {w : World} {A : Option Addr} {n : Nat} {bl : List Rb} (h : Rd w 4 A n (bl.flatMap rbC)) (hn : bl.length = n) {k : Nat} (hk : k < n) (x : Rb) (hx : x = bl.getD k rb0) : ∃ ad, A = some ad ∧ ∀ V, Frm [] w V → ∀ j v, (rbC x)[j]? = some v → V.cell? ((ad.add (k * 4)).add j) = some v := by
 subst hx
 exact qQ7 h hn hk
def tG (d : Dk) (bl : List Rb) (id : Nat) : Nat × List Nat := match bl.find? (fun x => decide (x.1 = id)) with
 | none => (6, [])
 | some x => if d.off then (10, []) else if crcM (((x.2.2.1.2.2).flatMap fun p => (d.sec (42 + p)).drop 2).take x.2.1.length) = x.2.2.2 then (0, ((x.2.2.1.2.2).flatMap fun p => (d.sec (42 + p)).drop 2).take x.2.1.length) else (9, [])
theorem qVu (A : Option Addr) (n c : Nat) (bl : List Rb) (x : Rb) (w : World) (hn : bl.length = n) (hnb : n ≤ 1000000) (hr : Rd w 4 A n (bl.flatMap rbC)) :
  Calls Tryz.prog 63 #[.slice A n c, .agg (rbC x).toArray] w fun e w' => ∃ B d, e = .returned (.slice B (pX bl x).length d) ∧ Own w' 111 4 B (pX bl x).length d ((pX bl x).flatMap rbC) ∧ Frm [] w w' ∧ ∀ y ∈ ob B, w.heap.size ≤ y := by
 have hlw := qMe bl x.1
 have hhw := qG4 bl x.1
 have hl0 := qG5 bl x.1
 refine jV Tryz.func63 Tryz.ntmps63 Tryz.results63 ?_
 refine jS (jR ?_)
 refine Ops.m (qV.box rfl) rfl ?_
 rintro _ w1 ⟨rfl, hF1⟩
 have hb1 : Blk w1 w.heap.size 111 (rbC x).toArray := hF1.blk
 have hr1 := hr.frm hF1.frm jp
 have K1 := hF1.frm
 have q1 := hF1.size
 generalize hg3 : w.heap.size = g3 at hb1 q1 ⊢
 refine ja rfl (jO (jN (jv2 0 3 ?_)))
 refine jS (jR (ja rfl (jO (jN (jS (jS (jR (jz 0 (jO (jN (jB ?_)))))))))))
 refine VC.loop (σ := Nat × Option Addr × Nat) (fun s => [(0, .slice A n c), (3, jI0 g3), (5, .slice s.2.1 (gX (bl.take s.1) x.1).length s.2.2), (6, jI1 s.1)]) (fun s wr => s.1 ≤ n ∧ Own wr 111 4 s.2.1 (gX (bl.take s.1) x.1).length s.2.2 ((gX (bl.take s.1) x.1).flatMap rbC) ∧ Frm [] w1 wr ∧ ∀ y ∈ ob s.2.1, w1.heap.size ≤ y) (fun s => n - s.1) (0, none, 0) (js4 rfl rfl rfl rfl) ⟨zj _, Own.nil _ _ _, Frm.refl _ _, by simp [ob]⟩ ?_
 rintro ⟨i, B, d⟩ wr ⟨hi, ho, K, hup⟩
 dsimp only at hi ho hup ⊢
 have ks := K.size
 have hli := hlw i
 refine jS (jS (jR (jm rfl (jm rfl (jL rfl zao (jb rfl rfl (Bin.lssN _ _) (jO (jN (jv5 0 3 5 6 11 ?_)))))))))
 refine jD rfl (fun hc1 => ?_) fun hc1 => ?_
 ·
  have hts := eN (l := bl) rb0 (k := i) jo
  obtain ⟨z, hz⟩ : ∃ z, z = bl.getD i rb0 := ⟨_, rfl⟩
  obtain ⟨bd, hA, hcA⟩ := uA (hr1.frm K jp) hn hc1 z hz
  have hA1 := hA
  have hbx := hb1.frm K jp
  have hd := qP.drew wr
  rw [← hz] at hts
  have hsn := qYo (bl.take i) z x.1
  rw [← hts] at hsn
  rw [hA]
  refine jQ (jN (jv4 0 3 5 6 ?_))
  refine jS (jB (jS ?_))
  refine VC.still jK jK ?_
  refine qM ?_
  refine qM ?_
  refine qE (Run.indexS _ rfl rfl zao zbf jo) ?_
  refine qE (Run.fieldAddr rfl zal rfl zy jd) ?_
  refine qE (Run.load rfl zai (hcA _ hd.frm 0 _ rfl)) ?_
  refine qE (Run.fieldAddr rfl zal rfl zy jd) ?_
  refine qE (Run.load rfl zai ((hbx.drawn hd).cell 0)) ?_
  refine qE (Run.bin rfl rfl (Bin.lssN _ _)) ?_
  refine bJ.nil ?_
  refine jN (jv5 0 3 5 6 21 ?_)
  refine jD rfl (fun hc2 => ?_) fun hc2 => ?_
  ·
   rw [if_pos hc2] at hsn
   have ho := ho.drawn hd
   have K := K.drawn hd
   have ks := K.size
   have hcA := fun V (hV : Frm [] wr.drew V) => hcA V (hd.frm.trans hV jp)
   generalize wr.drew = wr at *
   refine jR (jm rfl (jm rfl (jm rfl (je (Run.indexS _ rfl rfl zao zbf jo) (je (Run.loadA rfl zfv zbf (hcA _ (Frm.refl _ _)) (by first | rfl | (simp; done))) ?_)))))
   refine Ops.m (qV.buildS1 rfl zao zbf fC jd jd rfl rfl) rfl ?_
   rintro _ w6 ⟨rfl, hF6⟩
   have hr6 : Rd w6 4 (some ⟨wr.heap.size, 0, none⟩) 1 (rbC z) := Rd.of_blk (n := 1) (size := 4) hF6.blk rfl
   have ho6 := ho.frm hF6.frm jp
   have K6 := K.trans hF6.frm jp
   have q6 := K6.size
   refine Ops.m (qV.app rfl rfl zao (oK) rfl jd ho6 hr6 (kR _) jo jo) rfl ?_
   rintro _ w7 ⟨B7, d7, rfl, ho7, hf7, hob7⟩
   have e7 : (gX (bl.take i) x.1).flatMap rbC ++ rbC z = (gX (bl.take (i + 1)) x.1).flatMap rbC := by rw [hsn, zan]; simp
   have e8 : (gX (bl.take i) x.1).length + 1 = (gX (bl.take (i + 1)) x.1).length := by rw [hsn, zf]; rfl
   rw [e7, e8] at ho7
   rw [← hA1]
   refine ja rfl (jO ?_)
   refine qH (jN ?_)
   refine jv4 0 3 5 6 ?_
   refine jR (jm rfl (jb rfl rfl (Bin.add_i64 _ 1 jo) (ja rfl (jO ?_))))
   refine jN ⟨(i + 1, B7, d7), (js4 rfl rfl (by rw [← e8]; rfl) rfl), ?_, ?_⟩
   · exact ⟨hc1, ho7, K6.own hf7 hup, (Fk.of_app hf7 hob7).up hup q6⟩
   exact jq
  rw [if_neg hc2, zav] at hsn
  have ho := ho.drawn hd
  have K := K.drawn hd
  rw [← hA1, ← hsn] at *
  refine jQ ?_
  refine qH (jN ?_)
  refine jv4 0 3 5 6 ?_
  refine jR (jm rfl (jb rfl rfl (Bin.add_i64 _ 1 jo) (ja rfl (jO ?_))))
  refine jN ⟨(i + 1, B, d), (js4 rfl rfl rfl rfl), ?_, ?_⟩
  · exact ⟨hc1, ho, K, hup⟩
  exact jq
 obtain rfl : i = n := jo
 rw [zh (jo : bl.length ≤ i)] at ho ⊢
 have hbx := hb1.frm K jp
 refine jX ?_
 refine qZ (qZ (qN ?_))
 refine jN (jv3 0 3 5 ?_)
 refine jS (jR (jm rfl (je (Run.loadA rfl zfv zbf hbx.cells (by first | rfl | (simp; done))) ?_)))
 refine Ops.m (qV.buildS1 rfl zao zbf fC jd jd rfl rfl) rfl ?_
 rintro _ w6 ⟨rfl, hF6⟩
 have hr6 : Rd w6 4 (some ⟨wr.heap.size, 0, none⟩) 1 (rbC x) := Rd.of_blk (n := 1) (size := 4) hF6.blk rfl
 have ho6 := ho.frm hF6.frm jp
 have K6 := K.trans hF6.frm jp
 have q6 := K6.size
 refine Ops.m (qV.app rfl rfl zao (oK) rfl jd ho6 hr6 (kR _) jo jo) rfl ?_
 rintro _ w7 ⟨B7, d7, rfl, ho7, hf7, hob7⟩
 have e7 : (gX bl x.1).flatMap rbC ++ rbC x = (gP bl x 0).flatMap rbC := by simp [gP, mV]
 have e8 : (gX bl x.1).length + 1 = (gP bl x 0).length := by simp [gP, mV]
 rw [e7, e8] at ho7
 rw [e8]
 have K7 := K6.own hf7 hup
 have hup7 := (Fk.of_app hf7 hob7).up hup q6
 refine ja rfl (jO (jN (jv3 0 3 5 ?_)))
 refine jS (jS (jR (jz 0 (jO (jN (jB ?_))))))
 refine VC.loop (σ := Nat × Option Addr × Nat) (fun s => [(0, .slice A i c), (3, jI0 g3), (5, .slice s.2.1 (gP bl x s.1).length s.2.2), (7, jI1 s.1)]) (fun s wr => s.1 ≤ i ∧ Own wr 111 4 s.2.1 (gP bl x s.1).length s.2.2 ((gP bl x s.1).flatMap rbC) ∧ Frm [] w1 wr ∧ ∀ y ∈ ob s.2.1, w1.heap.size ≤ y) (fun s => i - s.1) (0, B7, d7) (js4 rfl rfl rfl rfl) ⟨zj _, ho7, K7, hup7⟩ ?_
 rintro ⟨k, C, e⟩ wk ⟨hk, ho, K, hup⟩
 dsimp only at hk ho hup ⊢
 have ks := K.size
 have hlk : (gP bl x k).length ≤ 2 * bl.length + 1 := by have := hhw k; unfold gP; rw [zf, zf]; simp only [zck]; omega
 refine jS (jS (jR (jm rfl (jm rfl (jL rfl zao (jb rfl rfl (Bin.lssN _ _) (jO (jN (jv5 0 3 5 7 36 ?_)))))))))
 refine jD rfl (fun hc3 => ?_) fun hc3 => ?_
 ·
  have hts := eN (l := bl) rb0 (k := k) jo
  obtain ⟨z, hz⟩ : ∃ z, z = bl.getD k rb0 := ⟨_, rfl⟩
  obtain ⟨bd, hA, hcA⟩ := uA (hr1.frm K jp) hn hc3 z hz
  have hA1 := hA
  have hbx := hb1.frm K jp
  have hd := qP.drew wk
  rw [← hz] at hts
  have hsn := qVt (bl.take k) z x.1
  rw [← hts] at hsn
  have hsl : gP bl x (k + 1) = gP bl x k ++ if x.1 < z.1 then [z] else [] := by unfold gP; rw [hsn]; simp only [zab]
  rw [hA]
  refine jQ (jN (jv4 0 3 5 7 ?_))
  refine jS (jB (jS ?_))
  refine VC.still jK jK ?_
  refine qM ?_
  refine qM ?_
  refine qE (Run.indexS _ rfl rfl zao zbf jo) ?_
  refine qE (Run.fieldAddr rfl zal rfl zy jd) ?_
  refine qE (Run.load rfl zai (hcA _ hd.frm 0 _ rfl)) ?_
  refine qE (Run.fieldAddr rfl zal rfl zy jd) ?_
  refine qE (Run.load rfl zai ((hbx.drawn hd).cell 0)) ?_
  refine qE (Run.bin rfl rfl (Bin.gtrN _ _)) ?_
  refine bJ.nil ?_
  refine jN (jv5 0 3 5 7 46 ?_)
  refine jD rfl (fun hc4 => ?_) fun hc4 => ?_
  ·
   rw [if_pos hc4] at hsl
   have ho := ho.drawn hd
   have K := K.drawn hd
   have ks := K.size
   have hcA := fun V (hV : Frm [] wk.drew V) => hcA V (hd.frm.trans hV jp)
   generalize wk.drew = wk at *
   refine jR (jm rfl (jm rfl (jm rfl (je (Run.indexS _ rfl rfl zao zbf jo) (je (Run.loadA rfl zfv zbf (hcA _ (Frm.refl _ _)) (by first | rfl | (simp; done))) ?_)))))
   refine Ops.m (qV.buildS1 rfl zao zbf fC jd jd rfl rfl) rfl ?_
   rintro _ w8 ⟨rfl, hF8⟩
   have hr8 : Rd w8 4 (some ⟨wk.heap.size, 0, none⟩) 1 (rbC z) := Rd.of_blk (n := 1) (size := 4) hF8.blk rfl
   have ho8 := ho.frm hF8.frm jp
   have K8 := K.trans hF8.frm jp
   have q8 := K8.size
   refine Ops.m (qV.app rfl rfl zao (oK) rfl jd ho8 hr8 (kR _) jo jo) rfl ?_
   rintro _ w9 ⟨B9, d9, rfl, ho9, hf9, hob9⟩
   have e9 : (gP bl x k).flatMap rbC ++ rbC z = (gP bl x (k + 1)).flatMap rbC := by rw [hsl, zan]; simp
   have e10 : (gP bl x k).length + 1 = (gP bl x (k + 1)).length := by rw [hsl, zf]; rfl
   rw [e9, e10] at ho9
   rw [← hA1]
   refine ja rfl (jO ?_)
   refine qH (jN ?_)
   refine jv4 0 3 5 7 ?_
   refine jR (jm rfl (jb rfl rfl (Bin.add_i64 _ 1 jo) (ja rfl (jO ?_))))
   refine jN ⟨(k + 1, B9, d9), (js4 rfl rfl (by rw [← e10]; rfl) rfl), ?_, ?_⟩
   · exact ⟨hc3, ho9, K8.own hf9 hup, (Fk.of_app hf9 hob9).up hup q8⟩
   exact jq
  rw [if_neg hc4, zav] at hsl
  have ho := ho.drawn hd
  have K := K.drawn hd
  rw [← hA1, ← hsl] at *
  refine jQ ?_
  refine qH (jN ?_)
  refine jv4 0 3 5 7 ?_
  refine jR (jm rfl (jb rfl rfl (Bin.add_i64 _ 1 jo) (ja rfl (jO ?_))))
  refine jN ⟨(k + 1, C, e), (js4 rfl rfl rfl rfl), ?_, ?_⟩
  · exact ⟨hc3, ho, K, hup⟩
  exact jq
 refine jX ?_
 refine qZ (qZ (qN ?_))
 refine jN (jv1 5 ?_)
 refine jS (jR (jm rfl (ja rfl (jO (jN (jv1 4 ?_))))))
 refine jT ?_
 refine qS rfl ?_
 obtain rfl : k = i := jo
 rw [← hn, qG3] at ho ⊢
 exact ⟨C, e, rfl, ho, K1.trans K jp, fun y hy => by have := hup y hy; omega⟩
theorem qVv (id : Nat) (y gm : Nat) (F : List Nat) (d : Dk) (bl : List Rb) (dir : List Nat) (q : RwQ) (w : World) (hY : IsRw w y gm F d bl dir q) (hid : id < 18446744073709551616) (hle : ∀ x ∈ bl, x.2.1.length ≤ 126 * x.2.2.1.2.2.length) (hnd : (bl.map (·.1)).Nodup) : Calls Tryz.prog 23 #[jI0 y, jI2 id] w fun e w' => e = .returned (.tuple #[.string (qF (tG d bl id).2), jI1 ((tG d bl id).1)]) ∧ Frm [] w w' ∧ ∀ b ∈ (tG d bl id).2, b < 256 := by
 have hsz := hY.sz
 have hbg := hY.dk.ok.big
 have h6 := hY.n6
 have hok := hY.dk.ok
 obtain ⟨A, c, C, cb, hbD, hAD, hCD, hFe, hgA, hgB, hAB⟩ := hY.dk.parts
 refine jV Tryz.func23 Tryz.ntmps23 Tryz.results23 ?_
 refine jS (jR ?_)
 refine Ops.r (v := .string (qF [])) (Run.asg rfl) rfl ?_
 refine jz 0 (jO (jN (jv2 0 1 ?_)))
 refine jS (jR (jm rfl (jM ?_)))
 refine jc (jE2 Tryz.call25) (uE id y gm F d bl dir q w hY hid) ?_
 rintro e _ ⟨rfl, hat⟩
 obtain ⟨u, hu⟩ : ∃ u : Int, e = .returned (.int .i64 u) ∧ ((id ∉ bl.map (·.1) ∧ u = -1) ∨ ∃ i, i < bl.length ∧ (bl.getD i rb0).1 = id ∧ u = ((i : Nat) : Int)) := by
  rcases hat with ⟨h1, rfl⟩ | ⟨i, h1, h2, rfl⟩
  · exact ⟨_, rfl, .inl ⟨h1, rfl⟩⟩
  exact ⟨_, rfl, .inr ⟨i, h1, h2, rfl⟩⟩
 obtain ⟨rfl, hu⟩ := hu
 refine ⟨_, rfl, ?_⟩
 refine ja rfl (jO (jN (jv2 0 6 ?_)))
 refine jS (jS (jR (jm rfl (jb rfl rfl (Bin.lss _ 0) (jO (jN (jv3 0 6 15 ?_)))))))
 refine jD rfl (fun hc1 => ?_) fun hc1 => ?_
 ·
  have hno : id ∉ bl.map (·.1) := by
   rcases hu with ⟨h, _⟩ | ⟨i, h1, h2, rfl⟩
   · exact h
   omega
  have eg : tG d bl id = (6, []) := by
   unfold tG
   rw [List.find?_eq_none.2 (fun x hx => by simp; intro e; exact hno (List.mem_map.2 ⟨x, hx, e⟩))]
  rw [eg]
  refine jS (jR ?_)
  refine Ops.r (v := .string (qF [])) (Run.asg rfl) rfl ?_
  refine jz 6 (jO (jN (jv2 4 5 ?_)))
  refine jT ?_
  refine qQ (bX rfl rfl ?_)
  exact ⟨rfl, Frm.refl _ _, jp⟩
 obtain ⟨i, hi, hie, rfl⟩ : ∃ i, i < bl.length ∧ (bl.getD i rb0).1 = id ∧ u = ((i : Nat) : Int) := by
  rcases hu with ⟨_, rfl⟩ | h
  · omega
  exact h
 obtain ⟨x, hx⟩ : ∃ x, x = bl.getD i rb0 := ⟨_, rfl⟩
 have hm : x ∈ bl := hx ▸ uD hi
 rw [← hx] at hie
 obtain ⟨bd, hA, hcA⟩ := uA hY.rd.1 rfl hi x hx
 have hf : bl.find? (fun z => decide (z.1 = id)) = some x := by
  cases hq : bl.find? (fun z => decide (z.1 = id)) with
  | none => exact absurd (List.find?_eq_none.1 hq x hm) (by simp [hie])
  | some z =>
   have h1 := zhc hq
   have h2 := zfd hq
   simp at h1
   rw [qYn hnd h2 hm (h1.trans hie.symm)]
 have eg : tG d bl id = if d.off then (10, []) else if crcM ((x.2.2.1.2.2.flatMap fun p => (d.sec (42 + p)).drop 2).take x.2.1.length) = x.2.2.2 then (0, (x.2.2.1.2.2.flatMap fun p => (d.sec (42 + p)).drop 2).take x.2.1.length) else (9, []) := by unfold tG; rw [hf]
 have hle := hle x hm
 have hel := hY.el x hm
 clear hf hx
 obtain ⟨xi, xS, ⟨xA, xc, xp⟩, xs⟩ := x
 dsimp only at hie hle eg
 have hpg := hel.pg
 have hpl := hel.pl
 have hpn := hel.pn
 have hsl := hel.Sl
 dsimp only at hpg hpl hpn hsl
 have hYV : ∀ V, Frm [] w V → Blk V y 121 #[jI0 gm, .slice (some bd) bl.length q.c, .slice q.dA dir.length q.dc] := fun V hV => by rw [← hA]; exact hY.blk.frm hV jp
 refine jQ (jN (jv2 0 6 ?_))
 refine jS (jS (jR (jm rfl (jZ rfl (jf rfl zay rfl zgx (jl rfl Tryz.isAgg49 (hY.blk.cell 0) (jZ rfl (jf rfl zaf rfl zat (jl rfl zcr (hbD.cell 3) (jO (jN (jv3 0 6 22 ?_))))))))))))
 refine VC.condB rfl (fun hc2 => ?_) (fun hc2 => ?_)
 ·
  rw [eg, if_pos hc2]
  refine jS (jR ?_)
  refine Ops.r (v := .string (qF [])) (Run.asg rfl) rfl ?_
  refine jz 10 (jO (jN (jv2 4 5 ?_)))
  refine jT ?_
  refine qQ (bX rfl rfl ?_)
  exact ⟨rfl, Frm.refl _ _, jp⟩
 have hoff : d.off = false := by simpa using hc2
 rw [eg, hoff]
 obtain ⟨G, hG⟩ : ∃ G : Nat → List Nat, G = fun p => (d.sec (42 + p)).drop 2 := ⟨_, rfl⟩
 have hGl : ∀ p, p < d.has.length - 42 → (G p).length = 126 ∧ ∀ b ∈ G p, b < 256 := fun p hp => by
  have h1 := hok.secAt (jo : 42 + p < d.has.length)
  rw [hG]
  exact ⟨by dsimp only; rw [zq]; omega, fun b hb => h1.2 b (zau hb)⟩
 have hGa : ∀ k, k ≤ xp.length → ((xp.take k).flatMap G).length = 126 * k := fun k hk => by
  have : ∀ l : List Nat, (∀ p ∈ l, p < d.has.length - 42) → (l.flatMap G).length = 126 * l.length := fun l => by
   induction l with
   | nil => intro _; rfl
   | cons a r ih => intro h; rw [zaw, zf, (hGl a (h a jp)).1, ih (fun p hp => h p (by simp [hp])), zad]; omega
  rw [this _ (fun p hp => hpl p (zo hp)), zk, zbh hk]
 rw [show (fun p => (d.sec (42 + p)).drop 2) = G from hG.symm]
 rw [if_neg jp]
 refine jQ (jN (jv2 0 6 ?_))
 refine jS (jR ?_)
 refine Ops.r (v := .string (qF [])) (Run.asg rfl) rfl ?_
 refine jO (jN (jS (jS (jR (jz 0 (jO (jN (jB ?_))))))))
 refine VC.loop (σ := Nat) (fun s => [(0, jI0 y), (6, jI1 i), (7, .string (qF ((xp.take s).flatMap G))), (8, jI1 s)]) (fun s wr => s ≤ xp.length ∧ w = wr) (fun s => xp.length - s) 0 (js4 rfl rfl (by rfl) rfl) ⟨zj _, rfl⟩ ?_
 rintro k _ ⟨hk, rfl⟩
 have hGk := hGa k hk
 refine jS (jS (jR (jm rfl (jm rfl (jZ rfl (jf rfl zay rfl zco (jl rfl zdo (hY.blk.cell 1) ?_)))))))
 rw [hA]
 refine jm rfl (je (Run.indexS _ rfl rfl zao zbf jo) (jf rfl zal rfl zax (jl rfl zbx (hcA _ (Frm.refl _ _) 2 _ rfl) ?_)))
 rw [show lqV (xA, xc, xp) = .slice xA xp.length xc from rfl]
 refine jL rfl zn (jb rfl rfl (Bin.lssN _ _) (jO (jN (jv5 0 6 7 8 33 ?_))))
 refine jD rfl (fun hc3 => ?_) fun hc3 => ?_
 ·
  obtain ⟨ad, hB, hcB⟩ := rdZ hpg.1 rfl hc3
  have hpk := hpl _ (bG hc3)
  have hsn : (xp.take (k + 1)).flatMap G = (xp.take k).flatMap G ++ G (xp.getD k 0) := by rw [jI hc3, zan]; simp
  generalize xp.getD k 0 = p at hcB hpk hsn
  have hGp := hGl p hpk
  have hsc := hok.secAt (jo : 42 + p < d.has.length)
  refine jQ (jN (jv4 0 6 7 8 ?_))
  refine jS (jB (jS (jR (jm rfl (jm rfl (jZ rfl (jf rfl zay rfl zco (jl rfl zdo (hY.blk.cell 1) ?_))))))))
  rw [hA]
  refine jm rfl (je (Run.indexS _ rfl rfl zao zbf jo) (jf rfl zal rfl zax (jl rfl zbx (hcA _ (Frm.refl _ _) 2 _ rfl) ?_)))
  rw [show lqV (xA, xc, xp) = .slice xA xp.length xc from rfl, hB]
  refine jm rfl (je (Run.index1 _ rfl rfl zn zm jo) (jl rfl zaa hcB ?_))
  refine jc0 (jE2 Tryz.call75) (tH p y gm F d bl dir q w hY hpk) ?_
  rw [show (d.read (42 + p)).2 = d.sec (42 + p) by unfold Dk.read; rw [if_neg jo, if_neg (by simp [hoff])]]
  refine jm rfl (jY rfl rfl (jY rfl rfl (ja rfl (ja rfl (jO (jN (jv5 0 6 7 8 9 ?_)))))))
  refine jR (jm rfl (jm rfl (je (Run.sliceO 2 128 rfl zt (evB.some_ rfl) (by rw [hsc.1]; exact evB.none_) jo jo) ?_)))
  rw [zh (jo : (d.sec (42 + p)).length ≤ 128), show (d.sec (42 + p)).drop 2 = G p by rw [hG]]
  refine je (Run.addO rfl rfl (by rw [hGp.1, hGk]; omega)) ?_
  rw [← hsn]
  refine ja rfl (jO ?_)
  refine qH (jN ?_)
  refine jv4 0 6 7 8 ?_
  refine jR (jm rfl (jb rfl rfl (Bin.add_i64 _ 1 jo) (ja rfl (jO ?_))))
  refine jN ⟨k + 1, (js4 rfl rfl rfl rfl), ?_, ?_⟩
  · exact ⟨hc3, rfl⟩
  exact jq
 obtain rfl : k = xp.length := jo
 rw [zbw] at hGk ⊢
 obtain ⟨O, hO⟩ : ∃ O, O = (xp.flatMap G).take xS.length := ⟨_, rfl⟩
 have hOl : O.length = xS.length := by rw [hO, zk]; omega
 have hOB : ∀ b ∈ O, b < 256 := fun b hb => by
  rw [hO] at hb
  obtain ⟨p, hp, hb⟩ := List.mem_flatMap.1 (zo hb)
  exact (hGl p (hpl p hp)).2 b hb
 rw [← hO]
 refine jX ?_
 refine qZ (qZ (qN ?_))
 refine jN (jv3 0 6 7 ?_)
 refine jS (jR (jm rfl (jm rfl (jZ rfl (jf rfl zay rfl zco (jl rfl zdo (hY.blk.cell 1) ?_))))))
 rw [hA]
 refine jm rfl (je (Run.indexS _ rfl rfl zao zbf jo) (jf rfl zal rfl zbm (jl rfl zde (hcA _ (Frm.refl _ _) 1 _ rfl) (je (Run.lenO rfl zt) (je (Run.sliceO 0 xS.length rfl zt evB.none_ (evB.some_ rfl) jo jo) ?_)))))
 rw [zbz, ← hO]
 refine ja rfl (jO (jN (jv3 0 6 7 ?_)))
 refine jS (jS ?_)
 refine VC.held (fun V => Frm [] w V) jK ?_
 have hS : Frm [] w w.drew := (Frm.refl _ _).drew
 refine jh 0 hS ?_
 refine jh 3 hS ?_
 refine jH 4 rfl hS (fun w0 hw0 => Run.nilck rfl) ?_
 refine jH 5 rfl hS (fun w0 hw0 => Run.fieldAddr rfl zay rfl zco jd) ?_
 refine jH 6 rfl hS (fun w0 hw0 => Run.load rfl zdo ((hYV _ hw0).cell 1)) ?_
 refine jh 7 hS ?_
 refine jH 8 rfl hS (fun w0 hw0 => Run.indexS _ rfl rfl zao zbf jo) ?_
 refine jH 9 rfl hS (fun w0 hw0 => Run.fieldAddr rfl zal rfl zgb jd) ?_
 refine jH 10 rfl hS (fun w0 hw0 => Run.load rfl Tryz.isAgg109 (hcA _ hw0 3 _ rfl)) ?_
 refine qJ.m 1 rfl jK (qV.octO rfl zt zg zac hOB) trivial rfl rfl ?_
 rintro _ w8 ⟨CB, cc, rfl, hrC, hf8, hupC⟩
 refine ⟨hS.trans hf8 jp, ?_⟩
 have hS := hS.trans hf8 jp
 refine qJ.cl 2 rfl jK (jE1 Tryz.call61) (nG CB cc _ O _ rfl jo hOB hrC) trivial rfl rfl ?_
 rintro e _ ⟨rfl, rfl⟩
 refine ⟨_, rfl, hS, ?_⟩
 have hc32 := kW O
 refine jH 11 rfl hS (fun w0 hw0 => Run.bin rfl rfl (Bin.neqN _ _)) ?_
 refine qJ.done jK ?_
 refine jN (jv2 7 78 ?_)
 refine jD rfl (fun hc4 => ?_) fun hc4 => ?_
 ·
  rw [if_neg hc4]
  refine jS (jR ?_)
  refine Ops.r (v := .string (qF [])) (Run.asg rfl) rfl ?_
  refine jz 9 (jO (jN (jv2 4 5 ?_)))
  refine jT ?_
  refine qQ (bX rfl rfl ?_)
  exact ⟨rfl, hS, jp⟩
 rw [if_pos (Classical.not_not.1 hc4)]
 refine jQ (jN (jv1 7 ?_))
 refine jS (jR (jm rfl (ja rfl (jz 0 (jO (jN (jv2 4 5 ?_)))))))
 refine jT ?_
 refine bX rfl rfl ?_
 exact ⟨rfl, hS, hOB⟩
def xW (lies B : Nat → List Nat) (x : Pr) : Prop := x.2 = atP (lies x.1) + (B x.1).length * 65536 + x.2 / 4294967296 * 4294967296 ∧ (lies x.1).length = qI (B x.1).length ∧ (B x.1).length ≤ 4032 ∧ ∀ b ∈ B x.1, b < 256
structure InvS (H : Hm) (B : Nat → List Nat) : Prop where
 ok : H.ok
 dnod : H.dir.Nodup
 lnod : ∀ x ∈ H.pairs, (H.lies x.1).Nodup
 dl : ∀ x ∈ H.pairs, ∀ p ∈ H.lies x.1, p ∉ H.dir
 ll : ∀ x ∈ H.pairs, ∀ y ∈ H.pairs, x.1 ≠ y.1 → ∀ p ∈ H.lies x.1, p ∉ H.lies y.1
 used : ∀ p, p < H.N → H.used p = decide (p ∈ bH H)
 blob : ∀ x ∈ H.pairs, xW H.lies B x
theorem qMf {lies B : Nat → List Nat} {id : Nat} {D pg : List Nat} (h1 : lies id = pg) (h2 : B id = D) (hl : pg.length = qI D.length) (hD : D.length ≤ 4032) (hb : ∀ b ∈ D, b < 256) (hp : ∀ p ∈ pg, p < 2048) : xW lies B (cE id D pg) := by
 have h3 := (jE id D pg hD hp).2.1
 refine ⟨?_, ?_, ?_, ?_⟩ <;> dsimp only [cE] at h3 ⊢ <;> rw [h2]
 · rw [h1, h3]
 · rw [h1]; exact hl
 · exact hD
 exact hb
theorem pZ : ∀ (L : List Stp) (d : Dk), (qL d L).2.wts.length ≤ d.wts.length + L.length
 | [], d => zag _
 | s :: r, d => by
  have h1 := Stp.run_wts d s
  rw [qL]
  split
  · rw [zad]; omega
  have h2 := pZ r (s.run d).2
  rw [zad]; omega
theorem rU (d : Dk) (l : List Pu) (h : l.length ≤ 40) : (bK d l).2.wts.length ≤ d.wts.length + 86 := by
 unfold bK
 split
 · exact zdz _ _
 have h1 := pZ (bO l) d
 rw [rV] at h1
 omega
theorem uI {H : Hm} {B : Nat → List Nat} {l : List Ch} (h : InvS H B) (hm : cV l) (hb : ∀ c ∈ l, c.1 < 18446744073709551616 ∧ ∀ b ∈ c.2.1, b < 256) (hp : dQ H l ≤ 600) (hn : bZ H l ≤ 39) (hf : bZ H l ≤ H.N - dW H.N H.used) :
  cH (bM H l).puts H.dk.has.length ∧ tX (bM H l).puts ∧ (bM H l).dir.length = cK (bM H l).pairs.length ∧ (∀ x ∈ (bM H l).pairs, xW (bM H l).lies (dZ B l) x) ∧ ∀ dk' : Dk, dk'.has.length = H.dk.has.length → dk'.wts.length ≤ 100000 → (H.plan dk' (bM H l)).ok ∧ (∃ U, bN H.N (fun _ => false) (bH (H.plan dk' (bM H l))) = some U) ∧ InvS (H.plan dk' (bM H l)).count (dZ B l) := by
 obtain ⟨fr, hfr⟩ : ∃ fr, fr = (bT H.N H.used).take (bZ H l) := ⟨_, rfl⟩
 obtain ⟨D, hD⟩ : ∃ D, D = qO H l fr := ⟨_, rfl⟩
 have hP : bM H l = qD D := by rw [hD, hfr]; rfl
 rw [hP]
 have hsz := h.ok.sz
 have hbg := h.ok.big
 have hNe : H.N = H.dk.has.length - 42 := rfl
 have gz : gS l := fun x hx hg => (hm.2 x hx).2 hg
 have hcl := oW H.N H.used
 have hfl : fr.length = bZ H l := by rw [hfr, zk, gL]; omega
 have hrn : D.pairs.length = dQ H l := by rw [hD]; exact tJ _ _ _ _
 have htl : (bQ D.pairs).length = cK (dQ H l) := by rw [fH, hrn]
 have hbe : bZ H l = sumN l + (bQ D.pairs).length := by unfold bZ eJ; rw [if_pos hp, htl]
 obtain ⟨f1, f2, f3, f4, f5⟩ := nT l ⟨[], H.pairs, fr, H.lies⟩ hm.1 gz (by dsimp only; omega)
 rw [show l.foldl bV ⟨[], H.pairs, fr, H.lies⟩ = D from hD.symm] at f1 f2 f3 f4 f5
 dsimp only at f1 f2 f3 f4 f5
 rw [zbu] at f1
 have hnp := nK l fr gz jo
 have hnl := rQ l fr gz jo
 have hdir : (qD D).dir = fr.drop (sumN l) := by
  unfold qD
  dsimp only
  rw [f2, zh (by rw [zq]; omega)]
 have hdl : (qD D).dir.length = (bQ D.pairs).length := by rw [hdir, zq]; omega
 have frn : fr.Nodup := by rw [hfr]; exact ((List.nodup_range).sublist zer).sublist (zhr _ _)
 have frf : ∀ p ∈ fr, p < H.N ∧ p ∉ bH H := fun p hp => by
  rw [hfr] at hp
  obtain ⟨h1, h2⟩ := List.mem_filter.1 (zo hp)
  have h1 := List.mem_range.1 h1
  refine ⟨h1, fun hw => ?_⟩
  rw [h.used p h1, decide_eq_true hw] at h2
  cases h2
 have hnod : (fr.take (sumN l) ++ fr.drop (sumN l)).Nodup := by rw [zbq]; exact frn
 obtain ⟨tn1, tn2, tn3⟩ := zga.1 hnod
 rw [← hnp] at tn1 tn3
 obtain ⟨en1, en2⟩ := uB tn1
 have enf : ∀ e ∈ cJ l fr, ∀ p ∈ e.2.2, p ∈ fr ∧ p ∉ fr.drop (sumN l) := fun e he p hp => by
  have hpt : p ∈ (cJ l fr).flatMap (·.2.2) := List.mem_flatMap.2 ⟨e, he, hp⟩
  refine ⟨?_, fun hd => tn3 p hpt p hd rfl⟩
  rw [hnp] at hpt
  exact zo hpt
 have hpairs : (qD D).pairs = D.pairs := rfl
 have hlies : (qD D).lies = D.lies := rfl
 have cls : ∀ x ∈ D.pairs, (x ∈ H.pairs ∧ D.lies x.1 = H.lies x.1 ∧ dZ B l x.1 = B x.1) ∨ ∃ e ∈ cJ l fr, x = cE e.1 e.2.1 e.2.2 ∧ x.1 = e.1 ∧ D.lies x.1 = e.2.2 ∧ dZ B l x.1 = e.2.1 ∧ e.2.1.length ≤ 4032 ∧ (∀ b ∈ e.2.1, b < 256) ∧ e.1 < 18446744073709551616 := fun x hx => by
  rcases (f3 x).1 hx with ⟨h1, h2⟩ | ⟨e, he, rfl⟩
  · exact .inl ⟨h1, f4 _ h2, xX h2⟩
  obtain ⟨c, hc, hg, e1, e2⟩ := nS he
  refine .inr ⟨e, he, rfl, rfl, f5 e he, ?_, ?_, ?_, ?_⟩
  ·
   show dZ B l e.1 = e.2.1
   rw [← e1, xQ hm.1 hc hg, e2]
  · rw [← e2]; exact (hm.2 c hc).1
  · rw [← e2]; exact (hb c hc).2
  rw [← e1]; exact (hb c hc).1
 have wold : ∀ x ∈ H.pairs, ∀ p ∈ H.lies x.1, p ∈ bH H := fun x hx p hp => (lN H p).2 (.inr ⟨x, hx, hp⟩)
 have elt : ∀ e ∈ cJ l fr, ∀ p ∈ e.2.2, p < 2048 := fun e he p hp => by have := (frf p (enf e he p hp).1).1; omega
 have hpos : (qD D).puts.map (·.1) = fr.map (42 + ·) ++ [41] := by
  have e1 : (qD D).puts = D.puts ++ dX (qD D).dir (bQ D.pairs) (qD D).dir.length ++ [(41, bR (qD D).dir)] := by rw [hdl]; rfl
  rw [e1, zv, zv, f1, uU, hnp, qKh, hdir, ← zv, zbq]
  rfl
 have hplen : (qD D).puts.length = bZ H l + 1 := by
  have := congrArg List.length hpos
  rw [zae, zf, zae, zck, hfl] at this
  exact this
 have hokp : tX (qD D).puts := by
  have e1 : (qD D).puts = D.puts ++ dX (qD D).dir (bQ D.pairs) (qD D).dir.length ++ [(41, bR (qD D).dir)] := by rw [hdl]; rfl
  rw [e1]
  refine oI (oI ?_ ?_) ?_
  ·
   rw [f1]
   intro x hx
   obtain ⟨e, he, hx⟩ := List.mem_flatMap.1 hx
   obtain ⟨c, hc, hg, e1, e2⟩ := nS he
   exact tZ (by rw [← e2]; exact (hb c hc).2) (elt e he) x hx
  ·
   intro x hx
   obtain ⟨i, hi, rfl⟩ := List.mem_map.1 hx
   have hi := List.mem_range.1 hi
   have h1 := (frf ((qD D).dir.getD i 0) (by have := bG hi; rw [hdir] at this ⊢; exact zau this)).1
   have h2 := mB D.pairs ((bQ D.pairs).getD i []) (by rw [zb, ze jo]; exact zbp _)
   exact ⟨by dsimp only; omega, h2.1, h2.2⟩
  intro x hx
  rw [za] at hx
  subst hx
  exact ⟨by dsimp only; omega, fM (by rw [eE]; omega), fL (lH _)⟩
 have hmay : cH (qD D).puts H.dk.has.length := by
  refine ⟨jo, fun x hx => ?_, ?_⟩
  ·
   have hx1 : x.1 ∈ fr.map (42 + ·) ++ [41] := by rw [← hpos]; exact List.mem_map.2 ⟨x, hx, rfl⟩
   refine ⟨?_, (hokp x hx).2.1⟩
   rcases zcp.1 hx1 with h1 | h1
   ·
    obtain ⟨p, hp, he⟩ := List.mem_map.1 h1
    have := (frf p hp).1
    omega
   rw [za] at h1; omega
  rw [hpos, zga]
  refine ⟨?_, jp, fun a ha b hb e => ?_⟩
  ·
   rw [zev, zhs]
   exact (zev.1 frn).imp fun hne e => hne jo
  obtain ⟨p, _, he⟩ := List.mem_map.1 ha
  rw [za] at hb
  omega
 have hblob : ∀ x ∈ D.pairs, xW D.lies (dZ B l) x := fun x hx => by
  rcases cls x hx with ⟨h1, h2, h3⟩ | ⟨e, he, ex, e1, e2, e3, e4, e5, e6⟩
  ·
   have hb1 := h.blob x h1
   unfold xW at hb1 ⊢
   rw [h2, h3]
   exact hb1
  rw [ex] at e2 e3 ⊢
  exact qMf e2 e3 (hnl e he) e4 e5 (elt e he)
 refine ⟨hmay, hokp, by rw [hdl, htl, hpairs, hrn], hblob, fun dk' hclen hwts => ?_⟩
 have hN : (H.plan dk' (qD D)).N = H.N := by unfold Hm.N Hm.plan; dsimp only; rw [hclen]
 have hok : (H.plan dk' (qD D)).ok := by
  refine ⟨by rw [show (H.plan dk' (qD D)).pairs = D.pairs from rfl, hD]; exact zJ h.ok.srt l fr, fun x hx => ?_, by show D.pairs.length ≤ 600; omega, by show 44 ≤ dk'.has.length; omega, by show dk'.has.length ≤ 2048; omega, hwts, by show (qD D).dir.length ≤ 600; omega, fun p hp => ?_, fun x hx => ?_⟩
  ·
   rcases cls x hx with ⟨h1, _⟩ | ⟨e, he, rfl, _, _, _, e4, _, e6⟩
   · exact h.ok.okp x h1
   exact ⟨e6, (jE e.1 e.2.1 e.2.2 e4 (elt e he)).2.2⟩
  ·
   rw [hN]
   exact (frf p (by have hp' : p ∈ (qD D).dir := hp; rw [hdir] at hp'; exact zau hp')).1
  rw [hN]
  show (∀ p ∈ D.lies x.1, p < H.N) ∧ (D.lies x.1).length ≤ 600 ∧ cN x ≤ 126 * (D.lies x.1).length
  rcases cls x hx with ⟨h1, h2, _⟩ | ⟨e, he, rfl, _, e2, _, e4, _, e6⟩
  · rw [h2]; exact h.ok.pg x h1
  rw [e2]
  have h3 := hnl e he
  have h4 := (jE e.1 e.2.1 e.2.2 e4 (elt e he)).1
  refine ⟨fun p hp => (frf p (enf e he p hp).1).1, ?_, ?_⟩
  · rw [h3]; unfold qI; omega
  rw [h4, h3]; unfold qI; omega
 have g1 : (qD D).dir.Nodup := by rw [hdir]; exact tn2
 have g2 : ∀ x ∈ D.pairs, (D.lies x.1).Nodup := fun x hx => by
  rcases cls x hx with ⟨h1, h2, _⟩ | ⟨e, he, rfl, _, e2, _⟩
  · rw [h2]; exact h.lnod x h1
  rw [e2]; exact en1 e he
 have g3 : ∀ x ∈ D.pairs, ∀ p ∈ D.lies x.1, p ∉ (qD D).dir := fun x hx p hp => by
  rw [hdir]
  rcases cls x hx with ⟨h1, h2, _⟩ | ⟨e, he, rfl, _, e2, _⟩
  ·
   rw [h2] at hp
   exact fun hd => (frf p (zau hd)).2 (wold x h1 p hp)
  rw [e2] at hp
  exact (enf e he p hp).2
 have g4 : ∀ x ∈ D.pairs, ∀ y ∈ D.pairs, x.1 ≠ y.1 → ∀ p ∈ D.lies x.1, p ∉ D.lies y.1 := fun x hx y hy hne p hp hp' => by
  rcases cls x hx with ⟨h1, h2, _⟩ | ⟨e, he, _, e1, e2, _⟩
  ·
   rw [h2] at hp
   rcases cls y hy with ⟨k1, k2, _⟩ | ⟨e', he', _, e1', e2', _⟩
   · rw [k2] at hp'; exact h.ll x h1 y k1 hne p hp hp'
   rw [e2'] at hp'; exact (frf p (enf e' he' p hp').1).2 (wold x h1 p hp)
  rw [e2] at hp
  rcases cls y hy with ⟨k1, k2, _⟩ | ⟨e', he', _, e1', e2', _⟩
  · rw [k2] at hp'; exact (frf p (enf e he p hp).1).2 (wold y k1 p hp')
  rw [e2'] at hp'
  exact en2 e he e' he' (by rw [← e1, ← e1']; exact hne) p hp hp'
 have hwn : (bH (H.plan dk' (qD D))).Nodup := rN hok.srt g1 g2 g3 g4
 have hwl : ∀ p ∈ bH (H.plan dk' (qD D)), p < H.N := fun p hp => by
  rw [← hN]
  rcases (lN _ p).1 hp with h1 | ⟨x, hx, h1⟩
  · exact hok.dirp p h1
  exact (hok.pg x hx).1 p h1
 obtain ⟨U, hU, hUp⟩ := pL H.N (bH (H.plan dk' (qD D))) (fun _ => false) hwl hwn (fun _ _ => rfl)
 refine ⟨hok, ⟨U, hU⟩, ⟨hok.srt, hok.okp, hok.n600, hok.sz, hok.big, hok.wts, hok.d59, hok.dirp, hok.pg⟩, g1, g2, g3, g4, fun p hp => ?_, hblob⟩
 show ((bN (H.plan dk' (qD D)).N (fun _ => false) (bH (H.plan dk' (qD D)))).getD (fun _ => false)) p = decide (p ∈ bH (H.plan dk' (qD D)))
 rw [hN, hU]
 show U p = _
 rw [hUp p, Bool.false_or]
theorem qZs {H : Hm} {B : Nat → List Nat} {l : List Ch} (h : InvS H B) (hb : ∀ c ∈ l, c.1 < 18446744073709551616 ∧ ∀ b ∈ c.2.1, b < 256) (hw : H.dk.wts.length ≤ 99000) :
  mJ H l ∧ (qB H l).2.ok ∧ InvS (qB H l).2 (if (qB H l).1 = 0 then dZ B l else B) ∧ (qB H l).2.dk.has.length = H.dk.has.length ∧ (qB H l).2.dk.wts.length ≤ H.dk.wts.length + 86 := by
 have hmk : mJ H l := fun hm _ hp hn hf _ => by
  obtain ⟨s1, _, _, _, s2⟩ := uI h hm hb hp hn hf
  have h1 := rU H.dk (bM H l).puts s1.1.2
  obtain ⟨t1, t2, t3⟩ := s2 (bK H.dk (bM H l).puts).2 (eK _ _) jo
  exact ⟨t1, eK _ _, t2⟩
 refine ⟨hmk, ?_⟩
 unfold qB
 by_cases hm : cV l
 ·
  rw [if_neg (not_not_intro hm)]
  by_cases hg : GoneOk H l
  ·
   rw [if_neg (not_not_intro hg)]
   by_cases hn : 600 < dQ H l ∨ 40 < bZ H l + 1
   · rw [if_pos hn]; exact ⟨h.ok, h, rfl, zdz _ _⟩
   rw [if_neg hn]
   by_cases hf : H.N - dW H.N H.used < bZ H l
   · rw [if_pos hf]; exact ⟨h.ok, h, rfl, zdz _ _⟩
   rw [if_neg hf]
   obtain ⟨s1, _, _, _, s2⟩ := uI h hm hb jo jo jo
   have h1 := rU H.dk (bM H l).puts s1.1.2
   have h2 := eK H.dk (bM H l).puts
   by_cases hc : (bK H.dk (bM H l).puts).1 = 0
   ·
    rw [if_neg (not_not_intro hc)]
    obtain ⟨t1, t2, t3⟩ := s2 (bK H.dk (bM H l).puts).2 h2 jo
    exact ⟨t3.ok, t3, h2, h1⟩
   rw [if_pos hc]
   dsimp only
   rw [if_neg hc]
   generalize (bK H.dk (bM H l).puts).2 = dk' at *
   have hN : ({ H with dk := dk' } : Hm).N = H.N := by unfold Hm.N; dsimp only; rw [h2]
   have hok : ({ H with dk := dk' } : Hm).ok := ⟨h.ok.srt, h.ok.okp, h.ok.n600, by dsimp only; rw [h2]; exact h.ok.sz, by dsimp only; rw [h2]; exact h.ok.big, by dsimp only; omega, h.ok.d59, fun p hp => by rw [hN]; exact h.ok.dirp p hp, fun x hx => by rw [hN]; exact h.ok.pg x hx⟩
   exact ⟨hok, ⟨hok, h.dnod, h.lnod, h.dl, h.ll, fun p hp => h.used p (by rw [hN] at hp; exact hp), h.blob⟩, h2, h1⟩
  rw [if_pos hg]; exact ⟨h.ok, h, rfl, zdz _ _⟩
 rw [if_pos hm]; exact ⟨h.ok, h, rfl, zdz _ _⟩
def rbv (x : Rb) : Nat × List Nat × List Nat × Nat := (x.1, x.2.1, x.2.2.1.2.2, x.2.2.2)
def bE (P : List Pr) (lies B : Nat → List Nat) (bl : List Rb) : Prop := bl.map rbv = P.map fun x => (x.1, B x.1, lies x.1, x.2 / 4294967296)
section
variable {P Q : List Pr} {lies B lies' B' : Nat → List Nat} {bl cl : List Rb}
theorem bE.len (h : bE P lies B bl) : bl.length = P.length := by have := congrArg List.length h; simpa using this
theorem bE.ids (h : bE P lies B bl) : bl.map (·.1) = P.map (·.1) := by
 have := congrArg (List.map (·.1)) h
 rw [zeh, zeh] at this
 exact this
theorem bE.app (h : bE P lies B bl) (k : bE Q lies B cl) : bE (P ++ Q) lies B (bl ++ cl) := by unfold bE at *; rw [zv, zv, h, k]
theorem bE.congr (h : bE P lies B bl) (e : ∀ x ∈ P, lies x.1 = lies' x.1 ∧ B x.1 = B' x.1) : bE P lies' B' bl := by
 unfold bE at *
 rw [h]
 refine zfm fun x hx => ?_
 rw [(e x hx).1, (e x hx).2]
theorem bE.filter (h : bE P lies B bl) (f : Nat → Bool) : bE (P.filter fun x => f x.1) lies B (bl.filter fun x => f x.1) := by
 unfold bE at *
 have h1 := congrArg (List.filter fun v => f v.1) h
 rw [List.filter_map, List.filter_map] at h1
 exact h1
theorem bE.pgs (h : bE P lies B bl) : pgs bl = P.flatMap fun x => lies x.1 := by
 have h1 := congrArg (List.flatMap fun v => v.2.2.1) h
 rw [List.flatMap_map, List.flatMap_map] at h1
 exact h1
theorem bE.mem (h : bE P lies B bl) {x : Rb} (hx : x ∈ bl) : ∃ z ∈ P, rbv x = (z.1, B z.1, lies z.1, z.2 / 4294967296) := by
 have h1 : rbv x ∈ P.map fun x => (x.1, B x.1, lies x.1, x.2 / 4294967296) := h ▸ List.mem_map.2 ⟨x, hx, rfl⟩
 obtain ⟨z, hz, he⟩ := List.mem_map.1 h1
 exact ⟨z, hz, he.symm⟩
def rZ (x : Rb) : Pr := (x.1, atP x.2.2.1.2.2 + x.2.1.length * 65536 + x.2.2.2 * 4294967296)
theorem bE.pairs : ∀ {P : List Pr} {bl : List Rb}, bE P lies B bl → (∀ x ∈ P, xW lies B x) → bl.map rZ = P
 | [], [], _, _ => rfl
 | [], _ :: _, h, _ => by simp [bE] at h
 | _ :: _, [], h, _ => by simp [bE] at h
 | z :: P, x :: bl, h, hp => by
  unfold bE at h
  rw [zbo, zbo] at h
  injection h with h1 h2
  rw [zbo, bE.pairs (P := P) (bl := bl) h2 (fun x hx => hp x (by simp [hx]))]
  congr 1
  have h3 := (hp z jp).1
  unfold rbv at h1
  injection h1 with e1 h1
  injection h1 with e2 h1
  injection h1 with e3 e4
  unfold rZ
  rw [e1, e2, e3, e4, ← h3]
theorem qM7 {P : List Pr} (h : Srt P) (id : Nat) : P.filter (fun x => decide (x.1 ≠ id)) = cX P id ++ bU P id := by
 conv => lhs; rw [jJ h id]
 rw [zcy, zcy]
 have e1 : (cX P id).filter (fun x => decide (x.1 ≠ id)) = cX P id := List.filter_eq_self.2 fun x hx => by
  have := (List.mem_filter.1 hx).2; simp at this ⊢; omega
 have e2 : (eqP P id).filter (fun x => decide (x.1 ≠ id)) = [] := List.filter_eq_nil_iff.2 fun x hx => by
  have := (List.mem_filter.1 hx).2; simp at this ⊢; exact this
 have e3 : (bU P id).filter (fun x => decide (x.1 ≠ id)) = bU P id := List.filter_eq_self.2 fun x hx => by
  have := (List.mem_filter.1 hx).2; simp at this ⊢; omega
 rw [e1, e2, e3]; rfl
def cO (bl : List Rb) (id : Nat) : List Rb := bl.filter fun x => decide (x.1 ≠ id)
theorem qG6 (bl : List Rb) (id : Nat) : gX (cO bl id) id = gX bl id := by
 unfold gX cO
 rw [zfc]
 refine zep fun x _ => ?_
 by_cases h : x.1 < id
 · simp [h]; omega
 simp [h]
theorem qYp (bl : List Rb) (id : Nat) : mV (cO bl id) id = mV bl id := by
 unfold mV cO
 rw [zfc]
 refine zep fun x _ => ?_
 by_cases h : id < x.1
 · simp [h]; omega
 simp [h]
theorem qVw (l : List Rb) (x : Rb) (id : Nat) : cO (l ++ [x]) id = cO l id ++ if x.1 ≠ id then [x] else [] := by
 unfold cO; rw [zcy]; congr 1
 by_cases h : x.1 = id <;> simp [h]
def mI (B : Nat → List Nat) (c : Ch) : Nat → List Nat := if c.2.2 then B else fun y => if y = c.1 then c.2.1 else B y
def pJ (B : Nat → List Nat) (l : List Ch) : Nat → List Nat := l.foldl mI B
theorem qYq (B : Nat → List Nat) (l : List Ch) (c : Ch) : pJ B (l ++ [c]) = mI (pJ B l) c := by unfold pJ; rw [zfx]; rfl
theorem qKn : ∀ (l : List Ch) (B : Nat → List Nat), (l.map (·.1)).Nodup → ∀ y, pJ B l y = dZ B l y
 | [], B, _, y => rfl
 | c :: r, B, hn, y => by
  rw [zbo, zft] at hn
  show pJ (mI B c) r y = _
  rw [qKn r _ hn.2 y]
  by_cases hy : y = c.1
  ·
   subst hy
   rw [xX hn.1]
   unfold dZ mI
   by_cases hg : c.2.2 = true
   ·
    rw [if_pos hg, List.find?_cons_of_neg (by simp [hg])]
    have : r.find? (fun d => decide (d.1 = c.1) && ! d.2.2) = none := List.find?_eq_none.2 fun d hd => by
     simp only [zfp, decide_eq_true_eq, not_and]
     intro e
     exact absurd (List.mem_map.2 ⟨d, hd, e⟩) hn.1
    rw [this]
   rw [if_neg hg, if_pos rfl, List.find?_cons_of_pos (by simp [hg])]
  have e1 : mI B c y = B y := by
   unfold mI
   split
   · rfl
   show (if y = c.1 then c.2.1 else B y) = B y
   rw [if_neg hy]
  unfold dZ
  rw [List.find?_cons_of_neg (by simp; intro e; exact absurd e.symm hy)]
  cases r.find? (fun d => decide (d.1 = y) && ! d.2.2) with
  | some d => rfl
  | none => exact e1
theorem bE.gone {D : Dw} {c : Ch} (hs : Srt D.pairs) (h : bE D.pairs D.lies B bl) (hg : c.2.2 = true) : bE (bV D c).pairs (bV D c).lies (mI B c) (cO bl c.1) := by
 have h1 := h.filter (fun y => decide (y ≠ c.1))
 unfold bV mI
 rw [if_pos hg, if_pos hg]
 dsimp only
 rw [qM7 hs c.1] at h1
 exact h1
theorem bE.put {D : Dw} {c : Ch} {A : Option Addr} {d : Nat} (hs : Srt D.pairs) (h : bE D.pairs D.lies B bl) (hg : c.2.2 = false) (hD : c.2.1.length ≤ 4032) (hp : ∀ p ∈ D.free, p < 2048) :
  bE (bV D c).pairs (bV D c).lies (mI B c) (pX (cO bl c.1) (c.1, c.2.1, (A, d, D.free.take (qI c.2.1.length)), crcM c.2.1)) := by
 have h1 := h.filter (fun y => decide (y < c.1))
 have h2 := h.filter (fun y => decide (c.1 < y))
 have h3 := (jE c.1 c.2.1 (D.free.take (qI c.2.1.length)) hD (fun p hp2 => hp p (zo hp2))).2.1
 unfold bV mI pX
 rw [if_neg (by simp [hg]), if_neg (by simp [hg]), qG6, qYp]
 have key : ∀ (f : Pr → Bool), (∀ x, f x = true → x.1 ≠ c.1) → ∀ x ∈ D.pairs.filter f, D.lies x.1 = (if x.1 = c.1 then D.free.take (qI c.2.1.length) else D.lies x.1) ∧ B x.1 = (if x.1 = c.1 then c.2.1 else B x.1) := fun f hf x hx => by
  have := hf x (List.mem_filter.1 hx).2
  rw [if_neg this, if_neg this]; exact ⟨rfl, rfl⟩
 refine bE.app ?_ ?_
 · exact h1.congr (key _ fun x hx => by simp at hx; omega)
 refine bE.app (P := [_]) (bl := [_]) ?_ ?_
 ·
  unfold bE
  simp only [zbo, zge, rbv]
  rw [h3, show (cE c.1 c.2.1 (D.free.take (qI c.2.1.length))).1 = c.1 from rfl, if_pos rfl, if_pos rfl]
 exact h2.congr (key _ fun x hx => by simp at hx; omega)
end
theorem qQu : ∀ (l : List Ch) (x : Dw) (n : Nat), gS l → sumN l ≤ n → (l.foldl bV { x with free := x.free.take n }) = { l.foldl bV x with free := (l.foldl bV x).free.take (n - sumN l) }
 | [], x, n, _, _ => by simp [sumN]
 | c :: r, x, n, hg, hn => by
  rw [jP] at hn
  have e : bV { x with free := x.free.take n } c = { bV x c with free := (bV x c).free.take (n - qI c.2.1.length) } := by
   unfold bV
   by_cases h : c.2.2 = true
   ·
    rw [if_pos h, if_pos h]
    have := hg c jp h
    rw [this, show qI 0 = 0 from rfl]
    rfl
   rw [if_neg h, if_neg h]
   dsimp only
   rw [zex, zbh jo, List.drop_take]
  rw [zee, zee, e, qQu r (bV x c) _ (fun x hx => hg x (by simp [hx])) jo, jP, Nat.sub_sub]
theorem qQv : ∀ (l : List Ch) (x : Dw), gS l → (l.foldl bV x).free = x.free.drop (sumN l)
 | [], x, _ => by simp [sumN]
 | c :: r, x, hg => by
  rw [zee, qQv r _ (fun x hx => hg x (by simp [hx])), jP]
  unfold bV
  by_cases h : c.2.2 = true
  · rw [if_pos h, hg c jp h, show qI 0 = 0 from rfl, zch]
  rw [if_neg h, zey]
theorem qZt (H : Hm) (l : List Ch) (FR : List Nat) (hg : gS l) : (qO H l FR).free = FR.drop (sumN l) := qQv l _ hg
theorem qYr (H : Hm) (l : List Ch) (FR : List Nat) (hg : gS l) (hp : dQ H l ≤ 600) : qD (qO H l (FR.take (bZ H l))) = qD (qO H l FR) := by
 have hT : (bQ (qO H l FR).pairs).length = cK (dQ H l) := by rw [fH]; congr 1; exact tJ H l FR []
 have hb : bZ H l = sumN l + (bQ (qO H l FR).pairs).length := by unfold bZ eJ; rw [if_pos hp, hT]
 have h1 := qQu l ⟨[], H.pairs, FR, H.lies⟩ (bZ H l) hg jo
 have h2 : qO H l (FR.take (bZ H l)) = { qO H l FR with free := (qO H l FR).free.take (bQ (qO H l FR).pairs).length } := by
  rw [show (bQ (qO H l FR).pairs).length = bZ H l - sumN l by omega]
  exact h1
 rw [h2]
 unfold qD
 dsimp only
 rw [zex, Nat.min_self]
theorem qQw {H : Hm} {B : Nat → List Nat} (h : InvS H B) {bl : List Rb} (hr : bE H.pairs H.lies B bl) : ((List.range H.N).filter fun p => decide (p ∉ H.dir ++ pgs bl)) = bT H.N H.used := by
 unfold bT
 refine zep fun p hp => ?_
 rw [h.used p (List.mem_range.1 hp), hr.pgs]
 unfold bH cF
 by_cases h : p ∈ H.dir ++ H.pairs.flatMap fun x => H.lies x.1 <;> simp [h]
structure OffR (E : List Nat) (bl : List Rb) (dl : Nat) (q : RwQ) : Prop where
 rd : 0 < bl.length → ∀ z ∈ ob q.A, z ∉ E
 dr : 0 < dl → ∀ z ∈ ob q.dA, z ∉ E
 el : ∀ x ∈ bl, 0 < x.2.2.1.2.2.length → ∀ z ∈ ob x.2.2.1.1, z ∉ E
structure BtS where
 i : Nat
 bls : List Rb
 bA : Option Addr
 bc : Nat
 PS : Option Addr
 pc : Nat
 ps : List Pq
 fA : Option Addr
 fc : Nat
structure IsBt (bl0 : List Rb) (w0 wr : World) (X : List Nat) (N : Nat) (D : Dw) (Bi : Nat → List Nat) (s : BtS) : Prop where
 K : Frm [] w0 wr
 bo : Own wr 111 4 s.bA s.bls.length s.bc (s.bls.flatMap rbC)
 bup : ∀ y ∈ ob s.bA, w0.heap.size ≤ y
 el : ∀ x ∈ s.bls, RbOk wr (X ++ ob s.PS) N x
 rel : bE D.pairs D.lies Bi s.bls
 srt : Srt D.pairs
 po : Own wr 132 2 s.PS s.ps.length s.pc (s.ps.flatMap pqC)
 pl : puL s.ps = D.puts
 pu : PuS w0.heap.size wr (X ++ ob s.PS) s.ps
 pup : ∀ y ∈ ob s.PS, w0.heap.size ≤ y
 fr : RdX wr (X ++ ob s.PS) 1 s.fA D.free.length (ZN D.free)
 fcap : D.free.length ≤ s.fc
 fl : ∀ p ∈ D.free, p < N
 pn : s.ps.length ≤ 33 * s.i
 el2 : ∀ x ∈ s.bls, x ∈ bl0 ∨ ∀ z ∈ ob x.2.2.1.1, w0.heap.size ≤ z
 fup : ∀ z ∈ ob s.fA, w0.heap.size ≤ z
theorem Fk.of0 {F : List Nat} {w w' : World} (k : Frm [] w w') : Fk F w w' F := ⟨k.mono jp, fun x hx => .inl hx⟩
theorem RbOk.mono {w : World} {X Y : List Nat} {N : Nat} {x : Rb} (h : RbOk w X N x) (hY : ∀ y ∈ Y, y ∈ X) : RbOk w Y N x := ⟨h.id, h.S, h.Sl, h.sum, h.pg.mono hY, h.pc, h.pl, h.pn⟩
section
variable {bl0 : List Rb} {w0 wr w7 : World} {X : List Nat} {N : Nat} {D : Dw} {Bi : Nat → List Nat} {s : BtS} {c : Ch}
theorem IsBt.frm (b : IsBt bl0 w0 wr X N D Bi s) (k : Frm [] wr w7) : IsBt bl0 w0 w7 X N D Bi s :=
 ⟨b.K.trans k jp, b.bo.frm k jp, b.bup, fun x hx => (b.el x hx).frm k, b.rel, b.srt, b.po.frm k jp, b.pl, b.pu.frm k, b.pup, b.fr.frm k, b.fcap, b.fl, b.pn, b.el2, b.fup⟩
theorem IsBt.gone {rA : Option Addr} {rc m : Nat} (b : IsBt bl0 w0 wr X N D Bi s) (hg : c.2.2 = true) (hm : m = (cO s.bls c.1).length) (ho : Own wr 111 4 rA m rc ((cO s.bls c.1).flatMap rbC)) (hup : ∀ y ∈ ob rA, w0.heap.size ≤ y) :
  IsBt bl0 w0 wr X N (bV D c) (mI Bi c) ⟨s.i + 1, cO s.bls c.1, rA, rc, s.PS, s.pc, s.ps, s.fA, s.fc⟩ := by
 subst hm
 have h1 := b.rel.gone b.srt hg
 have h2 := tQ b.srt c
 have e1 : (bV D c).puts = D.puts := by unfold bV; rw [if_pos hg]
 have e2 : (bV D c).free = D.free := by unfold bV; rw [if_pos hg]
 exact ⟨b.K, ho, hup, fun x hx => b.el x (List.mem_filter.1 hx).1, h1, h2, b.po, b.pl.trans e1.symm, b.pu, b.pup, by rw [e2]; exact b.fr, by rw [e2]; exact b.fcap, by rw [e2]; exact b.fl, by have := b.pn; dsimp only; omega, fun x hx => b.el2 x (List.mem_filter.1 hx).1, b.fup⟩
theorem IsBt.put {bA PS pA fA : Option Addr} {bc pc6 ac fc m mp nd : Nat} {ps' : List Pq} {pg : List Nat} (b : IsBt bl0 w0 wr X N D Bi s) (hN : N ≤ 2006) (k : Fk (X ++ ob s.PS) wr w7 (X ++ ob PS)) (k0 : Frm [] w0 w7) (hg : c.2.2 = false) (hi : c.1 < 18446744073709551616) (hD : c.2.1.length ≤ 4032) (hoct : ∀ x ∈ c.2.1, x < 256)
  (hnd : nd = qI c.2.1.length) (hle : nd ≤ D.free.length) (hpg : pg = D.free.take nd) (hm : m = (pX (cO s.bls c.1) (c.1, c.2.1, (pA, ac, pg), crcM c.2.1)).length)
  (ho : Own w7 111 4 bA m bc ((pX (cO s.bls c.1) (c.1, c.2.1, (pA, ac, pg), crcM c.2.1)).flatMap rbC)) (hup : ∀ y ∈ ob bA, w0.heap.size ≤ y)
  (hmp : mp = (s.ps ++ ps').length) (hpo : Own w7 132 2 PS mp pc6 ((s.ps ++ ps').flatMap pqC)) (hps : puL ps' = dN c.2.1 pg) (hpu : PuS w0.heap.size w7 (X ++ ob PS) ps') (hpup : ∀ y ∈ ob PS, w0.heap.size ≤ y)
  (hr : RdX w7 (X ++ ob PS) 1 pA pg.length (ZN pg)) (hac : pg.length ≤ ac) (hfr : RdX w7 (X ++ ob PS) 1 fA (D.free.length - nd) (ZN (D.free.drop nd))) (hfc : D.free.length - nd ≤ fc) (hpA : ∀ z ∈ ob pA, w0.heap.size ≤ z) (hfu : ∀ z ∈ ob fA, w0.heap.size ≤ z) :
  IsBt bl0 w0 w7 X N (bV D c) (mI Bi c) ⟨s.i + 1, pX (cO s.bls c.1) (c.1, c.2.1, (pA, ac, pg), crcM c.2.1), bA, bc, PS, pc6, s.ps ++ ps', fA, fc⟩ := by
 subst hm hmp
 have h1 := b.rel.put (A := pA) (d := ac) b.srt hg hD (fun p hp => by have := b.fl p hp; omega)
 rw [← hnd, ← hpg] at h1
 have h2 := tQ b.srt c
 have e1 : (bV D c).puts = D.puts ++ dN c.2.1 pg := by unfold bV; rw [if_neg (by simp [hg])]; dsimp only; rw [← hnd, ← hpg]
 have e2 : (bV D c).free = D.free.drop nd := by unfold bV; rw [if_neg (by simp [hg])]; dsimp only; rw [← hnd]
 have hpl : pg.length = nd := by rw [hpg, zk]; omega
 have hpn : ps'.length = nd := by
  have := congrArg List.length hps
  rw [cQ, dN, oQ, hpl] at this
  exact this
 have h33 : nd ≤ 33 := by rw [hnd]; unfold qI; omega
 refine ⟨k0, ho, hup, fun x hx => ?_, h1, h2, hpo, ?_, (b.pu.fk k).app hpu, hpup, ?_, ?_, fun p hp => ?_, by have := b.pn; dsimp only; rw [zf]; omega, fun x hx => ?_, hfu⟩
 ·
  rcases zcp.1 hx with hx | hx
  · exact (b.el x (List.mem_filter.1 (List.mem_filter.1 hx).1).1).fk k
  rcases zaq.1 hx with rfl | hx
  · exact ⟨hi, hoct, hD, kW _, hr, hac, fun p hp => b.fl p (by rw [hpg] at hp; exact zo hp), by dsimp only; rw [hpl, hnd]; unfold qI; omega⟩
  exact (b.el x (List.mem_filter.1 (List.mem_filter.1 hx).1).1).fk k
 ·
  dsimp only
  rw [e1, ← hps, ← b.pl]; simp [puL]
 ·
  dsimp only
  rw [e2, zq]; exact hfr
 · rw [e2, zq]; exact hfc
 · rw [e2] at hp; exact b.fl p (zau hp)
 rcases zcp.1 hx with hx | hx
 · exact b.el2 x (List.mem_filter.1 (List.mem_filter.1 hx).1).1
 rcases zaq.1 hx with rfl | hx
 · exact .inr hpA
 exact b.el2 x (List.mem_filter.1 (List.mem_filter.1 hx).1).1
end
theorem IsRw.disk {w w' : World} {y gm : Nat} {F F' : List Nat} {d d' : Dk} {bl : List Rb} {dir : List Nat} {q : RwQ} (h : IsRw w y gm F d bl dir q) (hD : IsRd w' gm F' d') (k : Fk F w w' F') (hl : d'.has.length = d.has.length) (hw : d'.wts.length ≤ 100000) : IsRw w' y gm F' d' bl dir q ∧ Fk (y :: F) w w' (y :: F') := by
 have k2 : Fk (y :: F) w w' (y :: F') := ⟨k.1.mono (fun x hx => .inl (zdg _ hx)), fun x hx => by
  rcases zaq.1 hx with rfl | hx
  · exact .inl jp
  rcases k.2 x hx with h1 | h1
  · exact .inl (zdg _ h1)
  exact .inr h1⟩
 exact ⟨⟨hD, k.out h.blk.lt h.ny, h.blk.frm k.1 h.ny, h.rd.fk k2, fun x hx => by rw [hl]; exact (h.el x hx).fk k2, h.dr.fk k2, fun p hp => by rw [hl]; exact h.dp p hp, by rw [hl]; exact h.sz, h.n6, h.dn, hw⟩, k2⟩
theorem rdSS {w : World} {A : Option Addr} {n : Nat} {ps : List (List Nat)} (h : Rd w 1 A n (ps.map SS)) (hn : ps.length = n) {k : Nat} (hk : k < n) : ∃ ad, A = some ad ∧ w.cell? (ad.add k) = some (SS (ps.getD k [])) := by
 obtain ⟨ad, h1, _, hc⟩ := h.2 jo
 exact ⟨ad, h1, hc k _ (by simp [zb, ze (jo : k < ps.length)])⟩
theorem qMg (l : List Rb) (k : Nat) (h : k < l.length) : PC2 ((l.map rZ).take (k + 1)) = PC2 ((l.map rZ).take k) ++ prC (rZ (l.getD k rb0)) := by
 rw [← zdn, eN rb0 h, zv, zdn, fS]
 simp [PC2]
theorem uL (S : Option Addr) (n c : Nat) (l : List Cq) (y gm : Nat) (F : List Nat) (H : Hm) (B : Nat → List Nat) (bl : List Rb) (q : RwQ) (w : World) (hY : IsRw w y gm F H.dk bl H.dir q) (hI : InvS H B) (hrel : bE H.pairs H.lies B bl) (hwl : H.dk.wts.length ≤ 99000) (hn : n ≤ 1000) (hr : RdC w S n l) :
  Calls Tryz.prog 20 #[jI0 y, .slice S n c] w fun e w' => ∃ F' bl' q', e = .returned (jI1 ((qB H (chL l)).1)) ∧ IsRw w' y gm F' (qB H (chL l)).2.dk bl' (qB H (chL l)).2.dir q' ∧ bE (qB H (chL l)).2.pairs (qB H (chL l)).2.lies (if (qB H (chL l)).1 = 0 then dZ B (chL l) else B) bl' ∧ Fk (y :: F) w w' (y :: F') ∧ ∀ E : List Nat, (∀ z ∈ E, z < w.heap.size) → OffR E bl H.dir.length q → OffR E bl' (qB H (chL l)).2.dir.length q' := by
 have hsz := hY.sz
 have hbg := hY.dk.ok.big
 have hln := hr.len
 have h6 := hY.n6
 have hlenP := hrel.len
 have h600 := hI.ok.n600
 have hN : H.N = H.dk.has.length - 42 := rfl
 have hFR := qQw hI hrel
 have hFl := gL H.N H.used
 have hcl := oW H.N H.used
 obtain ⟨FR, hFRe⟩ : ∃ FR, FR = bT H.N H.used := ⟨_, rfl⟩
 rw [← hFRe] at hFR hFl
 rw [hN] at hFR
 have hFRp : ∀ p ∈ FR, p < H.N := fun p hp => by rw [hFRe] at hp; exact List.mem_range.1 (List.mem_filter.1 hp).1
 have hXl : ∀ x ∈ y :: F, x < w.heap.size := fun x hx => by
  rcases zaq.1 hx with rfl | hx
  · exact hY.blk.lt
  exact hY.dk.lt x hx
 have hel : ∀ V, Frm [] w V → ∀ k, k < n → ∃ ad, S = some ad ∧ ∀ j v, (cqC (l.getD k cq0))[j]? = some v → V.cell? ((ad.add (k * 3)).add j) = some v := fun V hV k hk => (hr.frm hV).cell hk
 have done : ∀ (V : World) (k : Nat), k ≠ 0 → qB H (chL l) = (k, H) → Frm [] w V → ∃ F' bl' q', (Ending.returned (jI1 k) = .returned (jI1 ((qB H (chL l)).1))) ∧ IsRw V y gm F' (qB H (chL l)).2.dk bl' (qB H (chL l)).2.dir q' ∧ bE (qB H (chL l)).2.pairs (qB H (chL l)).2.lies (if (qB H (chL l)).1 = 0 then dZ B (chL l) else B) bl' ∧ Fk (y :: F) w V (y :: F') ∧ ∀ E : List Nat, (∀ z ∈ E, z < w.heap.size) → OffR E bl H.dir.length q → OffR E bl' (qB H (chL l)).2.dir.length q' := fun V k hk eb hV => by
  rw [eb]
  dsimp only
  rw [if_neg hk]
  exact ⟨F, bl, q, rfl, hY.frm hV, hrel, Fk.of0 hV, fun E _ h => h⟩
 refine jV Tryz.func20 Tryz.ntmps20 Tryz.results20 ?_
 refine jS (jR (jz 0 (jO (jN (jv2 0 1 ?_)))))
 refine jS (jS (jR (jM ?_)))
 refine jc (jE1 Tryz.call57) (qVs S n c l w hn hr) ?_
 rintro e w1 ⟨rfl, K1⟩
 refine ⟨_, rfl, ?_⟩
 refine je (Run.not rfl) (jO (jN (jv3 0 1 26 ?_)))
 refine VC.condB rfl (fun hc1 => ?_) (fun hc1 => ?_)
 ·
  have hm : ¬ cV (chL l) := by simpa using hc1
  have eb : qB H (chL l) = (1, H) := by unfold qB; rw [if_pos hm]
  refine jS (jR (jz 1 (jO (jN (jv1 4 ?_)))))
  refine jT ?_
  refine qQ (qS rfl ?_)
  exact done _ 1 jd eb K1
 have hm : cV (chL l) := by simpa using hc1
 have hKd := K1.drawn (qP.drew w1)
 refine jQ (jN (jv2 0 1 ?_))
 refine jS ?_
 refine VC.still jK jK ?_
 refine qM ?_
 refine qE (Run.nilck rfl) ?_
 refine qE (Run.fieldAddr rfl zay rfl zco jd) ?_
 refine qE (Run.load rfl zdo ((hY.frm hKd).blk.cell 1)) ?_
 refine qE (Run.lenS rfl zao) ?_
 refine qY .i64 0 ?_
 refine qA ?_
 refine bJ.nil ?_
 refine jN (jv4 0 1 5 6 ?_)
 refine jS (jS (jR (jz 0 (jO (jN (jB ?_))))))
 refine VC.loop (σ := Nat) (fun s => [(0, jI0 y), (1, .slice S n c), (5, jI1 (sumN (chL (l.take s)))), (6, jI1 ((qO H (chL (l.take s)) []).pairs.length)), (7, jI1 s)]) (fun s wr => s ≤ n ∧ Frm [] w wr ∧ (qO H (chL (l.take s)) []).pairs.length ≤ 600 + s ∧ ∀ x ∈ chL (l.take s), x.2.2 = true → x.1 ∈ H.pairs.map (·.1)) (fun s => n - s) 0 (js5 rfl rfl rfl (by rw [hlenP]; rfl) rfl) ⟨zj _, hKd, h600, by simp [chL]⟩ ?_
 rintro i wr ⟨hi, K, hpl, hgo⟩
 refine jS (jS (jR (jm rfl (jm rfl (jL rfl zap (jb rfl rfl (Bin.lssN _ _) (jO (jN (jv6 0 1 5 6 7 35 ?_)))))))))
 refine jD rfl (fun hc2 => ?_) fun hc2 => ?_
 ·
  obtain ⟨ad, hSa, _⟩ := hel _ (Frm.refl _ _) _ (jo : i < n)
  have helV : ∀ V, Frm [] w V → ∀ a v, (cqC (l.getD i cq0))[a]? = some v → V.cell? ((ad.add (i * 3)).add a) = some v := fun V hV => by
   obtain ⟨a2, h2, h3⟩ := hel V hV i jo
   rw [hSa] at h2
   cases h2
   exact h3
  have hmem := nN (jo : i < l.length)
  have hxn := hr.num _ hmem
  have hxe := hr.el _ hmem
  have hxo := hr.oct _ hmem
  have hmch : chO (l.getD i cq0) ∈ chL l := List.mem_map.2 ⟨_, hmem, rfl⟩
  have hmx := hm.2 _ hmch
  have hsnc := gH (jo : i < l.length)
  have hsn := pF (chL (l.take i)) (chO (l.getD i cq0))
  rw [← hsnc] at hsn
  have hsl := zK H hI.ok.srt (chL (l.take i)) (chO (l.getD i cq0)) [] (qVh (jo : i < l.length) hm)
  rw [← hsnc] at hsl
  have hsb := sJ (l.take i) (fun x hx => (hr.num x (zo hx)).2)
  rw [zk] at hsb
  have hmi := zhb i l.length
  generalize l.getD i cq0 = x at helV hxn hsn hsl hsnc hxe hxo hmch hmx
  obtain ⟨xa, ⟨xA, xc, xb⟩, xg⟩ := x
  dsimp only [chO] at hsn hxn hsl hxe hxo hmch hmx
  obtain ⟨hl1, hl2, hl3, hl4⟩ := hsl
  subst hSa
  refine jQ (jN (jv5 0 1 5 6 7 ?_))
  refine jS (jB (jS (jR (jm rfl (jm rfl (jm rfl (je (Run.indexS _ rfl rfl zap zbi jo) (jf rfl zak rfl zy (jl rfl zai (helV _ K 0 _ rfl) ?_)))))))))
  refine jc (jE2 Tryz.call25) (uE xa y gm F H.dk bl H.dir q wr (hY.frm K) hxn.1) ?_
  rintro e _ ⟨rfl, hat⟩
  obtain ⟨u, hu⟩ : ∃ u : Int, e = .returned (.int .i64 u) ∧ decide (0 ≤ u) = decide (xa ∈ H.pairs.map (·.1)) := by
   rw [← hrel.ids]
   rcases hat with ⟨h1, rfl⟩ | ⟨i, h1, h2, rfl⟩
   · exact ⟨_, rfl, by rw [decide_eq_false h1]; rfl⟩
   exact ⟨_, rfl, by rw [decide_eq_true (show xa ∈ bl.map (·.1) from List.mem_map.2 ⟨_, uD h1, h2⟩)]; exact decide_eq_true jo⟩
  obtain ⟨rfl, hu⟩ := hu
  refine ⟨_, rfl, ?_⟩
  refine jb rfl rfl (Bin.geq _ 0) ?_
  rw [show decide (u ≥ 0) = decide (xa ∈ H.pairs.map (·.1)) from hu]
  refine ja rfl (jO (jN (jv6 0 1 5 6 7 8 ?_)))
  refine jS (jS ?_)
  refine VC.split1 [(0, _), (1, _), (5, _), (6, _), (7, _), (8, _)] (js6 rfl rfl rfl rfl rfl rfl) 54 (.bool (decide (xg = true ∧ xa ∉ H.pairs.map (·.1)))) ?_ ?_
  ·
   refine jR ?_
   refine jm rfl (jm rfl (je (Run.indexS _ rfl rfl zap zbi jo) (jf rfl zak rfl zat (jl rfl zcr (helV _ K 2 _ rfl) ?_))))
   by_cases hs50 : xg = true
   ·
    refine jM ?_
    refine jG ?_
    refine jk (Run.not rfl) ?_
    by_cases hs53 : xa ∉ H.pairs.map (·.1)
    ·
     refine jW rfl rfl au (jO ?_)
     refine jN ⟨(js7 (jC (by grind)) rfl rfl rfl rfl rfl rfl), rfl⟩
    refine jW rfl rfl au (jO ?_)
    refine jN ⟨(js7 (jC (by grind)) rfl rfl rfl rfl rfl rfl), rfl⟩
   refine jM ?_
   refine jU ?_
   refine jU ?_
   refine jF rfl rfl au (jO ?_)
   refine jN ⟨(js7 (jC (by grind)) rfl rfl rfl rfl rfl rfl), rfl⟩
  intro Γ hΓ
  refine jN (VC.sub _ hΓ ?_)
  refine jD rfl (fun hc3 => ?_) fun hc3 => ?_
  ·
   have eb : qB H (chL l) = (6, H) := by unfold qB; rw [if_neg (not_not_intro hm), if_pos (fun hg : GoneOk H (chL l) => hc3.2 (hg _ hmch hc3.1))]
   refine jS (jR (jz 6 (jO (jN (jv1 4 ?_)))))
   refine jT ?_
   refine qQ (qR (qQ (qQ (qR (qQ (qS rfl ?_))))))
   exact done _ 6 jd eb K
  refine jQ (jN (jv6 0 1 5 6 7 8 ?_))
  refine jS (jS (jR (jm rfl (jm rfl (je (Run.indexS _ rfl rfl zap zbi jo) (jf rfl zak rfl zat (jl rfl zcr (helV _ K 2 _ rfl) (jO (jN (jv7 0 1 5 6 7 8 59 ?_))))))))))
  refine VC.meet (σ := Unit) (fun s => [(0, jI0 y), (1, .slice (some ad) n c), (5, jI1 (sumN (chL (l.take i)))), (6, jI1 ((qO H (chL (l.take (i + 1))) []).pairs.length)), (7, jI1 i)]) (fun s wz => wr = wz) ?_ ?_
  ·
   refine VC.condB rfl (fun hc4 => ?_) (fun hc4 => ?_)
   ·
    have hxin : xa ∈ H.pairs.map (·.1) := Classical.byContradiction fun h => hc3 ⟨hc4, h⟩
    have hsl := hl1 hxin hc4
    refine jR (jm rfl (jb rfl rfl (Bin.sub_i64 _ 1 jo jo) (ja rfl (jO ?_))))
    refine jN ⟨(), (js5 rfl rfl rfl (by rw [show (qO H (chL (l.take (i + 1))) []).pairs.length = (qO H (chL (l.take i)) []).pairs.length - 1 by omega]; rfl) rfl), ?_⟩
    rfl
   refine jS (jR (jm rfl (je (Run.not rfl) (jO (jN (jv6 0 1 5 6 7 63 ?_))))))
   refine VC.meet (σ := Unit) (fun s => [(0, jI0 y), (1, .slice (some ad) n c), (5, jI1 (sumN (chL (l.take i)))), (6, jI1 ((qO H (chL (l.take (i + 1))) []).pairs.length)), (7, jI1 i)]) (fun s wz => wr = wz) ?_ ?_
   ·
    refine VC.condB rfl (fun hc5 => ?_) (fun hc5 => ?_)
    ·
     have hc5 : xa ∉ H.pairs.map (·.1) := by simpa using hc5
     have hc4 : xg = false := by simpa using hc4
     have hsl := hl3 hc5 hc4
     refine jR (jm rfl (jb rfl rfl (Bin.add_i64 _ 1 jo) (ja rfl (jO ?_))))
     refine jN ⟨(), (js5 rfl rfl rfl (by rw [show (qO H (chL (l.take (i + 1))) []).pairs.length = (qO H (chL (l.take i)) []).pairs.length + 1 by omega]; rfl) rfl), ?_⟩
     rfl
    have hc5 : xa ∈ H.pairs.map (·.1) := by simpa using hc5
    have hc4 : xg = false := by simpa using hc4
    have hsl := hl2 hc5 hc4
    refine jQ ?_
    refine jN ⟨(), (js5 rfl rfl rfl (by rw [show (qO H (chL (l.take (i + 1))) []).pairs.length = (qO H (chL (l.take i)) []).pairs.length by omega]; rfl) rfl), ?_⟩
    rfl
   rintro _ _ rfl Γ hΓ
   refine jN ⟨(), (js5 (hΓ.get _ _ rfl) (hΓ.get _ _ rfl) (hΓ.get _ _ rfl) (hΓ.get _ _ rfl) (hΓ.get _ _ rfl)), ?_⟩
   rfl
  rintro _ _ rfl Γ hΓ
  refine jN (VC.sub _ hΓ (jR (jm rfl (jm rfl (jm rfl (je (Run.indexS _ rfl rfl zap zbi jo) (jf rfl zak rfl zah (jl rfl zba (helV _ K 1 _ rfl) ?_))))))))
  rw [show SL (xA, xc, xb) = .slice xA xb.length xc from rfl]
  refine jL rfl zg ?_
  refine jc0 (jE1 Tryz.call58) (rP xb.length _ jo) ?_
  have hnd : qI xb.length ≤ 10000 := by unfold qI; omega
  refine jb rfl rfl (Bin.add_i64 _ _ jo) (ja rfl (jO ?_))
  refine qH (jN ?_)
  refine jv5 0 1 5 6 7 ?_
  refine jR (jm rfl (jb rfl rfl (Bin.add_i64 _ 1 jo) (ja rfl (jO ?_))))
  refine jN ⟨i + 1, (js5 rfl rfl (by rw [hsn]; rfl) rfl rfl), ?_, ?_⟩
  ·
   refine ⟨hc2, K, jo, fun x hx hg => ?_⟩
   rw [hsnc] at hx
   rcases zcp.1 hx with h | h
   · exact hgo x h hg
   rw [za] at h
   subst h
   exact Classical.byContradiction fun hno => hc3 ⟨hg, hno⟩
  exact jq
 obtain rfl : i = n := jo
 have htk : l.take i = l := zh jo
 rw [htk] at hgo hpl ⊢
 have hgo : GoneOk H (chL l) := hgo
 obtain ⟨P0, hP0⟩ : ∃ P0, P0 = dQ H (chL l) := ⟨_, rfl⟩
 have hP1 : (qO H (chL l) []).pairs.length = P0 := hP0.symm
 rw [hP1] at hpl ⊢
 have hbo : ∀ c ∈ chL l, c.1 < 18446744073709551616 ∧ ∀ b ∈ c.2.1, b < 256 := fun c hc => by
  obtain ⟨x, hx, rfl⟩ := List.mem_map.1 hc
  exact ⟨(hr.num x hx).1, hr.oct x hx⟩
 have gz : gS (chL l) := fun x hx hg => (hm.2 x hx).2 hg
 have hsb := sJ l (fun x hx => (hr.num x hx).2)
 refine jX ?_
 refine qZ (qZ (qN ?_))
 refine jN (jv4 0 1 5 6 ?_)
 refine jS (jS (jR (jm rfl (jb rfl rfl (Bin.gtrN _ 600) (jO (jN (jv5 0 1 5 6 76 ?_)))))))
 refine jD rfl (fun hc6 => ?_) fun hc6 => ?_
 ·
  have eb : qB H (chL l) = (5, H) := by unfold qB; rw [if_neg (not_not_intro hm), if_neg (not_not_intro hgo), if_pos (.inl jo)]
  refine jS (jR (jz 5 (jO (jN (jv1 4 ?_)))))
  refine jT ?_
  refine qQ (qS rfl ?_)
  exact done _ 5 jd eb K
 have hbn : sumN (chL l) + cK P0 = bZ H (chL l) := by unfold bZ eJ; rw [← hP0, if_pos jo]
 refine jQ (jN (jv4 0 1 5 6 ?_))
 refine jS (jR (jM ?_))
 refine jc (jE1 Tryz.call59) (wX y gm F H.dk bl H.dir q wr (hY.frm K)) ?_
 rintro e w2 ⟨fB, fc, rfl, hof, hf2, hupf⟩
 rw [hFR] at hof ⊢
 refine ⟨_, rfl, ?_⟩
 have K2 := K.trans hf2 jp
 refine ja rfl (jO (jN (jv5 0 1 5 6 9 ?_)))
 refine jS (jR (jm rfl (jM ?_)))
 refine Ops.m (qV.makeS rfl rfl zl (kK) rfl jo jo) rfl ?_
 rintro _ w3 ⟨rfl, ho3, hf3, hs3⟩
 have e3 : (List.replicate P0 (Value.agg #[.int .u64 0, .int .u64 0]).cells.toList).flatten = PC2 (List.replicate P0 ((0, 0) : Pr)) := by
  rw [PC2, List.flatMap_def, zdr]; rfl
 rw [e3] at ho3
 have K3 := K2.trans hf3 jp
 refine jc (jE1 Tryz.call60) (pQ _ _ _ (List.replicate P0 ((0, 0) : Pr)) w3 jp jo ho3.rd (fun x hx => by rw [List.eq_of_mem_replicate hx]; exact ⟨jd, jd⟩)) ?_
 rintro e w4 ⟨zB, zd, rfl, _, hf4, _⟩
 refine ⟨_, rfl, ?_⟩
 rw [fH, zeg]
 have K4 := K3.trans hf4 jp
 have hof4 := (hof.frm hf3 jp).frm hf4 jp
 have hpt := pI P0
 rw [eJ, if_pos jo] at hpt
 refine jL rfl zar (jb rfl rfl (Bin.add_i64 _ _ jo) ?_)
 rw [hbn]
 refine ja rfl (jO (jN (jv4 0 1 5 9 ?_)))
 refine jS (jS ?_)
 refine VC.split1 [(0, _), (1, _), (9, _)] (js3 rfl rfl rfl) 93 (.bool (decide (FR.length < bZ H (chL l) ∨ 40 < bZ H (chL l) + 1))) ?_ ?_
 ·
  refine jR ?_
  refine jm rfl (jm rfl (jL rfl zn (jb rfl rfl (Bin.gtrN _ _) ?_)))
  by_cases hs88 : FR.length < bZ H (chL l)
  ·
   refine jM ?_
   refine jU ?_
   refine jU ?_
   refine jU ?_
   refine jW rfl rfl au (jO ?_)
   refine jN ⟨(js4 (jC (by grind)) rfl rfl rfl), rfl⟩
  refine jM ?_
  refine jG ?_
  refine jk (Run.bin rfl rfl (Bin.add_i64 _ 1 jo)) ?_
  refine jk (Run.bin rfl rfl (Bin.gtrN _ 40)) ?_
  by_cases hs92 : 40 < bZ H (chL l) + 1
  ·
   refine jF rfl rfl au (jO ?_)
   refine jN ⟨(js4 (jC (by grind)) rfl rfl rfl), rfl⟩
  refine jF rfl rfl au (jO ?_)
  refine jN ⟨(js4 (jC (by grind)) rfl rfl rfl), rfl⟩
 intro Γ hΓ
 refine jN (VC.sub _ hΓ ?_)
 refine jD rfl (fun hc7 => ?_) fun hc7 => ?_
 ·
  have eb : qB H (chL l) = (5, H) := by
   unfold qB
   rw [if_neg (not_not_intro hm), if_neg (not_not_intro hgo)]
   by_cases h : 600 < dQ H (chL l) ∨ 40 < bZ H (chL l) + 1
   · rw [if_pos h]
   rw [if_neg h, if_pos (by rcases hc7 with h1 | h1 <;> omega)]
  refine jS (jR (jz 5 (jO (jN (jv1 4 ?_)))))
  refine jT ?_
  refine qQ (qS rfl ?_)
  exact done _ 5 jd eb K4
 have hbF : bZ H (chL l) ≤ FR.length := jo
 have hb40 : bZ H (chL l) ≤ 39 := jo
 refine jQ (jN (jv3 0 1 9 ?_))
 refine jS (jR ?_)
 refine Ops.m (qV.buildS0 zao zbf) rfl ?_
 rintro _ w5 ⟨rfl, hF5⟩
 have hO5 : Own w5 111 4 (some ⟨w4.heap.size, 0, none⟩) 0 0 [] := Own.of_blk (n := 0) hF5.blk rfl jd
 have K5 := K4.trans hF5.frm jp
 have hof5 := hof4.frm hF5.frm jp
 have hY5 := hY.frm K5
 refine jm rfl (jZ rfl (jf rfl zay rfl zco (jl rfl zdo (hY5.blk.cell 1) ?_)))
 refine Ops.m (qV.app rfl rfl zao (oK) rfl jd hO5 hY5.rd.1 (wH rbC kR bl) jo jo) rfl ?_
 rintro _ w6 ⟨bA, bc, rfl, ho6, hf6, hob6⟩
 rw [zbu] at ho6
 rw [zch] at ho6 ⊢
 have hup5 : ∀ y ∈ ob (some (⟨w4.heap.size, 0, none⟩ : Addr)), w4.heap.size ≤ y := by simp [ob]
 have hbup := (Fk.of_app hf6 hob6).up hup5 hF5.frm.size
 have K6 := K5.own hf6 (fun x hx => zbd K4.size (hup5 x hx))
 have hof6 := hof5.frm hf6 (fun x hx h => by have h1 := hup5 x h; have h2 := hof4.lt x hx; omega)
 have q2 := K.size
 have q4 := K4.size
 have hb0 : IsBt bl w w6 (y :: F) H.N (qO H (chL (l.take 0)) FR) (pJ B (chL (l.take 0))) ⟨0, bl, bA, bc, none, 0, [], fB, fc⟩ :=
  ⟨K6, ho6, fun x hx => zbd q4 (hbup x hx), fun x hx => by
   have := (hY.el x hx).frm K6
   exact this.mono (fun z hz => by simpa [ob] using hz), hrel, hI.ok.srt, Own.nil _ _ _, rfl, PuS.nil _ _ _, by simp [ob], by
   have := RdX.of_new (w := wr) hof6.rd hupf (X := y :: F) (fun x hx => by have := hXl x hx; omega)
   exact this.mono (fun z hz => by simpa [ob] using hz), hof6.le, hFRp, zj _, fun x hx => .inl hx, fun z hz => by have := hupf z hz; omega⟩
 refine ja rfl (jO (jN (jv4 0 1 9 10 ?_)))
 refine jS (jR (ja rfl (jO (jN (jS (jS (jR (jz 0 (jO (jN (jB ?_)))))))))))
 refine VC.loop (σ := BtS) (fun s => [(0, jI0 y), (1, .slice S i c), (9, .slice s.fA (qO H (chL (l.take s.i)) FR).free.length s.fc), (10, .slice s.bA s.bls.length s.bc), (11, .slice s.PS s.ps.length s.pc), (12, jI1 s.i)]) (fun s wr => s.i ≤ i ∧ IsBt bl w wr (y :: F) H.N (qO H (chL (l.take s.i)) FR) (pJ B (chL (l.take s.i))) s) (fun s => i - s.i) ⟨0, bl, bA, bc, none, 0, [], fB, fc⟩ (js6 rfl rfl rfl rfl rfl rfl) ⟨zj _, hb0⟩ ?_
 rintro ⟨j, bls, bA, bc, PS, pc, ps, fA, fc⟩ wr2 ⟨hi, b⟩
 dsimp only at hi b ⊢
 have hrl := b.rel.len
 dsimp only at hrl
 have hpsn := b.pn
 dsimp only at hpsn
 have hrle := qWz H hI.ok.srt (chL (l.take j)) FR
 have hcj : (chL (l.take j)).length ≤ i := by rw [mF, zk]; omega
 refine jS (jS (jR (jm rfl (jm rfl (jL rfl zap (jb rfl rfl (Bin.lssN _ _) (jO (jN (jv7 0 1 9 10 11 12 103 ?_)))))))))
 refine jD rfl (fun hc8 => ?_) fun hc8 => ?_
 ·
  obtain ⟨ad, hSa, _⟩ := hel _ (Frm.refl _ _) _ (jo : j < i)
  have helV : ∀ V, Frm [] w V → ∀ a v, (cqC (l.getD j cq0))[a]? = some v → V.cell? ((ad.add (j * 3)).add a) = some v := fun V hV => by
   obtain ⟨a2, h2, h3⟩ := hel V hV j jo
   rw [hSa] at h2
   cases h2
   exact h3
  have hmem := nN (jo : j < l.length)
  have hxn := hr.num _ hmem
  have hxe := hr.el _ hmem
  have hxo := hr.oct _ hmem
  have hmch : chO (l.getD j cq0) ∈ chL l := List.mem_map.2 ⟨_, hmem, rfl⟩
  have hmx := hm.2 _ hmch
  have hsnc := gH (jo : j < l.length)
  have hsn := pF (chL (l.take j)) (chO (l.getD j cq0))
  rw [← hsnc] at hsn
  have hraw : qO H (chL (l.take (j + 1))) FR = bV (qO H (chL (l.take j)) FR) (chO (l.getD j cq0)) := by rw [hsnc]; exact uR _ _ _ _
  have hbst : pJ B (chL (l.take (j + 1))) = mI (pJ B (chL (l.take j))) (chO (l.getD j cq0)) := by rw [hsnc]; exact qYq _ _ _
  have hfre : (qO H (chL (l.take j)) FR).free.length = FR.length - sumN (chL (l.take j)) := by rw [qZt H _ FR (fun x hx hg => gz x (by rw [oA] at hx; exact zo hx) hg), zq]
  have hsj : sumN (chL (l.take (j + 1))) ≤ sumN (chL l) := by rw [oA]; exact qQj _ _
  generalize l.getD j cq0 = x at helV hxn hsn hraw hbst hxe hxo hmch hmx
  obtain ⟨xa, ⟨xA, xc, xb⟩, xg⟩ := x
  dsimp only [chO] at hsn hxn hraw hbst hxe hxo hmch hmx
  generalize qO H (chL (l.take j)) FR = D at *
  generalize pJ B (chL (l.take j)) = Bi at *
  subst hSa
  have hrle0 := fun k => zbd (zcu (fun x : Rb => decide (x.1 ≠ xa)) (bls.take k)) (show (bls.take k).length ≤ bls.length by rw [zk]; exact zel _ _)
  refine jQ (jN (jv6 0 1 9 10 11 12 ?_))
  refine jS (jB (jS (jR (ja rfl (jO (jN (jS (jS (jR (jz 0 (jO (jN (jB ?_)))))))))))))
  refine VC.loop (σ := Nat × Option Addr × Nat) (fun s => [(0, jI0 y), (1, .slice (some ad) i c), (9, .slice fA D.free.length fc), (10, .slice bA bls.length bc), (11, .slice PS ps.length pc), (12, jI1 j), (13, .slice s.2.1 (cO (bls.take s.1) xa).length s.2.2), (14, jI1 s.1)]) (fun s wr => s.1 ≤ bls.length ∧ Own wr 111 4 s.2.1 (cO (bls.take s.1) xa).length s.2.2 ((cO (bls.take s.1) xa).flatMap rbC) ∧ Frm [] wr2 wr ∧ ∀ y ∈ ob s.2.1, wr2.heap.size ≤ y) (fun s => bls.length - s.1) (0, none, 0) (js8 rfl rfl rfl rfl rfl rfl rfl rfl) ⟨zj _, Own.nil _ _ _, Frm.refl _ _, by simp [ob]⟩ ?_
  rintro ⟨k, rA, rc⟩ wk ⟨hk, hor, Kk, hupr⟩
  dsimp only at hk hor hupr ⊢
  have ksk := Kk.size
  have hrk : (cO (bls.take k) xa).length ≤ bls.length := hrle0 k
  refine jS (jS (jR (jm rfl (jm rfl (jL rfl zao (jb rfl rfl (Bin.lssN _ _) (jO (jN (jv9 0 1 9 10 11 12 13 14 109 ?_)))))))))
  refine jD rfl (fun hc9 => ?_) fun hc9 => ?_
  ·
   have hts := eN (l := bls) rb0 (k := k) jo
   obtain ⟨z, hz⟩ : ∃ z, z = bls.getD k rb0 := ⟨_, rfl⟩
   obtain ⟨bd, hbA, hcA⟩ := uA (b.frm Kk).bo.rd rfl hc9 z hz
   have hbA1 := hbA
   have hd := qP.drew wk
   rw [← hz] at hts
   have hsnr := qVw (bls.take k) z xa
   rw [← hts] at hsnr
   dsimp only at hbA hbA1 hcA
   rw [hbA]
   refine jQ (jN (jv8 0 1 9 10 11 12 13 14 ?_))
   refine jS (jB (jS ?_))
   refine VC.still jK jK ?_
   refine qM ?_
   refine qM ?_
   refine qE (Run.indexS _ rfl rfl zao zbf jo) ?_
   refine qE (Run.fieldAddr rfl zal rfl zy jd) ?_
   refine qE (Run.load rfl zai (hcA _ hd.frm 0 _ rfl)) ?_
   refine qM ?_
   refine qM ?_
   refine qE (Run.indexS _ rfl rfl zap zbi jo) ?_
   refine qE (Run.fieldAddr rfl zak rfl zy jd) ?_
   refine qE (Run.load rfl zai (helV _ ((b.K.trans Kk jp).drawn hd) 0 _ rfl)) ?_
   refine qE (Run.bin rfl rfl (Bin.neqN _ _)) ?_
   refine bJ.nil ?_
   refine jN (jv9 0 1 9 10 11 12 13 14 122 ?_)
   refine jD rfl (fun hc10 => ?_) fun hc10 => ?_
   ·
    rw [if_pos hc10] at hsnr
    have hor := hor.drawn hd
    have Kk := Kk.drawn hd
    have ksk := Kk.size
    have hcA := fun V (hV : Frm [] wk.drew V) => hcA V (hd.frm.trans hV jp)
    generalize wk.drew = wk at *
    refine jR (jm rfl (jm rfl (jm rfl (je (Run.indexS _ rfl rfl zao zbf jo) (je (Run.loadA rfl zfv zbf (hcA _ (Frm.refl _ _)) (by first | rfl | (simp; done))) ?_)))))
    refine Ops.m (qV.buildS1 rfl zao zbf fC jd jd rfl rfl) rfl ?_
    rintro _ v6 ⟨rfl, hG6⟩
    have hr6 : Rd v6 4 (some ⟨wk.heap.size, 0, none⟩) 1 (rbC z) := Rd.of_blk (n := 1) (size := 4) hG6.blk rfl
    have ho6 := hor.frm hG6.frm jp
    have K6' := Kk.trans hG6.frm jp
    have q6 := K6'.size
    refine Ops.m (qV.app rfl rfl zao (oK) rfl jd ho6 hr6 (kR _) jo jo) rfl ?_
    rintro _ v7 ⟨B7, d7, rfl, ho7, hf7, hob7⟩
    have e7 : (cO (bls.take k) xa).flatMap rbC ++ rbC z = (cO (bls.take (k + 1)) xa).flatMap rbC := by rw [hsnr, zan]; simp
    have e8 : (cO (bls.take k) xa).length + 1 = (cO (bls.take (k + 1)) xa).length := by rw [hsnr, zf]; rfl
    rw [e7, e8] at ho7
    rw [← hbA1]
    refine ja rfl (jO ?_)
    refine qH (jN ?_)
    refine jv8 0 1 9 10 11 12 13 14 ?_
    refine jR (jm rfl (jb rfl rfl (Bin.add_i64 _ 1 jo) (ja rfl (jO ?_))))
    refine jN ⟨(k + 1, B7, d7), (js8 rfl rfl rfl rfl rfl rfl (by rw [← e8]; rfl) rfl), ?_, ?_⟩
    · exact ⟨hc9, ho7, K6'.own hf7 hupr, (Fk.of_app hf7 hob7).up hupr q6⟩
    exact jq
   rw [if_neg hc10, zav] at hsnr
   have hor := hor.drawn hd
   have Kk := Kk.drawn hd
   rw [← hbA1]
   rw [← hsnr] at hor ⊢
   refine jQ ?_
   refine qH (jN ?_)
   refine jv8 0 1 9 10 11 12 13 14 ?_
   refine jR (jm rfl (jb rfl rfl (Bin.add_i64 _ 1 jo) (ja rfl (jO ?_))))
   refine jN ⟨(k + 1, rA, rc), (js8 rfl rfl rfl rfl rfl rfl rfl rfl), ?_, ?_⟩
   · exact ⟨hc9, hor, Kk, hupr⟩
   exact jq
  obtain rfl : k = bls.length := jo
  rw [zbw] at hor hrk ⊢
  have hsw := b.K.size
  have bk := b.frm Kk
  have hupr0 : ∀ y ∈ ob rA, w.heap.size ≤ y := fun y hy => zbd hsw (hupr y hy)
  refine jX ?_
  refine qZ (qZ (qN ?_))
  refine jN (jv6 0 1 9 11 12 13 ?_)
  refine jS (jR (jm rfl (ja rfl (jO (jN (jv6 0 1 9 10 11 12 ?_))))))
  refine jS (jS (jR (jm rfl (jm rfl (je (Run.indexS _ rfl rfl zap zbi jo) (jf rfl zak rfl zat (jl rfl zcr (helV _ bk.K 2 _ rfl) (jO (jN (jv7 0 1 9 10 11 12 135 ?_))))))))))
  refine VC.condB rfl (fun hc11 => ?_) (fun hc11 => ?_)
  ·
   have b7 := bk.gone (c := (xa, xb, xg)) hc11 rfl hor hupr0
   have hfr7 : (bV D (xa, xb, xg)).free = D.free := by unfold bV; rw [if_pos hc11]
   refine jX ?_
   refine qZ (qN ?_)
   refine jN (jv6 0 1 9 10 11 12 ?_)
   refine jR (jm rfl (jb rfl rfl (Bin.add_i64 _ 1 jo) (ja rfl (jO ?_))))
   refine jN ⟨⟨j + 1, cO bls xa, rA, rc, PS, pc, ps, fA, fc⟩, (js6 rfl rfl (by rw [hraw, hfr7]; rfl) rfl rfl rfl), ?_, ?_⟩
   · exact ⟨hc8, by rw [hraw, hbst]; exact b7⟩
   exact jq
  have hxg : xg = false := by simpa using hc11
  have hnd : qI xb.length ≤ 32 := by have := hmx.1; unfold qI; omega
  obtain ⟨nd, hnde⟩ : ∃ nd, nd = qI xb.length := ⟨_, rfl⟩
  rw [← hnde] at hnd hsn
  have hndm : nd ≤ D.free.length := jo
  have Kw := b.K.trans Kk jp
  have hcb := kW xb
  refine jQ (jN (jv6 0 1 9 10 11 12 ?_))
  refine jS ?_
  refine VC.meet (σ := Nat) (fun s => [(0, jI0 y), (1, .slice (some ad) i c), (9, .slice fA D.free.length fc), (10, .slice rA (cO bls xa).length rc), (11, .slice PS ps.length pc), (12, jI1 j), (15, jI0 s)]) (fun s wz => Frm [] wk wz ∧ wk.heap.size ≤ s ∧ Blk wz s 111 #[jI2 xa, .string (qF xb), .slice none 0 0, .int .u32 ((crcM xb : Nat) : Int)]) ?_ ?_
  ·
   refine VC.held (fun V => Frm [] wk V) jK ?_
   have hS : Frm [] wk wk.drew := (Frm.refl _ _).drew
   refine jh 0 hS ?_
   refine jh 1 hS ?_
   refine jH 2 rfl hS (fun w0 hw0 => Run.indexS _ rfl rfl zap zbi jo) ?_
   refine jH 3 rfl hS (fun w0 hw0 => Run.fieldAddr rfl zak rfl zy jd) ?_
   refine jH 4 rfl hS (fun w0 hw0 => Run.load rfl zai (helV _ (Kw.trans hw0 jp) 0 _ rfl)) ?_
   refine jh 5 hS ?_
   refine jh 6 hS ?_
   refine jH 7 rfl hS (fun w0 hw0 => Run.indexS _ rfl rfl zap zbi jo) ?_
   refine jH 8 rfl hS (fun w0 hw0 => Run.fieldAddr rfl zak rfl zah jd) ?_
   refine jH 9 rfl hS (fun w0 hw0 => Run.load rfl zba (helV _ (Kw.trans hw0 jp) 1 _ rfl)) ?_
   rw [show SL (xA, xc, xb) = .slice xA xb.length xc from rfl]
   refine jH 10 rfl hS (fun w0 hw0 => Run.strOf rfl zg zac zt (rdU (hxe.1.frm (Kw.trans hw0 jp) jp) hxo)) ?_
   refine jh 11 hS ?_
   refine jh 12 hS ?_
   refine jH 13 rfl hS (fun w0 hw0 => Run.indexS _ rfl rfl zap zbi jo) ?_
   refine jH 14 rfl hS (fun w0 hw0 => Run.fieldAddr rfl zak rfl zah jd) ?_
   refine jH 15 rfl hS (fun w0 hw0 => Run.load rfl zba (helV _ (Kw.trans hw0 jp) 1 _ rfl)) ?_
   rw [show SL (xA, xc, xb) = .slice xA xb.length xc from rfl]
   refine qJ.or2 16 18 jK ?_ ?_
   ·
    refine kS.cl rfl (jE1 Tryz.call61) (nG xA xc xb.length xb _ rfl jo hxo (hxe.1.frm (Kw.trans hS jp) jp)) trivial rfl rfl ?_
    rintro e _ ⟨rfl, rfl⟩
    refine ⟨_, rfl, hS, ?_⟩
    refine jH 17 rfl hS (fun w0 hw0 => Run.build (evs.cons rfl (evs.cons rfl (evs.cons rfl evs.nil))) fC (lK).choose_spec.1 (lK).choose_spec.2 (cells := #[jI2 xa, .string (qF xb), .slice none 0 0, .int .u32 ((crcM xb : Nat) : Int)]) rfl) ?_
    refine qJ.m 18 rfl jK (qV.alloc fC) trivial rfl rfl ?_
    rintro _ v5 ⟨rfl, hG5⟩
    have hg15 := hS.size
    have hb0 := hG5.blk
    refine ⟨hS.trans hG5.frm jp, ?_⟩
    have hS := hS.trans hG5.frm jp
    refine qJ.st 19 rfl jK (qT.storeA rfl rfl zbf hb0 rfl (kR (xa, xb, (none, 0, []), crcM xb))) trivial rfl ?_
    rintro v6 ⟨hb15, hf6, hs6⟩
    refine ⟨hS.own hf6 jp, ?_⟩
    have hS := hS.own hf6 jp
    have hb15 : Blk v6 _ 111 #[jI2 xa, .string (qF xb), .slice none 0 0, .int .u32 ((crcM xb : Nat) : Int)] := hb15
    refine qJ.done jK ?_
    refine jN ⟨_, (js7 rfl rfl rfl rfl rfl rfl rfl), ?_⟩
    exact ⟨hS, hg15, hb15⟩
   refine kS.m rfl (qV.alloc fC) trivial rfl rfl ?_
   rintro _ v5 ⟨rfl, hG5⟩
   have hg15 := hS.size
   have hb0 := hG5.blk
   refine ⟨hS.trans hG5.frm jp, ?_⟩
   have hS := hS.trans hG5.frm jp
   refine qJ.cl 16 rfl jK (jE1 Tryz.call61) (nG xA xc xb.length xb _ rfl jo hxo (hxe.1.frm (Kw.trans hS jp) jp)) trivial rfl rfl ?_
   rintro e _ ⟨rfl, rfl⟩
   refine ⟨_, rfl, hS, ?_⟩
   refine jH 17 rfl hS (fun w0 hw0 => Run.build (evs.cons rfl (evs.cons rfl (evs.cons rfl evs.nil))) fC (lK).choose_spec.1 (lK).choose_spec.2 (cells := #[jI2 xa, .string (qF xb), .slice none 0 0, .int .u32 ((crcM xb : Nat) : Int)]) rfl) ?_
   refine qJ.st 19 rfl jK (qT.storeA rfl rfl zbf hb0 rfl (kR (xa, xb, (none, 0, []), crcM xb))) trivial rfl ?_
   rintro v6 ⟨hb15, hf6, hs6⟩
   refine ⟨hS.own hf6 jp, ?_⟩
   have hS := hS.own hf6 jp
   have hb15 : Blk v6 _ 111 #[jI2 xa, .string (qF xb), .slice none 0 0, .int .u32 ((crcM xb : Nat) : Int)] := hb15
   refine qJ.done jK ?_
   refine jN ⟨_, (js7 rfl rfl rfl rfl rfl rfl rfl), ?_⟩
   exact ⟨hS, hg15, hb15⟩
  rintro g15 v6 ⟨hS, hg15, hb15⟩ Γ hΓ
  have hfr0 := bk.fr
  refine jN (VC.sub _ hΓ (jS (jS (jR (jz 0 (jO (jN (jB ?_))))))))
  refine VC.loop (σ := Nat × Option Addr × Nat × Option Addr × Nat) (fun s => [(0, jI0 y), (1, .slice (some ad) i c), (9, .slice s.2.2.2.1 (D.free.length - s.1) s.2.2.2.2), (10, .slice rA (cO bls xa).length rc), (11, .slice PS ps.length pc), (12, jI1 j), (15, jI0 g15), (16, jI1 s.1)]) (fun s wr => s.1 ≤ nd ∧ Blk wr g15 111 #[jI2 xa, .string (qF xb), .slice s.2.1 s.1 s.2.2.1, .int .u32 ((crcM xb : Nat) : Int)] ∧ Own wr 3 1 s.2.1 s.1 s.2.2.1 (ZN (D.free.take s.1)) ∧ Frm [] wk wr ∧ (∀ y ∈ ob s.2.1, g15 < y) ∧ RdX wk (y :: F ++ ob PS) 1 s.2.2.2.1 (D.free.length - s.1) (ZN (D.free.drop s.1)) ∧ D.free.length - s.1 ≤ s.2.2.2.2 ∧ ∀ z ∈ ob s.2.2.2.1, w.heap.size ≤ z) (fun s => nd - s.1) (0, none, 0, fA, fc) (js8 rfl rfl rfl rfl rfl rfl rfl rfl) ⟨zj _, hb15, Own.nil _ _ _, hS, by simp [ob], hfr0, bk.fcap, bk.fup⟩ ?_
  rintro ⟨k, pA, ac, gA, gc⟩ w4k ⟨hk, hb15, hop, K4k, hupp, hfrk, hfck, hgup⟩
  dsimp only at hk hb15 hop hupp hfrk hfck hgup ⊢
  have ks4 := K4k.size
  refine jS (jS (jR (jm rfl (jf rfl zal rfl zbm (jl rfl zde (hb15.cell 1) (je (Run.lenO rfl zt) ?_))))))
  refine jc (jE1 Tryz.call58) (rP xb.length _ jo) ?_
  rintro e _ ⟨rfl, rfl⟩
  rw [← hnde]
  refine ⟨_, rfl, ?_⟩
  refine jb rfl rfl (Bin.lssN _ _) (jO (jN (jv9 0 1 9 10 11 12 15 16 159 ?_)))
  refine jD rfl (fun hc12 => ?_) fun hc12 => ?_
  ·
   have n15 : g15 ∉ ob pA := fun h => zcj _ (hupp _ h)
   have hupw : ∀ y ∈ ob pA, wk.heap.size ≤ y := fun y hy => by have := hupp y hy; omega
   obtain ⟨p, hp⟩ : ∃ p, p = D.free.getD k 0 := ⟨_, rfl⟩
   have hsnf := jI (l := D.free) (i := k) jo
   rw [← hp] at hsnf
   obtain ⟨fd, hgA, _⟩ := hfrk.1.2 jo
   subst hgA
   have hfr4 : ∀ V, Frm (ob pA) w4k V → V.cell? (fd.add 0) = some (jI1 p) := fun V hV => by
    have h1 := (hfrk.1.frm K4k jp).frm hV (fun h0 y hy h => by have h2 := (hfrk.2 h0 y hy).1; have h3 := hupw y h; omega)
    obtain ⟨a2, h2, h3⟩ := rdZ (k := 0) h1 (by rw [zq]) jo
    cases h2
    rw [show (D.free.drop k).getD 0 0 = p by rw [hp, zb, zdp, zb]; rfl] at h3
    exact h3
   have hdr := RdX.drop (k := 1) hfrk (by rw [zq]) jo hfck
   rw [zey, Nat.sub_sub] at hdr
   refine jQ (jN (jv8 0 1 9 10 11 12 15 16 ?_))
   refine jS (jB (jS ?_))
   refine VC.heldL 8 (fun V => Frm (ob pA) w4k V) jK ?_
   have hS : Frm (ob pA) w4k w4k.drew := (Frm.refl _ _).drew
   refine jH 0 rfl hS (fun w0 hw0 => Run.fieldAddr rfl zal rfl zax jd) ?_
   refine jH 1 rfl hS (fun w0 hw0 => Run.load rfl zbx ((hb15.frm hw0 n15).cell 2)) ?_
   refine qJ.r1 2 rfl jK hS (Run.mv rfl) trivial rfl rfl ?_
   refine qJ.r1 3 rfl jK hS (Run.index1 0 rfl rfl zn zm jo) trivial rfl rfl ?_
   refine qJ.r1 4 rfl jK hS (Run.load rfl zaa (hfr4 _ hS)) trivial rfl rfl ?_
   refine qJ.m 5 rfl jK (qV.buildS1 rfl zn zm pG jd jd rfl rfl) trivial rfl rfl ?_
   rintro _ v7 ⟨rfl, hG7⟩
   have hS := hS.trans hG7.frm jp
   refine ⟨hS, ?_⟩
   have k7 : Frm [] w4k v7 := (qP.drew w4k).frm.trans hG7.frm jp
   have hr7 : Rd v7 1 (some ⟨w4k.drew.heap.size, 0, none⟩) 1 (ZN [p]) := Rd.of_blk (n := 1) (size := 1) hG7.blk rfl
   have hop7 := hop.frm k7 jp
   have q7 := k7.size
   refine qJ.m 6 rfl jK (qV.app rfl rfl zn (pH) rfl jd hop7 hr7 (rO _) jo jo) trivial rfl rfl ?_
   rintro _ v8 ⟨B8, d8, rfl, ho8, hf8, hob8⟩
   have hS := hS.trans hf8 (fun x hx => .inl hx)
   refine ⟨hS, ?_⟩
   have e8 : ZN (D.free.take k) ++ ZN [p] = ZN (D.free.take (k + 1)) := by rw [hsnf, ZN, ZN, ZN, zv]
   rw [e8] at ho8
   have hb158 := hb15.frm hS n15
   have hup8 : ∀ x ∈ ob B8, g15 < x := (Fk.of_app hf8 hob8).up (b := g15 + 1) hupp (by have := hb15.lt; omega)
   refine qJ.r1 7 rfl jK hS (Run.fieldAddr rfl zal rfl zax jd) trivial rfl rfl ?_
   refine qJ.stL rfl jK (qT.store rfl rfl zax hb158 rfl rfl) trivial rfl ?_
   rintro v9 ⟨hb159, hf9, hs9⟩
   have hf9 : Frm [g15] v8 v9 := hf9
   have hb159 : Blk v9 g15 111 #[jI2 xa, .string (qF xb), .slice B8 (k + 1) d8, .int .u32 ((crcM xb : Nat) : Int)] := hb159
   have K9 := (K4k.own hS hupw).own hf9 (by simp; omega)
   have ho9 := ho8.frm hf9 (fun x hx h => by rw [za] at h; have := hup8 x hx; omega)
   refine qJ.done jK ?_
   refine jN (jv8 0 1 9 10 11 12 15 16 ?_)
   refine jR (jm rfl (je (Run.sliceS 1 _ rfl zn zm (evB.some_ rfl) evB.none_ jo jo) (ja rfl (jO ?_))))
   refine qH (jN ?_)
   refine jv8 0 1 9 10 11 12 15 16 ?_
   refine jR (jm rfl (jb rfl rfl (Bin.add_i64 _ 1 jo) (ja rfl (jO ?_))))
   refine jN ⟨(k + 1, B8, d8, dS (some fd) gc 1 1, gc - 1), (js8 rfl rfl (by rw [show D.free.length - (k + 1) = D.free.length - k - 1 by omega]; rfl) rfl rfl rfl rfl rfl), ?_, ?_⟩
   · exact ⟨hc12, hb159, ho9, K9, hup8, by rw [show k + 1 = 1 + k by omega]; dsimp only; rw [show D.free.length - (1 + k) = D.free.length - (k + 1) by omega]; rw [show 1 + k = k + 1 by omega]; exact hdr, by dsimp only; omega, fun z hz => hgup z (by dsimp only at hz; rw [kJ] at hz; exact hz)⟩
   exact jq
  obtain rfl : k = nd := jo
  obtain ⟨xp, hxp⟩ : ∃ xp, xp = D.free.take k := ⟨_, rfl⟩
  have hxl : xp.length = k := by rw [hxp, zk]; omega
  rw [← hxp] at hop
  have hb15' : Blk w4k g15 111 (rbC (xa, xb, (pA, ac, xp), crcM xb)).toArray := by
   rw [← hxl] at hb15
   exact hb15
  have hop' := hop
  rw [← hxl] at hop'
  have hx2 : ∀ p ∈ xp, p < 2048 := fun p hp => by have := b.fl p (by rw [hxp] at hp; exact zo hp); omega
  have b4 := bk.frm K4k
  refine jX ?_
  refine qZ (qZ (qN ?_))
  refine jN (jv7 0 1 9 10 11 12 15 ?_)
  refine jS (jR (jm rfl (je (Run.loadA rfl zfv zbf hb15'.cells (by first | rfl | (simp; done))) ?_)))
  refine jc (jE1 Tryz.call62) (qZr xa xb pA ac xp (crcM xb) w4k hxo jo jo (by rw [hxl, hnde]; unfold qI; omega) hx2 hop'.rd) ?_
  rintro e v5 ⟨cB, cd, ps', rfl, hoc, hpsc, hpuc, hf5, hupc⟩
  refine ⟨_, rfl, ?_⟩
  have b5 := b4.frm hf5
  have hps'l : ps'.length = xp.length := by have := congrArg List.length hpsc; rw [cQ, dN, oQ] at this; exact this
  refine Ops.m (qV.app rfl rfl zx (gW) rfl jd b5.po hoc.rd (qKc ps') jo jo) rfl ?_
  rintro _ v6 ⟨P6, p6c, rfl, ho6, hf6, hob6⟩
  dsimp only at ho6 hf6 hob6 ⊢
  rw [← zan] at ho6
  rw [← hps'l, ← zf] at ho6
  have kA : Fk (y :: F ++ ob PS) v5 v6 (y :: F ++ ob P6) := Fk.app hf6 hob6
  have kB := Fk.pre (K4k.trans hf5 jp) kA
  have hb5 := hb15'.frm hf5 jp
  have hb15v := hb5.frm hf6 (b5.po.ne_blk hb5 jd)
  have hor5 := (hor.frm K4k jp).frm hf5 jp
  have hor6 := hor5.frm hf6 (fun x hx h => hor5.ne_own b5.po jd x hx h)
  have hop5 := hop'.frm hf5 jp
  have hop6 := hop5.frm hf6 (fun x hx h => hop5.ne_own b5.po jd x hx h)
  have K6w := b5.K.own hf6 b5.pup
  have hup6 := (Fk.of_app hf6 hob6).up b5.pup b5.K.size
  have hpu6 := (hpuc.off (X' := y :: F ++ ob PS) (fun z hz => .inr (.inl (by
   rcases zcp.1 hz with h | h
   · have h1 := hXl z h; have h2 := b4.K.size; omega
   exact b4.po.lt z h)))).fk kA
  refine ja rfl (jO (jN (jv7 0 1 9 10 11 12 15 ?_)))
  refine jR (jm rfl (je (Run.loadA rfl zfv zbf hb15v.cells (by first | rfl | (simp; done))) ?_))
  refine jc (jE2 Tryz.call63) (qVu rA _ rc (cO bls xa) (xa, xb, (pA, ac, xp), crcM xb) v6 rfl jo hor6.rd) ?_
  rintro e v7 ⟨LA, lc, rfl, hoL, hfL, hupL⟩
  refine ⟨_, rfl, ?_⟩
  have hop7 := hop6.frm hfL jp
  have ho67 := ho6.frm hfL jp
  have hpn7 : RdX v7 (y :: F ++ ob P6) 1 pA xp.length (ZN xp) := ⟨hop7.rd, fun _ z hz => ⟨hop7.lt z hz, fun h => by
   rcases zcp.1 h with h | h
   · have h1 := hXl z h; have h2 := hupp z hz; have h3 := bk.K.size; omega
   exact hop7.ne_own ho67 jd z hz h⟩⟩
  have b7 := bk.put (c := (xa, xb, xg)) jo (kB.frm hfL jp) (K6w.trans hfL jp) hxg hxn.1 hmx.1 hxo hnde hndm hxp rfl hoL (fun z hz => by have h1 := hupL z hz; have h2 := K6w.size; omega) rfl ho67 hpsc ((hpu6.frm hfL).low b4.K.size) hup6 hpn7 hop'.le (hfrk.fk (kB.frm hfL jp)) hfck (fun z hz => by have h1 := hupp z hz; have h2 := b4.K.size; have h3 := bk.K.size; omega) hgup
  have hfr7 : (bV D (xa, xb, xg)).free = D.free.drop k := by unfold bV; rw [if_neg (by simp [hxg])]; dsimp only; rw [← hnde]
  refine ja rfl (jO ?_)
  refine qH (jN ?_)
  refine jv6 0 1 9 10 11 12 ?_
  refine jR (jm rfl (jb rfl rfl (Bin.add_i64 _ 1 jo) (ja rfl (jO ?_))))
  refine jN ⟨⟨j + 1, pX (cO bls xa) (xa, xb, (pA, ac, xp), crcM xb), LA, lc, P6, p6c, ps ++ ps', gA, gc⟩, (js6 rfl rfl (by rw [hraw, hfr7, zq]; rfl) rfl (by rw [zf, hps'l]; rfl) rfl), ?_, ?_⟩
  · exact ⟨hc8, by rw [hraw, hbst]; exact b7⟩
  exact jq
 obtain rfl : j = i := jo
 rw [htk] at b hrl ⊢
 obtain ⟨D, hDe⟩ : ∃ D, D = qO H (chL l) FR := ⟨_, rfl⟩
 rw [← hDe] at b hrl ⊢
 have hDn : D.pairs.length = P0 := by rw [hDe, tJ H (chL l) FR []]; exact hP1
 have hbL : bM H (chL l) = qD D := by rw [hDe, ← qYr H (chL l) FR gz jo, hFRe]; rfl
 obtain ⟨s1, s2, s3, s4, s5⟩ := uI hI hm hbo jo hb40 jo
 rw [hbL] at s1 s2 s4 s5
 have hBe : pJ B (chL l) = dZ B (chL l) := funext (qKn _ _ hm.1)
 rw [hBe] at b
 have hprs : bls.map rZ = D.pairs := b.rel.pairs s4
 have hokD : OkP D.pairs := (s5 H.dk rfl jo).1.okp
 obtain ⟨T, hT⟩ : ∃ T, T = (bQ D.pairs).length := ⟨_, rfl⟩
 have hTp : T = cK P0 := by rw [hT, fH, hDn]
 have hfrl : D.free.length = FR.length - sumN (chL l) := by rw [hDe, qZt H _ FR gz, zq]
 have hw2 := b.K.size
 have hpsn := b.pn
 have hfcp := b.fcap
 dsimp only at hpsn hfcp
 refine jX ?_
 refine qZ (qZ (qN ?_))
 refine jN (jv4 0 9 10 11 ?_)
 refine jS (jR (ja rfl (jO (jN (jS (jS (jR (jz 0 (jO (jN (jB ?_)))))))))))
 refine VC.loop (σ := Nat × Option Addr × Nat) (fun s => [(0, jI0 y), (9, .slice fA D.free.length fc), (10, .slice bA bls.length bc), (11, .slice PS ps.length pc), (17, .slice s.2.1 s.1 s.2.2), (18, jI1 s.1)]) (fun s wr => s.1 ≤ bls.length ∧ Own wr 128 2 s.2.1 s.1 s.2.2 (PC2 ((bls.map rZ).take s.1)) ∧ Frm [] wr2 wr ∧ ∀ z ∈ ob s.2.1, wr2.heap.size ≤ z) (fun s => bls.length - s.1) (0, none, 0) (js6 rfl rfl rfl rfl rfl rfl) ⟨zj _, Own.nil _ _ _, Frm.refl _ _, by simp [ob]⟩ ?_
 rintro ⟨k, A, cA⟩ wk ⟨hk, ho, Kk, hup⟩
 dsimp only at hk ho hup ⊢
 have ksk := Kk.size
 refine jS (jS (jR (jm rfl (jm rfl (jL rfl zao (jb rfl rfl (Bin.lssN _ _) (jO (jN (jv7 0 9 10 11 17 18 182 ?_)))))))))
 refine jD rfl (fun hc13 => ?_) fun hc13 => ?_
 ·
  have hpm := qMg bls k hc13
  obtain ⟨z, hz⟩ : ∃ z, z = bls.getD k rb0 := ⟨_, rfl⟩
  have hzm : z ∈ bls := hz ▸ uD hc13
  obtain ⟨bd, hbA, hcA⟩ := uA (b.frm Kk).bo.rd rfl hc13 z hz
  have hze := (b.frm Kk).el z hzm
  have hbA1 := hbA
  rw [← hz] at hpm
  obtain ⟨zi, zS, ⟨zA, zc, zp⟩, zs⟩ := z
  dsimp only at hbA hbA1 hcA hze
  obtain ⟨z1, z2, z3, z4, z5, z6, z7, z8⟩ := hze
  dsimp only at z1 z2 z3 z4 z5 z6 z7 z8
  rw [hbA]
  refine jQ (jN (jv6 0 9 10 11 17 18 ?_))
  refine jS (jB (jR (jm rfl (jm rfl (jm rfl (je (Run.indexS _ rfl rfl zao zbf jo) (je (Run.loadA rfl zfv zbf (hcA _ (Frm.refl _ _)) (by first | rfl | (simp; done))) ?_)))))))
  refine jc (jE1 Tryz.call64) (qJs zi zS zA zc zp zs _ z1 z3 z4 (fun p hp => by have := z7 p hp; omega) z8 z5.1) ?_
  rintro e v5 ⟨rfl, hf5⟩
  refine ⟨_, rfl, ?_⟩
  have ho5 := ho.frm hf5 jp
  have K5k := Kk.trans hf5 jp
  refine Ops.m (qV.buildS1 rfl zl zu dL jd jd rfl rfl) rfl ?_
  rintro _ v6 ⟨rfl, hG6⟩
  have hr6 : Rd v6 2 (some ⟨v5.heap.size, 0, none⟩) 1 (prC (rZ (zi, zS, (zA, zc, zp), zs))) := Rd.of_blk (n := 1) (size := 2) hG6.blk rfl
  have ho6 := ho5.frm hG6.frm jp
  have K6k := K5k.trans hG6.frm jp
  have q6 := K6k.size
  refine Ops.m (qV.app rfl rfl zl (kK) rfl jd ho6 hr6 (eH _) jo jo) rfl ?_
  rintro _ v7 ⟨B7, d7, rfl, ho7, hf7, hob7⟩
  rw [← hpm] at ho7
  rw [← hbA1]
  refine ja rfl (jO ?_)
  refine qH (jN ?_)
  refine jv6 0 9 10 11 17 18 ?_
  refine jR (jm rfl (jb rfl rfl (Bin.add_i64 _ 1 jo) (ja rfl (jO ?_))))
  refine jN ⟨(k + 1, B7, d7), (js6 rfl rfl rfl rfl rfl rfl), ?_, ?_⟩
  · exact ⟨hc13, ho7, K6k.own hf7 hup, (Fk.of_app hf7 hob7).up hup q6⟩
  exact jq
 obtain rfl : k = bls.length := jo
 rw [zh (by rw [zae]; omega), hprs] at ho
 have bk := b.frm Kk
 refine jX ?_
 refine qZ (qZ (qN ?_))
 refine jN (jv5 0 9 10 11 17 ?_)
 refine jS (jR (jM ?_))
 refine jc (jE1 Tryz.call60) (pQ A _ cA D.pairs wk hrl.symm jo ho.rd hokD) ?_
 rintro e w7 ⟨tB, td, rfl, hoT, hf7, hupT⟩
 rw [← hT] at hoT ⊢
 refine ⟨_, rfl, ?_⟩
 have b7 := bk.frm hf7
 obtain ⟨dir, hdir⟩ : ∃ dir, dir = D.free.take T := ⟨_, rfl⟩
 have hdl : dir.length = T := by rw [hdir, zk]; omega
 have hdP : (qD D).dir = dir := by rw [hdir, hT]; rfl
 have hdp : ∀ p ∈ dir, p < H.N := fun p hp => b.fl p (by rw [hdir] at hp; exact zo hp)
 have hDT : ∀ {W : World} {X : List Nat}, RdX W X 1 fA D.free.length (ZN D.free) → RdX W X 1 fA T (ZN dir) := fun h => by rw [hdir]; exact h.take jo
 have K7w := b7.K
 obtain ⟨hd0, hhd0⟩ : ∃ hd0, hd0 = fun k : Nat => fP ++ qC T 2 ++ (dir.take k).flatMap fun p => qC p 2 := ⟨_, rfl⟩
 have hhl : ∀ k, k ≤ T → (hd0 k).length = 6 + 2 * k := fun k hk => by
  have e1 : ∀ L : List Nat, (L.flatMap fun p => qC p 2).length = 2 * L.length := fun L => by
   induction L with
   | nil => rfl
   | cons a r ih => rw [zaw, zf, numL_len, zad, ih]; omega
  rw [hhd0]
  dsimp only
  rw [zf, zf, numL_len, e1, zk, hdl, zbh hk]
  rfl
 have hhB : hd0 T = dI dir := by rw [hhd0]; dsimp only; rw [zh jo, dI, hdl]
 refine ja rfl (jO (jN (jv5 0 9 10 11 19 ?_)))
 refine jS (jR (jm rfl (jm rfl (jL rfl zar (je (Run.sliceS 0 _ rfl zn zm evB.none_ (evB.some_ rfl) jo jo) ?_)))))
 rw [dP, zcc]
 refine ja rfl (jO (jN (jv5 0 10 11 19 20 ?_)))
 refine jS (jR (jm rfl (jL rfl zn (je (Run.convN _ rfl zz zr (by simp only [bmax]; omega)) ?_))))
 refine jc (jE2 zgm) (kQ T 2 _ jo jo jo) ?_
 rintro e w8 ⟨rfl, hf8⟩
 refine ⟨_, rfl, ?_⟩
 have b8 := b7.frm hf8
 have hoT8 := hoT.frm hf8 jp
 refine je (Run.addO (a := fP) rfl rfl (by rw [numL_len]; decide)) (ja rfl (jO (jN (jv6 0 10 11 19 20 21 ?_))))
 refine jS (jS (jR (jz 0 (jO (jN (jB ?_))))))
 refine VC.loop (σ := Nat × Option Addr × Nat × List Pq) (fun s => [(0, jI0 y), (10, .slice bA bls.length bc), (11, .slice s.2.1 s.2.2.2.length s.2.2.1), (19, .slice tB T td), (20, .slice fA T fc), (21, .string (qF (hd0 s.1))), (22, jI1 s.1)]) (fun s wr => s.1 ≤ T ∧ Own wr 132 2 s.2.1 s.2.2.2.length s.2.2.1 (s.2.2.2.flatMap pqC) ∧ puL s.2.2.2 = D.puts ++ dX dir (bQ D.pairs) s.1 ∧ PuS w.heap.size wr (y :: F ++ ob s.2.1) s.2.2.2 ∧ Fk (y :: F ++ ob PS) w8 wr (y :: F ++ ob s.2.1) ∧ Frm [] w wr ∧ (∀ z ∈ ob s.2.1, w.heap.size ≤ z) ∧ s.2.2.2.length = ps.length + s.1) (fun s => T - s.1) (0, PS, pc, ps) (js7 rfl rfl rfl rfl rfl (by rw [hhd0]; dsimp only; rw [zcs, zek, zav]; rfl) rfl) ⟨zj _, b8.po, by rw [show dX dir (bQ D.pairs) 0 = [] from rfl, zav]; exact b8.pl, b8.pu, Fk.refl _ _, b8.K, b8.pup, rfl⟩ ?_
 rintro ⟨k, P6, p6c, qs⟩ wk ⟨hk, hoP, hpsP, hpuP, kF, KF, hupP, hqn⟩
 dsimp only at hk hoP hpsP hpuP kF hupP hqn ⊢
 have hhk := hhl k hk
 have ksz := KF.size
 refine jS (jS (jR (jm rfl (jm rfl (jL rfl zn (jb rfl rfl (Bin.lssN _ _) (jO (jN (jv8 0 10 11 19 20 21 22 207 ?_)))))))))
 refine jD rfl (fun hc14 => ?_) fun hc14 => ?_
 ·
  have hsnp := uT dir (bQ D.pairs) k
  obtain ⟨p, hp⟩ : ∃ p, p = dir.getD k 0 := ⟨_, rfl⟩
  have hpN : p < H.N := hp ▸ hdp _ (bG jo)
  have hpg := mB D.pairs ((bQ D.pairs).getD k []) (by rw [zb, ze jo]; exact zbp _)
  obtain ⟨pg, hpge⟩ : ∃ pg, pg = (bQ D.pairs).getD k [] := ⟨_, rfl⟩
  have hhs : hd0 (k + 1) = hd0 k ++ qC p 2 := by
   rw [hhd0]
   dsimp only
   rw [jI jo, zan, ← hp, zab (fP ++ qC T 2)]
   simp
  rw [← hp, ← hpge] at hsnp
  rw [← hpge] at hpg
  have hdrk := (hDT b8.fr).fk kF
  have hoTk := hoT8.frm kF.1 (fun x hx h => by
   rcases zcp.1 h with h | h
   · have h1 := hXl x h; have h2 := hupT x hx; have h3 := bk.K.size; omega
   exact hoT8.ne_own b8.po jd x hx h)
  obtain ⟨fd, hfd, _⟩ := hdrk.1.2 jo
  have hdc : ∀ V, Frm (ob P6) wk V → V.cell? (fd.add k) = some (jI1 p) := fun V hV => by
   have h1 := hdrk.1.frm hV (fun h0 z hz h => (hdrk.2 h0 z hz).2 (zfu _ h))
   obtain ⟨a2, h2, h3⟩ := rdZ h1 hdl hc14
   rw [hfd] at h2
   cases h2
   rw [← hp] at h3
   exact h3
  obtain ⟨te, hte, _⟩ := hoTk.rd.2 jo
  have htc : ∀ V, Frm (ob P6) wk V → V.cell? (te.add k) = some (.string (qF pg)) := fun V hV => by
   have h1 := hoTk.frm hV (fun x hx h => hoTk.ne_own hoP jd x hx h)
   obtain ⟨a2, h2, h3⟩ := rdSS h1.rd hT.symm hc14
   rw [hte] at h2
   cases h2
   rw [← hpge] at h3
   exact h3
  have hfd1 := hfd
  have hte1 := hte
  rw [hfd, hte]
  refine jQ (jN (jv7 0 10 11 19 20 21 22 ?_))
  refine jS (jB (jS ?_))
  refine VC.held (fun V => Frm (ob P6) wk V) jK ?_
  have hT0 : Frm [] wk wk.drew := (Frm.refl _ _).drew
  have hS : Frm (ob P6) wk wk.drew := (Frm.refl _ _).drew
  refine jh 0 hS ?_
  refine jh 1 hS ?_
  refine jh 2 hS ?_
  refine jH 3 rfl hS (fun w0 hw0 => Run.index1 _ rfl rfl zn zm jo) ?_
  refine jH 4 rfl hS (fun w0 hw0 => Run.load rfl zaa (hdc _ hw0)) ?_
  refine jH 5 rfl hS (fun w0 hw0 => Run.bin rfl rfl (Bin.add_i64 42 _ jo)) ?_
  refine jh 6 hS ?_
  refine jh 7 hS ?_
  refine jH 8 rfl hS (fun w0 hw0 => Run.index1 _ rfl rfl zar zbm jo) ?_
  refine jH 9 rfl hS (fun w0 hw0 => Run.load rfl zde (htc _ hw0)) ?_
  refine qJ.m 10 rfl jK (qV.octO rfl zt zg zac hpg.2) trivial rfl rfl ?_
  rintro _ v5 ⟨CB, cc, rfl, hrC, hf5, hupC⟩
  refine ⟨hS.trans hf5 jp, ?_⟩
  have q5 := hS.size
  have hS := hS.trans hf5 jp
  have hT0 := hT0.trans hf5 jp
  refine jH 11 rfl hS (fun w0 hw0 => Run.build (evs.cons rfl (evs.cons rfl evs.nil)) cP (cR).choose_spec.1 (cR).choose_spec.2 (cells := (pqC (42 + p, (CB, cc, pg))).toArray) rfl) ?_
  refine qJ.m 12 rfl jK (qV.buildS1 rfl zx zbe cP jd jd rfl rfl) trivial rfl rfl ?_
  rintro _ v6 ⟨rfl, hG6⟩
  refine ⟨hS.trans hG6.frm jp, ?_⟩
  have hr6 : Rd v6 2 (some ⟨v5.heap.size, 0, none⟩) 1 (pqC (42 + p, (CB, cc, pg))) := Rd.of_blk (n := 1) (size := 2) hG6.blk rfl
  have hS := hS.trans hG6.frm jp
  have hT0 := hT0.trans hG6.frm jp
  have ho6 := hoP.frm hT0 jp
  have hpu6 := hpuP.frm hT0
  have q6 := hT0.size
  have hrC6 := hrC.frm hG6.frm jp
  have hlC := hrC.lt
  refine qJ.m 13 rfl jK (qV.app rfl rfl zx (gW) rfl jd ho6 hr6 (eG _) jo jo) trivial rfl rfl ?_
  rintro _ v7 ⟨B7, d7, rfl, ho7, hf7, hob7⟩
  refine ⟨hS.trans hf7 (fun x hx => .inl hx), ?_⟩
  have hS := hS.trans hf7 (fun x hx => .inl hx)
  have e7 : qs.flatMap pqC ++ pqC (42 + p, (CB, cc, pg)) = (qs ++ [(42 + p, (CB, cc, pg))]).flatMap pqC := jp
  rw [e7] at ho7
  have kA : Fk (y :: F ++ ob P6) v6 v7 (y :: F ++ ob B7) := Fk.app hf7 hob7
  have kF7 := kF.trans (Fk.pre hT0 kA)
  have KF7 := (KF.trans hT0 jp).own hf7 hupP
  have hup7 := (Fk.of_app hf7 hob7).up hupP (jo : w.heap.size ≤ v6.heap.size)
  have hCo : ∀ z ∈ ob CB, z ∉ y :: F ++ ob P6 := fun z hz h => by
   have h1 := hupC z hz
   rcases zcp.1 h with h | h
   · have h2 := hXl z h; omega
   have h2 := hoP.lt z h; omega
  have hpu7 := (hpu6.fk kA).snoc (x := (42 + p, (CB, cc, pg))) (hrC6.frm hf7 (fun _ z hz h => hCo z hz (zfu _ h))) (fun z hz => by
   have h1 := hupC z hz
   have h2 := hlC jo z hz
   have h3 := hG6.frm.size
   have h4 := hf7.size
   exact ⟨⟨jo, kA.out jo (hCo z hz)⟩, jo⟩)
  have hdc7 : v7.cell? (fd.add k) = _ := hdc v7 hS
  refine jH 14 rfl hS (fun w0 hw0 => Run.asg rfl) ?_
  refine qJ.done jK ?_
  refine jN (jv7 0 10 11 19 20 21 22 ?_)
  refine jR (jm rfl (jm rfl (jm rfl (je (Run.index1 _ rfl rfl zn zm jo) (jl rfl zaa hdc7 (je (Run.convN _ rfl zz zr (by simp only [bmax]; omega)) ?_))))))
  refine jc (jE2 zgm) (kQ p 2 _ jo jo jo) ?_
  rintro e v8 ⟨rfl, hf8'⟩
  refine ⟨_, rfl, ?_⟩
  refine je (Run.addO rfl rfl (by rw [numL_len, hhk]; omega)) ?_
  rw [← hhs, ← hfd1, ← hte1]
  refine ja rfl (jO ?_)
  refine qH (jN ?_)
  refine jv7 0 10 11 19 20 21 22 ?_
  refine jR (jm rfl (jb rfl rfl (Bin.add_i64 _ 1 jo) (ja rfl (jO ?_))))
  refine jN ⟨(k + 1, B7, d7, qs ++ [(42 + p, (CB, cc, pg))]), (js7 rfl rfl (by rw [zf]; rfl) rfl rfl rfl rfl), ?_, ?_⟩
  · exact ⟨hc14, by dsimp only; rw [zf]; exact ho7.frm hf8' jp, by dsimp only; rw [hsnp, ← zab, ← hpsP]; simp [puL], hpu7.frm hf8', kF7.frm hf8' jp, KF7.trans hf8' jp, hup7, by dsimp only; rw [zf]; simp only [zck]; omega⟩
  exact jq
 obtain rfl : T = k := jo
 rw [hhB]
 have hsl := eE dir
 have hsB := lH dir
 have hs128 := yW (dir := dir) jo
 refine jX ?_
 refine qZ (qZ (qN ?_))
 refine jN (jv5 0 10 11 20 21 ?_)
 refine jS (jR (jm rfl (jM ?_)))
 refine Ops.m (qV.octO rfl zt zg zac hsB) rfl ?_
 rintro _ w9 ⟨CB, cc, rfl, hrC, hf9, hupC⟩
 refine jc (jE1 Tryz.call67) (oZ CB cc _ (dI dir) w9 rfl jo hsB hrC) ?_
 rintro e w10 ⟨rfl, hf10⟩
 refine ⟨_, rfl, ?_⟩
 refine jc (jE1 Tryz.call66) (tY (fW (dI dir)) w10 (by rw [fY]; omega) (sS hsB)) ?_
 rintro e w11 ⟨SB, sc, rfl, hrS, hf11, hupS⟩
 refine ⟨_, rfl, ?_⟩
 have hrS : Rd w11 1 SB 128 (NB (bR dir)) := hrS
 have k911 : Frm [] wk w11 := (hf9.trans hf10 jp).trans hf11 jp
 refine je (Run.build (evs.cons rfl (evs.cons rfl evs.nil)) cP (cR).choose_spec.1 (cR).choose_spec.2 (cells := (pqC (41, (SB, sc, bR dir))).toArray) (by rw [pqC, SL, hs128]; rfl)) ?_
 refine Ops.m (qV.buildS1 rfl zx zbe cP jd jd rfl rfl) rfl ?_
 rintro _ w12 ⟨rfl, hG12⟩
 have hr12 : Rd w12 2 (some ⟨w11.heap.size, 0, none⟩) 1 (pqC (41, (SB, sc, bR dir))) := Rd.of_blk (n := 1) (size := 2) hG12.blk rfl
 have k912 := k911.trans hG12.frm jp
 have ho12 := hoP.frm k912 jp
 have hpu12 := hpuP.frm k912
 have hrS12 := hrS.frm hG12.frm jp
 have hlS := hrS.lt
 have q12 := k912.size
 refine Ops.m (qV.app rfl rfl zx (gW) rfl jd ho12 hr12 (eG _) jo jo) rfl ?_
 rintro _ w13 ⟨P7, p7c, rfl, ho13, hf13, hob13⟩
 have e13 : qs.flatMap pqC ++ pqC (41, (SB, sc, bR dir)) = (qs ++ [(41, (SB, sc, bR dir))]).flatMap pqC := jp
 rw [e13] at ho13
 have kA : Fk (y :: F ++ ob P6) w12 w13 (y :: F ++ ob P7) := Fk.app hf13 hob13
 have kF13 := kF.trans (Fk.pre k912 kA)
 have K13 := (KF.trans k912 jp).own hf13 hupP
 have hup13 := (Fk.of_app hf13 hob13).up hupP (jo : w.heap.size ≤ w12.heap.size)
 have q10 := (hf9.trans hf10 jp).size
 have hSo : ∀ z ∈ ob SB, z ∉ y :: F ++ ob P6 := fun z hz h => by
  have h1 := hupS z hz
  rcases zcp.1 h with h | h
  · have h2 := hXl z h; omega
  have h2 := hoP.lt z h; omega
 have hpu13 := (hpu12.fk kA).snoc (x := (41, (SB, sc, bR dir))) (by rw [hs128]; exact hrS12.frm hf13 (fun _ z hz h => hSo z hz (zfu _ h))) (fun z hz => by
  have h1 := hupS z hz
  have h2 := hlS jo z hz
  have h3 := hG12.frm.size
  have h4 := hf13.size
  exact ⟨⟨jo, kA.out jo (hSo z hz)⟩, jo⟩)
 obtain ⟨qz, hqz⟩ : ∃ qz, qz = qs ++ [(41, (SB, sc, bR dir))] := ⟨_, rfl⟩
 have hql : qz.length = qs.length + 1 := by rw [hqz, zf]; rfl
 rw [← hqz] at ho13 hpu13
 have hPl : puL qz = (qD D).puts := by
  rw [hqz]
  have : puL (qs ++ [(41, (SB, sc, bR dir))]) = puL qs ++ [(41, bR dir)] := by simp [puL]
  rw [this, hpsP, hdir, hT]
  rfl
 have hq40 : qz.length ≤ 40 := by have := s1.1.2; rw [← hPl, cQ] at this; exact this
 have hqm : ∀ x ∈ qz, (x.1, x.2.2.2) ∈ (qD D).puts := fun x hx => by rw [← hPl]; exact List.mem_map.2 ⟨x, hx, rfl⟩
 have hrp : RdP w13 P7 (qs.length + 1) qz := ⟨hql, ho13.rd, fun x hx => (hpu13 x hx).1, fun x hx => by have := (s2 _ (hqm x hx)).1; omega, fun x hx => (s2 _ (hqm x hx)).2.2⟩
 have hos : OffS w13 F P7 qz := ⟨fun z hz => ⟨fun h => by have h1 := hup13 z hz; have h2 := hXl z (by simp [h]); omega, ho13.lt z hz⟩, fun x hx z hz => ⟨fun h => ((hpu13 x hx).2 z hz).1.2 (by simp [h]), ((hpu13 x hx).2 z hz).1.1⟩⟩
 have hY13 := hY.frm K13
 have hcm : qL H.dk (bO (puL qz)) = bK H.dk (qD D).puts := by
  rw [hPl]
  unfold bK
  rw [if_neg (fun h => h.elim (fun h1 => jo) (fun h1 => h1 s1))]
 have hcl2 := eK H.dk (qD D).puts
 have hcw := rU H.dk (qD D).puts s1.1.2
 refine ja rfl (jO (jN (jv4 0 10 11 20 ?_)))
 refine jS (jS (jR (jm rfl (jZ rfl (jf rfl zay rfl zgx (jl rfl Tryz.isAgg49 (hY13.blk.cell 0) (jM ?_)))))))
 refine jc (jE2 Tryz.call68) (qQ0 P7 (qs.length + 1) p7c qz gm F H.dk w13 hY13.dk jo jo hrp hos (fun x hx => (s2 _ (hqm x hx)).2.1) (fun x hx => by have := (s1.2.1 _ (hqm x hx)).1.2; omega)) ?_
 rintro e w14 ⟨F', rfl, hD14, hk14⟩
 rw [hcm] at hD14
 rw [hcm]
 refine ⟨_, rfl, ?_⟩
 obtain ⟨hY14, hk2⟩ := hY13.disk hD14 hk14 hcl2 jo
 have hbat : qB H (chL l) = if (bK H.dk (qD D).puts).1 ≠ 0 then ((bK H.dk (qD D).puts).1, { H with dk := (bK H.dk (qD D).puts).2 }) else (0, (H.plan (bK H.dk (qD D).puts).2 (qD D)).count) := by
  unfold qB
  rw [if_neg (not_not_intro hm), if_neg (not_not_intro hgo), if_neg jo, if_neg jo, hbL]
 generalize bK H.dk (qD D).puts = cm at *
 obtain ⟨ce, dk'⟩ := cm
 dsimp only at hbat hY14 hD14 hcl2 hcw ⊢
 refine ja rfl (jO (jN (jv4 0 10 20 23 ?_)))
 refine jS (jR (jm rfl (jb rfl rfl (Bin.neqN _ 0) (jO (jN (jv5 0 10 20 23 247 ?_))))))
 refine jD rfl (fun hc15 => ?_) fun hc15 => ?_
 ·
  have hce : ce ≠ 0 := jo
  rw [if_pos hce] at hbat
  refine jS (jR (jm rfl (ja rfl (jO (jN (jv1 4 ?_))))))
  refine jT ?_
  refine qQ (qS rfl ?_)
  rw [hbat]
  dsimp only
  rw [if_neg hce]
  exact ⟨F', bl, q, rfl, hY14, hrel, (Fk.of0 K13).trans hk2, fun E _ h => h⟩
 have hce : ce = 0 := jo
 rw [if_neg (not_not_intro hce)] at hbat
 have hbo13 : RdX w13 (y :: F) 4 bA bls.length (bls.flatMap rbC) := by
  have h1 := b8.bo.frm kF13.1 (fun x hx h => by
   rcases zcp.1 h with h | h
   · have h2 := hXl x h; have h3 := b8.bup x hx; omega
   exact b8.bo.ne_own b8.po jd x hx h)
  exact ⟨h1.rd, fun _ z hz => ⟨h1.lt z hz, fun h => by have h2 := hXl z h; have h3 := b8.bup z hz; omega⟩⟩
 have hbo14 := hbo13.fk hk2
 have hdr14 := (((hDT b8.fr).fk kF13).mono (Y := y :: F) (fun z hz => zeo _ hz)).fk hk2
 have hel14 := fun x (hx : x ∈ bls) => ((((b8.el x hx).fk kF13).mono (Y := y :: F) (fun z hz => zeo _ hz)).fk hk2)
 have hb14 := hY14.blk
 refine jQ (jN (jv3 0 10 20 ?_))
 refine jS (jR (jm rfl (jm rfl (jZ rfl (jf rfl zay rfl zco ?_)))))
 refine Ops.st (qT.store rfl rfl zco hb14 rfl rfl) ?_
 rintro w15 ⟨hb15, hf15, hs15⟩
 have hf15 : Frm [y] w14 w15 := hf15
 have hb15 : Blk w15 y 121 #[jI0 gm, .slice bA bls.length bc, .slice q.dA H.dir.length q.dc] := hb15
 refine jO (jN (jv2 0 20 ?_))
 refine jS (jR (jm rfl (jm rfl (jZ rfl (jf rfl zay rfl zax ?_)))))
 refine Ops.st (qT.store rfl rfl zax hb15 rfl rfl) ?_
 rintro w16 ⟨hb16, hf16, hs16⟩
 have hf16 : Frm [y] w15 w16 := hf16
 have hb16 : Blk w16 y 121 #[jI0 gm, .slice bA bls.length bc, .slice fA T fc] := hb16
 have hny := hY14.ny
 have hf1 := hf15.trans hf16 (fun x hx => .inl hx)
 have hk16 : Fk (y :: F') w14 w16 (y :: F') := Fk.self hf1 jp
 refine jO (jN ?_)
 refine VC.sub [] .nil ?_
 refine jS (jR (jz 0 (jO (jN (jT ?_)))))
 refine qS rfl ?_
 rw [hbat]
 refine ⟨F', bls, ⟨bA, bc, fA, fc⟩, rfl, ?_, ?_, ((Fk.of0 K13).trans hk2).trans hk16, fun E hE h => ⟨fun _ z hz e => by have h1 := hE z e; have h2 := b8.bup z hz; omega, fun _ z hz e => by have h1 := hE z e; have h2 := b8.fup z hz; omega, fun x hx h0 z hz e => by
  rcases b8.el2 x hx with h3 | h3
  · exact h.el x h3 h0 z hz e
  have h1 := hE z e; have h2 := h3 z hz; omega⟩⟩
 ·
  show IsRw w16 y gm F' dk' bls (qD D).dir _
  rw [hdP]
  have hNd : H.N = dk'.has.length - 42 := by rw [hN, hcl2]
  exact ⟨hD14.frm hf1 (fun x hx h => by rw [za] at h; subst h; exact hny hx), hny, by rw [hdl]; exact hb16, hbo14.fk hk16, fun x hx => by rw [← hNd]; exact (hel14 x hx).fk hk16, by rw [hdl]; exact hdr14.fk hk16, fun p hp => by rw [← hNd]; exact hdp p hp, by rw [hcl2]; exact hsz, jo, jo, jo⟩
 exact b8.rel
def eF (b : List Nat) : List Nat := (List.range (bC b 4 2)).map fun i => bC b (6 + 2 * i) 2
def yS (N : Nat) (b : List Nat) : Prop := bC b 4 2 ≤ 59 ∧ bR (eF b) = b ∧ ∀ p ∈ eF b, p < N
theorem lX (b : List Nat) : (eF b).length = bC b 4 2 := by simp [eF]
theorem qKo {b : List Nat} {i : Nat} (h : i < bC b 4 2) : (eF b).getD i 0 = bC b (6 + 2 * i) 2 := by
 unfold eF
 rw [zb, zbr, ze (by simpa using h), zdq]
 rfl
theorem qZu {b : List Nat} (hB : ∀ x ∈ b, x < 256) {a : Nat} (h : a + 2 ≤ b.length) : qC (bC b a 2) 2 ++ b.drop (a + 2) = b.drop a := by
 rw [(eI h).2]
 have h1 := qXj ((b.drop a).take 2) (fun x hx => hB x (zau (zo hx)))
 rw [show ((b.drop a).take 2).length = 2 by rw [zk, zq]; omega] at h1
 rw [h1, ← zey, zbq]
theorem qZv {b : List Nat} (hB : ∀ x ∈ b, x < 256) : ∀ k, 6 + 2 * k ≤ b.length → (((List.range k).map fun i => bC b (6 + 2 * i) 2).flatMap fun p => qC p 2) ++ b.drop (6 + 2 * k) = b.drop 6
 | 0, _ => rfl
 | k + 1, h => by
  rw [zda, zv, zan, zbo, zge, zaw, zek, zav, zab, show 6 + 2 * (k + 1) = 6 + 2 * k + 2 by omega, qZu hB jo, qZv hB k jo]
theorem qZw {b : List Nat} (hl : b.length = 128) (hB : ∀ x ∈ b, x < 256) (hn : bC b 4 2 ≤ 59) (hm : b.take 4 = fP) : dI (eF b) = b.take (6 + 2 * bC b 4 2) := by
 have h1 := qZv hB (bC b 4 2) jo
 have h2 := qZu hB (a := 4) jo
 have h3 : dI (eF b) ++ b.drop (6 + 2 * bC b 4 2) = b := by
  unfold dI
  rw [lX, zab, zab]
  unfold eF
  rw [h1, h2, ← hm, zbq]
 have h4 := zfj (l₁ := dI (eF b)) (l₂ := b.drop (6 + 2 * bC b 4 2)) (i := 6 + 2 * bC b 4 2) (by rw [eE, lX])
 rw [h3] at h4
 exact h4.symm
theorem qKp {b : List Nat} (hl : b.length = 128) (hB : ∀ x ∈ b, x < 256) (hn : bC b 4 2 ≤ 59) : bR (eF b) = b ↔ dR (b.take (6 + 2 * bC b 4 2)) = b ∧ b.take 4 = fP := by
 constructor
 ·
  intro h
  obtain ⟨r, hr⟩ := qYb (dI (eF b)) (by rw [eE, lX]; omega)
  have h1 : b = dI (eF b) ++ r := h.symm.trans hr
  have hm : b.take 4 = fP := by
   conv => lhs; rw [h1]
   rw [dI, zab, zab]
   exact zfj rfl
  exact ⟨by rw [← qZw hl hB hn hm]; exact h, hm⟩
 rintro ⟨h, hm⟩
 rw [bR, qZw hl hB hn hm]; exact h
def trM (d : Dk) : Nat → Int → Option (List Nat × Int)
 | 0, a => some ([], a)
 | n + 1, a => if 0 ≤ a ∧ a < ((d.has.length - 42 : Nat) : Int) then (trM d n (((bC (d.sec (42 + a.toNat)) 0 2 : Nat) : Int) - 1)).map fun r => (a.toNat :: r.1, r.2) else none
def eW (d : Dk) (x : Pr) : Option (List Nat) := if 4032 < cN x then none else (trM d (qI (cN x)) (((x.2 % 65536 : Nat) : Int) - 1)).bind fun r => if r.2 = -1 then some r.1 else none
def pgO (d : Dk) (x : Pr) : List Nat := (eW d x).getD []
def fK (d : Dk) : List Nat := eF (d.sec 41)
def pK (d : Dk) : List (List Nat) := (fK d).map fun p => d.sec (42 + p)
def opL (d : Dk) : List Pr := cU (pK d)
structure OpenPre (d : Dk) : Prop where
 sup : yS (d.has.length - 42) (d.sec 41)
 tree : eR (pK d)
 tr : ∀ x ∈ opL d, (eW d x).isSome = true
structure OpenOk (d : Dk) : Prop extends OpenPre d where
 nod : (fK d ++ (opL d).flatMap (pgO d)).Nodup
def qZx (d : Dk) (id : Nat) : Option Pr := (opL d).find? fun x => decide (x.1 = id)
def cI (d : Dk) : Hm := ⟨d, opL d, fK d, fun id => match qZx d id with
 | some x => pgO d x
 | none => [], fun p => decide (p ∈ fK d ++ (opL d).flatMap (pgO d))⟩
def octO (d : Dk) (x : Pr) : List Nat := ((pgO d x).flatMap fun p => (d.sec (42 + p)).drop 2).take (cN x)
def oJ (d : Dk) (id : Nat) : List Nat := match qZx d id with
 | some x => octO d x
 | none => []
theorem qZy {α : Type} {R : α → α → Prop} : ∀ {l : List α}, l.Pairwise R → ∀ {a b : α}, a ∈ l → b ∈ l → a = b ∨ R a b ∨ R b a
 | c :: r, hp, a, b, ha, hb => by
  obtain ⟨p1, p2⟩ := List.pairwise_cons.1 hp
  rcases zaq.1 ha with e1 | ha
  ·
   rcases zaq.1 hb with e2 | hb
   · exact .inl (by rw [e1, e2])
   exact .inr (.inl (by rw [e1]; exact p1 b hb))
  rcases zaq.1 hb with e2 | hb
  · exact .inr (.inr (by rw [e2]; exact p1 a ha))
  exact qZy p2 ha hb
theorem zN : ∀ {l : List Pr}, (∀ i, i + 1 < l.length → (l.getD i (0, 0)).1 < (l.getD (i + 1) (0, 0)).1) → Srt l
 | [], _ => List.Pairwise.nil
 | [a], _ => List.pairwise_singleton _ _
 | a :: b :: r, h => by
  have ih : Srt (b :: r) := zN fun i hi => h (i + 1) (by simp at hi ⊢; omega)
  refine List.pairwise_cons.2 ⟨fun x hx => ?_, ih⟩
  have h0 : a.1 < b.1 := h 0 jp
  rcases zaq.1 hx with rfl | hx
  · exact h0
  have := (List.pairwise_cons.1 ih).1 x hx
  omega
theorem qZz (d : Dk) : ∀ (n : Nat) (a : Int) (r : List Nat × Int), trM d n a = some r → r.1.length = n ∧ (∀ p ∈ r.1, p < d.has.length - 42) ∧ (n = 0 → r.2 = a) ∧ (0 < n → ((r.1.getD 0 0 : Nat) : Int) = a)
 | 0, a, r, h => by
  injection h with h
  subst h
  exact ⟨rfl, (fun p hp => by cases hp), fun _ => rfl, fun h => absurd h jo⟩
 | n + 1, a, r, h => by
  unfold trM at h
  split at h
  ·
   next ha =>
   cases hq : trM d n (((bC (d.sec (42 + a.toNat)) 0 2 : Nat) : Int) - 1) with
   | none => rw [hq] at h; cases h
   | some q =>
    rw [hq] at h
    injection h with h
    subst h
    obtain ⟨i1, i2, _, _⟩ := qZz d n _ q hq
    refine ⟨by simp [i1], fun p hp => ?_, fun h => jo, fun _ => ?_⟩
    ·
     rcases zaq.1 hp with rfl | hp
     · omega
     exact i2 p hp
    show ((a.toNat : Nat) : Int) = a
    omega
  cases h
theorem wZ {d : Dk} {x : Pr} {pg : List Nat} (h : eW d x = some pg) : cN x ≤ 4032 ∧ pg.length = qI (cN x) ∧ (∀ p ∈ pg, p < d.has.length - 42) ∧ x.2 % 65536 = atP pg := by
 unfold eW at h
 split at h
 · cases h
 next hl =>
 cases hq : trM d (qI (cN x)) (((x.2 % 65536 : Nat) : Int) - 1) with
 | none => rw [hq] at h; cases h
 | some r =>
  rw [hq, zfo] at h
  split at h
  ·
   next he =>
   injection h with h
   subst h
   obtain ⟨i1, i2, i3, i4⟩ := qZz d _ _ r hq
   refine ⟨jo, i1, i2, ?_⟩
   unfold atP
   split
   ·
    next h0 =>
    have := i3 jo
    omega
   next h0 =>
   have := i4 jo
   omega
  cases h
section
variable {d : Dk} (ho : OpenPre d)
include ho
theorem OpenPre.srt : Srt (opL d) := zN ho.tree.2.1.1
theorem OpenPre.fnd {x : Pr} (hx : x ∈ opL d) : qZx d x.1 = some x := by
 unfold qZx
 cases hq : (opL d).find? (fun z => decide (z.1 = x.1)) with
 | none => exact absurd (List.find?_eq_none.1 hq x hx) jp
 | some z =>
  have h1 := zhc hq
  have h2 := zfd hq
  simp at h1
  rcases qZy ho.srt h2 hx with e | h | h
  · rw [e]
  · omega
  omega
theorem OpenPre.lies {x : Pr} (hx : x ∈ opL d) : (cI d).lies x.1 = pgO d x := by
 show (match qZx d x.1 with | some x => pgO d x | none => []) = _
 rw [ho.fnd hx]
theorem OpenPre.octs {x : Pr} (hx : x ∈ opL d) : oJ d x.1 = octO d x := by
 unfold oJ
 rw [ho.fnd hx]
theorem OpenPre.trace {x : Pr} (hx : x ∈ opL d) : eW d x = some (pgO d x) := by
 have h := ho.tr x hx
 unfold pgO
 cases hq : eW d x with
 | none => rw [hq] at h; cases h
 | some p => rfl
theorem OpenPre.all : bH (cI d) = fK d ++ (opL d).flatMap (pgO d) := by
 unfold bH cF
 congr 1
 show (opL d).flatMap (fun x => (cI d).lies x.1) = _
 have : ∀ l : List Pr, (∀ x ∈ l, x ∈ opL d) → l.flatMap (fun x => (cI d).lies x.1) = l.flatMap (pgO d) := fun l => by
  induction l with
  | nil => intro _; rfl
  | cons a r ih => intro h; rw [zaw, zaw, ho.lies (h a jp), ih (fun x hx => h x (by simp [hx]))]
 exact this _ fun x hx => hx
theorem OpenPre.ok (hk : d.ok) (h44 : 44 ≤ d.has.length) (hw : d.wts.length ≤ 100000) : (cI d).ok := by
 have hl : (fK d).length ≤ 59 := by rw [fK, lX]; exact ho.sup.1
 refine ⟨ho.srt, sV (fun p hp => ?_), ho.tree.2.1.2, h44, hk.big, hw, zbd hl jd, ho.sup.2.2, fun x hx => ?_⟩
 ·
  obtain ⟨q, hq, rfl⟩ := List.mem_map.1 hp
  have := ho.sup.2.2 q hq
  exact (hk.secAt jo).2
 have hx' : x ∈ opL d := hx
 obtain ⟨t1, t2, t3, t4⟩ := wZ (ho.trace hx')
 rw [ho.lies hx']
 have : qI (cN x) ≤ 32 := by unfold qI; omega
 exact ⟨t3, jo, by rw [t2]; unfold qI; omega⟩
end
theorem OpenOk.inv {d : Dk} (ho : OpenOk d) (hk : d.ok) (h44 : 44 ≤ d.has.length) (hw : d.wts.length ≤ 100000) : InvS (cI d) (oJ d) := by
 have hnd := ho.nod
 obtain ⟨n1, n2, n3⟩ := zga.1 hnd
 obtain ⟨m1, m2⟩ := List.pairwise_flatMap.1 (zev.1 n2)
 have hok := ho.ok hk h44 hw
 refine ⟨hok, n1, fun x hx => ?_, fun x hx p hp hd => ?_, fun x hx y hy hne p hp hp' => ?_, fun p _ => ?_, fun x hx => ?_⟩
 · rw [ho.lies hx]; exact zev.2 (m1 x hx)
 ·
  rw [ho.lies hx] at hp
  exact n3 p hd p (List.mem_flatMap.2 ⟨x, hx, hp⟩) rfl
 ·
  rw [ho.lies hx] at hp
  rw [ho.lies hy] at hp'
  rcases qZy m2 hx hy with e | h | h
  · exact hne (by rw [e])
  · exact h p hp p hp' rfl
  exact h p hp' p hp rfl
 · rw [ho.all]; rfl
 have hx' : x ∈ opL d := hx
 obtain ⟨t1, t2, t3, t4⟩ := wZ (ho.trace hx')
 have hlen : (octO d x).length = cN x := by
  have h1 : ∀ l : List Nat, (∀ p ∈ l, p < d.has.length - 42) → (l.flatMap fun p => (d.sec (42 + p)).drop 2).length = 126 * l.length := fun l => by
   induction l with
   | nil => intro _; rfl
   | cons a r ih =>
    intro h
    have h2 := (hk.secAt (show 42 + a < d.has.length by have := h a jp; omega)).1
    rw [zaw, zf, zq, h2, ih (fun p hp => h p (by simp [hp])), zad]; omega
  unfold octO
  rw [zk, h1 _ t3, t2]
  unfold qI
  omega
 unfold xW
 rw [ho.lies hx', ho.octs hx', hlen]
 refine ⟨?_, t2, t1, fun b hb => ?_⟩
 · rw [← t4]; unfold cN; omega
 obtain ⟨p, hp, hb⟩ := List.mem_flatMap.1 (zo hb)
 exact (hk.secAt (show 42 + p < d.has.length by have := t3 p hp; omega)).2 b (zau hb)
theorem qKq {d : Dk} {n : Nat} {a : Int} (h : 0 ≤ a ∧ a < ((d.has.length - 42 : Nat) : Int)) (pre : List Nat) : (trM d (n + 1) a).map (fun r => (pre ++ r.1, r.2)) = (trM d n (((bC (d.sec (42 + a.toNat)) 0 2 : Nat) : Int) - 1)).map fun r => (pre ++ [a.toNat] ++ r.1, r.2) := by
 conv => lhs; unfold trM
 rw [if_pos h, Option.map_map]
 congr 1
 funext r
 simp
theorem qKr {d : Dk} {n : Nat} {a : Int} (h : ¬ (0 ≤ a ∧ a < ((d.has.length - 42 : Nat) : Int))) : trM d (n + 1) a = none := by
 unfold trM
 rw [if_neg h]
structure IsOp (w2 w : World) (y gm u : Nat) (F : List Nat) (d : Dk) (bl : List Rb) (dir : List Nat) (q : RwQ) (S : List Nat) : Prop where
 rw : IsRw w y gm F d bl dir q
 el : ∀ x ∈ bl, RbOk w (u :: y :: F ++ ob q.A) (d.has.length - 42) x
 dr : RdX w (u :: y :: F ++ ob q.A) 1 q.dA dir.length (ZN dir)
 lo : Own w 111 4 q.A bl.length q.c (bl.flatMap rbC)
 us : Own w 4 1 (some ⟨u, 0, none⟩) (d.has.length - 42) (d.has.length - 42) (BL (mkU (d.has.length - 42) S))
 uF : u ∉ y :: F
 K : Frm [] w2 w
 up : (∀ x ∈ F, x < w2.heap.size) ∧ w2.heap.size ≤ y ∧ w2.heap.size ≤ u ∧ ∀ x ∈ ob q.A, w2.heap.size ≤ x
section
variable {w2 w w' : World} {y gm u : Nat} {F : List Nat} {d : Dk} {bl : List Rb} {dir : List Nat} {q : RwQ} {S : List Nat}
theorem IsOp.frm (h : IsOp w2 w y gm u F d bl dir q S) (k : Frm [] w w') : IsOp w2 w' y gm u F d bl dir q S :=
 ⟨h.rw.frm k, fun x hx => (h.el x hx).frm k, h.dr.frm k, h.lo.frm k jp, h.us.frm k jp, h.uF, h.K.trans k jp, h.up⟩
theorem IsOp.mark {S' : List Nat} (h : IsOp w2 w y gm u F d bl dir q S) (ho : Own w' 4 1 (some ⟨u, 0, none⟩) (d.has.length - 42) (d.has.length - 42) (BL (mkU (d.has.length - 42) S'))) (k : Frm [u] w w') : IsOp w2 w' y gm u F d bl dir q S' := by
 have hy : y ∉ [u] := fun e => h.uF (by rw [za] at e; simp [e])
 have hF : ∀ x ∈ F, x ∉ [u] := fun x hx e => h.uF (by rw [za] at e; subst e; simp [hx])
 have k2 : Fk (u :: y :: F ++ ob q.A) w w' (u :: y :: F ++ ob q.A) := Fk.self k jp
 have hl : Own w' 111 4 q.A bl.length q.c (bl.flatMap rbC) := h.lo.frm k (fun x hx e => h.lo.ne_own h.us jd x hx (by simpa [ob] using e))
 have el := fun x hx => (h.el x hx).fk k2
 have dr := h.dr.fk k2
 refine ⟨⟨h.rw.dk.frm k hF, h.rw.ny, h.rw.blk.frm k hy, ?_, fun x hx => (el x hx).mono (fun z hz => by simp at hz ⊢; rcases hz with h | h <;> simp [h]), dr.mono (fun z hz => by simp at hz ⊢; rcases hz with h | h <;> simp [h]), h.rw.dp, h.rw.sz, h.rw.n6, h.rw.dn, h.rw.wts⟩, el, dr, hl, ho, h.uF, h.K.own k (fun x hx => by rw [za] at hx; rw [hx]; exact h.up.2.2.1), h.up⟩
 exact ⟨hl.rd, fun h0 z hz => ⟨hl.lt z hz, (h.rw.rd.2 h0 z hz).2⟩⟩
theorem IsOp.push {v : World} {b : Rb} {B : Option Addr} {c : Nat} (h : IsOp w2 w y gm u F d bl dir q S) (hn6 : bl.length < 600) (kf : Frm (ob q.A) w v) (hob : ob B = ob q.A ∨ ob B = [w.heap.size]) (hf : Frm [y] v w') (hlo : Own w' 111 4 B (bl.length + 1) c ((bl ++ [b]).flatMap rbC))
  (hb : Blk w' y 121 #[jI0 gm, .slice B (bl.length + 1) c, .slice q.dA dir.length q.dc]) (hpb : RbOk w' (u :: y :: F ++ ob B) (d.has.length - 42) b) : IsOp w2 w' y gm u F d (bl ++ [b]) dir ⟨B, c, q.dA, q.dc⟩ S := by
 have k2 : Fk (u :: y :: F ++ ob q.A) w w' (u :: y :: F ++ ob B) := (Fk.app kf hob).trans (Fk.self hf jp)
 have hA : ∀ z ∈ ob B, w2.heap.size ≤ z := (Fk.of_app kf hob).up h.up.2.2.2 h.K.size
 have hul : u < w.heap.size := h.us.lt u (by simp [ob])
 have hus : Own v 4 1 (some ⟨u, 0, none⟩) (d.has.length - 42) (d.has.length - 42) (BL (mkU (d.has.length - 42) S)) := h.us.frm kf (fun z hz e => h.us.ne_own h.lo jd z hz e)
 have huy : ∀ z ∈ ob (some (⟨u, 0, none⟩ : Addr)), z ∉ [y] := fun z hz e => h.uF (by rw [za] at e; simp [ob] at hz; subst hz; simp [e])
 have el : ∀ x ∈ bl ++ [b], RbOk w' (u :: y :: F ++ ob B) (d.has.length - 42) x := fun x hx => by
  rcases zcp.1 hx with hx | hx
  · exact (h.el x hx).fk k2
  rw [za] at hx; subst hx; exact hpb
 have dr := h.dr.fk k2
 have hFA : ∀ x ∈ F, x ∉ ob q.A := fun x hx e => by have h1 := h.up.1 x hx; have h2 := h.up.2.2.2 x e; omega
 refine ⟨⟨(h.rw.dk.frm kf hFA).frm hf (fun x hx e => by rw [za] at e; subst e; exact h.rw.ny hx), h.rw.ny, by rw [zf]; exact hb, ?_, fun x hx => (el x hx).mono (fun z hz => by simp at hz ⊢; rcases hz with h | h <;> simp [h]), dr.mono (fun z hz => by simp at hz ⊢; rcases hz with h | h <;> simp [h]), h.rw.dp, h.rw.sz, by rw [zf]; simp only [zck]; omega, h.rw.dn, h.rw.wts⟩,
  el, dr, by rw [zf]; exact hlo, hus.frm hf huy, h.uF, (h.K.own kf h.up.2.2.2).own hf (fun x hx => by rw [za] at hx; rw [hx]; exact h.up.2.1), h.up.1, h.up.2.1, h.up.2.2.1, hA⟩
 rw [zf]
 refine ⟨hlo.rd, fun h0 z hz => ⟨hlo.lt z hz, fun hx => ?_⟩⟩
 rcases zaq.1 hx with e | hx
 · subst e; exact hlo.ne_blk hb jd hz
 have h1 := h.up.1 z hx; have h2 := hA z hz; omega
end
theorem qKs : ∀ {l : List Nat} {i : Nat}, l.Nodup → i < l.length → l.getD i 0 ∉ l.take i
 | a :: r, 0, _, _ => jp
 | a :: r, i + 1, hn, hi => by
  rw [zft] at hn
  have hi : i < r.length := by simpa using hi
  rw [zed, zaq]
  rintro (h | h)
  · exact hn.1 (h ▸ bG hi)
  exact qKs hn.2 hi h
theorem qG7 {d : Dk} (ho : OpenOk d) {i p : Nat} {pre post : List Nat} (hi : i < (opL d).length) (hr : pgO d ((opL d).getD i (0, 0)) = pre ++ p :: post) : p ∉ fK d ++ ((opL d).take i).flatMap (pgO d) ++ pre := by
 have h1 : opL d = (opL d).take (i + 1) ++ (opL d).drop (i + 1) := (zbq _ _).symm
 have hn := ho.nod
 rw [h1, eN (0, 0) hi, zan, zan, zaw, zek, zav, hr, ← zab, ← zab, ← zab] at hn
 have h2 := (zga.1 hn).1
 intro hp
 exact (zga.1 h2).2.2 p hp p jp rfl
theorem qYs {d : Dk} (ho : OpenOk d) {i k nd : Nat} {a a0 : Int} {pg : List Nat} {x : Pr} (hi : i < (opL d).length) (hx : x = (opL d).getD i (0, 0)) (hnd : nd = qI (cN x)) (ha0 : a0 = ((x.2 % 65536 : Nat) : Int) - 1) (hk : k < nd) (htr : trM d nd a0 = (trM d (nd - k) a).map fun r => (pg ++ r.1, r.2)) :
  (0 ≤ a ∧ a < ((d.has.length - 42 : Nat) : Int)) ∧ a.toNat ∉ fK d ++ ((opL d).take i).flatMap (pgO d) ++ pg := by
 have hm : x ∈ opL d := by rw [hx, zb, ze hi]; exact zbp hi
 have ht := ho.trace hm
 unfold eW at ht
 split at ht
 · cases ht
 rw [← hnd, ← ha0, htr, show nd - k = (nd - k - 1) + 1 by omega] at ht
 by_cases hr : 0 ≤ a ∧ a < ((d.has.length - 42 : Nat) : Int)
 ·
  refine ⟨hr, ?_⟩
  cases hq : trM d (nd - k - 1 + 1) a with
  | none => rw [hq] at ht; cases ht
  | some r =>
   rw [hq] at ht
   have h1 := hq
   unfold trM at h1
   rw [if_pos hr] at h1
   cases hq2 : trM d (nd - k - 1) (((bC (d.sec (42 + a.toNat)) 0 2 : Nat) : Int) - 1) with
   | none => rw [hq2] at h1; cases h1
   | some r2 =>
    rw [hq2] at h1
    injection h1 with h1
    subst h1
    rw [zdx, zfo] at ht
    dsimp only at ht
    split at ht
    ·
     injection ht with ht
     exact qG7 ho (post := r2.1) hi (by rw [← hx, ← ht])
    cases ht
 rw [qKr hr] at ht; cases ht
theorem qYt {d : Dk} {x : Pr} {a0 a : Int} {pg : List Nat} {nd : Nat} (hl : cN x ≤ 4032) (hnd : nd = qI (cN x)) (ha0 : a0 = ((x.2 % 65536 : Nat) : Int) - 1) (htr : trM d nd a0 = (trM d 0 a).map fun r => (pg ++ r.1, r.2)) : eW d x = if a = -1 then some pg else none := by
 unfold eW
 rw [if_neg jo, ← hnd, ← ha0, htr]
 show (if a = -1 then some (pg ++ []) else none) = _
 rw [zav]
theorem xY (d : Dk) : (bW d).2.2.wts.length ≤ d.wts.length + 90 := by
 unfold bW
 split
 · exact zdz _ _
 split
 · exact zdz _ _
 split
 ·
  next ht =>
  have h1 := pZ (bF (dY d (d.sec 0) (headN (d.sec 0)))) d
  have h2 := nX (dY d (d.sec 0) (headN (d.sec 0)))
  have h3 := ht.1
  have h4 : (dY d (d.sec 0) (headN (d.sec 0))).length = headN (d.sec 0) := by simp [dY]
  split <;> dsimp only <;> omega
 split
 ·
  have h1 := pZ dV d
  have h2 : dV.length = 2 := rfl
  dsimp only
  omega
 exact zdz _ _
theorem qJt (p : Int) (y gm : Nat) (F : List Nat) (d : Dk) (bl : List Rb) (dir : List Nat) (q : RwQ) (w : World) (hY : IsRw w y gm F d bl dir q) (hb : -1000000 ≤ p ∧ p ≤ 1000000) (hp : ¬ (0 ≤ p ∧ p < ((d.has.length - 42 : Nat) : Int))) : Calls Tryz.prog 75 #[jI0 y, .int .i64 p] w fun e w' => e = .returned (.tuple #[.string (qF []), .bool false]) ∧ w = w' := by
 have hsz := hY.sz
 have hbg := hY.dk.ok.big
 refine jV Tryz.func75 Tryz.ntmps75 Tryz.results75 ?_
 refine jS (jR ?_)
 refine Ops.r (v := .string (qF [])) (Run.asg rfl) rfl ?_
 refine ja rfl (jO (jN (jv2 0 1 ?_)))
 refine jS (jS ?_)
 refine VC.split1 [(0, _), (1, _)] (js2 rfl rfl) 15 (.bool (decide (True))) ?_ ?_
 ·
  refine jR ?_
  refine jm rfl (jb rfl rfl (Bin.lss _ 0) ?_)
  by_cases hs9 : p < 0
  ·
   refine jM ?_
   refine jU ?_
   refine jU ?_
   refine jU ?_
   refine jU ?_
   refine jW rfl rfl au (jO ?_)
   refine jN ⟨(js3 (jC (by grind)) rfl rfl), rfl⟩
  refine jM ?_
  refine jG ?_
  refine jG ?_
  refine Ops.clg rfl au (jE1 Tryz.call70) (kX y gm F d bl dir q w hY) rfl ?_
  rintro e _ ⟨rfl, rfl⟩
  refine ⟨_, rfl, ?_⟩
  refine jk (Run.bin rfl rfl (Bin.geq _ _)) ?_
  by_cases hs14 : ((d.has.length - 42 : Nat) : Int) ≤ p
  ·
   refine jF rfl rfl au (jO ?_)
   refine jN ⟨(js3 (jC (by grind)) rfl rfl), rfl⟩
  refine jF rfl rfl au (jO ?_)
  refine jN ⟨(js3 (jC (by grind)) rfl rfl), rfl⟩
 intro Γ hΓ
 refine jN (VC.sub _ hΓ ?_)
 refine VC.condT rfl jp ?_
 refine jS (jR ?_)
 refine Ops.r (v := .string (qF [])) (Run.asg rfl) rfl ?_
 refine ja rfl (jO (jN (jv2 4 5 ?_)))
 refine jT ?_
 refine qQ (bX rfl rfl ?_)
 exact ⟨rfl, rfl⟩
theorem sY (p : Int) (y gm : Nat) (F : List Nat) (d : Dk) (bl : List Rb) (dir : List Nat) (q : RwQ) (w : World) (hY : IsRw w y gm F d bl dir q) (hb : -1000000 ≤ p ∧ p ≤ 1000000) (hon : d.off = false) : Calls Tryz.prog 75 #[jI0 y, .int .i64 p] w fun e w' => ∃ s, e = .returned (.tuple #[.string (qF s), .bool (decide (0 ≤ p ∧ p < ((d.has.length - 42 : Nat) : Int)))]) ∧ (0 ≤ p ∧ p < ((d.has.length - 42 : Nat) : Int) → s = d.sec (42 + p.toNat)) ∧ w = w' := by
 by_cases h : 0 ≤ p ∧ p < ((d.has.length - 42 : Nat) : Int)
 ·
  obtain ⟨k, rfl⟩ : ∃ k : Nat, p = ((k : Nat) : Int) := ⟨p.toNat, jo⟩
  refine (tH k y gm F d bl dir q w hY jo).mono ?_
  rintro e _ ⟨rfl, rfl⟩
  refine ⟨_, ?_, fun _ => rfl, rfl⟩
  have hsz := hY.sz
  rw [decide_eq_true h, show (d.read (42 + k)).2 = d.sec (42 + k) by unfold Dk.read; rw [if_neg jo, if_neg (by simp [hon])], hon]
  rfl
 refine (qJt p y gm F d bl dir q w hY hb h).mono ?_
 rintro e _ ⟨rfl, rfl⟩
 refine ⟨[], ?_, fun k => absurd k h, rfl⟩
 rw [decide_eq_false h]
structure IsO1 (w2 w : World) (y gm u : Nat) (F : List Nat) (d : Dk) (dir : List Nat) (dA : Option Addr) (dc : Nat) (pA : Option Addr) (pc : Nat) : Prop where
 dk : IsRd w gm F d
 blk : Blk w y 121 #[jI0 gm, .slice none 0 0, .slice dA dir.length dc]
 dw : Own w 3 1 dA dir.length dc (ZN dir)
 us : Own w 4 1 (some ⟨u, 0, none⟩) (d.has.length - 42) (d.has.length - 42) (BL (mkU (d.has.length - 42) dir))
 pg : Own w 9 1 pA dir.length pc ((dir.map fun p => d.sec (42 + p)).map SS)
 K : Frm [] w2 w
 lt : ∀ x ∈ F, x < w2.heap.size
 up : w2.heap.size ≤ y ∧ w2.heap.size ≤ u
 dup : ∀ x ∈ ob dA, w2.heap.size ≤ x
 pup : ∀ x ∈ ob pA, w2.heap.size ≤ x
 dp : ∀ p ∈ dir, p < d.has.length - 42
 nod : dir.Nodup
section
variable {w2 w w' : World} {y gm u : Nat} {F : List Nat} {d : Dk} {dir : List Nat} {dA pA : Option Addr} {dc pc : Nat}
theorem IsO1.frm (h : IsO1 w2 w y gm u F d dir dA dc pA pc) (k : Frm [] w w') : IsO1 w2 w' y gm u F d dir dA dc pA pc :=
 ⟨h.dk.frm k jp, h.blk.frm k jp, h.dw.frm k jp, h.us.frm k jp, h.pg.frm k jp, h.K.trans k jp, h.lt, h.up, h.dup, h.pup, h.dp, h.nod⟩
theorem IsO1.rw (h : IsO1 w2 w y gm u F d dir dA dc pA pc) (hsz : 44 ≤ d.has.length) (hw : d.wts.length ≤ 100000) (hl : dir.length ≤ 59) : IsRw w y gm F d [] dir ⟨none, 0, dA, dc⟩ := by
 have hy : y ∉ F := fun hx => by have h1 := h.lt y hx; have h2 := h.up.1; omega
 refine ⟨h.dk, hy, h.blk, ⟨Rd.nil _ _ _, fun h0 => absurd h0 jp⟩, (fun x hx => by cases hx), ⟨h.dw.rd, fun _ z hz => ⟨h.dw.lt z hz, fun hx => ?_⟩⟩, h.dp, hsz, jp, jo, hw⟩
 rcases zaq.1 hx with e | hx
 · subst e; exact h.dw.ne_blk h.blk jd hz
 have h1 := h.lt z hx; have h2 := h.dup z hz; omega
theorem IsO1.op (h : IsO1 w2 w y gm u F d dir dA dc pA pc) (hsz : 44 ≤ d.has.length) (hw : d.wts.length ≤ 100000) (hl : dir.length ≤ 59) : IsOp w2 w y gm u F d [] dir ⟨none, 0, dA, dc⟩ dir := by
 have hr := h.rw hsz hw hl
 have huy : u ∉ y :: F := fun hx => by
  rcases zaq.1 hx with e | hx
  · have := h.us.ne_blk h.blk jd; exact this (by simp [ob, e])
  have h1 := h.lt u hx; have h2 := h.up.2; omega
 refine ⟨hr, (fun x hx => by cases hx), RdX.mono (X := u :: y :: F) ⟨h.dw.rd, fun h0 z hz => ⟨h.dw.lt z hz, fun hx => ?_⟩⟩ (by simp [ob]), Own.nil _ _ _, h.us, huy, h.K, h.lt, h.up.1, h.up.2, by simp [ob]⟩
 rcases zaq.1 hx with e | hx
 · subst e; exact h.dw.ne_own h.us jd z hz (by simp [ob])
 exact (hr.dr.2 h0 z hz).2 hx
end
theorem qJu (gm : Nat) (F : List Nat) (d : Dk) (w : World) (hD : IsRd w gm F d) (hwl : d.wts.length ≤ 90000) (h44 : 44 ≤ d.has.length) (hl2 : (bW d).2.2.has.length = d.has.length) (hon : (bW d).2.1 = 0 → (bW d).2.2.off = false) :
  Calls Tryz.prog 33 #[.pointer (some ⟨gm, 0, none⟩)] w fun e w' => ∃ F', IsRd w' gm F' (bW d).2.2 ∧ Fk F w w' F' ∧
   ((bW d).2.1 ≠ 0 ∧ e = .returned (.tuple #[.pointer none, .int .i64 (((bW d).2.1 : Nat) : Int)]) ∨ (bW d).2.1 = 0 ∧ ¬ OpenOk (bW d).2.2 ∧ e = .returned (.tuple #[.pointer none, .int .i64 3]) ∨
    (bW d).2.1 = 0 ∧ OpenOk (bW d).2.2 ∧ ∃ y bl q, e = .returned (.tuple #[.pointer (some ⟨y, 0, none⟩), .int .i64 0]) ∧ IsRw w' y gm F' (bW d).2.2 bl (fK (bW d).2.2) q ∧ bE (opL (bW d).2.2) (cI (bW d).2.2).lies (oJ (bW d).2.2) bl ∧ w.heap.size ≤ y ∧ ∀ E : List Nat, (∀ z ∈ E, z < w.heap.size) → OffR E bl (fK (bW d).2.2).length q) := by
 obtain ⟨A, c, C, cb, hbD, hAD, hCD, hFe, hgA, hgB, hAB⟩ := hD.parts
 have hbg := hD.ok.big
 refine jV Tryz.func33 Tryz.ntmps33 Tryz.results33 ?_
 refine jS (jR (ja rfl (jz 0 (jO (jN (jv1 0 ?_))))))
 refine jS (jS (jR (jm rfl (jZ rfl (jf rfl zaf rfl zdc (jl rfl zdv (hbD.cell 0) (jL rfl zar (jb rfl rfl (Bin.lssN _ 44) (jO (jN (jv2 0 34 ?_)))))))))))
 refine VC.condF rfl jdf ?_
 refine jQ (jN (jv1 0 ?_))
 refine jS (jS (jR (jM ?_)))
 refine jc (jE1 Tryz.call82) (zH gm F d w hD jo jo) ?_
 rintro e w1 ⟨F1, rfl, hD1, hk1⟩
 refine ⟨_, rfl, ?_⟩
 have hrw := xY d
 generalize bW d = rc at *
 obtain ⟨rn, re, d1⟩ := rc
 dsimp only at hD1 hon hl2 hrw ⊢
 refine jm rfl (jY rfl rfl (jY rfl rfl (ja rfl (ja rfl (jO (jN (jv2 0 5 ?_)))))))
 refine jS (jR (jm rfl (jb rfl rfl (Bin.neqN _ 0) (jO (jN (jv3 0 5 41 ?_))))))
 refine jD rfl (fun hc2 => ?_) fun hc2 => ?_
 ·
  have hre : re ≠ 0 := jo
  refine jS (jR (jm rfl (ja rfl (ja rfl (jO (jN (jv2 2 3 ?_)))))))
  refine jT ?_
  refine qQ (bX rfl rfl ?_)
  exact ⟨F1, hD1, hk1, .inl ⟨hre, rfl⟩⟩
 have hre : re = 0 := jo
 have hoff := hon hre
 subst hre
 have h441 : 44 ≤ d1.has.length := jo
 have hbg1 := hD1.ok.big
 have hw1 : d1.wts.length ≤ 100000 := jo
 have hq1 := hk1.1.size
 have hF1 := hD1.lt
 obtain ⟨N, hN⟩ : ∃ N, N = d1.has.length - 42 := ⟨_, rfl⟩
 obtain ⟨sv, hs⟩ : ∃ sv, sv = d1.sec 41 := ⟨_, rfl⟩
 obtain ⟨hsl, hsB⟩ := hD1.ok.secAt (jo : 41 < d1.has.length)
 rw [← hs] at hsl hsB
 have hsv : bC sv 4 2 < 65536 := by
  rw [(eI jo).2]
  have := sW hsB 4 2
  exact this
 obtain ⟨n, hn⟩ : ∃ n, n = bC sv 4 2 := ⟨_, rfl⟩
 rw [← hn] at hsv
 have fin3 : ∀ V : World, ¬ OpenOk d1 → Frm [] w1 V → ∃ F', IsRd V gm F' d1 ∧ Fk F w V F' ∧ ((0 : Nat) ≠ 0 ∧ Ending.returned (.tuple #[.pointer none, .int .i64 3]) = .returned (.tuple #[.pointer none, .int .i64 ((0 : Nat) : Int)]) ∨ (0 : Nat) = 0 ∧ ¬ OpenOk d1 ∧ Ending.returned (.tuple #[.pointer none, .int .i64 3]) = .returned (.tuple #[.pointer none, .int .i64 3]) ∨
   (0 : Nat) = 0 ∧ OpenOk d1 ∧ ∃ y bl q, Ending.returned (.tuple #[.pointer none, .int .i64 3]) = .returned (.tuple #[.pointer (some ⟨y, 0, none⟩), .int .i64 0]) ∧ IsRw V y gm F' d1 bl (fK d1) q ∧ bE (opL d1) (cI d1).lies (oJ d1) bl ∧ w.heap.size ≤ y ∧ ∀ E : List Nat, (∀ z ∈ E, z < w.heap.size) → OffR E bl (fK d1).length q) := fun V hno hV =>
  ⟨F1, hD1.frm hV jp, hk1.frm hV jp, .inr (.inl ⟨rfl, hno, rfl⟩)⟩
 refine jQ (jN (jv1 0 ?_))
 refine jS (jR (jm rfl (je (Run.build (evs.cons rfl evs.nil) qJz (pN).choose_spec.1 (pN).choose_spec.2 (cells := #[.pointer (some ⟨gm, 0, none⟩), .slice none 0 0, .slice none 0 0]) rfl) ?_)))
 refine Ops.m (qV.box rfl) rfl ?_
 rintro _ w3 ⟨rfl, hF3⟩
 have hb3 : Blk w3 w1.heap.size 121 #[.pointer (some ⟨gm, 0, none⟩), .slice none 0 0, .slice none 0 0] := hF3.blk
 have K3 := hF3.frm
 have hq3 := hF3.size
 have hD3 := hD1.frm K3 jp
 obtain ⟨y, hy⟩ : ∃ y, y = w1.heap.size := ⟨_, rfl⟩
 rw [← hy] at hb3 hq3 ⊢
 refine ja rfl (jO (jN (jv2 0 6 ?_)))
 refine jS (jR (jM ?_))
 refine jc0 (jE2 Tryz.call83) (mK 41 gm F1 d1 w3 hD3 jo) ?_
 rw [show (d1.read 41) = (0, d1.sec 41) by unfold Dk.read; rw [if_neg jo, if_neg (by simp [hoff])], ← hs]
 dsimp only
 refine jm rfl (jY rfl rfl (jY rfl rfl (ja rfl (ja rfl (jO (jN (jv2 6 7 ?_)))))))
 refine jS (jR (jM ?_))
 refine jc0 (jE3 Tryz.call84) (lP sv 4 2 w3 hsB jo jo jo jo) ?_
 rw [← (eI (hd := sv) (a := 4) (n := 2) jo).2, ← hn]
 refine jm rfl (jY rfl rfl (jY rfl rfl (ja rfl (ja rfl (jO (jN (jv3 6 7 9 ?_)))))))
 refine jS (jS ?_)
 refine VC.splitR [(6, .pointer (some ⟨y, 0, none⟩)), (7, .string (qF sv)), (9, .int .u64 ((n : Nat) : Int))] (fun wz => Frm [] w3 wz) 76 (.bool (decide (¬ (n ≤ 59 ∧ dR (sv.take (6 + 2 * n)) = sv ∧ sv.take 4 = fP)))) ?_ ?_
 ·
  refine jR ?_
  refine jm rfl (jb rfl rfl (Bin.gtrN _ 59) ?_)
  by_cases hs57 : 59 < n
  ·
   refine jM ?_
   refine jU ?_
   refine jU ?_
   refine jU ?_
   refine jU ?_
   refine jU ?_
   refine jU ?_
   refine jU ?_
   refine jU ?_
   refine jU ?_
   refine jU ?_
   refine jU ?_
   refine jU ?_
   refine jW rfl rfl au (jM ?_)
   refine jU ?_
   refine jU ?_
   refine jU ?_
   refine jW rfl rfl au (jO ?_)
   refine jN ⟨(js4 (jC (by grind)) rfl rfl rfl), (by first | exact K9 | exact Frm.refl _ _)⟩
  have hn59 : n ≤ 59 := jo
  have htB : ∀ b ∈ sv.take (6 + 2 * n), b < 256 := fun b hb => hsB b (zo hb)
  have htl : (sv.take (6 + 2 * n)).length = 6 + 2 * n := by rw [zk]; omega
  have hpl := fM (bs := sv.take (6 + 2 * n)) jo
  have hpB := fL htB
  have h4B : ∀ b ∈ sv.take 4, b < 256 := fun b hb => hsB b (zo hb)
  have hmB : ∀ b ∈ fP, b < 256 := jd
  refine jM ?_
  refine jG ?_
  refine jG ?_
  refine jk (Run.convN _ rfl zr zz (by simp only [bmax]; omega)) ?_
  refine jk (Run.bin rfl rfl (Bin.mul_i64 2 _ jo)) ?_
  refine jk (Run.bin rfl rfl (Bin.add_i64 6 _ jo)) ?_
  refine jk (Run.sliceO 0 (6 + 2 * n) rfl zt evB.none_ (evB.some_ rfl) jo jo) ?_
  rw [zbz]
  refine Ops.mg rfl au (qV.octO rfl zt zg zac htB) rfl ?_
  rintro _ w7 ⟨CB, cc, rfl, hrC, hf7, hupC⟩
  refine Ops.clg rfl au (jE1 Tryz.call67) (oZ CB cc _ (sv.take (6 + 2 * n)) w7 rfl jo htB hrC) rfl ?_
  rintro e w8 ⟨rfl, hf8⟩
  refine ⟨_, rfl, ?_⟩
  refine Ops.clg rfl au (jE1 Tryz.call66) (tY (fW (sv.take (6 + 2 * n))) w8 (by rw [fY]; omega) (sS htB)) rfl ?_
  rintro e w9 ⟨SB, sc, rfl, hrS, hf9, hupS⟩
  refine ⟨_, rfl, ?_⟩
  have K9 := (hf7.trans hf8 jp).trans hf9 jp
  refine jk (Run.strOf rfl zg zac zt (rdU hrS hpB)) ?_
  refine jG ?_
  refine jk (Run.neqO (a := dR (sv.take (6 + 2 * n))) (b := sv) rfl rfl hpB hsB) ?_
  by_cases hs70 : ¬ dR (sv.take (6 + 2 * n)) = sv
  ·
   refine jF rfl rfl au (jM ?_)
   refine jU ?_
   refine jU ?_
   refine jU ?_
   refine jW rfl rfl au (jO ?_)
   refine jN ⟨(js4 (jC (by grind)) rfl rfl rfl), (by first | exact K9 | exact Frm.refl _ _)⟩
  refine jF rfl rfl au (jM ?_)
  refine jG ?_
  refine jk (Run.sliceO 0 4 rfl zt evB.none_ (evB.some_ rfl) jo jo) ?_
  rw [zbz]
  refine jk (Run.neqO (b := fP) rfl rfl h4B hmB) ?_
  by_cases hs75 : ¬ sv.take 4 = fP
  ·
   refine jF rfl rfl au (jO ?_)
   refine jN ⟨(js4 (jC (by grind)) rfl rfl rfl), (by first | exact K9 | exact Frm.refl _ _)⟩
  refine jF rfl rfl au (jO ?_)
  refine jN ⟨(js4 (jC (by grind)) rfl rfl rfl), (by first | exact K9 | exact Frm.refl _ _)⟩
 intro Γ wz hΓ Kz
 refine jN (VC.sub _ hΓ ?_)
 refine jD rfl (fun hc3 => ?_) fun hc3 => ?_
 ·
  have hno : ¬ OpenOk d1 := fun ho => hc3 (by
   have h1 := ho.sup
   rw [← hs] at h1
   obtain ⟨a1, a2, _⟩ := h1
   rw [← hn] at a1
   have a3 := (qKp hsl hsB jo).1 a2
   rw [← hn] at a3
   exact ⟨a1, a3⟩)
  refine jS (jR (ja rfl (jz 3 (jO (jN (jv2 2 3 ?_))))))
  refine jT ?_
  refine qQ (bX rfl rfl ?_)
  exact fin3 _ hno (K3.trans Kz jp)
 have hc3 := Classical.not_not.1 hc3
 obtain ⟨hn59, hpg, h4⟩ := hc3
 have hsup : bR (eF sv) = sv := (qKp hsl hsB jo).2 (by rw [← hn]; exact ⟨hpg, h4⟩)
 obtain ⟨dir, hdir⟩ : ∃ dir, dir = fK d1 := ⟨_, rfl⟩
 have hdirs : dir = eF sv := by rw [hdir, fK, hs]
 have hdl : dir.length = n := by rw [hdirs, lX, hn]
 have hDz := hD3.frm Kz jp
 have hbz := hb3.frm Kz jp
 have K13 := K3.trans Kz jp
 refine jQ (jN (jv3 6 7 9 ?_))
 refine jS (jR (jM ?_))
 refine jc (jE1 Tryz.call70) (kX y gm F1 d1 [] [] ⟨none, 0, none, 0⟩ wz ⟨hDz, fun hx => by have := hF1 y hx; omega, hbz, ⟨Rd.nil _ _ _, fun h0 => absurd h0 jp⟩, (fun x hx => by cases hx), ⟨Rd.nil _ _ _, fun h0 => absurd h0 jp⟩, (fun p hp => by cases hp), h441, jp, jp, hw1⟩) ?_
 rintro e _ ⟨rfl, rfl⟩
 rw [← hN]
 refine ⟨_, rfl, ?_⟩
 refine Ops.m (qV.makeS rfl rfl zcd (qHi) rfl jo jo) rfl ?_
 rintro _ w4 ⟨rfl, ho4, hf4, hs4⟩
 have e0 : (List.replicate N (Value.bool false).cells.toList).flatten = BL (mkU N ([] : List Nat)) := by
  rw [qKm, BL, zdr]
  exact List.flatten_replicate_singleton
 rw [e0] at ho4
 obtain ⟨u, hu⟩ : ∃ u, u = wz.heap.size := ⟨_, rfl⟩
 rw [← hu] at ho4 hs4 ⊢
 have K14 := K13.trans hf4 jp
 have hqz := K13.size
 have h0 : IsO1 w1 w4 y gm u F1 d1 [] none 0 none 0 := ⟨hDz.frm hf4 jp, hbz.frm hf4 jp, Own.nil _ _ _, by rw [← hN]; exact ho4, Own.nil _ _ _, K14, hF1, ⟨jo, jo⟩, by simp [ob], by simp [ob], (fun p hp => by cases hp), zhn⟩
 refine ja rfl (jO (jN (jv4 6 7 9 11 ?_)))
 refine jS (jR (ja rfl (jO (jN (jS (jS (jR (jz 0 (jO (jN (jB ?_)))))))))))
 refine VC.loop (σ := Nat × Option Addr × Nat × Option Addr × Nat) (fun s => [(6, .pointer (some ⟨y, 0, none⟩)), (7, .string (qF sv)), (9, .int .u64 ((n : Nat) : Int)), (11, .slice (some ⟨u, 0, none⟩) N N), (12, .slice s.2.2.2.1 s.1 s.2.2.2.2), (13, .int .i64 ((s.1 : Nat) : Int))]) (fun s wr => s.1 ≤ n ∧ IsO1 w1 wr y gm u F1 d1 (dir.take s.1) s.2.1 s.2.2.1 s.2.2.2.1 s.2.2.2.2) (fun s => n - s.1) (0, none, 0, none, 0) (js6 rfl rfl rfl rfl rfl rfl) ⟨zj _, h0⟩ ?_
 rintro ⟨i, dA, dc, pA, pc⟩ wr ⟨hi, h1⟩
 dsimp only at hi h1 ⊢
 have htl : (dir.take i).length = i := by rw [zk]; omega
 refine jS (jS (jR (jm rfl (jm rfl (je (Run.convN _ rfl zr zz (by simp only [bmax]; omega)) (jb rfl rfl (Bin.lssN _ _) (jO (jN (jv7 6 7 9 11 12 13 83 ?_)))))))))
 refine jD rfl (fun hc4 => ?_) fun hc4 => ?_
 ·
  have hsnd := jI (l := dir) (i := i) jo
  have hpe : dir.getD i 0 = bC sv (6 + 2 * i) 2 := by rw [hdirs]; exact qKo jo
  obtain ⟨p, hp⟩ : ∃ p, p = dir.getD i 0 := ⟨_, rfl⟩
  rw [← hp] at hsnd hpe
  have hpv : p < 65536 := by
   rw [hpe, (eI jo).2]
   have := sW hsB (6 + 2 * i) 2
   exact this
  have hpu : ∀ ho : OpenOk d1, p < N ∧ p ∉ dir.take i := fun ho => by
   have a1 := ho.sup.2.2 p (by rw [show eF (d1.sec 41) = dir from hdir.symm, hp]; exact bG jo)
   have a2 := (zga.1 ho.nod).1
   rw [← hdir] at a2
   exact ⟨jo, by rw [hp]; exact qKs a2 jo⟩
  have hcU : p < N → wr.cell? ((⟨u, 0, none⟩ : Addr).add p) = some (.bool (decide (p ∈ dir.take i))) := fun hpN => by
   have h2 := h1.us
   rw [← hN] at h2
   obtain ⟨ud, hU, hc⟩ := oV h2.rd (vH N _) hpN
   cases hU
   rw [yR _ hpN] at hc
   exact hc
  refine jQ (jN (jv6 6 7 9 11 12 13 ?_))
  refine jS (jB (jS (jR (jm rfl (jm rfl (jb rfl rfl (Bin.mul_i64 2 _ jo) (jb rfl rfl (Bin.add_i64 6 _ jo) ?_)))))))
  refine jc0 (jE3 Tryz.call84) (lP sv (6 + 2 * i) 2 wr hsB jo jo jo jo) ?_
  rw [← (eI (hd := sv) (a := 6 + 2 * i) (n := 2) jo).2, ← hpe]
  refine jm rfl (jY rfl rfl (jY rfl rfl (ja rfl (ja rfl (jO (jN (jv7 6 7 9 11 12 13 14 ?_)))))))
  refine jS (jR (jm rfl (jm rfl (je (Run.convN _ rfl zr zz (by simp only [bmax]; omega)) ?_))))
  refine jc (jE2 Tryz.call75) (sY ((p : Nat) : Int) y gm F1 d1 [] (dir.take i) ⟨none, 0, dA, dc⟩ wr (h1.rw h441 hw1 jo) jo hoff) ?_
  rintro e _ ⟨x, rfl, hx, rfl⟩
  rw [show decide ((0 : Int) ≤ ((p : Nat) : Int) ∧ ((p : Nat) : Int) < ((d1.has.length - 42 : Nat) : Int)) = decide (p < N) by rw [← hN]; exact decide_eq_decide.2 ⟨fun h => jo, fun h => jo⟩]
  refine ⟨_, rfl, ?_⟩
  refine jm rfl (jY rfl rfl (jY rfl rfl (ja rfl (ja rfl (jO (jN (jv9 6 7 9 11 12 13 14 16 17 ?_)))))))
  refine jS (jS ?_)
  refine VC.split1 [(6, _), (7, _), (9, _), (11, _), (12, _), (13, _), (14, _), (16, _)] (js8 rfl rfl rfl rfl rfl rfl rfl rfl) 108 (.bool (decide (¬ (p < N ∧ p ∉ dir.take i)))) ?_ ?_
  ·
   refine jR ?_
   refine jm rfl (je (Run.not rfl) ?_)
   by_cases hs102 : ¬ p < N
   ·
    refine jM ?_
    refine jU ?_
    refine jU ?_
    refine jU ?_
    refine jU ?_
    refine jW rfl rfl au (jO ?_)
    refine jN ⟨(js9 (jC (by grind)) rfl rfl rfl rfl rfl rfl rfl rfl), rfl⟩
   refine jM ?_
   refine jG ?_
   refine jG ?_
   refine jk (Run.index1 _ rfl rfl zcd zat jo) ?_
   refine jk (Run.load rfl zcr (hcU jo)) ?_
   by_cases hs107 : p ∈ dir.take i
   ·
    refine jF rfl rfl au (jO ?_)
    refine jN ⟨(js9 (jC (by grind)) rfl rfl rfl rfl rfl rfl rfl rfl), rfl⟩
   refine jF rfl rfl au (jO ?_)
   refine jN ⟨(js9 (jC (by grind)) rfl rfl rfl rfl rfl rfl rfl rfl), rfl⟩
  intro Γ hΓ
  refine jN (VC.sub _ hΓ ?_)
  refine jD rfl (fun hc5 => ?_) fun hc5 => ?_
  ·
   have hno : ¬ OpenOk d1 := fun ho => hc5 (hpu ho)
   refine jS (jR (ja rfl (jz 3 (jO (jN (jv2 2 3 ?_))))))
   refine jT ?_
   refine qQ (qR (qQ (qQ (qR (qQ (bX rfl rfl ?_))))))
   exact fin3 _ hno h1.K
  have hc5 := Classical.not_not.1 hc5
  obtain ⟨hpN, hpd⟩ := hc5
  have hx := hx ⟨jo, jo⟩
  rw [zdt] at hx
  subst hx
  have ho5 := h1.us
  rw [← hN] at ho5
  have hst := vM (N := N) (dir.take i) hpN
  rw [← hsnd] at hst
  refine jQ (jN (jv8 6 7 9 11 12 13 14 16 ?_))
  refine jS (jR (jm rfl (jm rfl (je (Run.index1 _ rfl rfl zcd zat jo) ?_))))
  refine Ops.st (qT.storeOwn p rfl rfl zat ho5 rfl jo rfl) ?_
  rintro w5 ⟨ho5, hf5, hs5⟩
  have e5 : (BL (mkU N (dir.take i))).set p (.bool true) = BL (mkU N (dir.take (i + 1))) := by rw [← hst, BL, BL, zfg]
  rw [e5] at ho5
  have hf5 : Frm [u] wr w5 := hf5
  have hFu : ∀ z ∈ F1, z ∉ [u] := fun z hz e => by rw [za] at e; have a1 := hF1 z hz; have a2 := h1.up.2; omega
  have hD5 := h1.dk.frm hf5 hFu
  have hb5 := h1.blk.frm hf5 (fun e => by have := h1.us.ne_blk h1.blk jd; exact this (by simpa [ob] using e))
  have hd5 := h1.dw.frm hf5 (fun z hz e => h1.dw.ne_own h1.us jd z hz (by simpa [ob] using e))
  have hp5 := h1.pg.frm hf5 (fun z hz e => h1.pg.ne_own h1.us jd z hz (by simpa [ob] using e))
  have K5 := h1.K.own hf5 (fun z hz => by rw [za] at hz; rw [hz]; exact h1.up.2)
  rw [htl] at hb5 hd5 hp5
  refine jO (jN (jv8 6 7 9 11 12 13 14 16 ?_))
  refine jS (jR (jm rfl (jm rfl (jZ rfl (jf rfl zay rfl zax (jl rfl zbx (hb5.cell 2) (jm rfl (je (Run.convN _ rfl zr zz (by simp only [bmax]; omega)) ?_))))))))
  refine Ops.m (qV.buildS1 rfl zn zm pG jd jd rfl rfl) rfl ?_
  rintro _ w6 ⟨rfl, hG6⟩
  have hr6 : Rd w6 1 (some ⟨w5.heap.size, 0, none⟩) 1 (ZN [p]) := Rd.of_blk (n := 1) (size := 1) hG6.blk rfl
  have hd6 := hd5.frm hG6.frm jp
  have K6 := K5.trans hG6.frm jp
  refine Ops.m (qV.app rfl rfl zn (pH) rfl jd hd6 hr6 (rO _) jo jo) rfl ?_
  rintro _ w7 ⟨B7, d7, rfl, hd7, hf7, hob7⟩
  have e7 : ZN (dir.take i) ++ ZN [p] = ZN (dir.take (i + 1)) := by rw [hsnd, ZN, ZN, ZN, zv]
  rw [e7] at hd7
  have K7 := K6.own hf7 h1.dup
  have hup7 := (Fk.of_app hf7 hob7).up h1.dup K6.size
  have hb7 := (hb5.frm hG6.frm jp).frm hf7 (hd6.ne_blk (hb5.frm hG6.frm jp) jd)
  have hD7 := (hD5.frm hG6.frm jp).frm hf7 (fun z hz e => by have a1 := hF1 z hz; have a2 := h1.dup z e; omega)
  have ho6 := ho5.frm hG6.frm jp
  have ho7 := ho6.frm hf7 (fun z hz e => ho6.ne_own hd6 jd z hz e)
  have hp6 := hp5.frm hG6.frm jp
  have hp7 := hp6.frm hf7 (fun z hz e => hp6.ne_own hd6 jd z hz e)
  refine jZ rfl (jf rfl zay rfl zax ?_)
  refine Ops.st (qT.store rfl rfl zax hb7 rfl rfl) ?_
  rintro w8 ⟨hb8, hf8, hs8⟩
  have hf8 : Frm [y] w7 w8 := hf8
  have hb8 : Blk w8 y 121 #[.pointer (some ⟨gm, 0, none⟩), .slice none 0 0, .slice B7 (i + 1) d7] := hb8
  have K8 := K7.own hf8 (fun z hz => by rw [za] at hz; rw [hz]; exact h1.up.1)
  have hd8 := hd7.frm hf8 (fun z hz e => by rw [za] at e; subst e; exact hd7.ne_blk hb7 jd hz)
  have ho8 := ho7.frm hf8 (fun z hz e => by rw [za] at e; subst e; exact ho7.ne_blk hb7 jd hz)
  have hp8 := hp7.frm hf8 (fun z hz e => by rw [za] at e; subst e; exact hp7.ne_blk hb7 jd hz)
  have hD8 := hD7.frm hf8 (fun z hz e => by rw [za] at e; subst e; have a1 := hF1 z hz; omega)
  refine jO (jN (jv7 6 7 9 11 12 13 16 ?_))
  refine jR (jm rfl (jM ?_))
  refine Ops.m (qV.buildS1 rfl zar zbm qQ4 jd jd rfl rfl) rfl ?_
  rintro _ w9 ⟨rfl, hG9⟩
  have hr9 : Rd w9 1 (some ⟨w8.heap.size, 0, none⟩) 1 ([d1.sec (42 + p)].map SS) := Rd.of_blk (n := 1) (size := 1) hG9.blk rfl
  have hp9 := hp8.frm hG9.frm jp
  have K9 := K8.trans hG9.frm jp
  refine Ops.m (qV.app rfl rfl zar (qQ5) rfl jd hp9 hr9 (yG _) jo jo) rfl ?_
  rintro _ w10 ⟨B10, d10, rfl, hp10, hf10, hob10⟩
  have e10 : ((dir.take i).map fun p => d1.sec (42 + p)).map SS ++ [d1.sec (42 + p)].map SS = ((dir.take (i + 1)).map fun p => d1.sec (42 + p)).map SS := by rw [hsnd]; simp
  rw [e10] at hp10
  have K10 := K9.own hf10 h1.pup
  have hup10 := (Fk.of_app hf10 hob10).up h1.pup K9.size
  have htl2 : (dir.take (i + 1)).length = i + 1 := by rw [zk]; omega
  have hb9 := hb8.frm hG9.frm jp
  have ho9 := ho8.frm hG9.frm jp
  have hd9 := hd8.frm hG9.frm jp
  have hn1 : IsO1 w1 w10 y gm u F1 d1 (dir.take (i + 1)) B7 d7 B10 d10 := by
   refine ⟨(hD8.frm hG9.frm jp).frm hf10 (fun z hz e => by have a1 := hF1 z hz; have a2 := h1.pup z e; omega), ?_, ?_, ?_, ?_, K10, hF1, h1.up, hup7, hup10, fun q hq => ?_, ?_⟩
   · rw [htl2]; exact hb9.frm hf10 (hp9.ne_blk hb9 jd)
   · rw [htl2]; exact hd9.frm hf10 (fun z hz e => hd9.ne_own hp9 jd z hz e)
   · rw [← hN]; exact ho9.frm hf10 (fun z hz e => ho9.ne_own hp9 jd z hz e)
   · rw [htl2]; exact hp10
   ·
    rw [hsnd] at hq
    rcases zcp.1 hq with h | h
    · exact h1.dp q h
    rw [za] at h; omega
   rw [hsnd]
   exact zga.2 ⟨h1.nod, jp, fun a ha b hb e => by rw [za] at hb; subst hb; exact hpd (e ▸ ha)⟩
  refine ja rfl (jO ?_)
  refine qH (jN ?_)
  refine jv6 6 7 9 11 12 13 ?_
  refine jR (jm rfl (jb rfl rfl (Bin.add_i64 _ 1 jo) (ja rfl (jO ?_))))
  refine jN ⟨(i + 1, B7, d7, B10, d10), (js6 rfl rfl rfl rfl rfl rfl), ?_, ?_⟩
  · exact ⟨hc4, hn1⟩
  exact jq
 obtain rfl : i = n := jo
 rw [zh jo] at h1
 have hps : dir.map (fun p => d1.sec (42 + p)) = pK d1 := by rw [hdir]; rfl
 have hpo := h1.pg
 rw [hps, hdl] at hpo
 have hpl : (pK d1).length = i := by rw [← hps, zae, hdl]
 have hp8 : ∀ p ∈ pK d1, p.length = 128 ∧ ∀ b ∈ p, b < 256 := fun p hp => by
  rw [← hps] at hp
  obtain ⟨q, hq, rfl⟩ := List.mem_map.1 hp
  have := h1.dp q hq
  exact h1.dk.ok.secAt jo
 refine jX ?_
 refine qZ (qZ (qN ?_))
 refine jN (jv3 6 11 12 ?_)
 refine jS (jR (jM ?_))
 refine jc (jE1 Tryz.call85) (qVr pA i pc (pK d1) wr hpl hn59 hpo.rd hp8) ?_
 rintro e w5 ⟨B, m, dd, rfl, hall, hf5, hupB⟩
 refine ⟨_, rfl, ?_⟩
 have h5 := h1.frm hf5
 refine jm rfl (jY rfl rfl (jY rfl rfl (ja rfl (ja rfl (jO (jN (jv4 6 11 18 19 ?_)))))))
 refine jS (jS (jR (jm rfl (je (Run.not rfl) (jO (jN (jv4 6 11 18 133 ?_)))))))
 refine VC.condB rfl (fun hc6 => ?_) (fun hc6 => ?_)
 ·
  have hc6 : ¬ eR (pK d1) := by simpa using hc6
  refine jS (jR (ja rfl (jz 3 (jO (jN (jv2 2 3 ?_))))))
  refine jT ?_
  refine qQ (bX rfl rfl ?_)
  exact fin3 _ (fun ho => hc6 ho.tree) h5.K
 have hT : eR (pK d1) := by simpa using hc6
 obtain ⟨hm, hrP⟩ := hall hT
 have hm : m = (opL d1).length := hm
 have hrP : Rd w5 2 B m (PC2 (opL d1)) := hrP
 have h600 := hT.2.1.2
 have hm6 : m ≤ 600 := by rw [hm]; exact h600
 have hokL : OkP (opL d1) := sV (fun p hp => (hp8 p hp).2)
 have hO5 : IsOp w1 w5 y gm u F1 d1 [] dir ⟨none, 0, dA, dc⟩ (dir ++ ((opL d1).take 0).flatMap (pgO d1)) := by
  rw [zcs, zek, zav]
  exact h5.op h441 hw1 jo
 have hn5 : (dir ++ ((opL d1).take 0).flatMap (pgO d1)).Nodup := by
  rw [zcs, zek, zav]
  exact h5.nod
 obtain ⟨r0, hr0⟩ : ∃ r0, r0 = fun x : Pr => (x.1, octO d1 x, pgO d1 x, x.2 / 4294967296) := ⟨_, rfl⟩
 have hrlen := congrArg List.length hdir
 refine jQ (jN (jv3 6 11 18 ?_))
 refine jS (jS (jR (jz 0 (jO (jN (jB ?_))))))
 refine VC.loop (σ := Nat × List Rb × Option Addr × Nat) (fun s => [(6, .pointer (some ⟨y, 0, none⟩)), (11, .slice (some ⟨u, 0, none⟩) N N), (18, .slice B m dd), (20, .int .i64 ((s.1 : Nat) : Int))]) (fun s wr => s.1 ≤ m ∧ s.2.1.length = s.1 ∧ IsOp w1 wr y gm u F1 d1 s.2.1 dir ⟨s.2.2.1, s.2.2.2, dA, dc⟩ (dir ++ ((opL d1).take s.1).flatMap (pgO d1)) ∧ (dir ++ ((opL d1).take s.1).flatMap (pgO d1)).Nodup ∧ s.2.1.map rbv = ((opL d1).take s.1).map r0 ∧ (∀ x ∈ (opL d1).take s.1, (eW d1 x).isSome = true) ∧ Frm [u, y] w5 wr ∧ (∀ z ∈ ob s.2.2.1, w5.heap.size ≤ z) ∧ ∀ x ∈ s.2.1, ∀ z ∈ ob x.2.2.1.1, w1.heap.size ≤ z) (fun s => m - s.1) (0, [], none, 0) (js4 rfl rfl rfl rfl) ⟨zj _, rfl, hO5, hn5, rfl, (fun x hx => by simp at hx), Frm.refl _ _, by simp [ob], (fun x hx => by cases hx)⟩ ?_
 rintro ⟨i2, bls, bA, bc⟩ wk ⟨hi2, hbl, hop, hnod, hmap, htrs, Kw, hbw, hpup2⟩
 dsimp only at hi2 hbl hop hnod hmap htrs hbw hpup2 ⊢
 obtain ⟨S0, hS0⟩ : ∃ S0, S0 = dir ++ ((opL d1).take i2).flatMap (pgO d1) := ⟨_, rfl⟩
 rw [← hS0] at hop hnod
 have hBk : Rd wk 2 B m (PC2 (opL d1)) := hrP.frm Kw (fun h0 z hz e => by
  have a1 := hupB z hz
  have a2 := h1.us.lt u (by simp [ob])
  have a3 := h1.blk.lt
  simp at e; omega)
 refine jS (jS (jR (jm rfl (jm rfl (jL rfl zl (jb rfl rfl (Bin.lssN _ _) (jO (jN (jv5 6 11 18 20 137 ?_)))))))))
 refine jD rfl (fun hc7 => ?_) fun hc7 => ?_
 ·
  obtain ⟨x, hx⟩ : ∃ x, x = (opL d1).getD i2 (0, 0) := ⟨_, rfl⟩
  have hxm : x ∈ opL d1 := by rw [hx]; exact fN jo
  have hts := eN (l := opL d1) (0, 0) (k := i2) jo
  obtain ⟨bd, hB, _⟩ := gM hBk hm.symm hc7
  have hel : ∀ V, Frm [] wk V → ∀ j v, (prC x)[j]? = some v → V.cell? ((bd.add (i2 * 2)).add j) = some v := fun V hV => by
   obtain ⟨a2, h2, h3⟩ := gM (hBk.frm hV jp) hm.symm hc7
   rw [hB] at h2
   cases h2
   rw [hx]
   exact h3
  rw [← hx] at hts
  have hxo := hokL x hxm
  obtain ⟨xk, xv⟩ := x
  dsimp only at hxo
  subst hB
  refine jQ (jN (jv4 6 11 18 20 ?_))
  refine jS (jB (jS (jR (jm rfl (jm rfl (je (Run.indexS _ rfl rfl zl zu jo) (jf rfl zbj rfl zy (jl rfl zai (hel _ (Frm.refl _ _) 1 _ rfl) (jb rfl rfl (Bin.quo_u64 _ 65536 jo jo) (jb rfl rfl (Bin.remN _ 65536 jo) (je (Run.convN _ rfl zr zz (by simp only [bmax]; omega)) ?_)))))))))))
  refine ja rfl (jO (jN (jv5 6 11 18 20 21 ?_)))
  refine jS ?_
  refine VC.held (fun V => Frm [] wk V) jK ?_
  have hS : Frm [] wk wk.drew := (Frm.refl _ _).drew
  refine jh 0 hS ?_
  refine jh 1 hS ?_
  refine jH 2 rfl hS (fun w0 hw0 => Run.indexS _ rfl rfl zl zu jo) ?_
  refine jH 3 rfl hS (fun w0 hw0 => Run.fieldAddr rfl zbj rfl zy jd) ?_
  refine jH 4 rfl hS (fun w0 hw0 => Run.load rfl zai (hel _ hw0 0 _ rfl)) ?_
  refine jh 5 hS ?_
  refine jh 6 hS ?_
  refine jH 7 rfl hS (fun w0 hw0 => Run.indexS _ rfl rfl zl zu jo) ?_
  refine jH 8 rfl hS (fun w0 hw0 => Run.fieldAddr rfl zbj rfl zy jd) ?_
  refine jH 9 rfl hS (fun w0 hw0 => Run.load rfl zai (hel _ hw0 1 _ rfl)) ?_
  refine jH 10 rfl hS (fun w0 hw0 => Run.bin rfl rfl (Bin.quo_u64 _ 4294967296 jo jo)) ?_
  refine jH 11 rfl hS (fun w0 hw0 => Run.convN _ rfl zr zby (by simp only [bmax]; omega)) ?_
  refine jH 12 rfl hS (fun w0 hw0 => Run.build (evs.cons rfl (evs.cons rfl evs.nil)) fC (lK).choose_spec.1 (lK).choose_spec.2 (cells := #[.int .u64 ((xk : Nat) : Int), .string (qF []), .slice none 0 0, .int .u32 ((xv / 4294967296 : Nat) : Int)]) rfl) ?_
  refine qJ.m 13 rfl jK (qV.alloc fC) trivial rfl rfl ?_
  rintro _ v5 ⟨rfl, hG5⟩
  have hg22 := hS.size
  have hb0 := hG5.blk
  refine ⟨hS.trans hG5.frm jp, ?_⟩
  have hS := hS.trans hG5.frm jp
  refine qJ.st 14 rfl jK (qT.storeA rfl rfl zbf hb0 rfl (kR (xk, [], (none, 0, []), xv / 4294967296))) trivial rfl ?_
  rintro v6 ⟨hb22, hf6, hs6⟩
  refine ⟨hS.own hf6 jp, ?_⟩
  have hS := hS.own hf6 jp
  generalize hge : wk.drew.heap.size = g22 at *
  have hb22 : Blk v6 g22 111 #[.int .u64 ((xk : Nat) : Int), .string (qF []), .slice none 0 0, .int .u32 ((xv / 4294967296 : Nat) : Int)] := hb22
  refine qJ.done jK ?_
  refine jN (jv6 6 11 18 20 21 22 ?_)
  refine jS (jR (jm rfl (jm rfl (je (Run.indexS _ rfl rfl zl zu jo) (jf rfl zbj rfl zy (jl rfl zai (hel _ hS 1 _ rfl) (jb rfl rfl (Bin.remN _ 65536 jo) (je (Run.convN _ rfl zr zz (by simp only [bmax]; omega)) (jb rfl rfl (Bin.subZ _ 1 jo jo) ?_)))))))))
  obtain ⟨a0, ha0⟩ : ∃ a0 : Int, a0 = ((xv % 65536 : Nat) : Int) - 1 := ⟨_, rfl⟩
  rw [← ha0]
  have ha0b : -1 ≤ a0 ∧ a0 ≤ 65535 := jo
  refine ja rfl (jO (jN (jv7 6 11 18 20 21 22 23 ?_)))
  refine jS (jS (jR (jm rfl (jb rfl rfl (Bin.gtrN _ 4032) (jO (jN (jv8 6 11 18 20 21 22 23 170 ?_)))))))
  refine jD rfl (fun hc8 => ?_) fun hc8 => ?_
  ·
   have hl8 : 4032 < cN (xk, xv) := hc8
   have hno : ¬ OpenOk d1 := fun ho => by
    have a1 := ho.tr _ hxm
    unfold eW at a1
    rw [if_pos hl8] at a1
    cases a1
   refine jS (jR (ja rfl (jz 3 (jO (jN (jv2 2 3 ?_))))))
   refine jT ?_
   refine qQ (qR (qQ (qQ (qR (qQ (bX rfl rfl ?_))))))
   exact fin3 _ hno (hop.K.trans hS jp)
  have hl8 : cN (xk, xv) ≤ 4032 := Nat.not_lt.1 hc8
  obtain ⟨lg, hlg⟩ : ∃ lg, lg = cN (xk, xv) := ⟨_, rfl⟩
  rw [show xv / 65536 % 65536 = lg from hlg.symm]
  obtain ⟨nd, hnd⟩ : ∃ nd, nd = qI lg := ⟨_, rfl⟩
  have hndb : nd ≤ 32 ∧ lg ≤ 126 * nd := by rw [hnd]; unfold qI; omega
  obtain ⟨G, hG⟩ : ∃ G : Nat → List Nat, G = fun p => (d1.sec (42 + p)).drop 2 := ⟨_, rfl⟩
  have hGl : ∀ p, p < N → (G p).length = 126 ∧ ∀ b ∈ G p, b < 256 := fun p hp => by
   have a1 := hD1.ok.secAt (jo : 42 + p < d1.has.length)
   rw [hG]
   exact ⟨by dsimp only; rw [zq]; omega, fun b hb => a1.2 b (zau hb)⟩
  have hGa : ∀ L : List Nat, (∀ p ∈ L, p < N) → (L.flatMap G).length = 126 * L.length := fun L => by
   induction L with
   | nil => intro _; rfl
   | cons a r ih => intro h; rw [zaw, zf, (hGl a (h a jp)).1, ih (fun p hp => h p (by simp [hp])), zad]; omega
  have hus0 := (hop.us.frm hS jp)
  rw [← hN] at hus0
  have huw : wk.heap.size ≤ g22 := hg22
  refine jQ (jN (jv7 6 11 18 20 21 22 23 ?_))
  refine jS (jS (jR (jz 0 (jO (jN (jB ?_))))))
  refine VC.loop (σ := Nat × Int × List Nat × Option Addr × Nat) (fun s => [(6, .pointer (some ⟨y, 0, none⟩)), (11, .slice (some ⟨u, 0, none⟩) N N), (18, .slice (some bd) m dd), (20, .int .i64 ((i2 : Nat) : Int)), (21, .int .i64 ((lg : Nat) : Int)), (22, .pointer (some ⟨g22, 0, none⟩)), (23, .int .i64 s.2.1), (24, .int .i64 ((s.1 : Nat) : Int))]) (fun s wr => s.1 ≤ nd ∧ s.2.2.1.length = s.1 ∧ trM d1 nd a0 = (trM d1 (nd - s.1) s.2.1).map (fun r => (s.2.2.1 ++ r.1, r.2)) ∧ (∀ p ∈ s.2.2.1, p < N) ∧ (S0 ++ s.2.2.1).Nodup ∧ Own wr 4 1 (some ⟨u, 0, none⟩) N N (BL (mkU N (S0 ++ s.2.2.1))) ∧ Blk wr g22 111 #[.int .u64 ((xk : Nat) : Int), .string (qF (s.2.2.1.flatMap G)), .slice s.2.2.2.1 s.1 s.2.2.2.2, .int .u32 ((xv / 4294967296 : Nat) : Int)] ∧ Own wr 3 1 s.2.2.2.1 s.1 s.2.2.2.2 (ZN s.2.2.1) ∧ Frm [u] wk wr ∧ (∀ z ∈ ob s.2.2.2.1, g22 < z) ∧ (-1 ≤ s.2.1 ∧ s.2.1 ≤ 65535)) (fun s => nd - s.1) (0, a0, [], none, 0) (js8 rfl rfl rfl rfl rfl rfl rfl rfl) ⟨zj _, rfl, by rw [zcc]; exact (show trM d1 nd a0 = (trM d1 nd a0).map (fun r => ([] ++ r.1, r.2)) from by cases trM d1 nd a0 <;> rfl), (fun p hp => by cases hp), by rw [zav]; exact hnod, by rw [zav]; exact hus0, hb22, Own.nil _ _ _, hS.mono jp, by simp [ob], ha0b⟩ ?_
  rintro ⟨k, a, pg, pA, pc⟩ wv ⟨hk, hpgl, htr, hpgN, hnd3, hus, hb22, hpo, Kv, hupp, hab⟩
  dsimp only at hk hpgl htr hpgN hnd3 hus hb22 hpo hupp hab ⊢
  have hopv := hop.mark (S' := S0 ++ pg) (by rw [← hN]; exact hus) Kv
  have hGp := hGa pg hpgN
  have hvs := Kv.size
  have hupw : ∀ z ∈ ob pA, wk.heap.size ≤ z := fun z hz => by have := hupp z hz; omega
  refine jS (jS (jR (jm rfl (jM ?_))))
  refine jc (jE1 Tryz.call58) (rP lg _ jo) ?_
  rintro e _ ⟨rfl, rfl⟩
  rw [← hnd]
  refine ⟨_, rfl, ?_⟩
  refine jb rfl rfl (Bin.lssN _ _) (jO (jN (jv9 6 11 18 20 21 22 23 24 174 ?_)))
  refine jD rfl (fun hc9 => ?_) fun hc9 => ?_
  ·
   refine jQ (jN (jv8 6 11 18 20 21 22 23 24 ?_))
   refine jS (jB (jS (jR (jm rfl (jM ?_)))))
   refine jc (jE2 Tryz.call75) (sY a y gm F1 d1 bls dir ⟨bA, bc, dA, dc⟩ _ hopv.rw jo hoff) ?_
   rintro e _ ⟨sx, rfl, hsx, rfl⟩
   rw [← hN] at hsx ⊢
   refine ⟨_, rfl, ?_⟩
   refine jm rfl (jY rfl rfl (jY rfl rfl (ja rfl (ja rfl (jO (jN (jv10 6 11 18 20 21 22 23 24 25 26 ?_)))))))
   refine jS (jS ?_)
   refine VC.split1 [(6, _), (11, _), (18, _), (20, _), (21, _), (22, _), (23, _), (24, _), (25, _)] (js9 rfl rfl rfl rfl rfl rfl rfl rfl rfl) 190 (.bool (decide (¬ ((0 ≤ a ∧ a < ((N : Nat) : Int)) ∧ a.toNat ∉ S0 ++ pg)))) ?_ ?_
   ·
    refine jR ?_
    refine jm rfl (je (Run.not rfl) ?_)
    by_cases hs184 : ¬ (0 ≤ a ∧ a < ((N : Nat) : Int))
    ·
     refine jM ?_
     refine jU ?_
     refine jU ?_
     refine jU ?_
     refine jU ?_
     refine jW rfl rfl au (jO ?_)
     refine jN ⟨(js10 (jC (by grind)) rfl rfl rfl rfl rfl rfl rfl rfl rfl), rfl⟩
    have hr184 := Classical.not_not.1 hs184
    have hcU : wv.cell? ((⟨u, 0, none⟩ : Addr).add a.toNat) = some (.bool (decide (a.toNat ∈ S0 ++ pg))) := by
     obtain ⟨ud, hU, hc⟩ := oV hus.rd (vH N _) (jo : a.toNat < N)
     cases hU
     rw [yR _ jo] at hc
     exact hc
    refine jM ?_
    refine jG ?_
    refine jG ?_
    refine jk (Run.index1 a.toNat rfl (by rw [zgf hr184.1]; rfl) zcd zat jo) ?_
    refine jk (Run.load rfl zcr hcU) ?_
    by_cases hs189 : a.toNat ∈ S0 ++ pg
    ·
     refine jF rfl rfl au (jO ?_)
     refine jN ⟨(js10 (jC (by grind)) rfl rfl rfl rfl rfl rfl rfl rfl rfl), rfl⟩
    refine jF rfl rfl au (jO ?_)
    refine jN ⟨(js10 (jC (by grind)) rfl rfl rfl rfl rfl rfl rfl rfl rfl), rfl⟩
   intro Γ hΓ
   refine jN (VC.sub _ hΓ ?_)
   refine jD rfl (fun hc10 => ?_) fun hc10 => ?_
   ·
    have hno : ¬ OpenOk d1 := fun ho => hc10 (by
     have a1 := qYs ho (jo : i2 < (opL d1).length) hx (by rw [← hlg]; exact hnd) ha0 hc9 htr
     rw [← hN, ← hdir, ← hS0] at a1
     exact a1)
    refine jS (jR (ja rfl (jz 3 (jO (jN (jv2 2 3 ?_))))))
    refine jT ?_
    refine qQ (qR (qQ (qQ (qR (qQ (qR (qQ (qQ (qR (qQ (bX rfl rfl ?_)))))))))))
    exact fin3 _ hno hopv.K
   obtain ⟨hr10, hd10⟩ := Classical.not_not.1 hc10
   have hsx := hsx hr10
   have htr2 : trM d1 nd a0 = (trM d1 (nd - (k + 1)) (((bC (d1.sec (42 + a.toNat)) 0 2 : Nat) : Int) - 1)).map fun r => (pg ++ [a.toNat] ++ r.1, r.2) := by
    rw [htr, show nd - k = (nd - (k + 1)) + 1 by omega]
    exact qKq (by rw [← hN]; exact hr10) pg
   obtain ⟨p, rfl⟩ : ∃ p : Nat, a = ((p : Nat) : Int) := ⟨a.toNat, jo⟩
   rw [zdt] at hd10 htr2 hsx
   subst hsx
   have hpN : p < N := jo
   have hsc := hD1.ok.secAt (jo : 42 + p < d1.has.length)
   have hGp1 := hGl p hpN
   have hst := vM (N := N) (S0 ++ pg) hpN
   rw [zab] at hst
   have hGs : (pg ++ [p]).flatMap G = pg.flatMap G ++ G p := by rw [zan]; simp
   have hn22 : g22 ∉ ob (some (⟨u, 0, none⟩ : Addr)) := hus.ne_blk hb22 jd
   refine jQ (jN (jv9 6 11 18 20 21 22 23 24 25 ?_))
   refine jS (jR (jm rfl (jm rfl (je (Run.index1 _ rfl rfl zcd zat jo) ?_))))
   refine Ops.st (qT.storeOwn p rfl rfl zat hus rfl jo rfl) ?_
   rintro v5 ⟨ho5, hf5, hs5⟩
   have e5 : (BL (mkU N (S0 ++ pg))).set p (.bool true) = BL (mkU N (S0 ++ (pg ++ [p]))) := by rw [← hst, BL, BL, zfg]
   rw [e5] at ho5
   have hf5 : Frm [u] wv v5 := hf5
   have K5 := Kv.trans hf5 (fun z hz => .inl hz)
   have hb5 := hb22.frm hf5 (by simpa [ob] using hn22)
   have hp5 := hpo.frm hf5 (fun z hz e => hpo.ne_own hus jd z hz (by simpa [ob] using e))
   refine jO (jN (jv9 6 11 18 20 21 22 23 24 25 ?_))
   refine jS (jR (jf rfl zal rfl zax (jl rfl zbx (hb5.cell 2) (jM ?_))))
   refine Ops.m (qV.buildS1 rfl zn zm pG jd jd rfl rfl) rfl ?_
   rintro _ v6 ⟨rfl, hG6⟩
   have hr6 : Rd v6 1 (some ⟨v5.heap.size, 0, none⟩) 1 (ZN [p]) := Rd.of_blk (n := 1) (size := 1) hG6.blk rfl
   have hp6 := hp5.frm hG6.frm jp
   have K6 := K5.trans hG6.frm jp
   have hb6 := hb5.frm hG6.frm jp
   have ho6 := ho5.frm hG6.frm jp
   refine Ops.m (qV.app rfl rfl zn (pH) rfl jd hp6 hr6 (rO _) jo jo) rfl ?_
   rintro _ v7 ⟨B7, d7, rfl, hp7, hf7, hob7⟩
   rw [← show ZN (pg ++ [p]) = ZN pg ++ ZN [p] by rw [ZN, ZN, ZN, zv]] at hp7
   have hb7 := hb6.frm hf7 (hp6.ne_blk hb6 jd)
   have ho7 := ho6.frm hf7 (fun z hz e => ho6.ne_own hp6 jd z hz e)
   have K7 := K6.trans hf7 (fun z hz => .inr (hupw z hz))
   have hup7 : ∀ z ∈ ob B7, g22 < z := (Fk.of_app hf7 hob7).up (b := g22 + 1) hupp (by have := hb6.lt; omega)
   refine jf rfl zal rfl zax ?_
   refine Ops.st (qT.store rfl rfl zax hb7 rfl rfl) ?_
   rintro v8 ⟨hb8, hf8, hs8⟩
   have hf8 : Frm [g22] v7 v8 := hf8
   have hb8 : Blk v8 g22 111 #[.int .u64 ((xk : Nat) : Int), .string (qF (pg.flatMap G)), .slice B7 (k + 1) d7, .int .u32 ((xv / 4294967296 : Nat) : Int)] := hb8
   have K8 := K7.trans hf8 (fun z hz => .inr (by rw [za] at hz; omega))
   have hp8 := hp7.frm hf8 (fun z hz e => by rw [za] at e; subst e; exact hp7.ne_blk hb7 jd hz)
   have ho8 := ho7.frm hf8 (fun z hz e => by rw [za] at e; subst e; exact ho7.ne_blk hb7 jd hz)
   refine jO (jN (jv8 6 11 18 20 21 22 24 25 ?_))
   refine jS ?_
   refine VC.heldL 6 (fun V => Frm [] v8 V) jK ?_
   have hS8 : Frm [] v8 v8.drew := (Frm.refl _ _).drew
   have hS := hS8
   have hb8d := hb8.frm hS8 jp
   refine jH 0 rfl hS (fun w0 hw0 => Run.fieldAddr rfl zal rfl zbm jd) ?_
   refine jH 1 rfl hS (fun w0 hw0 => Run.load rfl zde ((hb8.frm hw0 jp).cell 1)) ?_
   refine qJ.r1 2 rfl jK hS (Run.mv rfl) trivial rfl rfl ?_
   refine qJ.r1 3 rfl jK hS (Run.sliceO 2 128 rfl zt (evB.some_ rfl) (by rw [hsc.1]; exact evB.none_) jo jo) trivial rfl rfl ?_
   rw [zh (jo : (d1.sec (42 + p)).length ≤ 128), show (d1.sec (42 + p)).drop 2 = G p by rw [hG]]
   refine qJ.r1 4 rfl jK hS (Run.addO rfl rfl (by rw [hGp1.1, hGp]; omega)) trivial rfl rfl ?_
   rw [← hGs]
   refine qJ.r1 5 rfl jK hS (Run.fieldAddr rfl zal rfl zbm jd) trivial rfl rfl ?_
   refine qJ.stL rfl jK (qT.store rfl rfl zbm hb8d rfl rfl) trivial rfl ?_
   rintro v9 ⟨hb9, hf9, hs9⟩
   have hf9 : Frm [g22] v8.drew v9 := hf9
   have hb9 : Blk v9 g22 111 #[.int .u64 ((xk : Nat) : Int), .string (qF ((pg ++ [p]).flatMap G)), .slice B7 (k + 1) d7, .int .u32 ((xv / 4294967296 : Nat) : Int)] := hb9
   have K9 := (K8.trans hS8 jp).trans hf9 (fun z hz => .inr (by rw [za] at hz; omega))
   have hp9 := (hp8.frm hS8 jp).frm hf9 (fun z hz e => by rw [za] at e; subst e; exact hp8.ne_blk hb8 jd hz)
   have ho9 := (ho8.frm hS8 jp).frm hf9 (fun z hz e => by rw [za] at e; subst e; exact ho8.ne_blk hb8 jd hz)
   refine qJ.done jK ?_
   refine jN (jv8 6 11 18 20 21 22 24 25 ?_)
   refine jS (jR (jM ?_))
   refine jc0 (jE3 Tryz.call84) (lP (d1.sec (42 + p)) 0 2 _ hsc.2 jo jo jo jo) ?_
   rw [← (eI (hd := d1.sec (42 + p)) (a := 0) (n := 2) jo).2]
   have hnv : bC (d1.sec (42 + p)) 0 2 < 65536 := by
    rw [(eI jo).2]
    have := sW hsc.2 0 2
    exact this
   refine jm rfl (jY rfl rfl (jY rfl rfl (ja rfl (ja rfl (jO (jN (jv8 6 11 18 20 21 22 24 27 ?_)))))))
   refine jR (jm rfl (je (Run.convN _ rfl zr zz (by simp only [bmax]; omega)) (jb rfl rfl (Bin.subZ _ 1 jo jo) (ja rfl (jO ?_)))))
   refine qH (jN ?_)
   refine jv8 6 11 18 20 21 22 23 24 ?_
   refine jR (jm rfl (jb rfl rfl (Bin.add_i64 _ 1 jo) (ja rfl (jO ?_))))
   refine jN ⟨(k + 1, ((bC (d1.sec (42 + p)) 0 2 : Nat) : Int) - 1, pg ++ [p], B7, d7), (js8 rfl rfl rfl rfl rfl rfl rfl rfl), ?_, ?_⟩
   ·
    refine ⟨hc9, by dsimp only; rw [zf]; simp [hpgl], htr2, fun q hq => ?_, ?_, ho9, hb9, hp9, K9, hup7, by dsimp only; omega⟩
    ·
     rcases zcp.1 hq with h | h
     · exact hpgN q h
     rw [za] at h; omega
    dsimp only
    rw [← zab]
    exact zga.2 ⟨hnd3, jp, fun x1 ha b1 hb e => by rw [za] at hb; subst hb; exact hd10 (e ▸ ha)⟩
   exact jq
  obtain rfl : k = nd := jo
  rw [zes] at htr
  have htrx := qYt hl8 (by rw [← hlg]; exact hnd) ha0 htr
  refine jX ?_
  refine qZ (qZ (qN ?_))
  refine jN (jv7 6 11 18 20 21 22 23 ?_)
  refine jS (jS (jR (jm rfl (jb rfl rfl (Bin.neq _ (-1)) (jO (jN (jv7 6 11 18 20 21 22 215 ?_)))))))
  refine jD rfl (fun hc11 => ?_) fun hc11 => ?_
  ·
   have ha1 : ¬ a = -1 := hc11
   rw [if_neg ha1] at htrx
   have hno : ¬ OpenOk d1 := fun ho => by
    have a1 := ho.tr _ hxm
    rw [htrx] at a1
    cases a1
   refine jS (jR (ja rfl (jz 3 (jO (jN (jv2 2 3 ?_))))))
   refine jT ?_
   refine qQ (qR (qQ (qQ (qR (qQ (bX rfl rfl ?_))))))
   exact fin3 _ hno hopv.K
  have ha1 : a = -1 := Classical.not_not.1 hc11
  rw [if_pos ha1] at htrx
  have hpgO : pgO d1 (xk, xv) = pg := by unfold pgO; rw [htrx]; rfl
  have hoc : octO d1 (xk, xv) = (pg.flatMap G).take lg := by unfold octO; rw [hpgO, hlg, hG]
  obtain ⟨O, hO⟩ : ∃ O, O = (pg.flatMap G).take lg := ⟨_, rfl⟩
  have hOl : O.length = lg := by rw [hO, zk]; omega
  have hOB : ∀ b ∈ O, b < 256 := fun b hb => by
   rw [hO] at hb
   obtain ⟨p, hp, hb⟩ := List.mem_flatMap.1 (zo hb)
   exact (hGl p (hpgN p hp)).2 b hb
  have hn22 : g22 ∉ ob (some (⟨u, 0, none⟩ : Addr)) := hus.ne_blk hb22 jd
  refine jQ (jN (jv6 6 11 18 20 21 22 ?_))
  refine jS (jR (jf rfl zal rfl zbm (jl rfl zde (hb22.cell 1) (jm rfl (je (Run.sliceO 0 lg rfl zt evB.none_ (evB.some_ rfl) jo jo) ?_)))))
  rw [zbz, ← hO]
  refine jf rfl zal rfl zbm ?_
  refine Ops.st (qT.store rfl rfl zbm hb22 rfl rfl) ?_
  rintro v5 ⟨hb5, hf5, hs5⟩
  have hf5 : Frm [g22] wv v5 := hf5
  have hb5 : Blk v5 g22 111 #[.int .u64 ((xk : Nat) : Int), .string (qF O), .slice pA k pc, .int .u32 ((xv / 4294967296 : Nat) : Int)] := hb5
  have hp5 := hpo.frm hf5 (fun z hz e => by rw [za] at e; subst e; exact hpo.ne_blk hb22 jd hz)
  have hu5 := hus.frm hf5 (fun z hz e => by rw [za] at e; subst e; exact hn22 hz)
  have K5 := Kv.trans hf5 (fun z hz => .inr (by rw [za] at hz; omega))
  have ho5 := hop.mark (S' := S0 ++ pg) (by rw [← hN]; exact hu5) K5
  have hbx5 : Blk v5 g22 111 (rbC (xk, O, (pA, pc, pg), xv / 4294967296)).toArray := by
   rw [← hpgl] at hb5
   exact hb5
  have hlo5 := ho5.lo
  have hby5 := ho5.rw.blk
  dsimp only at hlo5 hby5
  rw [hbl] at hlo5 hby5
  have n5y : y ∉ ob bA := hlo5.ne_blk hby5 jd
  have n5g : g22 ∉ ob bA := fun e => by have a1 := hop.lo.lt g22 e; omega
  refine jO (jN (jv5 6 11 18 20 22 ?_))
  refine VC.heldL 10 (fun V => Frm (ob bA) v5 V) jK ?_
  have hT0 : Frm [] v5 v5.drew := (Frm.refl _ _).drew
  have hS : Frm (ob bA) v5 v5.drew := (Frm.refl _ _).drew
  refine jh 0 hS ?_
  refine jh 1 hS ?_
  refine jH 2 rfl hS (fun w0 hw0 => Run.nilck rfl) ?_
  refine jH 3 rfl hS (fun w0 hw0 => Run.fieldAddr rfl zay rfl zco jd) ?_
  refine jH 4 rfl hS (fun w0 hw0 => Run.load rfl zdo ((hby5.frm hw0 n5y).cell 1)) ?_
  refine qJ.r1 5 rfl jK hS (Run.loadA rfl zfv zbf ((hbx5.frm hS n5g).cells) (by first | rfl | (simp; done))) trivial rfl rfl ?_
  refine qJ.m 6 rfl jK (qV.buildS1 rfl zao zbf fC jd jd rfl rfl) trivial rfl rfl ?_
  rintro _ v6 ⟨rfl, hG6⟩
  refine ⟨hS.trans hG6.frm jp, ?_⟩
  have hr6 : Rd v6 4 (some ⟨v5.drew.heap.size, 0, none⟩) 1 (rbC (xk, O, (pA, pc, pg), xv / 4294967296)) := Rd.of_blk (n := 1) (size := 4) hG6.blk rfl
  have hS := hS.trans hG6.frm jp
  have hT0 := hT0.trans hG6.frm jp
  have ho6 := ho5.frm hT0
  have hlo6 := hlo5.frm hT0 jp
  have hp6 := hp5.frm hT0 jp
  refine qJ.m 7 rfl jK (qV.app rfl rfl zao (oK) rfl jd hlo6 hr6 (kR _) jo jo) trivial rfl rfl ?_
  rintro _ v7 ⟨B7, d7, rfl, hlo7, hf7, hob7⟩
  refine ⟨hS.trans hf7 (fun z hz => .inl hz), ?_⟩
  have hS := hS.trans hf7 (fun z hz => .inl hz)
  have e7 : bls.flatMap rbC ++ rbC (xk, O, (pA, pc, pg), xv / 4294967296) = (bls ++ [(xk, O, (pA, pc, pg), xv / 4294967296)]).flatMap rbC := jp
  rw [e7] at hlo7
  have hby7 := hby5.frm hS n5y
  have hp7 := hp6.frm hf7 (fun z hz e => hp6.ne_own hlo6 jd z hz e)
  refine qJ.r1 8 rfl jK hS (Run.nilck rfl) trivial rfl rfl ?_
  refine qJ.r1 9 rfl jK hS (Run.fieldAddr rfl zay rfl zco jd) trivial rfl rfl ?_
  refine qJ.stL rfl jK (qT.store rfl rfl zco hby7 rfl rfl) trivial rfl ?_
  rintro v8 ⟨hb8, hf8, hs8⟩
  have hf8 : Frm [y] v7 v8 := hf8
  have hb8 : Blk v8 y 121 #[.pointer (some ⟨gm, 0, none⟩), .slice B7 (i2 + 1) d7, .slice dA dir.length dc] := hb8
  have hlo8 := hlo7.frm hf8 (fun z hz e => by rw [za] at e; subst e; exact hlo7.ne_blk hby7 jd hz)
  have hp8 := hp7.frm hf8 (fun z hz e => by rw [za] at e; subst e; exact hp7.ne_blk hby7 jd hz)
  have hrb : RbOk v8 (u :: y :: F1 ++ ob B7) (d1.has.length - 42) (xk, O, (pA, pc, pg), xv / 4294967296) := by
   refine ⟨hxo.1, hOB, by dsimp only; omega, by dsimp only; omega, ⟨?_, fun _ z hz => ⟨hp8.lt z hz, fun e => ?_⟩⟩, by dsimp only; rw [hpgl]; exact hp8.le, by rw [← hN]; exact hpgN, by dsimp only; omega⟩
   ·
    dsimp only
    rw [hpgl]
    exact hp8.rd
   have a1 := hupp z hz
   rcases zcp.1 e with e | e
   ·
    rcases zaq.1 e with e | e
    · have a2 := hop.us.lt u (by simp [ob]); omega
    rcases zaq.1 e with e | e
    · have a2 := hop.rw.blk.lt; omega
    have a2 := hF1 z e; have a3 := hop.K.size; omega
   exact hp8.ne_own hlo8 jd z hz e
  have hpush := ho6.push (b := (xk, O, (pA, pc, pg), xv / 4294967296)) jo hf7 hob7 hf8 (by rw [hbl]; exact hlo8) (by rw [hbl]; exact hb8) hrb
  have hSn : dir ++ ((opL d1).take (i2 + 1)).flatMap (pgO d1) = S0 ++ pg := by rw [hts, zan, ← zab, ← hS0]; simp [hpgO]
  have hw5 : Frm [u, y] w5 v6 := (Kw.trans K5 (fun z hz => .inl (by rw [za] at hz; simp [hz]))).trans hT0 jp
  have hw7 := hw5.trans hf7 (fun z hz => .inr (hbw z hz))
  have hw8 : Frm [u, y] w5 v8 := hw7.trans hf8 (fun z hz => .inl (by rw [za] at hz; simp [hz]))
  refine qJ.done jK ?_
  refine qH (jN ?_)
  refine jv4 6 11 18 20 ?_
  refine jR (jm rfl (jb rfl rfl (Bin.add_i64 _ 1 jo) (ja rfl (jO ?_))))
  refine jN ⟨(i2 + 1, bls ++ [(xk, O, (pA, pc, pg), xv / 4294967296)], B7, d7), (js4 rfl rfl rfl rfl), ?_, ?_⟩
  ·
   refine ⟨hc7, by dsimp only; rw [zf, hbl]; rfl, by dsimp only; rw [hSn]; exact hpush, by dsimp only; rw [hSn]; exact hnd3, ?_, fun z hz => ?_, hw8, (Fk.of_app hf7 hob7).up hbw hw5.size, fun x hx z hz => ?_⟩
   ·
    dsimp only
    rw [hts, zv, zv, hmap, hr0]
    simp [rbv, hoc, hpgO, hO]
   ·
    dsimp only at hz
    rw [hts] at hz
    rcases zcp.1 hz with h | h
    · exact htrs z h
    rw [za] at h; subst h; rw [htrx]; rfl
   dsimp only at hx
   rcases zcp.1 hx with hx | hx
   · exact hpup2 x hx z hz
   rw [za] at hx; subst hx; have a1 := hupp z hz; have a2 := hop.K.size; omega
  exact jq
 refine jX ?_
 refine qZ (qZ (qN ?_))
 refine jN (jv1 6 ?_)
 refine jS (jR (jm rfl (ja rfl (jz 0 (jO (jN (jv2 2 3 ?_)))))))
 refine jT ?_
 refine bX rfl rfl ?_
 obtain rfl : i2 = m := jo
 have htk : (opL d1).take i2 = opL d1 := zh jo
 rw [htk] at hmap htrs hS0
 have hok : OpenOk d1 := ⟨⟨⟨by rw [← hs, ← hn]; exact hn59, by rw [← hs]; exact hsup, fun p hp => by
  have : p ∈ dir := by rw [hdirs, hs]; exact hp
  exact h1.dp p this⟩, hT, htrs⟩, by rw [← hdir, ← hS0]; exact hnod⟩
 refine ⟨F1, hop.rw.dk, ?_, .inr (.inr ⟨rfl, hok, y, bls, ⟨bA, bc, dA, dc⟩, rfl, by rw [← hdir]; exact hop.rw, ?_, jo, fun E hE => ⟨fun _ z hz e => by have a1 := hE z e; have a2 := hop.up.2.2.2 z hz; omega, fun _ z hz e => by have a1 := hE z e; have a2 := h1.dup z hz; omega, fun x hx _ z hz e => by have a1 := hE z e; have a2 := hpup2 x hx z hz; omega⟩⟩)⟩
 · exact hk1.frm hop.K jp
 unfold bE
 rw [hmap, hr0]
 refine zfm fun z hz => ?_
 rw [hok.octs hz, hok.lies hz]
theorem qG8 (A : Option Addr) (c : Nat) (b : List Nat) (w : World) (hl : b.length = 128) (hp : ¬ eC b) (hc : 128 ≤ c) (hB : ∀ x ∈ b, x < 256) (hr : Rd w 1 A 128 (NB b)) :
  Calls Tryz.prog 148 #[.slice A 128 c] w fun e w' => Frm [] w w' ∧ e = .returned (.tuple #[.agg (ndV none none 0 0 0 0 false), .bool false]) := by
 obtain ⟨ad, rfl, _, _⟩ := hr.2 jo
 have hcl : ∀ V, Frm [] w V → ∀ i, i < 128 → V.cell? (ad.add i) = some (.int .u8 ((b.getD i 0 : Nat) : Int)) := fun V hV i hi => by
  obtain ⟨ad2, he, h2⟩ := gF (hr.frm hV jp) hl hi
  cases he
  exact h2
 have hrV : ∀ V, Frm [] w V → Rd V 1 (some ad) 128 (NB b) := fun V hV => hr.frm hV jp
 obtain ⟨k0, hk0⟩ : ∃ k0, k0 = b.getD 0 0 := ⟨_, rfl⟩
 obtain ⟨k1, hk1⟩ : ∃ k1, k1 = b.getD 1 0 := ⟨_, rfl⟩
 have hk1b : k1 < 256 := hk1 ▸ hB _ (bG jo)
 unfold eC at hp
 rw [← hk0, ← hk1] at hp
 have hc0 : ∀ V, Frm [] w V → V.cell? (ad.add 0) = some (.int .u8 ((k0 : Nat) : Int)) := fun V hV => by rw [hk0]; exact hcl V hV 0 jo
 have hc1 : ∀ V, Frm [] w V → V.cell? (ad.add 1) = some (.int .u8 ((k1 : Nat) : Int)) := fun V hV => by rw [hk1]; exact hcl V hV 1 jo
 refine jV Tryz.func148 Tryz.ntmps148 Tryz.results148 ?_
 refine jS (jR ?_)
 refine Ops.m (qV.alloc lJ) rfl ?_
 rintro _ w1 ⟨rfl, hF1⟩
 have hb2 : Blk w1 w.heap.size 222 (ndV none none 0 0 0 0 false) := hF1.blk
 have K := hF1.frm
 have q1 := hF1.size
 generalize hg2 : w.heap.size = g2 at hb2 q1 ⊢
 refine ja rfl (jO (jN (jv2 0 2 ?_)))
 refine jS (jS (jR (jm rfl (jL rfl zg (jb rfl rfl (Bin.neqN _ 128) (jO (jN (jv3 0 2 13 ?_))))))))
 refine VC.condF rfl (rfl) ?_
 refine jQ (jN (jv2 0 2 ?_))
 refine jS (jR (jm rfl (je (Run.index1 1 rfl rfl zg zam jo) (jl rfl zdk (hc1 _ K) (je (Run.convN _ rfl zac zz (by simp only [bmax]; omega)) (ja rfl (jO (jN (jv3 0 2 4 ?_)))))))))
 refine jS (jR (jz 16 (jz 7 (jO (jN (jS (jB (jS (jR (jm rfl (je (Run.index1 0 rfl rfl zg zam jo) (jl rfl zdk (hc0 _ K) (jb rfl rfl (Bin.eqlN _ 2) (ja rfl (jO (jN (jv6 0 2 4 5 6 19 ?_)))))))))))))))))
 refine VC.meet (σ := Nat × Nat) (fun s => [(0, .slice (some ad) 128 c), (2, jI0 g2), (4, jI1 k1), (5, jI1 s.1), (6, jI1 s.2)]) (fun s wz => w1 = wz ∧ (k0 = 2 ∧ s.1 = 10 ∧ s.2 = 12 ∨ k0 = 1 ∧ s.1 = 16 ∧ s.2 = 7)) ?_ ?_
 ·
  refine jD rfl (fun hc2 => ?_) fun hc2 => ?_
  ·
   refine jR (jz 10 (jz 12 (jO ?_)))
   refine jN ⟨(10, 12), (js5 rfl rfl rfl rfl rfl), ?_⟩
   exact ⟨rfl, .inl ⟨hc2, rfl, rfl⟩⟩
  refine jS (jR (jm rfl (je (Run.index1 0 rfl rfl zg zam jo) (jl rfl zdk (hc0 _ K) (jb rfl rfl (Bin.neqN _ 1) (ja rfl (jO (jN (jv6 0 2 4 5 6 24 ?_)))))))))
  refine jD rfl (fun hc3 => ?_) fun hc3 => ?_
  ·
   refine jS (jR (je (Run.build (cells := ndV none none 0 0 0 0 false) (parts := []) evs.nil lJ (fF).choose_spec.1 (fF).choose_spec.2 rfl) ?_))
   refine Ops.st (qT.storeA rfl rfl zec hb2 rfl (oH _ _ _ _ _ _ _)) ?_
   rintro w9 ⟨hb9, hf9, hs9⟩
   refine ja rfl (jO (jN (jv2 2 3 ?_)))
   refine jT ?_
   refine qQ (qR (qQ (eO ?_)))
   refine cW rfl Tryz.isAgg222 zec (hb9.cells) (by first | rfl | (simp; done) | (simp [*]; done)) ?_
   refine dH rfl ?_
   refine cY ?_
   exact ⟨K.own hf9 (by simp; omega), rfl⟩
  refine jQ ?_
  refine jN ⟨(16, 7), (js5 rfl rfl rfl rfl rfl), ?_⟩
  exact ⟨rfl, .inr ⟨jo, rfl, rfl⟩⟩
 rintro ⟨ea, mo⟩ _ ⟨rfl, hem⟩ Γ hΓ
 dsimp only at hem hΓ
 have hea : ea = pD k0 := by
  rcases hem with ⟨h0, h, _⟩ | ⟨h0, h, _⟩ <;> rw [h, h0] <;> rfl
 have heb : ea ≤ 16 := by rcases hem with ⟨_, h, _⟩ | ⟨_, h, _⟩ <;> omega
 refine qH (jN (VC.sub _ hΓ ?_))
 refine jS (jS ?_)
 refine VC.split1 [(0, _), (2, _), (4, _), (5, _)] (js4 rfl rfl rfl rfl) 42 (.bool (decide (mo < k1 ∨ k0 = 2 ∧ k1 = 0))) ?_ ?_
 ·
  refine jR ?_
  refine jm rfl (jm rfl (jb rfl rfl (Bin.gtrN _ _) ?_))
  by_cases hs32 : mo < k1
  ·
   refine jM ?_
   refine jU ?_
   refine jU ?_
   refine jU ?_
   refine jU ?_
   refine jU ?_
   refine Ops.skU rfl rfl ?_
   refine Ops.skU rfl rfl ?_
   refine jU ?_
   refine jW rfl rfl au (jO ?_)
   refine jN ⟨(js5 (jC (by grind)) rfl rfl rfl rfl), rfl⟩
  refine jM ?_
  refine jG ?_
  refine jk (Run.index1 0 rfl rfl zg zam jo) ?_
  refine jk (Run.load rfl zdk (hc0 _ K)) ?_
  refine jk (Run.bin rfl rfl (Bin.eqlN _ 2)) ?_
  by_cases hs37 : k0 = 2
  ·
   refine jG ?_
   refine jG ?_
   refine jk (Run.bin rfl rfl (Bin.eqlN _ 0)) ?_
   by_cases hs40 : k1 = 0
   ·
    refine jk (Run.pickT rfl rfl au) ?_
    refine jF rfl rfl au (jO ?_)
    refine jN ⟨(js5 (jC (by grind)) rfl rfl rfl rfl), rfl⟩
   refine jk (Run.pickT rfl rfl au) ?_
   refine jF rfl rfl au (jO ?_)
   refine jN ⟨(js5 (jC (by grind)) rfl rfl rfl rfl), rfl⟩
  refine jG ?_
  refine jU ?_
  refine jU ?_
  refine jk (Run.pickF rfl rfl au) ?_
  refine jF rfl rfl au (jO ?_)
  refine jN ⟨(js5 (jC (by grind)) rfl rfl rfl rfl), rfl⟩
 intro Γ hΓ
 refine jN (VC.sub _ hΓ ?_)
 refine jD rfl (fun hc4 => ?_) fun hc4 => ?_
 ·
  refine jS (jR (je (Run.build (cells := ndV none none 0 0 0 0 false) (parts := []) evs.nil lJ (fF).choose_spec.1 (fF).choose_spec.2 rfl) ?_))
  refine Ops.st (qT.storeA rfl rfl zec hb2 rfl (oH _ _ _ _ _ _ _)) ?_
  rintro w9 ⟨hb9, hf9, hs9⟩
  refine ja rfl (jO (jN (jv2 2 3 ?_)))
  refine jT ?_
  refine qQ (eO ?_)
  refine cW rfl Tryz.isAgg222 zec (hb9.cells) (by first | rfl | (simp; done) | (simp [*]; done)) ?_
  refine dH rfl ?_
  refine cY ?_
  exact ⟨K.own hf9 (by simp; omega), rfl⟩
 have hsz : ea * k1 ≤ 120 := by
  rcases hem with ⟨_, h, h2⟩ | ⟨_, h, h2⟩
  · rw [h]; omega
  rw [h]; omega
 have hcut : Rd w1 1 (some ad) (2 + ea * k1) (NB (b.take (2 + ea * k1))) := by
  have h1 := (hrV _ K).cut (l := 0) (r := 2 + ea * k1) (cap := c) (zj _) jo hc
  rw [dP, zcc, zei, zbz, zds, (nR _ _).1] at h1
  exact h1
 refine jQ (jN (jv4 0 2 4 5 ?_))
 refine jS (jR (jm rfl (jm rfl (jb rfl rfl (Bin.mul_i64 _ _ jo) (jb rfl rfl (Bin.add_i64 2 _ jo) (ja rfl (jO (jN (jv5 0 2 4 5 7 ?_)))))))))
 refine jS (jS (jR (jm rfl (jm rfl (je (Run.sliceS 0 _ rfl zg zam evB.none_ (evB.some_ rfl) jo jo) ?_)))))
 rw [dP, zcc]
 refine jc (jE1 Tryz.call142) (nO (some ad) _ (2 + ea * k1) (b.take (2 + ea * k1)) _ (by rw [zk]; omega) jo (fun x hx => hB x (zo hx)) hcut) ?_
 rintro e w3 ⟨PB, pd, rfl, hoP, hf3, hupP⟩
 refine ⟨_, rfl, ?_⟩
 refine jM ?_
 refine jc0 (jE2 zhh) (mD PB (some ad) 128 128 pd c (dR (b.take (2 + ea * k1))) b w3 (fM (by rw [zk]; omega)) hl (fL (fun x hx => hB x (zo hx))) hB hoP.rd (hrV _ (K.trans hf3 jp))) ?_
 refine je (Run.not rfl) (jO (jN (jv5 0 2 4 5 54 ?_)))
 refine VC.condB rfl (fun hc5 => ?_) (fun hc5 => ?_)
 ·
  refine jS (jR (je (Run.build (cells := ndV none none 0 0 0 0 false) (parts := []) evs.nil lJ (fF).choose_spec.1 (fF).choose_spec.2 rfl) ?_))
  refine Ops.st (qT.storeA rfl rfl zec (hb2.frm hf3 jp) rfl (oH _ _ _ _ _ _ _)) ?_
  rintro w9 ⟨hb9, hf9, hs9⟩
  refine ja rfl (jO (jN (jv2 2 3 ?_)))
  refine jT ?_
  refine qQ (eO ?_)
  refine cW rfl Tryz.isAgg222 zec (hb9.cells) (by first | rfl | (simp; done) | (simp [*]; done)) ?_
  refine dH rfl ?_
  refine cY ?_
  exact ⟨(K.trans hf3 jp).own hf9 (by simp; omega), rfl⟩
 exfalso
 have hc5 : dR (b.take (2 + ea * k1)) = b := by simpa using hc5
 refine hp ⟨hl, ?_, by rw [← hea]; exact hc5⟩
 rcases hem with ⟨h0, _, h2⟩ | ⟨h0, _, h2⟩
 · exact .inl ⟨h0, jo, fun h => hc4 (.inr ⟨h0, h⟩)⟩
 exact .inr ⟨h0, jo⟩
theorem qYu (A B : Option Addr) (n m c d : Nat) (ps qs : List Pg) (w : World) (hn1 : n ≤ 1000000) (hn : ps.length = n) (hm : qs.length = m) (hA : Rd w 1 A n (ps.map SL)) (hB : Rd w 1 B m (qs.map SL)) (hp : RdR w ps) (hq : RdR w qs) :
  Calls Tryz.prog 149 #[.slice A n c, .slice B m d, .func (.func 113) #[] #[]] w fun e w' => e = .returned (.bool (decide (ps.map (·.2.2) = qs.map (·.2.2)))) ∧ w = w' := by
 refine jV Tryz.func149 Tryz.ntmps149 Tryz.results149 ?_
 refine jS (jR (ja rfl (jO (jN (jv3 0 1 2 ?_)))))
 refine jS (jS (jR (jm rfl (jL rfl zbc (jm rfl (jL rfl zbc (jb rfl rfl (Bin.neqN _ _) (jO (jN (jv4 0 1 2 14 ?_))))))))))
 refine jD rfl (fun hc1 => ?_) fun hc1 => ?_
 ·
  have hne : ¬ n = m := by simpa using hc1
  rw [show decide (ps.map (·.2.2) = qs.map (·.2.2)) = false from decide_eq_false (fun h => hne (by have := congrArg List.length h; rw [zae, zae] at this; omega))]
  refine jS (jR (ja rfl (jO (jN (jv1 6 ?_)))))
  refine jT ?_
  refine qQ (qS rfl ?_)
  exact ⟨rfl, rfl⟩
 obtain rfl : n = m := jo
 refine jQ (jN (jv3 0 1 2 ?_))
 refine jS (jS (jR (jm rfl (jL rfl zbc ?_))))
 refine jx .i64 0 ?_
 refine jO (jN (jv5 1 2 15 16 17 ?_))
 refine jB ?_
 refine VC.loop (σ := Nat) (fun s => [(1, .slice B n d), (2, .func (.func 113) #[] #[]), (15, .slice A n c), (16, jI1 n), (17, jI1 s)]) (fun s wr => s ≤ n ∧ w = wr ∧ (ps.take s).map (·.2.2) = (qs.take s).map (·.2.2)) (fun s => n - s) 0 (js5 rfl rfl rfl rfl rfl) ⟨zj _, rfl, rfl⟩ ?_
 rintro i _ ⟨hi, rfl, hpre⟩
 refine jS (jR (jb rfl rfl (Bin.lssN _ _) (jO (jN (jS ?_)))))
 refine jD rfl (fun hc2 => ?_) fun hc2 => ?_
 ·
  obtain ⟨ad, hA1, hca⟩ := qVn hA hn hc2
  obtain ⟨bd, hB1, hcb⟩ := qVn hB hm hc2
  have hpm := hp _ (qZo (jo : i < ps.length))
  have hqm := hq _ (qZo (jo : i < qs.length))
  have hs1 := vG (jo : i < ps.length)
  have hs2 := vG (jo : i < qs.length)
  have hsm := fun he : ps.map (·.2.2) = qs.map (·.2.2) => qH9 he i
  subst hA1 hB1
  generalize ps.getD i pg0 = x at hca hpm hsm hs1
  generalize qs.getD i pg0 = y at hcb hqm hsm hs2
  obtain ⟨xA, xc, xb⟩ := x
  obtain ⟨yA, yc, yb⟩ := y
  dsimp only at hpm hqm hsm
  refine jQ (jN (jv5 1 2 15 16 17 ?_))
  refine jS (jB (jS (jR (jm rfl (je (Run.index1 _ rfl rfl zbc zah jo) (jl rfl zba hca (ja rfl (ja rfl (jO (jN (jv7 1 2 7 8 15 16 17 ?_)))))))))))
  refine jS (jR (jm rfl (jm rfl (je (Run.index1 _ rfl rfl zbc zah jo) (jl rfl zba hcb (ja rfl (jO (jN (jv7 1 2 8 9 15 16 17 ?_)))))))))
  refine jS (jR (jm rfl (jm rfl (jM ?_))))
  refine Ops.cl (cM.dyn rfl (evs.cons rfl (evs.cons rfl evs.nil)) zhh) (mD xA yA xb.length yb.length xc yc xb yb w rfl rfl hpm.2 hqm.2 hpm.1 hqm.1) rfl ?_
  rintro e _ ⟨rfl, rfl⟩
  refine ⟨_, rfl, ?_⟩
  refine je (Run.not rfl) (jO (jN (jv6 1 2 15 16 17 30 ?_)))
  refine VC.condB rfl (fun hc3 => ?_) (fun hc3 => ?_)
  ·
   have hne : ¬ xb = yb := by simpa using hc3
   rw [show decide (ps.map (·.2.2) = qs.map (·.2.2)) = false from decide_eq_false (fun h => hne (hsm h))]
   refine jS (jR (ja rfl (jO (jN (jv1 6 ?_)))))
   refine jT ?_
   refine qR (qQ (qQ (qR (qQ (qS rfl ?_)))))
   exact ⟨rfl, rfl⟩
  have heq : xb = yb := by simpa using hc3
  refine jQ ?_
  refine qH (jN ?_)
  refine jv5 1 2 15 16 17 ?_
  refine jR (jb rfl rfl (Bin.add_i64 _ 1 jo) (jm rfl (jO ?_)))
  refine jN ⟨i + 1, (js5 rfl rfl rfl rfl rfl), ?_, ?_⟩
  · exact ⟨hc2, rfl, by rw [hs1, hs2, zv, zv, hpre]; simp [heq]⟩
  exact jq
 refine jX ?_
 refine qZ (qZ (qN ?_))
 refine jN ?_
 refine VC.sub [] .nil ?_
 refine jS (jR (ja rfl (jO (jN (jT ?_)))))
 refine qS rfl ?_
 obtain rfl : i = n := jo
 rw [zh jo, zh jo] at hpre
 rw [show decide (ps.map (·.2.2) = qs.map (·.2.2)) = true from decide_eq_true hpre]
 exact ⟨rfl, rfl⟩
theorem qM8 (A : Option Addr) (c : Nat) (b : List Nat) (w : World) (hl : b.length = 128) (hc : 128 ≤ c) (hB : ∀ x ∈ b, x < 256) (hr : Rd w 1 A 128 (NB b)) :
  Calls Tryz.prog 148 #[.slice A 128 c] w fun e w' => Frm [] w w' ∧ ∃ PA n pc kA kn kc inn, e = .returned (.tuple #[.agg (ndV PA kA n pc kn kc inn), .bool (decide (eC b))]) ∧ (eC b → n = (dF b).length ∧ Rd w' 2 PA n (PC2 (dF b))) := by
 by_cases h : eC b
 ·
  refine (qVm A c b w h hc hB hr).mono ?_
  rintro e w' ⟨k, PA, pc, kA, kn, kc, inn, rfl, hr, _⟩
  exact ⟨k, PA, _, pc, kA, kn, kc, inn, by rw [decide_eq_true h], fun _ => ⟨rfl, hr⟩⟩
 refine (qG8 A c b w hl h hc hB hr).mono ?_
 rintro e w' ⟨k, rfl⟩
 exact ⟨k, none, 0, 0, none, 0, 0, false, by rw [decide_eq_false h], fun hh => absurd hh h⟩
theorem qVx (A : Option Addr) (n c : Nat) (ps : List Pg) (w : World) (hn : ps.length = n) (hn6 : n ≤ 600) (hA : Rd w 1 A n (ps.map SL)) (hp : RdR w ps) (hpc : ∀ x ∈ ps, x.2.2.length ≤ x.2.1) (hp8 : ∀ x ∈ ps, x.2.2.length = 128) :
  Calls Tryz.prog 115 #[.slice A n c] w fun e w' => Frm [] w w' ∧ ∃ B m d er, e = .returned (.tuple #[.slice B m d, jI1 er]) ∧ (er = 0 ↔ eR (ps.map (·.2.2))) ∧ (er = 0 → m = (cU (ps.map (·.2.2))).length ∧ Own w' 128 2 B m d (PC2 (cU (ps.map (·.2.2)))) ∧ ∀ x ∈ ob B, w.heap.size ≤ x) := by
 have hok := sV (ps := ps.map (·.2.2)) (fun p hp2 => by obtain ⟨x, hx, rfl⟩ := List.mem_map.1 hp2; exact (hp x hx).2)
 have K0 := Frm.refl [] w
 refine jV Tryz.func115 Tryz.ntmps115 Tryz.results115 ?_
 refine jS (jR (ja rfl (jz 0 (jO (jN (jv1 0 ?_))))))
 refine jS (jR (ja rfl (jO (jN (jS (jS (jR (jm rfl (jL rfl zbc ?_)))))))))
 refine jx .i64 0 ?_
 refine jO (jN (jB ?_))
 refine VC.loop (σ := Nat × Option Addr × Nat) (fun s => [(0, .slice A n c), (4, .slice s.2.1 (cU ((ps.map (·.2.2)).take s.1)).length s.2.2), (11, .slice A n c), (12, jI1 n), (13, jI1 s.1)]) (fun s wr => s.1 ≤ n ∧ Own wr 128 2 s.2.1 (cU ((ps.map (·.2.2)).take s.1)).length s.2.2 (PC2 (cU ((ps.map (·.2.2)).take s.1))) ∧ Frm [] w wr ∧ (∀ x ∈ ob s.2.1, w.heap.size ≤ x) ∧ (∀ x ∈ ps.take s.1, eC x.2.2) ∧ (cU ((ps.map (·.2.2)).take s.1)).length ≤ 7 * s.1) (fun s => n - s.1) (0, none, 0) (js5 rfl rfl rfl rfl rfl) ⟨zj _, Own.nil _ _ _, K0, by simp [ob], jp, zj _⟩ ?_
 rintro ⟨i, B, d⟩ wr ⟨hi, ho, K, hup, hpg, hlk⟩
 dsimp only at hi ho hup hpg hlk ⊢
 have ks := K.size
 refine jS (jR (jb rfl rfl (Bin.lssN _ _) (jO (jN (jS ?_)))))
 refine jD rfl (fun hc1 => ?_) fun hc1 => ?_
 ·
  obtain ⟨ad, hA1, hca⟩ := qVn (hA.frm K jp) hn hc1
  have hmx := qZo (jo : i < ps.length)
  have hpm := hp.frm K _ hmx
  have hxc := hpc _ hmx
  have hsnp := vG (jo : i < ps.length)
  have hsn : cU ((ps.map (·.2.2)).take (i + 1)) = cU ((ps.map (·.2.2)).take i) ++ dF (ps.getD i pg0).2.2 := by
   rw [← zdn, vG jo, zv, zdn]
   exact qQp _ _
  have hx128 := hp8 _ hmx
  have hno : ¬ eC (ps.getD i pg0).2.2 → ¬ eR (ps.map (·.2.2)) := fun h ht => h (ht.1 _ (List.mem_map.2 ⟨_, hmx, rfl⟩))
  subst hA1
  generalize ps.getD i pg0 = x at hca hpm hsn hxc hx128 hno hsnp
  obtain ⟨xA, xc, xb⟩ := x
  dsimp only at hpm hsn hxc hx128 hno
  rw [hx128] at hpm hxc
  refine jQ (jN (jv5 0 4 11 12 13 ?_))
  refine jS (jB (jS (jR (je (Run.index1 _ rfl rfl zbc zah jo) (jl rfl zba hca ?_)))))
  rw [show SL (xA, xc, xb) = .slice xA 128 xc by rw [SL, hx128]]
  refine ja rfl (jO (jN (jv6 0 4 6 11 12 13 ?_)))
  refine jS (jR (jM ?_))
  refine jc (jE1 Tryz.call148) (qM8 xA xc xb wr hx128 hxc hpm.2 hpm.1) ?_
  rintro e w2 ⟨hf2, PA, nP, pc, kA, kn, kc, inn, rfl, hgP⟩
  refine ⟨_, rfl, ?_⟩
  have ho := ho.frm hf2 jp
  have K := K.trans hf2 jp
  refine jm rfl (jY rfl rfl (jY rfl rfl ?_))
  refine Ops.m (qV.alloc lJ) rfl ?_
  rintro _ w3 ⟨rfl, hF3⟩
  refine Ops.st (qT.storeA rfl rfl zec hF3.blk rfl (oH _ _ _ _ _ _ _)) ?_
  rintro w4 ⟨hb7, hf4, hs4⟩
  have k34 : Frm [] w2 w4 := hF3.frm.own hf4 jp
  have hb7 : Blk w4 w2.heap.size 222 (ndV PA kA nP pc kn kc inn) := hb7
  have ho := ho.frm k34 jp
  have K := K.trans k34 jp
  have ks4 := K.size
  refine ja rfl (jO (jN (jv7 0 4 7 8 11 12 13 ?_)))
  refine jS (jS (jR (jm rfl (je (Run.not rfl) (jO (jN (jv7 0 4 7 11 12 13 23 ?_)))))))
  refine VC.condB rfl (fun hc2 => ?_) (fun hc2 => ?_)
  ·
   have hip : ¬ eC xb := by simpa using hc2
   have hno := hno hip
   refine jS (jR (ja rfl (jz 3 (jO (jN (jv2 2 3 ?_))))))
   refine jT ?_
   refine qQ (qR (qQ (qQ (qR (qQ (bX rfl rfl ?_))))))
   exact ⟨K, none, 0, 0, 3, rfl, ⟨fun h => jo, fun h => absurd h hno⟩, fun h => jo⟩
  have hip : eC xb := by simpa using hc2
  obtain ⟨hnP, hrP⟩ := hgP hip
  subst hnP
  have hrP := hrP.frm k34 jp
  have hp7 := qZq hip
  refine jQ (jN (jv6 0 4 7 11 12 13 ?_))
  refine jR (jm rfl (jf rfl zfb rfl zbk (jl rfl zci (hb7.cell 0) ?_)))
  refine Ops.m (qV.app rfl rfl zl (kK) rfl jd ho hrP (oY _) jo jo) rfl ?_
  rintro _ w5 ⟨B5, d5, rfl, ho5, hf5, hob5⟩
  rw [← fS, ← zf] at ho5
  rw [← zf]
  rw [← hsn] at ho5 ⊢
  refine ja rfl (jO ?_)
  refine qH (jN ?_)
  refine jv5 0 4 11 12 13 ?_
  refine jR (jb rfl rfl (Bin.add_i64 _ 1 jo) (jm rfl (jO ?_)))
  refine jN ⟨(i + 1, B5, d5), (js5 rfl rfl rfl rfl rfl), ?_, ?_⟩
  ·
   refine ⟨hc1, ho5, K.own hf5 hup, (Fk.of_app hf5 hob5).up hup ks4, fun x hx => ?_, by dsimp only; rw [hsn, zf]; omega⟩
   rw [hsnp] at hx
   rcases zcp.1 hx with h | h
   · exact hpg x h
   rw [za] at h; subst h; exact hip
  exact jq
 obtain rfl : i = n := jo
 rw [zh (show (ps.map (·.2.2)).length ≤ i by rw [zae]; omega)] at ho hlk ⊢
 rw [zh jo] at hpg
 have hpgs : ∀ p ∈ ps.map (·.2.2), eC p := fun p hp => by obtain ⟨x, hx, rfl⟩ := List.mem_map.1 hp; exact hpg x hx
 obtain ⟨L, hL⟩ : ∃ L, L = cU (ps.map (·.2.2)) := ⟨_, rfl⟩
 rw [← hL] at ho hlk hok ⊢
 refine jX ?_
 refine qZ (qZ (qN ?_))
 refine jN (jv2 0 4 ?_)
 refine jS (jR (jM ?_))
 refine jc (jE1 Tryz.call107) (vE B _ d L wr rfl jo ho.le ho.rd hok) ?_
 rintro e w2 ⟨hf2, h2⟩
 obtain ⟨B2, k2, d2, er, rfl, hm2⟩ : ∃ B2 k2 d2 er, e = .returned (.tuple #[.slice B2 k2 d2, jI1 er]) ∧ ((MayT L ∧ er = 0 ∧ ∃ qs : List Pg, qs.length = k2 ∧ Rd w2 1 B2 k2 (qs.map SL) ∧ qs.map (·.2.2) = bQ L ∧ RdR w2 qs) ∨ (¬ MayT L ∧ er = 1)) := by
  by_cases hmay : MayT L
  ·
   rw [if_pos hmay] at h2
   obtain ⟨B2, d2, qs, rfl, hoB, hqs, hpgs2, hupB⟩ := h2
   have hq8 : qs.length = (bQ L).length := by rw [← hqs, zae]
   refine ⟨B2, _, d2, 0, rfl, .inl ⟨hmay, rfl, qs, hq8, hoB.rd, hqs, fun x hx => ⟨(hpgs2 x hx).1, fun b hb => ?_⟩⟩⟩
   have hm : x.2.2 ∈ bQ L := by rw [← hqs]; exact List.mem_map.2 ⟨x, hx, rfl⟩
   exact (mB L _ hm).2 b hb
  rw [if_neg hmay] at h2
  exact ⟨none, 0, 0, 1, h2, .inr ⟨hmay, rfl⟩⟩
 refine ⟨_, rfl, ?_⟩
 have K2 := K.trans hf2 jp
 refine jm rfl (jY rfl rfl (jY rfl rfl (ja rfl (ja rfl (jO (jN (jv4 0 4 9 10 ?_)))))))
 refine jS (jS ?_)
 refine VC.split1 [(4, _)] (js1 rfl) 41 (.bool (decide (¬ (er = 0 ∧ bQ L = ps.map (·.2.2))))) ?_ ?_
 ·
  refine jR ?_
  refine jm rfl (jb rfl rfl (Bin.neqN _ 0) ?_)
  by_cases hs35 : ¬ er = 0
  ·
   refine jM ?_
   refine jU ?_
   refine jU ?_
   refine jU ?_
   refine jU ?_
   refine jW rfl rfl au (jO ?_)
   refine jN ⟨(js2 (jC (by grind)) rfl), rfl⟩
  obtain ⟨hmay, _, qs, hql, hrq, hqs, hq0⟩ := hm2.resolve_right (fun h => jo)
  have hpl2 : (bQ L).length = k2 := by rw [← hqs, zae, hql]
  have hpl3 := pI L.length
  rw [eJ, if_pos hmay.2] at hpl3
  have hk2b : k2 ≤ 1000000 := by rw [← hpl2, fH]; omega
  refine jM ?_
  refine jG ?_
  refine jG ?_
  refine Ops.clg rfl au (jE3 Tryz.call149) (qYu B2 A k2 i d2 c qs ps w2 hk2b hql hn hrq (hA.frm K2 jp) hq0 (hp.frm K2)) rfl ?_
  rintro e _ ⟨rfl, rfl⟩
  refine ⟨_, rfl, ?_⟩
  rw [hqs]
  by_cases hs39 : bQ L = ps.map (·.2.2)
  ·
   refine jk (Run.not rfl) ?_
   refine jF rfl rfl au (jO ?_)
   refine jN ⟨(js2 (jC (by grind)) rfl), rfl⟩
  refine jk (Run.not rfl) ?_
  refine jF rfl rfl au (jO ?_)
  refine jN ⟨(js2 (jC (by grind)) rfl), rfl⟩
 intro Γ hΓ
 refine jN (VC.sub _ hΓ ?_)
 refine jD rfl (fun hc3 => ?_) fun hc3 => ?_
 ·
  have hno : ¬ eR (ps.map (·.2.2)) := fun ht => hc3 (by
   rcases hm2 with ⟨_, h, _⟩ | ⟨h, _⟩
   · exact ⟨h, by rw [hL]; exact ht.2.2⟩
   exact absurd (hL ▸ ht.2.1) h)
  refine jS (jR (ja rfl (jz 3 (jO (jN (jv2 2 3 ?_))))))
  refine jT ?_
  refine qQ (bX rfl rfl ?_)
  exact ⟨K2, none, 0, 0, 3, rfl, ⟨fun h => jo, fun h => absurd h hno⟩, fun h => jo⟩
 have hc3 := Classical.not_not.1 hc3
 have hmay : MayT L := by
  rcases hm2 with ⟨h, _⟩ | ⟨_, h⟩
  · exact h
  omega
 have hT : eR (ps.map (·.2.2)) := ⟨hpgs, hL ▸ hmay, hL ▸ hc3.2⟩
 refine jQ (jN (jv1 4 ?_))
 refine jS (jR (jm rfl (ja rfl (jz 0 (jO (jN (jv2 2 3 ?_)))))))
 refine jT ?_
 refine bX rfl rfl ?_
 exact ⟨K2, B, _, d, 0, rfl, ⟨fun _ => hT, fun _ => rfl⟩, fun _ => ⟨rfl, ho.frm hf2 jp, hup⟩⟩
theorem qG9 (p : Int) (h g : Nat) (F : List Nat) (d : Dk) (w : World) (hR : IsRh w h g F d) (hb : -1000000 ≤ p ∧ p ≤ 1000000) (hp : ¬ (0 ≤ p ∧ p < ((d.has.length - 42 : Nat) : Int))) : Calls Tryz.prog 71 #[jI0 h, .int .i64 p] w fun e w' => e = .returned (.tuple #[.slice none 0 0, .bool false]) ∧ w = w' := by
 have hsz := hR.sz
 have hbg := hR.big
 refine jV Tryz.func71 Tryz.ntmps71 Tryz.results71 ?_
 refine jS (jR (ja rfl (ja rfl (jO (jN (jv2 0 1 ?_))))))
 refine jS (jS ?_)
 refine VC.split1 [(0, _), (1, _)] (js2 rfl rfl) 15 (.bool (decide (True))) ?_ ?_
 ·
  refine jR ?_
  refine jm rfl (jb rfl rfl (Bin.lss _ 0) ?_)
  by_cases hs9 : p < 0
  ·
   refine jM ?_
   refine jU ?_
   refine jU ?_
   refine jU ?_
   refine jU ?_
   refine jW rfl rfl au (jO ?_)
   refine jN ⟨(js3 (jC (by grind)) rfl rfl), rfl⟩
  refine jM ?_
  refine jG ?_
  refine jG ?_
  refine Ops.clg rfl au (jE1 zgl) (rR h g F d w hR) rfl ?_
  rintro e _ ⟨rfl, rfl⟩
  refine ⟨_, rfl, ?_⟩
  refine jk (Run.bin rfl rfl (Bin.geq _ _)) ?_
  by_cases hs14 : ((d.has.length - 42 : Nat) : Int) ≤ p
  ·
   refine jF rfl rfl au (jO ?_)
   refine jN ⟨(js3 (jC (by grind)) rfl rfl), rfl⟩
  refine jF rfl rfl au (jO ?_)
  refine jN ⟨(js3 (jC (by grind)) rfl rfl), rfl⟩
 intro Γ hΓ
 refine jN (VC.sub _ hΓ ?_)
 refine VC.condT rfl jp ?_
 refine jS (jR (ja rfl (ja rfl (jO (jN (jv2 4 5 ?_))))))
 refine jT ?_
 refine qQ (bX rfl rfl ?_)
 exact ⟨rfl, rfl⟩
theorem qM9 (p : Int) (hh g : Nat) (F : List Nat) (d : Dk) (w : World) (hR : IsRh w hh g F d) (hb : -1000000 ≤ p ∧ p ≤ 1000000) : Calls Tryz.prog 71 #[jI0 hh, .int .i64 p] w fun e w' => ∃ B m, e = .returned (.tuple #[.slice B m m, .bool (decide (0 ≤ p ∧ p < ((d.has.length - 42 : Nat) : Int)))]) ∧ (0 ≤ p ∧ p < ((d.has.length - 42 : Nat) : Int) → m = 128 ∧ Rd w' 1 B 128 (NB (d.sec (42 + p.toNat)))) ∧ Frm [] w w' ∧ ∀ x ∈ ob B, w.heap.size ≤ x := by
 by_cases h : 0 ≤ p ∧ p < ((d.has.length - 42 : Nat) : Int)
 ·
  obtain ⟨k, rfl⟩ : ∃ k : Nat, p = ((k : Nat) : Int) := ⟨p.toNat, jo⟩
  refine (yY k hh g F d w hR jo).mono ?_
  rintro e w' ⟨B, rfl, hr, hf, hup⟩
  exact ⟨B, 128, by rw [decide_eq_true h], fun _ => ⟨rfl, hr⟩, hf, hup⟩
 refine (qG9 p hh g F d w hR hb h).mono ?_
 rintro e _ ⟨rfl, rfl⟩
 exact ⟨none, 0, by rw [decide_eq_false h], fun k => absurd k h, Frm.refl _ _, by simp [ob]⟩
instance (N : Nat) (b : List Nat) : Decidable (yS N b) := by unfold yS; infer_instance
theorem qNf (A : Option Addr) (c : Nat) (b : List Nat) (h g : Nat) (F : List Nat) (d : Dk) (w : World) (hR : IsRh w h g F d) (hl : b.length = 128) (hB : ∀ x ∈ b, x < 256) (hr : Rd w 1 A 128 (NB b)) :
  Calls Tryz.prog 114 #[jI0 h, .slice A 128 c] w fun e w' => ∃ B l dc ok, e = .returned (.tuple #[.slice B l dc, .bool ok]) ∧ (ok = true ↔ yS (d.has.length - 42) b) ∧ (ok = true → l = (eF b).length ∧ Own w' 3 1 B l dc (ZN (eF b))) ∧ Frm [] w w' ∧ ∀ x ∈ ob B, w.heap.size ≤ x := by
 have hsz := hR.sz
 have hbg := hR.big
 obtain ⟨n, hn⟩ : ∃ n, n = bC b 4 2 := ⟨_, rfl⟩
 have h16 : ∀ a, a + 2 ≤ 128 → bC b a 2 < 65536 := fun a ha => by
  rw [(eI jo).2]
  have := sW hB a 2
  exact this
 have hnb := h16 4 jo
 obtain ⟨dir, hdir⟩ : ∃ dir, dir = eF b := ⟨_, rfl⟩
 have hdl : dir.length = n := by rw [hdir, lX, hn]
 obtain ⟨m, hm⟩ : ∃ m, m = Nat.min n 59 := ⟨_, rfl⟩
 have hmn : m ≤ n ∧ m ≤ 59 := by rw [hm]; exact ⟨zhb _ _, zel _ _⟩
 have K0 := Frm.refl [] w
 refine jV Tryz.func114 Tryz.ntmps114 Tryz.results114 ?_
 refine jS (jR (ja rfl (ja rfl (jO (jN (jv2 0 1 ?_))))))
 refine jS (jR (jM ?_))
 refine jc (jE3 zhg) (lY A c 128 4 2 b w hl jo jo jo jo hB hr) ?_
 rintro e _ ⟨rfl, rfl⟩
 rw [← hn]
 refine ⟨_, rfl, ?_⟩
 refine jm rfl (jY rfl rfl (jY rfl rfl (ja rfl (ja rfl (jO (jN (jv3 0 1 6 ?_)))))))
 refine jS (jR (ja rfl (jO (jN (jS (jS (jR (jm rfl (je (Run.convN _ rfl zr zz (by simp only [bmax]; omega)) (je (Run.minN' (a := n) (b := 59) rfl rfl) ?_))))))))))
 rw [← hm]
 refine jx .i64 0 ?_
 refine jO (jN (jv6 0 1 6 8 19 20 ?_))
 refine jB ?_
 refine VC.loop (σ := Nat × Option Addr × Nat) (fun s => [(0, jI0 h), (1, .slice A 128 c), (6, jI2 n), (8, .slice s.2.1 s.1 s.2.2), (19, jI1 m), (20, jI1 s.1)]) (fun s wr => s.1 ≤ m ∧ Own wr 3 1 s.2.1 s.1 s.2.2 (ZN (dir.take s.1)) ∧ Frm [] w wr ∧ (∀ x ∈ ob s.2.1, w.heap.size ≤ x) ∧ ∀ p ∈ dir.take s.1, p < d.has.length - 42) (fun s => m - s.1) (0, none, 0) (js6 rfl rfl rfl rfl rfl rfl) ⟨zj _, Own.nil _ _ _, K0, by simp [ob], jp⟩ ?_
 rintro ⟨i, B, dc⟩ wr ⟨hi, ho, K, hup, hpN⟩
 dsimp only at hi ho hup hpN ⊢
 have ks := K.size
 refine jS (jR (jb rfl rfl (Bin.lssN _ _) (jO (jN (jS ?_)))))
 refine jD rfl (fun hc1 => ?_) fun hc1 => ?_
 ·
  have hsn := jI (l := dir) (i := i) jo
  have hsp : dir.getD i 0 = bC b (6 + 2 * i) 2 := by rw [hdir]; exact qKo jo
  have hpm := bG (l := dir) (i := i) jo
  have hp16 := h16 (6 + 2 * i) jo
  rw [← hsp] at hp16
  generalize dir.getD i 0 = p at hsn hsp hpm hp16
  refine jQ (jN (jv6 0 1 6 8 19 20 ?_))
  refine jS (jB (jS (jR (jm rfl (ja rfl (jO (jN (jv7 0 1 6 8 9 19 20 ?_))))))))
  refine jS (jR (jm rfl (jm rfl (jb rfl rfl (Bin.mul_i64 2 _ jo) (jb rfl rfl (Bin.add_i64 6 _ jo) ?_)))))
  refine jc (jE3 zhg) (lY A c 128 (6 + 2 * i) 2 b _ hl jo jo jo jo hB (hr.frm K jp)) ?_
  rintro e _ ⟨rfl, rfl⟩
  rw [← hsp]
  refine ⟨_, rfl, ?_⟩
  refine jm rfl (jY rfl rfl (jY rfl rfl (ja rfl (ja rfl (jO (jN (jv7 0 1 6 8 10 19 20 ?_)))))))
  refine jS (jS (jR (jm rfl (je (Run.convN _ rfl zr zz (by simp only [bmax]; omega)) (jM ?_)))))
  refine jc0 (jE1 zgl) (rR h g F d _ (hR.f0 K)) ?_
  refine jb rfl rfl (Bin.geqN _ _) (jO (jN (jv8 0 1 6 8 10 19 20 35 ?_)))
  refine jD rfl (fun hc2 => ?_) fun hc2 => ?_
  ·
   have hno : ¬ yS (d.has.length - 42) b := fun hs => by have := hs.2.2 p (by rw [← hdir]; exact hpm); omega
   refine jS (jR (ja rfl (ja rfl (jO (jN (jv2 4 5 ?_))))))
   refine jT ?_
   refine qQ (qR (qQ (qQ (qR (qQ (bX rfl rfl ?_))))))
   exact ⟨none, 0, 0, false, rfl, ⟨fun h => (by cases h), fun h => absurd h hno⟩, (fun h => by cases h), K, by simp [ob]⟩
  have hpl : p < d.has.length - 42 := jo
  refine jQ (jN (jv7 0 1 6 8 10 19 20 ?_))
  refine jR (jm rfl (jm rfl (je (Run.convN _ rfl zr zz (by simp only [bmax]; omega)) ?_)))
  refine Ops.m (qV.buildS1 rfl zn zm pG jd jd rfl rfl) rfl ?_
  rintro _ w5 ⟨rfl, hF5⟩
  have hr5 : Rd w5 1 (some ⟨wr.heap.size, 0, none⟩) 1 (ZN [p]) := Rd.of_blk (n := 1) (size := 1) hF5.blk rfl
  have ho := ho.frm hF5.frm jp
  have K := K.trans hF5.frm jp
  have ks5 := K.size
  refine Ops.m (qV.app rfl rfl zn (pH) rfl jd ho hr5 (rO _) jo jo) rfl ?_
  rintro _ w6 ⟨B6, d6, rfl, ho6, hf6, hob6⟩
  have e6 : ZN (dir.take i) ++ ZN [p] = ZN (dir.take (i + 1)) := by rw [hsn, ZN, ZN, ZN, zv]
  rw [e6] at ho6
  refine ja rfl (jO ?_)
  refine qH (jN ?_)
  refine jv6 0 1 6 8 19 20 ?_
  refine jR (jb rfl rfl (Bin.add_i64 _ 1 jo) (jm rfl (jO ?_)))
  refine jN ⟨(i + 1, B6, d6), (js6 rfl rfl rfl rfl rfl rfl), ?_, ?_⟩
  ·
   exact ⟨hc1, ho6, K.own hf6 hup, (Fk.of_app hf6 hob6).up hup ks5, fun q hq => by
    dsimp only at hq
    rw [hsn] at hq
    rcases zcp.1 hq with h | h
    · exact hpN q h
    rw [za] at h; omega⟩
  exact jq
 obtain rfl : i = m := jo
 obtain ⟨D, hD⟩ : ∃ D, D = dir.take i := ⟨_, rfl⟩
 have hDl : D.length = i := by rw [hD, zk]; omega
 rw [← hD] at ho hpN
 have hD16 : ∀ p ∈ D, p < 65536 := fun p hp => by have := hpN p hp; omega
 have hsl := yW (dir := D) jo
 refine jX ?_
 refine qZ (qZ (qN ?_))
 refine jN (jv3 1 6 8 ?_)
 refine jS ?_
 refine VC.splitR [(4, .slice B i dc)] (fun wz => Frm [] wr wz) 5 (.bool (decide (n = i ∧ bR D = b))) ?_ ?_
 ·
  refine jR ?_
  refine jm rfl (jm rfl (je (Run.convN _ rfl zr zz (by simp only [bmax]; omega)) (jm rfl (jL rfl zn (jb rfl rfl (Bin.eqlN _ _) ?_)))))
  by_cases hs47 : n = i
  ·
   refine jM ?_
   refine jG ?_
   refine jk (Run.lenS rfl zn) ?_
   refine jk (Run.bin rfl rfl (Bin.mul_i64 2 _ jo)) ?_
   refine jk (Run.bin rfl rfl (Bin.add_i64 6 _ jo)) ?_
   refine Ops.mg rfl au (qV.makeS rfl rfl zg (eY) rfl jo jo) rfl ?_
   rintro _ w7 ⟨rfl, ho7, hf7, hs7⟩
   rw [lG] at ho7
   have e7 : List.replicate (6 + 2 * i) (Value.int .u8 ((0 : Nat) : Int)) = NB (noM (6 + 2 * i)) := by rw [NB, noM, zdr]
   rw [e7] at ho7
   refine Ops.clg rfl au (jE1 Tryz.call143) (nI _ _ (6 + 2 * i) (noM (6 + 2 * i)) w7 (by simp [noM]) jo (noM_lt _) ho7.rd) rfl ?_
   rintro e w8 ⟨SB, sd, rfl, hoS, hf8, hupS⟩
   refine ⟨_, rfl, ?_⟩
   have hoD := (ho.frm hf7 jp).frm hf8 jp
   refine jk (Run.lenS rfl zg) ?_
   refine jk (Run.bin rfl rfl (Bin.leqN _ 128)) ?_
   refine jW rfl rfl au (jM ?_)
   refine jG ?_
   refine Ops.clg rfl au (jE1 Tryz.call108) (vA B i dc D w8 hDl jo hoD.rd hD16) rfl ?_
   rintro e w9 ⟨UB, ud, rfl, hoU, hf9, hupU⟩
   refine ⟨_, rfl, ?_⟩
   have k9 := (hf7.trans hf8 jp).trans hf9 jp
   refine jG ?_
   refine Ops.clg rfl au (jE2 zhh) (mD UB A 128 128 ud c (bR D) b w9 hsl hl (qYc D) hB hoU.rd (hr.frm (K.trans k9 jp) jp)) rfl ?_
   rintro e _ ⟨rfl, rfl⟩
   refine ⟨_, rfl, ?_⟩
   by_cases hs62 : bR D = b
   ·
    refine jW rfl rfl au (ja rfl (ja rfl (jO ?_)))
    refine jN ⟨(js2 (jC (by grind)) rfl), (by first | exact k9 | exact Frm.refl _ _)⟩
   refine jW rfl rfl au (ja rfl (ja rfl (jO ?_)))
   refine jN ⟨(js2 (jC (by grind)) rfl), (by first | exact k9 | exact Frm.refl _ _)⟩
  refine jM ?_
  refine jU ?_
  refine jU ?_
  refine jU ?_
  refine jU ?_
  refine jU ?_
  refine jU ?_
  refine jU ?_
  refine jU ?_
  refine jF rfl rfl au (jM ?_)
  refine jU ?_
  refine jU ?_
  refine jU ?_
  refine jU ?_
  refine jF rfl rfl au (ja rfl (ja rfl (jO ?_)))
  refine jN ⟨(js2 (jC (by grind)) rfl), (by first | exact k9 | exact Frm.refl _ _)⟩
 intro Γ wz hΓ Kz
 refine jN (VC.sub _ hΓ ?_)
 refine jT ?_
 refine bX rfl rfl ?_
 refine ⟨B, i, dc, _, rfl, ?_, fun h => ?_, K.trans Kz jp, hup⟩
 ·
  constructor
  ·
   intro h
   obtain ⟨h1, h2⟩ := of_decide_eq_true h
   have hDd : D = eF b := by rw [hD, ← hdir, zh jo]
   exact ⟨jo, by rw [← hDd]; exact h2, by rw [← hDd]; exact hpN⟩
  rintro ⟨h1, h2, h3⟩
  have hni : n = i := by rw [hm]; exact (zbh jo).symm
  have hDd : D = eF b := by rw [hD, ← hdir, zh jo]
  exact decide_eq_true ⟨hni, by rw [hDd]; exact h2⟩
 obtain ⟨h1, h2⟩ := of_decide_eq_true h
 have hDd : D = eF b := by rw [hD, ← hdir, zh jo]
 exact ⟨by rw [← hdir, hdl, h1], by rw [← hDd]; exact ho.frm Kz jp⟩
theorem qMh (x : Pr) (h g : Nat) (F : List Nat) (d : Dk) (w : World) (hR : IsRh w h g F d) (hx : x.1 < 18446744073709551616 ∧ x.2 < 18446744073709551616) :
  Calls Tryz.prog 116 #[jI0 h, .agg (prC x).toArray] w fun e w' => ∃ B l dc ok, e = .returned (.tuple #[.slice B l dc, .bool ok]) ∧ (ok = true ↔ (eW d x).isSome = true) ∧ (ok = true → l = (pgO d x).length ∧ Own w' 3 1 B l dc (ZN (pgO d x))) ∧ Frm [] w w' ∧ ∀ y ∈ ob B, w.heap.size ≤ y := by
 have hsz := hR.sz
 have hbg := hR.big
 have hnd : qI (cN x) = (cN x + 125) / 126 := rfl
 have hlb : cN x < 65536 := by unfold cN; omega
 obtain ⟨nd, hnde⟩ : ∃ nd, nd = qI (cN x) := ⟨_, rfl⟩
 have hndb : nd ≤ 600 := by rw [hnde, hnd]; omega
 obtain ⟨a0, ha0⟩ : ∃ a0 : Int, a0 = ((x.2 % 65536 : Nat) : Int) - 1 := ⟨_, rfl⟩
 have ha0b : -1 ≤ a0 ∧ a0 ≤ 65535 := jo
 refine jV Tryz.func116 Tryz.ntmps116 Tryz.results116 ?_
 refine jS (jR ?_)
 refine Ops.m (qV.box rfl) rfl ?_
 rintro _ w1 ⟨rfl, hF1⟩
 have hb3 : Blk w1 w.heap.size 128 (prC x).toArray := hF1.blk
 have K1 := hF1.frm
 have hR1 := hR.f0 K1
 have q1 := hF1.size
 generalize hg3 : w.heap.size = g3 at hb3 q1 ⊢
 refine ja rfl (ja rfl (jO (jN (jv2 0 3 ?_))))
 refine jS (jR (je (Run.loadA rfl zea zu hb3.cells (by first | rfl | (simp; done))) ?_))
 refine jc (jE1 Tryz.call73) (mQ x w1 hx.2) ?_
 rintro e w2 ⟨rfl, hf2⟩
 refine ⟨_, rfl, ?_⟩
 rw [show x.2 / 65536 % 65536 = cN x from rfl]
 have hb3 := hb3.frm hf2 jp
 have hR2 := hR1.f0 hf2
 have K2 := K1.trans hf2 jp
 refine jc0 (jE1 Tryz.call97) (rH (cN x) w2 jo) ?_
 rw [← hnde]
 refine ja rfl (jO (jN (jv3 0 3 6 ?_)))
 refine jS (jS (jR (je (Run.loadA rfl zea zu hb3.cells (by first | rfl | (simp; done))) ?_)))
 refine jc (jE1 Tryz.call73) (mQ x w2 hx.2) ?_
 rintro e w3 ⟨rfl, hf3⟩
 refine ⟨_, rfl, ?_⟩
 rw [show x.2 / 65536 % 65536 = cN x from rfl]
 have hb3 := hb3.frm hf3 jp
 have hR3 := hR2.f0 hf3
 have K3 := K2.trans hf3 jp
 refine jb rfl rfl (Bin.gtrN _ 4032) (jO (jN (jv4 0 3 6 18 ?_)))
 refine jD rfl (fun hc1 => ?_) fun hc1 => ?_
 ·
  have hno : ¬ (eW d x).isSome = true := fun h => by unfold eW at h; rw [if_pos hc1] at h; cases h
  refine jS (jR (ja rfl (ja rfl (jO (jN (jv2 4 5 ?_))))))
  refine jT ?_
  refine qQ (bX rfl rfl ?_)
  exact ⟨none, 0, 0, false, rfl, ⟨fun h => (by cases h), fun h => absurd h hno⟩, (fun h => by cases h), K3, by simp [ob]⟩
 have hl4 : cN x ≤ 4032 := jo
 refine jQ (jN (jv3 0 3 6 ?_))
 refine jS (jR (ja rfl (jO (jN (jS (jR (jf rfl zbj rfl zy (jl rfl zai (hb3.cell 1) (jb rfl rfl (Bin.and_u64 _ 65535 jo jo) ?_)))))))))
 rw [show x.2 &&& 65535 = x.2 % 65536 from Nat.and_two_pow_sub_one_eq_mod x.2 16]
 refine je (Run.convN _ rfl zr zz (by simp only [bmax]; omega)) (jb rfl rfl (Bin.subZ _ 1 jo jo) ?_)
 rw [← ha0]
 refine ja rfl (jO (jN (jv4 0 6 7 8 ?_)))
 refine jS (jS (jR (jM ?_)))
 refine jx .i64 0 ?_
 refine jO (jN (jv5 0 7 8 24 25 ?_))
 refine jB ?_
 refine VC.loop (σ := Nat × Int × List Nat × Option Addr × Nat) (fun s => [(0, jI0 h), (7, .slice s.2.2.2.1 s.1 s.2.2.2.2), (8, .int .i64 s.2.1), (24, jI1 nd), (25, jI1 s.1)]) (fun s wr => s.1 ≤ nd ∧ s.2.2.1.length = s.1 ∧ trM d nd a0 = (trM d (nd - s.1) s.2.1).map (fun r => (s.2.2.1 ++ r.1, r.2)) ∧ Own wr 3 1 s.2.2.2.1 s.1 s.2.2.2.2 (ZN s.2.2.1) ∧ Frm [] w wr ∧ (∀ y ∈ ob s.2.2.2.1, g3 ≤ y) ∧ (-1 ≤ s.2.1 ∧ s.2.1 ≤ 65535)) (fun s => nd - s.1) (0, a0, [], none, 0) (js5 rfl rfl rfl rfl rfl) ⟨zj _, rfl, by rw [zcc]; exact (show trM d nd a0 = (trM d nd a0).map (fun r => ([] ++ r.1, r.2)) from by cases trM d nd a0 <;> rfl), Own.nil _ _ _, K3, by simp [ob], ha0b⟩ ?_
 rintro ⟨k, a, pg, B, dc⟩ wr ⟨hk, hpl, htr, ho, K, hup, hab⟩
 dsimp only at hk hpl htr ho hup hab ⊢
 have ks := K.size
 refine jS (jR (jb rfl rfl (Bin.lssN _ _) (jO (jN (jS ?_)))))
 refine jD rfl (fun hc2 => ?_) fun hc2 => ?_
 ·
  have hB0 := ho.lt
  refine jQ (jN (jv5 0 7 8 24 25 ?_))
  refine jS (jB (jS (jR (jm rfl (jM ?_)))))
  refine jc (jE2 Tryz.call71) (qM9 a h g F d _ (hR.f0 K) jo) ?_
  rintro e w5 ⟨GB, gm, rfl, hgr, hf5, hupG⟩
  refine ⟨_, rfl, ?_⟩
  have ho := ho.frm hf5 jp
  have K := K.trans hf5 jp
  refine jm rfl (jY rfl rfl (jY rfl rfl (ja rfl (ja rfl (jO (jN (jv7 0 7 8 9 10 24 25 ?_)))))))
  refine jS (jS (jR (jm rfl (je (Run.not rfl) (jO (jN (jv7 0 7 8 9 24 25 34 ?_)))))))
  refine VC.condB rfl (fun hc3 => ?_) (fun hc3 => ?_)
  ·
   have hr3 : ¬ (0 ≤ a ∧ a < ((d.has.length - 42 : Nat) : Int)) := by have h3 := hc3; simp at h3; omega
   have hno : ¬ (eW d x).isSome = true := fun h => by
    unfold eW at h
    rw [if_neg jo, ← hnde, ← ha0, htr, show nd - k = nd - k - 1 + 1 by omega, qKr hr3] at h
    cases h
   refine jS (jR (ja rfl (ja rfl (jO (jN (jv2 4 5 ?_))))))
   refine jT ?_
   refine qQ (qR (qQ (qQ (qR (qQ (bX rfl rfl ?_))))))
   exact ⟨none, 0, 0, false, rfl, ⟨fun h => (by cases h), fun h => absurd h hno⟩, (fun h => by cases h), K, by simp [ob]⟩
  have hr3 : 0 ≤ a ∧ a < ((d.has.length - 42 : Nat) : Int) := by have h3 := hc3; simp at h3; omega
  obtain ⟨hgm, hrG⟩ := hgr hr3
  subst hgm
  have htr2 : trM d nd a0 = (trM d (nd - (k + 1)) (((bC (d.sec (42 + a.toNat)) 0 2 : Nat) : Int) - 1)).map fun r => (pg ++ [a.toNat] ++ r.1, r.2) := by
   rw [htr, show nd - k = (nd - (k + 1)) + 1 by omega]
   exact qKq hr3 pg
  obtain ⟨p, rfl⟩ : ∃ p : Nat, a = ((p : Nat) : Int) := ⟨a.toNat, jo⟩
  rw [zdt] at htr2 hrG
  obtain ⟨hsl, hso⟩ := hR.dk.ok.secAt (jo : 42 + p < d.has.length)
  refine jQ (jN (jv6 0 7 8 9 24 25 ?_))
  refine jS (jR (jm rfl (jM ?_)))
  refine Ops.m (qV.buildS1 rfl zn zm pG jd jd rfl rfl) rfl ?_
  rintro _ w6 ⟨rfl, hF6⟩
  have hr6 : Rd w6 1 (some ⟨w5.heap.size, 0, none⟩) 1 (ZN [p]) := Rd.of_blk (n := 1) (size := 1) hF6.blk rfl
  have ho := ho.frm hF6.frm jp
  have K := K.trans hF6.frm jp
  have ks6 := K.size
  refine Ops.m (qV.app rfl rfl zn (pH) rfl jd ho hr6 (rO _) jo jo) rfl ?_
  rintro _ w7 ⟨B7, d7, rfl, ho7, hf7, hob7⟩
  rw [← show ZN (pg ++ [p]) = ZN pg ++ ZN [p] by rw [ZN, ZN, ZN, zv]] at ho7
  have hup7 := (Fk.of_app hf7 hob7).up hup jo
  have hBl := ho.lt
  have K7 := K.own hf7 (fun y hy => by have := hup y hy; omega)
  have hrG7 := (hrG.frm hF6.frm jp).frm hf7 (fun _ y hy hx => by have := hupG y hy; have := hB0 y hx; omega)
  refine ja rfl (jO (jN (jv5 0 7 9 24 25 ?_)))
  refine jS (jR (jM ?_))
  refine jc0 (jE3 zhg) (lY GB 128 128 0 2 (d.sec (42 + p)) _ hsl jo jo jo jo hso hrG7) ?_
  have hnv : bC (d.sec (42 + p)) 0 2 < 65536 := by
   rw [(eI jo).2]
   have := sW hso 0 2
   exact this
  refine jm rfl (jY rfl rfl (jY rfl rfl (ja rfl (ja rfl (jO (jN (jv5 0 7 11 24 25 ?_)))))))
  refine jR (jm rfl (je (Run.convN _ rfl zr zz (by simp only [bmax]; omega)) (jb rfl rfl (Bin.subZ _ 1 jo jo) (ja rfl (jO ?_)))))
  refine qH (jN ?_)
  refine jv5 0 7 8 24 25 ?_
  refine jR (jb rfl rfl (Bin.add_i64 _ 1 jo) (jm rfl (jO ?_)))
  refine jN ⟨(k + 1, ((bC (d.sec (42 + p)) 0 2 : Nat) : Int) - 1, pg ++ [p], B7, d7), (js5 rfl rfl rfl rfl rfl), ?_, ?_⟩
  · exact ⟨hc2, by dsimp only; rw [zf, hpl]; rfl, htr2, ho7, K7, hup7, by dsimp only; omega⟩
  exact jq
 refine jX ?_
 refine qZ (qZ (qN ?_))
 refine jN (jv2 7 8 ?_)
 refine jS (jR (jm rfl (jm rfl (jb rfl rfl (Bin.eql _ (-1)) (ja rfl (ja rfl (jO (jN (jv2 4 5 ?_)))))))))
 refine jT ?_
 refine bX rfl rfl ?_
 obtain rfl : k = nd := jo
 rw [zes] at htr
 have hte := qYt hl4 hnde ha0 htr
 refine ⟨B, k, dc, _, rfl, ?_, fun h => ?_, K, fun y hy => by have := hup y hy; omega⟩
 ·
  rw [hte]
  by_cases h : a = -1
  · rw [if_pos h]; simp [h]
  rw [if_neg h]; simp [h]
 have h1 : a = -1 := of_decide_eq_true h
 rw [if_pos h1] at hte
 have hpo : pgO d x = pg := by unfold pgO; rw [hte]; rfl
 rw [hpo]
 exact ⟨hpl.symm, ho⟩
theorem qZ0 (N : Nat) : ∀ (l : List Nat) (U V : Nat → Bool), bN N U l = some V → l.Nodup ∧ (∀ p ∈ l, U p = false) ∧ ∀ p, V p = (U p || decide (p ∈ l))
 | [], U, V, h => by
  injection h with h
  subst h
  exact ⟨zhn, (fun p hp => by cases hp), fun p => jp⟩
 | a :: r, U, V, h => by
  rw [bN] at h
  split at h
  ·
   next ha =>
   obtain ⟨h1, h2, h3⟩ := qZ0 N r _ V h
   have hne : ∀ q ∈ r, q ≠ a := fun q hq e => by have := h2 q hq; rw [e] at this; simp [eT] at this
   refine ⟨zft.2 ⟨fun hm => hne a hm rfl, h1⟩, fun p hp => ?_, fun p => ?_⟩
   ·
    rcases zaq.1 hp with e | hp
    · rw [e]; exact ha.2
    have := h2 p hp
    unfold eT at this
    rw [if_neg (hne p hp)] at this
    exact this
   rw [h3 p]
   unfold eT
   by_cases e : p = a
   · rw [if_pos e]; simp [e]
   rw [if_neg e]; simp [e]
  cases h
theorem qYv (u1 u2 : Value) (h g : Nat) (F : List Nat) (H : Hm) (q : HtQ) (w : World) (hH : IsHc w h g F H q u1 u2) (hm : bN H.N (fun _ => false) (bH H) = none) : Calls Tryz.prog 47 #[jI0 h] w fun e w' => ∃ vs, e = .returned (.tuple #[.agg vs, .bool false]) ∧ vs.size = 2 ∧ (∀ u ∈ vs.toList, u.oneCell' = true) ∧ Frm [] w w' := by
 have h600 := hH.ok.n600
 have hd59 := hH.ok.d59
 have hbg := hH.ok.big
 have hsz := hH.ok.sz
 have hNe : H.N = H.dk.has.length - 42 := rfl
 refine jV Tryz.func47 Tryz.ntmps47 Tryz.results47 ?_
 refine jS (jR ?_)
 refine Ops.m (qV.alloc fX) rfl ?_
 rintro _ w1 ⟨rfl, hF1⟩
 have hb2 := hF1.blk
 have K := hF1.frm
 generalize hg2 : w.heap.size = g2 at *
 refine ja rfl (jO (jN (jv2 0 2 ?_)))
 refine jS (jR (jm rfl (jZ rfl (jf rfl zaj rfl zeu (jl rfl zfh ((hH.frm K).blk.cell 0) ?_)))))
 refine jc0 (jE1 zfe) (dU g F _ w1 (hH.frm K).dk) ?_
 refine jb rfl rfl (Bin.sub_i64 _ 42 jo jo) ?_
 refine jc (jE1 Tryz.call37) (pU H.N w1 jo) ?_
 rintro e w2 ⟨B1, c1, rfl, hr1, hf2, hup2⟩
 refine ⟨_, rfl, ?_⟩
 have ks1 := hF1.size
 have hb2 := hb2.frm hf2 jp
 have K := K.trans hf2 jp
 refine jm rfl (jY rfl rfl (jY rfl rfl ?_))
 refine Ops.m (qV.alloc fX) rfl ?_
 rintro _ w3 ⟨rfl, hF3⟩
 have ks3 := K.size
 have hr10 := hr1
 have hr1 := hr1.frm hF3.frm jp
 have hb2 := hb2.frm hF3.frm jp
 have K := K.trans hF3.frm jp
 have hlt2 := hb2.lt
 refine Ops.st (qT.storeA rfl rfl zw hF3.blk rfl (dO H.N B1 c1)) ?_
 rintro w4 ⟨hb4, hf4, hs4⟩
 have ks := hf2.size
 have hne : g2 ≠ w2.heap.size := by have h2 := hF1.size; have h3 := hF1.blk.lt; omega
 generalize hg4 : w2.heap.size = g4 at *
 have hb4 : Blk w4 g4 85 (spV H.N B1 c1) := hb4
 have hb40 := hb4
 have K0 : Frm [] w4 w4 := Frm.refl _ _
 have hb2 := hb2.frm hf4 (by simpa using hne)
 have K := K.own hf4 (by simp; omega)
 have hr1l := hr1.lt (jo : 0 < (H.N + 7) / 8)
 have hB14 : ∀ x ∈ ob B1, x < g4 := fun x hx => by have := hr10.lt (jo : 0 < (H.N + 7) / 8) x hx; omega
 have hr1 : RdS w4 B1 H.N (fun _ => false) := hr1.frm hf4 (fun x hx h => by rw [za] at h; have := hB14 x hx; omega)
 have hH4 := hH.frm K
 refine ja rfl (jO (jN (jv3 0 2 4 ?_)))
 refine jS ?_
 refine VC.held (fun _ => True) jK ?_
 refine jH 1 rfl trivial (fun w0 hw0 => Run.mv rfl) ?_
 refine jH 2 rfl trivial (fun w0 hw0 => Run.nilck rfl) ?_
 refine jH 3 rfl trivial (fun w0 hw0 => Run.fieldAddr rfl zaj rfl zax jd) ?_
 refine qJ.r2 0 4 rfl rfl jK jK jK jK trivial rfl rfl (Run.loadA rfl zbb zw ((hb4.drawn (qP.drew _)).cells) (by first | rfl | (simp; done))) (Run.load rfl zbx ((hH4.frm (qP.drew _).frm).blk.cell 2)) (Run.load rfl zbx ((hH4.frm (qP.drew _).frm).blk.cell 2)) (Run.loadA rfl zbb zw ((hb4.drawn (qP.drew _)).cells) (by first | rfl | (simp; done))) rfl rfl rfl rfl rfl ?_
 refine qJ.cl 5 rfl jK (jE2 zhe) (kN H.N c1 _ _ B1 _ (fun _ => false) H.dir _ jo (hr1.frm (qP.drew _).frm jp) rfl jo (hH4.frm (qP.drew _).frm).dr.1) trivial rfl rfl ?_
 rintro e w5 ⟨hf5, ho5⟩
 obtain ⟨vs5, k5, rfl, hv5, hv1, hz5⟩ : ∃ vs5 k5, e = .returned (.tuple #[.agg vs5, jI1 k5]) ∧ vs5.size = 2 ∧ (∀ u ∈ vs5.toList, u.oneCell' = true) ∧ (k5 = 0 → ∃ B c V, vs5 = spV H.N B c ∧ RdS w5 B H.N V ∧ bN H.N (fun _ => false) H.dir = some V ∧ ∀ x ∈ ob B, w4.drew.heap.size ≤ x) := by
  rcases ho5 with ⟨V, B', c', h1, rfl, h3, h4⟩ | ⟨h1, vs, k, hk, rfl, h2, h3⟩
  · exact ⟨_, 0, rfl, rfl, dO _ _ _, fun _ => ⟨B', c', V, rfl, h3, h1, h4⟩⟩
  exact ⟨vs, k, rfl, h2, h3, fun h => absurd h hk⟩
 refine ⟨_, rfl, trivial, ?_⟩
 have k5' : Frm [] w4 w5 := (qP.drew w4).frm.trans hf5 jp
 have hb4 := hb4.frm k5' jp
 have hb2 := hb2.frm k5' jp
 have hl4 := hb4.lt
 have h4w : w.heap.size ≤ g4 := jo
 have hg4l : g4 < w4.heap.size := (Array.getElem?_eq_some_iff.1 (show w4.heap[g4]? = _ from hb40)).1
 have K := K.trans k5' jp
 have kk5 := K.size
 refine jH 6 rfl trivial (fun w0 hw0 => Run.mv rfl) ?_
 refine jH 7 rfl trivial (fun w0 hw0 => Run.extract rfl rfl) ?_
 refine jH 8 rfl trivial (fun w0 hw0 => Run.extract rfl rfl) ?_
 refine qJ.st 9 rfl jK (qT.storeA rfl rfl (by rw [hv5]; exact zw) hb4 (by rw [hv5]; rfl) hv1) trivial rfl ?_
 rintro w6 ⟨hb4, hf6, hs6⟩
 refine ⟨trivial, ?_⟩
 have hz6 : k5 = 0 → ∃ B c V, vs5 = spV H.N B c ∧ RdS w6 B H.N V ∧ bN H.N (fun _ => false) (H.dir ++ cF H (H.pairs.take 0)) = some V ∧ ∀ x ∈ ob B, g4 < x := fun hk => by
  obtain ⟨B, c, V, h1, h2, h3, h4⟩ := hz5 hk
  have hup : ∀ x ∈ ob B, g4 < x := fun x hx => by have h := h4 x hx; rw [show w4.drew.heap.size = w4.heap.size from rfl] at h; omega
  exact ⟨B, c, V, h1, h2.frm hf6 (fun x hx h => by rw [za] at h; have := hup x hx; omega), by rw [zcs, show cF H [] = [] from rfl, zav]; exact h3, hup⟩
 have hb2 := hb2.frm hf6 (by simpa using hne)
 have K := K.own hf6 (by simp; omega)
 have hH6 := hH.frm K
 refine jH 10 rfl trivial (fun w0 hw0 => Run.asg rfl) ?_
 refine qJ.done jK ?_
 refine jN (jv4 0 2 4 6 ?_)
 refine jS (jS (jR (jm rfl (jZ rfl (jf rfl zaj rfl zbk (jl rfl zci (hH6.blk.cell 1) (jL rfl zl ?_)))))))
 refine jx .i64 0 ?_
 refine jO (jN (jv7 0 2 4 6 31 32 33 ?_))
 refine jB ?_
 refine VC.loop (σ := Nat × Nat × Array Value) (fun s => [(0, jI0 h), (2, jI0 g2), (4, jI0 g4), (6, jI1 s.2.1), (31, .slice q.pA H.pairs.length q.pc), (32, jI1 H.pairs.length), (33, jI1 s.1)]) (fun s wr => s.1 ≤ H.pairs.length ∧ Blk wr g4 85 s.2.2 ∧ s.2.2.size = 2 ∧ (∀ u ∈ s.2.2.toList, u.oneCell' = true) ∧ Frm [] w wr ∧ (∃ z, Blk wr g2 85 z ∧ z.size = 2) ∧ (s.2.1 = 0 → ∃ B c V, s.2.2 = spV H.N B c ∧ RdS wr B H.N V ∧ bN H.N (fun _ => false) (H.dir ++ cF H (H.pairs.take s.1)) = some V ∧ ∀ x ∈ ob B, g4 < x)) (fun s => H.pairs.length - s.1) (0, k5, vs5) (js7 rfl rfl rfl rfl rfl rfl rfl) ⟨zj _, hb4, hv5, hv1, K, ⟨_, hb2, rfl⟩, hz6⟩ ?_
 rintro ⟨i, ke, vs⟩ wr ⟨hi, hb4, hvs, hv1, K, ⟨z, hb2, hz⟩, hze⟩
 dsimp only at hi hb4 hvs hv1 hze ⊢
 refine jS (jR (jb rfl rfl (Bin.lssN _ _) (jO (jN (jS ?_)))))
 refine jD rfl (fun hc1 => ?_) fun hc1 => ?_
 ·
  have g4lt := hb4.lt
  obtain ⟨ad, hA, hel⟩ := gM (hH.pr.1.frm K jp) rfl hc1
  rw [hA]
  have hA1 := hA
  have hmem := fN hc1
  have hsn := yJ H hc1
  have hokx := (hH.ok.okp _ hmem).1
  have hpg := (hH.ok.pg _ hmem).2.1
  obtain ⟨row, hrow, hrl⟩ := hH.lyH _ hmem
  generalize H.pairs.getD i (0, 0) = x at hel hsn hokx hpg hrow hrl
  obtain ⟨xk, xv⟩ := x
  obtain ⟨rA, rc, rp⟩ := row
  dsimp only at hsn hokx hpg hrow hrl
  subst hrl
  refine jQ (jN (jv7 0 2 4 6 31 32 33 ?_))
  refine jS (jB (jS (jR (je (Run.indexS _ rfl rfl zl zu jo) (je (Run.loadA rfl zea zu hel (by first | rfl | (simp; done))) ?_)))))
  refine Ops.m (qV.alloc dL) rfl ?_
  rintro _ w2 ⟨rfl, hF2⟩
  refine Ops.st (qT.storeA rfl rfl zu hF2.blk rfl (eH (xk, xv))) ?_
  rintro w3 ⟨hb3, hf3, hs3⟩
  have hb3 : Blk w3 wr.heap.size 128 #[jI2 xk, jI2 xv] := hb3
  have K3 : Frm [] wr w3 := hF2.frm.own hf3 jp
  have K := K.trans K3 jp
  have hb4 := hb4.frm K3 jp
  have hb2 := hb2.frm K3 jp
  have hze : ke = 0 → ∃ B c V, vs = spV H.N B c ∧ RdS w3 B H.N V ∧ bN H.N (fun _ => false) (H.dir ++ cF H (H.pairs.take i)) = some V ∧ ∀ x ∈ ob B, g4 < x := fun hk => by
   obtain ⟨B, c, V, h1, h2, h3, h4⟩ := hze hk
   exact ⟨B, c, V, h1, h2.frm K3 jp, h3, h4⟩
  have hHr := hH.frm K
  have hg4w : w.heap.size ≤ g4 := h4w
  refine jO (jN (jv8 0 2 4 6 8 31 32 33 ?_))
  refine jS (jR (jm rfl (jb rfl rfl (Bin.eqlN _ 0) (jO (jN (jv9 0 2 4 6 8 31 32 33 38 ?_))))))
  refine jD rfl (fun hc2 => ?_) fun hc2 => ?_
  ·
   obtain ⟨B, c, V, rfl, hr, hmi, hup⟩ := hze jo
   have hmn : bN H.N (fun _ => false) (H.dir ++ cF H (H.pairs.take (i + 1))) = bN H.N V (H.lies xk) := by rw [hsn, ← zab, mZ, hmi]; rfl
   refine VC.held (fun V => Frm [g4] w3 V) jK ?_
   have hS : Frm [g4] w3 w3.drew := (Frm.refl _ _).drew
   have n3 : wr.heap.size ≠ g4 := jo
   have nm : q.l ≠ g4 := by have := hH.mp.lt; omega
   have nh : h ≠ g4 := by have := hH.blk.lt; omega
   refine jh 1 hS ?_
   refine jH 2 rfl hS (fun w0 hw0 => Run.nilck rfl) ?_
   refine jH 3 rfl hS (fun w0 hw0 => Run.fieldAddr rfl zaj rfl zdu jd) ?_
   refine jH 4 rfl hS (fun w0 hw0 => Run.load rfl zfr ((hHr.blk.frm hw0 (by simpa using nh)).cell 3)) ?_
   refine jH 5 rfl hS (fun w0 hw0 => Run.fieldAddr rfl zbj rfl zy jd) ?_
   refine jH 6 rfl hS (fun w0 hw0 => Run.load rfl zai ((hb3.frm hw0 (by simpa using n3)).cell 0)) ?_
   refine jH 7 rfl hS (fun w0 hw0 => Run.lookup (enc := fO) (x := xk) rfl rfl (hHr.mp.frm hw0 (by simpa using nm)) (Go.Maps.int_keyed zr) zeq xP (kP _ hokx)) ?_
   rw [show (lyV q.ly xk).getD _ = .slice rA (H.lies xk).length rc by rw [lyV, hrow]; rfl]
   refine qJ.r1 0 rfl jK hS (Run.loadA rfl zbb zw ((hb4.drawn (qP.drew _)).cells) (by first | rfl | (simp; done))) trivial rfl rfl ?_
   refine qJ.cl 8 rfl jK (jE2 zhe) (kN H.N c _ _ B _ V (H.lies xk) _ jo (hr.frm (qP.drew _).frm jp) rfl jo ((hHr.ly _ _ hrow).1.1.frm (qP.drew _).frm jp)) trivial rfl rfl ?_
   rintro e w5 ⟨hf5, ho5⟩
   obtain ⟨vs5, k5, rfl, hv5, hv51, hz5⟩ : ∃ vs5 k5, e = .returned (.tuple #[.agg vs5, jI1 k5]) ∧ vs5.size = 2 ∧ (∀ u ∈ vs5.toList, u.oneCell' = true) ∧ (k5 = 0 → ∃ B c V', vs5 = spV H.N B c ∧ RdS w5 B H.N V' ∧ bN H.N V (H.lies xk) = some V' ∧ ∀ x ∈ ob B, w3.drew.heap.size ≤ x) := by
    rcases ho5 with ⟨V', B', c', h1, rfl, h3, h4⟩ | ⟨h1, vs, k, hk, rfl, h2, h3⟩
    · exact ⟨_, 0, rfl, rfl, dO _ _ _, fun _ => ⟨B', c', V', rfl, h3, h1, h4⟩⟩
    exact ⟨vs, k, rfl, h2, h3, fun h => absurd h hk⟩
   have hS := hS.trans hf5 jp
   refine ⟨_, rfl, hS, ?_⟩
   have k5' : Frm [] w3 w5 := (qP.drew w3).frm.trans hf5 jp
   have hl4 := hb4.lt
   have hb4 := hb4.frm k5' jp
   have hb2 := hb2.frm k5' jp
   have K := K.trans k5' jp
   refine jh 9 hS ?_
   refine jH 10 rfl hS (fun w0 hw0 => Run.extract rfl rfl) ?_
   refine jH 11 rfl hS (fun w0 hw0 => Run.extract rfl rfl) ?_
   refine qJ.st 12 rfl jK (qT.storeA rfl rfl (by rw [hv5]; exact zw) hb4 (by rw [hv5]; rfl) hv51) trivial rfl ?_
   rintro w6 ⟨hb4, hf6, hs6⟩
   have hS := hS.trans hf6 (fun x hx => .inl hx)
   refine ⟨hS, ?_⟩
   have hz6 : k5 = 0 → ∃ B c V, vs5 = spV H.N B c ∧ RdS w6 B H.N V ∧ bN H.N (fun _ => false) (H.dir ++ cF H (H.pairs.take (i + 1))) = some V ∧ ∀ x ∈ ob B, g4 < x := fun hk => by
    obtain ⟨B, c, V', h1, h2, h3, h4⟩ := hz5 hk
    have hup : ∀ x ∈ ob B, g4 < x := fun x hx => by have h := h4 x hx; rw [show w3.drew.heap.size = w3.heap.size from rfl] at h; omega
    exact ⟨B, c, V', h1, h2.frm hf6 (fun x hx h => by rw [za] at h; have := hup x hx; omega), by rw [hmn]; exact h3, hup⟩
   have hb2 := hb2.frm hf6 (by simpa using hne)
   have K := K.own hf6 (by simp; omega)
   rw [← hA1]
   refine jH 13 rfl hS (fun w0 hw0 => Run.asg rfl) ?_
   refine qJ.done jK ?_
   refine qH (jN ?_)
   refine jv7 0 2 4 6 31 32 33 ?_
   refine jR (jb rfl rfl (Bin.add_i64 _ 1 jo) (jm rfl (jO ?_)))
   refine jN ⟨(i + 1, k5, vs5), (js7 rfl rfl rfl rfl rfl rfl rfl), ?_, ?_⟩
   · exact ⟨hc1, hb4, hv5, hv51, K, ⟨_, hb2, hz⟩, hz6⟩
   exact jq
  rw [← hA1]
  refine jQ ?_
  refine qH (jN ?_)
  refine jv7 0 2 4 6 31 32 33 ?_
  refine jR (jb rfl rfl (Bin.add_i64 _ 1 jo) (jm rfl (jO ?_)))
  refine jN ⟨(i + 1, ke, vs), (js7 rfl rfl rfl rfl rfl rfl rfl), ?_, ?_⟩
  · exact ⟨hc1, hb4, hvs, hv1, K, ⟨_, hb2, hz⟩, fun h => absurd h jo⟩
  exact jq
 obtain rfl : i = H.pairs.length := jo
 have hke : ke ≠ 0 := fun h0 => by
  obtain ⟨B, c, V, _, _, h3, _⟩ := hze h0
  rw [zbw, show H.dir ++ cF H H.pairs = bH H from rfl, hm] at h3
  cases h3
 refine jX ?_
 refine qZ (qZ (qN ?_))
 refine jN (jv3 2 4 6 ?_)
 refine jS (jR (je (Run.loadA rfl zbb zw hb4.cells hvs) (jm rfl (jb rfl rfl (Bin.eqlN _ 0) ?_))))
 refine Ops.st (qT.storeA rfl rfl (by rw [hvs]; exact zw) hb2 (hvs.trans hz.symm) hv1) ?_
 rintro w7 ⟨hb2, hf7, hs7⟩
 refine ja rfl (jO (jN (jv2 2 3 ?_)))
 refine jT ?_
 refine eO ?_
 refine cW rfl zbb zw (hb2.cells) (by first | rfl | (simp; done) | (simp [*]; done)) ?_
 refine dH rfl ?_
 refine cY ?_
 rw [decide_eq_false (show ¬ ke = 0 from hke)]
 exact ⟨vs, rfl, hvs, hv1, K.own hf7 (by simp; omega)⟩
end
end Go.Proofs.YtoniopdkbeogjaaGreat
