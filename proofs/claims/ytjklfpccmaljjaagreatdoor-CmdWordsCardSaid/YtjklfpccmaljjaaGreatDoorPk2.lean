/-
  Lemmas on the way, joined: CmdJ, CmdL, CmdM, CmdN, CmdO, CmdP, CmdQ, Eng28, Eng29, CmdR, CmdV, CmdW, CmdT, CmdU, CmdX, KeyP, SecM, KeyQ, CmdWw.
-/
import Derived.Lib.AtoiBound
import Derived.Lib.ItoaLen
import Derived.Test.YtjklfpccmaljjaaGreatDoorPk1
set_option maxRecDepth 100000
set_option linter.unusedVariables false
set_option linter.unusedSimpArgs false
set_option maxHeartbeats 8000000
namespace Go.Proofs.YtjklfpccmaljjaaGreatDoor
section
open Go.RowKit Go.Sort
def Tab (w : World) : Prop := Lib.TabIs Tryz.prog w "internal/strconv.uint64pow10" .u64 Lib.pow10Tab
theorem Tab.frm {w w' : World} (h : Tab w) (hf : Frm [] w w') : Tab w' := by
 cases hg : Tryz.prog.globalNamed "internal/strconv.uint64pow10" with
 | none =>
  unfold Tab Lib.TabIs World.var? at h
  rw [hg] at h
  cases h
 | some g =>
  unfold Tab Lib.TabIs World.var? at h ⊢
  rw [hg] at h ⊢
  simp only [zbi] at h ⊢
  cases hb : w.heap[g]? with
  | none => rw [hb] at h; cases h
  | some o => rw [(hf.block g (Array.getElem?_eq_some_iff.1 hb).1 jp).trans hb]; rw [hb] at h; exact h
def hdI (s : Tx) : Tx := qS (s.take (Lib.indexByte s 91).toNat)
def inI (s : Tx) : Tx := (s.drop ((Lib.indexByte s 91).toNat + 1)).take ((Lib.indexByte s 93).toNat - ((Lib.indexByte s 91).toNat + 1))
def reI (s : Tx) : Tx := s.drop ((Lib.indexByte s 93).toNat + 1)
def cO (v : Wnt) : Tx := [66, 79, 68, 89, 91] ++ fU v ++ [93]
def fB (s : Tx) : Prop := (0 ≤ Lib.indexByte s 91 ∧ Lib.indexByte s 91 < Lib.indexByte s 93) ∧ (hdI s = [66, 79, 68, 89] ∨ hdI s = [66, 79, 68, 89, 46, 80, 69, 69, 75])
instance (s : Tx) : Decidable (fB s) := by unfold fB; infer_instance
def bU (s : Tx) : Option ItM := match fZ (qS s) with
 | some x => some x
 | none => if fB s then (bS (inI s)).bind fun v => if reI s = [] then some ⟨6, cO v, v, decide (hdI s = [66, 79, 68, 89, 46, 80, 69, 69, 75]), false, 0, 0⟩ else if eZ (reI s) then some ⟨6, cO v ++ ([60] ++ Lib.itoa (bD (reI s)) ++ [62]), v, decide (hdI s = [66, 79, 68, 89, 46, 80, 69, 69, 75]), true, bD (reI s), dA (reI s)⟩ else none else none
theorem uG {t : Tx} {x : ItM} (h : fZ t = some x) : x.w.path = [] ∧ x.w.names = [] := by
 unfold fZ at h
 repeat (split at h; (injection h with h; rw [← h]; exact ⟨rfl, rfl⟩))
 cases h
theorem rY {s : Tx} {v : Wnt} (h : bS s = some v) : bL v := by
 unfold bS at h
 split at h
 · cases h
 split at h
 · cases h
 split at h
 · injection h with h; rw [← h]; assumption
 cases h
theorem sP {v : Wnt} (h : bL v) (hn : ∀ x ∈ v.names, x.length ≤ 50000) : (fU v).length ≤ 1000000 := by
 have h1 := mM h
 have h2 : v.names.length ≤ 16 := by have := h.2.1; omega
 have h3 := zak (dG [46] 100 (cU v) h1.2) (zdn h1.1 (zaj _))
 have h4 := zak (dG [32] 50000 v.names hn) (zdn h2 (zaj _))
 unfold fU
 rw [if_pos h]
 split <;> simp <;> simp at h3 h4 <;> omega
theorem rG (w : World) (k : Nat) (os : Array Obj) : Frm [] w (grow (w.drewN k) os) := by
 refine ⟨rfl, rfl, rfl, jp, fun i hi _ => ?_⟩
 rw [heap_grow_old _ _ (by simpa using hi)]
 rfl
theorem oC (n : Int) (w : World) (ht : Tab w) (h0 : 0 ≤ n) (h1 : n ≤ 1000000000000000000) : Calls Tryz.prog 27 #[.int .i64 n] w fun e w' => e = .returned (encStr (Lib.itoa n)) ∧ Frm [] w w' := by
 exact (Tryz.strconv_Itoa n jo jo w ht).mono fun e w' ⟨he, k, os, hw⟩ => ⟨he, by rw [hw]; exact rG _ _ _⟩
theorem nR (s : Tx) : bD s ≤ 1000000000000000000 := by
 unfold bD gA
 split
 · omega
 rename_i h
 cases ha : Lib.atoi (bZ 46 (eC s)) with
 | none => show (0 : Int) ≤ _; omega
 | some n =>
  have := (Lib.atoi_bound ha jo).2
  show n ≤ _
  omega
theorem tS (n : Int) (h0 : 0 ≤ n) (h1 : n ≤ 1000000000000000000) : (Lib.itoa n).length ≤ 30 := zak (Lib.itoa_length_le n jo jo) jd
theorem mO {s : Tx} {v : Wnt} (h : bS s = some v) : ∀ x ∈ v.names, x.length ≤ s.length := by
 unfold bS at h
 split at h
 · cases h
 rename_i l hl
 have hb : ∀ x ∈ l, x.length ≤ s.length := by
  unfold eV at hl
  split at hl
  ·
   split at hl
   · cases hl
   injection hl with hl
   subst hl
   intro x hx
   exact zak ((mG _).2 x hx) (zak (mH _).1 (dE 32 s).2)
  injection hl with hl
  subst hl
  intro x hx
  cases hx
 split at h
 · cases h
 split at h
 · injection h with h; rw [← h]; exact hb
 cases h
theorem oD (t : Tx) (w : World) (hs : t.length ≤ 50000) (hv : cH w) (htb : Tab w) : Calls Tryz.prog 71 #[encStr t] w fun e w' => Frm [] w w' ∧ match bU t with
   | none => e = .panicked dV
   | some x => ∃ PA pc NA nc, e = .returned (.agg (itC x PA pc NA nc)) ∧ Own w' 3 1 PA x.w.path.length pc (PI x.w.path) ∧ Own w' 9 1 NA x.w.names.length nc (SB x.w.names) := by
 refine jV Tryz.func71 Tryz.ntmps71 Tryz.results71 ?_
 refine jS (jR ?_)
 refine Ops.m (qV.alloc cS) rfl ?_
 rintro _ w1 ⟨rfl, hF1⟩
 obtain ⟨g2, hg2⟩ : ∃ g2, g2 = w.heap.size := ⟨_, rfl⟩
 have hz2 : Blk w1 g2 54 (itC it0 none 0 none 0) := by rw [hg2]; exact hF1.blk
 have q1 := hF1.size
 rw [← hg2]
 refine jO (jN (jS (jS (jR (jM ?_)))))
 refine jc (jE1 Tryz.call30) (eX t w1 jo) ?_
 rintro e w2 ⟨rfl, hf2⟩
 refine ⟨_, rfl, ?_⟩
 have hz2 := hz2.frm hf2 jp
 have q2 := hf2.size
 refine jc (jE1 Tryz.call104) (mL (qS t) w2 (by rw [dW]; omega)) ?_
 rintro e w3 ⟨rfl, hf3⟩
 refine ⟨_, rfl, ?_⟩
 have hz2 := hz2.frm hf3 jp
 have q3 := hf3.size
 have K3 : Frm [] w w3 := (hF1.frm.trans hf2 jp).trans hf3 jp
 refine jm rfl (jY rfl rfl (jY rfl rfl ?_))
 refine Ops.m (qV.alloc cS) rfl ?_
 rintro _ w4 ⟨rfl, hF4⟩
 obtain ⟨g3, hg3⟩ : ∃ g3, g3 = w3.heap.size := ⟨_, rfl⟩
 have hbx : Blk w4 g3 54 (itC it0 none 0 none 0) := by rw [hg3]; exact hF4.blk
 have hz2 := hz2.frm hF4.frm jp
 rw [← hg3]
 refine Ops.st (qQ.storeA rfl rfl zv hbx rfl (cW _ _ _ _ _)) ?_
 rintro w5 ⟨hb5, hf5, hs5⟩
 have hf5 : Frm [g3] w4 w5 := hf5
 have hgg : g2 ≠ g3 := jo
 have hz5 := hz2.frm hf5 (by simp; exact hgg)
 have K5 : Frm [] w w5 := (K3.trans hF4.frm jp).own hf5 (by simp; omega)
 have q5 := hF4.size
 refine ja rfl (jO (jN (jv4 0 2 3 4 ?_)))
 refine jS (jR (jm rfl (jO (jN (jv4 0 2 3 17 ?_)))))
 refine VC.condB rfl (fun hc1 => ?_) (fun hc1 => ?_)
 ·
  obtain ⟨x, hx⟩ := Option.isSome_iff_exists.1 hc1
  rw [hx] at hb5
  have him : bU t = some x := by unfold bU; rw [hx]
  have hxw : x.w.path = [] ∧ x.w.names = [] := uG hx
  rw [him]
  refine jS (jR (je (Run.loadA rfl zbx zv hb5.cells (by first | rfl | (simp; done))) ?_))
  refine Ops.st (qQ.storeA rfl rfl zv hz5 rfl (cW _ _ _ _ _)) ?_
  rintro w6 ⟨hb6, hf6, hs6⟩
  have K6 := K5.own hf6 (by simp; omega)
  refine jO (jN (jv1 2 ?_))
  refine jT ?_
  refine qZ (bA ?_)
  refine qO rfl zbx zv (hb6.cells) (by first | rfl | (simp; done) | (simp [*]; done)) ?_
  refine bK ?_
  exact ⟨K6, none, 0, none, 0, rfl, by rw [hxw.1]; exact Own.nil _ _ _, by rw [hxw.2]; exact Own.nil _ _ _⟩
 have hx : fZ (qS t) = none := by simpa using hc1
 have him : bU t = if fB t then (bS (inI t)).bind fun v => if reI t = [] then some ⟨6, cO v, v, decide (hdI t = [66, 79, 68, 89, 46, 80, 69, 69, 75]), false, 0, 0⟩ else if eZ (reI t) then some ⟨6, cO v ++ ([60] ++ Lib.itoa (bD (reI t)) ++ [62]), v, decide (hdI t = [66, 79, 68, 89, 46, 80, 69, 69, 75]), true, bD (reI t), dA (reI t)⟩ else none else none := by unfold bU; rw [hx]
 obtain ⟨G, hG⟩ : ∃ G, bU t = G := ⟨_, rfl⟩
 rw [hG] at him ⊢
 have hb1 := Lib.indexByte_ge t 91
 have hb2 := Lib.indexByte_ge t 93
 have hbl : ∀ c, 0 ≤ Lib.indexByte t c → (Lib.indexByte t c).toNat < t.length := fun c h => by
  have h1 := (Lib.indexByte_some (l := t) (c := c) (o := (Lib.indexByte t c).toNat) jo).1
  exact (List.getElem?_eq_some_iff.1 h1).1
 have hB := hbl 91
 have hE := hbl 93
 have hHd : fB t ↔ ((0 ≤ Lib.indexByte t 91 ∧ Lib.indexByte t 91 < Lib.indexByte t 93) ∧ (hdI t = [66, 79, 68, 89] ∨ hdI t = [66, 79, 68, 89, 46, 80, 69, 69, 75])) := Iff.rfl
 refine jQ (jN (jv2 0 2 ?_))
 refine jS (jR (jM ?_))
 refine jc0 (jE2 Tryz.call86) (gK t 91 w5) ?_
 refine ja rfl (jO (jN (jv3 0 2 5 ?_)))
 refine jS (jR (jM ?_))
 refine jc0 (jE2 Tryz.call86) (gK t 93 w5) ?_
 refine ja rfl (jO (jN (jv4 0 2 5 6 ?_)))
 refine jS (jR (jm rfl (jb rfl rfl (Bin.geq _ 0) ?_)))
 by_cases hs24 : 0 ≤ Lib.indexByte t 91
 rotate_left
 ·
  refine jM ?_
  refine jU ?_
  refine jU ?_
  refine jU ?_
  refine jF rfl rfl (decide_eq_false hs24) ?_
  refine Ops.clp (jE1 zbe) (bH false w5) rfl ?_
  rintro e _ ⟨rfl, he⟩
  have hno : ¬ fB t := fun h => hs24 h.1.1
  rw [if_neg hno] at him
  subst him
  exact .inr ⟨_, he, qB (bQ ⟨K5, rfl⟩)⟩
 refine jM ?_
 refine Ops.rg rfl (decide_eq_true hs24) (Run.mv rfl) rfl ?_
 refine Ops.rg rfl (decide_eq_true hs24) (Run.mv rfl) rfl ?_
 refine Ops.rg rfl (decide_eq_true hs24) (Run.bin rfl rfl (Bin.gtr _ _)) rfl ?_
 by_cases hs28 : Lib.indexByte t 91 < Lib.indexByte t 93
 rotate_left
 ·
  refine jW rfl rfl (decide_eq_true hs24) ?_
  refine Ops.clp (jE1 zbe) (bH (decide (Lib.indexByte t 91 < Lib.indexByte t 93)) w5) rfl ?_
  rintro e _ ⟨rfl, he⟩
  rw [decide_eq_false hs28] at he
  have hno : ¬ fB t := fun h => hs28 h.1.2
  rw [if_neg hno] at him
  subst him
  exact .inr ⟨_, he, qB (bQ ⟨K5, rfl⟩)⟩
 refine jW rfl rfl (decide_eq_true hs24) ?_
 refine Ops.clp (jE1 zbe) (bH (decide (Lib.indexByte t 91 < Lib.indexByte t 93)) w5) rfl ?_
 rintro e _ ⟨rfl, he⟩
 rw [decide_eq_true hs28] at he
 refine .inl ⟨_, he, ?_⟩
 obtain ⟨bN, hbN⟩ : ∃ b : Nat, Lib.indexByte t 91 = ((b : Nat) : Int) := ⟨_, (Int.toNat_of_nonneg hs24).symm⟩
 obtain ⟨eN, heN⟩ : ∃ b : Nat, Lib.indexByte t 93 = ((b : Nat) : Int) := ⟨_, (Int.toNat_of_nonneg jo).symm⟩
 have hE := hE jo
 have hhd : hdI t = qS (t.take bN) := by unfold hdI; rw [hbN]; rfl
 have hin : inI t = (t.drop (bN + 1)).take (eN - (bN + 1)) := by unfold inI; rw [hbN, heN]; rfl
 have hre : reI t = t.drop (eN + 1) := by unfold reI; rw [heN]; rfl
 rw [hbN, heN] at hs28
 rw [heN] at hE
 rw [hbN, heN]
 rw [Int.toNat_natCast] at hE
 refine jO (jN (jv4 0 2 5 6 ?_))
 refine jS (jR (je (Run.build (evs.cons rfl evs.nil) cS (dD).choose_spec.1 (dD).choose_spec.2 (cells := itC ⟨6, [], bX, false, false, 0, 0⟩ none 0 none 0) rfl) ?_))
 refine Ops.m (qV.alloc cS) rfl ?_
 rintro _ w6 ⟨rfl, hF6⟩
 obtain ⟨gx, hgx⟩ : ∃ gx, gx = w5.heap.size := ⟨_, rfl⟩
 have hbx6 : Blk w6 gx 54 (itC it0 none 0 none 0) := by rw [hgx]; exact hF6.blk
 have hz6 := hz5.frm hF6.frm jp
 have hgx2 : g2 ≠ gx := jo
 rw [← hgx]
 refine Ops.st (qQ.storeA rfl rfl zv hbx6 rfl (cW _ _ _ _ _)) ?_
 rintro w7 ⟨hb7, hf7, hs7⟩
 have hf7 : Frm [gx] w6 w7 := hf7
 have hz7 := hz6.frm hf7 (by simp; exact hgx2)
 have K7 : Frm [] w w7 := (K5.trans hF6.frm jp).own hf7 (by simp; omega)
 have q7 := hF6.size
 refine jO (jN (jv5 0 2 5 6 7 ?_))
 refine jS (jS (jR (jm rfl (jm rfl (je (Run.sliceT 0 bN rfl za evB.none_ (evB.some_ rfl) jo jo) ?_)))))
 rw [show (t.drop 0).take (bN - 0) = t.take bN by simp]
 refine jc (jE1 Tryz.call30) (eX (t.take bN) w7 (by rw [zax]; omega)) ?_
 rintro e w8 ⟨rfl, hf8⟩
 refine ⟨_, rfl, ?_⟩
 rw [← hhd]
 have hb8 := hb7.frm hf8 jp
 have hz8 := hz7.frm hf8 jp
 have K8 := K7.trans hf8 jp
 have q8 := hf8.size
 refine jO (jN (jv6 0 2 5 6 7 35 ?_))
 refine jB (jS (jR (je (Run.eqlT rfl rfl) (ja rfl (jO (jN (jv7 0 2 5 6 7 35 37 ?_)))))))
 refine VC.meet (σ := Bool) (fun s => [(0, encStr t), (2, .pointer (some ⟨g2, 0, none⟩)), (5, .int .i64 ((bN : Nat) : Int)), (6, .int .i64 ((eN : Nat) : Int)), (7, .pointer (some ⟨gx, 0, none⟩))]) (fun s wm => s = decide (hdI t = [66, 79, 68, 89, 46, 80, 69, 69, 75]) ∧ fB t ∧ Blk wm gx 54 (itC ⟨6, [], bX, s, false, 0, 0⟩ none 0 none 0) ∧ Blk wm g2 54 (itC it0 none 0 none 0) ∧ Frm [] w wm) ?_ ?_
 ·
  refine jD rfl (fun hc2 => ?_) fun hc2 => ?_
  ·
   refine jQ ?_
   refine jN ⟨false, (js5 rfl rfl rfl rfl rfl), ?_⟩
   exact ⟨(decide_eq_false (by rw [hc2]; decide)).symm, ⟨⟨hs24, jo⟩, .inl hc2⟩, hb8, hz8, K8⟩
  refine jS (jR (je (Run.eqlT rfl rfl) (ja rfl (jO (jN (jv6 0 2 5 6 7 39 ?_))))))
  refine jD rfl (fun hc3 => ?_) fun hc3 => ?_
  ·
   refine jR (jf rfl zg rfl zk ?_)
   refine Ops.st (qQ.store (i := 5) (v := .bool true) rfl rfl zk hb8 rfl rfl) ?_
   rintro w9 ⟨hb9, hf9, hs9⟩
   have hf9 : Frm [gx] w8 w9 := hf9
   have hz9 := hz8.frm hf9 (by simp; exact hgx2)
   have K9 := K8.own hf9 (by simp; omega)
   refine jO ?_
   refine jN ⟨true, (js5 rfl rfl rfl rfl rfl), ?_⟩
   exact ⟨(decide_eq_true hc3).symm, ⟨⟨hs24, jo⟩, .inr hc3⟩, hb9, hz9, K9⟩
  refine jR ?_
  refine Ops.clp (jE1 zbe) (bH false w8) rfl ?_
  rintro e _ ⟨rfl, he⟩
  have hno : ¬ fB t := fun h => h.2.elim hc2 hc3
  rw [if_neg hno] at him
  subst him
  exact .inr ⟨_, he, qB (eT (qB (bQ ⟨K8, rfl⟩)))⟩
 rintro pk wm ⟨hpk, hok, hbm, hzm, Km⟩ Γ hΓ
 rw [if_pos hok, ← hpk, hin, hre] at him
 refine qW (jN (VC.sub _ hΓ ?_))
 refine jS (jR (jm rfl (jm rfl (jb rfl rfl (Bin.addZ _ 1 jo jo) (jm rfl (je (Run.sliceT (bN + 1) eN rfl za (evB.some_ rfl) (evB.some_ rfl) jo jo) ?_))))))
 refine jc (jE1 Tryz.call105) (oM ((t.drop (bN + 1)).take (eN - (bN + 1))) wm (by rw [zax, zbk]; omega) (hv.frm0 Km)) ?_
 rintro e wa ⟨hfa, PA, pc, NA, nc, rfl, hoP, hoN⟩
 refine ⟨_, rfl, ?_⟩
 have hba := hbm.frm hfa jp
 have hza := hzm.frm hfa jp
 have Ka := Km.trans hfa jp
 have qa := Km.size
 have qa2 := hfa.size
 obtain ⟨ov, hov⟩ : ∃ ov, bS ((t.drop (bN + 1)).take (eN - (bN + 1))) = ov := ⟨_, rfl⟩
 rw [hov] at him hoP hoN ⊢
 refine jm rfl (jY rfl rfl (jY rfl rfl ?_))
 refine Ops.m (qV.alloc eK) rfl ?_
 rintro _ wb ⟨rfl, hFb⟩
 obtain ⟨g8, hg8⟩ : ∃ g8, g8 = wa.heap.size := ⟨_, rfl⟩
 have hb8' : Blk wb g8 47 (WtC bX none 0 none 0) := by rw [hg8]; exact hFb.blk
 have hbb := hba.frm hFb.frm jp
 have hzb := hza.frm hFb.frm jp
 have hoP := hoP.frm hFb.frm jp
 have hoN := hoN.frm hFb.frm jp
 have Kb := Ka.trans hFb.frm jp
 have hgx8 : gx ≠ g8 := by have := hbm.lt; omega
 have hg28 : g2 ≠ g8 := by have := hzm.lt; omega
 rw [← hg8]
 refine Ops.st (qQ.storeA rfl rfl zn hb8' rfl (cA _ _ _ _ _)) ?_
 rintro wc ⟨hb8c, hfc, hsc⟩
 have hfc : Frm [g8] wb wc := hfc
 have hbc := hbb.frm hfc (by simp; exact hgx8)
 have hzc := hzb.frm hfc (by simp; exact hg28)
 have hoP := hoP.frm hfc (fun x hx e => by rw [zf] at e; subst e; exact hoP.ne_blk hb8' jd hx)
 have hoN := hoN.frm hfc (fun x hx e => by rw [zf] at e; subst e; exact hoN.ne_blk hb8' jd hx)
 have Kc := Kb.own hfc (by simp; omega)
 refine ja rfl (jO (jN (jv6 0 2 6 7 8 9 ?_)))
 refine jS (jR (jm rfl (jb rfl rfl (Bin.eql _ 0) ?_)))
 refine Ops.clp (jE1 zbe) (bH (decide (((if ov.isSome then 0 else 3) : Int) = 0)) wc) rfl ?_
 rintro e _ ⟨rfl, he⟩
 rcases ov with _ | v
 ·
  rw [show decide (((if (none : Option Wnt).isSome then 0 else 3) : Int) = 0) = false by decide] at he
  have him : G = none := him
  subst him
  exact .inr ⟨_, he, qB (bQ ⟨Kc, rfl⟩)⟩
 rw [show decide (((if (some v).isSome then 0 else 3) : Int) = 0) = true by simp] at he
 refine .inl ⟨_, he, ?_⟩
 have hmv := rY hov
 have hnv := mO hov
 have him : G = if t.drop (eN + 1) = [] then some ⟨6, cO v, v, pk, false, 0, 0⟩ else if eZ (t.drop (eN + 1)) then some ⟨6, cO v ++ ([60] ++ Lib.itoa (bD (t.drop (eN + 1))) ++ [62]), v, pk, true, bD (t.drop (eN + 1)), dA (t.drop (eN + 1))⟩ else none := him
 rw [show ((some v).getD bX) = v from rfl] at hoP hoN hb8c
 refine jO (jN (jv5 0 2 6 7 8 ?_))
 refine jS ?_
 refine VC.heldL 8 (fun V => Blk V g8 47 (WtC v PA pc NA nc)) jK ?_
 have hdc := (qL.drew wc).frm
 have hS : (fun V : World => Blk V g8 47 (WtC v PA pc NA nc)) wc.drew := hb8c.frm hdc jp
 refine jH 0 rfl hS (fun w0 hw0 => Run.loadA rfl zao zn (Blk.cells hw0) (by first | rfl | (simp; done))) ?_
 refine qJ.r1 1 rfl jK hS (Run.loadA rfl zao zn (Blk.cells hS) (by first | rfl | (simp; done))) trivial rfl rfl ?_
 refine qJ.cl 2 rfl jK (jE1 Tryz.call13) (oU v PA NA pc nc wc.drew (hoP.frm hdc jp).rd (by have := hmv.1; omega) (hoN.frm hdc jp).rd (by have := hmv.2.1; omega) (fun x hx => by have h1 := hnv x hx; rw [zax, zbk] at h1; omega) hoN.le) trivial rfl rfl ?_
 rintro e wd ⟨rfl, hfd⟩
 have hfd := hdc.trans hfd jp
 have hS : (fun V : World => Blk V g8 47 (WtC v PA pc NA nc)) wd := hb8c.frm hfd jp
 refine ⟨_, rfl, hS, ?_⟩
 have hbd := hbc.frm hfd jp
 have hzd := hzc.frm hfd jp
 have hoP := hoP.frm hfd jp
 have hoN := hoN.frm hfd jp
 have Kd := Kc.trans hfd jp
 have htl := sP hmv (fun x hx => by have h1 := hnv x hx; rw [zax, zbk] at h1; exact (jo : x.length ≤ 50000))
 refine jH 3 rfl hS (fun w0 hw0 => Run.addT (a := [66, 79, 68, 89, 91]) (b := fU v) rfl rfl (by simp; omega)) ?_
 refine jH 4 rfl hS (fun w0 hw0 => Run.addT (a := [66, 79, 68, 89, 91] ++ fU v) (b := [93]) rfl rfl (by simp; omega)) ?_
 refine qJ.r1 5 rfl jK hS (Run.fieldAddr rfl zg rfl zn jd) trivial rfl rfl ?_
 refine qJ.st 6 rfl jK (qQ.storeAt (i := 2) rfl rfl zn hbd (show 2 + 3 ≤ 9 from zbn rfl) (cA _ _ _ _ _)) trivial rfl ?_
 rintro wf ⟨hbf, hff, hsf⟩
 have hff : Frm [gx] wd wf := hff
 have hbf : Blk wf gx 54 (itC ⟨6, [], v, pk, false, 0, 0⟩ PA pc NA nc) := hbf
 have hS : (fun V : World => Blk V g8 47 (WtC v PA pc NA nc)) wf := Blk.frm hS hff (by simp; exact fun e => hgx8 e.symm)
 refine ⟨hS, ?_⟩
 refine qJ.r1 7 rfl jK hS (Run.fieldAddr rfl zg rfl zb jd) trivial rfl rfl ?_
 refine qJ.stL rfl jK (qQ.store (i := 1) rfl rfl zb hbf rfl rfl) trivial rfl ?_
 rintro wg ⟨hbg, hfg, hsg⟩
 have hfg : Frm [gx] wf wg := hfg
 have hbg : Blk wg gx 54 (itC ⟨6, cO v, v, pk, false, 0, 0⟩ PA pc NA nc) := hbg
 have k2g : Frm [gx] wd wg := hff.trans hfg (fun x hx => .inl hx)
 have hzg := hzd.frm k2g (by simp; exact hgx2)
 have hoP := hoP.frm k2g (fun x hx e => by rw [zf] at e; subst e; exact hoP.ne_blk hbd jd hx)
 have hoN := hoN.frm k2g (fun x hx e => by rw [zf] at e; subst e; exact hoN.ne_blk hbd jd hx)
 have Kg := Kd.own k2g (by simp; omega)
 refine qJ.done jK ?_
 refine jN (jv4 0 2 6 7 ?_)
 refine jS (jS (jR (jm rfl (jm rfl (jb rfl rfl (Bin.addZ _ 1 jo jo) (je (Run.sliceT (eN + 1) t.length rfl za (evB.some_ rfl) evB.none_ jo jo) ?_))))))
 rw [show (t.drop (eN + 1)).take (t.length - (eN + 1)) = t.drop (eN + 1) from zaa (by rw [zbk]; omega)]
 obtain ⟨re, hrE⟩ : ∃ re, re = t.drop (eN + 1) := ⟨_, rfl⟩
 have hrl : re.length ≤ 50000 := by rw [hrE, zbk]; omega
 rw [← hrE] at him ⊢
 refine ja rfl (jO (jN (jv3 2 7 10 ?_)))
 refine jS (jR (jm rfl (je (Run.neqT rfl rfl) (jO (jN (jv4 2 7 10 66 ?_))))))
 refine VC.meet (σ := ItM) (fun s => [(2, .pointer (some ⟨g2, 0, none⟩)), (7, .pointer (some ⟨gx, 0, none⟩))]) (fun s wm => G = some s ∧ Blk wm gx 54 (itC s PA pc NA nc) ∧ Blk wm g2 54 (itC it0 none 0 none 0) ∧ Frm [] w wm ∧ Own wm 3 1 PA s.w.path.length pc (PI s.w.path) ∧ Own wm 9 1 NA s.w.names.length nc (SB s.w.names)) ?_ ?_
 ·
  refine jD rfl (fun hc4 => ?_) fun hc4 => ?_
  ·
   rw [if_neg hc4] at him
   refine jS (jR (jM ?_))
   refine jc (jE2 Tryz.call106) (oS gx _ re wg hbg rfl jo (hv.frm0 Kg)) ?_
   rintro e wh ⟨rfl, hfh, hbh⟩
   refine ⟨_, rfl, ?_⟩
   have hzh := hzg.frm hfh (by simp; exact hgx2)
   have Kh := Kg.own hfh (by simp; omega)
   refine Ops.clp (jE1 zbe) (bH (decide (eZ re)) wh) rfl ?_
   rintro e _ ⟨rfl, he⟩
   by_cases hpo : eZ re
   rotate_left
   ·
    rw [decide_eq_false hpo] at he
    rw [if_neg hpo] at him
    subst him
    exact .inr ⟨_, he, qB (qB (qB (bQ ⟨Kh, rfl⟩)))⟩
   rw [decide_eq_true hpo] at he
   refine .inl ⟨_, he, ?_⟩
   rw [if_pos hpo] at him
   subst him
   have hbh : Blk wh gx 54 (itC ⟨6, cO v, v, pk, true, bD re, dA re⟩ PA pc NA nc) := hbh
   have hoP := hoP.frm hfh (fun x hx e => by rw [zf] at e; subst e; exact hoP.ne_blk hbg jd hx)
   have hoN := hoN.frm hfh (fun x hx e => by rw [zf] at e; subst e; exact hoN.ne_blk hbg jd hx)
   refine jO (jN (jv2 2 7 ?_))
   refine VC.heldL 9 (fun V => Blk V gx 54 (itC ⟨6, cO v, v, pk, true, bD re, dA re⟩ PA pc NA nc)) jK ?_
   have hdh := (qL.drew wh).frm
   have hS : (fun V : World => Blk V gx 54 (itC ⟨6, cO v, v, pk, true, bD re, dA re⟩ PA pc NA nc)) wh.drew := hbh.frm hdh jp
   refine jH 0 rfl hS (fun w0 hw0 => Run.fieldAddr rfl zg rfl zb jd) ?_
   refine jH 1 rfl hS (fun w0 hw0 => Run.load rfl zh (Blk.cell hw0 1)) ?_
   refine qJ.r1 2 rfl jK hS (Run.fieldAddr rfl zg rfl zd jd) trivial rfl rfl ?_
   refine qJ.r1 3 rfl jK hS (Run.load rfl zj (Blk.cell hS 7)) trivial rfl rfl ?_
   refine qJ.cl 4 rfl jK (jE1 Tryz.call27) (oC (bD re) wh.drew (htb.frm (Kh.trans hdh jp)) hpo.2.2.2.1 (nR re)) trivial rfl rfl ?_
   rintro e wi ⟨rfl, hfi⟩
   have hfi := hdh.trans hfi jp
   have hS : (fun V : World => Blk V gx 54 (itC ⟨6, cO v, v, pk, true, bD re, dA re⟩ PA pc NA nc)) wi := hbh.frm hfi jp
   refine ⟨_, rfl, hS, ?_⟩
   have hbi : Blk wi gx 54 _ := hS
   have hzi := hzh.frm hfi jp
   have hoP := hoP.frm hfi jp
   have hoN := hoN.frm hfi jp
   have Ki := Kh.trans hfi jp
   have hil := tS (bD re) hpo.2.2.2.1 (nR re)
   have hll : (cO v).length ≤ 10000000 := by unfold cO; simp; omega
   refine qJ.r1 5 rfl jK hS (Run.addT (a := [60]) (b := Lib.itoa (bD re)) rfl rfl (by simp; omega)) trivial rfl rfl ?_
   refine qJ.r1 6 rfl jK hS (Run.addT (a := [60] ++ Lib.itoa (bD re)) (b := [62]) rfl rfl (by simp; omega)) trivial rfl rfl ?_
   refine qJ.r1 7 rfl jK hS (Run.addT (a := cO v) (b := [60] ++ Lib.itoa (bD re) ++ [62]) rfl rfl (by simp; omega)) trivial rfl rfl ?_
   refine qJ.r1 8 rfl jK hS (Run.fieldAddr rfl zg rfl zb jd) trivial rfl rfl ?_
   refine qJ.stL rfl jK (qQ.store (i := 1) rfl rfl zb hbi rfl rfl) trivial rfl ?_
   rintro wj ⟨hbj, hfj, hsj⟩
   have hfj : Frm [gx] wi wj := hfj
   have hzj := hzi.frm hfj (by simp; exact hgx2)
   have hoP := hoP.frm hfj (fun x hx e => by rw [zf] at e; subst e; exact hoP.ne_blk hbi jd hx)
   have hoN := hoN.frm hfj (fun x hx e => by rw [zf] at e; subst e; exact hoN.ne_blk hbi jd hx)
   have Kj := Ki.own hfj (by simp; omega)
   refine qJ.done jK ?_
   refine jN ⟨(⟨6, cO v ++ ([60] ++ Lib.itoa (bD re) ++ [62]), v, pk, true, bD re, dA re⟩ : ItM), (js2 rfl rfl), ?_⟩
   exact ⟨rfl, hbj, hzj, Kj, hoP, hoN⟩
  have hc4 := Classical.not_not.1 hc4
  rw [if_pos hc4] at him
  subst him
  refine jQ ?_
  refine jN ⟨(⟨6, cO v, v, pk, false, 0, 0⟩ : ItM), (js2 rfl rfl), ?_⟩
  exact ⟨rfl, hbg, hzg, Kg, hoP, hoN⟩
 rintro x wk ⟨rfl, hbk, hzk, Kk, hoPk, hoNk⟩ Γ hΓ
 refine jN (VC.sub _ hΓ (jS (jR (je (Run.loadA rfl zbx zv hbk.cells (by first | rfl | (simp; done))) ?_))))
 refine Ops.st (qQ.storeA rfl rfl zv hzk rfl (cW _ _ _ _ _)) ?_
 rintro wl ⟨hbf, hfl, hsl⟩
 have hfl : Frm [g2] wk wl := hfl
 have Kl := Kk.own hfl (by simp; omega)
 have hoP := hoPk.frm hfl (fun x hx e => by rw [zf] at e; subst e; exact hoPk.ne_blk hzk jd hx)
 have hoN := hoNk.frm hfl (fun x hx e => by rw [zf] at e; subst e; exact hoNk.ne_blk hzk jd hx)
 refine jO (jN (jv1 2 ?_))
 refine jT ?_
 refine bA ?_
 refine qO rfl zbx zv (hbf.cells) (by first | rfl | (simp; done) | (simp [*]; done)) ?_
 refine bK ?_
 exact ⟨Kl, PA, pc, NA, nc, rfl, hoP, hoN⟩
end
section
open Go.RowKit
def bO : List Tx := [[70, 76, 65, 71, 83], [73, 78, 84, 69, 82, 78, 65, 76, 68, 65, 84, 69], [82, 70, 67, 56, 50, 50, 46, 83, 73, 90, 69], [69, 78, 86, 69, 76, 79, 80, 69], [66, 79, 68, 89]]
def bB (s : Tx) : List Tx := if s = [70, 65, 83, 84] then bO.take 3 else if s = [65, 76, 76] then bO.take 4 else if s = [70, 85, 76, 76] then bO else []
theorem Rd.few {w : World} {A : Option Addr} {n k : Nat} {xs : List Value} (h : Rd w 1 A n xs) (hk : k ≤ n) : Rd w 1 A k (xs.take k) := by
 refine ⟨by rw [zax]; have := h.1; omega, fun hk0 => ?_⟩
 obtain ⟨ad, h1, h2, h3⟩ := h.2 jo
 refine ⟨ad, h1, h2, fun j u hu => h3 j u ?_⟩
 rw [List.getElem?_take] at hu
 split at hu
 · exact hu
 cases hu
theorem nQ (s : Tx) (w : World) : Calls Tryz.prog 73 #[encStr s] w fun e w' => Frm [] w w' ∧ ∃ B d, e = .returned (.slice B (bB s).length d) ∧ Rd w' 1 B (bB s).length (SB (bB s)) ∧ (bB s = [] → B = none ∧ d = 0) ∧ (bB s ≠ [] → ∃ g, B = some ⟨g, 0, none⟩ ∧ Blk w' g 9 (SB bO).toArray) ∧ (bB s).length ≤ d := by
 refine jV Tryz.func73 Tryz.ntmps73 Tryz.results73 ?_
 refine jS (jR (ja rfl (jO (jN (jv1 0 ?_)))))
 refine jS (jR ?_)
 refine Ops.m (qV.buildN (cells := #[encStr [70, 76, 65, 71, 83], encStr [73, 78, 84, 69, 82, 78, 65, 76, 68, 65, 84, 69], encStr [82, 70, 67, 56, 50, 50, 46, 83, 73, 90, 69], encStr [69, 78, 86, 69, 76, 79, 80, 69], encStr [66, 79, 68, 89]]) (evs.cons rfl (evs.cons rfl (evs.cons rfl (evs.cons rfl (evs.cons rfl evs.nil))))) zl zb nI rfl rfl jK) rfl ?_
 rintro _ w1 ⟨rfl, hF1⟩
 have hR1 : Rd w1 1 (some ⟨w.heap.size, 0, none⟩) 5 (SB bO) := Rd.of_blk (n := 5) (size := 1) hF1.blk rfl
 refine ja rfl (jO (jN (jv2 0 3 ?_)))
 refine jS (jS (jR (jm rfl (jO (jN (jv2 3 5 ?_))))))
 refine jB (jS (jR (je (Run.eqlT rfl rfl) (ja rfl (jO (jN (jv3 3 5 6 ?_)))))))
 refine jD rfl (fun hc1 => ?_) fun hc1 => ?_
 ·
  refine jS (jR (jm rfl (je (Run.sliceS 0 3 rfl zl zb evB.none_ (evB.some_ rfl) jo jo) (ja rfl (jO (jN (jv1 2 ?_)))))))
  refine jT ?_
  refine qR (qZ (qN rfl ?_))
  refine ⟨hF1.frm, ?_⟩
  rw [show bB s = bO.take 3 by simp [bB, hc1]]
  exact ⟨some ⟨w.heap.size, 0, none⟩, 5, rfl, hR1.few (k := 3) jo, fun h => absurd h jd, fun _ => ⟨_, rfl, hF1.blk⟩, jd⟩
 refine jS (jR (je (Run.eqlT rfl rfl) (ja rfl (jO (jN (jv3 3 5 10 ?_))))))
 refine jD rfl (fun hc2 => ?_) fun hc2 => ?_
 ·
  refine jS (jR (jm rfl (je (Run.sliceS 0 4 rfl zl zb evB.none_ (evB.some_ rfl) jo jo) (ja rfl (jO (jN (jv1 2 ?_)))))))
  refine jT ?_
  refine qR (qZ (qN rfl ?_))
  refine ⟨hF1.frm, ?_⟩
  rw [show bB s = bO.take 4 by simp [bB, hc1, hc2]]
  exact ⟨some ⟨w.heap.size, 0, none⟩, 5, rfl, hR1.few (k := 4) jo, fun h => absurd h jd, fun _ => ⟨_, rfl, hF1.blk⟩, jd⟩
 refine jS (jR (je (Run.eqlT rfl rfl) (ja rfl (jO (jN (jv2 3 14 ?_))))))
 refine jD rfl (fun hc3 => ?_) fun hc3 => ?_
 ·
  refine jS (jR (jm rfl (ja rfl (jO (jN (jv1 2 ?_))))))
  refine jT ?_
  refine qR (qZ (qN rfl ?_))
  refine ⟨hF1.frm, ?_⟩
  rw [show bB s = bO by simp [bB, hc1, hc2, hc3]]
  exact ⟨some ⟨w.heap.size, 0, none⟩, 5, rfl, hR1, fun h => absurd h jd, fun _ => ⟨_, rfl, hF1.blk⟩, jd⟩
 refine jQ ?_
 refine qW (jN ?_)
 refine VC.sub [] .nil ?_
 refine jS (jR (ja rfl (jO (jN (jT ?_)))))
 refine qN rfl ?_
 refine ⟨hF1.frm, ?_⟩
 rw [show bB s = [] by simp [bB, hc1, hc2, hc3]]
 exact ⟨none, 0, rfl, Rd.nil _ _ _, fun _ => ⟨rfl, rfl⟩, fun h => absurd rfl h, jd⟩
structure ItR where
 x : ItM
 PA : Option Addr
 pc : Nat
 NA : Option Addr
 nc : Nat
def itR (r : ItR) : List Value := (itC r.x r.PA r.pc r.NA r.nc).toList
def IRC (l : List ItR) : List Value := l.flatMap itR
structure ItOk (w : World) (r : ItR) : Prop where
 p : Own w 3 1 r.PA r.x.w.path.length r.pc (PI r.x.w.path)
 n : Own w 9 1 r.NA r.x.w.names.length r.nc (SB r.x.w.names)
structure IsIt (w : World) (B : Nat) (I : Option Addr) (d : Nat) (rs : List ItR) : Prop where
 row : Own w 54 9 I rs.length d (IRC rs)
 ok : ∀ r ∈ rs, ItOk w r
 up : ∀ x ∈ ob I, B ≤ x
theorem Own.one {w w' : World} {e size n d g : Nat} {A : Option Addr} {xs : List Value} {t : TypeId} {cs : Array Value} (h : Own w e size A n d xs) (k : Frm [g] w w') (hb : Blk w g t cs) (h1 : e ≠ t) : Own w' e size A n d xs := h.frm k (fun y hy h2 => by rw [zf] at h2; subst h2; exact h.ne_blk hb h1 hy)
theorem ItOk.frm {w w' : World} {r : ItR} (h : ItOk w r) (k : Frm [] w w') : ItOk w' r := ⟨h.p.frm k jp, h.n.frm k jp⟩
theorem ItOk.blk {w w' : World} {r : ItR} {g : Nat} {t : TypeId} {cs : Array Value} (h : ItOk w r) (hb : Blk w g t cs) (k : Frm [g] w w') (h1 : 3 ≠ t) (h2 : 9 ≠ t) : ItOk w' r := ⟨h.p.one k hb h1, h.n.one k hb h2⟩
theorem ItOk.own {w w' : World} {r : ItR} {e size n d : Nat} {I : Option Addr} {xs : List Value} (h : ItOk w r) (ho : Own w e size I n d xs) (k : Frm (ob I) w w') (h1 : 3 ≠ e) (h2 : 9 ≠ e) : ItOk w' r := ⟨h.p.frm k (fun y hy => h.p.ne_own ho h1 y hy), h.n.frm k (fun y hy => h.n.ne_own ho h2 y hy)⟩
theorem IsIt.frm {w w' : World} {B d : Nat} {I : Option Addr} {rs : List ItR} (h : IsIt w B I d rs) (k : Frm [] w w') : IsIt w' B I d rs := ⟨h.row.frm k jp, fun r hr => (h.ok r hr).frm k, h.up⟩
theorem IsIt.blk {w w' : World} {B d g : Nat} {I : Option Addr} {rs : List ItR} {t : TypeId} {cs : Array Value} (h : IsIt w B I d rs) (hb : Blk w g t cs) (k : Frm [g] w w') (h0 : 54 ≠ t) (h1 : 3 ≠ t) (h2 : 9 ≠ t) : IsIt w' B I d rs := ⟨h.row.one k hb h0, fun r hr => (h.ok r hr).blk hb k h1 h2, h.up⟩
theorem IsIt.nil (w : World) (B : Nat) : IsIt w B none 0 [] := ⟨Own.nil _ _ _, fun _ h => (zw h).elim, fun _ h => absurd h (by simp [ob])⟩
theorem IsCp.frmS {S : List Nat} {w w' : World} {gp gc : Nat} {A : Option Addr} {n c : Nat} {tk : List Tk} {q : Nat} {cs : Array Value} (h : IsCp w gp gc A n c tk q cs) (k : Frm S w w') (h1 : gp ∉ S) (h2 : gc ∉ S) (h3 : 0 < n → ∀ x ∈ ob A, x ∉ S) : IsCp w' gp gc A n c tk q cs := ⟨h.p.frm k (by simpa using h1), h.k.frm k (by simpa using h2), h.sz, h.tk.frm k h3, h.le, h.big, h.off⟩
theorem oE (l : List ItR) (r : ItR) : IRC (l ++ [r]) = IRC l ++ itR r := by simp [IRC]
theorem fC (s : Tx) (gb B d : Nat) (I : Option Addr) (rs : List ItR) (gp gc : Nat) (A : Option Addr) (n c : Nat) (tk : List Tk) (q : Nat) (cs : Array Value) (w : World) (hP : IsCp w gp gc A n c tk q cs) (hG : Blk w gb 61 #[jI0 gp]) (hI : IsIt w B I d rs) (hcs : cs[9]? = some (.slice I rs.length d)) (hA : 0 < n → ∀ x ∈ ob A, x < B) (hB : B ≤ w.heap.size) (hrs : rs.length ≤ 1000000) (hs : s.length ≤ 50000) (hv : cH w) (htb : Tab w) : Calls Tryz.prog 70 #[encStr s, jI0 gb] w fun e w' => match bU s with
   | none => e = .panicked dV ∧ Frm [] w w'
   | some x => e = .returned (.tuple #[]) ∧ ∃ I' d' r, r.x = x ∧ IsIt w' B I' d' (rs ++ [r]) ∧ IsCp w' gp gc A n c tk q (cs.setIfInBounds 9 (.slice I' (rs.length + 1) d')) ∧ Frm (gc :: ob I) w w' ∧ ∀ y ∈ ob I', y ∈ ob I ∨ w.heap.size ≤ y := by
 refine jV Tryz.func70 Tryz.ntmps70 Tryz.results70 ?_
 refine VC.heldL 17 (fun V => V.cell? ⟨gb, 0, none⟩ = some (jI0 gp) ∧ V.cell? ⟨gp, 2, none⟩ = some (jI0 gc) ∧ V.cell? ⟨gc, 9, none⟩ = some (.slice I rs.length d)) jK ?_
 have hd := (qL.drew w).frm
 have hPd := hP.frm hd
 have hId := hI.frm hd
 have hGd := hG.frm hd jp
 have mkS : ∀ V, Blk V gb 61 #[jI0 gp] → IsCp V gp gc A n c tk q cs → (V.cell? ⟨gb, 0, none⟩ = some (jI0 gp) ∧ V.cell? ⟨gp, 2, none⟩ = some (jI0 gc) ∧ V.cell? ⟨gc, 9, none⟩ = some (.slice I rs.length d)) := fun V h1 h2 => ⟨h1.cell 0, h2.p.cell 2, by have h3 := h2.k.cells 9 _ (by simpa using hcs); exact h3⟩
 have hS := mkS _ hGd hPd
 refine jH 0 rfl hS (fun w0 hw0 => Run.load rfl zce hw0.1) ?_
 refine jH 1 rfl hS (fun w0 hw0 => Run.nilck rfl) ?_
 refine jH 2 rfl hS (fun w0 hw0 => Run.fieldAddr rfl zo rfl zau jd) ?_
 refine jH 3 rfl hS (fun w0 hw0 => Run.load rfl zbf hw0.2.1) ?_
 refine jH 4 rfl hS (fun w0 hw0 => Run.load rfl zce hw0.1) ?_
 refine jH 5 rfl hS (fun w0 hw0 => Run.nilck rfl) ?_
 refine jH 6 rfl hS (fun w0 hw0 => Run.fieldAddr rfl zo rfl zau jd) ?_
 refine jH 7 rfl hS (fun w0 hw0 => Run.load rfl zbf hw0.2.1) ?_
 refine jH 8 rfl hS (fun w0 hw0 => Run.nilck rfl) ?_
 refine jH 9 rfl hS (fun w0 hw0 => Run.fieldAddr rfl ze rfl zbb jd) ?_
 refine jH 10 rfl hS (fun w0 hw0 => Run.load rfl zcf hw0.2.2) ?_
 refine qJ.r1 11 rfl jK hS (Run.mv rfl) trivial rfl rfl ?_
 refine qJ.clp 12 rfl jK (jE1 Tryz.call71) (oD s _ hs (hv.frm0 hd) (htb.frm hd)) trivial rfl rfl ?_
 rintro e w1 ⟨hf1, he⟩
 rcases hT : bU s with _ | x
 ·
  rw [hT] at he
  exact .inr ⟨_, he, bQ ⟨rfl, hd.trans hf1 jp⟩⟩
 rw [hT] at he
 obtain ⟨PA, pc, NA, nc, rfl, hoP, hoN⟩ := he
 have hG1 := hGd.frm hf1 jp
 have hP1 := hPd.frm hf1
 have hI1 := hId.frm hf1
 have hok : ItOk w1 ⟨x, PA, pc, NA, nc⟩ := ⟨hoP, hoN⟩
 have hS := mkS _ hG1 hP1
 refine .inl ⟨_, rfl, hS, ?_⟩
 refine qJ.m 13 rfl jK (qV.buildS1 rfl zav zv cS jd jd rfl rfl) trivial rfl rfl ?_
 rintro _ w2 ⟨rfl, hF2⟩
 have hG2 := hG1.frm hF2.frm jp
 have hP2 := hP1.frm hF2.frm
 have hI2 := hI1.frm hF2.frm
 have hok := hok.frm hF2.frm
 have hrd : Rd w2 9 (some ⟨w1.heap.size, 0, none⟩) 1 (itC x PA pc NA nc).toList := Rd.of_blk (n := 1) (size := 9) hF2.blk rfl
 have K2 : Frm [] w w2 := (hd.trans hf1 jp).trans hF2.frm jp
 have q2 := K2.size
 have hS := mkS _ hG2 hP2
 refine ⟨hS, ?_⟩
 refine qJ.m 14 rfl jK (qV.app rfl rfl zav (tL) rfl jd hI2.row hrd (cW _ _ _ _ _) jo jo) trivial rfl rfl ?_
 rintro _ w3 ⟨I3, d3, rfl, hO3, hf3, hob3⟩
 have hgp := hI2.row.ne_blk hP2.p jd
 have hgc := hI2.row.ne_blk hP2.k jd
 have hgb := hI2.row.ne_blk hG2 jd
 have hP3 := hP2.frmS hf3 hgp hgc (fun h0 y hy e => by have h1 := hA h0 y hy; have h2 := hI.up y e; omega)
 have hG3 := hG2.frm hf3 hgb
 have hI3 : IsIt w3 B I3 d3 (rs ++ [⟨x, PA, pc, NA, nc⟩]) := ⟨by rw [oE, zaz]; exact hO3, fun r hr => by
  rcases List.mem_append.1 hr with hr | hr
  · exact (hI2.ok r hr).own hI2.row hf3 jd jd
  ·
   rw [zf] at hr
   subst hr
   exact hok.own hI2.row hf3 jd jd, fun y hy => by
  rcases hob3 with h | h
  · rw [h] at hy; exact hI.up y hy
  rw [h, zf] at hy; omega⟩
 have hS := mkS _ hG3 hP3
 refine ⟨hS, ?_⟩
 refine qJ.r1 15 rfl jK hS (Run.nilck rfl) trivial rfl rfl ?_
 refine qJ.r1 16 rfl jK hS (Run.fieldAddr rfl ze rfl zbb jd) trivial rfl rfl ?_
 refine qJ.stL rfl jK (qQ.store (i := 9) rfl rfl zbb hP3.k (by rw [hP3.sz]; rfl) rfl) trivial rfl ?_
 rintro w4 ⟨hb4, hf4, hs4⟩
 have hP4 := hP3.turn hb4 (by simp [hP3.sz]) hf4
 have hI4 := hI3.blk hP3.k hf4 jd jd jd
 refine qJ.done jK ?_
 refine dS ?_
 refine ⟨rfl, I3, d3, ⟨x, PA, pc, NA, nc⟩, rfl, hI4, hP4, ((K2.mono jp).trans hf3 (fun y hy => .inl (by simp [hy]))).trans hf4 (fun y hy => .inl (by simp at hy; simp [hy])), fun y hy => ?_⟩
 rcases hob3 with h | h
 · rw [h] at hy; exact .inl hy
 rw [h, zf] at hy; exact .inr jo
def eG (tk : List Tk) (q : Nat) : Option ItM := (qD tk q [0]).bind bU
theorem oF (w0 : World) (gf gb d : Nat) (I : Option Addr) (rs : List ItR) (gp gc : Nat) (A : Option Addr) (n c : Nat) (tk : List Tk) (q : Nat) (cs : Array Value) (w : World) (hP : IsCp w gp gc A n c tk q cs) (hF : Blk w gf 117 #[.func (.func 70) ([] : List Value).toArray ([jI0 gb] : List Value).toArray]) (hG : Blk w gb 61 #[jI0 gp]) (hI : IsIt w w0.heap.size I d rs) (hcs : cs[9]? = some (.slice I rs.length d)) (hA : 0 < n → ∀ x ∈ ob A, x < w0.heap.size) (hK : Frm [] w0 w) (hgp : w0.heap.size ≤ gp) (hrs : rs.length ≤ 1000000) (hl : ∀ x ∈ tk, x.2.length ≤ 50000) (hv : cH w0) (htb : Tab w0) : Calls Tryz.prog 72 #[jI0 gf, jI0 gb] w fun e w' => match eG tk q with
   | none => e = .panicked dV ∧ Frm [gp] w w'
   | some x => e = .returned (.tuple #[]) ∧ ∃ I' d' r, r.x = x ∧ IsIt w' w0.heap.size I' d' (rs ++ [r]) ∧ IsCp w' gp gc A n c tk (q + 1) (cs.setIfInBounds 9 (.slice I' (rs.length + 1) d')) ∧ Frm (gp :: gc :: ob I) w w' ∧ ∀ y ∈ ob I', y ∈ ob I ∨ w.heap.size ≤ y := by
 refine jV Tryz.func72 Tryz.ntmps72 Tryz.results72 ?_
 refine VC.held (fun V => V.cell? ⟨gf, 0, none⟩ = some (.func (.func 70) ([] : List Value).toArray ([jI0 gb] : List Value).toArray) ∧ V.cell? ⟨gb, 0, none⟩ = some (jI0 gp)) jK ?_
 have hd := (qL.drew w).frm
 have hPd := hP.frm hd
 have hId := hI.frm hd
 have hGd := hG.frm hd jp
 have hFd := hF.frm hd jp
 have hS : (fun V : World => V.cell? ⟨gf, 0, none⟩ = some (.func (.func 70) ([] : List Value).toArray ([jI0 gb] : List Value).toArray) ∧ V.cell? ⟨gb, 0, none⟩ = some (jI0 gp)) w.drew := ⟨hFd.cell 0, hGd.cell 0⟩
 refine jH 0 rfl hS (fun w0 hw0 => Run.load rfl Tryz.isAgg117 hw0.1) ?_
 refine jH 1 rfl hS (fun w0 hw0 => Run.load rfl zce hw0.2) ?_
 refine qJ.m 2 rfl jK (qV.buildS1 rfl zm zd eF jd jd rfl rfl) trivial rfl rfl ?_
 rintro _ w1 ⟨rfl, hF1⟩
 have hK1 : Rd w1 1 (some ⟨w.drew.heap.size, 0, none⟩) 1 (IB [0]) := Rd.of_blk (n := 1) (size := 1) hF1.blk rfl
 have hPl := hP.lt
 have hG1 := hGd.frm hF1.frm jp
 have hf1 := hFd.frm hF1.frm jp
 have hI1 := hId.frm hF1.frm
 have hP1 := hPd.frm hF1.frm
 have hsz1 := hd.size
 have hS : (fun V : World => V.cell? ⟨gf, 0, none⟩ = some (.func (.func 70) ([] : List Value).toArray ([jI0 gb] : List Value).toArray) ∧ V.cell? ⟨gb, 0, none⟩ = some (jI0 gp)) w1 := ⟨hf1.cell 0, hG1.cell 0⟩
 refine ⟨hS, ?_⟩
 refine qJ.clp 3 rfl jK (jE2 Tryz.call31) (cE (some ⟨w.drew.heap.size, 0, none⟩) 1 1 [0] gp gc A n c tk q cs w1 hP1 rfl jo hK1 (fun _ x hx => by rw [zf.1 hx]; show w.drew.heap.size ≠ gp; omega)) trivial rfl rfl ?_
 rintro e w2 ⟨hf2, he⟩
 rcases hT : qD tk q [0] with _ | s
 ·
  rw [hT] at he
  exact .inr ⟨_, he, bQ (by rw [show eG tk q = none by simp [eG, hT]]; exact ⟨rfl, ((hd.trans hF1.frm jp).mono jp).trans hf2 (fun x hx => .inl hx)⟩)⟩
 rw [hT] at he
 obtain ⟨rfl, hP2⟩ := he
 have hG2 := hG1.frm hf2 (by simp; exact hG1.ne hP1.p jd)
 have hF2 := hf1.frm hf2 (by simp; exact hf1.ne hP1.p jd)
 have hI2 := hI1.blk hP1.p hf2 jd jd jd
 have K2 : Frm [gp] w w2 := ((hd.trans hF1.frm jp).mono jp).trans hf2 (fun x hx => .inl hx)
 have q2 := K2.size
 have q0 := hK.size
 have K02 : Frm [] w0 w2 := hK.own K2 (by simp; omega)
 have hS : (fun V : World => V.cell? ⟨gf, 0, none⟩ = some (.func (.func 70) ([] : List Value).toArray ([jI0 gb] : List Value).toArray) ∧ V.cell? ⟨gb, 0, none⟩ = some (jI0 gp)) w2 := ⟨hF2.cell 0, hG2.cell 0⟩
 have him : eG tk q = bU s := by simp [eG, hT]
 rw [him]
 refine .inl ⟨_, rfl, hS, ?_⟩
 refine qJ.clp 4 rfl jK (qI.dyn rfl (evs.cons rfl evs.nil) Tryz.call70) (fC s gb w0.heap.size d I rs gp gc A n c tk (q + 1) cs w2 hP2 hG2 hI2 hcs hA jo hrs (eR hT hl) (hv.frm0 K02) (htb.frm K02)) trivial rfl rfl ?_
 rintro e w3 he
 rcases hM : bU s with _ | x
 ·
  rw [hM] at he
  exact .inr ⟨_, he.1, bQ ⟨rfl, K2.trans he.2 jp⟩⟩
 rw [hM] at he
 obtain ⟨rfl, I3, d3, r, hr, hI3, hP3, hf3, hu3⟩ := he
 have hF3 := hF2.frm hf3 (by simp; exact ⟨hF2.ne hP2.k jd, hI2.row.ne_blk hF2 jd⟩)
 have hG3 := hG2.frm hf3 (by simp; exact ⟨hG2.ne hP2.k jd, hI2.row.ne_blk hG2 jd⟩)
 refine .inl ⟨_, rfl, ⟨hF3.cell 0, hG3.cell 0⟩, ?_⟩
 refine qJ.done jK ?_
 refine dS ?_
 exact ⟨rfl, I3, d3, r, hr, hI3, hP3, (K2.mono jp).trans hf3 (fun y hy => .inl (by simp at hy; rcases hy with h | h <;> simp [h])), fun y hy => by rcases hu3 y hy with h | h; exact .inl h; exact .inr jo⟩
theorem sR {cs : Array Value} {i : Nat} {v : Value} (h : cs[i]? = some v) : cs.setIfInBounds i v = cs := by
 apply Array.ext_getElem?
 intro j
 rw [zah]
 split
 ·
  next he =>
  subst he
  rw [if_pos (Array.getElem?_eq_some_iff.1 h).1, h]
 rfl
theorem tT {cs : Array Value} {i : Nat} {u v : Value} : (cs.setIfInBounds i u).setIfInBounds i v = cs.setIfInBounds i v := by
 apply Array.ext_getElem?
 intro j
 simp only [zah, Array.size_setIfInBounds]
 split <;> rfl
theorem uH {cs : Array Value} {i : Nat} {v : Value} (h : i < cs.size) : (cs.setIfInBounds i v)[i]? = some v := by
 rw [zah, if_pos rfl, if_pos h]
def cM (v0 w : World) (gf gb gp gc : Nat) (A : Option Addr) (n c : Nat) (tk : List Tk) (csS : Array Value) (Bs : Option Addr) (ds : Nat) (sp : List Sp) (xs : List ItM) (W : World) (q : Nat) (cs : Array Value) : Prop :=
 ∃ I d rs, rs.map (·.x) = xs ∧ IsIt W v0.heap.size I d rs ∧ cs[9]? = some (.slice I rs.length d) ∧ (∀ v, cs.setIfInBounds 9 v = csS.setIfInBounds 9 v) ∧ IsCp W gp gc A n c tk q cs ∧ Blk W gf 117 #[.func (.func 70) ([] : List Value).toArray ([jI0 gb] : List Value).toArray] ∧ Blk W gb 61 #[jI0 gp] ∧ Own W 96 2 Bs sp.length ds (SC sp) ∧ Frm [gp, gc] w W ∧ ∀ y ∈ ob I, w.heap.size ≤ y
section
variable {v0 w : World} {gf gb gp gc : Nat} {A : Option Addr} {n c : Nat} {tk : List Tk} {csS : Array Value} {Bs : Option Addr} {ds : Nat} {sp : List Sp} {xs : List ItM} {W W' : World} {q q2 : Nat} {cs : Array Value}
theorem cM.frm (h : cM v0 w gf gb gp gc A n c tk csS Bs ds sp xs W q cs) (k : Frm [] W W') : cM v0 w gf gb gp gc A n c tk csS Bs ds sp xs W' q cs := by
 obtain ⟨I, d, rs, h1, h2, h3, h4, h5, h6, h7, h8, h9, h10⟩ := h
 exact ⟨I, d, rs, h1, h2.frm k, h3, h4, h5.frm k, h6.frm k jp, h7.frm k jp, h8.frm k jp, h9.trans k jp, h10⟩
theorem cM.read (h : cM v0 w gf gb gp gc A n c tk csS Bs ds sp xs W q cs) (k : Frm [gp] W W') (hP : IsCp W' gp gc A n c tk q2 cs) : cM v0 w gf gb gp gc A n c tk csS Bs ds sp xs W' q2 cs := by
 obtain ⟨I, d, rs, h1, h2, h3, h4, h5, h6, h7, h8, h9, h10⟩ := h
 exact ⟨I, d, rs, h1, h2.blk h5.p k jd jd jd, h3, h4, hP, h6.frm k (by simp; exact h6.ne h5.p jd), h7.frm k (by simp; exact h7.ne h5.p jd), h8.one k h5.p jd, h9.trans k (fun x hx => .inl (by simp at hx; simp [hx])), h10⟩
theorem cM.add {I I' : Option Addr} {d d' : Nat} {rs : List ItR} {r : ItR} (h1 : rs.map (·.x) = xs) (h2 : IsIt W v0.heap.size I d rs) (h4 : ∀ v, cs.setIfInBounds 9 v = csS.setIfInBounds 9 v) (h5 : IsCp W gp gc A n c tk q cs) (h6 : Blk W gf 117 #[.func (.func 70) ([] : List Value).toArray ([jI0 gb] : List Value).toArray]) (h7 : Blk W gb 61 #[jI0 gp]) (h8 : Own W 96 2 Bs sp.length ds (SC sp)) (h9 : Frm [gp, gc] w W) (h10 : ∀ y ∈ ob I, w.heap.size ≤ y)
  (g2 : IsIt W' v0.heap.size I' d' (rs ++ [r])) (g5 : IsCp W' gp gc A n c tk q2 (cs.setIfInBounds 9 (.slice I' (rs.length + 1) d'))) (k : Frm (gp :: gc :: ob I) W W') (hu : ∀ y ∈ ob I', y ∈ ob I ∨ W.heap.size ≤ y) : cM v0 w gf gb gp gc A n c tk csS Bs ds sp (xs ++ [r.x]) W' q2 (cs.setIfInBounds 9 (.slice I' (rs.length + 1) d')) := by
 have hsz := h9.size
 refine ⟨I', d', rs ++ [r], by simp [h1], g2, by rw [uH (by rw [h5.sz]; decide)]; simp, fun v => by rw [tT]; exact h4 v, g5, h6.frm k (by simp; exact ⟨h6.ne h5.p jd, h6.ne h5.k jd, h2.row.ne_blk h6 jd⟩), h7.frm k (by simp; exact ⟨h7.ne h5.p jd, h7.ne h5.k jd, h2.row.ne_blk h7 jd⟩), h8.frm k (fun y hy => by simp; exact ⟨fun e => (h8.ne_blk h5.p jd) (e ▸ hy), fun e => (h8.ne_blk h5.k jd) (e ▸ hy), h8.ne_own h2.row jd y hy⟩), h9.trans k (fun y hy => ?_), fun y hy => ?_⟩
 ·
  simp at hy
  rcases hy with h | h | h
  · exact .inl (by simp [h])
  · exact .inl (by simp [h])
  exact .inr (h10 y h)
 rcases hu y hy with h | h
 · exact h10 y h
 omega
end
def kU (tk : List Tk) (_ k : Nat) : Option Nat := (eG tk k).map fun _ => k + 1
noncomputable def cB (tk : List Tk) (q : Nat) : Option (List Sp × List ItM × Nat) := (gI tk q).bind fun sp =>
 if IsT tk (q + 1) 2 then (eO tk (kU tk) 1 16 (q + 1)).map fun p => (sp, (List.range p.2).map (fun i => (eG tk (q + 2 + i)).getD it0), p.1 + 1)
 else (qD tk (q + 1) [0]).bind fun s => if bB (qS s) = [] then (bU s).map fun x => (sp, [x], q + 2) else some (sp, (bB (qS s)).map (fun m => (bU m).getD it0), q + 2)
theorem rH : ∀ m ∈ bO, ∃ x, bU m = some x := by
 have h : ∀ m ∈ bO, (fZ (qS m)).isSome = true ∧ m.length ≤ 50000 := jd
 intro m hm
 obtain ⟨x, hx⟩ := Option.isSome_iff_exists.1 (h m hm).1
 exact ⟨x, by unfold bU; rw [hx]⟩
theorem sS : ∀ m ∈ bO, m.length ≤ 50000 := jd
theorem tU (s : Tx) {k : Nat} (h : k < (bB s).length) : (bB s)[k]? = bO[k]? ∧ k < 5 := by
 have h5 : bO.length = 5 := rfl
 have h2 : ∀ j, k < (bO.take j).length → (bO.take j)[k]? = bO[k]? ∧ k < 5 := fun j hj => by
  rw [zax] at hj
  exact ⟨by rw [List.getElem?_take, if_pos jo], jo⟩
 unfold bB at h ⊢
 split
 · rename_i h1; rw [if_pos h1] at h; exact h2 3 h
 rename_i h1; rw [if_neg h1] at h
 split
 · rename_i h3; rw [if_pos h3] at h; exact h2 4 h
 rename_i h3; rw [if_neg h3] at h
 split
 · rename_i h4; rw [if_pos h4] at h; exact ⟨rfl, jo⟩
 rename_i h4; rw [if_neg h4] at h; cases h
theorem Run.neqNilS {P : Program} {Γ : Env} {w : World} {dst : Option Nat} {T : TypeId} {pos : String} {after : Array Edge} {g : Option (Nat × Bool)} {t yT e : TypeId} {x y : Operand} {A : Option Addr} {n c : Nat} (hx : ev? Γ x = some (.slice A n c)) (hy : ev? Γ y = some (.slice none 0 0)) (ht : P.underlying t = some (.slice e)) :
  Run P ⟨dst, .binOp .neq t x y yT, T, pos, after, g⟩ Γ w (.bool (! A.isNone)) := fun ρ hρ => by
 have h0 : ∀ d : Nat, (Op.equalIn (d + 1) t (.slice A n c) (.slice none 0 0)).run P w = .ok A.isNone w := fun d => by
  cases A <;> simp [Op.equalIn, run_underlying ht]
 have h1 : (Op.equal t (.slice A n c) (.slice none 0 0)).run P w = .ok A.isNone w := h0 9999
 simp [execOp, hρ _ _ hx, hρ _ _ hy, eqGuard, binOp, h1]
theorem tB (w : World) : (zeroValue 117).run Tryz.prog w = .ok (.nilFunc) w := by
 simp only [zeroValue, Sem.run_bind, Tryz.typeInfo117, Result.andThen_ok]; rfl
theorem nX (v0 : World) (gp gc : Nat) (A : Option Addr) (n c : Nat) (tk : List Tk) (q : Nat) (cs : Array Value) (w : World) (hP : IsCp w gp gc A n c tk q cs) (hcs : cs[9]? = some (.slice none 0 0)) (hA : 0 < n → ∀ x ∈ ob A, x < v0.heap.size) (hK0 : Frm [] v0 w) (hgp : v0.heap.size ≤ gp ∧ v0.heap.size ≤ gc) (hl : ∀ x ∈ tk, x.2.length ≤ 50000) (hv : cH v0) (htb : Tab v0) : Calls Tryz.prog 35 #[jI0 gp] w fun e w' => match cB tk q with
   | none => e = .panicked dV ∧ Frm [gp, gc] w w'
   | some (sp, xs, q2) => e = .returned (.tuple #[]) ∧ ∃ gf gb Bs ds cs2, cM v0 w gf gb gp gc A n c tk (cs.setIfInBounds 8 (.slice Bs sp.length ds)) Bs ds sp xs w' q2 cs2 := by
 refine jV Tryz.func35 Tryz.ntmps35 Tryz.results35 ?_
 refine jS (jR ?_)
 refine Ops.m (qV.box rfl) rfl ?_
 rintro _ w1 ⟨rfl, hF1⟩
 obtain ⟨gb, hgb⟩ : ∃ g, g = w.heap.size := ⟨_, rfl⟩
 have hG : Blk w1 gb 61 #[jI0 gp] := by rw [hgb]; exact hF1.blk
 have hP1 := hP.frm hF1.frm
 rw [← hgb]
 refine jO (jN (jv1 1 ?_))
 refine jS ?_
 refine VC.heldL 8 (fun V => V.cell? ⟨gb, 0, none⟩ = some (jI0 gp) ∧ V.cell? ⟨gp, 2, none⟩ = some (jI0 gc)) jK ?_
 have hd := (qL.drew w1).frm
 have hPd := hP1.frm hd
 have hGd := hG.frm hd jp
 have hS : (fun V : World => V.cell? ⟨gb, 0, none⟩ = some (jI0 gp) ∧ V.cell? ⟨gp, 2, none⟩ = some (jI0 gc)) w1.drew := ⟨hGd.cell 0, hPd.p.cell 2⟩
 refine jH 0 rfl hS (fun w0 hw0 => Run.load rfl zce hw0.1) ?_
 refine jH 1 rfl hS (fun w0 hw0 => Run.nilck rfl) ?_
 refine jH 2 rfl hS (fun w0 hw0 => Run.fieldAddr rfl zo rfl zau jd) ?_
 refine jH 3 rfl hS (fun w0 hw0 => Run.load rfl zbf hw0.2) ?_
 refine qJ.r1 4 rfl jK hS (Run.load rfl zce hS.1) trivial rfl rfl ?_
 refine qJ.clp 5 rfl jK (jE1 Tryz.call69) (rW gp gc A n c tk q cs _ hPd (fun x hx => by have := hl x hx; omega)) trivial rfl rfl ?_
 rintro e w2 ⟨hf2, he⟩
 have K2 : Frm [gp, gc] w w2 := ((hF1.frm.trans hd jp).mono jp).trans hf2 (fun x hx => .inl (by simp at hx; simp [hx]))
 rcases hT : gI tk q with _ | sp
 ·
  rw [hT] at he
  exact .inr ⟨_, he, qB (bQ (by rw [show cB tk q = none by simp [cB, hT]]; exact ⟨rfl, K2⟩))⟩
 rw [hT] at he
 obtain ⟨Bs, ds, rfl, hP2, hoS, hupS⟩ := he
 have hG2 := hGd.frm hf2 (by simp; exact hGd.ne hPd.p jd)
 have hS : (fun V : World => V.cell? ⟨gb, 0, none⟩ = some (jI0 gp) ∧ V.cell? ⟨gp, 2, none⟩ = some (jI0 gc)) w2 := ⟨hG2.cell 0, hP2.p.cell 2⟩
 refine .inl ⟨_, rfl, hS, ?_⟩
 refine qJ.r1 6 rfl jK hS (Run.nilck rfl) trivial rfl rfl ?_
 refine qJ.r1 7 rfl jK hS (Run.fieldAddr rfl ze rfl zbh jd) trivial rfl rfl ?_
 refine qJ.stL rfl jK (qQ.store (i := 8) rfl rfl zbh hP2.k (by rw [hP2.sz]; rfl) rfl) trivial rfl ?_
 rintro w3 ⟨hb3, hf3, hs3⟩
 have hf3 : Frm [gc] w2 w3 := hf3
 obtain ⟨csS, hcsS⟩ : ∃ x, x = cs.setIfInBounds 8 (.slice Bs sp.length ds) := ⟨_, rfl⟩
 have hP3 : IsCp w3 gp gc A n c tk (q + 1) csS := by rw [hcsS]; exact hP2.turn hb3 (by simp [hP2.sz]) hf3
 have hG3 := hG2.frm hf3 (by simp; exact hG2.ne hP2.k jd)
 have hoS := hoS.one hf3 hP2.k jd
 have h9 : csS[9]? = some (.slice none 0 0) := by rw [hcsS, zah, if_neg jd]; exact hcs
 have K3 : Frm [gp, gc] w w3 := K2.trans hf3 (fun x hx => .inl (by simp at hx; simp [hx]))
 refine qJ.done jK ?_
 refine jN (jv1 1 ?_)
 refine jS (jR (je (Run.mkFunc evs.nil (evs.cons rfl evs.nil)) ?_))
 refine Ops.m (qV.alloc tB) rfl ?_
 rintro _ w4 ⟨rfl, hF4⟩
 obtain ⟨gf, hgf⟩ : ∃ g, g = w3.heap.size := ⟨_, rfl⟩
 have hb4 := hF4.blk
 rw [← hgf] at hb4 ⊢
 refine Ops.st (qQ.store (i := 0) rfl rfl Tryz.sizeOf117 hb4 rfl rfl) ?_
 rintro w5 ⟨hFf, hf5, hs5⟩
 have hFf : Blk w5 gf 117 #[.func (.func 70) ([] : List Value).toArray ([jI0 gb] : List Value).toArray] := hFf
 have hf45 : Frm [] w3 w5 := hF4.frm.own hf5 (fun x hx => by rw [zf] at hx; omega)
 have hP5 := hP3.frm hf45
 have hG5 := hG3.frm hf45 jp
 have hoS := hoS.frm hf45 jp
 have K5 := K3.trans hf45 jp
 have hX5 : cM v0 w gf gb gp gc A n c tk csS Bs ds sp [] w5 (q + 1) csS := ⟨none, 0, [], rfl, IsIt.nil _ _, h9, fun _ => rfl, hP5, hFf, hG5, hoS, K5, fun _ h => absurd h (by simp [ob])⟩
 clear hFf hoS
 refine jO (jN (jv2 1 2 ?_))
 refine jS (jS (jR (jl rfl zce (hG5.cell 0) ?_)))
 refine jc (jE3 Tryz.call61) (gB 0 2 gp gc A n c tk (q + 1) csS w5 hP5 jo) ?_
 rintro e w6 ⟨hf6, rfl⟩
 refine ⟨_, rfl, ?_⟩
 have hX6 := hX5.frm hf6
 have hG6 := hG5.frm hf6 jp
 have hP6 := hP5.frm hf6
 have K6 := K5.trans hf6 jp
 rw [Nat.add_zero]
 have hbase : ∀ W, Frm [gp, gc] w W → Frm [] v0 W := fun W k => hK0.own k (by simp; exact hgp)
 clear hX5
 refine jO (jN (jv3 1 2 17 ?_))
 refine VC.condB rfl (fun hc1 => ?_) (fun hc1 => ?_)
 ·
  have hit : IsT tk (q + 1) 2 := by simpa using hc1
  have hfm : cB tk q = (eO tk (kU tk) 1 16 (q + 1)).map fun p => (sp, (List.range p.2).map (fun i => (eG tk (q + 2 + i)).getD it0), p.1 + 1) := by unfold cB; rw [hT, zbi, if_pos hit]
  rw [hfm]
  have hone : ∀ j W q1 cs1, j < 16 → ¬ IsT tk q1 3 → (j ≤ 16 ∧ q1 = q + 2 + j ∧ cM v0 w gf gb gp gc A n c tk csS Bs ds sp ((List.range j).map fun i => (eG tk (q + 2 + i)).getD it0) W q1 cs1) → Calls Tryz.prog 72 ([jI0 gf, jI0 gb] : List Value).toArray W fun e w' => match kU tk j q1 with
     | none => e = .panicked dV ∧ Frm [gp, gc] w w'
     | some q2 => e = .returned (.tuple #[]) ∧ ∃ cs2, (j + 1 ≤ 16 ∧ q2 = q + 2 + (j + 1) ∧ cM v0 w gf gb gp gc A n c tk csS Bs ds sp ((List.range (j + 1)).map fun i => (eG tk (q + 2 + i)).getD it0) w' q2 cs2) := by
   intro j W q1 cs1 hj hn3 h
   obtain ⟨_, hq1, I, d, rs, h1, h2, h3, h4, h5, h6, h7, h8, h9, h10⟩ := h
   have hln : rs.length = j := by have := congrArg List.length h1; simpa using this
   refine (oF v0 gf gb d I rs gp gc A n c tk q1 cs1 W h5 h6 h7 h2 h3 hA (hbase W h9) hgp.1 jo hl hv htb).mono fun e w' he => ?_
   unfold kU
   rcases hi : eG tk q1 with _ | x
   ·
    rw [hi] at he
    exact ⟨he.1, h9.trans he.2 (fun y hy => .inl (by simp at hy; simp [hy]))⟩
   rw [hi] at he
   obtain ⟨he, I', d', r, hr, g2, g5, k, hu⟩ := he
   refine ⟨he, cs1.setIfInBounds 9 (.slice I' (rs.length + 1) d'), jo, (by show q1 + 1 = _; omega), ?_⟩
   have := cM.add h1 h2 h4 h5 h6 h7 h8 h9 h10 g2 g5 k hu
   rw [List.range_succ, List.map_append, List.map_singleton, ← hq1, hi]
   rw [hr] at this
   exact this
  refine jS (jR (jl rfl zce (hG6.cell 0) (je (Run.mkFunc evs.nil (evs.cons rfl (evs.cons rfl evs.nil))) ?_)))
  refine Ops.clp (jE4 Tryz.call62) (oB 72 [jI0 gf, jI0 gb] 1 16 (kU tk) (fun j W q1 cs1 => j ≤ 16 ∧ q1 = q + 2 + j ∧ cM v0 w gf gb gp gc A n c tk csS Bs ds sp ((List.range j).map fun i => (eG tk (q + 2 + i)).getD it0) W q1 cs1) w gp gc A n c tk (q + 1) csS w6 hP6 K6 jo jo Tryz.call72 (fun W k hP => ⟨zba _, rfl, hX6.read k hP⟩) (fun j W q1 cs1 h => by obtain ⟨_, _, I, d, rs, h1, h2, h3, h4, h5, h6, h7, h8, h9, h10⟩ := h; exact ⟨h5, h9⟩) (fun j W W' q1 cs1 h k => ⟨h.1, h.2.1, h.2.2.frm k⟩) hone) rfl ?_
  rintro e w7 he
  rcases hL : eO tk (kU tk) 1 16 (q + 1) with _ | ⟨q2, j⟩
  ·
   rw [hL] at he
   exact .inr ⟨_, he.1, qB (qB (bQ ⟨rfl, he.2⟩))⟩
  rw [hL] at he
  obtain ⟨rfl, cs2, W1, ⟨_, _, hX7⟩, hf7, hP7⟩ := he
  refine .inl ⟨_, rfl, ?_⟩
  refine jO (jN ?_)
  refine VC.sub [] .nil ?_
  refine jT ?_
  refine qZ (rC ?_)
  refine ⟨rfl, gf, gb, Bs, ds, cs2, ?_⟩
  rw [← hcsS]
  exact hX7.read hf7 hP7
 have hit : ¬ IsT tk (q + 1) 2 := by simpa using hc1
 have hfm : cB tk q = (qD tk (q + 1) [0]).bind fun s => if bB (qS s) = [] then (bU s).map fun x => (sp, [x], q + 2) else some (sp, (bB (qS s)).map (fun m => (bU m).getD it0), q + 2) := by unfold cB; rw [hT, zbi, if_neg hit]
 rw [hfm]
 refine jQ (jN (jv2 1 2 ?_))
 refine jS (jR (jl rfl zce (hG6.cell 0) ?_))
 refine Ops.m (qV.buildS1 rfl zm zd eF jd jd rfl rfl) rfl ?_
 rintro _ w7 ⟨rfl, hF7⟩
 have hK7 : Rd w7 1 (some ⟨w6.heap.size, 0, none⟩) 1 (IB [0]) := Rd.of_blk (n := 1) (size := 1) hF7.blk rfl
 have hPl := hP6.lt
 have hX7 := hX6.frm hF7.frm
 refine Ops.clp (jE2 Tryz.call31) (cE (some ⟨w6.heap.size, 0, none⟩) 1 1 [0] gp gc A n c tk (q + 1) csS w7 (hP6.frm hF7.frm) rfl jo hK7 (fun _ x hx => by rw [zf.1 hx]; show w6.heap.size ≠ gp; omega)) rfl ?_
 rintro e w8 ⟨hf8, he⟩
 rcases hTk : qD tk (q + 1) [0] with _ | s
 ·
  rw [hTk] at he
  exact .inr ⟨_, he, qB (bQ ⟨rfl, (K6.trans hF7.frm jp).trans hf8 (fun x hx => .inl (by simp at hx; simp [hx]))⟩)⟩
 rw [hTk] at he
 obtain ⟨rfl, hP8⟩ := he
 have hsl := eR hTk hl
 have hX8 := hX7.read hf8 hP8
 rw [zbi]
 refine .inl ⟨_, rfl, ?_⟩
 refine ja rfl (jO (jN (jv2 2 3 ?_)))
 refine jS (jS (jR (jM ?_)))
 refine jc (jE1 Tryz.call30) (eX s w8 jo) ?_
 rintro e w9 ⟨rfl, hf9⟩
 refine ⟨_, rfl, ?_⟩
 have hX9 := hX8.frm hf9
 refine jc (jE1 Tryz.call73) (nQ (qS s) w9) ?_
 rintro e wa ⟨hfa, Bm, dm, rfl, hRm, hm0, hm1, hdm⟩
 refine ⟨_, rfl, ?_⟩
 have hXa := hX9.frm hfa
 refine ja rfl (jO (jN (jv3 2 3 4 ?_)))
 refine jS (jR (jm rfl (je (Run.neqNilS rfl rfl zl) (jO (jN (jv4 2 3 4 28 ?_))))))
 refine VC.condB rfl (fun hc2 => ?_) (fun hc2 => ?_)
 ·
  have hmn : bB (qS s) ≠ [] := fun h0 => by
   obtain ⟨h1, h2⟩ := hm0 h0
   rw [h1] at hc2
   simp at hc2
  obtain ⟨gm, hgm, hbm⟩ := hm1 hmn
  subst hgm
  rw [if_neg hmn]
  obtain ⟨ml, hml⟩ : ∃ ml, ml = bB (qS s) := ⟨_, rfl⟩
  have hmat : ∀ k, k < ml.length → ml[k]? = bO[k]? ∧ k < 5 := by rw [hml]; exact fun k hk => tU _ hk
  have hmL : ml.length ≤ 5 := by rcases Nat.lt_or_ge 5 ml.length with h | h; exact absurd (hmat 5 h).2 jo; exact h
  rw [← hml] at hdm ⊢
  clear hRm hm0 hm1
  refine jS (jS (jR (jm rfl (jL rfl zl ?_))))
  refine jx .i64 0 ?_
  refine jO (jN (jv4 2 29 30 31 ?_))
  refine jB ?_
  refine VC.loop (σ := Nat × Array Value) (fun s => [(2, jI0 gf), (29, .slice (some ⟨gm, 0, none⟩) ml.length dm), (30, jI1 ml.length), (31, jI1 s.1)]) (fun s wr => s.1 ≤ ml.length ∧ Blk wr gm 9 (SB bO).toArray ∧ cM v0 w gf gb gp gc A n c tk csS Bs ds sp ((ml.take s.1).map fun m => (bU m).getD it0) wr (q + 2) s.2) (fun s => ml.length - s.1) (0, csS) (js4 rfl rfl rfl rfl) ⟨zba _, hbm, hXa⟩ ?_
  clear hXa hbm
  rintro ⟨k, cs1⟩ wr ⟨hk, hbm, hXk⟩
  dsimp only at hk hXk ⊢
  obtain ⟨I, d, rs, x1, x2, x3, x4, x5, x6, x7, x8, x9, x10⟩ := hXk
  have hrl : rs.length ≤ 5 := by have := congrArg List.length x1; simp at this; omega
  refine jS (jR (jb rfl rfl (Bin.lssN _ _) (jO (jN (jS ?_)))))
  refine jD rfl (fun hc3 => ?_) fun hc3 => ?_
  ·
   have hk3 : k < ml.length := by simpa using hc3
   have hm5 := hmat k hk3
   obtain ⟨mk, hmk⟩ : ∃ mk, bO[k]? = some mk := ⟨_, zc (show k < bO.length from hm5.2)⟩
   have hmem : mk ∈ bO := zbq hmk
   obtain ⟨xk, hxk⟩ := rH mk hmem
   refine jQ (jN (jv4 2 29 30 31 ?_))
   refine jS (jB (jS (jR (je (Run.index1 _ rfl rfl zl zb jo) (jl rfl zh (v := encStr mk) (hbm.cells k _ (by simp [SB, hmk])) (ja rfl (jO (jN (jv5 2 6 29 30 31 ?_)))))))))
   refine jR (jl rfl Tryz.isAgg117 (x6.cell 0) (jM ?_))
   refine Ops.clp (qI.dyn rfl (evs.cons rfl evs.nil) Tryz.call70) (fC mk gb v0.heap.size d I rs gp gc A n c tk (q + 2) cs1 wr x5 x7 x2 x3 hA (hbase _ x9).size jo (sS mk hmem) (hv.frm0 (hbase _ x9)) (htb.frm (hbase _ x9))) rfl ?_
   rintro e wb he
   rw [hxk] at he
   obtain ⟨rfl, I3, d3, r, hr, g2, g5, kf, hu⟩ := he
   have hXb := cM.add x1 x2 x4 x5 x6 x7 x8 x9 x10 g2 g5 (kf.mono (fun y hy => by simp at hy; rcases hy with h | h <;> simp [h])) hu
   have hbm := hbm.frm kf (by simp; exact ⟨hbm.ne x5.k jd, x2.row.ne_blk hbm jd⟩)
   refine .inl ⟨_, rfl, ?_⟩
   refine jO ?_
   refine qW (jN ?_)
   refine jv4 2 29 30 31 ?_
   refine jR (jb rfl rfl (Bin.add_i64 _ 1 jo) (jm rfl (jO ?_)))
   refine jN ⟨(k + 1, cs1.setIfInBounds 9 (.slice I3 (rs.length + 1) d3)), (js4 rfl rfl rfl rfl), ?_, ?_⟩
   ·
    refine ⟨hk3, hbm, ?_⟩
    rw [zbc, List.map_append, hm5.1, hmk]
    rw [hr] at hXb
    show cM v0 w gf gb gp gc A n c tk csS Bs ds sp (_ ++ [(bU mk).getD it0]) wb (q + 2) _
    rw [hxk]
    exact hXb
   exact jq
  have hnk : ¬ k < ml.length := by simpa using hc3
  have hk3 : k = ml.length := by omega
  refine jX ?_
  refine qK (qK (qH ?_))
  refine jN ?_
  refine VC.sub [] .nil ?_
  refine jT ?_
  refine qZ (rC ?_)
  refine ⟨rfl, gf, gb, Bs, ds, cs1, ?_⟩
  rw [← hcsS]
  rw [hk3, zaa (zaj _)] at x1
  exact ⟨I, d, rs, x1, x2, x3, x4, x5, x6, x7, x8, x9, x10⟩
 have hmn : bB (qS s) = [] := by
  rcases hq : bB (qS s) with _ | ⟨a, r⟩
  · rfl
  obtain ⟨g, h1, _⟩ := hm1 (by rw [hq]; exact List.cons_ne_nil _ _)
  rw [h1] at hc2
  simp at hc2
 rw [if_pos hmn]
 obtain ⟨I, d, rs, x1, x2, x3, x4, x5, x6, x7, x8, x9, x10⟩ := hXa
 have hr0 : rs = [] := List.map_eq_nil_iff.1 x1
 refine jQ (jN (jv2 2 3 ?_))
 refine jR (jl rfl Tryz.isAgg117 (x6.cell 0) (jM ?_))
 refine Ops.clp (qI.dyn rfl (evs.cons rfl evs.nil) Tryz.call70) (fC s gb v0.heap.size d I rs gp gc A n c tk (q + 2) csS wa x5 x7 x2 x3 hA (hbase _ x9).size (by rw [hr0]; exact zba _) hsl (hv.frm0 (hbase _ x9)) (htb.frm (hbase _ x9))) rfl ?_
 rintro e wb he
 rcases hi : bU s with _ | x
 ·
  rw [hi] at he
  exact .inr ⟨_, he.1, bQ ⟨rfl, x9.trans he.2 jp⟩⟩
 rw [hi] at he
 obtain ⟨rfl, I3, d3, r, hr, g2, g5, kf, hu⟩ := he
 have hXb := cM.add x1 x2 x4 x5 x6 x7 x8 x9 x10 g2 g5 (kf.mono (fun y hy => by simp at hy; rcases hy with h | h <;> simp [h])) hu
 refine .inl ⟨_, rfl, ?_⟩
 refine jO ?_
 refine dS ?_
 refine ⟨rfl, gf, gb, Bs, ds, csS.setIfInBounds 9 (.slice I3 (rs.length + 1) d3), ?_⟩
 rw [← hcsS]
 rw [hr] at hXb
 exact hXb
def cZ (tag : Tx) : Array Value := #[encStr tag, encStr [], .bool false, encStr [], encStr [], .slice none 0 0, .int .i64 0, .bool false, .slice none 0 0, .slice none 0 0, .int .i64 0, encStr [], encStr [], .int .i64 0, .slice none 0 0, .slice none 0 0, .int .i64 0, .int .i64 0, .bool false, .slice none 0 0]
theorem dI (tag : Tx) : ∀ u ∈ (cZ tag).toList, u.oneCell' = true := by
 intro u hu
 simp only [cZ, zs, zw, or_false] at hu
 rcases hu with rfl | rfl | rfl | rfl | rfl | rfl | rfl | rfl | rfl | rfl | rfl | rfl | rfl | rfl | rfl | rfl | rfl | rfl | rfl | rfl <;> rfl
theorem eP (g1 g2 g3 : Nat) (A : Option Addr) (n c : Nat) (tk : List Tk) (cs : Array Value) (v3 : Value) (w : World) (hT : Blk w g1 23 #[.slice A n c]) (hO : Blk w g2 34 cs) (hsz : cs.size = 20) (h3 : Blk w g3 35 #[v3]) (hR : RdT w A n tk) (hn : 0 < n) :
  CallsD Tryz.prog 17 #[jI0 g1, jI0 g2, jI0 g3] (.panicking dV) w fun e u w' => (∃ v, e = .returned v) ∧ settle u = .returning ∧ Blk w' g2 34 (cZ (tk.getD 0 tk0).2) ∧ Blk w' g3 35 #[.int .i64 20] ∧ Frm [g2, g3] w w' := by
 obtain ⟨ad, hA, hel⟩ := hR.cell hn
 subst hA
 have hne : g2 ≠ g3 := hO.ne h3 jd
 refine VC.recovered (nt := 12) (res := #[]) (u' := .panicking [{ v := .iface 89 (.agg #[]), recovered := true }]) (v := .iface 89 (.agg #[])) Tryz.func17 rfl Tryz.ntmps17 Tryz.results17 rfl (.inl ⟨[], rfl, rfl⟩) rfl rfl rfl rfl rfl rfl rfl rfl ?_
 refine jS (jR (jm rfl (je (Run.neqNilI rfl rfl zbr rfl) (jO (jN (jv4 0 1 2 6 ?_))))))
 refine VC.condT rfl (rfl) ?_
 refine jR (jl rfl zbv (hT.cell 0) (je (Run.indexS 0 rfl rfl zy zp jo) (jf rfl zaq rfl zb (jl rfl zh (hel _ (Frm.refl _ _) 1 _ rfl) (je (Run.build (evs.cons rfl evs.nil) cR (cT).choose_spec.1 (cT).choose_spec.2 (cells := cZ (tk.getD 0 tk0).2) rfl) ?_)))))
 refine Ops.st (qQ.storeA rfl rfl zam hO hsz.symm (dI _)) ?_
 rintro w1 ⟨hb1, hf1, hs1⟩
 refine Ops.st (qQ.store (i := 0) (v := .int .i64 20) rfl rfl Tryz.sizeOf35 (h3.frm hf1 (by simp; omega)) rfl rfl) ?_
 rintro w2 ⟨hb2, hf2, hs2⟩
 refine jO ?_
 refine dS ?_
 exact ⟨⟨_, rfl⟩, rfl, hb1.frm hf2 (by simp; omega), hb2, (hf1.mono (T := [g2, g3]) jp).trans hf2 (fun x hx => .inl (by simp at hx; simp [hx]))⟩
theorem oA (g1 g2 g3 : Nat) (w : World) :
  CallsD Tryz.prog 17 #[jI0 g1, jI0 g2, jI0 g3] .returning w fun e u w' => (∃ v, e = .returned v) ∧ settle u = .returning ∧ w' = w := by
 refine VC.recovered (nt := 12) (res := #[]) (u' := .returning) (v := .nilIface) Tryz.func17 rfl Tryz.ntmps17 Tryz.results17 rfl (.inr ⟨rfl, rfl, rfl⟩) rfl rfl rfl rfl rfl rfl rfl rfl ?_
 refine jS (jR (jm rfl (je (Run.neqNil2 rfl zbr rfl) (jO (jN (jv4 0 1 2 6 ?_))))))
 refine VC.condF rfl (rfl) ?_
 refine jQ ?_
 refine dS ?_
 exact ⟨⟨_, rfl⟩, rfl, rfl⟩
end
section
open Go.RowKit
open Go.Maps (Keyed)
section
variable {P : Program} {k : TypeId} {κ : Type} {enc : κ → Value} {w : World} {g : Nat} {M : κ → Option Value} {Γ : Env} {dst : Option Tmp} {T : TypeId} {pos : String} {after : Array Edge} {gd : Option (Nat × Bool)}
theorem rM {t e : TypeId} {z : Value} {x : κ} {kl : Lit} (h : MpF P k enc w g M) (K : Keyed P k) (ht : P.underlying t = some (.map k e)) (hz : (zeroValue e).run P w = .ok z w) (hkey : keyOf P k (enc x) = some kl) :
  (Instr.lookup t (.map (some g)) (enc x) true).run P w = .ok (.tuple #[(M x).getD z, .bool (M x).isSome]) w := by
 obtain ⟨es, clock, hb, h2, h3, h4⟩ := h
 rcases K.find w hkey es (fun e he => (h2 e he).1) with ⟨h5, h6⟩ | ⟨j, e0, h5, h6, h7⟩
 ·
  have hM : M x = none := by
   cases hm : M x with
   | none => rfl
   | some v =>
    obtain ⟨e1, he1, he2, _⟩ := (h4 x v).1 hm
    exact absurd he2 (h6 e1 he1)
  rw [hM]
  simp [Instr.lookup, run_underlying ht, MapKept.run_getObj_map hb, K.check w _ hkey, h5, hz, Result.andThen]
 have hM : M x = some e0.val := (h4 x e0.val).2 ⟨e0, zbq h6, h7, rfl⟩
 rw [hM]
 simp [Instr.lookup, run_underlying ht, MapKept.run_getObj_map hb, K.check w _ hkey, h5, hz, Result.andThen]
theorem Run.lookup2 {t e : TypeId} {a b : Operand} {z : Value} {x : κ} {kl : Lit} (ha : ev? Γ a = some (.map (some g))) (hb : ev? Γ b = some (enc x)) (h : MpF P k enc w g M) (K : Keyed P k) (ht : P.underlying t = some (.map k e)) (hz : ∀ w, (zeroValue e).run P w = .ok z w) (hkey : keyOf P k (enc x) = some kl) :
  Run P ⟨dst, .lookup t a b true, T, pos, after, gd⟩ Γ w (.tuple #[(M x).getD z, .bool (M x).isSome]) := fun ρ hρ => by
 simp [execOp, hρ _ _ ha, hρ _ _ hb, rM h K ht (hz w) hkey]
end
end
section
open Go.RowKit
def eJ (ts : List Tmp) (a a' : Act) : Prop := ∀ t ∈ ts, a'.tmps.getD t undef = a.tmps.getD t undef
theorem eJ.put {ts : List Tmp} {a0 a : Act} {d : Option Tmp} {v : Value} (h : eJ ts a0 a) (hd : ∀ t ∈ ts, d ≠ some t) : eJ ts a0 (a.put d v) := fun t ht => by
 rw [← h t ht]
 cases d with
 | none => rfl
 | some k =>
  have hk : k ≠ t := fun e => hd t ht (by rw [e])
  simp [Act.put, zah, hk]
section
variable {P : Program} {ops : Array Oper} {Q : Exit → Act → World → Prop} {S : World → Prop} {L : Nat} {ts : List Tmp} {a0 : Act}
theorem sT {o : Oper} {a : Act} {w : World} {K : Act → World → Prop} (hd : ∀ t ∈ ts, o.dst ≠ some t) (ha : eJ ts a0 a) (hh : o.wp P a w K Q) :
  o.wp P a w (fun a' w' => K a' w' ∧ eJ ts a0 a') (fun e a' w' => Q e a' w' ∧ ∀ ch, e = .panic ch → eJ ts a0 a') := by
 unfold Oper.wp at *
 generalize (execOp a.eval o).run P w = r at *
 cases r with
 | ok n w' =>
  cases n <;> simp only [Oper.upon] at hh ⊢
  case value => exact ⟨hh, ha.put hd⟩
  case skip => exact ⟨hh, ha.put hd⟩
  case defer => exact ⟨hh, eJ.put (a := { a with defers := _ }) ha hd⟩
  case enter => exact Calls.mono hh (fun e w'' he => by
   cases e with
   | returned v => exact ⟨he, ha.put hd⟩
   | panicked ch => exact ⟨he, fun _ _ => ha⟩
   | outgrown => obtain ⟨a1, w1, h1⟩ := he; exact ⟨a1, w1, h1, fun ch h => by cases h⟩)
  case row => exact Rows.mono hh (fun _ _ he => ⟨he, ha.put hd⟩)
 | halt x w' => cases x <;> simp only [Oper.upon] at hh ⊢ <;> first | exact hh | exact ⟨hh, fun _ _ => ha⟩
theorem dB (hops : ∀ (i : Nat) (o : Oper), ops[i]? = some o → ∀ t ∈ ts, o.dst ≠ some t) : ∀ (f : Nat) (listed : Array Bool) (a : Act) (w : World), eJ ts a0 a → bR P ops Q S L f listed a w →
  bR P ops (fun e a' w' => Q e a' w' ∧ ∀ ch, e = .panic ch → eJ ts a0 a') S L f listed a w
 | 0, _, _, _, _, h => ⟨h.1, h.2, fun ch h => by cases h⟩
 | f + 1, listed, a, w, ha, h => ⟨fun hr => ⟨h.1 hr, fun ch h => by cases h⟩, fun i hi => by
   have h2 := h.2 i hi
   unfold wpOp at h2 ⊢
   cases ho : ops[i]? with
   | none => rw [ho] at h2; exact ⟨h2.1, dB hops f _ a w ha h2.2⟩
   | some o =>
    rw [ho] at h2
    dsimp only at h2 ⊢
    split
    ·
     rename_i hw
     rw [if_pos hw] at h2
     rcases h2 with h2 | ⟨h2, a1, w1, h3⟩
     · exact .inl (Oper.wp_mono (fun a' w' h4 => ⟨h4.1.1, dB hops f _ a' w' h4.2 h4.1.2⟩) (sT (hops i o ho) ha h2))
     exact .inr ⟨h2, a1, w1, h3, fun ch h => by cases h⟩
    rename_i hw
    rw [if_neg hw] at h2
    exact ⟨h2.1, dB hops f _ _ w (ha.put (hops i o ho)) h2.2⟩⟩
end
section
variable {P : Program} {n : NF} {Γ : Env} {w : World} {Q : Exit → Env → World → Prop}
theorem nS {t : Nat} {v : Value} : ∀ {Γ : Env}, get? Γ t = some v → t ∈ Γ.map (·.1)
 | [], h => by cases h
 | (k, u) :: r, h => by
  unfold get? at h
  cases hb : Nat.beq k t with
  | true => rw [zq hb]; simp
  | false => rw [hb] at h; exact List.mem_cons_of_mem _ (nS h)
def uM (Γ0 : Env) (l : List Oper) : Bool := l.all fun o => match o.dst with | none => true | some d => Γ0.all fun b => ! Nat.beq b.1 d
theorem VC.heldK {id : Nat} {l : List Oper} (Γ0 : Env) (L : Nat) (S : World → Prop) (hm : P.follows .mixedOrders = true) (hsub : Sub Γ Γ0) (hsp : uM Γ0 l = true)
  (h : qJ P n l.toArray S (fun ch w' => Q (.panic ch) Γ0 w') L l.toArray.size (Array.replicate l.toArray.size false) Γ w.drew (fun Γ' w' => Q .normal Γ' w')) (hnd : n.ro = none ∨ cV l.toArray = true := by first | exact .inl rfl | exact .inr jK) : VC P n (.region id l.toArray true) Γ w Q := by
 intro a hs m
 have hk := dB (a0 := a) (ts := Γ0.map (·.1)) (fun i o ho t ht hd => by
  have h1 := List.all_eq_true.1 hsp o (zbq (by simpa using ho))
  rw [hd] at h1
  obtain ⟨b, hb, rfl⟩ := List.mem_map.1 ht
  have h2 := List.all_eq_true.1 h1 b hb
  simp at h2) _ _ _ _ (fun _ _ => rfl) (h a hs)
 refine wpIn_mono (Q := fun e a' w' => eQ n (fun Γ' w' => Q .normal Γ' w') (fun ch w' => Q (.panic ch) Γ0 w') e a' w' ∧ ∀ ch, e = .panic ch → eJ (Γ0.map (·.1)) a a') (wpIn_region_any hm (fV hnd (fun ⟨_, _, h⟩ => h.1) _ _ _ _ (fY _ _ _ _ hk))) ?_
 intro e a' w hq
 cases e with
 | normal => exact hq.1
 | panic ch =>
  refine ⟨Γ0, ⟨hq.1.1.1, hq.1.1.2, fun t v hg => ?_⟩, hq.1.2⟩
  have hmem := nS hg
  rw [hq.2 ch rfl t hmem]
  exact hs.at_ t v (hsub.get t v hg)
 | _ => exact hq.1.elim
end
def fD (tag nm : Tx) : Array Value := (cZ tag).setIfInBounds 1 (encStr nm)
def oI (tag nm : Tx) : Array Value := (fD tag nm).setIfInBounds 2 (.bool true)
def kG (tk : List Tk) : Tx := if 0 < tk.length ∧ (tk.getD 0 tk0).1 = 0 then (tk.getD 0 tk0).2 else []
def cJ (tk : List Tk) (D : Tx → Option Nat) : Option Unit := if 0 < tk.length ∧ (tk.getD 0 tk0).1 = 0 then (qD tk 1 [0]).bind fun s => if (dT (qS s)).isSome then (D (qS s)).bind fun q => if q = tk.length then some () else none else none else none
def kB (w : World) (A : Option Addr) (n c : Nat) (tk : List Tk) (q0 : Nat) (C : Tx → Array Value) (D : Tx → Option Nat) (Y : World → Array Value → Prop) (nm : Tx) (f : Nat) : Prop :=
 ∀ W gp gc cs, IsCp W gp gc A n c tk q0 cs → cs = C nm → Frm [] w W → w.heap.size ≤ gp → w.heap.size ≤ gc → Calls Tryz.prog f #[jI0 gp] W fun e w' => match D nm with
  | none => e = .panicked dV ∧ Frm [gp, gc] W w'
  | some q2 => e = .returned (.tuple #[]) ∧ ∃ cs2, IsCp w' gp gc A n c tk q2 cs2 ∧ Frm [gp, gc] W w' ∧ Y w' cs2 ∧ ∀ u ∈ cs2.toList, u.oneCell' = true
theorem rN (w : World) : (zeroValue 66).run Tryz.prog w = .ok (.nilFunc) w := by
 simp only [zeroValue, Sem.run_bind, Tryz.typeInfo66, Result.andThen_ok]; rfl
theorem gP {Γ : Env} {w : World} {R : Ending → World → Prop} {g2 g3 : Nat} {cs : Array Value} {v3 : Value} (e2 : get? Γ 2 = some (jI0 g2)) (e3 : get? Γ 3 = some (jI0 g3)) (h2 : Blk w g2 34 cs) (h3 : Blk w g3 35 #[v3]) (hs : cs.size = 20)
  (k : R (.returned (.tuple #[.agg cs, v3])) w) : cX Tryz.prog #[.cell 2 34, .cell 3 35] R .ret Γ w :=
 bA (qO e2 Tryz.isAgg34 zam h2.cells hs (dK e3 Tryz.isAgg35 (h3.cell 0) (bK k)))
theorem cY (A : Option Addr) (n c : Nat) (tk : List Tk) (D : Tx → Option Nat) (Y : World → Array Value → Prop) (w : World) (hR : RdT w A n tk) (hn : n ≤ 100000) (hl : ∀ x ∈ tk, x.2.length ≤ 1000000) (hYf : ∀ W W' g t csx cs, Y W cs → Blk W g t csx → (t = 34 ∨ t = 35) → Frm [g] W W' → Y W' cs)
  (hD : ∀ s, qD tk 1 [0] = some s → ∀ fv, dT (qS s) = some fv → ∃ f, fv = .func (.func f) ([] : List Value).toArray ([] : List Value).toArray ∧ (∀ args w, (callFunc f args).run Tryz.prog w = .ok (.enter f args) w) ∧ kB w A n c tk 2 (fD (kG tk)) D Y (qS s) f) :
  Calls Tryz.prog 10 #[.slice A n c] w fun e w' => Frm [] w w' ∧ ∃ cs' code, e = .returned (.tuple #[.agg cs', .int .i64 code]) ∧ match cJ tk D with
   | none => cs' = cZ (kG tk) ∧ code = 20
   | some _ => code = 0 ∧ cs'.size = 20 ∧ Y w' cs' := by
 refine LW.calls (nt := 67) Tryz.func10 rfl Tryz.ntmps10 rfl ?_
 refine LW.seq ?_
 refine jR ?_
 refine Ops.m (qV.box rfl) rfl ?_
 rintro _ w1 ⟨rfl, hF1⟩
 obtain ⟨g1, hg1⟩ : ∃ g, g = w.heap.size := ⟨_, rfl⟩
 have hb1 := hF1.blk
 have s1 := hF1.size
 rw [← hg1] at hb1 ⊢
 refine Ops.m (qV.alloc cR) rfl ?_
 rintro _ w2 ⟨rfl, hF2⟩
 obtain ⟨g2, hg2⟩ : ∃ g, g = w1.heap.size := ⟨_, rfl⟩
 have hb2 := hF2.blk
 have s2 := hF2.size
 rw [← hg2] at hb2 ⊢
 refine Ops.m (qV.alloc pY) rfl ?_
 rintro _ w3 ⟨rfl, hF3⟩
 obtain ⟨g3, hg3⟩ : ∃ g, g = w2.heap.size := ⟨_, rfl⟩
 have hb3 := hF3.blk
 have s3 := hF3.size
 rw [← hg3] at hb3 ⊢
 have K3 : Frm [] w w3 := (hF1.frm.trans hF2.frm jp).trans hF3.frm jp
 have hb1 : Blk w3 g1 23 #[.slice A n c] := (hb1.frm hF2.frm jp).frm hF3.frm jp
 have hb2 : Blk w3 g2 34 (cZ []) := hb2.frm hF3.frm jp
 have hR3 := hR.frm K3 jp
 have hln := hR.len
 refine jO (jN ?_)
 refine LW.seq ?_
 refine jS ?_
 refine VC.split1 [(1, _), (2, _), (3, _)] (js3 rfl rfl rfl) 16 (.bool (decide (n = 0 ∨ (tk.getD 0 tk0).1 ≠ 0))) ?_ ?_
 ·
  refine jR (jl rfl zbv (hb1.cell 0) (jL rfl zy (jb rfl rfl (Bin.eqlN _ 0) ?_)))
  by_cases hs9 : n = 0
  ·
   refine jM ?_
   refine jU ?_
   refine jU ?_
   refine jU ?_
   refine jU ?_
   refine jU ?_
   refine jW rfl rfl au (jO ?_)
   refine jN ⟨(js4 (jC (by grind)) rfl rfl rfl), rfl⟩
  refine jM ?_
  refine jk (Run.load rfl zbv (hb1.cell 0)) ?_
  obtain ⟨ad, hA, hel⟩ := hR3.cell (k := 0) jo
  subst hA
  refine jk (Run.indexS 0 rfl rfl zy zp jo) ?_
  refine jk (Run.fieldAddr rfl zaq rfl zd jd) ?_
  refine jk (Run.load rfl zj (hel _ (Frm.refl _ _) 0 _ rfl)) ?_
  refine jk (Run.bin rfl rfl (Bin.neq _ 0)) ?_
  by_cases hs15 : (tk.getD 0 tk0).1 ≠ 0
  ·
   refine jF rfl rfl au (jO ?_)
   refine jN ⟨(js4 (jC (by grind)) rfl rfl rfl), rfl⟩
  refine jF rfl rfl au (jO ?_)
  refine jN ⟨(js4 (jC (by grind)) rfl rfl rfl), rfl⟩
 intro Γ hΓ
 refine jN (VC.sub _ hΓ ?_)
 refine jD rfl (fun hc1 => ?_) fun hc1 => ?_
 ·
  have hbad : ¬ (0 < tk.length ∧ (tk.getD 0 tk0).1 = 0) := by rw [hln]; rintro ⟨h1, h2⟩; rcases hc1 with h | h; omega; exact h h2
  have hpm : cJ tk D = none := by unfold cJ; rw [if_neg hbad]
  have hpt : kG tk = [] := if_neg hbad
  refine jS (jR (je (Run.build evs.nil cR (cT).choose_spec.1 (cT).choose_spec.2 (cells := cZ []) rfl) ?_))
  refine Ops.st (qQ.storeA rfl rfl zam hb2 rfl (dI _)) ?_
  rintro w4 ⟨hb4, hf4, hs4⟩
  refine Ops.st (qQ.store (i := 0) (v := .int .i64 20) rfl rfl Tryz.sizeOf35 (hb3.frm hf4 (by simp; omega)) rfl rfl) ?_
  rintro w5 ⟨hb5, hf5, hs5⟩
  refine jO (jN (jv2 2 3 ?_))
  refine jT ?_
  refine qZ (rI zcs ?_)
  refine bA ?_
  refine qO rfl Tryz.isAgg34 zam ((hb4.frm hf5 (by simp; omega)).cells) (by first | rfl | (simp; done) | (simp [*]; done)) ?_
  refine dK rfl Tryz.isAgg35 ((hb5.cell 0)) ?_
  refine bK ?_
  refine ⟨(K3.own hf4 (by simp; omega)).own hf5 (by simp; omega), cZ [], 20, rfl, ?_⟩
  rw [hpm, hpt]
  exact ⟨rfl, rfl⟩
 have hgood : 0 < tk.length ∧ (tk.getD 0 tk0).1 = 0 := by rw [hln]; exact ⟨jo, by rcases Decidable.em ((tk.getD 0 tk0).1 = 0) with h | h; exact h; exact absurd (.inr h) hc1⟩
 have hn0 : 0 < n := jo
 have hpt : kG tk = (tk.getD 0 tk0).2 := if_pos hgood
 obtain ⟨ad, hA, hel⟩ := hR3.cell (k := 0) hn0
 have hR3' := hR3
 subst hA
 refine jQ (jN ?_)
 refine LW.dfr (us := [_, _, _]) (Run.mkFunc evs.nil (evs.cons rfl (evs.cons rfl (evs.cons rfl evs.nil)))) rfl rfl rfl rfl rfl rfl rfl ?_
 refine LW.vc ?_
 refine jS ?_
 refine VC.held (fun V => Frm [] w3 V) jK ?_
 have hS : Frm [] w3 w3.drew := (qL.drew w3).frm
 refine jH 0 rfl hS (fun w0 hw0 => Run.load rfl zbv ((hb1.frm hw0 jp).cell 0)) ?_
 refine jH 1 rfl hS (fun w0 hw0 => Run.load rfl zbv ((hb1.frm hw0 jp).cell 0)) ?_
 refine jH 2 rfl hS (fun w0 hw0 => Run.indexS 0 rfl rfl zy zp jo) ?_
 refine jH 3 rfl hS (fun w0 hw0 => Run.fieldAddr rfl zaq rfl zb jd) ?_
 refine jH 4 rfl hS (fun w0 hw0 => Run.load rfl zh (hel _ hw0 1 _ rfl)) ?_
 refine jH 5 rfl hS (fun w0 hw0 => Run.build (evs.cons rfl evs.nil) cR (cT).choose_spec.1 (cT).choose_spec.2 (cells := cZ (tk.getD 0 tk0).2) rfl) ?_
 refine qJ.m 6 rfl jK (qV.box rfl) trivial rfl rfl ?_
 rintro _ w4 ⟨rfl, hF4⟩
 obtain ⟨gc, hgc⟩ : ∃ g, g = w3.drew.heap.size := ⟨_, rfl⟩
 have hbc := hF4.blk
 rw [← hgc] at hbc ⊢
 have hS : Frm [] w3 w4 := Frm.trans hS hF4.frm jp
 have s4 := hF4.size
 refine ⟨hS, ?_⟩
 refine jH 7 rfl hS (fun w0 hw0 => Run.build (evs.cons rfl (evs.cons rfl (evs.cons rfl evs.nil))) tO (lA).choose_spec.1 (lA).choose_spec.2 (cells := #[.slice (some ad) n c, jI1 1, jI0 gc]) rfl) ?_
 refine qJ.m 8 rfl jK (qV.box rfl) trivial rfl rfl ?_
 rintro _ w5 ⟨rfl, hF5⟩
 obtain ⟨gp, hgp⟩ : ∃ g, g = w4.heap.size := ⟨_, rfl⟩
 have hbp := hF5.blk
 rw [← hgp] at hbp ⊢
 have hbc := hbc.frm hF5.frm jp
 have K5 : Frm [] w3 w5 := Frm.trans hS hF5.frm jp
 have s3d := (qL.drew w3).frm.size
 have hP5 : IsCp w5 gp gc (some ad) n c tk 1 (cZ (tk.getD 0 tk0).2) := ⟨hbp, hbc, rfl, hR3'.frm K5 jp, jo, hn, fun h0 x hx => by have := hR.rd.lt h0 x hx; omega⟩
 have hS : Frm [] w3 w5 := K5
 refine ⟨hS, ?_⟩
 refine jH 9 rfl hS (fun w0 hw0 => Run.asg rfl) ?_
 refine qJ.done jK ?_
 refine jN (jv4 1 2 3 4 ?_)
 refine jS ?_
 refine VC.heldK [(2, _), (3, _)] 8 (fun V => V.cell? ⟨gp, 2, none⟩ = some (jI0 gc)) jK (js2 rfl rfl) jK ?_
 have hd := (qL.drew w5).frm
 have hPd := hP5.frm hd
 have hS : (fun V : World => V.cell? ⟨gp, 2, none⟩ = some (jI0 gc)) w5.drew := hPd.p.cell 2
 have hR1 : g1 < g2 ∧ g2 < g3 ∧ g3 < gc ∧ gc < gp ∧ w.heap.size ≤ g1 := by have := (qL.drew w3).frm.size; omega
 have K05 : Frm [] w w5 := K3.trans K5 jp
 have hb1 := hb1.frm K5 jp
 have hb2 := hb2.frm K5 jp
 have hb3 := hb3.frm K5 jp
 refine jh 0 hS ?_
 refine jH 1 rfl hS (fun w0 hw0 => Run.nilck rfl) ?_
 refine jH 2 rfl hS (fun w0 hw0 => Run.fieldAddr rfl zo rfl zau jd) ?_
 refine jH 3 rfl hS (fun w0 hw0 => Run.load rfl zbf hw0) ?_
 refine qJ.r1 4 rfl jK hS (Run.mv rfl) trivial rfl rfl ?_
 refine qJ.clp 5 rfl jK (jE1 Tryz.call18) (kQ gp gc (some ad) n c tk 1 _ _ hPd hl) trivial rfl rfl ?_
 rintro e w6 ⟨hf6, he⟩
 have k56 : Frm [gp] w5 w6 := (hd.mono jp).trans hf6 (fun x hx => .inl hx)
 have K06 : Frm [] w w6 := K05.own k56 (by simp; omega)
 have hb1 : Blk w6 g1 23 _ := hb1.frm k56 (by simp; omega)
 have hb2 := hb2.frm k56 (by simp; omega)
 have hb3 := hb3.frm k56 (by simp; omega)
 rcases hT : qD tk 1 [0] with _ | s
 ·
  rw [hT] at he
  have hpm : cJ tk D = none := by unfold cJ; rw [if_pos hgood, hT]; rfl
  refine .inr ⟨_, he, qB (fN zcs Tryz.call17 ?_)⟩
  refine (eP g1 g2 g3 (some ad) n c tk (cZ []) _ w6 hb1 hb2 rfl hb3 (hR.frm K06 jp) hn0).mono ?_
  rintro e u w7 ⟨hv, hu2, hb2, hb3, hf7⟩
  exact ⟨hv, hu2, gP (by rfl) (by rfl) hb2 hb3 rfl ⟨K06.own hf7 (by simp; omega), _, _, rfl, by rw [hpm, hpt]; exact ⟨rfl, rfl⟩⟩⟩
 rw [hT] at he
 obtain ⟨rfl, hP6⟩ := he
 have hS : (fun V : World => V.cell? ⟨gp, 2, none⟩ = some (jI0 gc)) w6 := hP6.p.cell 2
 refine .inl ⟨_, rfl, hS, ?_⟩
 refine qJ.r1 6 rfl jK hS (Run.nilck rfl) trivial rfl rfl ?_
 refine qJ.r1 7 rfl jK hS (Run.fieldAddr rfl ze rfl zb jd) trivial rfl rfl ?_
 refine qJ.stL rfl jK (qQ.store (i := 1) rfl rfl zb hP6.k (by rw [hP6.sz]; rfl) rfl) trivial rfl ?_
 rintro w7 ⟨hb7, hf7, hs7⟩
 have hf7 : Frm [gc] w6 w7 := hf7
 have hP7 := hP6.turn hb7 (by rw [Array.size_setIfInBounds]; exact hP6.sz) hf7
 have K07 : Frm [] w w7 := K06.own hf7 (by simp; omega)
 have hb1 := hb1.frm hf7 (by simp; omega)
 have hb2 := hb2.frm hf7 (by simp; omega)
 have hb3 := hb3.frm hf7 (by simp; omega)
 refine qJ.done jK ?_
 refine jN (jv4 1 2 3 4 ?_)
 refine jS ?_
 refine VC.held (fun V => V.cell? ⟨gp, 2, none⟩ = some (jI0 gc) ∧ V.cell? ⟨gc, 1, none⟩ = some (encStr (qS s))) jK ?_
 have hd := (qL.drew w7).frm
 have hPd := hP7.frm hd
 have mkS : ∀ W, IsCp W gp gc (some ad) n c tk 2 ((cZ (tk.getD 0 tk0).2).setIfInBounds 1 (encStr (qS s))) → (fun V : World => V.cell? ⟨gp, 2, none⟩ = some (jI0 gc) ∧ V.cell? ⟨gc, 1, none⟩ = some (encStr (qS s))) W := fun W h => ⟨h.p.cell 2, h.k.cells 1 _ rfl⟩
 have hS := mkS _ hPd
 refine jh 1 hS ?_
 refine jH 2 rfl hS (fun w0 hw0 => Run.nilck rfl) ?_
 refine jH 3 rfl hS (fun w0 hw0 => Run.fieldAddr rfl zo rfl zau jd) ?_
 refine jH 4 rfl hS (fun w0 hw0 => Run.load rfl zbf hw0.1) ?_
 refine jH 5 rfl hS (fun w0 hw0 => Run.nilck rfl) ?_
 refine jH 6 rfl hS (fun w0 hw0 => Run.fieldAddr rfl ze rfl zb jd) ?_
 refine jH 7 rfl hS (fun w0 hw0 => Run.load rfl zh hw0.2) ?_
 refine qJ.cl 0 rfl jK (jE0 Tryz.call19) (mE _) trivial rfl rfl ?_
 rintro e w8 ⟨hf8, m, rfl, hm8, hmp⟩
 have hP8 := hPd.frm hf8
 have hS := mkS _ hP8
 refine ⟨_, rfl, hS, ?_⟩
 have K08 : Frm [] w w8 := (K07.trans hd jp).trans hf8 jp
 have k78 : Frm [] w7 w8 := hd.trans hf8 jp
 have hb1 := hb1.frm k78 jp
 have hb2 := hb2.frm k78 jp
 have hb3 := hb3.frm k78 jp
 have hsl := eR hT hl
 obtain ⟨ov, hov⟩ : ∃ ov, dT (qS s) = ov := ⟨_, rfl⟩
 refine qJ.r1 8 rfl jK hS (Run.lookup2 (enc := encStr) (x := qS s) rfl rfl hmp (Go.Maps.string_keyed za) zt rN (bP _ (by rw [dW]; omega))) trivial rfl rfl ?_
 rw [hov]
 refine jh 9 hS ?_
 refine jH 10 rfl hS (fun w0 hw0 => Run.extract rfl rfl) ?_
 refine jH 11 rfl hS (fun w0 hw0 => Run.extract rfl rfl) ?_
 refine jH 12 rfl hS (fun w0 hw0 => Run.asg rfl) ?_
 refine jH 13 rfl hS (fun w0 hw0 => Run.asg rfl) ?_
 refine qJ.done jK ?_
 refine jN (jv6 1 2 3 4 5 6 ?_)
 refine jS (jR (jM ?_))
 refine Ops.clp (jE1 zbe) (bH ov.isSome w8) rfl ?_
 rintro e _ ⟨rfl, he⟩
 rcases ov with _ | fv
 ·
  have hpm : cJ tk D = none := by unfold cJ; rw [if_pos hgood, hT]; simp [hov]
  refine .inr ⟨_, he, qB (fN zcs Tryz.call17 ?_)⟩
  refine (eP g1 g2 g3 (some ad) n c tk (cZ []) _ w8 hb1 hb2 rfl hb3 (hR.frm K08 jp) hn0).mono ?_
  rintro e u wx ⟨hv, hu2, hb2, hb3, hfx⟩
  exact ⟨hv, hu2, gP (by rfl) (by rfl) hb2 hb3 rfl ⟨K08.own hfx (by simp; omega), _, _, rfl, by rw [hpm, hpt]; exact ⟨rfl, rfl⟩⟩⟩
 refine .inl ⟨_, he, ?_⟩
 obtain ⟨f, rfl, hent, hdeed⟩ := hD s hT _ hov
 refine jO (jN (jv5 1 2 3 4 5 ?_))
 refine jS (jR (jm rfl (jM ?_)))
 refine Ops.clp (qI.dyn rfl (evs.cons rfl evs.nil) hent) (hdeed w8 gp gc _ hP8 (by rw [hpt]; rfl) K08 jo jo) rfl ?_
 rintro e w9 he
 obtain ⟨G, hG⟩ : ∃ G, D (qS s) = G := ⟨_, rfl⟩
 rw [hG] at he
 rcases G with _ | q2
 ·
  have hpm : cJ tk D = none := by unfold cJ; rw [if_pos hgood, hT]; simp [hov, hG]
  have hf9 := he.2
  have hb1 := hb1.frm hf9 (by simp; omega)
  have hb2 := hb2.frm hf9 (by simp; omega)
  have hb3 := hb3.frm hf9 (by simp; omega)
  have K09 : Frm [] w w9 := K08.own hf9 (by simp; omega)
  refine .inr ⟨_, he.1, qB (fN zcs Tryz.call17 ?_)⟩
  refine (eP g1 g2 g3 (some ad) n c tk (cZ []) _ w9 hb1 hb2 rfl hb3 (hR.frm K09 jp) hn0).mono ?_
  rintro e u wx ⟨hv, hu2, hb2, hb3, hfx⟩
  exact ⟨hv, hu2, gP (by rfl) (by rfl) hb2 hb3 rfl ⟨K09.own hfx (by simp; omega), _, _, rfl, by rw [hpm, hpt]; exact ⟨rfl, rfl⟩⟩⟩
 obtain ⟨rfl, cs2, hP9, hf9, hY9, hone⟩ := he
 have hb1 := hb1.frm hf9 (by simp; omega)
 have hb2 := hb2.frm hf9 (by simp; omega)
 have hb3 := hb3.frm hf9 (by simp; omega)
 have K09 : Frm [] w w9 := K08.own hf9 (by simp; omega)
 refine .inl ⟨_, rfl, ?_⟩
 refine jO (jN (jv4 1 2 3 4 ?_))
 refine jS ?_
 refine VC.tail 7 jK jK ?_
 simp only [List.take_succ_cons, List.take_zero, List.drop_succ_cons, List.drop_zero]
 refine qM ?_
 refine qE (Run.nilck rfl) ?_
 refine qE (Run.fieldAddr rfl zo rfl zd jd) ?_
 refine qE (Run.load rfl zj (hP9.p.cell 1)) ?_
 refine qE (Run.load rfl zbv (hb1.cell 0)) ?_
 refine qE (Run.lenS rfl zy) ?_
 refine qE (Run.bin rfl rfl (Bin.eqlN _ _)) ?_
 refine qF.nil ?_
 refine Ops.clp (jE1 zbe) (bH (decide (q2 = n)) _) rfl ?_
 rintro e wa ⟨hwa, he⟩
 have hda : Frm [] w9 wa := by subst hwa; first | exact (qL.drew w9).frm | exact Frm.refl _ _
 have hb29 := hb2
 have hb1 := hb1.frm hda jp
 have hb2 := hb2.frm hda jp
 have hb3 := hb3.frm hda jp
 have K0a : Frm [] w wa := K09.trans hda jp
 by_cases hqn : q2 = n
 rotate_left
 ·
  rw [decide_eq_false hqn] at he
  have hpm : cJ tk D = none := by unfold cJ; rw [if_pos hgood, hT]; simp [hov, hG, hln, hqn]
  refine .inr ⟨_, he, qB (fN zcs Tryz.call17 ?_)⟩
  refine (eP g1 g2 g3 (some ad) n c tk (cZ []) _ wa hb1 hb2 rfl hb3 (hR.frm K0a jp) hn0).mono ?_
  rintro e u wx ⟨hv, hu2, hb2, hb3, hfx⟩
  exact ⟨hv, hu2, gP (by rfl) (by rfl) hb2 hb3 rfl ⟨K0a.own hfx (by simp; omega), _, _, rfl, by rw [hpm, hpt]; exact ⟨rfl, rfl⟩⟩⟩
 rw [decide_eq_true hqn] at he
 refine .inl ⟨_, he, ?_⟩
 have hpm : cJ tk D = some () := by unfold cJ; rw [if_pos hgood, hT]; simp [hov, hG, hln, hqn]
 have hPa := hP9.frm hda
 have hsza := hPa.sz
 refine jO (jN (jv3 2 3 4 ?_))
 refine jS (jR (jm rfl (jZ rfl (jf rfl zo rfl zau (jl rfl zbf (hPa.p.cell 2) (jZ rfl (je (Run.loadA rfl Tryz.isAgg34 zam hPa.k.cells hPa.sz) ?_)))))))
 refine Ops.st (qQ.storeA rfl rfl (fun w => (zam w).trans (by simp [hsza])) hb2 (by simp [hsza]; rfl) (by simpa using hone)) ?_
 rintro wb ⟨hbb, hfb, hsb⟩
 refine Ops.st (qQ.store (i := 0) (v := .int .i64 0) rfl rfl Tryz.sizeOf35 (hb3.frm hfb (by simp; omega)) rfl rfl) ?_
 rintro wc ⟨hbc2, hfc, hsc⟩
 refine jO (jN (jv2 2 3 ?_))
 refine jT ?_
 refine rL zcs Tryz.call17 ?_
 refine (oA g1 g2 g3 _).mono ?_
 rintro e u _ ⟨hv, hu2, rfl⟩
 refine ⟨hv, hu2, ?_⟩
 refine bA ?_
 refine qO rfl Tryz.isAgg34 zam ((hbb.frm hfc (by simp; omega)).cells) (by first | rfl | (simp; done) | (simp [*]; done)) ?_
 refine dK rfl Tryz.isAgg35 ((hbc2.cell 0)) ?_
 refine bK ?_
 refine ⟨(K0a.own hfb (by simp; omega)).own hfc (by simp; omega), _, 0, rfl, ?_⟩
 rw [hpm]
 exact ⟨rfl, by simp [hsza], by simpa using hYf _ _ g3 _ _ cs2 (hYf _ _ g2 _ _ cs2 (hYf _ _ g2 _ _ cs2 hY9 hb29 (.inl rfl) (hda.mono jp)) hb2 (.inl rfl) hfb) (hb3.frm hfb (by simp; omega)) (.inr rfl) hfc⟩
def kC (y : Tx) : Option Value := if y = [69, 88, 80, 85, 78, 71, 69] then some (.func (.func 75) #[] #[]) else if y = [83, 69, 65, 82, 67, 72] then some (.func (.func 34) #[] #[]) else if y = [67, 79, 80, 89] then some (.func (.func 37) #[] #[]) else if y = [83, 84, 79, 82, 69] then some (.func (.func 36) #[] #[]) else if y = [70, 69, 84, 67, 72] then some (.func (.func 35) #[] #[]) else none
def dL (tk : List Tk) (D : Tx → Option Nat) : Option Nat := (qD tk 2 [0]).bind fun s => if (kC (qS s)).isSome then D (qS s) else none
theorem lH (A : Option Addr) (n c : Nat) (tk : List Tk) (tag : Tx) (D D' : Tx → Option Nat) (Y : World → Array Value → Prop) (w0 : World) (hl : ∀ x ∈ tk, x.2.length ≤ 1000000) (nm : Tx) (hnm : D' nm = dL tk D)
  (hA : 0 < n → ∀ x ∈ ob A, x < w0.heap.size) (hD : ∀ s, qD tk 2 [0] = some s → ∀ fv, kC (qS s) = some fv → ∃ f, fv = .func (.func f) ([] : List Value).toArray ([] : List Value).toArray ∧ (∀ args w, (callFunc f args).run Tryz.prog w = .ok (.enter f args) w) ∧ kB w0 A n c tk 3 (oI tag) D Y (qS s) f) :
  kB w0 A n c tk 2 (fD tag) D' Y nm 38 := by
 intro w gp gc cs hP hcs K0 hgp hgc
 rw [hnm]
 have hsz := K0.size
 have hcz : ∀ s : Tx, (cs.setIfInBounds 2 (.bool true)).setIfInBounds 1 (encStr s) = oI tag s := fun s => by rw [hcs]; rfl
 refine jV Tryz.func38 Tryz.ntmps38 Tryz.results38 ?_
 refine jS ?_
 refine VC.heldL 15 (fun V : World => V.cell? ⟨gp, 2, none⟩ = some (jI0 gc)) jK ?_
 have hd := (qL.drew w).frm
 have hPd := hP.frm hd
 have hS : (fun V : World => V.cell? ⟨gp, 2, none⟩ = some (jI0 gc)) w.drew := hPd.p.cell 2
 refine jh 0 hS ?_
 refine jH 1 rfl hS (fun w0 hw0 => Run.nilck rfl) ?_
 refine jH 2 rfl hS (fun w0 hw0 => Run.fieldAddr rfl zo rfl zau jd) ?_
 refine jH 3 rfl hS (fun w0 hw0 => Run.load rfl zbf hw0) ?_
 refine jh 4 hS ?_
 refine jH 5 rfl hS (fun w0 hw0 => Run.nilck rfl) ?_
 refine jH 6 rfl hS (fun w0 hw0 => Run.fieldAddr rfl zo rfl zau jd) ?_
 refine jH 7 rfl hS (fun w0 hw0 => Run.load rfl zbf hw0) ?_
 refine qJ.r1 8 rfl jK hS (Run.mv rfl) trivial rfl rfl ?_
 refine qJ.clp 9 rfl jK (jE1 Tryz.call18) (kQ gp gc A n c tk 2 cs _ hPd hl) trivial rfl rfl ?_
 rintro e w1 ⟨hf1, he⟩
 rcases hT1 : qD tk 2 [0] with _ | s
 ·
  rw [hT1] at he
  exact .inr ⟨_, he, qB (bQ (by rw [show dL tk D = none by simp [dL, hT1]]; exact ⟨rfl, (hd.mono jp).trans hf1 (fun x hx => .inl (by simp at hx; simp [hx]))⟩))⟩
 rw [hT1] at he
 obtain ⟨rfl, hP1⟩ := he
 have hS : (fun V : World => V.cell? ⟨gp, 2, none⟩ = some (jI0 gc)) w1 := hP1.p.cell 2
 refine .inl ⟨_, rfl, hS, ?_⟩
 refine qJ.r1 10 rfl jK hS (Run.nilck rfl) trivial rfl rfl ?_
 refine qJ.r1 11 rfl jK hS (Run.fieldAddr rfl ze rfl zk jd) trivial rfl rfl ?_
 refine qJ.st 12 rfl jK (qQ.store (i := 2) rfl rfl zk hP1.k (by rw [hP1.sz]; rfl) rfl) trivial rfl ?_
 rintro w2 ⟨hb2, hf2, hs2⟩
 have hP2 := hP1.turn hb2 (by simp [hP1.sz]) hf2
 have hS : (fun V : World => V.cell? ⟨gp, 2, none⟩ = some (jI0 gc)) w2 := hP2.p.cell 2
 refine ⟨hS, ?_⟩
 refine qJ.r1 13 rfl jK hS (Run.nilck rfl) trivial rfl rfl ?_
 refine qJ.r1 14 rfl jK hS (Run.fieldAddr rfl ze rfl zb jd) trivial rfl rfl ?_
 refine qJ.stL rfl jK (qQ.store (i := 1) rfl rfl zb hP2.k (by rw [hP2.sz]; rfl) rfl) trivial rfl ?_
 rintro w3 ⟨hb3, hf3, hs3⟩
 have hP3 := hP2.turn hb3 (by simp [hP1.sz]) hf3
 rw [hcz] at hP3
 have K3 : Frm [gp, gc] w w3 := (((hd.mono jp).trans hf1 (fun x hx => .inl (by simp at hx; simp [hx]))).trans hf2 (fun x hx => .inl (by simp at hx; simp [hx]))).trans hf3 (fun x hx => .inl (by simp at hx; simp [hx]))
 refine qJ.done jK ?_
 refine jN (jv1 0 ?_)
 refine jS (jR ?_)
 refine Ops.m (qV.makeMap (k := 9) (enc := encStr)) rfl ?_
 rintro _ v0 ⟨rfl, hm0, hf0, hs0⟩
 obtain ⟨m, hmm⟩ : ∃ m, m = w3.heap.size := ⟨_, rfl⟩
 rw [← hmm] at hm0 ⊢
 refine Ops.st (qQ.mapIns (x := [70, 69, 84, 67, 72]) rfl rfl rfl hm0 (Go.Maps.string_keyed za) bM zt (bP _ jd)) ?_
 rintro v1 ⟨hm1, hf1, hs1⟩
 refine Ops.st (qQ.mapIns (x := [83, 84, 79, 82, 69]) rfl rfl rfl hm1 (Go.Maps.string_keyed za) bM zt (bP _ jd)) ?_
 rintro v2 ⟨hm2, hf2, hs2⟩
 refine Ops.st (qQ.mapIns (x := [67, 79, 80, 89]) rfl rfl rfl hm2 (Go.Maps.string_keyed za) bM zt (bP _ jd)) ?_
 rintro v3 ⟨hm3, hf3, hs3⟩
 refine Ops.st (qQ.mapIns (x := [83, 69, 65, 82, 67, 72]) rfl rfl rfl hm3 (Go.Maps.string_keyed za) bM zt (bP _ jd)) ?_
 rintro v4 ⟨hm4, hf4, hs4⟩
 refine Ops.st (qQ.mapIns (x := [69, 88, 80, 85, 78, 71, 69]) rfl rfl rfl hm4 (Go.Maps.string_keyed za) bM zt (bP _ jd)) ?_
 rintro v5 ⟨hm5, hf5, hs5⟩
 refine jM ?_
 have hmk : MpF Tryz.prog 9 encStr v5 m kC := hm5
 have Km : Frm [] w3 v5 := ((((hf0.own hf1 (by simp; omega)).own hf2 (by simp; omega)).own hf3 (by simp; omega)).own hf4 (by simp; omega)).own hf5 (by simp; omega)
 have hP5 := hP3.frm Km
 have K5 : Frm [gp, gc] w v5 := K3.trans Km jp
 have hsl := eR hT1 hl
 obtain ⟨ov, hov⟩ : ∃ ov, kC (qS s) = ov := ⟨_, rfl⟩
 refine ja rfl (jO (jN (jv2 0 2 ?_)))
 refine jS (jR (jm rfl (jm rfl (jZ rfl (jf rfl zo rfl zau (jl rfl zbf (hP5.p.cell 2) (jZ rfl (jf rfl ze rfl zb (jl rfl zh (hP5.k.cells 1 _ rfl) (je (Run.lookup2 (enc := encStr) (x := qS s) rfl rfl hmk (Go.Maps.string_keyed za) zt rN (bP _ (by rw [dW]; omega))) ?_))))))))))
 rw [hov]
 refine jm rfl (jY rfl rfl (jY rfl rfl (ja rfl (ja rfl (jO (jN (jv3 0 3 4 ?_)))))))
 refine jS (jR (jM ?_))
 refine Ops.clp (jE1 zbe) (bH ov.isSome _) rfl ?_
 rintro e _ ⟨rfl, he⟩
 rcases ov with _ | fv
 · exact .inr ⟨_, he, qB (bQ (by rw [show dL tk D = none by simp [dL, hT1, hov]]; exact ⟨rfl, K5⟩))⟩
 refine .inl ⟨_, he, ?_⟩
 obtain ⟨f, rfl, hent, hdeed⟩ := hD s hT1 _ hov
 refine jO (jN (jv2 0 3 ?_))
 refine jR (jm rfl (jM ?_))
 refine Ops.clp (qI.dyn rfl (evs.cons rfl evs.nil) hent) (hdeed _ gp gc _ hP5 rfl (K0.own K5 (by simp; omega)) hgp hgc) rfl ?_
 rintro e w9 he
 have hu : dL tk D = D (qS s) := by simp [dL, hT1, hov]
 obtain ⟨G, hG⟩ : ∃ G, D (qS s) = G := ⟨_, rfl⟩
 rw [hG] at he hu
 rcases G with _ | q2
 · exact .inr ⟨_, he.1, bQ (by rw [hu]; exact ⟨rfl, K5.trans he.2 (fun x hx => .inl hx)⟩)⟩
 obtain ⟨rfl, cs2, hP9, hf9, hY9, hone⟩ := he
 refine .inl ⟨_, rfl, ?_⟩
 refine jO ?_
 refine dS ?_
 exact (by rw [hu]; exact ⟨rfl, cs2, hP9, K5.trans hf9 (fun x hx => .inl hx), hY9, hone⟩)
def mN (B0 : Nat) (tk : List Tk) (q0 : Nat) (cs0 : Array Value) (W : World) (cs : Array Value) : Prop :=
 ∃ sp xs q2 Bs ds I d rs, cB tk q0 = some (sp, xs, q2) ∧ rs.map (·.x) = xs ∧ IsIt W B0 I d rs ∧ Own W 96 2 Bs sp.length ds (SC sp) ∧ cs = (cs0.setIfInBounds 8 (.slice Bs sp.length ds)).setIfInBounds 9 (.slice I rs.length d)
theorem mN.frm {B0 q0 g : Nat} {tk : List Tk} {cs0 cs csx : Array Value} {W W' : World} {t : TypeId} (h : mN B0 tk q0 cs0 W cs) (hb : Blk W g t csx) (ht : t = 34 ∨ t = 35) (k : Frm [g] W W') : mN B0 tk q0 cs0 W' cs := by
 obtain ⟨sp, xs, q2, Bs, ds, I, d, rs, h1, h2, h3, h4, h5⟩ := h
 have hne : ∀ e : TypeId, e ≠ 34 → e ≠ 35 → e ≠ t := fun e h1 h2 => by rcases ht with rfl | rfl <;> assumption
 exact ⟨sp, xs, q2, Bs, ds, I, d, rs, h1, h2, h3.blk hb k (hne _ jd jd) (hne _ jd jd) (hne _ jd jd), h4.one k hb (hne _ jd jd), h5⟩
theorem cG {cs : Array Value} {i : Nat} {v : Value} (h : ∀ u ∈ cs.toList, u.oneCell' = true) (hv : v.oneCell' = true) : ∀ u ∈ (cs.setIfInBounds i v).toList, u.oneCell' = true := by
 intro u hu
 rw [zcx] at hu
 rcases List.mem_or_eq_of_mem_set hu with h1 | rfl
 · exact h u h1
 exact hv
theorem oL {A : Option Addr} {n c : Nat} {tk : List Tk} {w0 : World} {q0 : Nat} {C : Tx → Array Value} {D : Tx → Option Nat} (nm : Tx) (hC : (C nm)[9]? = some (.slice none 0 0)) (hC1 : ∀ u ∈ (C nm).toList, u.oneCell' = true) (hA : 0 < n → ∀ x ∈ ob A, x < w0.heap.size) (hl : ∀ x ∈ tk, x.2.length ≤ 50000) (hv : cH w0) (htb : Tab w0) (hDn : D nm = (cB tk q0).map fun p => p.2.2) :
  kB w0 A n c tk q0 C D (mN w0.heap.size tk q0 (C nm)) nm 35 := by
 intro W gp gc cs hP hcs K hgp hgc
 subst hcs
 refine (nX w0 gp gc A n c tk q0 _ W hP hC hA K ⟨hgp, hgc⟩ hl hv htb).mono ?_
 rintro e w' he
 rw [hDn]
 obtain ⟨G, hG⟩ : ∃ G, cB tk q0 = G := ⟨_, rfl⟩
 rw [hG] at he ⊢
 rcases G with _ | ⟨sp, xs, q2⟩
 · exact he
 obtain ⟨rfl, gf, gb, Bs, ds, cs2, I, d, rs, h1, h2, h3, h4, h5, _, _, h8, h9, _⟩ := he
 have h6 : cs2 = ((C nm).setIfInBounds 8 (.slice Bs sp.length ds)).setIfInBounds 9 (.slice I rs.length d) := by rw [← h4, sR h3]
 refine ⟨rfl, cs2, h5, h9, ⟨sp, xs, q2, Bs, ds, I, d, rs, hG, h1, h2, h8, h6⟩, ?_⟩
 rw [h6]
 exact cG (cG hC1 rfl) rfl
theorem gL {A : Option Addr} {n c : Nat} {tk : List Tk} {w0 : World} {q0 : Nat} {C : Tx → Array Value} {D : Tx → Option Nat} (nm : Tx) (hC1 : ∀ u ∈ (C nm).toList, u.oneCell' = true) (hDn : D nm = (cI tk q0).map fun _ => q0 + 2) :
  kB w0 A n c tk q0 C D (fun _ cs => ∃ s, cI tk q0 = some s ∧ cs = ((C nm).setIfInBounds 3 (encStr s.1)).setIfInBounds 4 (encStr s.2)) nm 41 := by
 intro W gp gc cs hP hcs K hgp hgc
 subst hcs
 refine (pT gp gc A n c tk q0 _ W hP).mono ?_
 rintro e w' ⟨hf, he⟩
 rw [hDn]
 obtain ⟨G, hG⟩ : ∃ G, cI tk q0 = G := ⟨_, rfl⟩
 rw [hG] at he ⊢
 rcases G with _ | s
 · exact ⟨he, hf⟩
 obtain ⟨rfl, hP2⟩ := he
 exact ⟨rfl, _, hP2, hf, ⟨s, rfl, rfl⟩, cG (cG hC1 rfl) rfl⟩
theorem oO {A : Option Addr} {n c : Nat} {tk : List Tk} {w0 : World} {q0 : Nat} {C : Tx → Array Value} {D : Tx → Option Nat} (nm : Tx) (hC1 : ∀ u ∈ (C nm).toList, u.oneCell' = true) (hDn : D nm = some q0) :
  kB w0 A n c tk q0 C D (fun _ cs => cs = C nm) nm 39 := by
 intro W gp gc cs hP hcs K hgp hgc
 subst hcs
 refine (mD gp W).mono ?_
 rintro e w' ⟨rfl, rfl⟩
 rw [hDn]
 exact ⟨rfl, _, hP, Frm.refl _ _, rfl, hC1⟩
theorem dO (tag nm : Tx) : ∀ u ∈ (fD tag nm).toList, u.oneCell' = true := cG (dI tag) rfl
theorem mP (tag nm : Tx) : ∀ u ∈ (oI tag nm).toList, u.oneCell' = true := cG (dO tag nm) rfl
def Sgn (c : UInt8) : Prop := 33 ≤ c.toNat ∧ c.toNat ≤ 126 ∧ c.toNat ≠ 40 ∧ c.toNat ≠ 41 ∧ c.toNat ≠ 34
instance (c : UInt8) : Decidable (Sgn c) := by unfold Sgn; infer_instance
def fE : Tx → Option Nat
 | [] => none
 | c :: r => if c.toNat = 34 then some 0 else if c.toNat < 32 ∨ c.toNat = 127 ∨ c.toNat = 92 then none else (fE r).map (· + 1)
def atF : Bool → Tx → Option Nat
 | b, [] => if b = true then none else some 0
 | b, c :: r => if b = true ∧ (c.toNat < 32 ∨ 126 < c.toNat) then none else if b = false ∧ ¬ Sgn c then some 0 else (atF (if c.toNat = 93 then false else if c.toNat = 91 then true else b) r).map (· + 1)
def fF (s : Tx) (a : Nat) : Option (Tk × Nat) := match s[a]? with
 | none => none
 | some c => if c.toNat = 40 then some ((2, [40]), a + 1) else if c.toNat = 41 then some ((3, [41]), a + 1) else if c.toNat = 34 then (fE (s.drop (a + 1))).map fun k => ((1, (s.drop (a + 1)).take k), a + 1 + k + 1) else (atF false (s.drop a)).bind fun k => if k = 0 then none else some ((0, (s.drop a).take k), a + k)
theorem sU {s : Tx} {i m : Nat} (h : fE (s.drop i) = some m) : ∃ hi : i < s.length, (s[i].toNat = 34 ∧ m = 0) ∨ (s[i].toNat ≠ 34 ∧ ¬ (s[i].toNat < 32) ∧ s[i].toNat ≠ 127 ∧ s[i].toNat ≠ 92 ∧ ∃ m', m = m' + 1 ∧ fE (s.drop (i + 1)) = some m') := by
 by_cases hi : i < s.length
 ·
  refine ⟨hi, ?_⟩
  rw [zcb hi] at h
  unfold fE at h
  split at h
  · injection h with h; exact .inl ⟨by assumption, h.symm⟩
  split at h
  · cases h
  obtain ⟨m', h1, h2⟩ := Option.map_eq_some_iff.1 h
  exact .inr ⟨by assumption, jo, jo, jo, m', h2.symm, h1⟩
 rw [zbu jo] at h; cases h
theorem tC {s : Tx} {b : Bool} {i m : Nat} (h : atF b (s.drop i) = some m) : (m = 0 ∧ b = false ∧ (s.length ≤ i ∨ ∃ hi : i < s.length, ¬ Sgn s[i])) ∨ (∃ hi : i < s.length, ¬ (b = true ∧ (s[i].toNat < 32 ∨ 126 < s[i].toNat)) ∧ (b = false → Sgn s[i]) ∧ ∃ m', m = m' + 1 ∧ atF (if s[i].toNat = 93 then false else if s[i].toNat = 91 then true else b) (s.drop (i + 1)) = some m') := by
 by_cases hi : i < s.length
 ·
  rw [zcb hi] at h
  unfold atF at h
  split at h
  · cases h
  split at h
  · rename_i h1; injection h with h; exact .inl ⟨h.symm, h1.1, .inr ⟨hi, h1.2⟩⟩
  rename_i h0 h1
  obtain ⟨m', h2, h3⟩ := Option.map_eq_some_iff.1 h
  exact .inr ⟨hi, h0, fun hb => Classical.byContradiction fun h4 => h1 ⟨hb, h4⟩, m', h3.symm, h2⟩
 rw [zbu jo] at h
 unfold atF at h
 split at h
 · cases h
 injection h with h; exact .inl ⟨h.symm, by cases b <;> simp_all, .inl jo⟩
theorem tD {s : Tx} {a j : Nat} (h : a + j < s.length) : (s.drop a).take (j + 1) = (s.drop a).take j ++ (s.drop (a + j)).take 1 := by
 rw [List.take_add, List.drop_drop]
theorem sB (c : UInt8) (w : World) : Calls Tryz.prog 90 #[.int .u8 ((c.toNat : Nat) : Int)] w fun e w' => e = .returned (.bool (decide (Sgn c))) ∧ w' = w := by
 refine jV Tryz.func90 Tryz.ntmps90 Tryz.results90 ?_
 refine jS (jR (ja rfl (jO (jN (jv1 0 ?_)))))
 refine jS ?_
 refine VC.split1 [] .nil 2 (.bool (decide (Sgn c))) ?_ ?_
 ·
  refine jR ?_
  refine jm rfl (jb rfl rfl (Bin.leqN 33 _) ?_)
  by_cases hs4 : 33 ≤ c.toNat
  ·
   refine jM ?_
   refine jG ?_
   refine jk (Run.bin rfl rfl (Bin.leqN _ 126)) ?_
   by_cases hs7 : c.toNat ≤ 126
   ·
    refine jW rfl rfl au (jM ?_)
    refine jG ?_
    refine jk (Run.bin rfl rfl (Bin.neqN _ 40)) ?_
    by_cases hs11 : c.toNat ≠ 40
    ·
     refine jW rfl rfl au (jM ?_)
     refine jG ?_
     refine jk (Run.bin rfl rfl (Bin.neqN _ 41)) ?_
     by_cases hs15 : c.toNat ≠ 41
     ·
      refine jW rfl rfl au (jM ?_)
      refine jG ?_
      refine jk (Run.bin rfl rfl (Bin.neqN _ 34)) ?_
      by_cases hs19 : c.toNat ≠ 34
      ·
       refine jW rfl rfl au (ja rfl (jO ?_))
       refine jN ⟨(js1 (jC (by unfold Sgn; grind))), rfl⟩
      refine jW rfl rfl au (ja rfl (jO ?_))
      refine jN ⟨(js1 (jC (by unfold Sgn; grind))), rfl⟩
     refine jW rfl rfl au (jM ?_)
     refine jU ?_
     refine jU ?_
     refine jF rfl rfl au (ja rfl (jO ?_))
     refine jN ⟨(js1 (jC (by unfold Sgn; grind))), rfl⟩
    refine jW rfl rfl au (jM ?_)
    refine jU ?_
    refine jU ?_
    refine jF rfl rfl au (jM ?_)
    refine jU ?_
    refine jU ?_
    refine jF rfl rfl au (ja rfl (jO ?_))
    refine jN ⟨(js1 (jC (by unfold Sgn; grind))), rfl⟩
   refine jW rfl rfl au (jM ?_)
   refine jU ?_
   refine jU ?_
   refine jF rfl rfl au (jM ?_)
   refine jU ?_
   refine jU ?_
   refine jF rfl rfl au (jM ?_)
   refine jU ?_
   refine jU ?_
   refine jF rfl rfl au (ja rfl (jO ?_))
   refine jN ⟨(js1 (jC (by unfold Sgn; grind))), rfl⟩
  refine jM ?_
  refine jU ?_
  refine jU ?_
  refine jF rfl rfl au (jM ?_)
  refine jU ?_
  refine jU ?_
  refine jF rfl rfl au (jM ?_)
  refine jU ?_
  refine jU ?_
  refine jF rfl rfl au (jM ?_)
  refine jU ?_
  refine jU ?_
  refine jF rfl rfl au (ja rfl (jO ?_))
  refine jN ⟨(js1 (jC (by unfold Sgn; grind))), rfl⟩
 intro Γ hΓ
 refine jN (VC.sub _ hΓ ?_)
 refine jT ?_
 refine qN rfl ?_
 exact ⟨rfl, rfl⟩
theorem nZ (q : Tx) (a : Nat) (t : Tk) (nx : Nat) (w : World) (hs : q.length ≤ 1000000) (h : fF q a = some (t, nx)) : Calls Tryz.prog 60 #[encStr q, jI1 a] w fun e w' => e = .returned (.tuple #[.agg (tkC t).toArray, jI1 nx]) ∧ Frm [] w w' := by
 have ha : a < q.length := by
  by_cases h1 : a < q.length
  · exact h1
  unfold fF at h; rw [zct jo] at h; cases h
 unfold fF at h
 rw [zc ha] at h
 dsimp only at h
 refine jV Tryz.func60 Tryz.ntmps60 Tryz.results60 ?_
 refine jS (jR ?_)
 refine Ops.m (qV.alloc bY) rfl ?_
 rintro _ w1 ⟨rfl, hF1⟩
 obtain ⟨g4, hg4⟩ : ∃ g, g = w.heap.size := ⟨_, rfl⟩
 have hb1 := hF1.blk
 have s1 := hF1.size
 rw [← hg4] at hb1 ⊢
 have K := hF1.frm
 refine jz 0 (jO (jN (jv3 0 1 4 ?_)))
 refine jS (jS (jR (jm rfl (jM ?_))))
 refine je (Run.indexT _ rfl rfl za (zc ha)) ?_
 refine jb rfl rfl (Bin.eqlN _ 40) (jO (jN (jv4 0 1 4 14 ?_)))
 refine jD rfl (fun hc1 => ?_) fun hc1 => ?_
 ·
  rw [if_pos hc1] at h
  injection h with h
  injection h with h1 h2
  subst h1 h2
  refine jS (jR (je (Run.build (evs.cons rfl (evs.cons rfl evs.nil)) bY (qT).choose_spec.1 (qT).choose_spec.2 (cells := (tkC (2, [40])).toArray) rfl) (jm rfl (jb rfl rfl (Bin.add_i64 _ 1 jo) ?_))))
  refine Ops.st (qQ.storeA rfl rfl zp hb1 rfl (cD _)) ?_
  rintro w2 ⟨hb2, hf2, hs2⟩
  refine ja rfl (jO (jN (jv2 4 5 ?_)))
  refine jT ?_
  refine qZ (bA ?_)
  refine qO rfl zbg zp ((hb2.cells)) (by first | rfl | (simp; done) | (simp [*]; done)) ?_
  refine bT rfl ?_
  refine bK ?_
  exact ⟨rfl, K.own hf2 (by simp; omega)⟩
 rw [if_neg hc1] at h
 refine jQ (jN (jv3 0 1 4 ?_))
 refine jS (jS (jR (jm rfl (jM ?_))))
 refine je (Run.indexT _ rfl rfl za (zc ha)) ?_
 refine jb rfl rfl (Bin.eqlN _ 41) (jO (jN (jv4 0 1 4 21 ?_)))
 refine jD rfl (fun hc2 => ?_) fun hc2 => ?_
 ·
  rw [if_pos hc2] at h
  injection h with h
  injection h with h1 h2
  subst h1 h2
  refine jS (jR (je (Run.build (evs.cons rfl (evs.cons rfl evs.nil)) bY (qT).choose_spec.1 (qT).choose_spec.2 (cells := (tkC (3, [41])).toArray) rfl) (jm rfl (jb rfl rfl (Bin.add_i64 _ 1 jo) ?_))))
  refine Ops.st (qQ.storeA rfl rfl zp hb1 rfl (cD _)) ?_
  rintro w2 ⟨hb2, hf2, hs2⟩
  refine ja rfl (jO (jN (jv2 4 5 ?_)))
  refine jT ?_
  refine qZ (bA ?_)
  refine qO rfl zbg zp ((hb2.cells)) (by first | rfl | (simp; done) | (simp [*]; done)) ?_
  refine bT rfl ?_
  refine bK ?_
  exact ⟨rfl, K.own hf2 (by simp; omega)⟩
 rw [if_neg hc2] at h
 refine jQ (jN (jv3 0 1 4 ?_))
 refine jS (jS (jR (jm rfl (jM ?_))))
 refine je (Run.indexT _ rfl rfl za (zc ha)) ?_
 refine jb rfl rfl (Bin.eqlN _ 34) (jO (jN (jv4 0 1 4 28 ?_)))
 refine jD rfl (fun hc3 => ?_) fun hc3 => ?_
 ·
  rw [if_pos hc3] at h
  obtain ⟨Q, hQ, h⟩ := Option.map_eq_some_iff.1 h
  injection h with h1 h2
  subst h1 h2
  refine jS (jR (ja rfl (jO (jN (jv4 0 1 4 6 ?_)))))
  refine jS (jS (jR (jm rfl (jb rfl rfl (Bin.add_i64 _ 1 jo) (ja rfl (jO (jN (jv4 0 4 6 7 ?_))))))))
  refine jB ?_
  refine VC.loop (σ := Nat × Nat) (fun s => [(0, encStr q), (4, jI0 g4), (6, encStr ((q.drop (a + 1)).take s.1)), (7, jI1 (a + 1 + s.1))]) (fun s wr => s.1 + s.2 = Q ∧ fE (q.drop (a + 1 + s.1)) = some s.2 ∧ wr = w1) (fun s => s.2) (0, Q) (js4 rfl rfl rfl rfl) ⟨jp, hQ, rfl⟩ ?_
  rintro ⟨j, m⟩ wr ⟨hjm, hq, rfl⟩
  dsimp only at hjm hq ⊢
  obtain ⟨hi, hst⟩ := sU hq
  refine jS (jS (jR (jm rfl (jm rfl (je (Run.lenT rfl za) (jb rfl rfl (Bin.lssN _ _) (jO (jN (jv5 0 4 6 7 34 ?_)))))))))
  refine VC.condT rfl (decide_eq_true hi) ?_
  refine jQ (jN (jv4 0 4 6 7 ?_))
  refine jS (jB (jS (jR (jm rfl (jM ?_)))))
  refine je (Run.indexT _ rfl rfl za (zc hi)) ?_
  refine ja rfl (jO (jN (jv5 0 4 6 7 8 ?_)))
  refine jS (jS (jR (jm rfl (jb rfl rfl (Bin.eqlN _ 34) (jO (jN (jv6 0 4 6 7 8 41 ?_)))))))
  refine jD rfl (fun hc5 => ?_) fun hc5 => ?_
  ·
   have hm : m = 0 := by
    rcases hst with h | h
    · exact h.2
    exact absurd hc5 h.1
   have hjQ : j = Q := jo
   subst hjQ
   refine jS (jR (jm rfl (je (Run.build (evs.cons rfl (evs.cons rfl evs.nil)) bY (qT).choose_spec.1 (qT).choose_spec.2 (cells := (tkC (1, (q.drop (a + 1)).take j)).toArray) rfl) (jm rfl (jb rfl rfl (Bin.add_i64 _ 1 jo) ?_)))))
   refine Ops.st (qQ.storeA rfl rfl zp hb1 rfl (cD _)) ?_
   rintro w2 ⟨hb2, hf2, hs2⟩
   refine ja rfl (jO (jN (jv2 4 5 ?_)))
   refine jT ?_
   refine qZ (qR (qZ (qZ (qR (qZ (qZ (bA ?_)))))))
   refine qO rfl zbg zp ((hb2.cells)) (by first | rfl | (simp; done) | (simp [*]; done)) ?_
   refine bT rfl ?_
   refine bK ?_
   exact ⟨rfl, K.own hf2 (by simp; omega)⟩
  obtain ⟨h51, h52, h53, h54, m', rfl, hq'⟩ : q[a + 1 + j].toNat ≠ 34 ∧ ¬ (q[a + 1 + j].toNat < 32) ∧ q[a + 1 + j].toNat ≠ 127 ∧ q[a + 1 + j].toNat ≠ 92 ∧ ∃ m', m = m' + 1 ∧ fE (q.drop (a + 1 + j + 1)) = some m' := by
   rcases hst with h | h
   · exact absurd h.1 hc5
   exact h
  refine jQ (jN (jv5 0 4 6 7 8 ?_))
  refine jS (jS ?_)
  refine VC.split1 [(0, _), (4, _), (6, _), (7, _), (8, _)] (js5 rfl rfl rfl rfl rfl) 51 (.bool (decide (False))) ?_ ?_
  ·
   refine jR ?_
   refine jm rfl (jb rfl rfl (Bin.lssN _ 32) ?_)
   by_cases hs47 : q[a + 1 + j].toNat < 32
   ·
    refine jM ?_
    refine jU ?_
    refine jU ?_
    refine jW rfl rfl au (jO ?_)
    refine jN ⟨(js6 (jC (by grind)) rfl rfl rfl rfl rfl), rfl⟩
   refine jM ?_
   refine jG ?_
   refine jk (Run.bin rfl rfl (Bin.eqlN _ 127)) ?_
   by_cases hs50 : q[a + 1 + j].toNat = 127
   ·
    refine jF rfl rfl au (jO ?_)
    refine jN ⟨(js6 (jC (by grind)) rfl rfl rfl rfl rfl), rfl⟩
   refine jF rfl rfl au (jO ?_)
   refine jN ⟨(js6 (jC (by grind)) rfl rfl rfl rfl rfl), rfl⟩
  intro Γ hΓ
  refine jN (VC.sub _ hΓ ?_)
  refine VC.condF rfl (rfl) ?_
  refine jQ (jN (jv5 0 4 6 7 8 ?_))
  refine jS (jS (jR (jm rfl (jb rfl rfl (Bin.eqlN _ 92) (jO (jN (jv5 0 4 6 7 54 ?_)))))))
  refine VC.condF rfl (decide_eq_false h54) ?_
  refine jQ (jN (jv4 0 4 6 7 ?_))
  refine jR (jm rfl (jm rfl (jm rfl (jm rfl (jb rfl rfl (Bin.add_i64 _ 1 jo) (je (Run.sliceT _ _ rfl za (evB.some_ rfl) (evB.some_ rfl) jo jo) (je (Run.addT rfl rfl (by simp only [zax, zbk]; omega)) (ja rfl (jO ?_)))))))))
  refine qW (jN ?_)
  refine jv4 0 4 6 7 ?_
  refine jR (jm rfl (jb rfl rfl (Bin.add_i64 _ 1 jo) (ja rfl (jO ?_))))
  refine jN ⟨(j + 1, m'), (js4 rfl rfl (by show some (encStr _) = some (encStr _); rw [tD jo, show a + 1 + j + 1 - (a + 1 + j) = 1 by omega]) rfl), ?_, ?_⟩
  · exact ⟨jo, by rw [← zch]; exact hq', rfl⟩
  exact jq
 rw [if_neg hc3] at h
 obtain ⟨Q, hQ, h⟩ := Option.bind_eq_some_iff.1 h
 split at h
 · cases h
 rename_i hQ0
 injection h with h
 injection h with h1 h2
 subst h1 h2
 refine jQ (jN (jv3 0 1 4 ?_))
 refine jS (jR (jm rfl (ja rfl (jO (jN (jv4 0 1 4 9 ?_))))))
 refine jS (jR (ja rfl (jO (jN (jS (jB ?_))))))
 refine VC.loop (σ := Nat × Nat × Bool) (fun s => [(0, encStr q), (1, jI1 a), (4, jI0 g4), (9, jI1 (a + s.1)), (10, .bool s.2.2)]) (fun s wr => s.1 + s.2.1 = Q ∧ atF s.2.2 (q.drop (a + s.1)) = some s.2.1 ∧ a + s.1 ≤ q.length ∧ wr = w1) (fun s => s.2.1) (0, Q, false) (js5 rfl rfl rfl rfl rfl) ⟨jp, hQ, jo, rfl⟩ ?_
 rintro ⟨j, m, b⟩ wr ⟨hjm, hq, hjl, rfl⟩
 dsimp only at hjm hq hjl ⊢
 have hst := tC hq
 refine jS (jS (jR (jm rfl (jm rfl (je (Run.lenT rfl za) (jb rfl rfl (Bin.lssN _ _) (jO (jN (jv6 0 1 4 9 10 86 ?_)))))))))
 refine jD rfl (fun hc9 => ?_) fun hc9 => ?_
 ·
  have hnb : ¬ (b = true ∧ (q[a + j].toNat < 32 ∨ 126 < q[a + j].toNat)) := by
   rcases hst with ⟨_, h, _⟩ | ⟨_, h, _⟩
   · simp [h]
   exact h
  refine jQ (jN (jv5 0 1 4 9 10 ?_))
  refine jB (jS (jS ?_))
  refine VC.split1 [(0, _), (1, _), (4, _), (9, _), (10, _)] (js5 rfl rfl rfl rfl rfl) 99 (.bool (decide (False))) ?_ ?_
  ·
   refine jR (jM ?_)
   by_cases hs87 : b = true
   ·
    refine jM ?_
    refine jG ?_
    refine jG ?_
    refine jk (Run.indexT _ rfl rfl za (zc hc9)) ?_
    refine jk (Run.bin rfl rfl (Bin.lssN _ 32)) ?_
    by_cases hs92 : q[a + j].toNat < 32
    ·
     refine jG ?_
     refine jU ?_
     refine jU ?_
     refine jU ?_
     refine jU ?_
     refine jk (Run.pickT rfl rfl au) ?_
     refine jW rfl rfl au (jO ?_)
     refine jN ⟨(js6 (jC (by grind)) rfl rfl rfl rfl rfl), rfl⟩
    refine jG ?_
    refine jG ?_
    refine jG ?_
    refine jk (Run.indexT _ rfl rfl za (zc hc9)) ?_
    refine jk (Run.bin rfl rfl (Bin.gtrN _ 126)) ?_
    by_cases hs97 : 126 < q[a + j].toNat
    ·
     refine jk (Run.pickF rfl rfl au) ?_
     refine jW rfl rfl au (jO ?_)
     refine jN ⟨(js6 (jC (by grind)) rfl rfl rfl rfl rfl), rfl⟩
    refine jk (Run.pickF rfl rfl au) ?_
    refine jW rfl rfl au (jO ?_)
    refine jN ⟨(js6 (jC (by grind)) rfl rfl rfl rfl rfl), rfl⟩
   refine jM ?_
   refine jU ?_
   refine jU ?_
   refine jU ?_
   refine jU ?_
   refine jU ?_
   refine Ops.skU rfl rfl ?_
   refine Ops.skU rfl rfl ?_
   refine Ops.skU rfl rfl ?_
   refine Ops.skU rfl rfl ?_
   refine jU ?_
   refine jF rfl rfl au (jO ?_)
   refine jN ⟨(js6 (jC (by grind)) rfl rfl rfl rfl rfl), rfl⟩
  intro Γ hΓ
  refine jN (VC.sub _ hΓ ?_)
  refine VC.condF rfl (rfl) ?_
  refine jQ (jN (jv5 0 1 4 9 10 ?_))
  refine jS (jS ?_)
  refine VC.split1 [(0, _), (1, _), (4, _), (9, _), (10, _)] (js5 rfl rfl rfl rfl rfl) 109 (.bool (decide (b = false ∧ ¬ Sgn q[a + j]))) ?_ ?_
  ·
   refine jR (jM ?_)
   by_cases hs101 : b = true
   ·
    refine je (Run.not rfl) (jM ?_)
    refine jU ?_
    refine jU ?_
    refine jU ?_
    refine jU ?_
    refine jU ?_
    refine jF rfl rfl au (jO ?_)
    refine jN ⟨(js6 (jC (by grind)) rfl rfl rfl rfl rfl), rfl⟩
   refine je (Run.not rfl) (jM ?_)
   refine jG ?_
   refine jG ?_
   refine jk (Run.indexT _ rfl rfl za (zc hc9)) ?_
   refine Ops.clg rfl au (jE1 Tryz.call90) (sB _ _) rfl ?_
   rintro e _ ⟨rfl, rfl⟩
   refine ⟨_, rfl, ?_⟩
   by_cases hs107 : Sgn q[a + j]
   ·
    refine jk (Run.not rfl) ?_
    refine jW rfl rfl au (jO ?_)
    refine jN ⟨(js6 (jC (by grind)) rfl rfl rfl rfl rfl), rfl⟩
   refine jk (Run.not rfl) ?_
   refine jW rfl rfl au (jO ?_)
   refine jN ⟨(js6 (jC (by grind)) rfl rfl rfl rfl rfl), rfl⟩
  intro Γ hΓ
  refine jN (VC.sub _ hΓ ?_)
  refine jD rfl (fun hc11 => ?_) fun hc11 => ?_
  ·
   obtain ⟨rfl, rfl⟩ : m = 0 ∧ b = false := by
    rcases hst with ⟨h1, h2, _⟩ | ⟨_, _, h, _⟩
    · exact ⟨h1, h2⟩
    exact absurd (h hc11.1) hc11.2
   have hjQ : j = Q := jo
   subst hjQ
   refine jX ?_
   refine qK (eU rfl (qK (qH ?_)))
   refine jN (jv5 0 1 4 9 10 ?_)
   refine jS (jS ?_)
   refine VC.split1 [(0, _), (1, _), (4, _), (9, _)] (js4 rfl rfl rfl rfl) 125 (.bool (decide (False))) ?_ ?_
   ·
    refine jR ?_
    refine jm rfl (jM ?_)
    refine jG ?_
    refine jG ?_
    refine jk (Run.bin rfl rfl (Bin.eqlN _ _)) ?_
    by_cases hs124 : a + j = a
    ·
     refine jF rfl rfl au (jO ?_)
     refine jN ⟨(js5 (jC (by grind)) rfl rfl rfl rfl), rfl⟩
    refine jF rfl rfl au (jO ?_)
    refine jN ⟨(js5 (jC (by grind)) rfl rfl rfl rfl), rfl⟩
   intro Γ hΓ
   refine jN (VC.sub _ hΓ ?_)
   refine VC.condF rfl (rfl) ?_
   refine jQ (jN (jv4 0 1 4 9 ?_))
   refine jS (jR (jm rfl (jm rfl (jm rfl (je (Run.sliceT _ _ rfl za (evB.some_ rfl) (evB.some_ rfl) jo jo) (je (Run.build (evs.cons rfl (evs.cons rfl evs.nil)) bY (qT).choose_spec.1 (qT).choose_spec.2 (cells := (tkC (0, (q.drop a).take (a + j - a))).toArray) rfl) (jM ?_)))))))
   refine Ops.st (qQ.storeA rfl rfl zp hb1 rfl (cD _)) ?_
   rintro w2 ⟨hb2, hf2, hs2⟩
   refine ja rfl (jO (jN (jv2 4 5 ?_)))
   refine jT ?_
   refine bA ?_
   refine qO rfl zbg zp ((hb2.cells)) (by first | rfl | (simp; done) | (simp [*]; done)) ?_
   refine bT rfl ?_
   refine bK ?_
   exact ⟨by rw [show a + j - a = j by omega]; rfl, K.own hf2 (by simp; omega)⟩
  obtain ⟨m', rfl, hq'⟩ : ∃ m', m = m' + 1 ∧ atF (if q[a + j].toNat = 93 then false else if q[a + j].toNat = 91 then true else b) (q.drop (a + j + 1)) = some m' := by
   rcases hst with ⟨_, h, h2 | ⟨_, h2⟩⟩ | ⟨_, _, _, h⟩
   · omega
   · exact absurd ⟨h, h2⟩ hc11
   exact h
  refine jQ (jN (jv5 0 1 4 9 10 ?_))
  refine jS (jS (jR (jm rfl (jM ?_))))
  refine je (Run.indexT _ rfl rfl za (zc hc9)) ?_
  refine jb rfl rfl (Bin.eqlN _ 91) (jO (jN (jv6 0 1 4 9 10 113 ?_)))
  refine jD rfl (fun hc12 => ?_) fun hc12 => ?_
  ·
   refine jR (ja rfl (jO (jN (jv5 0 1 4 9 10 ?_))))
   refine jS (jS (jR (jm rfl (jM ?_))))
   refine je (Run.indexT _ rfl rfl za (zc hc9)) ?_
   refine jb rfl rfl (Bin.eqlN _ 93) (jO (jN (jv6 0 1 4 9 10 117 ?_)))
   refine jD rfl (fun hc13 => ?_) fun hc13 => ?_
   ·
    refine jR (ja rfl (jO (jN (jv5 0 1 4 9 10 ?_))))
    refine jR (jm rfl (jb rfl rfl (Bin.add_i64 _ 1 jo) (ja rfl (jO ?_))))
    refine qW (jN ⟨(j + 1, m', false), (js5 rfl rfl rfl rfl rfl), ?_, ?_⟩)
    · exact ⟨by show j + 1 + m' = _; omega, by rw [← zch, ← hq', if_pos hc13], by show a + (j + 1) ≤ _; omega, rfl⟩
    exact jq
   refine jQ (jN (jv5 0 1 4 9 10 ?_))
   refine jR (jm rfl (jb rfl rfl (Bin.add_i64 _ 1 jo) (ja rfl (jO ?_))))
   refine qW (jN ⟨(j + 1, m', true), (js5 rfl rfl rfl rfl rfl), ?_, ?_⟩)
   · exact ⟨by show j + 1 + m' = _; omega, by rw [← zch, ← hq', if_neg hc13, if_pos hc12], by show a + (j + 1) ≤ _; omega, rfl⟩
   exact jq
  refine jQ (jN (jv5 0 1 4 9 10 ?_))
  refine jS (jS (jR (jm rfl (jM ?_))))
  refine je (Run.indexT _ rfl rfl za (zc hc9)) ?_
  refine jb rfl rfl (Bin.eqlN _ 93) (jO (jN (jv6 0 1 4 9 10 117 ?_)))
  refine jD rfl (fun hc13 => ?_) fun hc13 => ?_
  ·
   refine jR (ja rfl (jO (jN (jv5 0 1 4 9 10 ?_))))
   refine jR (jm rfl (jb rfl rfl (Bin.add_i64 _ 1 jo) (ja rfl (jO ?_))))
   refine qW (jN ⟨(j + 1, m', false), (js5 rfl rfl rfl rfl rfl), ?_, ?_⟩)
   · exact ⟨by show j + 1 + m' = _; omega, by rw [← zch, ← hq', if_pos hc13], by show a + (j + 1) ≤ _; omega, rfl⟩
   exact jq
  refine jQ (jN (jv5 0 1 4 9 10 ?_))
  refine jR (jm rfl (jb rfl rfl (Bin.add_i64 _ 1 jo) (ja rfl (jO ?_))))
  refine qW (jN ⟨(j + 1, m', b), (js5 rfl rfl rfl rfl rfl), ?_, ?_⟩)
  · exact ⟨by show j + 1 + m' = _; omega, by rw [← zch, ← hq', if_neg hc13, if_neg hc12], by show a + (j + 1) ≤ _; omega, rfl⟩
  exact jq
 obtain ⟨rfl, rfl⟩ : m = 0 ∧ b = false := by
  rcases hst with ⟨h1, h2, _⟩ | ⟨h, _⟩
  · exact ⟨h1, h2⟩
  omega
 have hjQ : j = Q := jo
 subst hjQ
 refine jX ?_
 refine qK (qK (qH ?_))
 refine jN (jv5 0 1 4 9 10 ?_)
 refine jS (jS ?_)
 refine VC.split1 [(0, _), (1, _), (4, _), (9, _)] (js4 rfl rfl rfl rfl) 125 (.bool (decide (False))) ?_ ?_
 ·
  refine jR ?_
  refine jm rfl (jM ?_)
  refine jG ?_
  refine jG ?_
  refine jk (Run.bin rfl rfl (Bin.eqlN _ _)) ?_
  by_cases hs124 : a + j = a
  ·
   refine jF rfl rfl au (jO ?_)
   refine jN ⟨(js5 (jC (by grind)) rfl rfl rfl rfl), rfl⟩
  refine jF rfl rfl au (jO ?_)
  refine jN ⟨(js5 (jC (by grind)) rfl rfl rfl rfl), rfl⟩
 intro Γ hΓ
 refine jN (VC.sub _ hΓ ?_)
 refine VC.condF rfl (rfl) ?_
 refine jQ (jN (jv4 0 1 4 9 ?_))
 refine jS (jR (jm rfl (jm rfl (jm rfl (je (Run.sliceT _ _ rfl za (evB.some_ rfl) (evB.some_ rfl) jo jo) (je (Run.build (evs.cons rfl (evs.cons rfl evs.nil)) bY (qT).choose_spec.1 (qT).choose_spec.2 (cells := (tkC (0, (q.drop a).take (a + j - a))).toArray) rfl) (jM ?_)))))))
 refine Ops.st (qQ.storeA rfl rfl zp hb1 rfl (cD _)) ?_
 rintro w2 ⟨hb2, hf2, hs2⟩
 refine ja rfl (jO (jN (jv2 4 5 ?_)))
 refine jT ?_
 refine bA ?_
 refine qO rfl zbg zp ((hb2.cells)) (by first | rfl | (simp; done) | (simp [*]; done)) ?_
 refine bT rfl ?_
 refine bK ?_
 exact ⟨by rw [show a + j - a = j by omega]; rfl, K.own hf2 (by simp; omega)⟩
theorem rP : ∀ (s : Tx) {k : Nat}, fE s = some k → k < s.length
 | [], _, h => by cases h
 | c :: r, k, h => by
  unfold fE at h
  split at h
  · injection h with h; subst h; simp
  split at h
  · cases h
  obtain ⟨m, h1, rfl⟩ := Option.map_eq_some_iff.1 h
  have := rP r h1
  simp; omega
theorem tK : ∀ (s : Tx) {b : Bool} {k : Nat}, atF b s = some k → k ≤ s.length
 | [], b, k, h => by
  unfold atF at h
  split at h
  · cases h
  injection h with h; subst h; simp
 | c :: r, b, k, h => by
  unfold atF at h
  split at h
  · cases h
  split at h
  · injection h with h; subst h; simp
  obtain ⟨m, h1, rfl⟩ := Option.map_eq_some_iff.1 h
  have := tK r h1
  simp; omega
theorem uN {q : Tx} {a : Nat} {t : Tk} {nx : Nat} (h : fF q a = some (t, nx)) : a < nx ∧ nx ≤ q.length := by
 unfold fF at h
 split at h
 · cases h
 rename_i c hc
 have ha := (List.getElem?_eq_some_iff.1 hc).1
 split at h
 · injection h with h; injection h with h1 h2; omega
 split at h
 · injection h with h; injection h with h1 h2; omega
 split at h
 ·
  obtain ⟨Q, hQ, h⟩ := Option.map_eq_some_iff.1 h
  have := rP _ hQ
  rw [zbk] at this
  injection h with h1 h2; omega
 obtain ⟨Q, hQ, h⟩ := Option.bind_eq_some_iff.1 h
 have := tK _ hQ
 rw [zbk] at this
 split at h
 · cases h
 injection h with h; injection h with h1 h2; omega
def dQ (q : Tx) : Nat → Nat → Nat → Option (List (Tk × Nat))
 | 0, _, _ => none
 | f + 1, a, gap => match q[a]? with
  | none => if gap = 0 then some [] else none
  | some c => if c.toNat = 32 then dQ q f (a + 1) (gap + 1) else match fF q a with
   | none => none
   | some p => (dQ q f p.2 0).map ((p.1, gap) :: ·)
theorem sC {q : Tx} {f a gap : Nat} {R : List (Tk × Nat)} (h : dQ q f a gap = some R) : (q.length ≤ a ∧ gap = 0 ∧ R = []) ∨ ∃ ha : a < q.length, ∃ f', f = f' + 1 ∧ ((q[a].toNat = 32 ∧ dQ q f' (a + 1) (gap + 1) = some R) ∨ (q[a].toNat ≠ 32 ∧ ∃ t nx R', fF q a = some (t, nx) ∧ dQ q f' nx 0 = some R' ∧ R = (t, gap) :: R')) := by
 cases f with
 | zero => cases h
 | succ f =>
  unfold dQ at h
  split at h
  ·
   rename_i hn
   split at h
   · injection h with h; exact .inl ⟨by simpa using hn, by assumption, h.symm⟩
   cases h
  rename_i c hc
  obtain ⟨ha, rfl⟩ := List.getElem?_eq_some_iff.1 hc
  refine .inr ⟨ha, f, rfl, ?_⟩
  split at h
  · exact .inl ⟨by assumption, h⟩
  split at h
  · cases h
  rename_i p hp
  obtain ⟨R', h1, h2⟩ := Option.map_eq_some_iff.1 h
  exact .inr ⟨by assumption, p.1, p.2, R', hp, h1, h2.symm⟩
def bJ (L : List (Tk × Nat)) : List Tk := L.map (·.1)
def kH (L : List (Tk × Nat)) : List Int := L.map fun x => ((x.2 : Nat) : Int)
def fA (L : List (Tk × Nat)) : Prop := ∀ i < L.length, (kH L).getD i 0 = if i = 0 ∨ ((bJ L).getD (i - 1) tk0).1 = 2 ∨ ((bJ L).getD i tk0).1 = 3 then 0 else 1
instance (L : List (Tk × Nat)) : Decidable (fA L) := by unfold fA; infer_instance
structure TokR (w wr : World) (L : List (Tk × Nat)) (A : Option Addr) (d : Nat) (G : Option Addr) (e : Nat) : Prop where
 out : Own wr 41 2 A L.length d ((bJ L).flatMap tkC)
 gap : Own wr 3 1 G L.length e (IB (kH L))
 up : (∀ x ∈ ob A, w.heap.size ≤ x) ∧ ∀ x ∈ ob G, w.heap.size ≤ x
 frm : Frm [] w wr
theorem TokR.step {w wr wx : World} {L : List (Tk × Nat)} {A G : Option Addr} {d e : Nat} (h : TokR w wr L A d G e) (k : Frm [] wr wx) : TokR w wx L A d G e := ⟨h.out.frm k jp, h.gap.frm k jp, h.up, h.frm.trans k jp⟩
theorem hrdK {w w' : World} {t : TypeId} {x : Tk} (h : Fresh w w' t (Value.agg (tkC x).toArray).cells) : Rd w' 2 (some ⟨w.heap.size, 0, none⟩) 1 ([x].flatMap tkC) := Rd.of_blk (n := 1) (size := 2) h.blk rfl
theorem hrdI {w w' : World} {t : TypeId} {q : Int} (h : Fresh w w' t #[.int .i64 q]) : Rd w' 1 (some ⟨w.heap.size, 0, none⟩) 1 (IB [q]) := Rd.of_blk (n := 1) (size := 1) h.blk rfl
theorem pQ (q : Tx) (L : List (Tk × Nat)) (F : Nat) (P : Option Addr) (pc : Nat) (w : World) (hs : q.length ≤ 1000000) (hP : Rd w 2 P 1 [.bool false, encStr q]) (hF : dQ q F 0 0 = some L) (hG : fA L) : Calls Tryz.prog 29 #[.slice P 1 pc] w fun e w' => ∃ A d, e = .returned (.tuple #[.slice A L.length d, .int .i64 0]) ∧ RdT w' A L.length (bJ L) ∧ Frm [] w w' := by
 obtain ⟨pad, rfl, _, hpc⟩ := hP.2 jo
 have hp1 : ∀ W, Frm [] w W → W.cell? ((pad.add (0 * 2)).add 0) = some (.bool false) := fun W hW => by
  obtain ⟨ad, h1, _, h2⟩ := (hP.frm hW jp).2 jo
  cases h1
  have := h2 0 _ rfl
  rw [show (0 * 2) = 0 from rfl, show pad.add 0 = pad by cases pad; simp [Addr.add]]
  simpa using this
 have hp2 : ∀ W, Frm [] w W → W.cell? ((pad.add (0 * 2)).add 1) = some (encStr q) := fun W hW => by
  obtain ⟨ad, h1, _, h2⟩ := (hP.frm hW jp).2 jo
  cases h1
  have := h2 1 _ rfl
  rw [show (0 * 2) = 0 from rfl, show pad.add 0 = pad by cases pad; simp [Addr.add]]
  simpa using this
 refine jV Tryz.func29 Tryz.ntmps29 Tryz.results29 ?_
 refine jS (jR (ja rfl (jz 0 (jO (jN (jv1 0 ?_))))))
 refine jS (jR (ja rfl (jO (jN (jS (jR (ja rfl (jO (jN (jS (jR (jz 0 (jO (jN (jS (jS (jR (jz 0 (jO (jN (jB ?_)))))))))))))))))))))
 refine VC.loop (σ := Nat × List (Tk × Nat) × Option Addr × Nat × Option Addr × Nat) (fun s => [(0, .slice (some pad) 1 pc), (4, .slice s.2.2.1 s.2.1.length s.2.2.2.1), (5, .slice s.2.2.2.2.1 s.2.1.length s.2.2.2.2.2), (6, jI1 0), (7, jI1 s.1)]) (fun s wr => (s.1 = 0 ∧ s.2.1 = [] ∨ s.1 = 1 ∧ s.2.1 = L) ∧ s.2.1.length ≤ q.length ∧ TokR w wr s.2.1 s.2.2.1 s.2.2.2.1 s.2.2.2.2.1 s.2.2.2.2.2) (fun s => 1 - s.1) (0, [], none, 0, none, 0) (js5 rfl rfl rfl rfl rfl) ⟨.inl ⟨rfl, rfl⟩, jp, Own.nil _ _ _, Own.nil _ _ _, ⟨by simp [ob], by simp [ob]⟩, Frm.refl _ _⟩ ?_
 rintro ⟨i, pre, A, d, G, e⟩ wr ⟨hip, hpq, hT⟩
 dsimp only at hip hpq hT ⊢
 refine jS (jS (jR (jm rfl (jm rfl (jL rfl zca (jb rfl rfl (Bin.lssN _ _) (jO (jN (jv6 0 4 5 6 7 16 ?_)))))))))
 refine jD rfl (fun hc1 => ?_) fun hc1 => ?_
 ·
  obtain ⟨rfl, rfl⟩ : i = 0 ∧ pre = [] := by
   rcases hip with h | ⟨h, _⟩
   · exact h
   omega
  refine jQ (jN (jv5 0 4 5 6 7 ?_))
  refine jS (jB (jS (jS (jR (jm rfl (jm rfl (je (Run.indexS 0 rfl rfl zca Tryz.sizeOf82 jo) (jf rfl zcp rfl zk (jl rfl zu (hp1 _ hT.frm) (jO (jN (jv6 0 4 5 6 7 23 ?_))))))))))))
  refine VC.condF rfl (rfl) ?_
  refine jQ (jN (jv5 0 4 5 6 7 ?_))
  refine jS (jR (jz 0 (jO (jN (jB ?_)))))
  refine VC.loop (σ := (Nat × Nat × Nat × List (Tk × Nat)) × List (Tk × Nat) × Option Addr × Nat × Option Addr × Nat) (fun s => [(0, .slice (some pad) 1 pc), (4, .slice s.2.2.1 s.2.1.length s.2.2.2.1), (5, .slice s.2.2.2.2.1 s.2.1.length s.2.2.2.2.2), (6, jI1 s.1.2.1), (7, jI1 0), (8, jI1 s.1.1)]) (fun s wr => s.1.1 ≤ q.length ∧ s.1.2.1 ≤ s.1.1 ∧ s.2.1.length ≤ s.1.1 ∧ dQ q s.1.2.2.1 s.1.1 s.1.2.1 = some s.1.2.2.2 ∧ s.2.1 ++ s.1.2.2.2 = L ∧ TokR w wr s.2.1 s.2.2.1 s.2.2.2.1 s.2.2.2.2.1 s.2.2.2.2.2) (fun s => s.1.2.2.1) ((0, 0, F, L), [], A, d, G, e) (js6 rfl rfl rfl rfl rfl rfl) ⟨jp, jp, jp, hF, jp, hT⟩ ?_
  rintro ⟨⟨a, gap, f, R⟩, pre, A, d, G, e⟩ wr ⟨hal, hga, hpl, htk, hL, hT⟩
  dsimp only at hal hga hpl htk hL hT ⊢
  have hst := sC htk
  refine jS (jS (jR (jm rfl (jm rfl (jm rfl (je (Run.indexS 0 rfl rfl zca Tryz.sizeOf82 jo) (jf rfl zcp rfl zb (jl rfl zh (hp2 _ hT.frm) (je (Run.lenT rfl za) (jb rfl rfl (Bin.lssN _ _) (jO (jN (jv7 0 4 5 6 7 8 44 ?_)))))))))))))
  refine jD rfl (fun hc3 => ?_) fun hc3 => ?_
  ·
   obtain ⟨f, rfl, hst2⟩ : ∃ f', f = f' + 1 ∧ ((q[a].toNat = 32 ∧ dQ q f' (a + 1) (gap + 1) = some R) ∨ (q[a].toNat ≠ 32 ∧ ∃ t nx R', fF q a = some (t, nx) ∧ dQ q f' nx 0 = some R' ∧ R = (t, gap) :: R')) := by
    rcases hst with ⟨h, _⟩ | ⟨_, h⟩
    · omega
    exact h
   refine jQ (jN (jv6 0 4 5 6 7 8 ?_))
   refine jB (jS (jS (jR (jm rfl (jm rfl (je (Run.indexS 0 rfl rfl zca Tryz.sizeOf82 jo) (jf rfl zcp rfl zb (jl rfl zh (hp2 _ hT.frm) (jM ?_)))))))))
   refine je (Run.indexT _ rfl rfl za (zc hc3)) ?_
   refine jb rfl rfl (Bin.eqlN _ 32) (jO (jN (jv7 0 4 5 6 7 8 52 ?_)))
   refine jD rfl (fun hc4 => ?_) fun hc4 => ?_
   ·
    have hst3 : dQ q f (a + 1) (gap + 1) = some R := by
     rcases hst2 with ⟨_, h⟩ | ⟨h, _⟩
     · exact h
     exact absurd hc4 h
    refine jS (jR (jm rfl (jb rfl rfl (Bin.add_i64 _ 1 jo) (ja rfl (jO (jN (jv6 0 4 5 6 7 8 ?_)))))))
    refine jS (jR (jm rfl (jb rfl rfl (Bin.add_i64 _ 1 jo) (ja rfl (jO (jN (jv6 0 4 5 6 7 8 ?_)))))))
    refine jX ?_
    refine qK (qH ?_)
    refine jN ⟨((a + 1, gap + 1, f, R), pre, A, d, G, e), (js6 rfl rfl rfl rfl rfl rfl), ?_, ?_⟩
    · exact ⟨by show a + 1 ≤ _; omega, by show gap + 1 ≤ a + 1; omega, by show pre.length ≤ a + 1; omega, hst3, hL, hT⟩
    exact jq
   obtain ⟨t, nx, R', hct, hst3, rfl⟩ : ∃ t nx R', fF q a = some (t, nx) ∧ dQ q f nx 0 = some R' ∧ R = (t, gap) :: R' := by
    rcases hst2 with ⟨h, _⟩ | ⟨_, h⟩
    · exact absurd h hc4
    exact h
   have hnx := uN hct
   refine jQ (jN (jv6 0 4 5 6 7 8 ?_))
   refine jS (jR (jm rfl (jm rfl (je (Run.indexS 0 rfl rfl zca Tryz.sizeOf82 jo) (jf rfl zcp rfl zb (jl rfl zh (hp2 _ hT.frm) (jM ?_)))))))
   refine jc (jE2 Tryz.call60) (nZ q a t nx _ hs hct) ?_
   rintro _ w1 ⟨rfl, hf1⟩
   refine ⟨_, rfl, ?_⟩
   have hT := hT.step hf1
   refine jm rfl (jY rfl rfl (jY rfl rfl ?_))
   refine Ops.m (qV.alloc bY) rfl ?_
   rintro _ w2 ⟨rfl, hF2⟩
   obtain ⟨g9, hg9⟩ : ∃ g, g = w1.heap.size := ⟨_, rfl⟩
   have hb2 := hF2.blk
   have s2 := hF2.size
   rw [← hg9] at hb2 ⊢
   have s1 := hT.frm.size
   have hAlt : ∀ y ∈ ob A, y < g9 := fun y hy => by have := hT.out.lt y hy; omega
   have hGlt : ∀ y ∈ ob G, y < g9 := fun y hy => by have := hT.gap.lt y hy; omega
   have hT := hT.step hF2.frm
   refine Ops.st (qQ.storeA rfl rfl zp hb2 rfl (cD _)) ?_
   rintro w3 ⟨hb3, hf3, hs3⟩
   have hT : TokR w w3 pre A d G e := ⟨hT.out.frm hf3 (fun y hy h => by have := hAlt y hy; simp at h; omega), hT.gap.frm hf3 (fun y hy h => by have := hGlt y hy; simp at h; omega), hT.up, hT.frm.own hf3 (by simp; omega)⟩
   refine ja rfl (jO (jN (jv7 0 4 5 6 7 9 10 ?_)))
   refine jS (jS (jR (jm rfl (jb rfl rfl (Bin.eqlN _ 0) (jO (jN (jv8 0 4 5 6 7 9 10 68 ?_)))))))
   refine VC.condF rfl jdf ?_
   refine jQ (jN (jv7 0 4 5 6 7 9 10 ?_))
   refine jS (jR (jm rfl (je (Run.loadA rfl zbg zp (hb3.cells) (by first | rfl | (simp; done))) ?_)))
   refine Ops.m (qV.buildS1 rfl zy zp bY jd jd rfl rfl) rfl ?_
   rintro _ w4 ⟨rfl, hF4⟩
   have hT := hT.step hF4.frm
   have s4 := hF4.size
   refine Ops.m (qV.app rfl rfl zy (tI) rfl jd hT.out (hrdK hF4) (cD _) jo jo) rfl ?_
   rintro _ w5 ⟨A5, d5, rfl, hA5, hf5, hob5⟩
   have hA5 : Own w5 41 2 A5 (pre ++ [(t, gap)]).length d5 ((bJ (pre ++ [(t, gap)])).flatMap tkC) := by simpa [bJ] using hA5
   have hupA : ∀ x ∈ ob A5, w.heap.size ≤ x := lD hT.up.1 hob5 hT.frm.size
   have hGp := hT.gap.frm hf5 (hT.gap.ne_own hT.out jd)
   have hK5 := hT.frm.own hf5 hT.up.1
   have s5 := hf5.size
   refine ja rfl (jO (jN (jv6 0 4 5 6 7 10 ?_)))
   refine jS (jR (jm rfl (jM ?_)))
   refine Ops.m (qV.buildS1 rfl zm zd eF jd jd rfl rfl) rfl ?_
   rintro _ w6 ⟨rfl, hF6⟩
   have hA6 := hA5.frm hF6.frm jp
   have hGp := hGp.frm hF6.frm jp
   have hK6 := hK5.trans hF6.frm jp
   have s6 := hF6.size
   refine Ops.m (qV.app rfl rfl zm (tZ) rfl jd hGp (hrdI hF6) (tA _) jo jo) rfl ?_
   rintro _ w7 ⟨G7, e7, rfl, hG7, hf7, hob7⟩
   have hG7 : Own w7 3 1 G7 (pre ++ [(t, gap)]).length e7 (IB (kH (pre ++ [(t, gap)]))) := by simpa [kH, IB] using hG7
   have hT7 : TokR w w7 (pre ++ [(t, gap)]) A5 d5 G7 e7 := ⟨hA6.frm hf7 (hA6.ne_own hGp jd), hG7, ⟨hupA, lD hT.up.2 hob7 hK6.size⟩, hK6.own hf7 hT.up.2⟩
   have el : pre.length + 1 = (pre ++ [(t, gap)]).length := jp
   refine ja rfl (jO (jN (jv5 0 4 5 7 10 ?_)))
   refine jS (jR (jz 0 (jO (jN (jR (jm rfl (ja rfl (jO ?_))))))))
   refine qW (jN ⟨((nx, 0, f, R'), pre ++ [(t, gap)], A5, d5, G7, e7), (js6 rfl (by rw [← el]; rfl) (by rw [← el]; rfl) rfl rfl rfl), ?_, ?_⟩)
   · exact ⟨by show nx ≤ _; omega, by show 0 ≤ nx; omega, by simp; omega, hst3, by simpa using hL, hT7⟩
   exact jq
  obtain ⟨rfl, rfl⟩ : gap = 0 ∧ R = [] := by
   rcases hst with ⟨_, h⟩ | ⟨h, _⟩
   · exact h
   omega
  rw [List.append_nil] at hL
  subst hL
  refine jX ?_
  refine qK (qK (qH ?_))
  refine qW (jN ?_)
  refine jv5 0 4 5 6 7 ?_
  refine jR (jm rfl (jb rfl rfl (Bin.add_i64 _ 1 jo) (ja rfl (jO ?_))))
  refine jN ⟨(1, pre, A, d, G, e), (js5 rfl rfl rfl rfl rfl), ?_, ?_⟩
  · exact ⟨.inr ⟨rfl, rfl⟩, by show pre.length ≤ _; omega, hT⟩
  exact jq
 obtain ⟨rfl, rfl⟩ : i = 1 ∧ pre = L := by
  rcases hip with ⟨h, _⟩ | h
  · omega
  exact h
 rename World => wq
 have hR : RdT wq A pre.length (bJ pre) := ⟨by simp [bJ], hT.out.rd⟩
 refine jX ?_
 refine qK (qK (qH ?_))
 refine jN (jv3 4 5 6 ?_)
 refine jS (jS (jR (jm rfl (jb rfl rfl (Bin.gtrN _ 0) (jO (jN (jv3 4 5 79 ?_)))))))
 refine VC.condF rfl (rfl) ?_
 refine jQ (jN (jv2 4 5 ?_))
 refine jS (jS (jR (jz 0 (jO (jN (jB ?_))))))
 refine VC.loop (σ := Nat) (fun s => [(4, .slice A pre.length d), (5, .slice G pre.length e), (11, jI1 s)]) (fun s wr => s ≤ pre.length ∧ wr = wq) (fun s => pre.length - s) 0 (js3 rfl rfl rfl) ⟨jo, rfl⟩ ?_
 rintro i wr ⟨hi, rfl⟩
 refine jS (jS (jR (jm rfl (jm rfl (jL rfl zy (jb rfl rfl (Bin.lssN _ _) (jO (jN (jv4 4 5 11 83 ?_)))))))))
 refine jD rfl (fun hc7 => ?_) fun hc7 => ?_
 ·
  have hGi := hG i hc7
  obtain ⟨oad, rfl, hoc⟩ := hR.cell hc7
  have hoc2 : ∀ W, Frm [] wr W → ∀ j v, (tkC ((bJ pre).getD (i - 1) tk0))[j]? = some v → W.cell? ((oad.add ((i - 1) * 2)).add j) = some v := by
   obtain ⟨ad, h1, h2⟩ := hR.cell (k := i - 1) jo
   cases h1
   exact h2
  obtain ⟨gad, rfl, hgc⟩ := oX hT.gap.rd (by simp [kH]) hc7
  refine jQ (jN (jv3 4 5 11 ?_))
  refine jS (jB (jS (jR (jz 1 (jO (jN (jS (jS ?_))))))))
  refine VC.split1 [(4, _), (5, _), (11, _), (12, _)] (js4 rfl rfl rfl rfl) 104 (.bool (decide (i = 0 ∨ ((bJ pre).getD (i - 1) tk0).1 = 2 ∨ ((bJ pre).getD i tk0).1 = 3))) ?_ ?_
  ·
   refine jR ?_
   refine jm rfl (jb rfl rfl (Bin.eqlN _ 0) ?_)
   by_cases hs87 : i = 0
   ·
    refine jM ?_
    refine jU ?_
    refine jU ?_
    refine jU ?_
    refine jU ?_
    refine jU ?_
    refine jU ?_
    refine jU ?_
    refine jW rfl rfl au (jM ?_)
    refine jU ?_
    refine jU ?_
    refine jU ?_
    refine jU ?_
    refine jU ?_
    refine jU ?_
    refine jW rfl rfl au (jO ?_)
    refine jN ⟨(js5 (jC (by grind)) rfl rfl rfl rfl), rfl⟩
   refine jM ?_
   refine jG ?_
   refine jG ?_
   refine jk (Run.bin rfl rfl (Bin.subN i 1 jo (by simp [bmax]; omega))) ?_
   refine jk (Run.indexS (i - 1) rfl rfl zy zp jo) ?_
   refine jk (Run.fieldAddr rfl zaq rfl zd jd) ?_
   refine jk (Run.load rfl zj (hoc2 _ (Frm.refl _ _) 0 _ rfl)) ?_
   refine jk (Run.bin rfl rfl (Bin.eql _ 2)) ?_
   by_cases hs95 : ((bJ pre).getD (i - 1) tk0).1 = 2
   ·
    refine jF rfl rfl au (jM ?_)
    refine jU ?_
    refine jU ?_
    refine jU ?_
    refine jU ?_
    refine jU ?_
    refine jU ?_
    refine jW rfl rfl au (jO ?_)
    refine jN ⟨(js5 (jC (by grind)) rfl rfl rfl rfl), rfl⟩
   refine jF rfl rfl au (jM ?_)
   refine jG ?_
   refine jG ?_
   refine jk (Run.indexS i rfl rfl zy zp hc7) ?_
   refine jk (Run.fieldAddr rfl zaq rfl zd jd) ?_
   refine jk (Run.load rfl zj (hoc _ (Frm.refl _ _) 0 _ rfl)) ?_
   refine jk (Run.bin rfl rfl (Bin.eql _ 3)) ?_
   by_cases hs103 : ((bJ pre).getD i tk0).1 = 3
   ·
    refine jF rfl rfl au (jO ?_)
    refine jN ⟨(js5 (jC (by grind)) rfl rfl rfl rfl), rfl⟩
   refine jF rfl rfl au (jO ?_)
   refine jN ⟨(js5 (jC (by grind)) rfl rfl rfl rfl), rfl⟩
  intro Γ hΓ
  refine jN (VC.sub _ hΓ ?_)
  refine jD rfl (fun hc8 => ?_) fun hc8 => ?_
  ·
   refine jR (jz 0 (jO (jN (jv4 4 5 11 12 ?_))))
   refine jS (jR (jm rfl (jm rfl (je (Run.index1 i rfl rfl zm zd hc7) (jl rfl zj hgc (jm rfl (jb rfl rfl (Bin.neq _ _) (jO (jN (jv4 4 5 11 110 ?_))))))))))
   refine VC.condF rfl (decide_eq_false (by rw [hGi, if_pos hc8]; simp)) ?_
   refine jQ ?_
   refine qW (jN ?_)
   refine jv3 4 5 11 ?_
   refine jR (jm rfl (jb rfl rfl (Bin.add_i64 _ 1 jo) (ja rfl (jO ?_))))
   refine jN ⟨i + 1, (js3 rfl rfl rfl), ?_, ?_⟩
   · exact ⟨jo, rfl⟩
   exact jq
  refine jQ (jN (jv4 4 5 11 12 ?_))
  refine jS (jR (jm rfl (jm rfl (je (Run.index1 i rfl rfl zm zd hc7) (jl rfl zj hgc (jm rfl (jb rfl rfl (Bin.neq _ _) (jO (jN (jv4 4 5 11 110 ?_))))))))))
  refine VC.condF rfl (decide_eq_false (by rw [hGi, if_neg hc8]; simp)) ?_
  refine jQ ?_
  refine qW (jN ?_)
  refine jv3 4 5 11 ?_
  refine jR (jm rfl (jb rfl rfl (Bin.add_i64 _ 1 jo) (ja rfl (jO ?_))))
  refine jN ⟨i + 1, (js3 rfl rfl rfl), ?_, ?_⟩
  · exact ⟨jo, rfl⟩
  exact jq
 refine jX ?_
 refine qK (qK (qH ?_))
 refine jN (jv1 4 ?_)
 refine jS (jR (jm rfl (ja rfl (jz 0 (jO (jN (jv2 2 3 ?_)))))))
 refine jT ?_
 refine end2 rfl rfl ?_
 exact ⟨A, d, rfl, hR, hT.frm⟩
theorem fI (q : Tx) (L : List (Tk × Nat)) (F : Nat) (w : World) (hs : q.length ≤ 1000000) (hF : dQ q F 0 0 = some L) (hG : fA L) : Calls Tryz.prog 16 #[encStr q] w fun e w' => ∃ A d, e = .returned (.slice A L.length d) ∧ RdT w' A L.length (bJ L) ∧ Frm [] w w' := by
 refine jV Tryz.func16 Tryz.ntmps16 Tryz.results16 ?_
 refine jS (jR (ja rfl (jO (jN (jv1 0 ?_)))))
 refine jS (jR (jm rfl (je (Run.build (evs.cons rfl evs.nil) pG (lI).choose_spec.1 (lI).choose_spec.2 (cells := #[.bool false, encStr q]) rfl) ?_)))
 refine Ops.m (qV.buildS1 rfl zca Tryz.sizeOf82 pG jd jd rfl rfl) rfl ?_
 rintro _ w1 ⟨rfl, hF1⟩
 refine jc (jE1 Tryz.call29) (pQ q L F _ _ w1 hs (Rd.of_blk (n := 1) (size := 2) hF1.blk rfl) hF hG) ?_
 rintro e w2 ⟨A, d, rfl, hR2, hf2⟩
 refine ⟨_, rfl, ?_⟩
 refine jm rfl (jY rfl rfl (jY rfl rfl (ja rfl (ja rfl (jO (jN (jv1 3 ?_)))))))
 refine jS (jR (jm rfl (ja rfl (jO (jN (jv1 2 ?_))))))
 refine jT ?_
 refine qN rfl ?_
 exact ⟨A, d, rfl, hR2, hF1.frm.trans hf2 jp⟩
def axS1 : Tx := [97, 32, 108, 111, 103, 105, 110, 32, 106, 111, 101, 32, 34, 120, 32, 121, 34]
def gY : List (Tk × Nat) := [((0, [97]), 0), ((0, [108, 111, 103, 105, 110]), 1), ((0, [106, 111, 101]), 1), ((1, [120, 32, 121]), 1)]
theorem nT : dQ axS1 200 0 0 = some gY ∧ fA gY := jd
def axS2 : Tx := [97, 32, 117, 105, 100, 32, 102, 101, 116, 99, 104, 32, 49, 58, 42, 32, 40, 102, 108, 97, 103, 115, 32, 98, 111, 100, 121, 91, 49, 93, 60, 48, 46, 57, 62, 41]
def eD : List (Tk × Nat) := [((0, [97]), 0), ((0, [117, 105, 100]), 1), ((0, [102, 101, 116, 99, 104]), 1), ((0, [49, 58, 42]), 1), ((2, [40]), 1), ((0, [102, 108, 97, 103, 115]), 0), ((0, [98, 111, 100, 121, 91, 49, 93, 60, 48, 46, 57, 62]), 1), ((3, [41]), 0)]
theorem nU : dQ axS2 200 0 0 = some eD ∧ fA eD := jd
def axS3 : Tx := [97, 32, 110, 111, 111, 112, 32, 120]
def kD : List (Tk × Nat) := [((0, [97]), 0), ((0, [110, 111, 111, 112]), 1), ((0, [120]), 1)]
theorem nB : dQ axS3 200 0 0 = some kD ∧ fA kD := jd
theorem sD (A : Option Addr) (c : Nat) (w : World) (hR : RdT w A 4 (bJ gY)) : Calls Tryz.prog 10 #[.slice A 4 c] w fun e w' => Frm [] w w' ∧ e = .returned (.tuple #[.agg (((fD [97] [76, 79, 71, 73, 78]).setIfInBounds 3 (encStr [106, 111, 101])).setIfInBounds 4 (encStr [120, 32, 121])), .int .i64 0]) := by
 refine (cY A 4 c _ (fun _ => some 4) (fun _ cs => ∃ s, cI (bJ gY) 2 = some s ∧ cs = ((fD [97] [76, 79, 71, 73, 78]).setIfInBounds 3 (encStr s.1)).setIfInBounds 4 (encStr s.2)) w hR jd jd (fun W W' g t csx cs h _ _ _ => h) (fun s hs fv hfv => ?_)).mono ?_
 ·
  have h1 : qD (bJ gY) 1 [0] = some [108, 111, 103, 105, 110] := jd
  rw [h1] at hs
  injection hs with hs
  subst hs
  have h2 : dT (qS [108, 111, 103, 105, 110]) = some (.func (.func 41) #[] #[]) := by rfl
  rw [h2] at hfv
  injection hfv with hfv
  exact ⟨_, hfv.symm, Tryz.call41, gL _ (dO _ _) jd⟩
 rintro e w' ⟨hf, cs', code, rfl, he⟩
 have h3 : cJ (bJ gY) (fun _ => some 4) = some () := jd
 rw [h3] at he
 obtain ⟨rfl, _, s, hs, rfl⟩ := he
 have h4 : cI (bJ gY) 2 = some ([106, 111, 101], [120, 32, 121]) := jd
 rw [h4] at hs
 injection hs with hs
 subst hs
 exact ⟨hf, rfl⟩
theorem lM : (cB (bJ eD) 3).map (fun p => (p.2.1.length, (p.2.1.getD 1 it0).label, p.2.2)) = some (2, [66, 79, 68, 89, 91, 49, 93, 60, 48, 62], 8) := by decide +kernel
theorem sE (A : Option Addr) (c : Nat) (w : World) (hR : RdT w A 8 (bJ eD)) (hv : cH w) (htb : Tab w) : Calls Tryz.prog 10 #[.slice A 8 c] w fun e w' => Frm [] w w' ∧ ∃ cs', e = .returned (.tuple #[.agg cs', .int .i64 0]) ∧ (∀ u ∈ cs'.toList, u.oneCell' = true) ∧ cs'.size = 20 ∧ cs'[1]? = some (encStr [70, 69, 84, 67, 72]) ∧ cs'[2]? = some (.bool true) ∧ ∃ ad d, cs'[9]? = some (.slice (some ad) 2 d) ∧ ∀ W, Frm [] w' W → W.cell? ((ad.add (1 * 9)).add 1) = some (encStr [66, 79, 68, 89, 91, 49, 93, 60, 48, 62]) := by
 have hA : 0 < 8 → ∀ x ∈ ob A, x < w.heap.size := fun h0 x hx => hR.rd.lt h0 x hx
 refine (cY A 8 c _ (fun _ => dL (bJ eD) (fun _ => some 8)) (mN w.heap.size (bJ eD) 3 (oI [97] [70, 69, 84, 67, 72])) w hR jd jd (fun W W' g t csx cs h hb ht k => h.frm hb ht k) (fun s hs fv hfv => ?_)).mono ?_
 ·
  have h1 : qD (bJ eD) 1 [0] = some [117, 105, 100] := jd
  rw [h1] at hs
  injection hs with hs
  subst hs
  have h2 : dT (qS [117, 105, 100]) = some (.func (.func 38) #[] #[]) := by rfl
  rw [h2] at hfv
  injection hfv with hfv
  refine ⟨_, hfv.symm, Tryz.call38, lH A 8 c _ _ (fun _ => some 8) _ _ w jd _ rfl hA (fun s hs fv hfv => ?_)⟩
  have h3 : qD (bJ eD) 2 [0] = some [102, 101, 116, 99, 104] := jd
  rw [h3] at hs
  injection hs with hs
  subst hs
  have h4 : kC (qS [102, 101, 116, 99, 104]) = some (.func (.func 35) #[] #[]) := by rfl
  rw [h4] at hfv
  injection hfv with hfv
  refine ⟨_, hfv.symm, Tryz.call35, oL _ rfl (mP _ _) hA jd hv htb ?_⟩
  have h5 := lM
  obtain ⟨p, h6, h7⟩ := Option.map_eq_some_iff.1 h5
  rw [h6]
  injection h7 with h7 h8
  injection h8 with h8 h9
  show some 8 = some p.2.2
  rw [h9]
 rintro e w' ⟨hf, cs', code, rfl, he⟩
 have h3 : cJ (bJ eD) (fun _ => dL (bJ eD) (fun _ => some 8)) = some () := by decide +kernel
 rw [h3] at he
 obtain ⟨rfl, hsz, sp, xs, q2, Bs, ds, I, d, rs, h4, h5, h6, _, rfl⟩ := he
 have h7 := lM
 rw [h4] at h7
 simp only [Option.map_some, Option.some.injEq, Prod.mk.injEq] at h7
 obtain ⟨h7, h8, h9⟩ := h7
 have hrl : rs.length = 2 := by rw [← h7, ← h5, zaw]
 have h1 : 1 < rs.length := by omega
 obtain ⟨ad, rfl, _⟩ := h6.row.rd.elem h1
 refine ⟨hf, _, rfl, cG (cG (mP _ _) rfl) rfl, hsz, rfl, rfl, ad, d, by rw [hrl]; rfl, fun W hW => ?_⟩
 obtain ⟨ad2, h10, hc⟩ := (h6.row.frm hW jp).rd.elem h1
 cases h10
 refine hc 1 _ ?_
 unfold IRC
 rw [fG itR 9 (fun _ => rfl) rs 1 h1]
 have : (xs.getD 1 it0) = (rs[1]).x := by rw [← h5, zr, List.getElem?_map, zc h1]; rfl
 rw [this] at h8
 rw [← h8]
 rfl
theorem sF (A : Option Addr) (c : Nat) (w : World) (hR : RdT w A 3 (bJ kD)) : Calls Tryz.prog 10 #[.slice A 3 c] w fun e w' => Frm [] w w' ∧ e = .returned (.tuple #[.agg (cZ [97]), .int .i64 20]) := by
 refine (cY A 3 c _ (fun _ => some 2) (fun _ cs => cs = fD [97] [78, 79, 79, 80]) w hR jd jd (fun W W' g t csx cs h _ _ _ => h) (fun s hs fv hfv => ?_)).mono ?_
 ·
  have h1 : qD (bJ kD) 1 [0] = some [110, 111, 111, 112] := jd
  rw [h1] at hs
  injection hs with hs
  subst hs
  have h2 : dT (qS [110, 111, 111, 112]) = some (.func (.func 39) #[] #[]) := by rfl
  rw [h2] at hfv
  injection hfv with hfv
  exact ⟨_, hfv.symm, Tryz.call39, oO _ (dO _ _) rfl⟩
 rintro e w' ⟨hf, cs', code, rfl, he⟩
 have h3 : cJ (bJ kD) (fun _ => some 2) = none := jd
 rw [h3] at he
 obtain ⟨rfl, rfl⟩ := he
 exact ⟨hf, rfl⟩
theorem mR (w : World) (hv : cH w) (htb : Tab w) : Calls Tryz.prog 8 #[] w fun e w' => e = .returned (.bool true) ∧ Frm [] w w' := by
 refine jV Tryz.func8 Tryz.ntmps8 Tryz.results8 ?_
 refine jS (jR (ja rfl (jO (jN ?_))))
 refine VC.sub [] .nil ?_
 refine jS (jR ?_)
 refine jc (jE1 Tryz.call16) (fI axS1 gY 200 _ jd nT.1 nT.2) ?_
 rintro _ v1 ⟨A1, d1, rfl, hR1, hf1⟩
 refine ⟨_, rfl, ?_⟩
 refine jc (jE1 Tryz.call10) (sD A1 d1 v1 hR1) ?_
 rintro _ u1 ⟨k1, rfl⟩
 refine ⟨_, rfl, ?_⟩
 refine jm rfl (jY rfl rfl (jY rfl rfl ?_))
 refine Ops.m (qV.alloc cR) rfl ?_
 rintro _ a1 ⟨rfl, hF1⟩
 obtain ⟨g1, hg1⟩ : ∃ g, g = u1.heap.size := ⟨_, rfl⟩
 have hb1 := hF1.blk
 rw [← hg1] at hb1 ⊢
 refine Ops.st (qQ.storeA rfl rfl zam hb1 rfl (cG (cG (dO _ _) rfl) rfl)) ?_
 rintro b1 ⟨hc1, hs1, hz1⟩
 have K1 : Frm [] w b1 := ((hf1.trans k1 jp).trans hF1.frm jp).own hs1 (by have := (hf1.trans k1 jp).size; simp; omega)
 refine ja rfl (jO (jN (jv2 1 2 ?_)))
 refine jS (jR ?_)
 refine jc (jE1 Tryz.call16) (fI axS2 eD 200 _ jd nU.1 nU.2) ?_
 rintro _ v2 ⟨A2, d2, rfl, hR2, hf2⟩
 refine ⟨_, rfl, ?_⟩
 refine jc (jE1 Tryz.call10) (sE A2 d2 v2 hR2 (hv.frm0 (K1.trans hf2 jp)) (htb.frm (K1.trans hf2 jp))) ?_
 rintro _ u2 ⟨k2, cs2, rfl, one2, sz2, n2, uid2, ad2, dd2, it2, lab2⟩
 refine ⟨_, rfl, ?_⟩
 refine jm rfl (jY rfl rfl (jY rfl rfl ?_))
 refine Ops.m (qV.alloc cR) rfl ?_
 rintro _ a2 ⟨rfl, hF2⟩
 obtain ⟨g2, hg2⟩ : ∃ g, g = u2.heap.size := ⟨_, rfl⟩
 have hb2 := hF2.blk
 rw [← hg2] at hb2 ⊢
 refine Ops.st (qQ.storeA rfl rfl (fun w => (zam w).trans (by rw [sz2])) hb2 sz2 one2) ?_
 rintro b2 ⟨hc2, hs2, hz2⟩
 have K2 : Frm [] b1 a2 := (hf2.trans k2 jp).trans hF2.frm jp
 have K2b : Frm [] b1 b2 := K2.own hs2 (by have := (hf2.trans k2 jp).size; simp; omega)
 have hc1 := hc1.frm K2b jp
 have lab2 : ∀ W, Frm [] b2 W → W.cell? ((ad2.add (1 * 9)).add 1) = some (encStr [66, 79, 68, 89, 91, 49, 93, 60, 48, 62]) := fun W hW => lab2 W ((hF2.frm.own hs2 (by simp; omega)).trans hW jp)
 refine ja rfl (jO (jN (jv4 1 2 3 4 ?_)))
 refine jS (jR ?_)
 refine jc (jE1 Tryz.call16) (fI axS3 kD 200 _ jd nB.1 nB.2) ?_
 rintro _ v3 ⟨A3, d3, rfl, hR3, hf3⟩
 refine ⟨_, rfl, ?_⟩
 refine jc (jE1 Tryz.call10) (sF A3 d3 v3 hR3) ?_
 rintro _ u3 ⟨k3, rfl⟩
 refine ⟨_, rfl, ?_⟩
 refine jm rfl (jY rfl rfl (jY rfl rfl ?_))
 refine Ops.m (qV.alloc cR) rfl ?_
 rintro _ a3 ⟨rfl, hF3⟩
 obtain ⟨g3, hg3⟩ : ∃ g, g = u3.heap.size := ⟨_, rfl⟩
 have hb3 := hF3.blk
 rw [← hg3] at hb3 ⊢
 refine Ops.st (qQ.storeA rfl rfl zam hb3 rfl (dI _)) ?_
 rintro b3 ⟨hc3, hs3, hz3⟩
 have K3 : Frm [] b2 b3 := ((hf3.trans k3 jp).trans hF3.frm jp).own hs3 (by have := (hf3.trans k3 jp).size; simp; omega)
 have hc1 := hc1.frm K3 jp
 have hc2 := hc2.frm K3 jp
 have lab2 := lab2 _ K3
 refine ja rfl (jO (jN (jv6 1 2 3 4 5 6 ?_)))
 refine jS ?_
 refine VC.split1 [] .nil 0 (.bool (decide (True))) ?_ ?_
 ·
  refine jR (jf rfl ze rfl zb (jl rfl zh (hc1.cells 1 _ rfl) (je (Run.eqlT rfl rfl) (jM ?_))))
  refine jk (Run.fieldAddr rfl ze rfl zb jd) ?_
  refine jk (Run.load rfl zh (hc1.cells 3 _ rfl)) ?_
  refine jk (Run.eqlT rfl rfl) ?_
  refine jW rfl rfl au (jM ?_)
  refine jk (Run.fieldAddr rfl ze rfl zb jd) ?_
  refine jk (Run.load rfl zh (hc1.cells 4 _ rfl)) ?_
  refine jk (Run.eqlT rfl rfl) ?_
  refine jW rfl rfl au (jM ?_)
  refine jG ?_
  refine jk (Run.bin rfl rfl (Bin.eqlN _ 0)) ?_
  refine jW rfl rfl au (jM ?_)
  refine jk (Run.fieldAddr rfl ze rfl zb jd) ?_
  refine jk (Run.load rfl zh (hc2.cells 1 _ (by rw [zcu]; exact n2))) ?_
  refine jk (Run.eqlT rfl rfl) ?_
  refine jW rfl rfl au (jM ?_)
  refine jk (Run.fieldAddr rfl ze rfl zk jd) ?_
  refine jk (Run.load rfl zu (hc2.cells 2 _ (by rw [zcu]; exact uid2))) ?_
  refine jW rfl rfl au (jM ?_)
  refine jk (Run.fieldAddr rfl ze rfl zbb jd) ?_
  refine jk (Run.load rfl zcf (hc2.cells 9 _ (by rw [zcu]; exact it2))) ?_
  refine jk (Run.lenS rfl zav) ?_
  refine jk (Run.bin rfl rfl (Bin.eqlN _ 2)) ?_
  refine jW rfl rfl au (jM ?_)
  refine jk (Run.fieldAddr rfl ze rfl zbb jd) ?_
  refine jk (Run.load rfl zcf (hc2.cells 9 _ (by rw [zcu]; exact it2))) ?_
  refine jk (Run.indexS 1 rfl rfl zav zv jo) ?_
  refine jk (Run.fieldAddr rfl zg rfl zb jd) ?_
  refine jk (Run.load rfl zh lab2) ?_
  refine jk (Run.eqlT rfl rfl) ?_
  refine jW rfl rfl au (jM ?_)
  refine jG ?_
  refine jk (Run.bin rfl rfl (Bin.eqlN _ 0)) ?_
  refine jW rfl rfl au (jM ?_)
  refine jG ?_
  refine jk (Run.bin rfl rfl (Bin.eqlN _ 20)) ?_
  refine jW rfl rfl au (jM ?_)
  refine jk (Run.fieldAddr rfl ze rfl zb jd) ?_
  refine jk (Run.load rfl zh (hc3.cells 0 _ rfl)) ?_
  refine jk (Run.eqlT rfl rfl) ?_
  refine jW rfl rfl au (jm rfl (jW rfl rfl au (ja rfl (jO ?_))))
  refine jN ⟨(js1 (jC jp)), rfl⟩
 intro Γ hΓ
 refine jN (VC.sub _ hΓ ?_)
 refine jT ?_
 refine qN rfl ?_
 exact ⟨rfl, (K1.trans K2b jp).trans K3 jp⟩
inductive KeyV where
 | mk (kind : Int) (s t : Tx) (n : Int) (set : List Sp) (l : List KeyV) : KeyV
def KeyV.kind : KeyV → Int | .mk k _ _ _ _ _ => k
def KeyV.s : KeyV → Tx | .mk _ s _ _ _ _ => s
def KeyV.t : KeyV → Tx | .mk _ _ t _ _ _ => t
def KeyV.n : KeyV → Int | .mk _ _ _ n _ _ => n
def KeyV.set : KeyV → List Sp | .mk _ _ _ _ x _ => x
def KeyV.l : KeyV → List KeyV | .mk _ _ _ _ _ l => l
def k0 : KeyV := .mk 0 [] [] 0 [] []
instance : Inhabited KeyV := ⟨k0⟩
def KeC (k : KeyV) (SA : Option Addr) (sc : Nat) (LA : Option Addr) (lc : Nat) : List Value := [.int .i64 k.kind, encStr k.s, encStr k.t, .int .i64 k.n, .slice SA k.set.length sc, .slice LA k.l.length lc]
theorem tE (k : KeyV) (SA : Option Addr) (sc : Nat) (LA : Option Addr) (lc : Nat) : ∀ u ∈ KeC k SA sc LA lc, u.oneCell' = true := by
 intro u hu
 simp only [KeC, zs, zw, or_false] at hu
 rcases hu with rfl | rfl | rfl | rfl | rfl | rfl <;> rfl
def RdK : Nat → World → (Nat → Prop) → List Value → KeyV → Prop
 | 0, _, _, _, _ => False
 | d + 1, W, B, cs, k => ∃ (SA : Option Addr) (sc : Nat) (LA : Option Addr) (lc : Nat) (css : List (List Value)), cs = KeC k SA sc LA lc ∧ Own W 96 2 SA k.set.length sc (SC k.set) ∧ Own W 30 6 LA k.l.length lc css.flatten ∧ ((∀ x ∈ ob SA, B x) ∧ ∀ x ∈ ob LA, B x) ∧ css.length = k.l.length ∧ ∀ i, i < k.l.length → RdK d W B (css.getD i []) (k.l.getD i k0)
def gG (d : Nat) (W : World) (B : Nat → Prop) (css : List (List Value)) (ks : List KeyV) : Prop := css.length = ks.length ∧ ∀ i, i < ks.length → RdK d W B (css.getD i []) (ks.getD i k0)
theorem RdK.frm : ∀ {d : Nat} {W W' : World} {B : Nat → Prop} {S : List Nat} {cs : List Value} {k : KeyV}, RdK d W B cs k → Frm S W W' → (∀ x ∈ S, ¬ B x) → RdK d W' B cs k
 | 0, _, _, _, _, _, _, h, _, _ => h.elim
 | d + 1, _, _, _, _, _, _, ⟨SA, sc, LA, lc, css, h1, h2, h3, h4, h5, h6⟩, k, hS => ⟨SA, sc, LA, lc, css, h1, h2.frm k (fun y hy hn => hS y hn (h4.1 y hy)), h3.frm k (fun y hy hn => hS y hn (h4.2 y hy)), h4, h5, fun i hi => (h6 i hi).frm k hS⟩
theorem RdK.succ : ∀ {d : Nat} {W : World} {B : Nat → Prop} {cs : List Value} {k : KeyV}, RdK d W B cs k → RdK (d + 1) W B cs k
 | 0, _, _, _, _, h => h.elim
 | d + 1, _, _, _, _, ⟨SA, sc, LA, lc, css, h1, h2, h3, h4, h5, h6⟩ => ⟨SA, sc, LA, lc, css, h1, h2, h3, h4, h5, fun i hi => (h6 i hi).succ⟩
theorem RdK.le {d d' : Nat} {W : World} {B : Nat → Prop} {cs : List Value} {k : KeyV} (h : RdK d W B cs k) (hd : d ≤ d') : RdK d' W B cs k := by
 induction hd with
 | refl => exact h
 | step _ ih => exact ih.succ
theorem RdK.cells {d : Nat} {W : World} {B : Nat → Prop} {cs : List Value} {k : KeyV} (h : RdK d W B cs k) : cs.length = 6 ∧ ∀ u ∈ cs, u.oneCell' = true := by
 cases d with
 | zero => exact h.elim
 | succ d =>
  obtain ⟨SA, sc, LA, lc, css, rfl, _⟩ := h
  exact ⟨rfl, tE _ _ _ _ _⟩
theorem gG.cells {d : Nat} {W : World} {B : Nat → Prop} {css : List (List Value)} {ks : List KeyV} (h : gG d W B css ks) : (∀ x ∈ css, x.length = 6) ∧ ∀ u ∈ css.flatten, u.oneCell' = true := by
 have key : ∀ x ∈ css, x.length = 6 ∧ ∀ u ∈ x, u.oneCell' = true := fun x hx => by
  obtain ⟨i, hi, rfl⟩ := List.mem_iff_getElem.1 hx
  have := (h.2 i (by rw [← h.1]; exact hi)).cells
  rw [zr, zc hi] at this
  exact this
 refine ⟨fun x hx => (key x hx).1, fun u hu => ?_⟩
 obtain ⟨x, hx, hu⟩ := List.mem_flatten.1 hu
 exact (key x hx).2 u hu
theorem uR {css : List (List Value)} (h : ∀ x ∈ css, x.length = 6) {i : Nat} (hi : i < css.length) : (css.flatten.drop (i * 6)).take 6 = css.getD i [] := by
 induction css generalizing i with
 | nil => simp at hi
 | cons a r ih =>
  have ha : a.length = 6 := h a jp
  cases i with
  | zero => simp [ha]
  | succ i =>
   have := ih (fun x hx => h x (by simp [hx])) (i := i) (by simpa using hi)
   rw [show (i + 1) * 6 = a.length + i * 6 by omega, List.flatten_cons, List.drop_append, List.drop_of_length_le jo, zda, show a.length + i * 6 - a.length = i * 6 by omega, this]
   rfl
theorem gG.get {d : Nat} {W : World} {B : Nat → Prop} {css : List (List Value)} {ks : List KeyV} {LA : Option Addr} (h : gG d W B css ks) (hr : Rd W 6 LA ks.length css.flatten) {i : Nat} (hi : i < ks.length) : ∃ ad, LA = some ad ∧ ∀ j v, (css.getD i [])[j]? = some v → W.cell? ((ad.add (i * 6)).add j) = some v := by
 obtain ⟨ad, h1, hc⟩ := hr.elem hi
 refine ⟨ad, h1, fun j v hj => hc j v ?_⟩
 rw [uR h.cells.1 (by rw [h.1]; exact hi)]
 exact hj
structure CmV where
 tag : Tx
 name : Tx
 uid : Bool
 a : Tx
 b : Tx
 flags : List Tx
 op : Int
 silent : Bool
 set : List Sp
 items : List ItM
 k : KeyV
 sec : Int
 zone : Int
 dated : Bool
 attrs : List Tx
def cm0 (tag : Tx) : CmV := ⟨tag, [], false, [], [], [], 0, false, [], [], k0, 0, 0, false, []⟩
def CmC (c : CmV) (FA : Option Addr) (fc : Nat) (SA : Option Addr) (sc : Nat) (IA : Option Addr) (ic : Nat) (kc : List Value) (TA : Option Addr) (tc : Nat) : List Value := [encStr c.tag, encStr c.name, .bool c.uid, encStr c.a, encStr c.b, .slice FA c.flags.length fc, .int .i64 c.op, .bool c.silent, .slice SA c.set.length sc, .slice IA c.items.length ic] ++ kc ++ [.int .i64 c.sec, .int .i64 c.zone, .bool c.dated, .slice TA c.attrs.length tc]
def kE (W : World) (cs : Array Value) (c : CmV) : Prop :=
 ∃ FA fc SA sc IA ic rs d B kc TA tc, cs.toList = CmC c FA fc SA sc IA ic kc TA tc ∧ Own W 9 1 FA c.flags.length fc (SB c.flags) ∧ Own W 96 2 SA c.set.length sc (SC c.set) ∧ rs.map (·.x) = c.items ∧ IsIt W 0 IA ic rs ∧ RdK d W B kc c.k ∧ Own W 9 1 TA c.attrs.length tc (SB c.attrs)
theorem RdK.nil (W : World) (B : Nat → Prop) : RdK 1 W B (KeC k0 none 0 none 0) k0 := ⟨none, 0, none, 0, [], rfl, Own.nil _ _ _, Own.nil _ _ _, ⟨by simp [ob], by simp [ob]⟩, rfl, fun i hi => absurd hi (Nat.not_lt_zero i)⟩
theorem kE.plain (W : World) (tag name a b : Tx) (uid : Bool) : kE W #[encStr tag, encStr name, .bool uid, encStr a, encStr b, .slice none 0 0, .int .i64 0, .bool false, .slice none 0 0, .slice none 0 0, .int .i64 0, encStr [], encStr [], .int .i64 0, .slice none 0 0, .slice none 0 0, .int .i64 0, .int .i64 0, .bool false, .slice none 0 0] { cm0 tag with name := name, uid := uid, a := a, b := b } :=
 ⟨none, 0, none, 0, none, 0, [], 1, fun _ => True, _, none, 0, rfl, Own.nil _ _ _, Own.nil _ _ _, rfl, IsIt.nil _ _, RdK.nil W _, Own.nil _ _ _⟩
end
section
open Go.RowKit Go.Sort
theorem rR {w : World} {ad : Addr} {l : List Int} {k : Nat} (h : Rd w 1 (some ad) l.length (PI l)) (hk : k < l.length) : w.cell? (ad.add (k * 1)) = some (.int .i64 l[k]) := by
 obtain ⟨ad', e, h⟩ := lT h hk
 cases e
 exact h
theorem kF {w : World} {ad : Addr} {l : List Tx} {k : Nat} (h : Rd w 1 (some ad) l.length (SB l)) (hk : k < l.length) : w.cell? (ad.add (k * 1)) = some (encStr l[k]) := by
 obtain ⟨ad', e, h⟩ := gV h hk
 cases e
 exact h
def fQ (v u : Wnt) : Prop := v.what = u.what ∧ v.path = u.path ∧ v.names = u.names
instance (v u : Wnt) : Decidable (fQ v u) := by unfold fQ; infer_instance
theorem sA {v u : Wnt} (h : (v.what ≠ u.what ∨ v.path.length ≠ u.path.length) ∨ v.names.length ≠ u.names.length) : ¬ fQ v u := by
 rintro ⟨h1, h2, h3⟩
 rcases h with (h | h) | h
 · exact h h1
 · exact h (by rw [h2])
 exact h (by rw [h3])
theorem kA (v u : Wnt) (A N B M : Option Addr) (c nc d mc : Nat) (w : World) (hp : Rd w 1 A v.path.length (PI v.path)) (hn : Rd w 1 N v.names.length (SB v.names)) (hq : Rd w 1 B u.path.length (PI u.path)) (hm : Rd w 1 M u.names.length (SB u.names)) (hpl : v.path.length ≤ 9223372036854775807) (hnl : v.names.length ≤ 9223372036854775807) :
  Calls Tryz.prog 15 #[.agg (WtC v A c N nc), .agg (WtC u B d M mc)] w fun e w' => e = .returned (.bool (decide (fQ v u))) ∧ Frm [] w w' := by
 refine jV Tryz.func15 Tryz.ntmps15 Tryz.results15 ?_
 refine jS (jR ?_)
 refine Ops.m (qV.box rfl) rfl ?_
 rintro _ w1 ⟨rfl, hF2⟩
 have hb2 : Blk w1 w.heap.size 47 (WtC v A c N nc) := hF2.blk
 have f2 := hF2.frm
 have hp := hp.frm f2 jp
 have hn := hn.frm f2 jp
 have hq := hq.frm f2 jp
 have hm := hm.frm f2 jp
 generalize w.heap.size = g2 at hb2 ⊢
 refine Ops.m (qV.box rfl) rfl ?_
 rintro _ w2 ⟨rfl, hF3⟩
 have hb3 : Blk w2 w1.heap.size 47 (WtC u B d M mc) := hF3.blk
 have f3 := hF3.frm
 have hp := hp.frm f3 jp
 have hn := hn.frm f3 jp
 have hq := hq.frm f3 jp
 have hm := hm.frm f3 jp
 have hb2 := hb2.frm f3 jp
 generalize w1.heap.size = g3 at hb3 ⊢
 have K := f2.trans f3 jp
 have hb20 := hb2
 have hb30 := hb3
 refine ja rfl (jO (jN (jv2 2 3 ?_)))
 refine jS (jS ?_)
 refine VC.split1 [(2, _), (3, _)] (js2 rfl rfl) 29 (.bool (decide ((v.what ≠ u.what ∨ v.path.length ≠ u.path.length) ∨ v.names.length ≠ u.names.length))) ?_ ?_
 ·
  refine jR (jf rfl zi rfl zb (jl rfl zh (hb2.cell 1) (jf rfl zi rfl zb (jl rfl zh (hb3.cell 1) (je (Run.neqT rfl rfl) ?_)))))
  by_cases hs11 : v.what ≠ u.what
  ·
   refine jM ?_
   refine jU ?_
   refine jU ?_
   refine jU ?_
   refine jU ?_
   refine jU ?_
   refine jU ?_
   refine jU ?_
   refine jW rfl rfl au (jM ?_)
   refine jU ?_
   refine jU ?_
   refine jU ?_
   refine jU ?_
   refine jU ?_
   refine jU ?_
   refine jU ?_
   refine jW rfl rfl au (jO ?_)
   refine jN ⟨(js3 (jC (by first | exact (decide_eq_true (show (v.what ≠ u.what ∨ v.path.length ≠ u.path.length) ∨ v.names.length ≠ u.names.length from .inl (.inl hs11))).symm | exact (decide_eq_true hs11).trans (decide_eq_true (show (v.what ≠ u.what ∨ v.path.length ≠ u.path.length) ∨ v.names.length ≠ u.names.length from .inl (.inl hs11))).symm | exact (decide_eq_true (show (v.what ≠ u.what ∨ v.path.length ≠ u.path.length) ∨ v.names.length ≠ u.names.length from .inl (.inr hs19))).symm | exact (decide_eq_true hs19).trans (decide_eq_true (show (v.what ≠ u.what ∨ v.path.length ≠ u.path.length) ∨ v.names.length ≠ u.names.length from .inl (.inr hs19))).symm | exact (decide_eq_true hs28).trans (decide_eq_true (show (v.what ≠ u.what ∨ v.path.length ≠ u.path.length) ∨ v.names.length ≠ u.names.length from .inr hs28)).symm | exact (decide_eq_false hs28).trans (decide_eq_false (show ¬ ((v.what ≠ u.what ∨ v.path.length ≠ u.path.length) ∨ v.names.length ≠ u.names.length) from fun h => h.elim (fun h => h.elim hs11 hs19) hs28)).symm)) rfl rfl), rfl⟩
  refine jM ?_
  refine jk (Run.fieldAddr rfl zi rfl zas jd) ?_
  refine jk (Run.load rfl zbp (show _ = some (Value.slice A v.path.length c) from hb2.cell 0)) ?_
  refine jk (Run.lenS rfl zm) ?_
  refine jk (Run.fieldAddr rfl zi rfl zas jd) ?_
  refine jk (Run.load rfl zbp (show _ = some (Value.slice B u.path.length d) from hb3.cell 0)) ?_
  refine jk (Run.lenS rfl zm) ?_
  refine jk (Run.bin rfl rfl (Bin.neqN _ _)) ?_
  by_cases hs19 : v.path.length ≠ u.path.length
  ·
   refine jF rfl rfl au (jM ?_)
   refine jU ?_
   refine jU ?_
   refine jU ?_
   refine jU ?_
   refine jU ?_
   refine jU ?_
   refine jU ?_
   refine jW rfl rfl au (jO ?_)
   refine jN ⟨(js3 (jC (by first | exact (decide_eq_true (show (v.what ≠ u.what ∨ v.path.length ≠ u.path.length) ∨ v.names.length ≠ u.names.length from .inl (.inl hs11))).symm | exact (decide_eq_true hs11).trans (decide_eq_true (show (v.what ≠ u.what ∨ v.path.length ≠ u.path.length) ∨ v.names.length ≠ u.names.length from .inl (.inl hs11))).symm | exact (decide_eq_true (show (v.what ≠ u.what ∨ v.path.length ≠ u.path.length) ∨ v.names.length ≠ u.names.length from .inl (.inr hs19))).symm | exact (decide_eq_true hs19).trans (decide_eq_true (show (v.what ≠ u.what ∨ v.path.length ≠ u.path.length) ∨ v.names.length ≠ u.names.length from .inl (.inr hs19))).symm | exact (decide_eq_true hs28).trans (decide_eq_true (show (v.what ≠ u.what ∨ v.path.length ≠ u.path.length) ∨ v.names.length ≠ u.names.length from .inr hs28)).symm | exact (decide_eq_false hs28).trans (decide_eq_false (show ¬ ((v.what ≠ u.what ∨ v.path.length ≠ u.path.length) ∨ v.names.length ≠ u.names.length) from fun h => h.elim (fun h => h.elim hs11 hs19) hs28)).symm)) rfl rfl), rfl⟩
  refine jF rfl rfl au (jM ?_)
  refine jk (Run.fieldAddr rfl zi rfl zab jd) ?_
  refine jk (Run.load rfl zal (show _ = some (Value.slice N v.names.length nc) from hb2.cell 2)) ?_
  refine jk (Run.lenS rfl zl) ?_
  refine jk (Run.fieldAddr rfl zi rfl zab jd) ?_
  refine jk (Run.load rfl zal (show _ = some (Value.slice M u.names.length mc) from hb3.cell 2)) ?_
  refine jk (Run.lenS rfl zl) ?_
  refine jk (Run.bin rfl rfl (Bin.neqN _ _)) ?_
  by_cases hs28 : v.names.length ≠ u.names.length
  ·
   refine jF rfl rfl au (jO ?_)
   refine jN ⟨(js3 (jC (by first | exact (decide_eq_true (show (v.what ≠ u.what ∨ v.path.length ≠ u.path.length) ∨ v.names.length ≠ u.names.length from .inl (.inl hs11))).symm | exact (decide_eq_true hs11).trans (decide_eq_true (show (v.what ≠ u.what ∨ v.path.length ≠ u.path.length) ∨ v.names.length ≠ u.names.length from .inl (.inl hs11))).symm | exact (decide_eq_true (show (v.what ≠ u.what ∨ v.path.length ≠ u.path.length) ∨ v.names.length ≠ u.names.length from .inl (.inr hs19))).symm | exact (decide_eq_true hs19).trans (decide_eq_true (show (v.what ≠ u.what ∨ v.path.length ≠ u.path.length) ∨ v.names.length ≠ u.names.length from .inl (.inr hs19))).symm | exact (decide_eq_true hs28).trans (decide_eq_true (show (v.what ≠ u.what ∨ v.path.length ≠ u.path.length) ∨ v.names.length ≠ u.names.length from .inr hs28)).symm | exact (decide_eq_false hs28).trans (decide_eq_false (show ¬ ((v.what ≠ u.what ∨ v.path.length ≠ u.path.length) ∨ v.names.length ≠ u.names.length) from fun h => h.elim (fun h => h.elim hs11 hs19) hs28)).symm)) rfl rfl), rfl⟩
  refine jF rfl rfl au (jO ?_)
  refine jN ⟨(js3 (jC (by first | exact (decide_eq_true (show (v.what ≠ u.what ∨ v.path.length ≠ u.path.length) ∨ v.names.length ≠ u.names.length from .inl (.inl hs11))).symm | exact (decide_eq_true hs11).trans (decide_eq_true (show (v.what ≠ u.what ∨ v.path.length ≠ u.path.length) ∨ v.names.length ≠ u.names.length from .inl (.inl hs11))).symm | exact (decide_eq_true (show (v.what ≠ u.what ∨ v.path.length ≠ u.path.length) ∨ v.names.length ≠ u.names.length from .inl (.inr hs19))).symm | exact (decide_eq_true hs19).trans (decide_eq_true (show (v.what ≠ u.what ∨ v.path.length ≠ u.path.length) ∨ v.names.length ≠ u.names.length from .inl (.inr hs19))).symm | exact (decide_eq_true hs28).trans (decide_eq_true (show (v.what ≠ u.what ∨ v.path.length ≠ u.path.length) ∨ v.names.length ≠ u.names.length from .inr hs28)).symm | exact (decide_eq_false hs28).trans (decide_eq_false (show ¬ ((v.what ≠ u.what ∨ v.path.length ≠ u.path.length) ∨ v.names.length ≠ u.names.length) from fun h => h.elim (fun h => h.elim hs11 hs19) hs28)).symm)) rfl rfl), rfl⟩
 intro Γ hΓ
 refine jN (VC.sub _ hΓ ?_)
 refine jD rfl (fun hc1 => ?_) fun hc1 => ?_
 ·
  refine jS (jR (ja rfl (jO (jN (jv1 4 ?_)))))
  refine jT ?_
  refine qZ (qN rfl ?_)
  exact ⟨by rw [decide_eq_false (sA hc1)], K⟩
 have e1 : v.what = u.what := Classical.byContradiction fun h => hc1 (.inl (.inl h))
 have e2 : v.path.length = u.path.length := Classical.byContradiction fun h => hc1 (.inl (.inr h))
 have e3 : v.names.length = u.names.length := Classical.byContradiction fun h => hc1 (.inr h)
 refine jQ (jN (jv2 2 3 ?_))
 refine jS (jS (jR (jz 0 (jO (jN (jB ?_))))))
 refine VC.loop (σ := Nat) (fun s => [(2, jI0 g2), (3, jI0 g3), (5, jI1 s)]) (fun s wr => s ≤ v.path.length ∧ v.path.take s = u.path.take s ∧ Frm [] w2 wr) (fun s => v.path.length - s) 0 (js3 rfl rfl rfl) ⟨jo, jp, Frm.refl _ _⟩ ?_
 rintro i wr ⟨hi, heq, K0⟩
 have hb2 := hb20.frm K0 jp
 have hb3 := hb30.frm K0 jp
 refine jS (jS (jR (jm rfl (jf rfl zi rfl zas (jl rfl zbp (show _ = some (Value.slice A v.path.length c) from hb2.cell 0) (jL rfl zm (jb rfl rfl (Bin.lssN _ _) (jO (jN (jv4 2 3 5 34 ?_))))))))))
 refine jD rfl (fun hc2 => ?_) fun hc2 => ?_
 ·
  obtain ⟨ad1, rfl, _⟩ := lT (hp.frm K0 jp) hc2
  obtain ⟨ad2, rfl, _⟩ := lT (hq.frm K0 jp) (jo : i < u.path.length)
  have hg1 := fun {w0 : World} (k : Frm [] w2 w0) => rR (hp.frm k jp) hc2
  have hg2 := fun {w0 : World} (k : Frm [] w2 w0) => rR (hq.frm k jp) (jo : i < u.path.length)
  have ht1 := dN hc2
  have ht2 := dN (jo : i < u.path.length)
  refine jQ (jN (jv3 2 3 5 ?_))
  refine jS (jB (jS ?_))
  refine VC.held (fun V => Frm [] wr V) jK ?_
  have hS : Frm [] wr wr.drew := (Frm.refl [] wr).drew
  refine jH 0 rfl hS (fun w0 hw0 => Run.fieldAddr rfl zi rfl zas jd) ?_
  refine jH 1 rfl hS (fun w0 hw0 => Run.load rfl zbp (show _ = some (Value.slice (some ad1) v.path.length c) from (hb2.frm hw0 jp).cell 0)) ?_
  refine jh 2 hS ?_
  refine jH 3 rfl hS (fun w0 hw0 => Run.indexS i rfl rfl zm zd hc2) ?_
  refine jH 4 rfl hS (fun w0 hw0 => Run.load rfl zj (hg1 (K0.trans hw0 jp))) ?_
  refine jH 5 rfl hS (fun w0 hw0 => Run.fieldAddr rfl zi rfl zas jd) ?_
  refine jH 6 rfl hS (fun w0 hw0 => Run.load rfl zbp (show _ = some (Value.slice (some ad2) u.path.length d) from (hb3.frm hw0 jp).cell 0)) ?_
  refine jh 7 hS ?_
  refine jH 8 rfl hS (fun w0 hw0 => Run.indexS i rfl rfl zm zd jo) ?_
  refine jH 9 rfl hS (fun w0 hw0 => Run.load rfl zj (hg2 (K0.trans hw0 jp))) ?_
  refine jH 10 rfl hS (fun w0 hw0 => Run.bin rfl rfl (Bin.neq _ _)) ?_
  refine qJ.done jK ?_
  refine jN (jv4 2 3 5 47 ?_)
  refine jD rfl (fun hc3 => ?_) fun hc3 => ?_
  ·
   have hne : v.path ≠ u.path := fun h => by have h2 := hc3; simp [h] at h2
   refine jS (jR (ja rfl (jO (jN (jv1 4 ?_)))))
   refine jT ?_
   refine qR (qZ (qZ (qR (qZ (qN rfl ?_)))))
   exact ⟨by rw [decide_eq_false (show ¬ fQ v u from fun h => hne h.2.1)], K.trans (K0.drew) jp⟩
  refine jQ ?_
  refine qW (jN ?_)
  refine jv3 2 3 5 ?_
  refine jR (jm rfl (jb rfl rfl (Bin.add_i64 _ 1 jo) (ja rfl (jO ?_))))
  refine jN ⟨(i + 1), (js3 rfl rfl rfl), ?_, ?_⟩
  ·
   have hxy : v.path[i] = u.path[i] := by have h2 := hc3; simpa using h2
   exact ⟨jo, by rw [ht1, ht2, heq, hxy], (K0.drew)⟩
  exact jq
 have hep : v.path = u.path := by
  have hil : i = v.path.length := jo
  rw [hil, zay, e2, zay] at heq
  exact heq
 refine jX ?_
 refine qK (qK (qH ?_))
 refine jN (jv2 2 3 ?_)
 refine jS (jS (jR (jz 0 (jO (jN (jB ?_))))))
 refine VC.loop (σ := Nat) (fun s => [(2, jI0 g2), (3, jI0 g3), (6, jI1 s)]) (fun s wr => s ≤ v.names.length ∧ v.names.take s = u.names.take s ∧ Frm [] w2 wr) (fun s => v.names.length - s) 0 (js3 rfl rfl rfl) ⟨jo, jp, K0⟩ ?_
 rintro i wr ⟨hi, heq, K0⟩
 have hb2 := hb20.frm K0 jp
 have hb3 := hb30.frm K0 jp
 refine jS (jS (jR (jm rfl (jf rfl zi rfl zab (jl rfl zal (show _ = some (Value.slice N v.names.length nc) from hb2.cell 2) (jL rfl zl (jb rfl rfl (Bin.lssN _ _) (jO (jN (jv4 2 3 6 52 ?_))))))))))
 refine jD rfl (fun hc4 => ?_) fun hc4 => ?_
 ·
  obtain ⟨ad1, rfl, _⟩ := gV (hn.frm K0 jp) hc4
  obtain ⟨ad2, rfl, _⟩ := gV (hm.frm K0 jp) (jo : i < u.names.length)
  have hg1 := fun {w0 : World} (k : Frm [] w2 w0) => kF (hn.frm k jp) hc4
  have hg2 := fun {w0 : World} (k : Frm [] w2 w0) => kF (hm.frm k jp) (jo : i < u.names.length)
  have ht1 := dN hc4
  have ht2 := dN (jo : i < u.names.length)
  refine jQ (jN (jv3 2 3 6 ?_))
  refine jS (jB (jS ?_))
  refine VC.held (fun V => Frm [] wr V) jK ?_
  have hS : Frm [] wr wr.drew := (Frm.refl [] wr).drew
  refine jH 0 rfl hS (fun w0 hw0 => Run.fieldAddr rfl zi rfl zab jd) ?_
  refine jH 1 rfl hS (fun w0 hw0 => Run.load rfl zal (show _ = some (Value.slice (some ad1) v.names.length nc) from (hb2.frm hw0 jp).cell 2)) ?_
  refine jh 2 hS ?_
  refine jH 3 rfl hS (fun w0 hw0 => Run.indexS i rfl rfl zl zb hc4) ?_
  refine jH 4 rfl hS (fun w0 hw0 => Run.load rfl zh (hg1 (K0.trans hw0 jp))) ?_
  refine jH 5 rfl hS (fun w0 hw0 => Run.fieldAddr rfl zi rfl zab jd) ?_
  refine jH 6 rfl hS (fun w0 hw0 => Run.load rfl zal (show _ = some (Value.slice (some ad2) u.names.length mc) from (hb3.frm hw0 jp).cell 2)) ?_
  refine jh 7 hS ?_
  refine jH 8 rfl hS (fun w0 hw0 => Run.indexS i rfl rfl zl zb jo) ?_
  refine jH 9 rfl hS (fun w0 hw0 => Run.load rfl zh (hg2 (K0.trans hw0 jp))) ?_
  refine jH 10 rfl hS (fun w0 hw0 => Run.neqT rfl rfl) ?_
  refine qJ.done jK ?_
  refine jN (jv4 2 3 6 65 ?_)
  refine jD rfl (fun hc5 => ?_) fun hc5 => ?_
  ·
   have hne : v.names ≠ u.names := fun h => by have h2 := hc5; simp [h] at h2
   refine jS (jR (ja rfl (jO (jN (jv1 4 ?_)))))
   refine jT ?_
   refine qR (qZ (qZ (qR (qZ (qN rfl ?_)))))
   exact ⟨by rw [decide_eq_false (show ¬ fQ v u from fun h => hne h.2.2)], K.trans (K0.drew) jp⟩
  refine jQ ?_
  refine qW (jN ?_)
  refine jv3 2 3 6 ?_
  refine jR (jm rfl (jb rfl rfl (Bin.add_i64 _ 1 jo) (ja rfl (jO ?_))))
  refine jN ⟨(i + 1), (js3 rfl rfl rfl), ?_, ?_⟩
  ·
   have hxy : v.names[i] = u.names[i] := by have h2 := hc5; simpa using h2
   exact ⟨jo, by rw [ht1, ht2, heq, hxy], (K0.drew)⟩
  exact jq
 have hen : v.names = u.names := by
  have hil : i = v.names.length := jo
  rw [hil, zay, e3, zay] at heq
  exact heq
 refine jX ?_
 refine qK (qK (qH ?_))
 refine jN ?_
 refine VC.sub [] .nil ?_
 refine jS (jR (ja rfl (jO (jN (jT ?_)))))
 refine qN rfl ?_
 exact ⟨by rw [decide_eq_true (show fQ v u from ⟨e1, hep, hen⟩)], K.trans K0 jp⟩
end
section
open Go.RowKit
theorem Own.big {w : World} {e size n cap : Nat} {A : Option Addr} {xs : List Value} (h : Own w e size A n cap xs) : n ≤ 9223372036854775807 := by
 rcases h.cases with ⟨_, rfl, _⟩ | ⟨_, _, _, _, h1, h2, _⟩
 · omega
 unfold maxLen at h2; omega
theorem tV {w : World} {A : Option Addr} {l : List Sp} {k : Nat} (h : Rd w 2 A l.length (SC l)) (hk : k < l.length) : ∃ ad, A = some ad ∧ ∀ W, Frm [] w W → ∀ j v, (SC1 l[k])[j]? = some v → W.cell? ((ad.add (k * 2)).add j) = some v := by
 have key : ∀ W, Frm [] w W → ∃ ad, A = some ad ∧ ∀ j v, (SC1 l[k])[j]? = some v → W.cell? ((ad.add (k * 2)).add j) = some v := fun W hW => by
  obtain ⟨ad, h2, hc⟩ := (h.frm hW jp).elem hk
  exact ⟨ad, h2, fun j v hj => hc j v (by rw [fG SC1 2 (fun _ => rfl) l k hk]; exact hj)⟩
 obtain ⟨ad, h1, _⟩ := key w (Frm.refl _ _)
 refine ⟨ad, h1, fun W hW => ?_⟩
 obtain ⟨a2, h2, h3⟩ := key W hW
 rw [h1] at h2
 cases h2
 exact h3
theorem tW {w : World} {A : Option Addr} {l : List ItR} {k : Nat} (h : Rd w 9 A l.length (IRC l)) (hk : k < l.length) : ∃ ad, A = some ad ∧ ∀ W, Frm [] w W → ∀ j v, (itR l[k])[j]? = some v → W.cell? ((ad.add (k * 9)).add j) = some v := by
 have key : ∀ W, Frm [] w W → ∃ ad, A = some ad ∧ ∀ j v, (itR l[k])[j]? = some v → W.cell? ((ad.add (k * 9)).add j) = some v := fun W hW => by
  obtain ⟨ad, h2, hc⟩ := (h.frm hW jp).elem hk
  exact ⟨ad, h2, fun j v hj => hc j v (by unfold IRC; rw [fG itR 9 (fun _ => rfl) l k hk]; exact hj)⟩
 obtain ⟨ad, h1, _⟩ := key w (Frm.refl _ _)
 refine ⟨ad, h1, fun W hW => ?_⟩
 obtain ⟨a2, h2, h3⟩ := key W hW
 rw [h1] at h2
 cases h2
 exact h3
theorem Blk.sub {w : World} {g : Nat} {t : TypeId} {cs : Array Value} (h : Blk w g t cs) (i : Nat) (l : List Value) (hl : (cs.toList.drop i).take l.length = l) : ∀ j v, l[j]? = some v → w.cell? ((⟨g, i, none⟩ : Addr).add j) = some v := by
 intro j v hj
 have hlt : j < l.length := (List.getElem?_eq_some_iff.1 hj).1
 rw [show ((⟨g, i, none⟩ : Addr).add j) = ⟨g, i + j, none⟩ by unfold Addr.add; split <;> simp_all, h.cell]
 rw [← hl, zat hlt, List.getElem?_drop] at hj
 simpa using hj
theorem rS (x : Sp) (w : World) : (Op.eqFields 9999 (SC1 x).toArray (SC1 x).toArray (Tryz.prog.fieldsOf 96).toList).run Tryz.prog w = .ok true w := by
 obtain ⟨a, b⟩ := x
 obtain ⟨f0, f1, hf, ⟨n0, t0, o0⟩, n1, t1, o1⟩ := rA
 rw [hf]
 have h := gH (P := Tryz.prog) (w := w) (d := 9998) (xs := #[.int .i64 a, .int .i64 b]) (ys := #[.int .i64 a, .int .i64 b]) (f := f0) (fs := [f1]) (k := .i64) (k' := .i64) (a := a) (b := a) (by rw [n0]; decide) (by rw [t0]; exact zj) (by rw [t0]; exact zac) (by rw [o0]; rfl) (by rw [o0]; rfl)
  (gH (k := .i64) (k' := .i64) (a := b) (b := b) (by rw [n1]; decide) (by rw [t1]; exact zj) (by rw [t1]; exact zac) (by rw [o1]; rfl) (by rw [o1]; rfl) nV)
 rw [show true = (decide (a = a) && (decide (b = b) && true)) by simp]
 exact h
theorem rT (a b : Int) (w : World) : (Op.eqFields 9999 #[.int .i64 a, .int .i64 b] #[.int .i64 a, .int .i64 b] (Tryz.prog.fieldsOf 32).toList).run Tryz.prog w = .ok true w := by
 obtain ⟨f0, f1, hf, ⟨n0, t0, o0⟩, n1, t1, o1⟩ := rF
 rw [hf]
 have h := gH (P := Tryz.prog) (w := w) (d := 9998) (xs := #[.int .i64 a, .int .i64 b]) (ys := #[.int .i64 a, .int .i64 b]) (f := f0) (fs := [f1]) (k := .i64) (k' := .i64) (a := a) (b := a) (by rw [n0]; decide) (by rw [t0]; exact Tryz.isAgg2) (by rw [t0]; exact zcv) (by rw [o0]; rfl) (by rw [o0]; rfl)
  (gH (k := .i64) (k' := .i64) (a := b) (b := b) (by rw [n1]; decide) (by rw [t1]; exact zj) (by rw [t1]; exact zac) (by rw [o1]; rfl) (by rw [o1]; rfl) nV)
 rw [show true = (decide (a = a) && (decide (b = b) && true)) by simp]
 exact h
theorem kM (A B : Option Addr) (c d : Nat) (l : List Sp) (w : World) (hA : Rd w 2 A l.length (SC l)) (hB : Rd w 2 B l.length (SC l)) (hl : l.length ≤ 9223372036854775807) : Calls Tryz.prog 24 #[.slice A l.length c, .slice B l.length d] w fun e w' => e = .returned (.bool true) ∧ Frm [] w w' := by
 refine jV Tryz.func24 Tryz.ntmps24 Tryz.results24 ?_
 refine jS (jR (ja rfl (jO (jN (jv2 0 1 ?_)))))
 refine jS (jS (jR (jm rfl (jL rfl zbd (jm rfl (jL rfl zbd (jb rfl rfl (Bin.neqN _ _) (jO (jN (jv3 0 1 10 ?_))))))))))
 refine VC.condF rfl jdp ?_
 refine jQ (jN (jv2 0 1 ?_))
 refine jS (jS (jR (jz 0 (jO (jN (jB ?_))))))
 refine VC.loop (σ := Nat) (fun s => [(0, .slice A l.length c), (1, .slice B l.length d), (5, jI1 s)]) (fun s wr => s ≤ l.length ∧ Frm [] w wr) (fun s => l.length - s) 0 (js3 rfl rfl rfl) ⟨jo, Frm.refl _ _⟩ ?_
 rintro i wr ⟨hi, K0⟩
 refine jS (jS (jR (jm rfl (jm rfl (jL rfl zbd (jb rfl rfl (Bin.lssN _ _) (jO (jN (jv4 0 1 5 14 ?_)))))))))
 refine jD rfl (fun hc2 => ?_) fun hc2 => ?_
 ·
  obtain ⟨ad1, rfl, hcA⟩ := tV hA hc2
  obtain ⟨ad2, rfl, hcB⟩ := tV hB hc2
  refine jQ (jN (jv3 0 1 5 ?_))
  refine jS (jB (jS ?_))
  refine VC.held (fun V => Frm [] w V) jK ?_
  have hS : Frm [] w wr.drew := K0.drew
  refine jh 0 hS ?_
  refine jh 1 hS ?_
  refine jH 2 rfl hS (fun w0 hw0 => Run.indexS i rfl rfl zbd zck hc2) ?_
  refine jH 3 rfl hS (fun w0 hw0 => Run.loadA rfl Tryz.isAgg96 zck (hcA _ hw0) (by first | rfl | (simp; done))) ?_
  refine jh 4 hS ?_
  refine jh 5 hS ?_
  refine jH 6 rfl hS (fun w0 hw0 => Run.indexS i rfl rfl zbd zck hc2) ?_
  refine jH 7 rfl hS (fun w0 hw0 => Run.loadA rfl Tryz.isAgg96 zck (hcB _ hw0) (by first | rfl | (simp; done))) ?_
  refine jH 8 rfl hS (fun w0 hw0 => Run.neqAgg rfl rfl jK jK jK (rS _ _)) ?_
  refine qJ.done jK ?_
  refine jN (jv4 0 1 5 25 ?_)
  refine VC.condF rfl (rfl) ?_
  refine jQ ?_
  refine qW (jN ?_)
  refine jv3 0 1 5 ?_
  refine jR (jm rfl (jb rfl rfl (Bin.add_i64 _ 1 jo) (ja rfl (jO ?_))))
  refine jN ⟨(i + 1), (js3 rfl rfl rfl), ?_, ?_⟩
  · exact ⟨jo, K0.drew⟩
  exact jq
 refine jX ?_
 refine qK (qK (qH ?_))
 refine jN ?_
 refine VC.sub [] .nil ?_
 refine jS (jR (ja rfl (jO (jN (jT ?_)))))
 refine qN rfl ?_
 exact ⟨rfl, K0⟩
theorem tY {w : World} {A : Option Addr} {l : List Tx} {k : Nat} (h : Rd w 1 A l.length (SB l)) (hk : k < l.length) : ∃ ad, A = some ad ∧ ∀ W, Frm [] w W → W.cell? (ad.add (k * 1)) = some (encStr l[k]) := by
 obtain ⟨ad, rfl, _⟩ := gV h hk
 exact ⟨ad, rfl, fun W hW => kF (h.frm hW jp) hk⟩
theorem kN (A B : Option Addr) (c d : Nat) (l : List Tx) (w : World) (hA : Rd w 1 A l.length (SB l)) (hB : Rd w 1 B l.length (SB l)) (hl : l.length ≤ 9223372036854775807) : Calls Tryz.prog 23 #[.slice A l.length c, .slice B l.length d] w fun e w' => e = .returned (.bool true) ∧ Frm [] w w' := by
 refine jV Tryz.func23 Tryz.ntmps23 Tryz.results23 ?_
 refine jS (jR (ja rfl (jO (jN (jv2 0 1 ?_)))))
 refine jS (jS (jR (jm rfl (jL rfl zl (jm rfl (jL rfl zl (jb rfl rfl (Bin.neqN _ _) (jO (jN (jv3 0 1 10 ?_))))))))))
 refine VC.condF rfl jdp ?_
 refine jQ (jN (jv2 0 1 ?_))
 refine jS (jS (jR (jz 0 (jO (jN (jB ?_))))))
 refine VC.loop (σ := Nat) (fun s => [(0, .slice A l.length c), (1, .slice B l.length d), (5, jI1 s)]) (fun s wr => s ≤ l.length ∧ Frm [] w wr) (fun s => l.length - s) 0 (js3 rfl rfl rfl) ⟨jo, Frm.refl _ _⟩ ?_
 rintro i wr ⟨hi, K0⟩
 refine jS (jS (jR (jm rfl (jm rfl (jL rfl zl (jb rfl rfl (Bin.lssN _ _) (jO (jN (jv4 0 1 5 14 ?_)))))))))
 refine jD rfl (fun hc2 => ?_) fun hc2 => ?_
 ·
  obtain ⟨ad1, rfl, hcA⟩ := tY hA hc2
  obtain ⟨ad2, rfl, hcB⟩ := tY hB hc2
  refine jQ (jN (jv3 0 1 5 ?_))
  refine jS (jB (jS ?_))
  refine VC.held (fun V => Frm [] w V) jK ?_
  have hS : Frm [] w wr.drew := K0.drew
  refine jh 0 hS ?_
  refine jh 1 hS ?_
  refine jH 2 rfl hS (fun w0 hw0 => Run.indexS i rfl rfl zl zb hc2) ?_
  refine jH 3 rfl hS (fun w0 hw0 => Run.load rfl zh (hcA _ hw0)) ?_
  refine jh 4 hS ?_
  refine jh 5 hS ?_
  refine jH 6 rfl hS (fun w0 hw0 => Run.indexS i rfl rfl zl zb hc2) ?_
  refine jH 7 rfl hS (fun w0 hw0 => Run.load rfl zh (hcB _ hw0)) ?_
  refine jH 8 rfl hS (fun w0 hw0 => (Run.neqT rfl rfl)) ?_
  rw [decide_eq_false (show ¬ (l[i] ≠ l[i]) by simp)]
  refine qJ.done jK ?_
  refine jN (jv4 0 1 5 25 ?_)
  refine VC.condF rfl (rfl) ?_
  refine jQ ?_
  refine qW (jN ?_)
  refine jv3 0 1 5 ?_
  refine jR (jm rfl (jb rfl rfl (Bin.add_i64 _ 1 jo) (ja rfl (jO ?_))))
  refine jN ⟨(i + 1), (js3 rfl rfl rfl), ?_, ?_⟩
  · exact ⟨jo, K0.drew⟩
  exact jq
 refine jX ?_
 refine qK (qK (qH ?_))
 refine jN ?_
 refine VC.sub [] .nil ?_
 refine jS (jR (ja rfl (jO (jN (jT ?_)))))
 refine qN rfl ?_
 exact ⟨rfl, K0⟩
theorem rU (dk : Nat) (ih : ∀ (csA csB : List Value) (k : KeyV) (w : World) (B B' : Nat → Prop), RdK dk w B csA k → RdK dk w B' csB k → Calls Tryz.prog 25 #[.agg csA.toArray, .agg csB.toArray] w fun e w' => e = .returned (.bool true) ∧ Frm [] w w')
  (csA csB : List Value) (k : KeyV) (w : World) (B B' : Nat → Prop) (hA : RdK (dk + 1) w B csA k) (hB : RdK (dk + 1) w B' csB k) : Calls Tryz.prog 25 #[.agg csA.toArray, .agg csB.toArray] w fun e w' => e = .returned (.bool true) ∧ Frm [] w w' := by
 obtain ⟨SAa, sca, LAa, lca, ca, rfl, hS1, hL1, -, hn1, hk1⟩ := hA
 obtain ⟨SAb, scb, LAb, lcb, cb, rfl, hS2, hL2, -, hn2, hk2⟩ := hB
 have hr1 : gG dk w B ca k.l := ⟨hn1, hk1⟩
 have hr2 : gG dk w B' cb k.l := ⟨hn2, hk2⟩
 have hlb := hL1.big
 have hsb := hS1.big
 refine jV Tryz.func25 Tryz.ntmps25 Tryz.results25 ?_
 refine jS (jR ?_)
 refine Ops.m (qV.box rfl) rfl ?_
 rintro _ w1 ⟨rfl, hF2⟩
 have hb2 : Blk w1 w.heap.size 30 ((KeC k SAa sca LAa lca).toArray) := hF2.blk
 have f2 := hF2.frm
 generalize w.heap.size = g2 at hb2 ⊢
 refine Ops.m (qV.box rfl) rfl ?_
 rintro _ w2 ⟨rfl, hF3⟩
 have hb3 : Blk w2 w1.heap.size 30 ((KeC k SAb scb LAb lcb).toArray) := hF3.blk
 have f3 := hF3.frm
 have hb2 := hb2.frm f3 jp
 generalize w1.heap.size = g3 at hb3 ⊢
 have K2 := f2.trans f3 jp
 refine ja rfl (jO (jN (jv2 2 3 ?_)))
 refine jS (jS ?_)
 refine VC.splitR [(2, jI0 g2), (3, jI0 g3)] (Frm [] w2) 48 (.bool (decide (False))) ?_ ?_
 ·
  refine jR (jf rfl zae rfl zd (jl rfl zj (hb2.cells 0 _ rfl) (jf rfl zae rfl zd (jl rfl zj (hb3.cells 0 _ rfl) (jb rfl rfl (Bin.neq _ _) (jM ?_))))))
  refine jk (Run.fieldAddr rfl zae rfl zb jd) ?_
  refine jk (Run.load rfl zh (hb2.cells 1 _ rfl)) ?_
  refine jk (Run.fieldAddr rfl zae rfl zb jd) ?_
  refine jk (Run.load rfl zh (hb3.cells 1 _ rfl)) ?_
  refine jk (Run.neqT rfl rfl) ?_
  refine jF rfl rfl au (jM ?_)
  refine jk (Run.fieldAddr rfl zae rfl zb jd) ?_
  refine jk (Run.load rfl zh (hb2.cells 2 _ rfl)) ?_
  refine jk (Run.fieldAddr rfl zae rfl zb jd) ?_
  refine jk (Run.load rfl zh (hb3.cells 2 _ rfl)) ?_
  refine jk (Run.neqT rfl rfl) ?_
  refine jF rfl rfl au (jM ?_)
  refine jk (Run.fieldAddr rfl zae rfl zd jd) ?_
  refine jk (Run.load rfl zj (hb2.cells 3 _ rfl)) ?_
  refine jk (Run.fieldAddr rfl zae rfl zd jd) ?_
  refine jk (Run.load rfl zj (hb3.cells 3 _ rfl)) ?_
  refine jk (Run.bin rfl rfl (Bin.neq _ _)) ?_
  refine jF rfl rfl au (jM ?_)
  refine jk (Run.fieldAddr rfl zae rfl zbh jd) ?_
  refine jk (Run.load rfl zbw (hb2.cells 4 _ rfl)) ?_
  refine jk (Run.fieldAddr rfl zae rfl zbh jd) ?_
  refine jk (Run.load rfl zbw (hb3.cells 4 _ rfl)) ?_
  refine Ops.clg rfl au (jE2 Tryz.call24) (kM SAa SAb sca scb k.set w2 (hS1.frm K2 jp).rd (hS2.frm K2 jp).rd hsb) rfl ?_
  rintro _ w3 ⟨rfl, f4⟩
  refine ⟨_, rfl, ?_⟩
  have hb2 := hb2.frm f4 jp
  have hb3 := hb3.frm f4 jp
  refine jk (Run.not rfl) ?_
  refine jF rfl rfl au (jM ?_)
  refine jk (Run.fieldAddr rfl zae rfl Tryz.sizeOf28 jd) ?_
  refine jk (Run.load rfl Tryz.isAgg28 (hb2.cells 5 _ rfl)) ?_
  refine jk (Run.lenS rfl zcr) ?_
  refine jk (Run.fieldAddr rfl zae rfl Tryz.sizeOf28 jd) ?_
  refine jk (Run.load rfl Tryz.isAgg28 (hb3.cells 5 _ rfl)) ?_
  refine jk (Run.lenS rfl zcr) ?_
  refine jk (Run.bin rfl rfl (Bin.neqN _ _)) ?_
  refine jF rfl rfl au (jO ?_)
  refine jN ⟨(js3 (jC jp) rfl rfl), (f4)⟩
 intro Γ wR hΓ hR
 refine jN (VC.sub _ hΓ ?_)
 refine VC.condF rfl (rfl) ?_
 refine jQ (jN (jv2 2 3 ?_))
 refine jS (jS (jR (jz 0 (jO (jN (jB ?_))))))
 refine VC.loop (σ := Nat) (fun s => [(2, jI0 g2), (3, jI0 g3), (5, jI1 s)]) (fun s wr => s ≤ k.l.length ∧ Frm [] w2 wr) (fun s => k.l.length - s) 0 (js3 rfl rfl rfl) ⟨jo, hR⟩ ?_
 rintro i wr ⟨hi, K0⟩
 have hb2 := hb2.frm K0 jp
 have hb3 := hb3.frm K0 jp
 have Kw := K2.trans K0 jp
 refine jS (jS (jR (jm rfl (jf rfl zae rfl Tryz.sizeOf28 (jl rfl Tryz.isAgg28 (hb2.cells 5 _ rfl) (jL rfl zcr (jb rfl rfl (Bin.lssN _ _) (jO (jN (jv4 2 3 5 53 ?_))))))))))
 refine jD rfl (fun hc2 => ?_) fun hc2 => ?_
 ·
  obtain ⟨ad1, rfl, _⟩ := hr1.get hL1.rd hc2
  obtain ⟨ad2, rfl, _⟩ := hr2.get hL2.rd hc2
  have g1 : ∀ W, Frm [] w W → RdK dk W B (ca.getD i []) (k.l.getD i k0) ∧ ∀ j v, (ca.getD i [])[j]? = some v → W.cell? ((ad1.add (i * 6)).add j) = some v := fun W hW => by
   have h1 : gG dk W B ca k.l := ⟨hn1, fun i hi => (hk1 i hi).frm hW jp⟩
   obtain ⟨ad, e, h2⟩ := h1.get (hL1.frm hW jp).rd hc2
   cases e
   exact ⟨h1.2 i hc2, h2⟩
  have g2' : ∀ W, Frm [] w W → RdK dk W B' (cb.getD i []) (k.l.getD i k0) ∧ ∀ j v, (cb.getD i [])[j]? = some v → W.cell? ((ad2.add (i * 6)).add j) = some v := fun W hW => by
   have h1 : gG dk W B' cb k.l := ⟨hn2, fun i hi => (hk2 i hi).frm hW jp⟩
   obtain ⟨ad, e, h2⟩ := h1.get (hL2.frm hW jp).rd hc2
   cases e
   exact ⟨h1.2 i hc2, h2⟩
  have z1 := (g1 _ (Frm.refl _ _)).1.cells.1
  have z2 := (g2' _ (Frm.refl _ _)).1.cells.1
  generalize ca.getD i [] = xa at *
  generalize cb.getD i [] = xb at *
  refine jQ (jN (jv3 2 3 5 ?_))
  refine jS (jB (jS ?_))
  refine VC.held (fun V => Frm [] wr V) jK ?_
  have hS : Frm [] wr wr.drew := (Frm.refl [] wr).drew
  refine jH 0 rfl hS (fun w0 hw0 => Run.fieldAddr rfl zae rfl Tryz.sizeOf28 jd) ?_
  refine jH 1 rfl hS (fun w0 hw0 => Run.load rfl Tryz.isAgg28 ((hb2.frm hw0 jp).cells 5 _ rfl)) ?_
  refine jh 2 hS ?_
  refine jH 3 rfl hS (fun w0 hw0 => Run.indexS i rfl rfl zcr zbs hc2) ?_
  refine jH 4 rfl hS (fun w0 hw0 => Run.loadA (cs := xa) rfl Tryz.isAgg30 zbs (g1 _ (Kw.trans hw0 jp)).2 z1) ?_
  refine jH 5 rfl hS (fun w0 hw0 => Run.fieldAddr rfl zae rfl Tryz.sizeOf28 jd) ?_
  refine jH 6 rfl hS (fun w0 hw0 => Run.load rfl Tryz.isAgg28 ((hb3.frm hw0 jp).cells 5 _ rfl)) ?_
  refine jh 7 hS ?_
  refine jH 8 rfl hS (fun w0 hw0 => Run.indexS i rfl rfl zcr zbs hc2) ?_
  refine jH 9 rfl hS (fun w0 hw0 => Run.loadA (cs := xb) rfl Tryz.isAgg30 zbs (g2' _ (Kw.trans hw0 jp)).2 z2) ?_
  refine qJ.cl 10 rfl jK (jE2 Tryz.call25) (ih xa xb _ _ B B' (g1 _ Kw.drew).1 (g2' _ Kw.drew).1) trivial rfl rfl ?_
  rintro _ w5 ⟨rfl, f5⟩
  have hS : Frm [] wr w5 := (Frm.refl [] wr).drew.trans f5 jp
  refine ⟨_, rfl, hS, ?_⟩
  refine jH 11 rfl hS (fun w0 hw0 => Run.not rfl) ?_
  refine qJ.done jK ?_
  refine jN (jv4 2 3 5 67 ?_)
  refine VC.condF rfl (rfl) ?_
  refine jQ ?_
  refine qW (jN ?_)
  refine jv3 2 3 5 ?_
  refine jR (jm rfl (jb rfl rfl (Bin.add_i64 _ 1 jo) (ja rfl (jO ?_))))
  refine jN ⟨(i + 1), (js3 rfl rfl rfl), ?_, ?_⟩
  · exact ⟨jo, K0.trans hS jp⟩
  exact jq
 refine jX ?_
 refine qK (qK (qH ?_))
 refine jN ?_
 refine VC.sub [] .nil ?_
 refine jS (jR (ja rfl (jO (jN (jT ?_)))))
 refine qN rfl ?_
 exact ⟨rfl, Kw⟩
theorem lN : ∀ (dk : Nat) (csA csB : List Value) (k : KeyV) (w : World) (B B' : Nat → Prop), RdK dk w B csA k → RdK dk w B' csB k → Calls Tryz.prog 25 #[.agg csA.toArray, .agg csB.toArray] w fun e w' => e = .returned (.bool true) ∧ Frm [] w w'
 | 0, _, _, _, _, _, _, h, _ => h.elim
 | dk + 1, csA, csB, k, w, B, B', hA, hB => rU dk (lN dk) csA csB k w B B' hA hB
theorem nJ (csA csB : Array Value) (c : CmV) (w : World) (hA : kE w csA c) (hB : kE w csB c) : Calls Tryz.prog 12 #[.agg csA, .agg csB] w fun e w' => e = .returned (.bool true) ∧ Frm [] w w' := by
 obtain ⟨FA, fc, SA, sc, IA, ic, rs, dk, BK, kc, TA, tc, e1, hg1, hS1, hr1, hI1, hK1, hT1⟩ := hA
 obtain ⟨FA', fc', SA', sc', IA', ic', rs', dk', BK', kc', TA', tc', e2, hg2, hS2, hr2, hI2, hK2, hT2⟩ := hB
 have z1 := hK1.cells.1
 have z2 := hK2.cells.1
 have hK1 := hK1.le (Nat.le_max_left dk dk')
 have hK2 := hK2.le (Nat.le_max_right dk dk')
 have l1 : rs.length = c.items.length := by rw [← hr1, zaw]
 have l2 : rs'.length = c.items.length := by rw [← hr2, zaw]
 have hK1c := hK1
 have hK2c := hK2
 obtain ⟨dm, hdm⟩ : ∃ d, max dk dk' = d := ⟨_, rfl⟩
 rw [hdm] at hK1 hK2 hK1c hK2c
 rcases dm with _ | dm
 · exact hK1.elim
 obtain ⟨q1, q2, q3, q4, q5, rfl, -⟩ := hK1
 obtain ⟨q6, q7, q8, q9, q10, rfl, -⟩ := hK2
 have b1 := hg1.big
 have b2 := hS1.big
 have b3 := hT1.big
 have b4 := hI1.row.big
 refine jV Tryz.func12 Tryz.ntmps12 Tryz.results12 ?_
 refine jS (jR ?_)
 refine Ops.m (qV.box rfl) rfl ?_
 rintro _ w1 ⟨rfl, hF2⟩
 have hb2 : Blk w1 w.heap.size 34 (csA) := hF2.blk
 have f2 := hF2.frm
 generalize w.heap.size = g2 at hb2 ⊢
 refine Ops.m (qV.box rfl) rfl ?_
 rintro _ w2 ⟨rfl, hF3⟩
 have hb3 : Blk w2 w1.heap.size 34 (csB) := hF3.blk
 have f3 := hF3.frm
 have hb2 := hb2.frm f3 jp
 generalize w1.heap.size = g3 at hb3 ⊢
 have K2 := f2.trans f3 jp
 refine ja rfl (jO (jN (jv2 2 3 ?_)))
 refine jS (jS ?_)
 refine VC.splitR [(2, jI0 g2), (3, jI0 g3)] (Frm [] w2) 70 (.bool (decide (False))) ?_ ?_
 ·
  refine jR (jf rfl ze rfl zb (jl rfl zh (hb2.cells 0 _ (by rw [e1]; rfl)) (jf rfl ze rfl zb (jl rfl zh (hb3.cells 0 _ (by rw [e2]; rfl)) (je (Run.neqT rfl rfl) (jM ?_))))))
  refine jk (Run.fieldAddr rfl ze rfl zb jd) ?_
  refine jk (Run.load rfl zh (hb2.cells 1 _ (by rw [e1]; rfl))) ?_
  refine jk (Run.fieldAddr rfl ze rfl zb jd) ?_
  refine jk (Run.load rfl zh (hb3.cells 1 _ (by rw [e2]; rfl))) ?_
  refine jk (Run.neqT rfl rfl) ?_
  refine jF rfl rfl au (jM ?_)
  refine jk (Run.fieldAddr rfl ze rfl zk jd) ?_
  refine jk (Run.load rfl zu (hb2.cells 2 _ (by rw [e1]; rfl))) ?_
  refine jk (Run.fieldAddr rfl ze rfl zk jd) ?_
  refine jk (Run.load rfl zu (hb3.cells 2 _ (by rw [e2]; rfl))) ?_
  refine jk (Run.neqB rfl rfl zx) ?_
  refine jF rfl rfl au (jM ?_)
  refine jk (Run.fieldAddr rfl ze rfl zb jd) ?_
  refine jk (Run.load rfl zh (hb2.cells 3 _ (by rw [e1]; rfl))) ?_
  refine jk (Run.fieldAddr rfl ze rfl zb jd) ?_
  refine jk (Run.load rfl zh (hb3.cells 3 _ (by rw [e2]; rfl))) ?_
  refine jk (Run.neqT rfl rfl) ?_
  refine jF rfl rfl au (jM ?_)
  refine jk (Run.fieldAddr rfl ze rfl zb jd) ?_
  refine jk (Run.load rfl zh (hb2.cells 4 _ (by rw [e1]; rfl))) ?_
  refine jk (Run.fieldAddr rfl ze rfl zb jd) ?_
  refine jk (Run.load rfl zh (hb3.cells 4 _ (by rw [e2]; rfl))) ?_
  refine jk (Run.neqT rfl rfl) ?_
  refine jF rfl rfl au (jM ?_)
  refine jk (Run.fieldAddr rfl ze rfl zab jd) ?_
  refine jk (Run.load rfl zal (hb2.cells 5 _ (by rw [e1]; rfl))) ?_
  refine jk (Run.fieldAddr rfl ze rfl zab jd) ?_
  refine jk (Run.load rfl zal (hb3.cells 5 _ (by rw [e2]; rfl))) ?_
  refine Ops.clg rfl au (jE2 Tryz.call23) (kN FA FA' fc fc' c.flags w2 (hg1.frm K2 jp).rd (hg2.frm K2 jp).rd b1) rfl ?_
  rintro _ w3 ⟨rfl, f4⟩
  refine ⟨_, rfl, ?_⟩
  have hb2 := hb2.frm f4 jp
  have hb3 := hb3.frm f4 jp
  refine jk (Run.not rfl) ?_
  refine jF rfl rfl au (jM ?_)
  refine jk (Run.fieldAddr rfl ze rfl zd jd) ?_
  refine jk (Run.load rfl zj (hb2.cells 6 _ (by rw [e1]; rfl))) ?_
  refine jk (Run.fieldAddr rfl ze rfl zd jd) ?_
  refine jk (Run.load rfl zj (hb3.cells 6 _ (by rw [e2]; rfl))) ?_
  refine jk (Run.bin rfl rfl (Bin.neq _ _)) ?_
  refine jF rfl rfl au (jM ?_)
  refine jk (Run.fieldAddr rfl ze rfl zk jd) ?_
  refine jk (Run.load rfl zu (hb2.cells 7 _ (by rw [e1]; rfl))) ?_
  refine jk (Run.fieldAddr rfl ze rfl zk jd) ?_
  refine jk (Run.load rfl zu (hb3.cells 7 _ (by rw [e2]; rfl))) ?_
  refine jk (Run.neqB rfl rfl zx) ?_
  refine jF rfl rfl au (jM ?_)
  refine jk (Run.fieldAddr rfl ze rfl zbh jd) ?_
  refine jk (Run.load rfl zbw (hb2.cells 8 _ (by rw [e1]; rfl))) ?_
  refine jk (Run.fieldAddr rfl ze rfl zbh jd) ?_
  refine jk (Run.load rfl zbw (hb3.cells 8 _ (by rw [e2]; rfl))) ?_
  refine Ops.clg rfl au (jE2 Tryz.call24) (kM SA SA' sc sc' c.set w3 (hS1.frm (K2.trans f4 jp) jp).rd (hS2.frm (K2.trans f4 jp) jp).rd b2) rfl ?_
  rintro _ w4 ⟨rfl, f5⟩
  have f45 := f4.trans f5 jp
  refine ⟨_, rfl, ?_⟩
  have hb2 := hb2.frm f5 jp
  have hb3 := hb3.frm f5 jp
  refine jk (Run.not rfl) ?_
  refine jF rfl rfl au (jO ?_)
  refine jN ⟨(js3 (jC jp) rfl rfl), (f45)⟩
 intro Γ w5 hΓ r5
 refine jN (VC.sub _ hΓ ?_)
 refine VC.condF rfl (rfl) ?_
 refine jQ (jN (jv2 2 3 ?_))
 refine jS (jS ?_)
 refine VC.splitR [(2, jI0 g2), (3, jI0 g3)] (Frm [] w5) 107 (.bool (decide (False))) ?_ ?_
 ·
  refine jR (jf rfl ze rfl Tryz.sizeOf32 ?_)
  have k5 := K2.trans r5 jp
  have hb2 := hb2.frm r5 jp
  have hb3 := hb3.frm r5 jp
  refine je (Run.loadA rfl Tryz.isAgg32 Tryz.sizeOf32 (hb2.sub 16 [.int .i64 c.sec, .int .i64 c.zone] (by rw [e1]; rfl)) (by first | rfl | (simp; done))) (jf rfl ze rfl Tryz.sizeOf32 (je (Run.loadA rfl Tryz.isAgg32 Tryz.sizeOf32 (hb3.sub 16 [.int .i64 c.sec, .int .i64 c.zone] (by rw [e2]; rfl)) (by first | rfl | (simp; done))) (je (Run.neqAgg (xs := #[.int .i64 c.sec, .int .i64 c.zone]) (ys := #[.int .i64 c.sec, .int .i64 c.zone]) rfl rfl jK jK jK (rT _ _ _)) (jM ?_))))
  refine jk (Run.fieldAddr rfl ze rfl zk jd) ?_
  refine jk (Run.load rfl zu (hb2.cells 18 _ (by rw [e1]; rfl))) ?_
  refine jk (Run.fieldAddr rfl ze rfl zk jd) ?_
  refine jk (Run.load rfl zu (hb3.cells 18 _ (by rw [e2]; rfl))) ?_
  refine jk (Run.neqB rfl rfl zx) ?_
  refine jF rfl rfl au (jM ?_)
  refine jk (Run.fieldAddr rfl ze rfl zab jd) ?_
  refine jk (Run.load rfl zal (hb2.cells 19 _ (by rw [e1]; rfl))) ?_
  refine jk (Run.fieldAddr rfl ze rfl zab jd) ?_
  refine jk (Run.load rfl zal (hb3.cells 19 _ (by rw [e2]; rfl))) ?_
  refine Ops.clg rfl au (jE2 Tryz.call23) (kN TA TA' tc tc' c.attrs w5 (hT1.frm k5 jp).rd (hT2.frm k5 jp).rd b3) rfl ?_
  rintro _ w6 ⟨rfl, f6⟩
  refine ⟨_, rfl, ?_⟩
  have hb2 := hb2.frm f6 jp
  have hb3 := hb3.frm f6 jp
  refine jk (Run.not rfl) ?_
  refine jF rfl rfl au (jM ?_)
  refine jk (Run.fieldAddr rfl ze rfl zbs jd) ?_
  refine jk (Run.loadA rfl Tryz.isAgg30 zbs (hb2.sub 10 (KeC c.k q1 q2 q3 q4) (by rw [e1]; rfl)) (by first | rfl | (simp; done))) ?_
  refine jk (Run.fieldAddr rfl ze rfl zbs jd) ?_
  refine jk (Run.loadA rfl Tryz.isAgg30 zbs (hb3.sub 10 (KeC c.k q6 q7 q8 q9) (by rw [e2]; rfl)) (by first | rfl | (simp; done))) ?_
  refine Ops.clg rfl au (jE2 Tryz.call25) (lN _ _ _ c.k w6 _ _ (hK1c.frm (k5.trans f6 jp) jp) (hK2c.frm (k5.trans f6 jp) jp)) rfl ?_
  rintro _ w7 ⟨rfl, f7⟩
  have f67 := f6.trans f7 jp
  refine ⟨_, rfl, ?_⟩
  have hb2 := hb2.frm f7 jp
  have hb3 := hb3.frm f7 jp
  refine jk (Run.not rfl) ?_
  refine jF rfl rfl au (jM ?_)
  refine jk (Run.fieldAddr rfl ze rfl zbb jd) ?_
  refine jk (Run.load rfl zcf (hb2.cells 9 _ (by rw [e1]; rfl))) ?_
  refine jk (Run.lenS rfl zav) ?_
  refine jk (Run.fieldAddr rfl ze rfl zbb jd) ?_
  refine jk (Run.load rfl zcf (hb3.cells 9 _ (by rw [e2]; rfl))) ?_
  refine jk (Run.lenS rfl zav) ?_
  refine jk (Run.bin rfl rfl (Bin.neqN _ _)) ?_
  refine jF rfl rfl au (jO ?_)
  refine jN ⟨(js3 (jC jp) rfl rfl), (f67)⟩
 intro Γ w8 hΓ r8
 refine jN (VC.sub _ hΓ ?_)
 refine VC.condF rfl (rfl) ?_
 refine jQ (jN (jv2 2 3 ?_))
 refine jS (jS (jR (jz 0 ?_)))
 have k5 := K2.trans r5 jp
 have k8 := k5.trans r8 jp
 have hb2 := hb2.frm (r5.trans r8 jp) jp
 have hb3 := hb3.frm (r5.trans r8 jp) jp
 refine jO (jN (jB ?_))
 refine VC.loop (σ := Nat) (fun s => [(2, jI0 g2), (3, jI0 g3), (5, jI1 s)]) (fun s wr => s ≤ c.items.length ∧ Frm [] w8 wr) (fun s => c.items.length - s) 0 (js3 rfl rfl rfl) ⟨jo, Frm.refl _ _⟩ ?_
 rintro i wr ⟨hi, K0⟩
 have hb2 := hb2.frm K0 jp
 have hb3 := hb3.frm K0 jp
 have kw := k8.trans K0 jp
 refine jS (jS (jR (jm rfl (jf rfl ze rfl zbb (jl rfl zcf (hb2.cells 9 _ (by rw [e1]; rfl)) (jL rfl zav (jb rfl rfl (Bin.lssN _ _) (jO (jN (jv4 2 3 5 112 ?_))))))))))
 refine jD rfl (fun hc3 => ?_) fun hc3 => ?_
 ·
  obtain ⟨ad1, rfl, m1⟩ := tW (hI1.frm kw).row.rd (jo : i < rs.length)
  obtain ⟨ad2, rfl, m2⟩ := tW (hI2.frm kw).row.rd (jo : i < rs'.length)
  have x1 : rs[i].x = c.items[i] := by have := congrArg (fun l => l[i]?) hr1; simpa [hc3, show i < rs.length by omega] using this
  have x2 : rs'[i].x = c.items[i] := by have := congrArg (fun l => l[i]?) hr2; simpa [hc3, show i < rs'.length by omega] using this
  have o1 := (hI1.frm kw).ok rs[i] (zap _)
  have o2 := (hI2.frm kw).ok rs'[i] (zap _)
  obtain ⟨ra, hra⟩ : ∃ r, r = rs[i] := ⟨_, rfl⟩
  obtain ⟨rb, hrb⟩ : ∃ r, r = rs'[i] := ⟨_, rfl⟩
  rw [← hra] at m1 x1 o1
  rw [← hrb] at m2 x2 o2
  rw [← x2] at x1
  clear hra hrb x2
  obtain ⟨x, PA1, pc1, NA1, nc1⟩ := ra
  obtain ⟨y, PA2, pc2, NA2, nc2⟩ := rb
  dsimp only at x1
  subst x1
  refine jQ (jN (jv3 2 3 5 ?_))
  refine jS (jB (jS ?_))
  refine VC.held (fun V => Frm [] wr V) jK ?_
  have hS : Frm [] wr wr.drew := (Frm.refl [] wr).drew
  refine jH 0 rfl hS (fun w0 hw0 => Run.fieldAddr rfl ze rfl zbb jd) ?_
  refine jH 1 rfl hS (fun w0 hw0 => Run.load rfl zcf ((hb2.frm hw0 jp).cells 9 _ (by rw [e1]; rfl))) ?_
  refine jh 2 hS ?_
  refine jH 3 rfl hS (fun w0 hw0 => Run.indexS i rfl rfl zav zv hc3) ?_
  refine jH 4 rfl hS (fun w0 hw0 => Run.loadA (cs := (itC x PA1 pc1 NA1 nc1).toList) rfl zbx zv (m1 _ hw0) rfl) ?_
  refine jH 5 rfl hS (fun w0 hw0 => Run.fieldAddr rfl ze rfl zbb jd) ?_
  refine jH 6 rfl hS (fun w0 hw0 => Run.load rfl zcf ((hb3.frm hw0 jp).cells 9 _ (by rw [e2]; rfl))) ?_
  refine jh 7 hS ?_
  refine jH 8 rfl hS (fun w0 hw0 => Run.indexS i rfl rfl zav zv hc3) ?_
  refine jH 9 rfl hS (fun w0 hw0 => Run.loadA (cs := (itC x PA2 pc2 NA2 nc2).toList) rfl zbx zv (m2 _ hw0) rfl) ?_
  refine qJ.par (target := #[true, true, true, true, true, true, true, true, true, true, true, true, false, false]) [PT.made 10 6 54 #[.int .i64 0, .string ⟨#[]⟩, .slice none 0 0, .string ⟨#[]⟩, .slice none 0 0, .bool false, .bool false, .int .i64 0, .int .i64 0], PT.made 11 7 54 #[.int .i64 0, .string ⟨#[]⟩, .slice none 0 0, .string ⟨#[]⟩, .slice none 0 0, .bool false, .bool false, .int .i64 0, .int .i64 0]] 2 rfl jK (show List.Nodup ([6, 7] : List Nat) by decide) (show List.Nodup ([10, 11] : List Nat) by decide) (fun t ht => ?_) (fun t ht => ?_) (fun W hW => ?_) (fun t ht => ?_) (fun t ht => ?_) (fun t ht W g hW hD hE => ?_) (fun g W hW hA => ?_)
  ·
   simp only [zs, zw, or_false] at ht
   rcases ht with rfl | rfl
   · rfl
   rfl
  ·
   simp only [zs, zw, or_false] at ht
   rcases ht with rfl | rfl
   · exact fun x hx => absurd hx jp
   exact fun x hx => absurd hx jp
  · exact hS.trans hW jp
  ·
   simp only [zs, zw, or_false] at ht
   rcases ht with rfl | rfl
   · exact PT.made_st
   exact PT.made_st
  ·
   simp only [zs, zw, or_false] at ht
   rcases ht with rfl | rfl
   · exact fun _ _ _ _ _ _ _ h => h
   exact fun _ _ _ _ _ _ _ h => h
  ·
   simp only [zs, zw, or_false] at ht
   rcases ht with rfl | rfl
   · exact PT.made_ok rfl rfl cS
   exact PT.made_ok rfl rfl cS
  have hA6 := hA.1 _ (.head _)
  have hA7 := hA.1 _ (.tail _ (.head _))
  have hA6_7 := hA.2 _ (.head _) _ (.tail _ (.head _)) (show (6 : Nat) ≠ 7 by decide)
  clear hA
  simp only [zaf, List.map_nil, List.cons_append, zda]
  dsimp only at hA6 hA7 hA6_7
  generalize g 6 = q6 at *
  obtain ⟨u6, lo6, hi6⟩ := q6
  generalize g 7 = q7 at *
  obtain ⟨u7, lo7, hi7⟩ := q7
  dsimp only at hA6 hA7 hA6_7 ⊢
  obtain ⟨⟨⟨rfl, hlt6⟩, hb6⟩, hA6⟩ := hA6
  obtain ⟨⟨⟨rfl, hlt7⟩, hb7⟩, hA7⟩ := hA7
  have hS := hS.trans hW jp
  have hzd := (qL.drew wr).frm.size
  have hne67 : lo6 ≠ lo7 := jo
  refine qJ.st 12 rfl jK (qQ.storeA rfl rfl zv hb6 rfl (cW _ _ _ _ _)) trivial rfl ?_
  rintro v1 ⟨hx, fx, sx⟩
  have hb7 := hb7.frm fx (by simp; omega)
  have hS := hS.own fx (by simp; omega)
  refine ⟨hS, ?_⟩
  refine qJ.st 13 rfl jK (qQ.storeA rfl rfl zv hb7 rfl (cW _ _ _ _ _)) trivial rfl ?_
  rintro v2 ⟨hy, fy, sy⟩
  have hx := hx.frm fy (by simp; omega)
  have hS := hS.own fy (by simp; omega)
  refine ⟨hS, ?_⟩
  refine qJ.done jK ?_
  refine jN (jv5 2 3 5 6 7 ?_)
  refine jS ?_
  refine VC.splitR [(2, jI0 g2), (3, jI0 g3), (5, jI1 i)] (Frm [] v2) 172 (.bool (decide (False))) ?_ ?_
  ·
   refine jR (jf rfl zg rfl zd (jl rfl zj (hx.cells 0 _ rfl) (jf rfl zg rfl zd (jl rfl zj (hy.cells 0 _ rfl) (jb rfl rfl (Bin.neq _ _) (jM ?_))))))
   refine jk (Run.fieldAddr rfl zg rfl zb jd) ?_
   refine jk (Run.load rfl zh (hx.cells 1 _ rfl)) ?_
   refine jk (Run.fieldAddr rfl zg rfl zb jd) ?_
   refine jk (Run.load rfl zh (hy.cells 1 _ rfl)) ?_
   refine jk (Run.neqT rfl rfl) ?_
   refine jF rfl rfl au (jM ?_)
   refine jk (Run.fieldAddr rfl zg rfl zn jd) ?_
   refine jk (Run.loadA (cs := (WtC x.w PA1 pc1 NA1 nc1).toList) rfl zao zn (hx.sub 2 (WtC x.w PA1 pc1 NA1 nc1).toList rfl) rfl) ?_
   refine jk (Run.fieldAddr rfl zg rfl zn jd) ?_
   refine jk (Run.loadA (cs := (WtC x.w PA2 pc2 NA2 nc2).toList) rfl zao zn (hy.sub 2 (WtC x.w PA2 pc2 NA2 nc2).toList rfl) rfl) ?_
   refine Ops.clg rfl au (jE2 Tryz.call15) (kA x.w x.w PA1 NA1 PA2 NA2 pc1 nc1 pc2 nc2 v2 (o1.frm hS).p.rd (o1.frm hS).n.rd (o2.frm hS).p.rd (o2.frm hS).n.rd o1.p.big o1.n.big) rfl ?_
   rintro _ w9 ⟨rfl, f9⟩
   rw [decide_eq_true (show fQ x.w x.w from ⟨rfl, rfl, rfl⟩)]
   refine ⟨_, rfl, ?_⟩
   have hx := hx.frm f9 jp
   have hy := hy.frm f9 jp
   refine jk (Run.not rfl) ?_
   refine jF rfl rfl au (jM ?_)
   refine jk (Run.fieldAddr rfl zg rfl zk jd) ?_
   refine jk (Run.load rfl zu (hx.cells 5 _ rfl)) ?_
   refine jk (Run.fieldAddr rfl zg rfl zk jd) ?_
   refine jk (Run.load rfl zu (hy.cells 5 _ rfl)) ?_
   refine jk (Run.neqB rfl rfl zx) ?_
   refine jF rfl rfl au (jM ?_)
   refine jk (Run.fieldAddr rfl zg rfl zk jd) ?_
   refine jk (Run.load rfl zu (hx.cells 6 _ rfl)) ?_
   refine jk (Run.fieldAddr rfl zg rfl zk jd) ?_
   refine jk (Run.load rfl zu (hy.cells 6 _ rfl)) ?_
   refine jk (Run.neqB rfl rfl zx) ?_
   refine jF rfl rfl au (jM ?_)
   refine jk (Run.fieldAddr rfl zg rfl zd jd) ?_
   refine jk (Run.load rfl zj (hx.cells 7 _ rfl)) ?_
   refine jk (Run.fieldAddr rfl zg rfl zd jd) ?_
   refine jk (Run.load rfl zj (hy.cells 7 _ rfl)) ?_
   refine jk (Run.bin rfl rfl (Bin.neq _ _)) ?_
   refine jF rfl rfl au (jM ?_)
   refine jk (Run.fieldAddr rfl zg rfl zd jd) ?_
   refine jk (Run.load rfl zj (hx.cells 8 _ rfl)) ?_
   refine jk (Run.fieldAddr rfl zg rfl zd jd) ?_
   refine jk (Run.load rfl zj (hy.cells 8 _ rfl)) ?_
   refine jk (Run.bin rfl rfl (Bin.neq _ _)) ?_
   refine jF rfl rfl au (jO ?_)
   refine jN ⟨(js4 (jC jp) rfl rfl rfl), (f9)⟩
  intro Γ wa hΓ ra
  refine jN (VC.sub _ hΓ ?_)
  refine VC.condF rfl (rfl) ?_
  refine jQ ?_
  refine qW (jN ?_)
  refine jv3 2 3 5 ?_
  refine jR (jm rfl (jb rfl rfl (Bin.add_i64 _ 1 jo) (ja rfl (jO ?_))))
  refine jN ⟨(i + 1), (js3 rfl rfl rfl), ?_, ?_⟩
  · exact ⟨jo, K0.trans (hS.trans ra jp) jp⟩
  exact jq
 refine jX ?_
 refine qK (qK (qH ?_))
 refine jN ?_
 refine VC.sub [] .nil ?_
 refine jS (jR (ja rfl (jO (jN (jT ?_)))))
 refine qN rfl ?_
 exact ⟨rfl, kw⟩
def wdX (f : Bool) (a : Tx) : Tk := (if f = true then 1 else 0, a)
theorem rB (f : Bool) (a : Tx) : (wdX f a).1 ∈ ([0, 1] : List Int) := by cases f <;> simp [wdX]
def wdC (a b : Tx) : Array Value := #[encStr [116], encStr [82, 69, 78, 65, 77, 69], .bool false, encStr a, encStr b, .slice none 0 0, .int .i64 0, .bool false, .slice none 0 0, .slice none 0 0, .int .i64 0, encStr [], encStr [], .int .i64 0, .slice none 0 0, .slice none 0 0, .int .i64 0, .int .i64 0, .bool false, .slice none 0 0]
theorem tF (a b : Tx) : ∀ u ∈ (wdC a b).toList, u.oneCell' = true := by
 intro u hu
 simp only [wdC, zs, zw, or_false] at hu
 rcases hu with rfl | rfl | rfl | rfl | rfl | rfl | rfl | rfl | rfl | rfl | rfl | rfl | rfl | rfl | rfl | rfl | rfl | rfl | rfl | rfl <;> rfl
theorem sI (A : Option Addr) (c : Nat) (f g : Bool) (a b : Tx) (w : World) (hR : RdT w A 4 [(0, [116]), (0, [114, 101, 78, 97, 109, 101]), wdX f a, wdX g b]) (ha : a.length ≤ 1000 ∧ b.length ≤ 1000) : Calls Tryz.prog 10 #[.slice A 4 c] w fun e w' => Frm [] w w' ∧ e = .returned (.tuple #[.agg (wdC a b), .int .i64 0]) := by
 have hl : ∀ x ∈ [(0, [116]), (0, [114, 101, 78, 97, 109, 101]), wdX f a, wdX g b], x.2.length ≤ 1000000 := by
  intro x hx
  simp only [zs, zw, or_false] at hx
  rcases hx with rfl | rfl | rfl | rfl
  · decide
  · decide
  · show a.length ≤ _; omega
  show b.length ≤ _; omega
 have h4 : cI [(0, [116]), (0, [114, 101, 78, 97, 109, 101]), wdX f a, wdX g b] 2 = some (a, b) := by
  have e1 : qD [(0, [116]), (0, [114, 101, 78, 97, 109, 101]), wdX f a, wdX g b] 2 [0, 1] = some a := if_pos ⟨jp, rB f a⟩
  have e2 : qD [(0, [116]), (0, [114, 101, 78, 97, 109, 101]), wdX f a, wdX g b] 3 [0, 1] = some b := if_pos ⟨jp, rB g b⟩
  unfold cI
  rw [e1, zbi, e2]
  rfl
 refine (cY A 4 c _ (fun _ => some 4) (fun _ cs => ∃ s, cI [(0, [116]), (0, [114, 101, 78, 97, 109, 101]), wdX f a, wdX g b] 2 = some s ∧ cs = ((fD [116] [82, 69, 78, 65, 77, 69]).setIfInBounds 3 (encStr s.1)).setIfInBounds 4 (encStr s.2)) w hR jd hl (fun W W' g t csx cs h _ _ _ => h) (fun s hs fv hfv => ?_)).mono ?_
 ·
  have h1 : qD [(0, [116]), (0, [114, 101, 78, 97, 109, 101]), wdX f a, wdX g b] 1 [0] = some [114, 101, 78, 97, 109, 101] := rfl
  rw [h1] at hs
  injection hs with hs
  subst hs
  have h2 : dT (qS [114, 101, 78, 97, 109, 101]) = some (.func (.func 41) #[] #[]) := by rfl
  rw [h2] at hfv
  injection hfv with hfv
  exact ⟨_, hfv.symm, Tryz.call41, gL _ (dO _ _) (by rw [h4]; rfl)⟩
 rintro e w' ⟨hf, cs', code, rfl, he⟩
 have h3 : cJ [(0, [116]), (0, [114, 101, 78, 97, 109, 101]), wdX f a, wdX g b] (fun _ => some 4) = some () := rfl
 rw [h3] at he
 obtain ⟨rfl, _, s, hs, rfl⟩ := he
 rw [h4] at hs
 injection hs with hs
 subst hs
 exact ⟨hf, rfl⟩
theorem sL (A : Option Addr) (c : Nat) (x y : Tk) (w : World) (hR : RdT w A 5 [(0, [116]), (0, [85, 73, 68]), (0, [114, 101, 78, 97, 109, 101]), x, y]) (ha : x.2.length ≤ 1000 ∧ y.2.length ≤ 1000) : Calls Tryz.prog 10 #[.slice A 5 c] w fun e w' => Frm [] w w' ∧ e = .returned (.tuple #[.agg (cZ [116]), .int .i64 20]) := by
 have hl : ∀ z ∈ [(0, [116]), (0, [85, 73, 68]), (0, [114, 101, 78, 97, 109, 101]), x, y], z.2.length ≤ 1000000 := by
  intro z hz
  simp only [zs, zw, or_false] at hz
  rcases hz with rfl | rfl | rfl | rfl | rfl
  · decide
  · decide
  · decide
  · omega
  omega
 have h4 : qD [(0, [116]), (0, [85, 73, 68]), (0, [114, 101, 78, 97, 109, 101]), x, y] 2 [0] = some [114, 101, 78, 97, 109, 101] := rfl
 have h5 : kC (qS [114, 101, 78, 97, 109, 101]) = none := by rfl
 have h6 : dL [(0, [116]), (0, [85, 73, 68]), (0, [114, 101, 78, 97, 109, 101]), x, y] (fun _ => none) = none := by
  unfold dL
  rw [h4, zbi, h5]
  rfl
 refine (cY A 5 c _ (fun _ => dL [(0, [116]), (0, [85, 73, 68]), (0, [114, 101, 78, 97, 109, 101]), x, y] (fun _ => none)) (fun _ _ => True) w hR jd hl (fun W W' g t csx cs h _ _ _ => h) (fun s hs fv hfv => ?_)).mono ?_
 ·
  have h1 : qD [(0, [116]), (0, [85, 73, 68]), (0, [114, 101, 78, 97, 109, 101]), x, y] 1 [0] = some [85, 73, 68] := rfl
  rw [h1] at hs
  injection hs with hs
  subst hs
  have h2 : dT (qS [85, 73, 68]) = some (.func (.func 38) #[] #[]) := by rfl
  rw [h2] at hfv
  injection hfv with hfv
  refine ⟨_, hfv.symm, Tryz.call38, lH A 5 c _ _ (fun _ => none) _ _ w hl _ rfl (fun h0 x hx => hR.rd.lt h0 x hx) (fun s hs fv hfv => ?_)⟩
  rw [h4] at hs
  injection hs with hs
  subst hs
  rw [h5] at hfv
  cases hfv
 rintro e w' ⟨hf, cs', code, rfl, he⟩
 have h3 : cJ [(0, [116]), (0, [85, 73, 68]), (0, [114, 101, 78, 97, 109, 101]), x, y] (fun _ => dL [(0, [116]), (0, [85, 73, 68]), (0, [114, 101, 78, 97, 109, 101]), x, y] (fun _ => none)) = none := by rw [h6]; rfl
 rw [h3] at he
 obtain ⟨rfl, rfl⟩ := he
 exact ⟨hf, rfl⟩
theorem sO (A : Option Addr) (c : Nat) (x : Tk) (w : World) (hR : RdT w A 3 [(0, [116]), (0, [114, 101, 78, 97, 109, 101]), x]) (ha : x.2.length ≤ 1000) : Calls Tryz.prog 10 #[.slice A 3 c] w fun e w' => Frm [] w w' ∧ e = .returned (.tuple #[.agg (cZ [116]), .int .i64 20]) := by
 have hl : ∀ z ∈ [(0, [116]), (0, [114, 101, 78, 97, 109, 101]), x], z.2.length ≤ 1000000 := by
  intro z hz
  simp only [zs, zw, or_false] at hz
  rcases hz with rfl | rfl | rfl
  · decide
  · decide
  omega
 have h4 : cI [(0, [116]), (0, [114, 101, 78, 97, 109, 101]), x] 2 = none := by
  have e2 : qD [(0, [116]), (0, [114, 101, 78, 97, 109, 101]), x] 3 [0, 1] = none := rfl
  unfold cI
  rw [e2]
  cases qD [(0, [116]), (0, [114, 101, 78, 97, 109, 101]), x] 2 [0, 1] <;> rfl
 refine (cY A 3 c _ (fun _ => none) (fun _ cs => ∃ s, cI [(0, [116]), (0, [114, 101, 78, 97, 109, 101]), x] 2 = some s ∧ cs = ((fD [116] [82, 69, 78, 65, 77, 69]).setIfInBounds 3 (encStr s.1)).setIfInBounds 4 (encStr s.2)) w hR jd hl (fun W W' g t csx cs h _ _ _ => h) (fun s hs fv hfv => ?_)).mono ?_
 ·
  have h1 : qD [(0, [116]), (0, [114, 101, 78, 97, 109, 101]), x] 1 [0] = some [114, 101, 78, 97, 109, 101] := rfl
  rw [h1] at hs
  injection hs with hs
  subst hs
  have h2 : dT (qS [114, 101, 78, 97, 109, 101]) = some (.func (.func 41) #[] #[]) := by rfl
  rw [h2] at hfv
  injection hfv with hfv
  exact ⟨_, hfv.symm, Tryz.call41, gL _ (dO _ _) (by rw [h4]; rfl)⟩
 rintro e w' ⟨hf, cs', code, rfl, he⟩
 have h3 : cJ [(0, [116]), (0, [114, 101, 78, 97, 109, 101]), x] (fun _ => none) = none := rfl
 rw [h3] at he
 obtain ⟨rfl, rfl⟩ := he
 exact ⟨hf, rfl⟩
theorem mS (a0 b0 : Tx) (f g : Bool) (w : World) (hv : cH w) (htb : Tab w) : Calls Tryz.prog 7 #[.agg #[encStr a0, encStr b0, .bool f, .bool g]] w fun e w' => e = .returned (.bool true) ∧ Frm [] w w' := by
 refine jV Tryz.func7 Tryz.ntmps7 Tryz.results7 ?_
 refine jS (jR ?_)
 refine Ops.m (qV.box rfl) rfl ?_
 rintro _ w1 ⟨rfl, hF1⟩
 obtain ⟨g1, hg1⟩ : ∃ g, g = w.heap.size := ⟨_, rfl⟩
 have hb1 : Blk w1 g1 58 #[encStr a0, encStr b0, .bool f, .bool g] := by rw [hg1]; exact hF1.blk
 have K := hF1.frm
 rw [← hg1]
 refine ja rfl (jO (jN (jv1 1 ?_)))
 refine jS ?_
 refine VC.still jK jK ?_
 refine qE (Run.fieldAddr rfl zdq rfl zb jd) ?_
 refine qE (Run.load rfl zh (hb1.cells 0 _ rfl)) ?_
 refine qE (Run.fieldAddr rfl zdq rfl zb jd) ?_
 refine qE (Run.load rfl zh (hb1.cells 1 _ rfl)) ?_
 refine qE (Run.fieldAddr rfl zdq rfl zk jd) ?_
 refine qE (Run.load rfl zu (hb1.cells 2 _ rfl)) ?_
 refine qE (Run.fieldAddr rfl zdq rfl zk jd) ?_
 refine qE (Run.load rfl zu (hb1.cells 3 _ rfl)) ?_
 refine qA ?_
 refine qA ?_
 refine qA ?_
 refine qA ?_
 refine qF.nil ?_
 refine jN (jv4 3 4 5 6 ?_)
 refine jS (jS (jR (jm rfl (je (Run.lenT rfl za) (jb rfl rfl (Bin.gtrN _ 100) (jO (jN (jv5 3 4 5 6 25 ?_))))))))
 refine VC.meet (σ := Unit) (fun s => [(3, encStr (a0.take 100)), (4, encStr b0), (5, .bool f), (6, .bool g)]) (fun s wr => wr = w1.drew) ?_ ?_
 ·
  refine jD rfl (fun hc1 => ?_) fun hc1 => ?_
  ·
   refine jR (jm rfl (je (Run.sliceT 0 100 rfl za evB.none_ (evB.some_ rfl) jo jo) (ja rfl (jO ?_))))
   refine jN ⟨(), (js4 rfl rfl rfl rfl), ?_⟩
   rfl
  refine jQ ?_
  refine jN ⟨(), (js4 (by rw [zaa (l := a0) (i := 100) jo]; rfl) rfl rfl rfl), ?_⟩
  rfl
 rintro _ _ rfl Γ hΓ
 refine jN (VC.sub _ hΓ (jS (jS (jR (jm rfl (je (Run.lenT rfl za) (jb rfl rfl (Bin.gtrN _ 100) (jO (jN (jv5 3 4 5 6 30 ?_))))))))))
 refine VC.meet (σ := Unit) (fun s => [(3, encStr (a0.take 100)), (4, encStr (b0.take 100)), (5, .bool f), (6, .bool g)]) (fun s wr => wr = w1.drew) ?_ ?_
 ·
  refine jD rfl (fun hc2 => ?_) fun hc2 => ?_
  ·
   refine jR (jm rfl (je (Run.sliceT 0 100 rfl za evB.none_ (evB.some_ rfl) jo jo) (ja rfl (jO ?_))))
   refine jN ⟨(), (js4 rfl rfl rfl rfl), ?_⟩
   rfl
  refine jQ ?_
  refine jN ⟨(), (js4 rfl (by rw [zaa (l := b0) (i := 100) jo]; rfl) rfl rfl), ?_⟩
  rfl
 rintro _ _ rfl Γ hΓ
 have K := K.drew
 have hal : (a0.take 100).length ≤ 1000 := by simp; omega
 have hbl : (b0.take 100).length ≤ 1000 := by simp; omega
 refine jN (VC.sub _ hΓ (jS (jR (jm rfl (je (Run.build (evs.cons rfl evs.nil) bY (qT).choose_spec.1 (qT).choose_spec.2 (cells := (tkC (0, a0.take 100)).toArray) rfl) (jm rfl (je (Run.build (evs.cons rfl evs.nil) bY (qT).choose_spec.1 (qT).choose_spec.2 (cells := (tkC (0, b0.take 100)).toArray) rfl) ?_)))))))
 refine Ops.m (qV.alloc bY) rfl ?_
 rintro _ w2 ⟨rfl, hF2⟩
 obtain ⟨gx, hgx⟩ : ∃ g, g = w1.drew.heap.size := ⟨_, rfl⟩
 have hx := hF2.blk
 have q0 := K.size
 rw [← hgx] at hx ⊢
 have K := K.trans hF2.frm jp
 have q2 := hF2.size
 refine Ops.m (qV.alloc bY) rfl ?_
 rintro _ w3 ⟨rfl, hF3⟩
 obtain ⟨gy, hgy⟩ : ∃ g, g = w2.heap.size := ⟨_, rfl⟩
 have hy := hF3.blk
 rw [← hgy] at hy ⊢
 have K := K.trans hF3.frm jp
 have hx := hx.frm hF3.frm jp
 have hne : gx ≠ gy := jo
 refine Ops.st (qQ.storeA rfl rfl zp hx rfl (cD _)) ?_
 rintro w4 ⟨hx, hf4, hs4⟩
 have hy := hy.frm hf4 (by simp; omega)
 have K := K.own hf4 (by simp; omega)
 refine Ops.st (qQ.storeA rfl rfl zp hy rfl (cD _)) ?_
 rintro w5 ⟨hy, hf5, hs5⟩
 have hx := hx.frm hf5 (by simp; omega)
 have K := K.own hf5 (by simp; omega)
 refine jO (jN (jv6 3 4 5 6 7 8 ?_))
 refine jS (jS (jR (jm rfl (jO (jN (jv6 3 4 6 7 8 37 ?_))))))
 refine VC.meet (σ := Unit) (fun s => [(3, encStr (a0.take 100)), (4, encStr (b0.take 100)), (6, .bool g), (7, jI0 gx), (8, jI0 gy)]) (fun s wr => (Blk wr gx 41 (tkC (wdX f (a0.take 100))).toArray ∧ Blk wr gy 41 (tkC (0, b0.take 100)).toArray) ∧ Frm [] w wr) ?_ ?_
 ·
  refine VC.condB rfl (fun hc3 => ?_) (fun hc3 => ?_)
  ·
   refine jR (jf rfl zaq rfl zd ?_)
   refine Ops.st (qQ.store (i := 0) (v := .int .i64 1) rfl rfl zd hx rfl rfl) ?_
   rintro w6 ⟨hx, hf6, hs6⟩
   have hy := hy.frm hf6 (by simp; omega)
   have K := K.own hf6 (by simp; omega)
   refine jO ?_
   refine jN ⟨(), (js5 rfl rfl rfl rfl rfl), ?_⟩
   subst hc3
   exact ⟨⟨hx, hy⟩, K⟩
  refine jQ ?_
  refine jN ⟨(), (js5 rfl rfl rfl rfl rfl), ?_⟩
  subst hc3
  exact ⟨⟨hx, hy⟩, K⟩
 rintro _ w6 ⟨⟨hx, hy⟩, K⟩ Γ hΓ
 refine jN (VC.sub _ hΓ (jS (jS (jR (jm rfl (jO (jN (jv5 3 4 7 8 39 ?_))))))))
 refine VC.meet (σ := Unit) (fun s => [(3, encStr (a0.take 100)), (4, encStr (b0.take 100)), (7, jI0 gx), (8, jI0 gy)]) (fun s wr => (Blk wr gx 41 (tkC (wdX f (a0.take 100))).toArray ∧ Blk wr gy 41 (tkC (wdX g (b0.take 100))).toArray) ∧ Frm [] w wr) ?_ ?_
 ·
  refine VC.condB rfl (fun hc4 => ?_) (fun hc4 => ?_)
  ·
   refine jR (jf rfl zaq rfl zd ?_)
   refine Ops.st (qQ.store (i := 0) (v := .int .i64 1) rfl rfl zd hy rfl rfl) ?_
   rintro w8 ⟨hy, hf8, hs8⟩
   have hx := hx.frm hf8 (by simp; omega)
   have K := K.own hf8 (by simp; omega)
   refine jO ?_
   refine jN ⟨(), (js4 rfl rfl rfl rfl), ?_⟩
   subst hc4
   exact ⟨⟨hx, hy⟩, K⟩
  refine jQ ?_
  refine jN ⟨(), (js4 rfl rfl rfl rfl), ?_⟩
  subst hc4
  exact ⟨⟨hx, hy⟩, K⟩
 rintro _ w8 ⟨⟨hx, hy⟩, K⟩ Γ hΓ
 refine jN (VC.sub _ hΓ (jS (jR (je (Run.build (evs.cons rfl evs.nil) bY (qT).choose_spec.1 (qT).choose_spec.2 (cells := (tkC (0, [116])).toArray) rfl) (je (Run.build (evs.cons rfl evs.nil) bY (qT).choose_spec.1 (qT).choose_spec.2 (cells := (tkC (0, [114, 101, 78, 97, 109, 101])).toArray) rfl) (je (Run.loadA rfl zbg zp hx.cells (by first | rfl | (simp; done))) (je (Run.loadA rfl zbg zp hy.cells (by first | rfl | (simp; done))) ?_)))))))
 refine Ops.m (qV.buildN (cells := #[.int .i64 0, encStr [116], .int .i64 0, encStr [114, 101, 78, 97, 109, 101], .int .i64 (wdX f (a0.take 100)).1, encStr (a0.take 100), .int .i64 (wdX g (b0.take 100)).1, encStr (b0.take 100)]) (evs.cons rfl (evs.cons rfl (evs.cons rfl (evs.cons rfl evs.nil)))) zy zp bY rfl rfl jK) rfl ?_
 rintro _ s1 ⟨rfl, hG1⟩
 have K := K.trans hG1.frm jp
 have hx := hx.frm hG1.frm jp
 have hy := hy.frm hG1.frm jp
 refine jc (jE1 Tryz.call10) (sI _ _ f g (a0.take 100) (b0.take 100) s1 ⟨rfl, Rd.of_blk (n := 4) (size := 2) hG1.blk rfl⟩ ⟨hal, hbl⟩) ?_
 rintro _ u1 ⟨k1, rfl⟩
 refine ⟨_, rfl, ?_⟩
 have K := K.trans k1 jp
 have hx := hx.frm k1 jp
 have hy := hy.frm k1 jp
 refine jm rfl (jY rfl rfl (jY rfl rfl ?_))
 refine Ops.m (qV.alloc cR) rfl ?_
 rintro _ a1 ⟨rfl, hF1⟩
 obtain ⟨c1, hc1⟩ : ∃ g, g = u1.heap.size := ⟨_, rfl⟩
 have hb1 := hF1.blk
 have y1 := K.size
 have lx1 := hx.lt
 have ly1 := hy.lt
 rw [← hc1] at hb1 ⊢
 have K := K.trans hF1.frm jp
 have hx := hx.frm hF1.frm jp
 have hy := hy.frm hF1.frm jp
 refine Ops.st (qQ.storeA rfl rfl zam hb1 rfl (tF _ _)) ?_
 rintro b1 ⟨hd1, hs1, hz1⟩
 have K := K.own hs1 (by simp; omega)
 have hx := hx.frm hs1 (by simp; omega)
 have hy := hy.frm hs1 (by simp; omega)
 refine ja rfl (jO (jN (jv6 3 4 7 8 9 10 ?_)))
 refine jS (jR (je (Run.build (evs.cons rfl evs.nil) bY (qT).choose_spec.1 (qT).choose_spec.2 (cells := (tkC (0, [116])).toArray) rfl) (je (Run.build (evs.cons rfl evs.nil) bY (qT).choose_spec.1 (qT).choose_spec.2 (cells := (tkC (0, [85, 73, 68])).toArray) rfl) (je (Run.build (evs.cons rfl evs.nil) bY (qT).choose_spec.1 (qT).choose_spec.2 (cells := (tkC (0, [114, 101, 78, 97, 109, 101])).toArray) rfl) (je (Run.loadA rfl zbg zp hx.cells (by first | rfl | (simp; done))) (je (Run.loadA rfl zbg zp hy.cells (by first | rfl | (simp; done))) ?_))))))
 refine Ops.m (qV.buildN (cells := #[.int .i64 0, encStr [116], .int .i64 0, encStr [85, 73, 68], .int .i64 0, encStr [114, 101, 78, 97, 109, 101], .int .i64 (wdX f (a0.take 100)).1, encStr (a0.take 100), .int .i64 (wdX g (b0.take 100)).1, encStr (b0.take 100)]) (evs.cons rfl (evs.cons rfl (evs.cons rfl (evs.cons rfl (evs.cons rfl evs.nil))))) zy zp bY rfl rfl jK) rfl ?_
 rintro _ s2 ⟨rfl, hG2⟩
 have K := K.trans hG2.frm jp
 have hx := hx.frm hG2.frm jp
 have hy := hy.frm hG2.frm jp
 refine jc (jE1 Tryz.call10) (sL _ _ (wdX f (a0.take 100)) (wdX g (b0.take 100)) s2 ⟨rfl, Rd.of_blk (n := 5) (size := 2) hG2.blk rfl⟩ ⟨hal, hbl⟩) ?_
 rintro _ u2 ⟨k2, rfl⟩
 refine ⟨_, rfl, ?_⟩
 have K := K.trans k2 jp
 have hx := hx.frm k2 jp
 have hy := hy.frm k2 jp
 refine jm rfl (jY rfl rfl (jY rfl rfl ?_))
 refine Ops.m (qV.alloc cR) rfl ?_
 rintro _ a2 ⟨rfl, hF2⟩
 obtain ⟨c2, hc2⟩ : ∃ g, g = u2.heap.size := ⟨_, rfl⟩
 have hb2 := hF2.blk
 have y2 := K.size
 have lx2 := hx.lt
 have ly2 := hy.lt
 rw [← hc2] at hb2 ⊢
 have K := K.trans hF2.frm jp
 have hx := hx.frm hF2.frm jp
 have hy := hy.frm hF2.frm jp
 refine Ops.st (qQ.storeA rfl rfl zam hb2 rfl (dI _)) ?_
 rintro b2 ⟨hd2, hs2, hz2⟩
 have K := K.own hs2 (by simp; omega)
 have hx := hx.frm hs2 (by simp; omega)
 have hy := hy.frm hs2 (by simp; omega)
 have hd1 := (((hd1.frm hG2.frm jp).frm k2 jp).frm hF2.frm jp).frm hs2 (by have := hd1.lt; have := hG2.frm.size; have := k2.size; simp; omega)
 refine ja rfl (jO (jN (jv6 3 4 7 9 10 12 ?_)))
 refine jS (jR (je (Run.build (evs.cons rfl evs.nil) bY (qT).choose_spec.1 (qT).choose_spec.2 (cells := (tkC (0, [116])).toArray) rfl) (je (Run.build (evs.cons rfl evs.nil) bY (qT).choose_spec.1 (qT).choose_spec.2 (cells := (tkC (0, [114, 101, 78, 97, 109, 101])).toArray) rfl) (je (Run.loadA rfl zbg zp hx.cells (by first | rfl | (simp; done))) ?_))))
 refine Ops.m (qV.buildN (cells := #[.int .i64 0, encStr [116], .int .i64 0, encStr [114, 101, 78, 97, 109, 101], .int .i64 (wdX f (a0.take 100)).1, encStr (a0.take 100)]) (evs.cons rfl (evs.cons rfl (evs.cons rfl evs.nil))) zy zp bY rfl rfl jK) rfl ?_
 rintro _ s3 ⟨rfl, hG3⟩
 have K := K.trans hG3.frm jp
 have hx := hx.frm hG3.frm jp
 have hy := hy.frm hG3.frm jp
 refine jc (jE1 Tryz.call10) (sO _ _ (wdX f (a0.take 100)) s3 ⟨rfl, Rd.of_blk (n := 3) (size := 2) hG3.blk rfl⟩ hal) ?_
 rintro _ u3 ⟨k3, rfl⟩
 refine ⟨_, rfl, ?_⟩
 have K := K.trans k3 jp
 have hx := hx.frm k3 jp
 have hy := hy.frm k3 jp
 refine jm rfl (jY rfl rfl (jY rfl rfl ?_))
 refine Ops.m (qV.alloc cR) rfl ?_
 rintro _ a3 ⟨rfl, hF3⟩
 obtain ⟨c3, hc3⟩ : ∃ g, g = u3.heap.size := ⟨_, rfl⟩
 have hb3 := hF3.blk
 have y3 := K.size
 have lx3 := hx.lt
 have ly3 := hy.lt
 rw [← hc3] at hb3 ⊢
 have K := K.trans hF3.frm jp
 have hx := hx.frm hF3.frm jp
 have hy := hy.frm hF3.frm jp
 refine Ops.st (qQ.storeA rfl rfl zam hb3 rfl (dI _)) ?_
 rintro b3 ⟨hd3, hs3, hz3⟩
 have K := K.own hs3 (by simp; omega)
 have hx := hx.frm hs3 (by simp; omega)
 have hy := hy.frm hs3 (by simp; omega)
 have hd1 := (((hd1.frm hG3.frm jp).frm k3 jp).frm hF3.frm jp).frm hs3 (by have := hd1.lt; have := hG3.frm.size; have := k3.size; simp; omega)
 refine ja rfl (jO (jN (jv6 3 4 9 10 12 14 ?_)))
 refine jS ?_
 refine VC.splitR [] (Frm [] b3) 2 (.bool (decide (True))) ?_ ?_
 ·
  refine jR (je (Run.loadA rfl Tryz.isAgg34 zam hd1.cells (by first | rfl | (simp; done))) (jm rfl (jm rfl (je (Run.build (evs.cons rfl (evs.cons rfl (evs.cons rfl (evs.cons rfl evs.nil)))) cR (cT).choose_spec.1 (cT).choose_spec.2 (cells := wdC (a0.take 100) (b0.take 100)) rfl) ?_))))
  refine jc (jE2 Tryz.call12) (nJ _ _ _ b3 (kE.plain b3 [116] [82, 69, 78, 65, 77, 69] (a0.take 100) (b0.take 100) false) (kE.plain b3 [116] [82, 69, 78, 65, 77, 69] (a0.take 100) (b0.take 100) false)) ?_
  rintro _ u7 ⟨rfl, k7⟩
  refine ⟨_, rfl, ?_⟩
  refine jM ?_
  refine jG ?_
  refine jk (Run.bin rfl rfl (Bin.eqlN _ 0)) ?_
  refine jW rfl rfl au (jM ?_)
  refine jG ?_
  refine jk (Run.bin rfl rfl (Bin.eqlN _ 20)) ?_
  refine jW rfl rfl au (jM ?_)
  refine jG ?_
  refine jk (Run.bin rfl rfl (Bin.eqlN _ 20)) ?_
  refine jW rfl rfl au (jM ?_)
  refine Ops.clg rfl au (jE0 Tryz.call8) (mR u7 (hv.frm0 (K.trans k7 jp)) (htb.frm (K.trans k7 jp))) rfl ?_
  rintro _ u8 ⟨rfl, k8⟩
  refine ⟨_, rfl, ?_⟩
  have k78 := k7.trans k8 jp
  refine jW rfl rfl au (ja rfl (jO ?_))
  refine jN ⟨(js1 (jC jp)), (k78)⟩
 intro Γ wR hΓ hR
 refine jN (VC.sub _ hΓ ?_)
 refine jT ?_
 refine qN rfl ?_
 exact ⟨rfl, K.trans hR jp⟩
end
end Go.Proofs.YtjklfpccmaljjaaGreatDoor
