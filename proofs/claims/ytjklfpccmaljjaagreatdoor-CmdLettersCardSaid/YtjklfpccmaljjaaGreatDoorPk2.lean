/-
  Lemmas on the way, joined: CmdH, CmdI, Eng27, CmdJ, CmdL, CmdM, CmdN, CmdO, CmdP, CmdQ, Eng28, Eng29, CmdR, CmdV, CmdW, CmdY, CmdZ, FlagP, FlagW, DateP, DateW, DatA, DatB, DatC.
-/
import Derived.Lib.AtoiBound
import Derived.Lib.ItoaLen
import Derived.Lib.DecodeN
import Derived.Test.YtjklfpccmaljjaaGreatDoorPk1
set_option maxRecDepth 100000
set_option linter.unusedVariables false
set_option linter.unusedSimpArgs false
set_option maxHeartbeats 8000000
namespace Go.Proofs.YtjklfpccmaljjaaGreatDoor
section
open Go.RowKit
structure ItM where
 kind : Int
 label : Tx
 w : Wnt
 peek : Bool
 part : Bool
 frm : Int
 n : Int
def it0 : ItM := ⟨0, [], bB, false, false, 0, 0⟩
def itC (x : ItM) (PA : Option Addr) (pc : Nat) (NA : Option Addr) (nc : Nat) : Array Value := #[.int .i64 x.kind, encStr x.label, .slice PA x.w.path.length pc, encStr x.w.what, .slice NA x.w.names.length nc, .bool x.peek, .bool x.part, .int .i64 x.frm, .int .i64 x.n]
theorem eG (x : ItM) (PA : Option Addr) (pc : Nat) (NA : Option Addr) (nc : Nat) : ∀ u ∈ (itC x PA pc NA nc).toList, u.oneCell' = true := by
 intro u hu
 simp only [itC, zab, zag, or_false] at hu
 rcases hu with rfl | rfl | rfl | rfl | rfl | rfl | rfl | rfl | rfl <;> rfl
def lG (t : Tx) : Option ItM := if t = [70, 76, 65, 71, 83] then some ⟨0, [70, 76, 65, 71, 83], bB, false, false, 0, 0⟩ else if t = [85, 73, 68] then some ⟨1, [85, 73, 68], bB, false, false, 0, 0⟩ else if t = [73, 78, 84, 69, 82, 78, 65, 76, 68, 65, 84, 69] then some ⟨2, [73, 78, 84, 69, 82, 78, 65, 76, 68, 65, 84, 69], bB, false, false, 0, 0⟩ else if t = [82, 70, 67, 56, 50, 50, 46, 83, 73, 90, 69] then some ⟨3, [82, 70, 67, 56, 50, 50, 46, 83, 73, 90, 69], bB, false, false, 0, 0⟩ else if t = [69, 78, 86, 69, 76, 79, 80, 69] then some ⟨4, [69, 78, 86, 69, 76, 79, 80, 69], bB, false, false, 0, 0⟩ else if t = [66, 79, 68, 89] then some ⟨5, [66, 79, 68, 89], bB, false, false, 0, 0⟩ else if t = [66, 79, 68, 89, 83, 84, 82, 85, 67, 84, 85, 82, 69] then some ⟨5, [66, 79, 68, 89, 83, 84, 82, 85, 67, 84, 85, 82, 69], bB, false, false, 0, 0⟩ else if t = [82, 70, 67, 56, 50, 50] then some ⟨6, [82, 70, 67, 56, 50, 50], ⟨[], [], []⟩, false, false, 0, 0⟩ else if t = [82, 70, 67, 56, 50, 50, 46, 72, 69, 65, 68, 69, 82] then some ⟨6, [82, 70, 67, 56, 50, 50, 46, 72, 69, 65, 68, 69, 82], ⟨[], [72, 69, 65, 68, 69, 82], []⟩, true, false, 0, 0⟩ else if t = [82, 70, 67, 56, 50, 50, 46, 84, 69, 88, 84] then some ⟨6, [82, 70, 67, 56, 50, 50, 46, 84, 69, 88, 84], ⟨[], [84, 69, 88, 84], []⟩, false, false, 0, 0⟩ else none
theorem gX (a p : Tx) (w : World) : Calls Tryz.prog 146 #[encStr a, encStr p] w fun e w' => e = .returned (encStr (Lib.trimPrefix a p)) ∧ w = w' :=
 (Tryz.strings_TrimPrefix ⟨a.toArray⟩ ⟨p.toArray⟩ w).mono fun e w' ⟨h1, h2⟩ => ⟨h1, h2.symm⟩
theorem uB (t : Tx) (w : World) (hs : t.length ≤ 1000000) : Calls Tryz.prog 104 #[encStr t] w fun e w' => e = .returned (.tuple #[.agg (itC ((lG t).getD it0) none 0 none 0), .bool (lG t).isSome]) ∧ Frm [] w w' := by
 refine jV Tryz.func104 Tryz.ntmps104 Tryz.results104 ?_
 refine jS (jR ?_)
 refine Ops.m (qH.alloc eC) rfl ?_
 rintro _ w1 ⟨rfl, hF1⟩
 obtain ⟨g2, hg2⟩ : ∃ g2, g2 = w.heap.size := ⟨_, rfl⟩
 have hz2 : Blk w1 g2 54 (itC it0 none 0 none 0) := by rw [hg2]; exact hF1.blk
 rw [← hg2]
 refine ja rfl (jO (jN (jv2 0 2 ?_)))
 refine jS (jR (jm rfl (je (Run.build (evs.cons rfl evs.nil) eC (gY).choose_spec.1 (gY).choose_spec.2 (cells := itC ⟨0, t, bB, false, false, 0, 0⟩ none 0 none 0) rfl) ?_)))
 refine Ops.m (qH.alloc eC) rfl ?_
 rintro _ w2 ⟨rfl, hF2⟩
 obtain ⟨gx, hgx⟩ : ∃ gx, gx = w1.heap.size := ⟨_, rfl⟩
 have hbx : Blk w2 gx 54 (itC it0 none 0 none 0) := by rw [hgx]; exact hF2.blk
 have hz2 := hz2.frm hF2.frm jp
 have q1 := hF1.frm.size
 have hgg : g2 ≠ gx := by have := hF1.size; omega
 rw [← hgx]
 refine Ops.st (qJ.storeA rfl rfl zar hbx rfl (eG _ _ _ _ _)) ?_
 rintro w3 ⟨hb, hf3, hs3⟩
 have hz2 := hz2.frm hf3 (by simp; exact hgg)
 have K3 : Frm [] w w3 := (hF1.frm.trans hF2.frm jp).own hf3 (by simp; omega)
 refine jO (jN (jv3 0 2 4 ?_))
 refine jS (jS (jR (jm rfl (jO (jN (jB (jS (jR (je (Run.eqlT rfl rfl) (ja rfl (jO (jN (jv5 0 2 4 7 9 ?_)))))))))))))
 refine VC.meet (σ := ItM) (fun s => [(2, jI0 g2), (4, jI0 gx)]) (fun s wm => lG t = some s ∧ Blk wm gx 54 (itC s none 0 none 0) ∧ Blk wm g2 54 (itC it0 none 0 none 0) ∧ Frm [] w wm) ?_ ?_
 ·
  refine jD rfl (fun hc1 => ?_) fun hc1 => ?_
  ·
   subst hc1
   refine jR (jf rfl zm rfl zc ?_)
   refine Ops.st (qJ.store (i := 0) (v := .int .i64 0) rfl rfl zc hb rfl rfl) ?_
   rintro w4 ⟨hb4, hf4, hs4⟩
   have hz4 := hz2.frm hf4 (by simp; exact hgg)
   have K4 := K3.own hf4 (by simp; omega)
   refine jO ?_
   refine jN ⟨⟨0, [70, 76, 65, 71, 83], bB, false, false, 0, 0⟩, (js2 rfl rfl), ?_⟩
   exact ⟨rfl, hb4, hz4, K4⟩
  refine jS (jR (je (Run.eqlT rfl rfl) (ja rfl (jO (jN (jv5 0 2 4 7 12 ?_))))))
  refine jD rfl (fun hc2 => ?_) fun hc2 => ?_
  ·
   subst hc2
   refine jR (jf rfl zm rfl zc ?_)
   refine Ops.st (qJ.store (i := 0) (v := .int .i64 1) rfl rfl zc hb rfl rfl) ?_
   rintro w4 ⟨hb4, hf4, hs4⟩
   have hz4 := hz2.frm hf4 (by simp; exact hgg)
   have K4 := K3.own hf4 (by simp; omega)
   refine jO ?_
   refine jN ⟨⟨1, [85, 73, 68], bB, false, false, 0, 0⟩, (js2 rfl rfl), ?_⟩
   exact ⟨rfl, hb4, hz4, K4⟩
  refine jS (jR (je (Run.eqlT rfl rfl) (ja rfl (jO (jN (jv5 0 2 4 7 15 ?_))))))
  refine jD rfl (fun hc3 => ?_) fun hc3 => ?_
  ·
   subst hc3
   refine jR (jf rfl zm rfl zc ?_)
   refine Ops.st (qJ.store (i := 0) (v := .int .i64 2) rfl rfl zc hb rfl rfl) ?_
   rintro w4 ⟨hb4, hf4, hs4⟩
   have hz4 := hz2.frm hf4 (by simp; exact hgg)
   have K4 := K3.own hf4 (by simp; omega)
   refine jO ?_
   refine jN ⟨⟨2, [73, 78, 84, 69, 82, 78, 65, 76, 68, 65, 84, 69], bB, false, false, 0, 0⟩, (js2 rfl rfl), ?_⟩
   exact ⟨rfl, hb4, hz4, K4⟩
  refine jS (jR (je (Run.eqlT rfl rfl) (ja rfl (jO (jN (jv5 0 2 4 7 18 ?_))))))
  refine jD rfl (fun hc4 => ?_) fun hc4 => ?_
  ·
   subst hc4
   refine jR (jf rfl zm rfl zc ?_)
   refine Ops.st (qJ.store (i := 0) (v := .int .i64 3) rfl rfl zc hb rfl rfl) ?_
   rintro w4 ⟨hb4, hf4, hs4⟩
   have hz4 := hz2.frm hf4 (by simp; exact hgg)
   have K4 := K3.own hf4 (by simp; omega)
   refine jO ?_
   refine jN ⟨⟨3, [82, 70, 67, 56, 50, 50, 46, 83, 73, 90, 69], bB, false, false, 0, 0⟩, (js2 rfl rfl), ?_⟩
   exact ⟨rfl, hb4, hz4, K4⟩
  refine jS (jR (je (Run.eqlT rfl rfl) (ja rfl (jO (jN (jv5 0 2 4 7 21 ?_))))))
  refine jD rfl (fun hc5 => ?_) fun hc5 => ?_
  ·
   subst hc5
   refine jR (jf rfl zm rfl zc ?_)
   refine Ops.st (qJ.store (i := 0) (v := .int .i64 4) rfl rfl zc hb rfl rfl) ?_
   rintro w4 ⟨hb4, hf4, hs4⟩
   have hz4 := hz2.frm hf4 (by simp; exact hgg)
   have K4 := K3.own hf4 (by simp; omega)
   refine jO ?_
   refine jN ⟨⟨4, [69, 78, 86, 69, 76, 79, 80, 69], bB, false, false, 0, 0⟩, (js2 rfl rfl), ?_⟩
   exact ⟨rfl, hb4, hz4, K4⟩
  refine jS (jS (jR (je (Run.eqlT rfl rfl) (ja rfl (jO (jN (jv5 0 2 4 7 24 ?_)))))))
  refine jD rfl (fun hc6 => ?_) fun hc6 => ?_
  ·
   subst hc6
   refine jQ (jN ?_)
   refine VC.condT rfl (rfl) ?_
   refine jR (jf rfl zm rfl zc ?_)
   refine Ops.st (qJ.store (i := 0) (v := .int .i64 5) rfl rfl zc hb rfl rfl) ?_
   rintro w4 ⟨hb4, hf4, hs4⟩
   have hz4 := hz2.frm hf4 (by simp; exact hgg)
   have K4 := K3.own hf4 (by simp; omega)
   refine jO ?_
   refine jN ⟨⟨5, [66, 79, 68, 89], bB, false, false, 0, 0⟩, (js2 rfl rfl), ?_⟩
   exact ⟨rfl, hb4, hz4, K4⟩
  refine jR (je (Run.eqlT rfl rfl) (ja rfl (jO (jN (jv5 0 2 4 7 24 ?_)))))
  refine jD rfl (fun hc7 => ?_) fun hc7 => ?_
  ·
   subst hc7
   refine jR (jf rfl zm rfl zc ?_)
   refine Ops.st (qJ.store (i := 0) (v := .int .i64 5) rfl rfl zc hb rfl rfl) ?_
   rintro w4 ⟨hb4, hf4, hs4⟩
   have hz4 := hz2.frm hf4 (by simp; exact hgg)
   have K4 := K3.own hf4 (by simp; omega)
   refine jO ?_
   refine jN ⟨⟨5, [66, 79, 68, 89, 83, 84, 82, 85, 67, 84, 85, 82, 69], bB, false, false, 0, 0⟩, (js2 rfl rfl), ?_⟩
   exact ⟨rfl, hb4, hz4, K4⟩
  refine jS (jS (jR (je (Run.eqlT rfl rfl) (ja rfl (jO (jN (jv5 0 2 4 7 28 ?_)))))))
  refine jD rfl (fun hc8 => ?_) fun hc8 => ?_
  ·
   subst hc8
   refine jQ (jN (jv4 0 2 4 28 ?_))
   refine VC.condT rfl (rfl) ?_
   refine jS (jR (jf rfl zm rfl zc ?_))
   refine Ops.st (qJ.store (i := 0) (v := .int .i64 6) rfl rfl zc hb rfl rfl) ?_
   rintro w4 ⟨hb4, hf4, hs4⟩
   have hz4 := hz2.frm hf4 (by simp; exact hgg)
   have K4 := K3.own hf4 (by simp; omega)
   refine jO (jN (jv3 0 2 4 ?_))
   refine jS (jR (jM ?_))
   refine jc0 (jE2 zei) (gX [82, 70, 67, 56, 50, 50] [82, 70, 67, 56, 50, 50] _) ?_
   rw [show Lib.trimPrefix [82, 70, 67, 56, 50, 50] [82, 70, 67, 56, 50, 50] = [] by decide]
   refine jc0 (jE2 zei) (gX [] [46] _) ?_
   rw [show Lib.trimPrefix [] [46] = [] by decide]
   refine jf rfl zm rfl zx (jf rfl zo rfl zd ?_)
   refine Ops.st (qJ.store (i := 3) (v := encStr []) rfl rfl zd hb4 rfl rfl) ?_
   rintro w5 ⟨hb5, hf5, hs5⟩
   have hf5 : Frm [gx] w4 w5 := hf5
   have hz5 := hz4.frm hf5 (by simp; exact hgg)
   have K5 := K4.own hf5 (by simp; omega)
   refine jO (jN (jv3 0 2 4 ?_))
   refine jR (jm rfl (je (Run.eqlT rfl rfl) (jf rfl zm rfl zq ?_)))
   refine Ops.st (qJ.store (i := 5) (v := .bool false) rfl rfl zq hb5 rfl rfl) ?_
   rintro w6 ⟨hb6, hf6, hs6⟩
   have hz6 := hz5.frm hf6 (by simp; exact hgg)
   have K6 := K5.own hf6 (by simp; omega)
   refine jO ?_
   refine jN ⟨⟨6, [82, 70, 67, 56, 50, 50], ⟨[], [], []⟩, false, false, 0, 0⟩, (js2 rfl rfl), ?_⟩
   exact ⟨rfl, hb6, hz6, K6⟩
  refine jS (jR (je (Run.eqlT rfl rfl) (ja rfl (jO (jN (jv5 0 2 4 7 28 ?_))))))
  refine jD rfl (fun hc9 => ?_) fun hc9 => ?_
  ·
   subst hc9
   refine jQ (jN (jv4 0 2 4 28 ?_))
   refine VC.condT rfl (rfl) ?_
   refine jS (jR (jf rfl zm rfl zc ?_))
   refine Ops.st (qJ.store (i := 0) (v := .int .i64 6) rfl rfl zc hb rfl rfl) ?_
   rintro w4 ⟨hb4, hf4, hs4⟩
   have hz4 := hz2.frm hf4 (by simp; exact hgg)
   have K4 := K3.own hf4 (by simp; omega)
   refine jO (jN (jv3 0 2 4 ?_))
   refine jS (jR (jM ?_))
   refine jc0 (jE2 zei) (gX [82, 70, 67, 56, 50, 50, 46, 72, 69, 65, 68, 69, 82] [82, 70, 67, 56, 50, 50] _) ?_
   rw [show Lib.trimPrefix [82, 70, 67, 56, 50, 50, 46, 72, 69, 65, 68, 69, 82] [82, 70, 67, 56, 50, 50] = [46, 72, 69, 65, 68, 69, 82] by decide]
   refine jc0 (jE2 zei) (gX [46, 72, 69, 65, 68, 69, 82] [46] _) ?_
   rw [show Lib.trimPrefix [46, 72, 69, 65, 68, 69, 82] [46] = [72, 69, 65, 68, 69, 82] by decide]
   refine jf rfl zm rfl zx (jf rfl zo rfl zd ?_)
   refine Ops.st (qJ.store (i := 3) (v := encStr [72, 69, 65, 68, 69, 82]) rfl rfl zd hb4 rfl rfl) ?_
   rintro w5 ⟨hb5, hf5, hs5⟩
   have hf5 : Frm [gx] w4 w5 := hf5
   have hz5 := hz4.frm hf5 (by simp; exact hgg)
   have K5 := K4.own hf5 (by simp; omega)
   refine jO (jN (jv3 0 2 4 ?_))
   refine jR (jm rfl (je (Run.eqlT rfl rfl) (jf rfl zm rfl zq ?_)))
   refine Ops.st (qJ.store (i := 5) (v := .bool true) rfl rfl zq hb5 rfl rfl) ?_
   rintro w6 ⟨hb6, hf6, hs6⟩
   have hz6 := hz5.frm hf6 (by simp; exact hgg)
   have K6 := K5.own hf6 (by simp; omega)
   refine jO ?_
   refine jN ⟨⟨6, [82, 70, 67, 56, 50, 50, 46, 72, 69, 65, 68, 69, 82], ⟨[], [72, 69, 65, 68, 69, 82], []⟩, true, false, 0, 0⟩, (js2 rfl rfl), ?_⟩
   exact ⟨rfl, hb6, hz6, K6⟩
  refine jR (je (Run.eqlT rfl rfl) (ja rfl (jO (jN (jv4 0 2 4 28 ?_)))))
  refine jD rfl (fun hc10 => ?_) fun hc10 => ?_
  ·
   subst hc10
   refine jS (jR (jf rfl zm rfl zc ?_))
   refine Ops.st (qJ.store (i := 0) (v := .int .i64 6) rfl rfl zc hb rfl rfl) ?_
   rintro w4 ⟨hb4, hf4, hs4⟩
   have hz4 := hz2.frm hf4 (by simp; exact hgg)
   have K4 := K3.own hf4 (by simp; omega)
   refine jO (jN (jv3 0 2 4 ?_))
   refine jS (jR (jM ?_))
   refine jc0 (jE2 zei) (gX [82, 70, 67, 56, 50, 50, 46, 84, 69, 88, 84] [82, 70, 67, 56, 50, 50] _) ?_
   rw [show Lib.trimPrefix [82, 70, 67, 56, 50, 50, 46, 84, 69, 88, 84] [82, 70, 67, 56, 50, 50] = [46, 84, 69, 88, 84] by decide]
   refine jc0 (jE2 zei) (gX [46, 84, 69, 88, 84] [46] _) ?_
   rw [show Lib.trimPrefix [46, 84, 69, 88, 84] [46] = [84, 69, 88, 84] by decide]
   refine jf rfl zm rfl zx (jf rfl zo rfl zd ?_)
   refine Ops.st (qJ.store (i := 3) (v := encStr [84, 69, 88, 84]) rfl rfl zd hb4 rfl rfl) ?_
   rintro w5 ⟨hb5, hf5, hs5⟩
   have hf5 : Frm [gx] w4 w5 := hf5
   have hz5 := hz4.frm hf5 (by simp; exact hgg)
   have K5 := K4.own hf5 (by simp; omega)
   refine jO (jN (jv3 0 2 4 ?_))
   refine jR (jm rfl (je (Run.eqlT rfl rfl) (jf rfl zm rfl zq ?_)))
   refine Ops.st (qJ.store (i := 5) (v := .bool false) rfl rfl zq hb5 rfl rfl) ?_
   rintro w6 ⟨hb6, hf6, hs6⟩
   have hz6 := hz5.frm hf6 (by simp; exact hgg)
   have K6 := K5.own hf6 (by simp; omega)
   refine jO ?_
   refine jN ⟨⟨6, [82, 70, 67, 56, 50, 50, 46, 84, 69, 88, 84], ⟨[], [84, 69, 88, 84], []⟩, false, false, 0, 0⟩, (js2 rfl rfl), ?_⟩
   exact ⟨rfl, hb6, hz6, K6⟩
  refine jS (jR (je (Run.build evs.nil eC (gY).choose_spec.1 (gY).choose_spec.2 (cells := itC it0 none 0 none 0) rfl) ?_))
  refine Ops.st (qJ.storeA rfl rfl zar hz2 rfl (eG it0 none 0 none 0)) ?_
  rintro w4 ⟨hb4, hf4, hs4⟩
  have K4 := K3.own hf4 (by simp; omega)
  refine ja rfl (jO (jN (jv2 2 3 ?_)))
  refine jT ?_
  refine qZ (qN (qZ (bM ?_)))
  refine qB rfl zcu zar (hb4.cells) (by first | rfl | (simp; done) | (simp [*]; done)) ?_
  refine cW rfl ?_
  refine qF ?_
  have hno : lG t = none := by unfold lG; rw [if_neg hc1, if_neg hc2, if_neg hc3, if_neg hc4, if_neg hc5, if_neg hc6, if_neg hc7, if_neg hc8, if_neg hc9, if_neg hc10]
  exact ⟨by rw [hno]; rfl, K4⟩
 rintro x wm ⟨hx, hbm, hzm, Km⟩ Γ hΓ
 refine qS (jN (VC.sub _ hΓ ?_))
 refine jS (jR (je (Run.loadA rfl zcu zar hbm.cells (by first | rfl | (simp; done))) ?_))
 refine Ops.st (qJ.storeA rfl rfl zar hzm rfl (eG _ _ _ _ _)) ?_
 rintro w4 ⟨hb4, hf4, hs4⟩
 have K4 := Km.own hf4 (by simp; omega)
 refine ja rfl (jO (jN (jv2 2 3 ?_)))
 refine jT ?_
 refine bM ?_
 refine qB rfl zcu zar (hb4.cells) (by first | rfl | (simp; done) | (simp [*]; done)) ?_
 refine cW rfl ?_
 refine qF ?_
 exact ⟨by rw [hx]; rfl, K4⟩
noncomputable def dF (tk : List Tk) (q : Nat) : Option (List Sp) := (qW tk q [0]).bind fun s => if kP s = 0 then some (eF s) else none
theorem hZ (gp gc : Nat) (A : Option Addr) (n c : Nat) (tk : List Tk) (q : Nat) (cs : Array Value) (w : World) (hP : IsCp w gp gc A n c tk q cs) (hl : ∀ x ∈ tk, x.2.length ≤ 1000000) : Calls Tryz.prog 69 #[jI0 gp] w fun e w' => Frm [gp] w w' ∧ match dF tk q with
   | none => e = .panicked cY
   | some l => ∃ B d, e = .returned (.slice B l.length d) ∧ IsCp w' gp gc A n c tk (q + 1) cs ∧ Own w' 96 2 B l.length d (SC l) ∧ ∀ x ∈ ob B, w.heap.size ≤ x := by
 refine jV Tryz.func69 Tryz.ntmps69 Tryz.results69 ?_
 refine jS (jR (ja rfl (jO (jN (jv1 0 ?_)))))
 refine jS (jR (jM ?_))
 refine Ops.m (qH.buildS1 rfl zl zc dH jd jd rfl rfl) rfl ?_
 rintro _ w1 ⟨rfl, hF1⟩
 have hK1 : Rd w1 1 (some ⟨w.heap.size, 0, none⟩) 1 (IB [0]) := Rd.of_blk (n := 1) (size := 1) hF1.blk rfl
 have hPl := hP.lt
 refine Ops.clp (jE2 zca) (bO (some ⟨w.heap.size, 0, none⟩) 1 1 [0] gp gc A n c tk q cs w1 (hP.frm hF1.frm) rfl jo hK1 (fun _ x hx => by simp [ob] at hx; omega)) rfl ?_
 rintro e w2 ⟨hf2, he⟩
 rcases hT2 : qW tk q [0] with _ | s
 ·
  rw [hT2] at he
  exact .inr ⟨_, he, qK (qP ⟨(hF1.frm.mono jp).trans hf2 (fun x hx => .inl hx), by simp [dF, hT2]⟩)⟩
 rw [hT2] at he
 obtain ⟨rfl, hP2⟩ := he
 refine .inl ⟨_, rfl, ?_⟩
 refine jc (jE1 Tryz.call100) (pH s w2 (bL hT2 hl)) ?_
 rintro e w3 ⟨hf3, B, d, rfl, hoB, hupB⟩
 refine ⟨_, rfl, ?_⟩
 have hP3 := hP2.frm hf3
 have K3 : Frm [gp] w w3 := ((hF1.frm.mono jp).trans hf2 (fun x hx => .inl hx)).trans hf3 jp
 have hsz := hF1.frm.size
 have hsz2 := hf2.size
 refine jm rfl (jY rfl rfl (jY rfl rfl (ja rfl (ja rfl (jO (jN (jv2 3 4 ?_)))))))
 refine jS (jR (jm rfl (jb rfl rfl (Bin.eql _ 0) ?_)))
 refine Ops.clp (jE1 zbb) (bZ (decide (kP s = 0)) w3) rfl ?_
 rintro e _ ⟨rfl, he⟩
 by_cases hpe : kP s = 0
 rotate_left
 ·
  rw [decide_eq_false hpe] at he
  exact .inr ⟨_, he, qK (qP ⟨K3, by simp [dF, hT2, hpe]⟩)⟩
 rw [decide_eq_true hpe] at he
 refine .inl ⟨_, he, ?_⟩
 refine jO (jN (jv1 3 ?_))
 refine jS (jR (jm rfl (ja rfl (jO (jN (jv1 2 ?_))))))
 refine jT ?_
 refine qD rfl ?_
 refine ⟨K3, ?_⟩
 rw [show dF tk q = some (eF s) by simp [dF, hT2, hpe]]
 exact ⟨B, d, rfl, hP3, hoB, fun x hx => by have := hupB x hx; omega⟩
def dW (tk : List Tk) (R : Nat → Nat → Option Nat) (least most : Nat) : Nat → Nat → Nat → Option (Nat × Nat)
 | 0, _, _ => none
 | k + 1, j, q => if IsT tk q 3 then (if least ≤ j then some (q, j) else none) else if j < most then (R j q).bind fun q2 => dW tk R least most k (j + 1) q2 else none
def cN (tk : List Tk) (R : Nat → Nat → Option Nat) (least most q : Nat) : Option (Nat × Nat) := (qW tk q [2]).bind fun _ => dW tk R least most (most + 1) 0 (q + 1)
theorem kK (f : Nat) (fs us : List Value) (least most : Nat) (R : Nat → Nat → Option Nat) (X : Nat → World → Nat → Array Value → Prop) (w0 : World) (gp gc : Nat) (A : Option Addr) (n c : Nat) (tk : List Tk) (q : Nat) (cs : Array Value) (w : World) (hP : IsCp w gp gc A n c tk q cs) (hK : Frm [gp, gc] w0 w) (hmo : most ≤ 1000000) (hle : least ≤ 1000000)
  (hf : ∀ args w, (callFunc f args).run Tryz.prog w = .ok (.enter f args) w) (hX0 : ∀ W, Frm [gp] w W → IsCp W gp gc A n c tk (q + 1) cs → X 0 W (q + 1) cs) (hX : ∀ j W q cs, X j W q cs → IsCp W gp gc A n c tk q cs ∧ Frm [gp, gc] w0 W) (hXf : ∀ j W W' q cs, X j W q cs → Frm [] W W' → X j W' q cs)
  (hone : ∀ j W q cs, j < most → ¬ IsT tk q 3 → X j W q cs → Calls Tryz.prog f (fs ++ [] ++ us).toArray W fun e w' => match R j q with
   | none => e = .panicked cY ∧ Frm [gp, gc] w0 w'
   | some q2 => e = .returned (.tuple #[]) ∧ ∃ cs2, X (j + 1) w' q2 cs2) :
  Calls Tryz.prog 62 #[jI0 gp, jI1 least, jI1 most, .func (.func f) fs.toArray us.toArray] w fun e w' => match cN tk R least most q with
   | none => e = .panicked cY ∧ Frm [gp, gc] w0 w'
   | some (q2, j) => e = .returned (.tuple #[]) ∧ ∃ cs2 W1, X j W1 q2 cs2 ∧ Frm [gp] W1 w' ∧ IsCp w' gp gc A n c tk (q2 + 1) cs2 := by
 refine jV Tryz.func62 Tryz.ntmps62 Tryz.results62 ?_
 refine jS (jR (jM ?_))
 refine Ops.m (qH.buildS1 rfl zl zc dH jd jd rfl rfl) rfl ?_
 rintro _ w1 ⟨rfl, hF1⟩
 have hK1 : Rd w1 1 (some ⟨w.heap.size, 0, none⟩) 1 (IB [2]) := Rd.of_blk (n := 1) (size := 1) hF1.blk rfl
 have hPl := hP.lt
 refine Ops.clp (jE2 zca) (bO (some ⟨w.heap.size, 0, none⟩) 1 1 [2] gp gc A n c tk q cs w1 (hP.frm hF1.frm) rfl jo hK1 (fun _ x hx => by simp [ob] at hx; omega)) rfl ?_
 rintro e w2 ⟨hf2, he⟩
 rcases hT2 : qW tk q [2] with _ | s
 ·
  rw [hT2] at he
  exact .inr ⟨_, he, qK (qP (by rw [show cN tk R least most q = none by simp [cN, hT2]]; exact ⟨rfl, (hK.trans hF1.frm jp).trans hf2 (fun x hx => .inl (by simp at hx; simp [hx]))⟩))⟩
 rw [hT2] at he
 obtain ⟨rfl, hP2⟩ := he
 refine .inl ⟨_, rfl, ?_⟩
 have hX2 := hX0 w2 ((hF1.frm.mono jp).trans hf2 (fun x hx => .inl hx)) hP2
 obtain ⟨G, hG⟩ : ∃ G, cN tk R least most q = G := ⟨_, rfl⟩
 rw [hG]
 have hG0 : dW tk R least most (most + 1) 0 (q + 1) = G := by rw [← hG]; simp [cN, hT2]
 refine jO (jN (jv4 0 1 2 3 ?_))
 refine jS (jR (jz 0 (jO (jN (jS (jB ?_))))))
 refine VC.loop (σ := Nat × Nat × Array Value) (fun s => [(0, jI0 gp), (1, jI1 least), (2, jI1 most), (3, .func (.func f) fs.toArray us.toArray), (8, jI1 s.1)]) (fun s wr => s.1 ≤ most ∧ dW tk R least most (most + 1 - s.1) s.1 s.2.1 = G ∧ X s.1 wr s.2.1 s.2.2) (fun s => most - s.1) (0, q + 1, cs) (js5 rfl rfl rfl rfl rfl) ⟨zac _, hG0, hX2⟩ ?_
 clear hG0 hX2
 rintro ⟨j, q1, cs1⟩ wr ⟨hj, hGj, hXj⟩
 dsimp only at hj hGj hXj ⊢
 obtain ⟨hPj, hKj⟩ := hX _ _ _ _ hXj
 rw [show most + 1 - j = (most - j) + 1 by omega, dW] at hGj
 refine jS (jS (jR (jM ?_)))
 refine jc (jE3 zco) (dR 0 3 gp gc A n c tk q1 cs1 wr hPj jo) ?_
 rintro e w3 ⟨hf3, rfl⟩
 refine ⟨_, rfl, ?_⟩
 have hXj := hXf _ _ _ _ _ hXj hf3
 obtain ⟨hPj, hKj⟩ := hX _ _ _ _ hXj
 rw [zdg]
 refine je (Run.not rfl) (jO (jN (jv6 0 1 2 3 8 14 ?_)))
 refine VC.condB rfl (fun hc1 => ?_) (fun hc1 => ?_)
 ·
  have hni : ¬ IsT tk q1 3 := by simpa using hc1
  rw [if_neg hni] at hGj
  refine jQ (jN (jv5 0 1 2 3 8 ?_))
  refine jS (jB (jS (jR (jm rfl (jm rfl (jb rfl rfl (Bin.lssN _ _) ?_))))))
  refine Ops.clp (jE1 zbb) (bZ (decide (j < most)) w3) rfl ?_
  rintro e _ ⟨rfl, he⟩
  by_cases hjm : j < most
  rotate_left
  ·
   rw [decide_eq_false hjm] at he
   rw [if_neg hjm] at hGj
   subst hGj
   exact .inr ⟨_, he, qK (bX (qK (qK (bX (qK (qP ⟨rfl, hKj⟩))))))⟩
  rw [decide_eq_true hjm] at he
  rw [if_pos hjm] at hGj
  refine .inl ⟨_, he, ?_⟩
  refine jO (jN (jv5 0 1 2 3 8 ?_))
  refine jR (jM ?_)
  refine Ops.clp (bJ.dyn rfl evs.nil hf) (hone j w3 q1 cs1 hjm hni hXj) rfl ?_
  rintro e w4 he
  rcases hR : R j q1 with _ | q2
  ·
   rw [hR] at he hGj
   have hGj : none = G := hGj
   subst hGj
   exact .inr ⟨_, he.1, bX (qK (qK (bX (qK (qP ⟨rfl, he.2⟩)))))⟩
  rw [hR] at he hGj
  obtain ⟨rfl, cs2, hX4⟩ := he
  have hGj : dW tk R least most (most - j) (j + 1) q2 = G := hGj
  refine .inl ⟨_, rfl, ?_⟩
  refine jO ?_
  refine qS (jN ?_)
  refine jv5 0 1 2 3 8 ?_
  refine jR (jm rfl (jb rfl rfl (Bin.add_i64 _ 1 jo) (ja rfl (jO ?_))))
  refine jN ⟨(j + 1, q2, cs2), (js5 rfl rfl rfl rfl rfl), ?_, ?_⟩
  · exact ⟨hjm, by dsimp only; rw [show most + 1 - (j + 1) = most - j by omega]; exact hGj, hX4⟩
  exact jq
 have hni : IsT tk q1 3 := by simpa using hc1
 rw [if_pos hni] at hGj
 have hbg := hPj.big
 have hle1 := hPj.le
 refine jX ?_
 refine qV (qV (qC ?_))
 refine jN (jv3 0 1 8 ?_)
 refine jS (jR (jm rfl (jZ rfl (jf rfl zk rfl zc (jl rfl zi (hPj.p.cell 1) (jb rfl rfl (Bin.add_i64 _ 1 jo) (jZ rfl (jf rfl zk rfl zc ?_))))))))
 refine Ops.st (qJ.store rfl rfl zc hPj.p rfl rfl) ?_
 rintro w4 ⟨hb4, hf4, hs4⟩
 have hf4 : Frm [gp] w3 w4 := hf4
 have hni2 : q1 < n := by have := hni.1; rw [hPj.tk.len] at this; exact this
 have hP4 : IsCp w4 gp gc A n c tk (q1 + 1) cs1 := hPj.step hb4 hf4 jo
 refine jO (jN (jv2 1 8 ?_))
 refine jR (jm rfl (jm rfl (jb rfl rfl (Bin.geqN _ _) ?_)))
 refine Ops.clp (jE1 zbb) (bZ (decide (least ≤ j)) w4) rfl ?_
 rintro e _ ⟨rfl, he⟩
 by_cases hlj : least ≤ j
 rotate_left
 ·
  rw [decide_eq_false hlj] at he
  rw [if_neg hlj] at hGj
  subst hGj
  exact .inr ⟨_, he, qP ⟨rfl, hKj.trans hf4 (fun x hx => .inl (by simp at hx; simp [hx]))⟩⟩
 rw [decide_eq_true hlj] at he
 rw [if_pos hlj] at hGj
 subst hGj
 refine .inl ⟨_, he, ?_⟩
 refine jO ?_
 refine cB ?_
 exact ⟨rfl, cs1, w3, hXj, hf4, hP4⟩
end
section
open Go.RowKit Go.Sort
section
variable {P : Program} {Γ : Env} {w : World} {dst : Option Tmp} {T : TypeId} {pos : String} {after : Array Edge} {g : Option (Nat × Bool)}
theorem qJ.storeAt {t e : TypeId} {x y : Operand} {gb i : Nat} {cs vs : Array Value} (hx : ev? Γ x = some (.pointer (some ⟨gb, i, none⟩))) (hy : ev? Γ y = some (.agg vs))
  (hz : ∀ w, (sizeOf t).run P w = .ok vs.size w) (hb : Blk w gb e cs) (hs : i + vs.size ≤ cs.size) (h1 : ∀ v ∈ vs.toList, v.oneCell' = true) :
  qJ P ⟨dst, .store t x y, T, pos, after, g⟩ Γ w (fun w' => Blk w' gb e (cs.toList.take i ++ vs.toList ++ cs.toList.drop (i + vs.toList.length)).toArray ∧ Frm [gb] w w' ∧ w'.heap.size = w.heap.size) := fun ρ hρ => by
 have hr := run_storeCells_at (P := P) gb i e vs.toList 0 cs w hb (by simp; omega) h1
 simp only [zdg] at hr
 refine ⟨w.setRow gb (cs.toList.take i ++ vs.toList ++ cs.toList.drop (i + vs.toList.length)).toArray, ?_, setRow_heap w gb cs _ e (0, 0) hb, ⟨rfl, rfl, rfl, by simp [World.setRow], fun k _ hS => setRow_other w gb k _ (by simpa using hS)⟩, by simp [World.setRow]⟩
 simp only [execOp, Instr.storeAt, Instr.sureAddr, storeVar, hρ _ _ hx, hρ _ _ hy, Value.cells, Sem.run_bind, Sem.run_pure, Result.andThen_ok, hz, ne_eq, not_true_eq_false, if_false, Sem.run_ite, hr]
end
end
section
open Go.RowKit Go.Sort
def Tab (w : World) : Prop := Lib.TabIs Tryz.prog w "internal/strconv.uint64pow10" .u64 Lib.pow10Tab
theorem Tab.frm {w w' : World} (h : Tab w) (hf : Frm [] w w') : Tab w' := by
 cases hg : Tryz.prog.globalNamed "internal/strconv.uint64pow10" with
 | none =>
  unfold Tab Lib.TabIs World.var? at h
  rw [hg] at h
  cases h
 | some g =>
  unfold Tab Lib.TabIs World.var? at h ⊢
  rw [hg] at h ⊢
  simp only [zn] at h ⊢
  cases hb : w.heap[g]? with
  | none => rw [hb] at h; cases h
  | some o => rw [(hf.block g (Array.getElem?_eq_some_iff.1 hb).1 jp).trans hb]; rw [hb] at h; exact h
def hdI (s : Tx) : Tx := qT (s.take (Lib.indexByte s 91).toNat)
def inI (s : Tx) : Tx := (s.drop ((Lib.indexByte s 91).toNat + 1)).take ((Lib.indexByte s 93).toNat - ((Lib.indexByte s 91).toNat + 1))
def reI (s : Tx) : Tx := s.drop ((Lib.indexByte s 93).toNat + 1)
def fY (v : Wnt) : Tx := [66, 79, 68, 89, 91] ++ mV v ++ [93]
def mW (s : Tx) : Prop := (0 ≤ Lib.indexByte s 91 ∧ Lib.indexByte s 91 < Lib.indexByte s 93) ∧ (hdI s = [66, 79, 68, 89] ∨ hdI s = [66, 79, 68, 89, 46, 80, 69, 69, 75])
instance (s : Tx) : Decidable (mW s) := by unfold mW; infer_instance
def cI (s : Tx) : Option ItM := match lG (qT s) with
 | some x => some x
 | none => if mW s then (cD (inI s)).bind fun v => if reI s = [] then some ⟨6, fY v, v, decide (hdI s = [66, 79, 68, 89, 46, 80, 69, 69, 75]), false, 0, 0⟩ else if gC (reI s) then some ⟨6, fY v ++ ([60] ++ Lib.itoa (dZ (reI s)) ++ [62]), v, decide (hdI s = [66, 79, 68, 89, 46, 80, 69, 69, 75]), true, dZ (reI s), gP (reI s)⟩ else none else none
theorem qJv {t : Tx} {x : ItM} (h : lG t = some x) : x.w.path = [] ∧ x.w.names = [] := by
 unfold lG at h
 repeat (split at h; (injection h with h; rw [← h]; exact ⟨rfl, rfl⟩))
 cases h
theorem zJ {s : Tx} {v : Wnt} (h : cD s = some v) : dT v := by
 unfold cD at h
 split at h
 · cases h
 split at h
 · cases h
 split at h
 · injection h with h; rw [← h]; assumption
 cases h
theorem qXg {v : Wnt} (h : dT v) (hn : ∀ x ∈ v.names, x.length ≤ 50000) : (mV v).length ≤ 1000000 := by
 have h1 := tR h
 have h2 : v.names.length ≤ 16 := by have := h.2.1; omega
 have h3 := zr (fA [46] 100 (eA v) h1.2) (zeu h1.1 (zt _))
 have h4 := zr (fA [32] 50000 v.names hn) (zeu h2 (zt _))
 unfold mV
 rw [if_pos h]
 split <;> simp <;> simp at h3 h4 <;> omega
theorem zK (w : World) (k : Nat) (os : Array Obj) : Frm [] w (grow (w.drewN k) os) := by
 refine ⟨rfl, rfl, rfl, jp, fun i hi _ => ?_⟩
 rw [heap_grow_old _ _ (by simpa using hi)]
 rfl
theorem xK (n : Int) (w : World) (ht : Tab w) (h0 : 0 ≤ n) (h1 : n ≤ 1000000000000000000) : Calls Tryz.prog 27 #[.int .i64 n] w fun e w' => e = .returned (encStr (Lib.itoa n)) ∧ Frm [] w w' := by
 exact (Tryz.strconv_Itoa n jo jo w ht).mono fun e w' ⟨he, k, os, hw⟩ => ⟨he, by rw [hw]; exact zK _ _ _⟩
theorem vC (s : Tx) : dZ s ≤ 1000000000000000000 := by
 unfold dZ gN
 split
 · omega
 rename_i h
 cases ha : Lib.atoi (bC 46 (kR s)) with
 | none => show (0 : Int) ≤ _; omega
 | some n =>
  have := (Lib.atoi_bound ha jo).2
  show n ≤ _
  omega
theorem qZp (n : Int) (h0 : 0 ≤ n) (h1 : n ≤ 1000000000000000000) : (Lib.itoa n).length ≤ 30 := zr (Lib.itoa_length_le n jo jo) jd
theorem uC {s : Tx} {v : Wnt} (h : cD s = some v) : ∀ x ∈ v.names, x.length ≤ s.length := by
 unfold cD at h
 split at h
 · cases h
 rename_i l hl
 have hb : ∀ x ∈ l, x.length ≤ s.length := by
  unfold gO at hl
  split at hl
  ·
   split at hl
   · cases hl
   injection hl with hl
   subst hl
   intro x hx
   exact zr ((tN _).2 x hx) (zr (tP _).1 (gM 32 s).2)
  injection hl with hl
  subst hl
  intro x hx
  cases hx
 split at h
 · cases h
 split at h
 · injection h with h; rw [← h]; exact hb
 cases h
theorem xV (t : Tx) (w : World) (hs : t.length ≤ 50000) (hv : bT w) (htb : Tab w) : Calls Tryz.prog 71 #[encStr t] w fun e w' => Frm [] w w' ∧ match cI t with
   | none => e = .panicked cY
   | some x => ∃ PA pc NA nc, e = .returned (.agg (itC x PA pc NA nc)) ∧ Own w' 3 1 PA x.w.path.length pc (PI x.w.path) ∧ Own w' 9 1 NA x.w.names.length nc (SB x.w.names) := by
 refine jV Tryz.func71 Tryz.ntmps71 Tryz.results71 ?_
 refine jS (jR ?_)
 refine Ops.m (qH.alloc eC) rfl ?_
 rintro _ w1 ⟨rfl, hF1⟩
 obtain ⟨g2, hg2⟩ : ∃ g2, g2 = w.heap.size := ⟨_, rfl⟩
 have hz2 : Blk w1 g2 54 (itC it0 none 0 none 0) := by rw [hg2]; exact hF1.blk
 have q1 := hF1.size
 rw [← hg2]
 refine jO (jN (jS (jS (jR (jM ?_)))))
 refine jc (jE1 Tryz.call30) (eY t w1 jo) ?_
 rintro e w2 ⟨rfl, hf2⟩
 refine ⟨_, rfl, ?_⟩
 have hz2 := hz2.frm hf2 jp
 have q2 := hf2.size
 refine jc (jE1 Tryz.call104) (uB (qT t) w2 (by rw [dS]; omega)) ?_
 rintro e w3 ⟨rfl, hf3⟩
 refine ⟨_, rfl, ?_⟩
 have hz2 := hz2.frm hf3 jp
 have q3 := hf3.size
 have K3 : Frm [] w w3 := (hF1.frm.trans hf2 jp).trans hf3 jp
 refine jm rfl (jY rfl rfl (jY rfl rfl ?_))
 refine Ops.m (qH.alloc eC) rfl ?_
 rintro _ w4 ⟨rfl, hF4⟩
 obtain ⟨g3, hg3⟩ : ∃ g3, g3 = w3.heap.size := ⟨_, rfl⟩
 have hbx : Blk w4 g3 54 (itC it0 none 0 none 0) := by rw [hg3]; exact hF4.blk
 have hz2 := hz2.frm hF4.frm jp
 rw [← hg3]
 refine Ops.st (qJ.storeA rfl rfl zar hbx rfl (eG _ _ _ _ _)) ?_
 rintro w5 ⟨hb5, hf5, hs5⟩
 have hf5 : Frm [g3] w4 w5 := hf5
 have hgg : g2 ≠ g3 := jo
 have hz5 := hz2.frm hf5 (by simp; exact hgg)
 have K5 : Frm [] w w5 := (K3.trans hF4.frm jp).own hf5 (by simp; omega)
 have q5 := hF4.size
 refine ja rfl (jO (jN (jv4 0 2 3 4 ?_)))
 refine jS (jR (jm rfl (jO (jN (jv4 0 2 3 17 ?_)))))
 refine VC.condB rfl (fun hc1 => ?_) (fun hc1 => ?_)
 ·
  obtain ⟨x, hx⟩ := Option.isSome_iff_exists.1 hc1
  rw [hx] at hb5
  have him : cI t = some x := by unfold cI; rw [hx]
  have hxw : x.w.path = [] ∧ x.w.names = [] := qJv hx
  rw [him]
  refine jS (jR (je (Run.loadA rfl zcu zar hb5.cells (by first | rfl | (simp; done))) ?_))
  refine Ops.st (qJ.storeA rfl rfl zar hz5 rfl (eG _ _ _ _ _)) ?_
  rintro w6 ⟨hb6, hf6, hs6⟩
  have K6 := K5.own hf6 (by simp; omega)
  refine jO (jN (jv1 2 ?_))
  refine jT ?_
  refine qZ (bM ?_)
  refine qB rfl zcu zar (hb6.cells) (by first | rfl | (simp; done) | (simp [*]; done)) ?_
  refine qF ?_
  exact ⟨K6, none, 0, none, 0, rfl, by rw [hxw.1]; exact Own.nil _ _ _, by rw [hxw.2]; exact Own.nil _ _ _⟩
 have hx : lG (qT t) = none := by simpa using hc1
 have him : cI t = if mW t then (cD (inI t)).bind fun v => if reI t = [] then some ⟨6, fY v, v, decide (hdI t = [66, 79, 68, 89, 46, 80, 69, 69, 75]), false, 0, 0⟩ else if gC (reI t) then some ⟨6, fY v ++ ([60] ++ Lib.itoa (dZ (reI t)) ++ [62]), v, decide (hdI t = [66, 79, 68, 89, 46, 80, 69, 69, 75]), true, dZ (reI t), gP (reI t)⟩ else none else none := by unfold cI; rw [hx]
 obtain ⟨G, hG⟩ : ∃ G, cI t = G := ⟨_, rfl⟩
 rw [hG] at him ⊢
 have hb1 := Lib.indexByte_ge t 91
 have hb2 := Lib.indexByte_ge t 93
 have hbl : ∀ c, 0 ≤ Lib.indexByte t c → (Lib.indexByte t c).toNat < t.length := fun c h => by
  have h1 := (Lib.indexByte_some (l := t) (c := c) (o := (Lib.indexByte t c).toNat) jo).1
  exact (List.getElem?_eq_some_iff.1 h1).1
 have hB := hbl 91
 have hE := hbl 93
 have hHd : mW t ↔ ((0 ≤ Lib.indexByte t 91 ∧ Lib.indexByte t 91 < Lib.indexByte t 93) ∧ (hdI t = [66, 79, 68, 89] ∨ hdI t = [66, 79, 68, 89, 46, 80, 69, 69, 75])) := Iff.rfl
 refine jQ (jN (jv2 0 2 ?_))
 refine jS (jR (jM ?_))
 refine jc0 (jE2 Tryz.call86) (nK t 91 w5) ?_
 refine ja rfl (jO (jN (jv3 0 2 5 ?_)))
 refine jS (jR (jM ?_))
 refine jc0 (jE2 Tryz.call86) (nK t 93 w5) ?_
 refine ja rfl (jO (jN (jv4 0 2 5 6 ?_)))
 refine jS (jR (jm rfl (jb rfl rfl (Bin.geq _ 0) ?_)))
 by_cases hs24 : 0 ≤ Lib.indexByte t 91
 rotate_left
 ·
  refine jM ?_
  refine jU ?_
  refine jU ?_
  refine jU ?_
  refine jF rfl rfl (decide_eq_false hs24) ?_
  refine Ops.clp (jE1 zbb) (bZ false w5) rfl ?_
  rintro e _ ⟨rfl, he⟩
  have hno : ¬ mW t := fun h => hs24 h.1.1
  rw [if_neg hno] at him
  subst him
  exact .inr ⟨_, he, qK (qP ⟨K5, rfl⟩)⟩
 refine jM ?_
 refine Ops.rg rfl (decide_eq_true hs24) (Run.mv rfl) rfl ?_
 refine Ops.rg rfl (decide_eq_true hs24) (Run.mv rfl) rfl ?_
 refine Ops.rg rfl (decide_eq_true hs24) (Run.bin rfl rfl (Bin.gtr _ _)) rfl ?_
 by_cases hs28 : Lib.indexByte t 91 < Lib.indexByte t 93
 rotate_left
 ·
  refine jW rfl rfl (decide_eq_true hs24) ?_
  refine Ops.clp (jE1 zbb) (bZ (decide (Lib.indexByte t 91 < Lib.indexByte t 93)) w5) rfl ?_
  rintro e _ ⟨rfl, he⟩
  rw [decide_eq_false hs28] at he
  have hno : ¬ mW t := fun h => hs28 h.1.2
  rw [if_neg hno] at him
  subst him
  exact .inr ⟨_, he, qK (qP ⟨K5, rfl⟩)⟩
 refine jW rfl rfl (decide_eq_true hs24) ?_
 refine Ops.clp (jE1 zbb) (bZ (decide (Lib.indexByte t 91 < Lib.indexByte t 93)) w5) rfl ?_
 rintro e _ ⟨rfl, he⟩
 rw [decide_eq_true hs28] at he
 refine .inl ⟨_, he, ?_⟩
 obtain ⟨bN, hbN⟩ : ∃ b : Nat, Lib.indexByte t 91 = ((b : Nat) : Int) := ⟨_, (Int.toNat_of_nonneg hs24).symm⟩
 obtain ⟨eN, heN⟩ : ∃ b : Nat, Lib.indexByte t 93 = ((b : Nat) : Int) := ⟨_, (Int.toNat_of_nonneg jo).symm⟩
 have hE := hE jo
 have hhd : hdI t = qT (t.take bN) := by unfold hdI; rw [hbN]; rfl
 have hin : inI t = (t.drop (bN + 1)).take (eN - (bN + 1)) := by unfold inI; rw [hbN, heN]; rfl
 have hre : reI t = t.drop (eN + 1) := by unfold reI; rw [heN]; rfl
 rw [hbN, heN] at hs28
 rw [heN] at hE
 rw [hbN, heN]
 rw [Int.toNat_natCast] at hE
 refine jO (jN (jv4 0 2 5 6 ?_))
 refine jS (jR (je (Run.build (evs.cons rfl evs.nil) eC (gY).choose_spec.1 (gY).choose_spec.2 (cells := itC ⟨6, [], bB, false, false, 0, 0⟩ none 0 none 0) rfl) ?_))
 refine Ops.m (qH.alloc eC) rfl ?_
 rintro _ w6 ⟨rfl, hF6⟩
 obtain ⟨gx, hgx⟩ : ∃ gx, gx = w5.heap.size := ⟨_, rfl⟩
 have hbx6 : Blk w6 gx 54 (itC it0 none 0 none 0) := by rw [hgx]; exact hF6.blk
 have hz6 := hz5.frm hF6.frm jp
 have hgx2 : g2 ≠ gx := jo
 rw [← hgx]
 refine Ops.st (qJ.storeA rfl rfl zar hbx6 rfl (eG _ _ _ _ _)) ?_
 rintro w7 ⟨hb7, hf7, hs7⟩
 have hf7 : Frm [gx] w6 w7 := hf7
 have hz7 := hz6.frm hf7 (by simp; exact hgx2)
 have K7 : Frm [] w w7 := (K5.trans hF6.frm jp).own hf7 (by simp; omega)
 have q7 := hF6.size
 refine jO (jN (jv5 0 2 5 6 7 ?_))
 refine jS (jS (jR (jm rfl (jm rfl (je (Run.sliceT 0 bN rfl za evB.none_ (evB.some_ rfl) jo jo) ?_)))))
 rw [show (t.drop 0).take (bN - 0) = t.take bN by simp]
 refine jc (jE1 Tryz.call30) (eY (t.take bN) w7 (by rw [zbd]; omega)) ?_
 rintro e w8 ⟨rfl, hf8⟩
 refine ⟨_, rfl, ?_⟩
 rw [← hhd]
 have hb8 := hb7.frm hf8 jp
 have hz8 := hz7.frm hf8 jp
 have K8 := K7.trans hf8 jp
 have q8 := hf8.size
 refine jO (jN (jv6 0 2 5 6 7 35 ?_))
 refine jB (jS (jR (je (Run.eqlT rfl rfl) (ja rfl (jO (jN (jv7 0 2 5 6 7 35 37 ?_)))))))
 refine VC.meet (σ := Bool) (fun s => [(0, encStr t), (2, .pointer (some ⟨g2, 0, none⟩)), (5, .int .i64 ((bN : Nat) : Int)), (6, .int .i64 ((eN : Nat) : Int)), (7, .pointer (some ⟨gx, 0, none⟩))]) (fun s wm => s = decide (hdI t = [66, 79, 68, 89, 46, 80, 69, 69, 75]) ∧ mW t ∧ Blk wm gx 54 (itC ⟨6, [], bB, s, false, 0, 0⟩ none 0 none 0) ∧ Blk wm g2 54 (itC it0 none 0 none 0) ∧ Frm [] w wm) ?_ ?_
 ·
  refine jD rfl (fun hc2 => ?_) fun hc2 => ?_
  ·
   refine jQ ?_
   refine jN ⟨false, (js5 rfl rfl rfl rfl rfl), ?_⟩
   exact ⟨(decide_eq_false (by rw [hc2]; decide)).symm, ⟨⟨hs24, jo⟩, .inl hc2⟩, hb8, hz8, K8⟩
  refine jS (jR (je (Run.eqlT rfl rfl) (ja rfl (jO (jN (jv6 0 2 5 6 7 39 ?_))))))
  refine jD rfl (fun hc3 => ?_) fun hc3 => ?_
  ·
   refine jR (jf rfl zm rfl zq ?_)
   refine Ops.st (qJ.store (i := 5) (v := .bool true) rfl rfl zq hb8 rfl rfl) ?_
   rintro w9 ⟨hb9, hf9, hs9⟩
   have hf9 : Frm [gx] w8 w9 := hf9
   have hz9 := hz8.frm hf9 (by simp; exact hgx2)
   have K9 := K8.own hf9 (by simp; omega)
   refine jO ?_
   refine jN ⟨true, (js5 rfl rfl rfl rfl rfl), ?_⟩
   exact ⟨(decide_eq_true hc3).symm, ⟨⟨hs24, jo⟩, .inr hc3⟩, hb9, hz9, K9⟩
  refine jR ?_
  refine Ops.clp (jE1 zbb) (bZ false w8) rfl ?_
  rintro e _ ⟨rfl, he⟩
  have hno : ¬ mW t := fun h => h.2.elim hc2 hc3
  rw [if_neg hno] at him
  subst him
  exact .inr ⟨_, he, qK (bX (qK (qP ⟨K8, rfl⟩)))⟩
 rintro pk wm ⟨hpk, hok, hbm, hzm, Km⟩ Γ hΓ
 rw [if_pos hok, ← hpk, hin, hre] at him
 refine qS (jN (VC.sub _ hΓ ?_))
 refine jS (jR (jm rfl (jm rfl (jb rfl rfl (Bin.addZ _ 1 jo jo) (jm rfl (je (Run.sliceT (bN + 1) eN rfl za (evB.some_ rfl) (evB.some_ rfl) jo jo) ?_))))))
 refine jc (jE1 Tryz.call105) (wL ((t.drop (bN + 1)).take (eN - (bN + 1))) wm (by rw [zbd, zbl]; omega) (hv.frm0 Km)) ?_
 rintro e wa ⟨hfa, PA, pc, NA, nc, rfl, hoP, hoN⟩
 refine ⟨_, rfl, ?_⟩
 have hba := hbm.frm hfa jp
 have hza := hzm.frm hfa jp
 have Ka := Km.trans hfa jp
 have qa := Km.size
 have qa2 := hfa.size
 obtain ⟨ov, hov⟩ : ∃ ov, cD ((t.drop (bN + 1)).take (eN - (bN + 1))) = ov := ⟨_, rfl⟩
 rw [hov] at him hoP hoN ⊢
 refine jm rfl (jY rfl rfl (jY rfl rfl ?_))
 refine Ops.m (qH.alloc gL) rfl ?_
 rintro _ wb ⟨rfl, hFb⟩
 obtain ⟨g8, hg8⟩ : ∃ g8, g8 = wa.heap.size := ⟨_, rfl⟩
 have hb8' : Blk wb g8 47 (WtC bB none 0 none 0) := by rw [hg8]; exact hFb.blk
 have hbb := hba.frm hFb.frm jp
 have hzb := hza.frm hFb.frm jp
 have hoP := hoP.frm hFb.frm jp
 have hoN := hoN.frm hFb.frm jp
 have Kb := Ka.trans hFb.frm jp
 have hgx8 : gx ≠ g8 := by have := hbm.lt; omega
 have hg28 : g2 ≠ g8 := by have := hzm.lt; omega
 rw [← hg8]
 refine Ops.st (qJ.storeA rfl rfl zx hb8' rfl (fX _ _ _ _ _)) ?_
 rintro wc ⟨hb8c, hfc, hsc⟩
 have hfc : Frm [g8] wb wc := hfc
 have hbc := hbb.frm hfc (by simp; exact hgx8)
 have hzc := hzb.frm hfc (by simp; exact hg28)
 have hoP := hoP.frm hfc (fun x hx e => by rw [zg] at e; subst e; exact hoP.ne_blk hb8' jd hx)
 have hoN := hoN.frm hfc (fun x hx e => by rw [zg] at e; subst e; exact hoN.ne_blk hb8' jd hx)
 have Kc := Kb.own hfc (by simp; omega)
 refine ja rfl (jO (jN (jv6 0 2 6 7 8 9 ?_)))
 refine jS (jR (jm rfl (jb rfl rfl (Bin.eql _ 0) ?_)))
 refine Ops.clp (jE1 zbb) (bZ (decide (((if ov.isSome then 0 else 3) : Int) = 0)) wc) rfl ?_
 rintro e _ ⟨rfl, he⟩
 rcases ov with _ | v
 ·
  rw [show decide (((if (none : Option Wnt).isSome then 0 else 3) : Int) = 0) = false by decide] at he
  have him : G = none := him
  subst him
  exact .inr ⟨_, he, qK (qP ⟨Kc, rfl⟩)⟩
 rw [show decide (((if (some v).isSome then 0 else 3) : Int) = 0) = true by simp] at he
 refine .inl ⟨_, he, ?_⟩
 have hmv := zJ hov
 have hnv := uC hov
 have him : G = if t.drop (eN + 1) = [] then some ⟨6, fY v, v, pk, false, 0, 0⟩ else if gC (t.drop (eN + 1)) then some ⟨6, fY v ++ ([60] ++ Lib.itoa (dZ (t.drop (eN + 1))) ++ [62]), v, pk, true, dZ (t.drop (eN + 1)), gP (t.drop (eN + 1))⟩ else none := him
 rw [show ((some v).getD bB) = v from rfl] at hoP hoN hb8c
 refine jO (jN (jv5 0 2 6 7 8 ?_))
 refine jS ?_
 refine VC.heldL 8 (fun V => Blk V g8 47 (WtC v PA pc NA nc)) jK ?_
 have hdc := (qL.drew wc).frm
 have hS : (fun V : World => Blk V g8 47 (WtC v PA pc NA nc)) wc.drew := hb8c.frm hdc jp
 refine jH 0 rfl hS (fun w0 hw0 => Run.loadA rfl zbm zx (Blk.cells hw0) (by first | rfl | (simp; done))) ?_
 refine qQ.r1 1 rfl jK hS (Run.loadA rfl zbm zx (Blk.cells hS) (by first | rfl | (simp; done))) trivial rfl rfl ?_
 refine qQ.cl 2 rfl jK (jE1 Tryz.call13) (xJ v PA NA pc nc wc.drew (hoP.frm hdc jp).rd (by have := hmv.1; omega) (hoN.frm hdc jp).rd (by have := hmv.2.1; omega) (fun x hx => by have h1 := hnv x hx; rw [zbd, zbl] at h1; omega) hoN.le) trivial rfl rfl ?_
 rintro e wd ⟨rfl, hfd⟩
 have hfd := hdc.trans hfd jp
 have hS : (fun V : World => Blk V g8 47 (WtC v PA pc NA nc)) wd := hb8c.frm hfd jp
 refine ⟨_, rfl, hS, ?_⟩
 have hbd := hbc.frm hfd jp
 have hzd := hzc.frm hfd jp
 have hoP := hoP.frm hfd jp
 have hoN := hoN.frm hfd jp
 have Kd := Kc.trans hfd jp
 have htl := qXg hmv (fun x hx => by have h1 := hnv x hx; rw [zbd, zbl] at h1; exact (jo : x.length ≤ 50000))
 refine jH 3 rfl hS (fun w0 hw0 => Run.addT (a := [66, 79, 68, 89, 91]) (b := mV v) rfl rfl (by simp; omega)) ?_
 refine jH 4 rfl hS (fun w0 hw0 => Run.addT (a := [66, 79, 68, 89, 91] ++ mV v) (b := [93]) rfl rfl (by simp; omega)) ?_
 refine qQ.r1 5 rfl jK hS (Run.fieldAddr rfl zm rfl zx jd) trivial rfl rfl ?_
 refine qQ.st 6 rfl jK (qJ.storeAt (i := 2) rfl rfl zx hbd (show 2 + 3 ≤ 9 from zbe rfl) (fX _ _ _ _ _)) trivial rfl ?_
 rintro wf ⟨hbf, hff, hsf⟩
 have hff : Frm [gx] wd wf := hff
 have hbf : Blk wf gx 54 (itC ⟨6, [], v, pk, false, 0, 0⟩ PA pc NA nc) := hbf
 have hS : (fun V : World => Blk V g8 47 (WtC v PA pc NA nc)) wf := Blk.frm hS hff (by simp; exact fun e => hgx8 e.symm)
 refine ⟨hS, ?_⟩
 refine qQ.r1 7 rfl jK hS (Run.fieldAddr rfl zm rfl zd jd) trivial rfl rfl ?_
 refine qQ.stL rfl jK (qJ.store (i := 1) rfl rfl zd hbf rfl rfl) trivial rfl ?_
 rintro wg ⟨hbg, hfg, hsg⟩
 have hfg : Frm [gx] wf wg := hfg
 have hbg : Blk wg gx 54 (itC ⟨6, fY v, v, pk, false, 0, 0⟩ PA pc NA nc) := hbg
 have k2g : Frm [gx] wd wg := hff.trans hfg (fun x hx => .inl hx)
 have hzg := hzd.frm k2g (by simp; exact hgx2)
 have hoP := hoP.frm k2g (fun x hx e => by rw [zg] at e; subst e; exact hoP.ne_blk hbd jd hx)
 have hoN := hoN.frm k2g (fun x hx e => by rw [zg] at e; subst e; exact hoN.ne_blk hbd jd hx)
 have Kg := Kd.own k2g (by simp; omega)
 refine qQ.done jK ?_
 refine jN (jv4 0 2 6 7 ?_)
 refine jS (jS (jR (jm rfl (jm rfl (jb rfl rfl (Bin.addZ _ 1 jo jo) (je (Run.sliceT (eN + 1) t.length rfl za (evB.some_ rfl) evB.none_ jo jo) ?_))))))
 rw [show (t.drop (eN + 1)).take (t.length - (eN + 1)) = t.drop (eN + 1) from zy (by rw [zbl]; omega)]
 obtain ⟨re, hrE⟩ : ∃ re, re = t.drop (eN + 1) := ⟨_, rfl⟩
 have hrl : re.length ≤ 50000 := by rw [hrE, zbl]; omega
 rw [← hrE] at him ⊢
 refine ja rfl (jO (jN (jv3 2 7 10 ?_)))
 refine jS (jR (jm rfl (je (Run.neqT rfl rfl) (jO (jN (jv4 2 7 10 66 ?_))))))
 refine VC.meet (σ := ItM) (fun s => [(2, .pointer (some ⟨g2, 0, none⟩)), (7, .pointer (some ⟨gx, 0, none⟩))]) (fun s wm => G = some s ∧ Blk wm gx 54 (itC s PA pc NA nc) ∧ Blk wm g2 54 (itC it0 none 0 none 0) ∧ Frm [] w wm ∧ Own wm 3 1 PA s.w.path.length pc (PI s.w.path) ∧ Own wm 9 1 NA s.w.names.length nc (SB s.w.names)) ?_ ?_
 ·
  refine jD rfl (fun hc4 => ?_) fun hc4 => ?_
  ·
   rw [if_neg hc4] at him
   refine jS (jR (jM ?_))
   refine jc (jE2 Tryz.call106) (xX gx _ re wg hbg rfl jo (hv.frm0 Kg)) ?_
   rintro e wh ⟨rfl, hfh, hbh⟩
   refine ⟨_, rfl, ?_⟩
   have hzh := hzg.frm hfh (by simp; exact hgx2)
   have Kh := Kg.own hfh (by simp; omega)
   refine Ops.clp (jE1 zbb) (bZ (decide (gC re)) wh) rfl ?_
   rintro e _ ⟨rfl, he⟩
   by_cases hpo : gC re
   rotate_left
   ·
    rw [decide_eq_false hpo] at he
    rw [if_neg hpo] at him
    subst him
    exact .inr ⟨_, he, qK (qK (qK (qP ⟨Kh, rfl⟩)))⟩
   rw [decide_eq_true hpo] at he
   refine .inl ⟨_, he, ?_⟩
   rw [if_pos hpo] at him
   subst him
   have hbh : Blk wh gx 54 (itC ⟨6, fY v, v, pk, true, dZ re, gP re⟩ PA pc NA nc) := hbh
   have hoP := hoP.frm hfh (fun x hx e => by rw [zg] at e; subst e; exact hoP.ne_blk hbg jd hx)
   have hoN := hoN.frm hfh (fun x hx e => by rw [zg] at e; subst e; exact hoN.ne_blk hbg jd hx)
   refine jO (jN (jv2 2 7 ?_))
   refine VC.heldL 9 (fun V => Blk V gx 54 (itC ⟨6, fY v, v, pk, true, dZ re, gP re⟩ PA pc NA nc)) jK ?_
   have hdh := (qL.drew wh).frm
   have hS : (fun V : World => Blk V gx 54 (itC ⟨6, fY v, v, pk, true, dZ re, gP re⟩ PA pc NA nc)) wh.drew := hbh.frm hdh jp
   refine jH 0 rfl hS (fun w0 hw0 => Run.fieldAddr rfl zm rfl zd jd) ?_
   refine jH 1 rfl hS (fun w0 hw0 => Run.load rfl zj (Blk.cell hw0 1)) ?_
   refine qQ.r1 2 rfl jK hS (Run.fieldAddr rfl zm rfl zc jd) trivial rfl rfl ?_
   refine qQ.r1 3 rfl jK hS (Run.load rfl zi (Blk.cell hS 7)) trivial rfl rfl ?_
   refine qQ.cl 4 rfl jK (jE1 Tryz.call27) (xK (dZ re) wh.drew (htb.frm (Kh.trans hdh jp)) hpo.2.2.2.1 (vC re)) trivial rfl rfl ?_
   rintro e wi ⟨rfl, hfi⟩
   have hfi := hdh.trans hfi jp
   have hS : (fun V : World => Blk V gx 54 (itC ⟨6, fY v, v, pk, true, dZ re, gP re⟩ PA pc NA nc)) wi := hbh.frm hfi jp
   refine ⟨_, rfl, hS, ?_⟩
   have hbi : Blk wi gx 54 _ := hS
   have hzi := hzh.frm hfi jp
   have hoP := hoP.frm hfi jp
   have hoN := hoN.frm hfi jp
   have Ki := Kh.trans hfi jp
   have hil := qZp (dZ re) hpo.2.2.2.1 (vC re)
   have hll : (fY v).length ≤ 10000000 := by unfold fY; simp; omega
   refine qQ.r1 5 rfl jK hS (Run.addT (a := [60]) (b := Lib.itoa (dZ re)) rfl rfl (by simp; omega)) trivial rfl rfl ?_
   refine qQ.r1 6 rfl jK hS (Run.addT (a := [60] ++ Lib.itoa (dZ re)) (b := [62]) rfl rfl (by simp; omega)) trivial rfl rfl ?_
   refine qQ.r1 7 rfl jK hS (Run.addT (a := fY v) (b := [60] ++ Lib.itoa (dZ re) ++ [62]) rfl rfl (by simp; omega)) trivial rfl rfl ?_
   refine qQ.r1 8 rfl jK hS (Run.fieldAddr rfl zm rfl zd jd) trivial rfl rfl ?_
   refine qQ.stL rfl jK (qJ.store (i := 1) rfl rfl zd hbi rfl rfl) trivial rfl ?_
   rintro wj ⟨hbj, hfj, hsj⟩
   have hfj : Frm [gx] wi wj := hfj
   have hzj := hzi.frm hfj (by simp; exact hgx2)
   have hoP := hoP.frm hfj (fun x hx e => by rw [zg] at e; subst e; exact hoP.ne_blk hbi jd hx)
   have hoN := hoN.frm hfj (fun x hx e => by rw [zg] at e; subst e; exact hoN.ne_blk hbi jd hx)
   have Kj := Ki.own hfj (by simp; omega)
   refine qQ.done jK ?_
   refine jN ⟨(⟨6, fY v ++ ([60] ++ Lib.itoa (dZ re) ++ [62]), v, pk, true, dZ re, gP re⟩ : ItM), (js2 rfl rfl), ?_⟩
   exact ⟨rfl, hbj, hzj, Kj, hoP, hoN⟩
  have hc4 := Classical.not_not.1 hc4
  rw [if_pos hc4] at him
  subst him
  refine jQ ?_
  refine jN ⟨(⟨6, fY v, v, pk, false, 0, 0⟩ : ItM), (js2 rfl rfl), ?_⟩
  exact ⟨rfl, hbg, hzg, Kg, hoP, hoN⟩
 rintro x wk ⟨rfl, hbk, hzk, Kk, hoPk, hoNk⟩ Γ hΓ
 refine jN (VC.sub _ hΓ (jS (jR (je (Run.loadA rfl zcu zar hbk.cells (by first | rfl | (simp; done))) ?_))))
 refine Ops.st (qJ.storeA rfl rfl zar hzk rfl (eG _ _ _ _ _)) ?_
 rintro wl ⟨hbf, hfl, hsl⟩
 have hfl : Frm [g2] wk wl := hfl
 have Kl := Kk.own hfl (by simp; omega)
 have hoP := hoPk.frm hfl (fun x hx e => by rw [zg] at e; subst e; exact hoPk.ne_blk hzk jd hx)
 have hoN := hoNk.frm hfl (fun x hx e => by rw [zg] at e; subst e; exact hoNk.ne_blk hzk jd hx)
 refine jO (jN (jv1 2 ?_))
 refine jT ?_
 refine bM ?_
 refine qB rfl zcu zar (hbf.cells) (by first | rfl | (simp; done) | (simp [*]; done)) ?_
 refine qF ?_
 exact ⟨Kl, PA, pc, NA, nc, rfl, hoP, hoN⟩
end
section
open Go.RowKit
def dU : List Tx := [[70, 76, 65, 71, 83], [73, 78, 84, 69, 82, 78, 65, 76, 68, 65, 84, 69], [82, 70, 67, 56, 50, 50, 46, 83, 73, 90, 69], [69, 78, 86, 69, 76, 79, 80, 69], [66, 79, 68, 89]]
def dQ (s : Tx) : List Tx := if s = [70, 65, 83, 84] then dU.take 3 else if s = [65, 76, 76] then dU.take 4 else if s = [70, 85, 76, 76] then dU else []
theorem Rd.few {w : World} {A : Option Addr} {n k : Nat} {xs : List Value} (h : Rd w 1 A n xs) (hk : k ≤ n) : Rd w 1 A k (xs.take k) := by
 refine ⟨by rw [zbd]; have := h.1; omega, fun hk0 => ?_⟩
 obtain ⟨ad, h1, h2, h3⟩ := h.2 jo
 refine ⟨ad, h1, h2, fun j u hu => h3 j u ?_⟩
 rw [List.getElem?_take] at hu
 split at hu
 · exact hu
 cases hu
theorem uD (s : Tx) (w : World) : Calls Tryz.prog 73 #[encStr s] w fun e w' => Frm [] w w' ∧ ∃ B d, e = .returned (.slice B (dQ s).length d) ∧ Rd w' 1 B (dQ s).length (SB (dQ s)) ∧ (dQ s = [] → B = none ∧ d = 0) ∧ (dQ s ≠ [] → ∃ g, B = some ⟨g, 0, none⟩ ∧ Blk w' g 9 (SB dU).toArray) ∧ (dQ s).length ≤ d := by
 refine jV Tryz.func73 Tryz.ntmps73 Tryz.results73 ?_
 refine jS (jR (ja rfl (jO (jN (jv1 0 ?_)))))
 refine jS (jR ?_)
 refine Ops.m (qH.buildN (cells := #[encStr [70, 76, 65, 71, 83], encStr [73, 78, 84, 69, 82, 78, 65, 76, 68, 65, 84, 69], encStr [82, 70, 67, 56, 50, 50, 46, 83, 73, 90, 69], encStr [69, 78, 86, 69, 76, 79, 80, 69], encStr [66, 79, 68, 89]]) (evs.cons rfl (evs.cons rfl (evs.cons rfl (evs.cons rfl (evs.cons rfl evs.nil))))) zp zd oE rfl rfl jK) rfl ?_
 rintro _ w1 ⟨rfl, hF1⟩
 have hR1 : Rd w1 1 (some ⟨w.heap.size, 0, none⟩) 5 (SB dU) := Rd.of_blk (n := 5) (size := 1) hF1.blk rfl
 refine ja rfl (jO (jN (jv2 0 3 ?_)))
 refine jS (jS (jR (jm rfl (jO (jN (jv2 3 5 ?_))))))
 refine jB (jS (jR (je (Run.eqlT rfl rfl) (ja rfl (jO (jN (jv3 3 5 6 ?_)))))))
 refine jD rfl (fun hc1 => ?_) fun hc1 => ?_
 ·
  refine jS (jR (jm rfl (je (Run.sliceS 0 3 rfl zp zd evB.none_ (evB.some_ rfl) jo jo) (ja rfl (jO (jN (jv1 2 ?_)))))))
  refine jT ?_
  refine qN (qZ (qD rfl ?_))
  refine ⟨hF1.frm, ?_⟩
  rw [show dQ s = dU.take 3 by simp [dQ, hc1]]
  exact ⟨some ⟨w.heap.size, 0, none⟩, 5, rfl, hR1.few (k := 3) jo, fun h => absurd h jd, fun _ => ⟨_, rfl, hF1.blk⟩, jd⟩
 refine jS (jR (je (Run.eqlT rfl rfl) (ja rfl (jO (jN (jv3 3 5 10 ?_))))))
 refine jD rfl (fun hc2 => ?_) fun hc2 => ?_
 ·
  refine jS (jR (jm rfl (je (Run.sliceS 0 4 rfl zp zd evB.none_ (evB.some_ rfl) jo jo) (ja rfl (jO (jN (jv1 2 ?_)))))))
  refine jT ?_
  refine qN (qZ (qD rfl ?_))
  refine ⟨hF1.frm, ?_⟩
  rw [show dQ s = dU.take 4 by simp [dQ, hc1, hc2]]
  exact ⟨some ⟨w.heap.size, 0, none⟩, 5, rfl, hR1.few (k := 4) jo, fun h => absurd h jd, fun _ => ⟨_, rfl, hF1.blk⟩, jd⟩
 refine jS (jR (je (Run.eqlT rfl rfl) (ja rfl (jO (jN (jv2 3 14 ?_))))))
 refine jD rfl (fun hc3 => ?_) fun hc3 => ?_
 ·
  refine jS (jR (jm rfl (ja rfl (jO (jN (jv1 2 ?_))))))
  refine jT ?_
  refine qN (qZ (qD rfl ?_))
  refine ⟨hF1.frm, ?_⟩
  rw [show dQ s = dU by simp [dQ, hc1, hc2, hc3]]
  exact ⟨some ⟨w.heap.size, 0, none⟩, 5, rfl, hR1, fun h => absurd h jd, fun _ => ⟨_, rfl, hF1.blk⟩, jd⟩
 refine jQ ?_
 refine qS (jN ?_)
 refine VC.sub [] .nil ?_
 refine jS (jR (ja rfl (jO (jN (jT ?_)))))
 refine qD rfl ?_
 refine ⟨hF1.frm, ?_⟩
 rw [show dQ s = [] by simp [dQ, hc1, hc2, hc3]]
 exact ⟨none, 0, rfl, Rd.nil _ _ _, fun _ => ⟨rfl, rfl⟩, fun h => absurd rfl h, jd⟩
structure ItR where
 x : ItM
 PA : Option Addr
 pc : Nat
 NA : Option Addr
 nc : Nat
def itR (r : ItR) : List Value := (itC r.x r.PA r.pc r.NA r.nc).toList
def IRC (l : List ItR) : List Value := l.flatMap itR
structure ItOk (w : World) (r : ItR) : Prop where
 p : Own w 3 1 r.PA r.x.w.path.length r.pc (PI r.x.w.path)
 n : Own w 9 1 r.NA r.x.w.names.length r.nc (SB r.x.w.names)
structure IsIt (w : World) (B : Nat) (I : Option Addr) (d : Nat) (rs : List ItR) : Prop where
 row : Own w 54 9 I rs.length d (IRC rs)
 ok : ∀ r ∈ rs, ItOk w r
 up : ∀ x ∈ ob I, B ≤ x
theorem Own.one {w w' : World} {e size n d g : Nat} {A : Option Addr} {xs : List Value} {t : TypeId} {cs : Array Value} (h : Own w e size A n d xs) (k : Frm [g] w w') (hb : Blk w g t cs) (h1 : e ≠ t) : Own w' e size A n d xs := h.frm k (fun y hy h2 => by rw [zg] at h2; subst h2; exact h.ne_blk hb h1 hy)
theorem ItOk.frm {w w' : World} {r : ItR} (h : ItOk w r) (k : Frm [] w w') : ItOk w' r := ⟨h.p.frm k jp, h.n.frm k jp⟩
theorem ItOk.blk {w w' : World} {r : ItR} {g : Nat} {t : TypeId} {cs : Array Value} (h : ItOk w r) (hb : Blk w g t cs) (k : Frm [g] w w') (h1 : 3 ≠ t) (h2 : 9 ≠ t) : ItOk w' r := ⟨h.p.one k hb h1, h.n.one k hb h2⟩
theorem ItOk.own {w w' : World} {r : ItR} {e size n d : Nat} {I : Option Addr} {xs : List Value} (h : ItOk w r) (ho : Own w e size I n d xs) (k : Frm (ob I) w w') (h1 : 3 ≠ e) (h2 : 9 ≠ e) : ItOk w' r := ⟨h.p.frm k (fun y hy => h.p.ne_own ho h1 y hy), h.n.frm k (fun y hy => h.n.ne_own ho h2 y hy)⟩
theorem IsIt.frm {w w' : World} {B d : Nat} {I : Option Addr} {rs : List ItR} (h : IsIt w B I d rs) (k : Frm [] w w') : IsIt w' B I d rs := ⟨h.row.frm k jp, fun r hr => (h.ok r hr).frm k, h.up⟩
theorem IsIt.blk {w w' : World} {B d g : Nat} {I : Option Addr} {rs : List ItR} {t : TypeId} {cs : Array Value} (h : IsIt w B I d rs) (hb : Blk w g t cs) (k : Frm [g] w w') (h0 : 54 ≠ t) (h1 : 3 ≠ t) (h2 : 9 ≠ t) : IsIt w' B I d rs := ⟨h.row.one k hb h0, fun r hr => (h.ok r hr).blk hb k h1 h2, h.up⟩
theorem IsIt.nil (w : World) (B : Nat) : IsIt w B none 0 [] := ⟨Own.nil _ _ _, fun _ h => (zag h).elim, fun _ h => absurd h (by simp [ob])⟩
theorem IsCp.frmS {S : List Nat} {w w' : World} {gp gc : Nat} {A : Option Addr} {n c : Nat} {tk : List Tk} {q : Nat} {cs : Array Value} (h : IsCp w gp gc A n c tk q cs) (k : Frm S w w') (h1 : gp ∉ S) (h2 : gc ∉ S) (h3 : 0 < n → ∀ x ∈ ob A, x ∉ S) : IsCp w' gp gc A n c tk q cs := ⟨h.p.frm k (by simpa using h1), h.k.frm k (by simpa using h2), h.sz, h.tk.frm k h3, h.le, h.big, h.off⟩
theorem xW (l : List ItR) (r : ItR) : IRC (l ++ [r]) = IRC l ++ itR r := by simp [IRC]
theorem mY (s : Tx) (gb B d : Nat) (I : Option Addr) (rs : List ItR) (gp gc : Nat) (A : Option Addr) (n c : Nat) (tk : List Tk) (q : Nat) (cs : Array Value) (w : World) (hP : IsCp w gp gc A n c tk q cs) (hG : Blk w gb 61 #[jI0 gp]) (hI : IsIt w B I d rs) (hcs : cs[9]? = some (.slice I rs.length d)) (hA : 0 < n → ∀ x ∈ ob A, x < B) (hB : B ≤ w.heap.size) (hrs : rs.length ≤ 1000000) (hs : s.length ≤ 50000) (hv : bT w) (htb : Tab w) : Calls Tryz.prog 70 #[encStr s, jI0 gb] w fun e w' => match cI s with
   | none => e = .panicked cY ∧ Frm [] w w'
   | some x => e = .returned (.tuple #[]) ∧ ∃ I' d' r, r.x = x ∧ IsIt w' B I' d' (rs ++ [r]) ∧ IsCp w' gp gc A n c tk q (cs.setIfInBounds 9 (.slice I' (rs.length + 1) d')) ∧ Frm (gc :: ob I) w w' ∧ ∀ y ∈ ob I', y ∈ ob I ∨ w.heap.size ≤ y := by
 refine jV Tryz.func70 Tryz.ntmps70 Tryz.results70 ?_
 refine VC.heldL 17 (fun V => V.cell? ⟨gb, 0, none⟩ = some (jI0 gp) ∧ V.cell? ⟨gp, 2, none⟩ = some (jI0 gc) ∧ V.cell? ⟨gc, 9, none⟩ = some (.slice I rs.length d)) jK ?_
 have hd := (qL.drew w).frm
 have hPd := hP.frm hd
 have hId := hI.frm hd
 have hGd := hG.frm hd jp
 have mkS : ∀ V, Blk V gb 61 #[jI0 gp] → IsCp V gp gc A n c tk q cs → (V.cell? ⟨gb, 0, none⟩ = some (jI0 gp) ∧ V.cell? ⟨gp, 2, none⟩ = some (jI0 gc) ∧ V.cell? ⟨gc, 9, none⟩ = some (.slice I rs.length d)) := fun V h1 h2 => ⟨h1.cell 0, h2.p.cell 2, by have h3 := h2.k.cells 9 _ (by simpa using hcs); exact h3⟩
 have hS := mkS _ hGd hPd
 refine jH 0 rfl hS (fun w0 hw0 => Run.load rfl zae hw0.1) ?_
 refine jH 1 rfl hS (fun w0 hw0 => Run.nilck rfl) ?_
 refine jH 2 rfl hS (fun w0 hw0 => Run.fieldAddr rfl zk rfl zad jd) ?_
 refine jH 3 rfl hS (fun w0 hw0 => Run.load rfl zak hw0.2.1) ?_
 refine jH 4 rfl hS (fun w0 hw0 => Run.load rfl zae hw0.1) ?_
 refine jH 5 rfl hS (fun w0 hw0 => Run.nilck rfl) ?_
 refine jH 6 rfl hS (fun w0 hw0 => Run.fieldAddr rfl zk rfl zad jd) ?_
 refine jH 7 rfl hS (fun w0 hw0 => Run.load rfl zak hw0.2.1) ?_
 refine jH 8 rfl hS (fun w0 hw0 => Run.nilck rfl) ?_
 refine jH 9 rfl hS (fun w0 hw0 => Run.fieldAddr rfl ze rfl zcb jd) ?_
 refine jH 10 rfl hS (fun w0 hw0 => Run.load rfl zdh hw0.2.2) ?_
 refine qQ.r1 11 rfl jK hS (Run.mv rfl) trivial rfl rfl ?_
 refine qQ.clp 12 rfl jK (jE1 Tryz.call71) (xV s _ hs (hv.frm0 hd) (htb.frm hd)) trivial rfl rfl ?_
 rintro e w1 ⟨hf1, he⟩
 rcases hT : cI s with _ | x
 ·
  rw [hT] at he
  exact .inr ⟨_, he, qP ⟨rfl, hd.trans hf1 jp⟩⟩
 rw [hT] at he
 obtain ⟨PA, pc, NA, nc, rfl, hoP, hoN⟩ := he
 have hG1 := hGd.frm hf1 jp
 have hP1 := hPd.frm hf1
 have hI1 := hId.frm hf1
 have hok : ItOk w1 ⟨x, PA, pc, NA, nc⟩ := ⟨hoP, hoN⟩
 have hS := mkS _ hG1 hP1
 refine .inl ⟨_, rfl, hS, ?_⟩
 refine qQ.m 13 rfl jK (qH.buildS1 rfl zbv zar eC jd jd rfl rfl) trivial rfl rfl ?_
 rintro _ w2 ⟨rfl, hF2⟩
 have hG2 := hG1.frm hF2.frm jp
 have hP2 := hP1.frm hF2.frm
 have hI2 := hI1.frm hF2.frm
 have hok := hok.frm hF2.frm
 have hrd : Rd w2 9 (some ⟨w1.heap.size, 0, none⟩) 1 (itC x PA pc NA nc).toList := Rd.of_blk (n := 1) (size := 9) hF2.blk rfl
 have K2 : Frm [] w w2 := (hd.trans hf1 jp).trans hF2.frm jp
 have q2 := K2.size
 have hS := mkS _ hG2 hP2
 refine ⟨hS, ?_⟩
 refine qQ.m 14 rfl jK (qH.app rfl rfl zbv (qJl) rfl jd hI2.row hrd (eG _ _ _ _ _) jo jo) trivial rfl rfl ?_
 rintro _ w3 ⟨I3, d3, rfl, hO3, hf3, hob3⟩
 have hgp := hI2.row.ne_blk hP2.p jd
 have hgc := hI2.row.ne_blk hP2.k jd
 have hgb := hI2.row.ne_blk hG2 jd
 have hP3 := hP2.frmS hf3 hgp hgc (fun h0 y hy e => by have h1 := hA h0 y hy; have h2 := hI.up y e; omega)
 have hG3 := hG2.frm hf3 hgb
 have hI3 : IsIt w3 B I3 d3 (rs ++ [⟨x, PA, pc, NA, nc⟩]) := ⟨by rw [xW, zz]; exact hO3, fun r hr => by
  rcases zee.1 hr with hr | hr
  · exact (hI2.ok r hr).own hI2.row hf3 jd jd
  ·
   rw [zg] at hr
   subst hr
   exact hok.own hI2.row hf3 jd jd, fun y hy => by
  rcases hob3 with h | h
  · rw [h] at hy; exact hI.up y hy
  rw [h, zg] at hy; omega⟩
 have hS := mkS _ hG3 hP3
 refine ⟨hS, ?_⟩
 refine qQ.r1 15 rfl jK hS (Run.nilck rfl) trivial rfl rfl ?_
 refine qQ.r1 16 rfl jK hS (Run.fieldAddr rfl ze rfl zcb jd) trivial rfl rfl ?_
 refine qQ.stL rfl jK (qJ.store (i := 9) rfl rfl zcb hP3.k (by rw [hP3.sz]; rfl) rfl) trivial rfl ?_
 rintro w4 ⟨hb4, hf4, hs4⟩
 have hP4 := hP3.turn hb4 (by simp [hP3.sz]) hf4
 have hI4 := hI3.blk hP3.k hf4 jd jd jd
 refine qQ.done jK ?_
 refine cB ?_
 refine ⟨rfl, I3, d3, ⟨x, PA, pc, NA, nc⟩, rfl, hI4, hP4, ((K2.mono jp).trans hf3 (fun y hy => .inl (by simp [hy]))).trans hf4 (fun y hy => .inl (by simp at hy; simp [hy])), fun y hy => ?_⟩
 rcases hob3 with h | h
 · rw [h] at hy; exact .inl hy
 rw [h, zg] at hy; exact .inr jo
def dA (tk : List Tk) (q : Nat) : Option ItM := (qW tk q [0]).bind cI
theorem xY (w0 : World) (gf gb d : Nat) (I : Option Addr) (rs : List ItR) (gp gc : Nat) (A : Option Addr) (n c : Nat) (tk : List Tk) (q : Nat) (cs : Array Value) (w : World) (hP : IsCp w gp gc A n c tk q cs) (hF : Blk w gf 117 #[.func (.func 70) ([] : List Value).toArray ([jI0 gb] : List Value).toArray]) (hG : Blk w gb 61 #[jI0 gp]) (hI : IsIt w w0.heap.size I d rs) (hcs : cs[9]? = some (.slice I rs.length d)) (hA : 0 < n → ∀ x ∈ ob A, x < w0.heap.size) (hK : Frm [] w0 w) (hgp : w0.heap.size ≤ gp) (hrs : rs.length ≤ 1000000) (hl : ∀ x ∈ tk, x.2.length ≤ 50000) (hv : bT w0) (htb : Tab w0) : Calls Tryz.prog 72 #[jI0 gf, jI0 gb] w fun e w' => match dA tk q with
   | none => e = .panicked cY ∧ Frm [gp] w w'
   | some x => e = .returned (.tuple #[]) ∧ ∃ I' d' r, r.x = x ∧ IsIt w' w0.heap.size I' d' (rs ++ [r]) ∧ IsCp w' gp gc A n c tk (q + 1) (cs.setIfInBounds 9 (.slice I' (rs.length + 1) d')) ∧ Frm (gp :: gc :: ob I) w w' ∧ ∀ y ∈ ob I', y ∈ ob I ∨ w.heap.size ≤ y := by
 refine jV Tryz.func72 Tryz.ntmps72 Tryz.results72 ?_
 refine VC.held (fun V => V.cell? ⟨gf, 0, none⟩ = some (.func (.func 70) ([] : List Value).toArray ([jI0 gb] : List Value).toArray) ∧ V.cell? ⟨gb, 0, none⟩ = some (jI0 gp)) jK ?_
 have hd := (qL.drew w).frm
 have hPd := hP.frm hd
 have hId := hI.frm hd
 have hGd := hG.frm hd jp
 have hFd := hF.frm hd jp
 have hS : (fun V : World => V.cell? ⟨gf, 0, none⟩ = some (.func (.func 70) ([] : List Value).toArray ([jI0 gb] : List Value).toArray) ∧ V.cell? ⟨gb, 0, none⟩ = some (jI0 gp)) w.drew := ⟨hFd.cell 0, hGd.cell 0⟩
 refine jH 0 rfl hS (fun w0 hw0 => Run.load rfl Tryz.isAgg117 hw0.1) ?_
 refine jH 1 rfl hS (fun w0 hw0 => Run.load rfl zae hw0.2) ?_
 refine qQ.m 2 rfl jK (qH.buildS1 rfl zl zc dH jd jd rfl rfl) trivial rfl rfl ?_
 rintro _ w1 ⟨rfl, hF1⟩
 have hK1 : Rd w1 1 (some ⟨w.drew.heap.size, 0, none⟩) 1 (IB [0]) := Rd.of_blk (n := 1) (size := 1) hF1.blk rfl
 have hPl := hP.lt
 have hG1 := hGd.frm hF1.frm jp
 have hf1 := hFd.frm hF1.frm jp
 have hI1 := hId.frm hF1.frm
 have hP1 := hPd.frm hF1.frm
 have hsz1 := hd.size
 have hS : (fun V : World => V.cell? ⟨gf, 0, none⟩ = some (.func (.func 70) ([] : List Value).toArray ([jI0 gb] : List Value).toArray) ∧ V.cell? ⟨gb, 0, none⟩ = some (jI0 gp)) w1 := ⟨hf1.cell 0, hG1.cell 0⟩
 refine ⟨hS, ?_⟩
 refine qQ.clp 3 rfl jK (jE2 zca) (bO (some ⟨w.drew.heap.size, 0, none⟩) 1 1 [0] gp gc A n c tk q cs w1 hP1 rfl jo hK1 (fun _ x hx => by rw [zg.1 hx]; show w.drew.heap.size ≠ gp; omega)) trivial rfl rfl ?_
 rintro e w2 ⟨hf2, he⟩
 rcases hT : qW tk q [0] with _ | s
 ·
  rw [hT] at he
  exact .inr ⟨_, he, qP (by rw [show dA tk q = none by simp [dA, hT]]; exact ⟨rfl, ((hd.trans hF1.frm jp).mono jp).trans hf2 (fun x hx => .inl hx)⟩)⟩
 rw [hT] at he
 obtain ⟨rfl, hP2⟩ := he
 have hG2 := hG1.frm hf2 (by simp; exact hG1.ne hP1.p jd)
 have hF2 := hf1.frm hf2 (by simp; exact hf1.ne hP1.p jd)
 have hI2 := hI1.blk hP1.p hf2 jd jd jd
 have K2 : Frm [gp] w w2 := ((hd.trans hF1.frm jp).mono jp).trans hf2 (fun x hx => .inl hx)
 have q2 := K2.size
 have q0 := hK.size
 have K02 : Frm [] w0 w2 := hK.own K2 (by simp; omega)
 have hS : (fun V : World => V.cell? ⟨gf, 0, none⟩ = some (.func (.func 70) ([] : List Value).toArray ([jI0 gb] : List Value).toArray) ∧ V.cell? ⟨gb, 0, none⟩ = some (jI0 gp)) w2 := ⟨hF2.cell 0, hG2.cell 0⟩
 have him : dA tk q = cI s := by simp [dA, hT]
 rw [him]
 refine .inl ⟨_, rfl, hS, ?_⟩
 refine qQ.clp 4 rfl jK (bJ.dyn rfl (evs.cons rfl evs.nil) Tryz.call70) (mY s gb w0.heap.size d I rs gp gc A n c tk (q + 1) cs w2 hP2 hG2 hI2 hcs hA jo hrs (bL hT hl) (hv.frm0 K02) (htb.frm K02)) trivial rfl rfl ?_
 rintro e w3 he
 rcases hM : cI s with _ | x
 ·
  rw [hM] at he
  exact .inr ⟨_, he.1, qP ⟨rfl, K2.trans he.2 jp⟩⟩
 rw [hM] at he
 obtain ⟨rfl, I3, d3, r, hr, hI3, hP3, hf3, hu3⟩ := he
 have hF3 := hF2.frm hf3 (by simp; exact ⟨hF2.ne hP2.k jd, hI2.row.ne_blk hF2 jd⟩)
 have hG3 := hG2.frm hf3 (by simp; exact ⟨hG2.ne hP2.k jd, hI2.row.ne_blk hG2 jd⟩)
 refine .inl ⟨_, rfl, ⟨hF3.cell 0, hG3.cell 0⟩, ?_⟩
 refine qQ.done jK ?_
 refine cB ?_
 exact ⟨rfl, I3, d3, r, hr, hI3, hP3, (K2.mono jp).trans hf3 (fun y hy => .inl (by simp at hy; rcases hy with h | h <;> simp [h])), fun y hy => by rcases hu3 y hy with h | h; exact .inl h; exact .inr jo⟩
theorem oP {cs : Array Value} {i : Nat} {v : Value} (h : cs[i]? = some v) : cs.setIfInBounds i v = cs := by
 apply Array.ext_getElem?
 intro j
 rw [zax]
 split
 ·
  next he =>
  subst he
  rw [if_pos (Array.getElem?_eq_some_iff.1 h).1, h]
 rfl
theorem vD {cs : Array Value} {i : Nat} {u v : Value} : (cs.setIfInBounds i u).setIfInBounds i v = cs.setIfInBounds i v := by
 apply Array.ext_getElem?
 intro j
 simp only [zax, zet]
 split <;> rfl
theorem tS {cs : Array Value} {i : Nat} {v : Value} (h : i < cs.size) : (cs.setIfInBounds i v)[i]? = some v := by
 rw [zax, if_pos rfl, if_pos h]
def eP (v0 w : World) (gf gb gp gc : Nat) (A : Option Addr) (n c : Nat) (tk : List Tk) (csS : Array Value) (Bs : Option Addr) (ds : Nat) (sp : List Sp) (xs : List ItM) (W : World) (q : Nat) (cs : Array Value) : Prop :=
 ∃ I d rs, rs.map (·.x) = xs ∧ IsIt W v0.heap.size I d rs ∧ cs[9]? = some (.slice I rs.length d) ∧ (∀ v, cs.setIfInBounds 9 v = csS.setIfInBounds 9 v) ∧ IsCp W gp gc A n c tk q cs ∧ Blk W gf 117 #[.func (.func 70) ([] : List Value).toArray ([jI0 gb] : List Value).toArray] ∧ Blk W gb 61 #[jI0 gp] ∧ Own W 96 2 Bs sp.length ds (SC sp) ∧ Frm [gp, gc] w W ∧ ∀ y ∈ ob I, w.heap.size ≤ y
section
variable {v0 w : World} {gf gb gp gc : Nat} {A : Option Addr} {n c : Nat} {tk : List Tk} {csS : Array Value} {Bs : Option Addr} {ds : Nat} {sp : List Sp} {xs : List ItM} {W W' : World} {q q2 : Nat} {cs : Array Value}
theorem eP.frm (h : eP v0 w gf gb gp gc A n c tk csS Bs ds sp xs W q cs) (k : Frm [] W W') : eP v0 w gf gb gp gc A n c tk csS Bs ds sp xs W' q cs := by
 obtain ⟨I, d, rs, h1, h2, h3, h4, h5, h6, h7, h8, h9, h10⟩ := h
 exact ⟨I, d, rs, h1, h2.frm k, h3, h4, h5.frm k, h6.frm k jp, h7.frm k jp, h8.frm k jp, h9.trans k jp, h10⟩
theorem eP.read (h : eP v0 w gf gb gp gc A n c tk csS Bs ds sp xs W q cs) (k : Frm [gp] W W') (hP : IsCp W' gp gc A n c tk q2 cs) : eP v0 w gf gb gp gc A n c tk csS Bs ds sp xs W' q2 cs := by
 obtain ⟨I, d, rs, h1, h2, h3, h4, h5, h6, h7, h8, h9, h10⟩ := h
 exact ⟨I, d, rs, h1, h2.blk h5.p k jd jd jd, h3, h4, hP, h6.frm k (by simp; exact h6.ne h5.p jd), h7.frm k (by simp; exact h7.ne h5.p jd), h8.one k h5.p jd, h9.trans k (fun x hx => .inl (by simp at hx; simp [hx])), h10⟩
theorem eP.add {I I' : Option Addr} {d d' : Nat} {rs : List ItR} {r : ItR} (h1 : rs.map (·.x) = xs) (h2 : IsIt W v0.heap.size I d rs) (h4 : ∀ v, cs.setIfInBounds 9 v = csS.setIfInBounds 9 v) (h5 : IsCp W gp gc A n c tk q cs) (h6 : Blk W gf 117 #[.func (.func 70) ([] : List Value).toArray ([jI0 gb] : List Value).toArray]) (h7 : Blk W gb 61 #[jI0 gp]) (h8 : Own W 96 2 Bs sp.length ds (SC sp)) (h9 : Frm [gp, gc] w W) (h10 : ∀ y ∈ ob I, w.heap.size ≤ y)
  (g2 : IsIt W' v0.heap.size I' d' (rs ++ [r])) (g5 : IsCp W' gp gc A n c tk q2 (cs.setIfInBounds 9 (.slice I' (rs.length + 1) d'))) (k : Frm (gp :: gc :: ob I) W W') (hu : ∀ y ∈ ob I', y ∈ ob I ∨ W.heap.size ≤ y) : eP v0 w gf gb gp gc A n c tk csS Bs ds sp (xs ++ [r.x]) W' q2 (cs.setIfInBounds 9 (.slice I' (rs.length + 1) d')) := by
 have hsz := h9.size
 refine ⟨I', d', rs ++ [r], by simp [h1], g2, by rw [tS (by rw [h5.sz]; decide)]; simp, fun v => by rw [vD]; exact h4 v, g5, h6.frm k (by simp; exact ⟨h6.ne h5.p jd, h6.ne h5.k jd, h2.row.ne_blk h6 jd⟩), h7.frm k (by simp; exact ⟨h7.ne h5.p jd, h7.ne h5.k jd, h2.row.ne_blk h7 jd⟩), h8.frm k (fun y hy => by simp; exact ⟨fun e => (h8.ne_blk h5.p jd) (e ▸ hy), fun e => (h8.ne_blk h5.k jd) (e ▸ hy), h8.ne_own h2.row jd y hy⟩), h9.trans k (fun y hy => ?_), fun y hy => ?_⟩
 ·
  simp at hy
  rcases hy with h | h | h
  · exact .inl (by simp [h])
  · exact .inl (by simp [h])
  exact .inr (h10 y h)
 rcases hu y hy with h | h
 · exact h10 y h
 omega
end
def jJ (tk : List Tk) (_ k : Nat) : Option Nat := (dA tk k).map fun _ => k + 1
noncomputable def cK (tk : List Tk) (q : Nat) : Option (List Sp × List ItM × Nat) := (dF tk q).bind fun sp =>
 if IsT tk (q + 1) 2 then (cN tk (jJ tk) 1 16 (q + 1)).map fun p => (sp, (List.range p.2).map (fun i => (dA tk (q + 2 + i)).getD it0), p.1 + 1)
 else (qW tk (q + 1) [0]).bind fun s => if dQ (qT s) = [] then (cI s).map fun x => (sp, [x], q + 2) else some (sp, (dQ (qT s)).map (fun m => (cI m).getD it0), q + 2)
theorem zV : ∀ m ∈ dU, ∃ x, cI m = some x := by
 have h : ∀ m ∈ dU, (lG (qT m)).isSome = true ∧ m.length ≤ 50000 := jd
 intro m hm
 obtain ⟨x, hx⟩ := Option.isSome_iff_exists.1 (h m hm).1
 exact ⟨x, by unfold cI; rw [hx]⟩
theorem qXh : ∀ m ∈ dU, m.length ≤ 50000 := jd
theorem qZq (s : Tx) {k : Nat} (h : k < (dQ s).length) : (dQ s)[k]? = dU[k]? ∧ k < 5 := by
 have h5 : dU.length = 5 := rfl
 have h2 : ∀ j, k < (dU.take j).length → (dU.take j)[k]? = dU[k]? ∧ k < 5 := fun j hj => by
  rw [zbd] at hj
  exact ⟨by rw [List.getElem?_take, if_pos jo], jo⟩
 unfold dQ at h ⊢
 split
 · rename_i h1; rw [if_pos h1] at h; exact h2 3 h
 rename_i h1; rw [if_neg h1] at h
 split
 · rename_i h3; rw [if_pos h3] at h; exact h2 4 h
 rename_i h3; rw [if_neg h3] at h
 split
 · rename_i h4; rw [if_pos h4] at h; exact ⟨rfl, jo⟩
 rename_i h4; rw [if_neg h4] at h; cases h
theorem Run.neqNilS {P : Program} {Γ : Env} {w : World} {dst : Option Nat} {T : TypeId} {pos : String} {after : Array Edge} {g : Option (Nat × Bool)} {t yT e : TypeId} {x y : Operand} {A : Option Addr} {n c : Nat} (hx : ev? Γ x = some (.slice A n c)) (hy : ev? Γ y = some (.slice none 0 0)) (ht : P.underlying t = some (.slice e)) :
  Run P ⟨dst, .binOp .neq t x y yT, T, pos, after, g⟩ Γ w (.bool (! A.isNone)) := fun ρ hρ => by
 have h0 : ∀ d : Nat, (Op.equalIn (d + 1) t (.slice A n c) (.slice none 0 0)).run P w = .ok A.isNone w := fun d => by
  cases A <;> simp [Op.equalIn, run_underlying ht]
 have h1 : (Op.equal t (.slice A n c) (.slice none 0 0)).run P w = .ok A.isNone w := h0 9999
 simp [execOp, hρ _ _ hx, hρ _ _ hy, eqGuard, binOp, h1]
theorem qZr (w : World) : (zeroValue 117).run Tryz.prog w = .ok (.nilFunc) w := by
 simp only [zeroValue, Sem.run_bind, Tryz.typeInfo117, Result.andThen_ok]; rfl
theorem nO (v0 : World) (gp gc : Nat) (A : Option Addr) (n c : Nat) (tk : List Tk) (q : Nat) (cs : Array Value) (w : World) (hP : IsCp w gp gc A n c tk q cs) (hcs : cs[9]? = some (.slice none 0 0)) (hA : 0 < n → ∀ x ∈ ob A, x < v0.heap.size) (hK0 : Frm [] v0 w) (hgp : v0.heap.size ≤ gp ∧ v0.heap.size ≤ gc) (hl : ∀ x ∈ tk, x.2.length ≤ 50000) (hv : bT v0) (htb : Tab v0) : Calls Tryz.prog 35 #[jI0 gp] w fun e w' => match cK tk q with
   | none => e = .panicked cY ∧ Frm [gp, gc] w w'
   | some (sp, xs, q2) => e = .returned (.tuple #[]) ∧ ∃ gf gb Bs ds cs2, eP v0 w gf gb gp gc A n c tk (cs.setIfInBounds 8 (.slice Bs sp.length ds)) Bs ds sp xs w' q2 cs2 := by
 refine jV Tryz.func35 Tryz.ntmps35 Tryz.results35 ?_
 refine jS (jR ?_)
 refine Ops.m (qH.box rfl) rfl ?_
 rintro _ w1 ⟨rfl, hF1⟩
 obtain ⟨gb, hgb⟩ : ∃ g, g = w.heap.size := ⟨_, rfl⟩
 have hG : Blk w1 gb 61 #[jI0 gp] := by rw [hgb]; exact hF1.blk
 have hP1 := hP.frm hF1.frm
 rw [← hgb]
 refine jO (jN (jv1 1 ?_))
 refine jS ?_
 refine VC.heldL 8 (fun V => V.cell? ⟨gb, 0, none⟩ = some (jI0 gp) ∧ V.cell? ⟨gp, 2, none⟩ = some (jI0 gc)) jK ?_
 have hd := (qL.drew w1).frm
 have hPd := hP1.frm hd
 have hGd := hG.frm hd jp
 have hS : (fun V : World => V.cell? ⟨gb, 0, none⟩ = some (jI0 gp) ∧ V.cell? ⟨gp, 2, none⟩ = some (jI0 gc)) w1.drew := ⟨hGd.cell 0, hPd.p.cell 2⟩
 refine jH 0 rfl hS (fun w0 hw0 => Run.load rfl zae hw0.1) ?_
 refine jH 1 rfl hS (fun w0 hw0 => Run.nilck rfl) ?_
 refine jH 2 rfl hS (fun w0 hw0 => Run.fieldAddr rfl zk rfl zad jd) ?_
 refine jH 3 rfl hS (fun w0 hw0 => Run.load rfl zak hw0.2) ?_
 refine qQ.r1 4 rfl jK hS (Run.load rfl zae hS.1) trivial rfl rfl ?_
 refine qQ.clp 5 rfl jK (jE1 Tryz.call69) (hZ gp gc A n c tk q cs _ hPd (fun x hx => by have := hl x hx; omega)) trivial rfl rfl ?_
 rintro e w2 ⟨hf2, he⟩
 have K2 : Frm [gp, gc] w w2 := ((hF1.frm.trans hd jp).mono jp).trans hf2 (fun x hx => .inl (by simp at hx; simp [hx]))
 rcases hT : dF tk q with _ | sp
 ·
  rw [hT] at he
  exact .inr ⟨_, he, qK (qP (by rw [show cK tk q = none by simp [cK, hT]]; exact ⟨rfl, K2⟩))⟩
 rw [hT] at he
 obtain ⟨Bs, ds, rfl, hP2, hoS, hupS⟩ := he
 have hG2 := hGd.frm hf2 (by simp; exact hGd.ne hPd.p jd)
 have hS : (fun V : World => V.cell? ⟨gb, 0, none⟩ = some (jI0 gp) ∧ V.cell? ⟨gp, 2, none⟩ = some (jI0 gc)) w2 := ⟨hG2.cell 0, hP2.p.cell 2⟩
 refine .inl ⟨_, rfl, hS, ?_⟩
 refine qQ.r1 6 rfl jK hS (Run.nilck rfl) trivial rfl rfl ?_
 refine qQ.r1 7 rfl jK hS (Run.fieldAddr rfl ze rfl zbf jd) trivial rfl rfl ?_
 refine qQ.stL rfl jK (qJ.store (i := 8) rfl rfl zbf hP2.k (by rw [hP2.sz]; rfl) rfl) trivial rfl ?_
 rintro w3 ⟨hb3, hf3, hs3⟩
 have hf3 : Frm [gc] w2 w3 := hf3
 obtain ⟨csS, hcsS⟩ : ∃ x, x = cs.setIfInBounds 8 (.slice Bs sp.length ds) := ⟨_, rfl⟩
 have hP3 : IsCp w3 gp gc A n c tk (q + 1) csS := by rw [hcsS]; exact hP2.turn hb3 (by simp [hP2.sz]) hf3
 have hG3 := hG2.frm hf3 (by simp; exact hG2.ne hP2.k jd)
 have hoS := hoS.one hf3 hP2.k jd
 have h9 : csS[9]? = some (.slice none 0 0) := by rw [hcsS, zax, if_neg jd]; exact hcs
 have K3 : Frm [gp, gc] w w3 := K2.trans hf3 (fun x hx => .inl (by simp at hx; simp [hx]))
 refine qQ.done jK ?_
 refine jN (jv1 1 ?_)
 refine jS (jR (je (Run.mkFunc evs.nil (evs.cons rfl evs.nil)) ?_))
 refine Ops.m (qH.alloc qZr) rfl ?_
 rintro _ w4 ⟨rfl, hF4⟩
 obtain ⟨gf, hgf⟩ : ∃ g, g = w3.heap.size := ⟨_, rfl⟩
 have hb4 := hF4.blk
 rw [← hgf] at hb4 ⊢
 refine Ops.st (qJ.store (i := 0) rfl rfl Tryz.sizeOf117 hb4 rfl rfl) ?_
 rintro w5 ⟨hFf, hf5, hs5⟩
 have hFf : Blk w5 gf 117 #[.func (.func 70) ([] : List Value).toArray ([jI0 gb] : List Value).toArray] := hFf
 have hf45 : Frm [] w3 w5 := hF4.frm.own hf5 (fun x hx => by rw [zg] at hx; omega)
 have hP5 := hP3.frm hf45
 have hG5 := hG3.frm hf45 jp
 have hoS := hoS.frm hf45 jp
 have K5 := K3.trans hf45 jp
 have hX5 : eP v0 w gf gb gp gc A n c tk csS Bs ds sp [] w5 (q + 1) csS := ⟨none, 0, [], rfl, IsIt.nil _ _, h9, fun _ => rfl, hP5, hFf, hG5, hoS, K5, fun _ h => absurd h (by simp [ob])⟩
 clear hFf hoS
 refine jO (jN (jv2 1 2 ?_))
 refine jS (jS (jR (jl rfl zae (hG5.cell 0) ?_)))
 refine jc (jE3 zco) (dR 0 2 gp gc A n c tk (q + 1) csS w5 hP5 jo) ?_
 rintro e w6 ⟨hf6, rfl⟩
 refine ⟨_, rfl, ?_⟩
 have hX6 := hX5.frm hf6
 have hG6 := hG5.frm hf6 jp
 have hP6 := hP5.frm hf6
 have K6 := K5.trans hf6 jp
 rw [zdg]
 have hbase : ∀ W, Frm [gp, gc] w W → Frm [] v0 W := fun W k => hK0.own k (by simp; exact hgp)
 clear hX5
 refine jO (jN (jv3 1 2 17 ?_))
 refine VC.condB rfl (fun hc1 => ?_) (fun hc1 => ?_)
 ·
  have hit : IsT tk (q + 1) 2 := by simpa using hc1
  have hfm : cK tk q = (cN tk (jJ tk) 1 16 (q + 1)).map fun p => (sp, (List.range p.2).map (fun i => (dA tk (q + 2 + i)).getD it0), p.1 + 1) := by unfold cK; rw [hT, zn, if_pos hit]
  rw [hfm]
  have hone : ∀ j W q1 cs1, j < 16 → ¬ IsT tk q1 3 → (j ≤ 16 ∧ q1 = q + 2 + j ∧ eP v0 w gf gb gp gc A n c tk csS Bs ds sp ((List.range j).map fun i => (dA tk (q + 2 + i)).getD it0) W q1 cs1) → Calls Tryz.prog 72 ([jI0 gf, jI0 gb] : List Value).toArray W fun e w' => match jJ tk j q1 with
     | none => e = .panicked cY ∧ Frm [gp, gc] w w'
     | some q2 => e = .returned (.tuple #[]) ∧ ∃ cs2, (j + 1 ≤ 16 ∧ q2 = q + 2 + (j + 1) ∧ eP v0 w gf gb gp gc A n c tk csS Bs ds sp ((List.range (j + 1)).map fun i => (dA tk (q + 2 + i)).getD it0) w' q2 cs2) := by
   intro j W q1 cs1 hj hn3 h
   obtain ⟨_, hq1, I, d, rs, h1, h2, h3, h4, h5, h6, h7, h8, h9, h10⟩ := h
   have hln : rs.length = j := by have := congrArg List.length h1; simpa using this
   refine (xY v0 gf gb d I rs gp gc A n c tk q1 cs1 W h5 h6 h7 h2 h3 hA (hbase W h9) hgp.1 jo hl hv htb).mono fun e w' he => ?_
   unfold jJ
   rcases hi : dA tk q1 with _ | x
   ·
    rw [hi] at he
    exact ⟨he.1, h9.trans he.2 (fun y hy => .inl (by simp at hy; simp [hy]))⟩
   rw [hi] at he
   obtain ⟨he, I', d', r, hr, g2, g5, k, hu⟩ := he
   refine ⟨he, cs1.setIfInBounds 9 (.slice I' (rs.length + 1) d'), jo, (by show q1 + 1 = _; omega), ?_⟩
   have := eP.add h1 h2 h4 h5 h6 h7 h8 h9 h10 g2 g5 k hu
   rw [List.range_succ, zcw, List.map_singleton, ← hq1, hi]
   rw [hr] at this
   exact this
  refine jS (jR (jl rfl zae (hG6.cell 0) (je (Run.mkFunc evs.nil (evs.cons rfl (evs.cons rfl evs.nil))) ?_)))
  refine Ops.clp (jE4 Tryz.call62) (kK 72 [] [jI0 gf, jI0 gb] 1 16 (jJ tk) (fun j W q1 cs1 => j ≤ 16 ∧ q1 = q + 2 + j ∧ eP v0 w gf gb gp gc A n c tk csS Bs ds sp ((List.range j).map fun i => (dA tk (q + 2 + i)).getD it0) W q1 cs1) w gp gc A n c tk (q + 1) csS w6 hP6 K6 jo jo Tryz.call72 (fun W k hP => ⟨zac _, rfl, hX6.read k hP⟩) (fun j W q1 cs1 h => by obtain ⟨_, _, I, d, rs, h1, h2, h3, h4, h5, h6, h7, h8, h9, h10⟩ := h; exact ⟨h5, h9⟩) (fun j W W' q1 cs1 h k => ⟨h.1, h.2.1, h.2.2.frm k⟩) hone) rfl ?_
  rintro e w7 he
  rcases hL : cN tk (jJ tk) 1 16 (q + 1) with _ | ⟨q2, j⟩
  ·
   rw [hL] at he
   exact .inr ⟨_, he.1, qK (qK (qP ⟨rfl, he.2⟩))⟩
  rw [hL] at he
  obtain ⟨rfl, cs2, W1, ⟨_, _, hX7⟩, hf7, hP7⟩ := he
  refine .inl ⟨_, rfl, ?_⟩
  refine jO (jN ?_)
  refine VC.sub [] .nil ?_
  refine jT ?_
  refine qZ (sE ?_)
  refine ⟨rfl, gf, gb, Bs, ds, cs2, ?_⟩
  rw [← hcsS]
  exact hX7.read hf7 hP7
 have hit : ¬ IsT tk (q + 1) 2 := by simpa using hc1
 have hfm : cK tk q = (qW tk (q + 1) [0]).bind fun s => if dQ (qT s) = [] then (cI s).map fun x => (sp, [x], q + 2) else some (sp, (dQ (qT s)).map (fun m => (cI m).getD it0), q + 2) := by unfold cK; rw [hT, zn, if_neg hit]
 rw [hfm]
 refine jQ (jN (jv2 1 2 ?_))
 refine jS (jR (jl rfl zae (hG6.cell 0) ?_))
 refine Ops.m (qH.buildS1 rfl zl zc dH jd jd rfl rfl) rfl ?_
 rintro _ w7 ⟨rfl, hF7⟩
 have hK7 : Rd w7 1 (some ⟨w6.heap.size, 0, none⟩) 1 (IB [0]) := Rd.of_blk (n := 1) (size := 1) hF7.blk rfl
 have hPl := hP6.lt
 have hX7 := hX6.frm hF7.frm
 refine Ops.clp (jE2 zca) (bO (some ⟨w6.heap.size, 0, none⟩) 1 1 [0] gp gc A n c tk (q + 1) csS w7 (hP6.frm hF7.frm) rfl jo hK7 (fun _ x hx => by rw [zg.1 hx]; show w6.heap.size ≠ gp; omega)) rfl ?_
 rintro e w8 ⟨hf8, he⟩
 rcases hTk : qW tk (q + 1) [0] with _ | s
 ·
  rw [hTk] at he
  exact .inr ⟨_, he, qK (qP ⟨rfl, (K6.trans hF7.frm jp).trans hf8 (fun x hx => .inl (by simp at hx; simp [hx]))⟩)⟩
 rw [hTk] at he
 obtain ⟨rfl, hP8⟩ := he
 have hsl := bL hTk hl
 have hX8 := hX7.read hf8 hP8
 rw [zn]
 refine .inl ⟨_, rfl, ?_⟩
 refine ja rfl (jO (jN (jv2 2 3 ?_)))
 refine jS (jS (jR (jM ?_)))
 refine jc (jE1 Tryz.call30) (eY s w8 jo) ?_
 rintro e w9 ⟨rfl, hf9⟩
 refine ⟨_, rfl, ?_⟩
 have hX9 := hX8.frm hf9
 refine jc (jE1 Tryz.call73) (uD (qT s) w9) ?_
 rintro e wa ⟨hfa, Bm, dm, rfl, hRm, hm0, hm1, hdm⟩
 refine ⟨_, rfl, ?_⟩
 have hXa := hX9.frm hfa
 refine ja rfl (jO (jN (jv3 2 3 4 ?_)))
 refine jS (jR (jm rfl (je (Run.neqNilS rfl rfl zp) (jO (jN (jv4 2 3 4 28 ?_))))))
 refine VC.condB rfl (fun hc2 => ?_) (fun hc2 => ?_)
 ·
  have hmn : dQ (qT s) ≠ [] := fun h0 => by
   obtain ⟨h1, h2⟩ := hm0 h0
   rw [h1] at hc2
   simp at hc2
  obtain ⟨gm, hgm, hbm⟩ := hm1 hmn
  subst hgm
  rw [if_neg hmn]
  obtain ⟨ml, hml⟩ : ∃ ml, ml = dQ (qT s) := ⟨_, rfl⟩
  have hmat : ∀ k, k < ml.length → ml[k]? = dU[k]? ∧ k < 5 := by rw [hml]; exact fun k hk => qZq _ hk
  have hmL : ml.length ≤ 5 := by rcases Nat.lt_or_ge 5 ml.length with h | h; exact absurd (hmat 5 h).2 jo; exact h
  rw [← hml] at hdm ⊢
  clear hRm hm0 hm1
  refine jS (jS (jR (jm rfl (jL rfl zp ?_))))
  refine jx .i64 0 ?_
  refine jO (jN (jv4 2 29 30 31 ?_))
  refine jB ?_
  refine VC.loop (σ := Nat × Array Value) (fun s => [(2, jI0 gf), (29, .slice (some ⟨gm, 0, none⟩) ml.length dm), (30, jI1 ml.length), (31, jI1 s.1)]) (fun s wr => s.1 ≤ ml.length ∧ Blk wr gm 9 (SB dU).toArray ∧ eP v0 w gf gb gp gc A n c tk csS Bs ds sp ((ml.take s.1).map fun m => (cI m).getD it0) wr (q + 2) s.2) (fun s => ml.length - s.1) (0, csS) (js4 rfl rfl rfl rfl) ⟨zac _, hbm, hXa⟩ ?_
  clear hXa hbm
  rintro ⟨k, cs1⟩ wr ⟨hk, hbm, hXk⟩
  dsimp only at hk hXk ⊢
  obtain ⟨I, d, rs, x1, x2, x3, x4, x5, x6, x7, x8, x9, x10⟩ := hXk
  have hrl : rs.length ≤ 5 := by have := congrArg List.length x1; simp at this; omega
  refine jS (jR (jb rfl rfl (Bin.lssN _ _) (jO (jN (jS ?_)))))
  refine jD rfl (fun hc3 => ?_) fun hc3 => ?_
  ·
   have hk3 : k < ml.length := by simpa using hc3
   have hm5 := hmat k hk3
   obtain ⟨mk, hmk⟩ : ∃ mk, dU[k]? = some mk := ⟨_, zb (show k < dU.length from hm5.2)⟩
   have hmem : mk ∈ dU := zck hmk
   obtain ⟨xk, hxk⟩ := zV mk hmem
   refine jQ (jN (jv4 2 29 30 31 ?_))
   refine jS (jB (jS (jR (je (Run.index1 _ rfl rfl zp zd jo) (jl rfl zj (v := encStr mk) (hbm.cells k _ (by simp [SB, hmk])) (ja rfl (jO (jN (jv5 2 6 29 30 31 ?_)))))))))
   refine jR (jl rfl Tryz.isAgg117 (x6.cell 0) (jM ?_))
   refine Ops.clp (bJ.dyn rfl (evs.cons rfl evs.nil) Tryz.call70) (mY mk gb v0.heap.size d I rs gp gc A n c tk (q + 2) cs1 wr x5 x7 x2 x3 hA (hbase _ x9).size jo (qXh mk hmem) (hv.frm0 (hbase _ x9)) (htb.frm (hbase _ x9))) rfl ?_
   rintro e wb he
   rw [hxk] at he
   obtain ⟨rfl, I3, d3, r, hr, g2, g5, kf, hu⟩ := he
   have hXb := eP.add x1 x2 x4 x5 x6 x7 x8 x9 x10 g2 g5 (kf.mono (fun y hy => by simp at hy; rcases hy with h | h <;> simp [h])) hu
   have hbm := hbm.frm kf (by simp; exact ⟨hbm.ne x5.k jd, x2.row.ne_blk hbm jd⟩)
   refine .inl ⟨_, rfl, ?_⟩
   refine jO ?_
   refine qS (jN ?_)
   refine jv4 2 29 30 31 ?_
   refine jR (jb rfl rfl (Bin.add_i64 _ 1 jo) (jm rfl (jO ?_)))
   refine jN ⟨(k + 1, cs1.setIfInBounds 9 (.slice I3 (rs.length + 1) d3)), (js4 rfl rfl rfl rfl), ?_, ?_⟩
   ·
    refine ⟨hk3, hbm, ?_⟩
    rw [zbh, zcw, hm5.1, hmk]
    rw [hr] at hXb
    show eP v0 w gf gb gp gc A n c tk csS Bs ds sp (_ ++ [(cI mk).getD it0]) wb (q + 2) _
    rw [hxk]
    exact hXb
   exact jq
  have hnk : ¬ k < ml.length := by simpa using hc3
  have hk3 : k = ml.length := by omega
  refine jX ?_
  refine qV (qV (qC ?_))
  refine jN ?_
  refine VC.sub [] .nil ?_
  refine jT ?_
  refine qZ (sE ?_)
  refine ⟨rfl, gf, gb, Bs, ds, cs1, ?_⟩
  rw [← hcsS]
  rw [hk3, zy (zt _)] at x1
  exact ⟨I, d, rs, x1, x2, x3, x4, x5, x6, x7, x8, x9, x10⟩
 have hmn : dQ (qT s) = [] := by
  rcases hq : dQ (qT s) with _ | ⟨a, r⟩
  · rfl
  obtain ⟨g, h1, _⟩ := hm1 (by rw [hq]; exact List.cons_ne_nil _ _)
  rw [h1] at hc2
  simp at hc2
 rw [if_pos hmn]
 obtain ⟨I, d, rs, x1, x2, x3, x4, x5, x6, x7, x8, x9, x10⟩ := hXa
 have hr0 : rs = [] := List.map_eq_nil_iff.1 x1
 refine jQ (jN (jv2 2 3 ?_))
 refine jR (jl rfl Tryz.isAgg117 (x6.cell 0) (jM ?_))
 refine Ops.clp (bJ.dyn rfl (evs.cons rfl evs.nil) Tryz.call70) (mY s gb v0.heap.size d I rs gp gc A n c tk (q + 2) csS wa x5 x7 x2 x3 hA (hbase _ x9).size (by rw [hr0]; exact zac _) hsl (hv.frm0 (hbase _ x9)) (htb.frm (hbase _ x9))) rfl ?_
 rintro e wb he
 rcases hi : cI s with _ | x
 ·
  rw [hi] at he
  exact .inr ⟨_, he.1, qP ⟨rfl, x9.trans he.2 jp⟩⟩
 rw [hi] at he
 obtain ⟨rfl, I3, d3, r, hr, g2, g5, kf, hu⟩ := he
 have hXb := eP.add x1 x2 x4 x5 x6 x7 x8 x9 x10 g2 g5 (kf.mono (fun y hy => by simp at hy; rcases hy with h | h <;> simp [h])) hu
 refine .inl ⟨_, rfl, ?_⟩
 refine jO ?_
 refine cB ?_
 refine ⟨rfl, gf, gb, Bs, ds, csS.setIfInBounds 9 (.slice I3 (rs.length + 1) d3), ?_⟩
 rw [← hcsS]
 rw [hr] at hXb
 exact hXb
def dJ (tag : Tx) : Array Value := #[encStr tag, encStr [], .bool false, encStr [], encStr [], .slice none 0 0, .int .i64 0, .bool false, .slice none 0 0, .slice none 0 0, .int .i64 0, encStr [], encStr [], .int .i64 0, .slice none 0 0, .slice none 0 0, .int .i64 0, .int .i64 0, .bool false, .slice none 0 0]
theorem kS (tag : Tx) : ∀ u ∈ (dJ tag).toList, u.oneCell' = true := by
 intro u hu
 simp only [dJ, zab, zag, or_false] at hu
 rcases hu with rfl | rfl | rfl | rfl | rfl | rfl | rfl | rfl | rfl | rfl | rfl | rfl | rfl | rfl | rfl | rfl | rfl | rfl | rfl | rfl <;> rfl
theorem kV (g1 g2 g3 : Nat) (A : Option Addr) (n c : Nat) (tk : List Tk) (cs : Array Value) (v3 : Value) (w : World) (hT : Blk w g1 23 #[.slice A n c]) (hO : Blk w g2 34 cs) (hsz : cs.size = 20) (h3 : Blk w g3 35 #[v3]) (hR : RdT w A n tk) (hn : 0 < n) :
  CallsD Tryz.prog 17 #[jI0 g1, jI0 g2, jI0 g3] (.panicking cY) w fun e u w' => (∃ v, e = .returned v) ∧ settle u = .returning ∧ Blk w' g2 34 (dJ (tk.getD 0 tk0).2) ∧ Blk w' g3 35 #[.int .i64 20] ∧ Frm [g2, g3] w w' := by
 obtain ⟨ad, hA, hel⟩ := hR.cell hn
 subst hA
 have hne : g2 ≠ g3 := hO.ne h3 jd
 refine VC.recovered (nt := 12) (res := #[]) (u' := .panicking [{ v := .iface 89 (.agg #[]), recovered := true }]) (v := .iface 89 (.agg #[])) Tryz.func17 rfl Tryz.ntmps17 Tryz.results17 rfl (.inl ⟨[], rfl, rfl⟩) rfl rfl rfl rfl rfl rfl rfl rfl ?_
 refine jS (jR (jm rfl (je (Run.neqNilI rfl rfl zcm rfl) (jO (jN (jv4 0 1 2 6 ?_))))))
 refine VC.condT rfl (rfl) ?_
 refine jR (jl rfl zbu (hT.cell 0) (je (Run.indexS 0 rfl rfl zs zw jo) (jf rfl zas rfl zd (jl rfl zj (hel _ (Frm.refl _ _) 1 _ rfl) (je (Run.build (evs.cons rfl evs.nil) eJ (eE).choose_spec.1 (eE).choose_spec.2 (cells := dJ (tk.getD 0 tk0).2) rfl) ?_)))))
 refine Ops.st (qJ.storeA rfl rfl zba hO hsz.symm (kS _)) ?_
 rintro w1 ⟨hb1, hf1, hs1⟩
 refine Ops.st (qJ.store (i := 0) (v := .int .i64 20) rfl rfl Tryz.sizeOf35 (h3.frm hf1 (by simp; omega)) rfl rfl) ?_
 rintro w2 ⟨hb2, hf2, hs2⟩
 refine jO ?_
 refine cB ?_
 exact ⟨⟨_, rfl⟩, rfl, hb1.frm hf2 (by simp; omega), hb2, (hf1.mono (T := [g2, g3]) jp).trans hf2 (fun x hx => .inl (by simp at hx; simp [hx]))⟩
theorem xG (g1 g2 g3 : Nat) (w : World) :
  CallsD Tryz.prog 17 #[jI0 g1, jI0 g2, jI0 g3] .returning w fun e u w' => (∃ v, e = .returned v) ∧ settle u = .returning ∧ w' = w := by
 refine VC.recovered (nt := 12) (res := #[]) (u' := .returning) (v := .nilIface) Tryz.func17 rfl Tryz.ntmps17 Tryz.results17 rfl (.inr ⟨rfl, rfl, rfl⟩) rfl rfl rfl rfl rfl rfl rfl rfl ?_
 refine jS (jR (jm rfl (je (Run.neqNil2 rfl zcm rfl) (jO (jN (jv4 0 1 2 6 ?_))))))
 refine VC.condF rfl (rfl) ?_
 refine jQ ?_
 refine cB ?_
 exact ⟨⟨_, rfl⟩, rfl, rfl⟩
end
section
open Go.RowKit
open Go.Maps (Keyed)
section
variable {P : Program} {k : TypeId} {κ : Type} {enc : κ → Value} {w : World} {g : Nat} {M : κ → Option Value} {Γ : Env} {dst : Option Tmp} {T : TypeId} {pos : String} {after : Array Edge} {gd : Option (Nat × Bool)}
theorem zW {t e : TypeId} {z : Value} {x : κ} {kl : Lit} (h : MpF P k enc w g M) (K : Keyed P k) (ht : P.underlying t = some (.map k e)) (hz : (zeroValue e).run P w = .ok z w) (hkey : keyOf P k (enc x) = some kl) :
  (Instr.lookup t (.map (some g)) (enc x) true).run P w = .ok (.tuple #[(M x).getD z, .bool (M x).isSome]) w := by
 obtain ⟨es, clock, hb, h2, h3, h4⟩ := h
 rcases K.find w hkey es (fun e he => (h2 e he).1) with ⟨h5, h6⟩ | ⟨j, e0, h5, h6, h7⟩
 ·
  have hM : M x = none := by
   cases hm : M x with
   | none => rfl
   | some v =>
    obtain ⟨e1, he1, he2, _⟩ := (h4 x v).1 hm
    exact absurd he2 (h6 e1 he1)
  rw [hM]
  simp [Instr.lookup, run_underlying ht, MapKept.run_getObj_map hb, K.check w _ hkey, h5, hz, Result.andThen]
 have hM : M x = some e0.val := (h4 x e0.val).2 ⟨e0, zck h6, h7, rfl⟩
 rw [hM]
 simp [Instr.lookup, run_underlying ht, MapKept.run_getObj_map hb, K.check w _ hkey, h5, hz, Result.andThen]
theorem Run.lookup2 {t e : TypeId} {a b : Operand} {z : Value} {x : κ} {kl : Lit} (ha : ev? Γ a = some (.map (some g))) (hb : ev? Γ b = some (enc x)) (h : MpF P k enc w g M) (K : Keyed P k) (ht : P.underlying t = some (.map k e)) (hz : ∀ w, (zeroValue e).run P w = .ok z w) (hkey : keyOf P k (enc x) = some kl) :
  Run P ⟨dst, .lookup t a b true, T, pos, after, gd⟩ Γ w (.tuple #[(M x).getD z, .bool (M x).isSome]) := fun ρ hρ => by
 simp [execOp, hρ _ _ ha, hρ _ _ hb, zW h K ht (hz w) hkey]
end
end
section
open Go.RowKit
def gD (ts : List Tmp) (a a' : Act) : Prop := ∀ t ∈ ts, a'.tmps.getD t undef = a.tmps.getD t undef
theorem gD.put {ts : List Tmp} {a0 a : Act} {d : Option Tmp} {v : Value} (h : gD ts a0 a) (hd : ∀ t ∈ ts, d ≠ some t) : gD ts a0 (a.put d v) := fun t ht => by
 rw [← h t ht]
 cases d with
 | none => rfl
 | some k =>
  have hk : k ≠ t := fun e => hd t ht (by rw [e])
  simp [Act.put, zax, hk]
section
variable {P : Program} {ops : Array Oper} {Q : Exit → Act → World → Prop} {S : World → Prop} {L : Nat} {ts : List Tmp} {a0 : Act}
theorem qXi {o : Oper} {a : Act} {w : World} {K : Act → World → Prop} (hd : ∀ t ∈ ts, o.dst ≠ some t) (ha : gD ts a0 a) (hh : o.wp P a w K Q) :
  o.wp P a w (fun a' w' => K a' w' ∧ gD ts a0 a') (fun e a' w' => Q e a' w' ∧ ∀ ch, e = .panic ch → gD ts a0 a') := by
 unfold Oper.wp at *
 generalize (execOp a.eval o).run P w = r at *
 cases r with
 | ok n w' =>
  cases n <;> simp only [Oper.upon] at hh ⊢
  case value => exact ⟨hh, ha.put hd⟩
  case skip => exact ⟨hh, ha.put hd⟩
  case defer => exact ⟨hh, gD.put (a := { a with defers := _ }) ha hd⟩
  case enter => exact Calls.mono hh (fun e w'' he => by
   cases e with
   | returned v => exact ⟨he, ha.put hd⟩
   | panicked ch => exact ⟨he, fun _ _ => ha⟩
   | outgrown => obtain ⟨a1, w1, h1⟩ := he; exact ⟨a1, w1, h1, fun ch h => by cases h⟩)
  case row => exact Rows.mono hh (fun _ _ he => ⟨he, ha.put hd⟩)
 | halt x w' => cases x <;> simp only [Oper.upon] at hh ⊢ <;> first | exact hh | exact ⟨hh, fun _ _ => ha⟩
theorem gJ (hops : ∀ (i : Nat) (o : Oper), ops[i]? = some o → ∀ t ∈ ts, o.dst ≠ some t) : ∀ (f : Nat) (listed : Array Bool) (a : Act) (w : World), gD ts a0 a → cZ P ops Q S L f listed a w →
  cZ P ops (fun e a' w' => Q e a' w' ∧ ∀ ch, e = .panic ch → gD ts a0 a') S L f listed a w
 | 0, _, _, _, _, h => ⟨h.1, h.2, fun ch h => by cases h⟩
 | f + 1, listed, a, w, ha, h => ⟨fun hr => ⟨h.1 hr, fun ch h => by cases h⟩, fun i hi => by
   have h2 := h.2 i hi
   unfold wpOp at h2 ⊢
   cases ho : ops[i]? with
   | none => rw [ho] at h2; exact ⟨h2.1, gJ hops f _ a w ha h2.2⟩
   | some o =>
    rw [ho] at h2
    dsimp only at h2 ⊢
    split
    ·
     rename_i hw
     rw [if_pos hw] at h2
     rcases h2 with h2 | ⟨h2, a1, w1, h3⟩
     · exact .inl (Oper.wp_mono (fun a' w' h4 => ⟨h4.1.1, gJ hops f _ a' w' h4.2 h4.1.2⟩) (qXi (hops i o ho) ha h2))
     exact .inr ⟨h2, a1, w1, h3, fun ch h => by cases h⟩
    rename_i hw
    rw [if_neg hw] at h2
    exact ⟨h2.1, gJ hops f _ _ w (ha.put (hops i o ho)) h2.2⟩⟩
end
section
variable {P : Program} {n : NF} {Γ : Env} {w : World} {Q : Exit → Env → World → Prop}
theorem vE {t : Nat} {v : Value} : ∀ {Γ : Env}, get? Γ t = some v → t ∈ Γ.map (·.1)
 | [], h => by cases h
 | (k, u) :: r, h => by
  unfold get? at h
  cases hb : Nat.beq k t with
  | true => rw [zaa hb]; simp
  | false => rw [hb] at h; exact List.mem_cons_of_mem _ (vE h)
def qJw (Γ0 : Env) (l : List Oper) : Bool := l.all fun o => match o.dst with | none => true | some d => Γ0.all fun b => ! Nat.beq b.1 d
theorem VC.heldK {id : Nat} {l : List Oper} (Γ0 : Env) (L : Nat) (S : World → Prop) (hm : P.follows .mixedOrders = true) (hsub : Sub Γ Γ0) (hsp : qJw Γ0 l = true)
  (h : qQ P n l.toArray S (fun ch w' => Q (.panic ch) Γ0 w') L l.toArray.size (Array.replicate l.toArray.size false) Γ w.drew (fun Γ' w' => Q .normal Γ' w')) (hnd : n.ro = none ∨ eV l.toArray = true := by first | exact .inl rfl | exact .inr jK) : VC P n (.region id l.toArray true) Γ w Q := by
 intro a hs m
 have hk := gJ (a0 := a) (ts := Γ0.map (·.1)) (fun i o ho t ht hd => by
  have h1 := List.all_eq_true.1 hsp o (zck (by simpa using ho))
  rw [hd] at h1
  obtain ⟨b, hb, rfl⟩ := List.mem_map.1 ht
  have h2 := List.all_eq_true.1 h1 b hb
  simp at h2) _ _ _ _ (fun _ _ => rfl) (h a hs)
 refine wpIn_mono (Q := fun e a' w' => dL n (fun Γ' w' => Q .normal Γ' w') (fun ch w' => Q (.panic ch) Γ0 w') e a' w' ∧ ∀ ch, e = .panic ch → gD (Γ0.map (·.1)) a a') (wpIn_region_any hm (lC hnd (fun ⟨_, _, h⟩ => h.1) _ _ _ _ (lE _ _ _ _ hk))) ?_
 intro e a' w hq
 cases e with
 | normal => exact hq.1
 | panic ch =>
  refine ⟨Γ0, ⟨hq.1.1.1, hq.1.1.2, fun t v hg => ?_⟩, hq.1.2⟩
  have hmem := vE hg
  rw [hq.2 ch rfl t hmem]
  exact hs.at_ t v (hsub.get t v hg)
 | _ => exact hq.1.elim
end
def nG (tag nm : Tx) : Array Value := (dJ tag).setIfInBounds 1 (encStr nm)
def tT (tag nm : Tx) : Array Value := (nG tag nm).setIfInBounds 2 (.bool true)
def bW (tk : List Tk) : Tx := if 0 < tk.length ∧ (tk.getD 0 tk0).1 = 0 then (tk.getD 0 tk0).2 else []
def eR (tk : List Tk) (D : Tx → Option Nat) : Option Unit := if 0 < tk.length ∧ (tk.getD 0 tk0).1 = 0 then (qW tk 1 [0]).bind fun s => if (eO (qT s)).isSome then (D (qT s)).bind fun q => if q = tk.length then some () else none else none else none
def lH (w : World) (A : Option Addr) (n c : Nat) (tk : List Tk) (q0 : Nat) (C : Tx → Array Value) (D : Tx → Option Nat) (Y : World → Array Value → Prop) (nm : Tx) (f : Nat) : Prop :=
 ∀ W gp gc cs, IsCp W gp gc A n c tk q0 cs → cs = C nm → Frm [] w W → w.heap.size ≤ gp → w.heap.size ≤ gc → Calls Tryz.prog f #[jI0 gp] W fun e w' => match D nm with
  | none => e = .panicked cY ∧ Frm [gp, gc] W w'
  | some q2 => e = .returned (.tuple #[]) ∧ ∃ cs2, IsCp w' gp gc A n c tk q2 cs2 ∧ Frm [gp, gc] W w' ∧ Y w' cs2 ∧ ∀ u ∈ cs2.toList, u.oneCell' = true
theorem zY (w : World) : (zeroValue 66).run Tryz.prog w = .ok (.nilFunc) w := by
 simp only [zeroValue, Sem.run_bind, Tryz.typeInfo66, Result.andThen_ok]; rfl
theorem nE {Γ : Env} {w : World} {R : Ending → World → Prop} {g2 g3 : Nat} {cs : Array Value} {v3 : Value} (e2 : get? Γ 2 = some (jI0 g2)) (e3 : get? Γ 3 = some (jI0 g3)) (h2 : Blk w g2 34 cs) (h3 : Blk w g3 35 #[v3]) (hs : cs.size = 20)
  (k : R (.returned (.tuple #[.agg cs, v3])) w) : dD Tryz.prog #[.cell 2 34, .cell 3 35] R .ret Γ w :=
 bM (qB e2 zcv zba h2.cells hs (fE e3 Tryz.isAgg35 (h3.cell 0) (qF k)))
theorem gE (A : Option Addr) (n c : Nat) (tk : List Tk) (D : Tx → Option Nat) (Y : World → Array Value → Prop) (w : World) (hR : RdT w A n tk) (hn : n ≤ 100000) (hl : ∀ x ∈ tk, x.2.length ≤ 1000000) (hYf : ∀ W W' g t csx cs, Y W cs → Blk W g t csx → (t = 34 ∨ t = 35) → Frm [g] W W' → Y W' cs)
  (hD : ∀ s, qW tk 1 [0] = some s → ∀ fv, eO (qT s) = some fv → ∃ f, fv = .func (.func f) ([] : List Value).toArray ([] : List Value).toArray ∧ (∀ args w, (callFunc f args).run Tryz.prog w = .ok (.enter f args) w) ∧ lH w A n c tk 2 (nG (bW tk)) D Y (qT s) f) :
  Calls Tryz.prog 10 #[.slice A n c] w fun e w' => Frm [] w w' ∧ ∃ cs' code, e = .returned (.tuple #[.agg cs', .int .i64 code]) ∧ match eR tk D with
   | none => cs' = dJ (bW tk) ∧ code = 20
   | some _ => code = 0 ∧ cs'.size = 20 ∧ Y w' cs' := by
 refine LW.calls (nt := 67) Tryz.func10 rfl Tryz.ntmps10 rfl ?_
 refine LW.seq ?_
 refine jR ?_
 refine Ops.m (qH.box rfl) rfl ?_
 rintro _ w1 ⟨rfl, hF1⟩
 obtain ⟨g1, hg1⟩ : ∃ g, g = w.heap.size := ⟨_, rfl⟩
 have hb1 := hF1.blk
 have s1 := hF1.size
 rw [← hg1] at hb1 ⊢
 refine Ops.m (qH.alloc eJ) rfl ?_
 rintro _ w2 ⟨rfl, hF2⟩
 obtain ⟨g2, hg2⟩ : ∃ g, g = w1.heap.size := ⟨_, rfl⟩
 have hb2 := hF2.blk
 have s2 := hF2.size
 rw [← hg2] at hb2 ⊢
 refine Ops.m (qH.alloc yY) rfl ?_
 rintro _ w3 ⟨rfl, hF3⟩
 obtain ⟨g3, hg3⟩ : ∃ g, g = w2.heap.size := ⟨_, rfl⟩
 have hb3 := hF3.blk
 have s3 := hF3.size
 rw [← hg3] at hb3 ⊢
 have K3 : Frm [] w w3 := (hF1.frm.trans hF2.frm jp).trans hF3.frm jp
 have hb1 : Blk w3 g1 23 #[.slice A n c] := (hb1.frm hF2.frm jp).frm hF3.frm jp
 have hb2 : Blk w3 g2 34 (dJ []) := hb2.frm hF3.frm jp
 have hR3 := hR.frm K3 jp
 have hln := hR.len
 refine jO (jN ?_)
 refine LW.seq ?_
 refine jS ?_
 refine VC.split1 [(1, _), (2, _), (3, _)] (js3 rfl rfl rfl) 16 (.bool (decide (n = 0 ∨ (tk.getD 0 tk0).1 ≠ 0))) ?_ ?_
 ·
  refine jR (jl rfl zbu (hb1.cell 0) (jL rfl zs (jb rfl rfl (Bin.eqlN _ 0) ?_)))
  by_cases hs9 : n = 0
  ·
   refine jM ?_
   refine jU ?_
   refine jU ?_
   refine jU ?_
   refine jU ?_
   refine jU ?_
   refine jW rfl rfl au (jO ?_)
   refine jN ⟨(js4 (jC (by grind)) rfl rfl rfl), rfl⟩
  refine jM ?_
  refine jk (Run.load rfl zbu (hb1.cell 0)) ?_
  obtain ⟨ad, hA, hel⟩ := hR3.cell (k := 0) jo
  subst hA
  refine jk (Run.indexS 0 rfl rfl zs zw jo) ?_
  refine jk (Run.fieldAddr rfl zas rfl zc jd) ?_
  refine jk (Run.load rfl zi (hel _ (Frm.refl _ _) 0 _ rfl)) ?_
  refine jk (Run.bin rfl rfl (Bin.neq _ 0)) ?_
  by_cases hs15 : (tk.getD 0 tk0).1 ≠ 0
  ·
   refine jF rfl rfl au (jO ?_)
   refine jN ⟨(js4 (jC (by grind)) rfl rfl rfl), rfl⟩
  refine jF rfl rfl au (jO ?_)
  refine jN ⟨(js4 (jC (by grind)) rfl rfl rfl), rfl⟩
 intro Γ hΓ
 refine jN (VC.sub _ hΓ ?_)
 refine jD rfl (fun hc1 => ?_) fun hc1 => ?_
 ·
  have hbad : ¬ (0 < tk.length ∧ (tk.getD 0 tk0).1 = 0) := by rw [hln]; rintro ⟨h1, h2⟩; rcases hc1 with h | h; omega; exact h h2
  have hpm : eR tk D = none := by unfold eR; rw [if_neg hbad]
  have hpt : bW tk = [] := if_neg hbad
  refine jS (jR (je (Run.build evs.nil eJ (eE).choose_spec.1 (eE).choose_spec.2 (cells := dJ []) rfl) ?_))
  refine Ops.st (qJ.storeA rfl rfl zba hb2 rfl (kS _)) ?_
  rintro w4 ⟨hb4, hf4, hs4⟩
  refine Ops.st (qJ.store (i := 0) (v := .int .i64 20) rfl rfl Tryz.sizeOf35 (hb3.frm hf4 (by simp; omega)) rfl rfl) ?_
  rintro w5 ⟨hb5, hf5, hs5⟩
  refine jO (jN (jv2 2 3 ?_))
  refine jT ?_
  refine qZ (qQ0 zdw ?_)
  refine bM ?_
  refine qB rfl zcv zba ((hb4.frm hf5 (by simp; omega)).cells) (by first | rfl | (simp; done) | (simp [*]; done)) ?_
  refine fE rfl Tryz.isAgg35 ((hb5.cell 0)) ?_
  refine qF ?_
  refine ⟨(K3.own hf4 (by simp; omega)).own hf5 (by simp; omega), dJ [], 20, rfl, ?_⟩
  rw [hpm, hpt]
  exact ⟨rfl, rfl⟩
 have hgood : 0 < tk.length ∧ (tk.getD 0 tk0).1 = 0 := by rw [hln]; exact ⟨jo, by rcases Decidable.em ((tk.getD 0 tk0).1 = 0) with h | h; exact h; exact absurd (.inr h) hc1⟩
 have hn0 : 0 < n := jo
 have hpt : bW tk = (tk.getD 0 tk0).2 := if_pos hgood
 obtain ⟨ad, hA, hel⟩ := hR3.cell (k := 0) hn0
 have hR3' := hR3
 subst hA
 refine jQ (jN ?_)
 refine LW.dfr (us := [_, _, _]) (Run.mkFunc evs.nil (evs.cons rfl (evs.cons rfl (evs.cons rfl evs.nil)))) rfl rfl rfl rfl rfl rfl rfl ?_
 refine LW.vc ?_
 refine jS ?_
 refine VC.held (fun V => Frm [] w3 V) jK ?_
 have hS : Frm [] w3 w3.drew := (qL.drew w3).frm
 refine jH 0 rfl hS (fun w0 hw0 => Run.load rfl zbu ((hb1.frm hw0 jp).cell 0)) ?_
 refine jH 1 rfl hS (fun w0 hw0 => Run.load rfl zbu ((hb1.frm hw0 jp).cell 0)) ?_
 refine jH 2 rfl hS (fun w0 hw0 => Run.indexS 0 rfl rfl zs zw jo) ?_
 refine jH 3 rfl hS (fun w0 hw0 => Run.fieldAddr rfl zas rfl zd jd) ?_
 refine jH 4 rfl hS (fun w0 hw0 => Run.load rfl zj (hel _ hw0 1 _ rfl)) ?_
 refine jH 5 rfl hS (fun w0 hw0 => Run.build (evs.cons rfl evs.nil) eJ (eE).choose_spec.1 (eE).choose_spec.2 (cells := dJ (tk.getD 0 tk0).2) rfl) ?_
 refine qQ.m 6 rfl jK (qH.box rfl) trivial rfl rfl ?_
 rintro _ w4 ⟨rfl, hF4⟩
 obtain ⟨gc, hgc⟩ : ∃ g, g = w3.drew.heap.size := ⟨_, rfl⟩
 have hbc := hF4.blk
 rw [← hgc] at hbc ⊢
 have hS : Frm [] w3 w4 := Frm.trans hS hF4.frm jp
 have s4 := hF4.size
 refine ⟨hS, ?_⟩
 refine jH 7 rfl hS (fun w0 hw0 => Run.build (evs.cons rfl (evs.cons rfl (evs.cons rfl evs.nil))) qJm (sO).choose_spec.1 (sO).choose_spec.2 (cells := #[.slice (some ad) n c, jI1 1, jI0 gc]) rfl) ?_
 refine qQ.m 8 rfl jK (qH.box rfl) trivial rfl rfl ?_
 rintro _ w5 ⟨rfl, hF5⟩
 obtain ⟨gp, hgp⟩ : ∃ g, g = w4.heap.size := ⟨_, rfl⟩
 have hbp := hF5.blk
 rw [← hgp] at hbp ⊢
 have hbc := hbc.frm hF5.frm jp
 have K5 : Frm [] w3 w5 := Frm.trans hS hF5.frm jp
 have s3d := (qL.drew w3).frm.size
 have hP5 : IsCp w5 gp gc (some ad) n c tk 1 (dJ (tk.getD 0 tk0).2) := ⟨hbp, hbc, rfl, hR3'.frm K5 jp, jo, hn, fun h0 x hx => by have := hR.rd.lt h0 x hx; omega⟩
 have hS : Frm [] w3 w5 := K5
 refine ⟨hS, ?_⟩
 refine jH 9 rfl hS (fun w0 hw0 => Run.asg rfl) ?_
 refine qQ.done jK ?_
 refine jN (jv4 1 2 3 4 ?_)
 refine jS ?_
 refine VC.heldK [(2, _), (3, _)] 8 (fun V => V.cell? ⟨gp, 2, none⟩ = some (jI0 gc)) jK (js2 rfl rfl) jK ?_
 have hd := (qL.drew w5).frm
 have hPd := hP5.frm hd
 have hS : (fun V : World => V.cell? ⟨gp, 2, none⟩ = some (jI0 gc)) w5.drew := hPd.p.cell 2
 have hR1 : g1 < g2 ∧ g2 < g3 ∧ g3 < gc ∧ gc < gp ∧ w.heap.size ≤ g1 := by have := (qL.drew w3).frm.size; omega
 have K05 : Frm [] w w5 := K3.trans K5 jp
 have hb1 := hb1.frm K5 jp
 have hb2 := hb2.frm K5 jp
 have hb3 := hb3.frm K5 jp
 refine jh 0 hS ?_
 refine jH 1 rfl hS (fun w0 hw0 => Run.nilck rfl) ?_
 refine jH 2 rfl hS (fun w0 hw0 => Run.fieldAddr rfl zk rfl zad jd) ?_
 refine jH 3 rfl hS (fun w0 hw0 => Run.load rfl zak hw0) ?_
 refine qQ.r1 4 rfl jK hS (Run.mv rfl) trivial rfl rfl ?_
 refine qQ.clp 5 rfl jK (jE1 Tryz.call18) (kJ gp gc (some ad) n c tk 1 _ _ hPd hl) trivial rfl rfl ?_
 rintro e w6 ⟨hf6, he⟩
 have k56 : Frm [gp] w5 w6 := (hd.mono jp).trans hf6 (fun x hx => .inl hx)
 have K06 : Frm [] w w6 := K05.own k56 (by simp; omega)
 have hb1 : Blk w6 g1 23 _ := hb1.frm k56 (by simp; omega)
 have hb2 := hb2.frm k56 (by simp; omega)
 have hb3 := hb3.frm k56 (by simp; omega)
 rcases hT : qW tk 1 [0] with _ | s
 ·
  rw [hT] at he
  have hpm : eR tk D = none := by unfold eR; rw [if_pos hgood, hT]; rfl
  refine .inr ⟨_, he, qK (mQ zdw Tryz.call17 ?_)⟩
  refine (kV g1 g2 g3 (some ad) n c tk (dJ []) _ w6 hb1 hb2 rfl hb3 (hR.frm K06 jp) hn0).mono ?_
  rintro e u w7 ⟨hv, hu2, hb2, hb3, hf7⟩
  exact ⟨hv, hu2, nE (by rfl) (by rfl) hb2 hb3 rfl ⟨K06.own hf7 (by simp; omega), _, _, rfl, by rw [hpm, hpt]; exact ⟨rfl, rfl⟩⟩⟩
 rw [hT] at he
 obtain ⟨rfl, hP6⟩ := he
 have hS : (fun V : World => V.cell? ⟨gp, 2, none⟩ = some (jI0 gc)) w6 := hP6.p.cell 2
 refine .inl ⟨_, rfl, hS, ?_⟩
 refine qQ.r1 6 rfl jK hS (Run.nilck rfl) trivial rfl rfl ?_
 refine qQ.r1 7 rfl jK hS (Run.fieldAddr rfl ze rfl zd jd) trivial rfl rfl ?_
 refine qQ.stL rfl jK (qJ.store (i := 1) rfl rfl zd hP6.k (by rw [hP6.sz]; rfl) rfl) trivial rfl ?_
 rintro w7 ⟨hb7, hf7, hs7⟩
 have hf7 : Frm [gc] w6 w7 := hf7
 have hP7 := hP6.turn hb7 (by rw [zet]; exact hP6.sz) hf7
 have K07 : Frm [] w w7 := K06.own hf7 (by simp; omega)
 have hb1 := hb1.frm hf7 (by simp; omega)
 have hb2 := hb2.frm hf7 (by simp; omega)
 have hb3 := hb3.frm hf7 (by simp; omega)
 refine qQ.done jK ?_
 refine jN (jv4 1 2 3 4 ?_)
 refine jS ?_
 refine VC.held (fun V => V.cell? ⟨gp, 2, none⟩ = some (jI0 gc) ∧ V.cell? ⟨gc, 1, none⟩ = some (encStr (qT s))) jK ?_
 have hd := (qL.drew w7).frm
 have hPd := hP7.frm hd
 have mkS : ∀ W, IsCp W gp gc (some ad) n c tk 2 ((dJ (tk.getD 0 tk0).2).setIfInBounds 1 (encStr (qT s))) → (fun V : World => V.cell? ⟨gp, 2, none⟩ = some (jI0 gc) ∧ V.cell? ⟨gc, 1, none⟩ = some (encStr (qT s))) W := fun W h => ⟨h.p.cell 2, h.k.cells 1 _ rfl⟩
 have hS := mkS _ hPd
 refine jh 1 hS ?_
 refine jH 2 rfl hS (fun w0 hw0 => Run.nilck rfl) ?_
 refine jH 3 rfl hS (fun w0 hw0 => Run.fieldAddr rfl zk rfl zad jd) ?_
 refine jH 4 rfl hS (fun w0 hw0 => Run.load rfl zak hw0.1) ?_
 refine jH 5 rfl hS (fun w0 hw0 => Run.nilck rfl) ?_
 refine jH 6 rfl hS (fun w0 hw0 => Run.fieldAddr rfl ze rfl zd jd) ?_
 refine jH 7 rfl hS (fun w0 hw0 => Run.load rfl zj hw0.2) ?_
 refine qQ.cl 0 rfl jK (jE0 Tryz.call19) (uR _) trivial rfl rfl ?_
 rintro e w8 ⟨hf8, m, rfl, hm8, hmp⟩
 have hP8 := hPd.frm hf8
 have hS := mkS _ hP8
 refine ⟨_, rfl, hS, ?_⟩
 have K08 : Frm [] w w8 := (K07.trans hd jp).trans hf8 jp
 have k78 : Frm [] w7 w8 := hd.trans hf8 jp
 have hb1 := hb1.frm k78 jp
 have hb2 := hb2.frm k78 jp
 have hb3 := hb3.frm k78 jp
 have hsl := bL hT hl
 obtain ⟨ov, hov⟩ : ∃ ov, eO (qT s) = ov := ⟨_, rfl⟩
 refine qQ.r1 8 rfl jK hS (Run.lookup2 (enc := encStr) (x := qT s) rfl rfl hmp (Go.Maps.string_keyed za) zap zY (cH _ (by rw [dS]; omega))) trivial rfl rfl ?_
 rw [hov]
 refine jh 9 hS ?_
 refine jH 10 rfl hS (fun w0 hw0 => Run.extract rfl rfl) ?_
 refine jH 11 rfl hS (fun w0 hw0 => Run.extract rfl rfl) ?_
 refine jH 12 rfl hS (fun w0 hw0 => Run.asg rfl) ?_
 refine jH 13 rfl hS (fun w0 hw0 => Run.asg rfl) ?_
 refine qQ.done jK ?_
 refine jN (jv6 1 2 3 4 5 6 ?_)
 refine jS (jR (jM ?_))
 refine Ops.clp (jE1 zbb) (bZ ov.isSome w8) rfl ?_
 rintro e _ ⟨rfl, he⟩
 rcases ov with _ | fv
 ·
  have hpm : eR tk D = none := by unfold eR; rw [if_pos hgood, hT]; simp [hov]
  refine .inr ⟨_, he, qK (mQ zdw Tryz.call17 ?_)⟩
  refine (kV g1 g2 g3 (some ad) n c tk (dJ []) _ w8 hb1 hb2 rfl hb3 (hR.frm K08 jp) hn0).mono ?_
  rintro e u wx ⟨hv, hu2, hb2, hb3, hfx⟩
  exact ⟨hv, hu2, nE (by rfl) (by rfl) hb2 hb3 rfl ⟨K08.own hfx (by simp; omega), _, _, rfl, by rw [hpm, hpt]; exact ⟨rfl, rfl⟩⟩⟩
 refine .inl ⟨_, he, ?_⟩
 obtain ⟨f, rfl, hent, hdeed⟩ := hD s hT _ hov
 refine jO (jN (jv5 1 2 3 4 5 ?_))
 refine jS (jR (jm rfl (jM ?_)))
 refine Ops.clp (bJ.dyn rfl (evs.cons rfl evs.nil) hent) (hdeed w8 gp gc _ hP8 (by rw [hpt]; rfl) K08 jo jo) rfl ?_
 rintro e w9 he
 obtain ⟨G, hG⟩ : ∃ G, D (qT s) = G := ⟨_, rfl⟩
 rw [hG] at he
 rcases G with _ | q2
 ·
  have hpm : eR tk D = none := by unfold eR; rw [if_pos hgood, hT]; simp [hov, hG]
  have hf9 := he.2
  have hb1 := hb1.frm hf9 (by simp; omega)
  have hb2 := hb2.frm hf9 (by simp; omega)
  have hb3 := hb3.frm hf9 (by simp; omega)
  have K09 : Frm [] w w9 := K08.own hf9 (by simp; omega)
  refine .inr ⟨_, he.1, qK (mQ zdw Tryz.call17 ?_)⟩
  refine (kV g1 g2 g3 (some ad) n c tk (dJ []) _ w9 hb1 hb2 rfl hb3 (hR.frm K09 jp) hn0).mono ?_
  rintro e u wx ⟨hv, hu2, hb2, hb3, hfx⟩
  exact ⟨hv, hu2, nE (by rfl) (by rfl) hb2 hb3 rfl ⟨K09.own hfx (by simp; omega), _, _, rfl, by rw [hpm, hpt]; exact ⟨rfl, rfl⟩⟩⟩
 obtain ⟨rfl, cs2, hP9, hf9, hY9, hone⟩ := he
 have hb1 := hb1.frm hf9 (by simp; omega)
 have hb2 := hb2.frm hf9 (by simp; omega)
 have hb3 := hb3.frm hf9 (by simp; omega)
 have K09 : Frm [] w w9 := K08.own hf9 (by simp; omega)
 refine .inl ⟨_, rfl, ?_⟩
 refine jO (jN (jv4 1 2 3 4 ?_))
 refine jS ?_
 refine VC.tail 7 jK jK ?_
 simp only [List.take_succ_cons, List.take_zero, List.drop_succ_cons, List.drop_zero]
 refine qM ?_
 refine qE (Run.nilck rfl) ?_
 refine qE (Run.fieldAddr rfl zk rfl zc jd) ?_
 refine qE (Run.load rfl zi (hP9.p.cell 1)) ?_
 refine qE (Run.load rfl zbu (hb1.cell 0)) ?_
 refine qE (Run.lenS rfl zs) ?_
 refine qE (Run.bin rfl rfl (Bin.eqlN _ _)) ?_
 refine bG.nil ?_
 refine Ops.clp (jE1 zbb) (bZ (decide (q2 = n)) _) rfl ?_
 rintro e wa ⟨hwa, he⟩
 have hda : Frm [] w9 wa := by subst hwa; first | exact (qL.drew w9).frm | exact Frm.refl _ _
 have hb29 := hb2
 have hb1 := hb1.frm hda jp
 have hb2 := hb2.frm hda jp
 have hb3 := hb3.frm hda jp
 have K0a : Frm [] w wa := K09.trans hda jp
 by_cases hqn : q2 = n
 rotate_left
 ·
  rw [decide_eq_false hqn] at he
  have hpm : eR tk D = none := by unfold eR; rw [if_pos hgood, hT]; simp [hov, hG, hln, hqn]
  refine .inr ⟨_, he, qK (mQ zdw Tryz.call17 ?_)⟩
  refine (kV g1 g2 g3 (some ad) n c tk (dJ []) _ wa hb1 hb2 rfl hb3 (hR.frm K0a jp) hn0).mono ?_
  rintro e u wx ⟨hv, hu2, hb2, hb3, hfx⟩
  exact ⟨hv, hu2, nE (by rfl) (by rfl) hb2 hb3 rfl ⟨K0a.own hfx (by simp; omega), _, _, rfl, by rw [hpm, hpt]; exact ⟨rfl, rfl⟩⟩⟩
 rw [decide_eq_true hqn] at he
 refine .inl ⟨_, he, ?_⟩
 have hpm : eR tk D = some () := by unfold eR; rw [if_pos hgood, hT]; simp [hov, hG, hln, hqn]
 have hPa := hP9.frm hda
 have hsza := hPa.sz
 refine jO (jN (jv3 2 3 4 ?_))
 refine jS (jR (jm rfl (jZ rfl (jf rfl zk rfl zad (jl rfl zak (hPa.p.cell 2) (jZ rfl (je (Run.loadA rfl zcv zba hPa.k.cells hPa.sz) ?_)))))))
 refine Ops.st (qJ.storeA rfl rfl (fun w => (zba w).trans (by simp [hsza])) hb2 (by simp [hsza]; rfl) (by simpa using hone)) ?_
 rintro wb ⟨hbb, hfb, hsb⟩
 refine Ops.st (qJ.store (i := 0) (v := .int .i64 0) rfl rfl Tryz.sizeOf35 (hb3.frm hfb (by simp; omega)) rfl rfl) ?_
 rintro wc ⟨hbc2, hfc, hsc⟩
 refine jO (jN (jv2 2 3 ?_))
 refine jT ?_
 refine qQ1 zdw Tryz.call17 ?_
 refine (xG g1 g2 g3 _).mono ?_
 rintro e u _ ⟨hv, hu2, rfl⟩
 refine ⟨hv, hu2, ?_⟩
 refine bM ?_
 refine qB rfl zcv zba ((hbb.frm hfc (by simp; omega)).cells) (by first | rfl | (simp; done) | (simp [*]; done)) ?_
 refine fE rfl Tryz.isAgg35 ((hbc2.cell 0)) ?_
 refine qF ?_
 refine ⟨(K0a.own hfb (by simp; omega)).own hfc (by simp; omega), _, 0, rfl, ?_⟩
 rw [hpm]
 exact ⟨rfl, by simp [hsza], by simpa using hYf _ _ g3 _ _ cs2 (hYf _ _ g2 _ _ cs2 (hYf _ _ g2 _ _ cs2 hY9 hb29 (.inl rfl) (hda.mono jp)) hb2 (.inl rfl) hfb) (hb3.frm hfb (by simp; omega)) (.inr rfl) hfc⟩
def lM (y : Tx) : Option Value := if y = [69, 88, 80, 85, 78, 71, 69] then some (.func (.func 75) #[] #[]) else if y = [83, 69, 65, 82, 67, 72] then some (.func (.func 34) #[] #[]) else if y = [67, 79, 80, 89] then some (.func (.func 37) #[] #[]) else if y = [83, 84, 79, 82, 69] then some (.func (.func 36) #[] #[]) else if y = [70, 69, 84, 67, 72] then some (.func (.func 35) #[] #[]) else none
def kT (tk : List Tk) (D : Tx → Option Nat) : Option Nat := (qW tk 2 [0]).bind fun s => if (lM (qT s)).isSome then D (qT s) else none
theorem rA (A : Option Addr) (n c : Nat) (tk : List Tk) (tag : Tx) (D D' : Tx → Option Nat) (Y : World → Array Value → Prop) (w0 : World) (hl : ∀ x ∈ tk, x.2.length ≤ 1000000) (nm : Tx) (hnm : D' nm = kT tk D)
  (hA : 0 < n → ∀ x ∈ ob A, x < w0.heap.size) (hD : ∀ s, qW tk 2 [0] = some s → ∀ fv, lM (qT s) = some fv → ∃ f, fv = .func (.func f) ([] : List Value).toArray ([] : List Value).toArray ∧ (∀ args w, (callFunc f args).run Tryz.prog w = .ok (.enter f args) w) ∧ lH w0 A n c tk 3 (tT tag) D Y (qT s) f) :
  lH w0 A n c tk 2 (nG tag) D' Y nm 38 := by
 intro w gp gc cs hP hcs K0 hgp hgc
 rw [hnm]
 have hsz := K0.size
 have hcz : ∀ s : Tx, (cs.setIfInBounds 2 (.bool true)).setIfInBounds 1 (encStr s) = tT tag s := fun s => by rw [hcs]; rfl
 refine jV Tryz.func38 Tryz.ntmps38 Tryz.results38 ?_
 refine jS ?_
 refine VC.heldL 15 (fun V : World => V.cell? ⟨gp, 2, none⟩ = some (jI0 gc)) jK ?_
 have hd := (qL.drew w).frm
 have hPd := hP.frm hd
 have hS : (fun V : World => V.cell? ⟨gp, 2, none⟩ = some (jI0 gc)) w.drew := hPd.p.cell 2
 refine jh 0 hS ?_
 refine jH 1 rfl hS (fun w0 hw0 => Run.nilck rfl) ?_
 refine jH 2 rfl hS (fun w0 hw0 => Run.fieldAddr rfl zk rfl zad jd) ?_
 refine jH 3 rfl hS (fun w0 hw0 => Run.load rfl zak hw0) ?_
 refine jh 4 hS ?_
 refine jH 5 rfl hS (fun w0 hw0 => Run.nilck rfl) ?_
 refine jH 6 rfl hS (fun w0 hw0 => Run.fieldAddr rfl zk rfl zad jd) ?_
 refine jH 7 rfl hS (fun w0 hw0 => Run.load rfl zak hw0) ?_
 refine qQ.r1 8 rfl jK hS (Run.mv rfl) trivial rfl rfl ?_
 refine qQ.clp 9 rfl jK (jE1 Tryz.call18) (kJ gp gc A n c tk 2 cs _ hPd hl) trivial rfl rfl ?_
 rintro e w1 ⟨hf1, he⟩
 rcases hT1 : qW tk 2 [0] with _ | s
 ·
  rw [hT1] at he
  exact .inr ⟨_, he, qK (qP (by rw [show kT tk D = none by simp [kT, hT1]]; exact ⟨rfl, (hd.mono jp).trans hf1 (fun x hx => .inl (by simp at hx; simp [hx]))⟩))⟩
 rw [hT1] at he
 obtain ⟨rfl, hP1⟩ := he
 have hS : (fun V : World => V.cell? ⟨gp, 2, none⟩ = some (jI0 gc)) w1 := hP1.p.cell 2
 refine .inl ⟨_, rfl, hS, ?_⟩
 refine qQ.r1 10 rfl jK hS (Run.nilck rfl) trivial rfl rfl ?_
 refine qQ.r1 11 rfl jK hS (Run.fieldAddr rfl ze rfl zq jd) trivial rfl rfl ?_
 refine qQ.st 12 rfl jK (qJ.store (i := 2) rfl rfl zq hP1.k (by rw [hP1.sz]; rfl) rfl) trivial rfl ?_
 rintro w2 ⟨hb2, hf2, hs2⟩
 have hP2 := hP1.turn hb2 (by simp [hP1.sz]) hf2
 have hS : (fun V : World => V.cell? ⟨gp, 2, none⟩ = some (jI0 gc)) w2 := hP2.p.cell 2
 refine ⟨hS, ?_⟩
 refine qQ.r1 13 rfl jK hS (Run.nilck rfl) trivial rfl rfl ?_
 refine qQ.r1 14 rfl jK hS (Run.fieldAddr rfl ze rfl zd jd) trivial rfl rfl ?_
 refine qQ.stL rfl jK (qJ.store (i := 1) rfl rfl zd hP2.k (by rw [hP2.sz]; rfl) rfl) trivial rfl ?_
 rintro w3 ⟨hb3, hf3, hs3⟩
 have hP3 := hP2.turn hb3 (by simp [hP1.sz]) hf3
 rw [hcz] at hP3
 have K3 : Frm [gp, gc] w w3 := (((hd.mono jp).trans hf1 (fun x hx => .inl (by simp at hx; simp [hx]))).trans hf2 (fun x hx => .inl (by simp at hx; simp [hx]))).trans hf3 (fun x hx => .inl (by simp at hx; simp [hx]))
 refine qQ.done jK ?_
 refine jN (jv1 0 ?_)
 refine jS (jR ?_)
 refine Ops.m (qH.makeMap (k := 9) (enc := encStr)) rfl ?_
 rintro _ v0 ⟨rfl, hm0, hf0, hs0⟩
 obtain ⟨m, hmm⟩ : ∃ m, m = w3.heap.size := ⟨_, rfl⟩
 rw [← hmm] at hm0 ⊢
 refine Ops.st (qJ.mapIns (x := [70, 69, 84, 67, 72]) rfl rfl rfl hm0 (Go.Maps.string_keyed za) cG zap (cH _ jd)) ?_
 rintro v1 ⟨hm1, hf1, hs1⟩
 refine Ops.st (qJ.mapIns (x := [83, 84, 79, 82, 69]) rfl rfl rfl hm1 (Go.Maps.string_keyed za) cG zap (cH _ jd)) ?_
 rintro v2 ⟨hm2, hf2, hs2⟩
 refine Ops.st (qJ.mapIns (x := [67, 79, 80, 89]) rfl rfl rfl hm2 (Go.Maps.string_keyed za) cG zap (cH _ jd)) ?_
 rintro v3 ⟨hm3, hf3, hs3⟩
 refine Ops.st (qJ.mapIns (x := [83, 69, 65, 82, 67, 72]) rfl rfl rfl hm3 (Go.Maps.string_keyed za) cG zap (cH _ jd)) ?_
 rintro v4 ⟨hm4, hf4, hs4⟩
 refine Ops.st (qJ.mapIns (x := [69, 88, 80, 85, 78, 71, 69]) rfl rfl rfl hm4 (Go.Maps.string_keyed za) cG zap (cH _ jd)) ?_
 rintro v5 ⟨hm5, hf5, hs5⟩
 refine jM ?_
 have hmk : MpF Tryz.prog 9 encStr v5 m lM := hm5
 have Km : Frm [] w3 v5 := ((((hf0.own hf1 (by simp; omega)).own hf2 (by simp; omega)).own hf3 (by simp; omega)).own hf4 (by simp; omega)).own hf5 (by simp; omega)
 have hP5 := hP3.frm Km
 have K5 : Frm [gp, gc] w v5 := K3.trans Km jp
 have hsl := bL hT1 hl
 obtain ⟨ov, hov⟩ : ∃ ov, lM (qT s) = ov := ⟨_, rfl⟩
 refine ja rfl (jO (jN (jv2 0 2 ?_)))
 refine jS (jR (jm rfl (jm rfl (jZ rfl (jf rfl zk rfl zad (jl rfl zak (hP5.p.cell 2) (jZ rfl (jf rfl ze rfl zd (jl rfl zj (hP5.k.cells 1 _ rfl) (je (Run.lookup2 (enc := encStr) (x := qT s) rfl rfl hmk (Go.Maps.string_keyed za) zap zY (cH _ (by rw [dS]; omega))) ?_))))))))))
 rw [hov]
 refine jm rfl (jY rfl rfl (jY rfl rfl (ja rfl (ja rfl (jO (jN (jv3 0 3 4 ?_)))))))
 refine jS (jR (jM ?_))
 refine Ops.clp (jE1 zbb) (bZ ov.isSome _) rfl ?_
 rintro e _ ⟨rfl, he⟩
 rcases ov with _ | fv
 · exact .inr ⟨_, he, qK (qP (by rw [show kT tk D = none by simp [kT, hT1, hov]]; exact ⟨rfl, K5⟩))⟩
 refine .inl ⟨_, he, ?_⟩
 obtain ⟨f, rfl, hent, hdeed⟩ := hD s hT1 _ hov
 refine jO (jN (jv2 0 3 ?_))
 refine jR (jm rfl (jM ?_))
 refine Ops.clp (bJ.dyn rfl (evs.cons rfl evs.nil) hent) (hdeed _ gp gc _ hP5 rfl (K0.own K5 (by simp; omega)) hgp hgc) rfl ?_
 rintro e w9 he
 have hu : kT tk D = D (qT s) := by simp [kT, hT1, hov]
 obtain ⟨G, hG⟩ : ∃ G, D (qT s) = G := ⟨_, rfl⟩
 rw [hG] at he hu
 rcases G with _ | q2
 · exact .inr ⟨_, he.1, qP (by rw [hu]; exact ⟨rfl, K5.trans he.2 (fun x hx => .inl hx)⟩)⟩
 obtain ⟨rfl, cs2, hP9, hf9, hY9, hone⟩ := he
 refine .inl ⟨_, rfl, ?_⟩
 refine jO ?_
 refine cB ?_
 exact (by rw [hu]; exact ⟨rfl, cs2, hP9, K5.trans hf9 (fun x hx => .inl hx), hY9, hone⟩)
def tU (B0 : Nat) (tk : List Tk) (q0 : Nat) (cs0 : Array Value) (W : World) (cs : Array Value) : Prop :=
 ∃ sp xs q2 Bs ds I d rs, cK tk q0 = some (sp, xs, q2) ∧ rs.map (·.x) = xs ∧ IsIt W B0 I d rs ∧ Own W 96 2 Bs sp.length ds (SC sp) ∧ cs = (cs0.setIfInBounds 8 (.slice Bs sp.length ds)).setIfInBounds 9 (.slice I rs.length d)
theorem tU.frm {B0 q0 g : Nat} {tk : List Tk} {cs0 cs csx : Array Value} {W W' : World} {t : TypeId} (h : tU B0 tk q0 cs0 W cs) (hb : Blk W g t csx) (ht : t = 34 ∨ t = 35) (k : Frm [g] W W') : tU B0 tk q0 cs0 W' cs := by
 obtain ⟨sp, xs, q2, Bs, ds, I, d, rs, h1, h2, h3, h4, h5⟩ := h
 have hne : ∀ e : TypeId, e ≠ 34 → e ≠ 35 → e ≠ t := fun e h1 h2 => by rcases ht with rfl | rfl <;> assumption
 exact ⟨sp, xs, q2, Bs, ds, I, d, rs, h1, h2, h3.blk hb k (hne _ jd jd) (hne _ jd jd) (hne _ jd jd), h4.one k hb (hne _ jd jd), h5⟩
theorem eH {cs : Array Value} {i : Nat} {v : Value} (h : ∀ u ∈ cs.toList, u.oneCell' = true) (hv : v.oneCell' = true) : ∀ u ∈ (cs.setIfInBounds i v).toList, u.oneCell' = true := by
 intro u hu
 rw [zcd] at hu
 rcases List.mem_or_eq_of_mem_set hu with h1 | rfl
 · exact h u h1
 exact hv
theorem xH {A : Option Addr} {n c : Nat} {tk : List Tk} {w0 : World} {q0 : Nat} {C : Tx → Array Value} {D : Tx → Option Nat} (nm : Tx) (hC : (C nm)[9]? = some (.slice none 0 0)) (hC1 : ∀ u ∈ (C nm).toList, u.oneCell' = true) (hA : 0 < n → ∀ x ∈ ob A, x < w0.heap.size) (hl : ∀ x ∈ tk, x.2.length ≤ 50000) (hv : bT w0) (htb : Tab w0) (hDn : D nm = (cK tk q0).map fun p => p.2.2) :
  lH w0 A n c tk q0 C D (tU w0.heap.size tk q0 (C nm)) nm 35 := by
 intro W gp gc cs hP hcs K hgp hgc
 subst hcs
 refine (nO w0 gp gc A n c tk q0 _ W hP hC hA K ⟨hgp, hgc⟩ hl hv htb).mono ?_
 rintro e w' he
 rw [hDn]
 obtain ⟨G, hG⟩ : ∃ G, cK tk q0 = G := ⟨_, rfl⟩
 rw [hG] at he ⊢
 rcases G with _ | ⟨sp, xs, q2⟩
 · exact he
 obtain ⟨rfl, gf, gb, Bs, ds, cs2, I, d, rs, h1, h2, h3, h4, h5, _, _, h8, h9, _⟩ := he
 have h6 : cs2 = ((C nm).setIfInBounds 8 (.slice Bs sp.length ds)).setIfInBounds 9 (.slice I rs.length d) := by rw [← h4, oP h3]
 refine ⟨rfl, cs2, h5, h9, ⟨sp, xs, q2, Bs, ds, I, d, rs, hG, h1, h2, h8, h6⟩, ?_⟩
 rw [h6]
 exact eH (eH hC1 rfl) rfl
theorem qXj {A : Option Addr} {n c : Nat} {tk : List Tk} {w0 : World} {q0 : Nat} {C : Tx → Array Value} {D : Tx → Option Nat} (nm : Tx) (hC1 : ∀ u ∈ (C nm).toList, u.oneCell' = true) (hDn : D nm = (dO tk q0).map fun _ => q0 + 2) :
  lH w0 A n c tk q0 C D (fun _ cs => ∃ s, dO tk q0 = some s ∧ cs = ((C nm).setIfInBounds 3 (encStr s.1)).setIfInBounds 4 (encStr s.2)) nm 41 := by
 intro W gp gc cs hP hcs K hgp hgc
 subst hcs
 refine (rT gp gc A n c tk q0 _ W hP).mono ?_
 rintro e w' ⟨hf, he⟩
 rw [hDn]
 obtain ⟨G, hG⟩ : ∃ G, dO tk q0 = G := ⟨_, rfl⟩
 rw [hG] at he ⊢
 rcases G with _ | s
 · exact ⟨he, hf⟩
 obtain ⟨rfl, hP2⟩ := he
 exact ⟨rfl, _, hP2, hf, ⟨s, rfl, rfl⟩, eH (eH hC1 rfl) rfl⟩
theorem xM {A : Option Addr} {n c : Nat} {tk : List Tk} {w0 : World} {q0 : Nat} {C : Tx → Array Value} {D : Tx → Option Nat} (nm : Tx) (hC1 : ∀ u ∈ (C nm).toList, u.oneCell' = true) (hDn : D nm = some q0) :
  lH w0 A n c tk q0 C D (fun _ cs => cs = C nm) nm 39 := by
 intro W gp gc cs hP hcs K hgp hgc
 subst hcs
 refine (nL gp W).mono ?_
 rintro e w' ⟨rfl, rfl⟩
 rw [hDn]
 exact ⟨rfl, _, hP, Frm.refl _ _, rfl, hC1⟩
theorem mG (tag nm : Tx) : ∀ u ∈ (nG tag nm).toList, u.oneCell' = true := eH (kS tag) rfl
theorem tB (tag nm : Tx) : ∀ u ∈ (tT tag nm).toList, u.oneCell' = true := eH (mG tag nm) rfl
def cQ (i : Nat) (w0 : World) (gp gc : Nat) (A : Option Addr) (n c : Nat) (tk : List Tk) (cs0 : Array Value) (l : List Tx) (W : World) (q : Nat) (cs : Array Value) : Prop :=
 ∃ FA d, Own W 9 1 FA l.length d (SB l) ∧ cs = cs0.setIfInBounds i (.slice FA l.length d) ∧ IsCp W gp gc A n c tk q cs ∧ Frm [gp, gc] w0 W ∧ ∀ y ∈ ob FA, w0.heap.size ≤ y
section
variable {i : Nat} {w0 : World} {gp gc : Nat} {A : Option Addr} {n c : Nat} {tk : List Tk} {cs0 : Array Value} {l : List Tx} {W W' : World} {q q2 : Nat} {cs : Array Value}
theorem cQ.frm (h : cQ i w0 gp gc A n c tk cs0 l W q cs) (k : Frm [] W W') : cQ i w0 gp gc A n c tk cs0 l W' q cs := by
 obtain ⟨FA, d, h1, h2, h3, h4, h5⟩ := h
 exact ⟨FA, d, h1.frm k jp, h2, h3.frm k, h4.trans k jp, h5⟩
theorem cQ.read (h : cQ i w0 gp gc A n c tk cs0 l W q cs) (k : Frm [gp] W W') (hP : IsCp W' gp gc A n c tk q2 cs) : cQ i w0 gp gc A n c tk cs0 l W' q2 cs := by
 obtain ⟨FA, d, h1, h2, h3, h4, h5⟩ := h
 exact ⟨FA, d, h1.one k h3.p jd, h2, hP, h4.trans k (fun x hx => .inl (by simp at hx; simp [hx])), h5⟩
theorem cQ.isCp (h : cQ i w0 gp gc A n c tk cs0 l W q cs) : IsCp W gp gc A n c tk q cs ∧ Frm [gp, gc] w0 W := by
 obtain ⟨_, _, _, _, h3, h4, _⟩ := h
 exact ⟨h3, h4⟩
theorem cQ.nil (hP : IsCp W gp gc A n c tk q cs0) (hc : cs0[i]? = some (.slice none 0 0)) (k : Frm [gp, gc] w0 W) : cQ i w0 gp gc A n c tk cs0 [] W q cs0 := ⟨none, 0, Own.nil _ _ _, (oP hc).symm, hP, k, by simp [ob]⟩
theorem cQ.add {FA FA' : Option Addr} {d d' : Nat} {s : Tx} {W1 W2 : World} (h1 : Own W 9 1 FA l.length d (SB l)) (h2 : cs = cs0.setIfInBounds i (.slice FA l.length d)) (hP : IsCp W gp gc A n c tk q cs) (h4 : Frm [gp, gc] w0 W) (h5 : ∀ y ∈ ob FA, w0.heap.size ≤ y) (hA : 0 < n → ∀ x ∈ ob A, x < w0.heap.size)
  (g1 : Own W1 9 1 FA' (l.length + 1) d' (SB l ++ [encStr s])) (g2 : Frm (ob FA) W W1) (g3 : ob FA' = ob FA ∨ ob FA' = [W.heap.size]) (hb : Blk W2 gc 34 (cs.setIfInBounds i (.slice FA' (l.length + 1) d'))) (k : Frm [gc] W1 W2) :
  cQ i w0 gp gc A n c tk cs0 (l ++ [s]) W2 q (cs.setIfInBounds i (.slice FA' (l.length + 1) d')) := by
 have hgp := h1.ne_blk hP.p jd
 have hgc := h1.ne_blk hP.k jd
 have hP1 := hP.frmS g2 hgp hgc (fun h0 y hy e => by have := hA h0 y hy; have := h5 y e; omega)
 have hP2 := hP1.turn hb (by simp [hP.sz]) k
 have hsz := h4.size
 refine ⟨FA', d', ?_, by rw [h2, vD]; simp, hP2, (h4.trans g2 (fun y hy => .inr (h5 y hy))).trans k (fun x hx => .inl (by simp at hx; simp [hx])), fun y hy => ?_⟩
 ·
  have := g1.one k hP1.k jd
  simpa [SB] using this
 rcases g3 with h | h
 · rw [h] at hy; exact h5 y hy
 rw [h, zg] at hy; omega
theorem qZb {w w' : World} {t : TypeId} {s : Tx} (h : Fresh w w' t #[encStr s]) : Rd w' 1 (some ⟨w.heap.size, 0, none⟩) 1 [encStr s] := Rd.of_blk (n := 1) (size := 1) h.blk rfl
end
theorem pP (w0 : World) (cs0 : Array Value) (l : List Tx) (gp gc : Nat) (A : Option Addr) (n c : Nat) (tk : List Tk) (q : Nat) (cs : Array Value) (w : World) (hX : cQ 5 w0 gp gc A n c tk cs0 l w q cs) (hc0 : 5 < cs0.size) (hA : 0 < n → ∀ x ∈ ob A, x < w0.heap.size) (hll : l.length ≤ 1000000) : Calls Tryz.prog 64 #[jI0 gp] w fun e w' => match qW tk q [0] with
   | none => e = .panicked cY ∧ Frm [gp, gc] w0 w'
   | some s => e = .returned (.tuple #[]) ∧ ∃ cs2, cQ 5 w0 gp gc A n c tk cs0 (l ++ [s]) w' (q + 1) cs2 := by
 have hX0 := hX
 obtain ⟨FA, d, h1, h2, hP, h4, h5⟩ := hX
 have hcs : cs[5]? = some (.slice FA l.length d) := by rw [h2]; exact tS hc0
 refine jV Tryz.func64 Tryz.ntmps64 Tryz.results64 ?_
 refine VC.heldL 18 (fun V => V.cell? ⟨gp, 2, none⟩ = some (jI0 gc) ∧ V.cell? ⟨gc, 5, none⟩ = some (.slice FA l.length d)) jK ?_
 have hd := (qL.drew w).frm
 have mkS : ∀ V q', IsCp V gp gc A n c tk q' cs → (V.cell? ⟨gp, 2, none⟩ = some (jI0 gc) ∧ V.cell? ⟨gc, 5, none⟩ = some (.slice FA l.length d)) := fun V q' h => ⟨h.p.cell 2, by have h3 := h.k.cells 5 _ (by simpa using hcs); exact h3⟩
 have hXd := hX0.frm hd
 have hS := mkS _ _ hXd.isCp.1
 refine jh 0 hS ?_
 refine jH 1 rfl hS (fun w0 hw0 => Run.nilck rfl) ?_
 refine jH 2 rfl hS (fun w0 hw0 => Run.fieldAddr rfl zk rfl zad jd) ?_
 refine jH 3 rfl hS (fun w0 hw0 => Run.load rfl zak hw0.1) ?_
 refine jh 4 hS ?_
 refine jH 5 rfl hS (fun w0 hw0 => Run.nilck rfl) ?_
 refine jH 6 rfl hS (fun w0 hw0 => Run.fieldAddr rfl zk rfl zad jd) ?_
 refine jH 7 rfl hS (fun w0 hw0 => Run.load rfl zak hw0.1) ?_
 refine jH 8 rfl hS (fun w0 hw0 => Run.nilck rfl) ?_
 refine jH 9 rfl hS (fun w0 hw0 => Run.fieldAddr rfl ze rfl zai jd) ?_
 refine jH 10 rfl hS (fun w0 hw0 => Run.load rfl zbi hw0.2) ?_
 refine jh 11 hS ?_
 refine qQ.m 12 rfl jK (qH.buildS1 rfl zl zc dH jd jd rfl rfl) trivial rfl rfl ?_
 rintro _ w1 ⟨rfl, hF1⟩
 have hK1 : Rd w1 1 (some ⟨w.drew.heap.size, 0, none⟩) 1 (IB [0]) := Rd.of_blk (n := 1) (size := 1) hF1.blk rfl
 have hPl := hP.lt
 have hsz1 := hd.size
 have hX1 := hXd.frm hF1.frm
 have hP1 := hX1.isCp.1
 have hS := mkS _ _ hP1
 refine ⟨hS, ?_⟩
 refine qQ.clp 13 rfl jK (jE2 zca) (bO (some ⟨w.drew.heap.size, 0, none⟩) 1 1 [0] gp gc A n c tk q cs w1 hP1 rfl jo hK1 (fun _ x hx => by rw [zg.1 hx]; show w.drew.heap.size ≠ gp; omega)) trivial rfl rfl ?_
 rintro e w2 ⟨hf2, he⟩
 rcases hT : qW tk q [0] with _ | s
 ·
  rw [hT] at he
  exact .inr ⟨_, he, qP ⟨rfl, hX1.isCp.2.trans hf2 (fun x hx => .inl (by simp at hx; simp [hx]))⟩⟩
 rw [hT] at he
 obtain ⟨rfl, hP2⟩ := he
 have hX2 := hX1.read hf2 hP2
 have hS := mkS _ _ hP2
 refine .inl ⟨_, rfl, hS, ?_⟩
 refine qQ.m 14 rfl jK (qH.buildS1 rfl zp zd oE jd jd rfl rfl) trivial rfl rfl ?_
 rintro _ w3 ⟨rfl, hF3⟩
 have hX3 := hX2.frm hF3.frm
 have hS := mkS _ _ hX3.isCp.1
 have g1 : Own w3 9 1 FA l.length d (SB l) := (((h1.frm hd jp).frm hF1.frm jp).one hf2 hP1.p jd).frm hF3.frm jp
 refine ⟨hS, ?_⟩
 refine qQ.m 15 rfl jK (qH.app rfl rfl zp (sS) rfl jd g1 (qZb hF3) (by simp [encStr]; rfl) jo jo) trivial rfl rfl ?_
 rintro _ w4 ⟨F4, d4, rfl, hO4, hf4, hob4⟩
 have hP3 := hX3.isCp.1
 have hP4 := hP3.frmS hf4 (g1.ne_blk hP3.p jd) (g1.ne_blk hP3.k jd) (fun h0 y hy e => by have := hA h0 y hy; have := h5 y e; omega)
 have hS := mkS _ _ hP4
 refine ⟨hS, ?_⟩
 refine qQ.r1 16 rfl jK hS (Run.nilck rfl) trivial rfl rfl ?_
 refine qQ.r1 17 rfl jK hS (Run.fieldAddr rfl ze rfl zai jd) trivial rfl rfl ?_
 refine qQ.stL rfl jK (qJ.store (i := 5) rfl rfl zai hP4.k (by rw [hP4.sz]; rfl) rfl) trivial rfl ?_
 rintro w5 ⟨hb5, hf5, hs5⟩
 refine qQ.done jK ?_
 refine cB ?_
 exact ⟨rfl, _, cQ.add g1 h2 hP3 hX3.isCp.2 h5 hA hO4 hf4 hob4 hb5 hf5⟩
def jP : List Tx := [[77, 69, 83, 83, 65, 71, 69, 83], [82, 69, 67, 69, 78, 84], [85, 73, 68, 78, 69, 88, 84], [85, 73, 68, 86, 65, 76, 73, 68, 73, 84, 89], [85, 78, 83, 69, 69, 78]]
theorem uE (gb : Nat) (w0 : World) (cs0 : Array Value) (l : List Tx) (gp gc : Nat) (A : Option Addr) (n c : Nat) (tk : List Tk) (q : Nat) (cs : Array Value) (w : World) (hX : cQ 19 w0 gp gc A n c tk cs0 l w q cs) (hG : Blk w gb 61 #[jI0 gp]) (hc0 : 19 < cs0.size) (hA : 0 < n → ∀ x ∈ ob A, x < w0.heap.size) (hll : l.length ≤ 1000000) (hl : ∀ x ∈ tk, x.2.length ≤ 1000000) : Calls Tryz.prog 63 #[jI0 gb] w fun e w' => match (qW tk q [0]).bind fun s => if qT s ∈ jP then some (qT s) else none with
   | none => e = .panicked cY ∧ Frm [gp, gc] w0 w'
   | some s => e = .returned (.tuple #[]) ∧ Blk w' gb 61 #[jI0 gp] ∧ ∃ cs2, cQ 19 w0 gp gc A n c tk cs0 (l ++ [s]) w' (q + 1) cs2 := by
 refine jV Tryz.func63 Tryz.ntmps63 Tryz.results63 ?_
 refine jS (jR (jl rfl zae (hG.cell 0) ?_))
 refine Ops.clp (jE1 Tryz.call18) (kJ gp gc A n c tk q cs w hX.isCp.1 hl) rfl ?_
 rintro e w2 ⟨hf2, he⟩
 rcases hT : qW tk q [0] with _ | s0
 ·
  rw [hT] at he
  exact .inr ⟨_, he, qK (qP ⟨rfl, hX.isCp.2.trans hf2 (fun x hx => .inl (by simp at hx; simp [hx]))⟩)⟩
 rw [hT] at he
 obtain ⟨rfl, hP2⟩ := he
 have hX2 := hX.read hf2 hP2
 have hG2 := hG.frm hf2 (by simp; exact hG.ne hX.isCp.1.p jd)
 rw [zn]
 obtain ⟨ak, hs⟩ : ∃ s, s = qT s0 := ⟨_, rfl⟩
 rw [← hs]
 clear hs
 obtain ⟨FA, d, h1, h2, hP2', h4, h5⟩ := id hX2
 have hcs : cs[19]? = some (.slice FA l.length d) := by rw [h2]; exact tS hc0
 refine .inl ⟨_, rfl, ?_⟩
 refine ja rfl (jO (jN (jv2 0 1 ?_)))
 refine jS (jS (jR (jm rfl (jO (jN (jB (jS (jS (jR (je (Run.eqlT rfl rfl) (ja rfl (jO (jN (jv4 0 1 4 5 ?_))))))))))))))
 refine VC.meet (σ := Unit) (fun s => [(0, jI0 gb), (1, encStr ak), (5, .bool (decide (ak ∈ jP)))]) (fun s wr => wr = w2) ?_ ?_
 ·
  refine jD rfl (fun hc1 => ?_) fun hc1 => ?_
  ·
   refine jQ ?_
   refine jN ⟨(), (js3 rfl rfl (jC (by simp [jP, *]))), ?_⟩
   rfl
  refine jS (jR (je (Run.eqlT rfl rfl) (ja rfl (jO (jN (jv4 0 1 4 5 ?_))))))
  refine VC.meet (σ := Unit) (fun s => [(0, jI0 gb), (1, encStr ak), (5, .bool (decide (ak ∈ jP)))]) (fun s wr => wr = w2) ?_ ?_
  ·
   refine jD rfl (fun hc2 => ?_) fun hc2 => ?_
   ·
    refine jQ ?_
    refine jN ⟨(), (js3 rfl rfl (jC (by simp [jP, *]))), ?_⟩
    rfl
   refine jS (jR (je (Run.eqlT rfl rfl) (ja rfl (jO (jN (jv4 0 1 4 5 ?_))))))
   refine VC.meet (σ := Unit) (fun s => [(0, jI0 gb), (1, encStr ak), (5, .bool (decide (ak ∈ jP)))]) (fun s wr => wr = w2) ?_ ?_
   ·
    refine jD rfl (fun hc3 => ?_) fun hc3 => ?_
    ·
     refine jQ ?_
     refine jN ⟨(), (js3 rfl rfl (jC (by simp [jP, *]))), ?_⟩
     rfl
    refine jS (jR (je (Run.eqlT rfl rfl) (ja rfl (jO (jN (jv4 0 1 4 5 ?_))))))
    refine VC.meet (σ := Unit) (fun s => [(0, jI0 gb), (1, encStr ak), (5, .bool (decide (ak ∈ jP)))]) (fun s wr => wr = w2) ?_ ?_
    ·
     refine jD rfl (fun hc4 => ?_) fun hc4 => ?_
     ·
      refine jQ ?_
      refine jN ⟨(), (js3 rfl rfl (jC (by simp [jP, *]))), ?_⟩
      rfl
     refine jR (je (Run.eqlT rfl rfl) (ja rfl (jO ?_)))
     refine jN ⟨(), (js3 rfl rfl (jC (by simp [jP, *]))), ?_⟩
     rfl
    intro s wr hinv Γ hΓ
    refine jN ⟨(), (js3 (hΓ.get _ _ rfl) (hΓ.get _ _ rfl) (hΓ.get _ _ rfl)), ?_⟩
    exact hinv
   intro s wr hinv Γ hΓ
   refine jN ⟨(), (js3 (hΓ.get _ _ rfl) (hΓ.get _ _ rfl) (hΓ.get _ _ rfl)), ?_⟩
   exact hinv
  intro s wr hinv Γ hΓ
  refine jN ⟨(), (js3 (hΓ.get _ _ rfl) (hΓ.get _ _ rfl) (hΓ.get _ _ rfl)), ?_⟩
  exact hinv
 intro s wr hinv Γ hΓ
 refine jN (VC.sub _ hΓ ?_)
 refine jD rfl (fun hc5 => ?_) fun hc5 => ?_
 ·
  subst hinv
  rw [if_pos hc5]
  refine jS ?_
  refine VC.heldL 16 (fun V => V.cell? ⟨gb, 0, none⟩ = some (jI0 gp) ∧ V.cell? ⟨gp, 2, none⟩ = some (jI0 gc) ∧ V.cell? ⟨gc, 19, none⟩ = some (.slice FA l.length d)) jK ?_
  have hd := (qL.drew wr).frm
  have mkS : ∀ V, Blk V gb 61 #[jI0 gp] → IsCp V gp gc A n c tk (q + 1) cs → (V.cell? ⟨gb, 0, none⟩ = some (jI0 gp) ∧ V.cell? ⟨gp, 2, none⟩ = some (jI0 gc) ∧ V.cell? ⟨gc, 19, none⟩ = some (.slice FA l.length d)) := fun V h0 h => ⟨h0.cell 0, h.p.cell 2, by have h3 := h.k.cells 19 _ (by simpa using hcs); exact h3⟩
  have hXd := hX2.frm hd
  have hGd := hG2.frm hd jp
  have hS := mkS _ hGd hXd.isCp.1
  refine jH 0 rfl hS (fun w0 hw0 => Run.load rfl zae hw0.1) ?_
  refine jH 1 rfl hS (fun w0 hw0 => Run.nilck rfl) ?_
  refine jH 2 rfl hS (fun w0 hw0 => Run.fieldAddr rfl zk rfl zad jd) ?_
  refine jH 3 rfl hS (fun w0 hw0 => Run.load rfl zak hw0.2.1) ?_
  refine jH 4 rfl hS (fun w0 hw0 => Run.load rfl zae hw0.1) ?_
  refine jH 5 rfl hS (fun w0 hw0 => Run.nilck rfl) ?_
  refine jH 6 rfl hS (fun w0 hw0 => Run.fieldAddr rfl zk rfl zad jd) ?_
  refine jH 7 rfl hS (fun w0 hw0 => Run.load rfl zak hw0.2.1) ?_
  refine jH 8 rfl hS (fun w0 hw0 => Run.nilck rfl) ?_
  refine jH 9 rfl hS (fun w0 hw0 => Run.fieldAddr rfl ze rfl zai jd) ?_
  refine jH 10 rfl hS (fun w0 hw0 => Run.load rfl zbi hw0.2.2) ?_
  refine qQ.r1 11 rfl jK hS (Run.mv rfl) trivial rfl rfl ?_
  refine qQ.m 12 rfl jK (qH.buildS1 rfl zp zd oE jd jd rfl rfl) trivial rfl rfl ?_
  rintro _ w3 ⟨rfl, hF3⟩
  have hX3 := hXd.frm hF3.frm
  have hG3 := hGd.frm hF3.frm jp
  have hS := mkS _ hG3 hX3.isCp.1
  have g1 : Own w3 9 1 FA l.length d (SB l) := (h1.frm hd jp).frm hF3.frm jp
  refine ⟨hS, ?_⟩
  refine qQ.m 13 rfl jK (qH.app rfl rfl zp (sS) rfl jd g1 (qZb hF3) (by simp [encStr]; rfl) jo jo) trivial rfl rfl ?_
  rintro _ w4 ⟨F4, d4, rfl, hO4, hf4, hob4⟩
  have hP3 := hX3.isCp.1
  have hP4 := hP3.frmS hf4 (g1.ne_blk hP3.p jd) (g1.ne_blk hP3.k jd) (fun h0 y hy e => by have := hA h0 y hy; have := h5 y e; omega)
  have hG4 := hG3.frm hf4 (g1.ne_blk hG3 jd)
  have hS := mkS _ hG4 hP4
  refine ⟨hS, ?_⟩
  refine qQ.r1 14 rfl jK hS (Run.nilck rfl) trivial rfl rfl ?_
  refine qQ.r1 15 rfl jK hS (Run.fieldAddr rfl ze rfl zai jd) trivial rfl rfl ?_
  refine qQ.stL rfl jK (qJ.store (i := 19) rfl rfl zai hP4.k (by rw [hP4.sz]; rfl) rfl) trivial rfl ?_
  rintro w5 ⟨hb5, hf5, hs5⟩
  refine qQ.done jK ?_
  refine jN ?_
  refine VC.sub [] .nil ?_
  refine jT ?_
  refine qN (qZ (sE ?_))
  exact ⟨rfl, hG4.frm hf5 (by simp; exact hG4.ne hP4.k jd), _, cQ.add g1 h2 hP3 hX3.isCp.2 h5 hA hO4 hf4 hob4 hb5 hf5⟩
 subst hinv
 rw [if_neg hc5]
 refine jQ ?_
 refine qS (jN ?_)
 refine VC.sub [] .nil ?_
 refine jR ?_
 refine Ops.clp (jE1 zbb) (bZ false wr) rfl ?_
 rintro e _ ⟨rfl, he⟩
 exact .inr ⟨_, he, qP ⟨rfl, hX2.isCp.2⟩⟩
def bS (tk : List Tk) (q j : Nat) : List Tx := (List.range j).map fun i => (tk.getD (q + i) tk0).2
theorem lN (tk : List Tk) (q j : Nat) : (bS tk q j).length = j := by simp [bS]
theorem kU {tk : List Tk} {q j : Nat} {ks : List Int} {s : Tx} (h : qW tk (q + j) ks = some s) : bS tk q (j + 1) = bS tk q j ++ [s] := by
 unfold qW at h
 split at h
 ·
  injection h with h
  unfold bS
  rw [List.range_succ, zcw, List.map_singleton, h]
 cases h
def fI (tk : List Tk) (_ k : Nat) : Option Nat := ((qW tk k [0]).bind fun s => if qT s ∈ jP then some (qT s) else none).map fun _ => k + 1
def cL (tk : List Tk) (q : Nat) : Option (Tx × List Tx × Nat) := (qW tk q [0, 1]).bind fun a => (cN tk (fI tk) 1 16 (q + 1)).map fun p => (a, (bS tk (q + 2) p.2).map qT, p.1 + 1)
theorem tC (gp gc : Nat) (A : Option Addr) (n c : Nat) (tk : List Tk) (q : Nat) (cs : Array Value) (w : World) (hP : IsCp w gp gc A n c tk q cs) (hcs : cs[19]? = some (.slice none 0 0)) (hA : 0 < n → ∀ x ∈ ob A, x < w.heap.size) (hl : ∀ x ∈ tk, x.2.length ≤ 1000000) : Calls Tryz.prog 32 #[jI0 gp] w fun e w' => match cL tk q with
   | none => e = .panicked cY ∧ Frm [gp, gc] w w'
   | some (a, l, q2) => e = .returned (.tuple #[]) ∧ ∃ cs2, cQ 19 w gp gc A n c tk (cs.setIfInBounds 3 (encStr a)) l w' q2 cs2 := by
 refine jV Tryz.func32 Tryz.ntmps32 Tryz.results32 ?_
 refine jS (jR ?_)
 refine Ops.m (qH.box rfl) rfl ?_
 rintro _ w1 ⟨rfl, hF1⟩
 obtain ⟨gb, hgb⟩ : ∃ g, g = w.heap.size := ⟨_, rfl⟩
 have hG : Blk w1 gb 61 #[jI0 gp] := by rw [hgb]; exact hF1.blk
 have hP1 := hP.frm hF1.frm
 rw [← hgb]
 refine jO (jN (jv1 1 ?_))
 refine jS (jR (jl rfl zae (hG.cell 0) ?_))
 refine Ops.clp (jE1 Tryz.call40) (lZ gp gc A n c tk q cs w1 hP1) rfl ?_
 rintro e w2 ⟨hf2, he⟩
 have K2 : Frm [gp, gc] w w2 := (hF1.frm.mono jp).trans hf2 (fun x hx => .inl hx)
 rcases hT : qW tk q [0, 1] with _ | a
 ·
  rw [hT] at he
  exact .inr ⟨_, he, qK (qP (by rw [show cL tk q = none by simp [cL, hT]]; exact ⟨rfl, K2⟩))⟩
 rw [hT] at he
 obtain ⟨rfl, hP2⟩ := he
 have hG2 := hG.frm hf2 (by simp; exact ⟨hG.ne hP1.p jd, hG.ne hP1.k jd⟩)
 obtain ⟨csA, hcsA⟩ : ∃ x, x = cs.setIfInBounds 3 (encStr a) := ⟨_, rfl⟩
 rw [← hcsA] at hP2
 have h19 : csA[19]? = some (.slice none 0 0) := by rw [hcsA, zax, if_neg jd]; exact hcs
 have hX2 : cQ 19 w gp gc A n c tk csA [] w2 (q + 1) csA := cQ.nil hP2 h19 K2
 have hone : ∀ j W q1 cs1, j < 16 → ¬ IsT tk q1 3 → (j ≤ 16 ∧ q1 = q + 2 + j ∧ Blk W gb 61 #[jI0 gp] ∧ cQ 19 w gp gc A n c tk csA ((bS tk (q + 2) j).map qT) W q1 cs1) → Calls Tryz.prog 63 ([jI0 gb] : List Value).toArray W fun e w' => match fI tk j q1 with
    | none => e = .panicked cY ∧ Frm [gp, gc] w w'
    | some q2 => e = .returned (.tuple #[]) ∧ ∃ cs2, ((j + 1) ≤ 16 ∧ q2 = q + 2 + (j + 1) ∧ Blk w' gb 61 #[jI0 gp] ∧ cQ 19 w gp gc A n c tk csA ((bS tk (q + 2) (j + 1)).map qT) w' q2 cs2) := by
  intro j W q1 cs1 hj hn3 h
  obtain ⟨_, hq1, hGW, hXW⟩ := h
  refine (uE gb w csA _ gp gc A n c tk q1 cs1 W hXW hGW (by rw [hcsA]; simp [hP.sz]) hA (by rw [zbc, lN]; omega) hl).mono fun e w' he => ?_
  unfold fI
  rcases hT1 : qW tk q1 [0] with _ | s
  · rw [hT1] at he; exact he
  rw [hT1] at he
  rw [zn] at he ⊢
  by_cases hk : qT s ∈ jP
  ·
   rw [if_pos hk] at he ⊢
   obtain ⟨he, hG', cs2, hX'⟩ := he
   refine ⟨he, cs2, jo, (by show q1 + 1 = _; omega), hG', ?_⟩
   rw [kU (by rw [← hq1]; exact hT1), zcw]
   exact hX'
  rw [if_neg hk] at he ⊢; exact he
 refine .inl ⟨_, rfl, ?_⟩
 refine jO (jN (jv1 1 ?_))
 refine jR (jl rfl zae (hG2.cell 0) (je (Run.mkFunc evs.nil (evs.cons rfl evs.nil)) ?_))
 refine Ops.clp (jE4 Tryz.call62) (kK 63 [] [jI0 gb] 1 16 (fI tk) (fun j W q1 cs1 => j ≤ 16 ∧ q1 = q + 2 + j ∧ Blk W gb 61 #[jI0 gp] ∧ cQ 19 w gp gc A n c tk csA ((bS tk (q + 2) j).map qT) W q1 cs1) w gp gc A n c tk (q + 1) csA w2 hP2 K2 jo jo Tryz.call63 (fun W k hP => ⟨zac _, rfl, hG2.frm k (by simp; exact hG2.ne hP2.p jd), hX2.read k hP⟩) (fun j W q1 cs1 h => h.2.2.2.isCp) (fun j W W' q1 cs1 h k => ⟨h.1, h.2.1, h.2.2.1.frm k jp, h.2.2.2.frm k⟩) hone) rfl ?_
 rintro e w7 he
 have hsm : cL tk q = (cN tk (fI tk) 1 16 (q + 1)).map fun p => (a, (bS tk (q + 2) p.2).map qT, p.1 + 1) := by simp [cL, hT]
 rw [hsm]
 rcases hL : cN tk (fI tk) 1 16 (q + 1) with _ | ⟨q2, j⟩
 ·
  rw [hL] at he
  exact .inr ⟨_, he.1, qP ⟨rfl, he.2⟩⟩
 rw [hL] at he
 obtain ⟨rfl, cs2, W1, ⟨_, _, _, hX7⟩, hf7, hP7⟩ := he
 refine .inl ⟨_, rfl, ?_⟩
 refine jO ?_
 refine cB ?_
 exact ⟨rfl, cs2, by rw [← hcsA]; exact hX7.read hf7 hP7⟩
noncomputable def gK (tk : List Tk) (q : Nat) : Option (List Sp × Nat) := (dF tk q).map fun sp => (sp, q + 1)
noncomputable def eS (tk : List Tk) (q : Nat) : Option (List Sp × Tx × Nat) := (dF tk q).bind fun sp => (qW tk (q + 1) [0, 1]).map fun a => (sp, a, q + 2)
theorem zG (gp gc : Nat) (A : Option Addr) (n c : Nat) (tk : List Tk) (q : Nat) (cs : Array Value) (w : World) (hP : IsCp w gp gc A n c tk q cs) (hl : ∀ x ∈ tk, x.2.length ≤ 1000000) : Calls Tryz.prog 75 #[jI0 gp] w fun e w' => match gK tk q with
   | none => e = .panicked cY ∧ Frm [gp, gc] w w'
   | some (sp, q2) => e = .returned (.tuple #[]) ∧ ∃ Bs ds, IsCp w' gp gc A n c tk q2 (cs.setIfInBounds 8 (.slice Bs sp.length ds)) ∧ Own w' 96 2 Bs sp.length ds (SC sp) ∧ Frm [gp, gc] w w' := by
 refine jV Tryz.func75 Tryz.ntmps75 Tryz.results75 ?_
 refine VC.heldL 8 (fun V : World => V.cell? ⟨gp, 2, none⟩ = some (jI0 gc)) jK ?_
 have hd := (qL.drew w).frm
 have hPd := hP.frm hd
 have hS : (fun V : World => V.cell? ⟨gp, 2, none⟩ = some (jI0 gc)) w.drew := hPd.p.cell 2
 refine jh 0 hS ?_
 refine jH 1 rfl hS (fun w0 hw0 => Run.nilck rfl) ?_
 refine jH 2 rfl hS (fun w0 hw0 => Run.fieldAddr rfl zk rfl zad jd) ?_
 refine jH 3 rfl hS (fun w0 hw0 => Run.load rfl zak hw0) ?_
 refine qQ.r1 4 rfl jK hS (Run.mv rfl) trivial rfl rfl ?_
 refine qQ.clp 5 rfl jK (jE1 Tryz.call69) (hZ gp gc A n c tk q cs _ hPd hl) trivial rfl rfl ?_
 rintro e w2 ⟨hf2, he⟩
 have K2 : Frm [gp, gc] w w2 := (hd.mono jp).trans hf2 (fun x hx => .inl (by simp at hx; simp [hx]))
 rcases hT : dF tk q with _ | sp
 ·
  rw [hT] at he
  exact .inr ⟨_, he, qP (by rw [show gK tk q = none by simp [gK, hT]]; exact ⟨rfl, K2⟩)⟩
 rw [hT] at he
 obtain ⟨Bs, ds, rfl, hP2, hoS, hupS⟩ := he
 have hS : (fun V : World => V.cell? ⟨gp, 2, none⟩ = some (jI0 gc)) w2 := hP2.p.cell 2
 refine .inl ⟨_, rfl, hS, ?_⟩
 refine qQ.r1 6 rfl jK hS (Run.nilck rfl) trivial rfl rfl ?_
 refine qQ.r1 7 rfl jK hS (Run.fieldAddr rfl ze rfl zbf jd) trivial rfl rfl ?_
 refine qQ.stL rfl jK (qJ.store (i := 8) rfl rfl zbf hP2.k (by rw [hP2.sz]; rfl) rfl) trivial rfl ?_
 rintro w3 ⟨hb3, hf3, hs3⟩
 have hf3 : Frm [gc] w2 w3 := hf3
 have hP3 := hP2.turn hb3 (by simp [hP2.sz]) hf3
 have hoS := hoS.one hf3 hP2.k jd
 have K3 : Frm [gp, gc] w w3 := K2.trans hf3 (fun x hx => .inl (by simp at hx; simp [hx]))
 refine qQ.done jK ?_
 refine cB ?_
 rw [show gK tk q = some (sp, q + 1) by simp [gK, hT]]
 exact ⟨rfl, Bs, ds, hP3, hoS, K3⟩
theorem zH (gp gc : Nat) (A : Option Addr) (n c : Nat) (tk : List Tk) (q : Nat) (cs : Array Value) (w : World) (hP : IsCp w gp gc A n c tk q cs) (hl : ∀ x ∈ tk, x.2.length ≤ 1000000) : Calls Tryz.prog 37 #[jI0 gp] w fun e w' => match eS tk q with
   | none => e = .panicked cY ∧ Frm [gp, gc] w w'
   | some (sp, a, q2) => e = .returned (.tuple #[]) ∧ ∃ Bs ds, IsCp w' gp gc A n c tk q2 ((cs.setIfInBounds 8 (.slice Bs sp.length ds)).setIfInBounds 3 (encStr a)) ∧ Own w' 96 2 Bs sp.length ds (SC sp) ∧ Frm [gp, gc] w w' := by
 refine jV Tryz.func37 Tryz.ntmps37 Tryz.results37 ?_
 refine jS ?_
 refine VC.heldL 8 (fun V : World => V.cell? ⟨gp, 2, none⟩ = some (jI0 gc)) jK ?_
 have hd := (qL.drew w).frm
 have hPd := hP.frm hd
 have hS : (fun V : World => V.cell? ⟨gp, 2, none⟩ = some (jI0 gc)) w.drew := hPd.p.cell 2
 refine jh 0 hS ?_
 refine jH 1 rfl hS (fun w0 hw0 => Run.nilck rfl) ?_
 refine jH 2 rfl hS (fun w0 hw0 => Run.fieldAddr rfl zk rfl zad jd) ?_
 refine jH 3 rfl hS (fun w0 hw0 => Run.load rfl zak hw0) ?_
 refine qQ.r1 4 rfl jK hS (Run.mv rfl) trivial rfl rfl ?_
 refine qQ.clp 5 rfl jK (jE1 Tryz.call69) (hZ gp gc A n c tk q cs _ hPd hl) trivial rfl rfl ?_
 rintro e w2 ⟨hf2, he⟩
 have K2 : Frm [gp, gc] w w2 := (hd.mono jp).trans hf2 (fun x hx => .inl (by simp at hx; simp [hx]))
 rcases hT : dF tk q with _ | sp
 ·
  rw [hT] at he
  exact .inr ⟨_, he, qK (qP (by rw [show eS tk q = none by simp [eS, hT]]; exact ⟨rfl, K2⟩))⟩
 rw [hT] at he
 obtain ⟨Bs, ds, rfl, hP2, hoS, hupS⟩ := he
 have hS : (fun V : World => V.cell? ⟨gp, 2, none⟩ = some (jI0 gc)) w2 := hP2.p.cell 2
 refine .inl ⟨_, rfl, hS, ?_⟩
 refine qQ.r1 6 rfl jK hS (Run.nilck rfl) trivial rfl rfl ?_
 refine qQ.r1 7 rfl jK hS (Run.fieldAddr rfl ze rfl zbf jd) trivial rfl rfl ?_
 refine qQ.stL rfl jK (qJ.store (i := 8) rfl rfl zbf hP2.k (by rw [hP2.sz]; rfl) rfl) trivial rfl ?_
 rintro w3 ⟨hb3, hf3, hs3⟩
 have hf3 : Frm [gc] w2 w3 := hf3
 have hP3 := hP2.turn hb3 (by simp [hP2.sz]) hf3
 have hoS := hoS.one hf3 hP2.k jd
 have K3 : Frm [gp, gc] w w3 := K2.trans hf3 (fun x hx => .inl (by simp at hx; simp [hx]))
 refine qQ.done jK ?_
 refine jN (jv1 0 ?_)
 refine jR (jM ?_)
 refine Ops.clp (jE1 Tryz.call40) (lZ gp gc A n c tk (q + 1) _ w3 hP3) rfl ?_
 rintro e w4 ⟨hf4, he⟩
 have K4 : Frm [gp, gc] w w4 := K3.trans hf4 (fun x hx => .inl hx)
 rcases hT4 : qW tk (q + 1) [0, 1] with _ | a
 ·
  rw [hT4] at he
  exact .inr ⟨_, he, qP (by rw [show eS tk q = none by simp [eS, hT, hT4]]; exact ⟨rfl, K4⟩)⟩
 rw [hT4] at he
 obtain ⟨rfl, hP4⟩ := he
 refine .inl ⟨_, rfl, ?_⟩
 refine jO ?_
 refine cB ?_
 rw [show eS tk q = some (sp, a, q + 2) by simp [eS, hT, hT4]]
 exact ⟨rfl, Bs, ds, hP4, hoS.frm hf4 (fun y hy h => by simp at h; rcases h with rfl | rfl; exact hoS.ne_blk hP3.p jd hy; exact hoS.ne_blk hP3.k jd hy), K4⟩
end
section
open Go.RowKit Go.Sort
def bV (n : Nat) : Prop := (97 ≤ n ∧ n ≤ 122) ∨ (48 ≤ n ∧ n ≤ 57) ∨ n = 36 ∨ n = 45 ∨ n = 46 ∨ n = 95
instance (n : Nat) : Decidable (bV n) := by unfold bV; exact inferInstance
theorem bV.lt {n : Nat} (h : bV n) : n < 128 := by unfold bV at h; omega
def cP : List Tx := [[92, 65, 110, 115, 119, 101, 114, 101, 100], [92, 68, 101, 108, 101, 116, 101, 100], [92, 68, 114, 97, 102, 116], [92, 70, 108, 97, 103, 103, 101, 100], [92, 83, 101, 101, 110]]
def kW (s : Tx) : Option Tx :=
 if ([92] : Tx).isPrefixOf s = true then cP.find? fun f => decide (qO f = qO s)
 else if qO s = [] ∨ 20 < s.length ∨ ∃ c ∈ qO s, ¬ bV c.toNat then none else some (qO s)
theorem rI {s t : Tx} (h : kW s = some t) : 0 < t.length ∧ t.length ≤ 20 := by
 unfold kW at h
 split at h
 ·
  have := List.mem_of_find?_eq_some h
  have key : ∀ t ∈ cP, 0 < t.length ∧ t.length ≤ 20 := jd
  exact key t this
 split at h
 · cases h
 rename_i h1
 injection h with h
 subst h
 rw [dM]
 refine ⟨?_, jo⟩
 have : qO s ≠ [] := fun e => h1 (.inl e)
 rw [← dM]
 exact List.length_pos_iff.2 this
theorem xN : ∀ f ∈ cP, kW f = some f := by decide +kernel
end
section
open Go.RowKit Go.Sort
theorem mH (q : Tx) (w : World) (hq : q.length ≤ 1000000) : Calls Tryz.prog 142 #[encStr q] w fun e w' => e = .returned (encStr (qO q)) ∧ Frm [] w w' := by
 refine jV Tryz.func142 Tryz.ntmps142 Tryz.results142 ?_
 refine jS (jR (ja rfl (jO (jN (jv1 0 ?_)))))
 refine jS (jR (jM ?_))
 refine Ops.m (qH.bytesOfT rfl za zv zal) rfl ?_
 rintro _ w1 ⟨c1, cs1, rfl, hF1, ht1, hf1⟩
 have hge : w.heap.size ≤ w.heap.size := zt _
 generalize hg : w.heap.size = g1 at hF1 hge ⊢
 refine ja rfl (jO (jN (jv1 3 ?_)))
 refine jS (jS (jR (jm rfl (jL rfl zv ?_))))
 refine jx .i64 0 ?_
 refine jO (jN (jB ?_))
 refine VC.loop (σ := Nat) (fun s => [(3, .slice (some ⟨g1, 0, none⟩) q.length c1), (8, .slice (some ⟨g1, 0, none⟩) q.length c1), (9, jI1 q.length), (10, jI1 s)]) (fun s wr => s ≤ q.length ∧ Frm [] w wr ∧ ∃ cs, Fro wr g1 5 cs ∧ cs.toList.take q.length = U8 ((q.take s).map low ++ q.drop s)) (fun s => q.length - s) 0 (js4 rfl rfl rfl rfl) ⟨jo, hf1, cs1, hF1, by simpa using ht1⟩ ?_
 rintro i wr ⟨hi, hfr, cs, hF, ht⟩
 refine jS (jR (jb rfl rfl (Bin.lssN _ _) (jO (jN (jS ?_)))))
 refine jD rfl (fun hc1 => ?_) fun hc1 => ?_
 ·
  have hrd : Rd wr 1 (some ⟨g1, 0, none⟩) q.length (U8 ((q.take i).map low ++ q.drop i)) := by
   have h := hF.rd (l := (q.take i).map low ++ q.drop i) (by simpa [zbj hi, zbw hi] using ht)
   simpa [zbj hi, zbw hi] using h
  have hcell : wr.cell? ((⟨g1, 0, none⟩ : Addr).add (i * 1)) = some (.int .u8 ((q[i].toNat : Nat) : Int)) := by
   rw [zch]
   obtain ⟨ad, u, hA, hu, hc⟩ := hrd.at1 hc1
   cases hA
   rw [hc, ← hu]
   simp [U8, zav, zbj hi, zb, hc1]
  have hll : ((q.take i).map low ++ q.drop i).length = q.length := by simp; omega
  have hsz : i < cs.size := by
   have := congrArg List.length ht
   simp [U8] at this
   omega
  refine jQ (jN (jv4 3 8 9 10 ?_))
  refine jS (jB (jS (jR (jm rfl (je (Run.indexS i rfl rfl zv zau hc1) (jl rfl zbz hcell (ja rfl (ja rfl (jO (jN (jv6 3 4 5 8 9 10 ?_)))))))))))
  refine jS ?_
  refine VC.split1 [(3, _), (4, _), (5, _), (8, _), (9, _), (10, _)] (js6 rfl rfl rfl rfl rfl rfl) 20 (.bool (decide ((65 ≤ q[i].toNat) ∧ (q[i].toNat ≤ 90)))) ?_ ?_
  ·
   by_cases hs0 : 65 ≤ q[i].toNat
   ·
    refine jR (jm rfl (jb rfl rfl (Bin.geqN _ 65) (jM ?_)))
    refine jG ?_
    refine jk (Run.bin rfl rfl (Bin.leqN _ 90)) ?_
    refine jW rfl rfl au (jO ?_)
    refine jN ⟨(js7 (by rw [nU hs0]; rfl) rfl rfl rfl rfl rfl rfl), rfl⟩
   refine jR (jm rfl (jb rfl rfl (Bin.geqN _ 65) (jM ?_)))
   refine jU ?_
   refine jU ?_
   refine jF rfl rfl au (jO ?_)
   refine jN ⟨(js7 (by rw [nB hs0]; rfl) rfl rfl rfl rfl rfl rfl), rfl⟩
  intro Γ hΓ
  refine jN (VC.sub _ hΓ ?_)
  refine VC.meet (σ := Unit) (fun s => [(3, .slice (some ⟨g1, 0, none⟩) q.length c1), (8, .slice (some ⟨g1, 0, none⟩) q.length c1), (9, jI1 q.length), (10, jI1 i)]) (fun s wm => Frm [] w wm ∧ ∃ cs, Fro wm g1 5 cs ∧ cs.toList.take q.length = U8 ((q.take (i + 1)).map low ++ q.drop (i + 1))) ?_ ?_
  ·
   refine jD rfl (fun hc2 => ?_) fun hc2 => ?_
   ·
    refine jR (jm rfl (jm rfl (jm rfl (jb rfl rfl (Bin.add_u8 _ 32 jo) ?_))))
    rw [show (q[i].toNat + 32 : Nat) = (low q[i]).toNat by rw [nD, if_pos hc2]]
    refine je (Run.indexS i rfl rfl zv zau hc1) ?_
    rw [show (⟨g1, 0, none⟩ : Addr).add (i * 1) = ⟨g1, i, none⟩ by unfold Addr.add; rw [zch]; split <;> simp_all]
    refine Ops.st (qJ.storeFro rfl rfl zau hF hsz rfl) ?_
    rintro w2 ⟨hF2, hf2, hs2⟩
    refine jO ?_
    refine jN ⟨(), (js4 rfl rfl rfl rfl), ?_⟩
    exact ⟨hfr.own hf2 (fun x hx => by simp at hx; omega), _, hF2, by rw [pQ ht hll hc1, oM hc1]⟩
   refine jQ ?_
   refine jN ⟨(), (js4 rfl rfl rfl rfl), ?_⟩
   exact ⟨hfr, cs, hF, by rw [ht, tG hc1 (UInt8.toNat_inj.1 (by rw [nD, if_neg hc2]))]⟩
  rintro _ wm ⟨hfr2, cs2, hF2, ht2⟩ Γ hΓ
  refine qS (jN (VC.sub _ hΓ ?_))
  refine jR (jb rfl rfl (Bin.add_i64 _ 1 jo) (jm rfl (jO ?_)))
  refine jN ⟨(i + 1), (js4 rfl rfl rfl rfl), ?_, ?_⟩
  · exact ⟨hc1, hfr2, cs2, hF2, ht2⟩
  exact jq
 refine jX ?_
 refine qV (qV (qC ?_))
 refine jN (jv1 3 ?_)
 refine jS (jR (jM ?_))
 have hR : Rd wr 1 (some ⟨g1, 0, none⟩) q.length (U8 (qO q)) := by
  have him : i = q.length := jo
  subst him
  have h := hF.rd (l := qO q) (by rw [dM, ht]; simp [qO])
  rwa [dM] at h
 refine je (Run.strOfT rfl zv zal za hR) (ja rfl (jO (jN (jv1 2 ?_))))
 refine jT ?_
 refine qD rfl ?_
 exact ⟨rfl, hfr⟩
theorem zM (n : Nat) (w : World) : Calls Tryz.prog 145 #[.int .i32 ((n : Nat) : Int)] w fun e w' => e = .returned (.bool (decide (bV n))) ∧ w = w' := by
 refine jV Tryz.func145 Tryz.ntmps145 Tryz.results145 ?_
 refine jS (jR (ja rfl (jO (jN (jv1 0 ?_)))))
 refine jS ?_
 refine VC.split1 [] .nil 2 (.bool (decide (bV n))) ?_ ?_
 ·
  refine jR ?_
  refine jm rfl (jb rfl rfl (Bin.geqN _ 97) ?_)
  by_cases hs4 : 97 ≤ n
  ·
   refine jM ?_
   refine jG ?_
   refine jk (Run.bin rfl rfl (Bin.leqN _ 122)) ?_
   by_cases hs7 : n ≤ 122
   ·
    refine jW rfl rfl au (jM ?_)
    refine jU ?_
    refine jU ?_
    refine jU ?_
    refine Ops.skU rfl rfl ?_
    refine Ops.skU rfl rfl ?_
    refine jU ?_
    refine jW rfl rfl au (jM ?_)
    refine jU ?_
    refine jU ?_
    refine jW rfl rfl au (jM ?_)
    refine jU ?_
    refine jU ?_
    refine jW rfl rfl au (jM ?_)
    refine jU ?_
    refine jU ?_
    refine jW rfl rfl au (jM ?_)
    refine jU ?_
    refine jU ?_
    refine jW rfl rfl au (ja rfl (jO ?_))
    refine jN ⟨(js1 (jC (Eq.symm (by unfold bV; grind)))), rfl⟩
   refine jW rfl rfl au (jM ?_)
   refine jG ?_
   refine jk (Run.bin rfl rfl (Bin.geqN _ 48)) ?_
   by_cases hs11 : 48 ≤ n
   ·
    refine jG ?_
    refine jG ?_
    refine jk (Run.bin rfl rfl (Bin.leqN _ 57)) ?_
    by_cases hs14 : n ≤ 57
    ·
     refine jk (Run.pickT rfl rfl au) ?_
     refine jF rfl rfl au (jM ?_)
     refine jU ?_
     refine jU ?_
     refine jW rfl rfl au (jM ?_)
     refine jU ?_
     refine jU ?_
     refine jW rfl rfl au (jM ?_)
     refine jU ?_
     refine jU ?_
     refine jW rfl rfl au (jM ?_)
     refine jU ?_
     refine jU ?_
     refine jW rfl rfl au (ja rfl (jO ?_))
     refine jN ⟨(js1 (jC (Eq.symm (by unfold bV; grind)))), rfl⟩
    refine jk (Run.pickT rfl rfl au) ?_
    refine jF rfl rfl au (jM ?_)
    refine jG ?_
    refine jk (Run.bin rfl rfl (Bin.eqlN _ 36)) ?_
    by_cases hs19 : n = 36
    ·
     refine jF rfl rfl au (jM ?_)
     refine jU ?_
     refine jU ?_
     refine jW rfl rfl au (jM ?_)
     refine jU ?_
     refine jU ?_
     refine jW rfl rfl au (jM ?_)
     refine jU ?_
     refine jU ?_
     refine jW rfl rfl au (ja rfl (jO ?_))
     refine jN ⟨(js1 (jC (Eq.symm (by unfold bV; grind)))), rfl⟩
    refine jF rfl rfl au (jM ?_)
    refine jG ?_
    refine jk (Run.bin rfl rfl (Bin.eqlN _ 45)) ?_
    by_cases hs23 : n = 45
    ·
     refine jF rfl rfl au (jM ?_)
     refine jU ?_
     refine jU ?_
     refine jW rfl rfl au (jM ?_)
     refine jU ?_
     refine jU ?_
     refine jW rfl rfl au (ja rfl (jO ?_))
     refine jN ⟨(js1 (jC (Eq.symm (by unfold bV; grind)))), rfl⟩
    refine jF rfl rfl au (jM ?_)
    refine jG ?_
    refine jk (Run.bin rfl rfl (Bin.eqlN _ 46)) ?_
    by_cases hs27 : n = 46
    ·
     refine jF rfl rfl au (jM ?_)
     refine jU ?_
     refine jU ?_
     refine jW rfl rfl au (ja rfl (jO ?_))
     refine jN ⟨(js1 (jC (Eq.symm (by unfold bV; grind)))), rfl⟩
    refine jF rfl rfl au (jM ?_)
    refine jG ?_
    refine jk (Run.bin rfl rfl (Bin.eqlN _ 95)) ?_
    by_cases hs31 : n = 95
    ·
     refine jF rfl rfl au (ja rfl (jO ?_))
     refine jN ⟨(js1 (jC (Eq.symm (by unfold bV; grind)))), rfl⟩
    refine jF rfl rfl au (ja rfl (jO ?_))
    refine jN ⟨(js1 (jC (Eq.symm (by unfold bV; grind)))), rfl⟩
   refine jG ?_
   refine jU ?_
   refine jU ?_
   refine jk (Run.pickF rfl rfl au) ?_
   refine jF rfl rfl au (jM ?_)
   refine jG ?_
   refine jk (Run.bin rfl rfl (Bin.eqlN _ 36)) ?_
   by_cases hs19 : n = 36
   ·
    refine jF rfl rfl au (jM ?_)
    refine jU ?_
    refine jU ?_
    refine jW rfl rfl au (jM ?_)
    refine jU ?_
    refine jU ?_
    refine jW rfl rfl au (jM ?_)
    refine jU ?_
    refine jU ?_
    refine jW rfl rfl au (ja rfl (jO ?_))
    refine jN ⟨(js1 (jC (Eq.symm (by unfold bV; grind)))), rfl⟩
   refine jF rfl rfl au (jM ?_)
   refine jG ?_
   refine jk (Run.bin rfl rfl (Bin.eqlN _ 45)) ?_
   by_cases hs23 : n = 45
   ·
    refine jF rfl rfl au (jM ?_)
    refine jU ?_
    refine jU ?_
    refine jW rfl rfl au (jM ?_)
    refine jU ?_
    refine jU ?_
    refine jW rfl rfl au (ja rfl (jO ?_))
    refine jN ⟨(js1 (jC (Eq.symm (by unfold bV; grind)))), rfl⟩
   refine jF rfl rfl au (jM ?_)
   refine jG ?_
   refine jk (Run.bin rfl rfl (Bin.eqlN _ 46)) ?_
   by_cases hs27 : n = 46
   ·
    refine jF rfl rfl au (jM ?_)
    refine jU ?_
    refine jU ?_
    refine jW rfl rfl au (ja rfl (jO ?_))
    refine jN ⟨(js1 (jC (Eq.symm (by unfold bV; grind)))), rfl⟩
   refine jF rfl rfl au (jM ?_)
   refine jG ?_
   refine jk (Run.bin rfl rfl (Bin.eqlN _ 95)) ?_
   by_cases hs31 : n = 95
   ·
    refine jF rfl rfl au (ja rfl (jO ?_))
    refine jN ⟨(js1 (jC (Eq.symm (by unfold bV; grind)))), rfl⟩
   refine jF rfl rfl au (ja rfl (jO ?_))
   refine jN ⟨(js1 (jC (Eq.symm (by unfold bV; grind)))), rfl⟩
  refine jM ?_
  refine jU ?_
  refine jU ?_
  refine jF rfl rfl au (jM ?_)
  refine jG ?_
  refine jk (Run.bin rfl rfl (Bin.geqN _ 48)) ?_
  by_cases hs11 : 48 ≤ n
  ·
   refine jG ?_
   refine jG ?_
   refine jk (Run.bin rfl rfl (Bin.leqN _ 57)) ?_
   by_cases hs14 : n ≤ 57
   ·
    refine jk (Run.pickT rfl rfl au) ?_
    refine jF rfl rfl au (jM ?_)
    refine jU ?_
    refine jU ?_
    refine jW rfl rfl au (jM ?_)
    refine jU ?_
    refine jU ?_
    refine jW rfl rfl au (jM ?_)
    refine jU ?_
    refine jU ?_
    refine jW rfl rfl au (jM ?_)
    refine jU ?_
    refine jU ?_
    refine jW rfl rfl au (ja rfl (jO ?_))
    refine jN ⟨(js1 (jC (Eq.symm (by unfold bV; grind)))), rfl⟩
   refine jk (Run.pickT rfl rfl au) ?_
   refine jF rfl rfl au (jM ?_)
   refine jG ?_
   refine jk (Run.bin rfl rfl (Bin.eqlN _ 36)) ?_
   by_cases hs19 : n = 36
   ·
    refine jF rfl rfl au (jM ?_)
    refine jU ?_
    refine jU ?_
    refine jW rfl rfl au (jM ?_)
    refine jU ?_
    refine jU ?_
    refine jW rfl rfl au (jM ?_)
    refine jU ?_
    refine jU ?_
    refine jW rfl rfl au (ja rfl (jO ?_))
    refine jN ⟨(js1 (jC (Eq.symm (by unfold bV; grind)))), rfl⟩
   refine jF rfl rfl au (jM ?_)
   refine jG ?_
   refine jk (Run.bin rfl rfl (Bin.eqlN _ 45)) ?_
   by_cases hs23 : n = 45
   ·
    refine jF rfl rfl au (jM ?_)
    refine jU ?_
    refine jU ?_
    refine jW rfl rfl au (jM ?_)
    refine jU ?_
    refine jU ?_
    refine jW rfl rfl au (ja rfl (jO ?_))
    refine jN ⟨(js1 (jC (Eq.symm (by unfold bV; grind)))), rfl⟩
   refine jF rfl rfl au (jM ?_)
   refine jG ?_
   refine jk (Run.bin rfl rfl (Bin.eqlN _ 46)) ?_
   by_cases hs27 : n = 46
   ·
    refine jF rfl rfl au (jM ?_)
    refine jU ?_
    refine jU ?_
    refine jW rfl rfl au (ja rfl (jO ?_))
    refine jN ⟨(js1 (jC (Eq.symm (by unfold bV; grind)))), rfl⟩
   refine jF rfl rfl au (jM ?_)
   refine jG ?_
   refine jk (Run.bin rfl rfl (Bin.eqlN _ 95)) ?_
   by_cases hs31 : n = 95
   ·
    refine jF rfl rfl au (ja rfl (jO ?_))
    refine jN ⟨(js1 (jC (Eq.symm (by unfold bV; grind)))), rfl⟩
   refine jF rfl rfl au (ja rfl (jO ?_))
   refine jN ⟨(js1 (jC (Eq.symm (by unfold bV; grind)))), rfl⟩
  refine jG ?_
  refine jU ?_
  refine jU ?_
  refine jk (Run.pickF rfl rfl au) ?_
  refine jF rfl rfl au (jM ?_)
  refine jG ?_
  refine jk (Run.bin rfl rfl (Bin.eqlN _ 36)) ?_
  by_cases hs19 : n = 36
  ·
   refine jF rfl rfl au (jM ?_)
   refine jU ?_
   refine jU ?_
   refine jW rfl rfl au (jM ?_)
   refine jU ?_
   refine jU ?_
   refine jW rfl rfl au (jM ?_)
   refine jU ?_
   refine jU ?_
   refine jW rfl rfl au (ja rfl (jO ?_))
   refine jN ⟨(js1 (jC (Eq.symm (by unfold bV; grind)))), rfl⟩
  refine jF rfl rfl au (jM ?_)
  refine jG ?_
  refine jk (Run.bin rfl rfl (Bin.eqlN _ 45)) ?_
  by_cases hs23 : n = 45
  ·
   refine jF rfl rfl au (jM ?_)
   refine jU ?_
   refine jU ?_
   refine jW rfl rfl au (jM ?_)
   refine jU ?_
   refine jU ?_
   refine jW rfl rfl au (ja rfl (jO ?_))
   refine jN ⟨(js1 (jC (Eq.symm (by unfold bV; grind)))), rfl⟩
  refine jF rfl rfl au (jM ?_)
  refine jG ?_
  refine jk (Run.bin rfl rfl (Bin.eqlN _ 46)) ?_
  by_cases hs27 : n = 46
  ·
   refine jF rfl rfl au (jM ?_)
   refine jU ?_
   refine jU ?_
   refine jW rfl rfl au (ja rfl (jO ?_))
   refine jN ⟨(js1 (jC (Eq.symm (by unfold bV; grind)))), rfl⟩
  refine jF rfl rfl au (jM ?_)
  refine jG ?_
  refine jk (Run.bin rfl rfl (Bin.eqlN _ 95)) ?_
  by_cases hs31 : n = 95
  ·
   refine jF rfl rfl au (ja rfl (jO ?_))
   refine jN ⟨(js1 (jC (Eq.symm (by unfold bV; grind)))), rfl⟩
  refine jF rfl rfl au (ja rfl (jO ?_))
  refine jN ⟨(js1 (jC (Eq.symm (by unfold bV; grind)))), rfl⟩
 intro Γ hΓ
 refine jN (VC.sub _ hΓ ?_)
 refine jT ?_
 refine qD rfl ?_
 exact ⟨rfl, rfl⟩
theorem xP (n : Nat) (w : World) : Calls Tryz.prog 144 #[.int .i32 ((n : Nat) : Int)] w fun e w' => e = .returned (.bool (! decide (bV n))) ∧ w = w' := by
 refine jV Tryz.func144 Tryz.ntmps144 Tryz.results144 ?_
 refine jS (jR (ja rfl (jO (jN (jv1 0 ?_)))))
 refine jS (jR (jM ?_))
 refine jc0 (jE1 Tryz.call145) (zM n _) ?_
 refine je (Run.not rfl) (ja rfl (jO (jN (jv1 2 ?_))))
 refine jT ?_
 refine qD rfl ?_
 exact ⟨rfl, rfl⟩
theorem xR (s : ByteArray) (i : Nat) (h : (s.get! i).toNat < 128) : Utf8.decode s i = ((s.get! i).toNat, 1) := by
 rw [Lib.decode_at]
 unfold Lib.decodeN
 rw [if_pos h]
theorem uF (s : ByteArray) (i : Nat) (h : ¬ (s.get! i).toNat < 128) : 128 ≤ (Utf8.decode s i).1 := by
 rw [Lib.decode_at]
 unfold Lib.decodeN
 rw [if_neg h]
 repeat' split
 all_goals (dsimp only; omega)
theorem tD (s : Tx) : ∀ f pos, s.length ≤ pos + f → pos ≤ s.length → (0 ≤ Lib.idxFuncFrom (fun n => ! decide (bV n)) true ⟨s.toArray⟩ f pos ↔ ∃ c ∈ s.drop pos, ¬ bV c.toNat)
 | 0, pos, h1, h2 => by
  have : s.drop pos = [] := zbq jo
  rw [this]
  simp [Lib.idxFuncFrom]
 | f + 1, pos, h1, h2 => by
  unfold Lib.idxFuncFrom
  have hsz : (⟨s.toArray⟩ : ByteArray).size = s.length := rfl
  rw [hsz]
  by_cases hp : pos < s.length
  ·
   rw [if_pos hp, zao hp]
   have hget : (⟨s.toArray⟩ : ByteArray).get! pos = s[pos] := by
    show s.toArray[pos]! = _
    rw [getElem!_pos _ pos (by simpa using hp)]
    simp
   by_cases hl : s[pos].toNat < 128
   ·
    rw [xR _ _ (by rw [hget]; exact hl), hget]
    dsimp only
    by_cases hs : bV s[pos].toNat
    ·
     rw [if_neg (by simp [hs]), tD s f (pos + 1) jo jo]
     simp only [zab, exists_eq_or_imp, hs, not_true, false_or]
    rw [if_pos (by simp [hs])]
    exact iff_of_true jo ⟨_, List.mem_cons_self, hs⟩
   have hd := uF ⟨s.toArray⟩ pos (by rw [hget]; exact hl)
   rw [if_pos (by simp only [zew, decide_eq_false_iff_not]; intro h; have := h.lt; omega)]
   have hns : ¬ bV s[pos].toNat := fun h => hl h.lt
   exact iff_of_true jo ⟨_, List.mem_cons_self, hns⟩
  rw [if_neg hp]
  have : s.drop pos = [] := zbq jo
  rw [this]
  simp
theorem uA (s : Tx) (w : World) : Calls Tryz.prog 143 #[encStr s, .func (.func 144) #[] #[]] w fun e w' => e = .returned (.bool (decide (∃ c ∈ s, ¬ bV c.toNat))) ∧ Frm [] w w' := by
 refine (Tryz.strings_ContainsFunc_runes 144 #[] Tryz.call144 (fun n => ! decide (bV n)) ⟨s.toArray⟩ w ?_).mono fun e w' ⟨he, hb⟩ => ⟨?_, Frm.of_below hb⟩
 ·
  intro W x _ _
  exact (xP x W).mono fun e w' ⟨he, hw⟩ => ⟨he, 0, by rw [← hw]; rfl⟩
 rw [he]
 congr 2
 rw [decide_eq_decide]
 exact tD s s.length 0 jo jo
theorem zN (w : World) : Calls Tryz.prog 141 #[] w fun e w' => e = .returned (.agg (SB cP).toArray) ∧ Frm [] w w' := by
 refine jV Tryz.func141 Tryz.ntmps141 Tryz.results141 ?_
 refine jS (jR ?_)
 refine Ops.m (qH.alloc vM) rfl ?_
 rintro _ w1 ⟨rfl, hF1⟩
 have hb1 := hF1.blk
 generalize hg0 : w.heap.size = g0 at *
 refine jO (jN (jS (jR (je (Run.buildA (evs.cons rfl (evs.cons rfl (evs.cons rfl (evs.cons rfl (evs.cons rfl evs.nil))))) vM Tryz.underlying186 zd (cells := (SB cP).toArray) jK) ?_))))
 refine Ops.st (qJ.storeA rfl rfl Tryz.sizeOf186 hb1 rfl (tJ cP)) ?_
 rintro w5 ⟨hb5, hf5, hs5⟩
 refine jO (jN (jv1 0 ?_))
 refine jT ?_
 refine bM ?_
 refine mO rfl Tryz.isAgg186 Tryz.sizeOf186 (hb5) rfl ?_
 refine qF ?_
 exact ⟨rfl, hF1.frm.own hf5 (fun x hx => by simp at hx; omega)⟩
def cR (s : Tx) : Tx × Nat := match kW s with
 | some t => (t, 0)
 | none => ([], 18)
theorem qZs {q : Tx} {i : Nat} (hi : i < cP.length) (hn : ∀ f ∈ cP.take i, qO f ≠ qO q) (h : qO (cP[i]) = qO q) : cP.find? (fun f => decide (qO f = qO q)) = some cP[i] := by
 rw [List.find?_eq_some_iff_append]
 refine ⟨by simpa using h, cP.take i, cP.drop (i + 1), ?_, fun a ha => by simpa using hn a ha⟩
 rw [← zao hi, List.take_append_drop]
theorem rL (q : Tx) (w : World) (hq : q.length ≤ 1000000) : Calls Tryz.prog 103 #[encStr q] w fun e w' => e = .returned (.tuple #[encStr (cR q).1, jI1 ((cR q).2)]) ∧ Frm [] w w' := by
 refine jV Tryz.func103 Tryz.ntmps103 Tryz.results103 ?_
 refine jS (jR (ja rfl (jz 0 (jO (jN (jv1 0 ?_))))))
 refine jS (jS (jR (jM ?_)))
 refine jc (jE2 Tryz.call140) (Tryz.strings_HasPrefix ⟨q.toArray⟩ ⟨#[92]⟩ _) ?_
 rintro e w0 ⟨rfl, hw0⟩
 obtain rfl : w = w0 := hw0.symm
 refine ⟨.bool (([92] : Tx).isPrefixOf q), rfl, ?_⟩
 refine jO (jN (jv2 0 8 ?_))
 refine VC.condB rfl (fun hc1 => ?_) (fun hc1 => ?_)
 ·
  refine jS (jS (jR ?_))
  refine jc (jE0 Tryz.call141) (zN _) ?_
  rintro e w1 ⟨rfl, hf1⟩
  refine ⟨_, rfl, ?_⟩
  refine jx .i64 0 ?_
  refine jO (jN (jv3 0 9 10 ?_))
  refine jB ?_
  refine VC.loop (σ := Nat) (fun s => [(0, encStr q), (9, .agg (SB cP).toArray), (10, jI1 s)]) (fun s wr => s ≤ 5 ∧ Frm [] w wr ∧ ∀ f ∈ cP.take s, qO f ≠ qO q) (fun s => 5 - s) 0 (js3 rfl rfl rfl) ⟨jo, hf1, jp⟩ ?_
  rintro i wr ⟨hi, hfr, hn⟩
  refine jS (jR (jb rfl rfl (Bin.lssN _ 5) (jO (jN (jS ?_)))))
  refine jD rfl (fun hc2 => ?_) fun hc2 => ?_
  ·
   have hi5 : i < cP.length := hc2
   refine jQ (jN (jv3 0 9 10 ?_))
   refine jS (jB (jS (jR ?_)))
   refine Ops.r (Run.indexArr1 (v := encStr cP[i]) i rfl rfl Tryz.underlying186 zj zd rfl (by simp [SB, hi5])) rfl ?_
   refine ja rfl (jO (jN (jv4 0 5 9 10 ?_)))
   refine jS (jR (jM ?_))
   refine jc (jE1 Tryz.call142) (mH cP[i] _ (by have := rI (xN _ (zaj hi5)); omega)) ?_
   rintro e w2 ⟨rfl, hf2⟩
   refine ⟨_, rfl, ?_⟩
   refine jM ?_
   refine jc (jE1 Tryz.call142) (mH q _ hq) ?_
   rintro e w3 ⟨rfl, hf3⟩
   refine ⟨_, rfl, ?_⟩
   have hfr3 := (hfr.trans hf2 jp).trans hf3 jp
   refine je (Run.eqlT rfl rfl) (jO (jN (jv5 0 5 9 10 17 ?_)))
   refine jD rfl (fun hc3 => ?_) fun hc3 => ?_
   ·
    refine jS (jR (jm rfl (ja rfl (jz 0 (jO (jN (jv2 2 3 ?_)))))))
    refine jT ?_
    refine qN (qZ (qZ (qN (qZ (qZ (fD rfl rfl ?_))))))
    have e : cR q = (cP[i], 0) := by
     unfold cR kW
     rw [if_pos hc1, qZs hi5 hn hc3]
    rw [e]
    exact ⟨rfl, hfr3⟩
   refine jQ ?_
   refine qS (jN ?_)
   refine jv3 0 9 10 ?_
   refine jR (jb rfl rfl (Bin.add_i64 _ 1 jo) (jm rfl (jO ?_)))
   refine jN ⟨(i + 1), (js3 rfl rfl rfl), ?_, ?_⟩
   ·
    refine ⟨hc2, hfr3, fun f hf => ?_⟩
    have e : cP.take (i + 1) = cP.take i ++ [cP[i]] := by rw [zbh, zb hi5]; rfl
    rw [e] at hf
    rcases zee.1 hf with h | h
    · exact hn f h
    simp only [zg] at h
    rw [h]; exact hc3
   exact jq
  refine jX ?_
  refine qV (qV (qC ?_))
  refine jN ?_
  refine VC.sub [] .nil ?_
  refine jS (jR (ja rfl (jz 18 (jO (jN (jT ?_))))))
  refine qZ (fD rfl rfl ?_)
  have e : cR q = ([], 18) := by
   have hi : i = 5 := jo
   subst hi
   unfold cR kW
   rw [if_pos hc1, List.find?_eq_none.2 (fun f hf => by simpa using hn f hf)]
  rw [e]
  exact ⟨rfl, hfr⟩
 refine jQ (jN (jv1 0 ?_))
 refine jS (jR (jM ?_))
 refine jc (jE1 Tryz.call142) (mH q _ hq) ?_
 rintro e w3 ⟨rfl, hf3⟩
 refine ⟨_, rfl, ?_⟩
 have hpf : ¬ ([92] : Tx).isPrefixOf q = true := by rw [hc1]; simp
 refine ja rfl (jO (jN (jv1 6 ?_)))
 refine jS (jS ?_)
 refine VC.splitR [(6, encStr (qO q))] (Frm [] w) 32 (.bool (decide (qO q = [] ∨ 20 < (qO q).length ∨ ∃ c ∈ qO q, ¬ bV c.toNat))) ?_ ?_
 ·
  refine jR ?_
  refine jm rfl (je (Run.eqlT rfl rfl) ?_)
  by_cases hs23 : qO q = []
  ·
   refine jM ?_
   refine jU ?_
   refine jU ?_
   refine jU ?_
   refine jW rfl rfl au (jM ?_)
   refine jU ?_
   refine jU ?_
   refine jW rfl rfl au (jO ?_)
   refine jN ⟨(js2 (jC (Eq.symm (by simp [*]))) rfl), (by first | exact hf3.trans hf4 jp | exact hf3)⟩
  refine jM ?_
  refine jG ?_
  refine jk (Run.lenT rfl za) ?_
  refine jk (Run.bin rfl rfl (Bin.gtrN _ 20)) ?_
  by_cases hs27 : 20 < (qO q).length
  ·
   refine jF rfl rfl au (jM ?_)
   refine jU ?_
   refine jU ?_
   refine jW rfl rfl au (jO ?_)
   refine jN ⟨(js2 (jC (Eq.symm (by simp [*]))) rfl), (by first | exact hf3.trans hf4 jp | exact hf3)⟩
  refine jF rfl rfl au (jM ?_)
  refine jG ?_
  refine Ops.clg rfl au (jE2 Tryz.call143) (uA (qO q) _) rfl ?_
  rintro e w4 ⟨rfl, hf4⟩
  refine ⟨_, rfl, ?_⟩
  by_cases hs31 : ∃ c ∈ qO q, ¬ bV c.toNat
  ·
   refine jF rfl rfl au (jO ?_)
   refine jN ⟨(js2 (jC (Eq.symm (by simp [*]))) rfl), (by first | exact hf3.trans hf4 jp | exact hf3)⟩
  refine jF rfl rfl au (jO ?_)
  refine jN ⟨(js2 (jC (Eq.symm (by simp [*]))) rfl), (by first | exact hf3.trans hf4 jp | exact hf3)⟩
 intro Γ wR hΓ hR
 refine jN (VC.sub _ hΓ ?_)
 refine jD rfl (fun hc4 => ?_) fun hc4 => ?_
 ·
  refine jS (jR (ja rfl (jz 18 (jO (jN (jv2 2 3 ?_))))))
  refine jT ?_
  refine qZ (fD rfl rfl ?_)
  have e : cR q = ([], 18) := by
   unfold cR kW
   rw [if_neg hpf, if_pos (by rw [dM] at hc4; exact hc4)]
  rw [e]
  exact ⟨rfl, hR⟩
 refine jQ (jN (jv1 6 ?_))
 refine jS (jR (jm rfl (ja rfl (jz 0 (jO (jN (jv2 2 3 ?_)))))))
 refine jT ?_
 refine fD rfl rfl ?_
 have e : cR q = (qO q, 0) := by
  unfold cR kW
  rw [if_neg hpf, if_neg (by rw [dM] at hc4; exact hc4)]
 rw [e]
 exact ⟨rfl, hR⟩
end
section
def jE (y : Nat) : Prop := y % 4 = 0 ∧ y % 100 ≠ 0 ∨ y % 400 = 0
instance (y : Nat) : Decidable (jE y) := by unfold jE; infer_instance
def fZ (y m : Nat) : Nat := if m = 2 then (if jE y then 29 else 28) else if m = 4 ∨ m = 6 ∨ m = 9 ∨ m = 11 then 30 else 31
def kB (y : Nat) : Nat := 365 * (y - 1) + (y - 1) / 4 - (y - 1) / 100 + (y - 1) / 400
def gR (y : Nat) : Nat → Nat
 | 0 => 0
 | 1 => 0
 | m + 2 => gR y (m + 1) + fZ y (m + 1)
theorem qXk (y m : Nat) : 28 ≤ fZ y m ∧ fZ y m ≤ 31 := by
 unfold fZ
 by_cases h1 : m = 2
 · rw [if_pos h1]; split <;> omega
 rw [if_neg h1]; split <;> omega
theorem oQ (y m : Nat) (h : 1 ≤ m) : gR y (m + 1) = gR y m + fZ y m := by
 obtain ⟨x, rfl⟩ : ∃ x, m = x + 1 := ⟨m - 1, jo⟩
 rfl
end
section
open Go.RowKit
theorem xS (y : Nat) (w : World) (h1 : 1 ≤ y) (h2 : y ≤ 100000) : Calls Tryz.prog 132 #[jI1 y] w fun e w' => e = .returned (jI1 (kB y)) ∧ w = w' := by
 refine jV Tryz.func132 Tryz.ntmps132 Tryz.results132 ?_
 refine jS (jR (jz 0 (jO (jN (jv1 0 ?_)))))
 refine jS (jR (jm rfl (jb rfl rfl (Bin.sub_i64 _ 1 jo jo) (ja rfl (jO (jN (jv1 3 ?_)))))))
 refine jS (jR (jm rfl (jb rfl rfl (Bin.mul_i64 365 _ jo) (jm rfl (jb rfl rfl (Bin.quo_i64 _ 4 jo jo) (jb rfl rfl (Bin.add_i64 _ _ jo) (jm rfl (jb rfl rfl (Bin.quo_i64 _ 100 jo jo) (jb rfl rfl (Bin.sub_i64 _ _ jo jo) ?_)))))))))
 refine jm rfl (jb rfl rfl (Bin.quo_i64 _ 400 jo jo) (jb rfl rfl (Bin.add_i64 _ _ jo) (ja rfl (jO (jN (jv1 2 ?_))))))
 refine jT ?_
 refine qD rfl ?_
 exact ⟨rfl, rfl⟩
theorem zP (y : Nat) (w : World) : Calls Tryz.prog 165 #[jI1 y] w fun e w' => e = .returned (.bool (decide (jE y))) ∧ w = w' := by
 refine jV Tryz.func165 Tryz.ntmps165 Tryz.results165 ?_
 refine jS (jR (ja rfl (jO (jN (jv1 0 ?_)))))
 refine jS ?_
 refine VC.split1 [] .nil 2 (.bool (decide (jE y))) ?_ ?_
 ·
  refine jR ?_
  refine jm rfl (jb rfl rfl (Bin.remN _ 4 jo) (jb rfl rfl (Bin.eqlN _ 0) ?_))
  by_cases hs5 : y % 4 = 0
  ·
   refine jM ?_
   refine jG ?_
   refine jk (Run.bin rfl rfl (Bin.remN _ 100 jo)) ?_
   refine jk (Run.bin rfl rfl (Bin.neqN _ 0)) ?_
   by_cases hs9 : y % 100 ≠ 0
   ·
    refine jW rfl rfl au (jM ?_)
    refine jU ?_
    refine jU ?_
    refine jU ?_
    refine jW rfl rfl au (ja rfl (jO ?_))
    refine jN ⟨(js1 (jC (Eq.symm (by unfold jE; simp [*])))), rfl⟩
   refine jW rfl rfl au (jM ?_)
   refine jG ?_
   refine jk (Run.bin rfl rfl (Bin.remN _ 400 jo)) ?_
   refine jk (Run.bin rfl rfl (Bin.eqlN _ 0)) ?_
   by_cases hs14 : y % 400 = 0
   ·
    refine jF rfl rfl au (ja rfl (jO ?_))
    refine jN ⟨(js1 (jC (Eq.symm (by unfold jE; simp [*])))), rfl⟩
   refine jF rfl rfl au (ja rfl (jO ?_))
   refine jN ⟨(js1 (jC (Eq.symm (by unfold jE; simp [*])))), rfl⟩
  refine jM ?_
  refine jU ?_
  refine jU ?_
  refine jU ?_
  refine jF rfl rfl au (jM ?_)
  refine jG ?_
  refine jk (Run.bin rfl rfl (Bin.remN _ 400 jo)) ?_
  refine jk (Run.bin rfl rfl (Bin.eqlN _ 0)) ?_
  by_cases hs14 : y % 400 = 0
  ·
   refine jF rfl rfl au (ja rfl (jO ?_))
   refine jN ⟨(js1 (jC (Eq.symm (by unfold jE; simp [*])))), rfl⟩
  refine jF rfl rfl au (ja rfl (jO ?_))
  refine jN ⟨(js1 (jC (Eq.symm (by unfold jE; simp [*])))), rfl⟩
 intro Γ hΓ
 refine jN (VC.sub _ hΓ ?_)
 refine jT ?_
 refine qD rfl ?_
 exact ⟨rfl, rfl⟩
def qZc : List Nat := [31, 28, 31, 30, 31, 30, 31, 31, 30, 31, 30, 31]
theorem qXl {m : Nat} (h1 : 1 ≤ m) (h2 : m ≤ 12) : qZc[m - 1]? = some (if m = 2 then 28 else if m = 4 ∨ m = 6 ∨ m = 9 ∨ m = 11 then 30 else 31) := by
 have : m = 1 ∨ m = 2 ∨ m = 3 ∨ m = 4 ∨ m = 5 ∨ m = 6 ∨ m = 7 ∨ m = 8 ∨ m = 9 ∨ m = 10 ∨ m = 11 ∨ m = 12 := jo
 rcases this with rfl | rfl | rfl | rfl | rfl | rfl | rfl | rfl | rfl | rfl | rfl | rfl <;> rfl
theorem rO (y m : Nat) (w : World) (h1 : 1 ≤ m) (h2 : m ≤ 12) : Calls Tryz.prog 131 #[jI1 y, jI1 m] w fun e w' => e = .returned (jI1 (fZ y m)) ∧ w = w' := by
 refine jV Tryz.func131 Tryz.ntmps131 Tryz.results131 ?_
 refine jS (jR (jz 0 (jO (jN (jv2 0 1 ?_)))))
 refine jS (jR (je (Run.buildA (evs.cons rfl (evs.cons rfl (evs.cons rfl (evs.cons rfl (evs.cons rfl (evs.cons rfl (evs.cons rfl (evs.cons rfl (evs.cons rfl (evs.cons rfl (evs.cons rfl (evs.cons rfl evs.nil)))))))))))) qZj Tryz.underlying199 zc (cells := (IB (qZc.map fun x : Nat => (x : Int))).toArray) jK) (jm rfl (jb rfl rfl (Bin.sub_i64 _ 1 jo jo) ?_))))
 refine Ops.r (Run.indexArr1 (v := jI1 ((if m = 2 then 28 else if m = 4 ∨ m = 6 ∨ m = 9 ∨ m = 11 then 30 else 31))) (m - 1) rfl rfl Tryz.underlying199 zi zc rfl (by simp [IB, qXl h1 h2])) rfl ?_
 refine ja rfl (jO (jN (jv3 0 1 5 ?_)))
 refine jS (jS ?_)
 refine VC.split1 [(5, _)] (js1 rfl) 15 (.bool (decide (m = 2 ∧ jE y))) ?_ ?_
 ·
  refine jR ?_
  refine jm rfl (jb rfl rfl (Bin.eqlN _ 2) ?_)
  by_cases hs11 : m = 2
  ·
   refine jM ?_
   refine jG ?_
   refine Ops.clg rfl au (jE1 Tryz.call165) (zP y _) rfl ?_
   rintro e _ ⟨rfl, rfl⟩
   refine ⟨_, rfl, ?_⟩
   by_cases hs14 : jE y
   ·
    refine jW rfl rfl au (jO ?_)
    refine jN ⟨(js2 (jC (Eq.symm (by simp [*]))) rfl), rfl⟩
   refine jW rfl rfl au (jO ?_)
   refine jN ⟨(js2 (jC (Eq.symm (by simp [*]))) rfl), rfl⟩
  refine jM ?_
  refine jU ?_
  refine jU ?_
  refine jF rfl rfl au (jO ?_)
  refine jN ⟨(js2 (jC (Eq.symm (by simp [*]))) rfl), rfl⟩
 intro Γ hΓ
 refine jN (VC.sub _ hΓ ?_)
 refine jD rfl (fun hc1 => ?_) fun hc1 => ?_
 ·
  refine jS (jR (jz 29 (jO (jN (jv1 4 ?_)))))
  refine jT ?_
  refine qZ (qD rfl ?_)
  exact ⟨by rw [show fZ y m = 29 by unfold fZ; rw [if_pos hc1.1, if_pos hc1.2]], rfl⟩
 refine jQ (jN (jv1 5 ?_))
 refine jS (jR (jm rfl (ja rfl (jO (jN (jv1 4 ?_))))))
 refine jT ?_
 refine qD rfl ?_
 refine ⟨?_, rfl⟩
 have e : fZ y m = (if m = 2 then 28 else if m = 4 ∨ m = 6 ∨ m = 9 ∨ m = 11 then 30 else 31) := by
  unfold fZ
  by_cases h : m = 2
  · rw [if_pos h, if_pos h, if_neg (fun hl => hc1 ⟨h, hl⟩)]
  rw [if_neg h, if_neg h]
 rw [e]
theorem pR (q : Tx) (w : World) (hq : q.length ≤ 1000000) : Calls Tryz.prog 130 #[encStr q] w fun e w' => e = .returned (encStr (qO q)) ∧ Frm [] w w' := by
 refine jV Tryz.func130 Tryz.ntmps130 Tryz.results130 ?_
 refine jS (jR (ja rfl (jO (jN (jv1 0 ?_)))))
 refine jS (jR (jM ?_))
 refine Ops.m (qH.bytesOfT rfl za zv zal) rfl ?_
 rintro _ w1 ⟨c1, cs1, rfl, hF1, ht1, hf1⟩
 have hge : w.heap.size ≤ w.heap.size := zt _
 generalize hg : w.heap.size = g1 at hF1 hge ⊢
 refine ja rfl (jO (jN (jv1 3 ?_)))
 refine jS (jS (jR (jm rfl (jL rfl zv ?_))))
 refine jx .i64 0 ?_
 refine jO (jN (jB ?_))
 refine VC.loop (σ := Nat) (fun s => [(3, .slice (some ⟨g1, 0, none⟩) q.length c1), (8, .slice (some ⟨g1, 0, none⟩) q.length c1), (9, jI1 q.length), (10, jI1 s)]) (fun s wr => s ≤ q.length ∧ Frm [] w wr ∧ ∃ cs, Fro wr g1 5 cs ∧ cs.toList.take q.length = U8 ((q.take s).map low ++ q.drop s)) (fun s => q.length - s) 0 (js4 rfl rfl rfl rfl) ⟨jo, hf1, cs1, hF1, by simpa using ht1⟩ ?_
 rintro i wr ⟨hi, hfr, cs, hF, ht⟩
 refine jS (jR (jb rfl rfl (Bin.lssN _ _) (jO (jN (jS ?_)))))
 refine jD rfl (fun hc1 => ?_) fun hc1 => ?_
 ·
  have hrd : Rd wr 1 (some ⟨g1, 0, none⟩) q.length (U8 ((q.take i).map low ++ q.drop i)) := by
   have h := hF.rd (l := (q.take i).map low ++ q.drop i) (by simpa [zbj hi, zbw hi] using ht)
   simpa [zbj hi, zbw hi] using h
  have hcell : wr.cell? ((⟨g1, 0, none⟩ : Addr).add (i * 1)) = some (.int .u8 ((q[i].toNat : Nat) : Int)) := by
   rw [zch]
   obtain ⟨ad, u, hA, hu, hc⟩ := hrd.at1 hc1
   cases hA
   rw [hc, ← hu]
   simp [U8, zav, zbj hi, zb, hc1]
  have hll : ((q.take i).map low ++ q.drop i).length = q.length := by simp; omega
  have hsz : i < cs.size := by
   have := congrArg List.length ht
   simp [U8] at this
   omega
  refine jQ (jN (jv4 3 8 9 10 ?_))
  refine jS (jB (jS (jR (jm rfl (je (Run.indexS i rfl rfl zv zau hc1) (jl rfl zbz hcell (ja rfl (ja rfl (jO (jN (jv6 3 4 5 8 9 10 ?_)))))))))))
  refine jS ?_
  refine VC.split1 [(3, _), (4, _), (5, _), (8, _), (9, _), (10, _)] (js6 rfl rfl rfl rfl rfl rfl) 20 (.bool (decide ((65 ≤ q[i].toNat) ∧ (q[i].toNat ≤ 90)))) ?_ ?_
  ·
   by_cases hs0 : 65 ≤ q[i].toNat
   ·
    refine jR (jm rfl (jb rfl rfl (Bin.geqN _ 65) (jM ?_)))
    refine jG ?_
    refine jk (Run.bin rfl rfl (Bin.leqN _ 90)) ?_
    refine jW rfl rfl au (jO ?_)
    refine jN ⟨(js7 (by rw [nU hs0]; rfl) rfl rfl rfl rfl rfl rfl), rfl⟩
   refine jR (jm rfl (jb rfl rfl (Bin.geqN _ 65) (jM ?_)))
   refine jU ?_
   refine jU ?_
   refine jF rfl rfl au (jO ?_)
   refine jN ⟨(js7 (by rw [nB hs0]; rfl) rfl rfl rfl rfl rfl rfl), rfl⟩
  intro Γ hΓ
  refine jN (VC.sub _ hΓ ?_)
  refine VC.meet (σ := Unit) (fun s => [(3, .slice (some ⟨g1, 0, none⟩) q.length c1), (8, .slice (some ⟨g1, 0, none⟩) q.length c1), (9, jI1 q.length), (10, jI1 i)]) (fun s wm => Frm [] w wm ∧ ∃ cs, Fro wm g1 5 cs ∧ cs.toList.take q.length = U8 ((q.take (i + 1)).map low ++ q.drop (i + 1))) ?_ ?_
  ·
   refine jD rfl (fun hc2 => ?_) fun hc2 => ?_
   ·
    refine jR (jm rfl (jm rfl (jm rfl (jb rfl rfl (Bin.add_u8 _ 32 jo) ?_))))
    rw [show (q[i].toNat + 32 : Nat) = (low q[i]).toNat by rw [nD, if_pos hc2]]
    refine je (Run.indexS i rfl rfl zv zau hc1) ?_
    rw [show (⟨g1, 0, none⟩ : Addr).add (i * 1) = ⟨g1, i, none⟩ by unfold Addr.add; rw [zch]; split <;> simp_all]
    refine Ops.st (qJ.storeFro rfl rfl zau hF hsz rfl) ?_
    rintro w2 ⟨hF2, hf2, hs2⟩
    refine jO ?_
    refine jN ⟨(), (js4 rfl rfl rfl rfl), ?_⟩
    exact ⟨hfr.own hf2 (fun x hx => by simp at hx; omega), _, hF2, by rw [pQ ht hll hc1, oM hc1]⟩
   refine jQ ?_
   refine jN ⟨(), (js4 rfl rfl rfl rfl), ?_⟩
   exact ⟨hfr, cs, hF, by rw [ht, tG hc1 (UInt8.toNat_inj.1 (by rw [nD, if_neg hc2]))]⟩
  rintro _ wm ⟨hfr2, cs2, hF2, ht2⟩ Γ hΓ
  refine qS (jN (VC.sub _ hΓ ?_))
  refine jR (jb rfl rfl (Bin.add_i64 _ 1 jo) (jm rfl (jO ?_)))
  refine jN ⟨(i + 1), (js4 rfl rfl rfl rfl), ?_, ?_⟩
  · exact ⟨hc1, hfr2, cs2, hF2, ht2⟩
  exact jq
 refine jX ?_
 refine qV (qV (qC ?_))
 refine jN (jv1 3 ?_)
 refine jS (jR (jM ?_))
 have hR : Rd wr 1 (some ⟨g1, 0, none⟩) q.length (U8 (qO q)) := by
  have him : i = q.length := jo
  subst him
  have h := hF.rd (l := qO q) (by rw [dM, ht]; simp [qO])
  rwa [dM] at h
 refine je (Run.strOfT rfl zv zal za hR) (ja rfl (jO (jN (jv1 2 ?_))))
 refine jT ?_
 refine qD rfl ?_
 exact ⟨rfl, hfr⟩
def AllD (s : Tx) : Prop := ∀ c ∈ s, Dig c
instance (s : Tx) : Decidable (AllD s) := by unfold AllD; infer_instance
theorem Bin.mulW (k : IntKind) (x y : Int) : Bin .mul k x k y (.int k (k.wrap (x * y))) := fun P T w => by simp [binOp, Op.intArith]
theorem Bin.addW (k : IntKind) (x y : Int) : Bin .add k x k y (.int k (k.wrap (x + y))) := fun P T w => by simp [binOp, Op.intArith]
theorem kC : ∀ (s : Tx) (n m : Nat), AllD s → n < 10 ^ m → bP n s < 10 ^ (m + s.length)
 | [], n, m, _, h => by simpa [bP] using h
 | c :: r, n, m, hd, h => by
  have h1 := hd c jp
  have h2 : 10 * n + (c.toNat - 48) < 10 ^ (m + 1) := by rw [Nat.pow_succ]; omega
  have := kC r (10 * n + (c.toNat - 48)) (m + 1) (fun x hx => hd x (by simp [hx])) h2
  rw [show m + (c :: r).length = m + 1 + r.length by simp; omega]
  exact this
theorem xU (s : Tx) (c : UInt8) (n : Nat) : bP n (s ++ [c]) = 10 * bP n s + (c.toNat - 48) := by simp [bP]
theorem kD (q : Tx) (w : World) (hq : q.length ≤ 1000000) : Calls Tryz.prog 128 #[encStr q] w fun e w' => w = w' ∧ ∃ v : Int, e = .returned (.tuple #[.int .i64 v, .bool (decide (AllD q ∧ q ≠ []))]) ∧ (AllD q → q.length ≤ 18 → v = ((bP 0 q : Nat) : Int)) := by
 refine jV Tryz.func128 Tryz.ntmps128 Tryz.results128 ?_
 refine jS (jR (jz 0 (ja rfl (jO (jN (jv1 0 ?_))))))
 refine jS (jR (jz 0 (jO (jN (jS (jS (jR (jm rfl (je (Run.lenT rfl za) ?_)))))))))
 refine jx .i64 0 ?_
 refine jO (jN (jv4 0 4 7 8 ?_))
 refine jB ?_
 refine VC.loop (σ := Nat × Int) (fun s => [(0, encStr q), (4, .int .i64 s.2), (7, jI1 q.length), (8, jI1 s.1)]) (fun s wr => s.1 ≤ q.length ∧ AllD (q.take s.1) ∧ (s.1 ≤ 18 → s.2 = ((bP 0 (q.take s.1) : Nat) : Int)) ∧ w = wr) (fun s => q.length - s.1) (0, 0) (js4 rfl rfl rfl rfl) ⟨jo, by simp [AllD], fun _ => rfl, rfl⟩ ?_
 rintro ⟨i, v⟩ wr ⟨hi, hd, hv, hw⟩
 dsimp only at hi hd hv ⊢
 refine jS (jR (jb rfl rfl (Bin.lssN _ _) (jO (jN (jS ?_)))))
 refine jD rfl (fun hc1 => ?_) fun hc1 => ?_
 ·
  have htk : q.take (i + 1) = q.take i ++ [q[i]] := by rw [zbh, zb hc1]; rfl
  refine jQ (jN (jv4 0 4 7 8 ?_))
  refine jS (jB (jS (jR (jm rfl (ja rfl (jO (jN (jv5 0 4 5 7 8 ?_))))))))
  refine jS (jS ?_)
  refine VC.split1 [(0, _), (4, _), (5, _), (7, _), (8, _)] (js5 rfl rfl rfl rfl rfl) 20 (.bool (decide (¬ Dig q[i]))) ?_ ?_
  ·
   refine jR ?_
   refine jm rfl (jM ?_)
   refine je (Run.indexT _ rfl rfl za (zb hc1)) ?_
   refine jb rfl rfl (Bin.lssN _ 48) ?_
   by_cases hs14 : q[i].toNat < 48
   ·
    refine jM ?_
    refine jU ?_
    refine jU ?_
    refine jU ?_
    refine jU ?_
    refine jW rfl rfl au (jO ?_)
    refine jN ⟨(js6 (jC (by unfold Dig; grind)) rfl rfl rfl rfl rfl), rfl⟩
   refine jM ?_
   refine jG ?_
   refine jG ?_
   refine jk (Run.indexT _ rfl rfl za (zb hc1)) ?_
   refine jk (Run.bin rfl rfl (Bin.gtrN _ 57)) ?_
   by_cases hs19 : 57 < q[i].toNat
   ·
    refine jF rfl rfl au (jO ?_)
    refine jN ⟨(js6 (jC (by unfold Dig; grind)) rfl rfl rfl rfl rfl), rfl⟩
   refine jF rfl rfl au (jO ?_)
   refine jN ⟨(js6 (jC (by unfold Dig; grind)) rfl rfl rfl rfl rfl), rfl⟩
  intro Γ hΓ
  refine jN (VC.sub _ hΓ ?_)
  refine jD rfl (fun hc2 => ?_) fun hc2 => ?_
  ·
   refine jS (jR (jz 0 (ja rfl (jO (jN (jv2 2 3 ?_))))))
   refine jT ?_
   refine qZ (qN (qZ (qZ (qN (qZ (fD rfl rfl ?_))))))
   refine ⟨hw, 0, ?_, fun h => absurd (h _ (zaj hc1)) hc2⟩
   rw [decide_eq_false (fun h : AllD q ∧ q ≠ [] => hc2 (h.1 _ (zaj hc1)))]
   rfl
  refine jQ (jN (jv5 0 4 5 7 8 ?_))
  refine jR (jm rfl (jb rfl rfl (Bin.mulW .i64 10 _) (jm rfl (jM ?_))))
  refine je (Run.indexT _ rfl rfl za (zb hc1)) ?_
  refine jb rfl rfl (Bin.sub_u8 _ 48 (by unfold Dig at hc2; omega) jo) (je (Run.convN _ rfl zal zam (by simp only [bmax]; omega)) (jb rfl rfl (Bin.addW .i64 _ _) (ja rfl (jO ?_))))
  refine qS (jN ?_)
  refine jv4 0 4 7 8 ?_
  refine jR (jb rfl rfl (Bin.add_i64 _ 1 jo) (jm rfl (jO ?_)))
  refine jN ⟨(i + 1, _), (js4 rfl rfl rfl rfl), ?_, ?_⟩
  ·
   refine ⟨hc1, fun c hc => ?_, fun h18 => ?_, hw⟩
   ·
    rw [htk] at hc
    rcases zee.1 hc with h | h
    · exact hd c h
    rw [zg] at h; subst h; exact Classical.not_not.1 hc2
   have hD : Dig q[i] := Classical.not_not.1 hc2
   have h1 := kC (q.take i) 0 0 hd jd
   have h3 : (q.take i).length = i := by simp; omega
   rw [h3, Nat.zero_add] at h1
   have h4 : 10 ^ i ≤ 10 ^ 17 := zea jd jo
   show IntKind.i64.wrap (IntKind.i64.wrap (10 * v) + ((q[i].toNat - 48 : Nat) : Int)) = ((bP 0 (q.take (i + 1)) : Nat) : Int)
   have e2 : IntKind.i64.wrap (10 * ((bP 0 (q.take i) : Nat) : Int)) = 10 * ((bP 0 (q.take i) : Nat) : Int) := fC .i64 _ (by simp only [lD]; omega) (by simp only [bmax]; omega)
   rw [htk, xU, hv jo, e2, fC .i64 _ (by simp only [lD]; omega) (by simp only [bmax]; omega)]
   omega
  exact jq
 have e1 : q.take i = q := zy jo
 refine jX ?_
 refine qV (qV (qC ?_))
 refine jN (jv2 0 4 ?_)
 refine jS (jR (jm rfl (jm rfl (je (Run.neqT rfl rfl) (ja rfl (ja rfl (jO (jN (jv2 2 3 ?_)))))))))
 refine jT ?_
 refine fD rfl rfl ?_
 rw [e1] at hd hv
 refine ⟨hw, v, ?_, fun _ h => hv jo⟩
 rw [show decide (AllD q ∧ q ≠ []) = decide (q ≠ []) by simp [hd]]
def fG : List Tx := [[74, 97, 110], [70, 101, 98], [77, 97, 114], [65, 112, 114], [77, 97, 121], [74, 117, 110], [74, 117, 108], [65, 117, 103], [83, 101, 112], [79, 99, 116], [78, 111, 118], [68, 101, 99]]
def monF (s : Tx) : List Tx → Nat → Nat
 | [], _ => 0
 | m :: r, k => if s.length = 3 ∧ qO s = qO m then k + 1 else monF s r (k + 1)
def eQ (s : Tx) : Nat := monF s fG 0
theorem vF (s : Tx) : eQ s ≤ 12 := by
 have h : ∀ (l : List Tx) (k : Nat), monF s l k ≤ k + l.length := by
  intro l
  induction l with
  | nil => intro k; simp [monF]
  | cons m r ih =>
   intro k
   unfold monF
   split
   · simp only [zbo]; omega
   have := ih (k + 1); simp only [zbo]; omega
 exact h fG 0
theorem qJx {i : Nat} (h : i < 12) : (SB fG).toArray[i]? = some (encStr (fG.getD i [])) := by
 have h2 : i < fG.length := h
 simp [SB, zf, zb h2]
theorem zR {s : Tx} {i : Nat} (h : i < 12) : monF s (fG.drop i) i = if s.length = 3 ∧ qO s = qO (fG.getD i []) then i + 1 else monF s (fG.drop (i + 1)) (i + 1) := by
 have h2 : i < fG.length := h
 rw [zao h2, zf, zb h2]
 rfl
theorem qXm : ∀ m ∈ fG, m.length ≤ 3 := jd
theorem uI (w : World) : Calls Tryz.prog 129 #[] w fun e w' => e = .returned (.agg (SB fG).toArray) ∧ Frm [] w w' := by
 refine jV Tryz.func129 Tryz.ntmps129 Tryz.results129 ?_
 refine jS (jR ?_)
 refine Ops.m (qH.alloc vH) rfl ?_
 rintro _ w1 ⟨rfl, hF1⟩
 have hb := hF1.blk
 refine jO (jN (jS (jR (je (Run.buildA (evs.cons rfl (evs.cons rfl (evs.cons rfl (evs.cons rfl (evs.cons rfl (evs.cons rfl (evs.cons rfl (evs.cons rfl (evs.cons rfl (evs.cons rfl (evs.cons rfl (evs.cons rfl evs.nil)))))))))))) vH Tryz.underlying173 zd (cells := (SB fG).toArray) jK) ?_))))
 refine Ops.st (qJ.storeA rfl rfl Tryz.sizeOf173 hb rfl (fun u hu => by simp only [SB, List.mem_map] at hu; obtain ⟨x, _, rfl⟩ := hu; rfl)) ?_
 rintro w2 ⟨hb2, hf2, hs2⟩
 refine jO (jN (jv1 0 ?_))
 refine jT ?_
 refine bM ?_
 refine mO rfl Tryz.isAgg173 Tryz.sizeOf173 (hb2) rfl ?_
 refine qF ?_
 exact ⟨by simp [sC], hF1.frm.own hf2 jp⟩
theorem pS (q : Tx) (w : World) (hq : q.length ≤ 1000000) : Calls Tryz.prog 92 #[encStr q] w fun e w' => e = .returned (jI1 (eQ q)) ∧ Frm [] w w' := by
 refine jV Tryz.func92 Tryz.ntmps92 Tryz.results92 ?_
 refine jS (jR (jz 0 (jO (jN (jv1 0 ?_)))))
 refine jS (jS (jR ?_))
 refine jc (jE0 Tryz.call129) (uI w) ?_
 rintro _ w1 ⟨rfl, f1⟩
 obtain ⟨MA, hMA⟩ : ∃ a : Array Value, a = (SB fG).toArray := ⟨_, rfl⟩
 rw [← hMA]
 refine ⟨_, rfl, ?_⟩
 refine jx .i64 0 ?_
 refine jO (jN (jB ?_))
 refine VC.loop (σ := Nat) (fun s => [(0, encStr q), (5, .agg MA), (6, jI1 s)]) (fun s wr => s ≤ 12 ∧ monF q (fG.drop s) s = eQ q ∧ Frm [] w wr) (fun s => 12 - s) 0 (js3 rfl rfl rfl) ⟨jo, rfl, f1⟩ ?_
 rintro i wr ⟨hi, hm, K⟩
 refine jS (jR (jb rfl rfl (Bin.lssN _ 12) (jO (jN (jS ?_)))))
 refine jD rfl (fun hc1 => ?_) fun hc1 => ?_
 ·
  have hst := zR (s := q) hc1
  obtain ⟨mm, hmm⟩ : ∃ m, fG.getD i [] = m := ⟨_, rfl⟩
  have hml : mm.length ≤ 3 := qXm mm (by rw [← hmm, zf, zb (show i < fG.length from hc1)]; exact zaj _)
  rw [hmm] at hst
  refine jQ (jN (jv3 0 5 6 ?_))
  refine jS (jB (jS (jR (jM ?_))))
  refine Ops.r (Run.indexArr1 (v := encStr mm) _ rfl rfl Tryz.underlying173 zj zd (by rw [hMA]; rfl) (by rw [hMA, ← hmm]; exact qJx hc1)) rfl ?_
  refine ja rfl (ja rfl (jO (jN (jv5 0 3 4 5 6 ?_))))
  refine jS ?_
  refine VC.splitR [(0, encStr q), (3, jI1 i), (5, .agg MA), (6, jI1 i)] (Frm [] wr) 19 (.bool (decide (q.length = 3 ∧ qO q = qO mm))) ?_ ?_
  ·
   refine jR ?_
   refine jm rfl (je (Run.lenT rfl za) (jb rfl rfl (Bin.eqlN _ 3) ?_))
   by_cases hs12 : q.length = 3
   ·
    refine jM ?_
    refine jG ?_
    refine Ops.clg rfl au (jE1 Tryz.call130) (pR q _ hq) rfl ?_
    rintro _ w2 ⟨rfl, f2⟩
    refine ⟨_, rfl, ?_⟩
    refine jG ?_
    refine Ops.clg rfl au (jE1 Tryz.call130) (pR mm _ jo) rfl ?_
    rintro _ w3 ⟨rfl, f3⟩
    refine ⟨_, rfl, ?_⟩
    have f23 := f2.trans f3 jp
    refine jk (Run.eqlT rfl rfl) ?_
    by_cases hs18 : qO q = qO mm
    ·
     refine jW rfl rfl au (jO ?_)
     refine jN ⟨(js5 (jC (by simp [*])) rfl rfl rfl rfl), ((by first | exact f23 | exact Frm.refl _ _))⟩
    refine jW rfl rfl au (jO ?_)
    refine jN ⟨(js5 (jC (by simp [*])) rfl rfl rfl rfl), ((by first | exact f23 | exact Frm.refl _ _))⟩
   refine jM ?_
   refine jU ?_
   refine jU ?_
   refine jU ?_
   refine jU ?_
   refine jU ?_
   refine jF rfl rfl au (jO ?_)
   refine jN ⟨(js5 (jC (by simp [*])) rfl rfl rfl rfl), ((by first | exact f23 | exact Frm.refl _ _))⟩
  intro Γ wR hΓ hR
  refine jN (VC.sub _ hΓ ?_)
  refine jD rfl (fun hc2 => ?_) fun hc2 => ?_
  ·
   refine jS (jR (jm rfl (jb rfl rfl (Bin.add_i64 _ 1 jo) (ja rfl (jO (jN (jv1 2 ?_)))))))
   refine jT ?_
   refine qN (qZ (qZ (qN (qZ (qD rfl ?_)))))
   exact ⟨by rw [← hm, hst, if_pos hc2], K.trans hR jp⟩
  refine jQ ?_
  refine qS (jN ?_)
  refine jv3 0 5 6 ?_
  refine jR (jb rfl rfl (Bin.add_i64 _ 1 jo) (jm rfl (jO ?_)))
  refine jN ⟨(i + 1), (js3 rfl rfl rfl), ?_, ?_⟩
  · exact ⟨hc1, by rw [← hm, hst, if_neg hc2], K.trans hR jp⟩
  exact jq
 refine jX ?_
 refine qV (qV (qC ?_))
 refine jN ?_
 refine VC.sub [] .nil ?_
 refine jS (jR (jz 0 (jO (jN (jT ?_)))))
 refine qD rfl ?_
 exact ⟨by rw [← hm, show i = 12 by omega]; rfl, K⟩
def cS (y m d : Nat) : Prop := 1 ≤ y ∧ 1 ≤ d ∧ d ≤ fZ y m
instance (y m d : Nat) : Decidable (cS y m d) := by unfold cS; infer_instance
def fH (y m d : Nat) : Int := ((kB y + gR y m + (d - 1) : Nat) : Int) - 719162
theorem tE (y m : Nat) : fZ y m ≤ 31 := (qXk y m).2
theorem nH (y : Nat) : ∀ i, gR y (i + 1) ≤ i * 31
 | 0 => zt _
 | i + 1 => by
  have h1 := nH y i
  have h2 := tE y (i + 1)
  rw [oQ y (i + 1) jo]
  omega
theorem sQ (y m d : Nat) (w : World) (hy : y ≤ 9999) (h1 : 1 ≤ m) (h12 : m ≤ 12) (hd : d ≤ 99) : Calls Tryz.prog 93 #[jI1 y, jI1 m, jI1 d] w fun e w' => w = w' ∧ e = .returned (if cS y m d then .tuple #[.int .i64 (fH y m d), .int .i64 0] else .tuple #[.int .i64 0, .int .i64 4]) := by
 refine jV Tryz.func93 Tryz.ntmps93 Tryz.results93 ?_
 refine jS (jR (jz 0 (jz 0 (jO (jN (jv3 0 1 2 ?_))))))
 refine jS (jS ?_)
 refine VC.split1 [(0, _), (1, _), (2, _)] (js3 rfl rfl rfl) 34 (.bool (decide (¬ cS y m d))) ?_ ?_
 ·
  refine jR ?_
  refine jm rfl (jb rfl rfl (Bin.lssN _ 1) ?_)
  by_cases hs11 : y < 1
  ·
   refine jM ?_
   refine jU ?_
   refine jU ?_
   refine jW rfl rfl au (jM ?_)
   refine jU ?_
   refine jU ?_
   refine jW rfl rfl au (jM ?_)
   refine jU ?_
   refine jU ?_
   refine jW rfl rfl au (jM ?_)
   refine jU ?_
   refine jU ?_
   refine jW rfl rfl au (jM ?_)
   refine jU ?_
   refine jU ?_
   refine jU ?_
   refine jU ?_
   refine jU ?_
   refine jW rfl rfl au (jO ?_)
   refine jN ⟨(js4 (jC (by unfold cS; grind)) rfl rfl rfl), rfl⟩
  refine jM ?_
  refine jG ?_
  refine jk (Run.bin rfl rfl (Bin.gtrN _ 9999)) ?_
  by_cases hs14 : 9999 < y
  ·
   refine jF rfl rfl au (jM ?_)
   refine jU ?_
   refine jU ?_
   refine jW rfl rfl au (jM ?_)
   refine jU ?_
   refine jU ?_
   refine jW rfl rfl au (jM ?_)
   refine jU ?_
   refine jU ?_
   refine jW rfl rfl au (jM ?_)
   refine jU ?_
   refine jU ?_
   refine jU ?_
   refine jU ?_
   refine jU ?_
   refine jW rfl rfl au (jO ?_)
   refine jN ⟨(js4 (jC (by unfold cS; grind)) rfl rfl rfl), rfl⟩
  refine jF rfl rfl au (jM ?_)
  refine jG ?_
  refine jk (Run.bin rfl rfl (Bin.lssN _ 1)) ?_
  by_cases hs18 : m < 1
  ·
   refine jF rfl rfl au (jM ?_)
   refine jU ?_
   refine jU ?_
   refine jW rfl rfl au (jM ?_)
   refine jU ?_
   refine jU ?_
   refine jW rfl rfl au (jM ?_)
   refine jU ?_
   refine jU ?_
   refine jU ?_
   refine jU ?_
   refine jU ?_
   refine jW rfl rfl au (jO ?_)
   refine jN ⟨(js4 (jC (by unfold cS; grind)) rfl rfl rfl), rfl⟩
  refine jF rfl rfl au (jM ?_)
  refine jG ?_
  refine jk (Run.bin rfl rfl (Bin.gtrN _ 12)) ?_
  by_cases hs22 : 12 < m
  ·
   refine jF rfl rfl au (jM ?_)
   refine jU ?_
   refine jU ?_
   refine jW rfl rfl au (jM ?_)
   refine jU ?_
   refine jU ?_
   refine jU ?_
   refine jU ?_
   refine jU ?_
   refine jW rfl rfl au (jO ?_)
   refine jN ⟨(js4 (jC (by unfold cS; grind)) rfl rfl rfl), rfl⟩
  refine jF rfl rfl au (jM ?_)
  refine jG ?_
  refine jk (Run.bin rfl rfl (Bin.lssN _ 1)) ?_
  by_cases hs26 : d < 1
  ·
   refine jF rfl rfl au (jM ?_)
   refine jU ?_
   refine jU ?_
   refine jU ?_
   refine jU ?_
   refine jU ?_
   refine jW rfl rfl au (jO ?_)
   refine jN ⟨(js4 (jC (by unfold cS; grind)) rfl rfl rfl), rfl⟩
  refine jF rfl rfl au (jM ?_)
  refine jG ?_
  refine jG ?_
  refine jG ?_
  refine Ops.clg rfl au (jE2 Tryz.call131) (rO y m _ h1 h12) rfl ?_
  rintro _ _ ⟨rfl, rfl⟩
  refine ⟨_, rfl, ?_⟩
  refine jk (Run.bin rfl rfl (Bin.gtrN _ _)) ?_
  by_cases hs33 : fZ y m < d
  ·
   refine jF rfl rfl au (jO ?_)
   refine jN ⟨(js4 (jC (by unfold cS; grind)) rfl rfl rfl), rfl⟩
  refine jF rfl rfl au (jO ?_)
  refine jN ⟨(js4 (jC (by unfold cS; grind)) rfl rfl rfl), rfl⟩
 intro Γ hΓ
 refine jN (VC.sub _ hΓ ?_)
 refine jD rfl (fun hc1 => ?_) fun hc1 => ?_
 ·
  refine jS (jR (jz 0 (jz 4 (jO (jN (jv2 6 7 ?_))))))
  refine jT ?_
  refine qZ (fD rfl rfl ?_)
  refine ⟨rfl, ?_⟩
  rw [if_neg hc1]
  rfl
 have hok : cS y m d := Classical.not_not.1 hc1
 obtain ⟨k1, k2, k3⟩ := hok
 have hal : kB y ≤ 4000000 := by unfold kB; omega
 refine jQ (jN (jv3 0 1 2 ?_))
 refine jS (jR (jM ?_))
 refine jc (jE1 Tryz.call132) (xS y _ k1 jo) ?_
 rintro _ _ ⟨rfl, rfl⟩
 refine ⟨_, rfl, ?_⟩
 refine jm rfl (jb rfl rfl (Bin.add_i64 _ _ jo) (jb rfl rfl (Bin.sub_i64 _ 1 jo jo) (ja rfl (jO (jN (jv3 0 1 8 ?_))))))
 refine jS (jS (jR (jm rfl (jb rfl rfl (Bin.sub_i64 _ 1 jo jo) ?_))))
 refine jx .i64 0 ?_
 refine jO (jN (jv4 0 8 41 42 ?_))
 refine jB ?_
 refine VC.loop (σ := Nat) (fun s => [(0, jI1 y), (8, jI1 (kB y + d - 1 + gR y (s + 1))), (41, jI1 (m - 1)), (42, jI1 s)]) (fun s wr => s ≤ m - 1 ∧ w = wr) (fun s => m - 1 - s) 0 (js4 rfl rfl rfl rfl) ⟨jo, rfl⟩ ?_
 rintro i _ ⟨hi, rfl⟩
 have hb := nH y i
 refine jS (jR (jb rfl rfl (Bin.lssN _ _) (jO (jN (jS ?_)))))
 refine jD rfl (fun hc2 => ?_) fun hc2 => ?_
 ·
  refine jQ (jN (jv4 0 8 41 42 ?_))
  refine jS (jB (jS (jR (jm rfl (ja rfl (jO (jN (jv5 0 8 9 41 42 ?_))))))))
  refine jR (jm rfl (jm rfl (jm rfl (jb rfl rfl (Bin.add_i64 _ 1 jo) ?_))))
  refine jc (jE2 Tryz.call131) (rO y (i + 1) _ jo jo) ?_
  rintro _ _ ⟨rfl, rfl⟩
  refine ⟨_, rfl, ?_⟩
  have hl31 := tE y (i + 1)
  refine jb rfl rfl (Bin.add_i64 _ _ jo) (ja rfl (jO ?_))
  refine qS (jN ?_)
  refine jv4 0 8 41 42 ?_
  refine jR (jb rfl rfl (Bin.add_i64 _ 1 jo) (jm rfl (jO ?_)))
  refine jN ⟨(i + 1), (js4 rfl (by rw [oQ y (i + 1) jo, ← zcx]; rfl) rfl rfl), ?_, ?_⟩
  · exact ⟨hc2, rfl⟩
  exact jq
 refine jX ?_
 refine qV (qV (qC ?_))
 refine jN (jv1 8 ?_)
 refine jS (jR (jm rfl (jb rfl rfl (Bin.subZ _ 719162 jo jo) (ja rfl (jz 0 (jO (jN (jv2 6 7 ?_))))))))
 refine jT ?_
 refine fD rfl rfl ?_
 refine ⟨rfl, ?_⟩
 rw [if_pos ⟨k1, k2, k3⟩]
 have him : i = m - 1 := jo
 subst him
 have e : fH y m d = ((kB y + d - 1 + gR y (m - 1 + 1) : Nat) : Int) - 719162 := by
  unfold fH
  rw [show m - 1 + 1 = m by omega]
  omega
 rw [e]
 rfl
def sl (s : Tx) (p : Nat × Nat) : Tx := (s.drop p.1).take p.2
def prC (p : Nat × Nat) : List Value := [jI1 p.1, jI1 p.2]
theorem qKg {w : World} {A : Option Addr} {l : List (Nat × Nat)} {k : Nat} (h : Rd w 2 A l.length (l.flatMap prC)) (hk : k < l.length) : ∃ ad, A = some ad ∧ ∀ W, Frm [] w W → ∀ j v, (prC l[k])[j]? = some v → W.cell? ((ad.add (k * 2)).add j) = some v := by
 have key : ∀ W, Frm [] w W → ∃ ad, A = some ad ∧ ∀ j v, (prC l[k])[j]? = some v → W.cell? ((ad.add (k * 2)).add j) = some v := fun W hW => by
  obtain ⟨ad, h2, hc⟩ := (h.frm hW jp).elem hk
  exact ⟨ad, h2, fun j v hj => hc j v (by rw [kN prC 2 (fun _ => rfl) l k hk]; exact hj)⟩
 obtain ⟨ad, h1, _⟩ := key w (Frm.refl _ _)
 refine ⟨ad, h1, fun W hW => ?_⟩
 obtain ⟨a2, h2, h3⟩ := key W hW
 rw [h1] at h2
 cases h2
 exact h3
def kE (s : Tx) (ps : List (Nat × Nat)) : List Int := ps.map fun p => ((bP 0 (sl s p) : Nat) : Int)
theorem hrdF {w w' : World} {t : TypeId} {q : Int} (h : Fresh w w' t #[.int .i64 q]) : Rd w' 1 (some ⟨w.heap.size, 0, none⟩) 1 (IB [q]) := Rd.of_blk (n := 1) (size := 1) h.blk rfl
theorem qKh {α : Type} {l : List α} {i : Nat} (h : i < l.length) : l.take (i + 1) = l.take i ++ [l[i]] := by rw [zbh, zb h]; rfl
theorem uL (q : Tx) (ps : List (Nat × Nat)) (A : Option Addr) (c : Nat) (w : World) (hR : Rd w 2 A ps.length (ps.flatMap prC)) (hq : q.length ≤ 1000000) (hn : ps.length ≤ 1000) (hb : ∀ p ∈ ps, p.1 + p.2 ≤ q.length ∧ p.2 ≤ 18 ∧ 1 ≤ p.2) : Calls Tryz.prog 91 #[encStr q, .slice A ps.length c] w fun e w' => Frm [] w w' ∧ ∃ B d l b, e = .returned (.tuple #[.slice B l.length d, .bool b]) ∧ Own w' 3 1 B l.length d (IB l) ∧ ((b = true ∧ (∀ p ∈ ps, AllD (sl q p)) ∧ l = kE q ps) ∨ (b = false ∧ ¬ (∀ p ∈ ps, AllD (sl q p)) ∧ l = [])) := by
 refine jV Tryz.func91 Tryz.ntmps91 Tryz.results91 ?_
 refine jS (jR (ja rfl (ja rfl (jO (jN (jv2 0 1 ?_))))))
 refine jS (jR (ja rfl (jO (jN (jS (jS (jR (jm rfl (jL rfl Tryz.underlying137 ?_)))))))))
 refine jx .i64 0 ?_
 refine jO (jN (jv5 0 6 11 12 13 ?_))
 refine jB ?_
 refine VC.loop (σ := Nat × Option Addr × Nat) (fun s => [(0, encStr q), (6, .slice s.2.1 (ps.take s.1).length s.2.2), (11, .slice A ps.length c), (12, jI1 ps.length), (13, jI1 s.1)]) (fun s wr => s.1 ≤ ps.length ∧ (∀ p ∈ ps.take s.1, AllD (sl q p)) ∧ Own wr 3 1 s.2.1 (ps.take s.1).length s.2.2 (IB (kE q (ps.take s.1))) ∧ (∀ x ∈ ob s.2.1, w.heap.size ≤ x) ∧ Frm [] w wr) (fun s => ps.length - s.1) (0, none, 0) (js5 rfl rfl rfl rfl rfl) ⟨jo, jp, Own.nil _ _ _, by simp [ob], Frm.refl _ _⟩ ?_
 rintro ⟨i, B, d⟩ wr ⟨hi, hd, hB, hub, K⟩
 dsimp only at hi hd hB hub ⊢
 refine jS (jR (jb rfl rfl (Bin.lssN _ _) (jO (jN (jS ?_)))))
 refine jD rfl (fun hc1 => ?_) fun hc1 => ?_
 ·
  obtain ⟨ad, rfl, hc⟩ := qKg hR hc1
  have hpm := zaj hc1
  have htk := qKh hc1
  obtain ⟨p, hp⟩ : ∃ p, ps[i] = p := ⟨_, rfl⟩
  rw [hp] at hc hpm htk
  obtain ⟨b1, b2, b3⟩ := hb p hpm
  refine jQ (jN (jv5 0 6 11 12 13 ?_))
  refine jS (jB (jS (jR (je (Run.indexS i rfl rfl Tryz.underlying137 Tryz.sizeOf136 hc1) (je (Run.loadA (cs := prC p) rfl Tryz.isAgg136 Tryz.sizeOf136 (hc _ K) rfl) ?_)))))
  refine Ops.m (qH.alloc eL) rfl ?_
  rintro _ w1 ⟨rfl, hF1⟩
  obtain ⟨g8, hg8⟩ : ∃ g, g = wr.heap.size := ⟨_, rfl⟩
  have hx := hF1.blk
  rw [← hg8] at hx ⊢
  have q0 := K.size
  have hBl : ∀ y ∈ ob B, y < g8 := fun y hy => by have := hB.lt y hy; omega
  have K1 := K.trans hF1.frm jp
  have hB1 := hB.frm hF1.frm jp
  refine Ops.st (qJ.storeA rfl rfl Tryz.sizeOf136 hx rfl (fun u hu => by simp only [prC, zab, zag, or_false] at hu; rcases hu with rfl | rfl <;> rfl)) ?_
  rintro w2 ⟨hx, fx, sx⟩
  have K2 := K1.own fx (by simp; omega)
  have hB2 := hB1.frm fx (fun y hy h => by have := hBl y hy; simp at h; omega)
  refine jO (jN (jv6 0 6 8 11 12 13 ?_))
  refine jS (jR (jm rfl (je (Run.indexA1 0 rfl rfl zbn zc jd) (jl rfl zi (hx.cells 0 _ rfl) (je (Run.indexA1 0 rfl rfl zbn zc jd) (jl rfl zi (hx.cells 0 _ rfl) (je (Run.indexA1 1 rfl rfl zbn zc jd) (jl rfl zi (hx.cells 1 _ rfl) (jb rfl rfl (Bin.add_i64 _ _ jo) (je (Run.sliceT p.1 (p.1 + p.2) rfl za (evB.some_ rfl) (evB.some_ rfl) jo jo) ?_))))))))))
  refine jc (jE1 Tryz.call128) (kD ((q.drop p.1).take (p.1 + p.2 - p.1)) w2 (by simp; omega)) ?_
  rintro _ _ ⟨rfl, v, rfl, hv⟩
  rw [show p.1 + p.2 - p.1 = p.2 by omega] at hv ⊢
  have hsl : ((q.drop p.1).take p.2).length = p.2 := by simp; omega
  have hne : (q.drop p.1).take p.2 ≠ [] := fun h => by rw [h] at hsl; simp at hsl; omega
  rw [show decide (AllD ((q.drop p.1).take p.2) ∧ (q.drop p.1).take p.2 ≠ []) = decide (AllD (sl q p)) from decide_eq_decide.2 ⟨fun h => h.1, fun h => ⟨h, hne⟩⟩]
  refine ⟨_, rfl, ?_⟩
  refine jm rfl (jY rfl rfl (jY rfl rfl (ja rfl (ja rfl (jO (jN (jv7 0 6 9 10 11 12 13 ?_)))))))
  refine jS (jS (jR (jm rfl (je (Run.not rfl) (jO (jN (jv7 0 6 9 11 12 13 31 ?_)))))))
  refine VC.condB rfl (fun hc2 => ?_) (fun hc2 => ?_)
  ·
   have hbad : ¬ AllD (sl q p) := by simpa using hc2
   refine jS (jR (ja rfl (ja rfl (jO (jN (jv2 4 5 ?_))))))
   refine jT ?_
   refine qZ (qN (qZ (qZ (qN (qZ (fD rfl rfl ?_))))))
   exact ⟨K2, none, 0, [], false, rfl, Own.nil _ _ _, .inr ⟨rfl, fun h => hbad (h p hpm), rfl⟩⟩
  have hgd : AllD (sl q p) := by simpa using hc2
  have hv := hv hgd jo
  refine jQ (jN (jv6 0 6 9 11 12 13 ?_))
  refine jR (jm rfl (jM ?_))
  refine Ops.m (qH.buildS1 rfl zl zc dH jd jd rfl rfl) rfl ?_
  rintro _ w3 ⟨rfl, hF3⟩
  have K3 := K2.trans hF3.frm jp
  have hti : (ps.take i).length = i := by simp; omega
  have hB3 := hB2.frm hF3.frm jp
  refine Ops.m (qH.app rfl rfl zl (wT) rfl jd hB3 (hrdF hF3) (yV _) jo jo) rfl ?_
  rintro _ w4 ⟨B4, d4, rfl, hB4, f4, ob4⟩
  have hB5 : Own w4 3 1 B4 (ps.take (i + 1)).length d4 (IB (kE q (ps.take (i + 1)))) := by
   rw [htk]
   simpa [kE, IB, hv, sl] using hB4
  have el : (ps.take i).length + 1 = (ps.take (i + 1)).length := by rw [htk]; simp
  refine ja rfl (jO ?_)
  refine qS (jN ?_)
  refine jv5 0 6 11 12 13 ?_
  refine jR (jb rfl rfl (Bin.add_i64 _ 1 jo) (jm rfl (jO ?_)))
  refine jN ⟨(i + 1, B4, d4), (js5 rfl (by rw [← el]; rfl) rfl rfl rfl), ?_, ?_⟩
  ·
   refine ⟨hc1, fun y hy => ?_, hB5, oD hub ob4 K3.size, K3.own f4 hub⟩
   rw [htk] at hy
   rcases zee.1 hy with h | h
   · exact hd y h
   rw [zg] at h; subst h; exact hgd
  exact jq
 have e1 : ps.take i = ps := zy jo
 rw [e1] at hd hB ⊢
 refine jX ?_
 refine qV (qV (qC ?_))
 refine jN (jv1 6 ?_)
 refine jS (jR (jm rfl (ja rfl (ja rfl (jO (jN (jv2 4 5 ?_)))))))
 refine jT ?_
 refine fD rfl rfl ?_
 exact ⟨K, B, d, kE q ps, true, by rw [show (kE q ps).length = ps.length by simp [kE]], by rw [show (kE q ps).length = ps.length by simp [kE]]; exact hB, .inl ⟨rfl, hd, rfl⟩⟩
theorem Run.negI {P : Program} {Γ : Env} {w : World} {dst : Option Nat} {xT T : TypeId} {pos : String} {after : Array Edge} {g : Option (Nat × Bool)} {x : Operand} (n : Int) (hx : ev? Γ x = some (.int .i64 n)) (h : -9223372036854775807 ≤ n ∧ n ≤ 9223372036854775807) : Run P ⟨dst, .unOp .neg xT x, T, pos, after, g⟩ Γ w (.int .i64 (-n)) := fun ρ hρ => by
 have e2 : (Op.unary .neg (.int .i64 n)).run P w = .ok (.int .i64 (-n)) w := by
  simp [Op.unary, Op.intArith, Int.zero_sub, fC .i64 (-n) (by simp only [lD]; omega) (by simp only [bmax]; omega)]
 simp only [execOp, hρ _ _ hx, Sem.run_bind, e2, Result.andThen_ok, Sem.run_pure]
theorem eM {q : Tx} {i : Nat} (h : i < q.length) : q[i]? = some (q.getD i 0) := by rw [zf, zb h]; rfl
theorem pT (a b : Int) : ∀ u ∈ (#[.int .i64 a, .int .i64 b] : Array Value).toList, u.oneCell' = true := by
 intro u hu
 simp only [zab, zag, or_false] at hu
 rcases hu with rfl | rfl <;> rfl
def DpF (q : Tx) : Prop := q.length = 26 ∧ (q.getD 2 0).toNat = 45 ∧ (q.getD 6 0).toNat = 45 ∧ (q.getD 11 0).toNat = 32 ∧ (q.getD 14 0).toNat = 58 ∧ (q.getD 17 0).toNat = 58 ∧ (q.getD 20 0).toNat = 32 ∧ ((q.getD 21 0).toNat = 43 ∨ (q.getD 21 0).toNat = 45)
instance (q : Tx) : Decidable (DpF q) := by unfold DpF; infer_instance
def dpT (q : Tx) : Tx := if (q.getD 0 0).toNat = 32 then 48 :: q.drop 1 else q
def dpP : List (Nat × Nat) := [(0, 2), (7, 4), (12, 2), (15, 2), (18, 2), (22, 2), (24, 2)]
def dpN (q : Tx) (i : Nat) : Nat := bP 0 (sl (dpT q) (dpP.getD i (0, 0)))
def dpM (q : Tx) : Nat := eQ (sl q (3, 3))
def rJ (q : Tx) : Prop := DpF q ∧ (∀ p ∈ dpP, AllD (sl (dpT q) p)) ∧ dpM q ≠ 0 ∧ cS (dpN q 1) (dpM q) (dpN q 0) ∧ dpN q 2 ≤ 23 ∧ dpN q 3 ≤ 59 ∧ dpN q 4 ≤ 59 ∧ dpN q 5 ≤ 23 ∧ dpN q 6 ≤ 59
instance (q : Tx) : Decidable (rJ q) := by unfold rJ; infer_instance
def dpZ (q : Tx) : Int := if (q.getD 21 0).toNat = 45 then -((60 * dpN q 5 + dpN q 6 : Nat) : Int) else ((60 * dpN q 5 + dpN q 6 : Nat) : Int)
def gF (q : Tx) : Option (Int × Int) := if rJ q then some (86400 * fH (dpN q 1) (dpM q) (dpN q 0) + (((3600 * dpN q 2 + 60 * dpN q 3 + dpN q 4 : Nat) : Int) - 60 * dpZ q), dpZ q) else none
theorem qKi (q : Tx) (p : Nat × Nat) : (sl q p).length ≤ p.2 := by unfold sl; simp; omega
theorem qJy {q : Tx} (h : ∀ p ∈ dpP, AllD (sl (dpT q) p)) : dpN q 0 ≤ 99 ∧ dpN q 1 ≤ 9999 ∧ dpN q 2 ≤ 99 ∧ dpN q 3 ≤ 99 ∧ dpN q 4 ≤ 99 ∧ dpN q 5 ≤ 99 ∧ dpN q 6 ≤ 99 := by
 have key : ∀ i, i < 7 → dpN q i < 10 ^ (dpP.getD i (0, 0)).2 := by
  intro i hi
  have hm : dpP.getD i (0, 0) ∈ dpP := by
   have h2 : i < dpP.length := hi
   rw [zf, zb h2]
   exact zaj _
  have h1 := kC (sl (dpT q) (dpP.getD i (0, 0))) 0 0 (h _ hm) jd
  have h3 := qKi (dpT q) (dpP.getD i (0, 0))
  exact zaw h1 (zea jd jo)
 have k0 := key 0 jd
 have k1 := key 1 jd
 have k2 := key 2 jd
 have k3 := key 3 jd
 have k4 := key 4 jd
 have k5 := key 5 jd
 have k6 := key 6 jd
 simp only [show (dpP.getD 0 (0, 0)).2 = 2 from rfl, show (dpP.getD 1 (0, 0)).2 = 4 from rfl, show (dpP.getD 2 (0, 0)).2 = 2 from rfl, show (dpP.getD 3 (0, 0)).2 = 2 from rfl, show (dpP.getD 4 (0, 0)).2 = 2 from rfl, show (dpP.getD 5 (0, 0)).2 = 2 from rfl, show (dpP.getD 6 (0, 0)).2 = 2 from rfl] at k0 k1 k2 k3 k4 k5 k6
 omega
theorem qZt {y m d : Nat} (hy : y ≤ 9999) (h1 : 1 ≤ m) (h12 : m ≤ 12) (hd : d ≤ 99) : -719162 ≤ fH y m d ∧ fH y m d ≤ 4000000 := by
 have h2 := nH y (m - 1)
 rw [show m - 1 + 1 = m by omega] at h2
 unfold fH kB
 omega
theorem uO (q : Tx) (w : World) (hq : q.length ≤ 1000000) : Calls Tryz.prog 65 #[encStr q] w fun e w' => Frm [] w w' ∧ ∃ a b code, e = .returned (.tuple #[.agg #[.int .i64 a, .int .i64 b], .int .i64 code]) ∧ match gF q with
   | none => code ≠ 0
   | some p => p = (a, b) ∧ code = 0 := by
 refine jV Tryz.func65 Tryz.ntmps65 Tryz.results65 ?_
 refine jS (jR ?_)
 refine Ops.m (qH.alloc lT) rfl ?_
 rintro _ w1 ⟨rfl, hF1⟩
 obtain ⟨g2, hg2⟩ : ∃ g, g = w.heap.size := ⟨_, rfl⟩
 have hb := hF1.blk
 rw [← hg2] at hb ⊢
 have K := hF1.frm
 refine jz 0 (jO (jN (jv2 0 2 ?_)))
 refine jS (jS ?_)
 refine VC.split1 [(0, _), (2, _)] (js2 rfl rfl) 53 (.bool (decide (¬ DpF q))) ?_ ?_
 ·
  refine jR ?_
  refine jm rfl (je (Run.lenT rfl za) (jb rfl rfl (Bin.neqN _ 26) ?_))
  by_cases hs13 : q.length ≠ 26
  ·
   refine jM ?_
   refine jU ?_
   refine jU ?_
   refine jU ?_
   refine jW rfl rfl au (jM ?_)
   refine jU ?_
   refine jU ?_
   refine jU ?_
   refine jW rfl rfl au (jM ?_)
   refine jU ?_
   refine jU ?_
   refine jU ?_
   refine jW rfl rfl au (jM ?_)
   refine jU ?_
   refine jU ?_
   refine jU ?_
   refine jW rfl rfl au (jM ?_)
   refine jU ?_
   refine jU ?_
   refine jU ?_
   refine jW rfl rfl au (jM ?_)
   refine jU ?_
   refine jU ?_
   refine jU ?_
   refine jW rfl rfl au (jM ?_)
   refine jU ?_
   refine jU ?_
   refine jU ?_
   refine jU ?_
   refine Ops.skU rfl rfl ?_
   refine Ops.skU rfl rfl ?_
   refine Ops.skU rfl rfl ?_
   refine jU ?_
   refine jW rfl rfl au (jO ?_)
   refine jN ⟨(js3 (jC (by unfold DpF; grind)) rfl rfl), rfl⟩
  refine jM ?_
  refine jG ?_
  refine jk (Run.indexT 2 rfl rfl za (eM jo)) ?_
  refine jk (Run.bin rfl rfl (Bin.neqN _ 45)) ?_
  by_cases hs17 : (q.getD 2 0).toNat ≠ 45
  ·
   refine jF rfl rfl au (jM ?_)
   refine jU ?_
   refine jU ?_
   refine jU ?_
   refine jW rfl rfl au (jM ?_)
   refine jU ?_
   refine jU ?_
   refine jU ?_
   refine jW rfl rfl au (jM ?_)
   refine jU ?_
   refine jU ?_
   refine jU ?_
   refine jW rfl rfl au (jM ?_)
   refine jU ?_
   refine jU ?_
   refine jU ?_
   refine jW rfl rfl au (jM ?_)
   refine jU ?_
   refine jU ?_
   refine jU ?_
   refine jW rfl rfl au (jM ?_)
   refine jU ?_
   refine jU ?_
   refine jU ?_
   refine jU ?_
   refine Ops.skU rfl rfl ?_
   refine Ops.skU rfl rfl ?_
   refine Ops.skU rfl rfl ?_
   refine jU ?_
   refine jW rfl rfl au (jO ?_)
   refine jN ⟨(js3 (jC (by unfold DpF; grind)) rfl rfl), rfl⟩
  refine jF rfl rfl au (jM ?_)
  refine jG ?_
  refine jk (Run.indexT 6 rfl rfl za (eM jo)) ?_
  refine jk (Run.bin rfl rfl (Bin.neqN _ 45)) ?_
  by_cases hs22 : (q.getD 6 0).toNat ≠ 45
  ·
   refine jF rfl rfl au (jM ?_)
   refine jU ?_
   refine jU ?_
   refine jU ?_
   refine jW rfl rfl au (jM ?_)
   refine jU ?_
   refine jU ?_
   refine jU ?_
   refine jW rfl rfl au (jM ?_)
   refine jU ?_
   refine jU ?_
   refine jU ?_
   refine jW rfl rfl au (jM ?_)
   refine jU ?_
   refine jU ?_
   refine jU ?_
   refine jW rfl rfl au (jM ?_)
   refine jU ?_
   refine jU ?_
   refine jU ?_
   refine jU ?_
   refine Ops.skU rfl rfl ?_
   refine Ops.skU rfl rfl ?_
   refine Ops.skU rfl rfl ?_
   refine jU ?_
   refine jW rfl rfl au (jO ?_)
   refine jN ⟨(js3 (jC (by unfold DpF; grind)) rfl rfl), rfl⟩
  refine jF rfl rfl au (jM ?_)
  refine jG ?_
  refine jk (Run.indexT 11 rfl rfl za (eM jo)) ?_
  refine jk (Run.bin rfl rfl (Bin.neqN _ 32)) ?_
  by_cases hs27 : (q.getD 11 0).toNat ≠ 32
  ·
   refine jF rfl rfl au (jM ?_)
   refine jU ?_
   refine jU ?_
   refine jU ?_
   refine jW rfl rfl au (jM ?_)
   refine jU ?_
   refine jU ?_
   refine jU ?_
   refine jW rfl rfl au (jM ?_)
   refine jU ?_
   refine jU ?_
   refine jU ?_
   refine jW rfl rfl au (jM ?_)
   refine jU ?_
   refine jU ?_
   refine jU ?_
   refine jU ?_
   refine Ops.skU rfl rfl ?_
   refine Ops.skU rfl rfl ?_
   refine Ops.skU rfl rfl ?_
   refine jU ?_
   refine jW rfl rfl au (jO ?_)
   refine jN ⟨(js3 (jC (by unfold DpF; grind)) rfl rfl), rfl⟩
  refine jF rfl rfl au (jM ?_)
  refine jG ?_
  refine jk (Run.indexT 14 rfl rfl za (eM jo)) ?_
  refine jk (Run.bin rfl rfl (Bin.neqN _ 58)) ?_
  by_cases hs32 : (q.getD 14 0).toNat ≠ 58
  ·
   refine jF rfl rfl au (jM ?_)
   refine jU ?_
   refine jU ?_
   refine jU ?_
   refine jW rfl rfl au (jM ?_)
   refine jU ?_
   refine jU ?_
   refine jU ?_
   refine jW rfl rfl au (jM ?_)
   refine jU ?_
   refine jU ?_
   refine jU ?_
   refine jU ?_
   refine Ops.skU rfl rfl ?_
   refine Ops.skU rfl rfl ?_
   refine Ops.skU rfl rfl ?_
   refine jU ?_
   refine jW rfl rfl au (jO ?_)
   refine jN ⟨(js3 (jC (by unfold DpF; grind)) rfl rfl), rfl⟩
  refine jF rfl rfl au (jM ?_)
  refine jG ?_
  refine jk (Run.indexT 17 rfl rfl za (eM jo)) ?_
  refine jk (Run.bin rfl rfl (Bin.neqN _ 58)) ?_
  by_cases hs37 : (q.getD 17 0).toNat ≠ 58
  ·
   refine jF rfl rfl au (jM ?_)
   refine jU ?_
   refine jU ?_
   refine jU ?_
   refine jW rfl rfl au (jM ?_)
   refine jU ?_
   refine jU ?_
   refine jU ?_
   refine jU ?_
   refine Ops.skU rfl rfl ?_
   refine Ops.skU rfl rfl ?_
   refine Ops.skU rfl rfl ?_
   refine jU ?_
   refine jW rfl rfl au (jO ?_)
   refine jN ⟨(js3 (jC (by unfold DpF; grind)) rfl rfl), rfl⟩
  refine jF rfl rfl au (jM ?_)
  refine jG ?_
  refine jk (Run.indexT 20 rfl rfl za (eM jo)) ?_
  refine jk (Run.bin rfl rfl (Bin.neqN _ 32)) ?_
  by_cases hs42 : (q.getD 20 0).toNat ≠ 32
  ·
   refine jF rfl rfl au (jM ?_)
   refine jU ?_
   refine jU ?_
   refine jU ?_
   refine jU ?_
   refine Ops.skU rfl rfl ?_
   refine Ops.skU rfl rfl ?_
   refine Ops.skU rfl rfl ?_
   refine jU ?_
   refine jW rfl rfl au (jO ?_)
   refine jN ⟨(js3 (jC (by unfold DpF; grind)) rfl rfl), rfl⟩
  refine jF rfl rfl au (jM ?_)
  refine jG ?_
  refine jk (Run.indexT 21 rfl rfl za (eM jo)) ?_
  refine jk (Run.bin rfl rfl (Bin.neqN _ 43)) ?_
  by_cases hs47 : (q.getD 21 0).toNat ≠ 43
  ·
   refine jG ?_
   refine jG ?_
   refine jk (Run.indexT 21 rfl rfl za (eM jo)) ?_
   refine jk (Run.bin rfl rfl (Bin.neqN _ 45)) ?_
   by_cases hs51 : (q.getD 21 0).toNat ≠ 45
   ·
    refine jk (Run.pickT rfl rfl au) ?_
    refine jF rfl rfl au (jO ?_)
    refine jN ⟨(js3 (jC (by unfold DpF; grind)) rfl rfl), rfl⟩
   refine jk (Run.pickT rfl rfl au) ?_
   refine jF rfl rfl au (jO ?_)
   refine jN ⟨(js3 (jC (by unfold DpF; grind)) rfl rfl), rfl⟩
  refine jG ?_
  refine jU ?_
  refine jU ?_
  refine jU ?_
  refine jk (Run.pickF rfl rfl au) ?_
  refine jF rfl rfl au (jO ?_)
  refine jN ⟨(js3 (jC (by unfold DpF; grind)) rfl rfl), rfl⟩
 intro Γ hΓ
 refine jN (VC.sub _ hΓ ?_)
 refine jD rfl (fun hc1 => ?_) fun hc1 => ?_
 ·
  have hno : gF q = none := if_neg fun h => hc1 h.1
  refine jS (jR (je (Run.build evs.nil lT (eD).choose_spec.1 (eD).choose_spec.2 (cells := #[.int .i64 0, .int .i64 0]) rfl) ?_))
  refine Ops.st (qJ.storeA rfl rfl zbg hb rfl (pT _ _)) ?_
  rintro w2 ⟨hbz, hfz, hsz⟩
  refine jz 3 (jO (jN (jv2 2 3 ?_)))
  refine jT ?_
  refine qZ (bM ?_)
  refine qB rfl zdv zbg (hbz.cells) (by first | rfl | (simp; done) | (simp [*]; done)) ?_
  refine cW rfl ?_
  refine qF ?_
  refine ⟨K.own hfz (by simp; omega), 0, 0, 3, rfl, ?_⟩
  rw [hno]
  decide
 have hdp : DpF q := Classical.not_not.1 hc1
 have h26 : q.length = 26 := hdp.1
 refine jQ (jN (jv2 0 2 ?_))
 refine jS (jR (jm rfl (ja rfl (jO (jN (jv3 0 2 4 ?_))))))
 refine jS (jS (jR (jm rfl (je (Run.indexT 0 rfl rfl za (eM jo)) (jb rfl rfl (Bin.eqlN _ 32) (jO (jN (jv4 0 2 4 58 ?_))))))))
 refine VC.meet (σ := Unit) (fun s => [(0, encStr q), (2, jI0 g2), (4, encStr (dpT q))]) (fun s wr => w1 = wr) ?_ ?_
 ·
  refine jD rfl (fun hc2 => ?_) fun hc2 => ?_
  ·
   refine jR (jm rfl (je (Run.sliceT 1 _ rfl za (evB.some_ rfl) evB.none_ jo jo) (je (Run.addT (a := [48]) rfl rfl (by simp; omega)) (ja rfl (jO ?_)))))
   refine jN ⟨(), (js3 rfl rfl (by unfold dpT; rw [if_pos hc2, zy jp]; rfl)), ?_⟩
   rfl
  refine jQ ?_
  refine jN ⟨(), (js3 rfl rfl (by unfold dpT; rw [if_neg hc2]; rfl)), ?_⟩
  rfl
 rintro _ _ rfl Γ hΓ
 have ht26 : (dpT q).length = 26 := by unfold dpT; split <;> first | (simp; omega) | exact h26
 refine jN (VC.sub _ hΓ (jS (jR (jm rfl (je (Run.buildA (evs.cons rfl (evs.cons rfl evs.nil)) eL zbn zc (cells := #[.int .i64 0, .int .i64 2]) jK) (je (Run.buildA (evs.cons rfl (evs.cons rfl evs.nil)) eL zbn zc (cells := #[.int .i64 7, .int .i64 4]) jK) (je (Run.buildA (evs.cons rfl (evs.cons rfl evs.nil)) eL zbn zc (cells := #[.int .i64 12, .int .i64 2]) jK) (je (Run.buildA (evs.cons rfl (evs.cons rfl evs.nil)) eL zbn zc (cells := #[.int .i64 15, .int .i64 2]) jK) (je (Run.buildA (evs.cons rfl (evs.cons rfl evs.nil)) eL zbn zc (cells := #[.int .i64 18, .int .i64 2]) jK) (je (Run.buildA (evs.cons rfl (evs.cons rfl evs.nil)) eL zbn zc (cells := #[.int .i64 22, .int .i64 2]) jK) (je (Run.buildA (evs.cons rfl (evs.cons rfl evs.nil)) eL zbn zc (cells := #[.int .i64 24, .int .i64 2]) jK) ?_)))))))))))
 refine Ops.m (qH.buildN (cells := #[.int .i64 0, .int .i64 2, .int .i64 7, .int .i64 4, .int .i64 12, .int .i64 2, .int .i64 15, .int .i64 2, .int .i64 18, .int .i64 2, .int .i64 22, .int .i64 2, .int .i64 24, .int .i64 2]) (evs.cons rfl (evs.cons rfl (evs.cons rfl (evs.cons rfl (evs.cons rfl (evs.cons rfl (evs.cons rfl evs.nil))))))) Tryz.underlying137 Tryz.sizeOf136 eL rfl rfl jK) rfl ?_
 rintro _ w3 ⟨rfl, hF3⟩
 have K := K.trans hF3.frm jp
 have hb := hb.frm hF3.frm jp
 refine jc (jE2 Tryz.call91) (uL (dpT q) dpP _ _ w3 (Rd.of_blk (n := 7) (size := 2) hF3.blk rfl) jo jd (by rw [ht26]; decide)) ?_
 rintro _ w4 ⟨f4, B, d, l, b, rfl, hRl, hbl⟩
 refine ⟨_, rfl, ?_⟩
 have K := K.trans f4 jp
 have hb := hb.frm f4 jp
 refine jm rfl (jY rfl rfl (jY rfl rfl (ja rfl (ja rfl (jO (jN (jv4 0 2 5 6 ?_)))))))
 refine jS (jR (jm rfl (je (Run.sliceT 3 6 rfl za (evB.some_ rfl) (evB.some_ rfl) jo jo) ?_)))
 refine jc (jE1 Tryz.call92) (pS ((q.drop 3).take (6 - 3)) w4 (by simp; omega)) ?_
 rintro _ w5 ⟨rfl, f5⟩
 rw [show eQ ((q.drop 3).take (6 - 3)) = dpM q from rfl]
 refine ⟨_, rfl, ?_⟩
 have K := K.trans f5 jp
 have hb := hb.frm f5 jp
 have hRl := hRl.frm f5 jp
 refine ja rfl (jO (jN (jv5 0 2 5 6 7 ?_)))
 refine jS (jS ?_)
 refine VC.split1 [(0, _), (2, _), (5, _), (7, _)] (js4 rfl rfl rfl rfl) 83 (.bool (decide (¬ b = true ∨ dpM q = 0))) ?_ ?_
 ·
  refine jR (jM ?_)
  by_cases hs78 : b = true
  ·
   refine je (Run.not rfl) (jM ?_)
   refine jG ?_
   refine jk (Run.bin rfl rfl (Bin.eqlN _ 0)) ?_
   by_cases hs82 : dpM q = 0
   ·
    refine jF rfl rfl au (jO ?_)
    refine jN ⟨(js5 (jC (by simp [*])) rfl rfl rfl rfl), rfl⟩
   refine jF rfl rfl au (jO ?_)
   refine jN ⟨(js5 (jC (by simp [*])) rfl rfl rfl rfl), rfl⟩
  refine je (Run.not rfl) (jM ?_)
  refine jU ?_
  refine jU ?_
  refine jW rfl rfl au (jO ?_)
  refine jN ⟨(js5 (jC (by simp [*])) rfl rfl rfl rfl), rfl⟩
 intro Γ hΓ
 refine jN (VC.sub _ hΓ ?_)
 refine jD rfl (fun hc3 => ?_) fun hc3 => ?_
 ·
  have hno : gF q = none := if_neg fun h => by
   rcases hbl with ⟨h1, h2, _⟩ | ⟨h1, h2, _⟩
   ·
    rcases hc3 with h3 | h3
    · exact h3 h1
    exact h.2.2.1 h3
   exact h2 h.2.1
  refine jS (jR (je (Run.build evs.nil lT (eD).choose_spec.1 (eD).choose_spec.2 (cells := #[.int .i64 0, .int .i64 0]) rfl) ?_))
  refine Ops.st (qJ.storeA rfl rfl zbg hb rfl (pT _ _)) ?_
  rintro w6 ⟨hbz, hfz, hsz⟩
  refine jz 3 (jO (jN (jv2 2 3 ?_)))
  refine jT ?_
  refine qZ (bM ?_)
  refine qB rfl zdv zbg (hbz.cells) (by first | rfl | (simp; done) | (simp [*]; done)) ?_
  refine cW rfl ?_
  refine qF ?_
  refine ⟨K.own hfz (by simp; omega), 0, 0, 3, rfl, ?_⟩
  rw [hno]
  decide
 obtain ⟨hall, rfl⟩ : (∀ p ∈ dpP, AllD (sl (dpT q) p)) ∧ l = kE (dpT q) dpP := by
  rcases hbl with ⟨_, h2, h3⟩ | ⟨h1, _, _⟩
  · exact ⟨h2, h3⟩
  exact absurd (.inl (by simp [h1])) hc3
 have hm0 : dpM q ≠ 0 := fun h => hc3 (.inr h)
 have hm12 : dpM q ≤ 12 := vF _
 obtain ⟨n0, n1, n2, n3, n4, n5, n6⟩ := qJy hall
 have hlst : kE (dpT q) dpP = [((dpN q 0 : Nat) : Int), ((dpN q 1 : Nat) : Int), ((dpN q 2 : Nat) : Int), ((dpN q 3 : Nat) : Int), ((dpN q 4 : Nat) : Int), ((dpN q 5 : Nat) : Int), ((dpN q 6 : Nat) : Int)] := rfl
 rw [hlst] at hRl ⊢
 obtain ⟨ad, rfl, _⟩ := hRl.rd.2 jp
 have hcel : ∀ W, Frm [] w5 W → ∀ i v, (IB [((dpN q 0 : Nat) : Int), ((dpN q 1 : Nat) : Int), ((dpN q 2 : Nat) : Int), ((dpN q 3 : Nat) : Int), ((dpN q 4 : Nat) : Int), ((dpN q 5 : Nat) : Int), ((dpN q 6 : Nat) : Int)])[i]? = some v → W.cell? (ad.add i) = some v := fun W hW i v h => by
  obtain ⟨a2, e2, _, h2⟩ := (hRl.frm hW jp).rd.2 jp
  cases e2
  exact h2 i v h
 have hdl := qZt (d := dpN q 0) n1 (jo : 1 ≤ dpM q) hm12 n0
 refine jQ (jN (jv4 0 2 5 7 ?_))
 refine jS ?_
 refine VC.held (fun V => Frm [] w5 V) jK ?_
 have hS : Frm [] w5 w5.drew := (Frm.refl [] w5).drew
 refine jh 0 hS ?_
 refine jH 1 rfl hS (fun w0 hw0 => Run.index1 1 rfl rfl zl zc jp) ?_
 refine jH 2 rfl hS (fun w0 hw0 => Run.load rfl zi (hcel _ hw0 1 _ rfl)) ?_
 refine jh 3 hS ?_
 refine jh 4 hS ?_
 refine jH 5 rfl hS (fun w0 hw0 => Run.index1 0 rfl rfl zl zc jp) ?_
 refine jH 6 rfl hS (fun w0 hw0 => Run.load rfl zi (hcel _ hw0 0 _ rfl)) ?_
 refine qQ.cl 7 rfl jK (jE3 Tryz.call93) (sQ (dpN q 1) (dpM q) (dpN q 0) _ n1 jo hm12 n0) trivial rfl rfl ?_
 rintro _ _ ⟨rfl, rfl⟩
 obtain ⟨z, cd, hzc, hz1, hz2⟩ : ∃ (z cd : Int), (if cS (dpN q 1) (dpM q) (dpN q 0) then (Value.tuple #[.int .i64 (fH (dpN q 1) (dpM q) (dpN q 0)), .int .i64 0]) else .tuple #[.int .i64 0, .int .i64 4]) = .tuple #[.int .i64 z, .int .i64 cd] ∧ (cS (dpN q 1) (dpM q) (dpN q 0) → z = fH (dpN q 1) (dpM q) (dpN q 0) ∧ cd = 0) ∧ (¬ cS (dpN q 1) (dpM q) (dpN q 0) → cd = 4) := by
  split
  · exact ⟨_, _, rfl, fun _ => ⟨rfl, rfl⟩, fun h => absurd ‹_› h⟩
  exact ⟨_, _, rfl, fun h => absurd h ‹_›, fun _ => rfl⟩
 rw [hzc]
 refine ⟨_, rfl, hS, ?_⟩
 refine jh 8 hS ?_
 refine jH 9 rfl hS (fun w0 hw0 => Run.extract rfl rfl) ?_
 refine jH 10 rfl hS (fun w0 hw0 => Run.extract rfl rfl) ?_
 refine jH 11 rfl hS (fun w0 hw0 => Run.asg rfl) ?_
 refine jH 12 rfl hS (fun w0 hw0 => Run.asg rfl) ?_
 refine qQ.done jK ?_
 refine jN (jv5 0 2 5 8 9 ?_)
 refine jS (jS ?_)
 refine VC.split1 [(0, _), (2, _), (5, _), (8, _)] (js4 rfl rfl rfl rfl) 127 (.bool (decide (cd ≠ 0 ∨ 23 < dpN q 2 ∨ 59 < dpN q 3 ∨ 59 < dpN q 4 ∨ 23 < dpN q 5 ∨ 59 < dpN q 6))) ?_ ?_
 ·
  refine jR ?_
  refine jm rfl (jb rfl rfl (Bin.neq _ 0) ?_)
  by_cases hs97 : cd ≠ 0
  ·
   refine jM ?_
   refine jU ?_
   refine jU ?_
   refine jU ?_
   refine jU ?_
   refine jW rfl rfl au (jM ?_)
   refine jU ?_
   refine jU ?_
   refine jU ?_
   refine jU ?_
   refine jW rfl rfl au (jM ?_)
   refine jU ?_
   refine jU ?_
   refine jU ?_
   refine jU ?_
   refine jW rfl rfl au (jM ?_)
   refine jU ?_
   refine jU ?_
   refine jU ?_
   refine jU ?_
   refine jW rfl rfl au (jM ?_)
   refine jU ?_
   refine jU ?_
   refine jU ?_
   refine jU ?_
   refine jW rfl rfl au (jO ?_)
   refine jN ⟨(js5 (jC (by grind)) rfl rfl rfl rfl), rfl⟩
  refine jM ?_
  refine jG ?_
  refine jk (Run.index1 2 rfl rfl zl zc jp) ?_
  refine jk (Run.load rfl zi (hcel _ (Frm.refl [] w5).drew 2 _ rfl)) ?_
  refine jk (Run.bin rfl rfl (Bin.gtrN _ 23)) ?_
  by_cases hs102 : 23 < dpN q 2
  ·
   refine jF rfl rfl au (jM ?_)
   refine jU ?_
   refine jU ?_
   refine jU ?_
   refine jU ?_
   refine jW rfl rfl au (jM ?_)
   refine jU ?_
   refine jU ?_
   refine jU ?_
   refine jU ?_
   refine jW rfl rfl au (jM ?_)
   refine jU ?_
   refine jU ?_
   refine jU ?_
   refine jU ?_
   refine jW rfl rfl au (jM ?_)
   refine jU ?_
   refine jU ?_
   refine jU ?_
   refine jU ?_
   refine jW rfl rfl au (jO ?_)
   refine jN ⟨(js5 (jC (by grind)) rfl rfl rfl rfl), rfl⟩
  refine jF rfl rfl au (jM ?_)
  refine jG ?_
  refine jk (Run.index1 3 rfl rfl zl zc jp) ?_
  refine jk (Run.load rfl zi (hcel _ (Frm.refl [] w5).drew 3 _ rfl)) ?_
  refine jk (Run.bin rfl rfl (Bin.gtrN _ 59)) ?_
  by_cases hs108 : 59 < dpN q 3
  ·
   refine jF rfl rfl au (jM ?_)
   refine jU ?_
   refine jU ?_
   refine jU ?_
   refine jU ?_
   refine jW rfl rfl au (jM ?_)
   refine jU ?_
   refine jU ?_
   refine jU ?_
   refine jU ?_
   refine jW rfl rfl au (jM ?_)
   refine jU ?_
   refine jU ?_
   refine jU ?_
   refine jU ?_
   refine jW rfl rfl au (jO ?_)
   refine jN ⟨(js5 (jC (by grind)) rfl rfl rfl rfl), rfl⟩
  refine jF rfl rfl au (jM ?_)
  refine jG ?_
  refine jk (Run.index1 4 rfl rfl zl zc jp) ?_
  refine jk (Run.load rfl zi (hcel _ (Frm.refl [] w5).drew 4 _ rfl)) ?_
  refine jk (Run.bin rfl rfl (Bin.gtrN _ 59)) ?_
  by_cases hs114 : 59 < dpN q 4
  ·
   refine jF rfl rfl au (jM ?_)
   refine jU ?_
   refine jU ?_
   refine jU ?_
   refine jU ?_
   refine jW rfl rfl au (jM ?_)
   refine jU ?_
   refine jU ?_
   refine jU ?_
   refine jU ?_
   refine jW rfl rfl au (jO ?_)
   refine jN ⟨(js5 (jC (by grind)) rfl rfl rfl rfl), rfl⟩
  refine jF rfl rfl au (jM ?_)
  refine jG ?_
  refine jk (Run.index1 5 rfl rfl zl zc jp) ?_
  refine jk (Run.load rfl zi (hcel _ (Frm.refl [] w5).drew 5 _ rfl)) ?_
  refine jk (Run.bin rfl rfl (Bin.gtrN _ 23)) ?_
  by_cases hs120 : 23 < dpN q 5
  ·
   refine jF rfl rfl au (jM ?_)
   refine jU ?_
   refine jU ?_
   refine jU ?_
   refine jU ?_
   refine jW rfl rfl au (jO ?_)
   refine jN ⟨(js5 (jC (by grind)) rfl rfl rfl rfl), rfl⟩
  refine jF rfl rfl au (jM ?_)
  refine jG ?_
  refine jk (Run.index1 6 rfl rfl zl zc jp) ?_
  refine jk (Run.load rfl zi (hcel _ (Frm.refl [] w5).drew 6 _ rfl)) ?_
  refine jk (Run.bin rfl rfl (Bin.gtrN _ 59)) ?_
  by_cases hs126 : 59 < dpN q 6
  ·
   refine jF rfl rfl au (jO ?_)
   refine jN ⟨(js5 (jC (by grind)) rfl rfl rfl rfl), rfl⟩
  refine jF rfl rfl au (jO ?_)
  refine jN ⟨(js5 (jC (by grind)) rfl rfl rfl rfl), rfl⟩
 intro Γ hΓ
 refine jN (VC.sub _ hΓ ?_)
 refine jD rfl (fun hc4 => ?_) fun hc4 => ?_
 ·
  have hno : gF q = none := if_neg fun h => by
   obtain ⟨_, _, _, h1, h2⟩ := h
   have := (hz1 h1).2
   omega
  refine jS (jR (je (Run.build evs.nil lT (eD).choose_spec.1 (eD).choose_spec.2 (cells := #[.int .i64 0, .int .i64 0]) rfl) ?_))
  refine Ops.st (qJ.storeA rfl rfl zbg hb rfl (pT _ _)) ?_
  rintro w8 ⟨hbz, hfz, hsz⟩
  refine jz 4 (jO (jN (jv2 2 3 ?_)))
  refine jT ?_
  refine qZ (bM ?_)
  refine qB rfl zdv zbg (hbz.cells) (by first | rfl | (simp; done) | (simp [*]; done)) ?_
  refine cW rfl ?_
  refine qF ?_
  refine ⟨(K.drew).own hfz (by simp; omega), 0, 0, 4, rfl, ?_⟩
  rw [hno]
  decide
 have hday : cS (dpN q 1) (dpM q) (dpN q 0) := Classical.byContradiction fun h => hc4 (.inl (by rw [hz2 h]; decide))
 obtain ⟨rfl, hcd⟩ := hz1 hday
 have hsome : gF q = some (86400 * fH (dpN q 1) (dpM q) (dpN q 0) + (((3600 * dpN q 2 + 60 * dpN q 3 + dpN q 4 : Nat) : Int) - 60 * dpZ q), dpZ q) := if_pos ⟨hdp, hall, hm0, hday, jo, jo, jo, jo, jo⟩
 have hzb : -7000 ≤ dpZ q ∧ dpZ q ≤ 7000 := by unfold dpZ; split <;> omega
 refine jQ (jN (jv4 0 2 5 8 ?_))
 refine jS ?_
 refine VC.held (fun V => Frm [] w5 V) jK ?_
 have hS : Frm [] w5 w5.drew.drew := (Frm.refl [] w5).drew.drew
 refine jh 0 hS ?_
 refine jH 1 rfl hS (fun w0 hw0 => Run.index1 5 rfl rfl zl zc jp) ?_
 refine jH 2 rfl hS (fun w0 hw0 => Run.load rfl zi (hcel _ hw0 5 _ rfl)) ?_
 refine jH 3 rfl hS (fun w0 hw0 => Run.bin rfl rfl (Bin.mul_i64 60 _ jo)) ?_
 refine jh 4 hS ?_
 refine jH 5 rfl hS (fun w0 hw0 => Run.index1 6 rfl rfl zl zc jp) ?_
 refine jH 6 rfl hS (fun w0 hw0 => Run.load rfl zi (hcel _ hw0 6 _ rfl)) ?_
 refine jH 7 rfl hS (fun w0 hw0 => Run.bin rfl rfl (Bin.add_i64 _ _ jo)) ?_
 refine jH 8 rfl hS (fun w0 hw0 => Run.asg rfl) ?_
 refine qQ.done jK ?_
 refine jN (jv5 0 2 5 8 10 ?_)
 refine jS (jS (jR (jm rfl (je (Run.indexT 21 rfl rfl za (eM jo)) (jb rfl rfl (Bin.eqlN _ 45) (jO (jN (jv5 2 5 8 10 139 ?_))))))))
 refine VC.meet (σ := Unit) (fun s => [(2, jI0 g2), (5, .slice (some ad) 7 d), (8, .int .i64 (fH (dpN q 1) (dpM q) (dpN q 0))), (10, .int .i64 (dpZ q))]) (fun s wr => wr = w5.drew.drew) ?_ ?_
 ·
  refine jD rfl (fun hc5 => ?_) fun hc5 => ?_
  ·
   refine jR (jm rfl (je (Run.negI _ rfl jo) (ja rfl (jO ?_))))
   refine jN ⟨(), (js4 rfl rfl rfl (by unfold dpZ; rw [if_pos hc5]; rfl)), ?_⟩
   rfl
  refine jQ ?_
  refine jN ⟨(), (js4 rfl rfl rfl (by unfold dpZ; rw [if_neg hc5]; rfl)), ?_⟩
  rfl
 rintro _ _ rfl Γ hΓ
 refine jN (VC.sub _ hΓ (jS ?_))
 refine VC.held (fun V => Own V 3 1 (some ad) 7 d (IB [((dpN q 0 : Nat) : Int), ((dpN q 1 : Nat) : Int), ((dpN q 2 : Nat) : Int), ((dpN q 3 : Nat) : Int), ((dpN q 4 : Nat) : Int), ((dpN q 5 : Nat) : Int), ((dpN q 6 : Nat) : Int)])) jK ?_
 have hS0 : Frm [] w5 w5.drew.drew.drew := (Frm.refl [] w5).drew.drew.drew
 have hb := hb.frm hS0 jp
 have hS : Own w5.drew.drew.drew 3 1 (some ad) 7 d (IB [((dpN q 0 : Nat) : Int), ((dpN q 1 : Nat) : Int), ((dpN q 2 : Nat) : Int), ((dpN q 3 : Nat) : Int), ((dpN q 4 : Nat) : Int), ((dpN q 5 : Nat) : Int), ((dpN q 6 : Nat) : Int)]) := hRl.frm hS0 jp
 have hcO : ∀ {W : World}, Own W 3 1 (some ad) 7 d (IB [((dpN q 0 : Nat) : Int), ((dpN q 1 : Nat) : Int), ((dpN q 2 : Nat) : Int), ((dpN q 3 : Nat) : Int), ((dpN q 4 : Nat) : Int), ((dpN q 5 : Nat) : Int), ((dpN q 6 : Nat) : Int)]) → ∀ i v, (IB [((dpN q 0 : Nat) : Int), ((dpN q 1 : Nat) : Int), ((dpN q 2 : Nat) : Int), ((dpN q 3 : Nat) : Int), ((dpN q 4 : Nat) : Int), ((dpN q 5 : Nat) : Int), ((dpN q 6 : Nat) : Int)])[i]? = some v → W.cell? (ad.add i) = some v := fun hW i v h => by
  obtain ⟨a2, e2, _, h2⟩ := hW.rd.2 jd
  cases e2
  exact h2 i v h
 refine jh 0 hS ?_
 refine jH 1 rfl hS (fun w0 hw0 => Run.bin rfl rfl (Bin.mulZ 86400 _ jo jo)) ?_
 refine jh 2 hS ?_
 refine jH 3 rfl hS (fun w0 hw0 => Run.index1 2 rfl rfl zl zc jp) ?_
 refine jH 4 rfl hS (fun w0 hw0 => Run.load rfl zi (hcO hw0 2 _ rfl)) ?_
 refine jH 5 rfl hS (fun w0 hw0 => Run.bin rfl rfl (Bin.mul_i64 3600 _ jo)) ?_
 refine jh 6 hS ?_
 refine jH 7 rfl hS (fun w0 hw0 => Run.index1 3 rfl rfl zl zc jp) ?_
 refine jH 8 rfl hS (fun w0 hw0 => Run.load rfl zi (hcO hw0 3 _ rfl)) ?_
 refine jH 9 rfl hS (fun w0 hw0 => Run.bin rfl rfl (Bin.mul_i64 60 _ jo)) ?_
 refine jH 10 rfl hS (fun w0 hw0 => Run.bin rfl rfl (Bin.add_i64 _ _ jo)) ?_
 refine jh 11 hS ?_
 refine jH 12 rfl hS (fun w0 hw0 => Run.index1 4 rfl rfl zl zc jp) ?_
 refine jH 13 rfl hS (fun w0 hw0 => Run.load rfl zi (hcO hw0 4 _ rfl)) ?_
 refine jH 14 rfl hS (fun w0 hw0 => Run.bin rfl rfl (Bin.add_i64 _ _ jo)) ?_
 refine jh 15 hS ?_
 refine jH 16 rfl hS (fun w0 hw0 => Run.bin rfl rfl (Bin.mulZ 60 _ jo jo)) ?_
 refine jH 17 rfl hS (fun w0 hw0 => Run.bin rfl rfl (Bin.subZ _ _ jo jo)) ?_
 refine jH 18 rfl hS (fun w0 hw0 => Run.bin rfl rfl (Bin.addZ _ _ jo jo)) ?_
 refine jh 19 hS ?_
 refine jH 20 rfl hS (fun w0 hw0 => Run.build (evs.cons rfl (evs.cons rfl evs.nil)) lT (eD).choose_spec.1 (eD).choose_spec.2 (cells := #[.int .i64 (86400 * fH (dpN q 1) (dpM q) (dpN q 0) + (((3600 * dpN q 2 + 60 * dpN q 3 + dpN q 4 : Nat) : Int) - 60 * dpZ q)), .int .i64 (dpZ q)]) rfl) ?_
 refine qQ.st 21 rfl jK (qJ.storeA rfl rfl zbg hb rfl (pT _ _)) trivial rfl ?_
 rintro w9 ⟨hbz, hfz, hsz⟩
 have hS := Own.frm hS hfz (fun y hy h => by rw [zg] at h; subst h; exact Own.ne_blk hS hb jd hy)
 refine ⟨hS, ?_⟩
 refine qQ.take (v := jI1 0) 22 rfl jK jK jK hS (fun w0 hw0 => Run.asg rfl) trivial rfl rfl ?_
 refine qQ.done jK ?_
 refine jN (jv2 2 3 ?_)
 refine jT ?_
 refine bM ?_
 refine qB rfl zdv zbg (hbz.cells) (by first | rfl | (simp; done) | (simp [*]; done)) ?_
 refine cW rfl ?_
 refine qF ?_
 refine ⟨(K.trans hS0 jp).own hfz (by simp; omega), _, _, 0, rfl, ?_⟩
 rw [hsome]
 exact ⟨rfl, rfl⟩
def xB (d m y : Tx) : Prop := (AllD d ∧ d ≠ []) ∧ (AllD y ∧ y ≠ []) ∧ d.length ≤ 2 ∧ y.length = 4 ∧ eQ m ≠ 0 ∧ cS (bP 0 y) (eQ m) (bP 0 d)
instance (d m y : Tx) : Decidable (xB d m y) := by unfold xB; infer_instance
def rK (d m y : Tx) : Option Int := if xB d m y then some (fH (bP 0 y) (eQ m) (bP 0 d)) else none
theorem zS (d m y : Tx) (w : World) (h1 : d.length ≤ 1000000) (h2 : m.length ≤ 1000000) (h3 : y.length ≤ 1000000) : Calls Tryz.prog 134 #[encStr d, encStr m, encStr y] w fun e w' => Frm [] w w' ∧ ∃ z code, e = .returned (.tuple #[.int .i64 z, .int .i64 code]) ∧ match rK d m y with
   | none => code ≠ 0
   | some p => p = z ∧ code = 0 := by
 refine jV Tryz.func134 Tryz.ntmps134 Tryz.results134 ?_
 refine jS (jR (jz 0 (jz 0 (jO (jN (jv3 0 1 2 ?_))))))
 refine jS (jR (jM ?_))
 refine jc (jE1 Tryz.call128) (kD d w h1) ?_
 rintro _ _ ⟨rfl, va, rfl, hva⟩
 refine ⟨_, rfl, ?_⟩
 refine jm rfl (jY rfl rfl (jY rfl rfl (ja rfl (ja rfl (jO (jN (jv5 0 1 2 8 9 ?_)))))))
 refine jS (jR (jM ?_))
 refine jc (jE1 Tryz.call128) (kD y w h3) ?_
 rintro _ _ ⟨rfl, vb, rfl, hvb⟩
 refine ⟨_, rfl, ?_⟩
 refine jm rfl (jY rfl rfl (jY rfl rfl (ja rfl (ja rfl (jO (jN (jv7 0 1 2 8 9 10 11 ?_)))))))
 refine jS (jR (jM ?_))
 refine jc (jE1 Tryz.call92) (pS m w h2) ?_
 rintro _ w1 ⟨rfl, f1⟩
 refine ⟨_, rfl, ?_⟩
 refine ja rfl (jO (jN (jv7 0 2 8 9 10 11 12 ?_)))
 refine jS (jS ?_)
 refine VC.split1 [(8, _), (10, _), (12, _)] (js3 rfl rfl rfl) 44 (.bool (decide (¬ (AllD d ∧ d ≠ []) ∨ ¬ (AllD y ∧ y ≠ []) ∨ 2 < d.length ∨ y.length ≠ 4 ∨ eQ m = 0))) ?_ ?_
 ·
  refine jR (jM ?_)
  by_cases hs25 : AllD d ∧ d ≠ []
  ·
   refine je (Run.not rfl) (jM ?_)
   refine jG ?_
   by_cases hs28 : AllD y ∧ y ≠ []
   ·
    refine jk (Run.not rfl) ?_
    refine jF rfl rfl au (jM ?_)
    refine jG ?_
    refine jk (Run.lenT rfl za) ?_
    refine jk (Run.bin rfl rfl (Bin.gtrN _ 2)) ?_
    by_cases hs34 : 2 < d.length
    ·
     refine jF rfl rfl au (jM ?_)
     refine jU ?_
     refine jU ?_
     refine jU ?_
     refine jW rfl rfl au (jM ?_)
     refine jU ?_
     refine jU ?_
     refine jW rfl rfl au (jO ?_)
     refine jN ⟨(js4 (jC (by grind)) rfl rfl rfl), rfl⟩
    refine jF rfl rfl au (jM ?_)
    refine jG ?_
    refine jk (Run.lenT rfl za) ?_
    refine jk (Run.bin rfl rfl (Bin.neqN _ 4)) ?_
    by_cases hs39 : y.length ≠ 4
    ·
     refine jF rfl rfl au (jM ?_)
     refine jU ?_
     refine jU ?_
     refine jW rfl rfl au (jO ?_)
     refine jN ⟨(js4 (jC (by grind)) rfl rfl rfl), rfl⟩
    refine jF rfl rfl au (jM ?_)
    refine jG ?_
    refine jk (Run.bin rfl rfl (Bin.eqlN _ 0)) ?_
    by_cases hs43 : eQ m = 0
    ·
     refine jF rfl rfl au (jO ?_)
     refine jN ⟨(js4 (jC (by grind)) rfl rfl rfl), rfl⟩
    refine jF rfl rfl au (jO ?_)
    refine jN ⟨(js4 (jC (by grind)) rfl rfl rfl), rfl⟩
   refine jk (Run.not rfl) ?_
   refine jF rfl rfl au (jM ?_)
   refine jU ?_
   refine jU ?_
   refine jU ?_
   refine jW rfl rfl au (jM ?_)
   refine jU ?_
   refine jU ?_
   refine jU ?_
   refine jW rfl rfl au (jM ?_)
   refine jU ?_
   refine jU ?_
   refine jW rfl rfl au (jO ?_)
   refine jN ⟨(js4 (jC (by grind)) rfl rfl rfl), rfl⟩
  refine je (Run.not rfl) (jM ?_)
  refine jU ?_
  refine jU ?_
  refine jW rfl rfl au (jM ?_)
  refine jU ?_
  refine jU ?_
  refine jU ?_
  refine jW rfl rfl au (jM ?_)
  refine jU ?_
  refine jU ?_
  refine jU ?_
  refine jW rfl rfl au (jM ?_)
  refine jU ?_
  refine jU ?_
  refine jW rfl rfl au (jO ?_)
  refine jN ⟨(js4 (jC (by grind)) rfl rfl rfl), rfl⟩
 intro Γ hΓ
 refine jN (VC.sub _ hΓ ?_)
 refine jD rfl (fun hc1 => ?_) fun hc1 => ?_
 ·
  have hno : rK d m y = none := if_neg fun h => by
   obtain ⟨k1, k2, k3, k4, k5, _⟩ := h
   rcases hc1 with h | h | h | h | h
   · exact h k1
   · exact h k2
   · omega
   · exact h k4
   exact k5 h
  refine jS (jR (jz 0 (jz 3 (jO (jN (jv2 6 7 ?_))))))
  refine jT ?_
  refine qZ (fD rfl rfl ?_)
  exact ⟨f1, 0, 3, rfl, by rw [hno]; decide⟩
 have k1 : AllD d ∧ d ≠ [] := Classical.byContradiction fun h => hc1 (.inl h)
 have k2 : AllD y ∧ y ≠ [] := Classical.byContradiction fun h => hc1 (.inr (.inl h))
 have k3 : d.length ≤ 2 := by
  rcases Nat.lt_or_ge 2 d.length with h | h
  · exact absurd (.inr (.inr (.inl h))) hc1
  exact h
 have k4 : y.length = 4 := Classical.byContradiction fun h => hc1 (.inr (.inr (.inr (.inl h))))
 have k5 : eQ m ≠ 0 := fun h => hc1 (.inr (.inr (.inr (.inr h))))
 have b1 := kC d 0 0 k1.1 jd
 have b2 := kC y 0 0 k2.1 jd
 have b3 : 10 ^ (0 + d.length) ≤ 10 ^ 2 := zea jd jo
 rw [k4] at b2
 have b4 := vF m
 rw [hva k1.1 jo, hvb k2.1 jo]
 refine jQ (jN (jv3 8 10 12 ?_))
 refine jS (jR (jm rfl (jm rfl (jM ?_))))
 refine jc (jE3 Tryz.call93) (sQ (bP 0 y) (eQ m) (bP 0 d) w1 jo jo b4 jo) ?_
 rintro _ _ ⟨rfl, rfl⟩
 obtain ⟨z, cd, hzc, hz1, hz2⟩ : ∃ (z cd : Int), (if cS (bP 0 y) (eQ m) (bP 0 d) then (Value.tuple #[.int .i64 (fH (bP 0 y) (eQ m) (bP 0 d)), .int .i64 0]) else .tuple #[.int .i64 0, .int .i64 4]) = .tuple #[.int .i64 z, .int .i64 cd] ∧ (cS (bP 0 y) (eQ m) (bP 0 d) → z = fH (bP 0 y) (eQ m) (bP 0 d) ∧ cd = 0) ∧ (¬ cS (bP 0 y) (eQ m) (bP 0 d) → cd = 4) := by
  split
  · exact ⟨_, _, rfl, fun _ => ⟨rfl, rfl⟩, fun h => absurd ‹_› h⟩
  exact ⟨_, _, rfl, fun h => absurd h ‹_›, fun _ => rfl⟩
 rw [hzc]
 refine ⟨_, rfl, ?_⟩
 refine jY rfl rfl (jY rfl rfl (ja rfl (ja rfl (jO (jN (jv2 6 7 ?_))))))
 refine jT ?_
 refine fD rfl rfl ?_
 refine ⟨f1, z, cd, rfl, ?_⟩
 by_cases hd : cS (bP 0 y) (eQ m) (bP 0 d)
 ·
  rw [show rK d m y = some (fH (bP 0 y) (eQ m) (bP 0 d)) from if_pos ⟨k1, k2, k3, k4, k5, hd⟩]
  exact ⟨(hz1 hd).1.symm, (hz1 hd).2⟩
 rw [show rK d m y = none from if_neg fun h => hd h.2.2.2.2.2]
 rw [hz2 hd]
 show (4 : Int) ≠ 0
 decide
def gS (t : Tx) : List Tx := (Lib.splitB ⟨#[45]⟩ 0 (Lib.countB ⟨t.toArray⟩ ⟨#[45]⟩) ⟨t.toArray⟩).map fun b => b.data.toList
def mM (q : Tx) : Option Int := match gS q with
 | [d, m, y] => rK d m y
 | _ => none
theorem vA (t : Tx) : Lib.countB ⟨t.toArray⟩ ⟨#[45]⟩ ≤ t.length := by
 have h := Lib.countB_le ⟨#[45]⟩ jd _ ⟨t.toArray⟩ (zt _)
 have e : (⟨t.toArray⟩ : ByteArray).size = t.length := by show t.toArray.size = _; simp
 omega
theorem qXn (t : Tx) : (gS t).length ≤ t.length + 1 ∧ ∀ x ∈ gS t, x.length ≤ t.length := by
 have h1 := vA t
 have e : (⟨t.toArray⟩ : ByteArray).size = t.length := by show t.toArray.size = _; simp
 refine ⟨by unfold gS; rw [zbc, Lib.splitB_all _ jd 0 _ _ rfl]; omega, fun x hx => ?_⟩
 obtain ⟨b, hb, rfl⟩ := List.mem_map.1 hx
 have := oN _ _ _ b hb
 have e2 : b.data.toList.length = b.size := by simp
 omega
theorem qXo (t : Tx) (w : World) (ht : t.length ≤ 1000000) (hv : bT w) : Calls Tryz.prog 133 #[encStr t, encStr [45]] w fun e w' => Frm [] w w' ∧ ∃ A c, e = .returned (.slice A (gS t).length c) ∧ Own w' 9 1 A (gS t).length c (SB (gS t)) ∧ ∀ x ∈ ob A, w.heap.size ≤ x := by
 obtain ⟨⟨m, hm⟩, _⟩ := hv
 refine (Tryz.strings_Split ⟨t.toArray⟩ ⟨#[45]⟩ m w (by show t.toArray.size < _; simp; omega) hm jd).mono fun e w' ⟨h1, h2⟩ => ?_
 have hl : (gS t).length = Lib.countB ⟨t.toArray⟩ ⟨#[45]⟩ + 1 := by unfold gS; rw [zbc, Lib.splitB_all _ jd 0 _ _ rfl]
 have hcs : ((Lib.splitB ⟨#[45]⟩ 0 (Lib.countB ⟨t.toArray⟩ ⟨#[45]⟩) ⟨t.toArray⟩).map Value.string).toArray.toList = SB (gS t) := by
  unfold gS SB
  rw [zcs]
  apply zbx
  intro b _
  simp [encStr]
 have hb : Blk w' w.heap.size 9 ((Lib.splitB ⟨#[45]⟩ 0 (Lib.countB ⟨t.toArray⟩ ⟨#[45]⟩) ⟨t.toArray⟩).map Value.string).toArray := by
  rw [h2]
  exact heap_alloc_new w _
 have hcl := vA t
 have hO := Own.of_blk (n := (gS t).length) (size := 1) hb (by rw [zcl, zbc, hl, Lib.splitB_all _ jd 0 _ _ rfl]; omega) (by rw [hl]; unfold maxLen; omega)
 rw [hcs] at hO
 refine ⟨h2 ▸ (Frm.refl [] w).alloc _, _, _, by rw [h1, hl], by rw [← hl]; exact hO, by simp [ob]⟩
theorem zT (q : Tx) (w : World) (hq : q.length ≤ 1000000) (hv : bT w) : Calls Tryz.prog 96 #[encStr q] w fun e w' => Frm [] w w' ∧ ∃ z code, e = .returned (.tuple #[.int .i64 z, .int .i64 code]) ∧ match mM q with
   | none => code ≠ 0
   | some p => p = z ∧ code = 0 := by
 refine jV Tryz.func96 Tryz.ntmps96 Tryz.results96 ?_
 refine jS (jR (jz 0 (jz 0 (jO (jN (jv1 0 ?_))))))
 refine jS (jR (jM ?_))
 refine jc (jE2 Tryz.call133) (qXo q w hq hv) ?_
 rintro e w1 ⟨f1, A, c, rfl, hO, _⟩
 have hsl := (qXn q).2
 obtain ⟨ls, hls⟩ : ∃ l, l = gS q := ⟨_, rfl⟩
 rw [← hls] at hO hsl
 rw [← hls]
 refine ⟨_, rfl, ?_⟩
 refine ja rfl (jO (jN (jv1 4 ?_)))
 refine jS (jS (jR (jm rfl (jL rfl zp (jb rfl rfl (Bin.neqN _ 3) (jO (jN (jv2 4 9 ?_))))))))
 refine jD rfl (fun hc1 => ?_) fun hc1 => ?_
 ·
  have hno : mM q = none := by
   unfold mM
   rw [← hls]
   split
   · simp at hc1
   rfl
  refine jS (jR (jz 0 (jz 3 (jO (jN (jv2 2 3 ?_))))))
  refine jT ?_
  refine qZ (fD rfl rfl ?_)
  exact ⟨f1, 0, 3, rfl, by rw [hno]; decide⟩
 obtain ⟨a, b, c3, rfl⟩ : ∃ a b c3, ls = [a, b, c3] := by
  match ls, (show ls.length = 3 from Classical.not_not.1 hc1) with
  | [a, b, c3], _ => exact ⟨a, b, c3, rfl⟩
 have hsome : mM q = rK a b c3 := by unfold mM; rw [← hls]
 obtain ⟨ad, rfl, _⟩ := hO.rd.2 jp
 have hcel : ∀ W, Frm [] w1 W → ∀ i v, (SB [a, b, c3])[i]? = some v → W.cell? (ad.add i) = some v := fun W hW i v h => by
  obtain ⟨a2, e2, _, h2⟩ := (hO.rd.frm hW jp).2 jp
  cases e2
  exact h2 i v h
 refine jQ (jN (jv1 4 ?_))
 refine jS ?_
 refine VC.held (fun V => Frm [] w1 V) jK ?_
 have hS : Frm [] w1 w1.drew := (Frm.refl [] w1).drew
 refine jh 0 hS ?_
 refine jH 1 rfl hS (fun w0 hw0 => Run.index1 0 rfl rfl zp zd jp) ?_
 refine jH 2 rfl hS (fun w0 hw0 => Run.load rfl zj (hcel _ hw0 0 _ rfl)) ?_
 refine jh 3 hS ?_
 refine jH 4 rfl hS (fun w0 hw0 => Run.index1 1 rfl rfl zp zd jp) ?_
 refine jH 5 rfl hS (fun w0 hw0 => Run.load rfl zj (hcel _ hw0 1 _ rfl)) ?_
 refine jh 6 hS ?_
 refine jH 7 rfl hS (fun w0 hw0 => Run.index1 2 rfl rfl zp zd jp) ?_
 refine jH 8 rfl hS (fun w0 hw0 => Run.load rfl zj (hcel _ hw0 2 _ rfl)) ?_
 refine qQ.cl 9 rfl jK (jE3 Tryz.call134) (zS a b c3 _ (by have := hsl a jp; omega) (by have := hsl b jp; omega) (by have := hsl c3 jp; omega)) trivial rfl rfl ?_
 rintro _ w2 ⟨f2, z, cd, rfl, hz⟩
 have hS := hS.trans f2 jp
 refine ⟨_, rfl, hS, ?_⟩
 refine jH 10 rfl hS (fun w0 hw0 => Run.extract rfl rfl) ?_
 refine jH 11 rfl hS (fun w0 hw0 => Run.extract rfl rfl) ?_
 refine jH 12 rfl hS (fun w0 hw0 => Run.asg rfl) ?_
 refine jH 13 rfl hS (fun w0 hw0 => Run.asg rfl) ?_
 refine qQ.done jK ?_
 refine jN (jv2 2 3 ?_)
 refine jT ?_
 refine fD rfl rfl ?_
 exact ⟨f1.trans hS jp, z, cd, rfl, by rw [hsome]; exact hz⟩
end
end Go.Proofs.YtjklfpccmaljjaaGreatDoor
