/-
  Lemmas on the way, joined: CmdG, CmdB, CmdK, Shelf, SeqP, ParV, Sec0, SecV, SecU, SecR, SeqC, SecN, CmdD, SeqN, SeqK, CmdE, CmdF, CmdH, CmdI, Eng27.
-/
import Derived.Shelf.Strings.Builder1
import Derived.Shelf.Strings.Builder2
import Derived.Shelf.Strings.OnBuilder
import Derived.Shelf.Strings.Trim
import Derived.Shelf.Small.Utf8
import Derived.Shelf.Small.Strs
import Derived.Shelf.Small.Wraps
import Derived.Shelf.Strings.BuilderF
import Derived.Shelf.Strings.BuilderK
import Derived.Shelf.Strconv.Atoi
import Derived.Shelf.Strconv.Itoa0
import Derived.Shelf.Strconv.Itoa1
import Derived.Shelf.LaysM
import Derived.Shelf.Strconv.Itoa2
import Derived.Shelf.Strconv.Itoa3
import Derived.Shelf.Strconv.AtoiErrFast
import Derived.Shelf.Strconv.ParseIntEmpty
import Derived.Shelf.Strconv.AtoiFail
import Derived.Shelf.Strconv.Clone
import Derived.Shelf.Strconv.SyntaxError
import Derived.Shelf.LaysC
import Derived.Shelf.Strconv.ToError
import Derived.Shelf.Strconv.AtoiErr
import Derived.Shelf.Strconv.ErrVar
import Derived.Shelf.Strconv.Lower
import Derived.Shelf.Strconv.ParseUint10
import Derived.Shelf.Strconv.ParseUint10Empty
import Derived.Shelf.Strconv.ParseUint10Any
import Derived.Shelf.Strconv.ParseInt10
import Derived.Shelf.Strconv.AtoiLong
import Derived.Shelf.Strconv.AtoiInnerAll
import Derived.Shelf.Strconv.RangeError
import Derived.Shelf.Strconv.ToErrorRange
import Derived.Shelf.Strconv.AtoiAll
import Derived.Shelf.Strconv.ErrVarAll
import Derived.Shelf.Strings.Search1
import Derived.Shelf.Strings.Search2
import Derived.Shelf.Strings.Search3
import Derived.Shelf.Strings.Cut
import Derived.Shelf.Strings.Count
import Derived.Shelf.Strings.Shaped
import Derived.Shelf.GgClosure.StringsIndexFunc
import Derived.Ground.GgwProg
import Derived.Shelf.GgClosure.StringsIndexFuncTop
import Derived.Shelf.GgClosure.StringsRunes
import Derived.Shelf.Strings.Prefix
import Derived.Shelf.Strings.Split
import Derived.Shelf.Strings.SplitShaped
import Derived.Shelf.Strings.Runes
import Derived.Shelf.Strings.AsciiSet
import Derived.Shelf.Unicode.DecodeSlow
import Derived.Shelf.Unicode.DecodeAny
import Derived.Shelf.Unicode.DecodeLast
import Derived.Shelf.Strings.FuncGrows
import Derived.Test.YtjklfpccmaljjaaGreatDoorProg
import Derived.Lib.Bytealg
import Derived.Lib.SlicesCompact
import Derived.Test.YtjklfpccmaljjaaGreatDoorPk0
set_option maxRecDepth 100000
set_option linter.unusedVariables false
set_option linter.unusedSimpArgs false
set_option maxHeartbeats 8000000
namespace Go.Proofs.YtjklfpccmaljjaaGreatDoor
section
open Go.RowKit
def gre (c : UInt8) : UInt8 := if 97 ≤ c.toNat ∧ c.toNat ≤ 122 then c - 32 else c
theorem gM (c : UInt8) : (gre c).toNat = if 97 ≤ c.toNat ∧ c.toNat ≤ 122 then c.toNat - 32 else c.toNat := by
 unfold gre
 split
 ·
  rename_i h
  have h32 : (32 : UInt8).toNat = 32 := rfl
  rw [UInt8.toNat_sub_of_le _ _ (by rw [UInt8.le_iff_toNat_le]; omega), h32]
 rfl
def qS (s : Tx) : Tx := s.map gre
theorem dW (s : Tx) : (qS s).length = s.length := by simp [qS]
theorem pS {n i : Nat} {cs : Array Value} {l : List UInt8} {c : UInt8} (h : cs.toList.take n = U8 l) (hl : l.length = n) (hi : i < n) : (cs.setIfInBounds i (.int .u8 ((c.toNat : Nat) : Int))).toList.take n = U8 (l.set i c) := by
 rw [zcx, List.take_set, h]
 simp [U8, List.map_set]
theorem gC {s : Tx} {i : Nat} (h : i < s.length) : ((s.take i).map gre ++ s.drop i).set i (gre s[i]) = (s.take (i + 1)).map gre ++ s.drop (i + 1) := by
 have e1 : ((s.take i).map gre).length = i := by simp; omega
 rw [List.set_append_right _ _ jo, e1, Nat.sub_self, zcb h, List.set_cons_zero]
 have e2 : s.take (i + 1) = s.take i ++ [s[i]] := by rw [zbc, zc h]; rfl
 rw [e2]
 simp only [List.map_append, zaf, List.map_nil, List.append_assoc, List.cons_append, zda]
theorem mX {s : Tx} {i : Nat} (h : i < s.length) (hl : gre s[i] = s[i]) : (s.take i).map gre ++ s.drop i = (s.take (i + 1)).map gre ++ s.drop (i + 1) := by
 rw [← gC h, hl]
 apply List.ext_getElem?
 intro j
 by_cases hj : j = i
 ·
  subst hj
  have e1 : ((s.take j).map gre).length = j := by simp; omega
  rw [List.getElem?_set_self (by simp; omega), zbz jo, e1, Nat.sub_self, zcb h]
  rfl
 rw [List.getElem?_set_ne (Ne.symm hj)]
theorem jI (q : Tx) (w : World) (hq : q.length ≤ 1000000) : Calls Tryz.prog 149 #[encStr q] w fun e w' => e = .returned (encStr (qS q)) ∧ Frm [] w w' := by
 refine jV Tryz.func149 Tryz.ntmps149 Tryz.results149 ?_
 refine jS (jR (ja rfl (jO (jN (jv1 0 ?_)))))
 refine jS (jR (jM ?_))
 refine Ops.m (qV.bytesOfT rfl za zad zag) rfl ?_
 rintro _ w1 ⟨c1, cs1, rfl, hF1, ht1, hf1⟩
 have hge : w.heap.size ≤ w.heap.size := zaj _
 generalize hg : w.heap.size = g1 at hF1 hge ⊢
 refine ja rfl (jO (jN (jv1 3 ?_)))
 refine jS (jS (jR (jm rfl (jL rfl zad ?_))))
 refine jx .i64 0 ?_
 refine jO (jN (jB ?_))
 refine VC.loop (σ := Nat) (fun s => [(3, .slice (some ⟨g1, 0, none⟩) q.length c1), (8, .slice (some ⟨g1, 0, none⟩) q.length c1), (9, jI1 q.length), (10, jI1 s)]) (fun s wr => s ≤ q.length ∧ Frm [] w wr ∧ ∃ cs, Fro wr g1 5 cs ∧ cs.toList.take q.length = U8 ((q.take s).map gre ++ q.drop s)) (fun s => q.length - s) 0 (js4 rfl rfl rfl rfl) ⟨jo, hf1, cs1, hF1, by simpa using ht1⟩ ?_
 rintro i wr ⟨hi, hfr, cs, hF, ht⟩
 refine jS (jR (jb rfl rfl (Bin.lssN _ _) (jO (jN (jS ?_)))))
 refine jD rfl (fun hc1 => ?_) fun hc1 => ?_
 ·
  have hrd : Rd wr 1 (some ⟨g1, 0, none⟩) q.length (U8 ((q.take i).map gre ++ q.drop i)) := by
   have h := hF.rd (l := (q.take i).map gre ++ q.drop i) (by simpa [zcm hi, zcz hi] using ht)
   simpa [zcm hi, zcz hi] using h
  have hcell : wr.cell? ((⟨g1, 0, none⟩ : Addr).add (i * 1)) = some (.int .u8 ((q[i].toNat : Nat) : Int)) := by
   rw [zcy]
   obtain ⟨ad, u, hA, hu, hc⟩ := hrd.at1 hc1
   cases hA
   rw [hc, ← hu]
   simp [U8, zbz, zcm hi, zc, hc1]
  have hll : ((q.take i).map gre ++ q.drop i).length = q.length := by simp; omega
  have hsz : i < cs.size := by
   have := congrArg List.length ht
   simp [U8] at this
   omega
  refine jQ (jN (jv4 3 8 9 10 ?_))
  refine jS (jB (jS (jR (jm rfl (je (Run.indexS i rfl rfl zad zan hc1) (jl rfl zbo hcell (ja rfl (ja rfl (jO (jN (jv6 3 4 5 8 9 10 ?_)))))))))))
  refine jS ?_
  refine VC.split1 [(3, _), (4, _), (5, _), (8, _), (9, _), (10, _)] (js6 rfl rfl rfl rfl rfl rfl) 20 (.bool (decide ((97 ≤ q[i].toNat) ∧ (q[i].toNat ≤ 122)))) ?_ ?_
  ·
   by_cases hs0 : 97 ≤ q[i].toNat
   ·
    refine jR (jm rfl (jb rfl rfl (Bin.geqN _ 97) (jM ?_)))
    refine jG ?_
    refine jk (Run.bin rfl rfl (Bin.leqN _ 122)) ?_
    refine jW rfl rfl au (jO ?_)
    refine jN ⟨(js7 (by rw [tQ hs0]; rfl) rfl rfl rfl rfl rfl rfl), rfl⟩
   refine jR (jm rfl (jb rfl rfl (Bin.geqN _ 97) (jM ?_)))
   refine jU ?_
   refine jU ?_
   refine jF rfl rfl au (jO ?_)
   refine jN ⟨(js7 (by rw [tX hs0]; rfl) rfl rfl rfl rfl rfl rfl), rfl⟩
  intro Γ hΓ
  refine jN (VC.sub _ hΓ ?_)
  refine VC.meet (σ := Unit) (fun s => [(3, .slice (some ⟨g1, 0, none⟩) q.length c1), (8, .slice (some ⟨g1, 0, none⟩) q.length c1), (9, jI1 q.length), (10, jI1 i)]) (fun s wm => Frm [] w wm ∧ ∃ cs, Fro wm g1 5 cs ∧ cs.toList.take q.length = U8 ((q.take (i + 1)).map gre ++ q.drop (i + 1))) ?_ ?_
  ·
   refine jD rfl (fun hc2 => ?_) fun hc2 => ?_
   ·
    refine jR (jm rfl (jm rfl (jm rfl (jb rfl rfl (Bin.sub_u8 _ 32 jo jo) ?_))))
    rw [show (q[i].toNat - 32 : Nat) = (gre q[i]).toNat by rw [gM, if_pos hc2]]
    refine je (Run.indexS i rfl rfl zad zan hc1) ?_
    rw [show (⟨g1, 0, none⟩ : Addr).add (i * 1) = ⟨g1, i, none⟩ by unfold Addr.add; rw [zcy]; split <;> simp_all]
    refine Ops.st (qQ.storeFro rfl rfl zan hF hsz rfl) ?_
    rintro w2 ⟨hF2, hf2, hs2⟩
    refine jO ?_
    refine jN ⟨(), (js4 rfl rfl rfl rfl), ?_⟩
    exact ⟨hfr.own hf2 (fun x hx => by simp at hx; omega), _, hF2, by rw [pS ht hll hc1, gC hc1]⟩
   refine jQ ?_
   refine jN ⟨(), (js4 rfl rfl rfl rfl), ?_⟩
   exact ⟨hfr, cs, hF, by rw [ht, mX hc1 (UInt8.toNat_inj.1 (by rw [gM, if_neg hc2]))]⟩
  rintro _ wm ⟨hfr2, cs2, hF2, ht2⟩ Γ hΓ
  refine qW (jN (VC.sub _ hΓ ?_))
  refine jR (jb rfl rfl (Bin.add_i64 _ 1 jo) (jm rfl (jO ?_)))
  refine jN ⟨(i + 1), (js4 rfl rfl rfl rfl), ?_, ?_⟩
  · exact ⟨hc1, hfr2, cs2, hF2, ht2⟩
  exact jq
 refine jX ?_
 refine qK (qK (qH ?_))
 refine jN (jv1 3 ?_)
 refine jS (jR (jM ?_))
 have hR : Rd wr 1 (some ⟨g1, 0, none⟩) q.length (U8 (qS q)) := by
  have him : i = q.length := jo
  subst him
  have h := hF.rd (l := qS q) (by rw [dW, ht]; simp [qS])
  rwa [dW] at h
 refine je (Run.strOfT rfl zad zag za hR) (ja rfl (jO (jN (jv1 2 ?_))))
 refine jT ?_
 refine qN rfl ?_
 exact ⟨rfl, hfr⟩
theorem eX (q : Tx) (w : World) (hq : q.length ≤ 1000000) : Calls Tryz.prog 30 #[encStr q] w fun e w' => e = .returned (encStr (qS q)) ∧ Frm [] w w' := by
 refine jV Tryz.func30 Tryz.ntmps30 Tryz.results30 ?_
 refine jS (jR (ja rfl (jO (jN (jv1 0 ?_)))))
 refine jS (jR (jM ?_))
 refine Ops.m (qV.bytesOfT rfl za zad zag) rfl ?_
 rintro _ w1 ⟨c1, cs1, rfl, hF1, ht1, hf1⟩
 have hge : w.heap.size ≤ w.heap.size := zaj _
 generalize hg : w.heap.size = g1 at hF1 hge ⊢
 refine ja rfl (jO (jN (jv1 3 ?_)))
 refine jS (jS (jR (jm rfl (jL rfl zad ?_))))
 refine jx .i64 0 ?_
 refine jO (jN (jB ?_))
 refine VC.loop (σ := Nat) (fun s => [(3, .slice (some ⟨g1, 0, none⟩) q.length c1), (8, .slice (some ⟨g1, 0, none⟩) q.length c1), (9, jI1 q.length), (10, jI1 s)]) (fun s wr => s ≤ q.length ∧ Frm [] w wr ∧ ∃ cs, Fro wr g1 5 cs ∧ cs.toList.take q.length = U8 ((q.take s).map gre ++ q.drop s)) (fun s => q.length - s) 0 (js4 rfl rfl rfl rfl) ⟨jo, hf1, cs1, hF1, by simpa using ht1⟩ ?_
 rintro i wr ⟨hi, hfr, cs, hF, ht⟩
 refine jS (jR (jb rfl rfl (Bin.lssN _ _) (jO (jN (jS ?_)))))
 refine jD rfl (fun hc1 => ?_) fun hc1 => ?_
 ·
  have hrd : Rd wr 1 (some ⟨g1, 0, none⟩) q.length (U8 ((q.take i).map gre ++ q.drop i)) := by
   have h := hF.rd (l := (q.take i).map gre ++ q.drop i) (by simpa [zcm hi, zcz hi] using ht)
   simpa [zcm hi, zcz hi] using h
  have hcell : wr.cell? ((⟨g1, 0, none⟩ : Addr).add (i * 1)) = some (.int .u8 ((q[i].toNat : Nat) : Int)) := by
   rw [zcy]
   obtain ⟨ad, u, hA, hu, hc⟩ := hrd.at1 hc1
   cases hA
   rw [hc, ← hu]
   simp [U8, zbz, zcm hi, zc, hc1]
  have hll : ((q.take i).map gre ++ q.drop i).length = q.length := by simp; omega
  have hsz : i < cs.size := by
   have := congrArg List.length ht
   simp [U8] at this
   omega
  refine jQ (jN (jv4 3 8 9 10 ?_))
  refine jS (jB (jS (jR (jm rfl (je (Run.indexS i rfl rfl zad zan hc1) (jl rfl zbo hcell (ja rfl (ja rfl (jO (jN (jv6 3 4 5 8 9 10 ?_)))))))))))
  refine jS ?_
  refine VC.split1 [(3, _), (4, _), (5, _), (8, _), (9, _), (10, _)] (js6 rfl rfl rfl rfl rfl rfl) 20 (.bool (decide ((97 ≤ q[i].toNat) ∧ (q[i].toNat ≤ 122)))) ?_ ?_
  ·
   by_cases hs0 : 97 ≤ q[i].toNat
   ·
    refine jR (jm rfl (jb rfl rfl (Bin.geqN _ 97) (jM ?_)))
    refine jG ?_
    refine jk (Run.bin rfl rfl (Bin.leqN _ 122)) ?_
    refine jW rfl rfl au (jO ?_)
    refine jN ⟨(js7 (by rw [tQ hs0]; rfl) rfl rfl rfl rfl rfl rfl), rfl⟩
   refine jR (jm rfl (jb rfl rfl (Bin.geqN _ 97) (jM ?_)))
   refine jU ?_
   refine jU ?_
   refine jF rfl rfl au (jO ?_)
   refine jN ⟨(js7 (by rw [tX hs0]; rfl) rfl rfl rfl rfl rfl rfl), rfl⟩
  intro Γ hΓ
  refine jN (VC.sub _ hΓ ?_)
  refine VC.meet (σ := Unit) (fun s => [(3, .slice (some ⟨g1, 0, none⟩) q.length c1), (8, .slice (some ⟨g1, 0, none⟩) q.length c1), (9, jI1 q.length), (10, jI1 i)]) (fun s wm => Frm [] w wm ∧ ∃ cs, Fro wm g1 5 cs ∧ cs.toList.take q.length = U8 ((q.take (i + 1)).map gre ++ q.drop (i + 1))) ?_ ?_
  ·
   refine jD rfl (fun hc2 => ?_) fun hc2 => ?_
   ·
    refine jR (jm rfl (jm rfl (jm rfl (jb rfl rfl (Bin.sub_u8 _ 32 jo jo) ?_))))
    rw [show (q[i].toNat - 32 : Nat) = (gre q[i]).toNat by rw [gM, if_pos hc2]]
    refine je (Run.indexS i rfl rfl zad zan hc1) ?_
    rw [show (⟨g1, 0, none⟩ : Addr).add (i * 1) = ⟨g1, i, none⟩ by unfold Addr.add; rw [zcy]; split <;> simp_all]
    refine Ops.st (qQ.storeFro rfl rfl zan hF hsz rfl) ?_
    rintro w2 ⟨hF2, hf2, hs2⟩
    refine jO ?_
    refine jN ⟨(), (js4 rfl rfl rfl rfl), ?_⟩
    exact ⟨hfr.own hf2 (fun x hx => by simp at hx; omega), _, hF2, by rw [pS ht hll hc1, gC hc1]⟩
   refine jQ ?_
   refine jN ⟨(), (js4 rfl rfl rfl rfl), ?_⟩
   exact ⟨hfr, cs, hF, by rw [ht, mX hc1 (UInt8.toNat_inj.1 (by rw [gM, if_neg hc2]))]⟩
  rintro _ wm ⟨hfr2, cs2, hF2, ht2⟩ Γ hΓ
  refine qW (jN (VC.sub _ hΓ ?_))
  refine jR (jb rfl rfl (Bin.add_i64 _ 1 jo) (jm rfl (jO ?_)))
  refine jN ⟨(i + 1), (js4 rfl rfl rfl rfl), ?_, ?_⟩
  · exact ⟨hc1, hfr2, cs2, hF2, ht2⟩
  exact jq
 refine jX ?_
 refine qK (qK (qH ?_))
 refine jN (jv1 3 ?_)
 refine jS (jR (jM ?_))
 have hR : Rd wr 1 (some ⟨g1, 0, none⟩) q.length (U8 (qS q)) := by
  have him : i = q.length := jo
  subst him
  have h := hF.rd (l := qS q) (by rw [dW, ht]; simp [qS])
  rwa [dW] at h
 refine je (Run.strOfT rfl zad zag za hR) (ja rfl (jO (jN (jv1 2 ?_))))
 refine jT ?_
 refine qN rfl ?_
 exact ⟨rfl, hfr⟩
theorem kQ (gp gc : Nat) (A : Option Addr) (n c : Nat) (tk : List Tk) (q : Nat) (cs : Array Value) (w : World) (hP : IsCp w gp gc A n c tk q cs) (hl : ∀ x ∈ tk, x.2.length ≤ 1000000) : Calls Tryz.prog 18 #[jI0 gp] w fun e w' => Frm [gp] w w' ∧ match qD tk q [0] with
   | none => e = .panicked dV
   | some s => e = .returned (encStr (qS s)) ∧ IsCp w' gp gc A n c tk (q + 1) cs := by
 refine jV Tryz.func18 Tryz.ntmps18 Tryz.results18 ?_
 refine jS (jR (ja rfl (jO (jN (jv1 0 ?_)))))
 refine jS (jR (jM ?_))
 refine Ops.m (qV.buildS1 rfl zm zd eF jd jd rfl rfl) rfl ?_
 rintro _ w1 ⟨rfl, hF1⟩
 have hK1 : Rd w1 1 (some ⟨w.heap.size, 0, none⟩) 1 (IB [0]) := Rd.of_blk (n := 1) (size := 1) hF1.blk rfl
 have hPl := hP.lt
 refine Ops.clp (jE2 Tryz.call31) (cE (some ⟨w.heap.size, 0, none⟩) 1 1 [0] gp gc A n c tk q cs w1 (hP.frm hF1.frm) rfl jo hK1 (fun _ x hx => by simp [ob] at hx; omega)) rfl ?_
 rintro e w2 ⟨hf2, he⟩
 rcases hT2 : qD tk q [0] with _ | s
 ·
  rw [hT2] at he
  exact .inr ⟨_, he, qB (bQ ⟨(hF1.frm.mono jp).trans hf2 (fun x hx => .inl hx), rfl⟩)⟩
 rw [hT2] at he
 obtain ⟨rfl, hP2⟩ := he
 refine .inl ⟨_, rfl, ?_⟩
 refine jc (jE1 Tryz.call30) (eX s w2 (eR hT2 hl)) ?_
 rintro e w3 ⟨rfl, hf3⟩
 refine ⟨_, rfl, ?_⟩
 refine ja rfl (jO (jN (jv1 2 ?_)))
 refine jT ?_
 refine qN rfl ?_
 exact ⟨((hF1.frm.mono jp).trans hf2 (fun x hx => .inl hx)).trans hf3 jp, ⟨rfl, hP2.frm hf3⟩⟩
theorem kX (gp gc : Nat) (A : Option Addr) (n c : Nat) (tk : List Tk) (q : Nat) (cs : Array Value) (w : World) (hP : IsCp w gp gc A n c tk q cs) : Calls Tryz.prog 66 #[jI0 gp] w fun e w' => Frm [gp] w w' ∧ match qD tk q [0, 1] with
   | none => e = .panicked dV
   | some s => e = .returned (encStr s) ∧ IsCp w' gp gc A n c tk (q + 1) cs := by
 refine jV Tryz.func66 Tryz.ntmps66 Tryz.results66 ?_
 refine jS (jR (ja rfl (jO (jN (jv1 0 ?_)))))
 refine jS (jR (jM ?_))
 refine Ops.m (qV.buildN (cells := #[.int .i64 0, .int .i64 1]) (evs.cons rfl (evs.cons rfl evs.nil)) zm zd eF rfl rfl jK) rfl ?_
 rintro _ w1 ⟨rfl, hF1⟩
 have hK1 : Rd w1 1 (some ⟨w.heap.size, 0, none⟩) 2 (IB [0, 1]) := Rd.of_blk (n := 2) (size := 1) hF1.blk rfl
 have hPl := hP.lt
 refine Ops.clp (jE2 Tryz.call31) (cE (some ⟨w.heap.size, 0, none⟩) 2 2 [0, 1] gp gc A n c tk q cs w1 (hP.frm hF1.frm) rfl jo hK1 (fun _ x hx => by simp [ob] at hx; omega)) rfl ?_
 rintro e w2 ⟨hf2, he⟩
 rcases hT2 : qD tk q [0, 1] with _ | s
 ·
  rw [hT2] at he
  exact .inr ⟨_, he, qB (bQ ⟨(hF1.frm.mono jp).trans hf2 (fun x hx => .inl hx), rfl⟩)⟩
 rw [hT2] at he
 obtain ⟨rfl, hP2⟩ := he
 refine .inl ⟨_, rfl, ?_⟩
 refine ja rfl (jO (jN (jv1 2 ?_)))
 refine jT ?_
 refine qN rfl ?_
 exact ⟨(hF1.frm.mono jp).trans hf2 (fun x hx => .inl hx), ⟨rfl, hP2⟩⟩
theorem mD (gp : Nat) (w : World) : Calls Tryz.prog 39 #[jI0 gp] w fun e w' => e = .returned (.tuple #[]) ∧ w = w' := by
 refine jV Tryz.func39 Tryz.ntmps39 Tryz.results39 ?_
 refine jQ ?_
 refine dS ?_
 exact ⟨rfl, rfl⟩
def cI (tk : List Tk) (q : Nat) : Option (Tx × Tx) := (qD tk q [0, 1]).bind fun a => (qD tk (q + 1) [0, 1]).map fun b => (a, b)
theorem pT (gp gc : Nat) (A : Option Addr) (n c : Nat) (tk : List Tk) (q : Nat) (cs : Array Value) (w : World) (hP : IsCp w gp gc A n c tk q cs) : Calls Tryz.prog 41 #[jI0 gp] w fun e w' => Frm [gp, gc] w w' ∧ match cI tk q with
   | none => e = .panicked dV
   | some s => e = .returned (.tuple #[]) ∧ IsCp w' gp gc A n c tk (q + 2) ((cs.setIfInBounds 3 (encStr s.1)).setIfInBounds 4 (encStr s.2)) := by
 refine jV Tryz.func41 Tryz.ntmps41 Tryz.results41 ?_
 refine VC.heldL 17 (fun V : World => V.cell? ⟨gp, 2, none⟩ = some (jI0 gc)) jK ?_
 have hd := (qL.drew w).frm
 have hPd := hP.frm hd
 have hS : (fun V : World => V.cell? ⟨gp, 2, none⟩ = some (jI0 gc)) w.drew := hPd.p.cell 2
 refine jh 0 hS ?_
 refine jH 1 rfl hS (fun w0 hw0 => Run.nilck rfl) ?_
 refine jH 2 rfl hS (fun w0 hw0 => Run.fieldAddr rfl zo rfl zau jd) ?_
 refine jH 3 rfl hS (fun w0 hw0 => Run.load rfl zbf hw0) ?_
 refine jh 4 hS ?_
 refine jH 5 rfl hS (fun w0 hw0 => Run.nilck rfl) ?_
 refine jH 6 rfl hS (fun w0 hw0 => Run.fieldAddr rfl zo rfl zau jd) ?_
 refine jH 7 rfl hS (fun w0 hw0 => Run.load rfl zbf hw0) ?_
 refine jh 8 hS ?_
 refine jh 10 hS ?_
 refine qJ.clp 9 rfl jK (jE1 Tryz.call66) (kX gp gc A n c tk q cs _ hPd) trivial rfl rfl ?_
 rintro e w1 ⟨hf1, he⟩
 rcases hT1 : qD tk q [0, 1] with _ | a
 ·
  rw [hT1] at he
  exact .inr ⟨_, he, bQ ⟨(hd.mono jp).trans hf1 (fun x hx => .inl (by simp at hx; simp [hx])), by simp [cI, hT1]⟩⟩
 rw [hT1] at he
 obtain ⟨rfl, hP1⟩ := he
 have hS : (fun V : World => V.cell? ⟨gp, 2, none⟩ = some (jI0 gc)) w1 := hP1.p.cell 2
 refine .inl ⟨_, rfl, hS, ?_⟩
 refine qJ.clp 11 rfl jK (jE1 Tryz.call66) (kX gp gc A n c tk (q + 1) cs _ hP1) trivial rfl rfl ?_
 rintro e w2 ⟨hf2, he⟩
 rcases hT2 : qD tk (q + 1) [0, 1] with _ | b
 ·
  rw [hT2] at he
  exact .inr ⟨_, he, bQ ⟨((hd.mono jp).trans hf1 (fun x hx => .inl (by simp at hx; simp [hx]))).trans hf2 (fun x hx => .inl (by simp at hx; simp [hx])), by simp [cI, hT1, hT2]⟩⟩
 rw [hT2] at he
 obtain ⟨rfl, hP2⟩ := he
 have hS : (fun V : World => V.cell? ⟨gp, 2, none⟩ = some (jI0 gc)) w2 := hP2.p.cell 2
 refine .inl ⟨_, rfl, hS, ?_⟩
 refine qJ.r1 12 rfl jK hS (Run.nilck rfl) trivial rfl rfl ?_
 refine qJ.r1 13 rfl jK hS (Run.fieldAddr rfl ze rfl zb jd) trivial rfl rfl ?_
 refine qJ.st 14 rfl jK (qQ.store (i := 3) rfl rfl zb hP2.k (by rw [hP2.sz]; rfl) rfl) trivial rfl ?_
 rintro w3 ⟨hb3, hf3, hs3⟩
 have hP3 := hP2.turn hb3 (by simp [hP2.sz]) hf3
 have hS : (fun V : World => V.cell? ⟨gp, 2, none⟩ = some (jI0 gc)) w3 := hP3.p.cell 2
 refine ⟨hS, ?_⟩
 refine qJ.r1 15 rfl jK hS (Run.nilck rfl) trivial rfl rfl ?_
 refine qJ.r1 16 rfl jK hS (Run.fieldAddr rfl ze rfl zb jd) trivial rfl rfl ?_
 refine qJ.stL rfl jK (qQ.store (i := 4) rfl rfl zb hP3.k (by rw [hP3.sz]; rfl) rfl) trivial rfl ?_
 rintro w4 ⟨hb4, hf4, hs4⟩
 have hP4 := hP3.turn hb4 (by simp [hP2.sz]) hf4
 refine qJ.done jK ?_
 refine dS ?_
 have hin : ∀ x ∈ [gp], x ∈ [gp, gc] ∨ w.heap.size ≤ x := fun x hx => .inl (by simp at hx; simp [hx])
 have hin2 : ∀ x ∈ [gc], x ∈ [gp, gc] ∨ w.heap.size ≤ x := fun x hx => .inl (by simp at hx; simp [hx])
 exact ⟨((((hd.mono jp).trans hf1 hin).trans hf2 hin).trans hf3 hin2).trans hf4 hin2, by rw [show cI tk q = some (a, b) by simp [cI, hT1, hT2]]; exact ⟨rfl, hP4⟩⟩
theorem bM : ∀ a b : Tx, encStr a = encStr b → a = b := fun a b h => by
 injection h with h
 have := congrArg (fun s => s.data.toList) h
 simpa using this
theorem bP (s : Tx) (h : s.length ≤ 9223372036854775807) : keyOf Tryz.prog 9 (encStr s) = some (.string s) := by
 have h1 : (⟨s.toArray⟩ : ByteArray).size ≤ maxLen := by
  show s.toArray.size ≤ maxLen
  simpa [maxLen] using h
 simp [keyOf, mapKey, za, encStr, h1]
theorem mZ (L : List Tx) {i : Nat} (h : i < L.length) : (SB L).toArray[i]? = some (encStr (L.getD i [])) := by
 simp [SB, zr, zc h]
theorem gD {α : Type} {L : List Tx} {i : Nat} (hi : i < L.length) (v M : α) (y : Tx) : (if y = L.getD i [] then v else if y ∈ L.take i then v else M) = if y ∈ L.take (i + 1) then v else M := by
 have e : L.take (i + 1) = L.take i ++ [L.getD i []] := by rw [zbc, zc hi, zr, zc hi]; rfl
 rw [e]
 by_cases h1 : y = L.getD i []
 · rw [if_pos h1, if_pos (by rw [h1]; simp)]
 rw [if_neg h1]
 by_cases h2 : y ∈ L.take i
 · rw [if_pos h2, if_pos (by simp [h2])]
 rw [if_neg h2, if_neg (by simp only [List.mem_append, zf]; exact fun h => h.elim h2 h1)]
def cK : List Tx := [[67, 65, 80, 65, 66, 73, 76, 73, 84, 89], [78, 79, 79, 80], [76, 79, 71, 79, 85, 84], [67, 72, 69, 67, 75], [67, 76, 79, 83, 69], [69, 88, 80, 85, 78, 71, 69]]
def eW : List Tx := [[83, 69, 76, 69, 67, 84], [69, 88, 65, 77, 73, 78, 69], [67, 82, 69, 65, 84, 69], [68, 69, 76, 69, 84, 69], [83, 85, 66, 83, 67, 82, 73, 66, 69], [85, 78, 83, 85, 66, 83, 67, 82, 73, 66, 69]]
def eY : List Tx := [[76, 79, 71, 73, 78], [82, 69, 78, 65, 77, 69], [76, 73, 83, 84], [76, 83, 85, 66]]
theorem sX : ∀ x ∈ cK ++ eW ++ eY, x.length ≤ 9223372036854775807 := jd
theorem kS {x : Tx} (h : x ∈ cK ∨ x ∈ eW ∨ x ∈ eY) : x.length ≤ 9223372036854775807 := sX x (by simp only [List.mem_append]; rcases h with h | h | h <;> simp [h])
def oZ (y : Tx) : Option Value := if y = [85, 73, 68] then some (.func (.func 38) #[] #[]) else if y = [67, 79, 80, 89] then some (.func (.func 37) #[] #[]) else if y = [83, 84, 79, 82, 69] then some (.func (.func 36) #[] #[]) else if y = [70, 69, 84, 67, 72] then some (.func (.func 35) #[] #[]) else if y = [83, 69, 65, 82, 67, 72] then some (.func (.func 34) #[] #[]) else if y = [65, 80, 80, 69, 78, 68] then some (.func (.func 33) #[] #[]) else if y = [83, 84, 65, 84, 85, 83] then some (.func (.func 32) #[] #[]) else none
def oJ (y : Tx) : Option Value := if y ∈ cK then some (.func (.func 39) #[] #[]) else oZ y
def oK (y : Tx) : Option Value := if y ∈ eW then some (.func (.func 40) #[] #[]) else oJ y
def dT (y : Tx) : Option Value := if y ∈ eY then some (.func (.func 41) #[] #[]) else oK y
theorem mE (w : World) : Calls Tryz.prog 19 #[] w fun e w' => Frm [] w w' ∧ ∃ m, e = .returned (.map (some m)) ∧ w.heap.size ≤ m ∧ MpF Tryz.prog 9 encStr w' m dT := by
 refine jV Tryz.func19 Tryz.ntmps19 Tryz.results19 ?_
 refine jS (jR (ja rfl (jO (jN ?_))))
 refine VC.sub [] .nil ?_
 refine jS (jR ?_)
 refine Ops.m (qV.makeMap (k := 9) (enc := encStr)) rfl ?_
 rintro _ w0 ⟨rfl, hm0, hf0, hs0⟩
 obtain ⟨m, hmm⟩ : ∃ m, m = w.heap.size := ⟨_, rfl⟩
 rw [← hmm] at hm0 ⊢
 refine Ops.st (qQ.mapIns (x := [83, 84, 65, 84, 85, 83]) rfl rfl rfl hm0 (Go.Maps.string_keyed za) bM zt (bP _ jd)) ?_
 rintro w1 ⟨hm1, hf1, hs1⟩
 refine Ops.st (qQ.mapIns (x := [65, 80, 80, 69, 78, 68]) rfl rfl rfl hm1 (Go.Maps.string_keyed za) bM zt (bP _ jd)) ?_
 rintro w2 ⟨hm2, hf2, hs2⟩
 refine Ops.st (qQ.mapIns (x := [83, 69, 65, 82, 67, 72]) rfl rfl rfl hm2 (Go.Maps.string_keyed za) bM zt (bP _ jd)) ?_
 rintro w3 ⟨hm3, hf3, hs3⟩
 refine Ops.st (qQ.mapIns (x := [70, 69, 84, 67, 72]) rfl rfl rfl hm3 (Go.Maps.string_keyed za) bM zt (bP _ jd)) ?_
 rintro w4 ⟨hm4, hf4, hs4⟩
 refine Ops.st (qQ.mapIns (x := [83, 84, 79, 82, 69]) rfl rfl rfl hm4 (Go.Maps.string_keyed za) bM zt (bP _ jd)) ?_
 rintro w5 ⟨hm5, hf5, hs5⟩
 refine Ops.st (qQ.mapIns (x := [67, 79, 80, 89]) rfl rfl rfl hm5 (Go.Maps.string_keyed za) bM zt (bP _ jd)) ?_
 rintro w6 ⟨hm6, hf6, hs6⟩
 refine Ops.st (qQ.mapIns (x := [85, 73, 68]) rfl rfl rfl hm6 (Go.Maps.string_keyed za) bM zt (bP _ jd)) ?_
 rintro w7 ⟨hm7, hf7, hs7⟩
 refine jM ?_
 have hmk : MpF Tryz.prog 9 encStr w7 m oZ := hm7
 have Kk : Frm [] w w7 := ((((((hf0.own hf1 (by simp; omega)).own hf2 (by simp; omega)).own hf3 (by simp; omega)).own hf4 (by simp; omega)).own hf5 (by simp; omega)).own hf6 (by simp; omega)).own hf7 (by simp; omega)
 refine ja rfl (jO (jN (jv1 1 ?_)))
 refine jS (jS (jR (je (Run.buildA (evs.cons rfl (evs.cons rfl (evs.cons rfl (evs.cons rfl (evs.cons rfl (evs.cons rfl evs.nil)))))) pH zdp zb (cells := (SB cK).toArray) jK) ?_)))
 refine jx .i64 0 ?_
 refine jO (jN (jB ?_))
 refine VC.loop (σ := Nat) (fun s => [(1, .map (some m)), (10, .agg (SB cK).toArray), (11, jI1 s)]) (fun s wr => s ≤ 6 ∧ Frm [m] w7 wr ∧ MpF Tryz.prog 9 encStr wr m (fun y => if y ∈ cK.take s then some (.func (.func 39) #[] #[]) else oZ y)) (fun s => 6 - s) 0 (js3 rfl rfl rfl) ⟨zba _, Frm.refl _ _, hmk.upd_congr fun y => jp⟩ ?_
 rintro i wr1 ⟨hi, K1, hmr⟩
 refine jS (jR (jb rfl rfl (Bin.lssN _ 6) (jO (jN (jS ?_)))))
 refine jD rfl (fun hc1 => ?_) fun hc1 => ?_
 ·
  refine jQ (jN (jv3 1 10 11 ?_))
  refine jS (jB (jS (jR (je (Run.indexArr1 _ rfl rfl zdp zh zb rfl (mZ cK hc1)) (ja rfl (jO (jN (jv4 1 3 10 11 ?_))))))))
  refine jR (jm rfl (jM ?_))
  refine Ops.st (qQ.mapUpd (x := cK.getD i []) rfl rfl rfl hmr (Go.Maps.string_keyed za) bM zt (bP _ (kS (by simp [zr, zc (show i < cK.length from hc1)])))) ?_
  rintro w9 ⟨hm9, hf9, hs9⟩
  refine jO ?_
  refine qW (jN ?_)
  refine jv3 1 10 11 ?_
  refine jR (jb rfl rfl (Bin.add_i64 _ 1 jo) (jm rfl (jO ?_)))
  refine jN ⟨i + 1, (js3 rfl rfl rfl), ?_, ?_⟩
  · exact ⟨hc1, K1.trans hf9 (fun x hx => .inl hx), hm9.upd_congr fun y => gD (show i < cK.length from hc1) _ _ y⟩
  exact jq
 have hmk1 : MpF Tryz.prog 9 encStr wr1 m oJ := hmr.upd_congr fun y => by rw [zaa (show cK.length ≤ i by simp [cK]; omega)]; rfl
 refine jX ?_
 refine qK (qK (qH ?_))
 refine jN (jv1 1 ?_)
 refine jS (jS (jR (je (Run.buildA (evs.cons rfl (evs.cons rfl (evs.cons rfl (evs.cons rfl (evs.cons rfl (evs.cons rfl evs.nil)))))) pH zdp zb (cells := (SB eW).toArray) jK) ?_)))
 refine jx .i64 0 ?_
 refine jO (jN (jB ?_))
 refine VC.loop (σ := Nat) (fun s => [(1, .map (some m)), (17, .agg (SB eW).toArray), (18, jI1 s)]) (fun s wr => s ≤ 6 ∧ Frm [m] wr1 wr ∧ MpF Tryz.prog 9 encStr wr m (fun y => if y ∈ eW.take s then some (.func (.func 40) #[] #[]) else oJ y)) (fun s => 6 - s) 0 (js3 rfl rfl rfl) ⟨zba _, Frm.refl _ _, hmk1.upd_congr fun y => jp⟩ ?_
 rintro i wr2 ⟨hi, K2, hmr⟩
 refine jS (jR (jb rfl rfl (Bin.lssN _ 6) (jO (jN (jS ?_)))))
 refine jD rfl (fun hc2 => ?_) fun hc2 => ?_
 ·
  refine jQ (jN (jv3 1 17 18 ?_))
  refine jS (jB (jS (jR (je (Run.indexArr1 _ rfl rfl zdp zh zb rfl (mZ eW hc2)) (ja rfl (jO (jN (jv4 1 5 17 18 ?_))))))))
  refine jR (jm rfl (jM ?_))
  refine Ops.st (qQ.mapUpd (x := eW.getD i []) rfl rfl rfl hmr (Go.Maps.string_keyed za) bM zt (bP _ (kS (by simp [zr, zc (show i < eW.length from hc2)])))) ?_
  rintro w9 ⟨hm9, hf9, hs9⟩
  refine jO ?_
  refine qW (jN ?_)
  refine jv3 1 17 18 ?_
  refine jR (jb rfl rfl (Bin.add_i64 _ 1 jo) (jm rfl (jO ?_)))
  refine jN ⟨i + 1, (js3 rfl rfl rfl), ?_, ?_⟩
  · exact ⟨hc2, K2.trans hf9 (fun x hx => .inl hx), hm9.upd_congr fun y => gD (show i < eW.length from hc2) _ _ y⟩
  exact jq
 have hmk2 : MpF Tryz.prog 9 encStr wr2 m oK := hmr.upd_congr fun y => by rw [zaa (show eW.length ≤ i by simp [eW]; omega)]; rfl
 refine jX ?_
 refine qK (qK (qH ?_))
 refine jN (jv1 1 ?_)
 refine jS (jS (jR (je (Run.buildA (evs.cons rfl (evs.cons rfl (evs.cons rfl (evs.cons rfl evs.nil)))) uQ Tryz.underlying87 zb (cells := (SB eY).toArray) jK) ?_)))
 refine jx .i64 0 ?_
 refine jO (jN (jB ?_))
 refine VC.loop (σ := Nat) (fun s => [(1, .map (some m)), (24, .agg (SB eY).toArray), (25, jI1 s)]) (fun s wr => s ≤ 4 ∧ Frm [m] wr2 wr ∧ MpF Tryz.prog 9 encStr wr m (fun y => if y ∈ eY.take s then some (.func (.func 41) #[] #[]) else oK y)) (fun s => 4 - s) 0 (js3 rfl rfl rfl) ⟨zba _, Frm.refl _ _, hmk2.upd_congr fun y => jp⟩ ?_
 rintro i wr3 ⟨hi, K3, hmr⟩
 refine jS (jR (jb rfl rfl (Bin.lssN _ 4) (jO (jN (jS ?_)))))
 refine jD rfl (fun hc3 => ?_) fun hc3 => ?_
 ·
  refine jQ (jN (jv3 1 24 25 ?_))
  refine jS (jB (jS (jR (je (Run.indexArr1 _ rfl rfl Tryz.underlying87 zh zb rfl (mZ eY hc3)) (ja rfl (jO (jN (jv4 1 7 24 25 ?_))))))))
  refine jR (jm rfl (jM ?_))
  refine Ops.st (qQ.mapUpd (x := eY.getD i []) rfl rfl rfl hmr (Go.Maps.string_keyed za) bM zt (bP _ (kS (by simp [zr, zc (show i < eY.length from hc3)])))) ?_
  rintro w9 ⟨hm9, hf9, hs9⟩
  refine jO ?_
  refine qW (jN ?_)
  refine jv3 1 24 25 ?_
  refine jR (jb rfl rfl (Bin.add_i64 _ 1 jo) (jm rfl (jO ?_)))
  refine jN ⟨i + 1, (js3 rfl rfl rfl), ?_, ?_⟩
  · exact ⟨hc3, K3.trans hf9 (fun x hx => .inl hx), hm9.upd_congr fun y => gD (show i < eY.length from hc3) _ _ y⟩
  exact jq
 have hmk3 : MpF Tryz.prog 9 encStr wr3 m dT := hmr.upd_congr fun y => by rw [zaa (show eY.length ≤ i by simp [eY]; omega)]; rfl
 refine jX ?_
 refine qK (qK (qH ?_))
 refine jN (jv1 1 ?_)
 refine jS (jR (jm rfl (ja rfl (jO (jN (jv1 0 ?_))))))
 refine jT ?_
 refine qN rfl ?_
 exact ⟨((Kk.own K1 (by simp; omega)).own K2 (by simp; omega)).own K3 (by simp; omega), m, rfl, jo, hmk3⟩
end
section
open Go.Shelf
def Tryz.lays156_ren : Go.Shelf.Ren := ⟨fun | 156 => 28 | 165 => 57 | 166 => 58 | 169 => 59 | 240 => 88 | 241 => 89 | 276 => 126 | 277 => 127 | n => n, fun | 31 => 25 | 9 => 9 | 3 => 3 | 4 => 4 | 0 => 0 | 20 => 20 | 72 => 103 | 76 => 107 | 70 => 101 | 37 => 44 | 75 => 106 | 127 => 132 | 164 => 169 | 5 => 5 | 80 => 65 | n => n, fun | n => n⟩
theorem Tryz.lays156 : Go.Proofs.Lays.n156 Tryz.prog Tryz.lays156_ren := {
 mixed := by kernel_rfl
 f156 := Tryz.func28.trans (congrArg some (by kernel_rfl))
 f165 := Tryz.func57.trans (congrArg some (by kernel_rfl))
 f166 := Tryz.func58.trans (congrArg some (by kernel_rfl))
 f169 := Tryz.func59.trans (congrArg some (by kernel_rfl))
 f240 := Tryz.func88.trans (congrArg some (by kernel_rfl))
 f241 := Tryz.func89.trans (congrArg some (by kernel_rfl))
 f276 := Tryz.func126.trans (congrArg some (by kernel_rfl))
 f277 := Tryz.func127.trans (congrArg some (by kernel_rfl))
 t0 := zcg
 a0 := Tryz.isAgg0
 z0 := zdc
 v0 := Tryz.zeroValue0
 t3 := zac
 a3 := zj
 z3 := zd
 v3 := Tryz.zeroValue3
 t4 := zx
 a4 := zu
 z4 := zk
 v4 := Tryz.zeroValue4
 t9 := za
 a9 := zh
 z9 := zb
 v9 := Tryz.zeroValue9
 t20 := zbr
 a20 := Tryz.isAgg20
 z20 := Tryz.sizeOf20
 v20 := Tryz.zeroValue20
 t31 := zl
 a31 := zal
 z31 := zab
 v31 := Tryz.zeroValue25
 t37 := zad
 a37 := Tryz.isAgg44
 z37 := Tryz.sizeOf44
 v37 := Tryz.zeroValue44
 t70 := Tryz.underlying101
 a70 := Tryz.isAgg101
 z70 := Tryz.sizeOf101
 v70 := Tryz.zeroValue101
 t72 := Tryz.underlying103
 a72 := Tryz.isAgg103
 z72 := Tryz.sizeOf103
 v72 := Tryz.zeroValue103
 t75 := zdf
 a75 := Tryz.isAgg106
 z75 := Tryz.sizeOf106
 v75 := Tryz.zeroValue106
 t76 := Tryz.underlying107
 a76 := Tryz.isAgg107
 z76 := Tryz.sizeOf107
 v76 := Tryz.zeroValue107
 t127 := Tryz.underlying132
 a127 := Tryz.isAgg132
 z127 := Tryz.sizeOf132
 v127 := Tryz.zeroValue132
 t164 := Tryz.underlying169
 a164 := Tryz.isAgg169
 z164 := Tryz.sizeOf169
 v164 := Tryz.zeroValue169 }
theorem Tryz.Builder_Extra_156 : Builder.Extra Tryz.prog Tryz.lays156_ren := {
 sizeBuilder := by kernel_rfl
 liesBuilder := by kernel_rfl
 t5 := zag
 a5 := zbo
 z5 := zan
 v5 := Tryz.zeroValue5
 infoByte := by kernel_rfl
 cellsByte := by kernel_rfl
 sizeByte := by kernel_rfl
 neB5 := by decide }
open Go.RowKit in
theorem Tryz.strings_Join_none (a : Option Addr) (c : Nat) (sep : ByteArray) (w : World) :
  Calls Tryz.prog 28 #[.slice a 0 c, .string sep] w fun e w' => e = .returned (.string ⟨#[]⟩) ∧ w' = w := Any.strings_Join_none Tryz.lays156 Tryz.Builder_Extra_156 a c sep w
open Go.RowKit in
theorem Tryz.strings_Join (bk o c : Nat) (xs : List ByteArray) (sep : ByteArray) (w : World) (hcells : ∀ (j : Nat) x, xs[j]? = some x → w.cell? ⟨bk, o + j, none⟩ = some (.string x)) (hbk : bk < w.heap.size) (hN : xs.length ≤ 140737488355328) (hcap : xs.length ≤ c) (hlen : (Lib.join (xs.map (·.data.toList)) sep.data.toList).length ≤ 140737488355328) :
  Calls Tryz.prog 28 #[.slice (some ⟨bk, o, none⟩) xs.length c, .string sep] w fun e w' => e = .returned (.string ⟨(Lib.join (xs.map (·.data.toList)) sep.data.toList).toArray⟩) ∧ Below w.heap.size w w' := Any.strings_Join Tryz.lays156 Tryz.Builder_Extra_156 bk o c xs sep w hcells hbk hN hcap hlen
def Tryz.lays137_ren : Go.Shelf.Ren := ⟨fun | 137 => 86 | 217 => 121 | 266 => 159 | n => n, fun | 9 => 9 | 5 => 5 | 3 => 3 | n => n, fun | n => n⟩
theorem Tryz.lays137 : Go.Proofs.Lays.n137 Tryz.prog Tryz.lays137_ren := {
 mixed := by kernel_rfl
 f137 := Tryz.func86.trans (congrArg some (by kernel_rfl))
 f217 := Tryz.func121.trans (congrArg some (by kernel_rfl))
 f266 := Tryz.func159.trans (congrArg some (by kernel_rfl))
 t3 := zac
 a3 := zj
 z3 := zd
 v3 := Tryz.zeroValue3
 t5 := zag
 a5 := zbo
 z5 := zan
 v5 := Tryz.zeroValue5
 t9 := za
 a9 := zh
 z9 := zb
 v9 := Tryz.zeroValue9 }
open Go.RowKit in
theorem Tryz.strings_IndexByte (s : ByteArray) (c : Int) (w : World) :
  Calls Tryz.prog 86 #[.string s, .int .u8 c] w fun e w' => e = .returned (.int .i64 (Lib.indexByte s.data.toList c.toNat.toUInt8)) ∧ w' = w := Any.strings_IndexByte Tryz.lays137 s c w
def Tryz.lays103_ren : Go.Shelf.Ren := ⟨fun | 103 => 147 | 210 => 181 | 206 => 178 | n => n, fun | 9 => 9 | 4 => 4 | 24 => 119 | 3 => 3 | n => n, fun | n => n⟩
theorem Tryz.lays103 : Go.Proofs.Lays.n103 Tryz.prog Tryz.lays103_ren := {
 mixed := by kernel_rfl
 f103 := Tryz.func147.trans (congrArg some (by kernel_rfl))
 f206 := Tryz.func178.trans (congrArg some (by kernel_rfl))
 f210 := Tryz.func181.trans (congrArg some (by kernel_rfl))
 t3 := zac
 a3 := zj
 z3 := zd
 v3 := Tryz.zeroValue3
 t4 := zx
 a4 := zu
 z4 := zk
 v4 := Tryz.zeroValue4
 t9 := za
 a9 := zh
 z9 := zb
 v9 := Tryz.zeroValue9
 t24 := Tryz.underlying119
 a24 := Tryz.isAgg119
 z24 := Tryz.sizeOf119
 v24 := Tryz.zeroValue119 }
open Go.RowKit in
theorem Tryz.strings_CutPrefix (s p : ByteArray) (w : World) :
  Calls Tryz.prog 147 #[.string s, .string p] w fun e w' => e = .returned (.tuple #[.string ⟨(Lib.trimPrefix s.data.toList p.data.toList).toArray⟩, .bool (Lib.hasPrefix s.data.toList p.data.toList)]) ∧ w' = w := Any.strings_CutPrefix Tryz.lays103 s p w
def Tryz.lays104_ren : Go.Shelf.Ren := ⟨fun | 104 => 74 | 211 => 107 | 207 => 150 | n => n, fun | 9 => 9 | 4 => 4 | 24 => 119 | 3 => 3 | n => n, fun | n => n⟩
theorem Tryz.lays104 : Go.Proofs.Lays.n104 Tryz.prog Tryz.lays104_ren := {
 mixed := by kernel_rfl
 f104 := Tryz.func74.trans (congrArg some (by kernel_rfl))
 f207 := Tryz.func150.trans (congrArg some (by kernel_rfl))
 f211 := Tryz.func107.trans (congrArg some (by kernel_rfl))
 t3 := zac
 a3 := zj
 z3 := zd
 v3 := Tryz.zeroValue3
 t4 := zx
 a4 := zu
 z4 := zk
 v4 := Tryz.zeroValue4
 t9 := za
 a9 := zh
 z9 := zb
 v9 := Tryz.zeroValue9
 t24 := Tryz.underlying119
 a24 := Tryz.isAgg119
 z24 := Tryz.sizeOf119
 v24 := Tryz.zeroValue119 }
open Go.RowKit in
theorem Tryz.strings_CutSuffix (s p : ByteArray) (w : World) (hs : s.size ≤ 9223372036854775807) :
  Calls Tryz.prog 74 #[.string s, .string p] w fun e w' => e = .returned (.tuple #[.string ⟨(Lib.trimSuffix s.data.toList p.data.toList).toArray⟩, .bool (Lib.hasSuffix s.data.toList p.data.toList)]) ∧ w' = w := Any.strings_CutSuffix Tryz.lays104 s p w hs
def Tryz.lays172_ren : Go.Shelf.Ren := ⟨fun | 172 => 136 | 244 => 174 | 245 => 175 | 247 => 193 | 279 => 194 | 280 => 195 | 281 => 196 | 282 => 197 | 287 => 206 | 316 => 207 | 171 => 27 | 205 => 208 | 321 => 213 | 322 => 214 | 243 => 56 | 246 => 87 | 283 => 122 | 284 => 123 | 285 => 124 | 286 => 125 | 129 => 161 | 317 => 160 | 318 => 162 | 319 => 163 | 320 => 164 | 337 => 184 | 338 => 185 | n => n, fun | 9 => 9 | 3 => 3 | 75 => 106 | 76 => 107 | 4 => 4 | 5 => 5 | 167 => 218 | 37 => 44 | 0 => 0 | 85 => 219 | 2 => 2 | 168 => 221 | 53 => 164 | 175 => 228 | 46 => 197 | 210 => 231 | 127 => 132 | 145 => 239 | 143 => 237 | 21 => 21 | 171 => 163 | 173 => 167 | 212 => 194 | 51 => 195 | 20 => 20 | 213 => 196 | 232 => 225 | 233 => 226 | 80 => 65 | n => n, fun | 15 => 4 | 16 => 5 | 17 => 0 | 18 => 2 | 19 => 3 | n => n⟩
theorem Tryz.lays172 : Go.Proofs.Lays.n172 Tryz.prog Tryz.lays172_ren := {
 mixed := by kernel_rfl
 f129 := Tryz.func161.trans (congrArg some (by kernel_rfl))
 f171 := Tryz.func27.trans (congrArg some (by kernel_rfl))
 f172 := Tryz.func136.trans (congrArg some (by kernel_rfl))
 f205 := Tryz.func208.trans (congrArg some (by kernel_rfl))
 f243 := Tryz.func56.trans (congrArg some (by kernel_rfl))
 f244 := Tryz.func174.trans (congrArg some (by kernel_rfl))
 f245 := Tryz.func175.trans (congrArg some (by kernel_rfl))
 f246 := Tryz.func87.trans (congrArg some (by kernel_rfl))
 f247 := Tryz.func193.trans (congrArg some (by kernel_rfl))
 f279 := Tryz.func194.trans (congrArg some (by kernel_rfl))
 f280 := Tryz.func195.trans (congrArg some (by kernel_rfl))
 f281 := Tryz.func196.trans (congrArg some (by kernel_rfl))
 f282 := Tryz.func197.trans (congrArg some (by kernel_rfl))
 f283 := Tryz.func122.trans (congrArg some (by kernel_rfl))
 f284 := Tryz.func123.trans (congrArg some (by kernel_rfl))
 f285 := Tryz.func124.trans (congrArg some (by kernel_rfl))
 f286 := Tryz.func125.trans (congrArg some (by kernel_rfl))
 f287 := Tryz.func206.trans (congrArg some (by kernel_rfl))
 f316 := Tryz.func207.trans (congrArg some (by kernel_rfl))
 f317 := Tryz.func160.trans (congrArg some (by kernel_rfl))
 f318 := Tryz.func162.trans (congrArg some (by kernel_rfl))
 f319 := Tryz.func163.trans (congrArg some (by kernel_rfl))
 f320 := Tryz.func164.trans (congrArg some (by kernel_rfl))
 f321 := Tryz.func213.trans (congrArg some (by kernel_rfl))
 f322 := Tryz.func214.trans (congrArg some (by kernel_rfl))
 f337 := Tryz.func184.trans (congrArg some (by kernel_rfl))
 f338 := Tryz.func185.trans (congrArg some (by kernel_rfl))
 t0 := zcg
 a0 := Tryz.isAgg0
 z0 := zdc
 v0 := Tryz.zeroValue0
 t2 := zcv
 a2 := Tryz.isAgg2
 z2 := Tryz.sizeOf2
 v2 := Tryz.zeroValue2
 t3 := zac
 a3 := zj
 z3 := zd
 v3 := Tryz.zeroValue3
 t4 := zx
 a4 := zu
 z4 := zk
 v4 := Tryz.zeroValue4
 t5 := zag
 a5 := zbo
 z5 := zan
 v5 := Tryz.zeroValue5
 t9 := za
 a9 := zh
 z9 := zb
 v9 := Tryz.zeroValue9
 t20 := zbr
 a20 := Tryz.isAgg20
 z20 := Tryz.sizeOf20
 v20 := Tryz.zeroValue20
 t21 := Tryz.underlying21
 a21 := Tryz.isAgg21
 z21 := Tryz.sizeOf21
 v21 := Tryz.zeroValue21
 t37 := zad
 a37 := Tryz.isAgg44
 z37 := Tryz.sizeOf44
 v37 := Tryz.zeroValue44
 t46 := zbl
 a46 := zci
 z46 := zcc
 v46 := Tryz.zeroValue197
 t51 := zbm
 a51 := zcj
 z51 := zcd
 v51 := Tryz.zeroValue195
 t53 := zdg
 a53 := Tryz.isAgg164
 z53 := Tryz.sizeOf164
 v53 := Tryz.zeroValue164
 t75 := zdf
 a75 := Tryz.isAgg106
 z75 := Tryz.sizeOf106
 v75 := Tryz.zeroValue106
 t76 := Tryz.underlying107
 a76 := Tryz.isAgg107
 z76 := Tryz.sizeOf107
 v76 := Tryz.zeroValue107
 t85 := Tryz.underlying219
 a85 := Tryz.isAgg219
 z85 := Tryz.sizeOf219
 v85 := Tryz.zeroValue219
 t127 := Tryz.underlying132
 a127 := Tryz.isAgg132
 z127 := Tryz.sizeOf132
 v127 := Tryz.zeroValue132
 t143 := Tryz.underlying237
 a143 := Tryz.isAgg237
 z143 := Tryz.sizeOf237
 v143 := Tryz.zeroValue237
 t145 := Tryz.underlying239
 a145 := Tryz.isAgg239
 z145 := Tryz.sizeOf239
 v145 := Tryz.zeroValue239
 t167 := Tryz.underlying218
 a167 := Tryz.isAgg218
 z167 := Tryz.sizeOf218
 v167 := Tryz.zeroValue218
 t168 := Tryz.underlying221
 a168 := Tryz.isAgg221
 z168 := Tryz.sizeOf221
 v168 := Tryz.zeroValue221
 t171 := zdh
 a171 := Tryz.isAgg163
 z171 := Tryz.sizeOf163
 v171 := Tryz.zeroValue163
 t173 := zdi
 a173 := Tryz.isAgg167
 z173 := Tryz.sizeOf167
 v173 := Tryz.zeroValue167
 t175 := Tryz.underlying228
 a175 := Tryz.isAgg228
 z175 := Tryz.sizeOf228
 v175 := Tryz.zeroValue228
 t210 := Tryz.underlying231
 a210 := Tryz.isAgg231
 z210 := Tryz.sizeOf231
 v210 := Tryz.zeroValue231
 t212 := zdj
 a212 := Tryz.isAgg194
 z212 := Tryz.sizeOf194
 v212 := Tryz.zeroValue194
 t213 := zdk
 a213 := Tryz.isAgg196
 z213 := Tryz.sizeOf196
 t232 := zdl
 a232 := Tryz.isAgg225
 z232 := Tryz.sizeOf225
 v232 := Tryz.zeroValue225
 t233 := zdm
 a233 := Tryz.isAgg226
 z233 := Tryz.sizeOf226
 v233 := Tryz.zeroValue226
 g15 := by kernel_rfl
 g16 := by kernel_rfl
 g17 := by kernel_rfl
 g18 := by kernel_rfl
 g19 := by kernel_rfl }
open Go.RowKit in
theorem Tryz.strconv_Atoi (s : ByteArray) (n : Int) (hl : s.size ≤ 18) (h : Lib.atoi s.data.toList = some n) (w : World) :
  Calls Tryz.prog 136 #[.string s] w fun e w' => e = .returned (.tuple #[.int .i64 n, .nilIface]) ∧ ∃ t, w' = Lib.bytesWorld w 5 t := Any.strconv_Atoi Tryz.lays172 s n hl h w
def Tryz.laysM171_ren : Go.Shelf.Ren := ⟨fun | 171 => 27 | 243 => 56 | 246 => 87 | 283 => 122 | 284 => 123 | 285 => 124 | 286 => 125 | 129 => 161 | 317 => 160 | 318 => 162 | 319 => 163 | 320 => 164 | 337 => 184 | 338 => 185 | n => n, fun | 3 => 3 | 9 => 9 | 2 => 2 | 4 => 4 | 171 => 163 | 0 => 0 | 53 => 164 | 37 => 44 | 5 => 5 | 173 => 167 | 212 => 194 | 51 => 195 | 20 => 20 | 213 => 196 | 46 => 197 | 232 => 225 | 233 => 226 | n => n, fun | 17 => 0 | 18 => 2 | 19 => 3 | n => n⟩
theorem Tryz.laysM171 : Go.Proofs.LaysM.n171 Tryz.prog Tryz.laysM171_ren := {
 mixed := by kernel_rfl
 f129 := Tryz.func161.trans (congrArg some (by kernel_rfl))
 f171 := Tryz.func27.trans (congrArg some (by kernel_rfl))
 f243 := Tryz.func56.trans (congrArg some (by kernel_rfl))
 f246 := Tryz.func87.trans (congrArg some (by kernel_rfl))
 f283 := Tryz.func122.trans (congrArg some (by kernel_rfl))
 f284 := Tryz.func123.trans (congrArg some (by kernel_rfl))
 f285 := Tryz.func124.trans (congrArg some (by kernel_rfl))
 f286 := Tryz.func125.trans (congrArg some (by kernel_rfl))
 f317 := Tryz.func160.trans (congrArg some (by kernel_rfl))
 f318 := Tryz.func162.trans (congrArg some (by kernel_rfl))
 f319 := Tryz.func163.trans (congrArg some (by kernel_rfl))
 f320 := Tryz.func164.trans (congrArg some (by kernel_rfl))
 f337 := Tryz.func184.trans (congrArg some (by kernel_rfl))
 f338 := Tryz.func185.trans (congrArg some (by kernel_rfl))
 t0 := zcg
 a0 := Tryz.isAgg0
 z0 := zdc
 v0 := Tryz.zeroValue0
 t2 := zcv
 a2 := Tryz.isAgg2
 z2 := Tryz.sizeOf2
 v2 := Tryz.zeroValue2
 t3 := zac
 a3 := zj
 z3 := zd
 v3 := Tryz.zeroValue3
 t4 := zx
 a4 := zu
 z4 := zk
 v4 := Tryz.zeroValue4
 t5 := zag
 a5 := zbo
 z5 := zan
 v5 := Tryz.zeroValue5
 t9 := za
 a9 := zh
 z9 := zb
 v9 := Tryz.zeroValue9
 t20 := zbr
 a20 := Tryz.isAgg20
 z20 := Tryz.sizeOf20
 v20 := Tryz.zeroValue20
 t37 := zad
 a37 := Tryz.isAgg44
 z37 := Tryz.sizeOf44
 v37 := Tryz.zeroValue44
 t46 := zbl
 a46 := zci
 z46 := zcc
 v46 := Tryz.zeroValue197
 t51 := zbm
 a51 := zcj
 z51 := zcd
 v51 := Tryz.zeroValue195
 t53 := zdg
 a53 := Tryz.isAgg164
 z53 := Tryz.sizeOf164
 v53 := Tryz.zeroValue164
 t171 := zdh
 a171 := Tryz.isAgg163
 z171 := Tryz.sizeOf163
 v171 := Tryz.zeroValue163
 t173 := zdi
 a173 := Tryz.isAgg167
 z173 := Tryz.sizeOf167
 v173 := Tryz.zeroValue167
 t212 := zdj
 a212 := Tryz.isAgg194
 z212 := Tryz.sizeOf194
 v212 := Tryz.zeroValue194
 t213 := zdk
 a213 := Tryz.isAgg196
 z213 := Tryz.sizeOf196
 t232 := zdl
 a232 := Tryz.isAgg225
 z232 := Tryz.sizeOf225
 v232 := Tryz.zeroValue225
 t233 := zdm
 a233 := Tryz.isAgg226
 z233 := Tryz.sizeOf226
 v233 := Tryz.zeroValue226
 g17 := by kernel_rfl
 g18 := by kernel_rfl
 g19 := by kernel_rfl
 i0 := by kernel_rfl
 i2 := by kernel_rfl
 i3 := by kernel_rfl
 i4 := by kernel_rfl
 i5 := by kernel_rfl
 i9 := by kernel_rfl
 i20 := by kernel_rfl
 i37 := by kernel_rfl
 i46 := by kernel_rfl
 i51 := by kernel_rfl
 i53 := by kernel_rfl
 i171 := by kernel_rfl
 i173 := by kernel_rfl
 i212 := by kernel_rfl
 i232 := by kernel_rfl
 i233 := by kernel_rfl
 m17 := by kernel_rfl
 m18 := by kernel_rfl
 m19 := by kernel_rfl }
open Go.RowKit Go.Sort Go.Lib in
theorem Tryz.strconv_Itoa (n : Int) (h0 : -9223372036854775808 ≤ n) (h1 : n ≤ 9223372036854775807) (w : World) (htab : Lib.TabIs Tryz.prog w "internal/strconv.uint64pow10" .u64 Lib.pow10Tab) :
  Calls Tryz.prog 27 #[.int .i64 n] w fun e w' => e = .returned (.string ⟨(Lib.itoa n).toArray⟩) ∧ ∃ k os, w' = grow (w.drewN k) os := Any.strconv_Itoa Tryz.laysM171 n h0 h1 w htab
def Tryz.lays171_ren : Go.Shelf.Ren := ⟨fun | 171 => 27 | 243 => 56 | 246 => 87 | 283 => 122 | 284 => 123 | 285 => 124 | 286 => 125 | 129 => 161 | 317 => 160 | 318 => 162 | 319 => 163 | 320 => 164 | 337 => 184 | 338 => 185 | n => n, fun | 3 => 3 | 9 => 9 | 2 => 2 | 4 => 4 | 171 => 163 | 0 => 0 | 53 => 164 | 37 => 44 | 5 => 5 | 173 => 167 | 212 => 194 | 51 => 195 | 20 => 20 | 213 => 196 | 46 => 197 | 232 => 225 | 233 => 226 | n => n, fun | 17 => 0 | 18 => 2 | 19 => 3 | n => n⟩
theorem Tryz.lays171 : Go.Proofs.Lays.n171 Tryz.prog Tryz.lays171_ren := {
 mixed := by kernel_rfl
 f129 := Tryz.func161.trans (congrArg some (by kernel_rfl))
 f171 := Tryz.func27.trans (congrArg some (by kernel_rfl))
 f243 := Tryz.func56.trans (congrArg some (by kernel_rfl))
 f246 := Tryz.func87.trans (congrArg some (by kernel_rfl))
 f283 := Tryz.func122.trans (congrArg some (by kernel_rfl))
 f284 := Tryz.func123.trans (congrArg some (by kernel_rfl))
 f285 := Tryz.func124.trans (congrArg some (by kernel_rfl))
 f286 := Tryz.func125.trans (congrArg some (by kernel_rfl))
 f317 := Tryz.func160.trans (congrArg some (by kernel_rfl))
 f318 := Tryz.func162.trans (congrArg some (by kernel_rfl))
 f319 := Tryz.func163.trans (congrArg some (by kernel_rfl))
 f320 := Tryz.func164.trans (congrArg some (by kernel_rfl))
 f337 := Tryz.func184.trans (congrArg some (by kernel_rfl))
 f338 := Tryz.func185.trans (congrArg some (by kernel_rfl))
 t0 := zcg
 a0 := Tryz.isAgg0
 z0 := zdc
 v0 := Tryz.zeroValue0
 t2 := zcv
 a2 := Tryz.isAgg2
 z2 := Tryz.sizeOf2
 v2 := Tryz.zeroValue2
 t3 := zac
 a3 := zj
 z3 := zd
 v3 := Tryz.zeroValue3
 t4 := zx
 a4 := zu
 z4 := zk
 v4 := Tryz.zeroValue4
 t5 := zag
 a5 := zbo
 z5 := zan
 v5 := Tryz.zeroValue5
 t9 := za
 a9 := zh
 z9 := zb
 v9 := Tryz.zeroValue9
 t20 := zbr
 a20 := Tryz.isAgg20
 z20 := Tryz.sizeOf20
 v20 := Tryz.zeroValue20
 t37 := zad
 a37 := Tryz.isAgg44
 z37 := Tryz.sizeOf44
 v37 := Tryz.zeroValue44
 t46 := zbl
 a46 := zci
 z46 := zcc
 v46 := Tryz.zeroValue197
 t51 := zbm
 a51 := zcj
 z51 := zcd
 v51 := Tryz.zeroValue195
 t53 := zdg
 a53 := Tryz.isAgg164
 z53 := Tryz.sizeOf164
 v53 := Tryz.zeroValue164
 t171 := zdh
 a171 := Tryz.isAgg163
 z171 := Tryz.sizeOf163
 v171 := Tryz.zeroValue163
 t173 := zdi
 a173 := Tryz.isAgg167
 z173 := Tryz.sizeOf167
 v173 := Tryz.zeroValue167
 t212 := zdj
 a212 := Tryz.isAgg194
 z212 := Tryz.sizeOf194
 v212 := Tryz.zeroValue194
 t213 := zdk
 a213 := Tryz.isAgg196
 z213 := Tryz.sizeOf196
 t232 := zdl
 a232 := Tryz.isAgg225
 z232 := Tryz.sizeOf225
 v232 := Tryz.zeroValue225
 t233 := zdm
 a233 := Tryz.isAgg226
 z233 := Tryz.sizeOf226
 v233 := Tryz.zeroValue226
 g17 := by kernel_rfl
 g18 := by kernel_rfl
 g19 := by kernel_rfl }
open Go.RowKit Go.Sort Go.Lib in
theorem Tryz.strconv_Itoa_small (i : Nat) (hi : i < 100) (w : World) :
  Calls Tryz.prog 27 #[.int .i64 i] w fun e w' => e = .returned (.string ⟨(Lib.decDigits i).toArray⟩) ∧ w' = w := Any.strconv_Itoa_small Tryz.lays171 i hi w
def Tryz.laysC172_ren : Go.Shelf.Ren := ⟨fun | 172 => 136 | 244 => 174 | 245 => 175 | 247 => 193 | 279 => 194 | 280 => 195 | 281 => 196 | 282 => 197 | 287 => 206 | 316 => 207 | 171 => 27 | 205 => 208 | 321 => 213 | 322 => 214 | 243 => 56 | 246 => 87 | 283 => 122 | 284 => 123 | 285 => 124 | 286 => 125 | 129 => 161 | 317 => 160 | 318 => 162 | 319 => 163 | 320 => 164 | 337 => 184 | 338 => 185 | n => n, fun | 9 => 9 | 3 => 3 | 75 => 106 | 76 => 107 | 4 => 4 | 5 => 5 | 167 => 218 | 37 => 44 | 0 => 0 | 85 => 219 | 2 => 2 | 168 => 221 | 53 => 164 | 175 => 228 | 46 => 197 | 210 => 231 | 127 => 132 | 145 => 239 | 143 => 237 | 21 => 21 | 171 => 163 | 173 => 167 | 212 => 194 | 51 => 195 | 20 => 20 | 213 => 196 | 232 => 225 | 233 => 226 | 80 => 65 | n => n, fun | 15 => 4 | 16 => 5 | 17 => 0 | 18 => 2 | 19 => 3 | n => n⟩
theorem Tryz.laysC172 : Go.Proofs.LaysC.n172 Tryz.prog Tryz.laysC172_ren := {
 mixed := by kernel_rfl
 f129 := Tryz.func161.trans (congrArg some (by kernel_rfl))
 f171 := Tryz.func27.trans (congrArg some (by kernel_rfl))
 f172 := Tryz.func136.trans (congrArg some (by kernel_rfl))
 f205 := Tryz.func208.trans (congrArg some (by kernel_rfl))
 f243 := Tryz.func56.trans (congrArg some (by kernel_rfl))
 f244 := Tryz.func174.trans (congrArg some (by kernel_rfl))
 f245 := Tryz.func175.trans (congrArg some (by kernel_rfl))
 f246 := Tryz.func87.trans (congrArg some (by kernel_rfl))
 f247 := Tryz.func193.trans (congrArg some (by kernel_rfl))
 f279 := Tryz.func194.trans (congrArg some (by kernel_rfl))
 f280 := Tryz.func195.trans (congrArg some (by kernel_rfl))
 f281 := Tryz.func196.trans (congrArg some (by kernel_rfl))
 f282 := Tryz.func197.trans (congrArg some (by kernel_rfl))
 f283 := Tryz.func122.trans (congrArg some (by kernel_rfl))
 f284 := Tryz.func123.trans (congrArg some (by kernel_rfl))
 f285 := Tryz.func124.trans (congrArg some (by kernel_rfl))
 f286 := Tryz.func125.trans (congrArg some (by kernel_rfl))
 f287 := Tryz.func206.trans (congrArg some (by kernel_rfl))
 f316 := Tryz.func207.trans (congrArg some (by kernel_rfl))
 f317 := Tryz.func160.trans (congrArg some (by kernel_rfl))
 f318 := Tryz.func162.trans (congrArg some (by kernel_rfl))
 f319 := Tryz.func163.trans (congrArg some (by kernel_rfl))
 f320 := Tryz.func164.trans (congrArg some (by kernel_rfl))
 f321 := Tryz.func213.trans (congrArg some (by kernel_rfl))
 f322 := Tryz.func214.trans (congrArg some (by kernel_rfl))
 f337 := Tryz.func184.trans (congrArg some (by kernel_rfl))
 f338 := Tryz.func185.trans (congrArg some (by kernel_rfl))
 t0 := zcg
 a0 := Tryz.isAgg0
 z0 := zdc
 v0 := Tryz.zeroValue0
 t2 := zcv
 a2 := Tryz.isAgg2
 z2 := Tryz.sizeOf2
 v2 := Tryz.zeroValue2
 t3 := zac
 a3 := zj
 z3 := zd
 v3 := Tryz.zeroValue3
 t4 := zx
 a4 := zu
 z4 := zk
 v4 := Tryz.zeroValue4
 t5 := zag
 a5 := zbo
 z5 := zan
 v5 := Tryz.zeroValue5
 t9 := za
 a9 := zh
 z9 := zb
 v9 := Tryz.zeroValue9
 t20 := zbr
 a20 := Tryz.isAgg20
 z20 := Tryz.sizeOf20
 v20 := Tryz.zeroValue20
 t21 := Tryz.underlying21
 a21 := Tryz.isAgg21
 z21 := Tryz.sizeOf21
 v21 := Tryz.zeroValue21
 t37 := zad
 a37 := Tryz.isAgg44
 z37 := Tryz.sizeOf44
 v37 := Tryz.zeroValue44
 t46 := zbl
 a46 := zci
 z46 := zcc
 v46 := Tryz.zeroValue197
 t51 := zbm
 a51 := zcj
 z51 := zcd
 v51 := Tryz.zeroValue195
 t53 := zdg
 a53 := Tryz.isAgg164
 z53 := Tryz.sizeOf164
 v53 := Tryz.zeroValue164
 t75 := zdf
 a75 := Tryz.isAgg106
 z75 := Tryz.sizeOf106
 v75 := Tryz.zeroValue106
 t76 := Tryz.underlying107
 a76 := Tryz.isAgg107
 z76 := Tryz.sizeOf107
 v76 := Tryz.zeroValue107
 t85 := Tryz.underlying219
 a85 := Tryz.isAgg219
 z85 := Tryz.sizeOf219
 v85 := Tryz.zeroValue219
 t127 := Tryz.underlying132
 a127 := Tryz.isAgg132
 z127 := Tryz.sizeOf132
 v127 := Tryz.zeroValue132
 t143 := Tryz.underlying237
 a143 := Tryz.isAgg237
 z143 := Tryz.sizeOf237
 v143 := Tryz.zeroValue237
 t145 := Tryz.underlying239
 a145 := Tryz.isAgg239
 z145 := Tryz.sizeOf239
 v145 := Tryz.zeroValue239
 t167 := Tryz.underlying218
 a167 := Tryz.isAgg218
 z167 := Tryz.sizeOf218
 v167 := Tryz.zeroValue218
 t168 := Tryz.underlying221
 a168 := Tryz.isAgg221
 z168 := Tryz.sizeOf221
 v168 := Tryz.zeroValue221
 t171 := zdh
 a171 := Tryz.isAgg163
 z171 := Tryz.sizeOf163
 v171 := Tryz.zeroValue163
 t173 := zdi
 a173 := Tryz.isAgg167
 z173 := Tryz.sizeOf167
 v173 := Tryz.zeroValue167
 t175 := Tryz.underlying228
 a175 := Tryz.isAgg228
 z175 := Tryz.sizeOf228
 v175 := Tryz.zeroValue228
 t210 := Tryz.underlying231
 a210 := Tryz.isAgg231
 z210 := Tryz.sizeOf231
 v210 := Tryz.zeroValue231
 t212 := zdj
 a212 := Tryz.isAgg194
 z212 := Tryz.sizeOf194
 v212 := Tryz.zeroValue194
 t213 := zdk
 a213 := Tryz.isAgg196
 z213 := Tryz.sizeOf196
 t232 := zdl
 a232 := Tryz.isAgg225
 z232 := Tryz.sizeOf225
 v232 := Tryz.zeroValue225
 t233 := zdm
 a233 := Tryz.isAgg226
 z233 := Tryz.sizeOf226
 v233 := Tryz.zeroValue226
 g15 := by kernel_rfl
 g16 := by kernel_rfl
 g17 := by kernel_rfl
 g18 := by kernel_rfl
 g19 := by kernel_rfl
 t80 := Tryz.underlying65
 a80 := Tryz.isAgg65
 z80 := Tryz.sizeOf65
 v80 := Tryz.zeroValue65
 i0 := by kernel_rfl
 i2 := by kernel_rfl
 i3 := by kernel_rfl
 i4 := by kernel_rfl
 i5 := by kernel_rfl
 i9 := by kernel_rfl
 i20 := by kernel_rfl
 i21 := by kernel_rfl
 i37 := by kernel_rfl
 i46 := by kernel_rfl
 i51 := by kernel_rfl
 i53 := by kernel_rfl
 i75 := by kernel_rfl
 i76 := by kernel_rfl
 i80 := by kernel_rfl
 i85 := by kernel_rfl
 i127 := by kernel_rfl
 i143 := by kernel_rfl
 i145 := by kernel_rfl
 i167 := by kernel_rfl
 i168 := by kernel_rfl
 i171 := by kernel_rfl
 i173 := by kernel_rfl
 i175 := by kernel_rfl
 i210 := by kernel_rfl
 i212 := by kernel_rfl
 i232 := by kernel_rfl
 i233 := by kernel_rfl
 m15 := by kernel_rfl
 m16 := by kernel_rfl
 m17 := by kernel_rfl
 m18 := by kernel_rfl
 m19 := by kernel_rfl
 c0 := by kernel_rfl
 c2 := by kernel_rfl
 c3 := by kernel_rfl
 c4 := by kernel_rfl
 c5 := by kernel_rfl
 c9 := by kernel_rfl
 c20 := by kernel_rfl
 c21 := by kernel_rfl
 c37 := by kernel_rfl
 c46 := by kernel_rfl
 c51 := by kernel_rfl
 c53 := by kernel_rfl
 c75 := by kernel_rfl
 c76 := by kernel_rfl
 c80 := by kernel_rfl
 c85 := by kernel_rfl
 c127 := by kernel_rfl
 c143 := by kernel_rfl
 c145 := by kernel_rfl
 c167 := by kernel_rfl
 c168 := by kernel_rfl
 c171 := by kernel_rfl
 c173 := by kernel_rfl
 c175 := by kernel_rfl
 c210 := by kernel_rfl
 c212 := by kernel_rfl
 c213 := by kernel_rfl
 c232 := by kernel_rfl
 c233 := by kernel_rfl }
open Go.RowKit in
theorem Tryz.strconv_Atoi_err (s : ByteArray) (hl : s.size ≤ 18) (h : Lib.atoi s.data.toList = none) (ev : Value) (w : World) (hv : w.cell? ⟨4, 0, none⟩ = some ev) (hev : ev = .nilIface ∨ ∃ te pe, ev = .iface te pe) :
  Calls Tryz.prog 136 #[.string s] w fun e w' => ∃ N, e = .returned (.tuple #[.int .i64 0, .iface 221 (jI0 N)]) ∧ w.heap.size ≤ N ∧ w'.heap[N]? = some (.cells #[.string ⟨#[65, 116, 111, 105]⟩, .string s, ev] 231 (0, 0)) ∧ Below w.heap.size w w' := Any.strconv_Atoi_err Tryz.laysC172 s hl h ev w hv hev
def Tryz.lays219_ren : Go.Shelf.Ren := ⟨fun | 219 => 199 | 217 => 121 | 225 => 209 | 224 => 210 | 267 => 211 | 266 => 159 | 314 => 215 | n => n, fun | 9 => 9 | 3 => 3 | 4 => 4 | 5 => 5 | 46 => 197 | 146 => 240 | 51 => 195 | n => n, fun | 1 => 1 | n => n⟩
theorem Tryz.lays219 : Go.Proofs.Lays.n219 Tryz.prog Tryz.lays219_ren := {
 mixed := by kernel_rfl
 f217 := Tryz.func121.trans (congrArg some (by kernel_rfl))
 f219 := Tryz.func199.trans (congrArg some (by kernel_rfl))
 f224 := Tryz.func210.trans (congrArg some (by kernel_rfl))
 f225 := Tryz.func209.trans (congrArg some (by kernel_rfl))
 f266 := Tryz.func159.trans (congrArg some (by kernel_rfl))
 f267 := Tryz.func211.trans (congrArg some (by kernel_rfl))
 f314 := Tryz.func215.trans (congrArg some (by kernel_rfl))
 t3 := zac
 a3 := zj
 z3 := zd
 v3 := Tryz.zeroValue3
 t4 := zx
 a4 := zu
 z4 := zk
 v4 := Tryz.zeroValue4
 t5 := zag
 a5 := zbo
 z5 := zan
 v5 := Tryz.zeroValue5
 t9 := za
 a9 := zh
 z9 := zb
 v9 := Tryz.zeroValue9
 t46 := zbl
 a46 := zci
 z46 := zcc
 v46 := Tryz.zeroValue197
 t51 := zbm
 a51 := zcj
 z51 := zcd
 v51 := Tryz.zeroValue195
 t146 := Tryz.underlying240
 a146 := Tryz.isAgg240
 z146 := Tryz.sizeOf240
 v146 := Tryz.zeroValue240
 g1 := by kernel_rfl }
open Go.RowKit Go.Lib in
theorem Tryz.stringslite_Index_one (s : ByteArray) (c : UInt8) (w : World) :
  Calls Tryz.prog 199 #[.string s, .string ⟨#[c]⟩] w fun e w' => e = .returned (.int .i64 (Lib.indexByte s.data.toList c)) ∧ w' = w := Any.stringslite_Index_one Tryz.lays219 s c w
def Tryz.lays143_ren : Go.Shelf.Ren := ⟨fun | 143 => 188 | 219 => 199 | 217 => 121 | 225 => 209 | 224 => 210 | 267 => 211 | 266 => 159 | 314 => 215 | n => n, fun | 9 => 9 | 3 => 3 | 4 => 4 | 5 => 5 | 46 => 197 | 146 => 240 | 51 => 195 | n => n, fun | 1 => 1 | n => n⟩
theorem Tryz.lays143 : Go.Proofs.Lays.n143 Tryz.prog Tryz.lays143_ren := {
 mixed := by kernel_rfl
 f143 := Tryz.func188.trans (congrArg some (by kernel_rfl))
 f217 := Tryz.func121.trans (congrArg some (by kernel_rfl))
 f219 := Tryz.func199.trans (congrArg some (by kernel_rfl))
 f224 := Tryz.func210.trans (congrArg some (by kernel_rfl))
 f225 := Tryz.func209.trans (congrArg some (by kernel_rfl))
 f266 := Tryz.func159.trans (congrArg some (by kernel_rfl))
 f267 := Tryz.func211.trans (congrArg some (by kernel_rfl))
 f314 := Tryz.func215.trans (congrArg some (by kernel_rfl))
 t3 := zac
 a3 := zj
 z3 := zd
 v3 := Tryz.zeroValue3
 t4 := zx
 a4 := zu
 z4 := zk
 v4 := Tryz.zeroValue4
 t5 := zag
 a5 := zbo
 z5 := zan
 v5 := Tryz.zeroValue5
 t9 := za
 a9 := zh
 z9 := zb
 v9 := Tryz.zeroValue9
 t46 := zbl
 a46 := zci
 z46 := zcc
 v46 := Tryz.zeroValue197
 t51 := zbm
 a51 := zcj
 z51 := zcd
 v51 := Tryz.zeroValue195
 t146 := Tryz.underlying240
 a146 := Tryz.isAgg240
 z146 := Tryz.sizeOf240
 v146 := Tryz.zeroValue240
 g1 := by kernel_rfl }
open Go.RowKit Go.Lib in
theorem Tryz.strings_Index_one (s : ByteArray) (c : UInt8) (w : World) :
  Calls Tryz.prog 188 #[.string s, .string ⟨#[c]⟩] w fun e w' => e = .returned (.int .i64 (Lib.indexByte s.data.toList c)) ∧ w' = w := Any.strings_Index_one Tryz.lays143 s c w
def Tryz.lays101_ren : Go.Shelf.Ren := ⟨fun | 101 => 146 | 208 => 180 | 206 => 178 | n => n, fun | 9 => 9 | 4 => 4 | 3 => 3 | n => n, fun | n => n⟩
theorem Tryz.lays101 : Go.Proofs.Lays.n101 Tryz.prog Tryz.lays101_ren := {
 mixed := by kernel_rfl
 f101 := Tryz.func146.trans (congrArg some (by kernel_rfl))
 f206 := Tryz.func178.trans (congrArg some (by kernel_rfl))
 f208 := Tryz.func180.trans (congrArg some (by kernel_rfl))
 t3 := zac
 a3 := zj
 z3 := zd
 v3 := Tryz.zeroValue3
 t4 := zx
 a4 := zu
 z4 := zk
 v4 := Tryz.zeroValue4
 t9 := za
 a9 := zh
 z9 := zb
 v9 := Tryz.zeroValue9 }
open Go.RowKit Go.Lib in
theorem Tryz.strings_TrimPrefix (s p : ByteArray) (w : World) :
  Calls Tryz.prog 146 #[.string s, .string p] w fun e w' => e = .returned (.string ⟨(Lib.trimPrefix s.data.toList p.data.toList).toArray⟩) ∧ w' = w := Any.strings_TrimPrefix Tryz.lays101 s p w
def Tryz.lays146_ren : Go.Shelf.Ren := ⟨fun | 146 => 133 | 221 => 166 | 268 => 186 | 138 => 187 | 143 => 188 | 195 => 201 | 197 => 190 | 218 => 202 | 219 => 199 | 260 => 203 | 217 => 121 | 225 => 209 | 224 => 210 | 267 => 211 | 266 => 159 | 314 => 215 | n => n, fun | 9 => 9 | 31 => 25 | 3 => 3 | 4 => 4 | 0 => 0 | 105 => 215 | 21 => 21 | 5 => 5 | 46 => 197 | 119 => 233 | 139 => 236 | 138 => 235 | 146 => 240 | 51 => 195 | n => n, fun | 1 => 1 | 3 => 6 | 4 => 7 | n => n⟩
theorem Tryz.lays146 : Go.Proofs.Lays.n146 Tryz.prog Tryz.lays146_ren := {
 mixed := by kernel_rfl
 f138 := Tryz.func187.trans (congrArg some (by kernel_rfl))
 f143 := Tryz.func188.trans (congrArg some (by kernel_rfl))
 f146 := Tryz.func133.trans (congrArg some (by kernel_rfl))
 f195 := Tryz.func201.trans (congrArg some (by kernel_rfl))
 f197 := Tryz.func190.trans (congrArg some (by kernel_rfl))
 f217 := Tryz.func121.trans (congrArg some (by kernel_rfl))
 f218 := Tryz.func202.trans (congrArg some (by kernel_rfl))
 f219 := Tryz.func199.trans (congrArg some (by kernel_rfl))
 f221 := Tryz.func166.trans (congrArg some (by kernel_rfl))
 f224 := Tryz.func210.trans (congrArg some (by kernel_rfl))
 f225 := Tryz.func209.trans (congrArg some (by kernel_rfl))
 f260 := Tryz.func203.trans (congrArg some (by kernel_rfl))
 f266 := Tryz.func159.trans (congrArg some (by kernel_rfl))
 f267 := Tryz.func211.trans (congrArg some (by kernel_rfl))
 f268 := Tryz.func186.trans (congrArg some (by kernel_rfl))
 f314 := Tryz.func215.trans (congrArg some (by kernel_rfl))
 t0 := zcg
 a0 := Tryz.isAgg0
 z0 := zdc
 v0 := Tryz.zeroValue0
 t3 := zac
 a3 := zj
 z3 := zd
 v3 := Tryz.zeroValue3
 t4 := zx
 a4 := zu
 z4 := zk
 v4 := Tryz.zeroValue4
 t5 := zag
 a5 := zbo
 z5 := zan
 v5 := Tryz.zeroValue5
 t9 := za
 a9 := zh
 z9 := zb
 v9 := Tryz.zeroValue9
 t21 := Tryz.underlying21
 a21 := Tryz.isAgg21
 z21 := Tryz.sizeOf21
 v21 := Tryz.zeroValue21
 t31 := zl
 a31 := zal
 z31 := zab
 v31 := Tryz.zeroValue25
 t46 := zbl
 a46 := zci
 z46 := zcc
 v46 := Tryz.zeroValue197
 t51 := zbm
 a51 := zcj
 z51 := zcd
 v51 := Tryz.zeroValue195
 t105 := Tryz.underlying215
 a105 := Tryz.isAgg215
 z105 := Tryz.sizeOf215
 v105 := Tryz.zeroValue215
 t119 := Tryz.underlying233
 a119 := Tryz.isAgg233
 z119 := Tryz.sizeOf233
 t138 := Tryz.underlying235
 a138 := Tryz.isAgg235
 z138 := Tryz.sizeOf235
 v138 := Tryz.zeroValue235
 t139 := Tryz.underlying236
 a139 := Tryz.isAgg236
 z139 := Tryz.sizeOf236
 v139 := Tryz.zeroValue236
 t146 := Tryz.underlying240
 a146 := Tryz.isAgg240
 z146 := Tryz.sizeOf240
 v146 := Tryz.zeroValue240
 g1 := by kernel_rfl
 g3 := by kernel_rfl
 g4 := by kernel_rfl }
open Go.RowKit Go.Lib in
theorem Tryz.strings_Split (s sep : ByteArray) (m : Int) (w : World) (hs : s.size < 4294967281) (hm : w.cell? ⟨1, 0, none⟩ = some (.int .i64 m)) (h1 : 1 ≤ sep.size) :
  Calls Tryz.prog 133 #[.string s, .string sep] w fun e w' =>
   e = .returned (.slice (some ⟨w.heap.size, 0, none⟩) (Lib.countB s sep + 1) (Lib.countB s sep + 1)) ∧ w' = w.alloc (.cells ((Lib.splitB sep 0 (Lib.countB s sep) s).map Value.string).toArray 9) := Any.strings_Split Tryz.lays146 (by kernel_rfl) s sep m w hs hm h1
end
section
open Go.RowKit
theorem cF : ∀ (l : Tx) (c : UInt8), (Lib.indexByte l c = -1 ∧ c ∉ l) ∨ ∃ a b, l = a ++ c :: b ∧ c ∉ a ∧ Lib.indexByte l c = ((a.length : Nat) : Int)
 | [], c => .inl ⟨rfl, jp⟩
 | x :: r, c => by
  unfold Lib.indexByte
  by_cases h : x = c
  ·
   subst h
   exact .inr ⟨[], r, rfl, jp, jp⟩
  have hb : (x == c) = false := by simpa using h
  rw [hb]
  rcases cF r c with ⟨h1, h2⟩ | ⟨a, b, rfl, h2, h3⟩
  ·
   left
   refine ⟨by simp [h1], ?_⟩
   simp only [zs, not_or]
   exact ⟨fun e => h e.symm, h2⟩
  right
  refine ⟨x :: a, b, rfl, ?_, ?_⟩
  ·
   simp only [zs, not_or]
   exact ⟨fun e => h e.symm, h2⟩
  rw [h3]
  have : ¬ ((a.length : Nat) : Int) = -1 := jo
  simp [this]
def bZ (c : UInt8) : Tx → Tx
 | [] => []
 | x :: r => if x = c then [] else x :: bZ c r
def qC (c : UInt8) : Tx → Tx
 | [] => []
 | x :: r => if x = c then r else qC c r
theorem pU {c : UInt8} : ∀ {s : Tx}, c ∉ s → bZ c s = s ∧ qC c s = []
 | [], _ => ⟨rfl, rfl⟩
 | x :: r, h => by
  simp only [zs, not_or] at h
  have hx : x ≠ c := fun e => h.1 e.symm
  simp [bZ, qC, hx, pU h.2]
theorem pB {c : UInt8} : ∀ {a b : Tx}, c ∉ a → bZ c (a ++ c :: b) = a ∧ qC c (a ++ c :: b) = b
 | [], b, _ => by simp [bZ, qC]
 | x :: r, b, h => by
  simp only [zs, not_or] at h
  have hx : x ≠ c := fun e => h.1 e.symm
  simp [bZ, qC, hx, pB (b := b) h.2]
def bG (c : UInt8) : Tx → List Tx
 | [] => [[]]
 | x :: r => if x = c then [] :: bG c r else match bG c r with
  | [] => [[x]]
  | p :: ps => (x :: p) :: ps
theorem mJ {c : UInt8} : ∀ {s : Tx}, c ∉ s → bG c s = [s]
 | [], _ => rfl
 | x :: r, h => by
  simp only [zs, not_or] at h
  have hx : x ≠ c := fun e => h.1 e.symm
  simp [bG, hx, mJ h.2]
theorem mK {c : UInt8} : ∀ {a b : Tx}, c ∉ a → bG c (a ++ c :: b) = a :: bG c b
 | [], b, _ => by simp [bG]
 | x :: r, b, h => by
  simp only [zs, not_or] at h
  have hx : x ≠ c := fun e => h.1 e.symm
  simp [bG, hx, mK (b := b) h.2]
theorem lX {c : UInt8} : ∀ (s : Tx), ∀ w ∈ bG c s, w.length ≤ s.length
 | [], w, h => by simp [bG] at h; subst h; simp
 | x :: r, w, h => by
  unfold bG at h
  have ih := lX (c := c) r
  split at h
  ·
   rcases zs.1 h with rfl | h
   · simp
   have := ih w h; simp; omega
  split at h
  · simp at h; subst h; simp
  rename_i p ps hs
  rcases zs.1 h with rfl | h
  · have := ih p (by rw [hs]; simp); simp; omega
  have := ih w (by rw [hs]; simp [h]); simp; omega
theorem dE (c : UInt8) : ∀ s : Tx, (bZ c s).length ≤ s.length ∧ (qC c s).length ≤ s.length
 | [] => ⟨zaj _, zaj _⟩
 | x :: r => by
  have := dE c r
  unfold bZ qC
  split <;> simp <;> omega
def dF (n : Nat) (s : Tx) : Nat := s.foldl (fun n x => 10 * n + (x.toNat - 48)) n
abbrev Dig (x : UInt8) : Prop := 48 ≤ x.toNat ∧ x.toNat ≤ 57
def dY (s : Tx) : Int :=
 if s = [42] then 0 else if s = [] ∨ 10 < s.length ∨ s.head? = some 48 then -1
 else if (∀ x ∈ s, Dig x) ∧ dF 0 s ≤ 2147483647 then ((dF 0 s : Nat) : Int) else -1
theorem pC (n : Nat) (s : Tx) (x : UInt8) : dF n (s ++ [x]) = 10 * dF n s + (x.toNat - 48) := by simp [dF]
theorem nH : ∀ (s : Tx) (n k : Nat), (∀ x ∈ s, Dig x) → n < 10 ^ k → dF n s < 10 ^ (k + s.length)
 | [], n, k, _, h => by simpa [dF] using h
 | x :: r, n, k, hd, h => by
  have hx := hd x jp
  have e : dF n (x :: r) = dF (10 * n + (x.toNat - 48)) r := rfl
  rw [e]
  have := nH r (10 * n + (x.toNat - 48)) (k + 1) (fun y hy => hd y (by simp [hy])) (by rw [Nat.pow_succ]; omega)
  have e2 : k + 1 + r.length = k + (x :: r).length := by simp; omega
  rw [e2] at this
  exact this
abbrev Sp := Int × Int
def cN (w : Tx) : Sp := (dY (bZ 58 w), if 58 ∈ w then dY (qC 58 w) else dY (bZ 58 w))
def fR (w : Tx) : Prop := 0 ≤ (cN w).1 ∧ 0 ≤ (cN w).2
instance (w : Tx) : Decidable (fR w) := by unfold fR; infer_instance
def dM (s : Tx) : Prop := (∀ w ∈ bG 44 s, fR w) ∧ (bG 44 s).length ≤ 64
instance (s : Tx) : Decidable (dM s) := by unfold dM; infer_instance
def dU (s : Tx) : List Sp := if dM s then (bG 44 s).map cN else []
def SC1 (x : Sp) : List Value := [.int .i64 x.1, .int .i64 x.2]
abbrev SC (l : List Sp) : List Value := l.flatMap SC1
theorem nM (x : Sp) : ∀ u ∈ SC1 x, u.oneCell' = true := by
 intro u hu
 simp only [SC1, zs, zw, or_false] at hu
 rcases hu with rfl | rfl <;> rfl
end
section
open Go.RowKit Go.Sort
def gE : Tx := [40, 41, 60, 62, 64, 44, 59, 58, 92, 34, 47, 91, 93, 63, 61]
def kT (c : UInt8) : Prop := 33 ≤ c.toNat ∧ c.toNat ≤ 126 ∧ c ∉ gE
instance (c : UInt8) : Decidable (kT c) := by unfold kT; infer_instance
def bV (s : Tx) : Prop := s ≠ [] ∧ ∀ c ∈ s, kT c
instance (s : Tx) : Decidable (bV s) := by unfold bV; infer_instance
theorem uJ (c : UInt8) : 0 ≤ Lib.indexByte gE c ↔ c ∈ gE := by
 rcases cF gE c with ⟨h1, h2⟩ | ⟨a, b, h1, h2, h3⟩
 · rw [h1]; exact ⟨fun h => jo, fun h => absurd h h2⟩
 rw [h3]; exact ⟨fun _ => by rw [h1]; simp, fun _ => jo⟩
theorem gK (s : Tx) (c : UInt8) (w : World) : Calls Tryz.prog 86 #[encStr s, .int .u8 ((c.toNat : Nat) : Int)] w fun e w' => e = .returned (.int .i64 (Lib.indexByte s c)) ∧ w = w' := by
 have h := Tryz.strings_IndexByte ⟨s.toArray⟩ ((c.toNat : Nat) : Int) w
 have e1 : (((c.toNat : Nat) : Int)).toNat.toUInt8 = c := jp
 rw [e1] at h
 exact h.mono fun e w' ⟨h, hw⟩ => ⟨h, hw.symm⟩
theorem oV (q : Tx) (w : World) (hq : q.length ≤ 1000000) : Calls Tryz.prog 55 #[encStr q] w fun e w' => e = .returned (.bool (decide (bV q))) ∧ w = w' := by
 refine jV Tryz.func55 Tryz.ntmps55 Tryz.results55 ?_
 refine jS (jR (ja rfl (jO (jN (jv1 0 ?_)))))
 refine jS (jS (jR (jm rfl (je (Run.lenT rfl za) ?_))))
 refine jx .i64 0 ?_
 refine jO (jN (jv3 0 5 6 ?_))
 refine jB ?_
 refine VC.loop (σ := Nat) (fun s => [(0, encStr q), (5, jI1 q.length), (6, jI1 s)]) (fun s wr => s ≤ q.length ∧ (∀ c ∈ q.take s, kT c) ∧ w = wr) (fun s => q.length - s) 0 (js3 rfl rfl rfl) ⟨jo, jp, rfl⟩ ?_
 rintro i _ ⟨hi, hd, rfl⟩
 refine jS (jR (jb rfl rfl (Bin.lssN _ _) (jO (jN (jS ?_)))))
 refine jD rfl (fun hc1 => ?_) fun hc1 => ?_
 ·
  have hts : q.take (i + 1) = q.take i ++ [q[i]] := by rw [zbc, zc hc1]; rfl
  have hxm : q[i] ∈ q := zap hc1
  have hgx : q[i]? = some q[i] := zc hc1
  generalize hx : q[i] = x at *
  have hsp := uJ x
  have htc : kT x ↔ (33 ≤ x.toNat ∧ x.toNat ≤ 126 ∧ x ∉ gE) := Iff.rfl
  refine jQ (jN (jv3 0 5 6 ?_))
  refine jS (jB (jS (jR (jm rfl (ja rfl (jO (jN (jv4 0 3 5 6 ?_))))))))
  refine jS ?_
  refine VC.split1 [(0, _), (5, _), (6, _)] (js3 rfl rfl rfl) 25 (.bool (decide (¬ kT x))) ?_ ?_
  ·
   refine jR ?_
   refine jm rfl (jm rfl (je (Run.indexT _ rfl rfl za hgx) (jb rfl rfl (Bin.lssN _ 33) ?_)))
   by_cases hs12 : x.toNat < 33
   ·
    refine jM ?_
    refine jU ?_
    refine jU ?_
    refine jU ?_
    refine jU ?_
    refine jW rfl rfl au (jM ?_)
    refine jU ?_
    refine jU ?_
    refine jU ?_
    refine jU ?_
    refine jU ?_
    refine jW rfl rfl au (jO ?_)
    refine jN ⟨(js4 (jC (Eq.symm (by first | exact decide_eq_true (fun h => by have := htc.1 h; omega) | exact decide_eq_decide.2 ⟨fun h => Classical.byContradiction fun h2 => h (htc.2 ⟨jo, jo, fun h3 => h2 (hsp.2 h3)⟩), fun h h2 => (htc.1 h2).2.2 (hsp.1 h)⟩))) rfl rfl rfl), rfl⟩
   refine jM ?_
   refine jG ?_
   refine jG ?_
   refine jk (Run.indexT _ rfl rfl za hgx) ?_
   refine jk (Run.bin rfl rfl (Bin.gtrN _ 126)) ?_
   by_cases hs17 : 126 < x.toNat
   ·
    refine jF rfl rfl au (jM ?_)
    refine jU ?_
    refine jU ?_
    refine jU ?_
    refine jU ?_
    refine jU ?_
    refine jW rfl rfl au (jO ?_)
    refine jN ⟨(js4 (jC (Eq.symm (by first | exact decide_eq_true (fun h => by have := htc.1 h; omega) | exact decide_eq_decide.2 ⟨fun h => Classical.byContradiction fun h2 => h (htc.2 ⟨jo, jo, fun h3 => h2 (hsp.2 h3)⟩), fun h h2 => (htc.1 h2).2.2 (hsp.1 h)⟩))) rfl rfl rfl), rfl⟩
   refine jF rfl rfl au (jM ?_)
   refine jG ?_
   refine jG ?_
   refine jk (Run.indexT _ rfl rfl za hgx) ?_
   refine Ops.clg rfl au (jE2 Tryz.call86) (gK gE x _) rfl ?_
   rintro e _ ⟨rfl, rfl⟩
   refine ⟨_, rfl, ?_⟩
   refine jk (Run.bin rfl rfl (Bin.geq _ 0)) ?_
   by_cases hs24 : 0 ≤ Lib.indexByte gE x
   ·
    refine jF rfl rfl au (jO ?_)
    refine jN ⟨(js4 (jC (Eq.symm (by first | exact decide_eq_true (fun h => by have := htc.1 h; omega) | exact decide_eq_decide.2 ⟨fun h => Classical.byContradiction fun h2 => h (htc.2 ⟨jo, jo, fun h3 => h2 (hsp.2 h3)⟩), fun h h2 => (htc.1 h2).2.2 (hsp.1 h)⟩))) rfl rfl rfl), rfl⟩
   refine jF rfl rfl au (jO ?_)
   refine jN ⟨(js4 (jC (Eq.symm (by first | exact decide_eq_true (fun h => by have := htc.1 h; omega) | exact decide_eq_decide.2 ⟨fun h => Classical.byContradiction fun h2 => h (htc.2 ⟨jo, jo, fun h3 => h2 (hsp.2 h3)⟩), fun h h2 => (htc.1 h2).2.2 (hsp.1 h)⟩))) rfl rfl rfl), rfl⟩
  intro Γ hΓ
  refine jN (VC.sub _ hΓ ?_)
  refine jD rfl (fun hc2 => ?_) fun hc2 => ?_
  ·
   refine jS (jR (ja rfl (jO (jN (jv1 2 ?_)))))
   refine jT ?_
   refine qR (qZ (qZ (qR (qZ (qN rfl ?_)))))
   exact ⟨by rw [decide_eq_false (fun h => hc2 (h.2 x hxm))], rfl⟩
  refine jQ ?_
  refine qW (jN ?_)
  refine jv3 0 5 6 ?_
  refine jR (jb rfl rfl (Bin.add_i64 _ 1 jo) (jm rfl (jO ?_)))
  refine jN ⟨(i + 1), (js3 rfl rfl rfl), ?_, ?_⟩
  ·
   refine ⟨hc1, fun y hy => ?_, rfl⟩
   rw [hts] at hy
   rcases List.mem_append.1 hy with h | h
   · exact hd y h
   simp only [zf] at h; subst h; exact Classical.not_not.1 hc2
  exact jq
 have hil : i = q.length := jo
 subst hil
 rw [zay] at hd
 refine jX ?_
 refine qK (qK (qH ?_))
 refine jN (jv1 0 ?_)
 refine jS (jR (jm rfl (je (Run.neqT rfl rfl) (ja rfl (jO (jN (jv1 2 ?_)))))))
 refine jT ?_
 refine qN rfl ?_
 exact ⟨by rw [decide_eq_decide.2 (show bV q ↔ q ≠ [] from ⟨fun h => h.1, fun h => ⟨h, hd⟩⟩)], rfl⟩
end
section
open Go.RowKit
def PI (l : List Int) : List Value := l.map (Value.int .i64)
theorem lT {w : World} {A : Option Addr} {l : List Int} {k : Nat} (h : Rd w 1 A l.length (PI l)) (hk : k < l.length) : ∃ ad, A = some ad ∧ w.cell? (ad.add (k * 1)) = some (.int .i64 l[k]) := by
 obtain ⟨ad, rfl, hlt, hc⟩ := h.2 jo
 refine ⟨ad, rfl, ?_⟩
 rw [zcy]
 exact hc k _ (by simp [PI, zc hk])
theorem dN {α : Type} {l : List α} {i : Nat} (h : i < l.length) : l.take (i + 1) = l.take i ++ [l[i]] := by rw [zbc, zc h]; rfl
theorem nN (p : Prop) [Decidable p] : (! decide p) = decide (¬ p) := by by_cases h : p <;> simp [h]
theorem Own.own' {w w' : World} {e size n c e2 size2 n2 c2 : Nat} {A B : Option Addr} {xs ys : List Value} (h : Own w e size A n c xs) (k : Frm (ob B) w w') (ho : Own w e2 size2 B n2 c2 ys) (hne : e ≠ e2) : Own w' e size A n c xs := h.frm k (fun y hy => h.ne_own ho hne y hy)
end
section
open Go.RowKit Go.Sort
theorem gV {w : World} {A : Option Addr} {l : List Tx} {k : Nat} (h : Rd w 1 A l.length (SB l)) (hk : k < l.length) : ∃ ad, A = some ad ∧ w.cell? (ad.add (k * 1)) = some (encStr l[k]) := by
 rw [zcy]
 exact uP h hk
def hdrT : Tx := [72, 69, 65, 68, 69, 82]
def txtT : Tx := [84, 69, 88, 84]
def mimT : Tx := [77, 73, 77, 69]
def oW : Tx := [72, 69, 65, 68, 69, 82, 46, 70, 73, 69, 76, 68, 83]
def oY : Tx := [72, 69, 65, 68, 69, 82, 46, 70, 73, 69, 76, 68, 83, 46, 78, 79, 84]
structure Wnt where
 path : List Int
 what : Tx
 names : List Tx
def bW (n : Int) : Prop := n < 1 ∨ 64 < n
instance (n : Int) : Decidable (bW n) := by unfold bW; infer_instance
def qP (s : Tx) : Prop := s = oW ∨ s = oY
instance (s : Tx) : Decidable (qP s) := by unfold qP; infer_instance
def kZ (v : Wnt) : Prop := v.what = [] ∨ v.what = hdrT ∨ v.what = txtT ∨ v.what = oW ∨ v.what = oY ∨ (v.what = mimT ∧ 0 < v.path.length)
instance (v : Wnt) : Decidable (kZ v) := by unfold kZ; infer_instance
def bL (v : Wnt) : Prop := ¬ (8 < v.path.length ∨ ∃ n ∈ v.path, bW n) ∧ ¬ ((16 < v.names.length ∨ ¬ (qP v.what ↔ 0 < v.names.length)) ∨ ∃ s ∈ v.names, ¬ bV s) ∧ kZ v
instance (v : Wnt) : Decidable (bL v) := by unfold bL; infer_instance
def WtC (v : Wnt) (A : Option Addr) (c : Nat) (B : Option Addr) (d : Nat) : Array Value := #[.slice A v.path.length c, encStr v.what, .slice B v.names.length d]
theorem pD (n : Int) (w : World) : Calls Tryz.prog 52 #[.int .i64 n] w fun e w' => e = .returned (.bool (decide (bW n))) ∧ w = w' := by
 refine jV Tryz.func52 Tryz.ntmps52 Tryz.results52 ?_
 refine jS (jR (ja rfl (jO (jN (jv1 0 ?_)))))
 refine jS ?_
 refine VC.split1 [] .nil 2 (.bool (decide (bW n))) ?_ ?_
 ·
  refine jR ?_
  refine jm rfl (jb rfl rfl (Bin.lss _ 1) ?_)
  by_cases hs4 : n < 1
  ·
   refine jM ?_
   refine jU ?_
   refine jU ?_
   refine jW rfl rfl au (ja rfl (jO ?_))
   refine jN ⟨(js1 (jC (by first | exact (decide_eq_true (show bW n from .inl hs4)).symm | exact (decide_eq_true hs7).trans (decide_eq_true (show bW n from .inr hs7)).symm | exact (decide_eq_false hs7).trans (decide_eq_false (show ¬ bW n from fun h => h.elim hs4 hs7)).symm))), rfl⟩
  refine jM ?_
  refine jG ?_
  refine jk (Run.bin rfl rfl (Bin.gtr _ 64)) ?_
  by_cases hs7 : 64 < n
  ·
   refine jF rfl rfl au (ja rfl (jO ?_))
   refine jN ⟨(js1 (jC (by first | exact (decide_eq_true (show bW n from .inl hs4)).symm | exact (decide_eq_true hs7).trans (decide_eq_true (show bW n from .inr hs7)).symm | exact (decide_eq_false hs7).trans (decide_eq_false (show ¬ bW n from fun h => h.elim hs4 hs7)).symm))), rfl⟩
  refine jF rfl rfl au (ja rfl (jO ?_))
  refine jN ⟨(js1 (jC (by first | exact (decide_eq_true (show bW n from .inl hs4)).symm | exact (decide_eq_true hs7).trans (decide_eq_true (show bW n from .inr hs7)).symm | exact (decide_eq_false hs7).trans (decide_eq_false (show ¬ bW n from fun h => h.elim hs4 hs7)).symm))), rfl⟩
 intro Γ hΓ
 refine jN (VC.sub _ hΓ ?_)
 refine jT ?_
 refine qN rfl ?_
 exact ⟨rfl, rfl⟩
theorem idxI (A : Option Addr) (c : Nat) (l : List Int) (w : World) (hl : Rd w 1 A l.length (PI l)) (hn : l.length ≤ 1000000) :
  Calls Tryz.prog 84 #[.slice A l.length c, .func (.func 52) #[] #[]] w fun e w' => w = w' ∧ ∃ k : Int, e = .returned (.int .i64 k) ∧ (0 ≤ k ↔ ∃ n ∈ l, bW n) := by
 refine jV Tryz.func84 Tryz.ntmps84 Tryz.results84 ?_
 refine jS (jR (jz 0 (jO (jN (jv2 0 1 ?_)))))
 refine jS (jS (jR (jm rfl (jL rfl zm ?_))))
 refine jx .i64 0 ?_
 refine jO (jN (jv4 0 1 7 8 ?_))
 refine jB ?_
 refine VC.loop (σ := Nat) (fun s => [(0, .slice A l.length c), (1, .func (.func 52) #[] #[]), (7, jI1 l.length), (8, jI1 s)]) (fun s wr => s ≤ l.length ∧ w = wr ∧ ∀ x ∈ l.take s, ¬ (bW x)) (fun s => l.length - s) 0 (js4 rfl rfl rfl rfl) ⟨jo, rfl, jp⟩ ?_
 rintro i _ ⟨hi, rfl, hno⟩
 refine jS (jR (jb rfl rfl (Bin.lssN _ _) (jO (jN (jS ?_)))))
 refine jD rfl (fun hc1 => ?_) fun hc1 => ?_
 ·
  obtain ⟨ad, rfl, hcell⟩ := lT hl hc1
  have hts := dN hc1
  have hmem := zap hc1
  generalize hx : l[i] = x at *
  refine jQ (jN (jv4 0 1 7 8 ?_))
  refine jS (jB (jS (jR (jm rfl (ja rfl (jO (jN (jv5 0 1 5 7 8 ?_))))))))
  refine jS (jR (jm rfl (jm rfl (jm rfl (je (Run.indexS i rfl rfl zm zd hc1) (jl rfl zj hcell ?_))))))
  refine Ops.cl (qI.dyn rfl (evs.cons rfl evs.nil) Tryz.call52) ((pD x _)) rfl ?_
  rintro e _ ⟨rfl, rfl⟩
  refine ⟨_, rfl, ?_⟩
  refine jO (jN (jv6 0 1 5 7 8 16 ?_))
  refine VC.condB rfl (fun hc2 => ?_) (fun hc2 => ?_)
  ·
   refine jS (jR (jm rfl (ja rfl (jO (jN (jv1 4 ?_))))))
   refine jT ?_
   refine qR (qZ (qZ (qR (qZ (qN rfl ?_)))))
   exact ⟨rfl, _, rfl, ⟨fun _ => ⟨x, hmem, of_decide_eq_true hc2⟩, fun _ => jo⟩⟩
  refine jQ ?_
  refine qW (jN ?_)
  refine jv4 0 1 7 8 ?_
  refine jR (jb rfl rfl (Bin.add_i64 _ 1 jo) (jm rfl (jO ?_)))
  refine jN ⟨(i + 1), (js4 rfl rfl rfl rfl), ?_, ?_⟩
  ·
   refine ⟨hc1, rfl, fun y hy => ?_⟩
   rw [hts] at hy
   rcases List.mem_append.1 hy with h | h
   · exact hno y h
   simp only [zf] at h; subst h; exact of_decide_eq_false hc2
  exact jq
 have hil : i = l.length := jo
 rw [hil, zay] at hno
 refine jX ?_
 refine qK (qK (qH ?_))
 refine jN ?_
 refine VC.sub [] .nil ?_
 refine jS (jR ?_)
 refine Ops.r (v := .int .i64 (-1)) (Run.asg rfl) rfl ?_
 refine jO (jN (jT ?_))
 refine qN rfl ?_
 exact ⟨rfl, _, rfl, ⟨fun h => jo, fun ⟨y, hy, hb⟩ => absurd hb (hno y hy)⟩⟩
theorem sZ (A : Option Addr) (c : Nat) (l : List Int) (w : World) (hl : Rd w 1 A l.length (PI l)) (hn : l.length ≤ 1000000) :
  Calls Tryz.prog 51 #[.slice A l.length c, .func (.func 52) #[] #[]] w fun e w' => e = .returned (.bool (decide (∃ n ∈ l, bW n))) ∧ w = w' := by
 refine jV Tryz.func51 Tryz.ntmps51 Tryz.results51 ?_
 refine jS (jR (ja rfl (jO (jN (jv2 0 1 ?_)))))
 refine jS (jR (jm rfl (jM ?_)))
 refine jc (jE2 Tryz.call84) ((idxI A c l _ hl hn)) ?_
 rintro e _ ⟨rfl, k, rfl, hk⟩
 refine ⟨_, rfl, ?_⟩
 refine jb rfl rfl (Bin.geq _ 0) (ja rfl (jO (jN (jv1 4 ?_))))
 refine jT ?_
 refine qN rfl ?_
 exact ⟨by rw [decide_eq_decide.2 hk], rfl⟩
theorem pE (q : Tx) (w : World) (hq : q.length ≤ 1000000) : Calls Tryz.prog 54 #[encStr q] w fun e w' => e = .returned (.bool (decide (¬ bV q))) ∧ w = w' := by
 refine jV Tryz.func54 Tryz.ntmps54 Tryz.results54 ?_
 refine jS (jR (ja rfl (jO (jN (jv1 0 ?_)))))
 refine jS (jR (jM ?_))
 refine jc0 (jE1 Tryz.call55) ((oV q _ hq)) ?_
 refine je (Run.not rfl) (ja rfl (jO (jN (jv1 2 ?_))))
 refine jT ?_
 refine qN rfl ?_
 exact ⟨by by_cases h : bV q <;> simp [h], rfl⟩
theorem idxS (A : Option Addr) (c : Nat) (l : List Tx) (w : World) (hl : Rd w 1 A l.length (SB l)) (hn : l.length ≤ 1000000) (hs : ∀ s ∈ l, s.length ≤ 1000000) :
  Calls Tryz.prog 85 #[.slice A l.length c, .func (.func 54) #[] #[]] w fun e w' => w = w' ∧ ∃ k : Int, e = .returned (.int .i64 k) ∧ (0 ≤ k ↔ ∃ n ∈ l, ¬ bV n) := by
 refine jV Tryz.func85 Tryz.ntmps85 Tryz.results85 ?_
 refine jS (jR (jz 0 (jO (jN (jv2 0 1 ?_)))))
 refine jS (jS (jR (jm rfl (jL rfl zl ?_))))
 refine jx .i64 0 ?_
 refine jO (jN (jv4 0 1 7 8 ?_))
 refine jB ?_
 refine VC.loop (σ := Nat) (fun s => [(0, .slice A l.length c), (1, .func (.func 54) #[] #[]), (7, jI1 l.length), (8, jI1 s)]) (fun s wr => s ≤ l.length ∧ w = wr ∧ ∀ x ∈ l.take s, ¬ (¬ bV x)) (fun s => l.length - s) 0 (js4 rfl rfl rfl rfl) ⟨jo, rfl, jp⟩ ?_
 rintro i _ ⟨hi, rfl, hno⟩
 refine jS (jR (jb rfl rfl (Bin.lssN _ _) (jO (jN (jS ?_)))))
 refine jD rfl (fun hc1 => ?_) fun hc1 => ?_
 ·
  obtain ⟨ad, rfl, hcell⟩ := gV hl hc1
  have hts := dN hc1
  have hmem := zap hc1
  generalize hx : l[i] = x at *
  refine jQ (jN (jv4 0 1 7 8 ?_))
  refine jS (jB (jS (jR (jm rfl (ja rfl (jO (jN (jv5 0 1 5 7 8 ?_))))))))
  refine jS (jR (jm rfl (jm rfl (jm rfl (je (Run.indexS i rfl rfl zl zb hc1) (jl rfl zh hcell ?_))))))
  refine Ops.cl (qI.dyn rfl (evs.cons rfl evs.nil) Tryz.call54) ((pE x _ (hs x hmem))) rfl ?_
  rintro e _ ⟨rfl, rfl⟩
  refine ⟨_, rfl, ?_⟩
  refine jO (jN (jv6 0 1 5 7 8 16 ?_))
  refine VC.condB rfl (fun hc2 => ?_) (fun hc2 => ?_)
  ·
   refine jS (jR (jm rfl (ja rfl (jO (jN (jv1 4 ?_))))))
   refine jT ?_
   refine qR (qZ (qZ (qR (qZ (qN rfl ?_)))))
   exact ⟨rfl, _, rfl, ⟨fun _ => ⟨x, hmem, of_decide_eq_true hc2⟩, fun _ => jo⟩⟩
  refine jQ ?_
  refine qW (jN ?_)
  refine jv4 0 1 7 8 ?_
  refine jR (jb rfl rfl (Bin.add_i64 _ 1 jo) (jm rfl (jO ?_)))
  refine jN ⟨(i + 1), (js4 rfl rfl rfl rfl), ?_, ?_⟩
  ·
   refine ⟨hc1, rfl, fun y hy => ?_⟩
   rw [hts] at hy
   rcases List.mem_append.1 hy with h | h
   · exact hno y h
   simp only [zf] at h; subst h; exact of_decide_eq_false hc2
  exact jq
 have hil : i = l.length := jo
 rw [hil, zay] at hno
 refine jX ?_
 refine qK (qK (qH ?_))
 refine jN ?_
 refine VC.sub [] .nil ?_
 refine jS (jR ?_)
 refine Ops.r (v := .int .i64 (-1)) (Run.asg rfl) rfl ?_
 refine jO (jN (jT ?_))
 refine qN rfl ?_
 exact ⟨rfl, _, rfl, ⟨fun h => jo, fun ⟨y, hy, hb⟩ => absurd hb (hno y hy)⟩⟩
theorem sJ (A : Option Addr) (c : Nat) (l : List Tx) (w : World) (hl : Rd w 1 A l.length (SB l)) (hn : l.length ≤ 1000000) (hs : ∀ s ∈ l, s.length ≤ 1000000) :
  Calls Tryz.prog 53 #[.slice A l.length c, .func (.func 54) #[] #[]] w fun e w' => e = .returned (.bool (decide (∃ n ∈ l, ¬ bV n))) ∧ w = w' := by
 refine jV Tryz.func53 Tryz.ntmps53 Tryz.results53 ?_
 refine jS (jR (ja rfl (jO (jN (jv2 0 1 ?_)))))
 refine jS (jR (jm rfl (jM ?_)))
 refine jc (jE2 Tryz.call85) ((idxS A c l _ hl hn hs)) ?_
 rintro e _ ⟨rfl, k, rfl, hk⟩
 refine ⟨_, rfl, ?_⟩
 refine jb rfl rfl (Bin.geq _ 0) (ja rfl (jO (jN (jv1 4 ?_))))
 refine jT ?_
 refine qN rfl ?_
 exact ⟨by rw [decide_eq_decide.2 hk], rfl⟩
end
section
open Go.RowKit Go.Sort
theorem sV {v : Wnt} (h : 8 < v.path.length ∨ ∃ n ∈ v.path, bW n) : ¬ bL v := fun k => k.1 h
theorem sW {v : Wnt} (h : (16 < v.names.length ∨ ¬ (qP v.what ↔ 0 < v.names.length)) ∨ ∃ s ∈ v.names, ¬ bV s) : ¬ bL v := fun k => k.2.1 h
theorem lZ {v : Wnt} (h3 : ¬ v.what = []) (h4 : ¬ v.what = hdrT) (h5 : ¬ v.what = txtT) (h6 : ¬ v.what = oW) (h7 : ¬ v.what = oY) (h : kZ v) : v.what = mimT ∧ 0 < v.path.length := by
 rcases h with h | h | h | h | h | h
 · exact absurd h h3
 · exact absurd h h4
 · exact absurd h h5
 · exact absurd h h6
 · exact absurd h h7
 exact h
theorem tN (p q : Prop) [Decidable p] [Decidable q] : (decide p != decide q) = decide (¬ (p ↔ q)) := by
 by_cases hp : p <;> by_cases hq : q <;> simp [hp, hq]
theorem cA (v : Wnt) (A : Option Addr) (c : Nat) (B : Option Addr) (d : Nat) : ∀ u ∈ (WtC v A c B d).toList, u.oneCell' = true := by
 intro u hu
 simp only [WtC, zs, zw, or_false] at hu
 rcases hu with rfl | rfl | rfl <;> rfl
theorem gF (v : Wnt) (A B : Option Addr) (c d : Nat) (w : World) (hp : Rd w 1 A v.path.length (PI v.path)) (hpl : v.path.length ≤ 1000000) (hn : Rd w 1 B v.names.length (SB v.names)) (hnl : v.names.length ≤ 1000000) (hns : ∀ s ∈ v.names, s.length ≤ 1000000) :
  Calls Tryz.prog 26 #[.agg (WtC v A c B d)] w fun e w' => e = .returned (.bool (decide (bL v))) ∧ Frm [] w w' := by
 refine jV Tryz.func26 Tryz.ntmps26 Tryz.results26 ?_
 refine jS (jR ?_)
 refine Ops.m (qV.box rfl) rfl ?_
 rintro _ w1 ⟨rfl, hF1⟩
 have hb1 : Blk w1 w.heap.size 47 (WtC v A c B d) := hF1.blk
 have K := hF1.frm
 have hp := hp.frm K jp
 have hn := hn.frm K jp
 generalize w.heap.size = g1 at hb1 ⊢
 refine ja rfl (jO (jN (jv1 1 ?_)))
 refine jS ?_
 refine VC.split1 [(1, _)] (js1 rfl) 3 (.bool (decide (qP v.what))) ?_ ?_
 ·
  refine jR (jf rfl zi rfl zb (jl rfl zh (hb1.cell 1) (je (Run.eqlT rfl rfl) ?_)))
  by_cases hs6 : v.what = oW
  ·
   refine jM ?_
   refine jU ?_
   refine jU ?_
   refine jU ?_
   refine jW rfl rfl au (ja rfl (jO ?_))
   refine jN ⟨(js2 (jC (by first | exact (decide_eq_true (show qP v.what from .inl hs6)).symm | exact (decide_eq_true hs6).trans (decide_eq_true (show qP v.what from .inl hs6)).symm | exact (decide_eq_true hs10).trans (decide_eq_true (show qP v.what from .inr hs10)).symm | exact (decide_eq_false hs10).trans (decide_eq_false (show ¬ (qP v.what) from fun h => h.elim hs6 hs10)).symm)) rfl), rfl⟩
  refine jM ?_
  refine jk (Run.fieldAddr rfl zi rfl zb jd) ?_
  refine jk (Run.load rfl zh (hb1.cell 1)) ?_
  refine jk (Run.eqlT rfl rfl) ?_
  by_cases hs10 : v.what = oY
  ·
   refine jF rfl rfl au (ja rfl (jO ?_))
   refine jN ⟨(js2 (jC (by first | exact (decide_eq_true (show qP v.what from .inl hs6)).symm | exact (decide_eq_true hs6).trans (decide_eq_true (show qP v.what from .inl hs6)).symm | exact (decide_eq_true hs10).trans (decide_eq_true (show qP v.what from .inr hs10)).symm | exact (decide_eq_false hs10).trans (decide_eq_false (show ¬ (qP v.what) from fun h => h.elim hs6 hs10)).symm)) rfl), rfl⟩
  refine jF rfl rfl au (ja rfl (jO ?_))
  refine jN ⟨(js2 (jC (by first | exact (decide_eq_true (show qP v.what from .inl hs6)).symm | exact (decide_eq_true hs6).trans (decide_eq_true (show qP v.what from .inl hs6)).symm | exact (decide_eq_true hs10).trans (decide_eq_true (show qP v.what from .inr hs10)).symm | exact (decide_eq_false hs10).trans (decide_eq_false (show ¬ (qP v.what) from fun h => h.elim hs6 hs10)).symm)) rfl), rfl⟩
 intro Γ hΓ
 refine jN (VC.sub _ hΓ (jS (jS ?_)))
 refine VC.split1 [(1, _), (3, _)] (js2 rfl rfl) 20 (.bool (decide (8 < v.path.length ∨ ∃ n ∈ v.path, bW n))) ?_ ?_
 ·
  refine jR (jf rfl zi rfl zas (jl rfl zbp (hb1.cell 0) (jL rfl zm (jb rfl rfl (Bin.gtrN _ 8) ?_))))
  by_cases hs15 : 8 < v.path.length
  ·
   refine jM ?_
   refine jU ?_
   refine jU ?_
   refine jU ?_
   refine jW rfl rfl au (jO ?_)
   refine jN ⟨(js3 (jC (by first | exact (decide_eq_true (show 8 < v.path.length ∨ ∃ n ∈ v.path, bW n from .inl hs15)).symm | exact (decide_eq_true hs15).trans (decide_eq_true (show 8 < v.path.length ∨ ∃ n ∈ v.path, bW n from .inl hs15)).symm | exact (decide_eq_true hs19).trans (decide_eq_true (show 8 < v.path.length ∨ ∃ n ∈ v.path, bW n from .inr hs19)).symm | exact (decide_eq_false hs19).trans (decide_eq_false (show ¬ (8 < v.path.length ∨ ∃ n ∈ v.path, bW n) from fun h => h.elim hs15 hs19)).symm)) rfl rfl), rfl⟩
  refine jM ?_
  refine jk (Run.fieldAddr rfl zi rfl zas jd) ?_
  refine jk (Run.load rfl zbp (hb1.cell 0)) ?_
  refine Ops.clg rfl au (jE2 Tryz.call51) ((sZ A c v.path _ hp hpl)) rfl ?_
  rintro e _ ⟨rfl, rfl⟩
  refine ⟨_, rfl, ?_⟩
  by_cases hs19 : ∃ n ∈ v.path, bW n
  ·
   refine jF rfl rfl au (jO ?_)
   refine jN ⟨(js3 (jC (by first | exact (decide_eq_true (show 8 < v.path.length ∨ ∃ n ∈ v.path, bW n from .inl hs15)).symm | exact (decide_eq_true hs15).trans (decide_eq_true (show 8 < v.path.length ∨ ∃ n ∈ v.path, bW n from .inl hs15)).symm | exact (decide_eq_true hs19).trans (decide_eq_true (show 8 < v.path.length ∨ ∃ n ∈ v.path, bW n from .inr hs19)).symm | exact (decide_eq_false hs19).trans (decide_eq_false (show ¬ (8 < v.path.length ∨ ∃ n ∈ v.path, bW n) from fun h => h.elim hs15 hs19)).symm)) rfl rfl), rfl⟩
  refine jF rfl rfl au (jO ?_)
  refine jN ⟨(js3 (jC (by first | exact (decide_eq_true (show 8 < v.path.length ∨ ∃ n ∈ v.path, bW n from .inl hs15)).symm | exact (decide_eq_true hs15).trans (decide_eq_true (show 8 < v.path.length ∨ ∃ n ∈ v.path, bW n from .inl hs15)).symm | exact (decide_eq_true hs19).trans (decide_eq_true (show 8 < v.path.length ∨ ∃ n ∈ v.path, bW n from .inr hs19)).symm | exact (decide_eq_false hs19).trans (decide_eq_false (show ¬ (8 < v.path.length ∨ ∃ n ∈ v.path, bW n) from fun h => h.elim hs15 hs19)).symm)) rfl rfl), rfl⟩
 intro Γ hΓ
 refine jN (VC.sub _ hΓ ?_)
 refine jD rfl (fun hc1 => ?_) fun hc1 => ?_
 ·
  refine jS (jR (ja rfl (jO (jN (jv1 2 ?_)))))
  refine jT ?_
  refine qZ (qN rfl ?_)
  exact ⟨by rw [decide_eq_false (sV hc1)], K⟩
 refine jQ (jN (jv2 1 3 ?_))
 refine jS (jS ?_)
 refine VC.split1 [(1, _)] (js1 rfl) 37 (.bool (decide ((16 < v.names.length ∨ ¬ (qP v.what ↔ 0 < v.names.length)) ∨ ∃ s ∈ v.names, ¬ bV s))) ?_ ?_
 ·
  refine jR (jf rfl zi rfl zab (jl rfl zal (hb1.cell 2) (jL rfl zl (jb rfl rfl (Bin.gtrN _ 16) ?_))))
  by_cases hs24 : 16 < v.names.length
  ·
   refine jM ?_
   refine jU ?_
   refine jU ?_
   refine jU ?_
   refine jU ?_
   refine jU ?_
   refine jU ?_
   refine jW rfl rfl au (jM ?_)
   refine jU ?_
   refine jU ?_
   refine jU ?_
   refine jW rfl rfl au (jO ?_)
   refine jN ⟨(js2 (jC (by first | exact (decide_eq_true (show (16 < v.names.length ∨ ¬ (qP v.what ↔ 0 < v.names.length)) ∨ ∃ s ∈ v.names, ¬ bV s from .inl (.inl hs24))).symm | exact (decide_eq_true hs24).trans (decide_eq_true (show (16 < v.names.length ∨ ¬ (qP v.what ↔ 0 < v.names.length)) ∨ ∃ s ∈ v.names, ¬ bV s from .inl (.inl hs24))).symm | exact (decide_eq_true (show (16 < v.names.length ∨ ¬ (qP v.what ↔ 0 < v.names.length)) ∨ ∃ s ∈ v.names, ¬ bV s from .inl (.inr hs31))).symm | exact (decide_eq_true hs31).trans (decide_eq_true (show (16 < v.names.length ∨ ¬ (qP v.what ↔ 0 < v.names.length)) ∨ ∃ s ∈ v.names, ¬ bV s from .inl (.inr hs31))).symm | exact (decide_eq_true hs36).trans (decide_eq_true (show (16 < v.names.length ∨ ¬ (qP v.what ↔ 0 < v.names.length)) ∨ ∃ s ∈ v.names, ¬ bV s from .inr hs36)).symm | exact (decide_eq_false hs36).trans (decide_eq_false (show ¬ ((16 < v.names.length ∨ ¬ (qP v.what ↔ 0 < v.names.length)) ∨ ∃ s ∈ v.names, ¬ bV s) from fun h => h.elim (fun h => h.elim hs24 hs31) hs36)).symm)) rfl), rfl⟩
  refine jM ?_
  refine jG ?_
  refine jk (Run.fieldAddr rfl zi rfl zab jd) ?_
  refine jk (Run.load rfl zal (hb1.cell 2)) ?_
  refine jk (Run.lenS rfl zl) ?_
  refine jk (Run.bin rfl rfl (Bin.gtrN _ 0)) ?_
  refine jk (Run.neqB rfl rfl zx) ?_
  rw [tN]
  by_cases hs31 : ¬ (qP v.what ↔ 0 < v.names.length)
  ·
   refine jF rfl rfl au (jM ?_)
   refine jU ?_
   refine jU ?_
   refine jU ?_
   refine jW rfl rfl au (jO ?_)
   refine jN ⟨(js2 (jC (by first | exact (decide_eq_true (show (16 < v.names.length ∨ ¬ (qP v.what ↔ 0 < v.names.length)) ∨ ∃ s ∈ v.names, ¬ bV s from .inl (.inl hs24))).symm | exact (decide_eq_true hs24).trans (decide_eq_true (show (16 < v.names.length ∨ ¬ (qP v.what ↔ 0 < v.names.length)) ∨ ∃ s ∈ v.names, ¬ bV s from .inl (.inl hs24))).symm | exact (decide_eq_true (show (16 < v.names.length ∨ ¬ (qP v.what ↔ 0 < v.names.length)) ∨ ∃ s ∈ v.names, ¬ bV s from .inl (.inr hs31))).symm | exact (decide_eq_true hs31).trans (decide_eq_true (show (16 < v.names.length ∨ ¬ (qP v.what ↔ 0 < v.names.length)) ∨ ∃ s ∈ v.names, ¬ bV s from .inl (.inr hs31))).symm | exact (decide_eq_true hs36).trans (decide_eq_true (show (16 < v.names.length ∨ ¬ (qP v.what ↔ 0 < v.names.length)) ∨ ∃ s ∈ v.names, ¬ bV s from .inr hs36)).symm | exact (decide_eq_false hs36).trans (decide_eq_false (show ¬ ((16 < v.names.length ∨ ¬ (qP v.what ↔ 0 < v.names.length)) ∨ ∃ s ∈ v.names, ¬ bV s) from fun h => h.elim (fun h => h.elim hs24 hs31) hs36)).symm)) rfl), rfl⟩
  refine jF rfl rfl au (jM ?_)
  refine jk (Run.fieldAddr rfl zi rfl zab jd) ?_
  refine jk (Run.load rfl zal (hb1.cell 2)) ?_
  refine Ops.clg rfl au (jE2 Tryz.call53) ((sJ B d v.names _ hn hnl hns)) rfl ?_
  rintro e _ ⟨rfl, rfl⟩
  refine ⟨_, rfl, ?_⟩
  by_cases hs36 : ∃ s ∈ v.names, ¬ bV s
  ·
   refine jF rfl rfl au (jO ?_)
   refine jN ⟨(js2 (jC (by first | exact (decide_eq_true (show (16 < v.names.length ∨ ¬ (qP v.what ↔ 0 < v.names.length)) ∨ ∃ s ∈ v.names, ¬ bV s from .inl (.inl hs24))).symm | exact (decide_eq_true hs24).trans (decide_eq_true (show (16 < v.names.length ∨ ¬ (qP v.what ↔ 0 < v.names.length)) ∨ ∃ s ∈ v.names, ¬ bV s from .inl (.inl hs24))).symm | exact (decide_eq_true (show (16 < v.names.length ∨ ¬ (qP v.what ↔ 0 < v.names.length)) ∨ ∃ s ∈ v.names, ¬ bV s from .inl (.inr hs31))).symm | exact (decide_eq_true hs31).trans (decide_eq_true (show (16 < v.names.length ∨ ¬ (qP v.what ↔ 0 < v.names.length)) ∨ ∃ s ∈ v.names, ¬ bV s from .inl (.inr hs31))).symm | exact (decide_eq_true hs36).trans (decide_eq_true (show (16 < v.names.length ∨ ¬ (qP v.what ↔ 0 < v.names.length)) ∨ ∃ s ∈ v.names, ¬ bV s from .inr hs36)).symm | exact (decide_eq_false hs36).trans (decide_eq_false (show ¬ ((16 < v.names.length ∨ ¬ (qP v.what ↔ 0 < v.names.length)) ∨ ∃ s ∈ v.names, ¬ bV s) from fun h => h.elim (fun h => h.elim hs24 hs31) hs36)).symm)) rfl), rfl⟩
  refine jF rfl rfl au (jO ?_)
  refine jN ⟨(js2 (jC (by first | exact (decide_eq_true (show (16 < v.names.length ∨ ¬ (qP v.what ↔ 0 < v.names.length)) ∨ ∃ s ∈ v.names, ¬ bV s from .inl (.inl hs24))).symm | exact (decide_eq_true hs24).trans (decide_eq_true (show (16 < v.names.length ∨ ¬ (qP v.what ↔ 0 < v.names.length)) ∨ ∃ s ∈ v.names, ¬ bV s from .inl (.inl hs24))).symm | exact (decide_eq_true (show (16 < v.names.length ∨ ¬ (qP v.what ↔ 0 < v.names.length)) ∨ ∃ s ∈ v.names, ¬ bV s from .inl (.inr hs31))).symm | exact (decide_eq_true hs31).trans (decide_eq_true (show (16 < v.names.length ∨ ¬ (qP v.what ↔ 0 < v.names.length)) ∨ ∃ s ∈ v.names, ¬ bV s from .inl (.inr hs31))).symm | exact (decide_eq_true hs36).trans (decide_eq_true (show (16 < v.names.length ∨ ¬ (qP v.what ↔ 0 < v.names.length)) ∨ ∃ s ∈ v.names, ¬ bV s from .inr hs36)).symm | exact (decide_eq_false hs36).trans (decide_eq_false (show ¬ ((16 < v.names.length ∨ ¬ (qP v.what ↔ 0 < v.names.length)) ∨ ∃ s ∈ v.names, ¬ bV s) from fun h => h.elim (fun h => h.elim hs24 hs31) hs36)).symm)) rfl), rfl⟩
 intro Γ hΓ
 refine jN (VC.sub _ hΓ ?_)
 refine jD rfl (fun hc2 => ?_) fun hc2 => ?_
 ·
  refine jS (jR (ja rfl (jO (jN (jv1 2 ?_)))))
  refine jT ?_
  refine qZ (qN rfl ?_)
  exact ⟨by rw [decide_eq_false (sW hc2)], K⟩
 refine jQ (jN (jv1 1 ?_))
 refine jS (jS (jR (jf rfl zi rfl zb (jl rfl zh (hb1.cell 1) (jO (jN (jv2 1 39 ?_)))))))
 refine jB (jS (jS (jR (je (Run.eqlT rfl rfl) (ja rfl (jO (jN (jv3 1 39 40 ?_))))))))
 refine jD rfl (fun hc3 => ?_) fun hc3 => ?_
 ·
  refine jQ (jN ?_)
  refine VC.condT rfl (decide_eq_true hc3) ?_
  refine jS (jR (ja rfl (jO (jN (jv1 2 ?_)))))
  refine jT ?_
  refine qR (qZ (qN rfl ?_))
  exact ⟨by rw [decide_eq_true (show bL v from ⟨hc1, hc2, .inl hc3⟩)], K⟩
 refine jS (jR (je (Run.eqlT rfl rfl) (ja rfl (jO (jN (jv3 1 39 40 ?_))))))
 refine jD rfl (fun hc4 => ?_) fun hc4 => ?_
 ·
  refine jQ (jN ?_)
  refine VC.condT rfl (decide_eq_true hc4) ?_
  refine jS (jR (ja rfl (jO (jN (jv1 2 ?_)))))
  refine jT ?_
  refine qR (qZ (qN rfl ?_))
  exact ⟨by rw [decide_eq_true (show bL v from ⟨hc1, hc2, .inr (.inl hc4)⟩)], K⟩
 refine jS (jR (je (Run.eqlT rfl rfl) (ja rfl (jO (jN (jv3 1 39 40 ?_))))))
 refine jD rfl (fun hc5 => ?_) fun hc5 => ?_
 ·
  refine jQ (jN ?_)
  refine VC.condT rfl (decide_eq_true hc5) ?_
  refine jS (jR (ja rfl (jO (jN (jv1 2 ?_)))))
  refine jT ?_
  refine qR (qZ (qN rfl ?_))
  exact ⟨by rw [decide_eq_true (show bL v from ⟨hc1, hc2, .inr (.inr (.inl hc5))⟩)], K⟩
 refine jS (jR (je (Run.eqlT rfl rfl) (ja rfl (jO (jN (jv3 1 39 40 ?_))))))
 refine jD rfl (fun hc6 => ?_) fun hc6 => ?_
 ·
  refine jQ (jN ?_)
  refine VC.condT rfl (decide_eq_true hc6) ?_
  refine jS (jR (ja rfl (jO (jN (jv1 2 ?_)))))
  refine jT ?_
  refine qR (qZ (qN rfl ?_))
  exact ⟨by rw [decide_eq_true (show bL v from ⟨hc1, hc2, .inr (.inr (.inr (.inl hc6)))⟩)], K⟩
 refine jR (je (Run.eqlT rfl rfl) (ja rfl (jO (jN (jv3 1 39 40 ?_)))))
 refine jD rfl (fun hc7 => ?_) fun hc7 => ?_
 ·
  refine jS (jR (ja rfl (jO (jN (jv1 2 ?_)))))
  refine jT ?_
  refine qR (qZ (qN rfl ?_))
  exact ⟨by rw [decide_eq_true (show bL v from ⟨hc1, hc2, .inr (.inr (.inr (.inr (.inl hc7))))⟩)], K⟩
 refine jS (jR (je (Run.eqlT rfl rfl) (ja rfl (jO (jN (jv2 1 46 ?_))))))
 refine jD rfl (fun hc8 => ?_) fun hc8 => ?_
 ·
  refine jS (jR (jf rfl zi rfl zas (jl rfl zbp (hb1.cell 0) (jL rfl zm (jb rfl rfl (Bin.gtrN _ 0) (ja rfl (jO (jN (jv1 2 ?_)))))))))
  refine jT ?_
  refine qR (qZ (qN rfl ?_))
  exact ⟨by rw [decide_eq_decide.2 (show 0 < v.path.length ↔ bL v from ⟨fun h => ⟨hc1, hc2, .inr (.inr (.inr (.inr (.inr ⟨hc8, h⟩))))⟩, fun h => (lZ hc3 hc4 hc5 hc6 hc7 h.2.2).2⟩)], K⟩
 refine jQ ?_
 refine qW (jN ?_)
 refine VC.sub [] .nil ?_
 refine jS (jR (ja rfl (jO (jN (jT ?_)))))
 refine qN rfl ?_
 exact ⟨by rw [decide_eq_false (show ¬ bL v from fun h => hc8 (lZ hc3 hc4 hc5 hc6 hc7 h.2.2).1)], K⟩
end
section
open Go.RowKit Go.Sort
def cH (w : World) : Prop := (∃ m, w.cell? ⟨1, 0, none⟩ = some (.int .i64 m)) ∧ ∃ ev, w.cell? ⟨4, 0, none⟩ = some ev ∧ (ev = .nilIface ∨ ∃ te pe, ev = .iface te pe)
theorem lJ {w w' : World} {a : Addr} {v : Value} (h : w.cell? a = some v) (k : Frm [] w w') : w'.cell? a = some v := by
 have hlt : a.block < w.heap.size := by
  apply Classical.byContradiction
  intro hn
  have : w.heap[a.block]? = none := by simp; omega
  simp [World.cell?, this] at h
 have e := k.block a.block hlt jp
 simp only [World.cell?] at h ⊢
 rw [e]
 exact h
theorem cH.frm0 {w w' : World} (h : cH w) (k : Frm [] w w') : cH w' := by
 obtain ⟨⟨m, h1⟩, ev, h2, h3⟩ := h
 exact ⟨⟨m, lJ h1 k⟩, ev, lJ h2 k, h3⟩
theorem lK (s : Tx) (w : World) (hs : s.length ≤ 18) (hv : cH w) : Calls Tryz.prog 136 #[encStr s] w fun e w' => Frm [] w w' ∧ ∃ (n : Int) (ev : Value) (b : Bool), e = .returned (.tuple #[.int .i64 n, ev]) ∧ ((b = false ∧ Lib.atoi s = some n ∧ ev = .nilIface) ∨ (b = true ∧ Lib.atoi s = none ∧ n = 0 ∧ ∃ t v, ev = .iface t v)) := by
 have hsz : (⟨s.toArray⟩ : ByteArray).size ≤ 18 := by show s.toArray.size ≤ 18; simpa using hs
 have hl : (⟨s.toArray⟩ : ByteArray).data.toList = s := by simp
 cases h : Lib.atoi s with
 | some n => exact (Tryz.strconv_Atoi ⟨s.toArray⟩ n hsz (by rw [hl]; exact h) w).mono fun e w' ⟨he, t, hw⟩ => ⟨Frm.of_below (hw ▸ Lib.bytesWorld_below _ _ _), n, _, false, he, .inl ⟨rfl, rfl, rfl⟩⟩
 | none =>
  obtain ⟨_, ev, h2, h3⟩ := hv
  exact (Tryz.strconv_Atoi_err ⟨s.toArray⟩ hsz (by rw [hl]; exact h) ev w h2 h3).mono fun e w' ⟨N, he, _, _, hb⟩ => ⟨Frm.of_below hb, 0, _, true, he, .inr ⟨rfl, rfl, rfl, _, _, rfl⟩⟩
section
variable {P : Program} {Γ : Env} {w : World} {dst : Option Tmp} {T : TypeId} {pos : String} {after : Array Edge} {g : Option (Nat × Bool)}
theorem Run.neqNilE {t yT : TypeId} {x : Operand} {ev : Value} {b : Bool} {d : TypeDesc} (hx : ev? Γ x = some ev) (hev : (b = false ∧ ev = .nilIface) ∨ (b = true ∧ ∃ u v, ev = .iface u v)) (ht : P.underlying t = some d) (hd : fH d = false) :
  Run P ⟨dst, .binOp .neq t x (.const .nilIface) yT, T, pos, after, g⟩ Γ w (.bool b) := by
 rcases hev with ⟨rfl, rfl⟩ | ⟨rfl, u, v, rfl⟩
 · exact Run.neqNil2 hx ht hd
 exact Run.neqNilI hx rfl ht hd
end
def mV (s : Tx) : UInt8 := s.headD 0
def bC (s : Tx) : Prop := ((s = [] ∨ 2 < s.length) ∨ (mV s).toNat < 49) ∨ 57 < (mV s).toNat
instance (s : Tx) : Decidable (bC s) := by unfold bC; infer_instance
def cP (s : Tx) : Int := if bC s then 0 else match Lib.atoi s with
 | some n => if 64 < n then 0 else n
 | none => 0
theorem mF (s : Tx) (w : World) (hs : s.length ≤ 1000000) (hv : cH w) : Calls Tryz.prog 148 #[encStr s] w fun e w' => e = .returned (.int .i64 (cP s)) ∧ Frm [] w w' := by
 have hgx : ¬ s = [] → s[0]? = some (mV s) := fun h => by cases s with
  | nil => exact absurd rfl h
  | cons x r => rfl
 refine jV Tryz.func148 Tryz.ntmps148 Tryz.results148 ?_
 refine jS (jR (jz 0 (jO (jN (jv1 0 ?_)))))
 refine jS (jS ?_)
 refine VC.split1 [(0, _)] (js1 rfl) 21 (.bool (decide (bC s))) ?_ ?_
 ·
  refine jR ?_
  refine jm rfl (je (Run.eqlT rfl rfl) ?_)
  by_cases hs6 : s = []
  ·
   refine jM ?_
   refine jU ?_
   refine jU ?_
   refine jU ?_
   refine jW rfl rfl au (jM ?_)
   refine jU ?_
   refine jU ?_
   refine jU ?_
   refine jW rfl rfl au (jM ?_)
   refine jU ?_
   refine jU ?_
   refine jU ?_
   refine jW rfl rfl au (jO ?_)
   refine jN ⟨(js2 (jC (by first | (simp [bC, hs6, hs10, hs15, hs20]; done) | (simp [bC, hs6, hs10, hs15]; done) | (simp [bC, hs6, hs10]; done) | (simp [bC, hs6]; done))) rfl), rfl⟩
  refine jM ?_
  refine jG ?_
  refine jk (Run.lenT rfl za) ?_
  refine jk (Run.bin rfl rfl (Bin.gtrN _ 2)) ?_
  by_cases hs10 : 2 < s.length
  ·
   refine jF rfl rfl au (jM ?_)
   refine jU ?_
   refine jU ?_
   refine jU ?_
   refine jW rfl rfl au (jM ?_)
   refine jU ?_
   refine jU ?_
   refine jU ?_
   refine jW rfl rfl au (jO ?_)
   refine jN ⟨(js2 (jC (by first | (simp [bC, hs6, hs10, hs15, hs20]; done) | (simp [bC, hs6, hs10, hs15]; done) | (simp [bC, hs6, hs10]; done) | (simp [bC, hs6]; done))) rfl), rfl⟩
  refine jF rfl rfl au (jM ?_)
  refine jG ?_
  refine jk (Run.indexT 0 rfl rfl za (hgx hs6)) ?_
  refine jk (Run.bin rfl rfl (Bin.lssN _ 49)) ?_
  by_cases hs15 : (mV s).toNat < 49
  ·
   refine jF rfl rfl au (jM ?_)
   refine jU ?_
   refine jU ?_
   refine jU ?_
   refine jW rfl rfl au (jO ?_)
   refine jN ⟨(js2 (jC (by first | (simp [bC, hs6, hs10, hs15, hs20]; done) | (simp [bC, hs6, hs10, hs15]; done) | (simp [bC, hs6, hs10]; done) | (simp [bC, hs6]; done))) rfl), rfl⟩
  refine jF rfl rfl au (jM ?_)
  refine jG ?_
  refine jk (Run.indexT 0 rfl rfl za (hgx hs6)) ?_
  refine jk (Run.bin rfl rfl (Bin.gtrN _ 57)) ?_
  by_cases hs20 : 57 < (mV s).toNat
  ·
   refine jF rfl rfl au (jO ?_)
   refine jN ⟨(js2 (jC (by first | (simp [bC, hs6, hs10, hs15, hs20]; done) | (simp [bC, hs6, hs10, hs15]; done) | (simp [bC, hs6, hs10]; done) | (simp [bC, hs6]; done))) rfl), rfl⟩
  refine jF rfl rfl au (jO ?_)
  refine jN ⟨(js2 (jC (by first | (simp [bC, hs6, hs10, hs15, hs20]; done) | (simp [bC, hs6, hs10, hs15]; done) | (simp [bC, hs6, hs10]; done) | (simp [bC, hs6]; done))) rfl), rfl⟩
 intro Γ hΓ
 refine jN (VC.sub _ hΓ ?_)
 refine jD rfl (fun hc1 => ?_) fun hc1 => ?_
 ·
  have hnq : cP s = 0 := by unfold cP; rw [if_pos hc1]
  refine jS (jR (jz 0 (jO (jN (jv1 2 ?_)))))
  refine jT ?_
  refine qZ (qN rfl ?_)
  exact ⟨by rw [hnq]; rfl, Frm.refl _ _⟩
 have hs2 : s.length ≤ 2 := by
  apply Classical.byContradiction
  intro h
  exact hc1 (.inl (.inl (.inr jo)))
 refine jQ (jN (jv1 0 ?_))
 refine jS (jR (jM ?_))
 refine jc (jE1 Tryz.call136) ((lK s _ jo hv)) ?_
 rintro e w1 ⟨K, n, ev, b, rfl, hab⟩
 refine ⟨_, rfl, ?_⟩
 have hev : (b = false ∧ ev = .nilIface) ∨ (b = true ∧ ∃ u v, ev = .iface u v) := by
  rcases hab with ⟨h1, _, h2⟩ | ⟨h1, _, _, h2⟩
  · exact .inl ⟨h1, h2⟩
  exact .inr ⟨h1, h2⟩
 have hnq : cP s = if b = true ∨ 64 < n then 0 else n := by
  unfold cP
  rw [if_neg hc1]
  rcases hab with ⟨h1, h2, _⟩ | ⟨h1, h2, h3, _⟩
  · rw [h2, h1]; simp
  rw [h2, h1]; simp
 refine jm rfl (jY rfl rfl (jY rfl rfl (ja rfl (ja rfl (jO (jN (jv2 3 4 ?_)))))))
 refine jS (jS ?_)
 refine VC.split1 [(3, _)] (js1 rfl) 32 (.bool (decide (b = true ∨ 64 < n))) ?_ ?_
 ·
  refine jR ?_
  refine jm rfl (je (Run.neqNilE rfl hev zdf rfl) ?_)
  rw [show b = decide (b = true) by simp]
  by_cases hs28 : b = true
  ·
   refine jM ?_
   refine jU ?_
   refine jU ?_
   refine jW rfl rfl au (jO ?_)
   refine jN ⟨(js2 (jC (by first | (simp [hs28, hs31]; done) | (simp [hs28]; done))) rfl), rfl⟩
  refine jM ?_
  refine jG ?_
  refine jk (Run.bin rfl rfl (Bin.gtr _ 64)) ?_
  by_cases hs31 : 64 < n
  ·
   refine jF rfl rfl au (jO ?_)
   refine jN ⟨(js2 (jC (by first | (simp [hs28, hs31]; done) | (simp [hs28]; done))) rfl), rfl⟩
  refine jF rfl rfl au (jO ?_)
  refine jN ⟨(js2 (jC (by first | (simp [hs28, hs31]; done) | (simp [hs28]; done))) rfl), rfl⟩
 intro Γ hΓ
 refine jN (VC.sub _ hΓ ?_)
 refine jD rfl (fun hc2 => ?_) fun hc2 => ?_
 ·
  rw [if_pos hc2] at hnq
  refine jS (jR (jz 0 (jO (jN (jv1 2 ?_)))))
  refine jT ?_
  refine qZ (qN rfl ?_)
  exact ⟨by rw [hnq]; rfl, K⟩
 rw [if_neg hc2] at hnq
 refine jQ (jN (jv1 3 ?_))
 refine jS (jR (jm rfl (ja rfl (jO (jN (jv1 2 ?_))))))
 refine jT ?_
 refine qN rfl ?_
 exact ⟨by rw [hnq]; rfl, K⟩
end
section
open Go.RowKit Go.Sort
theorem mA (s : Tx) (c : UInt8) (w : World) : Calls Tryz.prog 199 #[encStr s, encStr [c]] w fun e w' => e = .returned (.int .i64 (Lib.indexByte s c)) ∧ w = w' :=
 (Tryz.stringslite_Index_one ⟨s.toArray⟩ c w).mono fun e w' ⟨h, hw⟩ => ⟨h, hw.symm⟩
theorem mW (s : Tx) (c : UInt8) (w : World) : Calls Tryz.prog 188 #[encStr s, encStr [c]] w fun e w' => e = .returned (.int .i64 (Lib.indexByte s c)) ∧ w = w' :=
 (Tryz.strings_Index_one ⟨s.toArray⟩ c w).mono fun e w' ⟨h, hw⟩ => ⟨h, hw.symm⟩
theorem pF (s : Tx) (c : UInt8) (w : World) (hs : s.length ≤ 1000000) : Calls Tryz.prog 177 #[encStr s, encStr [c]] w fun e w' => e = .returned (.tuple #[encStr (bZ c s), encStr (qC c s), .bool (decide (c ∈ s))]) ∧ Frm [] w w' := by
 refine jV Tryz.func177 Tryz.ntmps177 Tryz.results177 ?_
 refine jS (jR (ja rfl (ja rfl (ja rfl (jO (jN (jv2 0 1 ?_)))))))
 refine jS (jS (jR (jm rfl (jM ?_))))
 refine jc0 (jE2 Tryz.call199) (mA s c _) ?_
 refine ja rfl (jO (jN (jv3 0 1 7 ?_)))
 refine jS (jR (jm rfl (jb rfl rfl (Bin.geq _ 0) (jO (jN (jv4 0 1 7 12 ?_))))))
 refine jD rfl (fun hc1 => ?_) fun hc1 => ?_
 ·
  obtain ⟨a, b, rfl, hc, hi⟩ := (cF s c).resolve_left (fun h => by rw [h.1] at hc1; omega)
  rw [hi]
  obtain ⟨hb1, hb2⟩ := pB (b := b) hc
  simp only [zaz, zbt] at hs
  have e1 : (a ++ c :: b).take a.length = a := jp
  have e2 : (a ++ c :: b).drop (a.length + 1) = b := by rw [List.drop_append, zbu jo]; simp
  refine jS ?_
  refine VC.still jK jK ?_
  refine qM ?_
  refine qM ?_
  refine qE (Run.sliceT 0 a.length rfl za evB.none_ (evB.some_ rfl) jo jp) ?_
  refine qM ?_
  refine qM ?_
  refine qM ?_
  refine qE (Run.lenT rfl za) ?_
  refine qE (Run.bin rfl rfl (Bin.add_i64 a.length 1 jo)) ?_
  refine qE (Run.sliceT (a.length + 1) _ rfl za (evB.some_ rfl) evB.none_ (by first | (simp; done) | (simp; omega)) jp) ?_
  refine qA ?_
  refine qA ?_
  refine qA ?_
  refine qF.nil ?_
  refine jN (jv3 4 5 6 ?_)
  refine jT ?_
  refine qZ (rD rfl rfl rfl ?_)
  refine ⟨?_, (qL.drew _).frm⟩
  rw [hb1, hb2, decide_eq_true jp]
  simp only [List.drop_zero, Nat.sub_zero, e1, e2]
  rw [zaa (l := b) (by simp; omega)]
 have hc : c ∉ s := by
  rcases cF s c with ⟨_, h⟩ | ⟨a, b, _, _, hi⟩
  · exact h
  rw [hi] at hc1; omega
 obtain ⟨hb1, hb2⟩ := pU hc
 refine jQ (jN (jv1 0 ?_))
 refine jS (jR (jm rfl (ja rfl (ja rfl (ja rfl (jO (jN (jv3 4 5 6 ?_))))))))
 refine jT ?_
 refine rD rfl rfl rfl ?_
 refine ⟨?_, Frm.refl _ _⟩
 rw [hb1, hb2, decide_eq_false hc]
theorem fS (s : Tx) (c : UInt8) (w : World) (hs : s.length ≤ 1000000) : Calls Tryz.prog 138 #[encStr s, encStr [c]] w fun e w' => e = .returned (.tuple #[encStr (bZ c s), encStr (qC c s), .bool (decide (c ∈ s))]) ∧ Frm [] w w' := by
 refine jV Tryz.func138 Tryz.ntmps138 Tryz.results138 ?_
 refine jS (jR (ja rfl (ja rfl (ja rfl (jO (jN (jv2 0 1 ?_)))))))
 refine jS (jR (jm rfl (jM ?_)))
 refine jc (jE2 Tryz.call177) (pF s c _ hs) ?_
 rintro e w1 ⟨rfl, hf1⟩
 refine ⟨_, rfl, ?_⟩
 refine jY rfl rfl (jY rfl rfl (jY rfl rfl (ja rfl (ja rfl (ja rfl (jO (jN (jv3 4 5 6 ?_))))))))
 refine jT ?_
 refine rD rfl rfl rfl ?_
 exact ⟨rfl, hf1⟩
def kJ (w : World) (c : UInt8) (s : Tx) (ga gb gc : Nat) : Prop := Blk w ga 9 #[encStr [c]] ∧ Blk w gb 9 #[encStr s] ∧ Blk w gc 3 #[.int .i64 0]
theorem lP (s : Tx) (c : UInt8) (w : World) : Calls Tryz.prog 176 #[encStr s, encStr [c], .int .i64 0] w fun e w' => Frm [] w w' ∧ ∃ ga gb gc, e = .returned (.func (.func 198) #[] #[jI0 ga, jI0 gb, jI0 gc]) ∧ kJ w' c s ga gb gc ∧ (w.heap.size ≤ ga ∧ w.heap.size ≤ gb ∧ w.heap.size ≤ gc ∧ ga ≠ gb ∧ gc ≠ gb) := by
 refine jV Tryz.func176 Tryz.ntmps176 Tryz.results176 ?_
 refine jS (jR ?_)
 refine Ops.m (qV.box rfl) rfl ?_
 rintro _ w1 ⟨rfl, hF1⟩
 have hb1 := hF1.blk
 refine Ops.m (qV.box rfl) rfl ?_
 rintro _ w2 ⟨rfl, hF2⟩
 have hb2 := hF2.blk
 have hb1 := hb1.frm hF2.frm jp
 refine Ops.m (qV.box rfl) rfl ?_
 rintro _ w3 ⟨rfl, hF3⟩
 have hb3 := hF3.blk
 have hb1 := hb1.frm hF3.frm jp
 have hb2 := hb2.frm hF3.frm jp
 have hs1 := hF1.size
 have hs2 := hF2.size
 refine ja rfl (jO (jN (jv3 3 4 5 ?_)))
 refine jS (jR (je (Run.mkFunc evs.nil (evs.cons rfl (evs.cons rfl (evs.cons rfl evs.nil)))) (ja rfl (jO (jN (jv1 6 ?_))))))
 refine jT ?_
 refine qN rfl ?_
 exact ⟨(hF1.frm.trans hF2.frm jp).trans hF3.frm jp, _, _, _, rfl, ⟨hb2, hb1, hb3⟩, jo, jo, jo, jo, jo⟩
theorem lR (s : Tx) (c : UInt8) (w : World) : Calls Tryz.prog 137 #[encStr s, encStr [c]] w fun e w' => Frm [] w w' ∧ ∃ ga gb gc, e = .returned (.func (.func 198) #[] #[jI0 ga, jI0 gb, jI0 gc]) ∧ kJ w' c s ga gb gc ∧ (w.heap.size ≤ ga ∧ w.heap.size ≤ gb ∧ w.heap.size ≤ gc ∧ ga ≠ gb ∧ gc ≠ gb) := by
 refine jV Tryz.func137 Tryz.ntmps137 Tryz.results137 ?_
 refine jS (jR (ja rfl (jO (jN (jv2 0 1 ?_)))))
 refine jS (jR (jm rfl (jM ?_)))
 refine jc (jE3 Tryz.call176) (lP s c _) ?_
 rintro e w1 ⟨hf1, ga, gb, gc, rfl, h1, h2⟩
 refine ⟨_, rfl, ?_⟩
 refine ja rfl (jO (jN (jv1 4 ?_)))
 refine jT ?_
 refine qN rfl ?_
 exact ⟨hf1, ga, gb, gc, rfl, h1, h2⟩
theorem oG (s : Tx) (c : UInt8) (ga gb gc : Nat) (hs : s.length ≤ 1000000) (hne : ga ≠ gb ∧ gc ≠ gb) :
  Iter Tryz.prog 198 #[jI0 ga, jI0 gb, jI0 gc] (fun x => #[encStr x]) [gb] [ga, gb, gc] (fun w => kJ w c s ga gb gc) (bG c s) := by
 intro l J Jx w hJ hJx hK hY h0
 obtain ⟨hba, hbb, hbc⟩ := hK
 refine jV Tryz.func198 Tryz.ntmps198 Tryz.results198 ?_
 refine jS (jS (jR (jl rfl zh (hba.cell 0) (je (Run.lenT rfl za) (jb rfl rfl (Bin.eqlN _ 0) (jO (jN (jv5 0 1 2 3 11 ?_))))))))
 refine VC.condF rfl jp ?_
 refine jQ (jN (jv4 0 1 2 3 ?_))
 refine jS (jB ?_)
 refine VC.loop (σ := List Tx × Tx) (fun s1 => [(0, .func (.yield l) #[] #[]), (1, jI0 ga), (2, jI0 gb), (3, jI0 gc)]) (fun s1 wr => bG c s = s1.1 ++ bG c s1.2 ∧ s1.2.length ≤ s.length ∧ kJ wr c s1.2 ga gb gc ∧ J s1.1 wr) (fun s1 => s1.2.length) ([], s) (js4 rfl rfl rfl rfl) ⟨rfl, zaj _, ⟨hba, hbb, hbc⟩, h0⟩ ?_
 rintro ⟨pre, t⟩ wr ⟨hsp, htl, ⟨hba, hbb, hbc⟩, hj⟩
 dsimp only at hsp htl hbb hj
 refine jB (jS (jR (jl rfl zh (hbb.cell 0) (jl rfl zh (hba.cell 0) ?_))))
 refine jc0 (jE2 Tryz.call188) (mW t c _) ?_
 refine ja rfl (jO (jN (jv5 0 1 2 3 7 ?_)))
 refine jS (jS (jR (jm rfl (jb rfl rfl (Bin.lss _ 0) (jO (jN (jv6 0 1 2 3 7 33 ?_)))))))
 refine jD rfl (fun hc4 => ?_) fun hc4 => ?_
 ·
  have hc : c ∉ t := by
   rcases cF t c with ⟨_, h⟩ | ⟨a, b, _, _, hi⟩
   · exact h
   rw [hi] at hc4; omega
  rw [mJ hc] at hsp
  refine jX ?_
  refine qK (eU rfl (qK (qH ?_)))
  refine jN (jv2 0 2 ?_)
  refine jR (jm rfl (jl rfl zh (hbb.cell 0) ?_))
  refine Ops.yield rfl rfl (evs.cons rfl evs.nil) ((hY pre t wr hj ⟨[], by rw [hsp]; simp⟩)) rfl rfl ?_
  rintro e w1 ⟨hoff, hR0⟩
  obtain ⟨yb, rfl, hR⟩ : ∃ yb : Bool, e = .returned (.bool yb) ∧ ((yb = true ∧ J (pre ++ [t]) w1) ∨ (yb = false ∧ Jx (pre ++ [t]) w1)) := by
   rcases hR0 with ⟨rfl, h⟩ | ⟨rfl, h⟩
   · exact ⟨true, rfl, .inl ⟨rfl, h⟩⟩
   exact ⟨false, rfl, .inr ⟨rfl, h⟩⟩
  refine ⟨_, rfl, ?_⟩
  refine jO ?_
  refine dS ?_
  refine ⟨⟨_, rfl⟩, ?_⟩
  rcases hR with ⟨_, h⟩ | ⟨_, h⟩
  · exact .inl (by rw [hsp]; exact h)
  exact .inr ⟨_, h⟩
 obtain ⟨a, b, rfl, hc, hi⟩ := (cF t c).resolve_left (fun h => by rw [h.1] at hc4; omega)
 rw [hi]
 rw [mK hc] at hsp
 simp only [zaz, zbt] at htl
 have e1 : (a ++ c :: b).take a.length = a := jp
 have e2 : (a ++ c :: b).drop (a.length + 1) = b := by rw [List.drop_append, zbu jo]; simp
 have hpre : (pre ++ [a]) <+: bG c s := ⟨bG c b, by rw [hsp]; simp⟩
 refine jQ (jN (jv5 0 1 2 3 7 ?_))
 refine jS (jR (jl rfl zh (hbb.cell 0) (jm rfl (jl rfl zj (hbc.cell 0) (jb rfl rfl (Bin.add_i64 a.length 0 jo) (je (Run.sliceT 0 (a.length + 0) rfl za evB.none_ (evB.some_ rfl) jo jp) (ja rfl (jO (jN (jv6 0 1 2 3 7 8 ?_))))))))))
 refine jS (jS (jR (jm rfl (jM ?_))))
 refine Ops.yield rfl rfl (evs.cons rfl evs.nil) ((by simpa using hY pre a wr hj hpre : gU Tryz.prog l #[encStr _] wr _)) rfl rfl ?_
 rintro e w1 ⟨hoff, hR0⟩
 obtain ⟨yb, rfl, hR⟩ : ∃ yb : Bool, e = .returned (.bool yb) ∧ ((yb = true ∧ J (pre ++ [a]) w1) ∨ (yb = false ∧ Jx (pre ++ [a]) w1)) := by
  rcases hR0 with ⟨rfl, h⟩ | ⟨rfl, h⟩
  · exact ⟨true, rfl, .inl ⟨rfl, h⟩⟩
  exact ⟨false, rfl, .inr ⟨rfl, h⟩⟩
 refine ⟨_, rfl, ?_⟩
 have hba := hoff.blk hba jp
 have hbb := hoff.blk hbb jp
 have hbc := hoff.blk hbc jp
 refine je (Run.not rfl) (jO (jN (jv6 0 1 2 3 7 42 ?_)))
 refine VC.condB rfl (fun hc5 => ?_) (fun hc5 => ?_)
 ·
  refine jT ?_
  refine qZ (qR (qZ (qR (qZ (rC ?_)))))
  exact ⟨⟨_, rfl⟩, .inr ⟨_, (hR.resolve_left (fun h => by rw [h.1] at hc5; simp at hc5)).2⟩⟩
 refine jQ (jN (jv5 0 1 2 3 7 ?_))
 refine jR (jl rfl zh (hbb.cell 0) (jm rfl (jl rfl zh (hba.cell 0) (je (Run.lenT rfl za) (jb rfl rfl (Bin.add_i64 a.length 1 jo) (je (Run.sliceT (a.length + 1) (a ++ c :: b).length rfl za (evB.some_ rfl) evB.none_ (by first | (simp; done) | (simp; omega)) jp) ?_))))))
 refine Ops.st (qQ.store rfl rfl zb hbb rfl rfl) ?_
 rintro w2 ⟨hbb2, hf2, hs2⟩
 have hbb2 : Blk w2 gb 9 #[encStr b] := by
  have e3 : ((a ++ c :: b).drop (a.length + 1)).take ((a ++ c :: b).length - (a.length + 1)) = b := by rw [e2]; exact zaa (by simp; omega)
  rw [← e3]; exact hbb2
 have hba2 := hba.frm hf2 (by simp; exact hne.1)
 have hbc2 := hbc.frm hf2 (by simp; exact hne.2)
 have hj2 := hJ _ _ _ (hR.resolve_right (fun h => by rw [h.1] at hc5; simp at hc5)).2 hf2
 refine jO ?_
 refine qW (jN ⟨(pre ++ [a], b), (js4 rfl rfl rfl rfl), ?_, ?_⟩)
 · exact ⟨by rw [hsp]; simp, by dsimp only; omega, ⟨hba2, hbb2, hbc2⟩, hj2⟩
 simp; omega
end
section
open Go.RowKit Go.Sort
theorem uK {c : UInt8} {s : Tx} (h : ¬ s = []) : (qC c s).length < s.length := by
 cases s with
 | nil => exact absurd rfl h
 | cons x r =>
  unfold qC
  have := (dE c r).2
  split <;> simp <;> omega
def eL : Nat → Tx → List Int → Option (List Int × Tx)
 | 0, r, p => some (p, r)
 | k + 1, r, p => if r = [] then some (p, r) else if cP (bZ 46 r) = 0 then some (p, r) else if 46 ∈ r ∧ qC 46 r = [] then none else eL k (qC 46 r) (p ++ [cP (bZ 46 r)])
def lU (s : Tx) : Option (List Int × Tx) := eL s.length s []
def fT (l : Tx) : Tx := Lib.trimSuffix (Lib.trimPrefix l [40]) [41]
def cL (t : Tx) : List Tx := (Lib.splitB ⟨#[32]⟩ 0 (Lib.countB ⟨t.toArray⟩ ⟨#[32]⟩) ⟨t.toArray⟩).map fun b => b.data.toList
def eV (s : Tx) : Option (List Tx) := if 32 ∈ s then (if (! Lib.hasPrefix (qC 32 s) [40]) = true ∨ (! Lib.hasSuffix (Lib.trimPrefix (qC 32 s) [40]) [41]) = true then none else some (cL (fT (qC 32 s)))) else some []
def bS (s : Tx) : Option Wnt := match eV s with
 | none => none
 | some l => match lU (bZ 32 s) with
  | none => none
  | some (p, r) => if bL ⟨p, qS r, l⟩ then some ⟨p, qS r, l⟩ else none
def bX : Wnt := ⟨[], [], []⟩
theorem oH {k : Nat} {r : Tx} {p : List Int} (h : ¬ r = []) (hk : r.length ≤ k) : ∃ k', k = k' + 1 ∧ eL k r p = if cP (bZ 46 r) = 0 then some (p, r) else if 46 ∈ r ∧ qC 46 r = [] then none else eL k' (qC 46 r) (p ++ [cP (bZ 46 r)]) := by
 cases k with
 | zero => exact absurd (List.length_eq_zero_iff.1 jo) h
 | succ k => exact ⟨k, rfl, by rw [eL, if_neg h]⟩
theorem pA {k : Nat} {p : List Int} : eL k [] p = some (p, []) := by
 cases k <;> simp [eL]
theorem pI (a b : List Int) : PI (a ++ b) = PI a ++ PI b := by simp [PI]
theorem uV (l : List Int) : ∀ u ∈ PI l, u.oneCell' = true := by
 intro u hu
 obtain ⟨b, _, rfl⟩ := List.mem_map.1 hu
 rfl
theorem lV (a p : Tx) (w : World) : Calls Tryz.prog 147 #[encStr a, encStr p] w fun e w' => e = .returned (.tuple #[encStr (Lib.trimPrefix a p), .bool (Lib.hasPrefix a p)]) ∧ w = w' :=
 (Tryz.strings_CutPrefix ⟨a.toArray⟩ ⟨p.toArray⟩ w).mono fun e w' ⟨h1, h2⟩ => ⟨h1, h2.symm⟩
theorem lW (a p : Tx) (w : World) (ha : a.length ≤ 1000000) : Calls Tryz.prog 74 #[encStr a, encStr p] w fun e w' => e = .returned (.tuple #[encStr (Lib.trimSuffix a p), .bool (Lib.hasSuffix a p)]) ∧ w = w' :=
 (Tryz.strings_CutSuffix ⟨a.toArray⟩ ⟨p.toArray⟩ w (by show a.toArray.size ≤ _; simp; omega)).mono fun e w' ⟨h1, h2⟩ => ⟨h1, h2.symm⟩
theorem pL (t : Tx) : Lib.countB ⟨t.toArray⟩ ⟨#[32]⟩ ≤ t.length := by
 have h := Lib.countB_le ⟨#[32]⟩ jd _ ⟨t.toArray⟩ (zaj _)
 have e : (⟨t.toArray⟩ : ByteArray).size = t.length := by show t.toArray.size = _; simp
 omega
theorem mY (sep : ByteArray) : ∀ (k : Nat) (s b : ByteArray), b ∈ Lib.splitB sep 0 k s → b.size ≤ s.size
 | 0, s, b, h => by
  rw [Lib.splitB_zero] at h
  simp only [zf] at h
  subst h
  exact zaj _
 | k + 1, s, b, h => by
  rw [Lib.splitB] at h
  split at h
  ·
   simp only [zf] at h
   subst h
   exact zaj _
  rcases zs.1 h with h | h
  ·
   subst h
   rw [ByteArray.size_extract]
   omega
  have := mY sep k _ b h
  rw [ByteArray.size_extract] at this
  omega
theorem mG (t : Tx) : (cL t).length ≤ t.length + 1 ∧ ∀ x ∈ cL t, x.length ≤ t.length := by
 have h1 := pL t
 have e : (⟨t.toArray⟩ : ByteArray).size = t.length := by show t.toArray.size = _; simp
 refine ⟨by unfold cL; rw [zaw, Lib.splitB_all _ jd 0 _ _ rfl]; omega, fun x hx => ?_⟩
 obtain ⟨b, hb, rfl⟩ := List.mem_map.1 hx
 have := mY _ _ _ b hb
 have e2 : b.data.toList.length = b.size := by simp
 omega
theorem mH (l : Tx) : (fT l).length ≤ l.length ∧ (Lib.trimPrefix l [40]).length ≤ l.length := by
 have h1 : ∀ (a p : Tx), (Lib.trimPrefix a p).length ≤ a.length := fun a p => by unfold Lib.trimPrefix; split <;> simp
 have h2 : ∀ (a p : Tx), (Lib.trimSuffix a p).length ≤ a.length := fun a p => by unfold Lib.trimSuffix; split <;> simp
 have h3 := h1 l [40]
 have h4 := h2 (Lib.trimPrefix l [40]) [41]
 unfold fT
 omega
theorem sY (t : Tx) (w : World) (ht : t.length ≤ 1000000) (hv : cH w) : Calls Tryz.prog 133 #[encStr t, encStr [32]] w fun e w' => Frm [] w w' ∧ ∃ A c, e = .returned (.slice A (cL t).length c) ∧ Own w' 9 1 A (cL t).length c (SB (cL t)) ∧ ∀ x ∈ ob A, w.heap.size ≤ x := by
 obtain ⟨⟨m, hm⟩, _⟩ := hv
 refine (Tryz.strings_Split ⟨t.toArray⟩ ⟨#[32]⟩ m w (by show t.toArray.size < _; simp; omega) hm jd).mono fun e w' ⟨h1, h2⟩ => ?_
 have hl : (cL t).length = Lib.countB ⟨t.toArray⟩ ⟨#[32]⟩ + 1 := by unfold cL; rw [zaw, Lib.splitB_all _ jd 0 _ _ rfl]
 have hcs : ((Lib.splitB ⟨#[32]⟩ 0 (Lib.countB ⟨t.toArray⟩ ⟨#[32]⟩) ⟨t.toArray⟩).map Value.string).toArray.toList = SB (cL t) := by
  unfold cL SB
  rw [zdb]
  apply List.map_congr_left
  intro b _
  simp [encStr]
 have hb : Blk w' w.heap.size 9 ((Lib.splitB ⟨#[32]⟩ 0 (Lib.countB ⟨t.toArray⟩ ⟨#[32]⟩) ⟨t.toArray⟩).map Value.string).toArray := by
  rw [h2]
  exact heap_alloc_new w _
 have hcl := pL t
 have hO := Own.of_blk (n := (cL t).length) (size := 1) hb (by rw [zco, zaw, hl, Lib.splitB_all _ jd 0 _ _ rfl]; omega) (by rw [hl]; unfold maxLen; omega)
 rw [hcs] at hO
 refine ⟨h2 ▸ (Frm.refl [] w).alloc _, _, _, by rw [h1, hl], by rw [← hl]; exact hO, by simp [ob]⟩
theorem oM (q : Tx) (w : World) (hs : q.length ≤ 500000) (hv : cH w) :
  Calls Tryz.prog 105 #[encStr q] w fun e w' => Frm [] w w' ∧ ∃ (PA : Option Addr) (pc : Nat) (NA : Option Addr) (nc : Nat), e = .returned (.tuple #[.agg (WtC ((bS q).getD bX) PA pc NA nc), .int .i64 (if (bS q).isSome then 0 else 3)]) ∧ Own w' 3 1 PA ((bS q).getD bX).path.length pc (PI ((bS q).getD bX).path) ∧ Own w' 9 1 NA ((bS q).getD bX).names.length nc (SB ((bS q).getD bX).names) := by
 have hbl := dE 32 q
 have hil := mH (qC 32 q)
 refine jV Tryz.func105 Tryz.ntmps105 Tryz.results105 ?_
 refine jS (jR ?_)
 refine Ops.m (qV.alloc eK) rfl ?_
 rintro _ w1 ⟨rfl, hF1⟩
 have hb2 : Blk w1 w.heap.size 47 (WtC bX none 0 none 0) := hF1.blk
 have K := hF1.frm
 have l2 := hb2.lt
 generalize hg2e : w.heap.size = g2 at hb2 l2 ⊢
 refine jz 0 (jO (jN (jv2 0 2 ?_)))
 refine jS (jR (je (Run.build evs.nil eK (bI).choose_spec.1 (bI).choose_spec.2 rfl) ?_))
 refine Ops.m (qV.alloc eK) rfl ?_
 rintro _ w2 ⟨rfl, hF2⟩
 have hb4 : Blk w2 w1.heap.size 47 (WtC bX none 0 none 0) := hF2.blk
 have hb2 := hb2.frm hF2.frm jp
 have K1 := K.size
 have K := K.trans hF2.frm jp
 generalize hg4e : w1.heap.size = g4 at hb4 l2 K1 ⊢
 refine Ops.st (qQ.storeA rfl rfl zn hb4 rfl (cA bX none 0 none 0)) ?_
 rintro w3 ⟨hb4n, hf3, _⟩
 have hb4 : Blk w3 g4 47 (WtC bX none 0 none 0) := hb4n
 have hb2 := hb2.frm hf3 (by simp; omega)
 have K := Frm.own K hf3 (fun y hy => by simp at hy; omega)
 refine jO (jN (jv3 0 2 4 ?_))
 refine jS (jR (jM ?_))
 refine jc (jE2 Tryz.call138) ((fS q 32 _ jo)) ?_
 rintro e w4 ⟨rfl, hf4⟩
 refine ⟨_, rfl, ?_⟩
 have hb2 := hb2.frm hf4 jp
 have hb4 := hb4.frm hf4 jp
 have K := K.trans hf4 jp
 refine jm rfl (jY rfl rfl (jY rfl rfl (jY rfl rfl (ja rfl (ja rfl (ja rfl (jO (jN (jv5 0 2 4 5 6 ?_)))))))))
 refine jS (jS (jR (jm rfl (jO (jN (jv5 0 2 4 5 22 ?_))))))
 refine VC.meet (σ := List Tx × Option Addr × Nat) (fun s => [(0, encStr (bZ 32 q)), (2, jI0 g2), (4, jI0 g4)]) (fun s wr => eV q = some s.1 ∧ Blk wr g2 47 (WtC bX none 0 none 0) ∧ Blk wr g4 47 (WtC ⟨[], [], s.1⟩ none 0 s.2.1 s.2.2) ∧ Own wr 9 1 s.2.1 s.1.length s.2.2 (SB s.1) ∧ Frm [] w wr ∧ s.1.length ≤ 1000000 ∧ (∀ x ∈ s.1, x.length ≤ 1000000) ∧ (∀ x ∈ ob s.2.1, w.heap.size ≤ x) ∧ g4 ∉ ob s.2.1 ∧ g2 < g4) ?_ ?_
 ·
  refine VC.condB rfl (fun hc1 => ?_) (fun hc1 => ?_)
  ·
   have hc1 := of_decide_eq_true hc1
   refine jS (jR (jM ?_))
   refine jc0 (jE2 Tryz.call147) ((lV (qC 32 q) [40] _)) ?_
   refine jm rfl (jY rfl rfl (jY rfl rfl (ja rfl (ja rfl (jO (jN (jv5 0 2 4 7 8 ?_)))))))
   refine jS (jR (jM ?_))
   refine jc0 (jE2 Tryz.call74) ((lW (Lib.trimPrefix (qC 32 q) [40]) [41] _ jo)) ?_
   refine jm rfl (jY rfl rfl (jY rfl rfl (ja rfl (ja rfl (jO (jN (jv6 0 2 4 7 8 9 ?_)))))))
   refine jS (jS ?_)
   refine VC.split1 [(0, _), (2, _), (4, _), (7, _)] (js4 rfl rfl rfl rfl) 38 (.bool (decide ((! Lib.hasPrefix (qC 32 q) [40]) = true ∨ (! Lib.hasSuffix (Lib.trimPrefix (qC 32 q) [40]) [41]) = true))) ?_ ?_
   ·
    refine jR ?_
    refine jm rfl (je (Run.not rfl) ?_)
    by_cases hs34 : (! Lib.hasPrefix (qC 32 q) [40]) = true
    ·
     refine jM ?_
     refine jU ?_
     refine jU ?_
     refine jW rfl rfl au (jO ?_)
     refine jN ⟨(js5 (jC (by first | (simp_all; done))) rfl rfl rfl rfl), rfl⟩
    refine jM ?_
    refine jG ?_
    refine jk (Run.not rfl) ?_
    by_cases hs37 : (! Lib.hasSuffix (Lib.trimPrefix (qC 32 q) [40]) [41]) = true
    ·
     refine jF rfl rfl au (jO ?_)
     refine jN ⟨(js5 (jC (by first | (simp_all; done))) rfl rfl rfl rfl), rfl⟩
    refine jF rfl rfl au (jO ?_)
    refine jN ⟨(js5 (jC (by first | (simp_all; done))) rfl rfl rfl rfl), rfl⟩
   intro Γ hΓ
   refine jN (VC.sub _ hΓ ?_)
   refine jD rfl (fun hc2 => ?_) fun hc2 => ?_
   ·
    have hrq : bS q = none := by unfold bS eV; rw [if_pos hc1, if_pos hc2]
    refine jS (jR (je (Run.build evs.nil eK (bI).choose_spec.1 (bI).choose_spec.2 rfl) ?_))
    refine Ops.st (qQ.storeA rfl rfl zn hb2 rfl (cA bX none 0 none 0)) ?_
    rintro Z1 ⟨hb2n, hfz, _⟩
    have hb2 : Blk Z1 g2 47 (WtC bX none 0 none 0) := hb2n
    have K := Frm.own K hfz (fun y hy => by simp at hy; omega)
    refine jz 3 (jO (jN (jv2 2 3 ?_)))
    refine jT ?_
    refine qZ (qZ (qZ (bA ?_)))
    refine qO rfl zao zn (fun j v hj => hb2.cells j v hj) (by first | rfl | (simp; done)) ?_
    refine bT rfl ?_
    refine bK ?_
    rw [hrq]
    exact ⟨K, none, 0, none, 0, rfl, Own.nil _ _ _, Own.nil _ _ _⟩
   have hnq : eV q = some (cL (fT (qC 32 q))) := by unfold eV; rw [if_pos hc1, if_neg hc2]
   refine jQ (jN (jv4 0 2 4 7 ?_))
   refine jR (jM ?_)
   refine jc (jE2 Tryz.call133) ((sY (fT (qC 32 q)) _ jo (hv.frm0 K))) ?_
   rintro e w5 ⟨hf5, NA, nc, rfl, hN, hubN⟩
   refine ⟨_, rfl, ?_⟩
   have sK := K.size
   have hb2 := hb2.frm hf5 jp
   have hb4 := hb4.frm hf5 jp
   have K := K.trans hf5 jp
   have hsp := mG (fT (qC 32 q))
   refine jf rfl zi rfl zab ?_
   refine Ops.st (qQ.store rfl rfl zab hb4 rfl rfl) ?_
   rintro w6 ⟨hb4n, hf6, _⟩
   have hb4o := hb4
   have hb4 : Blk w6 g4 47 (WtC ⟨[], [], cL (fT (qC 32 q))⟩ none 0 NA nc) := hb4n
   have hN := hN.frm hf6 (fun y hy => by have := hN.ne_blk hb4o jd; simp; rintro rfl; exact this hy)
   have hb2 := hb2.frm hf6 (by simp; omega)
   have K := Frm.own K hf6 (fun y hy => by simp at hy; omega)
   refine jO ?_
   refine jN ⟨(cL (fT (qC 32 q)), NA, nc), (js3 rfl rfl rfl), ?_⟩
   exact ⟨hnq, hb2, hb4, hN, K, by show (cL (fT (qC 32 q))).length ≤ 1000000; omega, fun x hx => by have := hsp.2 x hx; omega, fun x hx => by have := hubN x hx; omega, hN.ne_blk hb4 jd, by omega⟩
  have hc1 := of_decide_eq_false hc1
  have hnq : eV q = some [] := by unfold eV; rw [if_neg hc1]
  refine jQ ?_
  refine jN ⟨([], none, 0), (js3 rfl rfl rfl), ?_⟩
  exact ⟨hnq, hb2, hb4, Own.nil _ _ _, K, jp, jp, by simp [ob], by simp [ob], jo⟩
 rintro ⟨names, NA, nc⟩ w7 ⟨hnq, hb2, hb4, hN, K, hnl, hns, hubN, hg4N, hg24⟩ Γ hΓ
 dsimp only at hnq hb4 hN hnl hns hubN hg4N
 have lb4 := hb4.lt
 refine jN (VC.sub _ hΓ (jS (jR (jm rfl (ja rfl (jO (jN (jv3 2 4 10 ?_))))))))
 refine jS (jB ?_)
 refine VC.loop (σ := Tx × List Int × Option Addr × Nat) (fun s => [(2, jI0 g2), (4, jI0 g4), (10, encStr s.1)]) (fun s wr => (∃ k, s.1.length ≤ k ∧ eL k s.1 s.2.1 = lU (bZ 32 q)) ∧ s.1.length + s.2.1.length ≤ 1000000 ∧ Blk wr g2 47 (WtC bX none 0 none 0) ∧ Blk wr g4 47 (WtC ⟨s.2.1, [], names⟩ s.2.2.1 s.2.2.2 NA nc) ∧ Own wr 3 1 s.2.2.1 s.2.1.length s.2.2.2 (PI s.2.1) ∧ Own wr 9 1 NA names.length nc (SB names) ∧ Frm [] w wr ∧ (∀ x ∈ ob s.2.2.1, w.heap.size ≤ x ∧ x ≠ g4 ∧ x ≠ g2)) (fun s => s.1.length) (bZ 32 q, [], none, 0) (js3 rfl rfl rfl) ⟨⟨_, zaj _, rfl⟩, by simp; omega, hb2, hb4, Own.nil _ _ _, hN, K, by simp [ob]⟩ ?_
 rintro ⟨r, p, PA, pc⟩ W ⟨⟨k, hk, hpq⟩, hrl, hb2, hb4, hPI, hN, K, hubP⟩
 dsimp only at hk hpq hrl hb4 hPI hubP ⊢
 have hbr := dE 46 r
 refine jS (jS (jR (jm rfl (je (Run.neqT rfl rfl) (jO (jN (jv4 2 4 10 45 ?_)))))))
 refine jD rfl (fun hc3 => ?_) fun hc3 => ?_
 ·
  obtain ⟨k2, rfl, hst⟩ := oH hc3 hk
  rw [hpq] at hst
  have halt := uK (c := 46) hc3
  refine jQ (jN (jv3 2 4 10 ?_))
  refine jB (jS (jR (jM ?_)))
  refine jc (jE2 Tryz.call138) ((fS r 46 _ jo)) ?_
  rintro e W1 ⟨rfl, hf1⟩
  refine ⟨_, rfl, ?_⟩
  have hb2 := hb2.frm hf1 jp
  have hb4 := hb4.frm hf1 jp
  have hPI := hPI.frm hf1 jp
  have hN := hN.frm hf1 jp
  have K := K.trans hf1 jp
  refine jm rfl (jY rfl rfl (jY rfl rfl (jY rfl rfl (ja rfl (ja rfl (ja rfl (jO (jN (jv6 2 4 10 11 12 13 ?_)))))))))
  refine jS (jR (jM ?_))
  refine jc (jE1 Tryz.call148) ((mF (bZ 46 r) _ jo (hv.frm0 K))) ?_
  rintro e W2 ⟨rfl, hf2⟩
  refine ⟨_, rfl, ?_⟩
  have hb2 := hb2.frm hf2 jp
  have hb4 := hb4.frm hf2 jp
  have hPI := hPI.frm hf2 jp
  have hN := hN.frm hf2 jp
  have K := K.trans hf2 jp
  refine ja rfl (jO (jN (jv6 2 4 10 12 13 14 ?_)))
  refine jS (jS (jR (jm rfl (jb rfl rfl (Bin.eql _ 0) (jO (jN (jv7 2 4 10 12 13 14 55 ?_)))))))
  refine jD rfl (fun hc4 => ?_) fun hc4 => ?_
  ·
   have hfin : lU (bZ 32 q) = some (p, r) := by rw [hst, if_pos hc4]
   refine jX ?_
   refine qK (eU rfl (qK (qH ?_)))
   refine jN (jv3 2 4 10 ?_)
   refine jS (jR (jM ?_))
   refine jc (jE1 Tryz.call149) ((jI r _ jo)) ?_
   rintro e V1 ⟨rfl, hf1⟩
   refine ⟨_, rfl, ?_⟩
   have hb2 := hb2.frm hf1 jp
   have hb4 := hb4.frm hf1 jp
   have hPI := hPI.frm hf1 jp
   have hN := hN.frm hf1 jp
   have K := K.trans hf1 jp
   refine jf rfl zi rfl zb ?_
   refine Ops.st (qQ.store rfl rfl zb hb4 rfl rfl) ?_
   rintro V2 ⟨hb4n, hf2, _⟩
   have hb4 : Blk V2 g4 47 (WtC ⟨p, qS r, names⟩ PA pc NA nc) := hb4n
   have hPI := hPI.frm hf2 (fun y hy => by have := hubP y hy; simp; exact this.2.1)
   have hN := hN.frm hf2 (fun y hy => by simp; rintro rfl; exact hg4N hy)
   have hb2 := hb2.frm hf2 (by simp; omega)
   have K := Frm.own K hf2 (fun y hy => by simp at hy; omega)
   obtain ⟨v, hvv⟩ : ∃ v : Wnt, v = ⟨p, qS r, names⟩ := ⟨_, rfl⟩
   have hrq : bS q = if bL v then some v else none := by unfold bS; rw [hnq]; dsimp only; rw [hfin, hvv]
   rw [← hvv] at hb4
   refine jO (jN (jv2 2 4 ?_))
   refine jS (jS (jR (je (Run.loadA rfl zao zn (fun j v hj => hb4.cells j v hj) (by first | rfl | (simp; done))) ?_)))
   refine jc (jE1 Tryz.call26) ((gF v PA NA pc nc _ (by rw [hvv]; exact hPI.rd) (by rw [hvv]; show p.length ≤ 1000000; omega) (by rw [hvv]; exact hN.rd) (by rw [hvv]; exact hnl) (by rw [hvv]; exact hns))) ?_
   rintro e V3 ⟨rfl, hf3⟩
   refine ⟨_, rfl, ?_⟩
   have hb2 := hb2.frm hf3 jp
   have hb4 := hb4.frm hf3 jp
   have hPI := hPI.frm hf3 jp
   have hN := hN.frm hf3 jp
   have K := K.trans hf3 jp
   refine je (Run.not rfl) ?_
   rw [nN]
   refine jO (jN (jv3 2 4 74 ?_))
   refine VC.condB rfl (fun hc6 => ?_) (fun hc6 => ?_)
   ·
    rw [if_neg (of_decide_eq_true hc6)] at hrq
    refine jS (jR (je (Run.build evs.nil eK (bI).choose_spec.1 (bI).choose_spec.2 rfl) ?_))
    refine Ops.st (qQ.storeA rfl rfl zn hb2 rfl (cA bX none 0 none 0)) ?_
    rintro Z1 ⟨hb2n, hfz, _⟩
    have hb2 : Blk Z1 g2 47 (WtC bX none 0 none 0) := hb2n
    have K := Frm.own K hfz (fun y hy => by simp at hy; omega)
    refine jz 3 (jO (jN (jv2 2 3 ?_)))
    refine jT ?_
    refine qZ (bA ?_)
    refine qO rfl zao zn (fun j v hj => hb2.cells j v hj) (by first | rfl | (simp; done)) ?_
    refine bT rfl ?_
    refine bK ?_
    rw [hrq]
    exact ⟨K, none, 0, none, 0, rfl, Own.nil _ _ _, Own.nil _ _ _⟩
   rw [if_pos (Classical.byContradiction fun h => of_decide_eq_false hc6 h)] at hrq
   refine jQ (jN (jv2 2 4 ?_))
   refine jS (jR (je (Run.loadA rfl zao zn (fun j v hj => hb4.cells j v hj) (by first | rfl | (simp; done))) ?_))
   have hb2o := hb2
   refine Ops.st (qQ.storeA rfl rfl zn hb2 rfl (cA v PA pc NA nc)) ?_
   rintro V4 ⟨hb2n, hf4, _⟩
   have hb2 : Blk V4 g2 47 (WtC v PA pc NA nc) := hb2n
   have hPI := hPI.frm hf4 (fun y hy => by have := hubP y hy; simp; exact this.2.2)
   have hN := hN.frm hf4 (fun y hy => by have := hN.ne_blk hb2o jd; simp; rintro rfl; exact this hy)
   have K := Frm.own K hf4 (fun y hy => by simp at hy; omega)
   refine jz 0 (jO (jN (jv2 2 3 ?_)))
   refine jT ?_
   refine bA ?_
   refine qO rfl zao zn (fun j v hj => hb2.cells j v hj) (by first | rfl | (simp; done)) ?_
   refine bT rfl ?_
   refine bK ?_
   rw [hrq]
   exact ⟨K, PA, pc, NA, nc, rfl, by rw [hvv] at hb2 ⊢; exact hPI, by rw [hvv]; exact hN⟩
  rw [if_neg hc4] at hst
  refine jQ (jN (jv5 2 4 12 13 14 ?_))
  refine jS (jR (jf rfl zi rfl zas (jl rfl zbp (show _ = some (Value.slice PA p.length pc) from hb4.cell 0) (jM ?_))))
  refine Ops.m (qV.buildS1 rfl zm zd eF jd jd rfl rfl) rfl ?_
  rintro _ W3 ⟨rfl, hF3⟩
  have hrd3 : Rd W3 1 (some ⟨_, 0, none⟩) 1 (PI [cP (bZ 46 r)]) := Rd.of_blk (n := 1) (size := 1) hF3.blk rfl
  have hb2 := hb2.frm hF3.frm jp
  have hb4 := hb4.frm hF3.frm jp
  have hPI := hPI.frm hF3.frm jp
  have hN := hN.frm hF3.frm jp
  have K := K.trans hF3.frm jp
  refine Ops.m (qV.app rfl rfl zm (tZ) rfl jd hPI hrd3 (uV _) jo jo) rfl ?_
  rintro _ W4 ⟨PA2, pc2, rfl, hPI2, hf4, hob4⟩
  rw [← pI] at hPI2
  have l43 := hb4.lt
  have hb2 := hb2.frm hf4 (fun hm => (hubP _ hm).2.2 rfl)
  have hb4 := hb4.frm hf4 (fun hm => (hubP _ hm).2.1 rfl)
  have hN := hN.own' hf4 hPI jd
  have sK3 := K.size
  have lb43 := hb4.lt
  have K := Frm.own K hf4 (fun y hy => (hubP y hy).1)
  have hubP2 : ∀ x ∈ ob PA2, w.heap.size ≤ x ∧ x ≠ g4 ∧ x ≠ g2 := fun x hx => by
   rcases hob4 with h | h
   · rw [h] at hx; exact hubP x hx
   rw [h] at hx; simp only [zf] at hx; omega
  refine jf rfl zi rfl zas ?_
  refine Ops.st (qQ.store rfl rfl zas hb4 rfl rfl) ?_
  rintro W5 ⟨hb4n, hf5, _⟩
  have hb4o := hb4
  have hPI := hPI2.frm hf5 (fun y hy => by have := hubP2 y hy; simp; exact this.2.1)
  have hpl : (p ++ [cP (bZ 46 r)]).length = p.length + 1 := jp
  rw [← hpl] at hPI
  have hb4 : Blk W5 g4 47 (WtC ⟨p ++ [cP (bZ 46 r)], [], names⟩ PA2 pc2 NA nc) := by unfold WtC; rw [hpl]; exact hb4n
  have hN := hN.frm hf5 (fun y hy => by simp; rintro rfl; exact hg4N hy)
  have hb2 := hb2.frm hf5 (by simp; omega)
  have K := Frm.own K hf5 (fun y hy => by simp at hy; omega)
  refine jO (jN (jv4 2 4 12 13 ?_))
  refine jS (jR (jm rfl (ja rfl (jO (jN (jv4 2 4 10 13 ?_))))))
  refine jS ?_
  refine VC.split1 [(2, _), (4, _), (10, _)] (js3 rfl rfl rfl) 67 (.bool (decide (46 ∈ r ∧ qC 46 r = []))) ?_ ?_
  ·
   refine jR ?_
   refine jm rfl (jM ?_)
   by_cases hs64 : 46 ∈ r
   ·
    refine jG ?_
    refine jk (Run.eqlT rfl rfl) ?_
    by_cases hs66 : qC 46 r = []
    ·
     refine jW rfl rfl au (jO ?_)
     refine jN ⟨(js4 (jC (by first | exact (decide_eq_true hs66).trans (decide_eq_true ⟨hs64, hs66⟩).symm | exact (decide_eq_false hs66).trans (decide_eq_false (show ¬ (46 ∈ r ∧ qC 46 r = []) from fun h => hs66 h.2)).symm | exact (decide_eq_false (show ¬ (46 ∈ r ∧ qC 46 r = []) from fun h => hs64 h.1)).symm | exact (decide_eq_false hs64).trans (decide_eq_false (show ¬ (46 ∈ r ∧ qC 46 r = []) from fun h => hs64 h.1)).symm)) rfl rfl rfl), rfl⟩
    refine jW rfl rfl au (jO ?_)
    refine jN ⟨(js4 (jC (by first | exact (decide_eq_true hs66).trans (decide_eq_true ⟨hs64, hs66⟩).symm | exact (decide_eq_false hs66).trans (decide_eq_false (show ¬ (46 ∈ r ∧ qC 46 r = []) from fun h => hs66 h.2)).symm | exact (decide_eq_false (show ¬ (46 ∈ r ∧ qC 46 r = []) from fun h => hs64 h.1)).symm | exact (decide_eq_false hs64).trans (decide_eq_false (show ¬ (46 ∈ r ∧ qC 46 r = []) from fun h => hs64 h.1)).symm)) rfl rfl rfl), rfl⟩
   refine jU ?_
   refine jU ?_
   refine jF rfl rfl au (jO ?_)
   refine jN ⟨(js4 (jC (by first | exact (decide_eq_true hs66).trans (decide_eq_true ⟨hs64, hs66⟩).symm | exact (decide_eq_false hs66).trans (decide_eq_false (show ¬ (46 ∈ r ∧ qC 46 r = []) from fun h => hs66 h.2)).symm | exact (decide_eq_false (show ¬ (46 ∈ r ∧ qC 46 r = []) from fun h => hs64 h.1)).symm | exact (decide_eq_false hs64).trans (decide_eq_false (show ¬ (46 ∈ r ∧ qC 46 r = []) from fun h => hs64 h.1)).symm)) rfl rfl rfl), rfl⟩
  intro Γ hΓ
  refine jN (VC.sub _ hΓ ?_)
  refine jD rfl (fun hc5 => ?_) fun hc5 => ?_
  ·
   rw [if_pos hc5] at hst
   have hrq : bS q = none := by unfold bS; rw [hnq]; dsimp only; rw [hst]
   refine jS (jR (je (Run.build evs.nil eK (bI).choose_spec.1 (bI).choose_spec.2 rfl) ?_))
   refine Ops.st (qQ.storeA rfl rfl zn hb2 rfl (cA bX none 0 none 0)) ?_
   rintro Z1 ⟨hb2n, hfz, _⟩
   have hb2 : Blk Z1 g2 47 (WtC bX none 0 none 0) := hb2n
   have K := Frm.own K hfz (fun y hy => by simp at hy; omega)
   refine jz 3 (jO (jN (jv2 2 3 ?_)))
   refine jT ?_
   refine qR (qZ (qR (qZ (bA ?_))))
   refine qO rfl zao zn (fun j v hj => hb2.cells j v hj) (by first | rfl | (simp; done)) ?_
   refine bT rfl ?_
   refine bK ?_
   rw [hrq]
   exact ⟨K, none, 0, none, 0, rfl, Own.nil _ _ _, Own.nil _ _ _⟩
  rw [if_neg hc5] at hst
  refine jQ ?_
  refine qW (jN ⟨(qC 46 r, p ++ [cP (bZ 46 r)], PA2, pc2), (js3 rfl rfl rfl), ?_, ?_⟩)
  · exact ⟨⟨k2, by show (qC 46 r).length ≤ k2; omega, hst.symm⟩, by show (qC 46 r).length + (p ++ [cP (bZ 46 r)]).length ≤ 1000000; omega, hb2, hb4, hPI, hN, K, hubP2⟩
  exact jq
 have hr0 : r = [] := Classical.byContradiction hc3
 subst hr0
 have hfin : lU (bZ 32 q) = some (p, []) := by rw [← hpq, pA]
 refine jX ?_
 refine qK (qK (qH ?_))
 refine jN (jv3 2 4 10 ?_)
 refine jS (jR (jM ?_))
 refine jc (jE1 Tryz.call149) ((jI [] _ jp)) ?_
 rintro e V1 ⟨rfl, hf1⟩
 refine ⟨_, rfl, ?_⟩
 have hb2 := hb2.frm hf1 jp
 have hb4 := hb4.frm hf1 jp
 have hPI := hPI.frm hf1 jp
 have hN := hN.frm hf1 jp
 have K := K.trans hf1 jp
 refine jf rfl zi rfl zb ?_
 refine Ops.st (qQ.store rfl rfl zb hb4 rfl rfl) ?_
 rintro V2 ⟨hb4n, hf2, _⟩
 have hb4 : Blk V2 g4 47 (WtC ⟨p, qS [], names⟩ PA pc NA nc) := hb4n
 have hPI := hPI.frm hf2 (fun y hy => by have := hubP y hy; simp; exact this.2.1)
 have hN := hN.frm hf2 (fun y hy => by simp; rintro rfl; exact hg4N hy)
 have hb2 := hb2.frm hf2 (by simp; omega)
 have K := Frm.own K hf2 (fun y hy => by simp at hy; omega)
 obtain ⟨v, hvv⟩ : ∃ v : Wnt, v = ⟨p, qS [], names⟩ := ⟨_, rfl⟩
 have hrq : bS q = if bL v then some v else none := by unfold bS; rw [hnq]; dsimp only; rw [hfin, hvv]
 rw [← hvv] at hb4
 refine jO (jN (jv2 2 4 ?_))
 refine jS (jS (jR (je (Run.loadA rfl zao zn (fun j v hj => hb4.cells j v hj) (by first | rfl | (simp; done))) ?_)))
 refine jc (jE1 Tryz.call26) ((gF v PA NA pc nc _ (by rw [hvv]; exact hPI.rd) (by rw [hvv]; show p.length ≤ 1000000; omega) (by rw [hvv]; exact hN.rd) (by rw [hvv]; exact hnl) (by rw [hvv]; exact hns))) ?_
 rintro e V3 ⟨rfl, hf3⟩
 refine ⟨_, rfl, ?_⟩
 have hb2 := hb2.frm hf3 jp
 have hb4 := hb4.frm hf3 jp
 have hPI := hPI.frm hf3 jp
 have hN := hN.frm hf3 jp
 have K := K.trans hf3 jp
 refine je (Run.not rfl) ?_
 rw [nN]
 refine jO (jN (jv3 2 4 74 ?_))
 refine VC.condB rfl (fun hc6 => ?_) (fun hc6 => ?_)
 ·
  rw [if_neg (of_decide_eq_true hc6)] at hrq
  refine jS (jR (je (Run.build evs.nil eK (bI).choose_spec.1 (bI).choose_spec.2 rfl) ?_))
  refine Ops.st (qQ.storeA rfl rfl zn hb2 rfl (cA bX none 0 none 0)) ?_
  rintro Z1 ⟨hb2n, hfz, _⟩
  have hb2 : Blk Z1 g2 47 (WtC bX none 0 none 0) := hb2n
  have K := Frm.own K hfz (fun y hy => by simp at hy; omega)
  refine jz 3 (jO (jN (jv2 2 3 ?_)))
  refine jT ?_
  refine qZ (bA ?_)
  refine qO rfl zao zn (fun j v hj => hb2.cells j v hj) (by first | rfl | (simp; done)) ?_
  refine bT rfl ?_
  refine bK ?_
  rw [hrq]
  exact ⟨K, none, 0, none, 0, rfl, Own.nil _ _ _, Own.nil _ _ _⟩
 rw [if_pos (Classical.byContradiction fun h => of_decide_eq_false hc6 h)] at hrq
 refine jQ (jN (jv2 2 4 ?_))
 refine jS (jR (je (Run.loadA rfl zao zn (fun j v hj => hb4.cells j v hj) (by first | rfl | (simp; done))) ?_))
 have hb2o := hb2
 refine Ops.st (qQ.storeA rfl rfl zn hb2 rfl (cA v PA pc NA nc)) ?_
 rintro V4 ⟨hb2n, hf4, _⟩
 have hb2 : Blk V4 g2 47 (WtC v PA pc NA nc) := hb2n
 have hPI := hPI.frm hf4 (fun y hy => by have := hubP y hy; simp; exact this.2.2)
 have hN := hN.frm hf4 (fun y hy => by have := hN.ne_blk hb2o jd; simp; rintro rfl; exact this hy)
 have K := Frm.own K hf4 (fun y hy => by simp at hy; omega)
 refine jz 0 (jO (jN (jv2 2 3 ?_)))
 refine jT ?_
 refine bA ?_
 refine qO rfl zao zn (fun j v hj => hb2.cells j v hj) (by first | rfl | (simp; done)) ?_
 refine bT rfl ?_
 refine bK ?_
 rw [hrq]
 exact ⟨K, PA, pc, NA, nc, rfl, by rw [hvv] at hb2 ⊢; exact hPI, by rw [hvv]; exact hN⟩
end
section
open Go.RowKit
def asC (U : Nat → Bool) : Array Value := ((List.range 256).map fun i => Value.bool (U i)).toArray
theorem eS (U : Nat → Bool) : (asC U).size = 256 := by simp [asC]
theorem kK (U : Nat → Bool) {i : Nat} (h : i < 256) : (asC U)[i]? = some (.bool (U i)) := by simp [asC, h]
theorem tP (U : Nat → Bool) {i : Nat} (h : i < 256) : (asC U).setIfInBounds i (.bool true) = asC fun j => if j = i then true else U j := by
 apply Array.ext_getElem?
 intro j
 rw [zah]
 by_cases hj : i = j
 ·
  subst hj
  rw [if_pos rfl, if_pos (by rw [eS]; exact h), kK _ h, if_pos rfl]
 rw [if_neg hj]
 by_cases hl : j < 256
 · rw [kK _ hl, kK _ hl, if_neg (fun e => hj e.symm)]
 rw [zcn (by rw [eS]; omega), zcn (by rw [eS]; omega)]
theorem nP (U : Nat → Bool) : ∀ u ∈ (asC U).toList, u.oneCell' = true := by
 intro u hu
 simp only [asC, List.mem_map] at hu
 obtain ⟨i, _, rfl⟩ := hu
 rfl
def inS (l : Tx) (k : Nat) : Nat → Bool := fun i => decide (∃ x ∈ l.take k, x.toNat = i)
theorem sG {l : Tx} {k : Nat} (h : k < l.length) : (fun j => if j = l[k].toNat then true else inS l k j) = inS l (k + 1) := by
 funext j
 have e : l.take (k + 1) = l.take k ++ [l[k]] := by rw [zbc, zc h]; rfl
 unfold inS
 rw [e]
 by_cases hj : j = l[k].toNat
 · rw [if_pos hj]; subst hj; symm; apply decide_eq_true; exact ⟨l[k], List.mem_append.2 (.inr (zf.2 rfl)), rfl⟩
 rw [if_neg hj]
 apply decide_eq_decide.2
 constructor
 · rintro ⟨x, hx, he⟩; exact ⟨x, List.mem_append.2 (.inl hx), he⟩
 rintro ⟨x, hx, he⟩
 rcases List.mem_append.1 hx with hx | hx
 · exact ⟨x, hx, he⟩
 rw [zf] at hx; subst hx; exact absurd he.symm hj
theorem kV (gs : Nat) (U : Nat → Bool) (x : UInt8) (w : World) (hb : Blk w gs 204 (asC U)) : Calls Tryz.prog 189 #[jI0 gs, .int .u8 ((x.toNat : Nat) : Int)] w fun e w' => e = .returned (.bool (U x.toNat)) ∧ w = w' := by
 have hx : x.toNat < 256 := x.toNat_lt
 refine jV Tryz.func189 Tryz.ntmps189 Tryz.results189 ?_
 refine jS (jR (ja rfl (jO (jN (jv2 0 1 ?_)))))
 refine jS (jR (jm rfl (jm rfl (jZ rfl (je (Run.indexA1 _ rfl rfl Tryz.underlying204 zk jo) (jl rfl zu (show w.cell? ⟨gs, 0 + x.toNat, none⟩ = some (.bool (U x.toNat)) by rw [Nat.zero_add, hb.cell, kK U hx]) (ja rfl (jO (jN (jv1 4 ?_))))))))))
 refine jT ?_
 refine qN rfl ?_
 exact ⟨rfl, rfl⟩
theorem pO (l : Tx) (w : World) (hl : ∀ x ∈ l, x.toNat < 128) (hn : l.length ≤ 1000000) : Calls Tryz.prog 169 #[encStr l] w fun e w' => Frm [] w w' ∧ e = .returned (.tuple #[.agg (asC (inS l l.length)), .bool true]) := by
 refine jV Tryz.func169 Tryz.ntmps169 Tryz.results169 ?_
 refine jS (jR ?_)
 refine Ops.m (qV.alloc nW) rfl ?_
 rintro _ w1 ⟨rfl, hF1⟩
 obtain ⟨gs, hgs⟩ : ∃ gs, gs = w.heap.size := ⟨_, rfl⟩
 have hb1 : Blk w1 gs 204 (asC (inS l 0)) := by
  rw [hgs, show asC (inS l 0) = asC (fun _ => false) from congrArg asC (funext fun i => by simp [inS])]
  exact hF1.blk
 rw [← hgs]
 refine ja rfl (jO (jN (jv2 0 2 ?_)))
 refine jS (jS (jR (jz 0 (jO (jN (jB ?_))))))
 refine VC.loop (σ := Nat) (fun s => [(0, encStr l), (2, jI0 gs), (4, jI1 s)]) (fun s wr => s ≤ l.length ∧ Frm [] w wr ∧ Blk wr gs 204 (asC (inS l s))) (fun s => l.length - s) 0 (js3 rfl rfl rfl) ⟨zba _, hF1.frm, hb1⟩ ?_
 rintro i wr ⟨hi, K, hb⟩
 refine jS (jS (jR (jm rfl (jm rfl (je (Run.lenT rfl za) (jb rfl rfl (Bin.lssN _ _) (jO (jN (jv4 0 2 4 9 ?_)))))))))
 refine jD rfl (fun hc1 => ?_) fun hc1 => ?_
 ·
  have hm := hl _ (zap hc1)
  refine jQ (jN (jv3 0 2 4 ?_))
  refine jS (jB (jS (jR (jm rfl (jM ?_)))))
  refine je (Run.indexT _ rfl rfl za (zc hc1)) ?_
  refine ja rfl (jO (jN (jv4 0 2 4 5 ?_)))
  refine jS (jS (jR (jm rfl (jb rfl rfl (Bin.geqN _ 128) (jO (jN (jv5 0 2 4 5 16 ?_)))))))
  refine VC.condF rfl jdf ?_
  refine jQ (jN (jv4 0 2 4 5 ?_))
  refine jR (jm rfl (je (Run.indexA1 _ rfl rfl Tryz.underlying204 zk jo) ?_))
  refine Ops.st (qQ.store (i := l[i].toNat) (by first | rfl | (show some _ = some _; rw [Nat.zero_add])) rfl zk hb (by rw [eS, Nat.blt_eq]; omega) rfl) ?_
  rintro w2 ⟨hb2, hf2, hs2⟩
  rw [tP _ jo, sG hc1] at hb2
  refine jO ?_
  refine qW (jN ?_)
  refine jv3 0 2 4 ?_
  refine jR (jm rfl (jb rfl rfl (Bin.add_i64 _ 1 jo) (ja rfl (jO ?_))))
  refine jN ⟨i + 1, (js3 rfl rfl rfl), ?_, ?_⟩
  · exact ⟨hc1, K.own hf2 (by simp; omega), hb2⟩
  exact jq
 obtain rfl : i = l.length := jo
 refine jX ?_
 refine qK (qK (qH ?_))
 refine jN (jv1 2 ?_)
 refine jS (jR (je (Run.loadB rfl Tryz.isAgg204 Tryz.sizeOf204 hb (eS _)) ?_))
 refine Ops.st (qQ.storeA rfl rfl Tryz.sizeOf204 hb rfl (nP _)) ?_
 rintro w3 ⟨hb3, hf3, hs3⟩
 refine ja rfl (jO (jN (jv2 2 3 ?_)))
 refine jT ?_
 refine bA ?_
 refine pV rfl Tryz.isAgg204 Tryz.sizeOf204 (hb3) rfl ?_
 refine bT rfl ?_
 refine bK ?_
 exact ⟨K.own hf3 (by simp; omega), rfl⟩
theorem rQ (gs : Nat) (U : Nat → Bool) (s : Tx) (w : World) (hb : Blk w gs 204 (asC U)) (hs : s.length ≤ 1000000) : Calls Tryz.prog 170 #[encStr s, jI0 gs] w fun e w' => e = .returned (encStr (s.dropWhile fun x => U x.toNat)) ∧ w = w' := by
 obtain ⟨r, hr⟩ : ∃ r, (s.dropWhile fun x => U x.toNat) = r := ⟨_, rfl⟩
 rw [hr]
 refine jV Tryz.func170 Tryz.ntmps170 Tryz.results170 ?_
 refine jS (jR (ja rfl (jO (jN (jv2 0 1 ?_)))))
 refine jS (jB ?_)
 refine VC.loop (σ := Tx) (fun s => [(0, encStr s), (1, jI0 gs)]) (fun s wr => s.length ≤ 1000000 ∧ (s.dropWhile fun x => U x.toNat) = r ∧ w = wr) (fun s => s.length) s (js2 rfl rfl) ⟨hs, hr, rfl⟩ ?_
 clear hs hr
 rintro s wr ⟨hs, hr, hwr⟩
 subst hwr
 refine jS (jS (jR (jm rfl (je (Run.lenT rfl za) (jb rfl rfl (Bin.gtrN _ 0) (jO (jN (jv3 0 1 7 ?_))))))))
 refine jD rfl (fun hc1 => ?_) fun hc1 => ?_
 ·
  obtain ⟨x, t, rfl⟩ : ∃ x t, s = x :: t := by
   cases s with
   | nil => exact absurd hc1 jp
   | cons x t => exact ⟨x, t, rfl⟩
  refine jQ (jN (jv2 0 1 ?_))
  refine jB (jS (jS (jR (jm rfl (jm rfl (je (Run.indexT 0 rfl rfl za rfl) ?_))))))
  refine jc0 (jE2 Tryz.call189) (kV gs U x w hb) ?_
  refine je (Run.not rfl) (jO (jN (jv3 0 1 12 ?_)))
  refine VC.condB rfl (fun hc2 => ?_) (fun hc2 => ?_)
  ·
   have hu : U x.toNat = false := by simpa using hc2
   rw [List.dropWhile_cons_of_neg (by simp [hu])] at hr
   subst hr
   refine jX ?_
   refine qK (eU rfl (qK (qH ?_)))
   refine jN (jv1 0 ?_)
   refine jS (jR (jm rfl (ja rfl (jO (jN (jv1 4 ?_))))))
   refine jT ?_
   refine qN rfl ?_
   exact ⟨rfl, rfl⟩
  have hu : U x.toNat = true := by simpa using hc2
  rw [List.dropWhile_cons_of_pos (by simp [hu])] at hr
  refine jQ (jN (jv2 0 1 ?_))
  refine jR (jm rfl (je (Run.sliceT 1 _ rfl za (evB.some_ rfl) evB.none_ jo jo) ?_))
  rw [show ((x :: t).drop 1).take ((x :: t).length - 1) = t by simp]
  refine ja rfl (jO ?_)
  refine qW (jN ⟨t, (js2 rfl rfl), ?_, ?_⟩)
  · exact ⟨by simp at hs ⊢; omega, hr, rfl⟩
  simp
 obtain rfl : s = [] := List.length_eq_zero_iff.1 jo
 obtain rfl : [] = r := hr
 refine jX ?_
 refine qK (qK (qH ?_))
 refine jN (jv1 0 ?_)
 refine jS (jR (jm rfl (ja rfl (jO (jN (jv1 4 ?_))))))
 refine jT ?_
 refine qN rfl ?_
 exact ⟨rfl, rfl⟩
theorem rX (gs : Nat) (U : Nat → Bool) (s : Tx) (w : World) (hb : Blk w gs 204 (asC U)) (hs : s.length ≤ 1000000) : Calls Tryz.prog 171 #[encStr s, jI0 gs] w fun e w' => e = .returned (encStr (s.reverse.dropWhile fun x => U x.toNat).reverse) ∧ w = w' := by
 obtain ⟨r, hr⟩ : ∃ r, (s.reverse.dropWhile fun x => U x.toNat).reverse = r := ⟨_, rfl⟩
 rw [hr]
 refine jV Tryz.func171 Tryz.ntmps171 Tryz.results171 ?_
 refine jS (jR (ja rfl (jO (jN (jv2 0 1 ?_)))))
 refine jS (jB ?_)
 refine VC.loop (σ := Tx) (fun s => [(0, encStr s), (1, jI0 gs)]) (fun s wr => s.length ≤ 1000000 ∧ (s.reverse.dropWhile fun x => U x.toNat).reverse = r ∧ w = wr) (fun s => s.length) s (js2 rfl rfl) ⟨hs, hr, rfl⟩ ?_
 clear hs hr
 rintro s wr ⟨hs, hr, hwr⟩
 subst hwr
 refine jS (jS (jR (jm rfl (je (Run.lenT rfl za) (jb rfl rfl (Bin.gtrN _ 0) (jO (jN (jv3 0 1 7 ?_))))))))
 refine jD rfl (fun hc1 => ?_) fun hc1 => ?_
 ·
  obtain ⟨x, t, rfl⟩ : ∃ x t, s = t ++ [x] := by
   have hne : s ≠ [] := fun e => by rw [e] at hc1; exact absurd hc1 jp
   exact ⟨s.getLast hne, s.dropLast, (List.dropLast_concat_getLast hne).symm⟩
  have htl : (t ++ [x]).length = t.length + 1 := jp
  rw [List.reverse_append, List.reverse_singleton, List.singleton_append] at hr
  refine jQ (jN (jv2 0 1 ?_))
  refine jB (jS (jS (jR (jm rfl (jm rfl (jm rfl (je (Run.lenT rfl za) (jb rfl rfl (Bin.sub_i64 _ 1 jo jo) (je (Run.indexT _ rfl rfl za (show (t ++ [x])[(t ++ [x]).length - 1]? = some x by simp)) ?_)))))))))
  refine jc0 (jE2 Tryz.call189) (kV gs U x w hb) ?_
  refine je (Run.not rfl) (jO (jN (jv3 0 1 15 ?_)))
  refine VC.condB rfl (fun hc2 => ?_) (fun hc2 => ?_)
  ·
   have hu : U x.toNat = false := by simpa using hc2
   rw [List.dropWhile_cons_of_neg (by simp [hu])] at hr
   have hr : t ++ [x] = r := by rw [← hr]; simp
   subst hr
   refine jX ?_
   refine qK (eU rfl (qK (qH ?_)))
   refine jN (jv1 0 ?_)
   refine jS (jR (jm rfl (ja rfl (jO (jN (jv1 4 ?_))))))
   refine jT ?_
   refine qN rfl ?_
   exact ⟨rfl, rfl⟩
  have hu : U x.toNat = true := by simpa using hc2
  rw [List.dropWhile_cons_of_pos (by simp [hu])] at hr
  refine jQ (jN (jv2 0 1 ?_))
  refine jR (jm rfl (jm rfl (je (Run.lenT rfl za) (jb rfl rfl (Bin.sub_i64 _ 1 jo jo) (je (Run.sliceT 0 _ rfl za evB.none_ (evB.some_ rfl) jo jo) ?_)))))
  rw [show ((t ++ [x]).drop 0).take ((t ++ [x]).length - 1 - 0) = t by simp]
  refine ja rfl (jO ?_)
  refine qW (jN ⟨t, (js2 rfl rfl), ?_, ?_⟩)
  · exact ⟨by simp at hs ⊢; omega, hr, rfl⟩
  simp
 obtain rfl : s = [] := List.length_eq_zero_iff.1 jo
 obtain rfl : [] = r := hr
 refine jX ?_
 refine qK (qK (qH ?_))
 refine jN (jv1 0 ?_)
 refine jS (jR (jm rfl (ja rfl (jO (jN (jv1 4 ?_))))))
 refine jT ?_
 refine qN rfl ?_
 exact ⟨rfl, rfl⟩
def lB (l s : Tx) : Tx := ((s.reverse.dropWhile fun x => inS l l.length x.toNat).reverse).dropWhile fun x => inS l l.length x.toNat
theorem rZ (s l : Tx) (w : World) (hs : s.length ≤ 1000000) (hl : ∀ x ∈ l, x.toNat < 128) (hn : l.length ≤ 1000) (h2 : 2 ≤ l.length) (h1 : 1 ≤ s.length) : Calls Tryz.prog 135 #[encStr s, encStr l] w fun e w' => e = .returned (encStr (lB l s)) ∧ Frm [] w w' := by
 have hse : ¬ s = [] := fun e => by rw [e] at h1; simp at h1
 have hle : ¬ l = [] := fun e => by rw [e] at h2; simp at h2
 refine jV Tryz.func135 Tryz.ntmps135 Tryz.results135 ?_
 refine jS (jR (ja rfl (jO (jN (jv2 0 1 ?_)))))
 refine jS (jS (jR (jm rfl (je (Run.eqlT rfl rfl) (jM ?_)))))
 refine Ops.rg rfl (decide_eq_false hse) (Run.mv rfl) rfl ?_
 refine Ops.rg rfl (decide_eq_false hse) (Run.eqlT rfl rfl) rfl ?_
 refine jF rfl rfl (decide_eq_false hse) (jO (jN (jv3 0 1 12 ?_)))
 refine VC.condF rfl (decide_eq_false hle) ?_
 refine jQ (jN (jv2 0 1 ?_))
 refine jS (jS (jR (jm rfl (je (Run.lenT rfl za) (jb rfl rfl (Bin.eqlN _ 1) (jM ?_))))))
 refine Ops.sk rfl jdf rfl ?_
 refine Ops.sk rfl jdf rfl ?_
 refine Ops.sk rfl jdf rfl ?_
 refine jF rfl rfl jdf (jO (jN (jv3 0 1 21 ?_)))
 refine VC.condF rfl (rfl) ?_
 refine jQ (jN (jv2 0 1 ?_))
 refine jS (jS (jR (jM ?_)))
 refine jc (jE1 Tryz.call169) (pO l w hl jo) ?_
 rintro e w1 ⟨hf1, rfl⟩
 refine ⟨_, rfl, ?_⟩
 refine jm rfl (jY rfl rfl (jY rfl rfl ?_))
 refine Ops.m (qV.alloc nW) rfl ?_
 rintro _ w2 ⟨rfl, hF2⟩
 refine Ops.st (qQ.storeA rfl rfl Tryz.sizeOf204 hF2.blk (by rw [eS]; rfl) (nP _)) ?_
 rintro w3 ⟨hb3, hf3, hs3⟩
 have K := (hf1.trans hF2.frm jp).own hf3 (by simp; exact hf1.size)
 refine ja rfl (jO (jN (jv4 0 1 5 6 ?_)))
 refine jS (jR (jm rfl (jO (jN (jv4 0 1 5 34 ?_)))))
 refine VC.condT rfl (rfl) ?_
 refine jS (jR (jM ?_))
 refine jc0 (jE2 Tryz.call171) (rX w1.heap.size (inS l l.length) s w3 hb3 hs) ?_
 refine jc0 (jE2 Tryz.call170) (rQ w1.heap.size (inS l l.length) _ w3 hb3 (by rw [List.length_reverse]; exact zak (List.dropWhile_sublist _).length_le (by rw [List.length_reverse]; exact hs))) ?_
 refine ja rfl (jO (jN (jv1 4 ?_)))
 refine jT ?_
 refine qZ (qN rfl ?_)
 exact ⟨rfl, K⟩
end
section
open Go.RowKit Go.Sort
theorem rJ : dY [42] = 0 := jd
theorem sH {s : Tx} (h : s ≠ [42]) (h2 : s = [] ∨ 10 < s.length ∨ s.head? = some 48) : dY s = -1 := by
 unfold dY
 rw [if_neg h, if_pos h2]
theorem tR {s : Tx} (h : s ≠ [42]) (h2 : ¬ (s = [] ∨ 10 < s.length ∨ s.head? = some 48)) : dY s = if (∀ x ∈ s, Dig x) ∧ dF 0 s ≤ 2147483647 then ((dF 0 s : Nat) : Int) else -1 := by
 unfold dY
 rw [if_neg h, if_neg h2]
theorem fX (s : Tx) (w : World) (hs : s.length ≤ 1000000) : Calls Tryz.prog 139 #[encStr s] w fun e w' => e = .returned (.int .i64 (dY s)) ∧ w = w' := by
 refine jV Tryz.func139 Tryz.ntmps139 Tryz.results139 ?_
 refine jS (jR (jz 0 (jO (jN (jv1 0 ?_)))))
 refine jS (jS (jR (jm rfl (je (Run.eqlT rfl rfl) (jO (jN (jv2 0 6 ?_)))))))
 refine jD rfl (fun hc1 => ?_) fun hc1 => ?_
 ·
  subst hc1
  refine jS (jR (jz 0 (jO (jN (jv1 2 ?_)))))
  refine jT ?_
  refine qZ (qN rfl ?_)
  exact ⟨by rw [rJ]; rfl, rfl⟩
 refine jQ (jN (jv1 0 ?_))
 refine jS (jS ?_)
 refine VC.split1 [(0, _)] (js1 rfl) 18 (.bool (decide (s = [] ∨ 10 < s.length ∨ s.head? = some 48))) ?_ ?_
 ·
  refine jR ?_
  refine jm rfl (je (Run.eqlT rfl rfl) ?_)
  by_cases hs8 : s = []
  ·
   refine jM ?_
   refine jU ?_
   refine jU ?_
   refine jU ?_
   refine jW rfl rfl au (jM ?_)
   refine jU ?_
   refine jU ?_
   refine jU ?_
   refine jW rfl rfl au (jO ?_)
   refine jN ⟨(js2 (jC (Eq.symm (by first | exact decide_eq_true (.inl ‹_›) | exact decide_eq_true (.inr (.inl ‹_›)) | exact decide_eq_true (.inr (.inr (congrArg some (hx48.2 ‹_›)))) | (simp only [List.head?_cons, Option.some.injEq, hx48]; simp_all)))) rfl), rfl⟩
  refine jM ?_
  refine jG ?_
  refine jk (Run.lenT rfl za) ?_
  refine jk (Run.bin rfl rfl (Bin.gtrN _ 10)) ?_
  by_cases hs12 : 10 < s.length
  ·
   refine jF rfl rfl au (jM ?_)
   refine jU ?_
   refine jU ?_
   refine jU ?_
   refine jW rfl rfl au (jO ?_)
   refine jN ⟨(js2 (jC (Eq.symm (by first | exact decide_eq_true (.inl ‹_›) | exact decide_eq_true (.inr (.inl ‹_›)) | exact decide_eq_true (.inr (.inr (congrArg some (hx48.2 ‹_›)))) | (simp only [List.head?_cons, Option.some.injEq, hx48]; simp_all)))) rfl), rfl⟩
  obtain ⟨x0, r0, rfl⟩ : ∃ x0 r0, s = x0 :: r0 := by
   cases s with
   | nil => exact absurd rfl hs8
   | cons a r => exact ⟨a, r, rfl⟩
  have hx48 : x0 = 48 ↔ x0.toNat = 48 := ⟨fun h => by subst h; rfl, fun h => UInt8.toNat_inj.1 h⟩
  refine jF rfl rfl au (jM ?_)
  refine jG ?_
  refine jk (Run.indexT 0 rfl rfl za rfl) ?_
  refine jk (Run.bin rfl rfl (Bin.eqlN _ 48)) ?_
  by_cases hs17 : x0.toNat = 48
  ·
   refine jF rfl rfl au (jO ?_)
   refine jN ⟨(js2 (jC (Eq.symm (by first | exact decide_eq_true (.inl ‹_›) | exact decide_eq_true (.inr (.inl ‹_›)) | exact decide_eq_true (.inr (.inr (congrArg some (hx48.2 ‹_›)))) | (simp only [List.head?_cons, Option.some.injEq, hx48]; simp_all)))) rfl), rfl⟩
  refine jF rfl rfl au (jO ?_)
  refine jN ⟨(js2 (jC (Eq.symm (by first | exact decide_eq_true (.inl ‹_›) | exact decide_eq_true (.inr (.inl ‹_›)) | exact decide_eq_true (.inr (.inr (congrArg some (hx48.2 ‹_›)))) | (simp only [List.head?_cons, Option.some.injEq, hx48]; simp_all)))) rfl), rfl⟩
 intro Γ hΓ
 refine jN (VC.sub _ hΓ ?_)
 refine jD rfl (fun hc2 => ?_) fun hc2 => ?_
 ·
  have hnq := sH hc1 hc2
  refine jS (jR ?_)
  refine Ops.r (v := .int .i64 (-1)) (Run.asg rfl) rfl ?_
  refine jO (jN (jv1 2 ?_))
  refine jT ?_
  refine qZ (qN rfl ?_)
  exact ⟨by rw [hnq], rfl⟩
 have hnq := tR hc1 hc2
 have hl10 : s.length ≤ 10 := Nat.le_of_not_lt fun h => hc2 (.inr (.inl h))
 refine jQ (jN (jv1 0 ?_))
 refine jS (jR (jz 0 (jO (jN (jS (jS (jR (jm rfl (je (Run.lenT rfl za) ?_)))))))))
 refine jx .i64 0 ?_
 refine jO (jN (jv4 0 3 20 21 ?_))
 refine jB ?_
 refine VC.loop (σ := Nat) (fun i => [(0, encStr s), (3, jI1 (dF 0 (s.take i))), (20, jI1 s.length), (21, jI1 i)]) (fun i wr => i ≤ s.length ∧ (∀ x ∈ s.take i, Dig x) ∧ w = wr) (fun i => s.length - i) 0 (js4 rfl rfl rfl rfl) ⟨jo, jp, rfl⟩ ?_
 rintro i _ ⟨hi, hd, rfl⟩
 refine jS (jR (jb rfl rfl (Bin.lssN _ _) (jO (jN (jS ?_)))))
 refine jD rfl (fun hc3 => ?_) fun hc3 => ?_
 ·
  have hts : s.take (i + 1) = s.take i ++ [s[i]] := by rw [zbc, zc hc3]; rfl
  have hxm : s[i] ∈ s := zap hc3
  have hgx : s[i]? = some s[i] := zc hc3
  have hdl := nH (s.take i) 0 0 hd jd
  have hdl2 : dF 0 (s.take i) < 10 ^ 10 := Nat.lt_of_lt_of_le hdl (Nat.pow_le_pow_right jd (by simp; omega))
  generalize hx : s[i] = x at *
  have hds := pC 0 (s.take i) x
  refine jQ (jN (jv4 0 3 20 21 ?_))
  refine jS (jB (jS (jR (jm rfl (ja rfl (jO (jN (jv5 0 3 4 20 21 ?_))))))))
  refine jS (jS ?_)
  refine VC.split1 [(0, _), (3, _), (4, _), (20, _), (21, _)] (js5 rfl rfl rfl rfl rfl) 33 (.bool (decide (¬ Dig x))) ?_ ?_
  ·
   refine jR ?_
   refine jm rfl (jm rfl (je (Run.indexT _ rfl rfl za hgx) (jb rfl rfl (Bin.lssN _ 48) ?_)))
   by_cases hs27 : x.toNat < 48
   ·
    refine jM ?_
    refine jU ?_
    refine jU ?_
    refine jU ?_
    refine jU ?_
    refine jW rfl rfl au (jO ?_)
    refine jN ⟨(js6 (jC (Eq.symm (by first | exact decide_eq_true (by unfold Dig; omega) | exact decide_eq_decide.2 (by unfold Dig; omega)))) rfl rfl rfl rfl rfl), rfl⟩
   refine jM ?_
   refine jG ?_
   refine jG ?_
   refine jk (Run.indexT _ rfl rfl za hgx) ?_
   refine jk (Run.bin rfl rfl (Bin.gtrN _ 57)) ?_
   by_cases hs32 : 57 < x.toNat
   ·
    refine jF rfl rfl au (jO ?_)
    refine jN ⟨(js6 (jC (Eq.symm (by first | exact decide_eq_true (by unfold Dig; omega) | exact decide_eq_decide.2 (by unfold Dig; omega)))) rfl rfl rfl rfl rfl), rfl⟩
   refine jF rfl rfl au (jO ?_)
   refine jN ⟨(js6 (jC (Eq.symm (by first | exact decide_eq_true (by unfold Dig; omega) | exact decide_eq_decide.2 (by unfold Dig; omega)))) rfl rfl rfl rfl rfl), rfl⟩
  intro Γ hΓ
  refine jN (VC.sub _ hΓ ?_)
  refine jD rfl (fun hc4 => ?_) fun hc4 => ?_
  ·
   refine jS (jR ?_)
   refine Ops.r (v := .int .i64 (-1)) (Run.asg rfl) rfl ?_
   refine jO (jN (jv1 2 ?_))
   refine jT ?_
   refine qZ (qR (qZ (qZ (qR (qZ (qN rfl ?_))))))
   refine ⟨?_, rfl⟩
   rw [hnq, if_neg (fun h => hc4 (h.1 x hxm))]
  refine jQ (jN (jv5 0 3 4 20 21 ?_))
  refine jR (jm rfl (jb rfl rfl (Bin.mul_i64 10 _ jo) (jm rfl (jm rfl (je (Run.indexT _ rfl rfl za hgx) (jb rfl rfl (Bin.sub_u8 x.toNat 48 (by have := (Classical.not_not.1 hc4).1; omega) (by have := x.toNat_lt; omega)) (je (Run.convN _ rfl zag zac (by simp only [bmax]; omega)) (jb rfl rfl (Bin.add_i64 _ _ jo) ?_))))))))
  refine ja rfl (jO ?_)
  refine qW (jN ?_)
  refine jv4 0 3 20 21 ?_
  refine jR (jb rfl rfl (Bin.add_i64 _ 1 jo) (jm rfl (jO ?_)))
  refine jN ⟨(i + 1), (js4 rfl (by rw [hts, hds]; rfl) rfl rfl), ?_, ?_⟩
  ·
   refine ⟨hc3, fun y hy => ?_, rfl⟩
   rw [hts] at hy
   rcases List.mem_append.1 hy with h | h
   · exact hd y h
   simp only [zf] at h; subst h; exact Classical.not_not.1 hc4
  exact jq
 have hil : i = s.length := jo
 subst hil
 rw [zay] at hd ⊢
 refine jX ?_
 refine qK (qK (qH ?_))
 refine jN (jv1 3 ?_)
 refine jS (jS (jR (jm rfl (jb rfl rfl (Bin.gtrN _ 2147483647) (jO (jN (jv2 3 44 ?_)))))))
 refine jD rfl (fun hc5 => ?_) fun hc5 => ?_
 ·
  refine jS (jR ?_)
  refine Ops.r (v := .int .i64 (-1)) (Run.asg rfl) rfl ?_
  refine jO (jN (jv1 2 ?_))
  refine jT ?_
  refine qZ (qN rfl ?_)
  exact ⟨by rw [hnq, if_neg (fun h => by have := h.2; omega)], rfl⟩
 refine jQ (jN (jv1 3 ?_))
 refine jS (jR (jm rfl (ja rfl (jO (jN (jv1 2 ?_))))))
 refine jT ?_
 refine qN rfl ?_
 exact ⟨by rw [hnq, if_pos ⟨hd, jo⟩], rfl⟩
end
section
open Go.RowKit Go.Sort
theorem mI (pre : List Tx) (x : Tx) : SC (pre.map cN) ++ SC [cN x] = SC ((pre ++ [x]).map cN) := by simp [SC]
theorem hrdS {w w' : World} {t : TypeId} {x : Sp} (h : Fresh w w' t (Value.agg (SC1 x).toArray).cells) : Rd w' 2 (some ⟨w.heap.size, 0, none⟩) 1 (SC [x]) := Rd.of_blk (n := 1) (size := 2) h.blk rfl
theorem uW (l : List Sp) : ∀ u ∈ SC l, u.oneCell' = true := by
 intro u hu
 obtain ⟨x, _, hx⟩ := List.mem_flatMap.1 hu
 exact nM x u hx
def gW (s : Tx) : Int := if dM s then 0 else 3
def PaI (w : World) (s : Tx) (g2 g3 g4 : Nat) (Bt : List Nat) (pre : List Tx) (W : World) : Prop :=
 (∀ x ∈ pre, fR x) ∧ pre.length ≤ 64 ∧ Frm [] w W ∧ Blk W g2 26 #[.slice none 0 0] ∧ Blk W g3 35 #[.int .i64 0] ∧
  ∃ A q, Blk W g4 26 #[.slice A pre.length q] ∧ Own W 96 2 A pre.length q (SC (pre.map cN)) ∧ ∀ x ∈ ob A, w.heap.size ≤ x ∧ x ∉ Bt
def PaX (w : World) (s : Tx) (g2 g3 : Nat) (e : Exit) (pre : List Tx) (W : World) : Prop :=
 e = .ret ∧ ¬ dM s ∧ Frm [] w W ∧ Blk W g2 26 #[.slice none 0 0] ∧ Blk W g3 35 #[.int .i64 3]
theorem oN {s : Tx} (h : dM s) : dU s = (bG 44 s).map cN ∧ gW s = 0 := by unfold dU gW; rw [if_pos h, if_pos h]; exact ⟨rfl, rfl⟩
theorem rK {s : Tx} (h : ¬ dM s) : dU s = [] ∧ gW s = 3 := by unfold dU gW; rw [if_neg h, if_neg h]; exact ⟨rfl, rfl⟩
theorem oP (s : Tx) (w : World) (hs : s.length ≤ 1000000) :
  Calls Tryz.prog 100 #[encStr s] w fun e w' => Frm [] w w' ∧ ∃ A q, e = .returned (.tuple #[.slice A (dU s).length q, .int .i64 (gW s)]) ∧ Own w' 96 2 A (dU s).length q (SC (dU s)) ∧ (∀ x ∈ ob A, w.heap.size ≤ x) := by
 have K := Frm.refl [] w
 refine DV.calls (nt := 46) (res := #[.cell 2 26, .cell 3 35]) Tryz.func100 rfl Tryz.ntmps100 Tryz.results100 rfl ?_
 refine DV.seq ?_
 refine DV.vc ?_
 refine jR ?_
 refine Ops.m (qV.alloc pW) rfl ?_
 rintro _ w1 ⟨rfl, hF_w1⟩
 have hb2 := hF_w1.blk
 have hs2_K := K.size
 have K := Frm.trans K hF_w1.frm jp
 generalize hg2 : w.heap.size = g2 at hb2 hs2_K ⊢
 refine Ops.m (qV.alloc pY) rfl ?_
 rintro _ w2 ⟨rfl, hF_w2⟩
 have hb3 := hF_w2.blk
 have hs3_K := K.size
 have lt_hb2_3 := hb2.lt
 have hb2 := hb2.frm hF_w2.frm jp
 have K := Frm.trans K hF_w2.frm jp
 generalize hg3 : w1.heap.size = g3 at hb3 hs3_K lt_hb2_3 ⊢
 refine jO ?_
 refine fK ?_
 refine DV.seq ?_
 refine DV.vc ?_
 refine jR ?_
 refine Ops.m (qV.alloc pW) rfl ?_
 rintro _ w3 ⟨rfl, hF_w3⟩
 have hb4 := hF_w3.blk
 have hs4_K := K.size
 have lt_hb2_4 := hb2.lt
 have lt_hb3_4 := hb3.lt
 have hb2 := hb2.frm hF_w3.frm jp
 have hb3 := hb3.frm hF_w3.frm jp
 have K := Frm.trans K hF_w3.frm jp
 generalize hg4 : w2.heap.size = g4 at hb4 hs4_K lt_hb2_4 lt_hb3_4 ⊢
 have l2 := hb2.lt
 have l3 := hb3.lt
 have l4 := hb4.lt
 refine jO ?_
 refine fK ?_
 refine DV.seq ?_
 refine DV.seq ?_
 refine DV.vc ?_
 refine jR (jM ?_)
 refine jc (jE2 Tryz.call137) (lR s 44 _) ?_
 rintro e w4 ⟨hf_w4, ga, gb, gc, rfl, ⟨hqa, hqb, hqc⟩, hga, hgb, hgc, hnab, hncb⟩
 refine ⟨_, rfl, ?_⟩
 have hb2 := hb2.frm hf_w4 jp
 have hb3 := hb3.frm hf_w4 jp
 have hb4 := hb4.frm hf_w4 jp
 have K := Frm.trans K hf_w4 jp
 have h34 := hf_w4.size
 refine jO ?_
 refine fK ?_
 refine DV.sub [(2, _), (3, _), (4, _), (11, _)] (js4 rfl rfl rfl rfl) ?_
 refine DV.block ?_
 have hKs := K.size
 refine DV.range (ps := [12]) (fun x => [encStr x]) (oG s 44 ga gb gc hs ⟨hnab, hncb⟩) rfl Tryz.call198 (fun _ => rfl) rfl (PaI w s g2 g3 g4 [ga, gb, gc]) (PaX w s g2 g3) (fun x => [(2, jI0 g2), (3, jI0 g3), (4, jI0 g4), (5, encStr x)]) ?_ ?_ ?_ ?_ ?_ ?_ ?_ ?_ ?_ ?_ ?_
 ·
  rintro pre W W' S ⟨h1, h2, h3, h4, h5, A, q, h6, h7, h8⟩ hf hS
  exact ⟨h1, h2, h3.nc hf hS (by simp; omega) K.size, h4.frm hf (h4.nc hS (by simp; omega)), h5.frm hf (h5.nc hS (by simp; omega)), A, q, h6.frm hf (h6.nc hS (by simp; omega)), h7.frm hf (h7.nc hS (fun x hx hb => (h8 x hx).2 (by simp at hb ⊢; simp [hb]))), h8⟩
 ·
  rintro e pre W W' S ⟨h1, h2, h3, h4, h5⟩ hf hS
  exact ⟨h1, h2, h3.nc hf hS (by simp; omega) K.size, h4.frm hf (h4.nc hS (by simp; omega)), h5.frm hf (h5.nc hS (by simp; omega))⟩
 · exact fun W hf => ⟨hqa.frm hf jp, hqb.frm hf jp, hqc.frm hf jp⟩
 · simp
 ·
  have := hqa.lt
  have := hqb.lt
  have := hqc.lt
  simp; omega
 · exact ⟨jp, jp, K, hb2, hb3, none, 0, hb4, Own.nil _ _ _, by simp [ob]⟩
 ·
  intro l x W
  refine jv4 2 3 4 12 ?_
  refine jR (ja rfl (jO ?_))
  refine jN ⟨rfl, (js4 rfl rfl rfl rfl)⟩
 ·
  rintro l pre x W ⟨hgd, hpl, K, hb2, hb3, A, q, hb4, hA, hAB⟩ hpre hsz hmk
  have hxm : x ∈ bG 44 s := hpre.subset jp
  have hxl := zak (lX s x hxm) hs
  have hxb := dE 58 x
  have KW := Frm.refl [] W
  have hAlt := hA.lt
  have h20 := hb2
  have h30 := hb3
  have h40 := hb4
  have hA0 := hA
  have K0 := K
  have hl2 := hb2.lt
  have hl3 := hb3.lt
  have hl4 := hb4.lt
  have hla := hqa.lt
  have hlb := hqb.lt
  have hlc := hqc.lt
  have hAne : ∀ y ∈ ob A, y ≠ g4 ∧ y ≠ g2 ∧ y ≠ g3 := by
   intro y hy
   refine ⟨?_, ?_, ?_⟩
   · rintro rfl; exact hA.ne_blk hb4 jd hy
   · rintro rfl; exact hA.ne_blk hb2 jd hy
   rintro rfl; exact hA.ne_blk hb3 jd hy
  refine jB (jS (jR (jM ?_)))
  refine jc (jE2 Tryz.call138) (fS x 58 _ hxl) ?_
  rintro e W1 ⟨rfl, hf_W1⟩
  refine ⟨_, rfl, ?_⟩
  have hb2 := hb2.frm hf_W1 jp
  have hb3 := hb3.frm hf_W1 jp
  have hb4 := hb4.frm hf_W1 jp
  have KW := Frm.trans KW hf_W1 jp
  have K := Frm.trans K hf_W1 jp
  have hA := hA.frm hf_W1 jp
  refine jm rfl (jY rfl rfl (jY rfl rfl (jY rfl rfl (ja rfl (ja rfl (ja rfl (jO (jN (jv6 2 3 4 6 7 8 ?_)))))))))
  refine jS (jR (jM ?_))
  refine jc0 (jE1 Tryz.call139) (fX (bZ 58 x) _ jo) ?_
  refine jM ?_
  refine jc0 (jE1 Tryz.call139) (fX (bZ 58 x) _ jo) ?_
  refine je (Run.build (evs.cons rfl (evs.cons rfl evs.nil)) lF (lL).choose_spec.1 (lL).choose_spec.2 rfl) ?_
  refine Ops.m (qV.alloc lF) rfl ?_
  rintro _ W2 ⟨rfl, hF_W2⟩
  have hb9 := hF_W2.blk
  have hs9_KW := KW.size
  have hs9_K := K.size
  have lt_hb2_9 := hb2.lt
  have lt_hb3_9 := hb3.lt
  have lt_hb4_9 := hb4.lt
  have hb2 := hb2.frm hF_W2.frm jp
  have hb3 := hb3.frm hF_W2.frm jp
  have hb4 := hb4.frm hF_W2.frm jp
  have KW := Frm.trans KW hF_W2.frm jp
  have K := Frm.trans K hF_W2.frm jp
  generalize hg9 : W1.heap.size = g9 at hb9 hs9_KW hs9_K lt_hb2_9 lt_hb3_9 lt_hb4_9 ⊢
  have hA := hA.frm hF_W2.frm jp
  refine Ops.st (qQ.storeA rfl rfl zck hb9 rfl (nM (dY (bZ 58 x), dY (bZ 58 x)))) ?_
  rintro W3 ⟨hb9n, hf_W3, hsz_W3⟩
  have hb9 : Blk W3 g9 96 #[.int .i64 (dY (bZ 58 x)), .int .i64 (dY (bZ 58 x))] := hb9n
  have hA := hA.frm hf_W3 (fun y hy => by have := hAlt y hy; simp; omega)
  have hb2 := hb2.frm hf_W3 (by simp; omega)
  have hb3 := hb3.frm hf_W3 (by simp; omega)
  have hb4 := hb4.frm hf_W3 (by simp; omega)
  have KW := Frm.own KW hf_W3 (fun y hy => by simp at hy; omega)
  have K := Frm.own K hf_W3 (fun y hy => by simp at hy; omega)
  refine jO (jN (jv6 2 3 4 7 8 9 ?_))
  refine jS (jS (jR (jm rfl (jO (jN (jv6 2 3 4 7 9 24 ?_))))))
  refine VC.meet (σ := Unit) (fun s => [(2, jI0 g2), (3, jI0 g3), (4, jI0 g4), (9, jI0 g9)]) (fun s wr => Blk wr g9 96 (SC1 (cN x)).toArray ∧ Frm [g9] W3 wr) ?_ ?_
  ·
   refine VC.condB rfl (fun hc1 => ?_) (fun hc1 => ?_)
   ·
    refine jR (jM ?_)
    refine jc0 (jE1 Tryz.call139) (fX (qC 58 x) _ jo) ?_
    refine jf rfl zcq rfl zd ?_
    refine Ops.st (qQ.store rfl rfl zd hb9 rfl rfl) ?_
    rintro W4 ⟨hb9n, hf_W4, hsz_W4⟩
    have hb9n : Blk W4 g9 96 #[.int .i64 (dY (bZ 58 x)), .int .i64 (dY (qC 58 x))] := hb9n
    refine jO ?_
    refine jN ⟨(), (js4 rfl rfl rfl rfl), ?_⟩
    have h58 : 58 ∈ x := of_decide_eq_true hc1
    exact ⟨by unfold cN; rw [if_pos h58]; exact hb9n, hf_W4⟩
   refine jQ ?_
   refine jN ⟨(), (js4 rfl rfl rfl rfl), ?_⟩
   have h58 : ¬ 58 ∈ x := of_decide_eq_false hc1
   exact ⟨by unfold cN; rw [if_neg h58]; exact hb9, Frm.refl _ _⟩
  rintro _ W5 ⟨hb9, hf_W5⟩ Γ hΓ
  have hA := hA.frm hf_W5 (fun y hy => by have := hAlt y hy; simp; omega)
  have hb2 := hb2.frm hf_W5 (by simp; omega)
  have hb3 := hb3.frm hf_W5 (by simp; omega)
  have hb4 := hb4.frm hf_W5 (by simp; omega)
  have KW := Frm.own KW hf_W5 (fun y hy => by simp at hy; omega)
  have K := Frm.own K hf_W5 (fun y hy => by simp at hy; omega)
  have hbadQ : fR x ↔ (0 ≤ (cN x).1 ∧ 0 ≤ (cN x).2) := Iff.rfl
  have hsp : ∃ sp, cN x = sp := ⟨_, rfl⟩
  obtain ⟨sp, hsp⟩ := hsp
  rw [hsp] at hb9 hbadQ
  refine jN (VC.sub _ hΓ (jS (jS ?_)))
  refine VC.split1 [(2, _), (3, _), (4, _), (9, _)] (js4 rfl rfl rfl rfl) 40 (.bool (decide (¬ fR x ∨ pre.length = 64))) ?_ ?_
  ·
   refine jR (jf rfl zcq rfl zd (jl rfl zj (hb9.cell 0) (jb rfl rfl (Bin.lss _ 0) ?_)))
   by_cases hs30 : sp.1 < 0
   ·
    refine jM ?_
    refine jU ?_
    refine jU ?_
    refine jU ?_
    refine jW rfl rfl au (jM ?_)
    refine jU ?_
    refine jU ?_
    refine jU ?_
    refine jW rfl rfl au (jO ?_)
    refine jN ⟨(js5 (jC (Eq.symm (by first | exact decide_eq_true (.inl fun h => by have := (hbadQ.1 h).1; omega) | exact decide_eq_true (.inl fun h => by have := (hbadQ.1 h).2; omega) | exact decide_eq_decide.2 ⟨fun h => h.resolve_left (fun h2 => h2 (hbadQ.2 ⟨jo, jo⟩)), .inr⟩))) rfl rfl rfl rfl), rfl⟩
   refine jM ?_
   refine jk (Run.fieldAddr rfl zcq rfl zd jd) ?_
   refine jk (Run.load rfl zj (hb9.cell 1)) ?_
   refine jk (Run.bin rfl rfl (Bin.lss _ 0)) ?_
   by_cases hs34 : sp.2 < 0
   ·
    refine jF rfl rfl au (jM ?_)
    refine jU ?_
    refine jU ?_
    refine jU ?_
    refine jW rfl rfl au (jO ?_)
    refine jN ⟨(js5 (jC (Eq.symm (by first | exact decide_eq_true (.inl fun h => by have := (hbadQ.1 h).1; omega) | exact decide_eq_true (.inl fun h => by have := (hbadQ.1 h).2; omega) | exact decide_eq_decide.2 ⟨fun h => h.resolve_left (fun h2 => h2 (hbadQ.2 ⟨jo, jo⟩)), .inr⟩))) rfl rfl rfl rfl), rfl⟩
   refine jF rfl rfl au (jM ?_)
   refine jk (Run.load rfl zbw (hb4.cell 0)) ?_
   refine jk (Run.lenS rfl zbd) ?_
   refine jk (Run.bin rfl rfl (Bin.eqlN _ 64)) ?_
   by_cases hs39 : pre.length = 64
   ·
    refine jF rfl rfl au (jO ?_)
    refine jN ⟨(js5 (jC (Eq.symm (by first | exact decide_eq_true (.inl fun h => by have := (hbadQ.1 h).1; omega) | exact decide_eq_true (.inl fun h => by have := (hbadQ.1 h).2; omega) | exact decide_eq_decide.2 ⟨fun h => h.resolve_left (fun h2 => h2 (hbadQ.2 ⟨jo, jo⟩)), .inr⟩))) rfl rfl rfl rfl), rfl⟩
   refine jF rfl rfl au (jO ?_)
   refine jN ⟨(js5 (jC (Eq.symm (by first | exact decide_eq_true (.inl fun h => by have := (hbadQ.1 h).1; omega) | exact decide_eq_true (.inl fun h => by have := (hbadQ.1 h).2; omega) | exact decide_eq_decide.2 ⟨fun h => h.resolve_left (fun h2 => h2 (hbadQ.2 ⟨jo, jo⟩)), .inr⟩))) rfl rfl rfl rfl), rfl⟩
  intro Γ hΓ
  refine jN (VC.sub _ hΓ ?_)
  refine jD rfl (fun hc2 => ?_) fun hc2 => ?_
  ·
   refine jS (jR ?_)
   refine Ops.st (qQ.store rfl rfl zbh hb2 rfl rfl) ?_
   rintro W6 ⟨hb2n, hf_W6, hsz_W6⟩
   have hb2n : Blk W6 g2 26 #[.slice none 0 0] := hb2n
   have hb3 := hb3.frm hf_W6 (by simp; omega)
   refine Ops.st (qQ.store rfl rfl Tryz.sizeOf35 hb3 rfl rfl) ?_
   rintro W7 ⟨hb3n, hf_W7, hsz_W7⟩
   have hb3n : Blk W7 g3 35 #[.int .i64 3] := hb3n
   have hb2n := hb2n.frm hf_W7 (by simp; omega)
   refine jO (jN (jv2 2 3 ?_))
   refine jT ?_
   refine qZ (qR (?_))
   refine ⟨⟨[g2, g3], ?_, ?_⟩, rfl, ?_, ?_, hb2n, hb3n⟩
   · exact ((KW.mono (T := [g2, g3]) jp).trans hf_W6 jp).trans hf_W7 jp
   ·
    intro b hb
    simp only [zs, zw, or_false] at hb
    rcases hb with rfl | rfl
    · exact ⟨by simp; omega, h20.isC⟩
    exact ⟨by simp; omega, h30.isC⟩
   ·
    rintro ⟨hall, hlen⟩
    rcases hc2 with h | h
    · exact h (hall x hxm)
    have := hpre.length_le
    simp at this
    omega
   exact Frm.own (Frm.own K hf_W6 (fun y hy => by simp at hy; omega)) hf_W7 (fun y hy => by simp at hy; omega)
  refine jQ (jN (jv2 4 9 ?_))
  refine jR (jl rfl zbw (hb4.cell 0) (je (Run.loadA rfl Tryz.isAgg96 zck (fun j v hj => hb9.cells j v hj) (by first | rfl | (simp; done))) ?_))
  refine Ops.m (qV.buildS1 rfl zbd zck lF jd jd rfl rfl) rfl ?_
  rintro _ W6 ⟨rfl, hF_W6⟩
  have hb4 := hb4.frm hF_W6.frm jp
  have hb2 := hb2.frm hF_W6.frm jp
  have hb3 := hb3.frm hF_W6.frm jp
  have KW := KW.trans hF_W6.frm jp
  have K := K.trans hF_W6.frm jp
  refine Ops.m (qV.app rfl rfl zbd (uX) rfl jd (hA.frm hF_W6.frm jp) (hrdS hF_W6) (uW _) jo jo) rfl ?_
  rintro _ W7 ⟨A7, c7, rfl, hA7, hf_W7, hob7⟩
  rw [← hsp, mI] at hA7
  have hb4 := hb4.frm hf_W7 (fun hy => (hAne _ hy).1 rfl)
  have hb2 := hb2.frm hf_W7 (fun hy => (hAne _ hy).2.1 rfl)
  have hb3 := hb3.frm hf_W7 (fun hy => (hAne _ hy).2.2 rfl)
  have K := Frm.own K hf_W7 (fun y hy => (hAB y hy).1)
  refine Ops.st (qQ.store rfl rfl zbh hb4 rfl rfl) ?_
  rintro W8 ⟨hb4n, hf_W8, hsz_W8⟩
  refine jO ?_
  refine qW (?_)
  refine ⟨⟨ob A ++ [g4], ?_, ?_⟩, ?_⟩
  · exact ((KW.mono (T := ob A ++ [g4]) jp).trans hf_W7 (fun y hy => .inl (by simp [hy]))).trans hf_W8 (fun y hy => .inl (by simp at hy; simp [hy]))
  ·
   intro b hb
   rcases List.mem_append.1 hb with h | h
   · exact ⟨(hAB b h).2, hA0.isC b h⟩
   simp only [zf] at h
   subst h
   exact ⟨by simp; omega, h40.isC⟩
  have hgx : fR x := Classical.byContradiction fun h => hc2 (.inl h)
  have hne4 : ∀ y ∈ ob A7, y ≠ g4 := by
   intro y hy
   have := hA7.ne_blk hb4 jd
   rintro rfl
   exact this hy
  refine ⟨fun y hy => ?_, ?_, Frm.own K hf_W8 (fun y hy => by simp at hy; omega), hb2.frm hf_W8 (by simp; omega), hb3.frm hf_W8 (by simp; omega), A7, c7, ?_, ?_, ?_⟩
  ·
   rcases List.mem_append.1 hy with h | h
   · exact hgd y h
   simp only [zf] at h; subst h; exact hgx
  ·
   have : pre.length ≠ 64 := fun h => hc2 (.inr h)
   simp; omega
  · rw [zaz]; exact hb4n
  · rw [zaz]; exact hA7.frm hf_W8 (fun y hy => by have := hne4 y hy; simpa using this)
  intro y hy
  rcases hob7 with h | h
  · rw [h] at hy; exact hAB y hy
  rw [h] at hy
  simp only [zf] at hy
  have := KW.size
  have := hF_W6.size
  have := K0.size
  subst hy
  exact ⟨jo, by simp; omega⟩
 ·
  rintro W ⟨hgd, hpl, K, hb2, hb3, A, q, hb4, hA, hAB⟩ hsz hmk
  refine rO (fK ?_)
  refine DV.sub [(2, _), (3, _), (4, _)] (js3 rfl rfl rfl) ?_
  refine DV.seq ?_
  refine DV.vc ?_
  refine jR (jl rfl zbw (hb4.cell 0) ?_)
  refine Ops.st (qQ.store rfl rfl zbh hb2 rfl rfl) ?_
  rintro V1 ⟨hb2n, hf_V1, _⟩
  have hb2n : Blk V1 g2 26 #[.slice A (bG 44 s).length q] := hb2n
  have hmk := hmk.frm hf_V1 (by simp; exact hmk.ne_blk hb2)
  have hA := hA.frm hf_V1 (fun y hy => by have := hA.ne_blk hb2 jd; simp; rintro rfl; exact this hy)
  have hb3 := hb3.frm hf_V1 (by simp; omega)
  have K := Frm.own K hf_V1 (fun y hy => by simp at hy; omega)
  refine Ops.st (qQ.store rfl rfl Tryz.sizeOf35 hb3 rfl rfl) ?_
  rintro V2 ⟨hb3n, hf_V2, _⟩
  have hb3n : Blk V2 g3 35 #[.int .i64 0] := hb3n
  have hmk := hmk.frm hf_V2 (by simp; exact hmk.ne_blk hb3)
  have hA := hA.frm hf_V2 (fun y hy => by have := hA.ne_blk hb3 jd; simp; rintro rfl; exact this hy)
  have hb2n := hb2n.frm hf_V2 (by simp; omega)
  have K := Frm.own K hf_V2 (fun y hy => by simp at hy; omega)
  refine jO ?_
  refine fK ?_
  refine DV.sub [(2, _), (3, _)] (js2 rfl rfl) ?_
  refine DV.vc (jT ?_)
  refine pP jp (fun d hd => by simp only [zf] at hd; subst hd; exact hmk) (fun wz hsh => ?_)
  have hb2n := hb2n.frm hsh (by simp; omega)
  have hb3n := hb3n.frm hsh (by simp; omega)
  have hA := hA.frm hsh (fun y hy => by have := hmk.ne_own hA; simp; rintro rfl; exact this hy)
  have K := Frm.own K hsh (fun y hy => by have := hKs; simp at hy; omega)
  refine bA ?_
  refine dK rfl zbw (hb2n.cell 0) ?_
  refine dK rfl Tryz.isAgg35 (hb3n.cell 0) ?_
  refine bK ?_
  have hok : dM s := ⟨hgd, hpl⟩
  obtain ⟨h1, h2⟩ := oN hok
  rw [h1, h2]
  exact ⟨K, A, q, by rw [zaw]; rfl, by rw [zaw]; exact hA, fun x hx => by have := (hAB x hx).1; omega⟩
 ·
  rintro pre W ⟨_, hno, K, hb2, hb3⟩ hsz hmk
  refine sQ (tH (pP jp (fun d hd => by simp only [zf] at hd; subst hd; exact hmk) (fun wz hsh => ?_)))
  have hb2 := hb2.frm hsh (by simp; omega)
  have hb3 := hb3.frm hsh (by simp; omega)
  have K := Frm.own K hsh (fun y hy => by have := hKs; simp at hy; omega)
  refine bA ?_
  refine dK rfl zbw (hb2.cell 0) ?_
  refine dK rfl Tryz.isAgg35 (hb3.cell 0) ?_
  refine bK ?_
  obtain ⟨h1, h2⟩ := rK hno
  rw [h1, h2]
  exact ⟨K, none, 0, rfl, Own.nil _ _ _, by simp [ob]⟩
 exact fun _ _ _ h => absurd h.1 jp
end
section
open Go.RowKit
def oR : Tx := [48, 49, 50, 51, 52, 53, 54, 55, 56, 57]
def gA (s : Tx) : Int := if s.length < 1 ∨ 9 < s.length ∨ ¬ lB oR s = [] then -1 else (Lib.atoi s).getD 0
theorem lY (s : Tx) (w : World) (hs : s.length ≤ 1000000) (hv : cH w) : Calls Tryz.prog 99 #[encStr s] w fun e w' => e = .returned (.int .i64 (gA s)) ∧ Frm [] w w' := by
 refine jV Tryz.func99 Tryz.ntmps99 Tryz.results99 ?_
 refine jS (jR (jz 0 (jO (jN (jv1 0 ?_)))))
 refine jS (jS ?_)
 refine VC.splitR [(0, encStr s)] (fun wz => Frm [] w wz) 17 (.bool (decide (s.length < 1 ∨ 9 < s.length ∨ ¬ lB oR s = []))) ?_ ?_
 ·
  refine jR ?_
  refine jm rfl (je (Run.lenT rfl za) (jb rfl rfl (Bin.lssN _ 1) ?_))
  by_cases hs7 : s.length < 1
  ·
   refine jM ?_
   refine jU ?_
   refine jU ?_
   refine jU ?_
   refine jW rfl rfl au (jM ?_)
   refine jU ?_
   refine jU ?_
   refine jU ?_
   refine jW rfl rfl au (jO ?_)
   refine jN ⟨(js2 (jC (by grind)) rfl), (by first | exact K1 | exact Frm.refl _ _)⟩
  refine jM ?_
  refine jG ?_
  refine jk (Run.lenT rfl za) ?_
  refine jk (Run.bin rfl rfl (Bin.gtrN _ 9)) ?_
  by_cases hs11 : 9 < s.length
  ·
   refine jF rfl rfl au (jM ?_)
   refine jU ?_
   refine jU ?_
   refine jU ?_
   refine jW rfl rfl au (jO ?_)
   refine jN ⟨(js2 (jC (by grind)) rfl), (by first | exact K1 | exact Frm.refl _ _)⟩
  refine jF rfl rfl au (jM ?_)
  refine jG ?_
  refine Ops.clg rfl au (jE2 Tryz.call135) (rZ s oR w hs jd jd jd jo) rfl ?_
  rintro e w1 ⟨rfl, K1⟩
  refine ⟨_, rfl, ?_⟩
  refine jk (Run.neqT rfl rfl) ?_
  by_cases hs16 : ¬ lB oR s = []
  ·
   refine jF rfl rfl au (jO ?_)
   refine jN ⟨(js2 (jC (by grind)) rfl), (by first | exact K1 | exact Frm.refl _ _)⟩
  refine jF rfl rfl au (jO ?_)
  refine jN ⟨(js2 (jC (by grind)) rfl), (by first | exact K1 | exact Frm.refl _ _)⟩
 intro Γ wz hΓ Kz
 refine jN (VC.sub _ hΓ ?_)
 refine jD rfl (fun hc1 => ?_) fun hc1 => ?_
 ·
  have hn : gA s = -1 := if_pos hc1
  refine jS (jR ?_)
  refine Ops.r (v := .int .i64 (-1)) (Run.asg rfl) rfl ?_
  refine jO (jN (jv1 2 ?_))
  refine jT ?_
  refine qZ (qN rfl ?_)
  exact ⟨by rw [hn], Kz⟩
 have hn : gA s = (Lib.atoi s).getD 0 := if_neg hc1
 refine jQ (jN (jv1 0 ?_))
 refine jS (jR (jM ?_))
 refine jc (jE1 Tryz.call136) (lK s wz jo (hv.frm0 Kz)) ?_
 rintro e w2 ⟨hf2, n, ev, b, rfl, hb⟩
 refine ⟨_, rfl, ?_⟩
 have hne : n = gA s := by
  rw [hn]
  rcases hb with ⟨_, h, _⟩ | ⟨_, h, h2, _⟩
  · rw [h]; rfl
  rw [h, h2]; rfl
 subst hne
 refine jm rfl (jY rfl rfl (jY rfl rfl (ja rfl (ja rfl (jO (jN (jv1 3 ?_)))))))
 refine jS (jR (jm rfl (ja rfl (jO (jN (jv1 2 ?_))))))
 refine jT ?_
 refine qN rfl ?_
 exact ⟨rfl, Kz.trans hf2 jp⟩
def eC (s : Tx) : Tx := Lib.trimSuffix (Lib.trimPrefix s [60]) [62]
def bD (s : Tx) : Int := gA (bZ 46 (eC s))
def dA (s : Tx) : Int := gA (qC 46 (eC s))
def eZ (s : Tx) : Prop := Lib.hasPrefix s [60] = true ∧ Lib.hasSuffix (Lib.trimPrefix s [60]) [62] = true ∧ 46 ∈ eC s ∧ 0 ≤ bD s ∧ 0 < dA s
instance (s : Tx) : Decidable (eZ s) := by unfold eZ; infer_instance
theorem lG (s p : Tx) : (Lib.trimPrefix s p).length ≤ s.length := by unfold Lib.trimPrefix; split <;> simp
theorem rV (s p : Tx) : (Lib.trimSuffix s p).length ≤ s.length := by unfold Lib.trimSuffix; split <;> simp
theorem sM (s : Tx) : (eC s).length ≤ s.length := zak (rV _ _) (lG _ _)
theorem oS (gx : Nat) (cs : Array Value) (s : Tx) (w : World) (hb : Blk w gx 54 cs) (hsz : cs.size = 9) (hs : s.length ≤ 100000) (hv : cH w) : Calls Tryz.prog 106 #[jI0 gx, encStr s] w fun e w' => e = .returned (.bool (decide (eZ s))) ∧ Frm [gx] w w' ∧ Blk w' gx 54 (((cs.setIfInBounds 6 (.bool true)).setIfInBounds 7 (.int .i64 (bD s))).setIfInBounds 8 (.int .i64 (dA s))) := by
 have hP5 : eZ s ↔ (Lib.hasPrefix s [60] = true ∧ Lib.hasSuffix (Lib.trimPrefix s [60]) [62] = true ∧ 46 ∈ eC s ∧ 0 ≤ bD s ∧ 0 < dA s) := Iff.rfl
 refine jV Tryz.func106 Tryz.ntmps106 Tryz.results106 ?_
 refine jS (jR (ja rfl (jO (jN (jv2 0 1 ?_)))))
 refine jS (jR (jM ?_))
 refine jc0 (jE2 Tryz.call147) (lV s [60] w) ?_
 have hl1 : (Lib.trimPrefix s [60]).length ≤ s.length := lG s [60]
 have hl2 := sM s
 refine jm rfl (jY rfl rfl (jY rfl rfl (ja rfl (ja rfl (jO (jN (jv3 0 1 5 ?_)))))))
 refine jS (jR (jM ?_))
 refine jc0 (jE2 Tryz.call74) (lW (Lib.trimPrefix s [60]) [62] w jo) ?_
 refine jm rfl (jY rfl rfl (jY rfl rfl (ja rfl (ja rfl (jO (jN (jv4 0 1 5 6 ?_)))))))
 refine jS (jR (jM ?_))
 refine jc (jE2 Tryz.call138) (fS (eC s) 46 w jo) ?_
 rintro e w1 ⟨rfl, hf1⟩
 refine ⟨_, rfl, ?_⟩
 have hbl := dE 46 (eC s)
 refine jm rfl (jY rfl rfl (jY rfl rfl (jY rfl rfl (ja rfl (ja rfl (ja rfl (jO (jN (jv6 0 5 6 7 8 9 ?_)))))))))
 refine jS (jR (jm rfl (jm rfl (jm rfl (jM ?_)))))
 refine jc (jE1 Tryz.call99) (lY (bZ 46 (eC s)) w1 jo (hv.frm0 hf1)) ?_
 rintro e w2 ⟨rfl, hf2⟩
 refine ⟨_, rfl, ?_⟩
 have k2 := hf1.trans hf2 jp
 refine jM ?_
 refine jc (jE1 Tryz.call99) (lY (qC 46 (eC s)) w2 jo (hv.frm0 k2)) ?_
 rintro e w3 ⟨rfl, hf3⟩
 refine ⟨_, rfl, ?_⟩
 have k3 := k2.trans hf3 jp
 have hb3 := hb.frm k3 jp
 refine jZ rfl (jf rfl zg rfl zk ?_)
 refine Ops.st (qQ.store (i := 6) rfl rfl zk hb3 (by rw [hsz]; rfl) rfl) ?_
 rintro w4 ⟨hb4, hf4, hs4⟩
 refine jZ rfl (jf rfl zg rfl zd ?_)
 refine Ops.st (qQ.store (i := 7) rfl rfl zd hb4 (by simp [hsz]) rfl) ?_
 rintro w5 ⟨hb5, hf5, hs5⟩
 refine jZ rfl (jf rfl zg rfl zd ?_)
 refine Ops.st (qQ.store (i := 8) rfl rfl zd hb5 (by simp [hsz]) rfl) ?_
 rintro w6 ⟨hb6, hf6, hs6⟩
 have K6 : Frm [gx] w w6 := (((k3.mono jp).trans hf4 (fun x hx => .inl hx)).trans hf5 (fun x hx => .inl hx)).trans hf6 (fun x hx => .inl hx)
 have c7 : w6.cell? ⟨gx, 7, none⟩ = some (.int .i64 (bD s)) := by rw [hb6.cell]; simp [hsz]; rfl
 have c8 : w6.cell? ⟨gx, 8, none⟩ = some (.int .i64 (dA s)) := by rw [hb6.cell]; simp [hsz]; rfl
 refine jO (jN (jv4 0 5 6 9 ?_))
 refine jS ?_
 refine VC.split1 [] .nil 4 (.bool (decide (eZ s))) ?_ ?_
 ·
  refine jR (jM ?_)
  by_cases hs39 : Lib.hasPrefix s [60] = true
  ·
   refine jM ?_
   refine jG ?_
   by_cases hs41 : Lib.hasSuffix (Lib.trimPrefix s [60]) [62] = true
   ·
    refine jW rfl rfl au (jM ?_)
    refine jG ?_
    by_cases hs44 : 46 ∈ eC s
    ·
     refine jW rfl rfl au (jM ?_)
     refine jG ?_
     refine jk (Run.nilck rfl) ?_
     refine jk (Run.fieldAddr rfl zg rfl zd jd) ?_
     refine jk (Run.load rfl zj c7) ?_
     refine jk (Run.bin rfl rfl (Bin.geq _ 0)) ?_
     by_cases hs51 : 0 ≤ bD s
     ·
      refine jW rfl rfl au (jM ?_)
      refine jG ?_
      refine jk (Run.nilck rfl) ?_
      refine jk (Run.fieldAddr rfl zg rfl zd jd) ?_
      refine jk (Run.load rfl zj c8) ?_
      refine jk (Run.bin rfl rfl (Bin.gtr _ 0)) ?_
      by_cases hs58 : 0 < dA s
      ·
       refine jW rfl rfl au (ja rfl (jO ?_))
       refine jN ⟨(js1 (jC (by simp only [hP5]; grind))), rfl⟩
      refine jW rfl rfl au (ja rfl (jO ?_))
      refine jN ⟨(js1 (jC (by simp only [hP5]; grind))), rfl⟩
     refine jW rfl rfl au (jM ?_)
     refine jU ?_
     refine jU ?_
     refine jU ?_
     refine jU ?_
     refine jU ?_
     refine jF rfl rfl au (ja rfl (jO ?_))
     refine jN ⟨(js1 (jC (by simp only [hP5]; grind))), rfl⟩
    refine jW rfl rfl au (jM ?_)
    refine jU ?_
    refine jU ?_
    refine jU ?_
    refine jU ?_
    refine jU ?_
    refine jF rfl rfl au (jM ?_)
    refine jU ?_
    refine jU ?_
    refine jU ?_
    refine jU ?_
    refine jU ?_
    refine jF rfl rfl au (ja rfl (jO ?_))
    refine jN ⟨(js1 (jC (by simp only [hP5]; grind))), rfl⟩
   refine jW rfl rfl au (jM ?_)
   refine jU ?_
   refine jF rfl rfl au (jM ?_)
   refine jU ?_
   refine jU ?_
   refine jU ?_
   refine jU ?_
   refine jU ?_
   refine jF rfl rfl au (jM ?_)
   refine jU ?_
   refine jU ?_
   refine jU ?_
   refine jU ?_
   refine jU ?_
   refine jF rfl rfl au (ja rfl (jO ?_))
   refine jN ⟨(js1 (jC (by simp only [hP5]; grind))), rfl⟩
  refine jM ?_
  refine jU ?_
  refine jF rfl rfl au (jM ?_)
  refine jU ?_
  refine jF rfl rfl au (jM ?_)
  refine jU ?_
  refine jU ?_
  refine jU ?_
  refine jU ?_
  refine jU ?_
  refine jF rfl rfl au (jM ?_)
  refine jU ?_
  refine jU ?_
  refine jU ?_
  refine jU ?_
  refine jU ?_
  refine jF rfl rfl au (ja rfl (jO ?_))
  refine jN ⟨(js1 (jC (by simp only [hP5]; grind))), rfl⟩
 intro Γ hΓ
 refine jN (VC.sub _ hΓ ?_)
 refine jT ?_
 refine qN rfl ?_
 exact ⟨rfl, K6, hb6⟩
theorem kW (A : Option Addr) (n c : Nat) (ws : List Tx) (sep : Tx) (w : World) (hw : ws.length = n) (h : Rd w 1 A n (SB ws)) (hnc : n ≤ c) (hn : n ≤ 1000000) (hl : (Lib.join ws sep).length ≤ 100000000) :
  Calls Tryz.prog 28 #[.slice A n c, encStr sep] w fun e w' => e = .returned (encStr (Lib.join ws sep)) ∧ Frm [] w w' := by
 have hmm : (ws.map fun t : Tx => (⟨t.toArray⟩ : ByteArray)).map (·.data.toList) = ws := by simp [zdb, Function.comp_def]
 subst hw
 by_cases h0 : ws.length = 0
 ·
  have h1 : ws = [] := zai h0
  subst h1
  refine (Tryz.strings_Join_none A c ⟨sep.toArray⟩ w).mono fun e w' ⟨he, hw⟩ => ?_
  subst hw
  exact ⟨he, Frm.refl _ _⟩
 obtain ⟨ad, rfl, hlt, hc⟩ := h.2 jo
 have hsp : ad.spot = none := by
  have h2 := hc 0 (encStr (ws[0]'jo)) (by simp [SB])
  have h3 : w.cell? ad = some (encStr (ws[0]'jo)) := h2
  unfold World.cell? at h3
  cases hs : ad.spot with
  | none => rfl
  | some k =>
   rw [hs] at h3
   split at h3 <;> simp at h3
 have had : ∀ j, ad.add j = ⟨ad.block, ad.off + j, none⟩ := fun j => by
  unfold Addr.add
  split
  · next hj => subst hj; cases ad; simp_all
  rfl
 have had0 : ad = ⟨ad.block, ad.off, none⟩ := by cases ad; simp_all
 have hcc : Calls Tryz.prog 28 #[.slice (some ⟨ad.block, ad.off, none⟩) (ws.map fun t : Tx => (⟨t.toArray⟩ : ByteArray)).length c, .string ⟨sep.toArray⟩] w _ := Tryz.strings_Join ad.block ad.off c (ws.map fun t : Tx => (⟨t.toArray⟩ : ByteArray)) ⟨sep.toArray⟩ w (fun j x hx => by
  rw [List.getElem?_map, Option.map_eq_some_iff] at hx
  obtain ⟨t, ht, rfl⟩ := hx
  have h4 := hc j (encStr t) (by rw [SB, List.getElem?_map, ht]; rfl)
  rw [had j] at h4
  exact h4) hlt (by simp; omega) (by simpa using hnc) (by rw [hmm]; exact zak hl (by decide))
 rw [zaw] at hcc
 rw [had0]
 refine hcc.mono fun e w' ⟨he, hw⟩ => ?_
 rw [hmm] at he
 exact ⟨he, Frm.of_below hw⟩
theorem oT (n : Int) (w : World) (h0 : 0 ≤ n) (h1 : n < 100) : Calls Tryz.prog 27 #[.int .i64 n] w fun e w' => e = .returned (encStr (Lib.decDigits n.toNat)) ∧ w = w' := by
 obtain ⟨k, rfl⟩ : ∃ k : Nat, n = ((k : Nat) : Int) := ⟨n.toNat, jo⟩
 refine (Tryz.strconv_Itoa_small k jo w).mono fun e w' ⟨he, hw⟩ => ⟨?_, hw.symm⟩
 rw [Int.toNat_natCast]
 exact he
def cU (v : Wnt) : List Tx := v.path.map (fun n => Lib.decDigits n.toNat) ++ if v.what = [] then [] else [v.what]
def fU (v : Wnt) : Tx := if bL v then Lib.join (cU v) [46] ++ (if v.names = [] then [] else [32, 40] ++ Lib.join v.names [32] ++ [41]) else []
theorem kY {n : Nat} (h : n < 10) : Lib.decDigits n = [UInt8.ofNat (48 + n)] := by rw [Lib.decDigits, dif_pos h]
theorem uY {n : Nat} (h : ¬ n < 10) : Lib.decDigits n = Lib.decDigits (n / 10) ++ Lib.decDigits (n % 10) := by
 conv => lhs; rw [Lib.decDigits, dif_neg h]
 rw [kY (Nat.mod_lt _ jd)]
theorem dec2 (n : Nat) (h : n < 100) : (Lib.decDigits n).length ≤ 2 := by
 by_cases h1 : n < 10
 · rw [kY h1]; simp
 rw [uY jo, kY (n := n / 10) jo, kY (n := n % 10) jo]; simp
theorem dG (sep : Tx) (M : Nat) : ∀ ws : List Tx, (∀ x ∈ ws, x.length ≤ M) → (Lib.join ws sep).length ≤ ws.length * (M + sep.length)
 | [], _ => by simp [Lib.join]
 | [x], h => by
  have := h x jp
  simp [Lib.join]
  omega
 | x :: y :: r, h => by
  have h1 := h x jp
  have h2 := dG sep M (y :: r) (fun z hz => h z (by simp [hz]))
  have e : Lib.join (x :: y :: r) sep = x ++ sep ++ Lib.join (y :: r) sep := by simp [Lib.join]
  rw [e, zaz, zaz]
  have e2 : (x :: y :: r).length * (M + sep.length) = (y :: r).length * (M + sep.length) + (M + sep.length) := by rw [zbt, Nat.succ_mul]
  omega
theorem sN {v : Wnt} (h : kZ v) : v.what.length ≤ 100 := by
 rcases h with h | h | h | h | h | ⟨h, _⟩ <;> rw [h] <;> decide
theorem mM {v : Wnt} (h : bL v) : (cU v).length ≤ 9 ∧ ∀ x ∈ cU v, x.length ≤ 100 := by
 have h1 := h.1
 have h2 := sN h.2.2
 unfold cU
 refine ⟨?_, fun x hx => ?_⟩
 ·
  rw [zaz, zaw]
  split <;> simp <;> omega
 rcases List.mem_append.1 hx with hx | hx
 ·
  obtain ⟨n, hn, rfl⟩ := List.mem_map.1 hx
  have h3 : ¬ bW n := fun hb => h1 (.inr ⟨n, hn, hb⟩)
  unfold bW at h3
  have := dec2 n.toNat jo
  omega
 split at hx
 · cases hx
 rw [zf] at hx; rw [hx]; exact h2
theorem oU (v : Wnt) (A B : Option Addr) (c d : Nat) (w : World) (hp : Rd w 1 A v.path.length (PI v.path)) (hpl : v.path.length ≤ 1000000) (hn : Rd w 1 B v.names.length (SB v.names)) (hnl : v.names.length ≤ 1000000) (hns : ∀ s ∈ v.names, s.length ≤ 100000) (hd : v.names.length ≤ d) :
  Calls Tryz.prog 13 #[.agg (WtC v A c B d)] w fun e w' => e = .returned (encStr (fU v)) ∧ Frm [] w w' := by
 refine jV Tryz.func13 Tryz.ntmps13 Tryz.results13 ?_
 refine jS (jR ?_)
 refine Ops.m (qV.box rfl) rfl ?_
 rintro _ w1 ⟨rfl, hF1⟩
 have hb : Blk w1 w.heap.size 47 (WtC v A c B d) := hF1.blk
 have hp := hp.frm hF1.frm jp
 have hn := hn.frm hF1.frm jp
 have K := hF1.frm
 obtain ⟨gw, hgw⟩ : ∃ gw, gw = w.heap.size := ⟨_, rfl⟩
 rw [← hgw] at hb ⊢
 refine ja rfl (jO (jN (jv1 1 ?_)))
 refine jS (jS (jR (je (Run.loadA rfl zao zn hb.cells (by first | rfl | (simp; done))) ?_)))
 refine jc (jE1 Tryz.call26) (gF v A B c d w1 hp hpl hn hnl (fun s hs => by have := hns s hs; omega)) ?_
 rintro e w2 ⟨rfl, hf2⟩
 refine ⟨_, rfl, ?_⟩
 have hb := hb.frm hf2 jp
 have hp := hp.frm hf2 jp
 have hn := hn.frm hf2 jp
 have K := K.trans hf2 jp
 refine je (Run.not rfl) (jO (jN (jv2 1 9 ?_)))
 refine VC.condB rfl (fun hc1 => ?_) (fun hc1 => ?_)
 ·
  have hno : ¬ bL v := by simpa using hc1
  refine jS (jR (ja rfl (jO (jN (jv1 2 ?_)))))
  refine jT ?_
  refine qZ (qN rfl ?_)
  exact ⟨by unfold fU; rw [if_neg hno], K⟩
 have hmw : bL v := by simpa using hc1
 have hp8 : v.path.length ≤ 8 ∧ ∀ n ∈ v.path, 1 ≤ n ∧ n ≤ 64 := by
  have h1 := hmw.1
  refine ⟨jo, fun n hn => ?_⟩
  have h2 : ¬ bW n := fun h => h1 (.inr ⟨n, hn, h⟩)
  unfold bW at h2
  omega
 refine jQ (jN (jv1 1 ?_))
 refine jS (jR (ja rfl (jO (jN (jS (jS (jR (jf rfl zi rfl zas (jl rfl zbp (hb.cell 0) (jL rfl zm ?_))))))))))
 refine jx .i64 0 ?_
 refine jO (jN (jv5 1 3 11 12 13 ?_))
 refine jB ?_
 refine VC.loop (σ := Nat × Option Addr × Nat) (fun s => [(1, jI0 gw), (3, .slice s.2.1 s.1 s.2.2), (11, .slice A v.path.length c), (12, jI1 v.path.length), (13, jI1 s.1)]) (fun s wr => s.1 ≤ v.path.length ∧ Own wr 9 1 s.2.1 s.1 s.2.2 (SB ((v.path.take s.1).map fun n => Lib.decDigits n.toNat)) ∧ Frm [] w2 wr ∧ ∀ x ∈ ob s.2.1, w2.heap.size ≤ x) (fun s => v.path.length - s.1) (0, none, 0) (js5 rfl rfl rfl rfl rfl) ⟨zba _, Own.nil _ _ _, Frm.refl _ _, by simp [ob]⟩ ?_
 rintro ⟨i, B1, d1⟩ wr ⟨hi, hB, Kr, hup⟩
 dsimp only at hi hB hup ⊢
 refine jS (jR (jb rfl rfl (Bin.lssN _ _) (jO (jN (jS ?_)))))
 refine jD rfl (fun hc2 => ?_) fun hc2 => ?_
 ·
  obtain ⟨ad, hA, hel⟩ := oX (hp.frm Kr jp) rfl hc2
  have hpn := hp8.2 _ (show v.path.getD i 0 ∈ v.path by rw [zr, zc hc2]; exact zap _)
  have htk : v.path.take (i + 1) = v.path.take i ++ [v.path.getD i 0] := by rw [zbc, zc hc2, zr, zc hc2]; rfl
  subst hA
  generalize v.path.getD i 0 = n at *
  refine jQ (jN (jv5 1 3 11 12 13 ?_))
  refine jS (jB (jS (jR (je (Run.index1 _ rfl rfl zm zd jo) (jl rfl zj hel (ja rfl (jO (jN (jv6 1 3 5 11 12 13 ?_)))))))))
  refine jR (jm rfl (jM ?_))
  refine jc0 (jE1 Tryz.call27) (oT n wr jo jo) ?_
  refine Ops.m (qV.buildS1 rfl zl zb nI jd jd rfl rfl) rfl ?_
  rintro _ w7 ⟨rfl, hF7⟩
  have hr7 : Rd w7 1 (some ⟨wr.heap.size, 0, none⟩) 1 (SB [Lib.decDigits n.toNat]) := Rd.of_blk (n := 1) (size := 1) hF7.blk rfl
  have K7 := Kr.trans hF7.frm jp
  refine Ops.m (qV.app rfl rfl zl (tJ) rfl jd (hB.frm hF7.frm jp) hr7 (pR _) jo jo) rfl ?_
  rintro _ w8 ⟨B8, d8, rfl, hB8, hf8, hob8⟩
  have e9 : SB ((v.path.take i).map fun n => Lib.decDigits n.toNat) ++ SB [Lib.decDigits n.toNat] = SB ((v.path.take (i + 1)).map fun n => Lib.decDigits n.toNat) := by rw [htk, List.map_append, lQ]; rfl
  rw [e9] at hB8
  have K8 := K7.own hf8 hup
  have hup8 : ∀ x ∈ ob B8, w2.heap.size ≤ x := lD hup hob8 K7.size
  refine ja rfl (jO ?_)
  refine qW (jN ?_)
  refine jv5 1 3 11 12 13 ?_
  refine jR (jb rfl rfl (Bin.add_i64 _ 1 jo) (jm rfl (jO ?_)))
  refine jN ⟨(i + 1, B8, d8), (js5 rfl rfl rfl rfl rfl), ?_, ?_⟩
  · exact ⟨hc2, hB8, K8, hup8⟩
  exact jq
 obtain rfl : i = v.path.length := jo
 rw [zay] at hB
 have hb5 := hb.frm Kr jp
 have hpl9 := mM hmw
 refine jX ?_
 refine qK (qK (qH ?_))
 refine jN (jv2 1 3 ?_)
 refine jS (jS (jR (jf rfl zi rfl zb (jl rfl zh (hb5.cell 1) (je (Run.neqT rfl rfl) (jO (jN (jv3 1 3 25 ?_))))))))
 refine VC.meet (σ := Option Addr × Nat × Nat) (fun s => [(1, jI0 gw), (3, .slice s.1 s.2.2 s.2.1)]) (fun s wm => s.2.2 = (cU v).length ∧ Own wm 9 1 s.1 s.2.2 s.2.1 (SB (cU v)) ∧ Frm [] w2 wm) ?_ ?_
 ·
  refine jD rfl (fun hc3 => ?_) fun hc3 => ?_
  ·
   refine jR (jm rfl (jf rfl zi rfl zb (jl rfl zh (hb5.cell 1) ?_)))
   refine Ops.m (qV.buildS1 rfl zl zb nI jd jd rfl rfl) rfl ?_
   rintro _ w7 ⟨rfl, hF7⟩
   have hr7 : Rd w7 1 (some ⟨wr.heap.size, 0, none⟩) 1 (SB [v.what]) := Rd.of_blk (n := 1) (size := 1) hF7.blk rfl
   refine Ops.m (qV.app rfl rfl zl (tJ) rfl jd (hB.frm hF7.frm jp) hr7 (pR _) jo jo) rfl ?_
   rintro _ w8 ⟨B8, d8, rfl, hB8, hf8, hob8⟩
   have e9 : SB (v.path.map fun n => Lib.decDigits n.toNat) ++ SB [v.what] = SB (cU v) := by unfold cU; rw [if_neg hc3, lQ]
   rw [e9] at hB8
   have K8 := (Kr.trans hF7.frm jp).own hf8 hup
   refine ja rfl (jO ?_)
   refine jN ⟨(B8, d8, v.path.length + 1), (js2 rfl rfl), ?_⟩
   exact ⟨by unfold cU; rw [if_neg hc3]; simp, hB8, K8⟩
  refine jQ ?_
  refine jN ⟨(B1, d1, v.path.length), (js2 rfl rfl), ?_⟩
  have hwe : v.what = [] := Classical.not_not.1 hc3
  exact ⟨by unfold cU; rw [if_pos hwe]; simp, by unfold cU; rw [if_pos hwe, List.append_nil]; exact hB, Kr⟩
 rintro ⟨B6, d6, m6⟩ w6 ⟨hm6, hB6, K6⟩ Γ hΓ
 dsimp only at hm6 hB6
 refine jN (VC.sub _ hΓ (jS (jR (jM ?_))))
 refine jc (jE2 Tryz.call28) (kW B6 m6 d6 (cU v) [46] w6 hm6.symm hB6.rd (hB6.le) jo (by have := dG [46] 100 (cU v) hpl9.2; simp at this; omega)) ?_
 rintro e w7 ⟨rfl, hf7⟩
 refine ⟨_, rfl, ?_⟩
 have K7 := K6.trans hf7 jp
 have hb7 := hb.frm K7 jp
 have hn7 := hn.frm K7 jp
 have Kf := K.trans K7 jp
 refine ja rfl (jO (jN (jv2 1 6 ?_)))
 refine jS (jS (jR (jf rfl zi rfl zab (jl rfl zal (hb7.cell 2) (jL rfl zl (jb rfl rfl (Bin.gtrN _ 0) (jO (jN (jv3 1 6 36 ?_)))))))))
 refine jD rfl (fun hc4 => ?_) fun hc4 => ?_
 ·
  have hne : ¬ v.names = [] := fun e => by rw [e] at hc4; simp at hc4
  have hn16 : v.names.length ≤ 16 := by have := hmw.2.1; omega
  refine jR (jm rfl (jf rfl zi rfl zab (jl rfl zal (hb7.cell 2) ?_)))
  refine jc (jE2 Tryz.call28) (kW B v.names.length d v.names [32] w7 rfl hn7 hd jo (by have := dG [32] 100000 v.names hns; have h2 : v.names.length * (100000 + [(32 : UInt8)].length) ≤ 16 * 100001 := zdn hn16 jp; omega)) ?_
  rintro e w8 ⟨rfl, hf8⟩
  refine ⟨_, rfl, ?_⟩
  have Kf := Kf.trans hf8 jp
  have hj1 : (Lib.join v.names [32]).length ≤ 16 * 100001 := zak (dG [32] 100000 v.names hns) (zdn hn16 jp)
  have hj2 : (Lib.join (cU v) [46]).length ≤ 9 * 101 := zak (dG [46] 100 (cU v) hpl9.2) (zdn hpl9.1 jp)
  refine je (Run.addT (a := [32, 40]) (b := Lib.join v.names [32]) rfl rfl (by simp; omega)) (je (Run.addT (a := [32, 40] ++ Lib.join v.names [32]) (b := [41]) rfl rfl (by simp; omega)) (je (Run.addT (a := Lib.join (cU v) [46]) (b := [32, 40] ++ Lib.join v.names [32] ++ [41]) rfl rfl (by simp; omega)) (ja rfl (jO (jN (jv1 6 ?_))))))
  refine jS (jR (jm rfl (ja rfl (jO (jN (jv1 2 ?_))))))
  refine jT ?_
  refine qN rfl ?_
  exact ⟨by unfold fU; rw [if_pos hmw, if_neg hne], Kf⟩
 have hne : v.names = [] := zai jo
 refine jQ (jN (jv1 6 ?_))
 refine jS (jR (jm rfl (ja rfl (jO (jN (jv1 2 ?_))))))
 refine jT ?_
 refine qN rfl ?_
 exact ⟨by unfold fU; rw [if_pos hmw, if_pos hne, List.append_nil], Kf⟩
structure ItM where
 kind : Int
 label : Tx
 w : Wnt
 peek : Bool
 part : Bool
 frm : Int
 n : Int
def it0 : ItM := ⟨0, [], bX, false, false, 0, 0⟩
def itC (x : ItM) (PA : Option Addr) (pc : Nat) (NA : Option Addr) (nc : Nat) : Array Value := #[.int .i64 x.kind, encStr x.label, .slice PA x.w.path.length pc, encStr x.w.what, .slice NA x.w.names.length nc, .bool x.peek, .bool x.part, .int .i64 x.frm, .int .i64 x.n]
theorem cW (x : ItM) (PA : Option Addr) (pc : Nat) (NA : Option Addr) (nc : Nat) : ∀ u ∈ (itC x PA pc NA nc).toList, u.oneCell' = true := by
 intro u hu
 simp only [itC, zs, zw, or_false] at hu
 rcases hu with rfl | rfl | rfl | rfl | rfl | rfl | rfl | rfl | rfl <;> rfl
def fZ (t : Tx) : Option ItM := if t = [70, 76, 65, 71, 83] then some ⟨0, [70, 76, 65, 71, 83], bX, false, false, 0, 0⟩ else if t = [85, 73, 68] then some ⟨1, [85, 73, 68], bX, false, false, 0, 0⟩ else if t = [73, 78, 84, 69, 82, 78, 65, 76, 68, 65, 84, 69] then some ⟨2, [73, 78, 84, 69, 82, 78, 65, 76, 68, 65, 84, 69], bX, false, false, 0, 0⟩ else if t = [82, 70, 67, 56, 50, 50, 46, 83, 73, 90, 69] then some ⟨3, [82, 70, 67, 56, 50, 50, 46, 83, 73, 90, 69], bX, false, false, 0, 0⟩ else if t = [69, 78, 86, 69, 76, 79, 80, 69] then some ⟨4, [69, 78, 86, 69, 76, 79, 80, 69], bX, false, false, 0, 0⟩ else if t = [66, 79, 68, 89] then some ⟨5, [66, 79, 68, 89], bX, false, false, 0, 0⟩ else if t = [66, 79, 68, 89, 83, 84, 82, 85, 67, 84, 85, 82, 69] then some ⟨5, [66, 79, 68, 89, 83, 84, 82, 85, 67, 84, 85, 82, 69], bX, false, false, 0, 0⟩ else if t = [82, 70, 67, 56, 50, 50] then some ⟨6, [82, 70, 67, 56, 50, 50], ⟨[], [], []⟩, false, false, 0, 0⟩ else if t = [82, 70, 67, 56, 50, 50, 46, 72, 69, 65, 68, 69, 82] then some ⟨6, [82, 70, 67, 56, 50, 50, 46, 72, 69, 65, 68, 69, 82], ⟨[], [72, 69, 65, 68, 69, 82], []⟩, true, false, 0, 0⟩ else if t = [82, 70, 67, 56, 50, 50, 46, 84, 69, 88, 84] then some ⟨6, [82, 70, 67, 56, 50, 50, 46, 84, 69, 88, 84], ⟨[], [84, 69, 88, 84], []⟩, false, false, 0, 0⟩ else none
theorem dP (a p : Tx) (w : World) : Calls Tryz.prog 146 #[encStr a, encStr p] w fun e w' => e = .returned (encStr (Lib.trimPrefix a p)) ∧ w = w' :=
 (Tryz.strings_TrimPrefix ⟨a.toArray⟩ ⟨p.toArray⟩ w).mono fun e w' ⟨h1, h2⟩ => ⟨h1, h2.symm⟩
theorem mL (t : Tx) (w : World) (hs : t.length ≤ 1000000) : Calls Tryz.prog 104 #[encStr t] w fun e w' => e = .returned (.tuple #[.agg (itC ((fZ t).getD it0) none 0 none 0), .bool (fZ t).isSome]) ∧ Frm [] w w' := by
 refine jV Tryz.func104 Tryz.ntmps104 Tryz.results104 ?_
 refine jS (jR ?_)
 refine Ops.m (qV.alloc cS) rfl ?_
 rintro _ w1 ⟨rfl, hF1⟩
 obtain ⟨g2, hg2⟩ : ∃ g2, g2 = w.heap.size := ⟨_, rfl⟩
 have hz2 : Blk w1 g2 54 (itC it0 none 0 none 0) := by rw [hg2]; exact hF1.blk
 rw [← hg2]
 refine ja rfl (jO (jN (jv2 0 2 ?_)))
 refine jS (jR (jm rfl (je (Run.build (evs.cons rfl evs.nil) cS (dD).choose_spec.1 (dD).choose_spec.2 (cells := itC ⟨0, t, bX, false, false, 0, 0⟩ none 0 none 0) rfl) ?_)))
 refine Ops.m (qV.alloc cS) rfl ?_
 rintro _ w2 ⟨rfl, hF2⟩
 obtain ⟨gx, hgx⟩ : ∃ gx, gx = w1.heap.size := ⟨_, rfl⟩
 have hbx : Blk w2 gx 54 (itC it0 none 0 none 0) := by rw [hgx]; exact hF2.blk
 have hz2 := hz2.frm hF2.frm jp
 have q1 := hF1.frm.size
 have hgg : g2 ≠ gx := by have := hF1.size; omega
 rw [← hgx]
 refine Ops.st (qQ.storeA rfl rfl zv hbx rfl (cW _ _ _ _ _)) ?_
 rintro w3 ⟨hb, hf3, hs3⟩
 have hz2 := hz2.frm hf3 (by simp; exact hgg)
 have K3 : Frm [] w w3 := (hF1.frm.trans hF2.frm jp).own hf3 (by simp; omega)
 refine jO (jN (jv3 0 2 4 ?_))
 refine jS (jS (jR (jm rfl (jO (jN (jB (jS (jR (je (Run.eqlT rfl rfl) (ja rfl (jO (jN (jv5 0 2 4 7 9 ?_)))))))))))))
 refine VC.meet (σ := ItM) (fun s => [(2, jI0 g2), (4, jI0 gx)]) (fun s wm => fZ t = some s ∧ Blk wm gx 54 (itC s none 0 none 0) ∧ Blk wm g2 54 (itC it0 none 0 none 0) ∧ Frm [] w wm) ?_ ?_
 ·
  refine jD rfl (fun hc1 => ?_) fun hc1 => ?_
  ·
   subst hc1
   refine jR (jf rfl zg rfl zd ?_)
   refine Ops.st (qQ.store (i := 0) (v := .int .i64 0) rfl rfl zd hb rfl rfl) ?_
   rintro w4 ⟨hb4, hf4, hs4⟩
   have hz4 := hz2.frm hf4 (by simp; exact hgg)
   have K4 := K3.own hf4 (by simp; omega)
   refine jO ?_
   refine jN ⟨⟨0, [70, 76, 65, 71, 83], bX, false, false, 0, 0⟩, (js2 rfl rfl), ?_⟩
   exact ⟨rfl, hb4, hz4, K4⟩
  refine jS (jR (je (Run.eqlT rfl rfl) (ja rfl (jO (jN (jv5 0 2 4 7 12 ?_))))))
  refine jD rfl (fun hc2 => ?_) fun hc2 => ?_
  ·
   subst hc2
   refine jR (jf rfl zg rfl zd ?_)
   refine Ops.st (qQ.store (i := 0) (v := .int .i64 1) rfl rfl zd hb rfl rfl) ?_
   rintro w4 ⟨hb4, hf4, hs4⟩
   have hz4 := hz2.frm hf4 (by simp; exact hgg)
   have K4 := K3.own hf4 (by simp; omega)
   refine jO ?_
   refine jN ⟨⟨1, [85, 73, 68], bX, false, false, 0, 0⟩, (js2 rfl rfl), ?_⟩
   exact ⟨rfl, hb4, hz4, K4⟩
  refine jS (jR (je (Run.eqlT rfl rfl) (ja rfl (jO (jN (jv5 0 2 4 7 15 ?_))))))
  refine jD rfl (fun hc3 => ?_) fun hc3 => ?_
  ·
   subst hc3
   refine jR (jf rfl zg rfl zd ?_)
   refine Ops.st (qQ.store (i := 0) (v := .int .i64 2) rfl rfl zd hb rfl rfl) ?_
   rintro w4 ⟨hb4, hf4, hs4⟩
   have hz4 := hz2.frm hf4 (by simp; exact hgg)
   have K4 := K3.own hf4 (by simp; omega)
   refine jO ?_
   refine jN ⟨⟨2, [73, 78, 84, 69, 82, 78, 65, 76, 68, 65, 84, 69], bX, false, false, 0, 0⟩, (js2 rfl rfl), ?_⟩
   exact ⟨rfl, hb4, hz4, K4⟩
  refine jS (jR (je (Run.eqlT rfl rfl) (ja rfl (jO (jN (jv5 0 2 4 7 18 ?_))))))
  refine jD rfl (fun hc4 => ?_) fun hc4 => ?_
  ·
   subst hc4
   refine jR (jf rfl zg rfl zd ?_)
   refine Ops.st (qQ.store (i := 0) (v := .int .i64 3) rfl rfl zd hb rfl rfl) ?_
   rintro w4 ⟨hb4, hf4, hs4⟩
   have hz4 := hz2.frm hf4 (by simp; exact hgg)
   have K4 := K3.own hf4 (by simp; omega)
   refine jO ?_
   refine jN ⟨⟨3, [82, 70, 67, 56, 50, 50, 46, 83, 73, 90, 69], bX, false, false, 0, 0⟩, (js2 rfl rfl), ?_⟩
   exact ⟨rfl, hb4, hz4, K4⟩
  refine jS (jR (je (Run.eqlT rfl rfl) (ja rfl (jO (jN (jv5 0 2 4 7 21 ?_))))))
  refine jD rfl (fun hc5 => ?_) fun hc5 => ?_
  ·
   subst hc5
   refine jR (jf rfl zg rfl zd ?_)
   refine Ops.st (qQ.store (i := 0) (v := .int .i64 4) rfl rfl zd hb rfl rfl) ?_
   rintro w4 ⟨hb4, hf4, hs4⟩
   have hz4 := hz2.frm hf4 (by simp; exact hgg)
   have K4 := K3.own hf4 (by simp; omega)
   refine jO ?_
   refine jN ⟨⟨4, [69, 78, 86, 69, 76, 79, 80, 69], bX, false, false, 0, 0⟩, (js2 rfl rfl), ?_⟩
   exact ⟨rfl, hb4, hz4, K4⟩
  refine jS (jS (jR (je (Run.eqlT rfl rfl) (ja rfl (jO (jN (jv5 0 2 4 7 24 ?_)))))))
  refine jD rfl (fun hc6 => ?_) fun hc6 => ?_
  ·
   subst hc6
   refine jQ (jN ?_)
   refine VC.condT rfl (rfl) ?_
   refine jR (jf rfl zg rfl zd ?_)
   refine Ops.st (qQ.store (i := 0) (v := .int .i64 5) rfl rfl zd hb rfl rfl) ?_
   rintro w4 ⟨hb4, hf4, hs4⟩
   have hz4 := hz2.frm hf4 (by simp; exact hgg)
   have K4 := K3.own hf4 (by simp; omega)
   refine jO ?_
   refine jN ⟨⟨5, [66, 79, 68, 89], bX, false, false, 0, 0⟩, (js2 rfl rfl), ?_⟩
   exact ⟨rfl, hb4, hz4, K4⟩
  refine jR (je (Run.eqlT rfl rfl) (ja rfl (jO (jN (jv5 0 2 4 7 24 ?_)))))
  refine jD rfl (fun hc7 => ?_) fun hc7 => ?_
  ·
   subst hc7
   refine jR (jf rfl zg rfl zd ?_)
   refine Ops.st (qQ.store (i := 0) (v := .int .i64 5) rfl rfl zd hb rfl rfl) ?_
   rintro w4 ⟨hb4, hf4, hs4⟩
   have hz4 := hz2.frm hf4 (by simp; exact hgg)
   have K4 := K3.own hf4 (by simp; omega)
   refine jO ?_
   refine jN ⟨⟨5, [66, 79, 68, 89, 83, 84, 82, 85, 67, 84, 85, 82, 69], bX, false, false, 0, 0⟩, (js2 rfl rfl), ?_⟩
   exact ⟨rfl, hb4, hz4, K4⟩
  refine jS (jS (jR (je (Run.eqlT rfl rfl) (ja rfl (jO (jN (jv5 0 2 4 7 28 ?_)))))))
  refine jD rfl (fun hc8 => ?_) fun hc8 => ?_
  ·
   subst hc8
   refine jQ (jN (jv4 0 2 4 28 ?_))
   refine VC.condT rfl (rfl) ?_
   refine jS (jR (jf rfl zg rfl zd ?_))
   refine Ops.st (qQ.store (i := 0) (v := .int .i64 6) rfl rfl zd hb rfl rfl) ?_
   rintro w4 ⟨hb4, hf4, hs4⟩
   have hz4 := hz2.frm hf4 (by simp; exact hgg)
   have K4 := K3.own hf4 (by simp; omega)
   refine jO (jN (jv3 0 2 4 ?_))
   refine jS (jR (jM ?_))
   refine jc0 (jE2 zdd) (dP [82, 70, 67, 56, 50, 50] [82, 70, 67, 56, 50, 50] _) ?_
   rw [show Lib.trimPrefix [82, 70, 67, 56, 50, 50] [82, 70, 67, 56, 50, 50] = [] by decide]
   refine jc0 (jE2 zdd) (dP [] [46] _) ?_
   rw [show Lib.trimPrefix [] [46] = [] by decide]
   refine jf rfl zg rfl zn (jf rfl zi rfl zb ?_)
   refine Ops.st (qQ.store (i := 3) (v := encStr []) rfl rfl zb hb4 rfl rfl) ?_
   rintro w5 ⟨hb5, hf5, hs5⟩
   have hf5 : Frm [gx] w4 w5 := hf5
   have hz5 := hz4.frm hf5 (by simp; exact hgg)
   have K5 := K4.own hf5 (by simp; omega)
   refine jO (jN (jv3 0 2 4 ?_))
   refine jR (jm rfl (je (Run.eqlT rfl rfl) (jf rfl zg rfl zk ?_)))
   refine Ops.st (qQ.store (i := 5) (v := .bool false) rfl rfl zk hb5 rfl rfl) ?_
   rintro w6 ⟨hb6, hf6, hs6⟩
   have hz6 := hz5.frm hf6 (by simp; exact hgg)
   have K6 := K5.own hf6 (by simp; omega)
   refine jO ?_
   refine jN ⟨⟨6, [82, 70, 67, 56, 50, 50], ⟨[], [], []⟩, false, false, 0, 0⟩, (js2 rfl rfl), ?_⟩
   exact ⟨rfl, hb6, hz6, K6⟩
  refine jS (jR (je (Run.eqlT rfl rfl) (ja rfl (jO (jN (jv5 0 2 4 7 28 ?_))))))
  refine jD rfl (fun hc9 => ?_) fun hc9 => ?_
  ·
   subst hc9
   refine jQ (jN (jv4 0 2 4 28 ?_))
   refine VC.condT rfl (rfl) ?_
   refine jS (jR (jf rfl zg rfl zd ?_))
   refine Ops.st (qQ.store (i := 0) (v := .int .i64 6) rfl rfl zd hb rfl rfl) ?_
   rintro w4 ⟨hb4, hf4, hs4⟩
   have hz4 := hz2.frm hf4 (by simp; exact hgg)
   have K4 := K3.own hf4 (by simp; omega)
   refine jO (jN (jv3 0 2 4 ?_))
   refine jS (jR (jM ?_))
   refine jc0 (jE2 zdd) (dP [82, 70, 67, 56, 50, 50, 46, 72, 69, 65, 68, 69, 82] [82, 70, 67, 56, 50, 50] _) ?_
   rw [show Lib.trimPrefix [82, 70, 67, 56, 50, 50, 46, 72, 69, 65, 68, 69, 82] [82, 70, 67, 56, 50, 50] = [46, 72, 69, 65, 68, 69, 82] by decide]
   refine jc0 (jE2 zdd) (dP [46, 72, 69, 65, 68, 69, 82] [46] _) ?_
   rw [show Lib.trimPrefix [46, 72, 69, 65, 68, 69, 82] [46] = [72, 69, 65, 68, 69, 82] by decide]
   refine jf rfl zg rfl zn (jf rfl zi rfl zb ?_)
   refine Ops.st (qQ.store (i := 3) (v := encStr [72, 69, 65, 68, 69, 82]) rfl rfl zb hb4 rfl rfl) ?_
   rintro w5 ⟨hb5, hf5, hs5⟩
   have hf5 : Frm [gx] w4 w5 := hf5
   have hz5 := hz4.frm hf5 (by simp; exact hgg)
   have K5 := K4.own hf5 (by simp; omega)
   refine jO (jN (jv3 0 2 4 ?_))
   refine jR (jm rfl (je (Run.eqlT rfl rfl) (jf rfl zg rfl zk ?_)))
   refine Ops.st (qQ.store (i := 5) (v := .bool true) rfl rfl zk hb5 rfl rfl) ?_
   rintro w6 ⟨hb6, hf6, hs6⟩
   have hz6 := hz5.frm hf6 (by simp; exact hgg)
   have K6 := K5.own hf6 (by simp; omega)
   refine jO ?_
   refine jN ⟨⟨6, [82, 70, 67, 56, 50, 50, 46, 72, 69, 65, 68, 69, 82], ⟨[], [72, 69, 65, 68, 69, 82], []⟩, true, false, 0, 0⟩, (js2 rfl rfl), ?_⟩
   exact ⟨rfl, hb6, hz6, K6⟩
  refine jR (je (Run.eqlT rfl rfl) (ja rfl (jO (jN (jv4 0 2 4 28 ?_)))))
  refine jD rfl (fun hc10 => ?_) fun hc10 => ?_
  ·
   subst hc10
   refine jS (jR (jf rfl zg rfl zd ?_))
   refine Ops.st (qQ.store (i := 0) (v := .int .i64 6) rfl rfl zd hb rfl rfl) ?_
   rintro w4 ⟨hb4, hf4, hs4⟩
   have hz4 := hz2.frm hf4 (by simp; exact hgg)
   have K4 := K3.own hf4 (by simp; omega)
   refine jO (jN (jv3 0 2 4 ?_))
   refine jS (jR (jM ?_))
   refine jc0 (jE2 zdd) (dP [82, 70, 67, 56, 50, 50, 46, 84, 69, 88, 84] [82, 70, 67, 56, 50, 50] _) ?_
   rw [show Lib.trimPrefix [82, 70, 67, 56, 50, 50, 46, 84, 69, 88, 84] [82, 70, 67, 56, 50, 50] = [46, 84, 69, 88, 84] by decide]
   refine jc0 (jE2 zdd) (dP [46, 84, 69, 88, 84] [46] _) ?_
   rw [show Lib.trimPrefix [46, 84, 69, 88, 84] [46] = [84, 69, 88, 84] by decide]
   refine jf rfl zg rfl zn (jf rfl zi rfl zb ?_)
   refine Ops.st (qQ.store (i := 3) (v := encStr [84, 69, 88, 84]) rfl rfl zb hb4 rfl rfl) ?_
   rintro w5 ⟨hb5, hf5, hs5⟩
   have hf5 : Frm [gx] w4 w5 := hf5
   have hz5 := hz4.frm hf5 (by simp; exact hgg)
   have K5 := K4.own hf5 (by simp; omega)
   refine jO (jN (jv3 0 2 4 ?_))
   refine jR (jm rfl (je (Run.eqlT rfl rfl) (jf rfl zg rfl zk ?_)))
   refine Ops.st (qQ.store (i := 5) (v := .bool false) rfl rfl zk hb5 rfl rfl) ?_
   rintro w6 ⟨hb6, hf6, hs6⟩
   have hz6 := hz5.frm hf6 (by simp; exact hgg)
   have K6 := K5.own hf6 (by simp; omega)
   refine jO ?_
   refine jN ⟨⟨6, [82, 70, 67, 56, 50, 50, 46, 84, 69, 88, 84], ⟨[], [84, 69, 88, 84], []⟩, false, false, 0, 0⟩, (js2 rfl rfl), ?_⟩
   exact ⟨rfl, hb6, hz6, K6⟩
  refine jS (jR (je (Run.build evs.nil cS (dD).choose_spec.1 (dD).choose_spec.2 (cells := itC it0 none 0 none 0) rfl) ?_))
  refine Ops.st (qQ.storeA rfl rfl zv hz2 rfl (cW it0 none 0 none 0)) ?_
  rintro w4 ⟨hb4, hf4, hs4⟩
  have K4 := K3.own hf4 (by simp; omega)
  refine ja rfl (jO (jN (jv2 2 3 ?_)))
  refine jT ?_
  refine qZ (qR (qZ (bA ?_)))
  refine qO rfl zbx zv (hb4.cells) (by first | rfl | (simp; done) | (simp [*]; done)) ?_
  refine bT rfl ?_
  refine bK ?_
  have hno : fZ t = none := by unfold fZ; rw [if_neg hc1, if_neg hc2, if_neg hc3, if_neg hc4, if_neg hc5, if_neg hc6, if_neg hc7, if_neg hc8, if_neg hc9, if_neg hc10]
  exact ⟨by rw [hno]; rfl, K4⟩
 rintro x wm ⟨hx, hbm, hzm, Km⟩ Γ hΓ
 refine qW (jN (VC.sub _ hΓ ?_))
 refine jS (jR (je (Run.loadA rfl zbx zv hbm.cells (by first | rfl | (simp; done))) ?_))
 refine Ops.st (qQ.storeA rfl rfl zv hzm rfl (cW _ _ _ _ _)) ?_
 rintro w4 ⟨hb4, hf4, hs4⟩
 have K4 := Km.own hf4 (by simp; omega)
 refine ja rfl (jO (jN (jv2 2 3 ?_)))
 refine jT ?_
 refine bA ?_
 refine qO rfl zbx zv (hb4.cells) (by first | rfl | (simp; done) | (simp [*]; done)) ?_
 refine bT rfl ?_
 refine bK ?_
 exact ⟨by rw [hx]; rfl, K4⟩
noncomputable def gI (tk : List Tk) (q : Nat) : Option (List Sp) := (qD tk q [0]).bind fun s => if gW s = 0 then some (dU s) else none
theorem rW (gp gc : Nat) (A : Option Addr) (n c : Nat) (tk : List Tk) (q : Nat) (cs : Array Value) (w : World) (hP : IsCp w gp gc A n c tk q cs) (hl : ∀ x ∈ tk, x.2.length ≤ 1000000) : Calls Tryz.prog 69 #[jI0 gp] w fun e w' => Frm [gp] w w' ∧ match gI tk q with
   | none => e = .panicked dV
   | some l => ∃ B d, e = .returned (.slice B l.length d) ∧ IsCp w' gp gc A n c tk (q + 1) cs ∧ Own w' 96 2 B l.length d (SC l) ∧ ∀ x ∈ ob B, w.heap.size ≤ x := by
 refine jV Tryz.func69 Tryz.ntmps69 Tryz.results69 ?_
 refine jS (jR (ja rfl (jO (jN (jv1 0 ?_)))))
 refine jS (jR (jM ?_))
 refine Ops.m (qV.buildS1 rfl zm zd eF jd jd rfl rfl) rfl ?_
 rintro _ w1 ⟨rfl, hF1⟩
 have hK1 : Rd w1 1 (some ⟨w.heap.size, 0, none⟩) 1 (IB [0]) := Rd.of_blk (n := 1) (size := 1) hF1.blk rfl
 have hPl := hP.lt
 refine Ops.clp (jE2 Tryz.call31) (cE (some ⟨w.heap.size, 0, none⟩) 1 1 [0] gp gc A n c tk q cs w1 (hP.frm hF1.frm) rfl jo hK1 (fun _ x hx => by simp [ob] at hx; omega)) rfl ?_
 rintro e w2 ⟨hf2, he⟩
 rcases hT2 : qD tk q [0] with _ | s
 ·
  rw [hT2] at he
  exact .inr ⟨_, he, qB (bQ ⟨(hF1.frm.mono jp).trans hf2 (fun x hx => .inl hx), by simp [gI, hT2]⟩)⟩
 rw [hT2] at he
 obtain ⟨rfl, hP2⟩ := he
 refine .inl ⟨_, rfl, ?_⟩
 refine jc (jE1 Tryz.call100) (oP s w2 (eR hT2 hl)) ?_
 rintro e w3 ⟨hf3, B, d, rfl, hoB, hupB⟩
 refine ⟨_, rfl, ?_⟩
 have hP3 := hP2.frm hf3
 have K3 : Frm [gp] w w3 := ((hF1.frm.mono jp).trans hf2 (fun x hx => .inl hx)).trans hf3 jp
 have hsz := hF1.frm.size
 have hsz2 := hf2.size
 refine jm rfl (jY rfl rfl (jY rfl rfl (ja rfl (ja rfl (jO (jN (jv2 3 4 ?_)))))))
 refine jS (jR (jm rfl (jb rfl rfl (Bin.eql _ 0) ?_)))
 refine Ops.clp (jE1 zbe) (bH (decide (gW s = 0)) w3) rfl ?_
 rintro e _ ⟨rfl, he⟩
 by_cases hpe : gW s = 0
 rotate_left
 ·
  rw [decide_eq_false hpe] at he
  exact .inr ⟨_, he, qB (bQ ⟨K3, by simp [gI, hT2, hpe]⟩)⟩
 rw [decide_eq_true hpe] at he
 refine .inl ⟨_, he, ?_⟩
 refine jO (jN (jv1 3 ?_))
 refine jS (jR (jm rfl (ja rfl (jO (jN (jv1 2 ?_))))))
 refine jT ?_
 refine qN rfl ?_
 refine ⟨K3, ?_⟩
 rw [show gI tk q = some (dU s) by simp [gI, hT2, hpe]]
 exact ⟨B, d, rfl, hP3, hoB, fun x hx => by have := hupB x hx; omega⟩
def gN (tk : List Tk) (R : Nat → Nat → Option Nat) (least most : Nat) : Nat → Nat → Nat → Option (Nat × Nat)
 | 0, _, _ => none
 | k + 1, j, q => if IsT tk q 3 then (if least ≤ j then some (q, j) else none) else if j < most then (R j q).bind fun q2 => gN tk R least most k (j + 1) q2 else none
def eO (tk : List Tk) (R : Nat → Nat → Option Nat) (least most q : Nat) : Option (Nat × Nat) := (qD tk q [2]).bind fun _ => gN tk R least most (most + 1) 0 (q + 1)
theorem oB (f : Nat) (us : List Value) (least most : Nat) (R : Nat → Nat → Option Nat) (X : Nat → World → Nat → Array Value → Prop) (w0 : World) (gp gc : Nat) (A : Option Addr) (n c : Nat) (tk : List Tk) (q : Nat) (cs : Array Value) (w : World) (hP : IsCp w gp gc A n c tk q cs) (hK : Frm [gp, gc] w0 w) (hmo : most ≤ 1000000) (hle : least ≤ 1000000)
  (hf : ∀ args w, (callFunc f args).run Tryz.prog w = .ok (.enter f args) w) (hX0 : ∀ W, Frm [gp] w W → IsCp W gp gc A n c tk (q + 1) cs → X 0 W (q + 1) cs) (hX : ∀ j W q cs, X j W q cs → IsCp W gp gc A n c tk q cs ∧ Frm [gp, gc] w0 W) (hXf : ∀ j W W' q cs, X j W q cs → Frm [] W W' → X j W' q cs)
  (hone : ∀ j W q cs, j < most → ¬ IsT tk q 3 → X j W q cs → Calls Tryz.prog f us.toArray W fun e w' => match R j q with
   | none => e = .panicked dV ∧ Frm [gp, gc] w0 w'
   | some q2 => e = .returned (.tuple #[]) ∧ ∃ cs2, X (j + 1) w' q2 cs2) :
  Calls Tryz.prog 62 #[jI0 gp, jI1 least, jI1 most, .func (.func f) ([] : List Value).toArray us.toArray] w fun e w' => match eO tk R least most q with
   | none => e = .panicked dV ∧ Frm [gp, gc] w0 w'
   | some (q2, j) => e = .returned (.tuple #[]) ∧ ∃ cs2 W1, X j W1 q2 cs2 ∧ Frm [gp] W1 w' ∧ IsCp w' gp gc A n c tk (q2 + 1) cs2 := by
 refine jV Tryz.func62 Tryz.ntmps62 Tryz.results62 ?_
 refine jS (jR (jM ?_))
 refine Ops.m (qV.buildS1 rfl zm zd eF jd jd rfl rfl) rfl ?_
 rintro _ w1 ⟨rfl, hF1⟩
 have hK1 : Rd w1 1 (some ⟨w.heap.size, 0, none⟩) 1 (IB [2]) := Rd.of_blk (n := 1) (size := 1) hF1.blk rfl
 have hPl := hP.lt
 refine Ops.clp (jE2 Tryz.call31) (cE (some ⟨w.heap.size, 0, none⟩) 1 1 [2] gp gc A n c tk q cs w1 (hP.frm hF1.frm) rfl jo hK1 (fun _ x hx => by simp [ob] at hx; omega)) rfl ?_
 rintro e w2 ⟨hf2, he⟩
 rcases hT2 : qD tk q [2] with _ | s
 ·
  rw [hT2] at he
  exact .inr ⟨_, he, qB (bQ (by rw [show eO tk R least most q = none by simp [eO, hT2]]; exact ⟨rfl, (hK.trans hF1.frm jp).trans hf2 (fun x hx => .inl (by simp at hx; simp [hx]))⟩))⟩
 rw [hT2] at he
 obtain ⟨rfl, hP2⟩ := he
 refine .inl ⟨_, rfl, ?_⟩
 have hX2 := hX0 w2 ((hF1.frm.mono jp).trans hf2 (fun x hx => .inl hx)) hP2
 obtain ⟨G, hG⟩ : ∃ G, eO tk R least most q = G := ⟨_, rfl⟩
 rw [hG]
 have hG0 : gN tk R least most (most + 1) 0 (q + 1) = G := by rw [← hG]; simp [eO, hT2]
 refine jO (jN (jv4 0 1 2 3 ?_))
 refine jS (jR (jz 0 (jO (jN (jS (jB ?_))))))
 refine VC.loop (σ := Nat × Nat × Array Value) (fun s => [(0, jI0 gp), (1, jI1 least), (2, jI1 most), (3, .func (.func f) ([] : List Value).toArray us.toArray), (8, jI1 s.1)]) (fun s wr => s.1 ≤ most ∧ gN tk R least most (most + 1 - s.1) s.1 s.2.1 = G ∧ X s.1 wr s.2.1 s.2.2) (fun s => most - s.1) (0, q + 1, cs) (js5 rfl rfl rfl rfl rfl) ⟨zba _, hG0, hX2⟩ ?_
 clear hG0 hX2
 rintro ⟨j, q1, cs1⟩ wr ⟨hj, hGj, hXj⟩
 dsimp only at hj hGj hXj ⊢
 obtain ⟨hPj, hKj⟩ := hX _ _ _ _ hXj
 rw [show most + 1 - j = (most - j) + 1 by omega, gN] at hGj
 refine jS (jS (jR (jM ?_)))
 refine jc (jE3 Tryz.call61) (gB 0 3 gp gc A n c tk q1 cs1 wr hPj jo) ?_
 rintro e w3 ⟨hf3, rfl⟩
 refine ⟨_, rfl, ?_⟩
 have hXj := hXf _ _ _ _ _ hXj hf3
 obtain ⟨hPj, hKj⟩ := hX _ _ _ _ hXj
 rw [Nat.add_zero]
 refine je (Run.not rfl) (jO (jN (jv6 0 1 2 3 8 14 ?_)))
 refine VC.condB rfl (fun hc1 => ?_) (fun hc1 => ?_)
 ·
  have hni : ¬ IsT tk q1 3 := by simpa using hc1
  rw [if_neg hni] at hGj
  refine jQ (jN (jv5 0 1 2 3 8 ?_))
  refine jS (jB (jS (jR (jm rfl (jm rfl (jb rfl rfl (Bin.lssN _ _) ?_))))))
  refine Ops.clp (jE1 zbe) (bH (decide (j < most)) w3) rfl ?_
  rintro e _ ⟨rfl, he⟩
  by_cases hjm : j < most
  rotate_left
  ·
   rw [decide_eq_false hjm] at he
   rw [if_neg hjm] at hGj
   subst hGj
   exact .inr ⟨_, he, qB (eT (qB (qB (eT (qB (bQ ⟨rfl, hKj⟩))))))⟩
  rw [decide_eq_true hjm] at he
  rw [if_pos hjm] at hGj
  refine .inl ⟨_, he, ?_⟩
  refine jO (jN (jv5 0 1 2 3 8 ?_))
  refine jR (jM ?_)
  refine Ops.clp (qI.dyn rfl evs.nil hf) (hone j w3 q1 cs1 hjm hni hXj) rfl ?_
  rintro e w4 he
  rcases hR : R j q1 with _ | q2
  ·
   rw [hR] at he hGj
   have hGj : none = G := hGj
   subst hGj
   exact .inr ⟨_, he.1, eT (qB (qB (eT (qB (bQ ⟨rfl, he.2⟩)))))⟩
  rw [hR] at he hGj
  obtain ⟨rfl, cs2, hX4⟩ := he
  have hGj : gN tk R least most (most - j) (j + 1) q2 = G := hGj
  refine .inl ⟨_, rfl, ?_⟩
  refine jO ?_
  refine qW (jN ?_)
  refine jv5 0 1 2 3 8 ?_
  refine jR (jm rfl (jb rfl rfl (Bin.add_i64 _ 1 jo) (ja rfl (jO ?_))))
  refine jN ⟨(j + 1, q2, cs2), (js5 rfl rfl rfl rfl rfl), ?_, ?_⟩
  · exact ⟨hjm, by dsimp only; rw [show most + 1 - (j + 1) = most - j by omega]; exact hGj, hX4⟩
  exact jq
 have hni : IsT tk q1 3 := by simpa using hc1
 rw [if_pos hni] at hGj
 have hbg := hPj.big
 have hle1 := hPj.le
 refine jX ?_
 refine qK (qK (qH ?_))
 refine jN (jv3 0 1 8 ?_)
 refine jS (jR (jm rfl (jZ rfl (jf rfl zo rfl zd (jl rfl zj (hPj.p.cell 1) (jb rfl rfl (Bin.add_i64 _ 1 jo) (jZ rfl (jf rfl zo rfl zd ?_))))))))
 refine Ops.st (qQ.store rfl rfl zd hPj.p rfl rfl) ?_
 rintro w4 ⟨hb4, hf4, hs4⟩
 have hf4 : Frm [gp] w3 w4 := hf4
 have hni2 : q1 < n := by have := hni.1; rw [hPj.tk.len] at this; exact this
 have hP4 : IsCp w4 gp gc A n c tk (q1 + 1) cs1 := hPj.step hb4 hf4 jo
 refine jO (jN (jv2 1 8 ?_))
 refine jR (jm rfl (jm rfl (jb rfl rfl (Bin.geqN _ _) ?_)))
 refine Ops.clp (jE1 zbe) (bH (decide (least ≤ j)) w4) rfl ?_
 rintro e _ ⟨rfl, he⟩
 by_cases hlj : least ≤ j
 rotate_left
 ·
  rw [decide_eq_false hlj] at he
  rw [if_neg hlj] at hGj
  subst hGj
  exact .inr ⟨_, he, bQ ⟨rfl, hKj.trans hf4 (fun x hx => .inl (by simp at hx; simp [hx]))⟩⟩
 rw [decide_eq_true hlj] at he
 rw [if_pos hlj] at hGj
 subst hGj
 refine .inl ⟨_, he, ?_⟩
 refine jO ?_
 refine dS ?_
 exact ⟨rfl, cs1, w3, hXj, hf4, hP4⟩
end
section
open Go.RowKit Go.Sort
section
variable {P : Program} {Γ : Env} {w : World} {dst : Option Tmp} {T : TypeId} {pos : String} {after : Array Edge} {g : Option (Nat × Bool)}
theorem qQ.storeAt {t e : TypeId} {x y : Operand} {gb i : Nat} {cs vs : Array Value} (hx : ev? Γ x = some (.pointer (some ⟨gb, i, none⟩))) (hy : ev? Γ y = some (.agg vs))
  (hz : ∀ w, (sizeOf t).run P w = .ok vs.size w) (hb : Blk w gb e cs) (hs : i + vs.size ≤ cs.size) (h1 : ∀ v ∈ vs.toList, v.oneCell' = true) :
  qQ P ⟨dst, .store t x y, T, pos, after, g⟩ Γ w (fun w' => Blk w' gb e (cs.toList.take i ++ vs.toList ++ cs.toList.drop (i + vs.toList.length)).toArray ∧ Frm [gb] w w' ∧ w'.heap.size = w.heap.size) := fun ρ hρ => by
 have hr := run_storeCells_at (P := P) gb i e vs.toList 0 cs w hb (by simp; omega) h1
 simp only [Nat.add_zero] at hr
 refine ⟨w.setRow gb (cs.toList.take i ++ vs.toList ++ cs.toList.drop (i + vs.toList.length)).toArray, ?_, setRow_heap w gb cs _ e (0, 0) hb, ⟨rfl, rfl, rfl, by simp [World.setRow], fun k _ hS => setRow_other w gb k _ (by simpa using hS)⟩, by simp [World.setRow]⟩
 simp only [execOp, Instr.storeAt, Instr.sureAddr, storeVar, hρ _ _ hx, hρ _ _ hy, Value.cells, Sem.run_bind, Sem.run_pure, Result.andThen_ok, hz, ne_eq, not_true_eq_false, if_false, Sem.run_ite, hr]
end
end
end Go.Proofs.YtjklfpccmaljjaaGreatDoor
