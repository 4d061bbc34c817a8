/-
  Lemmas on the way, joined: HotU, HotM, HotT, HotN, HotS, HotR, HotG, HotO, HotD, HotB, HotF, HotI, HotL, HotK, HotH, HotE, HotX, HotY, HotZ, HotJ.
-/
import Derived.Lib.Overlaps
import Derived.Test.YtoniopdkbeogjaaGreatPk2
set_option maxRecDepth 100000
set_option linter.unusedVariables false
set_option linter.unusedSimpArgs false
namespace Go.Proofs.YtoniopdkbeogjaaGreat
section
open Go.RowKit
theorem uE (l : List Pr) : (PC2 l).length = l.length * 2 := by rw [PC2, lG prC 2 eA]
theorem jV (a b : List Pr) : PC2 (a ++ b) = PC2 a ++ PC2 b := by simp [PC2]
theorem oU (l : List Pr) (i : Nat) (_ : i ≤ l.length) : (PC2 l).take (i * 2) = PC2 (l.take i) := (rD l i).1
theorem yG (l : List Pr) (i : Nat) (_ : i ≤ l.length) : (PC2 l).drop (i * 2) = PC2 (l.drop i) := (rD l i).2
theorem qQd (A : Option Addr) (c : Nat) (l : List Pr) (w : World) (hl : Rd w 2 A l.length (PC2 l)) (hn : l.length ≤ 1000000) :
  Calls Tryz.prog 102 #[.slice A l.length c] w fun e w' => ∃ B d, e = .returned (.slice B l.length d) ∧ Own w' 128 2 B l.length d (PC2 l) ∧ (∀ b ∈ ob B, w.heap.size ≤ b) ∧ Frm [] w w' := by
 refine VC.calls (nt := 8) (res := #[.tmp 2]) Tryz.func102 rfl Tryz.ntmps102 Tryz.results102 rfl ?_
 refine jS (jR (ja rfl (jO (jN (jv1 0 ?_)))))
 refine jS (jS (jR (jm rfl (je (Run.eqNilS rfl rfl zh) (jO (jN (jv2 0 4 ?_)))))))
 refine VC.condB rfl (fun hc1 => ?_) (fun hc1 => ?_)
 ·
  refine jS (jR (ja rfl (jO (jN (jv1 2 ?_)))))
  refine jT ?_
  refine qP (qB rfl ?_)
  obtain rfl : A = none := by cases A with | none => rfl | some a => cases hc1
  have hn0 : l.length = 0 := by
   rcases zcu l.length with h | h
   · exact h
   obtain ⟨_, h1, _⟩ := hl.2 h; cases h1
  obtain rfl : l = [] := zbc hn0
  exact ⟨none, 0, rfl, Own.nil _ _ _, by simp [ob], Frm.refl _ _⟩
 refine jQ (jN (jv1 0 ?_))
 refine jS (jR ?_)
 refine Ops.m (qZ.buildS0 zh zl) rfl ?_
 rintro _ w1 ⟨rfl, hF1⟩
 have ho1 : Own w1 128 2 (some ⟨w.heap.size, 0, none⟩) 0 0 (PC2 []) := Own.of_blk hF1.blk rfl (by simp [maxLen])
 refine jM ?_
 refine Ops.m (qZ.app rfl rfl zh (nT) rfl jd ho1 (hl.frm hF1.frm jp) (nL _) jo jo) rfl ?_
 rintro _ w2 ⟨B, d, rfl, ho2, hf2, hob⟩
 rw [zbp] at ho2
 rw [zbp]
 have hs1 := hF1.size
 have hf := hF1.frm.own hf2 (by simp [ob])
 refine ja rfl (jO (jN (jv1 2 ?_)))
 refine jT ?_
 refine qB rfl ?_
 refine ⟨B, d, rfl, ho2, fun x hx => ?_, hf⟩
 rcases hob with h | h
 · rw [h] at hx; simp [ob] at hx; omega
 rw [h, za] at hx; omega
theorem qJa (l : List Pr) (i : Nat) (hi : i < l.length) : PC2 (l.take i ++ l.drop (i + 1)) = (PC2 l).take (i * 2) ++ (PC2 l).drop ((i + 1) * 2) := by
 rw [jV, oU l i jo, yG l (i + 1) jo]
theorem yH (B : Option Addr) (d i : Nat) (l : List Pr) (w : World) (hl : Own w 128 2 B l.length d (PC2 l)) (hn : l.length ≤ 1000000) (hi : i < l.length) :
  Calls Tryz.prog 103 #[.slice B l.length d, .int .i64 ((i : Nat) : Int), .int .i64 ((i + 1 : Nat) : Int)] w fun e w' => e = .returned (.slice B (l.length - 1) d) ∧ Own w' 128 2 B (l.length - 1) d (PC2 (l.take i ++ l.drop (i + 1))) ∧ Frm (ob B) w w' := by
 obtain ⟨g, rfl⟩ : ∃ g, B = some ⟨g, 0, none⟩ := by
  rcases hl.cases with ⟨_, h0, _⟩ | ⟨g, _, h0, _⟩
  · omega
  exact ⟨g, h0⟩
 have hle := hl.le
 have hcl := uE l
 refine VC.calls (nt := 33) (res := #[.tmp 6]) Tryz.func103 rfl Tryz.ntmps103 Tryz.results103 rfl ?_
 refine jS (jR (ja rfl (jO (jN (jv3 0 1 2 ?_)))))
 refine jS (jR (jm rfl (jm rfl (jm rfl (jm rfl (je (Run.lenS rfl zh) (je (Run.slice3 i (i + 1) l.length rfl zh zl rfl rfl rfl jo jo hle) (jO (jN (jv3 0 1 2 ?_))))))))))
 refine jS (jS (jR (jm rfl (jm rfl (jb rfl rfl (Bin.eqlN _ _) (jO (jN (jv4 0 1 2 16 ?_))))))))
 refine VC.condF rfl (decide_eq_false jo) ?_
 refine jQ (jN (jv3 0 1 2 ?_))
 refine jS (jR (jm rfl (je (Run.lenS rfl zh) (ja rfl (jO (jN (jv4 0 1 2 7 ?_)))))))
 refine jS ?_
 refine VC.tail 6 jK jK ?_
 simp only [zcs, zcq, zeo, zbb]
 refine qM ?_
 refine qM ?_
 refine qE (Run.sliceS 0 _ rfl zh zl evB.none_ (evB.some_ rfl) jo jo) ?_
 rw [cT]
 refine qM ?_
 refine qM ?_
 refine qE (Run.sliceS _ _ rfl zh zl (evB.some_ rfl) evB.none_ jo jo) ?_
 refine bJ.nil ?_
 have hd := qV.drew w
 have hown := hl.drawn hd
 have hcut := hown.rd.cut (l := i + 1) (r := l.length) (cap := d) jo (zp _) hle
 rw [zf (by rw [zj, hcl]; omega)] at hcut
 refine Ops.m (qZ.appIn (n := i) (cap := d) rfl rfl zh zl hown hcut jo (fun v hv => nL l v (zav hv))) rfl ?_
 rintro _ w1 ⟨rfl, ho1, hf1, hs1⟩
 rw [show i + (l.length - (i + 1)) = l.length - 1 by omega] at ho1 ⊢
 refine ja rfl (jO (jN (jv2 0 7 ?_)))
 refine jS (jR (jm rfl (jm rfl (je (Run.lenS rfl zh) (jm rfl (je (Run.sliceS _ _ rfl zh zl (evB.some_ rfl) (evB.some_ rfl) jo jo) ?_))))))
 refine Ops.m0 (qZ.clearCut (m := l.length) (size := 2) rfl zh eE rfl jd ho1 jo) ?_
 rintro _ w2 ⟨ho2, hf2⟩
 rw [zaq (by rw [zd, zi, zj, hcl]; omega), zf (by rw [zd, zi, zj, hcl]; omega), ← qJa l i hi] at ho2
 refine jO (jN (jv1 0 ?_))
 refine jS (jR (jm rfl (ja rfl (jO (jN (jv1 6 ?_))))))
 refine jT ?_
 refine qB rfl ?_
 exact ⟨rfl, ho2, (((qV.drew w).frm.mono jp).trans hf1 (fun x hx => .inl hx)).trans hf2 (fun x hx => .inl hx)⟩
theorem uF {w : World} {gv g i : Nat} {cv cs : Array Value} (hv : Blk w gv 128 cv) (hg : Blk w g 128 cs) (hne : gv ≠ g) (h0 : cs.size ≠ 0) (la ca lb cb : Nat) :
  (callFunc 136 #[.slice (some ⟨gv, 0, none⟩) la ca, .slice (some ⟨g, i, none⟩) lb cb]).run Tryz.prog w = .ok (.value (.bool false)) w := by
 rw [run_callFunc_extern Tryz.func136 jK jK jK (e := Extern.SlicesOverlaps.overlaps #[89, 89] #[4]) jK,
  Lib.run_overlaps_apart w 89 4 128 zh 2 zl ⟨gv, 0, none⟩ ⟨g, i, none⟩ la ca lb cb hne 128 128 cv.size cs.size hv.shape hg.shape h0 (hv.frozen 0) (hv.frozen _)]
 rfl
theorem qKw (l : List Pr) (x : Pr) (i : Nat) (hi : i ≤ l.length) : PC2 (l.take i ++ x :: l.drop i) = (PC2 l).take (i * 2) ++ prC x ++ (PC2 l).drop (i * 2) := by
 rw [jV, oU l i hi, yG l i hi, show PC2 (x :: l.drop i) = prC x ++ PC2 (l.drop i) from rfl, zm]
theorem qWw {a zs b x : List Value} {o : Nat} (h1 : o + 2 ≤ (a ++ zs).length) (h2 : o ≤ a.length) : ((a ++ zs).take (o + 2) ++ b).take o ++ x ++ ((a ++ zs).take (o + 2) ++ b).drop (o + 2) = a.take o ++ x ++ b := by
 have hl : ((a ++ zs).take (o + 2)).length = o + 2 := by rw [zi]; omega
 rw [zaq jo, zeg, zat jo, zaq h2, zfj, zbx jo, hl, zft, zbb, zay]
theorem qQz {a b c : List Value} {o k : Nat} (ha : a.length = o) (hk : k ≤ c.length) : (a ++ c).take o ++ b ++ (a ++ c).drop (o + k) = a ++ b ++ c.drop k := by
 rw [zaq jo, zf jo, zfj, zbx jo, zay, show o + k - a.length = k by omega]
set_option maxHeartbeats 1000000 in
theorem yM (B : Option Addr) (d i gv : Nat) (l : List Pr) (x : Pr) (w : World) (hl : Own w 128 2 B l.length d (PC2 l)) (hn : l.length ≤ 1000000) (hi : i ≤ l.length) (hv : Blk w gv 128 (prC x).toArray) (hne : gv ∉ ob B) :
  Calls Tryz.prog 105 #[.slice B l.length d, .int .i64 ((i : Nat) : Int), .slice (some ⟨gv, 0, none⟩) 1 1] w fun e w' => ∃ C d', e = .returned (.slice C (l.length + 1) d') ∧ Own w' 128 2 C (l.length + 1) d' (PC2 (l.take i ++ x :: l.drop i)) ∧ Frm (ob B) w w' ∧ ∀ b ∈ ob C, b ∈ ob B ∨ w.heap.size ≤ b := by
 have hle := hl.le
 have hcl := uE l
 have hil := qKw l x i hi
 have hrv : Rd w 2 (some ⟨gv, 0, none⟩) 1 (prC x) := Rd.of_blk (n := 1) (size := 2) hv rfl
 refine VC.calls (nt := 95) (res := #[.tmp 6]) Tryz.func105 rfl Tryz.ntmps105 Tryz.results105 rfl ?_
 refine jS (jR (ja rfl (jO (jN (jv3 0 1 2 ?_)))))
 refine jS (jR (jm rfl (jm rfl (je (Run.sliceS _ _ rfl zh zl (evB.some_ rfl) evB.none_ jo jo) (jO (jN (jv3 0 1 2 ?_)))))))
 refine jS (jR (jm rfl (je (Run.lenS rfl zh) (ja rfl (jO (jN (jv4 0 1 2 7 ?_)))))))
 refine jS (jS (jR (jm rfl (jb rfl rfl (Bin.eqlN _ 0) (jO (jN (jv5 0 1 2 7 16 ?_)))))))
 refine VC.condF rfl (rfl) ?_
 refine jQ (jN (jv4 0 1 2 7 ?_))
 refine jS (jR (jm rfl (je (Run.lenS rfl zh) (ja rfl (jO (jN (jv5 0 1 2 7 8 ?_)))))))
 refine jS (jS (jR (jm rfl (jm rfl (jb rfl rfl (Bin.eqlN _ _) (jO (jN (jv6 0 1 2 7 8 22 ?_))))))))
 refine jD rfl (fun hc2 => ?_) fun hc2 => ?_
 ·
  obtain rfl : i = l.length := hc2
  have hend : PC2 (l.take l.length ++ x :: l.drop l.length) = PC2 l ++ prC x := by
   rw [zcd, List.drop_length, jV]
   simp [PC2]
  refine jS (jR (jm rfl (jM ?_)))
  refine Ops.m (qZ.app rfl rfl zh (nT) rfl jd hl hrv (eI x) jo jo) rfl ?_
  rintro _ w1 ⟨C, c1, rfl, ho1, hf1, hob1⟩
  refine ja rfl (jO (jN (jv1 6 ?_)))
  refine jT ?_
  refine qP (qB rfl ?_)
  exact ⟨C, c1, rfl, by rw [hend]; exact ho1, hf1, fun b hb => by rcases hob1 with h | h; exact .inl (h ▸ hb); rw [h, za] at hb; exact .inr jo⟩
 have hin : i < l.length := jo
 obtain ⟨g, rfl⟩ : ∃ g, B = some ⟨g, 0, none⟩ := by
  rcases hl.cases with ⟨_, h0, _⟩ | ⟨g, _, h0, _⟩
  · omega
  exact ⟨g, h0⟩
 refine jQ (jN (jv5 0 1 2 7 8 ?_))
 refine jS (jS (jR (jm rfl (jm rfl (jb rfl rfl (Bin.add_i64 _ _ jo) (jm rfl (je (Run.capS rfl zh) (jb rfl rfl (Bin.gtrN _ _) (jO (jN (jv6 0 1 2 7 8 31 ?_)))))))))))
 refine jD rfl (fun hc3 => ?_) fun hc3 => ?_
 ·
  refine jS (jR (jm rfl (jm rfl (je (Run.sliceS 0 _ rfl zh zl evB.none_ (evB.some_ rfl) jo jo) ?_))))
  rw [cT]
  refine jm rfl (jm rfl (jb rfl rfl (Bin.add_i64 _ _ jo) (jm rfl (jb rfl rfl (Bin.sub_i64 _ _ jo jo) ?_))))
  have hpre := (hl.short (k := i) hi).rd
  rw [oU l i hi] at hpre
  refine Ops.m (qZ.appMake (n := i) (cap := d) (k := l.length + 1 - i) rfl rfl zh zab (nT) rfl jd hpre jo jo jo jo jo) rfl ?_
  rintro _ w1 ⟨c1, zs, rfl, ho1, hzs, hf1⟩
  have hc1 := ho1.le
  have hpl : (PC2 (l.take i)).length = i * 2 := by rw [uE, zi, zat hi]
  rw [show i + (l.length + 1 - i) = l.length + 1 by omega] at ho1 hc1 ⊢
  generalize hgn : w.heap.size = gn at ho1 ⊢
  refine ja rfl (jO (jN (jv5 0 1 2 7 9 ?_)))
  refine jS (jR (jm rfl (jm rfl (je (Run.sliceS _ _ rfl zh zl (evB.some_ rfl) evB.none_ jo jo) ?_))))
  rw [kQ jo]
  refine jM ?_
  refine Ops.m (qZ.copyOwn (g := gn) (o := i * 2) rfl rfl zh zl ho1 1 (hrv.frm hf1 jp) (zat jo) (by rw [zd, hpl, hzs, eA x]; omega) (eI x)) rfl ?_
  rintro _ w2 ⟨rfl, ho2, hf2, hs2⟩
  rw [eA x, qQz hpl jo] at ho2
  have hf02 : Frm [] w w2 := hf1.trans hf2 (fun y hy => by rw [za] at hy; right; omega)
  have hd2 := qV.drew w2
  have ho2 := ho2.drawn hd2
  have hcut := (hl.rd.frm (hf02.drawn hd2) jp).cut (l := i) (r := l.length) (cap := d) hi (zp _) hle
  rw [zf (by rw [zj, hcl]; omega)] at hcut
  refine jO (jN (jv4 0 1 7 9 ?_))
  refine jS ?_
  refine VC.tail 8 jK jK ?_
  simp only [zcs, zcq, zeo, zbb]
  refine qM ?_
  refine qM ?_
  refine qM ?_
  refine qE (Run.bin rfl rfl (Bin.add_i64 _ _ jo)) ?_
  refine qE (Run.sliceS _ _ rfl zh zl (evB.some_ rfl) evB.none_ jo jo) ?_
  rw [kQ jo]
  refine qM ?_
  refine qM ?_
  refine qE (Run.sliceS _ _ rfl zh zl (evB.some_ rfl) evB.none_ jo jo) ?_
  refine bJ.nil ?_
  refine Ops.m (qZ.copyOwn (g := gn) (o := (i + 1) * 2) rfl rfl zh zl ho2 (l.length - i) hcut (zat jo) (by rw [zd, zd, zj, zj, hpl, hzs, hcl, eA x]; omega) (fun v hv => nL l v (zav hv))) rfl ?_
  rintro _ w3 ⟨rfl, ho3, hf3, hs3⟩
  have hal : (PC2 (l.take i) ++ prC x).length = (i + 1) * 2 := by rw [zd, hpl, eA x]; omega
  have hz0 : (zs.drop 2).drop ((PC2 l).drop (i * 2)).length = [] := zbx (by rw [zj, zj, hzs, hcl]; omega)
  rw [qQz hal (by rw [zj, zj, hzs, hcl]; omega), hz0, zbg, ← oU l i hi, ← hil] at ho3
  have hf03 : Frm [] w w3 := (hf02.drawn hd2).trans hf3 (fun y hy => by rw [za] at hy; right; omega)
  refine jO (jN (jv1 9 ?_))
  refine jS (jR (jm rfl (ja rfl (jO (jN (jv1 6 ?_))))))
  refine jT ?_
  refine qP (qB rfl ?_)
  exact ⟨_, c1, rfl, ho3, hf03.mono jp, fun b hb => by simp only [ob, za] at hb; exact .inr jo⟩
 refine jQ (jN (jv5 0 1 2 7 8 ?_))
 refine jS (jR (jm rfl (jm rfl (jm rfl (jb rfl rfl (Bin.add_i64 _ _ jo) (je (Run.sliceS 0 _ rfl zh zl evB.none_ (evB.some_ rfl) jo jo) ?_))))))
 rw [cT]
 obtain ⟨zs, hmo, hzs⟩ := hl.more (N := l.length + 1) jo jo
 obtain ⟨cur, hcur, hcs⟩ : ∃ cur, Blk w g 128 cur ∧ cur.size ≠ 0 := by
  rcases hl.cases with ⟨h0, _⟩ | ⟨g', cur, hA, hb, h1, _, h3, _⟩
  · cases h0
  cases hA
  exact ⟨cur, hb, jo⟩
 refine ja rfl (jO (jN (jv5 0 1 2 7 8 ?_)))
 refine jS (jS (jR (jm rfl (jm rfl (jm rfl (jm rfl (jb rfl rfl (Bin.add_i64 _ _ jo) (je (Run.sliceS _ _ rfl zh zl (evB.some_ rfl) evB.none_ jo jo) ?_))))))))
 rw [kQ jo]
 refine je (Run.ext2 rfl rfl (uF hv hcur (by simpa [ob] using hne) hcs _ _ _ _)) (je (Run.not rfl) (jO (jN (jv6 0 1 2 7 8 68 ?_))))
 refine VC.condT rfl (rfl) ?_
 refine jS ?_
 refine VC.tail 8 jK jK ?_
 simp only [zcs, zcq, zeo, zbb]
 refine qM ?_
 refine qM ?_
 refine qM ?_
 refine qE (Run.bin rfl rfl (Bin.add_i64 _ _ jo)) ?_
 refine qE (Run.sliceS _ _ rfl zh zl (evB.some_ rfl) evB.none_ jo jo) ?_
 rw [kQ jo]
 refine qM ?_
 refine qM ?_
 refine qE (Run.sliceS _ _ rfl zh zl (evB.some_ rfl) evB.none_ jo jo) ?_
 refine bJ.nil ?_
 have hd1 := qV.drew w
 have hmo := hmo.drawn hd1
 have hcut := hmo.rd.cut (l := i) (r := l.length) (cap := d) hi jo jo
 rw [List.drop_append_of_le_length jo, zaq (by rw [zj, hcl]; omega), zf (by rw [zj, hcl]; omega), show l.length - i = l.length + 1 - (i + 1) by omega] at hcut
 refine Ops.m (qZ.copyOwn (g := g) (o := (i + 1) * 2) rfl rfl zh zl hmo (l.length + 1 - (i + 1)) hcut (zdd jo) (by rw [zd, zj, hzs, hcl]; omega) (fun v hv => nL l v (zav hv))) rfl ?_
 rintro _ w2 ⟨rfl, ho2, hf2, hs2⟩
 have hz0 : (PC2 l ++ zs).drop ((i + 1) * 2 + ((PC2 l).drop (i * 2)).length) = [] := zbx (by rw [zd, zj, hzs, hcl]; omega)
 rw [hz0, zbg, show (i + 1) * 2 = i * 2 + 2 by omega] at ho2
 have hf02 : Frm [g] w w2 := (hd1.frm.mono jp).trans hf2 (fun y hy => .inl hy)
 have hv2 : Rd w2 2 (some ⟨gv, 0, none⟩) 1 (prC x) := hrv.frm hf02 (by simpa [ob, eq_comm] using hne)
 refine jO (jN (jv3 0 1 2 ?_))
 refine jS (jR (jm rfl (jm rfl (je (Run.sliceS _ _ rfl zh zl (evB.some_ rfl) evB.none_ jo jo) ?_))))
 rw [kQ jo]
 refine jM ?_
 refine Ops.m (qZ.copyOwn (g := g) (o := i * 2) rfl rfl zh zl ho2 1 hv2 (zat jo) (by rw [zd, zi, zd, zj, hzs, hcl, eA x]; omega) (eI x)) rfl ?_
 rintro _ w3 ⟨rfl, ho3, hf3, hs3⟩
 rw [eA x, qWw (by rw [zd, hzs, hcl]; omega) jo, ← hil] at ho3
 refine jO (jN (jv1 0 ?_))
 refine jS (jR (jm rfl (ja rfl (jO (jN (jv1 6 ?_))))))
 refine jT ?_
 refine qP (qB rfl ?_)
 exact ⟨_, d, rfl, ho3, hf02.trans hf3 (fun y hy => .inl hy), fun b hb => .inl hb⟩
end
section
open Go.RowKit
theorem Blk.sub {w : World} {g : Nat} {t : TypeId} {cs : Array Value} (h : Blk w g t cs) (i : Nat) (l : List Value) (hl : (cs.toList.drop i).take l.length = l) : ∀ j v, l[j]? = some v → w.cell? ((⟨g, i, none⟩ : Addr).add j) = some v := by
 intro j v hj
 have hlt : j < l.length := (List.getElem?_eq_some_iff.1 hj).1
 rw [show ((⟨g, i, none⟩ : Addr).add j) = ⟨g, i + j, none⟩ by unfold Addr.add; split <;> simp_all, h.cell]
 rw [← hl, zca hlt, zdw] at hj
 simpa using hj
structure Hm where
 dk : Dk
 pairs : List Pr
 dir : List Nat
 lies : Nat → List Nat
 used : Nat → Bool
def Hm.N (H : Hm) : Nat := H.dk.has.length - 42
def fR (x : Pr) : Nat := x.2 / 65536 % 65536
structure Hm.ok (H : Hm) : Prop where
 srt : Srt H.pairs
 okp : OkP H.pairs
 n600 : H.pairs.length ≤ 600
 sz : 44 ≤ H.dk.has.length
 big : H.dk.has.length ≤ 2048
 wts : H.dk.wts.length ≤ 100000
 d59 : H.dir.length ≤ 600
 dirp : ∀ p ∈ H.dir, p < H.N
 pg : ∀ x ∈ H.pairs, (∀ p ∈ H.lies x.1, p < H.N) ∧ (H.lies x.1).length ≤ 600 ∧ fR x ≤ 126 * (H.lies x.1).length
abbrev Lq := Option Addr × Nat × List Nat
def lqV (x : Lq) : Value := .slice x.1 x.2.2.length x.2.1
structure HtQ where
 pA : Option Addr
 pc : Nat
 dA : Option Addr
 dc : Nat
 l : Nat
 sB : Option Addr
 sc : Nat
 ly : Nat → Option Lq
def lyV (f : Nat → Option Lq) : Nat → Option Value := fun id => (f id).map lqV
abbrev MpU (w : World) (l : Nat) (f : Nat → Option Lq) : Prop := MpF Tryz.prog 54 fP w l (lyV f)
structure IsHt (w : World) (h g : Nat) (F : List Nat) (H : Hm) (q : HtQ) : Prop where
 ok : H.ok
 dk : IsDk w g F H.dk
 hF : h ∉ F
 blk : Blk w h 91 #[.pointer (some ⟨g, 0, none⟩), .slice q.pA H.pairs.length q.pc, .slice q.dA H.dir.length q.dc, .map (some q.l), .int .i64 ((H.N : Nat) : Int), .slice q.sB ((H.N + 7) / 8) q.sc]
 pr : RdX w (h :: F) 2 q.pA H.pairs.length (PC2 H.pairs)
 pcap : H.pairs.length ≤ q.pc
 dr : RdX w (h :: F) 1 q.dA H.dir.length (ZN H.dir)
 mp : MpU w q.l q.ly
 ml : q.l ∉ h :: F
 ly : ∀ id x, q.ly id = some x → RdX w (h :: F) 1 x.1 x.2.2.length (ZN x.2.2) ∧ id < 18446744073709551616
 lyH : ∀ x ∈ H.pairs, ∃ r, q.ly x.1 = some r ∧ r.2.2 = H.lies x.1
 us : RdX w (h :: F) 1 q.sB ((H.N + 7) / 8) (NB (bO H.N H.used))
theorem IsHt.frm {w w' : World} {h g : Nat} {F : List Nat} {H : Hm} {q : HtQ} (a : IsHt w h g F H q) (k : Frm [] w w') : IsHt w' h g F H q :=
 ⟨a.ok, a.dk.frm k jp, a.hF, a.blk.frm k jp, a.pr.frm k, a.pcap, a.dr.frm k, a.mp.frm k jp, a.ml, fun id x hx => ⟨(a.ly id x hx).1.frm k, (a.ly id x hx).2⟩, a.lyH, a.us.frm k⟩
theorem tI {l : List Pr} (hs : Srt l) {id : Nat} (h : id ∈ l.map (·.1)) : posM l id < l.length ∧ l.getD (posM l id) (0, 0) ∈ l ∧ (l.getD (posM l id) (0, 0)).1 = id := by
 obtain ⟨h1, h2⟩ := (qQy hs id).1 h
 exact ⟨h1, fN h1, h2⟩
def dM (H : Hm) (pg : List Nat) : List Nat := pg.flatMap fun p => (H.dk.sec (42 + p)).drop 2
def eZ (H : Hm) (id : Nat) : Nat × List Nat :=
 if id ∉ H.pairs.map (·.1) then (6, [])
 else if H.dk.off then (10, [])
 else
  let x := H.pairs.getD (posM H.pairs id) (0, 0)
  let out := (dM H (H.lies id)).take (fR x)
  if crcM out = x.2 / 4294967296 then (0, out) else (9, [])
end
section
open Go.RowKit
theorem kG (h g : Nat) (F : List Nat) (H : Hm) (q : HtQ) (w : World) (hH : IsHt w h g F H q) : Calls Tryz.prog 39 #[.pointer (some ⟨h, 0, none⟩)] w fun e w' => e = .returned (.int .i64 ((H.N : Nat) : Int)) ∧ w = w' := by
 have hsz := hH.ok.sz
 have hbg := hH.ok.big
 refine VC.calls (nt := 9) (res := #[.tmp 2]) Tryz.func39 rfl Tryz.ntmps39 Tryz.results39 rfl ?_
 refine jS (jR (jz 0 (jO (jN (jv1 0 ?_)))))
 refine jS (jR (jm rfl (je (Run.nilck rfl) (jf rfl zw rfl zdn (jl rfl zdu (hH.blk.cell 0) ?_)))))
 refine Ops.cl (jE1 zew) (dS g F _ w hH.dk) rfl ?_
 rintro e _ ⟨rfl, rfl⟩
 refine ⟨_, rfl, ?_⟩
 refine jb rfl rfl (Bin.sub_i64 _ 42 jo jo) (ja rfl (jO (jN (jv1 2 ?_))))
 refine jT ?_
 refine qB rfl ?_
 exact ⟨rfl, rfl⟩
theorem qX3 (p : Nat) (h g : Nat) (F : List Nat) (H : Hm) (q : HtQ) (w : World) (hH : IsHt w h g F H q) (hp : p < H.N) : Calls Tryz.prog 71 #[.pointer (some ⟨h, 0, none⟩), .int .i64 ((p : Nat) : Int)] w fun e w' => ∃ B n, e = .returned (.tuple #[.slice B n n, .bool (! H.dk.off)]) ∧ n = (H.dk.read (42 + p)).2.length ∧ Rd w' 1 B n (NB (H.dk.read (42 + p)).2) ∧ Frm [] w w' ∧ ∀ x ∈ ob B, w.heap.size ≤ x := by
 have hsz := hH.ok.sz
 have hbg := hH.ok.big
 have hwt := hH.ok.wts
 have hpN : p < H.dk.has.length - 42 := hp
 refine VC.calls (nt := 29) (res := #[.tmp 4, .tmp 5]) Tryz.func71 rfl Tryz.ntmps71 Tryz.results71 rfl ?_
 refine jS (jR (ja rfl (ja rfl (jO (jN (jv2 0 1 ?_))))))
 refine jS (jS (jR (jm rfl (jb rfl rfl (Bin.lssN _ 0) (jM ?_)))))
 refine Ops.rg rfl (decide_eq_false jo) (Run.mv rfl) rfl ?_
 refine Ops.rg rfl (decide_eq_false jo) (Run.mv rfl) rfl ?_
 refine Ops.clg rfl (decide_eq_false jo) (jE1 Tryz.call39) (kG h g F H q w hH) rfl ?_
 rintro e _ ⟨rfl, rfl⟩
 refine ⟨_, rfl, ?_⟩
 refine Ops.rg rfl (decide_eq_false jo) (Run.bin rfl rfl (Bin.geqN _ _)) rfl ?_
 refine je (Run.pickF rfl rfl (decide_eq_false jo)) (jO (jN (jv3 0 1 15 ?_)))
 refine VC.condF rfl (decide_eq_false jo) ?_
 refine jQ (jN (jv2 0 1 ?_))
 refine jS (jR (jm rfl (je (Run.nilck rfl) (jf rfl zw rfl zdn (jl rfl zdu (hH.blk.cell 0) (jm rfl (jb rfl rfl (Bin.add_i64 42 _ jo) ?_)))))))
 refine Ops.cl (jE2 Tryz.call28) (hZ g (42 + p) F H.dk w hH.dk jo) rfl ?_
 rintro e w1 ⟨B, rfl, hr, hf, hup, _⟩
 refine ⟨_, rfl, ?_⟩
 have e2 : decide ((H.dk.read (42 + p)).1 = 0) = ! H.dk.off := by
  unfold Dk.read
  rw [if_neg jo]
  cases H.dk.off <;> simp
 refine jm rfl (je (Run.extract rfl rfl) (je (Run.extract rfl rfl) (ja rfl (ja rfl (jO (jN (jv2 6 7 ?_)))))))
 refine jS (jR (jm rfl (jm rfl (jb rfl rfl (Bin.eqlN _ 0) (ja rfl (ja rfl (jO (jN (jv2 4 5 ?_)))))))))
 refine jT ?_
 refine cQ rfl rfl ?_
 rw [e2]
 exact ⟨B, _, rfl, rfl, hr, hf, hup⟩
theorem qJb (h g : Nat) (F : List Nat) (H : Hm) (q : HtQ) (w : World) (hH : IsHt w h g F H q) : Calls Tryz.prog 50 #[.pointer (some ⟨h, 0, none⟩)] w fun e w' => ∃ B d, e = .returned (.slice B H.pairs.length d) ∧ Own w' 54 1 B H.pairs.length d (ZU (H.pairs.map (·.1))) ∧ Frm [] w w' ∧ ∀ x ∈ ob B, w.heap.size ≤ x := by
 have h600 := hH.ok.n600
 have K0 := Frm.refl [] w
 have hsnZ : ∀ (a : List Nat) (b : Nat), ZU (a ++ [b]) = ZU a ++ [.int .u64 ((b : Nat) : Int)] := fun a b => by simp [ZU]
 refine VC.calls (nt := 22) (res := #[.tmp 2]) Tryz.func50 rfl Tryz.ntmps50 Tryz.results50 rfl ?_
 refine jS (jR (ja rfl (jO (jN (jv1 0 ?_)))))
 refine jS (jR (ja rfl (jO (jN (jS (jS (jR (jm rfl (je (Run.nilck rfl) (jf rfl zw rfl zap (jl rfl zbq (hH.blk.cell 1) (je (Run.lenS rfl zh) ?_))))))))))))
 refine jx .i64 0 ?_
 refine jO (jN (jv4 3 9 10 11 ?_))
 refine jB ?_
 refine VC.loop (σ := Nat × Option Addr × Nat) (fun s => [(3, .slice s.2.1 s.1 s.2.2), (9, .slice q.pA H.pairs.length q.pc), (10, .int .i64 ((H.pairs.length : Nat) : Int)), (11, .int .i64 ((s.1 : Nat) : Int))]) (fun s wr => s.1 ≤ H.pairs.length ∧ Own wr 54 1 s.2.1 s.1 s.2.2 (ZU ((H.pairs.take s.1).map (·.1))) ∧ Frm [] w wr ∧ ∀ x ∈ ob s.2.1, w.heap.size ≤ x) (fun s => H.pairs.length - s.1) (0, none, 0) (js4 rfl rfl rfl rfl) ⟨zg _, Own.nil _ _ _, K0, by simp [ob]⟩ ?_
 rintro ⟨i, B, d⟩ wr ⟨hi, ho, K, hup⟩
 dsimp only at hi ho hup ⊢
 refine jS (jR (jb rfl rfl (Bin.lssN _ _) (jO (jN (jS ?_)))))
 refine jD rfl (fun hc1 => ?_) fun hc1 => ?_
 ·
  obtain ⟨ad, hA, hel⟩ := lF (hH.pr.1.frm K jp) rfl hc1
  rw [hA]
  have hsn : (H.pairs.take (i + 1)).map (·.1) = (H.pairs.take i).map (·.1) ++ [(H.pairs.getD i (0, 0)).1] := by
   rw [nO hc1, zy]
   rfl
  have hokx := (hH.ok.okp _ (fN hc1)).1
  generalize H.pairs.getD i (0, 0) = x at hel hsn hokx
  obtain ⟨xk, xv⟩ := x
  dsimp only at hsn hokx
  refine jQ (jN (jv4 3 9 10 11 ?_))
  refine jS (jB (jS (jR (je (Run.indexS _ rfl rfl zh zl jo) (je (Run.loadA rfl zdo zl hel (by first | rfl | (simp; done))) ?_)))))
  refine Ops.m (qZ.alloc eE) rfl ?_
  rintro _ w2 ⟨rfl, hF2⟩
  refine Ops.st (qS.storeA rfl rfl zl hF2.blk rfl (eI (xk, xv))) ?_
  rintro w3 ⟨hb3, hf3, hs3⟩
  have hb3 : Blk w3 wr.heap.size 128 #[.int .u64 ((xk : Nat) : Int), .int .u64 ((xv : Nat) : Int)] := hb3
  have K3 : Frm [] wr w3 := hF2.frm.own hf3 jp
  have K := K.trans K3 jp
  refine jO (jN (jv5 3 5 9 10 11 ?_))
  refine jR (jm rfl (jf rfl zbl rfl zaa (jl rfl zas (hb3.cell 0) ?_)))
  refine Ops.m (qZ.buildS1 rfl zch zaa lM jd jd rfl rfl) rfl ?_
  rintro _ w5 ⟨rfl, hF5⟩
  have hr5 : Rd w5 1 (some ⟨w3.heap.size, 0, none⟩) 1 [.int .u64 ((xk : Nat) : Int)] := Rd.of_blk (n := 1) (size := 1) hF5.blk rfl
  have ho := (ho.frm K3 jp).frm hF5.frm jp
  have K := K.trans hF5.frm jp
  have ks := K.size
  refine Ops.m (qZ.app rfl rfl zch (qWl) rfl jd ho hr5 (by simp; rfl) jo jo) rfl ?_
  rintro _ w6 ⟨B6, d6, rfl, ho6, hf6, hob6⟩
  rw [← hsnZ, ← hsn] at ho6
  refine ja rfl (jO ?_)
  refine qH (jN ?_)
  refine jv4 3 9 10 11 ?_
  refine jR (jb rfl rfl (Bin.add_i64 _ 1 jo) (jm rfl (jO ?_)))
  refine jN ⟨(i + 1, B6, d6), (js4 rfl rfl rfl rfl), ?_, ?_⟩
  · exact ⟨hc1, ho6, K.own hf6 hup, (Fk.of_app hf6 hob6).up hup ks⟩
  first | omega | (dsimp only; omega)
 refine jX ?_
 refine qJ (qJ (qT ?_))
 refine jN (jv1 3 ?_)
 refine jS (jR (jm rfl (ja rfl (jO (jN (jv1 2 ?_))))))
 refine jT ?_
 refine qB rfl ?_
 obtain rfl : i = H.pairs.length := jo
 rw [zcd] at ho
 exact ⟨B, d, rfl, ho, K, hup⟩
theorem tL (h g : Nat) (F : List Nat) (H : Hm) (q : HtQ) (w : World) (hH : IsHt w h g F H q) : Calls Tryz.prog 51 #[.pointer (some ⟨h, 0, none⟩)] w fun e w' => e = .returned (.int .i64 ((H.N - cntS H.N H.used : Nat) : Int)) ∧ Frm [] w w' := by
 have hbg := hH.ok.big
 have hcl := rU H.N H.used
 have hNe : H.N = H.dk.has.length - 42 := rfl
 refine VC.calls (nt := 11) (res := #[.tmp 2]) Tryz.func51 rfl Tryz.ntmps51 Tryz.results51 rfl ?_
 refine jS (jR (jz 0 (jO (jN (jv1 0 ?_)))))
 refine jS ?_
 refine VC.held (fun V => Frm [] w V) jK ?_
 have hS : Frm [] w w.drew := (Frm.refl _ _).drew
 refine jH 0 rfl hS (fun w0 hw0 => Run.mv rfl) ?_
 refine jH 2 rfl hS (fun w0 hw0 => Run.mv rfl) ?_
 refine jH 3 rfl hS (fun w0 hw0 => Run.nilck rfl) ?_
 refine jH 4 rfl hS (fun w0 hw0 => Run.fieldAddr rfl zw rfl zk jd) ?_
 refine jH 5 rfl hS (fun w0 hw0 => Run.loadA rfl zai zk ((hH.frm hw0).blk.sub 4 (spV H.N q.sB q.sc).toList rfl) (by first | rfl | (simp; done))) ?_
 refine qQ.cl 1 rfl jK (jE1 Tryz.call39) (kG h g F H q w.drew (hH.frm hS)) trivial rfl rfl ?_
 rintro e _ ⟨rfl, rfl⟩
 refine ⟨_, rfl, hS, ?_⟩
 refine qQ.cl 6 rfl jK (jE1 Tryz.call99) (sX H.N q.sc q.sB H.used w.drew jo (hH.frm hS).us.1) trivial rfl rfl ?_
 rintro e w2 ⟨rfl, hf2⟩
 have hS := hS.trans hf2 jp
 refine ⟨_, rfl, hS, ?_⟩
 refine jH 7 rfl hS (fun w0 hw0 => Run.bin rfl rfl (Bin.sub_i64 _ _ jo jo)) ?_
 refine jH 8 rfl hS (fun w0 hw0 => Run.asg rfl) ?_
 refine qQ.done jK ?_
 refine jN (jv1 2 ?_)
 refine jT ?_
 refine qB rfl ?_
 exact ⟨rfl, hS⟩
theorem tO (h g : Nat) (F : List Nat) (H : Hm) (q : HtQ) (w : World) (hH : IsHt w h g F H q) : Calls Tryz.prog 9 #[.pointer (some ⟨h, 0, none⟩)] w fun e w' => ∃ B d, e = .returned (.slice B ((List.range H.N).filter H.used).length d) ∧ Own w' 3 1 B ((List.range H.N).filter H.used).length d (ZN ((List.range H.N).filter H.used)) ∧ Frm [] w w' ∧ ∀ x ∈ ob B, w.heap.size ≤ x := by
 have hbg := hH.ok.big
 have hNe : H.N = H.dk.has.length - 42 := rfl
 have K0 := Frm.refl [] w
 refine VC.calls (nt := 22) (res := #[.tmp 2]) Tryz.func9 rfl Tryz.ntmps9 Tryz.results9 rfl ?_
 refine jS (jR (ja rfl (jO (jN (jv1 0 ?_)))))
 refine jS (jR (ja rfl (jO (jN (jS (jS (jR (jM ?_))))))))
 refine Ops.cl (jE1 Tryz.call39) (kG h g F H q w hH) rfl ?_
 rintro e _ ⟨rfl, rfl⟩
 refine ⟨_, rfl, ?_⟩
 refine jx .i64 0 ?_
 refine jO (jN (jv4 0 3 6 7 ?_))
 refine jB ?_
 refine VC.loop (σ := Nat × Option Addr × Nat) (fun s => [(0, .pointer (some ⟨h, 0, none⟩)), (3, .slice s.2.1 ((List.range s.1).filter H.used).length s.2.2), (6, .int .i64 ((H.N : Nat) : Int)), (7, .int .i64 ((s.1 : Nat) : Int))]) (fun s wr => s.1 ≤ H.N ∧ Own wr 3 1 s.2.1 ((List.range s.1).filter H.used).length s.2.2 (ZN ((List.range s.1).filter H.used)) ∧ Frm [] w wr ∧ ∀ x ∈ ob s.2.1, w.heap.size ≤ x) (fun s => H.N - s.1) (0, none, 0) (js4 rfl rfl rfl rfl) ⟨zg _, Own.nil _ _ _, K0, by simp [ob]⟩ ?_
 rintro ⟨i, B, d⟩ wr ⟨hi, ho, K, hup⟩
 dsimp only at hi ho hup ⊢
 have hHr := hH.frm K
 have hfl : ((List.range i).filter H.used).length ≤ i := by have := zdh H.used (List.range i); rwa [zee] at this
 refine jS (jR (jb rfl rfl (Bin.lssN _ _) (jO (jN (jS ?_)))))
 refine jD rfl (fun hc1 => ?_) fun hc1 => ?_
 ·
  refine jQ (jN (jv4 0 3 6 7 ?_))
  refine jS (jB (jS (jR (jm rfl (ja rfl (jO (jN (jv5 0 3 4 6 7 ?_))))))))
  refine jS (jR (jm rfl (je (Run.nilck rfl) (jf rfl zw rfl zk (je (Run.loadA rfl zai zk (hHr.blk.sub 4 (spV H.N q.sB q.sc).toList rfl) (by first | rfl | (simp; done))) (jM ?_))))))
  refine Ops.cl (jE2 Tryz.call40) (qXv H.N q.sc i q.sB H.used wr jo hHr.us.1 hc1) rfl ?_
  rintro e w2 ⟨rfl, hf2⟩
  refine ⟨_, rfl, ?_⟩
  have ho := ho.frm hf2 jp
  have K := K.trans hf2 jp
  have hsn : (List.range (i + 1)).filter H.used = (List.range i).filter H.used ++ (if H.used i then [i] else []) := by
   rw [zcn, zdy]
   congr 1
   by_cases h : H.used i <;> simp [h]
  refine jO (jN (jv6 0 3 4 6 7 15 ?_))
  refine VC.condB rfl (fun hc2 => ?_) (fun hc2 => ?_)
  ·
   rw [if_pos hc2] at hsn
   refine jR (jm rfl (jM ?_))
   refine Ops.m (qZ.buildS1 rfl zt zq wC jd jd rfl rfl) rfl ?_
   rintro _ w5 ⟨rfl, hF5⟩
   have hr5 : Rd w5 1 (some ⟨w2.heap.size, 0, none⟩) 1 [.int .i64 ((i : Nat) : Int)] := Rd.of_blk (n := 1) (size := 1) hF5.blk rfl
   have ho := ho.frm hF5.frm jp
   have K := K.trans hF5.frm jp
   have ks := K.size
   refine Ops.m (qZ.app rfl rfl zt (wD) rfl jd ho hr5 (by simp; rfl) jo jo) rfl ?_
   rintro _ w6 ⟨B6, d6, rfl, ho6, hf6, hob6⟩
   rw [← qQs, ← hsn] at ho6
   have hln : ((List.range i).filter H.used).length + 1 = ((List.range (i + 1)).filter H.used).length := by rw [hsn, zd]; rfl
   rw [hln] at ho6
   refine ja rfl (jO ?_)
   refine qH (jN ?_)
   refine jv4 0 3 6 7 ?_
   refine jR (jb rfl rfl (Bin.add_i64 _ 1 jo) (jm rfl (jO ?_)))
   refine jN ⟨(i + 1, B6, d6), (js4 rfl (by rw [← hln]; rfl) rfl rfl), ?_, ?_⟩
   · exact ⟨hc1, ho6, K.own hf6 hup, (Fk.of_app hf6 hob6).up hup ks⟩
   first | omega | (dsimp only; omega)
  rw [if_neg (by simp [hc2]), zbg] at hsn
  refine jQ ?_
  refine qH (jN ?_)
  refine jv4 0 3 6 7 ?_
  refine jR (jb rfl rfl (Bin.add_i64 _ 1 jo) (jm rfl (jO ?_)))
  refine jN ⟨(i + 1, B, d), (js4 rfl (by rw [hsn]; rfl) rfl rfl), ?_, ?_⟩
  · exact ⟨hc1, by dsimp only; rw [hsn]; exact ho, K, hup⟩
  first | omega | (dsimp only; omega)
 refine jX ?_
 refine qJ (qJ (qT ?_))
 refine jN (jv1 3 ?_)
 refine jS (jR (jm rfl (ja rfl (jO (jN (jv1 2 ?_))))))
 refine jT ?_
 refine qB rfl ?_
 obtain rfl : i = H.N := jo
 exact ⟨B, d, rfl, ho, K, hup⟩
end
section
open Go.RowKit
theorem mQ (N : Nat) : ∀ (a b : List Nat) (U : Nat → Bool), bP N U (a ++ b) = (bP N U a).bind fun V => bP N V b
 | [], b, U => rfl
 | p :: r, b, U => by
  rw [zbr, bP, bP]
  split
  · exact mQ N r b _
  rfl
structure Dw where
 puts : List Pu
 pairs : List Pr
 free : List Nat
 lies : Nat → List Nat
def bL (x : Dw) (c : Ch) : Dw :=
 if c.2.2 then { x with pairs := bB x.pairs c.1 ++ bH x.pairs c.1 }
 else { puts := x.puts ++ dY c.2.1 (x.free.take (needsM c.2.1.length)), pairs := bB x.pairs c.1 ++ cW c.1 c.2.1 (x.free.take (needsM c.2.1.length)) :: bH x.pairs c.1, free := x.free.drop (needsM c.2.1.length), lies := fun y => if y = c.1 then x.free.take (needsM c.2.1.length) else x.lies y }
def bK (H : Hm) (l : List Ch) (fr : List Nat) : Dw := l.foldl bL ⟨[], H.pairs, fr, H.lies⟩
theorem vL (H : Hm) (l : List Ch) (c : Ch) (fr : List Nat) : bK H (l ++ [c]) fr = bL (bK H l fr) c := by unfold bK; rw [zed]; rfl
def sumN (l : List Ch) : Nat := (l.map fun c => needsM c.2.1.length).sum
theorem vO (l : List Ch) (c : Ch) : sumN (l ++ [c]) = sumN l + needsM c.2.1.length := by simp [sumN]
theorem qQ0 {l : List Pr} (h : Srt l) (id : Nat) : Srt (bB l id ++ bH l id) := List.pairwise_append.2 ⟨h.sublist zdq, h.sublist zdq, fun a ha b hb => by
 have h1 := (List.mem_filter.1 ha).2
 have h2 := (List.mem_filter.1 hb).2
 simp at h1 h2
 omega⟩
theorem qQ1 {l : List Pr} (h : Srt l) (id v : Nat) : Srt (bB l id ++ (id, v) :: bH l id) := List.pairwise_append.2 ⟨h.sublist zdq, List.pairwise_cons.2 ⟨fun b hb => by
 have h2 := (List.mem_filter.1 hb).2
 simpa using h2, h.sublist zdq⟩, fun a ha b hb => by
 have h1 := (List.mem_filter.1 ha).2
 simp at h1
 rcases zx.1 hb with rfl | hb
 · exact h1
 have h2 := (List.mem_filter.1 hb).2
 simp at h2
 omega⟩
theorem yN {x : Dw} (h : Srt x.pairs) (c : Ch) : Srt (bL x c).pairs := by
 unfold bL
 split
 · exact qQ0 h _
 exact qQ1 h _ _
theorem qQ2 {H : Hm} (h : Srt H.pairs) (l : List Ch) (fr : List Nat) : Srt (bK H l fr).pairs := by
 unfold bK
 generalize hx : (⟨[], H.pairs, fr, H.lies⟩ : Dw) = x
 have h1 : Srt x.pairs := by rw [← hx]; exact h
 clear hx
 induction l generalizing x with
 | nil => exact h1
 | cons c r ih => exact ih _ (yN h1 c)
theorem qKx (x : Dw) (c : Ch) (y : Nat) : y ∈ (bL x c).pairs.map (·.1) ↔ (y ≠ c.1 ∧ y ∈ x.pairs.map (·.1)) ∨ (y = c.1 ∧ c.2.2 = false) := by
 have hl : ∀ (f : Pr → Bool), y ∈ (x.pairs.filter f).map (·.1) ↔ ∃ v, (y, v) ∈ x.pairs ∧ f (y, v) = true := fun f => by
  simp only [List.mem_map, List.mem_filter]
  constructor
  ·
   rintro ⟨⟨a, b⟩, h1, rfl⟩
   exact ⟨b, h1⟩
  rintro ⟨v, h1⟩
  exact ⟨(y, v), h1, rfl⟩
 have hx : y ∈ x.pairs.map (·.1) ↔ ∃ v, (y, v) ∈ x.pairs := by
  simp only [List.mem_map]
  constructor
  ·
   rintro ⟨⟨a, b⟩, h1, rfl⟩
   exact ⟨b, h1⟩
  rintro ⟨v, h1⟩
  exact ⟨(y, v), h1, rfl⟩
 unfold bL bB bH
 split
 ·
  next hg =>
  rw [zy, zcb, hl, hl, hx]
  simp only [decide_eq_true_eq, hg]
  constructor
  ·
   rintro (⟨v, h1, h2⟩ | ⟨v, h1, h2⟩)
   · exact .inl ⟨jo, v, h1⟩
   exact .inl ⟨jo, v, h1⟩
  rintro (⟨h1, v, h2⟩ | ⟨_, h⟩)
  ·
   rcases zdg h1 with h | h
   · exact .inl ⟨v, h2, h⟩
   exact .inr ⟨v, h2, h⟩
  cases h
 next hg =>
 dsimp only
 rw [zy, zau, zcb, zx, hl, hl, hx]
 simp only [decide_eq_true_eq, cW]
 constructor
 ·
  rintro (⟨v, h1, h2⟩ | h | ⟨v, h1, h2⟩)
  · exact .inl ⟨jo, v, h1⟩
  · exact .inr ⟨h, by simpa using hg⟩
  exact .inl ⟨jo, v, h1⟩
 rintro (⟨h1, v, h2⟩ | ⟨h, _⟩)
 ·
  rcases zdg h1 with h | h
  · exact .inl ⟨v, h2, h⟩
  exact .inr (.inr ⟨v, h2, h⟩)
 exact .inr (.inl h)
theorem qVz (H : Hm) (l : List Ch) (fr : List Nat) {y : Nat} (h : y ∉ l.map (·.1)) : y ∈ (bK H l fr).pairs.map (·.1) ↔ y ∈ H.pairs.map (·.1) := by
 unfold bK
 generalize hx : (⟨[], H.pairs, fr, H.lies⟩ : Dw) = x
 have h1 : y ∈ x.pairs.map (·.1) ↔ y ∈ H.pairs.map (·.1) := by rw [← hx]
 clear hx
 induction l generalizing x with
 | nil => exact h1
 | cons c r ih =>
  simp only [zau, zx, not_or] at h
  refine ih h.2 _ ?_
  rw [qKx, ← h1]
  constructor
  ·
   rintro (⟨_, h2⟩ | ⟨h2, _⟩)
   · exact h2
   exact absurd h2 h.1
  exact fun h2 => .inl ⟨h.1, h2⟩
theorem yP {x : Dw} (h : Srt x.pairs) (c : Ch) : (bL x c).pairs.length + (if c.1 ∈ x.pairs.map (·.1) then 1 else 0) = x.pairs.length + (if c.2.2 = true then 0 else 1) := by
 have hs := congrArg List.length (gB h c.1)
 rw [zd, zd] at hs
 have he := qZ5 h c.1
 have hi := uD (l := x.pairs) c.1
 have hq : (eqP x.pairs c.1).length = if c.1 ∈ x.pairs.map (·.1) then 1 else 0 := by
  split
  ·
   next h1 =>
   have := List.length_pos_iff.2 (hi.1 h1)
   omega
  next h1 =>
  have : eqP x.pairs c.1 = [] := Classical.not_not.1 fun h => h1 (hi.2 h)
  rw [this]; rfl
 unfold bL
 split <;> simp only [zd, zv] <;> omega
theorem qQ3 (H : Hm) (hs : Srt H.pairs) (l : List Ch) (c : Ch) (fr : List Nat) (h : c.1 ∉ l.map (·.1)) :
  (c.1 ∈ H.pairs.map (·.1) → c.2.2 = true → (bK H (l ++ [c]) fr).pairs.length + 1 = (bK H l fr).pairs.length) ∧ (c.1 ∈ H.pairs.map (·.1) → c.2.2 = false → (bK H (l ++ [c]) fr).pairs.length = (bK H l fr).pairs.length) ∧
   (c.1 ∉ H.pairs.map (·.1) → c.2.2 = false → (bK H (l ++ [c]) fr).pairs.length = (bK H l fr).pairs.length + 1) ∧ (bK H (l ++ [c]) fr).pairs.length ≤ (bK H l fr).pairs.length + 1 := by
 have h1 := yP (qQ2 hs l fr) c
 have h2 := qVz H l fr h
 rw [← vL] at h1
 refine ⟨fun a b => ?_, fun a b => ?_, fun a b => ?_, ?_⟩
 · rw [if_pos (h2.2 a), if_pos b] at h1; omega
 · rw [if_pos (h2.2 a), if_neg (by simp [b])] at h1; omega
 · rw [if_neg (fun e => a (h2.1 e)), if_neg (by simp [b])] at h1; omega
 split at h1 <;> split at h1 <;> omega
end
section
open Go.RowKit
theorem yR (n : Nat) (w : World) (hn : 600 < n) (hb : n ≤ 1000000) : Calls Tryz.prog 98 #[.int .i64 ((n : Nat) : Int)] w fun e w' => e = .returned (.int .i64 ((0 : Nat) : Int)) ∧ w = w' := by
 refine VC.calls (nt := 21) (res := #[.tmp 2]) Tryz.func98 rfl Tryz.ntmps98 Tryz.results98 rfl ?_
 refine jS (jR (jz 0 (jO (jN (jv1 0 ?_)))))
 refine jS (jS ?_)
 refine VC.split1 [(0, _)] (js1 rfl) 10 (.bool (decide (True))) ?_ ?_
 ·
  refine jR ?_
  refine jm rfl (jb rfl rfl (Bin.lssN _ 0) ?_)
  by_cases hs6 : n < 0
  ·
   refine jM ?_
   refine jU ?_
   refine jU ?_
   refine je (Run.pickT rfl rfl au) (jO ?_)
   refine jN ⟨(js2 (jC (by first | (simp; done) | (simp; omega))) rfl), rfl⟩
  refine jM ?_
  refine jG ?_
  refine jk (Run.bin rfl rfl (Bin.gtrN _ 600)) ?_
  by_cases hs9 : 600 < n
  ·
   refine je (Run.pickF rfl rfl au) (jO ?_)
   refine jN ⟨(js2 (jC (by first | (simp; done) | (simp; omega))) rfl), rfl⟩
  refine je (Run.pickF rfl rfl au) (jO ?_)
  refine jN ⟨(js2 (jC (by first | (simp; done) | (simp; omega))) rfl), rfl⟩
 intro Γ hΓ
 refine jN (VC.sub _ hΓ ?_)
 refine VC.condT rfl jp ?_
 refine jS (jR (jz 0 (jO (jN (jv1 2 ?_)))))
 refine jT ?_
 refine qP (qB rfl ?_)
 exact ⟨rfl, rfl⟩
def pagesT (n : Nat) : Nat := if n ≤ 600 then pagesM n else 0
theorem yS (n : Nat) (w : World) (hb : n ≤ 1000000) : Calls Tryz.prog 98 #[.int .i64 ((n : Nat) : Int)] w fun e w' => e = .returned (.int .i64 ((pagesT n : Nat) : Int)) ∧ w = w' := by
 unfold pagesT
 split
 · next h => exact zI n w h
 next h => exact yR n w jo hb
theorem qQ4 : ∀ n, ∀ lv, lv ≤ n → kC lv ≤ 2 * lv
 | 0, lv, h => by
  obtain rfl : lv = 0 := jo
  rw [kC, dif_pos jo]; omega
 | n + 1, lv, h => by
  rw [kC]
  split
  · omega
  next h1 =>
  have := qQ4 n (abvM lv 12) (by unfold abvM; omega)
  have h2 : 2 * abvM lv 12 ≤ lv := by unfold abvM; omega
  omega
theorem wQ (n : Nat) : pagesT n ≤ 172 := by
 unfold pagesT
 split
 ·
  next h =>
  have := qQ4 _ (abvM n 7) (zp _)
  have h2 : abvM n 7 ≤ 86 := by unfold abvM; omega
  unfold pagesM
  omega
 omega
theorem uA (l : List Cq) (h : ∀ x ∈ l, x.2.1.2.2.length ≤ 1000000) : sumN (chL l) ≤ 10000 * l.length := by
 induction l with
 | nil => simp [sumN, chL]
 | cons a r ih =>
  have h1 := ih fun x hx => h x (zbf _ hx)
  have h2 := h a jp
  simp only [sumN, chL, zau, List.sum_cons, zv, chO] at h1 ⊢
  have : needsM a.2.1.2.2.length ≤ 10000 := by unfold needsM; omega
  omega
theorem sF (l : List Cq) (i : Nat) : chL (l.take i) = (chL l).take i := by rw [chL, zcp]; rfl
theorem qVc {l : List Cq} {i : Nat} (h : i < l.length) (hm : cX (chL l)) : (l.getD i cq0).1 ∉ (chL (l.take i)).map (·.1) := by
 have h1 := vI hm (i + 1)
 rw [← sF, kV h] at h1
 exact ((vA _ _).1 h1).2.1
set_option maxHeartbeats 1000000 in
theorem qQe (S : Option Addr) (n c : Nat) (l : List Cq) (fr : List Nat) (h g : Nat) (F : List Nat) (H : Hm) (q : HtQ) (w : World) (hH : IsHt w h g F H q) (hn : n ≤ 1000) (hr : RdC w S n l) (hm : cX (chL l)) (hg : ∀ x ∈ chL l, x.2.2 = true → x.1 ∈ H.pairs.map (·.1)) :
  Calls Tryz.prog 43 #[.pointer (some ⟨h, 0, none⟩), .slice S n c] w fun e w' => e = .returned (.tuple #[.int .i64 ((sumN (chL l) + pagesT (bK H (chL l) fr).pairs.length : Nat) : Int), .int .i64 (((bK H (chL l) fr).pairs.length : Nat) : Int)]) ∧ Frm [] w w' := by
 have h600 := hH.ok.n600
 have hln := hr.len
 have K0 := Frm.refl [] w
 have hd := qV.drew w
 refine VC.calls (nt := 55) (res := #[.tmp 4, .tmp 5]) Tryz.func43 rfl Tryz.ntmps43 Tryz.results43 rfl ?_
 refine jS (jR (jz 0 (jz 0 (jO (jN (jv2 0 1 ?_))))))
 refine jS ?_
 refine VC.held (fun V => Frm [] w V) jK ?_
 have hS : Frm [] w w.drew := (Frm.refl _ _).drew
 refine jH 0 rfl hS (fun w0 hw0 => Run.mv rfl) ?_
 refine jH 1 rfl hS (fun w0 hw0 => Run.nilck rfl) ?_
 refine jH 2 rfl hS (fun w0 hw0 => Run.fieldAddr rfl zw rfl zap jd) ?_
 refine jH 3 rfl hS (fun w0 hw0 => Run.load rfl zbq ((hH.frm hw0).blk.cell 1)) ?_
 refine jH 4 rfl hS (fun w0 hw0 => Run.lenS rfl zh) ?_
 refine qQ.take (v := .int .i64 ((0 : Nat) : Int)) 5 rfl jK jK jK hS (fun w0 hw0 => Run.asg rfl) trivial rfl rfl ?_
 refine jH 6 rfl hS (fun w0 hw0 => Run.asg rfl) ?_
 refine qQ.done jK ?_
 refine jN (jv4 0 1 6 7 ?_)
 refine jS (jS (jR (jm rfl (je (Run.lenS rfl zan) ?_))))
 refine jx .i64 0 ?_
 refine jO (jN (jv6 0 6 7 17 18 19 ?_))
 refine jB ?_
 refine VC.loop (σ := Nat) (fun s => [(0, .pointer (some ⟨h, 0, none⟩)), (6, .int .i64 ((sumN (chL (l.take s)) : Nat) : Int)), (7, .int .i64 (((bK H (chL (l.take s)) fr).pairs.length : Nat) : Int)), (17, .slice S n c), (18, .int .i64 ((n : Nat) : Int)), (19, .int .i64 ((s : Nat) : Int))]) (fun s wr => s ≤ n ∧ Frm [] w wr ∧ (bK H (chL (l.take s)) fr).pairs.length ≤ 600 + s) (fun s => n - s) 0 (js6 rfl rfl rfl rfl rfl rfl) ⟨zg _, hd.frm, h600⟩ ?_
 rintro i wr ⟨hi, K, hpl⟩
 refine jS (jR (jb rfl rfl (Bin.lssN _ _) (jO (jN (jS ?_)))))
 refine jD rfl (fun hc1 => ?_) fun hc1 => ?_
 ·
  obtain ⟨ad, hS, hel⟩ := (hr.frm K).cell hc1
  subst hS
  have hmem := lL (jo : i < l.length)
  have hxn := hr.num _ hmem
  have hsnc := kV (jo : i < l.length)
  have hsn := vO (chL (l.take i)) (chO (l.getD i cq0))
  rw [← hsnc] at hsn
  have hsl := qQ3 H hH.ok.srt (chL (l.take i)) (chO (l.getD i cq0)) fr (qVc (jo : i < l.length) hm)
  rw [← hsnc] at hsl
  have hgx := hg _ (List.mem_map.2 ⟨_, hmem, rfl⟩)
  have hsb := uA (l.take i) (fun x hx => (hr.num x (zn hx)).2)
  rw [zi] at hsb
  have hmi := Nat.min_le_left i l.length
  generalize l.getD i cq0 = x at hel hxn hsn hsl hgx hsnc
  obtain ⟨xa, ⟨xA, xc, xb⟩, xg⟩ := x
  dsimp only [chO] at hsn hxn hsl hgx
  obtain ⟨hl1, hl2, hl3, hl4⟩ := hsl
  refine jQ (jN (jv6 0 6 7 17 18 19 ?_))
  refine jS (jB (jS (jR (je (Run.indexS _ rfl rfl zan zba jo) (je (Run.loadA rfl zfx zba hel (by first | rfl | (simp; done))) ?_)))))
  refine Ops.m (qZ.alloc fJ) rfl ?_
  rintro _ w2 ⟨rfl, hF2⟩
  refine Ops.st (qS.storeA rfl rfl zba hF2.blk rfl (lJ (xa, (xA, xc, xb), xg))) ?_
  rintro w3 ⟨hb3, hf3, hs3⟩
  have hb3 : Blk w3 wr.heap.size 93 #[.int .u64 ((xa : Nat) : Int), .slice xA xb.length xc, .bool xg] := hb3
  have K3 : Frm [] wr w3 := hF2.frm.own hf3 jp
  have K := K.trans K3 jp
  have hH3 := hH.frm K
  refine jO (jN (jv7 0 6 7 9 17 18 19 ?_))
  refine jS ?_
  refine VC.held (fun V => Frm [] w3 V) jK ?_
  have hS : Frm [] w3 w3.drew := (Frm.refl _ _).drew
  refine jH 0 rfl hS (fun w0 hw0 => Run.mv rfl) ?_
  refine jH 1 rfl hS (fun w0 hw0 => Run.nilck rfl) ?_
  refine jH 2 rfl hS (fun w0 hw0 => Run.fieldAddr rfl zw rfl zap jd) ?_
  refine jH 3 rfl hS (fun w0 hw0 => Run.load rfl zbq ((hH3.frm hw0).blk.cell 1)) ?_
  refine jH 4 rfl hS (fun w0 hw0 => Run.fieldAddr rfl zac rfl zaa jd) ?_
  refine jH 5 rfl hS (fun w0 hw0 => Run.load rfl zas ((hb3.frm hw0 jp).cell 0)) ?_
  refine qQ.cl 6 rfl jK (jE2 Tryz.call42) (lX _ _ xa _ H.pairs _ rfl jo (hH3.frm hS).pr.1 hH.ok.okp hH.ok.srt hxn.1) trivial rfl rfl ?_
  rintro e w4 ⟨rfl, hf4⟩
  have hS := hS.trans hf4 jp
  refine ⟨_, rfl, hS, ?_⟩
  have hb4 := hb3.frm hS jp
  have K := K.trans hS jp
  refine jH 7 rfl hS (fun w0 hw0 => Run.mv rfl) ?_
  refine jH 8 rfl hS (fun w0 hw0 => Run.extract rfl rfl) ?_
  refine jH 9 rfl hS (fun w0 hw0 => Run.extract rfl rfl) ?_
  refine jH 10 rfl hS (fun w0 hw0 => Run.asg rfl) ?_
  refine jH 11 rfl hS (fun w0 hw0 => Run.asg rfl) ?_
  refine qQ.done jK ?_
  refine jN (jv8 0 6 7 9 11 17 18 19 ?_)
  refine jS (jB (jS (jR (jf rfl zac rfl zbu (jl rfl zds (hb4.cell 2) (ja rfl (jO (jN (jv9 0 6 7 9 11 17 18 19 33 ?_)))))))))
  refine VC.meet (σ := Unit) (fun s => [(0, .pointer (some ⟨h, 0, none⟩)), (6, .int .i64 ((sumN (chL (l.take i)) : Nat) : Int)), (7, .int .i64 (((bK H (chL (l.take (i + 1))) fr).pairs.length : Nat) : Int)), (9, .pointer (some ⟨wr.heap.size, 0, none⟩)), (17, .slice (some ad) n c), (18, .int .i64 ((n : Nat) : Int)), (19, .int .i64 ((i : Nat) : Int))]) (fun s wz => w4 = wz) ?_ ?_
  ·
   refine VC.condB rfl (fun hc2 => ?_) (fun hc2 => ?_)
   ·
    have hsl := hl1 (hgx hc2) hc2
    refine jR (jm rfl (jb rfl rfl (Bin.sub_i64 _ 1 jo jo) (ja rfl (jO ?_))))
    refine jN ⟨(), (js7 rfl rfl (by rw [show (bK H (chL (l.take (i + 1))) fr).pairs.length = (bK H (chL (l.take i)) fr).pairs.length - 1 by omega]; rfl) rfl rfl rfl rfl), ?_⟩
    rfl
   refine jS (jR (jm rfl (je (Run.not rfl) (ja rfl (jO (jN (jv8 0 6 7 9 17 18 19 38 ?_)))))))
   refine VC.meet (σ := Unit) (fun s => [(0, .pointer (some ⟨h, 0, none⟩)), (6, .int .i64 ((sumN (chL (l.take i)) : Nat) : Int)), (7, .int .i64 (((bK H (chL (l.take (i + 1))) fr).pairs.length : Nat) : Int)), (9, .pointer (some ⟨wr.heap.size, 0, none⟩)), (17, .slice (some ad) n c), (18, .int .i64 ((n : Nat) : Int)), (19, .int .i64 ((i : Nat) : Int))]) (fun s wz => w4 = wz) ?_ ?_
   ·
    refine VC.condB rfl (fun hc3 => ?_) (fun hc3 => ?_)
    ·
     have hc3 : xa ∉ H.pairs.map (·.1) := fun h => by rw [decide_eq_true h] at hc3; cases hc3
     have hsl := hl3 hc3 hc2
     refine jR (jm rfl (jb rfl rfl (Bin.add_i64 _ 1 jo) (ja rfl (jO ?_))))
     refine jN ⟨(), (js7 rfl rfl (by rw [show (bK H (chL (l.take (i + 1))) fr).pairs.length = (bK H (chL (l.take i)) fr).pairs.length + 1 by omega]; rfl) rfl rfl rfl rfl), ?_⟩
     rfl
    have hc3 : xa ∈ H.pairs.map (·.1) := Classical.byContradiction fun h => by rw [decide_eq_false h] at hc3; cases hc3
    have hsl := hl2 hc3 hc2
    refine jQ ?_
    refine jN ⟨(), (js7 rfl rfl (by rw [show (bK H (chL (l.take (i + 1))) fr).pairs.length = (bK H (chL (l.take i)) fr).pairs.length by omega]; rfl) rfl rfl rfl rfl), ?_⟩
    rfl
   rintro _ _ rfl Γ hΓ
   refine jN ⟨(), (js7 (hΓ.get _ _ rfl) (hΓ.get _ _ rfl) (hΓ.get _ _ rfl) (hΓ.get _ _ rfl) (hΓ.get _ _ rfl) (hΓ.get _ _ rfl) (hΓ.get _ _ rfl)), ?_⟩
   rfl
  rintro _ _ rfl Γ hΓ
  refine qH (jN (VC.sub _ hΓ ?_))
  refine jR (jm rfl (jf rfl zac rfl zr (jl rfl zal (hb4.cell 1) (je (Run.lenS rfl ze) ?_))))
  refine Ops.cl (jE1 Tryz.call97) (nG xb.length _ jo) rfl ?_
  rintro e _ ⟨rfl, rfl⟩
  refine ⟨_, rfl, ?_⟩
  have hnd : needsM xb.length ≤ 10000 := by unfold needsM; omega
  refine jb rfl rfl (Bin.add_i64 _ _ jo) (ja rfl (jO ?_))
  refine qH (jN ?_)
  refine jv6 0 6 7 17 18 19 ?_
  refine jR (jb rfl rfl (Bin.add_i64 _ 1 jo) (jm rfl (jO ?_)))
  refine jN ⟨i + 1, (js6 rfl (by rw [hsn]; rfl) rfl rfl rfl rfl), ?_, ?_⟩
  · exact ⟨hc1, K, jo⟩
  first | omega | (dsimp only; omega)
 refine jX ?_
 refine qJ (qJ (qT ?_))
 refine jN (jv2 6 7 ?_)
 refine jS (jR (jm rfl (jM ?_)))
 refine Ops.cl (jE1 Tryz.call98) (yS _ _ jo) rfl ?_
 rintro e _ ⟨rfl, rfl⟩
 refine ⟨_, rfl, ?_⟩
 obtain rfl : i = n := jo
 rw [show l.take i = l from zf jo]
 have hsb := uA l (fun x hx => (hr.num x hx).2)
 have hpt := wQ (bK H (chL l) fr).pairs.length
 refine jb rfl rfl (Bin.add_i64 _ _ jo) (jm rfl (ja rfl (ja rfl (jO (jN (jv2 4 5 ?_))))))
 refine jT ?_
 refine cQ rfl rfl ?_
 exact ⟨rfl, K⟩
end
section
open Go.RowKit
structure IsHc (w : World) (h g : Nat) (F : List Nat) (H : Hm) (q : HtQ) (u1 u2 : Value) : Prop where
 ok : H.ok
 dk : IsDk w g F H.dk
 hF : h ∉ F
 blk : Blk w h 91 #[.pointer (some ⟨g, 0, none⟩), .slice q.pA H.pairs.length q.pc, .slice q.dA H.dir.length q.dc, .map (some q.l), u1, u2]
 pr : RdX w (h :: F) 2 q.pA H.pairs.length (PC2 H.pairs)
 pcap : H.pairs.length ≤ q.pc
 dr : RdX w (h :: F) 1 q.dA H.dir.length (ZN H.dir)
 mp : MpU w q.l q.ly
 ml : q.l ∉ h :: F
 ly : ∀ id x, q.ly id = some x → RdX w (h :: F) 1 x.1 x.2.2.length (ZN x.2.2) ∧ id < 18446744073709551616
 lyH : ∀ x ∈ H.pairs, ∃ r, q.ly x.1 = some r ∧ r.2.2 = H.lies x.1
theorem IsHc.frm {w w' : World} {h g : Nat} {F : List Nat} {H : Hm} {q : HtQ} {u1 u2 : Value} (a : IsHc w h g F H q u1 u2) (k : Frm [] w w') : IsHc w' h g F H q u1 u2 :=
 ⟨a.ok, a.dk.frm k jp, a.hF, a.blk.frm k jp, a.pr.frm k, a.pcap, a.dr.frm k, a.mp.frm k jp, a.ml, fun id x hx => ⟨(a.ly id x hx).1.frm k, (a.ly id x hx).2⟩, a.lyH⟩
theorem IsHt.hc {w : World} {h g : Nat} {F : List Nat} {H : Hm} {q : HtQ} (a : IsHt w h g F H q) : IsHc w h g F H q (.int .i64 ((H.N : Nat) : Int)) (.slice q.sB ((H.N + 7) / 8) q.sc) := ⟨a.ok, a.dk, a.hF, a.blk, a.pr, a.pcap, a.dr, a.mp, a.ml, a.ly, a.lyH⟩
def dZ (H : Hm) (l : List Pr) : List Nat := l.flatMap fun x => H.lies x.1
def bD (H : Hm) : List Nat := H.dir ++ dZ H H.pairs
theorem yU {N : Nat} {a b : List Nat} {U V : Nat → Bool} (h : bP N U (a ++ b) = some V) : ∃ W, bP N U a = some W := by
 rw [mQ] at h
 cases hm : bP N U a with
 | none => rw [hm] at h; cases h
 | some W => exact ⟨W, rfl⟩
theorem qX4 (H : Hm) {l : List Pr} {i : Nat} (h : i < l.length) : dZ H (l.take (i + 1)) = dZ H (l.take i) ++ H.lies (l.getD i (0, 0)).1 := by
 rw [nO h, dZ, zao]
 simp [dZ]
theorem qJc (H : Hm) (l : List Pr) (i : Nat) : ∃ r, dZ H l = dZ H (l.take i) ++ r := ⟨dZ H (l.drop i), by rw [dZ, dZ, dZ, ← zao, zbt]⟩
set_option maxHeartbeats 1000000 in
theorem rX (U : Nat → Bool) (u1 u2 : Value) (h g : Nat) (F : List Nat) (H : Hm) (q : HtQ) (w : World) (hH : IsHc w h g F H q u1 u2) (hm : bP H.N (fun _ => false) (bD H) = some U) : Calls Tryz.prog 47 #[.pointer (some ⟨h, 0, none⟩)] w fun e w' => ∃ B c, e = .returned (.tuple #[.agg (spV H.N B c), .bool true]) ∧ RdS w' B H.N U ∧ Frm [] w w' ∧ ∀ x ∈ ob B, w.heap.size ≤ x := by
 have h600 := hH.ok.n600
 have hd59 := hH.ok.d59
 have hbg := hH.ok.big
 have hsz := hH.ok.sz
 have hNe : H.N = H.dk.has.length - 42 := rfl
 refine VC.calls (nt := 55) (res := #[.cell 2 85, .tmp 3]) Tryz.func47 rfl Tryz.ntmps47 Tryz.results47 rfl ?_
 refine jS (jR ?_)
 refine Ops.m (qZ.alloc eS) rfl ?_
 rintro _ w1 ⟨rfl, hF1⟩
 have hb2 := hF1.blk
 have K := hF1.frm
 generalize hg2 : w.heap.size = g2 at *
 refine ja rfl (jO (jN (jv2 0 2 ?_)))
 refine jS (jR (jm rfl (je (Run.nilck rfl) (jf rfl zw rfl zdn (jl rfl zdu ((hH.frm K).blk.cell 0) ?_)))))
 refine Ops.cl (jE1 zew) (dS g F _ w1 (hH.frm K).dk) rfl ?_
 rintro e _ ⟨rfl, rfl⟩
 refine ⟨_, rfl, ?_⟩
 refine jb rfl rfl (Bin.sub_i64 _ 42 jo jo) ?_
 refine Ops.cl (jE1 Tryz.call37) (vB H.N w1 jo) rfl ?_
 rintro e w2 ⟨B1, c1, rfl, hr1, hf2, hup2⟩
 refine ⟨_, rfl, ?_⟩
 have ks1 := hF1.size
 have hb2 := hb2.frm hf2 jp
 have K := K.trans hf2 jp
 refine jm rfl (je (Run.extract rfl rfl) (je (Run.extract rfl rfl) ?_))
 refine Ops.m (qZ.alloc eS) rfl ?_
 rintro _ w3 ⟨rfl, hF3⟩
 have ks3 := K.size
 have hr10 := hr1
 have hr1 := hr1.frm hF3.frm jp
 have hb2 := hb2.frm hF3.frm jp
 have K := K.trans hF3.frm jp
 have hlt2 := hb2.lt
 refine Ops.st (qS.storeA rfl rfl zk hF3.blk rfl (dP H.N B1 c1)) ?_
 rintro w4 ⟨hb4, hf4, hs4⟩
 have ks := hf2.size
 have hne : g2 ≠ w2.heap.size := by have h2 := hF1.size; have h3 := hF1.blk.lt; omega
 generalize hg4 : w2.heap.size = g4 at *
 have hb4 : Blk w4 g4 85 (spV H.N B1 c1) := hb4
 have hb40 := hb4
 have K0 : Frm [] w4 w4 := Frm.refl _ _
 have hb2 := hb2.frm hf4 (by simpa using hne)
 have K := K.own hf4 (by simp; omega)
 have hr1l := hr1.lt (jo : 0 < (H.N + 7) / 8)
 have hB14 : ∀ x ∈ ob B1, x < g4 := fun x hx => by have := hr10.lt (jo : 0 < (H.N + 7) / 8) x hx; omega
 have hr1 : RdS w4 B1 H.N (fun _ => false) := hr1.frm hf4 (fun x hx h => by rw [za] at h; have := hB14 x hx; omega)
 have hH4 := hH.frm K
 obtain ⟨V0, hm0⟩ := yU hm
 refine ja rfl (jO (jN (jv3 0 2 4 ?_)))
 refine jS ?_
 refine VC.held (fun _ => True) jK ?_
 refine jH 1 rfl trivial (fun w0 hw0 => Run.mv rfl) ?_
 refine jH 2 rfl trivial (fun w0 hw0 => Run.nilck rfl) ?_
 refine jH 3 rfl trivial (fun w0 hw0 => Run.fieldAddr rfl zw rfl zck jd) ?_
 refine qQ.r2 0 4 rfl rfl jK jK jK jK trivial rfl rfl (Run.loadA rfl zai zk ((hb4.drawn (qV.drew _)).cells) (by first | rfl | (simp; done))) (Run.load rfl zda ((hH4.frm (qV.drew _).frm).blk.cell 2)) (Run.load rfl zda ((hH4.frm (qV.drew _).frm).blk.cell 2)) (Run.loadA rfl zai zk ((hb4.drawn (qV.drew _)).cells) (by first | rfl | (simp; done))) rfl rfl rfl rfl rfl ?_
 refine qQ.cl 5 rfl jK (jE2 Tryz.call101) (lQ H.N c1 _ _ B1 _ (fun _ => false) H.dir _ jo (hr1.frm (qV.drew _).frm jp) rfl jo (hH4.frm (qV.drew _).frm).dr.1) trivial rfl rfl ?_
 rintro e w5 ⟨hf5, ho5⟩
 obtain ⟨V1, B2, c2, hmV, rfl, hr2, hup5⟩ := ho5.resolve_right (fun h => by rw [h.1] at hm0; cases hm0)
 rw [hm0] at hmV
 cases hmV
 refine ⟨_, rfl, trivial, ?_⟩
 have k5 : Frm [] w4 w5 := (qV.drew w4).frm.trans hf5 jp
 have hb4 := hb4.frm k5 jp
 have hb2 := hb2.frm k5 jp
 have hl4 := hb4.lt
 have h4w : w.heap.size ≤ g4 := jo
 have hg4l : g4 < w4.heap.size := (Array.getElem?_eq_some_iff.1 (show w4.heap[g4]? = _ from hb40)).1
 have K := K.trans k5 jp
 have kk5 := K.size
 refine jH 6 rfl trivial (fun w0 hw0 => Run.mv rfl) ?_
 refine jH 7 rfl trivial (fun w0 hw0 => Run.extract rfl rfl) ?_
 refine jH 8 rfl trivial (fun w0 hw0 => Run.extract rfl rfl) ?_
 refine qQ.st 9 rfl jK (qS.storeA rfl rfl zk hb4 rfl (dP H.N B2 c2)) trivial rfl ?_
 rintro w6 ⟨hb4, hf6, hs6⟩
 refine ⟨trivial, ?_⟩
 have hB24 : ∀ x ∈ ob B2, g4 < x := fun x hx => by have h := hup5 x hx; rw [show w4.drew.heap.size = w4.heap.size from rfl] at h; omega
 have hr2 : RdS w6 B2 H.N V0 := hr2.frm hf6 (fun x hx h => by rw [za] at h; have := hB24 x hx; omega)
 have hb2 := hb2.frm hf6 (by simpa using hne)
 have K := K.own hf6 (by simp; omega)
 have hH6 := hH.frm K
 have hb4 : Blk w6 g4 85 (spV H.N B2 c2) := hb4
 refine jH 10 rfl trivial (fun w0 hw0 => Run.asg rfl) ?_
 refine qQ.done jK ?_
 refine jN (jv4 0 2 4 6 ?_)
 refine jS (jS (jR (jm rfl (je (Run.nilck rfl) (jf rfl zw rfl zap (jl rfl zbq (hH6.blk.cell 1) (je (Run.lenS rfl zh) ?_)))))))
 refine jx .i64 0 ?_
 refine jO (jN (jv7 0 2 4 6 31 32 33 ?_))
 refine jB ?_
 refine VC.loop (σ := Nat × Option Addr × Nat × (Nat → Bool)) (fun s => [(0, .pointer (some ⟨h, 0, none⟩)), (2, .pointer (some ⟨g2, 0, none⟩)), (4, .pointer (some ⟨g4, 0, none⟩)), (6, .int .i64 0), (31, .slice q.pA H.pairs.length q.pc), (32, .int .i64 ((H.pairs.length : Nat) : Int)), (33, .int .i64 ((s.1 : Nat) : Int))]) (fun s wr => s.1 ≤ H.pairs.length ∧ Blk wr g4 85 (spV H.N s.2.1 s.2.2.1) ∧ RdS wr s.2.1 H.N s.2.2.2 ∧ bP H.N (fun _ => false) (H.dir ++ dZ H (H.pairs.take s.1)) = some s.2.2.2 ∧ Frm [] w wr ∧ (∃ z, Blk wr g2 85 z ∧ z.size = 2) ∧ ∀ x ∈ ob s.2.1, g4 < x) (fun s => H.pairs.length - s.1) (0, B2, c2, V0) (js7 rfl rfl rfl rfl rfl rfl rfl) ⟨zg _, hb4, hr2, by simpa [dZ] using hm0, K, ⟨_, hb2, rfl⟩, hB24⟩ ?_
 rintro ⟨i, B, c, V⟩ wr ⟨hi, hb4, hr, hmi, K, ⟨z, hb2, hz⟩, hup⟩
 dsimp only at hi hb4 hr hmi hup ⊢
 refine jS (jR (jb rfl rfl (Bin.lssN _ _) (jO (jN (jS ?_)))))
 refine jD rfl (fun hc1 => ?_) fun hc1 => ?_
 ·
  have g4lt := hb4.lt
  obtain ⟨ad, hA, hel⟩ := lF (hH.pr.1.frm K jp) rfl hc1
  rw [hA]
  have hmem := fN hc1
  have hsn := qX4 H hc1
  obtain ⟨rr, hrr⟩ := qJc H H.pairs (i + 1)
  have hokx := (hH.ok.okp _ hmem).1
  have hpg := (hH.ok.pg _ hmem).2.1
  obtain ⟨row, hrow, hrl⟩ := hH.lyH _ hmem
  generalize H.pairs.getD i (0, 0) = x at hel hsn hokx hpg hrow hrl
  obtain ⟨xk, xv⟩ := x
  obtain ⟨rA, rc, rp⟩ := row
  dsimp only at hsn hokx hpg hrow hrl
  subst hrl
  obtain ⟨Vn, hmn⟩ : ∃ Vn, bP H.N (fun _ => false) (H.dir ++ dZ H (H.pairs.take (i + 1))) = some Vn := yU (b := rr) (V := U) (by rw [zm, ← hrr]; exact hm)
  have hmm : bP H.N V (H.lies xk) = some Vn := by
   rw [hsn, ← zm, mQ, hmi] at hmn
   exact hmn
  refine jQ (jN (jv7 0 2 4 6 31 32 33 ?_))
  refine jS (jB (jS (jR (je (Run.indexS _ rfl rfl zh zl jo) (je (Run.loadA rfl zdo zl hel (by first | rfl | (simp; done))) ?_)))))
  refine Ops.m (qZ.alloc eE) rfl ?_
  rintro _ w2 ⟨rfl, hF2⟩
  refine Ops.st (qS.storeA rfl rfl zl hF2.blk rfl (eI (xk, xv))) ?_
  rintro w3 ⟨hb3, hf3, hs3⟩
  have hb3 : Blk w3 wr.heap.size 128 #[.int .u64 ((xk : Nat) : Int), .int .u64 ((xv : Nat) : Int)] := hb3
  have K3 : Frm [] wr w3 := hF2.frm.own hf3 jp
  have K := K.trans K3 jp
  have hb4 := hb4.frm K3 jp
  have hb2 := hb2.frm K3 jp
  have hr := hr.frm K3 jp
  have hHr := hH.frm K
  have hg4w : w.heap.size ≤ g4 := h4w
  refine jO (jN (jv8 0 2 4 6 8 31 32 33 ?_))
  refine jS (jR (jm rfl (jb rfl rfl (Bin.eqlN _ 0) (jO (jN (jv9 0 2 4 6 8 31 32 33 38 ?_))))))
  refine VC.condT rfl (rfl) ?_
  refine VC.held (fun V => Frm [g4] w3 V) jK ?_
  have hS : Frm [g4] w3 w3.drew := (Frm.refl _ _).drew
  have n3 : wr.heap.size ≠ g4 := jo
  have nm : q.l ≠ g4 := by have := hH.mp.lt; omega
  have nh : h ≠ g4 := by have := hH.blk.lt; omega
  refine jH 1 rfl hS (fun w0 hw0 => Run.mv rfl) ?_
  refine jH 2 rfl hS (fun w0 hw0 => Run.nilck rfl) ?_
  refine jH 3 rfl hS (fun w0 hw0 => Run.fieldAddr rfl zw rfl zco jd) ?_
  refine jH 4 rfl hS (fun w0 hw0 => Run.load rfl zej ((hHr.blk.frm hw0 (by simpa using nh)).cell 3)) ?_
  refine jH 5 rfl hS (fun w0 hw0 => Run.fieldAddr rfl zbl rfl zaa jd) ?_
  refine jH 6 rfl hS (fun w0 hw0 => Run.load rfl zas ((hb3.frm hw0 (by simpa using n3)).cell 0)) ?_
  refine jH 7 rfl hS (fun w0 hw0 => Run.lookup (enc := fP) (x := xk) rfl rfl (hHr.mp.frm hw0 (by simpa using nm)) (Go.Maps.int_keyed zu) zdl wL (gC _ hokx)) ?_
  rw [show (lyV q.ly xk).getD _ = .slice rA (H.lies xk).length rc by rw [lyV, hrow]; rfl]
  refine qQ.r1 0 rfl jK hS (Run.loadA rfl zai zk ((hb4.drawn (qV.drew _)).cells) (by first | rfl | (simp; done))) trivial rfl rfl ?_
  refine qQ.cl 8 rfl jK (jE2 Tryz.call101) (lQ H.N c _ _ B _ V (H.lies xk) _ jo (hr.frm (qV.drew _).frm jp) rfl jo ((hHr.ly _ _ hrow).1.1.frm (qV.drew _).frm jp)) trivial rfl rfl ?_
  rintro e w5 ⟨hf5, ho5⟩
  obtain ⟨V1, B5, c5, hmV, rfl, hr5, hup5⟩ := ho5.resolve_right (fun h => by rw [h.1] at hmm; cases hmm)
  rw [hmm] at hmV
  cases hmV
  have hS := hS.trans hf5 jp
  refine ⟨_, rfl, hS, ?_⟩
  have k5 : Frm [] w3 w5 := (qV.drew w3).frm.trans hf5 jp
  have hl4 := hb4.lt
  have hb4 := hb4.frm k5 jp
  have hb2 := hb2.frm k5 jp
  have K := K.trans k5 jp
  refine jH 9 rfl hS (fun w0 hw0 => Run.mv rfl) ?_
  refine jH 10 rfl hS (fun w0 hw0 => Run.extract rfl rfl) ?_
  refine jH 11 rfl hS (fun w0 hw0 => Run.extract rfl rfl) ?_
  refine qQ.st 12 rfl jK (qS.storeA rfl rfl zk hb4 rfl (dP H.N B5 c5)) trivial rfl ?_
  rintro w6 ⟨hb4, hf6, hs6⟩
  have hS := hS.trans hf6 (fun x hx => .inl hx)
  refine ⟨hS, ?_⟩
  have hB24 : ∀ x ∈ ob B5, g4 < x := fun x hx => by have h := hup5 x hx; rw [show w3.drew.heap.size = w3.heap.size from rfl] at h; omega
  have hr5 : RdS w6 B5 H.N Vn := hr5.frm hf6 (fun x hx h => by rw [za] at h; have := hB24 x hx; omega)
  have hb2 := hb2.frm hf6 (by simpa using hne)
  have K := K.own hf6 (by simp; omega)
  have hb4 : Blk w6 g4 85 (spV H.N B5 c5) := hb4
  refine jH 13 rfl hS (fun w0 hw0 => Run.asg rfl) ?_
  refine qQ.done jK ?_
  refine qH (jN ?_)
  refine jv7 0 2 4 6 31 32 33 ?_
  refine jR (jb rfl rfl (Bin.add_i64 _ 1 jo) (jm rfl (jO ?_)))
  refine jN ⟨(i + 1, B5, c5, Vn), (js7 rfl rfl rfl rfl rfl rfl rfl), ?_, ?_⟩
  · exact ⟨hc1, hb4, hr5, hmn, K, ⟨_, hb2, hz⟩, hB24⟩
  first | omega | (dsimp only; omega)
 refine jX ?_
 refine qJ (qJ (qT ?_))
 refine jN (jv3 2 4 6 ?_)
 refine jS (jR (je (Run.loadA rfl zai zk hb4.cells (by first | rfl | (simp; done))) (jm rfl (jb rfl rfl (Bin.eqlN _ 0) ?_))))
 refine Ops.st (qS.storeA rfl rfl zk hb2 (by rw [hz]; rfl) (dP H.N B c)) ?_
 rintro w7 ⟨hb2, hf7, hs7⟩
 refine ja rfl (jO (jN (jv2 2 3 ?_)))
 refine jT ?_
 refine eO ?_
 refine cY rfl zai zk (hb2.cells) (by first | rfl | (simp; done) | (simp [*]; done)) ?_
 refine dK rfl ?_
 refine cV ?_
 obtain rfl : i = H.pairs.length := jo
 rw [zcd, show H.dir ++ dZ H H.pairs = bD H from rfl, hm] at hmi
 cases hmi
 exact ⟨B, c, rfl, hr.frm hf7 (fun x hx h => by rw [za] at h; have := hup x hx; omega), K.own hf7 (by simp; omega), fun x hx => by have := hup x hx; omega⟩
theorem qQf (U : Nat → Bool) (h g : Nat) (F : List Nat) (H : Hm) (q : HtQ) (w : World) (hH : IsHt w h g F H q) (hm : bP H.N (fun _ => false) (bD H) = some U) : Calls Tryz.prog 47 #[.pointer (some ⟨h, 0, none⟩)] w fun e w' => ∃ B c, e = .returned (.tuple #[.agg (spV H.N B c), .bool true]) ∧ RdS w' B H.N U ∧ Frm [] w w' ∧ ∀ x ∈ ob B, w.heap.size ≤ x :=
 rX U _ _ h g F H q w hH.hc hm
end
section
open Go.RowKit
theorem wX (H : Hm) (hk : H.dk.ok) : ∀ l : List Nat, (∀ p ∈ l, p < H.N) → (dM H l).length = 126 * l.length
 | [], _ => rfl
 | p :: r, h => by
  have h1 := wX H hk r (fun x hx => h x (zbf _ hx))
  have h2 := (hk.secAt (show 42 + p < H.dk.has.length by have := h p jp; unfold Hm.N at this; omega)).1
  rw [dM, zar, zd, zj, h2]
  rw [dM] at h1
  rw [h1, zv]
  omega
theorem yB (H : Hm) (hk : H.dk.ok) (l : List Nat) (h : ∀ p ∈ l, p < H.N) : ∀ b ∈ dM H l, b < 256 := fun b hb => by
 obtain ⟨p, hp, hb⟩ := List.mem_flatMap.1 hb
 exact (hk.secAt (show 42 + p < H.dk.has.length by have := h p hp; unfold Hm.N at this; omega)).2 b (zav hb)
theorem qX5 (H : Hm) {l : List Nat} {i : Nat} (h : i < l.length) : dM H (l.take (i + 1)) = dM H (l.take i) ++ (H.dk.sec (42 + l.getD i 0)).drop 2 := by
 rw [zbs, zb h, zc, zb h, dM, zao]
 simp [dM]
set_option maxHeartbeats 1000000 in
theorem wZ (id : Nat) (h g : Nat) (F : List Nat) (H : Hm) (q : HtQ) (w : World) (hH : IsHt w h g F H q) (hid : id < 18446744073709551616) : Calls Tryz.prog 22 #[.pointer (some ⟨h, 0, none⟩), .int .u64 ((id : Nat) : Int)] w fun e w' => ∃ B d, e = .returned (.tuple #[.slice B (eZ H id).2.length d, .int .i64 (((eZ H id).1 : Nat) : Int)]) ∧ Rd w' 1 B (eZ H id).2.length (NB (eZ H id).2) ∧ Frm [] w w' ∧ ∀ x ∈ ob B, w.heap.size ≤ x := by
 have h600 := hH.ok.n600
 have hbg := hH.ok.big
 have hsz := hH.ok.sz
 have hNe : H.N = H.dk.has.length - 42 := rfl
 have hdk := hH.dk.ok
 refine VC.calls (nt := 78) (res := #[.tmp 4, .tmp 5]) Tryz.func22 rfl Tryz.ntmps22 Tryz.results22 rfl ?_
 refine jS (jR (ja rfl (jz 0 (jO (jN (jv2 0 1 ?_))))))
 refine jS (jR (jm rfl (je (Run.nilck rfl) (jf rfl zw rfl zap (jl rfl zbq (hH.blk.cell 1) (jM ?_))))))
 refine Ops.cl (jE2 Tryz.call42) (lX _ _ id _ H.pairs w rfl jo hH.pr.1 hH.ok.okp hH.ok.srt hid) rfl ?_
 rintro e w1 ⟨rfl, K⟩
 refine ⟨_, rfl, ?_⟩
 have hH1 := hH.frm K
 refine jm rfl (je (Run.extract rfl rfl) (je (Run.extract rfl rfl) (ja rfl (ja rfl (jO (jN (jv4 0 1 6 7 ?_)))))))
 refine jS (jS (jR (jm rfl (je (Run.not rfl) (jO (jN (jv4 0 1 6 23 ?_)))))))
 refine VC.condB rfl (fun hc1 => ?_) (fun hc1 => ?_)
 ·
  have hn : id ∉ H.pairs.map (·.1) := by simpa using hc1
  have eg : eZ H id = (6, []) := by unfold eZ; rw [if_pos hn]
  rw [eg]
  refine jS (jR (ja rfl (jz 6 (jO (jN (jv2 4 5 ?_))))))
  refine jT ?_
  refine qP (cQ rfl rfl ?_)
  exact ⟨none, 0, rfl, Rd.nil _ _ _, K, by simp [ob]⟩
 have hn : id ∈ H.pairs.map (·.1) := by simpa using hc1
 obtain ⟨hlt, hmem, hke⟩ := tI hH.ok.srt hn
 have hokx := hH.ok.okp _ hmem
 have hpg := hH.ok.pg _ hmem
 obtain ⟨row, hrow, hrl⟩ := hH.lyH _ hmem
 obtain ⟨ad, hA, hel⟩ := lF hH1.pr.1 rfl hlt
 have eoff : H.dk.off = true → eZ H id = (10, []) := fun ho => by unfold eZ; rw [if_neg (not_not_intro hn), if_pos ho]
 have eon : H.dk.off = false → eZ H id = if crcM ((dM H (H.lies id)).take (fR (H.pairs.getD (posM H.pairs id) (0, 0)))) = (H.pairs.getD (posM H.pairs id) (0, 0)).2 / 4294967296 then (0, (dM H (H.lies id)).take (fR (H.pairs.getD (posM H.pairs id) (0, 0)))) else (9, []) := fun ho => by
  unfold eZ
  rw [if_neg (not_not_intro hn), if_neg (by simp [ho])]
 have helw : ∀ V, Frm [] w V → ∀ j v, (prC (H.pairs.getD (posM H.pairs id) (0, 0)))[j]? = some v → V.cell? ((ad.add (posM H.pairs id * 2)).add j) = some v := fun V hV => by
  obtain ⟨ad2, he, h2⟩ := lF (hH.frm hV).pr.1 rfl hlt
  rw [hA] at he
  cases he
  exact h2
 generalize hx : H.pairs.getD (posM H.pairs id) (0, 0) = x at hel helw hokx hke hpg hrow hrl eon
 obtain ⟨xk, xv⟩ := x
 obtain ⟨rA, rc, rp⟩ := row
 dsimp only at hokx hke hpg hrow hrl
 subst hke hrl
 obtain ⟨hpg1, hpg2, hpg3⟩ := hpg
 have hrr := (hH.ly _ _ hrow).1.1
 dsimp only at hrr
 have K0 := K
 refine jQ (jN (jv3 0 1 6 ?_))
 refine jS (jR (ja rfl (jO (jN (jS (jS (jR (jm rfl (je (Run.nilck rfl) (jf rfl zw rfl zco (jl rfl zej (hH1.blk.cell 3) (jm rfl (je (Run.lookup (enc := fP) (x := xk) rfl rfl hH1.mp (Go.Maps.int_keyed zu) zdl wL (gC _ hid)) ?_)))))))))))))
 rw [show (lyV q.ly xk).getD _ = .slice rA (H.lies xk).length rc by rw [lyV, hrow]; rfl]
 refine je (Run.lenS rfl zt) ?_
 refine jx .i64 0 ?_
 refine jO (jN (jv6 0 6 8 29 30 31 ?_))
 refine jB ?_
 refine VC.loop (σ := Nat × Option Addr × Nat) (fun s => [(0, .pointer (some ⟨h, 0, none⟩)), (6, .int .i64 ((posM H.pairs xk : Nat) : Int)), (8, .slice s.2.1 (126 * s.1) s.2.2), (29, .slice rA (H.lies xk).length rc), (30, .int .i64 (((H.lies xk).length : Nat) : Int)), (31, .int .i64 ((s.1 : Nat) : Int))]) (fun s wr => s.1 ≤ (H.lies xk).length ∧ (H.dk.off = true → s.1 = 0) ∧ Own wr 5 1 s.2.1 (126 * s.1) s.2.2 (NB (dM H ((H.lies xk).take s.1))) ∧ Frm [] w wr ∧ ∀ x ∈ ob s.2.1, w.heap.size ≤ x) (fun s => (H.lies xk).length - s.1) (0, none, 0) (js6 rfl rfl rfl rfl rfl rfl) ⟨zg _, fun _ => rfl, Own.nil _ _ _, K, by simp [ob]⟩ ?_
 rintro ⟨i, B, d⟩ wr ⟨hi, ho0, ho, K, hup⟩
 dsimp only at hi ho0 ho hup ⊢
 refine jS (jR (jb rfl rfl (Bin.lssN _ _) (jO (jN (jS ?_)))))
 refine jD rfl (fun hc2 => ?_) fun hc2 => ?_
 ·
  obtain ⟨ad3, hrA, hc3⟩ := rdZ (hrr.frm K jp) rfl hc2
  subst hrA
  have hsn := qX5 H hc2
  have hpN := hpg1 _ (bM hc2)
  have hsec := hdk.secAt (jo : 42 + (H.lies xk).getD i 0 < H.dk.has.length)
  generalize (H.lies xk).getD i 0 = p at hc3 hsn hpN hsec
  refine jQ (jN (jv6 0 6 8 29 30 31 ?_))
  refine jS (jB (jS (jR (je (Run.index1 _ rfl rfl zt zq jo) (jl rfl zag hc3 (ja rfl (jO (jN (jv7 0 6 8 10 29 30 31 ?_)))))))))
  refine jS (jR (jm rfl (jM ?_)))
  refine Ops.cl (jE2 Tryz.call71) (qX3 p h g F H q wr (hH.frm K) hpN) rfl ?_
  rintro e w2 ⟨B2, n2, rfl, hn2, hr2, hf2, hup2⟩
  refine ⟨_, rfl, ?_⟩
  have ho := ho.frm hf2 jp
  have K := K.trans hf2 jp
  have ks := K.size
  refine jm rfl (je (Run.extract rfl rfl) (je (Run.extract rfl rfl) (ja rfl (ja rfl (jO (jN (jv8 0 6 8 11 12 29 30 31 ?_)))))))
  refine jS (jS (jR (jm rfl (je (Run.not rfl) (jO (jN (jv8 0 6 8 11 29 30 31 42 ?_)))))))
  refine VC.condB rfl (fun hc3 => ?_) (fun hc3 => ?_)
  ·
   have hoff : H.dk.off = true := by simpa using hc3
   rw [eoff hoff]
   refine jS (jR (ja rfl (jz 10 (jO (jN (jv2 4 5 ?_))))))
   refine jT ?_
   refine qP (qO (qP (qP (qO (qP (cQ rfl rfl ?_))))))
   exact ⟨none, 0, rfl, Rd.nil _ _ _, K, by simp [ob]⟩
  have hoff : H.dk.off = false := by simpa using hc3
  have hrd : H.dk.read (42 + p) = (0, H.dk.sec (42 + p)) := by unfold Dk.read; rw [if_neg jo, if_neg (by simp [hoff])]
  rw [hrd] at hn2 hr2
  dsimp only at hn2 hr2
  rw [hsec.1] at hn2
  subst hn2
  have hcut := hr2.cut (l := 2) (r := 128) (cap := 128) jo (zp _) (zp _)
  rw [zf (by rw [zj, NB, zo, hsec.1]; omega), zcm, (lO _ _).2] at hcut
  refine jQ (jN (jv7 0 6 8 11 29 30 31 ?_))
  refine jR (jm rfl (jm rfl (je (Run.sliceS 2 _ rfl ze zae (evB.some_ rfl) evB.none_ jo jo) ?_)))
  refine Ops.m (qZ.app rfl rfl ze (dG) rfl jd ho hcut (cB _) jo jo) rfl ?_
  rintro _ w6 ⟨B6, d6, rfl, ho6, hf6, hob6⟩
  rw [← cP, ← hsn] at ho6
  rw [show 126 * i + (128 - 2) = 126 * (i + 1) by omega] at ho6 ⊢
  refine ja rfl (jO ?_)
  refine qH (jN ?_)
  refine jv6 0 6 8 29 30 31 ?_
  refine jR (jb rfl rfl (Bin.add_i64 _ 1 jo) (jm rfl (jO ?_)))
  refine jN ⟨(i + 1, B6, d6), (js6 rfl rfl rfl rfl rfl rfl), ?_, ?_⟩
  · exact ⟨hc2, fun hz => absurd hz (by simp [hoff]), ho6, K.own hf6 hup, (Fk.of_app hf6 hob6).up hup ks⟩
  first | omega | (dsimp only; omega)
 refine jX ?_
 refine qJ (qJ (qT ?_))
 refine jN (jv3 0 6 8 ?_)
 refine jS (jS (jR (jm rfl (je (Run.nilck rfl) (jf rfl zw rfl zdn (jl rfl zdu ((hH.frm K).blk.cell 0) ?_))))))
 refine Ops.cl (jE1 Tryz.call72) (zU g F H.dk wr (hH.frm K).dk) rfl ?_
 rintro e _ ⟨rfl, rfl⟩
 refine ⟨_, rfl, ?_⟩
 obtain rfl : i = (H.lies xk).length := jo
 rw [zcd] at ho
 have hHr := hH.frm K
 refine je (Run.not rfl) (jO (jN (jv4 0 6 8 53 ?_)))
 refine VC.condB rfl (fun hc4 => ?_) (fun hc4 => ?_)
 ·
  have hoff : H.dk.off = true := by simpa using hc4
  rw [eoff hoff]
  refine jS (jR (ja rfl (jz 10 (jO (jN (jv2 4 5 ?_))))))
  refine jT ?_
  refine qP (cQ rfl rfl ?_)
  exact ⟨none, 0, rfl, Rd.nil _ _ _, K, by simp [ob]⟩
 have hoff : H.dk.off = false := by simpa using hc4
 rw [eon hoff]
 have hrl := wX H hdk _ hpg1
 have hlp : fR (xk, xv) = xv / 65536 % 65536 := rfl
 have hle := ho.le
 rw [hlp] at hpg3 ⊢
 refine jQ (jN (jv3 0 6 8 ?_))
 refine jS (jR (jm rfl (jm rfl (je (Run.nilck rfl) (jf rfl zw rfl zap (jl rfl zbq (hHr.blk.cell 1) ?_))))))
 rw [hA]
 refine jm rfl (je (Run.indexS _ rfl rfl zh zl jo) (je (Run.loadA rfl zdo zl (helw _ K) (by first | rfl | (simp; done))) ?_))
 refine Ops.cl (jE1 Tryz.call73) (lI (xk, xv) wr hokx.2) rfl ?_
 rintro e w3 ⟨rfl, K3⟩
 refine ⟨_, rfl, ?_⟩
 have K := K.trans K3 jp
 have ho := ho.frm K3 jp
 dsimp only at hle ⊢
 refine je (Run.sliceS 0 _ rfl ze zae evB.none_ (evB.some_ rfl) jo jo) ?_
 rw [cT, zbk, zbk]
 have hob := (ho.rd.cut (l := 0) (r := xv / 65536 % 65536) (cap := d) (zg _) hpg3 hle)
 rw [cT, zbk, zcz, zbb, zcm, (lO _ _).1] at hob
 have hol : ((dM H (H.lies xk)).take (xv / 65536 % 65536)).length = xv / 65536 % 65536 := by rw [zi, hrl]; omega
 have hlt8 : ∀ b ∈ (dM H (H.lies xk)).take (xv / 65536 % 65536), b < 256 := fun b hb => yB H hdk _ hpg1 b (zn hb)
 generalize (dM H (H.lies xk)).take (xv / 65536 % 65536) = out at hob hol hlt8 ⊢
 generalize xv / 65536 % 65536 = ln at *
 refine ja rfl (jO (jN (jv3 0 6 8 ?_)))
 refine jS (jS ?_)
 refine VC.held (fun V => Frm [] w V) jK ?_
 have hS : Frm [] w w3.drew := K.drawn (qV.drew _)
 have hob := hob.drawn (qV.drew w3)
 refine jH 0 rfl hS (fun w0 hw0 => Run.mv rfl) ?_
 refine jH 3 rfl hS (fun w0 hw0 => Run.mv rfl) ?_
 refine jH 4 rfl hS (fun w0 hw0 => Run.nilck rfl) ?_
 refine jH 5 rfl hS (fun w0 hw0 => Run.fieldAddr rfl zw rfl zap jd) ?_
 refine jH 6 rfl hS (fun w0 hw0 => Run.load rfl zbq ((hH.frm hw0).blk.cell 1)) ?_
 rw [hA]
 refine jH 7 rfl hS (fun w0 hw0 => Run.mv rfl) ?_
 refine jH 8 rfl hS (fun w0 hw0 => Run.indexS _ rfl rfl zh zl jo) ?_
 refine jH 9 rfl hS (fun w0 hw0 => Run.fieldAddr rfl zbl rfl zaa jd) ?_
 refine jH 10 rfl hS (fun w0 hw0 => Run.load rfl zas (helw _ hw0 1 _ rfl)) ?_
 refine jH 11 rfl hS (fun w0 hw0 => Run.bin rfl rfl (Bin.shr_u64 _ 32 jo)) ?_
 rw [show xv / 2 ^ 32 = xv / 4294967296 from rfl]
 refine qQ.cl 1 rfl jK (jE1 Tryz.call74) (pN B d ln out _ hol jo hlt8 hob) trivial rfl rfl ?_
 rintro e w4 ⟨rfl, hf4⟩
 have hS := hS.trans hf4 jp
 refine ⟨_, rfl, hS, ?_⟩
 have hob := hob.frm hf4 jp
 have hc32 := nD out
 refine jH 2 rfl hS (fun w0 hw0 => Run.convN _ rfl zcl zu (by simp only [bmax]; omega)) ?_
 refine jH 12 rfl hS (fun w0 hw0 => Run.bin rfl rfl (Bin.neqN _ _)) ?_
 refine qQ.done jK ?_
 refine jN (jv2 8 76 ?_)
 refine jD rfl (fun hc5 => ?_) fun hc5 => ?_
 ·
  rw [if_neg hc5]
  refine jS (jR (ja rfl (jz 9 (jO (jN (jv2 4 5 ?_))))))
  refine jT ?_
  refine qP (cQ rfl rfl ?_)
  exact ⟨none, 0, rfl, Rd.nil _ _ _, hS, by simp [ob]⟩
 rw [if_pos (Classical.not_not.1 hc5)]
 refine jQ (jN (jv1 8 ?_))
 refine jS (jR (jm rfl (ja rfl (jz 0 (jO (jN (jv2 4 5 ?_)))))))
 refine jT ?_
 refine cQ rfl rfl ?_
 rw [← hol] at hob ⊢
 exact ⟨B, d, rfl, hob, hS, hup⟩
end
section
open Go.RowKit
theorem MpF.ne_own {P : Program} {k : TypeId} {κ : Type} {enc : κ → Value} {w : World} {g : Nat} {M : κ → Option Value} (h : MpF P k enc w g M) {e sz n c : Nat} {A : Option Addr} {xs : List Value} (ho : Own w e sz A n c xs) : g ∉ ob A := by
 intro hg
 rcases ho.cases with ⟨rfl, _⟩ | ⟨b, cur, rfl, hb, _⟩
 · simp [ob] at hg
 simp only [ob, za] at hg
 exact h.ne_blk hb hg
theorem Blk.ne_own {w : World} {g : Nat} {t : TypeId} {cs : Array Value} (hb : Blk w g t cs) {e sz n c : Nat} {A : Option Addr} {xs : List Value} (ho : Own w e sz A n c xs) (hne : t ≠ e) : g ∉ ob A := by
 intro hg
 rcases ho.cases with ⟨rfl, _⟩ | ⟨b, cur, rfl, hb', _⟩
 · simp [ob] at hg
 simp only [ob, za] at hg
 exact hb.ne hb' hne hg
theorem qJd (l : List Nat) (k : Nat) : (ZN l).take k = ZN (l.take k) ∧ (ZN l).drop k = ZN (l.drop k) := ⟨by simp [ZN, zcp], by simp [ZN, List.map_drop]⟩
theorem RdX.take {w : World} {X : List Nat} {A : Option Addr} {n k : Nat} {l : List Nat} (h : RdX w X 1 A n (ZN l)) (hk : k ≤ n) : RdX w X 1 A k (ZN (l.take k)) := by
 have h1 := h.1.cut (l := 0) (r := k) (cap := n + 1) (zg _) hk jo
 rw [cT, zcz, zbb, zbk, zcm, (qJd _ _).1] at h1
 exact ⟨h1, fun h0 => h.2 jo⟩
theorem RdX.drop {w : World} {X : List Nat} {A : Option Addr} {n k c : Nat} {l : List Nat} (h : RdX w X 1 A n (ZN l)) (hl : l.length = n) (hk : k ≤ n) (hc : n ≤ c) : RdX w X 1 (cG A c k 1) (n - k) (ZN (l.drop k)) := by
 have h1 := h.1.cut (l := k) (r := n) (cap := c) hk (zp _) hc
 rw [(qJd _ _).2, zf (by rw [ZN, zo, zj]; omega), zcm] at h1
 exact ⟨h1, fun h0 y hy => h.2 jo y (by rw [gP] at hy; exact hy)⟩
theorem RdX.more {w w1 : World} {X : List Nat} {sz n : Nat} {A : Option Addr} {xs : List Value} (h : RdX w X sz A n xs) (k : Frm [] w w1) : RdX w1 (w.heap.size :: X) sz A n xs := ⟨h.1.frm k jp, fun h0 y hy => by
 have h1 := h.2 h0 y hy
 refine ⟨zz h1.1 k.size, fun hx => ?_⟩
 rcases zx.1 hx with rfl | hx
 · exact zbv _ h1.1
 exact h1.2 hx⟩
theorem RdX.less {w w1 : World} {X : List Nat} {g sz n : Nat} {A : Option Addr} {xs : List Value} (h : RdX w (g :: X) sz A n xs) (k : Frm [g] w w1) : RdX w1 X sz A n xs := ⟨h.1.frm k (fun h0 y hy hx => by
 rw [za] at hx
 subst hx
 exact (h.2 h0 _ hy).2 jp), fun h0 y hy => ⟨zz (h.2 h0 y hy).1 k.size, fun hx => (h.2 h0 y hy).2 (by simp [hx])⟩⟩
theorem qQ5 (f : Nat → Option Lq) (x : Nat) (r : Lq) : (fun y => if y = x then some (lqV r) else lyV f y) = lyV (fun y => if y = x then some r else f y) := by
 funext y
 unfold lyV
 by_cases h : y = x <;> simp [h]
theorem qV0 (f : Nat → Option Lq) (x : Nat) : (fun y => if y = x then none else lyV f y) = lyV (fun y => if y = x then none else f y) := by
 funext y
 unfold lyV
 by_cases h : y = x <;> simp [h]
def sA (l : List Pu) : Prop := ∀ x ∈ l, x.1 ≤ 1000000 ∧ x.2.length = 128 ∧ ∀ b ∈ x.2, b < 256
theorem sI {a b : List Pu} (h : sA a) (k : sA b) : sA (a ++ b) := fun x hx => by
 rcases zcb.1 hx with h1 | h1
 · exact h x h1
 exact k x h1
theorem uQ {D pg : List Nat} (hB : ∀ b ∈ D, b < 256) (hp : ∀ p ∈ pg, p < 2048) : sA (dY D pg) := fun x hx => by
 obtain ⟨i, hi, rfl⟩ := List.mem_map.1 hx
 have h1 := hp _ (bM (List.mem_range.1 hi))
 exact ⟨by dsimp only; omega, pL _ _ _, yW hB _ _⟩
structure DrQ where
 S : Option Addr
 sc : Nat
 ps : List Pq
 A : Option Addr
 ca : Nat
 ly : Nat → Option Lq
 fA : Option Addr
 fc : Nat
 dv : Value
def DrQ.X (g7 m : Nat) (t : DrQ) : List Nat := g7 :: m :: (ob t.S ++ ob t.A)
def plV (S : Option Addr) (n sc : Nat) (A : Option Addr) (na ca m : Nat) (dv : Value) : Array Value := #[.slice S n sc, .slice A na ca, .map (some m), dv]
structure OkD (D : Dw) : Prop where
 srt : Srt D.pairs
 okp : OkP D.pairs
 frb : ∀ p ∈ D.free, p < 2048
 pu : sA D.puts
structure IsDr (w wr : World) (X : List Nat) (g7 m : Nat) (D : Dw) (t : DrQ) (ex : List Nat) : Prop where
 ok : OkD D
 K : Frm [] w wr
 blk : Blk wr g7 104 (plV t.S t.ps.length t.sc t.A D.pairs.length t.ca m t.dv)
 S : Own wr 132 2 t.S t.ps.length t.sc (t.ps.flatMap pqC)
 pu : puL t.ps = D.puts
 ps : PuS w.heap.size wr (t.X g7 m) t.ps
 A : Own wr 128 2 t.A D.pairs.length t.ca (PC2 D.pairs)
 mp : MpU wr m t.ly
 ly : ∀ id r, t.ly id = some r → RdX w X 1 r.1 r.2.2.length (ZN r.2.2) ∧ id < 18446744073709551616
 lyD : ∀ x ∈ D.pairs, x.1 ∉ ex → ∃ r, t.ly x.1 = some r ∧ r.2.2 = D.lies x.1
 fr : RdX w X 1 t.fA D.free.length (ZN D.free)
 fc : D.free.length ≤ t.fc
 up : ∀ x ∈ t.X g7 m, w.heap.size ≤ x
section
variable {w wr w1 w2 : World} {X ex : List Nat} {g7 m : Nat} {D : Dw} {t : DrQ}
theorem IsDr.frm (d : IsDr w wr X g7 m D t ex) (k : Frm [] wr w1) : IsDr w w1 X g7 m D t ex :=
 ⟨d.ok, d.K.trans k jp, d.blk.frm k jp, d.S.frm k jp, d.pu, d.ps.frm k, d.A.frm k jp, d.mp.frm k jp, d.ly, d.lyD, d.fr, d.fc, d.up⟩
theorem IsDr.apart (d : IsDr w wr X g7 m D t ex) : g7 ≠ m ∧ g7 ∉ ob t.S ∧ g7 ∉ ob t.A ∧ m ∉ ob t.S ∧ m ∉ ob t.A ∧ (∀ x ∈ ob t.S, x ∉ ob t.A) ∧ (∀ x ∈ ob t.A, x ∉ ob t.S) :=
 ⟨fun h => d.mp.ne_blk d.blk h.symm, Blk.ne_own d.blk d.S jd, Blk.ne_own d.blk d.A jd, d.mp.ne_own d.S, d.mp.ne_own d.A, d.S.ne_own d.A jd, d.A.ne_own d.S jd⟩
theorem IsDr.base {S : List Nat} {t' : DrQ} (d : IsDr w wr X g7 m D t ex) (k : Frm S wr w2) (hS : ∀ x ∈ S, x ∈ t.X g7 m) (hX : ∀ x ∈ t'.X g7 m, x ∈ t.X g7 m ∨ wr.heap.size ≤ x) : Frm [] w w2 ∧ (∀ x ∈ t'.X g7 m, w.heap.size ≤ x) ∧ PuS w.heap.size w2 (t'.X g7 m) t.ps :=
 ⟨d.K.own k (fun x hx => d.up x (hS x hx)), fun x hx => by
  rcases hX x hx with h | h
  · exact d.up x h
  exact zaw d.K.size h, d.ps.fk ⟨k.mono (fun x hx => .inl (hS x hx)), hX⟩⟩
theorem IsDr.erase (d : IsDr w wr X g7 m D t ex) (id : Nat) {n : Nat} (hn : n = (bB D.pairs id ++ bH D.pairs id).length) (ho : Own w1 128 2 t.A n t.ca (PC2 (bB D.pairs id ++ bH D.pairs id))) (k1 : Frm (ob t.A) wr w1)
  (hb : Blk w2 g7 104 (plV t.S t.ps.length t.sc t.A n t.ca m t.dv)) (k2 : Frm [g7] w1 w2) : IsDr w w2 X g7 m { D with pairs := bB D.pairs id ++ bH D.pairs id } t ex := by
 subst hn
 obtain ⟨h1, h2, h3, h4, h5, h6, h7⟩ := d.apart
 have k : Frm (g7 :: ob t.A) wr w2 := (k1.mono (fun x hx => .inl (by simp [hx]))).trans k2 (fun x hx => .inl (by simp at hx; simp [hx]))
 obtain ⟨b1, b2, b3⟩ := d.base (t' := t) k (fun x hx => by rcases zx.1 hx with rfl | hx; simp [DrQ.X]; simp [DrQ.X, hx]) (fun x hx => .inl hx)
 have hmem : ∀ x ∈ bB D.pairs id ++ bH D.pairs id, x ∈ D.pairs := fun x hx => by
  rcases zcb.1 hx with h | h <;> exact (List.mem_filter.1 h).1
 exact ⟨⟨qQ0 d.ok.srt id, fun x hx => d.ok.okp x (hmem x hx), d.ok.frb, d.ok.pu⟩, b1, hb, d.S.frm k (fun x hx h => by
  rcases zx.1 h with rfl | h
  · exact h2 hx
  · exact h6 x hx h), d.pu, b3, ho.frm k2 (fun x hx h => by rw [za] at h; subst h; exact h3 hx), d.mp.frm k (fun h => by
  rcases zx.1 h with h | h
  · exact h1 h.symm
  exact h5 h), d.ly, fun x hx => d.lyD x (hmem x hx), d.fr, d.fc, b2⟩
theorem IsDr.unlie (d : IsDr w wr X g7 m D t ex) (id : Nat) (hid : id ∉ D.pairs.map (·.1)) (hm : MpF Tryz.prog 54 fP w2 m (fun y => if y = id then none else lyV t.ly y)) (k : Frm [m] wr w2) : IsDr w w2 X g7 m D { t with ly := fun y => if y = id then none else t.ly y } ex := by
 obtain ⟨h1, h2, h3, h4, h5, h6, h7⟩ := d.apart
 obtain ⟨b1, b2, b3⟩ := d.base (t' := { t with ly := fun y => if y = id then none else t.ly y }) k (fun x hx => by rw [za] at hx; subst hx; simp [DrQ.X]) (fun x hx => .inl hx)
 rw [qV0] at hm
 refine ⟨d.ok, b1, d.blk.frm k (by simpa using h1), d.S.frm k (fun x hx h => by rw [za] at h; subst h; exact h4 hx), d.pu, b3, d.A.frm k (fun x hx h => by rw [za] at h; subst h; exact h5 hx), hm, fun y r hy => ?_, fun x hx he => ?_, d.fr, d.fc, b2⟩
 ·
  dsimp only at hy
  by_cases h : y = id
  · rw [if_pos h] at hy; cases hy
  rw [if_neg h] at hy; exact d.ly y r hy
 dsimp only
 rw [if_neg (fun h => hid (List.mem_map.2 ⟨x, hx, h⟩))]
 exact d.lyD x hx he
theorem IsDr.puts (d : IsDr w wr X g7 m D t ex) {qs : List Pq} {S1 : Option Addr} {n1 sc1 : Nat} {us : List Pu} (hn : n1 = (t.ps ++ qs).length) (ho : Own w1 132 2 S1 n1 sc1 ((t.ps ++ qs).flatMap pqC)) (k1 : Frm (ob t.S) wr w1) (hob : ob S1 = ob t.S ∨ ob S1 = [wr.heap.size])
  (hb : Blk w2 g7 104 (plV S1 n1 sc1 t.A D.pairs.length t.ca m t.dv)) (k2 : Frm [g7] w1 w2) (hus : puL qs = us) (hok : sA us) (hq : PuS w.heap.size w2 (g7 :: m :: (ob S1 ++ ob t.A)) qs) (ex' : List Nat) :
  IsDr w w2 X g7 m { D with puts := D.puts ++ us } { t with S := S1, sc := sc1, ps := t.ps ++ qs } ex := by
 subst hn hus
 obtain ⟨h1, h2, h3, h4, h5, h6, h7⟩ := d.apart
 have k : Frm (g7 :: ob t.S) wr w2 := (k1.mono (fun x hx => .inl (by simp [hx]))).trans k2 (fun x hx => .inl (by simp at hx; simp [hx]))
 obtain ⟨b1, b2, b3⟩ := d.base (t' := { t with S := S1, sc := sc1, ps := t.ps ++ qs }) k (fun x hx => by rcases zx.1 hx with rfl | hx; simp [DrQ.X]; simp [DrQ.X, hx]) (fun x hx => by
  simp only [DrQ.X, zx, zcb] at hx ⊢
  rcases hx with h | h | h | h
  · exact .inl (.inl h)
  · exact .inl (.inr (.inl h))
  ·
   rcases hob with e | e
   · rw [e] at h; exact .inl (.inr (.inr (.inl h)))
   rw [e, za] at h; exact .inr (zfv h.symm)
  exact .inl (.inr (.inr (.inr h))))
 refine ⟨⟨d.ok.srt, d.ok.okp, d.ok.frb, sI d.ok.pu hok⟩, b1, hb, ho.frm k2 (fun x hx h => ?_), ?_, b3.app hq, d.A.frm k (fun x hx h => ?_), d.mp.frm k (fun h => ?_), d.ly, d.lyD, d.fr, d.fc, b2⟩
 ·
  rw [za] at h
  subst h
  rcases hob with e | e
  · rw [e] at hx; exact h2 hx
  rw [e, za] at hx; have := d.blk.lt; omega
 ·
  show puL (t.ps ++ qs) = D.puts ++ puL qs
  rw [puL, zy, ← d.pu]
  rfl
 ·
  rcases zx.1 h with rfl | h
  · exact h3 hx
  exact h7 x hx h
 rcases zx.1 h with h | h
 · exact h1 h.symm
 exact h4 h
theorem IsDr.ins (d : IsDr w wr X g7 m D t []) (id v : Nat) {A1 : Option Addr} {n1 ca1 : Nat} (hid : id < 18446744073709551616) (hv : v < 18446744073709551616) (hn : n1 = (bB D.pairs id ++ (id, v) :: bH D.pairs id).length) (ho : Own w1 128 2 A1 n1 ca1 (PC2 (bB D.pairs id ++ (id, v) :: bH D.pairs id))) (k1 : Frm (ob t.A) wr w1) (hob : ∀ x ∈ ob A1, x ∈ ob t.A ∨ wr.heap.size ≤ x)
  (hb : Blk w2 g7 104 (plV t.S t.ps.length t.sc A1 n1 ca1 m t.dv)) (k2 : Frm [g7] w1 w2) : IsDr w w2 X g7 m { D with pairs := bB D.pairs id ++ (id, v) :: bH D.pairs id } { t with A := A1, ca := ca1 } [id] := by
 subst hn
 obtain ⟨h1, h2, h3, h4, h5, h6, h7⟩ := d.apart
 have k : Frm (g7 :: ob t.A) wr w2 := (k1.mono (fun x hx => .inl (by simp [hx]))).trans k2 (fun x hx => .inl (by simp at hx; simp [hx]))
 obtain ⟨b1, b2, b3⟩ := d.base (t' := { t with A := A1, ca := ca1 }) k (fun x hx => by rcases zx.1 hx with rfl | hx; simp [DrQ.X]; simp [DrQ.X, hx]) (fun x hx => by
  simp only [DrQ.X, zx, zcb] at hx ⊢
  rcases hx with h | h | h | h
  · exact .inl (.inl h)
  · exact .inl (.inr (.inl h))
  · exact .inl (.inr (.inr (.inl h)))
  rcases hob x h with e | e
  · exact .inl (.inr (.inr (.inr e)))
  exact .inr e)
 have hmem : ∀ x ∈ bB D.pairs id ++ (id, v) :: bH D.pairs id, x = (id, v) ∨ x ∈ D.pairs := fun x hx => by
  rcases zcb.1 hx with h | h
  · exact .inr (List.mem_filter.1 h).1
  rcases zx.1 h with h | h
  · exact .inl h
  exact .inr (List.mem_filter.1 h).1
 refine ⟨⟨qQ1 d.ok.srt id v, fun x hx => ?_, d.ok.frb, d.ok.pu⟩, b1, hb, d.S.frm k (fun x hx h => ?_), d.pu, b3, ho.frm k2 (fun x hx h => ?_), d.mp.frm k (fun h => ?_), d.ly, fun x hx he => ?_, d.fr, d.fc, b2⟩
 ·
  rcases hmem x hx with rfl | h
  · exact ⟨hid, hv⟩
  exact d.ok.okp x h
 ·
  rcases zx.1 h with rfl | h
  · exact h2 hx
  exact h6 x hx h
 ·
  rw [za] at h
  subst h
  rcases hob _ hx with e | e
  · exact h3 e
  have := d.blk.lt; omega
 ·
  rcases zx.1 h with h | h
  · exact h1 h.symm
  exact h5 h
 rcases hmem x hx with rfl | h
 · exact absurd (za.2 rfl) he
 exact d.lyD x h jp
theorem IsDr.lie {id : Nat} (d : IsDr w wr X g7 m D t [id]) {r : Lq} (hid : id < 18446744073709551616) (hr : RdX w X 1 r.1 r.2.2.length (ZN r.2.2)) (hm : MpF Tryz.prog 54 fP w2 m (fun y => if y = id then some (lqV r) else lyV t.ly y)) (k : Frm [m] wr w2) : IsDr w w2 X g7 m { D with lies := fun y => if y = id then r.2.2 else D.lies y } { t with ly := fun y => if y = id then some r else t.ly y } [] := by
 obtain ⟨h1, h2, h3, h4, h5, h6, h7⟩ := d.apart
 obtain ⟨b1, b2, b3⟩ := d.base (t' := { t with ly := fun y => if y = id then some r else t.ly y }) k (fun x hx => by rw [za] at hx; subst hx; simp [DrQ.X]) (fun x hx => .inl hx)
 rw [qQ5] at hm
 refine ⟨⟨d.ok.srt, d.ok.okp, d.ok.frb, d.ok.pu⟩, b1, d.blk.frm k (by simpa using h1), d.S.frm k (fun x hx h => by rw [za] at h; subst h; exact h4 hx), d.pu, b3, d.A.frm k (fun x hx h => by rw [za] at h; subst h; exact h5 hx), hm, fun y r' hy => ?_, fun x hx _ => ?_, d.fr, d.fc, b2⟩
 ·
  dsimp only at hy
  by_cases h : y = id
  · rw [if_pos h] at hy; cases hy; subst h; exact ⟨hr, hid⟩
  rw [if_neg h] at hy; exact d.ly y r' hy
 dsimp only
 by_cases h : x.1 = id
 · rw [if_pos h, if_pos h]; exact ⟨r, rfl, rfl⟩
 rw [if_neg h, if_neg h]; exact d.lyD x hx (by simpa using h)
theorem IsDr.less (d : IsDr w wr X g7 m D t ex) {k : Nat} (hk : k ≤ D.free.length) : IsDr w wr X g7 m { D with free := D.free.drop k } { t with fA := cG t.fA t.fc k 1, fc := t.fc - k } ex :=
 ⟨⟨d.ok.srt, d.ok.okp, fun p hp => d.ok.frb p (zav hp), d.ok.pu⟩, d.K, d.blk, d.S, d.pu, d.ps, d.A, d.mp, d.ly, d.lyD, by
  have := d.fr.drop rfl hk d.fc
  rw [← zj] at this
  exact this, by have := d.fc; dsimp only; rw [zj]; omega, d.up⟩
theorem IsDr.lt (d : IsDr w wr X g7 m D t ex) : ∀ x ∈ t.X g7 m, x < wr.heap.size := fun x hx => by
 simp only [DrQ.X, zx, zcb] at hx
 rcases hx with rfl | rfl | h | h
 · exact d.blk.lt
 · exact d.mp.lt
 · exact d.S.lt x h
 exact d.A.lt x h
theorem IsDr.past {S : List Nat} (d : IsDr w wr X g7 m D t ex) (k : Frm S wr w2) (hS : ∀ x ∈ t.X g7 m, x ∉ S) (hup : ∀ x ∈ S, w.heap.size ≤ x) (hps : t.ps = []) : IsDr w w2 X g7 m D t ex :=
 ⟨d.ok, d.K.own k hup, d.blk.frm k (hS _ (by simp [DrQ.X])), d.S.frm k (fun x hx => hS _ (by simp [DrQ.X, hx])), d.pu, (by rw [hps]; exact PuS.nil _ _ _), d.A.frm k (fun x hx => hS _ (by simp [DrQ.X, hx])), d.mp.frm k (hS _ (by simp [DrQ.X])), d.ly, d.lyD, d.fr, d.fc, d.up⟩
theorem qJe (l : List Ch) (i : Nat) : sumN (l.take i) ≤ sumN l := by
 have h : sumN l = sumN (l.take i) + sumN (l.drop i) := by
  unfold sumN
  rw [← List.sum_append, ← zy, zbt]
 omega
theorem IsDr.copy (d : IsDr w wr X g7 m D t ex) {y : Nat} {r : Lq} (hex : ∀ x ∈ D.pairs, x.1 ∈ ex) (hid : y < 18446744073709551616) (hr : RdX w X 1 r.1 r.2.2.length (ZN r.2.2)) (hm : MpF Tryz.prog 54 fP w2 m (fun z => if z = y then some (lqV r) else lyV t.ly z)) (k : Frm [m] wr w2) : IsDr w w2 X g7 m D { t with ly := fun z => if z = y then some r else t.ly z } ex := by
 obtain ⟨h1, h2, h3, h4, h5, h6, h7⟩ := d.apart
 obtain ⟨b1, b2, b3⟩ := d.base (t' := { t with ly := fun z => if z = y then some r else t.ly z }) k (fun x hx => by rw [za] at hx; subst hx; simp [DrQ.X]) (fun x hx => .inl hx)
 rw [qQ5] at hm
 refine ⟨d.ok, b1, d.blk.frm k (by simpa using h1), d.S.frm k (fun x hx h => by rw [za] at h; subst h; exact h4 hx), d.pu, b3, d.A.frm k (fun x hx h => by rw [za] at h; subst h; exact h5 hx), hm, fun z r' hz => ?_, fun x hx he => absurd (hex x hx) he, d.fr, d.fc, b2⟩
 dsimp only at hz
 by_cases h : z = y
 · rw [if_pos h] at hz; cases hz; subst h; exact ⟨hr, hid⟩
 rw [if_neg h] at hz; exact d.ly z r' hz
theorem IsDr.told (d : IsDr w wr X g7 m D t ex) (h : ∀ x ∈ D.pairs, ∃ r, t.ly x.1 = some r ∧ r.2.2 = D.lies x.1) : IsDr w wr X g7 m D t [] := ⟨d.ok, d.K, d.blk, d.S, d.pu, d.ps, d.A, d.mp, d.ly, fun x hx _ => h x hx, d.fr, d.fc, d.up⟩
theorem IsDr.dirs (d : IsDr w wr X g7 m D t ex) {dv : Value} (hb : Blk w2 g7 104 (plV t.S t.ps.length t.sc t.A D.pairs.length t.ca m dv)) (k : Frm [g7] wr w2) : IsDr w w2 X g7 m D { t with dv := dv } ex := by
 obtain ⟨h1, h2, h3, h4, h5, h6, h7⟩ := d.apart
 obtain ⟨b1, b2, b3⟩ := d.base (t' := { t with dv := dv }) k (fun x hx => by rw [za] at hx; subst hx; simp [DrQ.X]) (fun x hx => .inl hx)
 exact ⟨d.ok, b1, hb, d.S.frm k (fun x hx h => by rw [za] at h; subst h; exact h2 hx), d.pu, b3, d.A.frm k (fun x hx h => by rw [za] at h; subst h; exact h3 hx), d.mp.frm k (by simpa using Ne.symm h1), d.ly, d.lyD, d.fr, d.fc, b2⟩
theorem IsDr.fkS (d : IsDr w wr X g7 m D t ex) {S1 : Option Addr} {sc1 : Nat} {ps1 : List Pq} (k1 : Frm (ob t.S) wr w1) (k2 : Frm [g7] w1 w2) (hob : ob S1 = ob t.S ∨ ob S1 = [wr.heap.size]) : Fk (t.X g7 m) wr w2 ((({ t with S := S1, sc := sc1, ps := ps1 } : DrQ)).X g7 m) := by
 refine ⟨(k1.mono (fun x hx => .inl (by simp [DrQ.X, hx]))).trans k2 (fun x hx => .inl (by simp at hx; simp [DrQ.X, hx])), fun x hx => ?_⟩
 simp only [DrQ.X, zx, zcb] at hx ⊢
 rcases hx with h | h | h | h
 · exact .inl (.inl h)
 · exact .inl (.inr (.inl h))
 ·
  rcases hob with e | e
  · rw [e] at h; exact .inl (.inr (.inr (.inl h)))
  rw [e, za] at h; exact .inr (zfv h.symm)
 exact .inl (.inr (.inr (.inr h)))
end
theorem qV1 (f : Nat → Option Lq) (T : List Nat) {y : Nat} {r : Lq} (h : f y = some r) : (fun z => if z = y then some r else (if z ∈ T then f z else none)) = fun z => if z ∈ y :: T then f z else none := by
 funext z
 by_cases hz : z = y
 · subst hz; simp [h]
 simp [hz]
theorem gD {l : List Pr} (id : Nat) : bB (bB l id ++ bH l id) id = bB l id ∧ bH (bB l id ++ bH l id) id = bH l id := by
 unfold bB bH
 rw [zdy, zdy, zev, zev, zev, zev]
 refine ⟨?_, ?_⟩
 ·
  rw [show (l.filter fun a => (decide (a.1 < id) && decide (id < a.1))) = [] from List.filter_eq_nil_iff.2 fun x _ => by simp; omega, zbg]
  exact zfb fun x _ => jp
 rw [show (l.filter fun a => (decide (id < a.1) && decide (a.1 < id))) = [] from List.filter_eq_nil_iff.2 fun x _ => by simp; omega, zay]
 exact zfb fun x _ => jp
theorem qV2 {l : List Pr} (h : Srt l) {id : Nat} (hm : id ∈ l.map (·.1)) : l.take (posM l id) ++ l.drop (posM l id + 1) = bB l id ++ bH l id ∧ l.length - 1 = (bB l id ++ bH l id).length := by
 obtain ⟨h1, h2⟩ := qKu h id
 have h3 : (eqP l id).length = 1 := by
  have := qZ5 h id
  have := List.length_pos_iff.2 (uD id |>.1 hm)
  omega
 have h4 := congrArg List.length (gB h id)
 rw [zd, zd] at h4
 refine ⟨?_, by rw [zd]; omega⟩
 rw [h1, ← zfd, h2, zes h3]
theorem qWx {l : List Pr} (h : Srt l) {id : Nat} (hm : id ∉ l.map (·.1)) : l = bB l id ++ bH l id := by
 have h1 := gB h id
 have h2 : eqP l id = [] := Classical.not_not.1 fun h => hm (uD id |>.2 h)
 rw [h2, zay] at h1
 exact h1
theorem qV3 (l : List Pr) (id : Nat) (x : Pr) : (bB l id ++ bH l id).take (posM l id) ++ x :: (bB l id ++ bH l id).drop (posM l id) = bB l id ++ x :: bH l id := by
 unfold posM
 rw [zci rfl, zes rfl]
def cN (dir : List Nat) (ps : List (List Nat)) (k : Nat) : List Pu := (List.range k).map fun i => (42 + dir.getD i 0, ps.getD i [])
theorem yC (dir : List Nat) (ps : List (List Nat)) (k : Nat) : cN dir ps (k + 1) = cN dir ps k ++ [(42 + dir.getD k 0, ps.getD k [])] := by unfold cN; rw [zcn, zy]; rfl
structure Pln where
 puts : List Pu
 pairs : List Pr
 lies : Nat → List Nat
 dir : List Nat
def bW (D : Dw) : Pln := ⟨D.puts ++ cN (D.free.take (bZ D.pairs).length) (bZ D.pairs) (bZ D.pairs).length ++ [(41, bY (D.free.take (bZ D.pairs).length))], D.pairs, D.lies, D.free.take (bZ D.pairs).length⟩
structure PlQ where
 S : Option Addr
 sc : Nat
 ps : List Pq
 A : Option Addr
 ca : Nat
 m : Nat
 ly : Nat → Option Lq
 dA : Option Addr
 dc : Nat
structure IsPl (w w' : World) (X : List Nat) (P : Pln) (t : PlQ) : Prop where
 K : Frm [] w w'
 rp : RdP w' t.S t.ps.length t.ps
 pu : puL t.ps = P.puts
 off : ∀ x ∈ t.ps, ∀ y ∈ ob x.2.1, w.heap.size ≤ y
 pr : Rd w' 2 t.A P.pairs.length (PC2 P.pairs)
 pc : P.pairs.length ≤ t.ca
 A : ∀ y ∈ ob t.A, w.heap.size ≤ y
 mp : MpU w' t.m t.ly
 ml : w.heap.size ≤ t.m
 ly : ∀ id r, t.ly id = some r → RdX w' X 1 r.1 r.2.2.length (ZN r.2.2) ∧ id < 18446744073709551616
 lyD : ∀ x ∈ P.pairs, ∃ r, t.ly x.1 = some r ∧ r.2.2 = P.lies x.1
 dr : RdX w' X 1 t.dA P.dir.length (ZN P.dir)
theorem qQ6 {l : List Pr} (h : Srt l) (hl : l.length ≤ 600) : lC l := ⟨fun i hi => by
 rw [zc, zc, zb jo, zb hi]
 exact List.pairwise_iff_getElem.1 h i (i + 1) jo hi jo, hl⟩
theorem qZ.nextM2 {P : Program} {k : TypeId} {κ : Type} {enc : κ → Value} {w : World} {g r n : Nat} {M : κ → Option Value} {T : List κ} {Γ : Env} {dst : Option Tmp} {T0 : TypeId} {pos : String} {after : Array Edge} {gd : Option (Nat × Bool)} {a : Operand} (ha : ev? Γ a = some (.pointer (some ⟨r, 0, none⟩))) (h : MpI P k enc w g r M T n) (inv : ∀ key kl, keyOf P k key = some kl → ∃ x, key = enc x) (henc : ∀ a b, enc a = enc b → a = b) :
  qZ P ⟨dst, .next a false, T0, pos, after, gd⟩ Γ w (fun v w' => ∃ (b : Bool) (rest : List Value), v = .tuple (.bool b :: rest).toArray ∧ (b = false → w' = w ∧ ∀ x u, M x = some u → x ∈ T) ∧ (b = true → ∃ (x : κ) (u : Value) (m : Nat), M x = some u ∧ x ∉ T ∧ MpI P k enc w' g r M (x :: T) m ∧ m < n ∧ (∃ w1, qV w w1 ∧ Frm [r] w1 w') ∧ w'.heap.size = w.heap.size ∧ (Instr.entry (.pointer (some ⟨r, 0, none⟩))).run P w' = .ok (.tuple #[enc x, u]) w')) := fun ρ hρ => by
 obtain ⟨v, w', h1, h2⟩ := qZ.nextM (dst := dst) (T0 := T0) (pos := pos) (after := after) (gd := gd) ha h inv henc ρ hρ
 refine ⟨v, w', h1, ?_⟩
 rcases h2 with ⟨rfl, h3, h4⟩ | ⟨x, u, m, rfl, h3⟩
 · exact ⟨false, [], rfl, fun _ => ⟨h3, h4⟩, fun h => by cases h⟩
 exact ⟨true, [enc x, u], rfl, fun h => (by cases h), fun _ => ⟨x, u, m, h3⟩⟩
end
section
open Go.RowKit
set_option maxHeartbeats 4000000 in
theorem qX6 (SC : Option Addr) (n c : Nat) (l : List Cq) (L : Option Addr) (nf cf : Nat) (fr : List Nat) (h g : Nat) (F : List Nat) (H : Hm) (q : HtQ) (w : World) (hH : IsHt w h g F H q) (Y : List Nat) (hYl : ∀ id x, q.ly id = some x → RdX w Y 1 x.1 x.2.2.length (ZN x.2.2)) (hn : n ≤ 1000) (hr : RdC w SC n l) (hm : cX (chL l)) (hfl : fr.length = nf) (hfr : RdX w Y 1 L nf (ZN fr)) (hfc : nf ≤ cf) (hfb : ∀ p ∈ fr, p < 2048) (hnf : nf ≤ 1000000) (hp6 : (bK H (chL l) fr).pairs.length ≤ 600) (hsum : sumN (chL l) + (bZ (bK H (chL l) fr).pairs).length ≤ nf) (ht59 : (bZ (bK H (chL l) fr).pairs).length ≤ 59) :
  Calls Tryz.prog 45 #[.pointer (some ⟨h, 0, none⟩), .slice SC n c, .slice L nf cf] w fun e w' => ∃ (t : PlQ) (np nq dn : Nat), e = .returned (.agg #[.slice t.S np t.sc, .slice t.A nq t.ca, .map (some t.m), .slice t.dA dn t.dc]) ∧ np = t.ps.length ∧ nq = (bW (bK H (chL l) fr)).pairs.length ∧ dn = (bW (bK H (chL l) fr)).dir.length ∧ IsPl w w' Y (bW (bK H (chL l) fr)) t := by
 have h600 := hH.ok.n600
 have hln := hr.len
 subst hfl
 refine VC.calls (nt := 147) (res := #[.cell 6 104]) Tryz.func45 rfl Tryz.ntmps45 Tryz.results45 rfl ?_
 refine jS (jR ?_)
 refine Ops.m (qZ.alloc rN) rfl ?_
 rintro _ w1 ⟨rfl, hF1⟩
 have hb6 := hF1.blk
 have KW := hF1.frm
 have ksW := hF1.size
 have hfr1 := hfr.more KW
 have hly1 := fun id x (hx : q.ly id = some x) => (hYl id x hx).more KW
 generalize hg6 : w.heap.size = g6 at *
 have hH1 := hH.frm KW
 have hr1 := hr.frm KW
 refine jO (jN (jS (jR (jm rfl (je (Run.nilck rfl) (jf rfl zw rfl zap (jl rfl zbq (hH1.blk.cell 1) ?_)))))))
 refine Ops.cl (jE1 Tryz.call102) (qQd q.pA q.pc H.pairs w1 hH1.pr.1 jo) rfl ?_
 rintro e w2 ⟨PA, PC, rfl, hoA, hupA, hf2⟩
 refine ⟨_, rfl, ?_⟩
 refine Ops.m (qZ.makeMap (k := 54) (enc := fP)) rfl ?_
 rintro _ w3 ⟨rfl, hmp, hf3, hs3⟩
 have hoA := hoA.frm hf3 jp
 have q2 := hf2.size
 generalize hgm : w2.heap.size = m at *
 refine je (Run.build (evs.cons rfl (evs.cons rfl evs.nil)) rN (vX).choose_spec.1 (vX).choose_spec.2 (cells := plV none 0 0 PA H.pairs.length PC m (.slice none 0 0)) rfl) ?_
 refine Ops.m (qZ.alloc rN) rfl ?_
 rintro _ w4 ⟨rfl, hF4⟩
 have q4 := hF4.size
 refine Ops.st (qS.storeA rfl rfl zge hF4.blk rfl (by intro u hu; simp only [plV, zx, zaf, or_false] at hu; rcases hu with rfl | rfl | rfl | rfl <;> rfl)) ?_
 rintro w5 ⟨hb7, hf5, hs5⟩
 generalize hg7 : w3.heap.size = g7 at *
 have hb7 : Blk w5 g7 104 (plV none 0 0 PA H.pairs.length PC m (.slice none 0 0)) := hb7
 have hAl := hoA.lt
 have k35 : Frm [] w3 w5 := hF4.frm.own hf5 (by simp; omega)
 have hml := hmp.lt
 have hd5 : IsDr w1 w5 (g6 :: Y) g7 m ⟨[], H.pairs, fr, H.lies⟩ ⟨none, 0, [], PA, PC, fun _ => none, L, cf, .slice none 0 0⟩ (H.pairs.map (·.1)) :=
  ⟨⟨hH.ok.srt, hH.ok.okp, hfb, fun x hx => by cases hx⟩, (hf2.trans hf3 jp).trans k35 jp, hb7, Own.nil _ _ _, rfl, PuS.nil _ _ _, hoA.frm k35 jp, hmp.frm k35 jp, fun id r hid => (by cases hid), fun x hx hne => absurd (List.mem_map.2 ⟨x, hx, rfl⟩) hne, hfr1, hfc, fun x hx => by
   simp only [DrQ.X, ob, zx, zay] at hx
   rcases hx with rfl | rfl | hx
   · omega
   · omega
   exact hupA x hx⟩
 refine jO (jN (jv5 0 1 2 6 7 ?_))
 refine jS (jS (jR (jm rfl (je (Run.nilck rfl) (jf rfl zw rfl zco (jl rfl zej ((hH1.frm hd5.K).blk.cell 3) ?_))))))
 refine Ops.m (qZ.rangeM rfl (hH1.frm hd5.K).mp zdl) rfl ?_
 rintro _ w6 ⟨cnt, rfl, hI, hf6, hs6⟩
 have hd6 := hd5.frm hf6
 have hXl := hd5.lt
 have q5 := hd5.K.size
 generalize hgr : w5.heap.size = gr at *
 refine jO (jN (jv5 1 2 6 7 31 ?_))
 refine jB ?_
 refine VC.loop (σ := List Nat × Nat) (fun s => [(1, .slice SC n c), (2, .slice L fr.length cf), (6, .pointer (some ⟨g6, 0, none⟩)), (7, .pointer (some ⟨g7, 0, none⟩)), (31, .pointer (some ⟨gr, 0, none⟩))]) (fun s wr => MpI Tryz.prog 54 fP wr q.l gr (lyV q.ly) s.1 s.2 ∧ IsDr w1 wr (g6 :: Y) g7 m ⟨[], H.pairs, fr, H.lies⟩ ⟨none, 0, [], PA, PC, fun z => if z ∈ s.1 then q.ly z else none, L, cf, .slice none 0 0⟩ (H.pairs.map (·.1))) (fun s => s.2) ([], cnt) (js5 rfl rfl rfl rfl rfl) ⟨hI, by simpa using hd6⟩ ?_
 rintro ⟨T, cn⟩ wr ⟨hI, hd⟩
 dsimp only at hI hd ⊢
 refine jS (jR ?_)
 refine Ops.m (qZ.nextM2 rfl hI qVx kK) rfl ?_
 rintro _ wn ⟨bn, rest, rfl, hbF, hbT⟩
 refine je (Run.extract rfl rfl) (jO (jN (jv6 1 2 6 7 31 33 ?_)))
 refine jS ?_
 refine VC.condB rfl (fun hc1 => ?_) (fun hc1 => ?_)
 ·
  obtain ⟨xk, u, mn, hMx, hxT, hI, hmn, ⟨wd, hdd, hfd⟩, hsn, hent⟩ := hbT hc1
  obtain ⟨row, hrow, rfl⟩ : ∃ row, q.ly xk = some row ∧ lqV row = u := by
   unfold lyV at hMx
   cases hc : q.ly xk with
   | none => rw [hc] at hMx; cases hMx
   | some r => rw [hc] at hMx; exact ⟨r, rfl, Option.some.inj hMx⟩
  have hlyr := hH1.ly _ _ hrow
  have hd := (hd.frm hdd.frm).past hfd (fun x hx h => by rw [za] at h; subst h; exact zbv _ (hXl _ hx)) (by simp; omega) rfl
  refine jQ (jN (jv5 1 2 6 7 31 ?_))
  refine jB (jS (jR (je (Run.entryM rfl hent) (je (Run.extract rfl rfl) (je (Run.extract rfl rfl) (ja rfl (ja rfl (jO (jN (jv7 1 2 6 7 8 9 31 ?_))))))))))
  refine jR (jf rfl zaj rfl zco (jl rfl zej (hd.blk.cell 2) (jm rfl (jM ?_))))
  refine Ops.st (qS.mapUpd (x := xk) rfl rfl rfl hd.mp (Go.Maps.int_keyed zu) kK zdl (gC _ hlyr.2)) ?_
  rintro w8 ⟨hmp8, hf8, hs8⟩
  have hd := hd.copy (r := row) (fun x hx => List.mem_map.2 ⟨x, hx, rfl⟩) hlyr.2 (hly1 _ _ hrow) hmp8 hf8
  dsimp only at hd
  rw [qV1 q.ly T hrow] at hd
  have hqm := hH1.mp.lt
  have hI := hI.frm hf8 (by simp; omega) (by simp; have := hXl m (by simp [DrQ.X]); omega)
  refine jO ?_
  refine qH (jN ⟨(xk :: T, mn), (js5 rfl rfl rfl rfl rfl), ?_, ?_⟩)
  · exact ⟨hI, hd⟩
  first | omega | (dsimp only; omega)
 obtain ⟨rfl, hall⟩ := hbF hc1
 refine jX ?_
 refine qJ (qJ (qT ?_))
 refine jN (jv4 1 2 6 7 ?_)
 refine jS (jS (jR (jm rfl (je (Run.lenS rfl zan) ?_))))
 have hd := hd.told (fun x hx => by
  obtain ⟨r, hr1, hr2⟩ := hH1.lyH x hx
  exact ⟨r, (by dsimp only; rw [if_pos (hall x.1 (lqV r) (by unfold lyV; rw [hr1]; rfl))]; exact hr1), hr2⟩)
 have hraw0 : bK H (chL (l.take 0)) fr = ⟨[], H.pairs, fr, H.lies⟩ := rfl
 have hb60 := hb6
 refine jx .i64 0 ?_
 refine jO (jN (jv6 2 6 7 41 42 43 ?_))
 refine jB ?_
 refine VC.loop (σ := Nat × DrQ) (fun s => [(2, .slice s.2.fA (bK H (chL (l.take s.1)) fr).free.length s.2.fc), (6, .pointer (some ⟨g6, 0, none⟩)), (7, .pointer (some ⟨g7, 0, none⟩)), (41, .slice SC n c), (42, .int .i64 ((n : Nat) : Int)), (43, .int .i64 ((s.1 : Nat) : Int))]) (fun s wr => s.1 ≤ n ∧ IsDr w1 wr (g6 :: Y) g7 m (bK H (chL (l.take s.1)) fr) s.2 [] ∧ s.2.dv = .slice none 0 0 ∧ (bK H (chL (l.take s.1)) fr).free.length + sumN (chL (l.take s.1)) = fr.length ∧ (bK H (chL (l.take s.1)) fr).pairs.length ≤ 600 + s.1 ∧ s.2.ps.length ≤ 100 * s.1) (fun s => n - s.1) (0, ⟨none, 0, [], PA, PC, fun z => if z ∈ T then q.ly z else none, L, cf, .slice none 0 0⟩) (js6 rfl rfl rfl rfl rfl rfl) ⟨zg _, hd, rfl, rfl, h600, zg _⟩ ?_
 rintro ⟨i, t⟩ wr ⟨hi, hd, hdv, hfs, hpl, hps⟩
 dsimp only at hi hd hdv hfs hpl hps ⊢
 obtain ⟨D, hD⟩ : ∃ D, D = bK H (chL (l.take i)) fr := ⟨_, rfl⟩
 rw [← hD] at hd hfs hpl ⊢
 refine jS (jR (jb rfl rfl (Bin.lssN _ _) (jO (jN (jS ?_)))))
 refine jD rfl (fun hc2 => ?_) fun hc2 => ?_
 ·
  obtain ⟨ad, hS, hel⟩ := (hr1.frm hd.K).cell hc2
  subst hS
  have hmem := lL (jo : i < l.length)
  have hxn := hr.num _ hmem
  have hxo := hr.oct _ hmem
  have hxe := hr1.el _ hmem
  have hsnc := kV (jo : i < l.length)
  have hrs := vL H (chL (l.take i)) (chO (l.getD i cq0)) fr
  rw [← hsnc, ← hD] at hrs
  have hsn := vO (chL (l.take i)) (chO (l.getD i cq0))
  rw [← hsnc] at hsn
  have hstk := qJe (chL l) (i + 1)
  rw [← sF] at hstk
  have hmx := hm.2 _ (List.mem_map.2 ⟨_, hmem, rfl⟩)
  have hrl := qQ3 H hH.ok.srt (chL (l.take i)) (chO (l.getD i cq0)) fr (qVc (jo : i < l.length) hm)
  rw [← hsnc, ← hD] at hrl
  replace hrl := hrl.2.2.2
  generalize l.getD i cq0 = x at hel hxn hxo hxe hrs hsn hmx hrl
  obtain ⟨xa, ⟨xA, xc, xb⟩, xg⟩ := x
  dsimp only [chO] at hxn hxo hxe hrs hsn hmx hrl
  have h11 := hd.lt
  refine jQ (jN (jv6 2 6 7 41 42 43 ?_))
  refine jS (jB (jS (jR (je (Run.indexS _ rfl rfl zan zba jo) (je (Run.loadA rfl zfx zba hel (by first | rfl | (simp; done))) ?_)))))
  refine Ops.m (qZ.alloc fJ) rfl ?_
  rintro _ w2 ⟨rfl, hF2⟩
  refine Ops.st (qS.storeA rfl rfl zba hF2.blk rfl (lJ (xa, (xA, xc, xb), xg))) ?_
  rintro w3 ⟨hb11, hf3, hs3⟩
  have hb11 : Blk w3 wr.heap.size 93 #[.int .u64 ((xa : Nat) : Int), .slice xA xb.length xc, .bool xg] := hb11
  have hd := hd.frm (hF2.frm.own hf3 jp)
  generalize hg11 : wr.heap.size = g11 at *
  refine jO (jN (jv7 2 6 7 11 41 42 43 ?_))
  refine jS (jR (jf rfl zaj rfl zap (jl rfl zbq (hd.blk.cell 1) (jf rfl zac rfl zaa (jl rfl zas (hb11.cell 0) ?_)))))
  refine Ops.cl (jE2 Tryz.call42) (lX _ _ xa _ D.pairs _ rfl jo hd.A.rd hd.ok.okp hd.ok.srt hxn.1) rfl ?_
  rintro e w4 ⟨rfl, hf4⟩
  refine ⟨_, rfl, ?_⟩
  have hd := hd.frm hf4
  have hb11 := hb11.frm hf4 jp
  refine jm rfl (je (Run.extract rfl rfl) (je (Run.extract rfl rfl) (ja rfl (ja rfl (jO (jN (jv9 2 6 7 11 12 13 41 42 43 ?_)))))))
  refine jS (jS (jR (jm rfl (jO (jN (jv9 2 6 7 11 12 41 42 43 55 ?_))))))
  refine VC.meet (σ := Nat → Option Lq) (fun s => [(2, .slice t.fA D.free.length t.fc), (6, .pointer (some ⟨g6, 0, none⟩)), (7, .pointer (some ⟨g7, 0, none⟩)), (11, .pointer (some ⟨g11, 0, none⟩)), (12, .int .i64 ((posM D.pairs xa : Nat) : Int)), (41, .slice (some ad) n c), (42, .int .i64 ((n : Nat) : Int)), (43, .int .i64 ((i : Nat) : Int))]) (fun s wz => IsDr w1 wz (g6 :: Y) g7 m { D with pairs := bB D.pairs xa ++ bH D.pairs xa } { t with ly := s } [] ∧ Blk wz g11 93 #[.int .u64 ((xa : Nat) : Int), .slice xA xb.length xc, .bool xg]) ?_ ?_
  ·
   refine VC.condB rfl (fun hc3 => ?_) (fun hc3 => ?_)
   ·
    have hin : xa ∈ D.pairs.map (·.1) := of_decide_eq_true hc3
    obtain ⟨hlt, -, -⟩ := tI hd.ok.srt hin
    obtain ⟨hdp1, hdp2⟩ := qV2 hd.ok.srt hin
    obtain ⟨a1, a2, a3, a4, a5, a6, a7⟩ := hd.apart
    have nA11 : g11 ∉ ob t.A := fun hx => zbv _ (h11 _ (by simp [DrQ.X, hx]))
    have n711 : g11 ≠ g7 := fun hx => zbv _ (hx ▸ h11 g7 (by simp [DrQ.X]))
    have nm11 : g11 ≠ m := fun hx => zbv _ (hx ▸ h11 m (by simp [DrQ.X]))
    refine jS (jR (jf rfl zaj rfl zap (jl rfl zbq (hd.blk.cell 1) (jm rfl (jm rfl (jb rfl rfl (Bin.add_i64 _ 1 jo) ?_))))))
    refine Ops.cl (jE3 Tryz.call103) (yH t.A t.ca (posM D.pairs xa) D.pairs _ hd.A jo hlt) rfl ?_
    rintro e w5 ⟨rfl, hoA, hf5⟩
    refine ⟨_, rfl, ?_⟩
    rw [hdp1] at hoA
    have hb11 := hb11.frm hf5 nA11
    have hb7 := hd.blk.frm hf5 a3
    refine jf rfl zaj rfl zap ?_
    refine Ops.st (qS.store rfl rfl zap hb7 rfl rfl) ?_
    rintro w6 ⟨hb7, hf6, hs6⟩
    have hd := hd.erase xa hdp2 hoA hf5 hb7 hf6
    have hb11 := hb11.frm hf6 (by simpa using n711)
    refine jO (jN (jv8 2 6 7 11 12 41 42 43 ?_))
    refine jR (jf rfl zaj rfl zco (jl rfl zej (hd.blk.cell 2) (jf rfl zac rfl zaa (jl rfl zas (hb11.cell 0) ?_))))
    refine Ops.m0 (qZ.deleteM (x := xa) rfl rfl hd.mp (Go.Maps.int_keyed zu) kK zdl (gC _ hxn.1)) ?_
    rintro _ w7 ⟨hmp7, hf7, hs7⟩
    have hd := hd.unlie xa (fun hx => by
     rw [zy, zcb] at hx
     rcases hx with hx | hx <;> obtain ⟨y, hy, he⟩ := List.mem_map.1 hx <;> have := (List.mem_filter.1 hy).2 <;> simp at this <;> omega) hmp7 hf7
    have hb11 := hb11.frm hf7 (by simpa using nm11)
    refine jO ?_
    refine jN ⟨fun y => if y = xa then none else t.ly y, (js8 rfl rfl rfl rfl rfl rfl rfl rfl), ?_⟩
    exact ⟨hd, hb11⟩
   have hin : xa ∉ D.pairs.map (·.1) := of_decide_eq_false hc3
   have hd : IsDr w1 w4 (g6 :: Y) g7 m { D with pairs := bB D.pairs xa ++ bH D.pairs xa } { t with ly := t.ly } [] := by rw [← qWx hd.ok.srt hin]; exact hd
   refine jQ ?_
   refine jN ⟨t.ly, (js8 rfl rfl rfl rfl rfl rfl rfl rfl), ?_⟩
   exact ⟨hd, hb11⟩
  rintro ly1 wz ⟨hd, hb11⟩ Γ hΓ
  refine jN (VC.sub _ hΓ (jS (jS (jR (jf rfl zac rfl zbu (jl rfl zds (hb11.cell 2) (jO (jN (jv9 2 6 7 11 12 41 42 43 68 ?_)))))))))
  refine VC.condB rfl (fun hc4 => ?_) (fun hc4 => ?_)
  ·
   have hst : bK H (chL (l.take (i + 1))) fr = { D with pairs := bB D.pairs xa ++ bH D.pairs xa } := by rw [hrs, bL, if_pos hc4]
   have hz := hmx.2 hc4
   have hnz : needsM xb.length = 0 := by rw [hz]; rfl
   refine jX ?_
   refine qJ (qT ?_)
   refine jN (jv6 2 6 7 41 42 43 ?_)
   refine jR (jb rfl rfl (Bin.add_i64 _ 1 jo) (jm rfl (jO ?_)))
   refine jN ⟨(i + 1, { t with ly := ly1 }), (js6 (by dsimp only; rw [hst]; rfl) rfl rfl rfl rfl rfl), ?_, ?_⟩
   · refine ⟨hc2, by dsimp only; rw [hst]; exact hd, hdv, by dsimp only; rw [hst]; dsimp only; omega, by dsimp only; rw [hst] at hrl ⊢; dsimp only at hrl ⊢; omega, by dsimp only; omega⟩
   first | omega | (dsimp only; omega)
  have hnn : needsM xb.length ≤ D.free.length := jo
  obtain ⟨nn, hnne⟩ : ∃ nn, nn = needsM xb.length := ⟨_, rfl⟩
  obtain ⟨own, howne⟩ : ∃ own, own = D.free.take nn := ⟨_, rfl⟩
  have hownl : own.length = nn := by rw [howne, zi, hnne]; omega
  have hst : bK H (chL (l.take (i + 1))) fr = { puts := D.puts ++ dY xb own, pairs := bB D.pairs xa ++ cW xa xb own :: bH D.pairs xa, free := D.free.drop nn, lies := fun y => if y = xa then own else D.lies y } := by
   rw [hrs, bL, if_neg (by simp [hc4]), howne, hnne]
  rw [← hnne] at hnn hsn
  have hown : RdX w1 (g6 :: Y) 1 t.fA nn (ZN own) := by rw [howne]; exact hd.fr.take hnn
  have hfc1 := hd.fc
  dsimp only at hfc1
  have hofb : ∀ p ∈ own, p < 2048 := fun p hp => hd.ok.frb p (by rw [howne] at hp; exact zn hp)
  have hnn8 : nn ≤ 100 := by rw [hnne]; unfold needsM; omega
  refine jQ (jN (jv8 2 6 7 11 12 41 42 43 ?_))
  refine jS (jR (jf rfl zac rfl zr (jl rfl zal (hb11.cell 1) (je (Run.lenS rfl ze) ?_))))
  refine Ops.cl (jE1 Tryz.call97) (nG xb.length _ jo) rfl ?_
  rintro e _ ⟨rfl, rfl⟩
  refine ⟨_, rfl, ?_⟩
  rw [← hnne]
  refine ja rfl (jO (jN (jv9 2 6 7 11 12 14 41 42 43 ?_)))
  refine jS (jR (jm rfl (jm rfl (je (Run.sliceS 0 _ rfl zt zq evB.none_ (evB.some_ rfl) jo jo) ?_))))
  rw [cT, zbk, zbk]
  refine ja rfl (jO (jN (jv10 2 6 7 11 12 14 15 41 42 43 ?_)))
  refine jS (jR (jm rfl (jm rfl (je (Run.sliceS _ _ rfl zt zq (evB.some_ rfl) evB.none_ jo jo) ?_))))
  have hd := hd.less (k := nn) hnn
  obtain ⟨t2, ht2⟩ : ∃ t2 : DrQ, t2 = { t with ly := ly1, fA := cG t.fA t.fc nn 1, fc := t.fc - nn } := ⟨_, rfl⟩
  have e2S : t2.S = t.S := by rw [ht2]
  have e2p : t2.ps = t.ps := by rw [ht2]
  have hps2 : t2.ps.length ≤ 100 * i := by rw [e2p]; exact hps
  have e2A : t2.A = t.A := by rw [ht2]
  rw [← ht2] at hd
  have h112 : ∀ x ∈ t2.X g7 m, x < g11 := fun x hx => h11 x (by unfold DrQ.X at hx ⊢; rw [e2S, e2A] at hx; exact hx)
  obtain ⟨a1, a2, a3, a4, a5, a6, a7⟩ := hd.apart
  have nS11 : g11 ∉ ob t2.S := fun hx => zbv _ (h112 _ (by simp [DrQ.X, hx]))
  have nA11 : g11 ∉ ob t2.A := fun hx => zbv _ (h112 _ (by simp [DrQ.X, hx]))
  have n711 : g11 ≠ g7 := fun hx => zbv _ (hx ▸ h112 g7 (by simp [DrQ.X]))
  have nm11 : g11 ≠ m := fun hx => zbv _ (hx ▸ h112 m (by simp [DrQ.X]))
  refine ja rfl (jO (jN (jv9 2 6 7 11 12 15 41 42 43 ?_)))
  refine jS ?_
  refine VC.heldL 8 (fun V => Frm (ob t2.S) wz V) jK ?_
  have hS : Frm (ob t2.S) wz wz.drew := (Frm.refl _ _).drew
  have hxl : xb.length ≤ xc := hxe.2
  refine jH 0 rfl hS (fun w0 hw0 => Run.fieldAddr rfl zaj rfl zcr jd) ?_
  refine jH 1 rfl hS (fun w0 hw0 => Run.load rfl Tryz.isAgg102 ((hd.blk.frm hw0 a2).cell 0)) ?_
  refine jH 2 rfl hS (fun w0 hw0 => Run.fieldAddr rfl zac rfl zr jd) ?_
  refine jH 3 rfl hS (fun w0 hw0 => Run.load rfl zal ((hb11.frm hw0 nS11).cell 1)) ?_
  refine qQ.r1 4 rfl jK hS (Run.mv rfl) trivial rfl rfl ?_
  refine qQ.cl 5 rfl jK (jE2 Tryz.call104) (qQc xA t.fA xb.length xc nn t.fc xb own _ rfl jo hxl hxo ((hxe.1.frm hd.K jp).drawn (qV.drew _)) hownl jo ((hown.1.frm hd.K jp).drawn (qV.drew _)) hofb) trivial rfl rfl ?_
  rintro e w9 ⟨CB, cd, qs, rfl, hoC, hqs, hpuC, hf9, hupC⟩
  have hS := hS.trans hf9 jp
  refine ⟨_, rfl, hS, ?_⟩
  have hd9 := (hd.frm (qV.drew _).frm).frm hf9
  have hb11 := hb11.frm hS nS11
  have hql : qs.length = nn := by
   have := congrArg List.length hqs
   rwa [cE, dY, tA, hownl] at this
  refine qQ.m 6 rfl jK (qZ.app rfl rfl zak (nU) rfl jd hd9.S hoC.rd (qVy _) jo jo) trivial rfl rfl ?_
  rintro _ w10 ⟨S10, sc10, rfl, hoS, hf10, hob10⟩
  have hS := hS.trans hf10 (fun x hx => .inl hx)
  rw [← zao] at hoS
  refine ⟨hS, ?_⟩
  have hb7 := hd9.blk.frm hf10 a2
  have hb11 := hb11.frm hf10 nS11
  refine qQ.r1 7 rfl jK hS (Run.fieldAddr rfl zaj rfl zcr jd) trivial rfl rfl ?_
  refine qQ.stL rfl jK (qS.store rfl rfl zcr hb7 rfl rfl) trivial rfl ?_
  rintro w11 ⟨hb7, hf11, hs11⟩
  have hb11 := hb11.frm hf11 (by simpa using n711)
  have hq11 : PuS w1.heap.size w11 (g7 :: m :: (ob S10 ++ ob t2.A)) qs := ((hpuC.off (X' := t2.X g7 m) (fun y hy => .inr (.inl (hd.lt y hy)))).fk (hd9.fkS (sc1 := sc10) (ps1 := t2.ps ++ qs) hf10 hf11 hob10)).low hd.K.size
  have hd := hd9.puts (qs := qs) (us := dY xb own) (by rw [zd, hql]) hoS hf10 hob10 hb7 hf11 hqs (uQ hxo hofb) hq11 []
  obtain ⟨t3, ht3⟩ : ∃ t3 : DrQ, t3 = { t2 with S := S10, sc := sc10, ps := t2.ps ++ qs } := ⟨_, rfl⟩
  have e3A : t3.A = t2.A := by rw [ht3]
  rw [← ht3] at hd
  rw [← e3A] at nA11
  obtain ⟨c1, c2, c3, c4, c5, c6, c7⟩ := hd.apart
  refine qQ.done jK ?_
  refine jN (jv9 2 6 7 11 12 15 41 42 43 ?_)
  refine jS ?_
  refine VC.heldL 12 (fun V => Frm (ob t3.A) w11 V) jK ?_
  have hS : Frm (ob t3.A) w11 w11.drew := (Frm.refl _ _).drew
  refine jH 0 rfl hS (fun w0 hw0 => Run.fieldAddr rfl zaj rfl zap jd) ?_
  refine jH 1 rfl hS (fun w0 hw0 => Run.load rfl zbq ((hd.blk.frm hw0 c3).cell 1)) ?_
  refine jH 2 rfl hS (fun w0 hw0 => Run.mv rfl) ?_
  refine jH 3 rfl hS (fun w0 hw0 => Run.fieldAddr rfl zac rfl zaa jd) ?_
  refine jH 4 rfl hS (fun w0 hw0 => Run.load rfl zas ((hb11.frm hw0 nA11).cell 0)) ?_
  refine jH 5 rfl hS (fun w0 hw0 => Run.fieldAddr rfl zac rfl zr jd) ?_
  refine jH 6 rfl hS (fun w0 hw0 => Run.load rfl zal ((hb11.frm hw0 nA11).cell 1)) ?_
  refine qQ.r1 7 rfl jK hS (Run.mv rfl) trivial rfl rfl ?_
  refine qQ.cl 8 rfl jK (jE3 Tryz.call106) (qX2 xa xb.length xc nn t.fc xA t.fA xb own _ hxn.1 rfl hmx.1 hxo ((hxe.1.frm hd.K jp).drawn (qV.drew _)) hownl jo ((hown.1.frm hd.K jp).drawn (qV.drew _)) hofb) trivial rfl rfl ?_
  rintro e w12 ⟨rfl, hf12⟩
  have hS := hS.trans hf12 jp
  refine ⟨_, rfl, hS, ?_⟩
  have hd12 := (hd.frm (qV.drew _).frm).frm hf12
  refine qQ.m 9 rfl jK (qZ.buildS1 rfl zh zl eE jd jd rfl rfl) trivial rfl rfl ?_
  rintro _ w13 ⟨rfl, hF13⟩
  have hS := hS.trans hF13.frm jp
  refine ⟨hS, ?_⟩
  have hlt12 := hd12.lt
  have hd13 := hd12.frm hF13.frm
  have hgvA : w12.heap.size ∉ ob t3.A := fun hx => zbv _ (hlt12 _ (by simp [DrQ.X, hx]))
  refine qQ.cl 10 rfl jK (jE3 Tryz.call105) (yM t3.A t3.ca (posM D.pairs xa) w12.heap.size (bB D.pairs xa ++ bH D.pairs xa) (cW xa xb own) _ hd13.A (by have h1 := qZ6 (l := D.pairs) xa; have h2 : (bH D.pairs xa).length ≤ D.pairs.length := zdh _ _; rw [zd]; unfold posM at h1; omega) (by rw [zd]; exact Nat.le_add_right _ _) hF13.blk hgvA) trivial rfl rfl ?_
  rintro e w14 ⟨A14, c14, rfl, hoA, hf14, hupA14⟩
  have hS := hS.trans hf14 (fun x hx => .inl hx)
  refine ⟨_, rfl, hS, ?_⟩
  rw [qV3] at hoA
  have hb7 := hd13.blk.frm hf14 c3
  have hb11 := hb11.frm hS nA11
  refine qQ.r1 11 rfl jK hS (Run.fieldAddr rfl zaj rfl zap jd) trivial rfl rfl ?_
  refine qQ.stL rfl jK (qS.store rfl rfl zap hb7 rfl rfl) trivial rfl ?_
  rintro w15 ⟨hb7, hf15, hs15⟩
  have hb11 := hb11.frm hf15 (by simpa using n711)
  have hc32 := nD xb
  have hat : atP own ≤ 2048 := by
   unfold atP
   split
   · omega
   have := hofb _ (bM (jo : 0 < own.length)); omega
  have hd := hd13.ins xa (cW xa xb own).2 hxn.1 (by unfold cW; dsimp only; omega) (by simp only [(gD _).1, (gD _).2, zd, zv]; omega) (by rw [(gD xa).1, (gD xa).2]; exact hoA) hf14 hupA14 hb7 hf15
  refine qQ.done jK ?_
  refine jN (jv8 2 6 7 11 15 41 42 43 ?_)
  refine jR (jf rfl zaj rfl zco (jl rfl zej (hd.blk.cell 2) (jf rfl zac rfl zaa (jl rfl zas (hb11.cell 0) (jM ?_)))))
  refine Ops.st (qS.mapUpd (x := xa) rfl rfl rfl hd.mp (Go.Maps.int_keyed zu) kK zdl (gC _ hxn.1)) ?_
  rintro w16 ⟨hmp16, hf16, hs16⟩
  rw [show Value.slice t.fA nn t.fc = lqV (t.fA, t.fc, own) by rw [lqV, hownl]] at hmp16
  have hd := hd.lie (r := (t.fA, t.fc, own)) hxn.1 (by dsimp only; rw [hownl]; exact hown) hmp16 hf16
  obtain ⟨t5, ht5⟩ : ∃ t5 : DrQ, t5 = { t3 with A := A14, ca := c14, ly := fun y => if y = xa then some (t.fA, t.fc, own) else t3.ly y } := ⟨_, rfl⟩
  have e5f : t5.fA = cG t.fA t.fc nn 1 := by rw [ht5, ht3, ht2]
  have e5c : t5.fc = t.fc - nn := by rw [ht5, ht3, ht2]
  have e5d : t5.dv = t.dv := by rw [ht5, ht3, ht2]
  have e5p : t5.ps = t.ps ++ qs := by rw [ht5, ht3, ht2]
  have hd5 : IsDr w1 w16 (g6 :: Y) g7 m { puts := D.puts ++ dY xb own, pairs := bB D.pairs xa ++ cW xa xb own :: bH D.pairs xa, free := D.free.drop nn, lies := fun y => if y = xa then own else D.lies y } t5 [] := by
   dsimp only at hd
   rw [(gD xa).1, (gD xa).2] at hd
   rw [ht5]
   exact hd
  refine jO ?_
  refine qH (jN ?_)
  refine jv6 2 6 7 41 42 43 ?_
  refine jR (jb rfl rfl (Bin.add_i64 _ 1 jo) (jm rfl (jO ?_)))
  refine jN ⟨(i + 1, t5), (js6 (by dsimp only; rw [hst]; dsimp only; rw [zj, e5f, e5c]; rfl) rfl rfl rfl rfl rfl), ?_, ?_⟩
  · refine ⟨hc2, by dsimp only; rw [hst]; exact hd5, e5d.trans hdv, by dsimp only; rw [hst]; dsimp only; rw [zj]; omega, by dsimp only; rw [hst] at hrl ⊢; dsimp only at hrl ⊢; omega, by dsimp only; rw [e5p, zd, hql]; omega⟩
  first | omega | (dsimp only; omega)
 obtain rfl : i = n := jo
 have hDl : D = bK H (chL l) fr := by rw [hD, zf jo]
 rw [← hDl] at hp6 hsum ht59 ⊢
 rw [zf (jo : l.length ≤ i)] at hfs
 have hlt := hd.lt
 obtain ⟨b0, hb0⟩ : ∃ b0, b0 = wr.heap.size := ⟨_, rfl⟩
 have hb0w : w1.heap.size ≤ b0 := by rw [hb0]; exact hd.K.size
 have hmt := qQ6 hd.ok.srt hp6
 refine jX ?_
 refine qJ (qJ (qT ?_))
 refine jN (jv3 2 6 7 ?_)
 refine jS (jR (jf rfl zaj rfl zap (jl rfl zbq (hd.blk.cell 1) ?_)))
 refine Ops.cl (jE1 Tryz.call107) (sK t.A _ t.ca D.pairs _ rfl jo hd.A.le hd.A.rd hd.ok.okp) rfl ?_
 rintro e w20 ⟨hf20, ho20⟩
 rw [if_pos hmt] at ho20
 obtain ⟨TB, td, bs, rfl, hoT, hbs, hpgT, hupT⟩ := ho20
 refine ⟨_, rfl, ?_⟩
 rw [← hb0] at hpgT hupT hlt
 have hTX : RdX w20 (t.X g7 m) 1 TB (bZ D.pairs).length (bs.map SL) := ⟨hoT.rd, fun _ y hy => ⟨hoT.lt y hy, fun hx => by have := hlt y hx; have := hupT y hy; omega⟩⟩
 have hPX : PgS b0 w20 (t.X g7 m) bs := fun x hx => ⟨(hpgT x hx).1, fun y hy => ⟨⟨((hpgT x hx).2 y hy).1.1, fun k => by have := hlt y k; have := ((hpgT x hx).2 y hy).2; omega⟩, ((hpgT x hx).2 y hy).2⟩⟩
 have hd := hd.frm hf20
 have htok := sD D.pairs
 have hbl : bs.length = (bZ D.pairs).length := by rw [← hbs, zo]
 obtain ⟨nb, hnb⟩ : ∃ nb, nb = (bZ D.pairs).length := ⟨_, rfl⟩
 rw [← hnb] at hTX hbl hsum ht59 ⊢
 have hfc1 := hd.fc
 obtain ⟨dir, hdir⟩ : ∃ dir, dir = D.free.take nb := ⟨_, rfl⟩
 have hdl : dir.length = nb := by rw [hdir, zi]; omega
 have hdR : RdX w1 (g6 :: Y) 1 t.fA nb (ZN dir) := by rw [hdir]; exact hd.fr.take jo
 have hdp : ∀ p ∈ dir, p < 2048 := fun p hp => hd.ok.frb p (by rw [hdir] at hp; exact zn hp)
 refine jm rfl (je (Run.extract rfl rfl) (je (Run.extract rfl rfl) (ja rfl (ja rfl (jO (jN (jv4 2 6 7 16 ?_)))))))
 refine jS (jR (jm rfl (jm rfl (je (Run.lenS rfl zad) (je (Run.sliceS 0 _ rfl zt zq evB.none_ (evB.some_ rfl) jo jo) ?_)))))
 rw [cT, zbk, zbk]
 refine jf rfl zaj rfl zck ?_
 refine Ops.st (qS.store rfl rfl zck hd.blk rfl rfl) ?_
 rintro w21 ⟨hb7, hf21, hs21⟩
 have hd := hd.dirs (dv := .slice t.fA nb t.fc) hb7 hf21
 have hTX := hTX.fk (Fk.self hf21 (by simp [DrQ.X]))
 have hPX := hPX.fk (Fk.self hf21 (by simp [DrQ.X]))
 have hdp0 : D.puts = D.puts ++ cN dir (bZ D.pairs) 0 := by simp [cN]
 refine jO (jN (jv3 6 7 16 ?_))
 refine jS (jS (jR (jm rfl (je (Run.lenS rfl zad) ?_))))
 refine jx .i64 0 ?_
 refine jO (jN (jv5 6 7 116 117 118 ?_))
 refine jB ?_
 refine VC.loop (σ := Nat × Option Addr × Nat × List Pq) (fun s => [(6, .pointer (some ⟨g6, 0, none⟩)), (7, .pointer (some ⟨g7, 0, none⟩)), (116, .slice TB nb td), (117, .int .i64 ((nb : Nat) : Int)), (118, .int .i64 ((s.1 : Nat) : Int))]) (fun s wr => s.1 ≤ nb ∧ IsDr w1 wr (g6 :: Y) g7 m { D with puts := D.puts ++ cN dir (bZ D.pairs) s.1 } { t with S := s.2.1, sc := s.2.2.1, ps := s.2.2.2, dv := .slice t.fA nb t.fc } [] ∧ RdX wr (({ t with S := s.2.1, sc := s.2.2.1, ps := s.2.2.2, dv := .slice t.fA nb t.fc } : DrQ).X g7 m) 1 TB nb (bs.map SL) ∧ PgS b0 wr (({ t with S := s.2.1, sc := s.2.2.1, ps := s.2.2.2, dv := .slice t.fA nb t.fc } : DrQ).X g7 m) bs ∧ s.2.2.2.length ≤ 100000 + s.1) (fun s => nb - s.1) (0, t.S, t.sc, t.ps) (js5 rfl rfl rfl rfl rfl) ⟨zg _, by rw [← hdp0]; exact hd, hTX, hPX, by dsimp only; omega⟩ ?_
 rintro ⟨k, SS, ss, ps⟩ wr ⟨hk, hd, hTX, hPX, hpsl⟩
 dsimp only at hk hd hTX hPX hpsl ⊢
 obtain ⟨tt, htt⟩ : ∃ tt : DrQ, tt = { t with S := SS, sc := ss, ps := ps, dv := .slice t.fA nb t.fc } := ⟨_, rfl⟩
 rw [← htt] at hd hTX hPX
 have ettS : tt.S = SS := by rw [htt]
 have ettp : tt.ps = ps := by rw [htt]
 have ettd : tt.dv = .slice t.fA nb t.fc := by rw [htt]
 have hpsl2 : tt.ps.length ≤ 100000 + k := by rw [ettp]; exact hpsl
 obtain ⟨a1, a2, a3, a4, a5, a6, a7⟩ := hd.apart
 have hzl : ∀ V, Frm (ob tt.S) wr V → ∀ j, j < nb → ∃ ad, t.fA = some ad ∧ V.cell? (ad.add j) = some (.int .i64 ((dir.getD j 0 : Nat) : Int)) := fun V hV j hj => rdZ (hdR.1.frm (hd.K.own hV (fun x hx => hd.up x (by simp [DrQ.X, hx]))) jp) hdl hj
 refine jS (jR (jb rfl rfl (Bin.lssN _ _) (jO (jN (jS ?_)))))
 refine jD rfl (fun hc5 => ?_) fun hc5 => ?_
 ·
  obtain ⟨adT, hTe, helT⟩ := qXs hTX.1 hbl hc5
  subst hTe
  obtain ⟨adD, hDe, -⟩ := hzl wr (Frm.refl _ _) k hc5
  have hzc : ∀ V, Frm (ob tt.S) wr V → V.cell? (adD.add k) = some (.int .i64 ((dir.getD k 0 : Nat) : Int)) := fun V hV => by
   obtain ⟨ad2, he2, hc2⟩ := hzl V hV k hc5
   rw [hDe] at he2
   cases he2
   exact hc2
  have hdps := yC dir (bZ D.pairs) k
  have hbm := kN (jo : k < bs.length)
  have hbe : (bZ D.pairs).getD k [] = (bs.getD k (none, 0, [])).2.2 := by
   rw [← hbs, zc, zce, zb jo, zc, zb jo]
   rfl
  rw [hbe] at hdps
  have hPk := hPX _ hbm
  have hdk := hdp _ (bM (jo : k < dir.length))
  have htk := htok _ (show (bs.getD k (none, 0, [])).2.2 ∈ bZ D.pairs by rw [← hbs]; exact List.mem_map.2 ⟨_, hbm, rfl⟩)
  generalize bs.getD k (none, 0, []) = pg at helT hdps hPk htk hbm
  obtain ⟨gA, gc, gb⟩ := pg
  generalize dir.getD k 0 = p at hdps hdk hzc
  dsimp only at hdps hPk htk
  refine jQ (jN (jv5 6 7 116 117 118 ?_))
  refine jS (jB (jS (jR (jm rfl (je (Run.index1 _ rfl rfl zad zr jo) (jl rfl zal helT (ja rfl (ja rfl (jO (jN (jv7 6 7 18 19 116 117 118 ?_)))))))))))
  refine VC.heldL 13 (fun V => Frm (ob tt.S) wr V) jK ?_
  have hS : Frm (ob tt.S) wr wr.drew := (Frm.refl _ _).drew
  refine jH 0 rfl hS (fun w0 hw0 => Run.fieldAddr rfl zaj rfl zcr jd) ?_
  refine jH 1 rfl hS (fun w0 hw0 => Run.load rfl Tryz.isAgg102 ((hd.blk.frm hw0 a2).cell 0)) ?_
  refine jH 2 rfl hS (fun w0 hw0 => Run.fieldAddr rfl zaj rfl zck jd) ?_
  refine jH 3 rfl hS (fun w0 hw0 => Run.load rfl zda ((hd.blk.frm hw0 a2).cell 3)) ?_
  rw [ettd, hDe]
  refine jH 4 rfl hS (fun w0 hw0 => Run.mv rfl) ?_
  refine jH 5 rfl hS (fun w0 hw0 => Run.index1 _ rfl rfl zt zq jo) ?_
  refine jH 6 rfl hS (fun w0 hw0 => Run.load rfl zag (hzc w0 hw0)) ?_
  refine jH 7 rfl hS (fun w0 hw0 => Run.bin rfl rfl (Bin.add_i64 42 _ jo)) ?_
  refine qQ.r1 8 rfl jK hS (Run.mv rfl) trivial rfl rfl ?_
  refine qQ.r1 9 rfl jK hS (Run.build (evs.cons rfl (evs.cons rfl evs.nil)) dV (eK).choose_spec.1 (eK).choose_spec.2 (cells := (pqC (42 + p, (gA, gc, gb))).toArray) rfl) trivial rfl rfl ?_
  refine qQ.m 10 rfl jK (qZ.buildS1 rfl zak zbi dV jd jd rfl rfl) trivial rfl rfl ?_
  rintro _ w22 ⟨rfl, hF22⟩
  have hS := hS.trans hF22.frm jp
  refine ⟨hS, ?_⟩
  have hr22 : Rd w22 2 (some ⟨wr.drew.heap.size, 0, none⟩) 1 (pqC (42 + p, (gA, gc, gb))) := Rd.of_blk (n := 1) (size := 2) hF22.blk rfl
  have kf22 : Frm [] wr w22 := (qV.drew wr).frm.trans hF22.frm jp
  have hd := hd.frm kf22
  have hTX := hTX.frm kf22
  have hPX := hPX.frm kf22
  have hPk := hPX _ hbm
  refine qQ.m 11 rfl jK (qZ.app rfl rfl zak (nU) rfl jd hd.S hr22 (eF _) jo jo) trivial rfl rfl ?_
  rintro _ w23 ⟨S23, sc23, rfl, hoS, hf23, hob23⟩
  have hS := hS.trans hf23 (fun x hx => .inl hx)
  refine ⟨hS, ?_⟩
  have e23 : tt.ps.flatMap pqC ++ pqC (42 + p, (gA, gc, gb)) = (tt.ps ++ [(42 + p, (gA, gc, gb))]).flatMap pqC := jp
  rw [e23] at hoS
  have hb7 := hd.blk.frm hf23 a2
  refine qQ.r1 12 rfl jK hS (Run.fieldAddr rfl zaj rfl zcr jd) trivial rfl rfl ?_
  refine qQ.stL rfl jK (qS.store rfl rfl zcr hb7 rfl rfl) trivial rfl ?_
  rintro w24 ⟨hb7, hf24, hs24⟩
  have kfk := hd.fkS (sc1 := sc23) (ps1 := tt.ps ++ [(42 + p, (gA, gc, gb))]) hf23 hf24 hob23
  have hTX := hTX.fk kfk
  have hPX := hPX.fk kfk
  have hd := hd.puts (qs := [(42 + p, (gA, gc, gb))]) (us := [(42 + p, gb)]) (by rw [zd]; rfl) hoS hf23 hob23 hb7 hf24 rfl (fun x hx => by rw [za] at hx; subst hx; exact ⟨by dsimp only; omega, htk.1, htk.2⟩) (fun x hx => by rw [za] at hx; subst hx; exact ⟨(hPX _ hbm).1, fun y hy => ⟨((hPX _ hbm).2 y hy).1, zaw hb0w ((hPX _ hbm).2 y hy).2⟩⟩) []
  have hd9 : IsDr w1 w24 (g6 :: Y) g7 m { D with puts := D.puts ++ cN dir (bZ D.pairs) (k + 1) } { t with S := S23, sc := sc23, ps := tt.ps ++ [(42 + p, (gA, gc, gb))], dv := .slice t.fA nb t.fc } [] := by
   rw [hdps, ← zm]
   rw [htt] at hd ⊢
   exact hd
  rw [htt] at hTX hPX
  refine qQ.done jK ?_
  refine qH (jN ?_)
  refine jv5 6 7 116 117 118 ?_
  refine jR (jb rfl rfl (Bin.add_i64 _ 1 jo) (jm rfl (jO ?_)))
  refine jN ⟨(k + 1, S23, sc23, tt.ps ++ [(42 + p, (gA, gc, gb))]), (js5 rfl rfl rfl rfl rfl), ?_, ?_⟩
  ·
   rw [← hDe]
   refine ⟨hc5, hd9, by rw [htt]; exact hTX, by rw [htt]; exact hPX, by dsimp only; rw [zd, ettp, zcc]; omega⟩
  first | omega | (dsimp only; omega)
 have hkn : k = nb := jo
 rw [hkn] at hd
 have hsl : (bY dir).length = 128 := fH (by rw [eM]; omega)
 have hslt : ∀ b ∈ bY dir, b < 256 := lD (mU dir)
 refine jX ?_
 refine qJ (qJ (qT ?_))
 refine jN (jv2 6 7 ?_)
 refine jS ?_
 refine VC.heldL 9 (fun V => Frm (ob tt.S) wr V) jK ?_
 have hS : Frm (ob tt.S) wr wr.drew := (Frm.refl _ _).drew
 refine jH 0 rfl hS (fun w0 hw0 => Run.fieldAddr rfl zaj rfl zcr jd) ?_
 refine jH 1 rfl hS (fun w0 hw0 => Run.load rfl Tryz.isAgg102 ((hd.blk.frm hw0 a2).cell 0)) ?_
 refine qQ.r1 2 rfl jK hS (Run.fieldAddr rfl zaj rfl zck jd) trivial rfl rfl ?_
 refine qQ.r1 3 rfl jK hS (Run.load rfl zda ((hd.blk.frm hS a2).cell 3)) trivial rfl rfl ?_
 rw [ettd]
 refine qQ.cl 4 rfl jK (jE1 Tryz.call108) (sV t.fA nb t.fc dir _ hdl jo ((hdR.1.frm hd.K jp).drawn (qV.drew _)) (fun p hp => by have := hdp p hp; omega)) trivial rfl rfl ?_
 rintro e w25 ⟨SB, sd, rfl, hoB, hf25, hupB⟩
 have hS := hS.trans hf25 jp
 refine ⟨_, rfl, hS, ?_⟩
 have kf25 : Frm [] wr w25 := (qV.drew wr).frm.trans hf25 jp
 refine qQ.r1 5 rfl jK hS (Run.build (evs.cons rfl (evs.cons rfl evs.nil)) dV (eK).choose_spec.1 (eK).choose_spec.2 (cells := (pqC (41, (SB, sd, bY dir))).toArray) (by rw [pqC, SL, hsl]; rfl)) trivial rfl rfl ?_
 refine qQ.m 6 rfl jK (qZ.buildS1 rfl zak zbi dV jd jd rfl rfl) trivial rfl rfl ?_
 rintro _ w26 ⟨rfl, hF26⟩
 have hS := hS.trans hF26.frm jp
 refine ⟨hS, ?_⟩
 have hr26 : Rd w26 2 (some ⟨w25.heap.size, 0, none⟩) 1 (pqC (41, (SB, sd, bY dir))) := Rd.of_blk (n := 1) (size := 2) hF26.blk rfl
 have kf26 : Frm [] wr w26 := kf25.trans hF26.frm jp
 have hltX := hd.lt
 have hdK0 := hd.K
 have hd := hd.frm kf26
 have hBl := hoB.lt
 have hoB := hoB.frm hF26.frm jp
 have s25 := hF26.frm.size
 refine qQ.m 7 rfl jK (qZ.app rfl rfl zak (nU) rfl jd hd.S hr26 (eF _) jo jo) trivial rfl rfl ?_
 rintro _ w27 ⟨S27, sc27, rfl, hoS, hf27, hob27⟩
 have hS := hS.trans hf27 (fun x hx => .inl hx)
 refine ⟨hS, ?_⟩
 have e27 : tt.ps.flatMap pqC ++ pqC (41, (SB, sd, bY dir)) = (tt.ps ++ [(41, (SB, sd, bY dir))]).flatMap pqC := jp
 rw [e27] at hoS
 have hb7 := hd.blk.frm hf27 a2
 refine qQ.r1 8 rfl jK hS (Run.fieldAddr rfl zaj rfl zcr jd) trivial rfl rfl ?_
 refine qQ.stL rfl jK (qS.store rfl rfl zcr hb7 rfl rfl) trivial rfl ?_
 rintro w28 ⟨hb7, hf28, hs28⟩
 have kfk := hd.fkS (sc1 := sc27) (ps1 := tt.ps ++ [(41, (SB, sd, bY dir))]) hf27 hf28 hob27
 have hq28 : PuS w1.heap.size w28 (g7 :: m :: (ob S27 ++ ob tt.A)) [(41, (SB, sd, bY dir))] := by
  have h0 : PuS w1.heap.size w26 (tt.X g7 m) [(41, (SB, sd, bY dir))] := fun x hx => by
   rw [za] at hx
   subst hx
   refine ⟨by dsimp only; rw [hsl]; exact hoB.rd, fun y hy => ?_⟩
   have h1 := hupB y hy
   have h2 := hBl y hy
   rw [show wr.drew.heap.size = wr.heap.size from rfl] at h1
   have h3 := hdK0.size
   exact ⟨⟨jo, fun hx => by have := hltX y hx; omega⟩, jo⟩
  exact h0.fk kfk
 have hd := hd.puts (qs := [(41, (SB, sd, bY dir))]) (us := [(41, bY dir)]) (by rw [zd]; rfl) hoS hf27 hob27 hb7 hf28 rfl (fun x hx => by rw [za] at hx; subst hx; exact ⟨by dsimp only; omega, hsl, hslt⟩) hq28 []
 refine qQ.done jK ?_
 refine jN (jv2 6 7 ?_)
 refine jS (jR (je (Run.loadA rfl Tryz.isAgg104 zge hd.blk.cells (by first | rfl | (simp; done))) ?_))
 refine Ops.st (qS.storeA rfl rfl zge (hb60.frm hd.K jp) rfl (by intro u hu; simp only [plV, zx, zaf, or_false] at hu; rcases hu with rfl | rfl | rfl | rfl; rfl; rfl; rfl; rw [ettd]; rfl)) ?_
 rintro w30 ⟨hb6, hf30, hs30⟩
 refine jO (jN (jv1 6 ?_))
 refine jT ?_
 refine eO ?_
 refine cY rfl Tryz.isAgg104 zge (hb6.cells) (by first | rfl | (simp; done) | (simp [*]; done)) ?_
 refine cV ?_
 have hpe : bW D = ⟨(D.puts ++ cN dir (bZ D.pairs) nb) ++ [(41, bY dir)], D.pairs, D.lies, dir⟩ := by
  unfold bW
  rw [← hnb, ← hdir]
 have hup := hd.up
 have ng : ∀ y ∈ DrQ.X g7 m { tt with S := S27, sc := sc27, ps := tt.ps ++ [(41, (SB, sd, bY dir))] }, y ∉ [g6] := fun y hy h => by
  rw [za] at h
  have := hup y hy
  omega
 have hfw : Frm [g6] w1 w30 := (hd.K.mono jp).trans hf30 (fun x hx => .inl hx)
 refine ⟨⟨S27, sc27, tt.ps ++ [(41, (SB, sd, bY dir))], tt.A, tt.ca, m, tt.ly, t.fA, t.fc⟩, (tt.ps ++ [(41, (SB, sd, bY dir))]).length, D.pairs.length, nb, by rw [← ettd]; rfl, rfl, by rw [hpe], by rw [hpe]; exact hdl.symm, ?_⟩
 rw [hpe]
 exact ⟨(KW.trans hd.K jp).own hf30 (by simp; omega), ⟨rfl, (hd.S.frm hf30 (fun y hy => ng y (by simp [DrQ.X, hy]))).rd, fun x hx => (hd.ps x hx).1.frm hf30 (fun _ y hy h => by rw [za] at h; have := ((hd.ps x hx).2 y hy).2; omega), fun x hx => by
   have := (hd.ok.pu (x.1, x.2.2.2) (by rw [← hd.pu]; exact List.mem_map.2 ⟨x, hx, rfl⟩)).1
   dsimp only at this
   omega, fun x hx => (hd.ok.pu (x.1, x.2.2.2) (by rw [← hd.pu]; exact List.mem_map.2 ⟨x, hx, rfl⟩)).2.2⟩, hd.pu, fun x hx y hy => by have := ((hd.ps x hx).2 y hy).2; omega,
  (hd.A.frm hf30 (fun y hy => ng y (by simp [DrQ.X, hy]))).rd, hd.A.le, fun y hy => by have := hup y (by simp [DrQ.X, hy]); omega, hd.mp.frm hf30 (ng m (by simp [DrQ.X])), by have := hup m (by simp [DrQ.X]); show w.heap.size ≤ m; omega, fun id r hid => ⟨(hd.ly id r hid).1.less hfw, (hd.ly id r hid).2⟩, fun x hx => hd.lyD x hx jp, by
   show RdX w30 Y 1 t.fA dir.length (ZN dir)
   rw [hdl]
   exact hdR.less hfw⟩
end
section
open Go.RowKit
theorem sW (l : List Pr) (p : Nat → Bool) : (l.filter fun x => p x.1).map (·.1) = (l.map (·.1)).filter p := by
 rw [List.filter_map]
 rfl
theorem wJ (x : Dw) (c : Ch) : (bL x c).pairs.map (·.1) = ((x.pairs.map (·.1)).filter fun y => decide (y < c.1)) ++ (if c.2.2 then [] else [c.1]) ++ ((x.pairs.map (·.1)).filter fun y => decide (c.1 < y)) := by
 rw [← sW, ← sW]
 unfold bL
 split
 · next h => simp [bB, bH]
 next h => simp [bB, bH, cW]
theorem qKy (H : Hm) (l : List Ch) (fr fr' : List Nat) : (bK H l fr).pairs.map (·.1) = (bK H l fr').pairs.map (·.1) := by
 unfold bK
 generalize hx : (⟨[], H.pairs, fr, H.lies⟩ : Dw) = x
 generalize hx' : (⟨[], H.pairs, fr', H.lies⟩ : Dw) = x'
 have h1 : x.pairs.map (·.1) = x'.pairs.map (·.1) := by rw [← hx, ← hx']
 clear hx hx'
 induction l generalizing x x' with
 | nil => exact h1
 | cons c r ih => exact ih _ _ (by rw [wJ, wJ, h1])
theorem uX (H : Hm) (l : List Ch) (fr fr' : List Nat) : (bK H l fr).pairs.length = (bK H l fr').pairs.length := by
 have := congrArg List.length (qKy H l fr fr')
 simpa using this
def cM (H : Hm) (l : List Ch) : Prop := ∀ x ∈ l, x.2.2 = true → x.1 ∈ H.pairs.map (·.1)
instance (H : Hm) (l : List Ch) : Decidable (cM H l) := by unfold cM; infer_instance
def cJ (H : Hm) (l : List Ch) : Nat := (bK H l []).pairs.length
def bQ (H : Hm) (l : List Ch) : Nat := sumN l + pagesT (cJ H l)
def qD (H : Hm) (l : List Ch) : Pln := bW (bK H l ((bG H.N H.used).take (bQ H l)))
def Hm.plan (H : Hm) (dk : Dk) (P : Pln) : Hm := ⟨dk, P.pairs, P.dir, P.lies, H.used⟩
def Hm.count (H : Hm) : Hm := { H with used := (bP H.N (fun _ => false) (bD H)).getD (fun _ => false) }
def qN (H : Hm) (l : List Ch) : Nat × Hm :=
 if ¬ cX l then (1, H)
 else if ¬ cM H l then (6, H)
 else if 600 < cJ H l ∨ 40 < bQ H l + 1 then (5, H)
 else if H.N - cntS H.N H.used < bQ H l then (5, H)
 else if (qF H.dk (qD H l).puts).1 ≠ 0 then ((qF H.dk (qD H l).puts).1, { H with dk := (qF H.dk (qD H l).puts).2 })
 else (0, (H.plan (qF H.dk (qD H l).puts).2 (qD H l)).count)
def kT (H : Hm) (l : List Ch) : Prop := cX l → cM H l → cJ H l ≤ 600 → bQ H l ≤ 39 → bQ H l ≤ H.N - cntS H.N H.used → (qF H.dk (qD H l).puts).1 = 0 →
 (H.plan (qF H.dk (qD H l).puts).2 (qD H l)).ok ∧ (qF H.dk (qD H l).puts).2.has.length = H.dk.has.length ∧ ∃ U, bP H.N (fun _ => false) (bD (H.plan (qF H.dk (qD H l).puts).2 (qD H l))) = some U
theorem IsHt.lt {w : World} {h g : Nat} {F : List Nat} {H : Hm} {q : HtQ} (a : IsHt w h g F H q) : ∀ x ∈ h :: F, x < w.heap.size := fun x hx => by
 rcases zx.1 hx with rfl | hx
 · exact a.blk.lt
 exact a.dk.lt x hx
theorem RdX.of_new {w w' : World} {X : List Nat} {A : Option Addr} {sz n : Nat} {xs : List Value} (h : Rd w' sz A n xs) (hA : ∀ x ∈ ob A, w.heap.size ≤ x) (hX : ∀ x ∈ X, x < w.heap.size) : RdX w' X sz A n xs := ⟨h, fun h0 y hy => ⟨h.lt h0 y hy, fun hx => by
 have h1 := hX y hx
 have h2 := hA y hy
 omega⟩⟩
theorem qWy (H : Hm) (hs : Srt H.pairs) (l : List Ch) (fr : List Nat) : (bK H l fr).pairs.length ≤ H.pairs.length + l.length := by
 have key : ∀ (l : List Ch) (x : Dw), Srt x.pairs → (l.foldl bL x).pairs.length ≤ x.pairs.length + l.length := by
  intro l
  induction l with
  | nil => intro x _; simp
  | cons c r ih =>
   intro x hx
   have h1 := ih _ (yN hx c)
   have h2 := yP hx c
   rw [zdz, zv]
   have h3 : (bL x c).pairs.length ≤ x.pairs.length + 1 := by split at h2 <;> split at h2 <;> omega
   omega
 exact key l _ hs
theorem dJ (d : Dk) (l : List Pu) : (qF d l).2.has.length = d.has.length := by
 unfold qF
 split
 · rfl
 exact sS _ _
theorem qKz (H : Hm) (l : List Ch) (fr : List Nat) : (bK H l fr).puts.length ≤ sumN l := by
 have key : ∀ (l : List Ch) (x : Dw), (l.foldl bL x).puts.length ≤ x.puts.length + sumN l := by
  intro l
  induction l with
  | nil => intro x; simp [sumN]
  | cons c r ih =>
   intro x
   have h1 := ih (bL x c)
   have h2 : (bL x c).puts.length ≤ x.puts.length + needsM c.2.1.length := by
    unfold bL
    split
    · exact Nat.le_add_right _ _
    dsimp only
    rw [zd, dY, tA, zi]
    omega
   have h3 : sumN (c :: r) = needsM c.2.1.length + sumN r := by simp [sumN]
   rw [zdz]
   omega
 have := key l ⟨[], H.pairs, fr, H.lies⟩
 unfold bK
 simpa using this
theorem qJf (D : Dw) : (bW D).puts.length = D.puts.length + (bZ D.pairs).length + 1 := by
 unfold bW cN
 simp
 omega
theorem Own.blk1 {w : World} {e sz g : Nat} {xs : List Value} (h : Own w e sz (some ⟨g, 0, none⟩) 1 1 xs) : Blk w g e xs.toArray := by
 rcases h.cases with ⟨h0, _⟩ | ⟨g', cur, hA, hb, _, _, h3, h4⟩
 · cases h0
 cases hA
 rw [← h4, zf (by rw [zbj]; omega)]
 exact hb
theorem IsPl.frm {w w' w2 : World} {X : List Nat} {P : Pln} {t : PlQ} (p : IsPl w w' X P t) (k : Frm [] w' w2) : IsPl w w2 X P t :=
 ⟨p.K.trans k jp, p.rp.frm k, p.pu, p.off, p.pr.frm k jp, p.pc, p.A, p.mp.frm k jp, p.ml, fun id r hr => ⟨(p.ly id r hr).1.frm k, (p.ly id r hr).2⟩, p.lyD, p.dr.frm k⟩
theorem IsHt.dks {w w' : World} {h g : Nat} {F F' : List Nat} {H : Hm} {q : HtQ} {d' : Dk} (a : IsHt w h g F H q) (hD : IsDk w' g F' d') (k : Fk F w w' F') (hok : ({ H with dk := d' } : Hm).ok) (hl : d'.has.length = H.dk.has.length) : IsHt w' h g F' { H with dk := d' } q := by
 have kk : Fk (h :: F) w w' (h :: F') := Fk.left (X := [h]) k
 have hN : ({ H with dk := d' } : Hm).N = H.N := by unfold Hm.N; dsimp only; rw [hl]
 exact ⟨hok, hD, k.out a.blk.lt a.hF, by rw [hN]; exact a.blk.frm k.1 a.hF, a.pr.fk kk, a.pcap, a.dr.fk kk, a.mp.frm kk.1 a.ml, kk.out a.mp.lt a.ml, fun id x hx => ⟨(a.ly id x hx).1.fk kk, (a.ly id x hx).2⟩, a.lyH, by rw [hN]; exact a.us.fk kk⟩
theorem IsHt.planned {w0 w w' : World} {h g : Nat} {F F' : List Nat} {H : Hm} {q : HtQ} {d' : Dk} {P : Pln} {t : PlQ} (a : IsHt w h g F H q) (p : IsPl w0 w (h :: F) P t) (h0 : ∀ x ∈ h :: F, x < w0.heap.size) (hD : IsDk w' g F' d') (k : Fk (h :: F) w w' (h :: F')) (hhF : h ∉ F')
  (hb : Blk w' h 91 #[.pointer (some ⟨g, 0, none⟩), .slice t.A P.pairs.length t.ca, .slice t.dA P.dir.length t.dc, .map (some t.m), .int .i64 ((H.N : Nat) : Int), .slice q.sB ((H.N + 7) / 8) q.sc]) (hok : (H.plan d' P).ok) (hl : d'.has.length = H.dk.has.length) : IsHt w' h g F' (H.plan d' P) ⟨t.A, t.ca, t.dA, t.dc, t.m, q.sB, q.sc, t.ly⟩ := by
 have hN : (H.plan d' P).N = H.N := by unfold Hm.N Hm.plan; dsimp only; rw [hl]
 have hm : t.m ∉ h :: F := fun hx => by have := h0 _ hx; have := p.ml; omega
 exact ⟨hok, hD, hhF, by rw [hN]; exact hb, (RdX.of_new p.pr p.A h0).fk k, p.pc, p.dr.fk k, p.mp.frm k.1 hm, k.out p.mp.lt hm, fun id x hx => ⟨(p.ly id x hx).1.fk k, (p.ly id x hx).2⟩, p.lyD, by rw [hN]; exact a.us.fk k⟩
theorem IsHt.counted {w w' : World} {h g : Nat} {F : List Nat} {H : Hm} {q : HtQ} {U : Nat → Bool} {B : Option Addr} {c : Nat} (a : IsHt w h g F H q) (hb : Blk w' h 91 #[.pointer (some ⟨g, 0, none⟩), .slice q.pA H.pairs.length q.pc, .slice q.dA H.dir.length q.dc, .map (some q.l), .int .i64 ((H.N : Nat) : Int), .slice B ((H.N + 7) / 8) c]) (k : Frm [h] w w')
  (hr : RdX w (h :: F) 1 B ((H.N + 7) / 8) (NB (bO H.N U))) : IsHt w' h g F { H with used := U } { q with sB := B, sc := c } := by
 have kk : Fk (h :: F) w w' (h :: F) := Fk.self k jp
 exact ⟨⟨a.ok.srt, a.ok.okp, a.ok.n600, a.ok.sz, a.ok.big, a.ok.wts, a.ok.d59, a.ok.dirp, a.ok.pg⟩, a.dk.frm k (fun x hx h => by rw [za] at h; subst h; exact a.hF hx), a.hF, hb, a.pr.fk kk, a.pcap, a.dr.fk kk, a.mp.frm kk.1 a.ml, a.ml, fun id x hx => ⟨(a.ly id x hx).1.fk kk, (a.ly id x hx).2⟩, a.lyH, hr.fk kk⟩
theorem RdX.mono {w : World} {X Y : List Nat} {A : Option Addr} {sz n : Nat} {xs : List Value} (h : RdX w X sz A n xs) (hY : ∀ y ∈ Y, y ∈ X) : RdX w Y sz A n xs := ⟨h.1, fun h0 y hy => ⟨(h.2 h0 y hy).1, fun hx => (h.2 h0 y hy).2 (hY y hx)⟩⟩
theorem IsPl.mono {w w' : World} {X Y : List Nat} {P : Pln} {t : PlQ} (p : IsPl w w' X P t) (hY : ∀ y ∈ Y, y ∈ X) : IsPl w w' Y P t :=
 ⟨p.K, p.rp, p.pu, p.off, p.pr, p.pc, p.A, p.mp, p.ml, fun id r hr => ⟨(p.ly id r hr).1.mono hY, (p.ly id r hr).2⟩, p.lyD, p.dr.mono hY⟩
structure OffQ (E : List Nat) (H : Hm) (q : HtQ) : Prop where
 pr : 0 < H.pairs.length → ∀ y ∈ ob q.pA, y ∉ E
 dr : 0 < H.dir.length → ∀ y ∈ ob q.dA, y ∉ E
 ml : q.l ∉ E
 ly : ∀ id x, q.ly id = some x → 0 < x.2.2.length → ∀ y ∈ ob x.1, y ∉ E
 us : 0 < (H.N + 7) / 8 → ∀ y ∈ ob q.sB, y ∉ E
theorem IsHt.off {w : World} {h g b : Nat} {F E : List Nat} {H : Hm} {q : HtQ} (a : IsHt w h g F H q) (hb : w.heap.size ≤ b) (hE : ∀ y ∈ E, b ≤ y) : OffQ E H q :=
 ⟨fun h0 y hy hx => by have := (a.pr.2 h0 y hy).1; have := hE y hx; omega, fun h0 y hy hx => by have := (a.dr.2 h0 y hy).1; have := hE y hx; omega, fun hx => by have := a.mp.lt; have := hE _ hx; omega,
  fun id x hx h0 y hy hx2 => by have := ((a.ly id x hx).1.2 h0 y hy).1; have := hE y hx2; omega, fun h0 y hy hx => by have := (a.us.2 h0 y hy).1; have := hE y hx; omega⟩
theorem OffQ.nil (H : Hm) (q : HtQ) : OffQ [] H q := ⟨fun _ _ _ => jp, fun _ _ _ => jp, jp, fun _ _ _ _ _ _ => jp, fun _ _ _ => jp⟩
theorem qQg {H : Hm} (_ : H.ok) : ∀ p ∈ bG H.N H.used, p < H.N := fun p hp => List.mem_range.1 (List.mem_filter.1 hp).1
set_option maxHeartbeats 4000000 in
theorem yD (E : List Nat) (S : Option Addr) (n c : Nat) (l : List Cq) (h g : Nat) (F : List Nat) (H : Hm) (q : HtQ) (w : World) (hH : IsHt w h g F H q) (hE : ∀ y ∈ E, y < w.heap.size) (hqE : OffQ E H q) (hn : n ≤ 1000) (hr : RdC w S n l) (hmk : kT H (chL l)) (hok' : (qN H (chL l)).2.ok) :
  Calls Tryz.prog 10 #[.pointer (some ⟨h, 0, none⟩), .slice S n c] w fun e w' => ∃ F' q', e = .returned (.int .i64 (((qN H (chL l)).1 : Nat) : Int)) ∧ IsHt w' h g F' (qN H (chL l)).2 q' ∧ Fk (h :: F) w w' (h :: F') ∧ OffQ E (qN H (chL l)).2 q' := by
 have h600 := hH.ok.n600
 have hbg := hH.ok.big
 have hsz := hH.ok.sz
 have hNe : H.N = H.dk.has.length - 42 := rfl
 have hln := hr.len
 have K0 := Frm.refl [] w
 have hX := hH.lt
 refine VC.calls (nt := 105) (res := #[.tmp 4]) Tryz.func10 rfl Tryz.ntmps10 Tryz.results10 rfl ?_
 refine jS (jR (jz 0 (jO (jN (jv2 0 1 ?_)))))
 refine jS (jS (jR (jM ?_)))
 refine Ops.cl (jE1 Tryz.call41) (qZ9 S n c l w jo hr) rfl ?_
 rintro e w1 ⟨rfl, K⟩
 refine ⟨_, rfl, ?_⟩
 refine je (Run.not rfl) (jO (jN (jv3 0 1 18 ?_)))
 refine VC.condB rfl (fun hc1 => ?_) (fun hc1 => ?_)
 ·
  have hm : ¬ cX (chL l) := by simpa using hc1
  have eB : qN H (chL l) = (1, H) := by unfold qN; rw [if_pos hm]
  rw [eB]
  refine jS (jR (jz 1 (jO (jN (jv1 4 ?_)))))
  refine jT ?_
  refine qP (qB rfl ?_)
  exact ⟨F, q, rfl, hH.frm K, Fk.self K jp, hqE⟩
 have hm : cX (chL l) := by simpa using hc1
 refine jQ (jN (jv2 0 1 ?_))
 refine jS (jS (jR (jm rfl (je (Run.lenS rfl zan) ?_))))
 refine jx .i64 0 ?_
 refine jO (jN (jB ?_))
 refine VC.loop (σ := Nat) (fun s => [(0, .pointer (some ⟨h, 0, none⟩)), (1, .slice S n c), (19, .slice S n c), (20, .int .i64 ((n : Nat) : Int)), (21, .int .i64 ((s : Nat) : Int))]) (fun s wr => s ≤ n ∧ cM H (chL (l.take s)) ∧ Frm [] w wr) (fun s => n - s) 0 (js5 rfl rfl rfl rfl rfl) ⟨zg _, fun x hx => (by cases hx), K⟩ ?_
 rintro i wr ⟨hi, hgo, K⟩
 refine jS (jR (jb rfl rfl (Bin.lssN _ _) (jO (jN (jS ?_)))))
 refine jD rfl (fun hc2 => ?_) fun hc2 => ?_
 ·
  obtain ⟨ad, hS, hel⟩ := (hr.frm K).cell hc2
  subst hS
  have hmem := lL (jo : i < l.length)
  have hxn := hr.num _ hmem
  have hsnc := kV (jo : i < l.length)
  have hcm : chO (l.getD i cq0) ∈ chL l := List.mem_map.2 ⟨_, hmem, rfl⟩
  generalize l.getD i cq0 = x at hel hxn hsnc hcm
  obtain ⟨xa, ⟨xA, xc, xb⟩, xg⟩ := x
  dsimp only [chO] at hxn hsnc hcm
  refine jQ (jN (jv5 0 1 19 20 21 ?_))
  refine jS (jB (jS (jR (je (Run.indexS _ rfl rfl zan zba jo) (je (Run.loadA rfl zfx zba hel (by first | rfl | (simp; done))) ?_)))))
  refine Ops.m (qZ.alloc fJ) rfl ?_
  rintro _ w2 ⟨rfl, hF2⟩
  refine Ops.st (qS.storeA rfl rfl zba hF2.blk rfl (lJ (xa, (xA, xc, xb), xg))) ?_
  rintro w3 ⟨hb3, hf3, hs3⟩
  have hb3 : Blk w3 wr.heap.size 93 #[.int .u64 ((xa : Nat) : Int), .slice xA xb.length xc, .bool xg] := hb3
  have K := K.trans (hF2.frm.own hf3 jp) jp
  have hH3 := hH.frm K
  refine jO (jN (jv6 0 1 6 19 20 21 ?_))
  refine jS ?_
  refine VC.held (fun V => Frm [] w3 V) jK ?_
  have hS : Frm [] w3 w3.drew := (Frm.refl _ _).drew
  refine jH 0 rfl hS (fun w0 hw0 => Run.mv rfl) ?_
  refine jH 1 rfl hS (fun w0 hw0 => Run.nilck rfl) ?_
  refine jH 2 rfl hS (fun w0 hw0 => Run.fieldAddr rfl zw rfl zap jd) ?_
  refine jH 3 rfl hS (fun w0 hw0 => Run.load rfl zbq ((hH3.frm hw0).blk.cell 1)) ?_
  refine jH 4 rfl hS (fun w0 hw0 => Run.fieldAddr rfl zac rfl zaa jd) ?_
  refine jH 5 rfl hS (fun w0 hw0 => Run.load rfl zas ((hb3.frm hw0 jp).cell 0)) ?_
  refine qQ.cl 6 rfl jK (jE2 Tryz.call42) (lX _ _ xa _ H.pairs _ rfl jo (hH3.frm hS).pr.1 hH.ok.okp hH.ok.srt hxn.1) trivial rfl rfl ?_
  rintro e w4 ⟨rfl, hf4⟩
  have hS := hS.trans hf4 jp
  refine ⟨_, rfl, hS, ?_⟩
  have hb4 := hb3.frm hS jp
  have K := K.trans hS jp
  generalize hg6 : wr.heap.size = g6 at *
  refine jH 7 rfl hS (fun w0 hw0 => Run.mv rfl) ?_
  refine jH 8 rfl hS (fun w0 hw0 => Run.extract rfl rfl) ?_
  refine jH 9 rfl hS (fun w0 hw0 => Run.extract rfl rfl) ?_
  refine jH 10 rfl hS (fun w0 hw0 => Run.asg rfl) ?_
  refine jH 11 rfl hS (fun w0 hw0 => Run.asg rfl) ?_
  refine qQ.done jK ?_
  refine jN (jv7 0 1 6 8 19 20 21 ?_)
  refine jS ?_
  refine VC.split1 [(0, _), (1, _), (19, _), (20, _), (21, _)] (js5 rfl rfl rfl rfl rfl) 40 (.bool (decide (xg = true ∧ xa ∉ H.pairs.map (·.1)))) ?_ ?_
  ·
   refine jR (jf rfl zac rfl zbu (jl rfl zds (hb4.cell 2) ?_))
   by_cases hs36 : xg = true
   ·
    refine jM ?_
    refine jG ?_
    refine jk (Run.not rfl) ?_
    by_cases hs39 : xa ∉ H.pairs.map (·.1)
    ·
     refine je (Run.pickT rfl rfl au) (jO ?_)
     refine jN ⟨(js6 (jC (by grind)) rfl rfl rfl rfl rfl), rfl⟩
    refine je (Run.pickT rfl rfl au) (jO ?_)
    refine jN ⟨(js6 (jC (by grind)) rfl rfl rfl rfl rfl), rfl⟩
   refine jM ?_
   refine jU ?_
   refine jU ?_
   refine je (Run.pickF rfl rfl au) (jO ?_)
   refine jN ⟨(js6 (jC (by grind)) rfl rfl rfl rfl rfl), rfl⟩
  intro Γ hΓ
  refine jN (VC.sub _ hΓ ?_)
  refine jD rfl (fun hc3 => ?_) fun hc3 => ?_
  ·
   have hng : ¬ cM H (chL l) := fun hg => hc3.2 (hg _ hcm hc3.1)
   have eB : qN H (chL l) = (6, H) := by unfold qN; rw [if_neg (not_not_intro hm), if_pos hng]
   rw [eB]
   refine jS (jR (jz 6 (jO (jN (jv1 4 ?_)))))
   refine jT ?_
   refine qO (qP (qP (qO (qP (qB rfl ?_)))))
   exact ⟨F, q, rfl, hH.frm K, Fk.self K jp, hqE⟩
  refine jQ ?_
  refine qH (jN ?_)
  refine jv5 0 1 19 20 21 ?_
  refine jR (jb rfl rfl (Bin.add_i64 _ 1 jo) (jm rfl (jO ?_)))
  refine jN ⟨i + 1, (js5 rfl rfl rfl rfl rfl), ?_, ?_⟩
  ·
   exact ⟨hc2, by
    rw [hsnc]
    intro x hx hg
    rcases zcb.1 hx with hx | hx
    · exact hgo x hx hg
    rw [za] at hx
    subst hx
    exact Classical.byContradiction fun hn => hc3 ⟨hg, hn⟩, K⟩
  first | omega | (dsimp only; omega)
 rw [zf (jo : l.length ≤ i)] at hgo
 have hgo2 : cM H (chL l) := hgo
 have hbp0 : cJ H (chL l) ≤ 100000 := by
  have := qWy H hH.ok.srt (chL l) []
  rw [lK] at this
  unfold cJ
  omega
 refine jX ?_
 refine qJ (qJ (qT ?_))
 refine jN (jv2 0 1 ?_)
 refine jS (jR (jm rfl (jM ?_)))
 refine Ops.cl (jE2 Tryz.call43) (qQe S n c l [] h g F H q wr (hH.frm K) hn (hr.frm K) hm hgo2) rfl ?_
 rintro e w5 ⟨rfl, K5⟩
 refine ⟨_, rfl, ?_⟩
 have K := K.trans K5 jp
 rw [show (bK H (chL l) []).pairs.length = cJ H (chL l) from rfl, show sumN (chL l) + pagesT (cJ H (chL l)) = bQ H (chL l) from rfl]
 have hbn : bQ H (chL l) ≤ 100000000 := by
  have h1 := uA l (fun x hx => (hr.num x hx).2)
  have h2 := wQ (cJ H (chL l))
  unfold bQ
  omega
 have hbp : cJ H (chL l) ≤ 100000 := hbp0
 refine jm rfl (je (Run.extract rfl rfl) (je (Run.extract rfl rfl) (ja rfl (ja rfl (jO (jN (jv4 0 1 9 10 ?_)))))))
 refine jS (jS ?_)
 refine VC.split1 [(0, _), (1, _), (9, _)] (js3 rfl rfl rfl) 54 (.bool (decide (600 < cJ H (chL l) ∨ 40 < bQ H (chL l) + 1))) ?_ ?_
 ·
  refine jR ?_
  refine jm rfl (jb rfl rfl (Bin.gtrN _ 600) ?_)
  by_cases hs49 : 600 < cJ H (chL l)
  ·
   refine jM ?_
   refine jU ?_
   refine jU ?_
   refine jU ?_
   refine je (Run.pickT rfl rfl au) (jO ?_)
   refine jN ⟨(js4 (jC (by grind)) rfl rfl rfl), rfl⟩
  refine jM ?_
  refine jG ?_
  refine jk (Run.bin rfl rfl (Bin.add_i64 _ 1 jo)) ?_
  refine jk (Run.bin rfl rfl (Bin.gtrN _ 40)) ?_
  by_cases hs53 : 40 < bQ H (chL l) + 1
  ·
   refine je (Run.pickF rfl rfl au) (jO ?_)
   refine jN ⟨(js4 (jC (by grind)) rfl rfl rfl), rfl⟩
  refine je (Run.pickF rfl rfl au) (jO ?_)
  refine jN ⟨(js4 (jC (by grind)) rfl rfl rfl), rfl⟩
 intro Γ hΓ
 refine jN (VC.sub _ hΓ ?_)
 refine jD rfl (fun hc4 => ?_) fun hc4 => ?_
 ·
  have eB : qN H (chL l) = (5, H) := by unfold qN; rw [if_neg (not_not_intro hm), if_neg (not_not_intro hgo2), if_pos hc4]
  rw [eB]
  refine jS (jR (jz 5 (jO (jN (jv1 4 ?_)))))
  refine jT ?_
  refine qP (qB rfl ?_)
  exact ⟨F, q, rfl, hH.frm K, Fk.self K jp, hqE⟩
 have hnb : bQ H (chL l) ≤ 39 := jo
 have hpb : cJ H (chL l) ≤ 600 := jo
 refine jQ (jN (jv3 0 1 9 ?_))
 refine jS (jR (jm rfl (je (Run.nilck rfl) (jf rfl zw rfl zk (je (Run.loadA rfl zai zk ((hH.frm K).blk.sub 4 (spV H.N q.sB q.sc).toList rfl) (by first | rfl | (simp; done))) (jM ?_))))))
 refine Ops.cl (jE2 Tryz.call44) (qXx H.N q.sc (bQ H (chL l)) q.sB H.used w5 jo jo jo (hH.frm K).us.1) rfl ?_
 rintro e w6 ⟨K6, ho6⟩
 have ks5 := K.size
 obtain ⟨vs, LA, ln, cl, er, rfl, hvs, hv1, hor⟩ : ∃ vs LA ln cl, ∃ er : Nat, e = .returned (.tuple #[.agg vs, .slice LA ln cl, .int .i64 ((er : Nat) : Int)]) ∧ vs.size = 2 ∧ (∀ u ∈ vs.toList, u.oneCell' = true) ∧ ((H.N - cntS H.N H.used < bQ H (chL l) ∧ er = 5) ∨ (¬ H.N - cntS H.N H.used < bQ H (chL l) ∧ er = 0 ∧ ln = bQ H (chL l) ∧ Rd w6 1 LA (bQ H (chL l)) (ZN ((bG H.N H.used).take (bQ H (chL l)))) ∧ bQ H (chL l) ≤ cl ∧ ∀ x ∈ ob LA, w5.heap.size ≤ x)) := by
  split at ho6
  · next hlt => obtain ⟨vs, he, h2, h3⟩ := ho6; exact ⟨vs, none, 0, 0, 5, he, h2, h3, .inl ⟨hlt, rfl⟩⟩
  next hlt => obtain ⟨vs, L, cl, he, ⟨h2, h3⟩, h4, h5, h6⟩ := ho6; exact ⟨vs, L, _, cl, 0, he, h2, h3, .inr ⟨hlt, rfl, rfl, h4, h5, h6⟩⟩
 refine ⟨_, rfl, ?_⟩
 have K := K.trans K6 jp
 refine jm rfl (je (Run.extract rfl rfl) (je (Run.extract rfl rfl) (je (Run.extract rfl rfl) ?_)))
 refine Ops.m (qZ.alloc eS) rfl ?_
 rintro _ w7 ⟨rfl, hF7⟩
 refine Ops.st (qS.storeA rfl rfl (by rw [hvs]; exact zk) hF7.blk (by rw [hvs]; rfl) hv1) ?_
 rintro w8 ⟨hb8, hf8, hs8⟩
 have k68 : Frm [] w6 w8 := hF7.frm.own hf8 jp
 have K := K.trans k68 jp
 refine ja rfl (ja rfl (jO (jN (jv4 0 1 12 13 ?_))))
 refine jS (jS (jR (jm rfl (jb rfl rfl (Bin.neqN _ 0) (jO (jN (jv5 0 1 12 13 66 ?_)))))))
 refine jD rfl (fun hc5 => ?_) fun hc5 => ?_
 ·
  obtain ⟨hfu, rfl⟩ : H.N - cntS H.N H.used < bQ H (chL l) ∧ er = 5 := by
   rcases hor with h | h
   · exact h
   exact absurd h.2.1 jo
  have eB : qN H (chL l) = (5, H) := by unfold qN; rw [if_neg (not_not_intro hm), if_neg (not_not_intro hgo2), if_neg hc4, if_pos hfu]
  rw [eB]
  refine jS (jR (jm rfl (ja rfl (jO (jN (jv1 4 ?_))))))
  refine jT ?_
  refine qP (qB rfl ?_)
  exact ⟨F, q, rfl, hH.frm K, Fk.self K jp, hqE⟩
 obtain ⟨hnf, -, hlne, hrL, hcl, hupL⟩ := hor.resolve_left (fun h => jo)
 subst hlne
 obtain ⟨fr, hfr⟩ : ∃ fr, fr = (bG H.N H.used).take (bQ H (chL l)) := ⟨_, rfl⟩
 rw [← hfr] at hrL
 have hfl : fr.length = bQ H (chL l) := by rw [hfr, zi, mP]; omega
 have hrn : (bK H (chL l) fr).pairs.length = cJ H (chL l) := uX _ _ _ _
 have htl : (bZ (bK H (chL l) fr).pairs).length = pagesM (cJ H (chL l)) := by rw [mS, hrn]
 have hpt : pagesT (cJ H (chL l)) = pagesM (cJ H (chL l)) := if_pos hpb
 have hbe : bQ H (chL l) = sumN (chL l) + pagesM (cJ H (chL l)) := by unfold bQ; rw [hpt]
 have hplan : bW (bK H (chL l) fr) = qD H (chL l) := by rw [hfr]; rfl
 have hH8 := hH.frm K
 have hX8 : ∀ x ∈ h :: F, x < w8.heap.size := fun x hx => by have := hX x hx; have := K.size; omega
 have hEX : ∀ x ∈ h :: F ++ E, x < w.heap.size := fun x hx => by
  rcases zcb.1 hx with hx | hx
  · exact hX x hx
  exact hE x hx
 have hE8 : ∀ y ∈ E, y < w8.heap.size := fun y hy => by have := hE y hy; have := K.size; omega
 have hLX : RdX w8 (h :: F ++ E) 1 LA (bQ H (chL l)) (ZN fr) := (RdX.of_new (w := w5) hrL hupL (fun x hx => by have := hEX x hx; omega)).frm k68
 have hYl : ∀ id x, q.ly id = some x → RdX w8 (h :: F ++ E) 1 x.1 x.2.2.length (ZN x.2.2) := fun id x hx => ⟨(hH8.ly id x hx).1.1, fun h0 y hy => ⟨((hH8.ly id x hx).1.2 h0 y hy).1, fun hy2 => by
  rcases zcb.1 hy2 with hy2 | hy2
  · exact ((hH8.ly id x hx).1.2 h0 y hy).2 hy2
  exact hqE.ly id x hx h0 y hy hy2⟩⟩
 have eB1 : ∀ e d, qF H.dk (qD H (chL l)).puts = (e, d) → qN H (chL l) = if e ≠ 0 then (e, { H with dk := d }) else (0, (H.plan d (qD H (chL l))).count) := fun e d he => by
  unfold qN
  rw [if_neg (not_not_intro hm), if_neg (not_not_intro hgo2), if_neg hc4, if_neg hnf, he]
 refine jQ (jN (jv3 0 1 12 ?_))
 refine jS (jR (jm rfl (jm rfl (jM ?_))))
 refine Ops.cl (jE3 Tryz.call45) (qX6 S n c l LA (bQ H (chL l)) cl fr h g F H q w8 hH8 (h :: F ++ E) hYl hn (hr.frm K) hm hfl hLX hcl (fun p hp => by have := qQg hH.ok p (by rw [hfr] at hp; exact zn hp); omega) jo jo jo jo) rfl ?_
 rintro e w9 ⟨t, np, nq, dn, rfl, hnp, hnq, hdn, hP⟩
 rw [hplan] at hnq hdn hP
 have hKP := hP.K
 have hputs : (qD H (chL l)).puts.length ≤ 1000000 := by
  have h1 := qKz H (chL l) fr
  rw [← hplan, qJf]
  omega
 refine ⟨_, rfl, ?_⟩
 refine Ops.m (qZ.alloc rN) rfl ?_
 rintro _ w10 ⟨rfl, hF10⟩
 refine Ops.st (qS.storeA rfl rfl zge hF10.blk rfl (by intro u hu; simp only [zx, zaf, or_false] at hu; rcases hu with rfl | rfl | rfl | rfl <;> rfl)) ?_
 rintro w11 ⟨hb14, hf11, hs11⟩
 have hb14 : Blk w11 w9.heap.size 104 #[.slice t.S np t.sc, .slice t.A nq t.ca, .map (some t.m), .slice t.dA dn t.dc] := hb14
 have hP := hP.frm (hF10.frm.own hf11 jp)
 have hPE := hP.mono (Y := E) (fun y hy => zfg _ hy)
 have hP := hP.mono (Y := h :: F) (fun y hy => zdk _ hy)
 have K := K.trans hP.K jp
 have hg14 : ∀ x ∈ h :: F, x < w9.heap.size := fun x hx => by have := hX8 x hx; have := hKP.size; omega
 generalize hg14e : w9.heap.size = g14 at *
 have n14F : g14 ∉ F := fun hx => zbv _ (hg14 _ (by simp [hx]))
 have n14h : g14 ∉ [h] := fun hx => by rw [za] at hx; exact zbv _ (hg14 g14 (by simp [hx]))
 have hH11 := hH.frm K
 have hoff : qKs t.ps F := fun x hx _ y hy hF => by have := hP.off x hx y hy; have := hX8 y (by simp [hF]); omega
 subst hnp hnq hdn
 have hpn : t.ps.length ≤ 1000000 := by
  have h1 := congrArg List.length hP.pu
  rw [cE] at h1
  rw [h1]
  exact hputs
 refine jO (jN (jv2 0 14 ?_))
 refine jS (jS ?_)
 refine VC.held (fun V => Frm F w11 V) jK ?_
 have hS : Frm F w11 w11.drew := (Frm.refl _ _).drew
 refine jH 0 rfl hS (fun w0 hw0 => Run.mv rfl) ?_
 refine jH 1 rfl hS (fun w0 hw0 => Run.nilck rfl) ?_
 refine jH 2 rfl hS (fun w0 hw0 => Run.fieldAddr rfl zw rfl zdn jd) ?_
 refine jH 3 rfl hS (fun w0 hw0 => Run.load rfl zdu ((hH11.blk.frm hw0 hH.hF).cell 0)) ?_
 refine jH 4 rfl hS (fun w0 hw0 => Run.fieldAddr rfl zaj rfl zcr jd) ?_
 refine jH 5 rfl hS (fun w0 hw0 => Run.load rfl Tryz.isAgg102 ((hb14.frm hw0 n14F).cell 0)) ?_
 refine qQ.cl 6 rfl jK (jE2 Tryz.call46) (yX g _ _ F t.S t.ps H.dk _ (hH11.dk.drawn (qV.drew _)) (by have := hH.ok.wts; omega) hpn (hP.rp.frm (qV.drew _).frm) hoff) trivial rfl rfl ?_
 rintro e w12 ⟨F', rfl, hD', hFk⟩
 rw [hP.pu] at hD' ⊢
 have hS := hS.trans hFk.1 (fun x hx => .inl hx)
 refine ⟨_, rfl, hS, ?_⟩
 have hFk : Fk F w11 w12 F' := Fk.pre (qV.drew w11).frm hFk
 obtain ⟨ce, cd, hce⟩ : ∃ ce cd, qF H.dk (qD H (chL l)).puts = (ce, cd) := ⟨_, _, rfl⟩
 have hclen : cd.has.length = H.dk.has.length := by have := dJ H.dk (qD H (chL l)).puts; rw [hce] at this; exact this
 rw [hce] at hD' ⊢
 have eB := eB1 ce cd hce
 refine jH 7 rfl hS (fun w0 hw0 => Run.asg rfl) ?_
 refine qQ.done jK ?_
 refine jN (jv3 0 14 15 ?_)
 refine jS (jR (jm rfl (jb rfl rfl (Bin.neqN _ 0) (jO (jN (jv4 0 14 15 80 ?_))))))
 refine jD rfl (fun hc6 => ?_) fun hc6 => ?_
 ·
  rw [eB, if_pos hc6] at hok' ⊢
  refine jS (jR (jm rfl (ja rfl (jO (jN (jv1 4 ?_))))))
  refine jT ?_
  refine qP (qB rfl ?_)
  exact ⟨F', q, rfl, hH11.dks hD' hFk hok' hclen, Fk.pre K (Fk.left (X := [h]) hFk), hqE.pr, hqE.dr, hqE.ml, hqE.ly, by rw [show ({ H with dk := cd } : Hm).N = H.N by unfold Hm.N; dsimp only; rw [hclen]]; exact hqE.us⟩
 have hc6 : ce = 0 := jo
 subst hc6
 rw [eB, if_neg jp] at hok' ⊢
 obtain ⟨hok1, -, U, hU⟩ := hmk hm hgo2 hpb hnb jo (by rw [hce])
 rw [hce] at hok1 hU
 dsimp only at hok1 hU
 have n12h : h ∉ F' := hFk.out hH11.blk.lt hH.hF
 have hb14 := hb14.frm hFk.1 n14F
 have hbh := hH11.blk.frm hFk.1 hH.hF
 refine jQ (jN (jv2 0 14 ?_))
 refine jS ?_
 refine VC.held (fun V => Frm [h] w12 V) jK ?_
 have hS : Frm [h] w12 w12.drew := (Frm.refl _ _).drew
 have hbh := hbh.drawn (qV.drew _)
 refine jH 0 rfl hS (fun w0 hw0 => Run.mv rfl) ?_
 refine jH 1 rfl hS (fun w0 hw0 => Run.mv rfl) ?_
 refine jH 2 rfl hS (fun w0 hw0 => Run.mv rfl) ?_
 refine jH 3 rfl hS (fun w0 hw0 => Run.fieldAddr rfl zaj rfl zap jd) ?_
 refine jH 4 rfl hS (fun w0 hw0 => Run.load rfl zbq ((hb14.frm hw0 n14h).cell 1)) ?_
 refine jH 5 rfl hS (fun w0 hw0 => Run.fieldAddr rfl zaj rfl zco jd) ?_
 refine jH 6 rfl hS (fun w0 hw0 => Run.load rfl zej ((hb14.frm hw0 n14h).cell 2)) ?_
 refine jH 7 rfl hS (fun w0 hw0 => Run.fieldAddr rfl zaj rfl zck jd) ?_
 refine jH 8 rfl hS (fun w0 hw0 => Run.load rfl zda ((hb14.frm hw0 n14h).cell 3)) ?_
 refine jH 9 rfl hS (fun w0 hw0 => Run.nilck rfl) ?_
 refine jH 10 rfl hS (fun w0 hw0 => Run.fieldAddr rfl zw rfl zap jd) ?_
 refine qQ.st 11 rfl jK (qS.store rfl rfl zap hbh rfl rfl) trivial rfl ?_
 rintro w13 ⟨hbh, hf13, hs13⟩
 have hS := hS.trans hf13 (fun x hx => .inl hx)
 refine ⟨hS, ?_⟩
 refine jH 12 rfl hS (fun w0 hw0 => Run.nilck rfl) ?_
 refine jH 13 rfl hS (fun w0 hw0 => Run.fieldAddr rfl zw rfl zco jd) ?_
 refine qQ.st 14 rfl jK (qS.store rfl rfl zco hbh rfl rfl) trivial rfl ?_
 rintro w14 ⟨hbh, hf14, hs14⟩
 have hS := hS.trans hf14 (fun x hx => .inl hx)
 refine ⟨hS, ?_⟩
 refine jH 15 rfl hS (fun w0 hw0 => Run.nilck rfl) ?_
 refine jH 16 rfl hS (fun w0 hw0 => Run.fieldAddr rfl zw rfl zck jd) ?_
 refine qQ.st 17 rfl jK (qS.store rfl rfl zck hbh rfl rfl) trivial rfl ?_
 rintro w15 ⟨hbh, hf15, hs15⟩
 have hS := hS.trans hf15 (fun x hx => .inl hx)
 refine ⟨hS, ?_⟩
 have hbh : Blk w15 h 91 #[.pointer (some ⟨g, 0, none⟩), .slice t.A (qD H (chL l)).pairs.length t.ca, .slice t.dA (qD H (chL l)).dir.length t.dc, .map (some t.m), .int .i64 ((H.N : Nat) : Int), .slice q.sB ((H.N + 7) / 8) q.sc] := hbh
 have kf : Fk (h :: F) w11 w15 (h :: F') := (Fk.left (X := [h]) hFk).frm hS (fun x hx => .inl (by rw [za] at hx; simp [hx]))
 have hH15 := hH11.planned hP hX8 (hD'.frm hS (fun x hx h => by rw [za] at h; subst h; exact n12h hx)) kf n12h hbh hok1 hclen
 have hN : (H.plan cd (qD H (chL l))).N = H.N := by unfold Hm.N Hm.plan; dsimp only; rw [hclen]
 have hcnt : (H.plan cd (qD H (chL l))).count = { H.plan cd (qD H (chL l)) with used := U } := by
  unfold Hm.count
  rw [hN, hU]
  rfl
 refine qQ.done jK ?_
 refine jN (jv1 0 ?_)
 refine jS (jR (jm rfl (jM ?_)))
 refine Ops.cl (jE1 Tryz.call47) (qQf U h g F' (H.plan cd (qD H (chL l))) _ w15 hH15 (by rw [hN]; exact hU)) rfl ?_
 rintro e w16 ⟨UB, uc, rfl, hrU, hf16, hupU⟩
 refine ⟨_, rfl, ?_⟩
 have ho16 : Own w16 91 6 (some ⟨h, 0, none⟩) 1 1 _ := Own.of_blk (hbh.frm hf16 jp) rfl jd
 have hrX : RdX w16 (h :: F') 1 UB (((H.plan cd (qD H (chL l))).N + 7) / 8) (NB (bO (H.plan cd (qD H (chL l))).N U)) := RdX.of_new (w := w15) hrU hupU hH15.lt
 refine jm rfl (je (Run.extract rfl rfl) (je (Run.extract rfl rfl) (je (Run.nilck rfl) (jf rfl zw rfl zk ?_))))
 refine Ops.st (qS.storeSub (o := 4) rfl rfl zk ho16 (zp 6) (dP _ _ _)) ?_
 rintro w17 ⟨ho17, hf17, hs17⟩
 have hb17 := ho17.blk1
 have kf17 : Fk (h :: F) w w17 (h :: F') := Fk.pre K ((kf.frm hf16 jp).frm hf17 (fun x hx => .inl (by rw [za] at hx; simp [hx])))
 refine jO (jN ?_)
 refine VC.sub [] .nil ?_
 refine jS (jR (jz 0 (jO (jN (jT ?_)))))
 refine qB rfl ?_
 rw [hcnt]
 exact ⟨F', _, rfl, (hH15.frm hf16).counted (U := U) (B := UB) (c := uc) (by rw [hN] at hb17 ⊢; exact hb17) hf17 hrX, kf17, fun h0 y hy hx => by have := hE8 y hx; have := hPE.A y hy; omega, fun h0 y hy => (hPE.dr.2 h0 y hy).2, fun hx => zbv _ (zz (hE8 _ hx) hPE.ml), fun id x hx h0 y hy => ((hPE.ly id x hx).1.2 h0 y hy).2, fun h0 y hy hx => by have := hE8 y hx; have := hP.K.size; have := kf.1.size; have := hupU y hy; omega⟩
theorem gK (S : Option Addr) (n c : Nat) (l : List Cq) (h g : Nat) (F : List Nat) (H : Hm) (q : HtQ) (w : World) (hH : IsHt w h g F H q) (hn : n ≤ 1000) (hr : RdC w S n l) (hmk : kT H (chL l)) (hok' : (qN H (chL l)).2.ok) :
  Calls Tryz.prog 10 #[.pointer (some ⟨h, 0, none⟩), .slice S n c] w fun e w' => ∃ F' q', e = .returned (.int .i64 (((qN H (chL l)).1 : Nat) : Int)) ∧ IsHt w' h g F' (qN H (chL l)).2 q' ∧ Fk (h :: F) w w' (h :: F') :=
 Calls.mono (yD [] S n c l h g F H q w hH jp (OffQ.nil H q) hn hr hmk hok') fun e w' ⟨F', q', h1, h2, h3, _⟩ => ⟨F', q', h1, h2, h3⟩
end
section
open Go.RowKit
def cZ (d : Dk) : Hm := ⟨d, [], [], fun _ => [], fun _ => false⟩
theorem qQ7 {d : Dk} (h1 : 44 ≤ d.has.length) (h2 : d.has.length ≤ 2048) (h3 : d.wts.length ≤ 100000) : (cZ d).ok :=
 ⟨List.Pairwise.nil, (fun x hx => by cases hx), zg _, h1, h2, h3, zg _, (fun x hx => by cases hx), (fun x hx => by cases hx)⟩
theorem RdC.nil (w : World) : RdC w none 0 [] := ⟨rfl, Rd.nil _ _ _, (fun x hx => by cases hx), (fun x hx => by cases hx), (fun x hx => by cases hx)⟩
theorem oB (d : Dk) : (bU d).2.has.length = d.has.length := by
 unfold bU
 split
 · rfl
 exact sS _ _
set_option maxHeartbeats 2000000 in
theorem rZ (g : Nat) (F : List Nat) (d : Dk) (w : World) (hD : IsDk w g F d) (hsz : 44 ≤ d.has.length) (hwl : d.wts.length ≤ 100000) (hf : (bU d).1 = 0) (hwl2 : (bU d).2.wts.length ≤ 100000) (hmk : kT (cZ (bU d).2) []) (hok' : (qN (cZ (bU d).2) []).2.ok) (hb0 : (qN (cZ (bU d).2) []).1 = 0) :
  Calls Tryz.prog 7 #[.pointer (some ⟨g, 0, none⟩)] w fun e w' => ∃ h F' q, e = .returned (.tuple #[.pointer (some ⟨h, 0, none⟩), .int .i64 0]) ∧ IsHt w' h g F' (qN (cZ (bU d).2) []).2 q ∧ Fk F w w' (h :: F') := by
 have hbg := hD.ok.big
 have hl := oB d
 have hN : (cZ (bU d).2).N = d.has.length - 42 := by unfold Hm.N cZ; dsimp only; rw [hl]
 refine VC.calls (nt := 34) (res := #[.tmp 2, .tmp 3]) Tryz.func7 rfl Tryz.ntmps7 Tryz.results7 rfl ?_
 refine jS (jR (ja rfl (jz 0 (jO (jN (jv1 0 ?_))))))
 refine jS (jS (jR (jM ?_)))
 refine Ops.cl (jE1 Tryz.call35) (nH g F d w hD) rfl ?_
 rintro e _ ⟨rfl, rfl⟩
 refine ⟨_, rfl, ?_⟩
 refine jO (jN (jv2 0 10 ?_))
 refine VC.condF rfl (decide_eq_false jo) ?_
 refine jQ (jN (jv1 0 ?_))
 refine jS (jS (jR (jM ?_)))
 refine Ops.cl (jE1 Tryz.call36) (pI g F d w hD jo) rfl ?_
 rintro e w1 ⟨F1, rfl, hD1, hk1⟩
 refine ⟨_, rfl, ?_⟩
 rw [hf]
 refine ja rfl (jO (jN (jv2 0 4 ?_)))
 refine jS (jR (jm rfl (jb rfl rfl (Bin.neqN _ 0) (jO (jN (jv3 0 4 14 ?_))))))
 refine VC.condF rfl jp ?_
 refine jQ (jN (jv1 0 ?_))
 refine jS (jR (jM ?_))
 refine Ops.cl (jE1 zew) (dS g F1 _ w1 hD1) rfl ?_
 rintro e _ ⟨rfl, rfl⟩
 refine ⟨_, rfl, ?_⟩
 rw [hl]
 refine jb rfl rfl (Bin.sub_i64 _ 42 jo jo) ?_
 refine Ops.cl (jE1 Tryz.call37) (vB (d.has.length - 42) w1 jo) rfl ?_
 rintro e w2 ⟨SB, sc, rfl, hrS, hf2, hupS⟩
 refine ⟨_, rfl, ?_⟩
 refine jm rfl (je (Run.extract rfl rfl) (je (Run.extract rfl rfl) ?_))
 refine Ops.m (qZ.alloc eS) rfl ?_
 rintro _ w3 ⟨rfl, hF3⟩
 refine Ops.st (qS.storeA rfl rfl zk hF3.blk rfl (dP _ _ _)) ?_
 rintro w4 ⟨hb5, hf4, hs4⟩
 have k24 : Frm [] w2 w4 := hF3.frm.own hf4 jp
 have hb5 : Blk w4 w2.heap.size 85 (spV (d.has.length - 42) SB sc) := hb5
 refine ja rfl (jO (jN (jv2 0 5 ?_)))
 refine jS (jR (jM ?_))
 refine Ops.m (qZ.makeMap (k := 54) (enc := fP)) rfl ?_
 rintro _ w5 ⟨rfl, hmp, hf5, hs5⟩
 have k14 : Frm [] w1 w4 := hf2.trans k24 jp
 have q14 := k14.size
 generalize hgm : w4.heap.size = m at *
 refine je (Run.loadA rfl zai zk ((hb5.frm hf5 jp).cells) (by first | rfl | (simp; done))) (je (Run.build (evs.cons rfl (evs.cons rfl (evs.cons rfl evs.nil))) qZh (oW).choose_spec.1 (oW).choose_spec.2 (cells := #[.pointer (some ⟨g, 0, none⟩), .slice none 0 0, .slice none 0 0, .map (some m), .int .i64 ((d.has.length - 42 : Nat) : Int), .slice SB ((d.has.length - 42 + 7) / 8) sc]) rfl) ?_)
 refine Ops.m (qZ.box rfl) rfl ?_
 rintro _ w6 ⟨rfl, hF6⟩
 have hb7 : Blk w6 w5.heap.size 91 #[.pointer (some ⟨g, 0, none⟩), .slice none 0 0, .slice none 0 0, .map (some m), .int .i64 ((d.has.length - 42 : Nat) : Int), .slice SB ((d.has.length - 42 + 7) / 8) sc] := hF6.blk
 have k16 : Frm [] w1 w6 := (k14.trans hf5 jp).trans hF6.frm jp
 have hF1l := hD1.lt
 have hSl := hrS.lt (jo : 0 < (d.has.length - 42 + 7) / 8)
 have ks2 := hf2.size
 have ks24 := k24.size
 generalize hgh : w5.heap.size = h at *
 have hH : IsHt w6 h g F1 (cZ (bU d).2) ⟨none, 0, none, 0, m, SB, sc, fun _ => none⟩ := by
  refine ⟨qQ7 jo jo hwl2, hD1.frm k16 jp, fun hx => by have := hF1l _ hx; omega, by rw [hN]; exact hb7, ⟨Rd.nil _ _ _, fun h0 => absurd h0 (zbv 0)⟩, zp _, ⟨Rd.nil _ _ _, fun h0 => absurd h0 (zbv 0)⟩, hmp.frm hF6.frm jp, fun hx => ?_, (fun id x hx => by cases hx), (fun x hx => by cases hx), ?_⟩
  ·
   rcases zx.1 hx with hx | hx
   ·
    have := hmp.lt
    dsimp only at hx
    omega
   have := hF1l _ hx
   dsimp only at this
   omega
  rw [hN]
  refine ⟨((hrS.frm k24 jp).frm hf5 jp).frm hF6.frm jp, fun h0 y hy => ?_⟩
  have h1 := hSl y hy
  have h2 := hupS y hy
  have h3 := hF6.size
  have h4 := hmp.lt
  refine ⟨jo, fun hx => ?_⟩
  rcases zx.1 hx with hx | hx
  · omega
  have := hF1l _ hx; omega
 refine ja rfl (jO (jN (jv1 7 ?_)))
 refine jS (jS (jR (jM ?_)))
 refine Ops.cl (jE2 Tryz.call10) (gK none 0 0 [] h g F1 (cZ (bU d).2) _ w6 hH jo (RdC.nil w6) hmk hok') rfl ?_
 rintro e w7 ⟨F', q', rfl, hH', hk7⟩
 refine ⟨_, rfl, ?_⟩
 rw [show chL [] = [] from rfl] at hH' ⊢
 rw [hb0]
 refine ja rfl (jO (jN (jv2 7 8 ?_)))
 refine jS (jR (jm rfl (jb rfl rfl (Bin.neqN _ 0) (jO (jN (jv3 7 8 31 ?_))))))
 refine VC.condF rfl jp ?_
 refine jQ (jN (jv1 7 ?_))
 refine jS (jR (jm rfl (ja rfl (jz 0 (jO (jN (jv2 2 3 ?_)))))))
 refine jT ?_
 refine cQ rfl rfl ?_
 refine ⟨h, F', q', rfl, hH', ?_⟩
 have k1 : Fk F w w6 F1 := hk1.frm k16 jp
 refine ⟨k1.1.trans hk7.1 (fun x hx => ?_), fun x hx => ?_⟩
 ·
  rcases zx.1 hx with rfl | hx
  · right; have := hk1.1.size; have := hmp.lt; omega
  exact k1.2 x hx
 rcases hk7.2 x hx with h1 | h1
 ·
  rcases zx.1 h1 with rfl | h1
  · right; have := hk1.1.size; omega
  exact k1.2 x h1
 right; have := k1.1.size; omega
end
section
open Go.RowKit
theorem mB (N : Nat) : ∀ (l : List Nat) (U : Nat → Bool), (∀ p ∈ l, p < N) → l.Nodup → (∀ p ∈ l, U p = false) → ∃ V, bP N U l = some V ∧ ∀ p, V p = (U p || decide (p ∈ l))
 | [], U, _, _, _ => ⟨U, rfl, fun p => jp⟩
 | x :: r, U, h1, h2, h3 => by
  obtain ⟨h4, h5⟩ := zet.1 h2
  have hx : x < N ∧ U x = false := ⟨h1 x jp, h3 x jp⟩
  obtain ⟨V, hV, hp⟩ := mB N r (dC U x) (fun p hp => h1 p (by simp [hp])) h5 (fun p hp => by
   unfold dC
   rw [if_neg (fun e : p = x => h4 (e ▸ hp))]
   exact h3 p (by simp [hp]))
  refine ⟨V, by rw [bP, if_pos hx]; exact hV, fun p => ?_⟩
  rw [hp p]
  unfold dC
  by_cases e : p = x
  · simp [e]
  simp [e]
theorem yE (N : Nat) : ∀ (l : List Nat) (U : Nat → Bool), (∀ p ∈ l, p < N) → l.Nodup → (∀ p ∈ l, U p = false) → ∀ V, (∀ p, p < N → V p = (U p || decide (p ∈ l))) → cntS N V = cntS N U + l.length
 | [], U, _, _, _, V, hV => by
  unfold cntS
  rw [zer, zfu]
  exact zgj fun p hp => by rw [hV p (List.mem_range.1 hp)]; simp
 | x :: r, U, h1, h2, h3, V, hV => by
  obtain ⟨h4, h5⟩ := zet.1 h2
  have h6 := yE N r (dC U x) (fun p hp => h1 p (by simp [hp])) h5 (fun p hp => by
   unfold dC
   rw [if_neg (fun e : p = x => h4 (e ▸ hp))]
   exact h3 p (by simp [hp])) V (fun p hp => by
    rw [hV p hp]
    unfold dC
    by_cases e : p = x
    · simp [e]
    simp [e])
  rw [h6, qKm N U (h1 x jp) (h3 x jp), zv]
  omega
abbrev Nw := Nat × List Nat × List Nat
def bA : List Ch → List Nat → List Nw
 | [], _ => []
 | c :: r, fr => if c.2.2 then bA r fr else (c.1, c.2.1, fr.take (needsM c.2.1.length)) :: bA r (fr.drop (needsM c.2.1.length))
def mC (l : List Ch) : Prop := ∀ x ∈ l, x.2.2 = true → x.2.1.length = 0
theorem mD (c : Ch) (l : List Ch) : sumN (c :: l) = needsM c.2.1.length + sumN l := by simp [sumN]
theorem nM : ∀ (l : List Ch) (fr : List Nat), mC l → sumN l ≤ fr.length → (bA l fr).flatMap (·.2.2) = fr.take (sumN l)
 | [], fr, _, _ => by simp [bA, sumN]
 | c :: r, fr, h, hs => by
  have hr : mC r := fun x hx => h x (by simp [hx])
  rw [mD] at hs ⊢
  rw [bA]
  split
  ·
   next hg =>
   have hz : needsM c.2.1.length = 0 := by rw [h c jp hg]; rfl
   rw [hz, zbp, nM r fr hr jo]
  rw [zar, nM r _ hr (by rw [zj]; omega), List.take_add]
theorem mE : ∀ (l : List Ch) (fr : List Nat), (bA l fr).map (fun e => (e.1, e.2.1)) = (l.filter fun c => ! c.2.2).map fun c => (c.1, c.2.1)
 | [], fr => rfl
 | c :: r, fr => by
  rw [bA]
  split
  · next hg => rw [mE r fr, zdp (by simp [hg])]
  next hg => rw [zau, mE r _, zeq (by simpa using hg), zau]
theorem rJ : ∀ (l : List Ch) (fr : List Nat), mC l → sumN l ≤ fr.length → ∀ e ∈ bA l fr, e.2.2.length = needsM e.2.1.length
 | [], fr, _, _ => fun e he => by cases he
 | c :: r, fr, h, hs => fun e he => by
  have hr : mC r := fun x hx => h x (by simp [hx])
  rw [mD] at hs
  rw [bA] at he
  split at he
  · exact rJ r fr hr jo e he
  rcases zx.1 he with rfl | he
  · dsimp only; rw [zi]; omega
  exact rJ r _ hr (by rw [zj]; omega) e he
theorem rK {l : List Ch} {fr : List Nat} {e : Nw} (h : e ∈ bA l fr) : ∃ c ∈ l, c.2.2 = false ∧ c.1 = e.1 ∧ c.2.1 = e.2.1 := by
 have h1 : (e.1, e.2.1) ∈ (bA l fr).map (fun e => (e.1, e.2.1)) := List.mem_map.2 ⟨e, h, rfl⟩
 rw [mE] at h1
 obtain ⟨c, hc, he⟩ := List.mem_map.1 h1
 obtain ⟨h2, h3⟩ := List.mem_filter.1 hc
 injection he with e1 e2
 exact ⟨c, h2, by simpa using h3, e1, e2⟩
theorem mF : ∀ (l : List Ch) (x : Dw), (l.map (·.1)).Nodup → mC l → sumN l ≤ x.free.length →
  (l.foldl bL x).puts = x.puts ++ (bA l x.free).flatMap (fun e => dY e.2.1 e.2.2) ∧ (l.foldl bL x).free = x.free.drop (sumN l) ∧
  (∀ y, y ∈ (l.foldl bL x).pairs ↔ (y ∈ x.pairs ∧ y.1 ∉ l.map (·.1)) ∨ ∃ e ∈ bA l x.free, y = cW e.1 e.2.1 e.2.2) ∧
  (∀ id, id ∉ l.map (·.1) → (l.foldl bL x).lies id = x.lies id) ∧ (∀ e ∈ bA l x.free, (l.foldl bL x).lies e.1 = e.2.2)
 | [], x, _, _, _ => by simp [bA, sumN]
 | c :: r, x, hn, hg, hs => by
  rw [zau, zet] at hn
  obtain ⟨hn1, hn2⟩ := hn
  have hr : mC r := fun x hx => hg x (by simp [hx])
  rw [mD] at hs
  rw [zdz, mD]
  cases hc : c.2.2 with
  | true =>
   have hz : needsM c.2.1.length = 0 := by rw [hg c jp hc]; rfl
   have hst : bL x c = { x with pairs := bB x.pairs c.1 ++ bH x.pairs c.1 } := by unfold bL; rw [if_pos hc]
   have hnw : bA (c :: r) x.free = bA r x.free := by rw [bA, if_pos hc]
   obtain ⟨i1, i2, i3, i4, i5⟩ := mF r (bL x c) hn2 hr (by rw [hst]; dsimp only; omega)
   rw [hst] at i1 i2 i3 i4 i5 ⊢
   dsimp only at i1 i2 i3 i4 i5
   rw [hnw, hz, zbp]
   refine ⟨i1, i2, fun y => ?_, fun id hid => ?_, i5⟩
   ·
    rw [i3 y]
    simp only [zcb, bB, bH, List.mem_filter, decide_eq_true_eq, zau, zx, not_or]
    constructor
    ·
     rintro (⟨h1 | h1, h2⟩ | h)
     · exact .inl ⟨h1.1, jo, h2⟩
     · exact .inl ⟨h1.1, jo, h2⟩
     exact .inr h
    rintro (⟨h1, h2, h3⟩ | h)
    ·
     rcases zdg h2 with h | h
     · exact .inl ⟨.inl ⟨h1, h⟩, h3⟩
     exact .inl ⟨.inr ⟨h1, h⟩, h3⟩
    exact .inr h
   rw [zau, zx, not_or] at hid
   exact i4 id hid.2
  | false =>
   have hst : bL x c = { puts := x.puts ++ dY c.2.1 (x.free.take (needsM c.2.1.length)), pairs := bB x.pairs c.1 ++ cW c.1 c.2.1 (x.free.take (needsM c.2.1.length)) :: bH x.pairs c.1, free := x.free.drop (needsM c.2.1.length), lies := fun y => if y = c.1 then x.free.take (needsM c.2.1.length) else x.lies y } := by unfold bL; rw [if_neg (by simp [hc])]
   have hnw : bA (c :: r) x.free = (c.1, c.2.1, x.free.take (needsM c.2.1.length)) :: bA r (x.free.drop (needsM c.2.1.length)) := by rw [bA, if_neg (by simp [hc])]
   obtain ⟨i1, i2, i3, i4, i5⟩ := mF r (bL x c) hn2 hr (by rw [hst]; dsimp only; rw [zj]; omega)
   rw [hst] at i1 i2 i3 i4 i5 ⊢
   dsimp only at i1 i2 i3 i4 i5
   rw [hnw]
   refine ⟨?_, ?_, fun y => ?_, fun id hid => ?_, fun e he => ?_⟩
   · rw [i1, zar, zm]
   · rw [i2, zfd]
   ·
    rw [i3 y]
    simp only [zcb, bB, bH, List.mem_filter, decide_eq_true_eq, zau, zx, not_or, exists_eq_or_imp]
    constructor
    ·
     rintro (⟨h1 | h1 | h1, h2⟩ | h)
     · exact .inl ⟨h1.1, jo, h2⟩
     · exact .inr (.inl h1)
     · exact .inl ⟨h1.1, jo, h2⟩
     exact .inr (.inr h)
    rintro (⟨h1, h2, h3⟩ | h | h)
    ·
     rcases zdg h2 with h | h
     · exact .inl ⟨.inl ⟨h1, h⟩, h3⟩
     exact .inl ⟨.inr (.inr ⟨h1, h⟩), h3⟩
    ·
     refine .inl ⟨.inr (.inl h), ?_⟩
     rw [h]
     exact hn1
    exact .inr h
   ·
    rw [zau, zx, not_or] at hid
    rw [i4 id hid.2, if_neg hid.1]
   rcases zx.1 he with rfl | he
   · rw [i4 _ hn1, if_pos rfl]
   exact i5 e he
end
section
open Go.RowKit
structure Pow (d : Dk) : Prop where
 off : d.off = false
 bud : d.bud = -1
theorem Pow.fails {d : Dk} (h : Pow d) : ¬ d.fails := fun hf => by
 rcases hf with hf | hf
 · rw [h.off] at hf; cases hf
 rw [h.bud] at hf; omega
theorem Pow.less {d : Dk} (h : Pow d) : d.less = d := by
 unfold Dk.less
 rw [if_neg (by rw [h.bud]; omega)]
def oC (n : Nat) : Stp → Prop
 | .wr i b => i < n ∧ b.length = 128
 | .fl => True
def cD (f : Nat → List Nat) : List Stp → Nat → List Nat
 | [] => f
 | .wr i b :: r => cD (fun j => if j = i then b else f j) r
 | .fl :: r => cD f r
theorem gV : ∀ (a b : List Stp) (f : Nat → List Nat), cD f (a ++ b) = cD (cD f a) b
 | [], b, f => rfl
 | .wr i x :: a, b, f => by rw [zbr, cD, cD, gV a b]
 | .fl :: a, b, f => by rw [zbr, cD, cD, gV a b]
theorem rV : ∀ (r : List (Nat × List Nat)) (k : Nat) (h : List (List Nat)) (j : Nat), j < h.length → (qL (fun _ => true) k h r).getD j [] = (cR j r).getD (h.getD j [])
 | [], _, h, j, _ => rfl
 | (a, b) :: r, k, h, j, hj => by
  rw [qL, if_pos rfl, rV r (k + 1) (h.set a b) j (by rw [List.length_set]; exact hj), cR]
  cases cR j r with
  | some s => rfl
  | none =>
   show (h.set a b).getD j [] = _
   rw [zc, zgi]
   by_cases e : a = j
   ·
    subst e
    rw [if_pos rfl, if_pos hj, if_pos rfl]
    rfl
   rw [if_neg e, if_neg e, zc]
   rfl
theorem jW : ∀ (l : List Stp) {d : Dk}, Pow d → (∀ s ∈ l, oC d.has.length s) → (qI d l).1 = 0 ∧ Pow (qI d l).2 ∧ ∀ j, j < d.has.length → (qI d l).2.sec j = cD d.sec l j
 | [], d, h, _ => ⟨rfl, h, fun j _ => rfl⟩
 | .wr i b :: r, d, h, hf => by
  have h1 : i < d.has.length ∧ b.length = 128 := hf (.wr i b) jp
  have hw : d.write i b = (0, { d with wts := d.wts ++ [(i, b)] }) := by
   unfold Dk.write
   rw [if_neg (not_not_intro h1.1), if_neg (by simp [h1.2]), if_neg h.fails, h.less]
  have hs : (fun j => ({ d with wts := d.wts ++ [(i, b)] } : Dk).sec j) = fun j => if j = i then b else d.sec j := by
   funext j
   unfold Dk.sec
   dsimp only
   rw [gL]
   by_cases e : i = j
   · rw [if_pos e, if_pos e.symm]; rfl
   rw [if_neg e, if_neg (Ne.symm e)]
  obtain ⟨i1, i2, i3⟩ := jW r (d := { d with wts := d.wts ++ [(i, b)] }) ⟨h.off, h.bud⟩ (fun s hs => hf s (by simp [hs]))
  have hr : qI d (.wr i b :: r) = qI { d with wts := d.wts ++ [(i, b)] } r := by
   rw [qI]
   show (if (d.write i b).1 ≠ 0 then _ else qI (d.write i b).2 r) = _
   rw [hw, if_neg jp]
  rw [hr]
  refine ⟨i1, i2, fun j hj => ?_⟩
  rw [i3 j hj, cD]
  exact congrArg (fun f => cD f r j) hs
 | .fl :: r, d, h, hf => by
  have hw : d.flush = (0, { d with has := qL (fun _ => true) 0 d.has d.wts, wts := [] }) := by
   unfold Dk.flush
   rw [if_neg h.fails, h.less]
  have hl : (qL (fun _ => true) 0 d.has d.wts).length = d.has.length := cK _ _ _ _
  obtain ⟨i1, i2, i3⟩ := jW r (d := { d with has := qL (fun _ => true) 0 d.has d.wts, wts := [] }) ⟨h.off, h.bud⟩ (fun s hs => by dsimp only; rw [hl]; exact hf s (by simp [hs]))
  have hr : qI d (.fl :: r) = qI { d with has := qL (fun _ => true) 0 d.has d.wts, wts := [] } r := by
   rw [qI]
   show (if d.flush.1 ≠ 0 then _ else qI d.flush.2 r) = _
   rw [hw, if_neg jp]
  rw [hr]
  have key : ∀ (r : List Stp) (f f' : Nat → List Nat) (n : Nat), (∀ j, j < n → f j = f' j) → ∀ j, j < n → cD f r j = cD f' r j := by
   intro r
   induction r with
   | nil => intro f f' n hff j hj; exact hff j hj
   | cons s r ih =>
    intro f f' n hff j hj
    cases s with
    | wr i b => exact ih _ _ n (fun k hk => by split; rfl; exact hff k hk) j hj
    | fl => exact ih _ _ n hff j hj
  refine ⟨i1, i2, fun j hj => ?_⟩
  rw [i3 j (by dsimp only; rw [hl]; exact hj), cD]
  refine key r _ _ d.has.length (fun k hk => ?_) j hj
  show ((cR k []).getD ((qL (fun _ => true) 0 d.has d.wts).getD k [])) = _
  rw [rV _ _ _ _ hk]
  rfl
theorem gH : ∀ (l : List Stp) (f : Nat → List Nat) (j : Nat), (∀ i b, Stp.wr i b ∈ l → i ≠ j) → cD f l j = f j
 | [], _, _, _ => rfl
 | .wr i b :: r, f, j, h => by
  rw [cD, gH r _ j (fun a c hc => h a c (by simp [hc])), if_neg (Ne.symm (h i b jp))]
 | .fl :: r, f, j, h => by rw [cD, gH r _ j (fun a c hc => h a c (by simp [hc]))]
theorem oD : ∀ (l : List Pu) (f : Nat → List Nat) (x : Pu), (l.map (·.1)).Nodup → x ∈ l → cD f (l.map fun x => Stp.wr x.1 x.2) x.1 = x.2
 | y :: l, f, x, hn, hx => by
  rw [zau, zet] at hn
  rw [zau, cD]
  rcases zx.1 hx with rfl | hx
  ·
   rw [gH _ _ _ (fun i b hb e => by
    obtain ⟨z, hz, he⟩ := List.mem_map.1 hb
    injection he with e1 e2
    exact hn.1 (List.mem_map.2 ⟨z, hz, e1.trans e⟩)), if_pos rfl]
  exact oD l _ x hn.2 hx
theorem uI : ∀ (l : List Pu) (k i : Nat) (b : List Nat), Stp.wr i b ∈ eQ k l → (1 + k ≤ i ∧ i < 1 + k + l.length) ∧ ∃ x ∈ l, x.2 = b
 | y :: l, k, i, b, h => by
  rw [eQ] at h
  rcases zx.1 h with h | h
  ·
   injection h with e1 e2
   subst e1 e2
   exact ⟨⟨zp _, by rw [zv]; omega⟩, y, jp, rfl⟩
  obtain ⟨h1, x, hx, hb⟩ := uI l (k + 1) i b h
  exact ⟨⟨jo, by rw [zv]; omega⟩, x, by simp [hx], hb⟩
theorem jY {l : List Pu} {n : Nat} (h : bF l n) (hn : 41 < n) : ∀ s ∈ bX l, oC n s := fun s hs => by
 obtain ⟨⟨h1, h2⟩, h3, h4⟩ := h
 have hhd : oC n (.wr 0 (bS l)) := ⟨jo, vR h2⟩
 have hno : oC n (.wr 0 (noM 128)) := ⟨jo, by simp [noM]⟩
 simp only [bX, qC, zcb, zx, zaf, or_false] at hs
 rcases hs with (hs | rfl | rfl | rfl) | hs | rfl | rfl | rfl
 ·
  cases s with
  | fl => trivial
  | wr i b =>
   obtain ⟨h5, x, hx, rfl⟩ := uI l 0 i b hs
   exact ⟨jo, (h3 x hx).2⟩
 · trivial
 · exact hhd
 · trivial
 ·
  obtain ⟨x, hx, rfl⟩ := List.mem_map.1 hs
  exact ⟨(h3 x hx).1.2, (h3 x hx).2⟩
 · trivial
 · exact hno
 trivial
theorem rW {d : Dk} {l : List Pu} (h : Pow d) (hn : 41 < d.has.length) (hm : bF l d.has.length) :
  (qF d l).1 = 0 ∧ Pow (qF d l).2 ∧ (qF d l).2.wts = [] ∧ (∀ x ∈ l, (qF d l).2.sec x.1 = x.2) ∧ ∀ j, 41 ≤ j → j < d.has.length → j ∉ l.map (·.1) → (qF d l).2.sec j = d.sec j := by
 have he : qF d l = qI d (bX l) := by unfold qF; rw [if_neg (fun hx => by rcases hx with hx | hx; omega; exact hx hm)]
 obtain ⟨r1, r2, r3⟩ := jW (bX l) h (jY hm hn)
 have hsec : ∀ j, 41 ≤ j → cD d.sec (bX l) j = cD d.sec (l.map fun x => Stp.wr x.1 x.2) j := fun j hj => by
  have e1 : ∀ (f : Nat → List Nat), cD f (eQ 0 l ++ [.fl, .wr 0 (bS l), .fl]) j = f j := fun f => gH _ _ _ (fun i b hb => by
   rcases zcb.1 hb with hb | hb
   ·
    obtain ⟨h5, _⟩ := uI l 0 i b hb
    have := hm.1.2
    omega
   simp only [zx, zaf, or_false, reduceCtorEq, false_or, or_false] at hb
   injection hb with e2 e3
   omega)
  have e2 : ∀ (f : Nat → List Nat), cD f [.fl, .wr 0 (noM 128), .fl] j = f j := fun f => gH _ _ _ (fun i b hb => by
   simp only [zx, zaf, or_false, reduceCtorEq, false_or, or_false] at hb
   injection hb with e2 e3
   omega)
  rw [bX, qC, gV, gV, e2]
  by_cases hj2 : j ∈ l.map (·.1)
  ·
   obtain ⟨x, hx, rfl⟩ := List.mem_map.1 hj2
   rw [oD l _ x hm.2.2 hx, oD l _ x hm.2.2 hx]
  have off : ∀ (f : Nat → List Nat), cD f (l.map fun x => Stp.wr x.1 x.2) j = f j := fun f => gH _ _ _ (fun i b hb e => by
   obtain ⟨z, hz, he⟩ := List.mem_map.1 hb
   injection he with e1 e2
   exact hj2 (List.mem_map.2 ⟨z, hz, e1.trans e⟩))
  rw [off, off, e1]
 have hw : (qI d (bX l)).2.wts = [] := by
  have e : bX l = (eQ 0 l ++ [.fl, .wr 0 (bS l), .fl] ++ (l.map (fun x => Stp.wr x.1 x.2) ++ [.fl, .wr 0 (noM 128)])) ++ [.fl] := by simp [bX, qC]
  obtain ⟨q1, q2, _⟩ := jW (eQ 0 l ++ [.fl, .wr 0 (bS l), .fl] ++ (l.map (fun x => Stp.wr x.1 x.2) ++ [.fl, .wr 0 (noM 128)])) h (fun s hs => jY hm hn s (by rw [e]; exact zdk _ hs))
  rw [e, mG _ _ _ q1]
  show ((qI d _).2.flush).2.wts = []
  unfold Dk.flush
  rw [if_neg q2.fails]
 rw [he]
 refine ⟨r1, r2, hw, fun x hx => ?_, fun j hj hjn hjl => ?_⟩
 ·
  have := (hm.2.1 x hx).1
  rw [r3 _ this.2, hsec _ this.1, oD l _ x hm.2.2 hx]
 rw [r3 j hjn, hsec j hj]
 exact gH _ _ _ (fun i b hb e => by
  obtain ⟨z, hz, he⟩ := List.mem_map.1 hb
  injection he with e1 e2
  exact hjl (List.mem_map.2 ⟨z, hz, e1.trans e⟩))
end
section
open Go.RowKit
structure InvH (H : Hm) (B : Nat → List Nat) : Prop where
 ok : H.ok
 pow : Pow H.dk
 wts : H.dk.wts = []
 dnod : H.dir.Nodup
 lnod : ∀ x ∈ H.pairs, (H.lies x.1).Nodup
 dl : ∀ x ∈ H.pairs, ∀ p ∈ H.lies x.1, p ∉ H.dir
 ll : ∀ x ∈ H.pairs, ∀ y ∈ H.pairs, x.1 ≠ y.1 → ∀ p ∈ H.lies x.1, p ∉ H.lies y.1
 used : ∀ p, p < H.N → H.used p = decide (p ∈ bD H)
 blob : ∀ x ∈ H.pairs, x = cW x.1 (B x.1) (H.lies x.1) ∧ (H.lies x.1).length = needsM (B x.1).length ∧ (B x.1).length ≤ 4032 ∧ (∀ b ∈ B x.1, b < 256) ∧ ∀ i, i < (H.lies x.1).length → H.dk.sec (42 + (H.lies x.1).getD i 0) = cF (B x.1) (H.lies x.1) i
theorem rY (H : Hm) (p : Nat) : p ∈ bD H ↔ p ∈ H.dir ∨ ∃ x ∈ H.pairs, p ∈ H.lies x.1 := by
 unfold bD dZ
 rw [zcb, List.mem_flatMap]
theorem sY {H : Hm} (hs : Srt H.pairs) (h1 : H.dir.Nodup) (h2 : ∀ x ∈ H.pairs, (H.lies x.1).Nodup) (h3 : ∀ x ∈ H.pairs, ∀ p ∈ H.lies x.1, p ∉ H.dir) (h4 : ∀ x ∈ H.pairs, ∀ y ∈ H.pairs, x.1 ≠ y.1 → ∀ p ∈ H.lies x.1, p ∉ H.lies y.1) : (bD H).Nodup := by
 unfold bD dZ
 rw [zef]
 refine ⟨h1, ?_, fun a ha b hb e => ?_⟩
 ·
  rw [zeb, List.pairwise_flatMap]
  refine ⟨fun x hx => zeb.1 (h2 x hx), ?_⟩
  refine (List.Pairwise.and_mem.1 hs).imp (fun ⟨ha, hb, hlt⟩ p hp q hq e => ?_)
  subst e
  exact h4 _ ha _ hb jo p hp hq
 subst e
 obtain ⟨x, hx, hp⟩ := List.mem_flatMap.1 hb
 exact h3 x hx a hp ha
theorem qJg (D pg : List Nat) : (dY D pg).map (·.1) = pg.map (42 + ·) := by
 unfold dY kR
 rw [zdt]
 apply zem
 · simp
 intro i h1 h2
 simp at h1 h2
 simp [zc, h1]
theorem qV4 (dir : List Nat) (ps : List (List Nat)) : (cN dir ps dir.length).map (·.1) = dir.map (42 + ·) := by
 unfold cN
 rw [zdt]
 apply zem
 · simp
 intro i h1 h2
 simp at h1 h2
 simp [zc, h1]
theorem qJh (D pg : List Nat) {i : Nat} (h : i < pg.length) : (42 + pg.getD i 0, cF D pg i) ∈ dY D pg := List.mem_map.2 ⟨i, List.mem_range.2 h, rfl⟩
theorem yF (l : List Nw) : (l.flatMap fun e => dY e.2.1 e.2.2).map (·.1) = (l.flatMap (·.2.2)).map (42 + ·) := by
 rw [List.map_flatMap, List.map_flatMap]
 congr 1
 funext e
 exact qJg _ _
def eR (B : Nat → List Nat) (l : List Ch) : Nat → List Nat := fun id => match l.find? (fun c => decide (c.1 = id) && ! c.2.2) with
 | some c => c.2.1
 | none => B id
theorem qVd : ∀ {l : List Ch}, (l.map (·.1)).Nodup → ∀ {c d : Ch}, c ∈ l → d ∈ l → c.1 = d.1 → c = d
 | a :: r, hn, c, d, hc, hd, h => by
  rw [zau, zet] at hn
  rcases zx.1 hc with e1 | hc1
  ·
   rcases zx.1 hd with e2 | hd1
   · rw [e1, e2]
   rw [e1] at h
   exact absurd (List.mem_map.2 ⟨d, hd1, h.symm⟩) hn.1
  rcases zx.1 hd with e2 | hd1
  ·
   rw [e2] at h
   exact absurd (List.mem_map.2 ⟨c, hc1, h⟩) hn.1
  exact qVd hn.2 hc1 hd1 h
theorem sL {B : Nat → List Nat} {l : List Ch} (hn : (l.map (·.1)).Nodup) {c : Ch} (hc : c ∈ l) (hg : c.2.2 = false) : eR B l c.1 = c.2.1 := by
 unfold eR
 cases hf : l.find? (fun d => decide (d.1 = c.1) && ! d.2.2) with
 | none =>
  have := List.find?_eq_none.1 hf c hc
  simp [hg] at this
 | some d =>
  have h1 := List.find?_some hf
  have h2 := List.mem_of_find?_eq_some hf
  simp at h1
  show d.2.1 = c.2.1
  rw [qVd hn h2 hc h1.1]
theorem yI {B : Nat → List Nat} {l : List Ch} {id : Nat} (h : id ∉ l.map (·.1)) : eR B l id = B id := by
 unfold eR
 cases hf : l.find? (fun d => decide (d.1 = id) && ! d.2.2) with
 | none => rfl
 | some d =>
  have h1 := List.find?_some hf
  have h2 := List.mem_of_find?_eq_some hf
  simp at h1
  exact absurd (List.mem_map.2 ⟨d, h2, h1.1⟩) h
theorem wK : ∀ {l : List Nw}, (l.flatMap (·.2.2)).Nodup → (∀ e ∈ l, e.2.2.Nodup) ∧ ∀ e ∈ l, ∀ e' ∈ l, e.1 ≠ e'.1 → ∀ p ∈ e.2.2, p ∉ e'.2.2
 | [], _ => ⟨fun e he => (by cases he), fun e he => (by cases he)⟩
 | a :: r, h => by
  rw [zar, zef] at h
  obtain ⟨h1, h2, h3⟩ := h
  obtain ⟨i1, i2⟩ := wK h2
  refine ⟨fun e he => ?_, fun e he e' he' hne p hp hp' => ?_⟩
  ·
   rcases zx.1 he with e1 | he1
   · rw [e1]; exact h1
   exact i1 e he1
  rcases zx.1 he with e1 | he1
  ·
   rcases zx.1 he' with e2 | he2
   · exact hne (by rw [e1, e2])
   rw [e1] at hp
   exact h3 p hp p (List.mem_flatMap.2 ⟨e', he2, hp'⟩) rfl
  rcases zx.1 he' with e2 | he2
  ·
   rw [e2] at hp'
   exact h3 p hp' p (List.mem_flatMap.2 ⟨e, he1, hp⟩) rfl
  exact i2 e he1 e' he2 hne p hp hp'
theorem mA (id : Nat) (D pg : List Nat) (h : D.length ≤ 4032) (hp : ∀ p ∈ pg, p < 2048) : fR (cW id D pg) = D.length ∧ (cW id D pg).2 / 4294967296 = crcM D ∧ (cW id D pg).2 < 18446744073709551616 := by
 have hc := nD D
 have ha : atP pg ≤ 2048 := by
  unfold atP
  split
  · omega
  have := hp _ (bM (jo : 0 < pg.length)); omega
 unfold fR cW
 dsimp only
 refine ⟨jo, jo, jo⟩
theorem fS {H : Hm} {B : Nat → List Nat} {l : List Ch} (h : InvH H B) (hm : cX l) (hb : ∀ c ∈ l, c.1 < 18446744073709551616 ∧ ∀ b ∈ c.2.1, b < 256) (hp : cJ H l ≤ 600) (hn : bQ H l ≤ 39) (hf : bQ H l ≤ H.N - cntS H.N H.used) :
  (qF H.dk (qD H l).puts).1 = 0 ∧ (H.plan (qF H.dk (qD H l).puts).2 (qD H l)).ok ∧ (∃ U, bP H.N (fun _ => false) (bD (H.plan (qF H.dk (qD H l).puts).2 (qD H l))) = some U) ∧ InvH (H.plan (qF H.dk (qD H l).puts).2 (qD H l)).count (eR B l) ∧
   (∀ x, x ∈ (qD H l).pairs ↔ (x ∈ H.pairs ∧ x.1 ∉ l.map (·.1)) ∨ ∃ e ∈ bA l ((bG H.N H.used).take (bQ H l)), x = cW e.1 e.2.1 e.2.2) ∧ (qD H l).dir.length = pagesM (qD H l).pairs.length := by
 obtain ⟨fr, hfr⟩ : ∃ fr, fr = (bG H.N H.used).take (bQ H l) := ⟨_, rfl⟩
 obtain ⟨D, hD⟩ : ∃ D, D = bK H l fr := ⟨_, rfl⟩
 have hP : qD H l = bW D := by rw [hD, hfr]; rfl
 rw [← hfr, hP]
 have hsz := h.ok.sz
 have hbg := h.ok.big
 have hNe : H.N = H.dk.has.length - 42 := rfl
 have gz : mC l := fun x hx hg => (hm.2 x hx).2 hg
 have hcl := rU H.N H.used
 have hfl : fr.length = bQ H l := by rw [hfr, zi, mP]; omega
 have hrn : D.pairs.length = cJ H l := by rw [hD]; exact uX _ _ _ _
 have htl : (bZ D.pairs).length = pagesM (cJ H l) := by rw [mS, hrn]
 have hbe : bQ H l = sumN l + (bZ D.pairs).length := by unfold bQ pagesT; rw [if_pos hp, htl]
 obtain ⟨f1, f2, f3, f4, f5⟩ := mF l ⟨[], H.pairs, fr, H.lies⟩ hm.1 gz (by dsimp only; omega)
 rw [show l.foldl bL ⟨[], H.pairs, fr, H.lies⟩ = D from hD.symm] at f1 f2 f3 f4 f5
 dsimp only at f1 f2 f3 f4 f5
 rw [zay] at f1
 have hnp := nM l fr gz jo
 have hnl := rJ l fr gz jo
 have hdir : (bW D).dir = fr.drop (sumN l) := by
  unfold bW
  dsimp only
  rw [f2, zf (by rw [zj]; omega)]
 have hdl : (bW D).dir.length = (bZ D.pairs).length := by rw [hdir, zj]; omega
 have frn : fr.Nodup := by rw [hfr]; exact ((List.nodup_range).sublist zdq).sublist (List.take_sublist _ _)
 have frf : ∀ p ∈ fr, p < H.N ∧ p ∉ bD H := fun p hp => by
  rw [hfr] at hp
  obtain ⟨h1, h2⟩ := List.mem_filter.1 (zn hp)
  have h1 := List.mem_range.1 h1
  refine ⟨h1, fun hw => ?_⟩
  rw [h.used p h1, decide_eq_true hw] at h2
  cases h2
 have hnod : (fr.take (sumN l) ++ fr.drop (sumN l)).Nodup := by rw [zbt]; exact frn
 obtain ⟨tn1, tn2, tn3⟩ := zef.1 hnod
 rw [← hnp] at tn1 tn3
 obtain ⟨en1, en2⟩ := wK tn1
 have enf : ∀ e ∈ bA l fr, ∀ p ∈ e.2.2, p ∈ fr ∧ p ∉ fr.drop (sumN l) := fun e he p hp => by
  have hpt : p ∈ (bA l fr).flatMap (·.2.2) := List.mem_flatMap.2 ⟨e, he, hp⟩
  refine ⟨?_, fun hd => tn3 p hpt p hd rfl⟩
  rw [hnp] at hpt
  exact zn hpt
 have hpairs : (bW D).pairs = D.pairs := rfl
 have hlies : (bW D).lies = D.lies := rfl
 have cls : ∀ x ∈ D.pairs, (x ∈ H.pairs ∧ D.lies x.1 = H.lies x.1 ∧ eR B l x.1 = B x.1) ∨ ∃ e ∈ bA l fr, x = cW e.1 e.2.1 e.2.2 ∧ x.1 = e.1 ∧ D.lies x.1 = e.2.2 ∧ eR B l x.1 = e.2.1 ∧ e.2.1.length ≤ 4032 ∧ (∀ b ∈ e.2.1, b < 256) ∧ e.1 < 18446744073709551616 := fun x hx => by
  rcases (f3 x).1 hx with ⟨h1, h2⟩ | ⟨e, he, rfl⟩
  · exact .inl ⟨h1, f4 _ h2, yI h2⟩
  obtain ⟨c, hc, hg, e1, e2⟩ := rK he
  refine .inr ⟨e, he, rfl, rfl, f5 e he, ?_, ?_, ?_, ?_⟩
  ·
   show eR B l e.1 = e.2.1
   rw [← e1, sL hm.1 hc hg, e2]
  · rw [← e2]; exact (hm.2 c hc).1
  · rw [← e2]; exact (hb c hc).2
  rw [← e1]; exact (hb c hc).1
 have wold : ∀ x ∈ H.pairs, ∀ p ∈ H.lies x.1, p ∈ bD H := fun x hx p hp => (rY H p).2 (.inr ⟨x, hx, hp⟩)
 have elt : ∀ e ∈ bA l fr, ∀ p ∈ e.2.2, p < 2048 := fun e he p hp => by have := (frf p (enf e he p hp).1).1; omega
 have hpos : (bW D).puts.map (·.1) = fr.map (42 + ·) ++ [41] := by
  have e1 : (bW D).puts = D.puts ++ cN (bW D).dir (bZ D.pairs) (bW D).dir.length ++ [(41, bY (bW D).dir)] := by rw [hdl]; rfl
  rw [e1, zy, zy, f1, yF, hnp, qV4, hdir, ← zy, zbt]
  rfl
 have hplen : (bW D).puts.length = bQ H l + 1 := by
  have := congrArg List.length hpos
  rw [zo, zd, zo, zcc, hfl] at this
  exact this
 have hokp : sA (bW D).puts := by
  have e1 : (bW D).puts = D.puts ++ cN (bW D).dir (bZ D.pairs) (bW D).dir.length ++ [(41, bY (bW D).dir)] := by rw [hdl]; rfl
  rw [e1]
  refine sI (sI ?_ ?_) ?_
  ·
   rw [f1]
   intro x hx
   obtain ⟨e, he, hx⟩ := List.mem_flatMap.1 hx
   obtain ⟨c, hc, hg, e1, e2⟩ := rK he
   exact uQ (by rw [← e2]; exact (hb c hc).2) (elt e he) x hx
  ·
   intro x hx
   obtain ⟨i, hi, rfl⟩ := List.mem_map.1 hx
   have hi := List.mem_range.1 hi
   have h1 := (frf ((bW D).dir.getD i 0) (by have := bM hi; rw [hdir] at this ⊢; exact zav this)).1
   have h2 := sD D.pairs ((bZ D.pairs).getD i []) (by rw [zc, zb jo]; exact zbe _)
   exact ⟨by dsimp only; omega, h2.1, h2.2⟩
  intro x hx
  rw [za] at hx
  subst hx
  exact ⟨by dsimp only; omega, fH (by rw [eM]; omega), lD (mU _)⟩
 have hmay : bF (bW D).puts H.dk.has.length := by
  refine ⟨jo, fun x hx => ?_, ?_⟩
  ·
   have hx1 : x.1 ∈ fr.map (42 + ·) ++ [41] := by rw [← hpos]; exact List.mem_map.2 ⟨x, hx, rfl⟩
   refine ⟨?_, (hokp x hx).2.1⟩
   rcases zcb.1 hx1 with h1 | h1
   ·
    obtain ⟨p, hp, he⟩ := List.mem_map.1 h1
    have := (frf p hp).1
    omega
   rw [za] at h1; omega
  rw [hpos, zef]
  refine ⟨?_, jp, fun a ha b hb e => ?_⟩
  ·
   rw [zeb, List.pairwise_map]
   exact (zeb.1 frn).imp fun hne e => hne jo
  obtain ⟨p, _, he⟩ := List.mem_map.1 ha
  rw [za] at hb
  omega
 obtain ⟨c1, c2, c3, c4, c5⟩ := rW h.pow jo hmay
 have hclen := dJ H.dk (bW D).puts
 obtain ⟨dk', hdk⟩ : ∃ dk', dk' = (qF H.dk (bW D).puts).2 := ⟨_, rfl⟩
 rw [← hdk] at c2 c3 c4 c5 hclen ⊢
 have hN : (H.plan dk' (bW D)).N = H.N := by unfold Hm.N Hm.plan; dsimp only; rw [hclen]
 have hok : (H.plan dk' (bW D)).ok := by
  refine ⟨by rw [show (H.plan dk' (bW D)).pairs = D.pairs from rfl, hD]; exact qQ2 h.ok.srt l fr, fun x hx => ?_, by show D.pairs.length ≤ 600; omega, by show 44 ≤ dk'.has.length; omega, by show dk'.has.length ≤ 2048; omega, by show dk'.wts.length ≤ 100000; rw [c3]; exact zg _, by show (bW D).dir.length ≤ 600; omega, fun p hp => ?_, fun x hx => ?_⟩
  ·
   rcases cls x hx with ⟨h1, _⟩ | ⟨e, he, rfl, _, _, _, e4, _, e6⟩
   · exact h.ok.okp x h1
   exact ⟨e6, (mA e.1 e.2.1 e.2.2 e4 (elt e he)).2.2⟩
  ·
   rw [hN]
   exact (frf p (by have hp' : p ∈ (bW D).dir := hp; rw [hdir] at hp'; exact zav hp')).1
  rw [hN]
  show (∀ p ∈ D.lies x.1, p < H.N) ∧ (D.lies x.1).length ≤ 600 ∧ fR x ≤ 126 * (D.lies x.1).length
  rcases cls x hx with ⟨h1, h2, _⟩ | ⟨e, he, rfl, _, e2, _, e4, _, e6⟩
  · rw [h2]; exact h.ok.pg x h1
  rw [e2]
  have h3 := hnl e he
  have h4 := (mA e.1 e.2.1 e.2.2 e4 (elt e he)).1
  refine ⟨fun p hp => (frf p (enf e he p hp).1).1, ?_, ?_⟩
  · rw [h3]; unfold needsM; omega
  rw [h4, h3]; unfold needsM; omega
 have g1 : (bW D).dir.Nodup := by rw [hdir]; exact tn2
 have g2 : ∀ x ∈ D.pairs, (D.lies x.1).Nodup := fun x hx => by
  rcases cls x hx with ⟨h1, h2, _⟩ | ⟨e, he, rfl, _, e2, _⟩
  · rw [h2]; exact h.lnod x h1
  rw [e2]; exact en1 e he
 have g3 : ∀ x ∈ D.pairs, ∀ p ∈ D.lies x.1, p ∉ (bW D).dir := fun x hx p hp => by
  rw [hdir]
  rcases cls x hx with ⟨h1, h2, _⟩ | ⟨e, he, rfl, _, e2, _⟩
  ·
   rw [h2] at hp
   exact fun hd => (frf p (zav hd)).2 (wold x h1 p hp)
  rw [e2] at hp
  exact (enf e he p hp).2
 have g4 : ∀ x ∈ D.pairs, ∀ y ∈ D.pairs, x.1 ≠ y.1 → ∀ p ∈ D.lies x.1, p ∉ D.lies y.1 := fun x hx y hy hne p hp hp' => by
  rcases cls x hx with ⟨h1, h2, _⟩ | ⟨e, he, _, e1, e2, _⟩
  ·
   rw [h2] at hp
   rcases cls y hy with ⟨k1, k2, _⟩ | ⟨e', he', _, e1', e2', _⟩
   · rw [k2] at hp'; exact h.ll x h1 y k1 hne p hp hp'
   rw [e2'] at hp'; exact (frf p (enf e' he' p hp').1).2 (wold x h1 p hp)
  rw [e2] at hp
  rcases cls y hy with ⟨k1, k2, _⟩ | ⟨e', he', _, e1', e2', _⟩
  · rw [k2] at hp'; exact (frf p (enf e he p hp).1).2 (wold y k1 p hp')
  rw [e2'] at hp'
  exact en2 e he e' he' (by rw [← e1, ← e1']; exact hne) p hp hp'
 have hwn : (bD (H.plan dk' (bW D))).Nodup := sY hok.srt g1 g2 g3 g4
 have hwl : ∀ p ∈ bD (H.plan dk' (bW D)), p < H.N := fun p hp => by
  rw [← hN]
  rcases (rY _ p).1 hp with h1 | ⟨x, hx, h1⟩
  · exact hok.dirp p h1
  exact (hok.pg x hx).1 p h1
 obtain ⟨U, hU, hUp⟩ := mB H.N (bD (H.plan dk' (bW D))) (fun _ => false) hwl hwn (fun _ _ => rfl)
 refine ⟨c1, hok, ⟨U, hU⟩, ?_, f3, by rw [hdl, htl, hpairs, hrn]⟩
 refine ⟨⟨hok.srt, hok.okp, hok.n600, hok.sz, hok.big, hok.wts, hok.d59, hok.dirp, hok.pg⟩, c2, c3, g1, g2, g3, g4, fun p hp => ?_, fun x hx => ?_⟩
 ·
  show ((bP (H.plan dk' (bW D)).N (fun _ => false) (bD (H.plan dk' (bW D)))).getD (fun _ => false)) p = decide (p ∈ bD (H.plan dk' (bW D)))
  rw [hN, hU]
  show U p = _
  rw [hUp p, Bool.false_or]
 show x = cW x.1 (eR B l x.1) (D.lies x.1) ∧ (D.lies x.1).length = needsM (eR B l x.1).length ∧ (eR B l x.1).length ≤ 4032 ∧ (∀ b ∈ eR B l x.1, b < 256) ∧ ∀ i, i < (D.lies x.1).length → dk'.sec (42 + (D.lies x.1).getD i 0) = cF (eR B l x.1) (D.lies x.1) i
 rcases cls x hx with ⟨h1, h2, h3⟩ | ⟨e, he, ex, e1, e2, e3, e4, e5, e6⟩
 ·
  rw [h2, h3]
  obtain ⟨b1, b2, b3, b4, b5⟩ := h.blob x h1
  refine ⟨b1, b2, b3, b4, fun i hi => ?_⟩
  have hpw := wold x h1 _ (bM hi)
  have hpl := (h.ok.pg x h1).1 _ (bM hi)
  rw [← b5 i hi]
  refine c5 _ jo jo (fun hq => ?_)
  rw [hpos] at hq
  rcases zcb.1 hq with hq | hq
  ·
   obtain ⟨p, hp', he⟩ := List.mem_map.1 hq
   have : p = (H.lies x.1).getD i 0 := by omega
   rw [this] at hp'
   exact (frf _ hp').2 hpw
  rw [za] at hq; omega
 rw [e2, e3]
 refine ⟨by rw [e1]; exact ex, hnl e he, e4, e5, fun i hi => ?_⟩
 refine c4 (42 + e.2.2.getD i 0, cF e.2.1 e.2.2 i) ?_
 have e1 : (bW D).puts = D.puts ++ cN (bW D).dir (bZ D.pairs) (bW D).dir.length ++ [(41, bY (bW D).dir)] := by rw [hdl]; rfl
 rw [e1, f1]
 exact zdk _ (zdk _ (List.mem_flatMap.2 ⟨e, he, qJh _ _ hi⟩))
end
section
open Go.RowKit
theorem qJi (D pg : List Nat) (i : Nat) : (cF D pg i).drop 2 = dE D i ++ noM (126 - (dE D i).length) := by
 have h1 := kS D i
 have h2 : Nat.min (D.length - 126 * i) 126 ≤ 126 := zfl _ _
 unfold cF dO
 rw [if_neg (by rw [zd, numL_len]; omega), zm, zes (numL_len _ _), zd, numL_len]
 rw [show 128 - (2 + (dE D i).length) = 126 - (dE D i).length by omega]
theorem uZ (D : List Nat) : ∀ k, 126 * k ≤ D.length + 125 → ((List.range k).flatMap fun i => dE D i ++ noM (126 - (dE D i).length)) = D.take (126 * k) ++ noM (126 * k - D.length)
 | 0, _ => by simp [noM]
 | k + 1, h => by
  have hl := kS D k
  have hb : (dE D k).length = Nat.min (D.length - 126 * k) 126 := hl
  rw [zcn, zao, uZ D k jo, show 126 * k - D.length = 0 by omega, zar, List.flatMap_nil, zbg]
  rw [show noM 0 = [] from rfl, zbg, ← zm]
  congr 1
  ·
   rw [show 126 * (k + 1) = 126 * k + 126 by omega, List.take_add]
   rfl
  congr 1
  rw [hb]
  rcases Nat.le_total (D.length - 126 * k) 126 with h1 | h1
  · rw [show Nat.min (D.length - 126 * k) 126 = D.length - 126 * k from zat h1]; omega
  rw [show Nat.min (D.length - 126 * k) 126 = 126 from zdd h1]; omega
theorem qJj {H : Hm} {D pg : List Nat} (hs : ∀ i, i < pg.length → H.dk.sec (42 + pg.getD i 0) = cF D pg i) (hl : pg.length = needsM D.length) : (dM H pg).take D.length = D := by
 have e : dM H pg = (List.range pg.length).flatMap fun i => dE D i ++ noM (126 - (dE D i).length) := by
  unfold dM
  have e1 : pg = (List.range pg.length).map fun i => pg.getD i 0 := by
   apply zem
   · simp
   intro i h1 h2
   simp [zc, h1]
  conv => lhs; rw [e1]
  rw [List.flatMap_map]
  have key : ∀ l : List Nat, (∀ i ∈ l, i < pg.length) → (l.flatMap fun i => (H.dk.sec (42 + pg.getD i 0)).drop 2) = l.flatMap fun i => dE D i ++ noM (126 - (dE D i).length) := by
   intro l
   induction l with
   | nil => intro _; rfl
   | cons a r ih =>
    intro hm
    rw [zar, zar, ih (fun i hi => hm i (by simp [hi])), hs a (hm a jp), qJi]
  exact key _ (fun i hi => List.mem_range.1 hi)
 rw [e, uZ D _ (by rw [hl]; unfold needsM; omega), zf (i := 126 * pg.length) (by rw [hl]; unfold needsM; omega), zci rfl]
theorem qQ8 {H : Hm} {B : Nat → List Nat} (h : InvH H B) {id : Nat} (hk : id ∈ H.pairs.map (·.1)) : eZ H id = (0, B id) := by
 obtain ⟨h1, h2, h3⟩ := tI h.ok.srt hk
 obtain ⟨b1, b2, b3, b4, b5⟩ := h.blob _ h2
 have hpg := (h.ok.pg _ h2).1
 have hbg := h.ok.big
 unfold eZ
 rw [if_neg (not_not_intro hk), if_neg (by rw [h.pow.off]; simp)]
 dsimp only
 generalize H.pairs.getD (posM H.pairs id) (0, 0) = x at *
 rw [h3] at b1 b2 b3 b4 b5 hpg
 obtain ⟨p1, p2, p3⟩ := mA id (B id) (H.lies id) b3 (fun p hp => by have := hpg p hp; unfold Hm.N at this; omega)
 rw [← b1] at p1 p2
 rw [p1, qJj b5 b2, p2, if_pos rfl]
theorem oZ {H : Hm} {B : Nat → List Nat} {l : List Ch} (h : InvH H B) (hb : ∀ c ∈ l, c.1 < 18446744073709551616 ∧ ∀ b ∈ c.2.1, b < 256) :
  kT H l ∧ (qN H l).2.ok ∧ ((qN H l).1 = 0 ∧ cX l ∧ cM H l ∧ InvH (qN H l).2 (eR B l) ∧ (qN H l).2.dk.has.length = H.dk.has.length ∧ (qN H l).2.dir.length = pagesM (qN H l).2.pairs.length ∧
    (∀ id, id ∈ (qN H l).2.pairs.map (·.1) ↔ (id ∈ H.pairs.map (·.1) ∧ id ∉ l.map (·.1)) ∨ ∃ c ∈ l, c.2.2 = false ∧ c.1 = id) ∨ (qN H l).1 ≠ 0 ∧ (qN H l).2 = H) := by
 have hmk : kT H l := fun hm _ hp hn hf _ => by
  obtain ⟨s1, s2, s3, s4, s5, s6⟩ := fS h hm hb hp hn hf
  exact ⟨s2, dJ _ _, s3⟩
 refine ⟨hmk, ?_⟩
 by_cases hm : cX l
 ·
  by_cases hg : cM H l
  ·
   by_cases hn : 600 < cJ H l ∨ 40 < bQ H l + 1
   ·
    have e : qN H l = (5, H) := by unfold qN; rw [if_neg (not_not_intro hm), if_neg (not_not_intro hg), if_pos hn]
    rw [e]
    exact ⟨h.ok, .inr ⟨jp, rfl⟩⟩
   by_cases hf : H.N - cntS H.N H.used < bQ H l
   ·
    have e : qN H l = (5, H) := by unfold qN; rw [if_neg (not_not_intro hm), if_neg (not_not_intro hg), if_neg hn, if_pos hf]
    rw [e]
    exact ⟨h.ok, .inr ⟨jp, rfl⟩⟩
   obtain ⟨s1, s2, s3, s4, s5, s6⟩ := fS h hm hb jo jo jo
   have e : qN H l = (0, (H.plan (qF H.dk (qD H l).puts).2 (qD H l)).count) := by unfold qN; rw [if_neg (not_not_intro hm), if_neg (not_not_intro hg), if_neg hn, if_neg hf, if_neg (not_not_intro s1)]
   rw [e]
   refine ⟨s4.ok, .inl ⟨rfl, hm, hg, s4, dJ _ _, s6, fun id => ?_⟩⟩
   show id ∈ (qD H l).pairs.map (·.1) ↔ _
   simp only [List.mem_map]
   constructor
   ·
    rintro ⟨x, hx, rfl⟩
    rcases (s5 x).1 hx with ⟨h1, h2⟩ | ⟨e, he, rfl⟩
    · exact .inl ⟨⟨x, h1, rfl⟩, by simpa using h2⟩
    obtain ⟨c, hc, hcg, e1, _⟩ := rK he
    exact .inr ⟨c, hc, hcg, e1⟩
   rintro (⟨⟨x, hx, rfl⟩, h2⟩ | ⟨c, hc, hcg, rfl⟩)
   · exact ⟨x, (s5 x).2 (.inl ⟨hx, by simpa using h2⟩), rfl⟩
   have h1 : (c.1, c.2.1) ∈ (bA l ((bG H.N H.used).take (bQ H l))).map (fun e => (e.1, e.2.1)) := by
    rw [mE]
    exact List.mem_map.2 ⟨c, List.mem_filter.2 ⟨hc, by simp [hcg]⟩, rfl⟩
   obtain ⟨e, he, hee⟩ := List.mem_map.1 h1
   injection hee with e1 e2
   exact ⟨_, (s5 _).2 (.inr ⟨e, he, rfl⟩), e1⟩
  have e : qN H l = (6, H) := by unfold qN; rw [if_neg (not_not_intro hm), if_pos hg]
  rw [e]
  exact ⟨h.ok, .inr ⟨jp, rfl⟩⟩
 have e : qN H l = (1, H) := by unfold qN; rw [if_pos hm]
 rw [e]
 exact ⟨h.ok, .inr ⟨jp, rfl⟩⟩
end
section
open Go.RowKit
theorem yL {d : Dk} (h : Pow d) (hn : 41 < d.has.length) : (bU d).1 = 0 ∧ Pow (bU d).2 ∧ (bU d).2.wts = [] := by
 have he : bU d = qI d gT := by unfold bU; rw [if_neg jo]
 have hno : oC d.has.length (.wr 0 (noM 128)) := ⟨jo, by simp [noM]⟩
 obtain ⟨r1, r2, _⟩ := jW gT h (fun s hs => by
  simp only [gT, zx, zaf, or_false] at hs
  rcases hs with rfl | rfl
  · exact hno
  trivial)
 obtain ⟨q1, q2, _⟩ := jW [.wr 0 (noM 128)] h (fun s hs => by rw [za] at hs; subst hs; exact hno)
 have hw : (qI d gT).2.wts = [] := by
  rw [show gT = [.wr 0 (noM 128)] ++ [.fl] from rfl, mG _ _ _ q1]
  show ((qI d _).2.flush).2.wts = []
  unfold Dk.flush
  rw [if_neg q2.fails]
 rw [he]
 exact ⟨r1, r2, hw⟩
theorem sO {d : Dk} (h : Pow d) (hw : d.wts = []) (h1 : 44 ≤ d.has.length) (h2 : d.has.length ≤ 2048) (B : Nat → List Nat) : InvH (cZ d) B :=
 ⟨qQ7 h1 h2 (by rw [hw]; exact zg _), h, hw, List.nodup_nil, (fun x hx => by cases hx), (fun x hx => by cases hx), (fun x hx => by cases hx), (fun p hp => by simp [cZ, bD, dZ]), (fun x hx => by cases hx)⟩
theorem lV {H : Hm} {B : Nat → List Nat} (h : InvH H B) : cntS H.N H.used = (bD H).length ∧ (bD H).Nodup ∧ ∀ p ∈ bD H, p < H.N := by
 have hn := sY h.ok.srt h.dnod h.lnod h.dl h.ll
 have hl : ∀ p ∈ bD H, p < H.N := fun p hp => by
  rcases (rY _ p).1 hp with h1 | ⟨x, hx, h1⟩
  · exact h.ok.dirp p h1
  exact (h.ok.pg x hx).1 p h1
 have := yE H.N (bD H) (fun _ => false) hl hn (fun _ _ => rfl) H.used (fun p hp => by rw [h.used p hp, Bool.false_or])
 refine ⟨?_, hn, hl⟩
 rw [this]
 have hz : cntS H.N (fun _ => false) = 0 := by unfold cntS; simp
 omega
theorem oE {d : Dk} (h : Pow d) (h1 : 44 ≤ d.has.length) (h2 : d.has.length ≤ 2048) :
  (bU d).1 = 0 ∧ (bU d).2.wts.length ≤ 100000 ∧ kT (cZ (bU d).2) [] ∧ (qN (cZ (bU d).2) []).2.ok ∧ (qN (cZ (bU d).2) []).1 = 0 ∧
   InvH (qN (cZ (bU d).2) []).2 (fun _ => []) ∧ (qN (cZ (bU d).2) []).2.dk.has.length = d.has.length ∧ (qN (cZ (bU d).2) []).2.dir.length = pagesM (qN (cZ (bU d).2) []).2.pairs.length ∧ ∀ id, id ∉ (qN (cZ (bU d).2) []).2.pairs.map (·.1) := by
 obtain ⟨f1, f2, f3⟩ := yL h jo
 have hl := oB d
 have hi := sO f2 f3 jo jo (fun _ => [])
 obtain ⟨a1, a2, a3⟩ := oZ hi (l := []) (fun c hc => by cases hc)
 have hbp : cJ (cZ (bU d).2) [] = 0 := rfl
 have hpm : pagesM 0 = 1 := by
  unfold pagesM
  rw [show abvM 0 7 = 1 from rfl, kC, dif_pos jo]
 have hbn : bQ (cZ (bU d).2) [] = 1 := by
  unfold bQ
  rw [hbp, pagesT, if_pos jo, hpm]
  rfl
 have hc := (lV hi).1
 have hN : (cZ (bU d).2).N = d.has.length - 42 := by unfold Hm.N cZ; dsimp only; rw [hl]
 have hc0 : cntS (cZ (bU d).2).N (cZ (bU d).2).used = 0 := hc
 have hm : cX ([] : List Ch) := by simp [cX]
 have hg : cM (cZ (bU d).2) [] := fun x hx => by cases hx
 have e0 : (qN (cZ (bU d).2) []).1 = 0 := by
  obtain ⟨s1, _⟩ := fS hi hm (fun c hc => by cases hc) jo jo jo
  unfold qN
  rw [if_neg (not_not_intro hm), if_neg (not_not_intro hg), if_neg jo, if_neg jo, if_neg (not_not_intro s1)]
 rcases a3 with ⟨_, _, _, b1, b2, b3, b4⟩ | ⟨b1, _⟩
 ·
  have eB : eR (fun _ => []) [] = fun _ => ([] : List Nat) := rfl
  rw [eB] at b1
  refine ⟨f1, by rw [f3]; exact zg _, a1, a2, e0, b1, b2.trans hl, b3, fun id hid => ?_⟩
  rcases (b4 id).1 hid with ⟨h5, _⟩ | ⟨c, hc, _⟩
  · cases h5
  cases hc
 exact absurd e0 b1
end
section
open Go.RowKit
def kD (l : List Ch) : List Ch := (l.take 12).map fun c => (c.1, c.2.1.take 4040, c.2.2)
theorem qK0 (l : List Ch) : (kD l).length ≤ 12 := by unfold kD; rw [zo, zi]; omega
def tQ (k : Nat) : List Nat := List.replicate 128 k
theorem wV (k : Nat) (w : World) (hk : k < 256) : Calls Tryz.prog 52 #[.int .u8 ((k : Nat) : Int)] w fun e w' => ∃ g, e = .returned (.slice (some ⟨g, 0, none⟩) 128 128) ∧ Own w' 5 1 (some ⟨g, 0, none⟩) 128 128 (NB (tQ k)) ∧ Frm [] w w' ∧ w.heap.size ≤ g := by
 refine VC.calls (nt := 15) (res := #[.tmp 2]) Tryz.func52 rfl Tryz.ntmps52 Tryz.results52 rfl ?_
 refine jS (jR (ja rfl (jO (jN (jv1 0 ?_)))))
 refine jS (jR ?_)
 refine Ops.m (qZ.makeS (n := 128) rfl rfl ze (dG) rfl jo jo) rfl ?_
 rintro _ w1 ⟨rfl, ho1, hf1, hs1⟩
 rw [kP] at ho1
 have e0 : List.replicate 128 (Value.int .u8 ((0 : Nat) : Int)) = NB (List.replicate 0 k ++ List.replicate (128 - 0) 0) := by rw [NB, List.replicate_zero, zay, zdx]
 rw [e0] at ho1
 generalize hg : w.heap.size = gb at *
 refine ja rfl (jO (jN (jv2 0 3 ?_)))
 refine jS (jS (jR (jz 0 (jO (jN (jB ?_))))))
 refine VC.loop (σ := Nat) (fun s => [(0, .int .u8 ((k : Nat) : Int)), (3, .slice (some ⟨gb, 0, none⟩) 128 128), (4, .int .i64 ((s : Nat) : Int))]) (fun s wr => s ≤ 128 ∧ Own wr 5 1 (some ⟨gb, 0, none⟩) 128 128 (NB (List.replicate s k ++ List.replicate (128 - s) 0)) ∧ Frm [] w wr) (fun s => 128 - s) 0 (js3 rfl rfl rfl) ⟨zg _, ho1, hf1⟩ ?_
 rintro i wr ⟨hi, ho, K⟩
 refine jS (jS (jR (jm rfl (jb rfl rfl (Bin.lssN _ 128) (jO (jN (jv4 0 3 4 7 ?_)))))))
 refine jD rfl (fun hc1 => ?_) fun hc1 => ?_
 ·
  refine jQ (jN (jv3 0 3 4 ?_))
  refine jS (jB (jR (jm rfl (jm rfl (jm rfl (je (Run.index1 _ rfl rfl ze zae jo) ?_))))))
  refine Ops.st (qS.storeOwn i rfl rfl zae ho rfl jo rfl) ?_
  rintro w2 ⟨ho2, hf2, hs2⟩
  have e2 : (NB (List.replicate i k ++ List.replicate (128 - i) 0)).set i (.int .u8 ((k : Nat) : Int)) = NB (List.replicate (i + 1) k ++ List.replicate (128 - (i + 1)) 0) := by
   have e3 : (List.replicate i k ++ List.replicate (128 - i) 0).set i k = List.replicate (i + 1) k ++ List.replicate (128 - (i + 1)) 0 := by
    rw [List.set_append_right _ _ (by rw [List.length_replicate]; omega), List.length_replicate, zft, show 128 - i = (128 - (i + 1)) + 1 by omega, List.replicate_succ, List.set_cons_zero, List.replicate_succ' (n := i), zm]
    rfl
   rw [← e3, NB, NB, List.map_set]
  rw [e2] at ho2
  refine jO ?_
  refine qH (jN ?_)
  refine jv3 0 3 4 ?_
  refine jR (jm rfl (jb rfl rfl (Bin.add_i64 _ 1 jo) (ja rfl (jO ?_))))
  refine jN ⟨i + 1, (js3 rfl rfl rfl), ?_, ?_⟩
  · exact ⟨jo, ho2, K.own hf2 (by simp [ob]; omega)⟩
  first | omega | (dsimp only; omega)
 refine jX ?_
 refine qJ (qJ (qT ?_))
 refine jN (jv1 3 ?_)
 refine jS (jR (jm rfl (ja rfl (jO (jN (jv1 2 ?_))))))
 refine jT ?_
 refine qB rfl ?_
 obtain rfl : i = 128 := jo
 have ho : Own wr 5 1 (some ⟨gb, 0, none⟩) 128 128 (NB (List.replicate 128 k ++ [])) := ho
 rw [zbg] at ho
 exact ⟨gb, rfl, ho, K, jo⟩
theorem qJk {l : List Cq} {i : Nat} (h : i < l.length) (hi : i < 12) : kD (chL (l.take (i + 1))) = kD (chL (l.take i)) ++ [((l.getD i cq0).1, (l.getD i cq0).2.1.2.2.take 4040, (l.getD i cq0).2.2)] := by
 have e1 : (chL (l.take (i + 1))).take 12 = chL (l.take (i + 1)) := zf (by rw [lK, zi]; omega)
 have e2 : (chL (l.take i)).take 12 = chL (l.take i) := zf (by rw [lK, zi]; omega)
 unfold kD
 rw [e1, e2, kV h, zy]
 rfl
structure RdQ (w : World) (S : Option Addr) (n : Nat) (l : List Cq) : Prop where
 len : l.length = n
 rd : Rd w 3 S n (l.flatMap cqC)
 el : ∀ x ∈ l, Rd w 1 x.2.1.1 x.2.1.2.2.length (NB x.2.1.2.2) ∧ x.2.1.2.2.length ≤ x.2.1.2.1
 num : ∀ x ∈ l, x.1 < 18446744073709551616 ∧ x.2.1.2.2.length ≤ 9223372036854775807
 oct : ∀ x ∈ l, ∀ b ∈ x.2.1.2.2, b < 256
theorem RdQ.frm {w w' : World} {S : Option Addr} {n : Nat} {l : List Cq} (h : RdQ w S n l) (k : Frm [] w w') : RdQ w' S n l := ⟨h.len, h.rd.frm k jp, fun x hx => ⟨(h.el x hx).1.frm k jp, (h.el x hx).2⟩, h.num, h.oct⟩
theorem RdQ.cell {w : World} {S : Option Addr} {n : Nat} {l : List Cq} (h : RdQ w S n l) {k : Nat} (hk : k < n) : ∃ ad, S = some ad ∧ ∀ j v, (cqC (l.getD k cq0))[j]? = some v → w.cell? ((ad.add (k * 3)).add j) = some v := rdF cqC 3 oX h.rd h.len hk cq0
theorem RdQ.cut {w : World} {S : Option Addr} {n k : Nat} {l : List Cq} (h : RdQ w S n l) (hk : k ≤ n) : RdQ w S k (l.take k) := by
 have h1 := h.rd.cut (l := 0) (r := k) (cap := n + 1) (zg _) hk jo
 rw [cT, zcz, zbb, zbk] at h1
 refine ⟨by rw [zi, h.len]; omega, ?_, fun x hx => h.el x (zn hx), fun x hx => h.num x (zn hx), fun x hx => h.oct x (zn hx)⟩
 have h2 := (oM cqC 3 oX l k).1
 rw [← h2]
 exact h1
def OwQ (b : Nat) (w : World) (X : List Nat) (l : List Cq) : Prop := (∀ x ∈ l, Own w 5 1 x.2.1.1 x.2.1.2.2.length x.2.1.2.1 (NB x.2.1.2.2) ∧ ∀ y ∈ ob x.2.1.1, (y < w.heap.size ∧ y ∉ X) ∧ b ≤ y) ∧ l.Pairwise fun a c => ∀ y ∈ ob a.2.1.1, y ∉ ob c.2.1.1
theorem OwQ.frm {b : Nat} {w w' : World} {X : List Nat} {l : List Cq} (h : OwQ b w X l) (k : Frm [] w w') : OwQ b w' X l := ⟨fun x hx => ⟨(h.1 x hx).1.frm k jp, fun y hy => ⟨⟨zz ((h.1 x hx).2 y hy).1.1 k.size, ((h.1 x hx).2 y hy).1.2⟩, ((h.1 x hx).2 y hy).2⟩⟩, h.2⟩
theorem OwQ.fk {b : Nat} {w w' : World} {X X' : List Nat} {l : List Cq} (h : OwQ b w X l) (k : Fk X w w' X') : OwQ b w' X' l := ⟨fun x hx => ⟨(h.1 x hx).1.frm k.1 (fun y hy => ((h.1 x hx).2 y hy).1.2), fun y hy => ⟨⟨zz ((h.1 x hx).2 y hy).1.1 k.1.size, k.out ((h.1 x hx).2 y hy).1.1 ((h.1 x hx).2 y hy).1.2⟩, ((h.1 x hx).2 y hy).2⟩⟩, h.2⟩
theorem OwQ.snoc {b : Nat} {w : World} {X : List Nat} {l : List Cq} {x : Cq} (h : OwQ b w X l) (hr : Own w 5 1 x.2.1.1 x.2.1.2.2.length x.2.1.2.1 (NB x.2.1.2.2)) (hx : ∀ y ∈ ob x.2.1.1, ((y < w.heap.size ∧ y ∉ X) ∧ b ≤ y) ∧ ∀ z ∈ l, y ∉ ob z.2.1.1) : OwQ b w X (l ++ [x]) := by
 refine ⟨fun y hy => ?_, List.pairwise_append.2 ⟨h.2, jp, fun a ha c hc y hy hy2 => ?_⟩⟩
 ·
  rcases zcb.1 hy with hy | hy
  · exact h.1 y hy
  rw [za] at hy; subst hy; exact ⟨hr, fun z hz => (hx z hz).1⟩
 rw [za] at hc
 subst hc
 exact (hx y hy2).2 a ha hy
set_option maxHeartbeats 1000000 in
theorem rG (S0 : Option Addr) (n0 c0 : Nat) (l0 : List Cq) (w : World) (hn : n0 ≤ 9223372036854775807) (hnc : n0 ≤ c0) (hr0 : RdQ w S0 n0 l0) :
  Calls Tryz.prog 8 #[.slice S0 n0 c0] w fun e w' => ∃ B d l, e = .returned (.slice B l.length d) ∧ Own w' 93 3 B l.length d (l.flatMap cqC) ∧ OwQ w.heap.size w' (ob B) l ∧ chL l = kD (chL l0) ∧ Frm [] w w' ∧ ∀ x ∈ ob B, w.heap.size ≤ x := by
 have K0 := Frm.refl [] w
 obtain ⟨n, hnn⟩ : ∃ n, n = (if 12 < n0 then 12 else n0) := ⟨_, rfl⟩
 have hn12 : n ≤ 12 ∧ n ≤ n0 := by rw [hnn]; split <;> omega
 have hr := hr0.cut hn12.2
 obtain ⟨l, hl⟩ : ∃ l, l = l0.take n := ⟨_, rfl⟩
 rw [← hl] at hr
 have hfe : kD (chL l) = kD (chL l0) := by
  have e1 : (chL l).take 12 = (chL l0).take 12 := by
   rw [hl, sF, zeg]
   by_cases h : 12 < n0
   ·
    rw [hnn, if_pos h]
    rfl
   rw [hnn, if_neg h, zdd jo, zf (i := n0) (by rw [lK, hr0.len]; exact zp _), zf (by rw [lK, hr0.len]; omega)]
  unfold kD
  rw [e1]
 have hln := hr.len
 refine VC.calls (nt := 39) (res := #[.tmp 2]) Tryz.func8 rfl Tryz.ntmps8 Tryz.results8 rfl ?_
 refine jS (jR (ja rfl (jO (jN (jv1 0 ?_)))))
 refine jS (jS (jR (jm rfl (je (Run.lenS rfl zan) (jb rfl rfl (Bin.gtrN _ 12) (jO (jN (jv2 0 8 ?_))))))))
 refine VC.meet (σ := Nat) (fun s => [(0, .slice S0 n s)]) (fun s wz => w = wz) ?_ ?_
 ·
  refine jD rfl (fun hc1 => ?_) fun hc1 => ?_
  ·
   refine jR (jm rfl (je (Run.sliceS 0 12 rfl zan zba evB.none_ (evB.some_ rfl) jo jo) ?_))
   rw [cT]
   refine ja rfl (jO ?_)
   refine jN ⟨_, (js1 (by rw [show n = 12 - 0 by rw [hnn, if_pos hc1]]; rfl)), ?_⟩
   rfl
  refine jQ ?_
  refine jN ⟨_, (js1 (by rw [show n = n0 by rw [hnn, if_neg hc1]]; rfl)), ?_⟩
  rfl
 rintro cc _ rfl Γ hΓ
 refine jN (VC.sub _ hΓ (jS (jR (ja rfl (jO (jN (jS (jS (jR (jz 0 (jO (jN (jB ?_)))))))))))))
 refine VC.loop (σ := Nat × Option Addr × Nat × List Cq) (fun s => [(0, .slice S0 n cc), (3, .slice s.2.1 s.2.2.2.length s.2.2.1), (4, .int .i64 ((s.1 : Nat) : Int))]) (fun s wr => s.1 ≤ n ∧ Own wr 93 3 s.2.1 s.2.2.2.length s.2.2.1 (s.2.2.2.flatMap cqC) ∧ OwQ w.heap.size wr (ob s.2.1) s.2.2.2 ∧ chL s.2.2.2 = kD (chL (l.take s.1)) ∧ Frm [] w wr ∧ (∀ x ∈ ob s.2.1, w.heap.size ≤ x) ∧ s.2.2.2.length = s.1) (fun s => n - s.1) (0, none, 0, []) (js3 rfl rfl rfl) ⟨zg _, Own.nil _ _ _, ⟨fun x hx => (by cases hx), List.Pairwise.nil⟩, rfl, K0, by simp [ob], rfl⟩ ?_
 rintro ⟨i, B, d, ls⟩ wr ⟨hi, ho, hq, hch, K, hup, hll⟩
 dsimp only at hi ho hq hch hup hll ⊢
 have ks := K.size
 refine jS (jS (jR (jm rfl (jm rfl (je (Run.lenS rfl zan) (jb rfl rfl (Bin.lssN _ _) (jO (jN (jv4 0 3 4 14 ?_)))))))))
 refine jD rfl (fun hc2 => ?_) fun hc2 => ?_
 ·
  obtain ⟨ad, hS, hel⟩ := (hr.frm K).cell hc2
  subst hS
  have hmem := lL (jo : i < l.length)
  have hxn := hr.num _ hmem
  have hxo := hr.oct _ hmem
  have hxe := hr.el _ hmem
  have hsn := qJk (jo : i < l.length) jo
  generalize l.getD i cq0 = x at hel hxn hxo hxe hsn
  obtain ⟨xa, ⟨xA, xc, xb⟩, xg⟩ := x
  dsimp only at hxn hxo hxe hsn
  refine jQ (jN (jv3 0 3 4 ?_))
  refine jS (jB (jS (jR (jm rfl (jm rfl (je (Run.indexS _ rfl rfl zan zba jo) (je (Run.loadA rfl zfx zba hel (by first | rfl | (simp; done))) ?_)))))))
  refine Ops.m (qZ.alloc fJ) rfl ?_
  rintro _ w2 ⟨rfl, hF2⟩
  refine Ops.st (qS.storeA rfl rfl zba hF2.blk rfl (lJ (xa, (xA, xc, xb), xg))) ?_
  rintro w3 ⟨hb5, hf3, hs3⟩
  have hb5 : Blk w3 wr.heap.size 93 #[.int .u64 ((xa : Nat) : Int), .slice xA xb.length xc, .bool xg] := hb5
  have K3 : Frm [] wr w3 := hF2.frm.own hf3 jp
  have hwl := ho.lt
  have ho := ho.frm K3 jp
  have hwl0 := hq
  have hqr := hq
  have hq := hq.frm K3
  have K := K.trans K3 jp
  have hq0 : ∀ x ∈ ls, ∀ y ∈ ob x.2.1.1, y < wr.heap.size := fun x hx y hy => ((hqr.1 x hx).2 y hy).1.1
  have hql : ∀ x ∈ ls, ∀ y ∈ ob x.2.1.1, y < w3.heap.size := fun x hx y hy => ((hq.1 x hx).2 y hy).1.1
  generalize hg5 : wr.heap.size = g5 at *
  refine jO (jN (jv4 0 3 4 5 ?_))
  refine jS (jS (jR (jf rfl zac rfl zr (jl rfl zal (hb5.cell 1) (je (Run.lenS rfl ze) (jb rfl rfl (Bin.gtrN _ 4040) (jO (jN (jv5 0 3 4 5 24 ?_)))))))))
  refine VC.meet (σ := Nat) (fun s => [(0, .slice (some ad) n cc), (3, .slice B ls.length d), (4, .int .i64 ((i : Nat) : Int)), (5, .pointer (some ⟨g5, 0, none⟩))]) (fun s wz => Frm [g5] w3 wz ∧ Blk wz g5 93 #[.int .u64 ((xa : Nat) : Int), .slice xA (xb.take 4040).length s, .bool xg] ∧ wz.heap.size = w3.heap.size) ?_ ?_
  ·
   refine jD rfl (fun hc3 => ?_) fun hc3 => ?_
   ·
    have hcapx := hxe.2
    have htk : (xb.take 4040).length = 4040 := by rw [zi]; omega
    refine jR (jf rfl zac rfl zr (jl rfl zal (hb5.cell 1) (je (Run.sliceS 0 4040 rfl ze zae evB.none_ (evB.some_ rfl) jo jo) ?_)))
    rw [cT]
    refine jf rfl zac rfl zr ?_
    refine Ops.st (qS.store rfl rfl zr hb5 rfl rfl) ?_
    rintro w4 ⟨hb5, hf4, hs4⟩
    refine jO ?_
    refine jN ⟨xc - 0, (js4 rfl rfl rfl rfl), ?_⟩
    exact ⟨hf4, by rw [htk]; exact hb5, hs4⟩
   have htk : xb.take 4040 = xb := zf jo
   refine jQ ?_
   refine jN ⟨xc, (js4 rfl rfl rfl rfl), ?_⟩
   exact ⟨Frm.refl _ _, by rw [htk]; exact hb5, rfl⟩
  rintro xc wz ⟨hfz, hb5, hsz⟩ Γ hΓ
  refine jN (VC.sub _ hΓ (jS (jR ?_)))
  refine Ops.m (qZ.buildS0 ze zae) rfl ?_
  rintro _ w5 ⟨rfl, hF5⟩
  obtain ⟨yb, hyb⟩ : ∃ yb, yb = xb.take 4040 := ⟨_, rfl⟩
  rw [← hyb] at hb5 hsn
  have hyl : yb.length ≤ 4040 := by rw [hyb, zi]; omega
  have hyo : ∀ b ∈ yb, b < 256 := fun b hb => hxo b (by rw [hyb] at hb; exact zn hb)
  have hwl5 : g5 < wz.heap.size := hb5.lt
  have ho5 : Own w5 5 1 (some ⟨wz.heap.size, 0, none⟩) 0 0 (NB []) := Own.of_blk hF5.blk rfl (by simp [maxLen])
  have kz : Frm [g5] w3 w5 := hfz.trans hF5.frm jp
  have n5B : ∀ y ∈ ob B, y ≠ g5 := fun y hy e => by have := hwl y hy; omega
  have K5 := K.own kz (by simp; omega)
  have hyr : Rd w5 1 xA yb.length (NB yb) := by
   have h1 := hxe.1.cut (l := 0) (r := yb.length) (cap := xb.length + 1) (zg _) (by rw [hyb, zi]; omega) jo
   rw [cT, zbk, zcz, zbb, zcm, (lO _ _).1, show xb.take yb.length = yb by rw [hyb]; exact oT _ _] at h1
   exact h1.frm K5 jp
  refine jf rfl zac rfl zr (jl rfl zal ((hb5.frm hF5.frm jp).cell 1) ?_)
  refine Ops.m (qZ.app rfl rfl ze (dG) rfl jd ho5 hyr (cB _) jo jo) rfl ?_
  rintro _ w6 ⟨YA, yc, rfl, ho6, hf6, hob6⟩
  rw [← cP, zay, zbp] at ho6
  rw [zbp]
  have hq5 := hF5.size
  have n6 : g5 ∉ ob (some (⟨wz.heap.size, 0, none⟩ : Addr)) := fun h => by simp [ob] at h; omega
  have hb6 := (hb5.frm hF5.frm jp).frm hf6 n6
  have hupY : ∀ y ∈ ob YA, wz.heap.size ≤ y := fun y hy => by
   rcases hob6 with h | h
   · rw [h] at hy; simp [ob] at hy; omega
   rw [h, za] at hy; omega
  refine jf rfl zac rfl zr ?_
  refine Ops.st (qS.store rfl rfl zr hb6 rfl rfl) ?_
  rintro w7 ⟨hb7, hf7, hs7⟩
  have hf7 : Frm [g5] w6 w7 := hf7
  have hb7 : Blk w7 g5 93 #[.int .u64 ((xa : Nat) : Int), .slice YA yb.length yc, .bool xg] := hb7
  have hYlt := ho6.lt
  have ho7 : Own w7 5 1 YA yb.length yc (NB yb) := ho6.frm hf7 (fun y hy h => by rw [za] at h; have := hupY y hy; omega)
  have k37 : Frm (g5 :: [wz.heap.size]) w3 w7 := ((kz.mono jp).trans hf6 (fun y hy => .inl (by simp [ob] at hy; simp [hy]))).trans hf7 (fun y hy => .inl (by simp at hy; simp [hy]))
  have hBw : ∀ y ∈ ob B, y < w3.heap.size := fun y hy => by have := hwl y hy; have := K3.size; omega
  have ho := ho.frm k37 (fun y hy h => by simp at h; rcases h with h | h; exact n5B y hy h; have := hBw y hy; omega)
  have K := K.own k37 (by simp; omega)
  have q7 : w3.heap.size ≤ w7.heap.size := k37.size
  have hq : OwQ w.heap.size w7 (ob B) ls := ⟨fun x hx => ⟨(hq.1 x hx).1.frm k37 (fun y hy h => by
    simp at h
    rcases h with h | h
    · have := hq0 x hx y hy; omega
    have := ((hq.1 x hx).2 y hy).1.1; omega), fun y hy => ⟨⟨zz ((hq.1 x hx).2 y hy).1.1 q7, ((hq.1 x hx).2 y hy).1.2⟩, ((hq.1 x hx).2 y hy).2⟩⟩, hq.2⟩
  refine jO (jN (jv4 0 3 4 5 ?_))
  refine jR (jm rfl (je (Run.loadA rfl zfx zba (hb7.cells) (by first | rfl | (simp; done))) ?_))
  refine Ops.m (qZ.buildS1 rfl zan zba fJ jd jd rfl rfl) rfl ?_
  rintro _ w8 ⟨rfl, hF8⟩
  have hr8 : Rd w8 3 (some ⟨w7.heap.size, 0, none⟩) 1 (cqC (xa, (YA, yc, yb), xg)) := Rd.of_blk (n := 1) (size := 3) hF8.blk rfl
  have hlt7 := ho.lt
  have ho := ho.frm hF8.frm jp
  have hq := hq.frm hF8.frm
  have ho8 := ho7.frm hF8.frm jp
  have K := K.trans hF8.frm jp
  have ks8 := K.size
  refine Ops.m (qZ.app rfl rfl zan (qWn) rfl jd ho hr8 (lJ _) jo jo) rfl ?_
  rintro _ w9 ⟨B9, d9, rfl, ho9, hf9, hob9⟩
  have k9 : Fk (ob B) w8 w9 (ob B9) := Fk.of_app hf9 hob9
  have e9 : ls.flatMap cqC ++ cqC (xa, (YA, yc, yb), xg) = (ls ++ [(xa, (YA, yc, yb), xg)]).flatMap cqC := jp
  rw [e9] at ho9
  have hYB : ∀ y ∈ ob YA, y ∉ ob B := fun y hy h => by have := hwl y h; have := hupY y hy; have := K3.size; omega
  have hYl8 := ho8.lt
  have hq9 := (hq.fk k9).snoc (x := (xa, (YA, yc, yb), xg)) (ho8.frm hf9 hYB) (fun y hy => ⟨⟨⟨zz (hYl8 y hy) hf9.size, k9.out (hYl8 y hy) (hYB y hy)⟩, by have := hupY y hy; omega⟩, fun z hz hyz => by have := hql z hz y hyz; have := hupY y hy; omega⟩)
  refine ja rfl (jO ?_)
  refine qH (jN ?_)
  refine jv3 0 3 4 ?_
  refine jR (jm rfl (jb rfl rfl (Bin.add_i64 _ 1 jo) (ja rfl (jO ?_))))
  refine jN ⟨(i + 1, B9, d9, ls ++ [(xa, (YA, yc, yb), xg)]), (js3 rfl (by rw [zd]; rfl) rfl), ?_, ?_⟩
  · exact ⟨hc2, by dsimp only; rw [zd]; exact ho9, hq9, by dsimp only; rw [hsn, ← hch, chL, zy]; rfl, K.own hf9 hup, k9.up hup ks8, by dsimp only; rw [zd, hll]; rfl⟩
  first | omega | (dsimp only; omega)
 refine jX ?_
 refine qJ (qJ (qT ?_))
 refine jN (jv1 3 ?_)
 refine jS (jR (jm rfl (ja rfl (jO (jN (jv1 2 ?_))))))
 refine jT ?_
 refine qB rfl ?_
 obtain rfl : i = n := jo
 rw [zf (jo : l.length ≤ i), hfe] at hch
 exact ⟨B, d, ls, rfl, ho, hq, hch, K, hup⟩
end
section
open Go.RowKit
abbrev Bq := Nat × List Nat
def bq0 : Bq := (0, [])
def bqC (x : Bq) : List Value := [.int .u64 ((x.1 : Nat) : Int), .string (nQ x.2), .slice none 0 0, .int .u32 0]
theorem qV5 (x : Bq) : (bqC x).length = 4 := rfl
theorem qQ9 (x : Bq) : ∀ u ∈ bqC x, u.oneCell' = true := by
 intro u hu
 simp only [bqC, zx, zaf, or_false] at hu
 rcases hu with rfl | rfl | rfl | rfl <;> rfl
structure RdB (w : World) (S : Option Addr) (n : Nat) (l : List Bq) : Prop where
 len : l.length = n
 rd : Rd w 4 S n (l.flatMap bqC)
 num : ∀ x ∈ l, x.1 < 18446744073709551616 ∧ ∀ b ∈ x.2, b < 256
theorem RdB.frm {w w' : World} {S : Option Addr} {n : Nat} {l : List Bq} (h : RdB w S n l) (k : Frm [] w w') : RdB w' S n l := ⟨h.len, h.rd.frm k jp, h.num⟩
theorem RdB.cell {w : World} {S : Option Addr} {n : Nat} {l : List Bq} (h : RdB w S n l) {k : Nat} (hk : k < n) : ∃ ad, S = some ad ∧ ∀ j v, (bqC (l.getD k bq0))[j]? = some v → w.cell? ((ad.add (k * 4)).add j) = some v := rdF bqC 4 qV5 h.rd h.len hk bq0
theorem qJl {l : List Bq} {i : Nat} (h : i < l.length) : l.getD i bq0 ∈ l := by
 rw [zc, zb h]
 exact zbe h
theorem qV6 {l : List Bq} {i : Nat} (h : i < l.length) : l.take (i + 1) = l.take i ++ [l.getD i bq0] := by
 rw [zbs, zb h, zc, zb h]
 rfl
theorem qK1 {a b : List Nat} (ha : ∀ x ∈ a, x < 256) (hb : ∀ x ∈ b, x < 256) : (nQ a).data.toList = (nQ b).data.toList ↔ a = b := ⟨yZ ha hb, fun h => by rw [h]⟩
def uJ (H : Hm) (l : List Bq) : Prop := ∀ x ∈ l, eZ H x.1 = (0, x.2)
theorem qV7 {H : Hm} (hk : H.dk.ok) (ho : H.ok) (id : Nat) : ∀ b ∈ (eZ H id).2, b < 256 := by
 unfold eZ
 split
 · intro b hb; cases hb
 next hid =>
 split
 · intro b hb; cases hb
 dsimp only
 split
 ·
  intro b hb
  have h1 := tI ho.srt (Classical.not_not.1 hid)
  have h2 := (ho.pg _ h1.2.1).1
  rw [h1.2.2] at h2
  exact yB H hk _ h2 b (zn hb)
 intro b hb; cases hb
set_option maxHeartbeats 1000000 in
theorem kH (S : Option Addr) (n c : Nat) (l : List Bq) (h g : Nat) (F : List Nat) (H : Hm) (q : HtQ) (w : World) (hH : IsHt w h g F H q) (hn : n ≤ 1000000) (hr : RdB w S n l) :
  Calls Tryz.prog 13 #[.pointer (some ⟨h, 0, none⟩), .slice S n c] w fun e w' => Frm [] w w' ∧ ∃ b, e = .returned (.bool b) ∧ (uJ H l → H.pairs.length = l.length → b = true) := by
 have hln := hr.len
 have K0 := Frm.refl [] w
 have h600 := hH.ok.n600
 refine VC.calls (nt := 42) (res := #[.tmp 4]) Tryz.func13 rfl Tryz.ntmps13 Tryz.results13 rfl ?_
 refine jS (jR (ja rfl (jO (jN (jv2 0 1 ?_)))))
 refine jS (jS (jR (jz 0 (jO (jN (jB ?_))))))
 refine VC.loop (σ := Nat) (fun s => [(0, .pointer (some ⟨h, 0, none⟩)), (1, .slice S n c), (5, .int .i64 ((s : Nat) : Int))]) (fun s wr => s ≤ n ∧ Frm [] w wr) (fun s => n - s) 0 (js3 rfl rfl rfl) ⟨zg _, K0⟩ ?_
 rintro i wr ⟨hi, K⟩
 refine jS (jS (jR (jm rfl (jm rfl (je (Run.lenS rfl zcj) (jb rfl rfl (Bin.lssN _ _) (jO (jN (jv4 0 1 5 11 ?_)))))))))
 refine jD rfl (fun hc1 => ?_) fun hc1 => ?_
 ·
  obtain ⟨ad, hS, hel⟩ := (hr.frm K).cell hc1
  subst hS
  have hmem := qJl (jo : i < l.length)
  have hxn := hr.num _ hmem
  generalize hxe : l.getD i bq0 = x at hel hxn hmem
  obtain ⟨xk, xb⟩ := x
  dsimp only at hxn
  have helw : ∀ V, Frm [] wr V → ∀ j v, (bqC (xk, xb))[j]? = some v → V.cell? ((ad.add (i * 4)).add j) = some v := fun V hV => by
   obtain ⟨ad2, he, h2⟩ := ((hr.frm K).frm hV).cell hc1
   cases he
   rw [hxe] at h2
   exact h2
  refine jQ (jN (jv3 0 1 5 ?_))
  refine jS (jB (jS (jR (jm rfl (jm rfl (jm rfl (je (Run.indexS _ rfl rfl zcj zei jo) (jf rfl zfz rfl zaa (jl rfl zas (hel 0 _ rfl) ?_)))))))))
  refine Ops.cl (jE2 Tryz.call22) (wZ xk h g F H q wr (hH.frm K) hxn.1) rfl ?_
  rintro e w2 ⟨GB, gd, rfl, hrG, hf2, hupG⟩
  refine ⟨_, rfl, ?_⟩
  have K := K.trans hf2 jp
  have hgl := qV7 (hH.dk.ok) hH.ok xk
  have hgm : uJ H l → eZ H xk = (0, xb) := fun hm => hm _ hmem
  generalize eZ H xk = gv at *
  obtain ⟨ge, gb⟩ := gv
  dsimp only at hrG hgl ⊢
  have hsi := qK1 hgl hxn.2
  refine jm rfl (je (Run.extract rfl rfl) (je (Run.extract rfl rfl) (ja rfl (ja rfl (jO (jN (jv5 0 1 5 6 7 ?_)))))))
  refine jS ?_
  refine VC.splitR [(0, .pointer (some ⟨h, 0, none⟩)), (1, .slice (some ad) n c), (5, .int .i64 ((i : Nat) : Int))] (qV w2) 35 (.bool (decide (¬ (gb = xb ∧ ge = 0)))) ?_ ?_
  ·
   refine VC.still jK jK ?_
   refine qM ?_
   refine qE (Run.strOf rfl ze zaz zdr (rdU (hrG.drawn (qV.drew _)) hgl)) ?_
   refine qM ?_
   refine qM ?_
   refine qE (Run.indexS _ rfl rfl zcj zei jo) ?_
   refine qE (Run.fieldAddr rfl zfz rfl Tryz.sizeOf9 jd) ?_
   refine qE (Run.load rfl Tryz.isAgg9 (helw _ (hf2.drawn (qV.drew _)) 1 _ rfl)) ?_
   refine qE (Run.neqStr rfl rfl) ?_
   by_cases hs31 : ¬ (nQ gb).data.toList = (nQ xb).data.toList
   ·
    refine qM ?_
    refine qU ?_
    refine qU ?_
    refine qE (Run.pickT rfl rfl au) ?_
    refine bJ.nil ?_
    refine jN ⟨(js4 (jC (by simp only [hsi] at *; grind)) rfl rfl rfl), (qV.drew _)⟩
   refine qM ?_
   refine qG (Run.mv rfl) ?_
   refine qG (Run.bin rfl rfl (Bin.neqN _ 0)) ?_
   by_cases hs34 : ¬ ge = 0
   ·
    refine qE (Run.pickF rfl rfl au) ?_
    refine bJ.nil ?_
    refine jN ⟨(js4 (jC (by simp only [hsi] at *; grind)) rfl rfl rfl), (qV.drew _)⟩
   refine qE (Run.pickF rfl rfl au) ?_
   refine bJ.nil ?_
   refine jN ⟨(js4 (jC (by simp only [hsi] at *; grind)) rfl rfl rfl), (qV.drew _)⟩
  intro Γ w9 hΓ hd9
  refine jN (VC.sub _ hΓ ?_)
  refine jD rfl (fun hc2 => ?_) fun hc2 => ?_
  ·
   have hbad : ¬ uJ H l := fun hm => hc2 ⟨congrArg (·.2) (hgm hm), congrArg (·.1) (hgm hm)⟩
   refine jS (jR (ja rfl (jO (jN (jv1 4 ?_)))))
   refine jT ?_
   refine qO (qP (qP (qO (qP (qB rfl ?_)))))
   exact ⟨K.drawn hd9, _, rfl, fun hm _ => absurd hm hbad⟩
  refine jQ ?_
  refine qH (jN ?_)
  refine jv3 0 1 5 ?_
  refine jR (jm rfl (jb rfl rfl (Bin.add_i64 _ 1 jo) (ja rfl (jO ?_))))
  refine jN ⟨i + 1, (js3 rfl rfl rfl), ?_, ?_⟩
  · exact ⟨hc1, K.drawn hd9⟩
  first | omega | (dsimp only; omega)
 refine jX ?_
 refine qJ (qJ (qT ?_))
 refine jN (jv2 0 1 ?_)
 refine jS (jR (jM ?_))
 refine Ops.cl (jE1 Tryz.call50) (qJb h g F H q wr (hH.frm K)) rfl ?_
 rintro e w3 ⟨IB, id, rfl, hoI, hf3, hupI⟩
 refine ⟨_, rfl, ?_⟩
 have K := K.trans hf3 jp
 refine je (Run.lenS rfl zch) (jm rfl (je (Run.lenS rfl zcj) (jb rfl rfl (Bin.eqlN _ _) (ja rfl (jO (jN (jv1 4 ?_)))))))
 refine jT ?_
 refine qB rfl ?_
 exact ⟨K, _, rfl, fun _ hl => decide_eq_true (by rw [hl, hln])⟩
end
section
open Go.RowKit
def mI (l : List Bq) (c : Ch) : List Bq := (l.filter fun x => decide (x.1 ≠ c.1)) ++ if c.2.2 then [] else [(c.1, c.2.1)]
def jP (l : List Bq) (cs : List Ch) : List Bq := cs.foldl mI l
theorem qJm (l : List Bq) (cs : List Ch) (c : Ch) : jP l (cs ++ [c]) = mI (jP l cs) c := by unfold jP; rw [zed]; rfl
theorem qQh {p : Bq → Bool} {l : List Bq} {i : Nat} (h : i < l.length) : (l.take (i + 1)).filter p = (l.take i).filter p ++ if p (l.getD i bq0) then [l.getD i bq0] else [] := by
 rw [qV6 h, zdy]
 congr 1
 by_cases hp : p (l.getD i bq0)
 · rw [if_pos hp, zeq hp]; rfl
 rw [if_neg hp, zdp hp]; rfl
set_option maxHeartbeats 1000000 in
theorem wW (S SC : Option Addr) (n c nc cc : Nat) (l : List Bq) (cs : List Cq) (w : World) (hn : n ≤ 1000000) (hnc : nc ≤ 100000) (hr : RdB w S n l) (hrc : RdC w SC nc cs) :
  Calls Tryz.prog 11 #[.slice S n c, .slice SC nc cc] w fun e w' => ∃ B m d, e = .returned (.slice B m d) ∧ RdB w' B m (jP l (chL cs)) ∧ Frm [] w w' ∧ ∀ y ∈ ob B, y ∈ ob S ∨ (w.heap.size ≤ y ∧ y < w'.heap.size) := by
 have hln := hrc.len
 have hll := hr.len
 have K0 := Frm.refl [] w
 refine VC.calls (nt := 61) (res := #[.tmp 4]) Tryz.func11 rfl Tryz.ntmps11 Tryz.results11 rfl ?_
 refine jS (jR (ja rfl (jO (jN (jv2 0 1 ?_)))))
 refine jS (jS (jR (jz 0 (jO (jN (jB ?_))))))
 refine VC.loop (σ := Nat × Option Addr × Nat × Nat × List Bq) (fun s => [(0, .slice s.2.1 s.2.2.1 s.2.2.2.1), (1, .slice SC nc cc), (5, .int .i64 ((s.1 : Nat) : Int))]) (fun s wr => s.1 ≤ nc ∧ RdB wr s.2.1 s.2.2.1 s.2.2.2.2 ∧ s.2.2.2.2 = jP l (chL (cs.take s.1)) ∧ Frm [] w wr ∧ s.2.2.1 ≤ n + s.1 ∧ ∀ y ∈ ob s.2.1, y ∈ ob S ∨ (w.heap.size ≤ y ∧ y < wr.heap.size)) (fun s => nc - s.1) (0, S, n, c, l) (js3 rfl rfl rfl) ⟨zg _, hr, rfl, K0, zp _, fun y hy => .inl hy⟩ ?_
 rintro ⟨i, A, m, ca, ls⟩ wr0 ⟨hi, hA, hls, K, hm, hAo⟩
 dsimp only at hi hA hls hm hAo ⊢
 have hAl := hA.len
 refine jS (jS (jR (jm rfl (jm rfl (je (Run.lenS rfl zan) (jb rfl rfl (Bin.lssN _ _) (jO (jN (jv4 0 1 5 11 ?_)))))))))
 refine jD rfl (fun hc1 => ?_) fun hc1 => ?_
 ·
  have hcm := lL (jo : i < cs.length)
  have hcn := hrc.num _ hcm
  have hco := hrc.oct _ hcm
  have hce := hrc.el _ hcm
  have hcs := kV (jo : i < cs.length)
  obtain ⟨adc, hSC, -⟩ := (hrc.frm K).cell hc1
  have helc : ∀ V, Frm [] w V → ∀ j v, (cqC (cs.getD i cq0))[j]? = some v → V.cell? ((adc.add (i * 3)).add j) = some v := fun V hV => by
   obtain ⟨ad2, he, h2⟩ := (hrc.frm hV).cell hc1
   rw [hSC] at he
   cases he
   exact h2
  subst hSC
  generalize cs.getD i cq0 = x at helc hcn hco hce hcs
  obtain ⟨xa, ⟨xA, xc, xb⟩, xg⟩ := x
  dsimp only [chO] at hcn hco hce hcs
  refine jQ (jN (jv3 0 1 5 ?_))
  refine jS (jB (jS (jR (ja rfl (jO (jN (jS (jS (jR (jz 0 (jO (jN (jB ?_)))))))))))))
  refine VC.loop (σ := Nat × Option Addr × Nat × List Bq) (fun s => [(0, .slice A m ca), (1, .slice (some adc) nc cc), (5, .int .i64 ((i : Nat) : Int)), (6, .slice s.2.1 s.2.2.2.length s.2.2.1), (7, .int .i64 ((s.1 : Nat) : Int))]) (fun s wr => s.1 ≤ m ∧ Own wr 111 4 s.2.1 s.2.2.2.length s.2.2.1 (s.2.2.2.flatMap bqC) ∧ s.2.2.2 = (ls.take s.1).filter (fun x => decide (x.1 ≠ xa)) ∧ Frm [] wr0 wr ∧ ∀ y ∈ ob s.2.1, wr0.heap.size ≤ y) (fun s => m - s.1) (0, none, 0, []) (js5 rfl rfl rfl rfl rfl) ⟨zg _, Own.nil _ _ _, rfl, Frm.refl _ _, by simp [ob]⟩ ?_
  rintro ⟨k, B, d, os⟩ wr ⟨hk, ho, hos, K1, hup⟩
  dsimp only at hk ho hos hup ⊢
  have ks1 := K1.size
  have hol : os.length ≤ k := by rw [hos]; have := zdh (fun x : Bq => decide (x.1 ≠ xa)) (ls.take k); rw [zi] at this; omega
  refine jS (jS (jR (jm rfl (jm rfl (je (Run.lenS rfl zcj) (jb rfl rfl (Bin.lssN _ _) (jO (jN (jv6 0 1 5 6 7 17 ?_)))))))))
  refine jD rfl (fun hc2 => ?_) fun hc2 => ?_
  ·
   obtain ⟨adb, hAA, -⟩ := (hA.frm K1).cell hc2
   have helb : ∀ V, Frm [] wr0 V → ∀ j v, (bqC (ls.getD k bq0))[j]? = some v → V.cell? ((adb.add (k * 4)).add j) = some v := fun V hV => by
    obtain ⟨ad2, he, h2⟩ := (hA.frm hV).cell hc2
    rw [hAA] at he
    cases he
    exact h2
   subst hAA
   have hyn := (hA.num _ (qJl (jo : k < ls.length))).1
   have hfs := qQh (p := fun x => decide (x.1 ≠ xa)) (jo : k < ls.length)
   generalize ls.getD k bq0 = y at helb hyn hfs
   obtain ⟨yk, yb⟩ := y
   dsimp only at hyn
   have hd := qV.drew wr
   have K1d := K1.drawn hd
   have hod := ho.drawn hd
   refine jQ (jN (jv5 0 1 5 6 7 ?_))
   refine jS (jB (jS ?_))
   refine VC.still jK jK ?_
   refine qM ?_
   refine qM ?_
   refine qE (Run.indexS _ rfl rfl zcj zei jo) ?_
   refine qE (Run.fieldAddr rfl zfz rfl zaa jd) ?_
   refine qE (Run.load rfl zas (helb _ K1d 0 _ rfl)) ?_
   refine qM ?_
   refine qM ?_
   refine qE (Run.indexS _ rfl rfl zan zba jo) ?_
   refine qE (Run.fieldAddr rfl zac rfl zaa jd) ?_
   refine qE (Run.load rfl zas (helc _ (K.trans K1d jp) 0 _ rfl)) ?_
   refine qE (Run.bin rfl rfl (Bin.neqN _ _)) ?_
   refine bJ.nil ?_
   refine jN (jv6 0 1 5 6 7 30 ?_)
   refine jD rfl (fun hc3 => ?_) fun hc3 => ?_
   ·
    rw [if_pos (decide_eq_true hc3)] at hfs
    refine jR (jm rfl (jm rfl (jm rfl (je (Run.indexS _ rfl rfl zcj zei jo) (je (Run.loadA rfl Tryz.isAgg111 zei (helb _ K1d) (by first | rfl | (simp; done))) ?_)))))
    refine Ops.m (qZ.buildS1 rfl zcj zei uH jd jd rfl rfl) rfl ?_
    rintro _ w5 ⟨rfl, hF5⟩
    have hr5 : Rd w5 4 (some ⟨wr.drew.heap.size, 0, none⟩) 1 (bqC (yk, yb)) := Rd.of_blk (n := 1) (size := 4) hF5.blk rfl
    have hod := hod.frm hF5.frm jp
    have K1d := K1d.trans hF5.frm jp
    have ks5 := K1d.size
    refine Ops.m (qZ.app rfl rfl zcj (qQo) rfl jd hod hr5 (qQ9 _) jo jo) rfl ?_
    rintro _ w6 ⟨B6, d6, rfl, ho6, hf6, hob6⟩
    have e6 : os.flatMap bqC ++ bqC (yk, yb) = (os ++ [(yk, yb)]).flatMap bqC := jp
    rw [e6] at ho6
    refine ja rfl (jO ?_)
    refine qH (jN ?_)
    refine jv5 0 1 5 6 7 ?_
    refine jR (jm rfl (jb rfl rfl (Bin.add_i64 _ 1 jo) (ja rfl (jO ?_))))
    refine jN ⟨(k + 1, B6, d6, os ++ [(yk, yb)]), (js5 rfl rfl rfl (by rw [zd]; rfl) rfl), ?_, ?_⟩
    · exact ⟨hc2, by dsimp only; rw [zd]; exact ho6, by dsimp only; rw [hfs, hos], K1d.own hf6 hup, (Fk.of_app hf6 hob6).up hup ks5⟩
    first | omega | (dsimp only; omega)
   rw [if_neg (by simpa using hc3), zbg] at hfs
   refine jQ ?_
   refine qH (jN ?_)
   refine jv5 0 1 5 6 7 ?_
   refine jR (jm rfl (jb rfl rfl (Bin.add_i64 _ 1 jo) (ja rfl (jO ?_))))
   refine jN ⟨(k + 1, B, d, os), (js5 rfl rfl rfl rfl rfl), ?_, ?_⟩
   · exact ⟨hc2, hod, by dsimp only; rw [hfs, hos], K1d, hup⟩
   first | omega | (dsimp only; omega)
  refine jX ?_
  refine qJ (qJ (qT ?_))
  refine jN (jv3 1 5 6 ?_)
  refine jS (jR (jM ?_))
  have hkm : k = m := jo
  rw [hkm, zf (jo : ls.length ≤ m)] at hos
  have Kw := K.trans K1 jp
  have hst : jP l (chL (cs.take (i + 1))) = os ++ if xg then [] else [(xa, xb)] := by rw [hcs, qJm, ← hls, hos]; rfl
  have hosn : ∀ z ∈ os, z.1 < 18446744073709551616 ∧ ∀ b ∈ z.2, b < 256 := fun z hz => by rw [hos] at hz; exact hA.num z (List.mem_filter.1 hz).1
  have hupw : ∀ y ∈ ob B, w.heap.size ≤ y := fun y hy => by have := hup y hy; have := K.size; omega
  refine ja rfl (jO (jN (jv3 0 1 5 ?_)))
  refine jS (jR (jm rfl (jm rfl (je (Run.indexS _ rfl rfl zan zba jo) (jf rfl zac rfl zbu (jl rfl zds (helc _ Kw 2 _ rfl) (je (Run.not rfl) (jO (jN (jv4 0 1 5 44 ?_))))))))))
  refine VC.condB rfl (fun hc4 => ?_) (fun hc4 => ?_)
  ·
   have hgg : xg = false := by simpa using hc4
   rw [if_neg (by simp [hgg])] at hst
   refine VC.held (fun V => Frm (ob B) wr V) jK ?_
   have hS : Frm (ob B) wr wr.drew := (Frm.refl _ _).drew
   have hrx : ∀ V, Frm (ob B) wr V → Rd V 1 xA xb.length (U8 (xb.map UInt8.ofNat)) := fun V hV => rdU (hce.1.frm (Kw.own hV hupw) jp) hco
   refine jH 0 rfl hS (fun w0 hw0 => Run.mv rfl) ?_
   refine jH 1 rfl hS (fun w0 hw0 => Run.mv rfl) ?_
   refine jH 2 rfl hS (fun w0 hw0 => Run.mv rfl) ?_
   refine jH 3 rfl hS (fun w0 hw0 => Run.indexS _ rfl rfl zan zba jo) ?_
   refine jH 4 rfl hS (fun w0 hw0 => Run.fieldAddr rfl zac rfl zaa jd) ?_
   refine jH 5 rfl hS (fun w0 hw0 => Run.load rfl zas (helc w0 (Kw.own hw0 hupw) 0 _ rfl)) ?_
   refine jH 6 rfl hS (fun w0 hw0 => Run.mv rfl) ?_
   refine jH 7 rfl hS (fun w0 hw0 => Run.mv rfl) ?_
   refine jH 8 rfl hS (fun w0 hw0 => Run.indexS _ rfl rfl zan zba jo) ?_
   refine jH 9 rfl hS (fun w0 hw0 => Run.fieldAddr rfl zac rfl zr jd) ?_
   refine jH 10 rfl hS (fun w0 hw0 => Run.load rfl zal (helc w0 (Kw.own hw0 hupw) 1 _ rfl)) ?_
   refine jH 11 rfl hS (fun w0 hw0 => Run.strOf rfl ze zaz zdr (hrx w0 hw0)) ?_
   refine jH 12 rfl hS (fun w0 hw0 => Run.build (evs.cons rfl (evs.cons rfl evs.nil)) uH (vZ).choose_spec.1 (vZ).choose_spec.2 (cells := (bqC (xa, xb)).toArray) rfl) ?_
   refine qQ.m 13 rfl jK (qZ.buildS1 rfl zcj zei uH jd jd rfl rfl) trivial rfl rfl ?_
   rintro _ w5 ⟨rfl, hF5⟩
   have hS := hS.trans hF5.frm jp
   refine ⟨hS, ?_⟩
   have hr5 : Rd w5 4 (some ⟨wr.drew.heap.size, 0, none⟩) 1 (bqC (xa, xb)) := Rd.of_blk (n := 1) (size := 4) hF5.blk rfl
   have ho := (ho.drawn (qV.drew _)).frm hF5.frm jp
   refine qQ.m 14 rfl jK (qZ.app rfl rfl zcj (qQo) rfl jd ho hr5 (qQ9 _) jo jo) trivial rfl rfl ?_
   rintro _ w6 ⟨B6, d6, rfl, ho6, hf6, hob6⟩
   have ks5 := (Kw.own hS hupw).size
   have hS := hS.trans hf6 (fun y hy => .inl hy)
   refine ⟨hS, ?_⟩
   have e6 : os.flatMap bqC ++ bqC (xa, xb) = (os ++ [(xa, xb)]).flatMap bqC := jp
   rw [e6] at ho6
   refine jH 15 rfl hS (fun w0 hw0 => Run.asg rfl) ?_
   refine qQ.done jK ?_
   refine qH (jN ?_)
   refine jv3 0 1 5 ?_
   refine jR (jm rfl (jb rfl rfl (Bin.add_i64 _ 1 jo) (ja rfl (jO ?_))))
   refine jN ⟨(i + 1, B6, os.length + 1, d6, os ++ [(xa, xb)]), (js3 rfl rfl rfl), ?_, ?_⟩
   ·
    exact ⟨hc1, ⟨jp, ho6.rd, fun z hz => by
     rcases zcb.1 hz with hz | hz
     · exact hosn z hz
     rw [za] at hz; subst hz; exact ⟨hcn.1, hco⟩⟩, hst.symm, Kw.own hS hupw, by dsimp only; omega, fun y hy => .inr ⟨(Fk.of_app hf6 hob6).up hupw ks5 y hy, ho6.lt y hy⟩⟩
   first | omega | (dsimp only; omega)
  have hgg : xg = true := by simpa using hc4
  rw [if_pos hgg, zbg] at hst
  refine jQ ?_
  refine qH (jN ?_)
  refine jv3 0 1 5 ?_
  refine jR (jm rfl (jb rfl rfl (Bin.add_i64 _ 1 jo) (ja rfl (jO ?_))))
  refine jN ⟨(i + 1, B, os.length, d, os), (js3 rfl rfl rfl), ?_, ?_⟩
  · exact ⟨hc1, ⟨rfl, ho.rd, hosn⟩, hst.symm, Kw, by dsimp only; omega, fun y hy => .inr ⟨hupw y hy, ho.lt y hy⟩⟩
  first | omega | (dsimp only; omega)
 refine jX ?_
 refine qJ (qJ (qT ?_))
 refine jN (jv1 0 ?_)
 refine jS (jR (jm rfl (ja rfl (jO (jN (jv1 4 ?_))))))
 refine jT ?_
 refine qB rfl ?_
 obtain rfl : i = nc := jo
 rw [zf (jo : cs.length ≤ i)] at hls
 exact ⟨A, m, ca, rfl, by rw [← hls]; exact hA, K, hAo⟩
end
section
open Go.RowKit
theorem wY {H : Hm} {B : Nat → List Nat} {l : List Ch} (h : InvH H B) (h0 : (qN H l).1 = 0) (hb : ∀ c ∈ l, c.1 < 18446744073709551616 ∧ ∀ b ∈ c.2.1, b < 256) :
  (qN H l).2.dir = ((bG H.N H.used).take (bQ H l)).drop (sumN l) ∧ (∀ x, x ∈ (qN H l).2.pairs ↔ (x ∈ H.pairs ∧ x.1 ∉ l.map (·.1)) ∨ ∃ e ∈ bA l ((bG H.N H.used).take (bQ H l)), x = cW e.1 e.2.1 e.2.2) ∧
   (∀ id, id ∉ l.map (·.1) → (qN H l).2.lies id = H.lies id) ∧ ∀ e ∈ bA l ((bG H.N H.used).take (bQ H l)), (qN H l).2.lies e.1 = e.2.2 := by
 by_cases hm : cX l
 ·
  by_cases hg : cM H l
  ·
   by_cases hn : 600 < cJ H l ∨ 40 < bQ H l + 1
   ·
    have e : qN H l = (5, H) := by unfold qN; rw [if_neg (not_not_intro hm), if_neg (not_not_intro hg), if_pos hn]
    rw [e] at h0; cases h0
   by_cases hf : H.N - cntS H.N H.used < bQ H l
   ·
    have e : qN H l = (5, H) := by unfold qN; rw [if_neg (not_not_intro hm), if_neg (not_not_intro hg), if_neg hn, if_pos hf]
    rw [e] at h0; cases h0
   obtain ⟨s1, s2, s3, s4, s5, s6⟩ := fS h hm hb jo jo jo
   have e : qN H l = (0, (H.plan (qF H.dk (qD H l).puts).2 (qD H l)).count) := by unfold qN; rw [if_neg (not_not_intro hm), if_neg (not_not_intro hg), if_neg hn, if_neg hf, if_neg (not_not_intro s1)]
   rw [e]
   have gz : mC l := fun x hx hg => (hm.2 x hx).2 hg
   have hcl := rU H.N H.used
   have hfl : ((bG H.N H.used).take (bQ H l)).length = bQ H l := by rw [zi, mP]; omega
   have hsn : sumN l ≤ bQ H l := by unfold bQ; omega
   obtain ⟨f1, f2, f3, f4, f5⟩ := mF l ⟨[], H.pairs, (bG H.N H.used).take (bQ H l), H.lies⟩ hm.1 gz (by dsimp only; omega)
   refine ⟨?_, s5, f4, f5⟩
   show (qD H l).dir = _
   have htl : (bZ (qD H l).pairs).length = pagesM (cJ H l) := by
    rw [mS]
    exact congrArg pagesM (uX _ _ _ _)
   have e2 : (qD H l).dir = (bK H l ((bG H.N H.used).take (bQ H l))).free.take (bZ (qD H l).pairs).length := rfl
   rw [e2, show (bK H l ((bG H.N H.used).take (bQ H l))).free = ((bG H.N H.used).take (bQ H l)).drop (sumN l) from f2, zf]
   rw [zj, hfl, htl]
   unfold bQ pagesT
   rw [if_pos jo]
   omega
  have e : qN H l = (6, H) := by unfold qN; rw [if_neg (not_not_intro hm), if_pos hg]
  rw [e] at h0; cases h0
 have e : qN H l = (1, H) := by unfold qN; rw [if_pos hm]
 rw [e] at h0; cases h0
theorem qV8 {H : Hm} {B : Nat → List Nat} (h : InvH H B) : bG H.N H.used = (List.range H.N).filter fun p => decide (p ∉ bD H) := by
 unfold bG
 exact zfb fun p hp => by rw [h.used p (List.mem_range.1 hp)]; simp
theorem qXa {H : Hm} {B : Nat → List Nat} (h : InvH H B) : (List.range H.N).filter H.used = (List.range H.N).filter fun p => decide (p ∈ bD H) :=
 zfb fun p hp => by rw [h.used p (List.mem_range.1 hp)]
end
end Go.Proofs.YtoniopdkbeogjaaGreat
