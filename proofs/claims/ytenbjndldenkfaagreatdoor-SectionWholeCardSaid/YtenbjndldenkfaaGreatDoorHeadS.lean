/-
  The text of a field; a field found.
-/
import Derived.Test.YtenbjndldenkfaaGreatDoorHeadT
namespace Go.Proofs.YtenbjndldenkfaaGreatDoor
open Go.RowKit Go.Sort

theorem slice_slice {q : Tx} {a b c d : Nat} (h : a + d ≤ b) : sliceQ (sliceQ q a b) c d = sliceQ q (a + c) (a + d) := by
  unfold sliceQ
  rw [List.drop_take, List.take_take, List.drop_drop, show a + d - (a + c) = d - c by omega, Nat.min_eq_left (by omega)]
theorem slice_get {q : Tx} {a b j : Nat} (h : j < b - a) : (sliceQ q a b)[j]? = q[a + j]? := by
  unfold sliceQ
  rw [List.getElem?_take, if_pos h, List.getElem?_drop]
theorem bare_yes (t : Tx) : bareL (t ++ [10]) = trim1 13 (trim1 10 (t ++ [10])) := by
  have e : trim1 10 (t ++ [10]) = (t ++ [10]).dropLast := by unfold trim1; rw [List.getLast?_concat, if_pos rfl]
  rw [bare_trim, List.getLast?_concat, if_pos rfl, e]
theorem bare_no {t : Tx} {z : UInt8} (h : z ≠ 10) : bareL (t ++ [z]) = trim1 10 (t ++ [z]) := by
  unfold trim1
  rw [bare_trim, List.getLast?_concat, if_neg (fun e => h (Option.some.inj e)), if_neg (fun e => h (Option.some.inj e))]
def txB (ls : List Tx) : Tx := (ls.map bareL).flatten
theorem txB_snoc (ls : List Tx) (l : Tx) : txB (ls ++ [l]) = txB ls ++ bareL l := by simp [txB]
theorem txB_len (ls : List Tx) : (txB ls).length ≤ ls.flatten.length := flat_map_len bareL_le ls
def TxI (w : World) (q sl : Tx) (f : Fld) (g2 g3 g5 wB : Nat) (A : Option Addr) (c : Nat) (pre : List (Nat × Nat)) (W : World) : Prop :=
  ∃ (ls ls2 : List Tx) (p A2 : Option Addr) (c2 : Nat), linesF sl = ls ++ ls2 ∧ pre = offsF 0 ls ∧ (p = none ∨ p = some (⟨g5, 0, none⟩ : Addr)) ∧ Frm [] w W ∧
    Blk W g2 22 #[.slice A q.length c] ∧ Blk W g3 45 (FC1 f).toArray ∧ Blk W g5 50 #[.pointer p, .slice A2 (txB ls).length c2] ∧ Own W 5 1 A2 (txB ls).length c2 (U8 (txB ls)) ∧ ∀ x ∈ ob A2, wB ≤ x

set_option maxRecDepth 100000 in
theorem text_spec (A : Option Addr) (c : Nat) (q : Tx) (f : Fld) (w : World) (hrd0 : Rd w 1 A q.length (U8 q)) (hq : q.length ≤ 500000) (hc : q.length ≤ c) (hf1 : f.at_ ≤ f.tu) (hf2 : f.tu ≤ q.length) :
    Calls Tryz.prog 90 #[.slice A q.length c, .agg (FC1 f).toArray] w fun e w' => e = .returned (encStr (textQ q f)) ∧ Frm [] w w' := by
  have K := Frm.refl [] w
  refine DV.calls (nt := 54) (res := #[.tmp 4]) Tryz.func90 rfl Tryz.ntmps90 Tryz.results90 rfl ?_
  refine DV.seq ?_
  refine DV.vc ?_
  refine VC.region ?_
  refine Ops.m (Does.box rfl) rfl ?_
  rintro _ w1 ⟨rfl, hF_w1⟩
  have hb2 := hF_w1.blk
  have hs2_K := K.size
  have K := Frm.trans K hF_w1.frm (by simp)
  generalize hg2 : w.heap.size = g2 at hb2 hs2_K ⊢
  refine Ops.m (Does.box rfl) rfl ?_
  rintro _ w2 ⟨rfl, hF_w2⟩
  have hb3 := hF_w2.blk
  have hs3_K := K.size
  have lt_hb2_3 := hb2.lt
  have hb2 := hb2.frm hF_w2.frm (by simp)
  have K := Frm.trans K hF_w2.frm (by simp)
  generalize hg3 : w1.heap.size = g3 at hb3 hs3_K lt_hb2_3 ⊢
  refine Ops.r (Run.asg rfl) rfl ?_
  refine Ops.nil ?_
  refine thenD_n ?_
  refine DV.sub [(2, _), (3, _), (4, _)] (.cons rfl (.cons rfl (.cons rfl .nil))) ?_
  refine DV.seq ?_
  refine DV.vc ?_
  refine VC.region ?_
  refine Ops.m (Does.alloc zero50) rfl ?_
  rintro _ w3 ⟨rfl, hF_w3⟩
  have hb5 := hF_w3.blk
  have hs5_K := K.size
  have lt_hb2_5 := hb2.lt
  have lt_hb3_5 := hb3.lt
  have hb2 := hb2.frm hF_w3.frm (by simp)
  have hb3 := hb3.frm hF_w3.frm (by simp)
  have K := Frm.trans K hF_w3.frm (by simp)
  generalize hg5 : w2.heap.size = g5 at hb5 hs5_K lt_hb2_5 lt_hb3_5 ⊢
  refine Ops.nil ?_
  refine thenD_n ?_
  refine DV.seq ?_
  refine DV.seq ?_
  refine DV.vc ?_
  refine VC.region ?_
  refine Ops.r (Run.load rfl Tryz.isAgg22 (hb2.cell 0)) rfl ?_
  refine Ops.r (Run.fieldAddr rfl Tryz.underlying45 rfl Tryz.sizeOf3 (by decide)) rfl ?_
  refine Ops.r (Run.load rfl Tryz.isAgg3 (hb3.cell 3)) rfl ?_
  refine Ops.r (Run.fieldAddr rfl Tryz.underlying45 rfl Tryz.sizeOf3 (by decide)) rfl ?_
  refine Ops.r (Run.load rfl Tryz.isAgg3 (hb3.cell 2)) rfl ?_
  refine Ops.r (Run.sliceS f.at_ f.tu rfl Tryz.underlying22 Tryz.sizeOf5 (evB.some_ rfl) (evB.some_ rfl) hf1 (by omega)) rfl ?_
  rw [show f.tu - f.at_ = (sliceQ q f.at_ f.tu).length from (sliceQ_len hf2).symm]
  refine Ops.cl (Enters.fn (evs.cons rfl evs.nil) Tryz.call50) (hlines_spec (cutA A c f.at_ 1) (sliceQ q f.at_ f.tu).length (c - f.at_) _) rfl ?_
  rintro e w4 ⟨hf_w4, gl, rfl, hpl, hgl, hgl2⟩
  have l2 := hb2.lt
  have l3 := hb3.lt
  have l5 := hb5.lt
  refine ⟨_, rfl, ?_⟩
  have hb2 := hb2.frm hf_w4 (by simp)
  have hb3 := hb3.frm hf_w4 (by simp)
  have hb5 := hb5.frm hf_w4 (by simp)
  have K := Frm.trans K hf_w4 (by simp)
  have hA : 0 < q.length → ∀ x ∈ ob A, x < w.heap.size := fun hn => hrd0.lt hn
  have hsll := sliceQ_len (a := f.at_) hf2
  have hrh : Rd w 1 (cutA A c f.at_ 1) (sliceQ q f.at_ f.tu).length (U8 (sliceQ q f.at_ f.tu)) := U8_cut hrd0 hf1 hf2 hc
  have hAh : ∀ x ∈ obN (cutA A c f.at_ 1) (sliceQ q f.at_ f.tu).length, x < w.heap.size := fun x hx => by
    obtain ⟨hn, hx2⟩ := obN_mem hx
    rw [ob_cutA] at hx2
    exact hA (by omega) x hx2
  generalize hsl0 : sliceQ q f.at_ f.tu = sl at *
  refine Ops.nil ?_
  refine thenD_n ?_
  refine DV.sub [(2, _), (3, _), (4, _), (5, _), (15, _)] (.cons rfl (.cons rfl (.cons rfl (.cons rfl (.cons rfl .nil))))) ?_
  refine DV.block ?_
  have hKs := K.size
  refine DV.range (ps := [16, 17]) (fun x : Nat × Nat => [.int .i64 ((x.1 : Nat) : Int), .int .i64 ((x.2 : Nat) : Int)]) (hlines_iter sl (cutA A c f.at_ 1) (c - f.at_) gl (by omega) (by omega)) rfl Tryz.call86 (fun _ => rfl) rfl (TxI w q sl f g2 g3 g5 w4.heap.size A c) (fun _ _ _ => False) (fun x => [(2, .pointer (some ⟨g2, 0, none⟩)), (3, .pointer (some ⟨g3, 0, none⟩)), (5, .pointer (some ⟨g5, 0, none⟩)), (6, .int .i64 ((x.1 : Nat) : Int)), (7, .int .i64 ((x.2 : Nat) : Int))]) ?_ ?_ ?_ ?_ ?_ ?_ ?_ ?_ ?_ ?_ ?_
  · skip
    rintro pre W W' S ⟨ls, ls2, p, A2, c2, h1, h2, h3, h4, h5, h6, h7, h8, h9⟩ hf hS
    exact ⟨ls, ls2, p, A2, c2, h1, h2, h3, h4.nc hf hS (by simp) K.size, h5.frm hf (h5.nc hS (by simp)), h6.frm hf (h6.nc hS (by simp)), h7.frm hf (h7.nc hS (by simp)), h8.frm hf (h8.nc hS (by simp)), h9⟩
  · skip
    exact fun _ _ _ _ _ h => h.elim
  · skip
    exact fun W hf => ⟨hpl.frm hf (by simp), (hrh.frm K (by simp)).frm hf (by simp)⟩
  · skip
    simp
  · skip
    intro b hb
    simp only [List.mem_cons] at hb
    rcases hb with rfl | hb
    · exact hgl2
    · have := hAh b hb; omega
  · skip
    exact ⟨[], linesF sl, none, none, 0, rfl, rfl, .inl rfl, K, hb2, hb3, hb5, Own.nil _ _ _, by simp [ob]⟩
  · intro l x W
    refine VC.sub [(2, _), (3, _), (5, _), (16, _), (17, _)] (.cons rfl (.cons rfl (.cons rfl (.cons rfl (.cons rfl .nil))))) ?_
    refine VC.seq ?_
    refine VC.region ?_
    refine Ops.r (Run.asg rfl) rfl ?_
    refine Ops.nil ?_
    refine thenQ_n ?_
    refine VC.sub [(2, _), (3, _), (5, _), (6, _), (17, _)] (.cons rfl (.cons rfl (.cons rfl (.cons rfl (.cons rfl .nil))))) ?_
    refine VC.region ?_
    refine Ops.r (Run.asg rfl) rfl ?_
    refine Ops.nil ?_
    refine thenQ_n ⟨rfl, (.cons rfl (.cons rfl (.cons rfl (.cons rfl (.cons rfl .nil)))))⟩
  · skip
    rintro l pre x W ⟨ls, ls2, p, A2, c2, hls, hpr, hp, K, hb2, hb3, hb5, hO, hub⟩ hpre hsz hmk
    obtain ⟨ll, rest, hl2, hx, hpe, hnl, hsl, hx1, hx2, hne, hxe⟩ := lines_next hls hpr hpre
    have hll : x.2 - x.1 = ll.length := by rw [hx]; dsimp only; omega
    have hx1e : x.1 = ls.flatten.length := by rw [hx]
    have hbsl := txB_len ls
    have hslq : sliceQ q (f.at_ + x.1) (f.at_ + x.2) = ll := by rw [← hsl, ← hsl0, slice_slice (by omega)]
    have hrq := hrd0.frm K (by simp)
    have hcut : Rd W 1 (cutA A c (f.at_ + x.1) 1) (f.at_ + x.2 - (f.at_ + x.1)) (U8 ll) := by
      have := U8_cutN hrq (show f.at_ + x.1 ≤ f.at_ + x.2 by omega) (by omega) hc
      rwa [hslq] at this
    obtain ⟨t, zl, rfl⟩ : ∃ t zl, ll = t ++ [zl] := by
      rcases List.eq_nil_or_concat ll with h | ⟨t, z, h⟩
      · exact absurd h hne
      · exact ⟨t, z, by rw [h, List.concat_eq_append]⟩
    have htl : (t ++ [zl]).length = t.length + 1 := by simp
    obtain ⟨adz, hAz, hcz⟩ := U8_at hrq (k := f.at_ + x.2 - 1) (by omega)
    have hqz : q[f.at_ + x.2 - 1]? = some zl := by
      have := slice_get (q := q) (a := f.at_ + x.1) (b := f.at_ + x.2) (j := t.length) (by omega)
      rw [hslq] at this
      rw [show f.at_ + x.2 - 1 = f.at_ + x.1 + t.length by omega, ← this]
      simp
    rw [show q[f.at_ + x.2 - 1] = zl from Option.some.inj ((List.getElem?_eq_getElem (show f.at_ + x.2 - 1 < q.length by omega)).symm.trans hqz)] at hcz
    refine VC.block ?_
    refine VC.seq ?_
    refine VC.region ?_
    refine Ops.r (Run.load rfl Tryz.isAgg22 (hb2.cell 0)) rfl ?_
    refine Ops.r (Run.fieldAddr rfl Tryz.underlying45 rfl Tryz.sizeOf3 (by decide)) rfl ?_
    refine Ops.r (Run.load rfl Tryz.isAgg3 (hb3.cell 3)) rfl ?_
    refine Ops.r (Run.mv rfl) rfl ?_
    refine Ops.r (Run.bin rfl rfl (Bin.add_i64 _ _ (by omega))) rfl ?_
    refine Ops.r (Run.fieldAddr rfl Tryz.underlying45 rfl Tryz.sizeOf3 (by decide)) rfl ?_
    refine Ops.r (Run.load rfl Tryz.isAgg3 (hb3.cell 3)) rfl ?_
    refine Ops.r (Run.mv rfl) rfl ?_
    refine Ops.r (Run.bin rfl rfl (Bin.add_i64 _ _ (by omega))) rfl ?_
    refine Ops.r (Run.sliceS (f.at_ + x.1) (f.at_ + x.2) rfl Tryz.underlying22 Tryz.sizeOf5 (evB.some_ rfl) (evB.some_ rfl) (by omega) (by omega)) rfl ?_
    refine Ops.r (Run.strOfT rfl Tryz.underlying22 Tryz.underlying5 Tryz.underlying9 hcut) rfl ?_
    refine Ops.cl (Enters.fn (evs.cons rfl (evs.cons rfl evs.nil)) Tryz.call124) (trimSfxS_spec (t ++ [zl]) 10 _ (by omega)) rfl ?_
    rintro e _ ⟨rfl, rfl⟩
    refine ⟨_, rfl, ?_⟩
    refine Ops.r (Run.asg rfl) rfl ?_
    refine Ops.nil ?_
    refine thenQ_n ?_
    refine VC.sub [(2, _), (3, _), (5, _), (7, _), (8, _)] (.cons rfl (.cons rfl (.cons rfl (.cons rfl (.cons rfl .nil))))) ?_
    refine VC.seq ?_
    refine VC.seq ?_
    refine VC.split1 [(5, _), (8, _)] (.cons rfl (.cons rfl .nil)) 47 (.bool (decide (zl.toNat = 10))) ?_ ?_
    · refine VC.region ?_
      refine Ops.r (Run.fieldAddr rfl Tryz.underlying45 rfl Tryz.sizeOf3 (by decide)) rfl ?_
      refine Ops.r (Run.load rfl Tryz.isAgg3 (hb3.cell 3)) rfl ?_
      refine Ops.r (Run.mv rfl) rfl ?_
      refine Ops.r (Run.bin rfl rfl (Bin.add_i64 _ _ (by omega))) rfl ?_
      refine Ops.r (Run.fieldAddr rfl Tryz.underlying45 rfl Tryz.sizeOf3 (by decide)) rfl ?_
      refine Ops.r (Run.load rfl Tryz.isAgg3 (hb3.cell 2)) rfl ?_
      refine Ops.r (Run.bin rfl rfl (Bin.leqN _ _)) rfl ?_
      refine Ops.r (Run.mv rfl) rfl ?_
      refine Ops.rg rfl ((decide_eq_true (by omega))) (Run.load rfl Tryz.isAgg22 (hb2.cell 0)) rfl ?_
      refine Ops.rg rfl ((decide_eq_true (by omega))) (Run.fieldAddr rfl Tryz.underlying45 rfl Tryz.sizeOf3 (by decide)) rfl ?_
      refine Ops.rg rfl ((decide_eq_true (by omega))) (Run.load rfl Tryz.isAgg3 (hb3.cell 3)) rfl ?_
      refine Ops.rg rfl ((decide_eq_true (by omega))) (Run.mv rfl) rfl ?_
      refine Ops.rg rfl ((decide_eq_true (by omega))) (Run.bin rfl rfl (Bin.add_i64 _ _ (by omega))) rfl ?_
      refine Ops.rg rfl ((decide_eq_true (by omega))) (Run.bin rfl rfl (Bin.sub_i64 (f.at_ + x.2) 1 (by omega) (by omega))) rfl ?_
      refine Ops.rg rfl ((decide_eq_true (by omega))) (Run.index1 (f.at_ + x.2 - 1) (by rw [← hAz]; rfl) rfl Tryz.underlying22 Tryz.sizeOf5 (by omega)) rfl ?_
      refine Ops.rg rfl ((decide_eq_true (by omega))) (Run.load rfl Tryz.isAgg5 hcz) rfl ?_
      refine Ops.rg rfl ((decide_eq_true (by omega))) (Run.bin rfl rfl (Bin.eqlN _ 10)) rfl ?_
      by_cases hs46 : zl.toNat = 10
      · skip
        refine Ops.r (Run.pickT rfl rfl (by first | rfl | assumption | exact decide_eq_true (by assumption) | exact decide_eq_false (by assumption) | decide | (simp; done) | (simp; omega) | (simp [*]; done))) rfl ?_
        refine Ops.nil ?_
        refine thenQ_n ⟨(.cons (congrArg (fun b => some (Value.bool b)) (rfl)) (.cons rfl (.cons rfl .nil))), rfl⟩
      · skip
        refine Ops.r (Run.pickT rfl rfl (by first | rfl | assumption | exact decide_eq_true (by assumption) | exact decide_eq_false (by assumption) | decide | (simp; done) | (simp; omega) | (simp [*]; done))) rfl ?_
        refine Ops.nil ?_
        refine thenQ_n ⟨(.cons (congrArg (fun b => some (Value.bool b)) (rfl)) (.cons rfl (.cons rfl .nil))), rfl⟩
    · intro Γ hΓ
      refine thenQ_n (VC.sub _ hΓ ?_)
      refine VC.meet (σ := Unit) (fun s => [(5, .pointer (some ⟨g5, 0, none⟩)), (8, encStr (bareL (t ++ [zl])))]) (fun s wr => W = wr) ?_ ?_
      · skip
        refine VC.condD rfl (fun hc1 => ?_) (fun hc1 => ?_)
        · skip
          have hz10 : zl = 10 := UInt8.toNat_inj.1 hc1
          refine VC.region ?_
          refine Ops.r (Run.mv rfl) rfl ?_
          refine Ops.cl (Enters.fn (evs.cons rfl (evs.cons rfl evs.nil)) Tryz.call124) (trimSfxS_spec (trim1 10 (t ++ [zl])) 13 _ (by have := trim1_le 10 (t ++ [zl]); omega)) rfl ?_
          rintro e _ ⟨rfl, rfl⟩
          refine ⟨_, rfl, ?_⟩
          refine Ops.r (Run.asg rfl) rfl ?_
          refine Ops.nil ?_
          refine thenQ_n ⟨(), (.cons rfl (.cons (by rw [hz10, bare_yes]; rfl) .nil)), ?_⟩
          rfl
        · skip
          refine VC.skip ?_
          refine thenQ_n ⟨(), (.cons rfl (.cons (by rw [bare_no (fun e => hc1 (by rw [e]; rfl))]; rfl) .nil)), ?_⟩
          rfl
      · skip
        rintro _ _ rfl Γ hΓ
        have hbl := bareL_le (t ++ [zl])
        refine thenQ_n (VC.sub _ hΓ ?_)
        refine VC.region ?_
        refine Ops.r (Run.mv rfl) rfl ?_
        refine Ops.cl (Enters.fn (evs.cons rfl (evs.cons rfl evs.nil)) Tryz.call94) (writeString_spec g5 w4.heap.size (txB ls) (bareL (t ++ [zl])) p A2 c2 _ hp hb5 hO (by omega) (by omega) hub (by omega)) rfl ?_
        rintro e W3 ⟨rfl, A3, c3, hb5n, hO3, hf3, hub3⟩
        refine ⟨_, rfl, ?_⟩
        rw [← txB_snoc] at hb5n hO3
        refine Ops.nil ?_
        refine blockQ_n (?_)
        refine ⟨⟨g5 :: ob A2, hf3, ?_⟩, ls ++ [t ++ [zl]], rest, some ⟨g5, 0, none⟩, A3, c3, hnl, hpe, .inr rfl, Frm.own K hf3 ?_, hb2.frm hf3 ?_, hb3.frm hf3 ?_, hb5n, hO3, hub3⟩
        · intro b hb
          simp only [List.mem_cons] at hb
          rcases hb with rfl | hb
          · refine ⟨?_, hb5.isC⟩
            simp only [List.mem_cons, not_or]
            exact ⟨by omega, fun hm => by have := hAh _ hm; omega⟩
          · refine ⟨?_, hO.isC b hb⟩
            have := hub b hb
            simp only [List.mem_cons, not_or]
            exact ⟨by omega, fun hm => by have := hAh _ hm; omega⟩
        · intro y hy
          simp only [List.mem_cons] at hy
          rcases hy with rfl | hy
          · omega
          · have := hub y hy; omega
        · simp only [List.mem_cons, not_or]
          exact ⟨by omega, hO.ne_blk hb2 (by decide)⟩
        · simp only [List.mem_cons, not_or]
          exact ⟨by omega, hO.ne_blk hb3 (by decide)⟩
  · skip
    rintro W ⟨ls, ls2, p, A2, c2, hls, hpr, hp, K, hb2, hb3, hb5, hO, hub⟩ hsz hmk
    have hfin : ls = linesF sl := lines_done hls hpr
    have hbsl := txB_len ls
    rw [hfin, linesF_flat, ← hfin] at hbsl
    have htx : textQ q f = trimQ (txB ls) := by
      unfold textQ
      rw [show (q.drop f.at_).take (f.tu - f.at_) = sl from hsl0, hfin]
      rfl
    refine blockD_n (thenD_n ?_)
    refine DV.sub [(5, _)] (.cons rfl .nil) ?_
    refine DV.seq ?_
    refine DV.vc ?_
    refine VC.region ?_
    refine Ops.cl (Enters.fn (evs.cons rfl evs.nil) Tryz.call28) ((Tryz.Builder_String_any_k w.heap.size g5 (txB ls) _ (Lib.IsBuilderF.of (Bld.isB hp hb5 hO (by omega) (fun x hx => by have := hub x hx; omega))) K.size)) rfl ?_
    rintro e V1 ⟨rfl, _, hbe, hok⟩
    have hmk : Mark V1 w4.heap.size := hok _ _ hmk (by simp; omega) (by simp)
    have K := Frm.of_below (K.below.trans hbe)
    refine ⟨_, rfl, ?_⟩
    refine Ops.cl (Enters.fn (evs.cons rfl (evs.cons rfl evs.nil)) Tryz.call125) (trimS_spec (txB ls) _ (by omega)) rfl ?_
    rintro e V2 ⟨rfl, hf_V2⟩
    refine ⟨_, rfl, ?_⟩
    have K := K.trans hf_V2 (by simp)
    have hmk := hmk.frm hf_V2 (by simp)
    refine Ops.r (Run.asg rfl) rfl ?_
    refine Ops.nil ?_
    refine thenD_n ?_
    refine DV.sub [(4, _)] (.cons rfl .nil) ?_
    refine DV.vc (VC.ret ?_)
    refine endD_r (by simp) (fun d hd => by simp only [List.mem_singleton] at hd; subst hd; exact hmk) (fun wz hsh => ?_)
    have K := Frm.own K hsh (fun y hy => by have := hKs; simp at hy; omega)
    refine end1 rfl ?_
    exact ⟨by rw [htx]; rfl, K⟩
  · skip
    exact fun _ _ h => h.elim
  · skip
    exact fun _ _ _ h => h.elim

theorem findF_no {s n : Tx} : ∀ {l : List Fld}, (∀ f ∈ l, smallS f.name ≠ smallS n) → findF s n l = ([], false)
  | [], _ => rfl
  | f :: r, h => by rw [findF, if_neg (h f (by simp)), findF_no fun p hp => h p (by simp [hp])]
theorem findF_at {s n : Tx} : ∀ {l : List Fld} {i : Nat} (hi : i < l.length), (∀ f ∈ l.take i, smallS f.name ≠ smallS n) → smallS l[i].name = smallS n → findF s n l = (textQ s l[i], true)
  | [], _, h, _, _ => by simp at h
  | f :: r, 0, _, _, h => by rw [findF, if_pos (show smallS f.name = smallS n from h)]; rfl
  | f :: r, i + 1, hi, h1, h => by
    rw [findF, if_neg (h1 f (by simp)), findF_at (i := i) (by simpa using hi) (fun p hp => h1 p (by simp [hp])) (by simpa using h)]
    rfl
theorem fldL_name : ∀ (ls : List Tx) (o : Nat) (op : Bool) (out : List Fld) (N : Nat), (∀ l ∈ ls, l.length ≤ N) → (∀ f ∈ out, f.name.length ≤ N) → ∀ f ∈ fldL o op out ls, f.name.length ≤ N
  | [], _, _, out, _, _, h => h
  | l :: r, o, op, out, N, hl, h => by
    have hr : ∀ x ∈ r, x.length ≤ N := fun x hx => hl x (by simp [hx])
    unfold fldL
    split
    · exact h
    · split
      · refine fldL_name r _ op _ N hr ?_
        cases op with
        | false => exact h
        | true =>
          intro f hf
          rw [if_pos rfl] at hf
          rcases List.eq_nil_or_concat out with rfl | ⟨t, g, rfl⟩
          · simp [setTo] at hf
          · rw [List.concat_eq_append] at h
            rw [List.concat_eq_append, setTo_snoc] at hf
            rcases List.mem_append.1 hf with hf | hf
            · exact h f (by simp [hf])
            · simp only [List.mem_singleton] at hf
              subst hf
              exact h g (by simp)
      · split
        · exact fldL_name r _ _ _ N hr h
        · rename_i n k hb
          refine fldL_name r _ _ _ N hr fun f hf => ?_
          rcases List.mem_append.1 hf with hf | hf
          · exact h f hf
          · simp only [List.mem_singleton] at hf
            subst hf
            exact Nat.le_trans (beginQ_lt hb).2 (hl l (by simp))
theorem fields_name (s : Tx) : ∀ f ∈ fieldsQ s, f.name.length ≤ s.length := by
  refine fldL_name _ _ _ _ _ (fun l hl => ?_) (by simp)
  have h1 : l.length ≤ (linesF (s.take (splitQ s))).flatten.length := (List.sublist_flatten_of_mem hl).length_le
  rw [linesF_flat] at h1
  have h2 : (s.take (splitQ s)).length ≤ s.length := by simp; omega
  omega

set_option maxRecDepth 100000 in
theorem hfind_spec (A : Option Addr) (c : Nat) (q n : Tx) (w : World) (hrd0 : Rd w 1 A q.length (U8 q)) (hq : q.length ≤ 500000) (hc : q.length ≤ c) (hn : n.length ≤ 1000000) :
    Calls Tryz.prog 58 #[.slice A q.length c, encStr n] w fun e w' => e = .returned (.tuple #[encStr (findH q n).1, .bool (findH q n).2]) ∧ Frm [] w w' := by
  refine VC.calls (nt := 23) (res := #[.tmp 4, .tmp 5]) Tryz.func58 rfl Tryz.ntmps58 Tryz.results58 rfl ?_
  refine VC.seq ?_
  refine VC.region ?_
  refine Ops.r (Run.asg rfl) rfl ?_
  refine Ops.r (Run.asg rfl) rfl ?_
  refine Ops.nil ?_
  refine thenQ_n ?_
  refine VC.sub [(0, _), (1, _)] (.cons rfl (.cons rfl .nil)) ?_
  refine VC.seq ?_
  refine VC.seq ?_
  refine VC.region ?_
  refine Ops.r (Run.mv rfl) rfl ?_
  refine Ops.cl (Enters.fn (evs.cons rfl evs.nil) Tryz.call23) (fields_spec A c q _ hrd0 hq hc) rfl ?_
  rintro e w1 ⟨K, A2, c2, rfl, hO, hub⟩
  refine ⟨_, rfl, ?_⟩
  have hfc := fieldsQ_count q
  have hfo := fieldsQ_ok q
  have hfn := fields_name q
  have hsq := splitQ_le q
  have hfq : findH q n = findF q n (fieldsQ q) := rfl
  generalize fieldsQ q = fs at *
  refine Ops.r (Run.lenS rfl Tryz.underlying42) rfl ?_
  refine Ops.r (v := .int .i64 ((0 : Nat) : Int)) (Run.mv rfl) rfl ?_
  refine Ops.nil ?_
  refine thenQ_n ?_
  refine VC.sub [(0, _), (1, _), (9, _), (10, _), (11, _)] (.cons rfl (.cons rfl (.cons rfl (.cons rfl (.cons rfl .nil))))) ?_
  refine VC.block ?_
  refine VC.loop (σ := Nat) (fun s => [(0, .slice A q.length c), (1, encStr n), (9, .slice A2 fs.length c2), (10, .int .i64 ((fs.length : Nat) : Int)), (11, .int .i64 ((s : Nat) : Int))]) (fun s wr => s ≤ fs.length ∧ (∀ f ∈ fs.take s, smallS f.name ≠ smallS n) ∧ Frm [] w wr ∧ Own wr 45 4 A2 fs.length c2 (FC fs)) (fun s => fs.length - s) 0 (.cons rfl (.cons rfl (.cons rfl (.cons rfl (.cons rfl .nil))))) ⟨by omega, by simp, K, hO⟩ ?_
  rintro i wr ⟨hi, hno, K, hO⟩
  have hO0 := hO
  refine VC.seq ?_
  refine VC.region ?_
  refine Ops.r (Run.bin rfl rfl (Bin.lssN _ _)) rfl ?_
  refine Ops.nil ?_
  refine thenQ_n ?_
  refine VC.seq ?_
  refine VC.condD rfl (fun hc1 => ?_) (fun hc1 => ?_)
  · skip
    obtain ⟨ad, rfl, hcell⟩ := FC_at hO.rd hc1
    have hts := take_snoc hc1
    have hfm : fs[i] ∈ fs := List.getElem_mem hc1
    have hat : smallS fs[i].name = smallS n → findF q n fs = (textQ q fs[i], true) := fun h => findF_at hc1 hno h
    generalize hf : fs[i] = f at *
    have hok := hfo f hfm
    have hnl := hfn f hfm
    refine VC.skip ?_
    refine thenQ_n ?_
    refine VC.sub [(0, _), (1, _), (9, _), (10, _), (11, _)] (.cons rfl (.cons rfl (.cons rfl (.cons rfl (.cons rfl .nil))))) ?_
    refine VC.seq ?_
    refine VC.block ?_
    refine VC.seq ?_
    refine VC.region ?_
    refine Ops.r (Run.indexS i rfl rfl Tryz.underlying42 Tryz.sizeOf45 hc1) rfl ?_
    refine Ops.r (Run.loadA rfl Tryz.isAgg45 Tryz.sizeOf45 hcell (by first | rfl | (simp; done))) rfl ?_
    refine Ops.m (Does.alloc zero45) rfl ?_
    rintro _ w2 ⟨rfl, hF2⟩
    have hb7 := hF2.blk
    have hs7 := K.size
    have hO := hO.frm hF2.frm (by simp)
    have K := K.trans hF2.frm (by simp)
    generalize hg7 : wr.heap.size = g7 at hb7 hs7 ⊢
    refine Ops.st (Acts.storeA rfl rfl Tryz.sizeOf45 hb7 rfl (FC1_one f)) ?_
    rintro w3 ⟨hb7n, hf3, _⟩
    have hb7 : Blk w3 g7 45 (FC1 f).toArray := hb7n
    have hO := hO.frm hf3 (fun y hy => by have := hO0.lt y hy; simp; omega)
    have K := Frm.own K hf3 (fun y hy => by simp at hy; omega)
    refine Ops.nil ?_
    refine thenQ_n ?_
    refine VC.sub [(0, _), (1, _), (7, _), (9, _), (10, _), (11, _)] (.cons rfl (.cons rfl (.cons rfl (.cons rfl (.cons rfl (.cons rfl .nil)))))) ?_
    refine VC.seq ?_
    refine VC.region ?_
    refine Ops.r (Run.fieldAddr rfl Tryz.underlying45 rfl Tryz.sizeOf9 (by decide)) rfl ?_
    refine Ops.r (Run.load rfl Tryz.isAgg9 (hb7.cell 0)) rfl ?_
    refine Ops.r (Run.mv rfl) rfl ?_
    refine Ops.cl (Enters.fn (evs.cons rfl (evs.cons rfl evs.nil)) Tryz.call24) (halike_spec f.name n _ (by omega) hn) rfl ?_
    rintro e w4 ⟨rfl, hd4⟩
    refine ⟨_, rfl, ?_⟩
    have hb7 := hb7.drawn hd4
    have hO := hO.drawn hd4
    have K := K.drawn hd4
    refine Ops.nil ?_
    refine thenQ_n ?_
    refine VC.sub [(0, _), (1, _), (7, _), (9, _), (10, _), (11, _), (18, _)] (.cons rfl (.cons rfl (.cons rfl (.cons rfl (.cons rfl (.cons rfl (.cons rfl .nil))))))) ?_
    refine VC.condB rfl (fun hc2 => ?_) (fun hc2 => ?_)
    · skip
      have hfi := hat (of_decide_eq_true hc2)
      refine VC.seq ?_
      refine VC.region ?_
      refine Ops.r (Run.mv rfl) rfl ?_
      refine Ops.r (Run.loadA rfl Tryz.isAgg45 Tryz.sizeOf45 (fun j v hj => hb7.cells j v hj) (by first | rfl | (simp; done))) rfl ?_
      refine Ops.cl (Enters.fn (evs.cons rfl (evs.cons rfl evs.nil)) Tryz.call90) (text_spec A c q f _ (hrd0.frm K (by simp)) hq hc hok.2.1 (by have := hok.2.2.1; omega)) rfl ?_
      rintro e w5 ⟨rfl, hf5⟩
      refine ⟨_, rfl, ?_⟩
      have K := K.trans hf5 (by simp)
      refine Ops.r (Run.asg rfl) rfl ?_
      refine Ops.r (Run.asg rfl) rfl ?_
      refine Ops.nil ?_
      refine thenQ_n ?_
      refine VC.sub [(4, _), (5, _)] (.cons rfl (.cons rfl .nil)) ?_
      refine VC.ret ?_
      refine blockQ_r (thenQ_r (thenQ_r (blockQ_r (thenQ_r (end2 rfl rfl ?_)))))
      exact ⟨by rw [hfq, hfi], K⟩
    · skip
      refine VC.skip ?_
      refine blockQ_n (thenQ_n ?_)
      refine VC.sub [(0, _), (1, _), (9, _), (10, _), (11, _)] (.cons rfl (.cons rfl (.cons rfl (.cons rfl (.cons rfl .nil))))) ?_
      refine VC.region ?_
      refine Ops.r (Run.bin rfl rfl (Bin.add_i64 _ 1 (by omega))) rfl ?_
      refine Ops.r (Run.mv rfl) rfl ?_
      refine Ops.nil ?_
      refine thenQ_n ⟨(i + 1), (.cons rfl (.cons rfl (.cons rfl (.cons rfl (.cons rfl .nil))))), ?_, ?_⟩
      · skip
        refine ⟨hc1, fun y hy => ?_, K, hO⟩
        rw [hts] at hy
        rcases List.mem_append.1 hy with h | h
        · exact hno y h
        · simp only [List.mem_singleton] at h; subst h; exact of_decide_eq_false hc2
      · skip
        first | omega | (dsimp only; omega)
  · skip
    have hil : i = fs.length := by omega
    rw [hil, List.take_length] at hno
    have hfi := findF_no (s := q) hno
    refine VC.exit ?_
    refine thenQ_x (thenQ_x (blockQ_x ?_))
    refine thenQ_n ?_
    refine VC.sub [] .nil ?_
    refine VC.seq ?_
    refine VC.region ?_
    refine Ops.r (Run.asg rfl) rfl ?_
    refine Ops.r (Run.asg rfl) rfl ?_
    refine Ops.nil ?_
    refine thenQ_n ?_
    refine VC.ret ?_
    refine end2 rfl rfl ?_
    exact ⟨by rw [hfq, hfi], K⟩

end Go.Proofs.YtenbjndldenkfaaGreatDoor
