/-
  The spans of a body; what a part is.
-/
import Derived.Test.YtenbjndldenkfaaGreatDoorPartW
namespace Go.Proofs.YtenbjndldenkfaaGreatDoor
open Go.RowKit Go.Sort

def PN1 (x : Nat × Nat) : List Value := [.int .i64 ((x.1 : Nat) : Int), .int .i64 ((x.2 : Nat) : Int)]
theorem PN1_len (x : Nat × Nat) : (PN1 x).length = 2 := rfl
theorem PN1_one (x : Nat × Nat) : ∀ u ∈ PN1 x, u.oneCell' = true := by
  intro u hu
  simp only [PN1, List.mem_cons, List.not_mem_nil, or_false] at hu
  rcases hu with rfl | rfl <;> rfl
def PN (l : List (Nat × Nat)) : List Value := l.flatMap PN1
theorem PN_append (a b : List (Nat × Nat)) : PN (a ++ b) = PN a ++ PN b := by simp [PN]
theorem PN_one (l : List (Nat × Nat)) : ∀ u ∈ PN l, u.oneCell' = true := flat_one PN1 PN1_one l
theorem PN_at {w : World} {A : Option Addr} {l : List (Nat × Nat)} {k : Nat} (h : Rd w 2 A l.length (PN l)) (hk : k < l.length) : ∃ ad, A = some ad ∧ ∀ j v, (PN1 l[k])[j]? = some v → w.cell? ((ad.add (k * 2)).add j) = some v := by
  obtain ⟨ad, rfl, hc⟩ := h.elem hk
  refine ⟨ad, rfl, fun j v hj => hc j v ?_⟩
  rw [show PN l = l.flatMap PN1 from rfl, flat_get PN1 2 PN1_len l k hk]
  exact hj
theorem hrdN {w w' : World} {t : TypeId} {x : Nat × Nat} (h : Fresh w w' t (PN1 x).toArray) : Rd w' 2 (some ⟨w.heap.size, 0, none⟩) 1 (PN [x]) := Rd.of_blk (n := 1) (size := 2) h.blk rfl
def begI : Option Nat → Int
  | none => -1
  | some b => (b : Int)
theorem lines_nextO {q : Tx} {frm tu : Nat} {pre : List (Nat × Nat)} {x : Nat × Nat} {ls ls2 : List Tx} (hft : frm ≤ tu) (htl : tu ≤ q.length) (h1 : linesF (sliceQ q frm tu) = ls ++ ls2) (h2 : pre = offsF frm ls) (h3 : (pre ++ [x]) <+: offsF frm (linesF (sliceQ q frm tu))) :
    ∃ l b, ls2 = l :: b ∧ x.1 = frm + ls.flatten.length ∧ x.2 = x.1 + l.length ∧ pre ++ [x] = offsF frm (ls ++ [l]) ∧ linesF (sliceQ q frm tu) = (ls ++ [l]) ++ b ∧ sliceQ q x.1 x.2 = l ∧ x.2 ≤ tu ∧ l ≠ [] ∧ x.2 = frm + (ls ++ [l]).flatten.length := by
  obtain ⟨a, l, b, e1, e2, e3⟩ := offs_pre h3
  have hl : ls.length = a.length := by rw [← offsF_len frm ls, ← h2, e2, offsF_len]
  obtain ⟨rfl, e4⟩ := List.append_inj (h1.symm.trans e1) hl
  obtain ⟨s1, s2⟩ := slice_at e1
  rw [sliceQ_len htl] at s2
  refine ⟨l, b, e4, by rw [e3], by rw [e3], ?_, by rw [e1]; simp, ?_, by rw [e3]; dsimp only; omega, linesF_ne (s := sliceQ q frm tu) (by rw [e1]; simp), by rw [e3]; simp; omega⟩
  · rw [offs_app, h2, e3]
    rfl
  · rw [e3]
    show sliceQ q (frm + ls.flatten.length) (frm + ls.flatten.length + l.length) = l
    rw [Nat.add_assoc, ← slice_slice (q := q) (a := frm) (b := tu) (by omega), s1]
theorem lines_doneO {s : Tx} {o : Nat} {ls ls2 : List Tx} (h1 : linesF s = ls ++ ls2) (h2 : offsF o (linesF s) = offsF o ls) : ls2 = [] ∧ ls = linesF s := by
  have hl : (linesF s).length = ls.length := by rw [← offsF_len o (linesF s), h2, offsF_len]
  rw [h1] at hl ⊢
  simp only [List.length_append] at hl
  have e := List.length_eq_zero_iff.1 (show ls2.length = 0 by omega)
  exact ⟨e, by rw [e, List.append_nil]⟩
def SnI (w : World) (q bd : Tx) (frm tu g4 g7 g8 g9 g10 : Nat) (A : Option Addr) (c : Nat) (Bt : List Nat) (pre : List (Nat × Nat)) (W : World) : Prop :=
  ∃ (ls ls2 : List Tx) (bg : Option Nat) (out : List (Nat × Nat)) (A2 : Option Addr) (c2 : Nat), linesF (sliceQ q frm tu) = ls ++ ls2 ∧ pre = offsF frm ls ∧ spansQ q bd frm tu = spnL q bd tu (frm + ls.flatten.length) bg out ls2 ∧ (∀ b, bg = some b → frm ≤ b ∧ b ≤ frm + ls.flatten.length) ∧ out.length ≤ ls.length ∧ Frm [] w W ∧
    Blk W g4 22 #[.slice A q.length c] ∧ Blk W g7 9 #[encStr bd] ∧ Blk W g8 134 #[.slice none 0 0] ∧ Blk W g9 134 #[.slice A2 out.length c2] ∧ Own W 136 2 A2 out.length c2 (PN out) ∧ Blk W g10 3 #[.int .i64 (begI bg)] ∧ ∀ x ∈ ob A2, w.heap.size ≤ x ∧ x ∉ Bt
def SnX (w : World) (q bd : Tx) (frm tu g8 : Nat) (Bt : List Nat) (e : Exit) (_pre : List (Nat × Nat)) (W : World) : Prop :=
  e = .ret ∧ Frm [] w W ∧ ∃ A2 c2, Blk W g8 134 #[.slice A2 (spansQ q bd frm tu).length c2] ∧ Own W 136 2 A2 (spansQ q bd frm tu).length c2 (PN (spansQ q bd frm tu)) ∧ ∀ x ∈ ob A2, w.heap.size ≤ x ∧ x ∉ Bt
theorem spn_no {s bd : Tx} {tu o : Nat} {bg : Option Nat} {out : List (Nat × Nat)} {l : Tx} {r : List Tx} (h : (partsL bd l).1 = false) : spnL s bd tu o bg out (l :: r) = spnL s bd tu (o + l.length) bg out r := by rw [spnL, if_pos h]
theorem spn_last {s bd : Tx} {tu o : Nat} {bg : Option Nat} {out : List (Nat × Nat)} {l : Tx} {r : List Tx} (h : (partsL bd l).1 = true) (h2 : (partsL bd l).2 = true) : spnL s bd tu o bg out (l :: r) = addB s o bg out := by rw [spnL, if_neg (by rw [h]; simp), if_pos h2]
theorem spn_next {s bd : Tx} {tu o : Nat} {bg : Option Nat} {out : List (Nat × Nat)} {l : Tx} {r : List Tx} (h : (partsL bd l).1 = true) (h2 : (partsL bd l).2 = false) : spnL s bd tu o bg out (l :: r) = spnL s bd tu (o + l.length) (some (o + l.length)) (addB s o bg out) r := by rw [spnL, if_neg (by rw [h]; simp), if_neg (by rw [h2]; simp)]

set_option maxRecDepth 100000 in
theorem spans_spec (A : Option Addr) (c : Nat) (q bd : Tx) (frm tu : Nat) (w : World) (hrd0 : Rd w 1 A q.length (U8 q)) (hq : q.length ≤ 1000000) (hc : q.length ≤ c) (hbd : bd.length ≤ 1000000) (hft : frm ≤ tu) (htl : tu ≤ q.length) :
    Calls Tryz.prog 106 #[.slice A q.length c, .int .i64 ((frm : Nat) : Int), .int .i64 ((tu : Nat) : Int), encStr bd] w fun e w' => Frm [] w w' ∧ ∃ A2 c2, e = .returned (.slice A2 (spansQ q bd frm tu).length c2) ∧ Own w' 136 2 A2 (spansQ q bd frm tu).length c2 (PN (spansQ q bd frm tu)) ∧ ∀ x ∈ ob A2, w.heap.size ≤ x := by
  have K := Frm.refl [] w
  refine DV.calls (nt := 55) (res := #[.cell 8 134]) Tryz.func106 rfl Tryz.ntmps106 Tryz.results106 rfl ?_
  refine DV.seq ?_
  refine DV.vc ?_
  refine VC.region ?_
  refine Ops.m (Does.box rfl) rfl ?_
  rintro _ w1 ⟨rfl, hF_w1⟩
  have hb4 := hF_w1.blk
  have hs4_K := K.size
  have K := Frm.trans K hF_w1.frm (by simp)
  generalize hg4 : w.heap.size = g4 at hb4 hs4_K ⊢
  refine Ops.m (Does.box rfl) rfl ?_
  rintro _ w2 ⟨rfl, hF_w2⟩
  have hb7 := hF_w2.blk
  have hs7_K := K.size
  have lt_hb4_7 := hb4.lt
  have hb4 := hb4.frm hF_w2.frm (by simp)
  have K := Frm.trans K hF_w2.frm (by simp)
  generalize hg7 : w1.heap.size = g7 at hb7 hs7_K lt_hb4_7 ⊢
  refine Ops.m (Does.alloc zero134) rfl ?_
  rintro _ w3 ⟨rfl, hF_w3⟩
  have hb8 := hF_w3.blk
  have hs8_K := K.size
  have lt_hb4_8 := hb4.lt
  have lt_hb7_8 := hb7.lt
  have hb4 := hb4.frm hF_w3.frm (by simp)
  have hb7 := hb7.frm hF_w3.frm (by simp)
  have K := Frm.trans K hF_w3.frm (by simp)
  generalize hg8 : w2.heap.size = g8 at hb8 hs8_K lt_hb4_8 lt_hb7_8 ⊢
  refine Ops.nil ?_
  refine thenD_n ?_
  refine DV.sub [(1, _), (2, _), (4, _), (7, _), (8, _)] (.cons rfl (.cons rfl (.cons rfl (.cons rfl (.cons rfl .nil))))) ?_
  refine DV.seq ?_
  refine DV.vc ?_
  refine VC.region ?_
  refine Ops.m (Does.alloc zero134) rfl ?_
  rintro _ w4 ⟨rfl, hF_w4⟩
  have hb9 := hF_w4.blk
  have hs9_K := K.size
  have lt_hb4_9 := hb4.lt
  have lt_hb7_9 := hb7.lt
  have lt_hb8_9 := hb8.lt
  have hb4 := hb4.frm hF_w4.frm (by simp)
  have hb7 := hb7.frm hF_w4.frm (by simp)
  have hb8 := hb8.frm hF_w4.frm (by simp)
  have K := Frm.trans K hF_w4.frm (by simp)
  generalize hg9 : w3.heap.size = g9 at hb9 hs9_K lt_hb4_9 lt_hb7_9 lt_hb8_9 ⊢
  refine Ops.nil ?_
  refine thenD_n ?_
  refine DV.seq ?_
  refine DV.vc ?_
  refine VC.region ?_
  refine Ops.m (Does.alloc zero3) rfl ?_
  rintro _ w5 ⟨rfl, hF_w5⟩
  have hb10 := hF_w5.blk
  have hs10_K := K.size
  have lt_hb4_10 := hb4.lt
  have lt_hb7_10 := hb7.lt
  have lt_hb8_10 := hb8.lt
  have lt_hb9_10 := hb9.lt
  have hb4 := hb4.frm hF_w5.frm (by simp)
  have hb7 := hb7.frm hF_w5.frm (by simp)
  have hb8 := hb8.frm hF_w5.frm (by simp)
  have hb9 := hb9.frm hF_w5.frm (by simp)
  have K := Frm.trans K hF_w5.frm (by simp)
  generalize hg10 : w4.heap.size = g10 at hb10 hs10_K lt_hb4_10 lt_hb7_10 lt_hb8_10 lt_hb9_10 ⊢
  refine Ops.st (Acts.store rfl rfl Tryz.sizeOf3 hb10 rfl rfl) ?_
  rintro w6 ⟨hbn_w6, hf_w6, hsz_w6⟩
  have hb4 := hb4.frm hf_w6 (by simp; omega)
  have hb7 := hb7.frm hf_w6 (by simp; omega)
  have hb8 := hb8.frm hf_w6 (by simp; omega)
  have hb9 := hb9.frm hf_w6 (by simp; omega)
  have hb10 : Blk w6 g10 3 (#[.int .i64 (begI none)]) := hbn_w6
  have K := Frm.own K hf_w6 (fun y hy => by simp at hy; omega)
  refine Ops.nil ?_
  refine thenD_n ?_
  refine DV.seq ?_
  refine DV.seq ?_
  refine DV.vc ?_
  refine VC.region ?_
  refine Ops.r (Run.load rfl Tryz.isAgg22 (hb4.cell 0)) rfl ?_
  refine Ops.r (Run.mv rfl) rfl ?_
  refine Ops.r (Run.mv rfl) rfl ?_
  refine Ops.cl (Enters.fn (evs.cons rfl (evs.cons rfl (evs.cons rfl evs.nil))) Tryz.call142) (plines_spec A q.length c frm tu _) rfl ?_
  rintro e w7 ⟨hf_w7, ga, gb, gc, rfl, hpa, hpb, hpc, hga, hgb, hgc, hgab, hgac, hga2, hgb2, hgc2⟩
  have l4 := hb4.lt
  have l7 := hb7.lt
  have l8 := hb8.lt
  have l9 := hb9.lt
  have l10 := hb10.lt
  refine ⟨_, rfl, ?_⟩
  have hb4 := hb4.frm hf_w7 (by simp)
  have hb7 := hb7.frm hf_w7 (by simp)
  have hb8 := hb8.frm hf_w7 (by simp)
  have hb9 := hb9.frm hf_w7 (by simp)
  have hb10 := hb10.frm hf_w7 (by simp)
  have K := Frm.trans K hf_w7 (by simp)
  have hA : ∀ x ∈ obN A q.length, x < w.heap.size := fun x hx => hrd0.lt (obN_mem hx).1 x (obN_mem hx).2
  have hs6 := hf_w6.size
  refine Ops.nil ?_
  refine thenD_n ?_
  refine DV.sub [(2, _), (4, _), (7, _), (8, _), (9, _), (10, _), (18, _)] (.cons rfl (.cons rfl (.cons rfl (.cons rfl (.cons rfl (.cons rfl (.cons rfl .nil))))))) ?_
  refine DV.block ?_
  have hKs := K.size
  refine DV.range (ps := [19, 20]) (fun x : Nat × Nat => [.int .i64 ((x.1 : Nat) : Int), .int .i64 ((x.2 : Nat) : Int)]) (plines_iter q A c ga gb gc frm tu hq hc hft htl hgab hgac (fun hm => by have := hA _ hm; omega)) rfl Tryz.call185 (fun _ => rfl) rfl (SnI w q bd frm tu g4 g7 g8 g9 g10 A c (ga :: gb :: gc :: obN A q.length)) (SnX w q bd frm tu g8 (ga :: gb :: gc :: obN A q.length)) (fun x => [(4, .pointer (some ⟨g4, 0, none⟩)), (7, .pointer (some ⟨g7, 0, none⟩)), (8, .pointer (some ⟨g8, 0, none⟩)), (9, .pointer (some ⟨g9, 0, none⟩)), (10, .pointer (some ⟨g10, 0, none⟩)), (11, .int .i64 ((x.1 : Nat) : Int)), (12, .int .i64 ((x.2 : Nat) : Int))]) ?_ ?_ ?_ ?_ ?_ ?_ ?_ ?_ ?_ ?_ ?_
  · skip
    rintro pre W W' S ⟨ls, ls2, bg, outs, A2, c2, h1, h2, h3, h4, h5, h6, h7, h8, h9, h10, h11, h12, h13⟩ hf hS
    exact ⟨ls, ls2, bg, outs, A2, c2, h1, h2, h3, h4, h5, h6.nc hf hS (by simp; omega) K.size, h7.frm hf (h7.nc hS (by simp; omega)), h8.frm hf (h8.nc hS (by simp; omega)), h9.frm hf (h9.nc hS (by simp; omega)), h10.frm hf (h10.nc hS (by simp; omega)), h11.frm hf (h11.nc hS (fun x hx hb => (h13 x hx).2 (by simp at hb; simp [hb]))), h12.frm hf (h12.nc hS (by simp; omega)), h13⟩
  · skip
    rintro e pre W W' S ⟨h1, h2, A2, c2, h3, h4, h5⟩ hf hS
    exact ⟨h1, h2.nc hf hS (by simp; omega) K.size, A2, c2, h3.frm hf (h3.nc hS (by simp; omega)), h4.frm hf (h4.nc hS (fun x hx hb => (h5 x hx).2 (by simp at hb; simp [hb]))), h5⟩
  · skip
    exact fun W hf => ⟨hpa.frm hf (by simp), hpb.frm hf (by simp), hpc.frm hf (by simp), (hrd0.frm K (by simp)).frm hf (by simp)⟩
  · skip
    simp
  · skip
    intro b hb
    simp only [List.mem_cons] at hb
    rcases hb with rfl | rfl | rfl | hb
    · exact hga2
    · exact hgb2
    · exact hgc2
    · have := hA b hb; omega
  · skip
    exact ⟨[], linesF (sliceQ q frm tu), none, [], none, 0, rfl, rfl, rfl, by simp, by simp, K, hb4, hb7, hb8, hb9, Own.nil _ _ _, hb10, by simp [ob]⟩
  · intro l x W
    refine VC.sub [(4, _), (7, _), (8, _), (9, _), (10, _), (19, _), (20, _)] (.cons rfl (.cons rfl (.cons rfl (.cons rfl (.cons rfl (.cons rfl (.cons rfl .nil))))))) ?_
    refine VC.seq ?_
    refine VC.region ?_
    refine Ops.r (Run.asg rfl) rfl ?_
    refine Ops.nil ?_
    refine thenQ_n ?_
    refine VC.sub [(4, _), (7, _), (8, _), (9, _), (10, _), (11, _), (20, _)] (.cons rfl (.cons rfl (.cons rfl (.cons rfl (.cons rfl (.cons rfl (.cons rfl .nil))))))) ?_
    refine VC.region ?_
    refine Ops.r (Run.asg rfl) rfl ?_
    refine Ops.nil ?_
    refine thenQ_n ⟨rfl, (.cons rfl (.cons rfl (.cons rfl (.cons rfl (.cons rfl (.cons rfl (.cons rfl .nil)))))))⟩
  · skip
    rintro l pre x W ⟨ls, ls2, bg, outs, A2, c2, hls, hpr, hsp, hbg, hol, K, hb4, hb7, hb8, hb9, hO, hb10, hAB⟩ hpre hsz hmk
    obtain ⟨ll, rest, hl2, hx1, hx2, hpe, hnl, hsl, hxt, hne, hx3⟩ := lines_nextO hft htl hls hpr hpre
    have hll : x.2 - x.1 = ll.length := by omega
    have hcut : Rd W 1 (cutA A c x.1 1) ll.length (U8 ll) := by
      have := U8_cut (hrd0.frm K (by simp)) (show x.1 ≤ x.2 by omega) (by omega) hc
      rwa [hsl] at this
    have hlc := linesF_count (sliceQ q frm tu)
    rw [hls, sliceQ_len htl] at hlc
    simp only [List.length_append] at hlc
    have hnb8 : g8 ∉ (ga :: gb :: gc :: obN A q.length) := by
      simp only [List.mem_cons, not_or]
      exact ⟨by omega, by omega, by omega, fun hm => by have := hA _ hm; omega⟩
    have hnb9 : g9 ∉ (ga :: gb :: gc :: obN A q.length) := by
      simp only [List.mem_cons, not_or]
      exact ⟨by omega, by omega, by omega, fun hm => by have := hA _ hm; omega⟩
    have hnb10 : g10 ∉ (ga :: gb :: gc :: obN A q.length) := by
      simp only [List.mem_cons, not_or]
      exact ⟨by omega, by omega, by omega, fun hm => by have := hA _ hm; omega⟩
    have h80 := hb8
    have h90 := hb9
    have h100 := hb10
    have hO0 := hO
    refine VC.block ?_
    refine VC.seq ?_
    refine VC.held (fun V => Frm [] W V) (by kernel_rfl) ?_
    have hS : Frm [] W W.drew := (Frm.refl [] W).drew
    have hb4v := hb4
    have hb7v := hb7
    refine HOps.take 0 rfl (by kernel_rfl) (by kernel_rfl) (by kernel_rfl) hS (fun w0 hw0 => Run.load rfl Tryz.isAgg22 ((hb4v.frm hw0 (by simp)).cell 0)) trivial rfl rfl ?_
    refine HOps.take 1 rfl (by kernel_rfl) (by kernel_rfl) (by kernel_rfl) hS (fun w0 hw0 => Run.mv rfl) trivial rfl rfl ?_
    refine HOps.take 2 rfl (by kernel_rfl) (by kernel_rfl) (by kernel_rfl) hS (fun w0 hw0 => Run.mv rfl) trivial rfl rfl ?_
    refine HOps.take 3 rfl (by kernel_rfl) (by kernel_rfl) (by kernel_rfl) hS (fun w0 hw0 => Run.sliceS x.1 x.2 rfl Tryz.underlying22 Tryz.sizeOf5 (evB.some_ rfl) (evB.some_ rfl) (by omega) (by omega)) trivial rfl rfl ?_
    rw [hll]
    refine HOps.take 4 rfl (by kernel_rfl) (by kernel_rfl) (by kernel_rfl) hS (fun w0 hw0 => Run.load rfl Tryz.isAgg9 ((hb7v.frm hw0 (by simp)).cell 0)) trivial rfl rfl ?_
    refine HOps.cl 5 rfl (by kernel_rfl) (Enters.fn (evs.cons rfl (evs.cons rfl evs.nil)) Tryz.call143) (parts_spec _ _ ll bd _ (hcut.frm hS (by simp)) (by omega) (by omega)) trivial rfl rfl ?_
    rintro e V1 ⟨rfl, hfv⟩
    have hS := hS.trans hfv (by simp)
    refine ⟨_, rfl, hS, ?_⟩
    have KW := hS
    have hb4 := hb4.frm hS (by simp)
    have hb7 := hb7.frm hS (by simp)
    have hb8 := hb8.frm hS (by simp)
    have hb9 := hb9.frm hS (by simp)
    have hb10 := hb10.frm hS (by simp)
    have hO := hO.frm hS (by simp)
    have K := K.trans hS (by simp)
    refine HOps.take 6 rfl (by kernel_rfl) (by kernel_rfl) (by kernel_rfl) hS (fun w0 hw0 => Run.mv rfl) trivial rfl rfl ?_
    refine HOps.take 7 rfl (by kernel_rfl) (by kernel_rfl) (by kernel_rfl) hS (fun w0 hw0 => Run.extract rfl rfl) trivial rfl rfl ?_
    refine HOps.take 8 rfl (by kernel_rfl) (by kernel_rfl) (by kernel_rfl) hS (fun w0 hw0 => Run.extract rfl rfl) trivial rfl rfl ?_
    refine HOps.take 9 rfl (by kernel_rfl) (by kernel_rfl) (by kernel_rfl) hS (fun w0 hw0 => Run.asg rfl) trivial rfl rfl ?_
    refine HOps.take 10 rfl (by kernel_rfl) (by kernel_rfl) (by kernel_rfl) hS (fun w0 hw0 => Run.asg rfl) trivial rfl rfl ?_
    refine HOps.done (by kernel_rfl) ?_
    refine thenQ_n ?_
    refine VC.sub [(4, _), (8, _), (9, _), (10, _), (11, _), (12, _), (13, _), (14, _)] (.cons rfl (.cons rfl (.cons rfl (.cons rfl (.cons rfl (.cons rfl (.cons rfl (.cons rfl .nil)))))))) ?_
    refine VC.seq ?_
    refine VC.seq ?_
    refine VC.region ?_
    refine Ops.r (Run.mv rfl) rfl ?_
    refine Ops.r (Run.not rfl) rfl ?_
    refine Ops.nil ?_
    refine thenQ_n ?_
    refine VC.sub [(4, _), (8, _), (9, _), (10, _), (11, _), (12, _), (14, _), (31, _)] (.cons rfl (.cons rfl (.cons rfl (.cons rfl (.cons rfl (.cons rfl (.cons rfl (.cons rfl .nil)))))))) ?_
    refine VC.condB rfl (fun hc1 => ?_) (fun hc1 => ?_)
    · skip
      have hno : (partsL bd ll).1 = false := by simpa using hc1
      refine VC.exit ?_
      refine thenQ_x (blockQ_x ?_)
      refine ⟨.frm0 KW, ls ++ [ll], rest, bg, outs, A2, c2, hnl, hpe, ?_, fun b hb => by have := hbg b hb; rw [← hx3]; omega, by simp; omega, K, hb4, hb7, hb8, hb9, hO, hb10, hAB⟩
      rw [hsp, hl2, ← hx1, spn_no hno, ← hx2, ← hx3]
    · skip
      have hyes : (partsL bd ll).1 = true := by simpa using hc1
      refine VC.skip ?_
      refine thenQ_n ?_
      refine VC.sub [(4, _), (8, _), (9, _), (10, _), (11, _), (12, _), (14, _)] (.cons rfl (.cons rfl (.cons rfl (.cons rfl (.cons rfl (.cons rfl (.cons rfl .nil))))))) ?_
      refine VC.seq ?_
      refine VC.seq ?_
      refine VC.region ?_
      refine Ops.r (Run.load rfl Tryz.isAgg3 (hb10.cell 0)) rfl ?_
      refine Ops.r (Run.bin rfl rfl (Bin.geq _ 0)) rfl ?_
      refine Ops.nil ?_
      refine thenQ_n ?_
      refine VC.sub [(4, _), (8, _), (9, _), (10, _), (11, _), (12, _), (14, _), (33, _)] (.cons rfl (.cons rfl (.cons rfl (.cons rfl (.cons rfl (.cons rfl (.cons rfl (.cons rfl .nil)))))))) ?_
      refine VC.meet (σ := Option Addr × Nat) (fun s => [(8, .pointer (some ⟨g8, 0, none⟩)), (9, .pointer (some ⟨g9, 0, none⟩)), (10, .pointer (some ⟨g10, 0, none⟩)), (12, .int .i64 ((x.2 : Nat) : Int)), (14, .bool (partsL bd ll).2)]) (fun s1 wr => Frm (ob A2 ++ [g9]) W wr ∧ Frm [] w wr ∧ Blk wr g4 22 #[.slice A q.length c] ∧ Blk wr g7 9 #[encStr bd] ∧ Blk wr g8 134 #[.slice none 0 0] ∧ Blk wr g9 134 #[.slice s1.1 (addB q x.1 bg outs).length s1.2] ∧ Own wr 136 2 s1.1 (addB q x.1 bg outs).length s1.2 (PN (addB q x.1 bg outs)) ∧ Blk wr g10 3 #[.int .i64 (begI bg)] ∧ ∀ y ∈ ob s1.1, w.heap.size ≤ y ∧ y ∉ (ga :: gb :: gc :: obN A q.length)) ?_ ?_
      · skip
        refine VC.condD rfl (fun hc2 => ?_) (fun hc2 => ?_)
        · skip
          obtain ⟨b0, rfl⟩ : ∃ b, bg = some b := by
            cases bg with
            | none => exact absurd hc2 (by simp [begI])
            | some b => exact ⟨b, rfl⟩
          have hb0 := hbg b0 rfl
          refine VC.heldL 9 (fun V => Frm (ob A2) V1 V) (by kernel_rfl) ?_
          have hS0 : Frm [] V1 V1.drew := (Frm.refl [] V1).drew
          have hS : Frm (ob A2) V1 V1.drew := hS0.mono (by simp)
          have hn9 := hO.ne_blk hb9 (by decide)
          have hn10 := hO.ne_blk hb10 (by decide)
          have hn4 := hO.ne_blk hb4 (by decide)
          have hb9v := hb9
          have hb10v := hb10
          have hb4v := hb4
          have hO := hO.frm hS0 (by simp)
          have hb4 := hb4.frm hS0 (by simp)
          have hb7 := hb7.frm hS0 (by simp)
          have hb8 := hb8.frm hS0 (by simp)
          have hb9 := hb9.frm hS0 (by simp)
          have hb10 := hb10.frm hS0 (by simp)
          have K := K.drew
          have KW := KW.drew
          refine HOps.take 0 rfl (by kernel_rfl) (by kernel_rfl) (by kernel_rfl) hS (fun w0 hw0 => Run.load rfl Tryz.isAgg134 ((hb9v.frm hw0 hn9).cell 0)) trivial rfl rfl ?_
          refine HOps.take 1 rfl (by kernel_rfl) (by kernel_rfl) (by kernel_rfl) hS (fun w0 hw0 => Run.load rfl Tryz.isAgg3 ((hb10v.frm hw0 hn10).cell 0)) trivial rfl rfl ?_
          refine HOps.take 2 rfl (by kernel_rfl) (by kernel_rfl) (by kernel_rfl) hS (fun w0 hw0 => Run.load rfl Tryz.isAgg22 ((hb4v.frm hw0 hn4).cell 0)) trivial rfl rfl ?_
          refine HOps.take 3 rfl (by kernel_rfl) (by kernel_rfl) (by kernel_rfl) hS (fun w0 hw0 => Run.load rfl Tryz.isAgg3 ((hb10v.frm hw0 hn10).cell 0)) trivial rfl rfl ?_
          refine HOps.r1 4 rfl (by kernel_rfl) hS (Run.mv rfl) trivial rfl rfl ?_
          refine HOps.cl 5 rfl (by kernel_rfl) (Enters.fn (evs.cons rfl (evs.cons rfl (evs.cons rfl evs.nil))) Tryz.call144) (ahead_spec A c q b0 x.1 _ (hrd0.frm K (by simp)) hq (by omega)) trivial rfl rfl ?_
          rintro e _ ⟨rfl, rfl⟩
          refine ⟨_, rfl, hS, ?_⟩
          refine HOps.r1 6 rfl (by kernel_rfl) hS (Run.buildA (evs.cons rfl (evs.cons rfl evs.nil)) zero136 Tryz.underlying136 Tryz.sizeOf3 (cells := (PN1 (b0, aheadQ q b0 x.1)).toArray) (by rfl)) trivial rfl rfl ?_
          refine HOps.m 7 rfl (by kernel_rfl) (Does.buildS1 rfl Tryz.underlying134 Tryz.sizeOf136 zero136 (by decide) (by decide) rfl rfl) trivial rfl rfl ?_
          rintro _ V5 ⟨rfl, hF5⟩
          have hrd := hrdN (x := (b0, aheadQ q b0 x.1)) hF5
          have hb4 := hb4.frm hF5.frm (by simp)
          have hb7 := hb7.frm hF5.frm (by simp)
          have hb8 := hb8.frm hF5.frm (by simp)
          have hb9 := hb9.frm hF5.frm (by simp)
          have hb10 := hb10.frm hF5.frm (by simp)
          have hO := hO.frm hF5.frm (by simp)
          have K := K.trans hF5.frm (by simp)
          have KW := KW.trans hF5.frm (by simp)
          have hS := hS.trans hF5.frm (by simp)
          refine ⟨hS, ?_⟩
          refine HOps.m 8 rfl (by kernel_rfl) (Does.app rfl rfl Tryz.underlying134 (info136) rfl (by decide) hO hrd (PN_one _) (by omega) (by omega)) trivial rfl rfl ?_
          rintro _ V6 ⟨A6, c6, rfl, hO6, hf6, hob6⟩
          rw [← PN_append] at hO6
          have hne6 : ∀ y ∈ ob A2, y ≠ g4 ∧ y ≠ g7 ∧ y ≠ g8 ∧ y ≠ g9 ∧ y ≠ g10 := fun y hy => ⟨by rintro rfl; exact hO.ne_blk hb4 (by decide) hy, by rintro rfl; exact hO.ne_blk hb7 (by decide) hy, by rintro rfl; exact hO.ne_blk hb8 (by decide) hy, by rintro rfl; exact hO.ne_blk hb9 (by decide) hy, by rintro rfl; exact hO.ne_blk hb10 (by decide) hy⟩
          have hb4 := hb4.frm hf6 (fun hy => (hne6 _ hy).1 rfl)
          have hb7 := hb7.frm hf6 (fun hy => (hne6 _ hy).2.1 rfl)
          have hb8 := hb8.frm hf6 (fun hy => (hne6 _ hy).2.2.1 rfl)
          have hb9 := hb9.frm hf6 (fun hy => (hne6 _ hy).2.2.2.1 rfl)
          have hb10 := hb10.frm hf6 (fun hy => (hne6 _ hy).2.2.2.2 rfl)
          have K5 := K
          have KW5 := KW
          have K := Frm.own K hf6 (fun y hy => (hAB y hy).1)
          have hnA := hO6.ne_blk hb9 (by decide)
          have hS := hS.trans hf6 (fun y hy => .inl hy)
          refine ⟨hS, ?_⟩
          refine HOps.stL rfl (by kernel_rfl) (Acts.store rfl rfl Tryz.sizeOf134 hb9 rfl rfl) trivial rfl ?_
          rintro V7 ⟨hb9n, hf7, _⟩
          refine HOps.done (by kernel_rfl) ?_
          refine thenQ_n ⟨(A6, c6), (.cons rfl (.cons rfl (.cons rfl (.cons rfl (.cons rfl .nil))))), ?_⟩
          refine ⟨?_, Frm.own K hf7 (fun y hy => by simp at hy; omega), hb4.frm hf7 (by simp; omega), hb7.frm hf7 (by simp; omega), hb8.frm hf7 (by simp; omega), ?_, ?_, hb10.frm hf7 (by simp; omega), ?_⟩
          · exact ((KW.mono (T := ob A2 ++ [g9]) (by simp)).trans hf6 (fun y hy => .inl (by simp [hy]))).trans hf7 (fun y hy => .inl (by simp at hy; simp [hy]))
          · show Blk V7 g9 _ #[.slice A6 (outs ++ [(b0, aheadQ q b0 x.1)]).length c6]
            rw [List.length_append]; exact hb9n
          · show Own V7 _ 2 A6 (outs ++ [(b0, aheadQ q b0 x.1)]).length c6 _
            rw [List.length_append]
            exact hO6.frm hf7 (fun y hy => by simp; rintro rfl; exact hnA hy)
          · intro y hy
            rcases hob6 with h | h
            · dsimp only at hy; rw [h] at hy; exact hAB y hy
            · dsimp only at hy
              rw [h] at hy
              simp only [List.mem_singleton] at hy
              have h1 := K5.size
              have h2 := KW5.size
              subst hy
              refine ⟨h1, ?_⟩
              simp only [List.mem_cons, not_or]
              exact ⟨by omega, by omega, by omega, fun hm => by have := hA _ hm; omega⟩
        · skip
          have hbn : bg = none := by
            cases bg with
            | none => rfl
            | some b => exact absurd (show (0 : Int) ≤ begI (some b) by simp [begI]) hc2
          have hab : addB q x.1 bg outs = outs := by rw [hbn]; rfl
          refine VC.skip ?_
          refine thenQ_n ⟨(A2, c2), (.cons rfl (.cons rfl (.cons rfl (.cons rfl (.cons rfl .nil))))), ?_⟩
          rw [hab]
          exact ⟨KW.mono (by simp), K, hb4, hb7, hb8, hb9, hO, hb10, hAB⟩
      · skip
        rintro ⟨A3, c3⟩ V8 ⟨KW, K, hb4, hb7, hb8, hb9, hO3, hb10, hAB3⟩ Γ hΓ
        dsimp only at hb9 hO3 hAB3
        have hadl := addB_len q x.1 bg outs
        generalize hou : addB q x.1 bg outs = outs2 at *
        refine thenQ_n (VC.sub _ hΓ ?_)
        refine VC.seq ?_
        refine VC.seq ?_
        refine VC.region ?_
        refine Ops.r (Run.mv rfl) rfl ?_
        refine Ops.nil ?_
        refine thenQ_n ?_
        refine VC.sub [(8, _), (9, _), (10, _), (12, _), (43, _)] (.cons rfl (.cons rfl (.cons rfl (.cons rfl (.cons rfl .nil))))) ?_
        refine VC.condB rfl (fun hc3 => ?_) (fun hc3 => ?_)
        · skip
          have hfin := hsp
          rw [hl2, ← hx1, spn_last hyes hc3, hou] at hfin
          refine VC.seq ?_
          refine VC.region ?_
          refine Ops.r (Run.load rfl Tryz.isAgg134 (hb9.cell 0)) rfl ?_
          refine Ops.st (Acts.store rfl rfl Tryz.sizeOf134 hb8 rfl rfl) ?_
          rintro V9 ⟨hb8n, hf9, _⟩
          refine Ops.nil ?_
          refine thenQ_n ?_
          refine VC.sub [(8, _)] (.cons rfl .nil) ?_
          refine VC.ret ?_
          refine thenQ_r (blockQ_r (?_))
          refine ⟨⟨ob A2 ++ [g9] ++ [g8], ?_, ?_⟩, rfl, Frm.own K hf9 (fun y hy => by simp at hy; omega), A3, c3, ?_, ?_, hAB3⟩
          · exact (KW.mono (T := ob A2 ++ [g9] ++ [g8]) (fun y hy => .inl (by simp at hy; simp; rcases hy with h | h <;> simp [h]))).trans hf9 (fun y hy => .inl (by simp at hy; simp [hy]))
          · intro b hb
            rcases List.mem_append.1 hb with hb | hb
            · rcases List.mem_append.1 hb with hb | hb
              · exact ⟨(hAB b hb).2, hO0.isC b hb⟩
              · simp only [List.mem_singleton] at hb; subst hb; exact ⟨hnb9, h90.isC⟩
            · simp only [List.mem_singleton] at hb; subst hb; exact ⟨hnb8, h80.isC⟩
          · rw [hfin]; exact hb8n
          · rw [hfin]; exact hO3.frm hf9 (fun y hy => by have := hO3.ne_blk hb8 (by decide); simp; rintro rfl; exact this hy)
        · skip
          rw [hl2, ← hx1, spn_next hyes hc3, hou, ← hx2] at hsp
          refine VC.skip ?_
          refine thenQ_n ?_
          refine VC.sub [(10, _), (12, _)] (.cons rfl (.cons rfl .nil)) ?_
          refine VC.region ?_
          refine Ops.r (Run.mv rfl) rfl ?_
          refine Ops.st (Acts.store rfl rfl Tryz.sizeOf3 hb10 rfl rfl) ?_
          rintro V9 ⟨hb10n, hf9, _⟩
          refine Ops.nil ?_
          refine blockQ_n (?_)
          refine ⟨⟨ob A2 ++ [g9] ++ [g10], ?_, ?_⟩, ls ++ [ll], rest, some x.2, outs2, A3, c3, hnl, hpe, by rw [hsp, ← hx3], fun b hb => by cases hb; rw [← hx3]; omega, by simp; omega, Frm.own K hf9 (fun y hy => by simp at hy; omega), hb4.frm hf9 (by simp; omega), hb7.frm hf9 (by simp; omega), hb8.frm hf9 (by simp; omega), hb9.frm hf9 (by simp; omega), ?_, hb10n, hAB3⟩
          · exact (KW.mono (T := ob A2 ++ [g9] ++ [g10]) (fun y hy => .inl (by simp at hy; simp; rcases hy with h | h <;> simp [h]))).trans hf9 (fun y hy => .inl (by simp at hy; simp [hy]))
          · intro b hb
            rcases List.mem_append.1 hb with hb | hb
            · rcases List.mem_append.1 hb with hb | hb
              · exact ⟨(hAB b hb).2, hO0.isC b hb⟩
              · simp only [List.mem_singleton] at hb; subst hb; exact ⟨hnb9, h90.isC⟩
            · simp only [List.mem_singleton] at hb; subst hb; exact ⟨hnb10, h100.isC⟩
          · exact hO3.frm hf9 (fun y hy => by have := hO3.ne_blk hb10 (by decide); simp; rintro rfl; exact this hy)
  · skip
    rintro W ⟨ls, ls2, bg, outs, A2, c2, hls, hpr, hsp, hbg, hol, K, hb4, hb7, hb8, hb9, hO, hb10, hAB⟩ hsz hmk
    obtain ⟨e1, e2⟩ := lines_doneO hls hpr
    subst e1
    have hlc := linesF_count (sliceQ q frm tu)
    rw [← e2, sliceQ_len htl] at hlc
    refine blockD_n (thenD_n ?_)
    refine DV.sub [(2, _), (8, _), (9, _), (10, _)] (.cons rfl (.cons rfl (.cons rfl (.cons rfl .nil)))) ?_
    refine DV.seq ?_
    refine DV.seq ?_
    refine DV.vc ?_
    refine VC.region ?_
    refine Ops.r (Run.load rfl Tryz.isAgg3 (hb10.cell 0)) rfl ?_
    refine Ops.r (Run.bin rfl rfl (Bin.geq _ 0)) rfl ?_
    refine Ops.nil ?_
    refine thenD_n ?_
    refine DV.sub [(2, _), (8, _), (9, _), (10, _), (47, _)] (.cons rfl (.cons rfl (.cons rfl (.cons rfl (.cons rfl .nil))))) ?_
    refine DV.vc ?_
    refine VC.condD rfl (fun hc4 => ?_) (fun hc4 => ?_)
    · skip
      obtain ⟨b0, rfl⟩ : ∃ b, bg = some b := by
        cases bg with
        | none => exact absurd hc4 (by simp [begI])
        | some b => exact ⟨b, rfl⟩
      have hfin : spansQ q bd frm tu = outs ++ [(b0, tu)] := hsp
      refine VC.region ?_
      refine Ops.r (Run.load rfl Tryz.isAgg134 (hb9.cell 0)) rfl ?_
      refine Ops.r (Run.load rfl Tryz.isAgg3 (hb10.cell 0)) rfl ?_
      refine Ops.r (Run.mv rfl) rfl ?_
      refine Ops.r (Run.buildA (evs.cons rfl (evs.cons rfl evs.nil)) zero136 Tryz.underlying136 Tryz.sizeOf3 (cells := (PN1 (b0, tu)).toArray) (by rfl)) rfl ?_
      refine Ops.m (Does.buildS1 rfl Tryz.underlying134 Tryz.sizeOf136 zero136 (by decide) (by decide) rfl rfl) rfl ?_
      rintro _ U5 ⟨rfl, hF5⟩
      have hrd := hrdN (x := (b0, tu)) hF5
      have hb4 := hb4.frm hF5.frm (by simp)
      have hb7 := hb7.frm hF5.frm (by simp)
      have hb8 := hb8.frm hF5.frm (by simp)
      have hb9 := hb9.frm hF5.frm (by simp)
      have hb10 := hb10.frm hF5.frm (by simp)
      have hO := hO.frm hF5.frm (by simp)
      have K := K.trans hF5.frm (by simp)
      have hmk := hmk.frm hF5.frm (by simp)
      have hsz5 := hF5.frm.size
      refine Ops.m (Does.app rfl rfl Tryz.underlying134 (info136) rfl (by decide) hO hrd (PN_one _) (by omega) (by omega)) rfl ?_
      rintro _ U6 ⟨A6, c6, rfl, hO6, hf6, hob6⟩
      rw [← PN_append] at hO6
      have hb8 := hb8.frm hf6 (hO.ne_blk hb8 (by decide))
      have hb9 := hb9.frm hf6 (hO.ne_blk hb9 (by decide))
      have hmk := hmk.frm hf6 (hmk.ne_own hO)
      have K5 := K
      have K := Frm.own K hf6 (fun y hy => (hAB y hy).1)
      have hub6 : ∀ y ∈ ob A6, w.heap.size ≤ y := fun y hy => by
        rcases hob6 with h | h
        · rw [h] at hy; exact (hAB y hy).1
        · rw [h] at hy; simp only [List.mem_singleton] at hy; have := K5.size; omega
      have hb9o := hb9
      refine Ops.st (Acts.store rfl rfl Tryz.sizeOf134 hb9 rfl rfl) ?_
      rintro U7 ⟨hb9n, hf7, _⟩
      have hb9 : Blk U7 g9 134 #[.slice A6 (outs ++ [(b0, tu)]).length c6] := by rw [List.length_append]; exact hb9n
      have hO : Own U7 136 2 A6 (outs ++ [(b0, tu)]).length c6 (PN (outs ++ [(b0, tu)])) := by
        rw [List.length_append]
        exact hO6.frm hf7 (fun y hy => by simp; rintro rfl; exact absurd hy (hO6.ne_blk hb9o (by decide)))
      have hb8 := hb8.frm hf7 (by simp; omega)
      have hmk := hmk.frm hf7 (by simp; exact hmk.ne_blk hb9o)
      have K := Frm.own K hf7 (fun y hy => by simp at hy; omega)
      rw [← hfin] at hb9 hO
      refine Ops.nil ?_
      refine thenD_n ?_
      refine DV.sub [(8, _), (9, _)] (.cons rfl (.cons rfl .nil)) ?_
      refine DV.seq ?_
      refine DV.vc ?_
      refine VC.region ?_
      refine Ops.r (Run.load rfl Tryz.isAgg134 (hb9.cell 0)) rfl ?_
      refine Ops.st (Acts.store rfl rfl Tryz.sizeOf134 hb8 rfl rfl) ?_
      rintro Z1 ⟨hb8n, hf_Z1, _⟩
      have hmk := hmk.frm hf_Z1 (by simp; exact hmk.ne_blk hb8)
      have hO := hO.frm hf_Z1 (fun y hy => by have := hO.ne_blk hb8 (by decide); simp; rintro rfl; exact this hy)
      have K := Frm.own K hf_Z1 (fun y hy => by simp at hy; omega)
      refine Ops.nil ?_
      refine thenD_n ?_
      refine DV.sub [(8, _)] (.cons rfl .nil) ?_
      refine DV.vc (VC.ret ?_)
      refine endD_r (by simp) (fun d hd => by simp only [List.mem_singleton] at hd; subst hd; exact hmk) (fun wz hsh => ?_)
      have hb8n := hb8n.frm hsh (by simp; omega)
      have hO := hO.frm hsh (fun y hy => by have := hmk.ne_own hO; simp; rintro rfl; exact this hy)
      have K := Frm.own K hsh (fun y hy => by have := hKs; simp at hy; omega)
      refine endR ?_
      refine res_cell rfl Tryz.isAgg134 (hb8n.cell 0) ?_
      refine res_nil ?_
      exact ⟨K, A6, c6, rfl, hO, fun x hx => by have := hub6 x hx; omega⟩
    · skip
      have hfin : spansQ q bd frm tu = outs := by
        cases bg with
        | none => exact hsp
        | some b => exact absurd (show (0 : Int) ≤ begI (some b) by simp [begI]) hc4
      refine VC.skip ?_
      refine thenD_n ?_
      refine DV.sub [(8, _), (9, _)] (.cons rfl (.cons rfl .nil)) ?_
      refine DV.seq ?_
      refine DV.vc ?_
      refine VC.region ?_
      refine Ops.r (Run.load rfl Tryz.isAgg134 (hb9.cell 0)) rfl ?_
      rw [← hfin] at hb9 hO
      refine Ops.st (Acts.store rfl rfl Tryz.sizeOf134 hb8 rfl rfl) ?_
      rintro Z1 ⟨hb8n, hf_Z1, _⟩
      have hub6 : ∀ y ∈ ob A2, w.heap.size ≤ y := fun y hy => (hAB y hy).1
      have hmk := hmk.frm hf_Z1 (by simp; exact hmk.ne_blk hb8)
      have hO := hO.frm hf_Z1 (fun y hy => by have := hO.ne_blk hb8 (by decide); simp; rintro rfl; exact this hy)
      have K := Frm.own K hf_Z1 (fun y hy => by simp at hy; omega)
      refine Ops.nil ?_
      refine thenD_n ?_
      refine DV.sub [(8, _)] (.cons rfl .nil) ?_
      refine DV.vc (VC.ret ?_)
      refine endD_r (by simp) (fun d hd => by simp only [List.mem_singleton] at hd; subst hd; exact hmk) (fun wz hsh => ?_)
      have hb8n := hb8n.frm hsh (by simp; omega)
      have hO := hO.frm hsh (fun y hy => by have := hmk.ne_own hO; simp; rintro rfl; exact this hy)
      have K := Frm.own K hsh (fun y hy => by have := hKs; simp at hy; omega)
      refine endR ?_
      refine res_cell rfl Tryz.isAgg134 (hb8n.cell 0) ?_
      refine res_nil ?_
      exact ⟨K, A2, c2, by rw [hfin]; rfl, hO, fun x hx => by have := hub6 x hx; omega⟩
  · skip
    rintro pre W ⟨_, K, A2, c2, hb8, hO, hAB⟩ hsz hmk
    refine blockD_r (thenD_r (endD_r (by simp) (fun d hd => by simp only [List.mem_singleton] at hd; subst hd; exact hmk) (fun wz hsh => ?_)))
    have hb8 := hb8.frm hsh (by simp; omega)
    have hO := hO.frm hsh (fun y hy => by have := hmk.ne_own hO; simp; rintro rfl; exact this hy)
    have K := Frm.own K hsh (fun y hy => by have := hKs; simp at hy; omega)
    refine endR ?_
    refine res_cell rfl Tryz.isAgg134 (hb8.cell 0) ?_
    refine res_nil ?_
    exact ⟨K, A2, c2, rfl, hO, fun x hx => by have := (hAB x hx).1; omega⟩
  · skip
    exact fun _ _ _ h => absurd h.1 (by simp)

set_option maxRecDepth 100000 in
theorem media_spec (A : Option Addr) (c : Nat) (q : Tx) (dg : Bool) (w : World) (hrd0 : Rd w 1 A q.length (U8 q)) (hq : q.length ≤ 500000) (hc : q.length ≤ c) :
    Calls Tryz.prog 104 #[.slice A q.length c, .bool dg] w fun e w' => Frm [] w w' ∧ ∃ A2 c2, e = .returned (.agg (MdC (mediaQ q dg) A2 c2)) ∧ Own w' 102 2 A2 (mediaQ q dg).ps.length c2 (PC (mediaQ q dg).ps) ∧ (∀ x ∈ ob A2, w.heap.size ≤ x) := by
  refine VC.calls (nt := 20) (res := #[.cell 4 67]) Tryz.func104 rfl Tryz.ntmps104 Tryz.results104 rfl ?_
  refine VC.seq ?_
  refine VC.region ?_
  refine Ops.m (Does.alloc zero67) rfl ?_
  rintro _ w1 ⟨rfl, hF1⟩
  have hb4 := hF1.blk
  have K := hF1.frm
  generalize hg4 : w.heap.size = g4 at hb4 ⊢
  refine Ops.nil ?_
  refine thenQ_n ?_
  refine VC.seq ?_
  refine VC.region ?_
  refine Ops.r (Run.mv rfl) rfl ?_
  refine Ops.cl (Enters.fn (evs.cons rfl (evs.cons rfl evs.nil)) Tryz.call58) (hfind_spec A c q ctype _ (hrd0.frm K (by simp)) hq hc (by decide)) rfl ?_
  rintro e w2 ⟨rfl, hf2⟩
  refine ⟨_, rfl, ?_⟩
  have hb4 := hb4.frm hf2 (by simp)
  have K := K.trans hf2 (by simp)
  have hfl := findF_len q ctype (fieldsQ q)
  have hmq : mediaQ q dg = if (findH q ctype).2 = false ∧ dg = true then ⟨msgT, rfcT, []⟩ else medQ (findH q ctype).1 := rfl
  have hfh : findH q ctype = findF q ctype (fieldsQ q) := rfl
  rw [← hfh] at hfl
  generalize findH q ctype = fh at *
  obtain ⟨ft, fb⟩ := fh
  dsimp only at hfl hmq
  refine Ops.r (Run.mv rfl) rfl ?_
  refine Ops.r (Run.extract rfl rfl) rfl ?_
  refine Ops.r (Run.extract rfl rfl) rfl ?_
  refine Ops.r (Run.asg rfl) rfl ?_
  refine Ops.r (Run.asg rfl) rfl ?_
  refine Ops.nil ?_
  refine thenQ_n ?_
  refine VC.sub [(1, _), (4, _), (5, _), (6, _)] (.cons rfl (.cons rfl (.cons rfl (.cons rfl .nil)))) ?_
  refine VC.seq ?_
  refine VC.seq ?_
  refine VC.split1 [(4, _), (5, _)] (.cons rfl (.cons rfl .nil)) 16 (.bool (decide (fb = false ∧ dg = true))) ?_ ?_
  · refine VC.region ?_
    refine Ops.r (Run.mv rfl) rfl ?_
    by_cases hs12 : fb = true
    · skip
      refine Ops.r (Run.not rfl) rfl ?_
      refine Ops.r (Run.mv rfl) rfl ?_
      refine Ops.sk rfl (by first | rfl | assumption | exact decide_eq_true (by assumption) | exact decide_eq_false (by assumption) | decide | (simp; done) | (simp; omega) | (simp [*]; done)) rfl ?_
      refine Ops.r (Run.pickF rfl rfl (by first | rfl | assumption | exact decide_eq_true (by assumption) | exact decide_eq_false (by assumption) | decide | (simp; done) | (simp; omega) | (simp [*]; done))) rfl ?_
      refine Ops.nil ?_
      refine thenQ_n ⟨(.cons (congrArg (fun b => some (Value.bool b)) (by first | (simp [*]; done) | (simp_all; done))) (.cons rfl (.cons rfl .nil))), rfl⟩
    · skip
      refine Ops.r (Run.not rfl) rfl ?_
      refine Ops.r (Run.mv rfl) rfl ?_
      refine Ops.rg rfl (by first | rfl | assumption | exact decide_eq_true (by assumption) | exact decide_eq_false (by assumption) | decide | (simp; done) | (simp; omega) | (simp [*]; done)) (Run.mv rfl) rfl ?_
      by_cases hs15 : dg = true
      · skip
        refine Ops.r (Run.pickT rfl rfl (by first | rfl | assumption | exact decide_eq_true (by assumption) | exact decide_eq_false (by assumption) | decide | (simp; done) | (simp; omega) | (simp [*]; done))) rfl ?_
        refine Ops.nil ?_
        refine thenQ_n ⟨(.cons (congrArg (fun b => some (Value.bool b)) (by first | (simp [*]; done) | (simp_all; done))) (.cons rfl (.cons rfl .nil))), rfl⟩
      · skip
        refine Ops.r (Run.pickT rfl rfl (by first | rfl | assumption | exact decide_eq_true (by assumption) | exact decide_eq_false (by assumption) | decide | (simp; done) | (simp; omega) | (simp [*]; done))) rfl ?_
        refine Ops.nil ?_
        refine thenQ_n ⟨(.cons (congrArg (fun b => some (Value.bool b)) (by first | (simp [*]; done) | (simp_all; done))) (.cons rfl (.cons rfl .nil))), rfl⟩
  · intro Γ hΓ
    refine thenQ_n (VC.sub _ hΓ ?_)
    refine VC.condD rfl (fun hc1 => ?_) (fun hc1 => ?_)
    · skip
      rw [if_pos hc1] at hmq
      refine VC.seq ?_
      refine VC.region ?_
      refine Ops.r (Run.build (evs.cons rfl (evs.cons rfl evs.nil)) zero67 (places67).choose_spec.1 (places67).choose_spec.2 rfl) rfl ?_
      refine Ops.st (Acts.storeA rfl rfl Tryz.sizeOf67 hb4 rfl (MdC_one ⟨msgT, rfcT, []⟩ none 0)) ?_
      rintro w3 ⟨hb4n, hf3, _⟩
      have hb4n : Blk w3 g4 67 (MdC ⟨msgT, rfcT, []⟩ none 0) := hb4n
      have K := Frm.own K hf3 (fun y hy => by simp at hy; omega)
      refine Ops.nil ?_
      refine thenQ_n ?_
      refine VC.sub [(4, _)] (.cons rfl .nil) ?_
      refine VC.ret ?_
      refine thenQ_r (endR ?_)
      refine res_cellA rfl Tryz.isAgg67 Tryz.sizeOf67 (fun j v hj => hb4n.cells j v hj) (by first | rfl | (simp; done)) ?_
      refine res_nil ?_
      rw [hmq]
      exact ⟨K, none, 0, rfl, Own.nil _ _ _, by simp [ob]⟩
    · skip
      rw [if_neg hc1] at hmq
      refine VC.skip ?_
      refine thenQ_n ?_
      refine VC.sub [(4, _), (5, _)] (.cons rfl (.cons rfl .nil)) ?_
      refine VC.seq ?_
      refine VC.region ?_
      refine Ops.r (Run.mv rfl) rfl ?_
      refine Ops.cl (Enters.fn (evs.cons rfl evs.nil) Tryz.call139) (read_spec ft _ (by omega)) rfl ?_
      rintro e w4 ⟨hf4, A2, c2, rfl, hO, hub⟩
      refine ⟨_, rfl, ?_⟩
      have hs2 := K.size
      have hb4 := hb4.frm hf4 (by simp)
      have K := K.trans hf4 (by simp)
      refine Ops.st (Acts.storeA rfl rfl Tryz.sizeOf67 hb4 rfl (MdC_one (medQ ft) A2 c2)) ?_
      rintro w5 ⟨hb4n, hf5, _⟩
      have hb4n : Blk w5 g4 67 (MdC (medQ ft) A2 c2) := hb4n
      have hO := hO.frm hf5 (fun y hy => by have := hO.ne_blk hb4 (by decide); simp; rintro rfl; exact this hy)
      have K := Frm.own K hf5 (fun y hy => by simp at hy; omega)
      refine Ops.nil ?_
      refine thenQ_n ?_
      refine VC.sub [(4, _)] (.cons rfl .nil) ?_
      refine VC.ret ?_
      refine endR ?_
      refine res_cellA rfl Tryz.isAgg67 Tryz.sizeOf67 (fun j v hj => hb4n.cells j v hj) (by first | rfl | (simp; done)) ?_
      refine res_nil ?_
      rw [hmq]
      exact ⟨K, A2, c2, rfl, hO, fun x hx => by have := hub x hx; omega⟩

end Go.Proofs.YtenbjndldenkfaaGreatDoor
