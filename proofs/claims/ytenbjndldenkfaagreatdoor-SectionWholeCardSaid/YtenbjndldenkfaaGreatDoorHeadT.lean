/-
  The fields of a header.
-/
import Derived.Test.YtenbjndldenkfaaGreatDoorHeadU
namespace Go.Proofs.YtenbjndldenkfaaGreatDoor
open Go.RowKit Go.Sort

def FC1 (f : Fld) : List Value := [encStr f.name, .int .i64 ((f.frm : Nat) : Int), .int .i64 ((f.tu : Nat) : Int), .int .i64 ((f.at_ : Nat) : Int)]
theorem FC1_len (f : Fld) : (FC1 f).length = 4 := rfl
theorem FC1_one (f : Fld) : ∀ u ∈ FC1 f, u.oneCell' = true := by
  intro u hu
  simp only [FC1, List.mem_cons, List.not_mem_nil, or_false] at hu
  rcases hu with rfl | rfl | rfl | rfl <;> rfl
def FC (l : List Fld) : List Value := l.flatMap FC1
theorem FC_append (a b : List Fld) : FC (a ++ b) = FC a ++ FC b := by simp [FC]
theorem FC_len (l : List Fld) : (FC l).length = l.length * 4 := flat_len FC1 4 FC1_len l
theorem FC_one (l : List Fld) : ∀ u ∈ FC l, u.oneCell' = true := flat_one FC1 FC1_one l
theorem FC_at {w : World} {A : Option Addr} {l : List Fld} {k : Nat} (h : Rd w 4 A l.length (FC l)) (hk : k < l.length) : ∃ ad, A = some ad ∧ ∀ j v, (FC1 l[k])[j]? = some v → w.cell? ((ad.add (k * 4)).add j) = some v := by
  obtain ⟨ad, rfl, hc⟩ := h.elem hk
  refine ⟨ad, rfl, fun j v hj => hc j v ?_⟩
  rw [show FC l = l.flatMap FC1 from rfl, flat_get FC1 4 FC1_len l k hk]
  exact hj
theorem hrdF {w w' : World} {t : TypeId} {x : Fld} (h : Fresh w w' t (FC1 x).toArray) : Rd w' 4 (some ⟨w.heap.size, 0, none⟩) 1 (FC [x]) := Rd.of_blk (n := 1) (size := 4) h.blk rfl
theorem FC_set (t : List Fld) (f : Fld) (n : Nat) : (FC (t ++ [f])).set (t.length * 4 + 2) (.int .i64 ((n : Nat) : Int)) = FC (t ++ [⟨f.name, f.frm, n, f.at_⟩]) := by
  rw [FC_append, FC_append, ← FC_len t, List.set_append_right _ _ (by omega), show (FC t).length + 2 - (FC t).length = 2 by omega]
  rfl
def FdI (w : World) (q hd : Tx) (gb g2 g3 g4 : Nat) (A : Option Addr) (c : Nat) (Bt : List Nat) (pre : List (Nat × Nat)) (W : World) : Prop :=
  ∃ (ls ls2 : List Tx) (out : List Fld) (op : Bool) (A2 : Option Addr) (c2 : Nat), linesF hd = ls ++ ls2 ∧ pre = offsF 0 ls ∧ fldL 0 false [] (linesF hd) = fldL ls.flatten.length op out ls2 ∧ (op = true → out ≠ []) ∧ out.length ≤ ls.length ∧ Frm [] w W ∧
    Blk W gb 22 #[.slice A q.length c] ∧ Blk W g2 42 #[.slice none 0 0] ∧ Blk W g3 42 #[.slice A2 out.length c2] ∧ Own W 45 4 A2 out.length c2 (FC out) ∧ Blk W g4 4 #[.bool op] ∧ ∀ x ∈ ob A2, w.heap.size ≤ x ∧ x ∉ Bt
def FdX (w : World) (q : Tx) (g2 : Nat) (Bt : List Nat) (e : Exit) (_pre : List (Nat × Nat)) (W : World) : Prop :=
  e = .ret ∧ Frm [] w W ∧ ∃ A2 c2, Blk W g2 42 #[.slice A2 (fieldsQ q).length c2] ∧ Own W 45 4 A2 (fieldsQ q).length c2 (FC (fieldsQ q)) ∧ ∀ x ∈ ob A2, w.heap.size ≤ x ∧ x ∉ Bt
theorem fld_empty {o : Nat} {op : Bool} {out : List Fld} {l : Tx} {r : List Tx} (h : EmptyL l) : fldL o op out (l :: r) = out := by rw [fldL, if_pos h]
theorem fld_blank {o : Nat} {op : Bool} {out : List Fld} {l : Tx} {r : List Tx} (h : ¬ EmptyL l) (hb : ∃ c, l.head? = some c ∧ Bl c) : fldL o op out (l :: r) = fldL (o + l.length) op (if op then setTo out (o + l.length) else out) r := by rw [fldL, if_neg h, if_pos hb]
theorem fld_no {o : Nat} {op : Bool} {out : List Fld} {l : Tx} {r : List Tx} (h : ¬ EmptyL l) (hb : ¬ ∃ c, l.head? = some c ∧ Bl c) (hn : beginQ l = none) : fldL o op out (l :: r) = fldL (o + l.length) false out r := by rw [fldL, if_neg h, if_neg hb, hn]
theorem fld_yes {o : Nat} {op : Bool} {out : List Fld} {l n : Tx} {k : Nat} {r : List Tx} (h : ¬ EmptyL l) (hb : ¬ ∃ c, l.head? = some c ∧ Bl c) (hn : beginQ l = some (n, k)) : fldL o op out (l :: r) = fldL (o + l.length) true (out ++ [⟨n, o, o + l.length, o + k⟩]) r := by rw [fldL, if_neg h, if_neg hb, hn]

set_option maxRecDepth 100000 in
theorem fields_spec (A : Option Addr) (c : Nat) (q : Tx) (w : World) (hrd0 : Rd w 1 A q.length (U8 q)) (hq : q.length ≤ 500000) (hc : q.length ≤ c) :
    Calls Tryz.prog 23 #[.slice A q.length c] w fun e w' => Frm [] w w' ∧ ∃ A2 c2, e = .returned (.slice A2 (fieldsQ q).length c2) ∧ Own w' 45 4 A2 (fieldsQ q).length c2 (FC (fieldsQ q)) ∧ ∀ x ∈ ob A2, w.heap.size ≤ x := by
  have K := Frm.refl [] w
  have hsl0 := splitQ_le q
  have hhl : (q.take (splitQ q)).length = splitQ q := by rw [List.length_take]; omega
  refine DV.calls (nt := 58) (res := #[.cell 2 42]) Tryz.func23 rfl Tryz.ntmps23 Tryz.results23 rfl ?_
  refine DV.seq ?_
  refine DV.vc ?_
  refine VC.region ?_
  refine Ops.m (Does.box rfl) rfl ?_
  rintro _ w1 ⟨rfl, hF_w1⟩
  have hb1 := hF_w1.blk
  have hs1_K := K.size
  have K := Frm.trans K hF_w1.frm (by simp)
  generalize hg1 : w.heap.size = g1 at hb1 hs1_K ⊢
  refine Ops.m (Does.alloc zero42) rfl ?_
  rintro _ w2 ⟨rfl, hF_w2⟩
  have hb2 := hF_w2.blk
  have hs2_K := K.size
  have lt_hb1_2 := hb1.lt
  have hb1 := hb1.frm hF_w2.frm (by simp)
  have K := Frm.trans K hF_w2.frm (by simp)
  generalize hg2 : w1.heap.size = g2 at hb2 hs2_K lt_hb1_2 ⊢
  refine Ops.nil ?_
  refine thenD_n ?_
  refine DV.sub [(1, _), (2, _)] (.cons rfl (.cons rfl .nil)) ?_
  refine DV.seq ?_
  refine DV.vc ?_
  refine VC.region ?_
  refine Ops.m (Does.alloc zero42) rfl ?_
  rintro _ w3 ⟨rfl, hF_w3⟩
  have hb3 := hF_w3.blk
  have hs3_K := K.size
  have lt_hb1_3 := hb1.lt
  have lt_hb2_3 := hb2.lt
  have hb1 := hb1.frm hF_w3.frm (by simp)
  have hb2 := hb2.frm hF_w3.frm (by simp)
  have K := Frm.trans K hF_w3.frm (by simp)
  generalize hg3 : w2.heap.size = g3 at hb3 hs3_K lt_hb1_3 lt_hb2_3 ⊢
  refine Ops.nil ?_
  refine thenD_n ?_
  refine DV.seq ?_
  refine DV.vc ?_
  refine VC.region ?_
  refine Ops.m (Does.alloc zero4) rfl ?_
  rintro _ w4 ⟨rfl, hF_w4⟩
  have hb4 := hF_w4.blk
  have hs4_K := K.size
  have lt_hb1_4 := hb1.lt
  have lt_hb2_4 := hb2.lt
  have lt_hb3_4 := hb3.lt
  have hb1 := hb1.frm hF_w4.frm (by simp)
  have hb2 := hb2.frm hF_w4.frm (by simp)
  have hb3 := hb3.frm hF_w4.frm (by simp)
  have K := Frm.trans K hF_w4.frm (by simp)
  generalize hg4 : w3.heap.size = g4 at hb4 hs4_K lt_hb1_4 lt_hb2_4 lt_hb3_4 ⊢
  refine Ops.st (Acts.store rfl rfl Tryz.sizeOf4 hb4 rfl rfl) ?_
  rintro w5 ⟨hbn_w5, hf_w5, hsz_w5⟩
  have hb1 := hb1.frm hf_w5 (by simp; omega)
  have hb2 := hb2.frm hf_w5 (by simp; omega)
  have hb3 := hb3.frm hf_w5 (by simp; omega)
  have hb4 : Blk w5 g4 4 (#[.bool false]) := hbn_w5
  have K := Frm.own K hf_w5 (fun y hy => by simp at hy; omega)
  refine Ops.nil ?_
  refine thenD_n ?_
  refine DV.seq ?_
  refine DV.seq ?_
  refine DV.vc ?_
  refine VC.held (fun W => Frm [] w5 W) (by kernel_rfl) ?_
  have hS : Frm [] w5 w5.drew := (Frm.refl [] w5).drew
  have hb1v := hb1
  have hb1 := hb1.frm hS (by simp)
  have hb2 := hb2.frm hS (by simp)
  have hb3 := hb3.frm hS (by simp)
  have hb4 := hb4.frm hS (by simp)
  have K := K.drew
  refine HOps.take 0 rfl (by kernel_rfl) (by kernel_rfl) (by kernel_rfl) hS (fun w0 hw0 => Run.load rfl Tryz.isAgg22 ((hb1v.frm hw0 (by simp)).cell 0)) trivial rfl rfl ?_
  refine HOps.take 1 rfl (by kernel_rfl) (by kernel_rfl) (by kernel_rfl) hS (fun w0 hw0 => Run.load rfl Tryz.isAgg22 ((hb1v.frm hw0 (by simp)).cell 0)) trivial rfl rfl ?_
  refine HOps.cl 2 rfl (by kernel_rfl) (Enters.fn (evs.cons rfl evs.nil) Tryz.call51) (split_spec A c q _ (hrd0.frm K (by simp)) (by omega) hc) trivial rfl rfl ?_
  rintro e w6 ⟨rfl, hf_w6⟩
  have hb1 := hb1.frm hf_w6 (by simp)
  have hb2 := hb2.frm hf_w6 (by simp)
  have hb3 := hb3.frm hf_w6 (by simp)
  have hb4 := hb4.frm hf_w6 (by simp)
  have K := Frm.trans K hf_w6 (by simp)
  have hS := Frm.trans hS hf_w6 (by simp)
  refine ⟨_, rfl, hS, ?_⟩
  refine HOps.take 3 rfl (by kernel_rfl) (by kernel_rfl) (by kernel_rfl) hS (fun w0 hw0 => Run.sliceS 0 (splitQ q) rfl Tryz.underlying22 Tryz.sizeOf5 evB.none_ (evB.some_ rfl) (Nat.zero_le _) (by omega)) trivial rfl rfl ?_
  rw [show splitQ q - 0 = (q.take (splitQ q)).length by rw [hhl]; rfl]
  refine HOps.cl 4 rfl (by kernel_rfl) (Enters.fn (evs.cons rfl evs.nil) Tryz.call50) (hlines_spec (cutA A c 0 1) (q.take (splitQ q)).length (c - 0) _) trivial rfl rfl ?_
  rintro e w7 ⟨hf_w7, gl, rfl, hpl, hgl, hgl2⟩
  have l1 := hb1.lt
  have l2 := hb2.lt
  have l3 := hb3.lt
  have l4 := hb4.lt
  have hb1 := hb1.frm hf_w7 (by simp)
  have hb2 := hb2.frm hf_w7 (by simp)
  have hb3 := hb3.frm hf_w7 (by simp)
  have hb4 := hb4.frm hf_w7 (by simp)
  have K := Frm.trans K hf_w7 (by simp)
  have hS := Frm.trans hS hf_w7 (by simp)
  have hA : 0 < q.length → ∀ x ∈ ob A, x < w.heap.size := fun hn => hrd0.lt hn
  have hrh : Rd w 1 (cutA A c 0 1) (q.take (splitQ q)).length (U8 (q.take (splitQ q))) := by
    have := U8_cut hrd0 (Nat.zero_le _) hsl0 hc
    rwa [show sliceQ q 0 (splitQ q) = q.take (splitQ q) by unfold sliceQ; simp] at this
  have hAh : ∀ x ∈ obN (cutA A c 0 1) (q.take (splitQ q)).length, x < w.heap.size := fun x hx => by
    obtain ⟨hn, hx2⟩ := obN_mem hx
    rw [ob_cutA] at hx2
    exact hA (by omega) x hx2
  refine ⟨_, rfl, hS, ?_⟩
  refine HOps.done (by kernel_rfl) ?_
  refine thenD_n ?_
  refine DV.sub [(1, _), (2, _), (3, _), (4, _), (15, _)] (.cons rfl (.cons rfl (.cons rfl (.cons rfl (.cons rfl .nil))))) ?_
  refine DV.block ?_
  have hKs := K.size
  refine DV.range (ps := [16, 17]) (fun x : Nat × Nat => [.int .i64 ((x.1 : Nat) : Int), .int .i64 ((x.2 : Nat) : Int)]) (hlines_iter (q.take (splitQ q)) (cutA A c 0 1) (c - 0) gl (by omega) (by omega)) rfl Tryz.call86 (fun _ => rfl) rfl (FdI w q (q.take (splitQ q)) g1 g2 g3 g4 A c (gl :: obN (cutA A c 0 1) (q.take (splitQ q)).length)) (FdX w q g2 (gl :: obN (cutA A c 0 1) (q.take (splitQ q)).length)) (fun x => [(1, .pointer (some ⟨g1, 0, none⟩)), (2, .pointer (some ⟨g2, 0, none⟩)), (3, .pointer (some ⟨g3, 0, none⟩)), (4, .pointer (some ⟨g4, 0, none⟩)), (5, .int .i64 ((x.1 : Nat) : Int)), (6, .int .i64 ((x.2 : Nat) : Int))]) ?_ ?_ ?_ ?_ ?_ ?_ ?_ ?_ ?_ ?_ ?_
  · skip
    rintro pre W W' S ⟨ls, ls2, outs, op, A2, c2, h1, h2, h3, h4, h5, h6, h7, h8, h9, h10, h11, h12⟩ hf hS
    exact ⟨ls, ls2, outs, op, A2, c2, h1, h2, h3, h4, h5, h6.nc hf hS (by simp) K.size, h7.frm hf (h7.nc hS (by simp)), h8.frm hf (h8.nc hS (by simp)), h9.frm hf (h9.nc hS (by simp)), h10.frm hf (h10.nc hS (by simp)), h11.frm hf (h11.nc hS (by simp)), h12⟩
  · skip
    rintro e pre W W' S ⟨h1, h2, A2, c2, h3, h4, h5⟩ hf hS
    exact ⟨h1, h2.nc hf hS (by simp) K.size, A2, c2, h3.frm hf (h3.nc hS (by simp)), h4.frm hf (h4.nc hS (by simp)), h5⟩
  · skip
    exact fun W hf => ⟨hpl.frm hf (by simp), (hrh.frm K (by simp)).frm hf (by simp)⟩
  · skip
    simp
  · skip
    intro b hb
    simp only [List.mem_cons] at hb
    rcases hb with rfl | hb
    · exact hgl2
    · have := hAh b hb; omega
  · skip
    exact ⟨[], linesF (q.take (splitQ q)), [], false, none, 0, rfl, rfl, rfl, (fun h => by cases h), by simp, K, hb1, hb2, hb3, Own.nil _ _ _, hb4, by simp [ob]⟩
  · intro l x W
    refine VC.sub [(1, _), (2, _), (3, _), (4, _), (16, _), (17, _)] (.cons rfl (.cons rfl (.cons rfl (.cons rfl (.cons rfl (.cons rfl .nil)))))) ?_
    refine VC.seq ?_
    refine VC.region ?_
    refine Ops.r (Run.asg rfl) rfl ?_
    refine Ops.nil ?_
    refine thenQ_n ?_
    refine VC.sub [(1, _), (2, _), (3, _), (4, _), (5, _), (17, _)] (.cons rfl (.cons rfl (.cons rfl (.cons rfl (.cons rfl (.cons rfl .nil)))))) ?_
    refine VC.region ?_
    refine Ops.r (Run.asg rfl) rfl ?_
    refine Ops.nil ?_
    refine thenQ_n ⟨rfl, (.cons rfl (.cons rfl (.cons rfl (.cons rfl (.cons rfl (.cons rfl .nil))))))⟩
  · skip
    rintro l pre x W ⟨ls, ls2, outs, op, A2, c2, hls, hpr, hfl, hop, hol2, K, hb1, hb2, hb3, hO, hb4, hAB⟩ hpre hsz hmk
    obtain ⟨ll, rest, hl2, hx, hpe, hnl, hsl, hx1, hx2, hne, hxe⟩ := lines_next hls hpr hpre
    have hxo : ls.flatten.length + ll.length = (ls ++ [ll]).flatten.length := by simp
    have hx1e : x.1 = ls.flatten.length := by rw [hx]
    have hx2s : x.2 ≤ splitQ q := by omega
    have hll : x.2 - x.1 = ll.length := by rw [hx]; omega
    have hslq : sliceQ q x.1 x.2 = ll := by
      rw [← hsl]
      unfold sliceQ
      rw [List.drop_take, List.take_take, Nat.min_eq_left (by omega)]
    have hcut : Rd W 1 (cutA A c x.1 1) ll.length (U8 ll) := by
      have := U8_cut (hrd0.frm K (by simp)) hx1 (by omega) hc
      rwa [hslq] at this
    have hlc := linesF_count (q.take (splitQ q))
    rw [hls] at hlc
    simp only [List.length_append] at hlc
    have hn2 : g2 ∉ (gl :: obN (cutA A c 0 1) (q.take (splitQ q)).length) := by
      simp only [List.mem_cons, not_or]
      exact ⟨by omega, fun hm => by have := hAh _ hm; omega⟩
    have hn3 : g3 ∉ (gl :: obN (cutA A c 0 1) (q.take (splitQ q)).length) := by
      simp only [List.mem_cons, not_or]
      exact ⟨by omega, fun hm => by have := hAh _ hm; omega⟩
    have hn4 : g4 ∉ (gl :: obN (cutA A c 0 1) (q.take (splitQ q)).length) := by
      simp only [List.mem_cons, not_or]
      exact ⟨by omega, fun hm => by have := hAh _ hm; omega⟩
    have h20 := hb2
    have h30 := hb3
    have h40 := hb4
    have hO0 := hO
    refine VC.block ?_
    refine VC.seq ?_
    refine VC.region ?_
    refine Ops.r (Run.load rfl Tryz.isAgg22 (hb1.cell 0)) rfl ?_
    refine Ops.r (Run.mv rfl) rfl ?_
    refine Ops.r (Run.mv rfl) rfl ?_
    refine Ops.r (Run.sliceS x.1 x.2 rfl Tryz.underlying22 Tryz.sizeOf5 (evB.some_ rfl) (evB.some_ rfl) (by omega) (by omega)) rfl ?_
    rw [hll]
    refine Ops.r (Run.asg rfl) rfl ?_
    refine Ops.nil ?_
    refine thenQ_n ?_
    refine VC.sub [(2, _), (3, _), (4, _), (5, _), (6, _), (7, _)] (.cons rfl (.cons rfl (.cons rfl (.cons rfl (.cons rfl (.cons rfl .nil)))))) ?_
    refine VC.seq ?_
    refine VC.block ?_
    refine VC.seq ?_
    refine VC.region ?_
    refine Ops.r (Run.mv rfl) rfl ?_
    refine Ops.cl (Enters.fn (evs.cons rfl evs.nil) Tryz.call52) (empty_spec _ _ ll _ hcut) rfl ?_
    rintro e _ ⟨rfl, rfl⟩
    refine ⟨_, rfl, ?_⟩
    refine Ops.r (Run.asg rfl) rfl ?_
    refine Ops.nil ?_
    refine thenQ_n ?_
    refine VC.sub [(2, _), (3, _), (4, _), (5, _), (6, _), (7, _), (22, _)] (.cons rfl (.cons rfl (.cons rfl (.cons rfl (.cons rfl (.cons rfl (.cons rfl .nil))))))) ?_
    refine VC.condB rfl (fun hc1 => ?_) (fun hc1 => ?_)
    · skip
      refine VC.seq ?_
      refine VC.region ?_
      refine Ops.r (Run.load rfl Tryz.isAgg42 (hb3.cell 0)) rfl ?_
      refine Ops.st (Acts.store rfl rfl Tryz.sizeOf42 hb2 rfl rfl) ?_
      rintro W3 ⟨hb2n, hf3, _⟩
      refine Ops.nil ?_
      refine thenQ_n ?_
      refine VC.sub [(2, _)] (.cons rfl .nil) ?_
      refine VC.ret ?_
      refine blockQ_r (thenQ_r (blockQ_r (?_)))
      have hem : EmptyL ll := of_decide_eq_true hc1
      have hfin : fieldsQ q = outs := by unfold fieldsQ; rw [hfl, hl2, fld_empty hem]
      refine ⟨⟨[g2], ((Frm.refl [] W).mono (T := [g2]) (by simp)).trans hf3 (by simp), ?_⟩, rfl, Frm.own K hf3 (fun y hy => by simp at hy; omega), A2, c2, ?_, ?_, hAB⟩
      · intro b hb
        simp only [List.mem_singleton] at hb
        subst hb
        exact ⟨hn2, h20.isC⟩
      · rw [hfin]; exact hb2n
      · rw [hfin]; exact hO.frm hf3 (fun y hy => by have := hO.ne_blk hb2 (by decide); simp; rintro rfl; exact this hy)
    · skip
      have hnem : ¬ EmptyL ll := of_decide_eq_false hc1
      obtain ⟨z, lt, rfl⟩ : ∃ z lt, ll = z :: lt := by
        cases ll with
        | nil => exact absurd rfl hne
        | cons a r => exact ⟨a, r, rfl⟩
      obtain ⟨adz, hAz, hcz⟩ := U8_at hcut (k := 0) (by simp)
      have hcz : W.cell? (adz.add 0) = some (.int .u8 ((z.toNat : Nat) : Int)) := hcz
      refine VC.seq ?_
      refine VC.region ?_
      refine Ops.r (Run.mv rfl) rfl ?_
      refine Ops.r (Run.index1 0 (by rw [← hAz]; rfl) rfl Tryz.underlying22 Tryz.sizeOf5 (by simp)) rfl ?_
      refine Ops.r (Run.load rfl Tryz.isAgg5 hcz) rfl ?_
      refine Ops.cl (Enters.fn (evs.cons rfl evs.nil) Tryz.call53) (hblank_spec z _) rfl ?_
      rintro e _ ⟨rfl, rfl⟩
      refine ⟨_, rfl, ?_⟩
      refine Ops.r (Run.asg rfl) rfl ?_
      refine Ops.nil ?_
      refine thenQ_n ?_
      refine VC.sub [(3, _), (4, _), (5, _), (6, _), (7, _), (26, _)] (.cons rfl (.cons rfl (.cons rfl (.cons rfl (.cons rfl (.cons rfl .nil)))))) ?_
      refine VC.condB rfl (fun hc2 => ?_) (fun hc2 => ?_)
      · skip
        have hbl : ∃ c, (z :: lt).head? = some c ∧ Bl c := ⟨z, rfl, of_decide_eq_true hc2⟩
        rw [hl2, fld_blank hnem hbl] at hfl
        refine VC.seq ?_
        refine VC.seq ?_
        refine VC.region ?_
        refine Ops.r (Run.load rfl Tryz.isAgg4 (hb4.cell 0)) rfl ?_
        refine Ops.nil ?_
        refine thenQ_n ?_
        refine VC.sub [(3, _), (6, _), (31, _)] (.cons rfl (.cons rfl (.cons rfl .nil))) ?_
        refine VC.condB rfl (fun hc3 => ?_) (fun hc3 => ?_)
        · skip
          subst hc3
          obtain ⟨t, f, rfl⟩ : ∃ t f, outs = t ++ [f] := by
            rcases List.eq_nil_or_concat outs with h | ⟨t, f, h⟩
            · exact absurd h (hop rfl)
            · exact ⟨t, f, by rw [h, List.concat_eq_append]⟩
          rw [if_pos rfl, setTo_snoc, hxo] at hfl
          have hpos : 0 < (t ++ [f]).length := by simp
          obtain ⟨ad2, rfl, _⟩ := FC_at hO.rd hpos
          have hol : (t ++ [f]).length = t.length + 1 := by simp
          refine VC.region ?_
          refine Ops.r (Run.load rfl Tryz.isAgg42 (hb3.cell 0)) rfl ?_
          refine Ops.r (Run.load rfl Tryz.isAgg42 (hb3.cell 0)) rfl ?_
          refine Ops.r (Run.lenS rfl Tryz.underlying42) rfl ?_
          refine Ops.r (Run.bin rfl rfl (Bin.subN (t ++ [f]).length 1 (by omega) (by simp [bmax]; omega))) rfl ?_
          refine Ops.r (Run.mv rfl) rfl ?_
          refine Ops.r (Run.indexS ((t ++ [f]).length - 1) rfl rfl Tryz.underlying42 Tryz.sizeOf45 (show (t ++ [f]).length - 1 < (t ++ [f]).length by omega)) rfl ?_
          refine Ops.r (Run.fieldAddr rfl Tryz.underlying45 rfl Tryz.sizeOf3 (by decide)) rfl ?_
          refine Ops.st (Acts.storeOwn (((t ++ [f]).length - 1) * 4 + 2) (congrArg (fun a => some (Value.pointer (some a))) (add_add ad2 _ 2)) rfl Tryz.sizeOf3 hO rfl (by omega) rfl) ?_
          rintro W4 ⟨hO4, hf4, _⟩
          rw [show ((t ++ [f]).length - 1) * 4 + 2 = t.length * 4 + 2 by rw [hol]; rfl, FC_set] at hO4
          have hO4 : Own W4 45 4 (some ad2) (t ++ [(⟨f.name, f.frm, x.2, f.at_⟩ : Fld)]).length c2 (FC (t ++ [⟨f.name, f.frm, x.2, f.at_⟩])) := by
            rw [show (t ++ [(⟨f.name, f.frm, x.2, f.at_⟩ : Fld)]).length = (t ++ [f]).length by simp]
            exact hO4
          rw [hxe] at hO4
          refine Ops.nil ?_
          refine thenQ_n ?_
          refine VC.sub [] .nil ?_
          refine VC.exit ?_
          refine blockQ_o rfl (thenQ_x (blockQ_x ?_))
          refine ⟨⟨ob (some ad2), hf4, fun b hb => ⟨(hAB b hb).2, hO0.isC b hb⟩⟩, ls ++ [z :: lt], rest, _, true, some ad2, c2, hnl, hpe, hfl, (fun _ => by simp), by simp at hol2 ⊢; omega, Frm.own K hf4 (fun y hy => (hAB y hy).1), ?_, ?_, ?_, hO4, ?_, hAB⟩
          · exact hb1.frm hf4 (hO.ne_blk hb1 (by decide))
          · exact hb2.frm hf4 (hO.ne_blk hb2 (by decide))
          · rw [show (t ++ [(⟨f.name, f.frm, (ls ++ [z :: lt]).flatten.length, f.at_⟩ : Fld)]).length = (t ++ [f]).length by simp]
            exact hb3.frm hf4 (hO.ne_blk hb3 (by decide))
          · exact hb4.frm hf4 (hO.ne_blk hb4 (by decide))
        · skip
          subst hc3
          rw [if_neg (by simp), hxo] at hfl
          refine VC.skip ?_
          refine thenQ_n ?_
          refine VC.sub [] .nil ?_
          refine VC.exit ?_
          refine blockQ_o rfl (thenQ_x (blockQ_x ?_))
          exact ⟨.frm0 (Frm.refl _ _), ls ++ [z :: lt], rest, outs, false, A2, c2, hnl, hpe, hfl, (fun h => by cases h), by simp; omega, K, hb1, hb2, hb3, hO, hb4, hAB⟩
      · skip
        have hnb : ¬ ∃ c, (z :: lt).head? = some c ∧ Bl c := fun ⟨c, h1, h2⟩ => by cases h1; exact absurd h2 (of_decide_eq_false hc2)
        have hfl0 := hfl
        rw [hl2] at hfl0
        refine VC.skip ?_
        refine blockQ_n (thenQ_n ?_)
        refine VC.sub [(3, _), (4, _), (5, _), (6, _), (7, _)] (.cons rfl (.cons rfl (.cons rfl (.cons rfl (.cons rfl .nil))))) ?_
        refine VC.seq ?_
        refine VC.region ?_
        refine Ops.r (Run.mv rfl) rfl ?_
        refine Ops.cl (Enters.fn (evs.cons rfl evs.nil) Tryz.call54) (begin_spec _ _ (z :: lt) _ hcut (by omega) (by omega)) rfl ?_
        rintro e _ ⟨rfl, rfl⟩
        refine ⟨_, rfl, ?_⟩
        have hbV : beginV (z :: lt) = match beginQ (z :: lt) with
          | none => .tuple #[encStr [], .int .i64 ((0 : Nat) : Int), .bool false]
          | some (n, k) => .tuple #[encStr n, .int .i64 ((k : Nat) : Int), .bool true] := rfl
        obtain ⟨nm, at_, isb, hbe, hbi⟩ : ∃ (nm : Tx) (k : Nat) (b : Bool), beginV (z :: lt) = .tuple #[encStr nm, .int .i64 ((k : Nat) : Int), .bool b] ∧ ((b = true ∧ beginQ (z :: lt) = some (nm, k)) ∨ (b = false ∧ beginQ (z :: lt) = none ∧ k = 0)) := by
          rw [hbV]
          cases hq2 : beginQ (z :: lt) with
          | none => exact ⟨[], 0, false, rfl, .inr ⟨rfl, rfl, rfl⟩⟩
          | some p => exact ⟨p.1, p.2, true, rfl, .inl ⟨rfl, rfl⟩⟩
        rw [hbe]
        refine Ops.r (Run.mv rfl) rfl ?_
        refine Ops.r (Run.extract rfl rfl) rfl ?_
        refine Ops.r (Run.extract rfl rfl) rfl ?_
        refine Ops.r (Run.extract rfl rfl) rfl ?_
        refine Ops.r (Run.asg rfl) rfl ?_
        refine Ops.r (Run.asg rfl) rfl ?_
        refine Ops.r (Run.asg rfl) rfl ?_
        refine Ops.nil ?_
        refine thenQ_n ?_
        refine VC.sub [(3, _), (4, _), (5, _), (6, _), (8, _), (9, _), (10, _)] (.cons rfl (.cons rfl (.cons rfl (.cons rfl (.cons rfl (.cons rfl (.cons rfl .nil))))))) ?_
        refine VC.seq ?_
        refine VC.region ?_
        refine Ops.r (Run.mv rfl) rfl ?_
        refine Ops.st (Acts.store rfl rfl Tryz.sizeOf4 hb4 rfl rfl) ?_
        rintro W5 ⟨hb4n, hf5, _⟩
        have hb4n : Blk W5 g4 4 #[.bool isb] := hb4n
        have hb1 := hb1.frm hf5 (by simp; omega)
        have hb2 := hb2.frm hf5 (by simp; omega)
        have hb3 := hb3.frm hf5 (by simp; omega)
        have hO := hO.frm hf5 (fun y hy => by have := hO.ne_blk hb4 (by decide); simp; rintro rfl; exact this hy)
        have K := Frm.own K hf5 (fun y hy => by simp at hy; omega)
        have KW := ((Frm.refl [] W).mono (T := [g4]) (by simp)).trans hf5 (by simp)
        refine Ops.nil ?_
        refine thenQ_n ?_
        refine VC.sub [(3, _), (5, _), (6, _), (8, _), (9, _), (10, _)] (.cons rfl (.cons rfl (.cons rfl (.cons rfl (.cons rfl (.cons rfl .nil)))))) ?_
        refine VC.seq ?_
        refine VC.region ?_
        refine Ops.r (Run.mv rfl) rfl ?_
        refine Ops.nil ?_
        refine thenQ_n ?_
        refine VC.sub [(3, _), (5, _), (6, _), (8, _), (9, _), (46, _)] (.cons rfl (.cons rfl (.cons rfl (.cons rfl (.cons rfl (.cons rfl .nil)))))) ?_
        refine VC.condB rfl (fun hc4 => ?_) (fun hc4 => ?_)
        · skip
          subst hc4
          have hbq := (hbi.resolve_right (fun h => by cases h.1)).2
          have hbl := beginQ_lt hbq
          rw [fld_yes hnem hnb hbq, hxo, ← hx1e, ← hxe] at hfl0
          refine VC.region ?_
          refine Ops.r (Run.load rfl Tryz.isAgg42 (hb3.cell 0)) rfl ?_
          refine Ops.r (Run.mv rfl) rfl ?_
          refine Ops.r (Run.mv rfl) rfl ?_
          refine Ops.r (Run.mv rfl) rfl ?_
          refine Ops.r (Run.mv rfl) rfl ?_
          refine Ops.r (Run.mv rfl) rfl ?_
          refine Ops.r (Run.bin rfl rfl (Bin.add_i64 _ _ (by omega))) rfl ?_
          refine Ops.r (Run.build (evs.cons rfl (evs.cons rfl (evs.cons rfl (evs.cons rfl evs.nil)))) zero45 (places45).choose_spec.1 (places45).choose_spec.2 rfl) rfl ?_
          refine Ops.m (Does.buildS1 rfl Tryz.underlying42 Tryz.sizeOf45 zero45 (by decide) (by decide) rfl rfl) rfl ?_
          rintro _ W6 ⟨rfl, hF6⟩
          have hrd6 := hrdF (x := ⟨nm, x.1, x.2, x.1 + at_⟩) hF6
          have hO := hO.frm hF6.frm (by simp)
          have hb1 := hb1.frm hF6.frm (by simp)
          have hb2 := hb2.frm hF6.frm (by simp)
          have hb3 := hb3.frm hF6.frm (by simp)
          have hb4n := hb4n.frm hF6.frm (by simp)
          have K := K.trans hF6.frm (by simp)
          have KW := KW.trans hF6.frm (by simp)
          refine Ops.m (Does.app rfl rfl Tryz.underlying42 (info45) rfl (by decide) hO hrd6 (FC_one _) (by omega) (by omega)) rfl ?_
          rintro _ W7 ⟨A7, c7, rfl, hO7, hf7, hob7⟩
          rw [← FC_append] at hO7
          have hne3 : ∀ y ∈ ob A2, y ≠ g1 ∧ y ≠ g2 ∧ y ≠ g3 ∧ y ≠ g4 := fun y hy => ⟨by rintro rfl; exact hO.ne_blk hb1 (by decide) hy, by rintro rfl; exact hO.ne_blk hb2 (by decide) hy, by rintro rfl; exact hO.ne_blk hb3 (by decide) hy, by rintro rfl; exact hO.ne_blk hb4n (by decide) hy⟩
          have hb1 := hb1.frm hf7 (fun hy => (hne3 _ hy).1 rfl)
          have hb2 := hb2.frm hf7 (fun hy => (hne3 _ hy).2.1 rfl)
          have hb3 := hb3.frm hf7 (fun hy => (hne3 _ hy).2.2.1 rfl)
          have hb4n := hb4n.frm hf7 (fun hy => (hne3 _ hy).2.2.2 rfl)
          have K0 := K
          have K := Frm.own K hf7 (fun y hy => (hAB y hy).1)
          refine Ops.st (Acts.store rfl rfl Tryz.sizeOf42 hb3 rfl rfl) ?_
          rintro W8 ⟨hb3n, hf8, _⟩
          refine Ops.nil ?_
          refine blockQ_n (?_)
          refine ⟨⟨[g4] ++ ob A2 ++ [g3], ?_, ?_⟩, ls ++ [z :: lt], rest, _, true, A7, c7, hnl, hpe, (by rw [← hxe]; exact hfl0), (fun _ => by simp), by simp; omega, Frm.own K hf8 (fun y hy => by simp at hy; omega), hb1.frm hf8 (by simp; omega), hb2.frm hf8 (by simp; omega), ?_, ?_, hb4n.frm hf8 (by simp; omega), ?_⟩
          · exact ((KW.mono (T := [g4] ++ ob A2 ++ [g3]) (by simp)).trans hf7 (fun y hy => .inl (by simp [hy]))).trans hf8 (fun y hy => .inl (by simp at hy; simp [hy]))
          · intro b hb
            rcases List.mem_append.1 hb with hb | hb
            · rcases List.mem_append.1 hb with hb | hb
              · simp only [List.mem_singleton] at hb; subst hb; exact ⟨hn4, h40.isC⟩
              · exact ⟨(hAB b hb).2, hO0.isC b hb⟩
            · simp only [List.mem_singleton] at hb; subst hb; exact ⟨hn3, h30.isC⟩
          · rw [List.length_append]; exact hb3n
          · rw [List.length_append]
            exact hO7.frm hf8 (fun y hy => by have := hO7.ne_blk hb3 (by decide); simp; rintro rfl; exact this hy)
          · intro y hy
            rcases hob7 with h | h
            · rw [h] at hy; exact hAB y hy
            · rw [h] at hy
              simp only [List.mem_singleton] at hy
              have h1 := K0.size
              have h2 := KW.size
              subst hy
              refine ⟨h1, ?_⟩
              simp only [List.mem_cons, not_or]
              exact ⟨by omega, fun hm => by have := hAh _ hm; have := hKs; omega⟩
        · skip
          subst hc4
          have hbq := (hbi.resolve_left (fun h => by cases h.1)).2.1
          rw [fld_no hnem hnb hbq, hxo] at hfl0
          refine VC.skip ?_
          refine blockQ_n (?_)
          refine ⟨⟨[g4], KW, ?_⟩, ls ++ [z :: lt], rest, outs, false, A2, c2, hnl, hpe, hfl0, (fun h => by cases h), by simp; omega, K, hb1, hb2, hb3, hO, hb4n, hAB⟩
          intro b hb
          simp only [List.mem_singleton] at hb
          subst hb
          exact ⟨hn4, h40.isC⟩
  · skip
    rintro W ⟨ls, ls2, outs, op, A2, c2, hls, hpr, hfl, hop, hol2, K, hb1, hb2, hb3, hO, hb4, hAB⟩ hsz hmk
    have hfin : fieldsQ q = outs := by
      have e := lines_done hls hpr
      rw [← List.append_nil ls] at e
      have e2 : ls2 = [] := by
        have h1 := hls
        rw [← e, List.append_nil] at h1
        exact List.append_right_eq_self.1 h1.symm
      unfold fieldsQ
      rw [hfl, e2]
      rfl
    refine blockD_n (thenD_n ?_)
    refine DV.sub [(2, _), (3, _)] (.cons rfl (.cons rfl .nil)) ?_
    refine DV.seq ?_
    refine DV.vc ?_
    refine VC.region ?_
    refine Ops.r (Run.load rfl Tryz.isAgg42 (hb3.cell 0)) rfl ?_
    refine Ops.st (Acts.store rfl rfl Tryz.sizeOf42 hb2 rfl rfl) ?_
    rintro V1 ⟨hb2n, hf_V1, _⟩
    have hmk := hmk.frm hf_V1 (by simp; exact hmk.ne_blk hb2)
    have hO := hO.frm hf_V1 (fun y hy => by have := hO.ne_blk hb2 (by decide); simp; rintro rfl; exact this hy)
    have K := Frm.own K hf_V1 (fun y hy => by simp at hy; omega)
    refine Ops.nil ?_
    refine thenD_n ?_
    refine DV.sub [(2, _)] (.cons rfl .nil) ?_
    refine DV.vc (VC.ret ?_)
    refine endD_r (by simp) (fun d hd => by simp only [List.mem_singleton] at hd; subst hd; exact hmk) (fun wz hsh => ?_)
    have hb2n := hb2n.frm hsh (by simp; omega)
    have hO := hO.frm hsh (fun y hy => by have := hmk.ne_own hO; simp; rintro rfl; exact this hy)
    have K := Frm.own K hsh (fun y hy => by have := hKs; simp at hy; omega)
    refine endR ?_
    refine res_cell rfl Tryz.isAgg42 (hb2n.cell 0) ?_
    refine res_nil ?_
    rw [hfin]
    exact ⟨K, A2, c2, rfl, hO, fun x hx => by have := (hAB x hx).1; omega⟩
  · skip
    rintro pre W ⟨_, K, A2, c2, hb2, hO, hAB⟩ hsz hmk
    refine blockD_r (thenD_r (endD_r (by simp) (fun d hd => by simp only [List.mem_singleton] at hd; subst hd; exact hmk) (fun wz hsh => ?_)))
    have hb2 := hb2.frm hsh (by simp; omega)
    have hO := hO.frm hsh (fun y hy => by have := hmk.ne_own hO; simp; rintro rfl; exact this hy)
    have K := Frm.own K hsh (fun y hy => by have := hKs; simp at hy; omega)
    refine endR ?_
    refine res_cell rfl Tryz.isAgg42 (hb2.cell 0) ?_
    refine res_nil ?_
    exact ⟨K, A2, c2, rfl, hO, fun x hx => by have := (hAB x hx).1; omega⟩
  · skip
    exact fun _ _ _ h => absurd h.1 (by simp)

end Go.Proofs.YtenbjndldenkfaaGreatDoor
