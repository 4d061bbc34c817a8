/-
  The header of a letter: its end, its fields.
-/
import Derived.Test.YtenbjndldenkfaaGreatDoorHeadW
namespace Go.Proofs.YtenbjndldenkfaaGreatDoor
open Go.RowKit Go.Sort

theorem lines_next {q : Tx} {pre : List (Nat × Nat)} {x : Nat × Nat} {ls ls2 : List Tx} (h1 : linesF q = ls ++ ls2) (h2 : pre = offsF 0 ls) (h3 : (pre ++ [x]) <+: offsF 0 (linesF q)) :
    ∃ l b, ls2 = l :: b ∧ x = (ls.flatten.length, ls.flatten.length + l.length) ∧ pre ++ [x] = offsF 0 (ls ++ [l]) ∧ linesF q = (ls ++ [l]) ++ b ∧ sliceQ q x.1 x.2 = l ∧ x.1 ≤ x.2 ∧ x.2 ≤ q.length ∧ l ≠ [] ∧ x.2 = (ls ++ [l]).flatten.length := by
  obtain ⟨a, l, b, e1, e2, e3⟩ := offs_pre h3
  have hl : ls.length = a.length := by rw [← offsF_len 0 ls, ← h2, e2, offsF_len]
  obtain ⟨rfl, e4⟩ := List.append_inj (h1.symm.trans e1) hl
  rw [Nat.zero_add] at e3
  obtain ⟨s1, s2⟩ := slice_at e1
  refine ⟨l, b, e4, e3, ?_, by rw [e1]; simp, by rw [e3]; exact s1, by rw [e3]; simp, by rw [e3]; exact s2, linesF_ne (s := q) (by rw [e1]; simp), by rw [e3]; simp⟩
  rw [offs_app, h2, e3, Nat.zero_add]
  rfl
theorem lines_done {q : Tx} {ls ls2 : List Tx} (h1 : linesF q = ls ++ ls2) (h2 : offsF 0 (linesF q) = offsF 0 ls) : ls = linesF q := by
  have hl : (linesF q).length = ls.length := by rw [← offsF_len 0 (linesF q), h2, offsF_len]
  rw [h1] at hl ⊢
  simp only [List.length_append] at hl
  rw [List.length_eq_zero_iff.1 (show ls2.length = 0 by omega), List.append_nil]
def SpI (w : World) (q : Tx) (gb g2 : Nat) (A : Option Addr) (c : Nat) (pre : List (Nat × Nat)) (W : World) : Prop :=
  (∃ ls ls2, linesF q = ls ++ ls2 ∧ pre = offsF 0 ls ∧ ∀ l ∈ ls, ¬ EmptyL l) ∧ Frm [] w W ∧ Blk W gb 22 #[.slice A q.length c] ∧ Blk W g2 3 #[.int .i64 0]
def SpX (w : World) (q : Tx) (g2 : Nat) (e : Exit) (_pre : List (Nat × Nat)) (W : World) : Prop :=
  e = .ret ∧ Frm [] w W ∧ Blk W g2 3 #[.int .i64 ((splitQ q : Nat) : Int)]

set_option maxRecDepth 100000 in
theorem split_spec (A : Option Addr) (c : Nat) (q : Tx) (w : World) (hrd0 : Rd w 1 A q.length (U8 q)) (hq : q.length ≤ 1000000) (hc : q.length ≤ c) :
    Calls Tryz.prog 51 #[.slice A q.length c] w fun e w' => e = .returned (.int .i64 ((splitQ q : Nat) : Int)) ∧ Frm [] w w' := by
  have K := Frm.refl [] w
  have hq0 := hrd0
  refine DV.calls (nt := 17) (res := #[.cell 2 3]) Tryz.func51 rfl Tryz.ntmps51 Tryz.results51 rfl ?_
  refine DV.seq ?_
  refine DV.vc ?_
  refine VC.region ?_
  refine Ops.m (Does.box rfl) rfl ?_
  rintro _ w1 ⟨rfl, hF_w1⟩
  have hb1 := hF_w1.blk
  have hs1_K := K.size
  have K := Frm.trans K hF_w1.frm (by simp)
  generalize hg1 : w.heap.size = g1 at hb1 hs1_K ⊢
  refine Ops.m (Does.alloc zero3) rfl ?_
  rintro _ w2 ⟨rfl, hF_w2⟩
  have hb2 := hF_w2.blk
  have hs2_K := K.size
  have lt_hb1_2 := hb1.lt
  have hb1 := hb1.frm hF_w2.frm (by simp)
  have K := Frm.trans K hF_w2.frm (by simp)
  generalize hg2 : w1.heap.size = g2 at hb2 hs2_K lt_hb1_2 ⊢
  refine Ops.nil ?_
  refine thenD_n ?_
  refine DV.sub [(1, _), (2, _)] (.cons rfl (.cons rfl .nil)) ?_
  refine DV.seq ?_
  refine DV.seq ?_
  refine DV.vc ?_
  refine VC.region ?_
  refine Ops.r (Run.load rfl Tryz.isAgg22 (hb1.cell 0)) rfl ?_
  refine Ops.cl (Enters.fn (evs.cons rfl evs.nil) Tryz.call50) (hlines_spec A q.length c _) rfl ?_
  rintro e w3 ⟨hf_w3, gl, rfl, hpl, hgl, hgl2⟩
  have l1 := hb1.lt
  have l2 := hb2.lt
  have hA : 0 < q.length → ∀ x ∈ ob A, x < w.heap.size := fun hn => hrd0.lt hn
  refine ⟨_, rfl, ?_⟩
  have hb1 := hb1.frm hf_w3 (by simp)
  have hb2 := hb2.frm hf_w3 (by simp)
  have K := Frm.trans K hf_w3 (by simp)
  refine Ops.nil ?_
  refine thenD_n ?_
  refine DV.sub [(1, _), (2, _), (6, _)] (.cons rfl (.cons rfl (.cons rfl .nil))) ?_
  refine DV.block ?_
  have hKs := K.size
  refine DV.range (ps := [7, 8]) (fun x : Nat × Nat => [.int .i64 ((x.1 : Nat) : Int), .int .i64 ((x.2 : Nat) : Int)]) (hlines_iter q A c gl hq hc) rfl Tryz.call86 (fun _ => rfl) rfl (SpI w q g1 g2 A c) (SpX w q g2) (fun x => [(1, .pointer (some ⟨g1, 0, none⟩)), (2, .pointer (some ⟨g2, 0, none⟩)), (3, .int .i64 ((x.1 : Nat) : Int)), (4, .int .i64 ((x.2 : Nat) : Int))]) ?_ ?_ ?_ ?_ ?_ ?_ ?_ ?_ ?_ ?_ ?_
  · skip
    rintro pre W W' S ⟨h1, h2, h3, h4⟩ hf hS
    exact ⟨h1, h2.nc hf hS (by simp) K.size, h3.frm hf (h3.nc hS (by simp)), h4.frm hf (h4.nc hS (by simp))⟩
  · skip
    rintro e pre W W' S ⟨h1, h2, h3⟩ hf hS
    exact ⟨h1, h2.nc hf hS (by simp) K.size, h3.frm hf (h3.nc hS (by simp))⟩
  · skip
    exact fun W hf => ⟨hpl.frm hf (by simp), (hrd0.frm K (by simp)).frm hf (by simp)⟩
  · skip
    simp
  · skip
    intro b hb
    simp only [List.mem_cons] at hb
    rcases hb with rfl | hb
    · exact hgl2
    · have := hA (obN_mem hb).1 b (obN_mem hb).2; omega
  · skip
    exact ⟨⟨[], linesF q, rfl, rfl, by simp⟩, K, hb1, hb2⟩
  · intro l x W
    refine VC.sub [(1, _), (2, _), (7, _), (8, _)] (.cons rfl (.cons rfl (.cons rfl (.cons rfl .nil)))) ?_
    refine VC.seq ?_
    refine VC.region ?_
    refine Ops.r (Run.asg rfl) rfl ?_
    refine Ops.nil ?_
    refine thenQ_n ?_
    refine VC.sub [(1, _), (2, _), (3, _), (8, _)] (.cons rfl (.cons rfl (.cons rfl (.cons rfl .nil)))) ?_
    refine VC.region ?_
    refine Ops.r (Run.asg rfl) rfl ?_
    refine Ops.nil ?_
    refine thenQ_n ⟨rfl, (.cons rfl (.cons rfl (.cons rfl (.cons rfl .nil))))⟩
  · skip
    rintro l pre x W ⟨⟨ls, ls2, hls, hpr, hall⟩, K, hb1, hb2⟩ hpre hsz hmk
    obtain ⟨ll, rest, hl2, hx, hpe, hnl, hsl, hx1, hx2, hne, hxe⟩ := lines_next hls hpr hpre
    have hx : x.2 = ls.flatten.length + ll.length := by rw [hx]
    have hsl2 : (sliceQ q x.1 x.2).length = x.2 - x.1 := sliceQ_len hx2
    have hcut := U8_cut (hrd0.frm K (by simp)) hx1 hx2 hc
    have h20 := hb2
    refine VC.block ?_
    refine VC.seq ?_
    refine VC.region ?_
    refine Ops.r (Run.load rfl Tryz.isAgg22 (hb1.cell 0)) rfl ?_
    refine Ops.r (Run.mv rfl) rfl ?_
    refine Ops.r (Run.mv rfl) rfl ?_
    refine Ops.r (Run.sliceS x.1 x.2 rfl Tryz.underlying22 Tryz.sizeOf5 (evB.some_ rfl) (evB.some_ rfl) (by omega) (by omega)) rfl ?_
    refine Ops.cl (Enters.fn (evs.cons rfl evs.nil) Tryz.call52) ((by rw [← hsl2]; exact empty_spec _ _ (sliceQ q x.1 x.2) _ hcut)) rfl ?_
    rintro e _ ⟨rfl, rfl⟩
    rw [hsl]
    refine ⟨_, rfl, ?_⟩
    refine Ops.nil ?_
    refine thenQ_n ?_
    refine VC.sub [(2, _), (4, _), (13, _)] (.cons rfl (.cons rfl (.cons rfl .nil))) ?_
    refine VC.condB rfl (fun hc1 => ?_) (fun hc1 => ?_)
    · skip
      refine VC.seq ?_
      refine VC.region ?_
      refine Ops.r (Run.mv rfl) rfl ?_
      refine Ops.st (Acts.store rfl rfl Tryz.sizeOf3 hb2 rfl rfl) ?_
      rintro W3 ⟨hb2n, hf3, _⟩
      refine Ops.nil ?_
      refine thenQ_n ?_
      refine VC.sub [(2, _)] (.cons rfl .nil) ?_
      refine VC.ret ?_
      refine blockQ_r (?_)
      have hem : EmptyL ll := of_decide_eq_true hc1
      refine ⟨⟨[g2], ((Frm.refl [] W).mono (T := [g2]) (by simp)).trans hf3 (by simp), ?_⟩, rfl, Frm.own K hf3 (fun y hy => by simp at hy; omega), ?_⟩
      · intro b hb
        simp only [List.mem_singleton] at hb
        subst hb
        refine ⟨?_, h20.isC⟩
        simp only [List.mem_cons, not_or]
        exact ⟨by omega, fun hm => by have := hA (obN_mem hm).1 _ (obN_mem hm).2; omega⟩
      · rw [show splitQ q = x.2 by unfold splitQ; rw [hls, hl2, splitL_at hall hem, hx]]
        exact hb2n
    · skip
      refine VC.skip ?_
      refine blockQ_n (?_)
      refine ⟨.frm0 (Frm.refl _ _), ⟨ls ++ [ll], rest, hnl, hpe, fun y hy => ?_⟩, K, hb1, hb2⟩
      rcases List.mem_append.1 hy with h | h
      · exact hall y h
      · simp only [List.mem_singleton] at h; subst h; exact of_decide_eq_false hc1
  · skip
    rintro W ⟨⟨ls, ls2, hls, hpr, hall⟩, K, hb1, hb2⟩ hsz hmk
    have hse : splitQ q = q.length := by
      have e := lines_done hls hpr
      subst e
      unfold splitQ
      rw [splitL_none hall, linesF_flat]
    refine blockD_n (thenD_n ?_)
    refine DV.sub [(1, _), (2, _)] (.cons rfl (.cons rfl .nil)) ?_
    refine DV.seq ?_
    refine DV.vc ?_
    refine VC.region ?_
    refine Ops.r (Run.load rfl Tryz.isAgg22 (hb1.cell 0)) rfl ?_
    refine Ops.r (Run.lenS rfl Tryz.underlying22) rfl ?_
    refine Ops.st (Acts.store rfl rfl Tryz.sizeOf3 hb2 rfl rfl) ?_
    rintro V1 ⟨hb2n, hf_V1, _⟩
    have hmk := hmk.frm hf_V1 (by simp; exact hmk.ne_blk hb2)
    have K := Frm.own K hf_V1 (fun y hy => by simp at hy; omega)
    refine Ops.nil ?_
    refine thenD_n ?_
    refine DV.sub [(2, _)] (.cons rfl .nil) ?_
    refine DV.vc (VC.ret ?_)
    refine endD_r (by simp) (fun d hd => by simp only [List.mem_singleton] at hd; subst hd; exact hmk) (fun wz hsh => ?_)
    have hb2n := hb2n.frm hsh (by simp; omega)
    have K := Frm.own K hsh (fun y hy => by have := hKs; simp at hy; omega)
    refine endR ?_
    refine res_cell rfl Tryz.isAgg3 (hb2n.cell 0) ?_
    refine res_nil ?_
    exact ⟨by rw [hse]; rfl, K⟩
  · skip
    rintro pre W ⟨_, K, hb2⟩ hsz hmk
    refine blockD_r (thenD_r (endD_r (by simp) (fun d hd => by simp only [List.mem_singleton] at hd; subst hd; exact hmk) (fun wz hsh => ?_)))
    have hb2 := hb2.frm hsh (by simp; omega)
    have K := Frm.own K hsh (fun y hy => by have := hKs; simp at hy; omega)
    refine endR ?_
    refine res_cell rfl Tryz.isAgg3 (hb2.cell 0) ?_
    refine res_nil ?_
    exact ⟨rfl, K⟩
  · skip
    exact fun _ _ _ h => absurd h.1 (by simp)

end Go.Proofs.YtenbjndldenkfaaGreatDoor
