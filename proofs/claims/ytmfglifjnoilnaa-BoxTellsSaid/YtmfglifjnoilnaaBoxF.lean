/-
  The laws of box: what is looked at.
-/
import Derived.Test.YtmfglifjnoilnaaBoxK
import Derived.Test.YtmfglifjnoilnaaFlagA
namespace Go.Proofs.Ytmfglifjnoilnaa
open Go.RowKit Go.Sort

/-- Messages as they come in: read, with whatever flags. -/
structure RawM (w : World) (A : Option Addr) (l : List Mc) : Prop where
  rd : Rd w 6 A l.length (MC l)
  fl : ∀ x ∈ l, Rd w 1 x.A x.m.flags.length (SB x.m.flags) ∧ x.m.flags.length ≤ x.c
theorem RawM.frm {w w' : World} {A : Option Addr} {l : List Mc} (h : RawM w A l) (k : Frm [] w w') : RawM w' A l :=
  ⟨h.rd.frm k (by simp), fun x hx => ⟨(h.fl x hx).1.frm k (by simp), (h.fl x hx).2⟩⟩
theorem OwM.raw {w : World} {A : Option Addr} {d : Nat} {l : List Mc} (h : OwM w A d l) : RawM w A l :=
  ⟨h.own.rd, fun x hx => ⟨(h.fl x hx).rd, (h.fl x hx).le⟩⟩
theorem MC_take (l : List Mc) (m : Nat) (hm : m ≤ l.length) : (MC l).take (m * 6) = MC (l.take m) := by
  have e1 : MC l = MC (l.take m) ++ MC (l.drop m) := by rw [← MC_append, List.take_append_drop]
  have e2 : (MC (l.take m)).length = m * 6 := by rw [MC_len, List.length_take]; congr 1; omega
  rw [e1, List.take_append_of_le_length (by omega), List.take_of_length_le (by omega)]
theorem RawM.take {w : World} {A : Option Addr} {l : List Mc} (h : RawM w A l) (m : Nat) : RawM w A (l.take m) := by
  refine ⟨?_, fun x hx => h.fl x (List.mem_of_mem_take hx)⟩
  rcases Nat.le_total m l.length with hm | hm
  · have h1 := h.rd.cut (cap := l.length) (Nat.zero_le m) hm (Nat.le_refl _)
    rw [cutA0, Nat.sub_zero, Nat.zero_mul, List.drop_zero, MC_take l m hm] at h1
    rw [List.length_take, Nat.min_eq_left hm]
    exact h1
  · rw [List.take_of_length_le hm]
    exact h.rd
theorem RawM.elem {w : World} {A : Option Addr} {l : List Mc} {k : Nat} (h : RawM w A l) (hk : k < l.length) : ∃ ad, A = some ad ∧ ∀ j v, (l[k]).cells[j]? = some v → w.cell? ((ad.add (k * 6)).add j) = some v := by
  obtain ⟨ad, rfl, hc⟩ := h.rd.elem hk
  refine ⟨ad, rfl, fun j v hj => hc j v ?_⟩
  rw [flat_get Mc.cells 6 Mc.cells_len l k hk]
  exact hj
/-- What is looked at of messages. -/
def fewM (l : List MsgP) : List MsgP := (l.take 129).map fun m => { m with flags := fewF m.flags }
theorem fewM_snoc {l : List Mc} {i : Nat} (h : i < (l.take 129).length) : (Ms ((l.take 129).take (i + 1))).map (fun m => { m with flags := fewF m.flags }) = (Ms ((l.take 129).take i)).map (fun m => { m with flags := fewF m.flags }) ++ [{ ((l.take 129)[i]).m with flags := fewF ((l.take 129)[i]).m.flags }] := by
  rw [Ms_take h, List.map_append]
  rfl

set_option maxRecDepth 100000 in
theorem few26_spec (v n : Int) (A : Option Addr) (c : Nat) (l : List Mc) (w : World) (hl : RawM w A l) (hc : l.length ≤ c) : Calls Try.prog 8 #[.agg #[.int .i64 v, .int .i64 n, .slice A l.length c]] w fun e w' => Frm [] w w' ∧ ∃ B d l', e = .returned (.agg #[.int .i64 v, .int .i64 n, .slice B l'.length d]) ∧ OwM w' B d l' ∧ Ms l' = fewM (Ms l) ∧ l'.length ≤ 129 ∧ ∀ b ∈ ob B, w.heap.size ≤ b := by
  refine VC.calls (nt := 37) (res := #[.cell 2 24]) Try.func8 rfl Try.ntmps8 Try.results8 rfl ?_
  refine VC.seq ?_
  refine VC.region ?_
  refine Ops.m (Does.box rfl) rfl ?_
  rintro _ w1 ⟨rfl, hF1⟩
  have hb1 := hF1.blk
  have hf1 := hF1.frm
  have hs1 : w.heap.size ≤ w.heap.size := Nat.le_refl _
  generalize hg1 : w.heap.size = g1 at hb1 ⊢
  refine Ops.m (Does.alloc zero24) rfl ?_
  rintro _ w2 ⟨rfl, hF2⟩
  have hb2 := hF2.blk
  have hb1 := hb1.frm hF2.frm (by simp)
  have hf2 := hf1.trans hF2.frm (by simp)
  have hs2 : w.heap.size ≤ w1.heap.size := hf1.size
  generalize hg2 : w1.heap.size = g2 at hb2 hs2 ⊢
  have hn12 : g1 < g2 := by rw [← hg2, ← hg1]; have := hF1.size; omega
  refine Ops.nil ?_
  refine thenQ_n ?_
  refine VC.sub [(1, _), (2, _)] (.cons rfl (.cons rfl .nil)) ?_
  refine VC.seq ?_
  refine VC.seq ?_
  refine VC.region ?_
  refine Ops.r (Run.fieldAddr rfl Try.underlying24 rfl Try.sizeOf22 (by decide)) rfl ?_
  refine Ops.r (Run.load rfl Try.isAgg22 (hb1.cell 2)) rfl ?_
  refine Ops.r (Run.lenS rfl Try.underlying22) rfl ?_
  refine Ops.r (Run.bin rfl rfl (Bin.gtrN _ 129)) rfl ?_
  refine Ops.nil ?_
  refine thenQ_n ?_
  refine VC.sub [(1, _), (2, _), (9, _)] (.cons rfl (.cons rfl (.cons rfl .nil))) ?_
  refine VC.meet (σ := Unit) (fun s => [(1, .pointer (some ⟨g1, 0, none⟩)), (2, .pointer (some ⟨g2, 0, none⟩))]) (fun s wm => Blk wm g1 24 (BVc v n A (l.take 129).length c).toArray ∧ Blk wm g2 24 (BVc 0 0 none 0 0).toArray ∧ Frm [] w wm) ?_ ?_
  · skip
    refine VC.condD rfl (fun hc1 => ?_) (fun hc1 => ?_)
    · skip
      refine VC.region ?_
      refine Ops.r (Run.fieldAddr rfl Try.underlying24 rfl Try.sizeOf22 (by decide)) rfl ?_
      refine Ops.r (Run.load rfl Try.isAgg22 (hb1.cell 2)) rfl ?_
      refine Ops.r (Run.sliceS 0 129 rfl Try.underlying22 Try.sizeOf45 evB.none_ (evB.some_ rfl) (by omega) (by omega)) rfl ?_
      refine Ops.r (Run.fieldAddr rfl Try.underlying24 rfl Try.sizeOf22 (by decide)) rfl ?_
      refine Ops.st (Acts.store rfl rfl Try.sizeOf22 hb1 rfl rfl) ?_
      rintro w3 ⟨hb13, hf3, hs3⟩
      have hlt : (l.take 129).length = 129 := by rw [List.length_take]; omega
      have hb13 : Blk w3 g1 24 (BVc v n (cutA A c 0 6) (129 - 0) (c - 0)).toArray := hb13
      rw [cutA0, Nat.sub_zero, Nat.sub_zero] at hb13
      have hb23 := hb2.frm hf3 (by simp; omega)
      have hfr3 := hf2.own hf3 (fun y hy => by simp at hy; omega)
      refine Ops.nil ?_
      refine thenQ_n ⟨(), (.cons rfl (.cons rfl .nil)), ?_⟩
      exact ⟨by rw [hlt]; exact hb13, hb23, hfr3⟩
    · skip
      refine VC.skip ?_
      refine thenQ_n ⟨(), (.cons rfl (.cons rfl .nil)), ?_⟩
      have hlt : (l.take 129).length = l.length := by rw [List.length_take]; omega
      exact ⟨by rw [hlt]; exact hb1, hb2, hf2⟩
  · skip
    rintro _ w3 ⟨hb1, hb2, hf3⟩ Γ hΓ
    have hlt := hl.take 129
    have hlt129 : (l.take 129).length ≤ 129 := by rw [List.length_take]; omega
    refine thenQ_n (VC.sub _ hΓ ?_)
    refine VC.seq ?_
    refine VC.region ?_
    refine Ops.r (Run.asg rfl) rfl ?_
    refine Ops.nil ?_
    refine thenQ_n ?_
    refine VC.seq ?_
    refine VC.seq ?_
    refine VC.region ?_
    refine Ops.r (v := .int .i64 ((0 : Nat) : Int)) (Run.asg rfl) rfl ?_
    refine Ops.nil ?_
    refine thenQ_n ?_
    refine VC.block ?_
    refine VC.loop (σ := Nat × Option Addr × Nat × List Mc) (fun s => [(1, .pointer (some ⟨g1, 0, none⟩)), (2, .pointer (some ⟨g2, 0, none⟩)), (3, .slice s.2.1 s.2.2.2.length s.2.2.1), (4, .int .i64 ((s.1 : Nat) : Int))]) (fun s wr => s.1 ≤ (l.take 129).length ∧ OwM wr s.2.1 s.2.2.1 s.2.2.2 ∧ Ms s.2.2.2 = (Ms ((l.take 129).take s.1)).map (fun m => { m with flags := fewF m.flags }) ∧ (∀ b ∈ ob s.2.1, w3.heap.size ≤ b) ∧ Frm [] w3 wr) (fun s => (l.take 129).length - s.1) (0, none, 0, []) (.cons rfl (.cons rfl (.cons rfl (.cons rfl .nil)))) ⟨by omega, OwM.nil _, rfl, by simp [ob], Frm.refl _ _⟩ ?_
    rintro ⟨i, B, d, l'⟩ wr ⟨hi, hown, hms, hge, hfr⟩
    dsimp only at hi hown hms hge ⊢
    have hll : l'.length = i := by
      have h := congrArg List.length hms
      simp only [Ms, List.length_map, List.length_take (i := i)] at h
      omega
    have hb1r := hb1.frm hfr (by simp)
    refine VC.seq ?_
    refine VC.seq ?_
    refine VC.region ?_
    refine Ops.r (Run.mv rfl) rfl ?_
    refine Ops.r (Run.fieldAddr rfl Try.underlying24 rfl Try.sizeOf22 (by decide)) rfl ?_
    refine Ops.r (Run.load rfl Try.isAgg22 (hb1r.cell 2)) rfl ?_
    refine Ops.r (Run.lenS rfl Try.underlying22) rfl ?_
    refine Ops.r (Run.bin rfl rfl (Bin.lssN _ _)) rfl ?_
    refine Ops.nil ?_
    refine thenQ_n ?_
    refine VC.sub [(1, _), (2, _), (3, _), (4, _), (18, _)] (.cons rfl (.cons rfl (.cons rfl (.cons rfl (.cons rfl .nil))))) ?_
    refine VC.condD rfl (fun hc2 => ?_) (fun hc2 => ?_)
    · skip
      obtain ⟨ad, rfl, hcell⟩ := (hlt.frm (hf3.trans hfr (by simp))).elem hc2
      have hxa := (hlt.frm (hf3.trans hfr (by simp))).fl ((l.take 129)[i]) (List.getElem_mem hc2)
      have hmt := fewM_snoc hc2
      generalize hx : (l.take 129)[i] = x at *
      refine VC.skip ?_
      refine thenQ_n ?_
      refine VC.sub [(1, _), (2, _), (3, _), (4, _)] (.cons rfl (.cons rfl (.cons rfl (.cons rfl .nil)))) ?_
      refine VC.seq ?_
      refine VC.block ?_
      refine VC.seq ?_
      refine VC.region ?_
      refine Ops.r (Run.fieldAddr rfl Try.underlying24 rfl Try.sizeOf22 (by decide)) rfl ?_
      refine Ops.r (Run.load rfl Try.isAgg22 (hb1r.cell 2)) rfl ?_
      refine Ops.r (Run.mv rfl) rfl ?_
      refine Ops.r (Run.indexS i rfl rfl Try.underlying22 Try.sizeOf45 hc2) rfl ?_
      refine Ops.r (Run.loadA rfl Try.isAgg45 Try.sizeOf45 hcell (by first | rfl | (simp; done))) rfl ?_
      refine Ops.m (Does.alloc zero45) rfl ?_
      rintro _ w4 ⟨rfl, hF4⟩
      have hb4 := hF4.blk
      have hf4 := hF4.frm
      have hsz4 : wr.heap.size ≤ wr.heap.size := Nat.le_refl _
      have hfs := hfr.size
      generalize hg4 : wr.heap.size = g4 at hb4 hsz4 hfs ⊢
      refine Ops.st (Acts.storeA rfl rfl Try.sizeOf45 hb4 rfl x.cells_one) ?_
      rintro w5 ⟨hb5, hf5, hs5⟩
      have hfr5 : Frm [] wr w5 := hf4.own hf5 (fun y hy => by simp at hy; omega)
      refine Ops.nil ?_
      refine thenQ_n ?_
      refine VC.sub [(1, _), (2, _), (3, _), (4, _), (5, _)] (.cons rfl (.cons rfl (.cons rfl (.cons rfl (.cons rfl .nil))))) ?_
      refine VC.seq ?_
      refine VC.region ?_
      refine Ops.r (Run.fieldAddr rfl Try.underlying45 rfl Try.sizeOf43 (by decide)) rfl ?_
      refine Ops.r (Run.load rfl Try.isAgg43 (hb5.cell 5)) rfl ?_
      refine Ops.cl (Enters.fn (evs.cons rfl evs.nil) Try.call20) (few24_spec x.A x.c x.m.flags _ hxa.2 (hxa.1.frm hfr5 (by simp))) rfl ?_
      rintro e w6 ⟨hf6, C, dC, rfl, hownC, hgeC⟩
      refine ⟨_, rfl, ?_⟩
      have hfr6 := hfr5.trans hf6 (by simp)
      have hb56 := hb5.frm hf6 (by simp)
      have hff := fewF_facts x.m.flags
      refine Ops.r (Run.fieldAddr rfl Try.underlying45 rfl Try.sizeOf43 (by decide)) rfl ?_
      refine Ops.st (Acts.store rfl rfl Try.sizeOf43 hb56 rfl rfl) ?_
      rintro w7 ⟨hb7, hf7, hs7⟩
      have hb7 : Blk w7 g4 45 (⟨{ x.m with flags := fewF x.m.flags }, C, dC⟩ : Mc).cells.toArray := hb7
      have hownC7 := hownC.frm hf7 (fun y hy => by have := hownC.ne_blk hb56 (by decide); simp; rintro rfl; exact this hy)
      have hfr7 : Frm [] wr w7 := hfr6.own hf7 (fun y hy => by simp at hy; omega)
      refine Ops.nil ?_
      refine thenQ_n ?_
      refine VC.sub [(1, _), (2, _), (3, _), (4, _), (5, _)] (.cons rfl (.cons rfl (.cons rfl (.cons rfl (.cons rfl .nil))))) ?_
      refine VC.region ?_
      refine Ops.r (Run.mv rfl) rfl ?_
      refine Ops.r (Run.loadA rfl Try.isAgg45 Try.sizeOf45 (fun j v hj => hb7.cells j v hj) (by first | rfl | (simp; done))) rfl ?_
      refine Ops.m (Does.buildS1 rfl Try.underlying22 Try.sizeOf45 zero45 (by decide) (by decide) rfl rfl) rfl ?_
      rintro _ w8 ⟨rfl, hF8⟩
      have hfr8 := hfr7.trans hF8.frm (by simp)
      have hown8 := hown.frm hfr8
      have hownC8 := hownC7.frm hF8.frm (by simp)
      refine Ops.m (Does.app rfl rfl Try.underlying22 (info45) rfl (by decide) hown8.own (hrdM (x := ⟨{ x.m with flags := fewF x.m.flags }, C, dC⟩) hF8) (flat_one Mc.cells Mc.cells_one _) (by omega) (by omega)) rfl ?_
      rintro _ w9 ⟨A9, c9, rfl, hown9, hf9, hob9⟩
      rw [← MC_append] at hown9
      have hge9 := up_app hge hob9 (Nat.le_trans hfr.size hfr8.size)
      have hfr9 := (hfr.trans hfr8 (by simp)).own hf9 hge
      have hM9 := hown8.put (x := ⟨{ x.m with flags := fewF x.m.flags }, C, dC⟩) (by simpa using hown9) hf9 hownC8 ⟨by have := hff.1; dsimp only; omega, fun q hq => by have := hff.2 q hq; omega⟩
      refine Ops.r (Run.asg rfl) rfl ?_
      refine Ops.nil ?_
      refine blockQ_n (thenQ_n ?_)
      refine VC.sub [(1, _), (2, _), (3, _), (4, _)] (.cons rfl (.cons rfl (.cons rfl (.cons rfl .nil)))) ?_
      refine VC.region ?_
      refine Ops.r (Run.mv rfl) rfl ?_
      refine Ops.r (Run.bin rfl rfl (Bin.add_i64 _ 1 (by omega))) rfl ?_
      refine Ops.r (Run.asg rfl) rfl ?_
      refine Ops.nil ?_
      refine thenQ_n ⟨(i + 1, A9, c9, l' ++ [⟨{ x.m with flags := fewF x.m.flags }, C, dC⟩]), (.cons rfl (.cons rfl (.cons (by rw [List.length_append]; rfl) (.cons rfl .nil)))), ?_, ?_⟩
      · skip
        exact ⟨hc2, hM9, by rw [hmt, ← hms]; simp [Ms], hge9, hfr9⟩
      · skip
        first | omega | (dsimp only; omega)
    · skip
      refine VC.exit ?_
      refine thenQ_x (thenQ_x (blockQ_x ?_))
      refine thenQ_n ?_
      refine VC.sub [(1, _), (2, _), (3, _)] (.cons rfl (.cons rfl (.cons rfl .nil))) ?_
      refine VC.seq ?_
      refine VC.region ?_
      refine Ops.r (Run.mv rfl) rfl ?_
      refine Ops.r (Run.fieldAddr rfl Try.underlying24 rfl Try.sizeOf22 (by decide)) rfl ?_
      refine Ops.st (Acts.store rfl rfl Try.sizeOf22 hb1r rfl rfl) ?_
      rintro w10 ⟨hb110, hf10, hs10⟩
      have hb110 : Blk w10 g1 24 (BVc v n B l'.length d).toArray := hb110
      have hb210 := (hb2.frm hfr (by simp)).frm hf10 (by simp; omega)
      have hM10 := hown.blk hf10 hb1r (by decide) (by decide)
      have hfr10 := (hf3.trans hfr (by simp)).own hf10 (fun y hy => by simp at hy; omega)
      refine Ops.nil ?_
      refine thenQ_n ?_
      refine VC.sub [(1, _), (2, _)] (.cons rfl (.cons rfl .nil)) ?_
      refine VC.seq ?_
      refine VC.region ?_
      refine Ops.r (Run.loadA rfl Try.isAgg24 Try.sizeOf24 (fun j v hj => hb110.cells j v hj) (by first | rfl | (simp; done))) rfl ?_
      refine Ops.st (Acts.storeA rfl rfl Try.sizeOf24 hb210 rfl (BVc_one _ _ _ _ _)) ?_
      rintro w11 ⟨hb211, hf11, hs11⟩
      have hM11 := hM10.blk hf11 hb210 (by decide) (by decide)
      have hfr11 := hfr10.own hf11 (fun y hy => by simp at hy; omega)
      refine Ops.nil ?_
      refine thenQ_n ?_
      refine VC.sub [(2, _)] (.cons rfl .nil) ?_
      refine VC.ret ?_
      refine endR ?_
      refine res_cellA rfl Try.isAgg24 Try.sizeOf24 (fun j v hj => hb211.cells j v hj) (by first | rfl | (simp; done)) ?_
      refine res_nil ?_
      have hil : i = (l.take 129).length := by omega
      rw [hil, List.take_length] at hms
      refine ⟨hfr11, B, d, l', rfl, hM11, ?_, by omega, fun b hb => by have := hge b hb; have := hf3.size; omega⟩
      rw [hms]
      unfold fewM
      simp only [Ms, List.map_take]

end Go.Proofs.Ytmfglifjnoilnaa
