/-
  BoxF, BoxH, BoxX, BoxY, BoxZ, BoxL0 in one text.
-/
import Derived.Test.YtmfglifjnoilnaaBoxXC
import Derived.Test.YtmfglifjnoilnaaFlagA
import Derived.Test.YtmfglifjnoilnaaOpen3
/-
  The laws of box: what is looked at.
-/
namespace Go.Proofs.Ytmfglifjnoilnaa
open Go.RowKit Go.Sort

/-- Messages as they come in: read, with whatever flags. -/
structure RawM (w : World) (A : Option Addr) (l : List Mc) : Prop where
  rd : Rd w 6 A l.length (MC l)
  fl : ∀ x ∈ l, Rd w 1 x.A x.m.flags.length (SB x.m.flags) ∧ x.m.flags.length ≤ x.c
theorem RawM.frm {w w' : World} {A : Option Addr} {l : List Mc} (h : RawM w A l) (k : Frm [] w w') : RawM w' A l :=
  ⟨h.rd.frm k (by simp), fun x hx => ⟨(h.fl x hx).1.frm k (by simp), (h.fl x hx).2⟩⟩
theorem OwM.raw {w : World} {A : Option Addr} {d : Nat} {l : List Mc} (h : OwM w A d l) : RawM w A l :=
  ⟨h.own.rd, fun x hx => ⟨(h.fl x hx).rd, (h.fl x hx).le⟩⟩
theorem MC_take (l : List Mc) (m : Nat) (hm : m ≤ l.length) : (MC l).take (m * 6) = MC (l.take m) := by
  have e1 : MC l = MC (l.take m) ++ MC (l.drop m) := by rw [← MC_append, List.take_append_drop]
  have e2 : (MC (l.take m)).length = m * 6 := by rw [MC_len, List.length_take]; congr 1; omega
  rw [e1, List.take_append_of_le_length (by omega), List.take_of_length_le (by omega)]
theorem RawM.take {w : World} {A : Option Addr} {l : List Mc} (h : RawM w A l) (m : Nat) : RawM w A (l.take m) := by
  refine ⟨?_, fun x hx => h.fl x (List.mem_of_mem_take hx)⟩
  rcases Nat.le_total m l.length with hm | hm
  · have h1 := h.rd.cut (cap := l.length) (Nat.zero_le m) hm (Nat.le_refl _)
    rw [cutA0, Nat.sub_zero, Nat.zero_mul, List.drop_zero, MC_take l m hm] at h1
    rw [List.length_take, Nat.min_eq_left hm]
    exact h1
  · rw [List.take_of_length_le hm]
    exact h.rd
theorem RawM.elem {w : World} {A : Option Addr} {l : List Mc} {k : Nat} (h : RawM w A l) (hk : k < l.length) : ∃ ad, A = some ad ∧ ∀ j v, (l[k]).cells[j]? = some v → w.cell? ((ad.add (k * 6)).add j) = some v := by
  obtain ⟨ad, rfl, hc⟩ := h.rd.elem hk
  refine ⟨ad, rfl, fun j v hj => hc j v ?_⟩
  rw [flat_get Mc.cells 6 Mc.cells_len l k hk]
  exact hj
/-- What is looked at of messages. -/
def fewM (l : List MsgP) : List MsgP := (l.take 129).map fun m => { m with flags := fewF m.flags }
theorem fewM_snoc {l : List Mc} {i : Nat} (h : i < (l.take 129).length) : (Ms ((l.take 129).take (i + 1))).map (fun m => { m with flags := fewF m.flags }) = (Ms ((l.take 129).take i)).map (fun m => { m with flags := fewF m.flags }) ++ [{ ((l.take 129)[i]).m with flags := fewF ((l.take 129)[i]).m.flags }] := by
  rw [Ms_take h, List.map_append]
  rfl

set_option maxRecDepth 100000 in
theorem few26_spec (v n : Int) (A : Option Addr) (c : Nat) (l : List Mc) (w : World) (hl : RawM w A l) (hc : l.length ≤ c) : Calls Try.prog 8 #[.agg #[.int .i64 v, .int .i64 n, .slice A l.length c]] w fun e w' => Frm [] w w' ∧ ∃ B d l', e = .returned (.agg #[.int .i64 v, .int .i64 n, .slice B l'.length d]) ∧ OwM w' B d l' ∧ Ms l' = fewM (Ms l) ∧ l'.length ≤ 129 ∧ ∀ b ∈ ob B, w.heap.size ≤ b := by
  refine VC.calls (nt := 37) (res := #[.cell 2 24]) Try.func8 rfl Try.ntmps8 Try.results8 rfl ?_
  refine VC.seq ?_
  refine VC.region ?_
  refine Ops.m (Does.box rfl) rfl ?_
  rintro _ w1 ⟨rfl, hF1⟩
  have hb1 := hF1.blk
  have hf1 := hF1.frm
  have hs1 : w.heap.size ≤ w.heap.size := Nat.le_refl _
  generalize hg1 : w.heap.size = g1 at hb1 ⊢
  refine Ops.m (Does.alloc zero24) rfl ?_
  rintro _ w2 ⟨rfl, hF2⟩
  have hb2 := hF2.blk
  have hb1 := hb1.frm hF2.frm (by simp)
  have hf2 := hf1.trans hF2.frm (by simp)
  have hs2 : w.heap.size ≤ w1.heap.size := hf1.size
  generalize hg2 : w1.heap.size = g2 at hb2 hs2 ⊢
  have hn12 : g1 < g2 := by rw [← hg2, ← hg1]; have := hF1.size; omega
  refine Ops.nil ?_
  refine thenQ_n ?_
  refine VC.sub [(1, _), (2, _)] (.cons rfl (.cons rfl .nil)) ?_
  refine VC.seq ?_
  refine VC.seq ?_
  refine VC.region ?_
  refine Ops.r (Run.fieldAddr rfl Try.underlying24 rfl Try.sizeOf22 (by decide)) rfl ?_
  refine Ops.r (Run.load rfl Try.isAgg22 (hb1.cell 2)) rfl ?_
  refine Ops.r (Run.lenS rfl Try.underlying22) rfl ?_
  refine Ops.r (Run.bin rfl rfl (Bin.gtrN _ 129)) rfl ?_
  refine Ops.nil ?_
  refine thenQ_n ?_
  refine VC.sub [(1, _), (2, _), (9, _)] (.cons rfl (.cons rfl (.cons rfl .nil))) ?_
  refine VC.meet (σ := Unit) (fun s => [(1, .pointer (some ⟨g1, 0, none⟩)), (2, .pointer (some ⟨g2, 0, none⟩))]) (fun s wm => Blk wm g1 24 (BVc v n A (l.take 129).length c).toArray ∧ Blk wm g2 24 (BVc 0 0 none 0 0).toArray ∧ Frm [] w wm) ?_ ?_
  · skip
    refine VC.condD rfl (fun hc1 => ?_) (fun hc1 => ?_)
    · skip
      refine VC.region ?_
      refine Ops.r (Run.fieldAddr rfl Try.underlying24 rfl Try.sizeOf22 (by decide)) rfl ?_
      refine Ops.r (Run.load rfl Try.isAgg22 (hb1.cell 2)) rfl ?_
      refine Ops.r (Run.sliceS 0 129 rfl Try.underlying22 Try.sizeOf45 evB.none_ (evB.some_ rfl) (by omega) (by omega)) rfl ?_
      refine Ops.r (Run.fieldAddr rfl Try.underlying24 rfl Try.sizeOf22 (by decide)) rfl ?_
      refine Ops.st (Acts.store rfl rfl Try.sizeOf22 hb1 rfl rfl) ?_
      rintro w3 ⟨hb13, hf3, hs3⟩
      have hlt : (l.take 129).length = 129 := by rw [List.length_take]; omega
      have hb13 : Blk w3 g1 24 (BVc v n (cutA A c 0 6) (129 - 0) (c - 0)).toArray := hb13
      rw [cutA0, Nat.sub_zero, Nat.sub_zero] at hb13
      have hb23 := hb2.frm hf3 (by simp; omega)
      have hfr3 := hf2.own hf3 (fun y hy => by simp at hy; omega)
      refine Ops.nil ?_
      refine thenQ_n ⟨(), (.cons rfl (.cons rfl .nil)), ?_⟩
      exact ⟨by rw [hlt]; exact hb13, hb23, hfr3⟩
    · skip
      refine VC.skip ?_
      refine thenQ_n ⟨(), (.cons rfl (.cons rfl .nil)), ?_⟩
      have hlt : (l.take 129).length = l.length := by rw [List.length_take]; omega
      exact ⟨by rw [hlt]; exact hb1, hb2, hf2⟩
  · skip
    rintro _ w3 ⟨hb1, hb2, hf3⟩ Γ hΓ
    have hlt := hl.take 129
    have hlt129 : (l.take 129).length ≤ 129 := by rw [List.length_take]; omega
    refine thenQ_n (VC.sub _ hΓ ?_)
    refine VC.seq ?_
    refine VC.region ?_
    refine Ops.r (Run.asg rfl) rfl ?_
    refine Ops.nil ?_
    refine thenQ_n ?_
    refine VC.seq ?_
    refine VC.seq ?_
    refine VC.region ?_
    refine Ops.r (v := .int .i64 ((0 : Nat) : Int)) (Run.asg rfl) rfl ?_
    refine Ops.nil ?_
    refine thenQ_n ?_
    refine VC.block ?_
    refine VC.loop (σ := Nat × Option Addr × Nat × List Mc) (fun s => [(1, .pointer (some ⟨g1, 0, none⟩)), (2, .pointer (some ⟨g2, 0, none⟩)), (3, .slice s.2.1 s.2.2.2.length s.2.2.1), (4, .int .i64 ((s.1 : Nat) : Int))]) (fun s wr => s.1 ≤ (l.take 129).length ∧ OwM wr s.2.1 s.2.2.1 s.2.2.2 ∧ Ms s.2.2.2 = (Ms ((l.take 129).take s.1)).map (fun m => { m with flags := fewF m.flags }) ∧ (∀ b ∈ ob s.2.1, w3.heap.size ≤ b) ∧ Frm [] w3 wr) (fun s => (l.take 129).length - s.1) (0, none, 0, []) (.cons rfl (.cons rfl (.cons rfl (.cons rfl .nil)))) ⟨by omega, OwM.nil _, rfl, by simp [ob], Frm.refl _ _⟩ ?_
    rintro ⟨i, B, d, l'⟩ wr ⟨hi, hown, hms, hge, hfr⟩
    dsimp only at hi hown hms hge ⊢
    have hll : l'.length = i := by
      have h := congrArg List.length hms
      simp only [Ms, List.length_map, List.length_take (i := i)] at h
      omega
    have hb1r := hb1.frm hfr (by simp)
    refine VC.seq ?_
    refine VC.seq ?_
    refine VC.region ?_
    refine Ops.r (Run.mv rfl) rfl ?_
    refine Ops.r (Run.fieldAddr rfl Try.underlying24 rfl Try.sizeOf22 (by decide)) rfl ?_
    refine Ops.r (Run.load rfl Try.isAgg22 (hb1r.cell 2)) rfl ?_
    refine Ops.r (Run.lenS rfl Try.underlying22) rfl ?_
    refine Ops.r (Run.bin rfl rfl (Bin.lssN _ _)) rfl ?_
    refine Ops.nil ?_
    refine thenQ_n ?_
    refine VC.sub [(1, _), (2, _), (3, _), (4, _), (18, _)] (.cons rfl (.cons rfl (.cons rfl (.cons rfl (.cons rfl .nil))))) ?_
    refine VC.condD rfl (fun hc2 => ?_) (fun hc2 => ?_)
    · skip
      obtain ⟨ad, rfl, hcell⟩ := (hlt.frm (hf3.trans hfr (by simp))).elem hc2
      have hxa := (hlt.frm (hf3.trans hfr (by simp))).fl ((l.take 129)[i]) (List.getElem_mem hc2)
      have hmt := fewM_snoc hc2
      generalize hx : (l.take 129)[i] = x at *
      refine VC.skip ?_
      refine thenQ_n ?_
      refine VC.sub [(1, _), (2, _), (3, _), (4, _)] (.cons rfl (.cons rfl (.cons rfl (.cons rfl .nil)))) ?_
      refine VC.seq ?_
      refine VC.block ?_
      refine VC.seq ?_
      refine VC.region ?_
      refine Ops.r (Run.fieldAddr rfl Try.underlying24 rfl Try.sizeOf22 (by decide)) rfl ?_
      refine Ops.r (Run.load rfl Try.isAgg22 (hb1r.cell 2)) rfl ?_
      refine Ops.r (Run.mv rfl) rfl ?_
      refine Ops.r (Run.indexS i rfl rfl Try.underlying22 Try.sizeOf45 hc2) rfl ?_
      refine Ops.r (Run.loadA rfl Try.isAgg45 Try.sizeOf45 hcell (by first | rfl | (simp; done))) rfl ?_
      refine Ops.m (Does.alloc zero45) rfl ?_
      rintro _ w4 ⟨rfl, hF4⟩
      have hb4 := hF4.blk
      have hf4 := hF4.frm
      have hsz4 : wr.heap.size ≤ wr.heap.size := Nat.le_refl _
      have hfs := hfr.size
      generalize hg4 : wr.heap.size = g4 at hb4 hsz4 hfs ⊢
      refine Ops.st (Acts.storeA rfl rfl Try.sizeOf45 hb4 rfl x.cells_one) ?_
      rintro w5 ⟨hb5, hf5, hs5⟩
      have hfr5 : Frm [] wr w5 := hf4.own hf5 (fun y hy => by simp at hy; omega)
      refine Ops.nil ?_
      refine thenQ_n ?_
      refine VC.sub [(1, _), (2, _), (3, _), (4, _), (5, _)] (.cons rfl (.cons rfl (.cons rfl (.cons rfl (.cons rfl .nil))))) ?_
      refine VC.seq ?_
      refine VC.region ?_
      refine Ops.r (Run.fieldAddr rfl Try.underlying45 rfl Try.sizeOf43 (by decide)) rfl ?_
      refine Ops.r (Run.load rfl Try.isAgg43 (hb5.cell 5)) rfl ?_
      refine Ops.cl (Enters.fn (evs.cons rfl evs.nil) Try.call20) (few24_spec x.A x.c x.m.flags _ hxa.2 (hxa.1.frm hfr5 (by simp))) rfl ?_
      rintro e w6 ⟨hf6, C, dC, rfl, hownC, hgeC⟩
      refine ⟨_, rfl, ?_⟩
      have hfr6 := hfr5.trans hf6 (by simp)
      have hb56 := hb5.frm hf6 (by simp)
      have hff := fewF_facts x.m.flags
      refine Ops.r (Run.fieldAddr rfl Try.underlying45 rfl Try.sizeOf43 (by decide)) rfl ?_
      refine Ops.st (Acts.store rfl rfl Try.sizeOf43 hb56 rfl rfl) ?_
      rintro w7 ⟨hb7, hf7, hs7⟩
      have hb7 : Blk w7 g4 45 (⟨{ x.m with flags := fewF x.m.flags }, C, dC⟩ : Mc).cells.toArray := hb7
      have hownC7 := hownC.frm hf7 (fun y hy => by have := hownC.ne_blk hb56 (by decide); simp; rintro rfl; exact this hy)
      have hfr7 : Frm [] wr w7 := hfr6.own hf7 (fun y hy => by simp at hy; omega)
      refine Ops.nil ?_
      refine thenQ_n ?_
      refine VC.sub [(1, _), (2, _), (3, _), (4, _), (5, _)] (.cons rfl (.cons rfl (.cons rfl (.cons rfl (.cons rfl .nil))))) ?_
      refine VC.region ?_
      refine Ops.r (Run.mv rfl) rfl ?_
      refine Ops.r (Run.loadA rfl Try.isAgg45 Try.sizeOf45 (fun j v hj => hb7.cells j v hj) (by first | rfl | (simp; done))) rfl ?_
      refine Ops.m (Does.buildS1 rfl Try.underlying22 Try.sizeOf45 zero45 (by decide) (by decide) rfl rfl) rfl ?_
      rintro _ w8 ⟨rfl, hF8⟩
      have hfr8 := hfr7.trans hF8.frm (by simp)
      have hown8 := hown.frm hfr8
      have hownC8 := hownC7.frm hF8.frm (by simp)
      refine Ops.m (Does.app rfl rfl Try.underlying22 (info45) rfl (by decide) hown8.own (hrdM (x := ⟨{ x.m with flags := fewF x.m.flags }, C, dC⟩) hF8) (flat_one Mc.cells Mc.cells_one _) (by omega) (by omega)) rfl ?_
      rintro _ w9 ⟨A9, c9, rfl, hown9, hf9, hob9⟩
      rw [← MC_append] at hown9
      have hge9 := up_app hge hob9 (Nat.le_trans hfr.size hfr8.size)
      have hfr9 := (hfr.trans hfr8 (by simp)).own hf9 hge
      have hM9 := hown8.put (x := ⟨{ x.m with flags := fewF x.m.flags }, C, dC⟩) (by simpa using hown9) hf9 hownC8 ⟨by have := hff.1; dsimp only; omega, fun q hq => by have := hff.2 q hq; omega⟩
      refine Ops.r (Run.asg rfl) rfl ?_
      refine Ops.nil ?_
      refine blockQ_n (thenQ_n ?_)
      refine VC.sub [(1, _), (2, _), (3, _), (4, _)] (.cons rfl (.cons rfl (.cons rfl (.cons rfl .nil)))) ?_
      refine VC.region ?_
      refine Ops.r (Run.mv rfl) rfl ?_
      refine Ops.r (Run.bin rfl rfl (Bin.add_i64 _ 1 (by omega))) rfl ?_
      refine Ops.r (Run.asg rfl) rfl ?_
      refine Ops.nil ?_
      refine thenQ_n ⟨(i + 1, A9, c9, l' ++ [⟨{ x.m with flags := fewF x.m.flags }, C, dC⟩]), (.cons rfl (.cons rfl (.cons (by rw [List.length_append]; rfl) (.cons rfl .nil)))), ?_, ?_⟩
      · skip
        exact ⟨hc2, hM9, by rw [hmt, ← hms]; simp [Ms], hge9, hfr9⟩
      · skip
        first | omega | (dsimp only; omega)
    · skip
      refine VC.exit ?_
      refine thenQ_x (thenQ_x (blockQ_x ?_))
      refine thenQ_n ?_
      refine VC.sub [(1, _), (2, _), (3, _)] (.cons rfl (.cons rfl (.cons rfl .nil))) ?_
      refine VC.seq ?_
      refine VC.region ?_
      refine Ops.r (Run.mv rfl) rfl ?_
      refine Ops.r (Run.fieldAddr rfl Try.underlying24 rfl Try.sizeOf22 (by decide)) rfl ?_
      refine Ops.st (Acts.store rfl rfl Try.sizeOf22 hb1r rfl rfl) ?_
      rintro w10 ⟨hb110, hf10, hs10⟩
      have hb110 : Blk w10 g1 24 (BVc v n B l'.length d).toArray := hb110
      have hb210 := (hb2.frm hfr (by simp)).frm hf10 (by simp; omega)
      have hM10 := hown.blk hf10 hb1r (by decide) (by decide)
      have hfr10 := (hf3.trans hfr (by simp)).own hf10 (fun y hy => by simp at hy; omega)
      refine Ops.nil ?_
      refine thenQ_n ?_
      refine VC.sub [(1, _), (2, _)] (.cons rfl (.cons rfl .nil)) ?_
      refine VC.seq ?_
      refine VC.region ?_
      refine Ops.r (Run.loadA rfl Try.isAgg24 Try.sizeOf24 (fun j v hj => hb110.cells j v hj) (by first | rfl | (simp; done))) rfl ?_
      refine Ops.st (Acts.storeA rfl rfl Try.sizeOf24 hb210 rfl (BVc_one _ _ _ _ _)) ?_
      rintro w11 ⟨hb211, hf11, hs11⟩
      have hM11 := hM10.blk hf11 hb210 (by decide) (by decide)
      have hfr11 := hfr10.own hf11 (fun y hy => by simp at hy; omega)
      refine Ops.nil ?_
      refine thenQ_n ?_
      refine VC.sub [(2, _)] (.cons rfl .nil) ?_
      refine VC.ret ?_
      refine endR ?_
      refine res_cellA rfl Try.isAgg24 Try.sizeOf24 (fun j v hj => hb211.cells j v hj) (by first | rfl | (simp; done)) ?_
      refine res_nil ?_
      have hil : i = (l.take 129).length := by omega
      rw [hil, List.take_length] at hms
      refine ⟨hfr11, B, d, l', rfl, hM11, ?_, by omega, fun b hb => by have := hge b hb; have := hf3.size; omega⟩
      rw [hms]
      unfold fewM
      simp only [Ms, List.map_take]

end Go.Proofs.Ytmfglifjnoilnaa

/-
  The laws of box: what they ask of answers; the chapter's examples.
-/
namespace Go.Proofs.Ytmfglifjnoilnaa
open Go.RowKit Go.Sort

set_option maxRecDepth 100000 in
theorem sameI_spec (A B : Option Addr) (c d : Nat) (xs ys : List Int) (w : World) (hx : Rd w 1 A xs.length (IB xs)) (hy : Rd w 1 B ys.length (IB ys)) (h1 : xs.length ≤ 1000000) (h2 : ys.length ≤ 1000000) :
    Calls Try.prog 16 #[.slice A xs.length c, .slice B ys.length d] w fun e w' => e = .returned (.bool (decide (xs = ys))) ∧ Frm [] w w' := by
  refine VC.calls (nt := 26) (res := #[.tmp 4]) Try.func16 rfl Try.ntmps16 Try.results16 rfl ?_
  refine VC.seq ?_
  refine VC.region ?_
  refine Ops.r (Run.asg rfl) rfl ?_
  refine Ops.nil ?_
  refine thenQ_n ?_
  refine VC.sub [(0, _), (1, _)] (.cons rfl (.cons rfl .nil)) ?_
  refine VC.seq ?_
  refine VC.seq ?_
  refine VC.region ?_
  refine Ops.r (Run.mv rfl) rfl ?_
  refine Ops.r (Run.lenS rfl Try.underlying25) rfl ?_
  refine Ops.r (Run.mv rfl) rfl ?_
  refine Ops.r (Run.lenS rfl Try.underlying25) rfl ?_
  refine Ops.r (Run.bin rfl rfl (Bin.neqN _ _)) rfl ?_
  refine Ops.nil ?_
  refine thenQ_n ?_
  refine VC.sub [(0, _), (1, _), (10, _)] (.cons rfl (.cons rfl (.cons rfl .nil))) ?_
  refine VC.condD rfl (fun hc1 => ?_) (fun hc1 => ?_)
  · skip
    refine VC.seq ?_
    refine VC.region ?_
    refine Ops.r (Run.asg rfl) rfl ?_
    refine Ops.nil ?_
    refine thenQ_n ?_
    refine VC.sub [(4, _)] (.cons rfl .nil) ?_
    refine VC.ret ?_
    refine thenQ_r (end1 rfl ?_)
    exact ⟨by rw [decide_eq_false (fun h => hc1 (congrArg List.length h))], Frm.refl _ _⟩
  · skip
    have hll : xs.length = ys.length := Classical.not_not.1 hc1
    refine VC.skip ?_
    refine thenQ_n ?_
    refine VC.sub [(0, _), (1, _)] (.cons rfl (.cons rfl .nil)) ?_
    refine VC.seq ?_
    refine VC.seq ?_
    refine VC.region ?_
    refine Ops.r (v := .int .i64 ((0 : Nat) : Int)) (Run.asg rfl) rfl ?_
    refine Ops.nil ?_
    refine thenQ_n ?_
    refine VC.block ?_
    refine VC.loop (σ := Nat) (fun s => [(0, .slice A xs.length c), (1, .slice B ys.length d), (5, .int .i64 ((s : Nat) : Int))]) (fun s wr => s ≤ xs.length ∧ Frm [] w wr ∧ xs.take s = ys.take s) (fun s => xs.length - s) 0 (.cons rfl (.cons rfl (.cons rfl .nil))) ⟨by omega, Frm.refl _ _, by simp⟩ ?_
    rintro i wr ⟨hi, hfr, hs⟩
    refine VC.seq ?_
    refine VC.seq ?_
    refine VC.region ?_
    refine Ops.r (Run.mv rfl) rfl ?_
    refine Ops.r (Run.mv rfl) rfl ?_
    refine Ops.r (Run.lenS rfl Try.underlying25) rfl ?_
    refine Ops.r (Run.bin rfl rfl (Bin.lssN _ _)) rfl ?_
    refine Ops.nil ?_
    refine thenQ_n ?_
    refine VC.sub [(0, _), (1, _), (5, _), (14, _)] (.cons rfl (.cons rfl (.cons rfl (.cons rfl .nil)))) ?_
    refine VC.condD rfl (fun hc2 => ?_) (fun hc2 => ?_)
    · skip
      have hc2' : i < ys.length := by omega
      obtain ⟨ad, u, rfl, hu, hcell⟩ := (hx.frm hfr (by simp)).at1 hc2
      have hu2 : u = .int .i64 xs[i] := by simpa [IB, List.getElem?_eq_getElem hc2] using hu.symm
      subst hu2
      obtain ⟨ad2, u2, rfl, hv, hcell2⟩ := (hy.frm hfr (by simp)).at1 hc2'
      have hv2 : u2 = .int .i64 ys[i] := by simpa [IB, List.getElem?_eq_getElem hc2'] using hv.symm
      subst hv2
      refine VC.skip ?_
      refine thenQ_n ?_
      refine VC.sub [(0, _), (1, _), (5, _)] (.cons rfl (.cons rfl (.cons rfl .nil))) ?_
      refine VC.seq ?_
      refine VC.block ?_
      refine VC.seq ?_
      refine VC.still (by kernel_rfl) (by kernel_rfl) ?_
      refine SOps.r (Run.mv rfl) rfl ?_
      refine SOps.r (Run.mv rfl) rfl ?_
      refine SOps.r (Run.index1 i rfl rfl Try.underlying25 Try.sizeOf3 hc2) rfl ?_
      refine SOps.r (Run.load rfl Try.isAgg3 hcell) rfl ?_
      refine SOps.r (Run.mv rfl) rfl ?_
      refine SOps.r (Run.mv rfl) rfl ?_
      refine SOps.r (Run.index1 i rfl rfl Try.underlying25 Try.sizeOf3 hc2') rfl ?_
      refine SOps.r (Run.load rfl Try.isAgg3 hcell2) rfl ?_
      refine SOps.r (Run.bin rfl rfl (Bin.neq _ _)) rfl ?_
      refine SOps.nil ?_
      refine thenQ_n ?_
      refine VC.sub [(0, _), (1, _), (5, _), (25, _)] (.cons rfl (.cons rfl (.cons rfl (.cons rfl .nil)))) ?_
      refine VC.condD rfl (fun hc3 => ?_) (fun hc3 => ?_)
      · skip
        refine VC.seq ?_
        refine VC.region ?_
        refine Ops.r (Run.asg rfl) rfl ?_
        refine Ops.nil ?_
        refine thenQ_n ?_
        refine VC.sub [(4, _)] (.cons rfl .nil) ?_
        refine VC.ret ?_
        refine blockQ_r (thenQ_r (thenQ_r (blockQ_r (thenQ_r (end1 rfl ?_)))))
        refine ⟨?_, hfr.drew⟩
        rw [decide_eq_false]
        intro h
        exact hc3 (by simp only [h])
      · skip
        refine VC.skip ?_
        refine blockQ_n (thenQ_n ?_)
        refine VC.sub [(0, _), (1, _), (5, _)] (.cons rfl (.cons rfl (.cons rfl .nil))) ?_
        refine VC.region ?_
        refine Ops.r (Run.mv rfl) rfl ?_
        refine Ops.r (Run.bin rfl rfl (Bin.add_i64 _ 1 (by omega))) rfl ?_
        refine Ops.r (Run.asg rfl) rfl ?_
        refine Ops.nil ?_
        refine thenQ_n ⟨(i + 1), (.cons rfl (.cons rfl (.cons rfl .nil))), ?_, ?_⟩
        · skip
          have hxy : xs[i] = ys[i] := Classical.not_not.1 hc3
          refine ⟨hc2, hfr.drew, ?_⟩
          rw [List.take_add_one, List.take_add_one, hs, List.getElem?_eq_getElem hc2, List.getElem?_eq_getElem hc2', hxy]
        · skip
          first | omega | (dsimp only; omega)
    · skip
      refine VC.exit ?_
      refine thenQ_x (thenQ_x (blockQ_x ?_))
      refine thenQ_n ?_
      refine VC.sub [] .nil ?_
      refine VC.seq ?_
      refine VC.region ?_
      refine Ops.r (Run.asg rfl) rfl ?_
      refine Ops.nil ?_
      refine thenQ_n ?_
      refine VC.ret ?_
      refine end1 rfl ?_
      refine ⟨?_, hfr⟩
      have hil : i = xs.length := by omega
      subst hil
      rw [List.take_length, hll, List.take_length] at hs
      rw [decide_eq_true hs]

set_option maxRecDepth 100000 in
theorem none_spec (v n : Int) (A : Option Addr) (c : Nat) (l : List Mc) (w : World) (hl : RdM w A l) (hn : l.length ≤ 1000000) : Calls Try.prog 12 #[.agg #[.int .i64 v, .int .i64 n, .slice A l.length c]] w fun e w' => e = .returned (.bool (decide (v = 0 ∧ n = 0 ∧ Ms l = []))) ∧ Frm [] w w' := by
  refine VC.calls (nt := 6) (res := #[.tmp 2]) Try.func12 rfl Try.ntmps12 Try.results12 rfl ?_
  refine VC.seq ?_
  refine VC.region ?_
  refine Ops.m (Does.box rfl) rfl ?_
  rintro _ w1 ⟨rfl, hF1⟩
  have hb1 := hF1.blk
  have hf1 := hF1.frm
  have hs1 : w.heap.size ≤ w.heap.size := Nat.le_refl _
  generalize hg1 : w.heap.size = g1 at hb1 ⊢
  refine Ops.r (Run.asg rfl) rfl ?_
  refine Ops.nil ?_
  refine thenQ_n ?_
  refine VC.sub [(1, _)] (.cons rfl .nil) ?_
  refine VC.seq ?_
  refine VC.region ?_
  refine Ops.r (Run.loadA rfl Try.isAgg24 Try.sizeOf24 (fun j v hj => hb1.cells j v hj) (by first | rfl | (simp; done))) rfl ?_
  refine Ops.r (Run.build evs.nil zero24 (places24).choose_spec.1 (places24).choose_spec.2 rfl) rfl ?_
  refine Ops.cl (Enters.fn (evs.cons rfl (evs.cons rfl evs.nil)) Try.call15) (rsameB_spec v n 0 0 A none c 0 l [] _ (hl.frm hf1) (RdM.nil _ _) hn (by decide)) rfl ?_
  rintro e w2 ⟨rfl, hf2⟩
  refine ⟨_, rfl, ?_⟩
  refine Ops.r (Run.asg rfl) rfl ?_
  refine Ops.nil ?_
  refine thenQ_n ?_
  refine VC.sub [(2, _)] (.cons rfl .nil) ?_
  refine VC.ret ?_
  refine end1 rfl ?_
  exact ⟨rfl, hf1.trans hf2 (by simp)⟩

theorem checkF_nil : checkF [] := checkF_iff.2 ⟨List.Pairwise.nil, by simp, by simp⟩
theorem IsBx.is {w' : World} {F : Except Nat BoxV} {v n : Int} {B : Option Addr} {d : Nat} {l : List Mc} {k : Nat} {b : BoxV} (h : IsBx w' F v n B d l k) (hF : F = .ok b) : k = 0 ∧ v = b.valid ∧ n = b.next ∧ Ms l = b.l ∧ RdM w' B l := by
  rcases h with ⟨h0, ⟨h1, h2⟩ | ⟨_, h2, _⟩⟩
  · rw [hF] at h2
    injection h2 with h2
    subst h2
    exact ⟨h1, rfl, rfl, rfl, h0⟩
  · rw [hF] at h2
    cases h2

end Go.Proofs.Ytmfglifjnoilnaa

/-
  The chapter's examples of layer 26, on plain boxes.
-/
namespace Go.Proofs.Ytmfglifjnoilnaa
open Go.RowKit

theorem may_of {v n : Int} {l : List MsgP} (h1 : 1 ≤ v ∧ v ≤ 2147483647 ∧ 1 ≤ n ∧ n ≤ 2147483648 ∧ l.length ≤ 128)
    (h2 : ∀ j (h : j < l.length), prevU l j < l[j].uid ∧ l[j].uid < n ∧ DateOk l[j].sec l[j].zone ∧ 0 ≤ l[j].size ∧ l[j].blob ≠ 0) (h3 : ∀ m ∈ l, checkF m.flags) : mayB ⟨v, n, l⟩ :=
  ⟨h1, fun j hj => ⟨(h2 j hj).1, (h2 j hj).2.1, (h2 j hj).2.2.1, (h2 j hj).2.2.2.1, (h2 j hj).2.2.2.2, h3 _ (List.getElem_mem hj)⟩⟩
/-- A message of no flags. -/
def m0 (b : Nat) : MsgP := ⟨0, 0, 0, 0, b, []⟩
def m1 (u : Int) (b : Nat) (f : List Tx) : MsgP := ⟨u, 0, 0, 0, b, f⟩
theorem checkF_del : checkF [deletedF] := checkF_iff.2 ⟨by decide +kernel, by decide, by decide +kernel⟩
theorem ok0 (b : Nat) (hb : b ≠ 0) : MsgOk (m0 b) := ⟨show DateOk 0 0 by decide, Int.le_refl 0, hb, checkF_nil⟩
theorem may0 : mayB ⟨7, 1, []⟩ := may_of (by decide) (by decide) (by simp)
theorem may1 : mayB ⟨7, 2, [m1 1 1 []]⟩ := may_of (by decide) (by decide) (by simp [m1, checkF_nil])
theorem may2 : mayB ⟨7, 3, [m1 1 1 [], m1 2 2 []]⟩ := may_of (by decide) (by decide) (by simp [m1, checkF_nil])
theorem may3 : mayB ⟨7, 3, [m1 1 1 [deletedF], m1 2 2 []]⟩ := may_of (by decide) (by decide) (by simp [m1, checkF_nil, checkF_del])
theorem may4 : mayB ⟨7, 3, [m1 2 2 []]⟩ := may_of (by decide) (by decide) (by simp [m1, checkF_nil])
theorem app1 : appendB ⟨7, 1, []⟩ (m0 1) = .ok ⟨7, 2, [m1 1 1 []]⟩ := by
  unfold appendB
  rw [if_neg (by rintro (h | h); exact h may0; exact h (ok0 1 (by decide))), if_neg (by decide), if_neg (by decide)]
  rfl
theorem app2 : appendB ⟨7, 2, [m1 1 1 []]⟩ (m0 2) = .ok ⟨7, 3, [m1 1 1 [], m1 2 2 []]⟩ := by
  unfold appendB
  rw [if_neg (by rintro (h | h); exact h may1; exact h (ok0 2 (by decide))), if_neg (by decide), if_neg (by decide)]
  rfl
theorem app3 : appendB ⟨7, 3, [m1 2 2 []]⟩ (m0 3) = .ok ⟨7, 4, [m1 2 2 [], m1 3 3 []]⟩ := by
  unfold appendB
  rw [if_neg (by rintro (h | h); exact h may4; exact h (ok0 3 (by decide))), if_neg (by decide), if_neg (by decide)]
  rfl
/-- '\deleted', as it comes. -/
def smallDel : Tx := [92, 100, 101, 108, 101, 116, 101, 100]
theorem chgF : changeF [] 1 [smallDel] = .ok [deletedF] := by
  unfold changeF
  rw [if_neg (by rintro (h | h | h); exact h checkF_nil; omega; omega), show toldL [smallDel] = some [deletedF] by decide +kernel]
  show normF ([deletedF] ++ []) = _
  rw [List.append_nil]
  exact checkF_del
theorem chg1 : changeB ⟨7, 3, [m1 1 1 [], m1 2 2 []]⟩ 1 1 [smallDel] = .ok ⟨7, 3, [m1 1 1 [deletedF], m1 2 2 []]⟩ := by
  unfold changeB
  rw [if_neg (fun h => h may2), if_neg (by decide)]
  show (match changeF [] 1 [smallDel] with | .error e => .error e | .ok r => .ok ⟨7, 3, [m1 1 1 [], m1 2 2 []].set 0 { m1 1 1 [] with flags := r }⟩ : Except Nat BoxV) = _
  rw [chgF]
  rfl
theorem go1 : marksQ (goesQ true []) 0 [m1 1 1 [deletedF], m1 2 2 []] = [1] := by decide +kernel
theorem go2 : ([m1 1 1 [deletedF], m1 2 2 []].filter fun m => !goesQ true [] m) = [m1 2 2 []] := by decide +kernel
end Go.Proofs.Ytmfglifjnoilnaa

/-
  The chapter's examples of layer 26 hold.
-/
namespace Go.Proofs.Ytmfglifjnoilnaa
open Go.RowKit Go.Sort

set_option maxRecDepth 100000 in
theorem awake26_spec (w : World) : Calls Try.prog 13 #[] w fun e w' => e = .returned (.bool true) ∧ Frm [] w w' := by
  refine VC.calls (nt := 119) (res := #[.tmp 0]) Try.func13 rfl Try.ntmps13 Try.results13 rfl ?_
  refine VC.seq ?_
  refine VC.region ?_
  refine Ops.r (Run.asg rfl) rfl ?_
  refine Ops.nil ?_
  refine thenQ_n ?_
  refine VC.sub [] .nil ?_
  refine VC.seq ?_
  refine VC.region ?_
  refine Ops.cl (Enters.fn (evs.cons rfl evs.nil) Try.call24) (new_spec 7 _) rfl ?_
  rintro e w1 ⟨hf1, he⟩
  obtain rfl : e = .returned (.tuple #[.agg #[.int .i64 7, .int .i64 1, .slice none 0 0], .int .i64 0]) := by
    rcases he with ⟨_, h⟩ | ⟨h, _⟩
    · exact h
    · exact absurd may0 h
  refine ⟨_, rfl, ?_⟩
  refine Ops.r (Run.mv rfl) rfl ?_
  refine Ops.r (Run.extract rfl rfl) rfl ?_
  refine Ops.r (Run.extract rfl rfl) rfl ?_
  refine Ops.m (Does.alloc zero24) rfl ?_
  rintro _ w2 ⟨rfl, hF2⟩
  have hb2 := hF2.blk
  have hs2 : w.heap.size ≤ w1.heap.size := hf1.size
  have hfr2 := hf1.trans hF2.frm (by simp)
  generalize hg1 : w1.heap.size = g1 at hb2 hs2 ⊢
  refine Ops.st (Acts.storeA rfl rfl Try.sizeOf24 hb2 rfl (BVc_one 7 1 none 0 0)) ?_
  rintro w3 ⟨hb3, hf3, hs3⟩
  have hfr3 := hfr2.own hf3 (fun y hy => by simp at hy; omega)
  refine Ops.r (Run.asg rfl) rfl ?_
  refine Ops.nil ?_
  refine thenQ_n ?_
  refine VC.sub [(1, _), (2, _)] (.cons rfl (.cons rfl .nil)) ?_
  refine VC.seq ?_
  refine VC.region ?_
  refine Ops.r (Run.loadA rfl Try.isAgg24 Try.sizeOf24 (fun j v hj => hb3.cells j v hj) (by first | rfl | (simp; done))) rfl ?_
  refine Ops.r (Run.build (evs.cons rfl evs.nil) zero45 (places45).choose_spec.1 (places45).choose_spec.2 rfl) rfl ?_
  refine Ops.cl (Enters.fn (evs.cons rfl (evs.cons rfl evs.nil)) Try.call18) (append_spec 7 1 none 0 [] ⟨m0 1, none, 0⟩ _ (RdM.nil _ _) (by decide) ⟨Rd.nil _ _ _, by decide, by simp [m0]⟩) rfl ?_
  rintro e w4 ⟨hf4, v4, n4, B4, d4, l4, k4, rfl, hI4, hO4⟩
  obtain ⟨rfl, rfl, rfl, hl4, _⟩ := hI4.is app1
  rw [if_pos rfl]
  refine ⟨_, rfl, ?_⟩
  have hb4 := hb3.frm hf4 (by simp)
  have hfr4 := hfr3.trans hf4 (by simp)
  refine Ops.r (Run.mv rfl) rfl ?_
  refine Ops.r (Run.extract rfl rfl) rfl ?_
  refine Ops.r (Run.extract rfl rfl) rfl ?_
  refine Ops.r (Run.extract rfl rfl) rfl ?_
  refine Ops.st (Acts.storeA rfl rfl Try.sizeOf24 hb4 rfl (BVc_one 7 2 B4 l4.length d4)) ?_
  rintro w5 ⟨hb5, hf5, hs5⟩
  have hO5 := hO4.blk hf5 hb4 (by decide) (by decide)
  have hfr5 := hfr4.own hf5 (fun y hy => by simp at hy; omega)
  have hll4 : l4.length = 1 := by have := congrArg List.length hl4; simpa [Ms] using this
  refine Ops.r (Run.asg rfl) rfl ?_
  refine Ops.r (Run.asg rfl) rfl ?_
  refine Ops.nil ?_
  refine thenQ_n ?_
  refine VC.sub [(1, _), (2, _), (3, _), (4, _)] (.cons rfl (.cons rfl (.cons rfl (.cons rfl .nil)))) ?_
  refine VC.seq ?_
  refine VC.region ?_
  refine Ops.r (Run.loadA rfl Try.isAgg24 Try.sizeOf24 (fun j v hj => hb5.cells j v hj) (by first | rfl | (simp; done))) rfl ?_
  refine Ops.r (Run.build (evs.cons rfl evs.nil) zero45 (places45).choose_spec.1 (places45).choose_spec.2 rfl) rfl ?_
  refine Ops.cl (Enters.fn (evs.cons rfl (evs.cons rfl evs.nil)) Try.call18) (append_spec 7 2 B4 d4 l4 ⟨m0 2, none, 0⟩ _ hO5.rdm (by omega) ⟨Rd.nil _ _ _, by decide, by simp [m0]⟩) rfl ?_
  rintro e w6 ⟨hf6, v6, n6, B6, d6, l6, k6, rfl, hI6, hO6⟩
  obtain ⟨rfl, rfl, rfl, hl6, _⟩ := hI6.is (show appendB ⟨7, 2, Ms l4⟩ (m0 2) = _ by rw [hl4]; exact app2)
  rw [if_pos rfl]
  refine ⟨_, rfl, ?_⟩
  have hb6 := hb5.frm hf6 (by simp)
  have hfr6 := hfr5.trans hf6 (by simp)
  refine Ops.r (Run.mv rfl) rfl ?_
  refine Ops.r (Run.extract rfl rfl) rfl ?_
  refine Ops.r (Run.extract rfl rfl) rfl ?_
  refine Ops.r (Run.extract rfl rfl) rfl ?_
  refine Ops.st (Acts.storeA rfl rfl Try.sizeOf24 hb6 rfl (BVc_one 7 3 B6 l6.length d6)) ?_
  rintro w7 ⟨hb7, hf7, hs7⟩
  have hO7 := hO6.blk hf7 hb6 (by decide) (by decide)
  have hfr7 := hfr6.own hf7 (fun y hy => by simp at hy; omega)
  have hll6 : l6.length = 2 := by have := congrArg List.length hl6; simpa [Ms] using this
  refine Ops.r (Run.asg rfl) rfl ?_
  refine Ops.r (Run.asg rfl) rfl ?_
  refine Ops.nil ?_
  refine thenQ_n ?_
  refine VC.sub [(1, _), (2, _), (3, _), (4, _), (5, _), (6, _)] (.cons rfl (.cons rfl (.cons rfl (.cons rfl (.cons rfl (.cons rfl .nil)))))) ?_
  refine VC.seq ?_
  refine VC.region ?_
  refine Ops.r (Run.loadA rfl Try.isAgg24 Try.sizeOf24 (fun j v hj => hb7.cells j v hj) (by first | rfl | (simp; done))) rfl ?_
  refine Ops.m (Does.buildS1 rfl Try.underlying43 Try.sizeOf9 zero9 (by decide) (by decide) rfl rfl) rfl ?_
  rintro _ w8 ⟨rfl, hF8⟩
  have hb8 := hb7.frm hF8.frm (by simp)
  have hO8 := hO7.frm hF8.frm
  have hfr8 := hfr7.trans hF8.frm (by simp)
  refine Ops.cl (Enters.fn (evs.cons rfl (evs.cons rfl (evs.cons rfl (evs.cons rfl evs.nil)))) Try.call19) (change_spec 7 3 B6 d6 l6 1 1 _ _ [smallDel] _ hO8.rdm (by decide) (by decide) (hrd1 hF8)) rfl ?_
  rintro e w9 ⟨hf9, v9, n9, B9, d9, l9, k9, rfl, hI9, hO9⟩
  obtain ⟨rfl, rfl, rfl, hl9, _⟩ := hI9.is (show changeB ⟨7, 3, Ms l6⟩ 1 1 [smallDel] = _ by rw [hl6]; exact chg1)
  refine ⟨_, rfl, ?_⟩
  have hb9 := hb8.frm hf9 (by simp)
  have hfr9 := hfr8.trans hf9 (by simp)
  refine Ops.r (Run.mv rfl) rfl ?_
  refine Ops.r (Run.extract rfl rfl) rfl ?_
  refine Ops.r (Run.extract rfl rfl) rfl ?_
  refine Ops.st (Acts.storeA rfl rfl Try.sizeOf24 hb9 rfl (BVc_one 7 3 B9 l9.length d9)) ?_
  rintro w10 ⟨hb10, hf10, hs10⟩
  have hO10 := hO9.blk hf10 hb9 (by decide) (by decide)
  have hfr10 := hfr9.own hf10 (fun y hy => by simp at hy; omega)
  refine Ops.r (Run.asg rfl) rfl ?_
  refine Ops.nil ?_
  refine thenQ_n ?_
  refine VC.sub [(1, _), (2, _), (3, _), (4, _), (5, _), (6, _), (7, _)] (.cons rfl (.cons rfl (.cons rfl (.cons rfl (.cons rfl (.cons rfl (.cons rfl .nil))))))) ?_
  refine VC.seq ?_
  refine VC.region ?_
  refine Ops.r (Run.loadA rfl Try.isAgg24 Try.sizeOf24 (fun j v hj => hb10.cells j v hj) (by first | rfl | (simp; done))) rfl ?_
  refine Ops.cl (Enters.fn (evs.cons rfl (evs.cons rfl (evs.cons rfl evs.nil))) Try.call9) (expunge_spec 7 3 B9 d9 l9 true none 0 [] _ hO10.rdm (Rd.nil _ _ _) (by decide)) rfl ?_
  rintro e w11 ⟨hf11, v11, n11, B11, d11, l11, P, dP, ps, D, dD, bs, k11, rfl, hO11, hP, hD, hE⟩
  rw [hl9] at hE
  obtain ⟨rfl, rfl, rfl, hl11, rfl, rfl⟩ : k11 = 0 ∧ v11 = 7 ∧ n11 = 3 ∧ Ms l11 = [m1 2 2 []] ∧ ps = [1] ∧ bs = [1] := by
    rcases hE with ⟨h, _⟩ | ⟨_, h1, h2, h3, h4, h5, h6⟩
    · exact absurd may3 h
    · rw [go1] at h5 h6
      rw [go2] at h4
      exact ⟨h1, h2, h3, h4, h5, h6⟩
  refine ⟨_, rfl, ?_⟩
  have hb11 := hb10.frm hf11 (by simp)
  have hfr11 := hfr10.trans hf11 (by simp)
  refine Ops.r (Run.mv rfl) rfl ?_
  refine Ops.r (Run.extract rfl rfl) rfl ?_
  refine Ops.r (Run.extract rfl rfl) rfl ?_
  refine Ops.r (Run.extract rfl rfl) rfl ?_
  refine Ops.r (Run.extract rfl rfl) rfl ?_
  refine Ops.st (Acts.storeA rfl rfl Try.sizeOf24 hb11 rfl (BVc_one 7 3 B11 l11.length d11)) ?_
  rintro w12 ⟨hb12, hf12, hs12⟩
  have hO12 := hO11.blk hf12 hb11 (by decide) (by decide)
  have hP12 := hP.frm hf12 (fun y hy => by have := hP.ne_blk hb11 (by decide); simp; rintro rfl; exact this hy)
  have hD12 := hD.frm hf12 (fun y hy => by have := hD.ne_blk hb11 (by decide); simp; rintro rfl; exact this hy)
  have hfr12 := hfr11.own hf12 (fun y hy => by simp at hy; omega)
  have hll11 : l11.length = 1 := by have := congrArg List.length hl11; simpa [Ms] using this
  refine Ops.r (Run.asg rfl) rfl ?_
  refine Ops.r (Run.asg rfl) rfl ?_
  refine Ops.r (Run.asg rfl) rfl ?_
  refine Ops.nil ?_
  refine thenQ_n ?_
  refine VC.sub [(1, _), (2, _), (3, _), (4, _), (5, _), (6, _), (7, _), (8, _), (9, _), (10, _)] (.cons rfl (.cons rfl (.cons rfl (.cons rfl (.cons rfl (.cons rfl (.cons rfl (.cons rfl (.cons rfl (.cons rfl .nil)))))))))) ?_
  refine VC.seq ?_
  refine VC.region ?_
  refine Ops.r (Run.loadA rfl Try.isAgg24 Try.sizeOf24 (fun j v hj => hb12.cells j v hj) (by first | rfl | (simp; done))) rfl ?_
  refine Ops.cl (Enters.fn (evs.cons rfl (evs.cons rfl evs.nil)) Try.call27) (place_spec 7 3 B11 d11 l11 2 _ hO12.rdm) rfl ?_
  rintro e w13 ⟨hf13, p, rfl, hp⟩
  obtain rfl : p = 1 := by
    have hN : nidsB ⟨7, 3, Ms l11⟩ = [2] := by rw [hl11]; exact if_pos may4
    rw [hN] at hp
    rcases hp with ⟨_, h⟩ | ⟨h1, h2⟩
    · exact absurd (List.mem_singleton.2 rfl) h
    · have := (List.getElem?_eq_some_iff.1 h2).1
      simp at this
      omega
  refine ⟨_, rfl, ?_⟩
  have hb13 := hb12.frm hf13 (by simp)
  have hO13 := hO12.frm hf13
  have hfr13 := hfr12.trans hf13 (by simp)
  refine Ops.r (Run.asg rfl) rfl ?_
  refine Ops.nil ?_
  refine thenQ_n ?_
  refine VC.sub [(1, _), (2, _), (3, _), (4, _), (5, _), (6, _), (7, _), (8, _), (9, _), (10, _), (11, _)] (.cons rfl (.cons rfl (.cons rfl (.cons rfl (.cons rfl (.cons rfl (.cons rfl (.cons rfl (.cons rfl (.cons rfl (.cons rfl .nil))))))))))) ?_
  refine VC.seq ?_
  refine VC.region ?_
  refine Ops.r (Run.loadA rfl Try.isAgg24 Try.sizeOf24 (fun j v hj => hb13.cells j v hj) (by first | rfl | (simp; done))) rfl ?_
  refine Ops.r (Run.build (evs.cons rfl evs.nil) zero45 (places45).choose_spec.1 (places45).choose_spec.2 rfl) rfl ?_
  refine Ops.cl (Enters.fn (evs.cons rfl (evs.cons rfl evs.nil)) Try.call18) (append_spec 7 3 B11 d11 l11 ⟨m0 3, none, 0⟩ _ hO13.rdm (by omega) ⟨Rd.nil _ _ _, by decide, by simp [m0]⟩) rfl ?_
  rintro e w14 ⟨hf14, v14, n14, B14, d14, l14, k14, rfl, hI14, hO14⟩
  obtain ⟨rfl, rfl, rfl, hl14, _⟩ := hI14.is (show appendB ⟨7, 3, Ms l11⟩ (m0 3) = _ by rw [hl11]; exact app3)
  rw [if_pos rfl]
  refine ⟨_, rfl, ?_⟩
  have hfr14 := hfr13.trans hf14 (by simp)
  have hP14 := (hP12.frm hf13 (by simp)).frm hf14 (by simp)
  have hD14 := (hD12.frm hf13 (by simp)).frm hf14 (by simp)
  refine Ops.r (Run.mv rfl) rfl ?_
  refine Ops.r (Run.extract rfl rfl) rfl ?_
  refine Ops.r (Run.extract rfl rfl) rfl ?_
  refine Ops.r (Run.extract rfl rfl) rfl ?_
  refine Ops.m (Does.alloc zero24) rfl ?_
  rintro _ w15 ⟨rfl, hF15⟩
  have hb15 := hF15.blk
  have hP15 := hP14.frm hF15.frm (by simp)
  have hD15 := hD14.frm hF15.frm (by simp)
  have hfr15 := hfr14.trans hF15.frm (by simp)
  have hs15 : w.heap.size ≤ w14.heap.size := hfr14.size
  generalize hg2 : w14.heap.size = g2 at hb15 hs15 ⊢
  refine Ops.st (Acts.storeA rfl rfl Try.sizeOf24 hb15 rfl (BVc_one 7 4 B14 l14.length d14)) ?_
  rintro w16 ⟨hb16, hf16, hs16⟩
  have hP16 := hP15.frm hf16 (fun y hy => by have := hP15.ne_blk hb15 (by decide); simp; rintro rfl; exact this hy)
  have hD16 := hD15.frm hf16 (fun y hy => by have := hD15.ne_blk hb15 (by decide); simp; rintro rfl; exact this hy)
  have hfr16 := hfr15.own hf16 (fun y hy => by simp at hy; omega)
  obtain ⟨adP, uP, rfl, hu, hcP⟩ := hP16.rd.at1 (k := 0) (by decide)
  obtain rfl : uP = .int .i64 ((1 : Nat) : Int) := by simpa [IB] using hu.symm
  obtain ⟨adD, uD, rfl, hv, hcD⟩ := hD16.rd.at1 (k := 0) (by decide)
  obtain rfl : uD = .int .u64 ((1 : Nat) : Int) := by simpa [UBl] using hv.symm
  refine Ops.r (Run.asg rfl) rfl ?_
  refine Ops.r (Run.asg rfl) rfl ?_
  refine Ops.nil ?_
  refine thenQ_n ?_
  refine VC.sub [(2, _), (3, _), (4, _), (5, _), (6, _), (7, _), (8, _), (9, _), (10, _), (11, _), (13, _), (14, _)] (.cons rfl (.cons rfl (.cons rfl (.cons rfl (.cons rfl (.cons rfl (.cons rfl (.cons rfl (.cons rfl (.cons rfl (.cons rfl (.cons rfl .nil)))))))))))) ?_
  refine VC.seq ?_
  refine VC.region ?_
  refine Ops.r (Run.mv rfl) rfl ?_
  refine Ops.r (Run.bin rfl rfl (Bin.eqlN _ 0)) rfl ?_
  refine Ops.r (Run.mv rfl) rfl ?_
  refine Ops.rg rfl (by first | rfl | assumption | exact decide_eq_true (by assumption) | exact decide_eq_false (by assumption) | decide | (simp; done) | (simp; omega) | (simp [*]; done)) (Run.mv rfl) rfl ?_
  refine Ops.rg rfl (by first | rfl | assumption | exact decide_eq_true (by assumption) | exact decide_eq_false (by assumption) | decide | (simp; done) | (simp; omega) | (simp [*]; done)) (Run.bin rfl rfl (Bin.eqlN _ 1)) rfl ?_
  refine Ops.r (Run.pickT rfl rfl (by first | rfl | assumption | exact decide_eq_true (by assumption) | exact decide_eq_false (by assumption) | decide | (simp; done) | (simp; omega) | (simp [*]; done))) rfl ?_
  refine Ops.r (Run.mv rfl) rfl ?_
  refine Ops.rg rfl (by first | rfl | assumption | exact decide_eq_true (by assumption) | exact decide_eq_false (by assumption) | decide | (simp; done) | (simp; omega) | (simp [*]; done)) (Run.mv rfl) rfl ?_
  refine Ops.rg rfl (by first | rfl | assumption | exact decide_eq_true (by assumption) | exact decide_eq_false (by assumption) | decide | (simp; done) | (simp; omega) | (simp [*]; done)) (Run.bin rfl rfl (Bin.eqlN _ 0)) rfl ?_
  refine Ops.r (Run.pickT rfl rfl (by first | rfl | assumption | exact decide_eq_true (by assumption) | exact decide_eq_false (by assumption) | decide | (simp; done) | (simp; omega) | (simp [*]; done))) rfl ?_
  refine Ops.r (Run.mv rfl) rfl ?_
  refine Ops.rg rfl (by first | rfl | assumption | exact decide_eq_true (by assumption) | exact decide_eq_false (by assumption) | decide | (simp; done) | (simp; omega) | (simp [*]; done)) (Run.mv rfl) rfl ?_
  refine Ops.rg rfl (by first | rfl | assumption | exact decide_eq_true (by assumption) | exact decide_eq_false (by assumption) | decide | (simp; done) | (simp; omega) | (simp [*]; done)) (Run.bin rfl rfl (Bin.eqlN _ 2)) rfl ?_
  refine Ops.r (Run.pickT rfl rfl (by first | rfl | assumption | exact decide_eq_true (by assumption) | exact decide_eq_false (by assumption) | decide | (simp; done) | (simp; omega) | (simp [*]; done))) rfl ?_
  refine Ops.r (Run.mv rfl) rfl ?_
  refine Ops.rg rfl (by first | rfl | assumption | exact decide_eq_true (by assumption) | exact decide_eq_false (by assumption) | decide | (simp; done) | (simp; omega) | (simp [*]; done)) (Run.mv rfl) rfl ?_
  refine Ops.rg rfl (by first | rfl | assumption | exact decide_eq_true (by assumption) | exact decide_eq_false (by assumption) | decide | (simp; done) | (simp; omega) | (simp [*]; done)) (Run.bin rfl rfl (Bin.eqlN _ 0)) rfl ?_
  refine Ops.r (Run.pickT rfl rfl (by first | rfl | assumption | exact decide_eq_true (by assumption) | exact decide_eq_false (by assumption) | decide | (simp; done) | (simp; omega) | (simp [*]; done))) rfl ?_
  refine Ops.r (Run.mv rfl) rfl ?_
  refine Ops.rg rfl (by first | rfl | assumption | exact decide_eq_true (by assumption) | exact decide_eq_false (by assumption) | decide | (simp; done) | (simp; omega) | (simp [*]; done)) (Run.mv rfl) rfl ?_
  refine Ops.rg rfl (by first | rfl | assumption | exact decide_eq_true (by assumption) | exact decide_eq_false (by assumption) | decide | (simp; done) | (simp; omega) | (simp [*]; done)) (Run.bin rfl rfl (Bin.eqlN _ 0)) rfl ?_
  refine Ops.r (Run.pickT rfl rfl (by first | rfl | assumption | exact decide_eq_true (by assumption) | exact decide_eq_false (by assumption) | decide | (simp; done) | (simp; omega) | (simp [*]; done))) rfl ?_
  refine Ops.r (Run.mv rfl) rfl ?_
  refine Ops.rg rfl (by first | rfl | assumption | exact decide_eq_true (by assumption) | exact decide_eq_false (by assumption) | decide | (simp; done) | (simp; omega) | (simp [*]; done)) (Run.mv rfl) rfl ?_
  refine Ops.rg rfl (by first | rfl | assumption | exact decide_eq_true (by assumption) | exact decide_eq_false (by assumption) | decide | (simp; done) | (simp; omega) | (simp [*]; done)) (Run.lenS rfl Try.underlying25) rfl ?_
  refine Ops.rg rfl (by first | rfl | assumption | exact decide_eq_true (by assumption) | exact decide_eq_false (by assumption) | decide | (simp; done) | (simp; omega) | (simp [*]; done)) (Run.bin rfl rfl (Bin.eqlN _ 1)) rfl ?_
  refine Ops.r (Run.pickT rfl rfl (by first | rfl | assumption | exact decide_eq_true (by assumption) | exact decide_eq_false (by assumption) | decide | (simp; done) | (simp; omega) | (simp [*]; done))) rfl ?_
  refine Ops.r (Run.mv rfl) rfl ?_
  refine Ops.rg rfl (by first | rfl | assumption | exact decide_eq_true (by assumption) | exact decide_eq_false (by assumption) | decide | (simp; done) | (simp; omega) | (simp [*]; done)) (Run.mv rfl) rfl ?_
  refine Ops.rg rfl (by first | rfl | assumption | exact decide_eq_true (by assumption) | exact decide_eq_false (by assumption) | decide | (simp; done) | (simp; omega) | (simp [*]; done)) (Run.index1 0 rfl rfl Try.underlying25 Try.sizeOf3 (by decide)) rfl ?_
  refine Ops.rg rfl (by first | rfl | assumption | exact decide_eq_true (by assumption) | exact decide_eq_false (by assumption) | decide | (simp; done) | (simp; omega) | (simp [*]; done)) (Run.load rfl Try.isAgg3 hcP) rfl ?_
  refine Ops.rg rfl (by first | rfl | assumption | exact decide_eq_true (by assumption) | exact decide_eq_false (by assumption) | decide | (simp; done) | (simp; omega) | (simp [*]; done)) (Run.bin rfl rfl (Bin.eqlN _ 1)) rfl ?_
  refine Ops.r (Run.pickT rfl rfl (by first | rfl | assumption | exact decide_eq_true (by assumption) | exact decide_eq_false (by assumption) | decide | (simp; done) | (simp; omega) | (simp [*]; done))) rfl ?_
  refine Ops.r (Run.mv rfl) rfl ?_
  refine Ops.rg rfl (by first | rfl | assumption | exact decide_eq_true (by assumption) | exact decide_eq_false (by assumption) | decide | (simp; done) | (simp; omega) | (simp [*]; done)) (Run.mv rfl) rfl ?_
  refine Ops.rg rfl (by first | rfl | assumption | exact decide_eq_true (by assumption) | exact decide_eq_false (by assumption) | decide | (simp; done) | (simp; omega) | (simp [*]; done)) (Run.lenS rfl Try.underlying27) rfl ?_
  refine Ops.rg rfl (by first | rfl | assumption | exact decide_eq_true (by assumption) | exact decide_eq_false (by assumption) | decide | (simp; done) | (simp; omega) | (simp [*]; done)) (Run.bin rfl rfl (Bin.eqlN _ 1)) rfl ?_
  refine Ops.r (Run.pickT rfl rfl (by first | rfl | assumption | exact decide_eq_true (by assumption) | exact decide_eq_false (by assumption) | decide | (simp; done) | (simp; omega) | (simp [*]; done))) rfl ?_
  refine Ops.r (Run.mv rfl) rfl ?_
  refine Ops.rg rfl (by first | rfl | assumption | exact decide_eq_true (by assumption) | exact decide_eq_false (by assumption) | decide | (simp; done) | (simp; omega) | (simp [*]; done)) (Run.mv rfl) rfl ?_
  refine Ops.rg rfl (by first | rfl | assumption | exact decide_eq_true (by assumption) | exact decide_eq_false (by assumption) | decide | (simp; done) | (simp; omega) | (simp [*]; done)) (Run.index1 0 rfl rfl Try.underlying27 Try.sizeOf38 (by decide)) rfl ?_
  refine Ops.rg rfl (by first | rfl | assumption | exact decide_eq_true (by assumption) | exact decide_eq_false (by assumption) | decide | (simp; done) | (simp; omega) | (simp [*]; done)) (Run.load rfl Try.isAgg38 hcD) rfl ?_
  refine Ops.rg rfl (by first | rfl | assumption | exact decide_eq_true (by assumption) | exact decide_eq_false (by assumption) | decide | (simp; done) | (simp; omega) | (simp [*]; done)) (Run.bin rfl rfl (Bin.eqlN _ 1)) rfl ?_
  refine Ops.r (Run.pickT rfl rfl (by first | rfl | assumption | exact decide_eq_true (by assumption) | exact decide_eq_false (by assumption) | decide | (simp; done) | (simp; omega) | (simp [*]; done))) rfl ?_
  refine Ops.r (Run.mv rfl) rfl ?_
  refine Ops.rg rfl (by first | rfl | assumption | exact decide_eq_true (by assumption) | exact decide_eq_false (by assumption) | decide | (simp; done) | (simp; omega) | (simp [*]; done)) (Run.mv rfl) rfl ?_
  refine Ops.rg rfl (by first | rfl | assumption | exact decide_eq_true (by assumption) | exact decide_eq_false (by assumption) | decide | (simp; done) | (simp; omega) | (simp [*]; done)) (Run.bin rfl rfl (Bin.eqlN _ 0)) rfl ?_
  refine Ops.r (Run.pickT rfl rfl (by first | rfl | assumption | exact decide_eq_true (by assumption) | exact decide_eq_false (by assumption) | decide | (simp; done) | (simp; omega) | (simp [*]; done))) rfl ?_
  refine Ops.r (Run.mv rfl) rfl ?_
  refine Ops.rg rfl (by first | rfl | assumption | exact decide_eq_true (by assumption) | exact decide_eq_false (by assumption) | decide | (simp; done) | (simp; omega) | (simp [*]; done)) (Run.mv rfl) rfl ?_
  refine Ops.rg rfl (by first | rfl | assumption | exact decide_eq_true (by assumption) | exact decide_eq_false (by assumption) | decide | (simp; done) | (simp; omega) | (simp [*]; done)) (Run.bin rfl rfl (Bin.eqlN _ 1)) rfl ?_
  refine Ops.r (Run.pickT rfl rfl (by first | rfl | assumption | exact decide_eq_true (by assumption) | exact decide_eq_false (by assumption) | decide | (simp; done) | (simp; omega) | (simp [*]; done))) rfl ?_
  refine Ops.r (Run.mv rfl) rfl ?_
  refine Ops.rg rfl (by first | rfl | assumption | exact decide_eq_true (by assumption) | exact decide_eq_false (by assumption) | decide | (simp; done) | (simp; omega) | (simp [*]; done)) (Run.mv rfl) rfl ?_
  refine Ops.rg rfl (by first | rfl | assumption | exact decide_eq_true (by assumption) | exact decide_eq_false (by assumption) | decide | (simp; done) | (simp; omega) | (simp [*]; done)) (Run.bin rfl rfl (Bin.eqlN _ 3)) rfl ?_
  refine Ops.r (Run.pickT rfl rfl (by first | rfl | assumption | exact decide_eq_true (by assumption) | exact decide_eq_false (by assumption) | decide | (simp; done) | (simp; omega) | (simp [*]; done))) rfl ?_
  refine Ops.r (Run.mv rfl) rfl ?_
  refine Ops.rg rfl (by first | rfl | assumption | exact decide_eq_true (by assumption) | exact decide_eq_false (by assumption) | decide | (simp; done) | (simp; omega) | (simp [*]; done)) (Run.mv rfl) rfl ?_
  refine Ops.rg rfl (by first | rfl | assumption | exact decide_eq_true (by assumption) | exact decide_eq_false (by assumption) | decide | (simp; done) | (simp; omega) | (simp [*]; done)) (Run.bin rfl rfl (Bin.eqlN _ 0)) rfl ?_
  refine Ops.r (Run.pickT rfl rfl (by first | rfl | assumption | exact decide_eq_true (by assumption) | exact decide_eq_false (by assumption) | decide | (simp; done) | (simp; omega) | (simp [*]; done))) rfl ?_
  refine Ops.r (Run.mv rfl) rfl ?_
  refine Ops.r (Run.pickT rfl rfl (by first | rfl | assumption | exact decide_eq_true (by assumption) | exact decide_eq_false (by assumption) | decide | (simp; done) | (simp; omega) | (simp [*]; done))) rfl ?_
  refine Ops.r (Run.mv rfl) rfl ?_
  refine Ops.r (Run.pickT rfl rfl (by first | rfl | assumption | exact decide_eq_true (by assumption) | exact decide_eq_false (by assumption) | decide | (simp; done) | (simp; omega) | (simp [*]; done))) rfl ?_
  refine Ops.r (Run.asg rfl) rfl ?_
  refine Ops.nil ?_
  refine thenQ_n ?_
  refine VC.sub [(0, _)] (.cons rfl .nil) ?_
  refine VC.ret ?_
  refine end1 rfl ?_
  exact ⟨rfl, hfr16⟩

end Go.Proofs.Ytmfglifjnoilnaa

/-
  A box that came in, read.
-/
namespace Go.Proofs.Ytmfglifjnoilnaa
open Go.RowKit Go.ChangeShapes Go.WideShapes Go.Deep
section
variable {H : Type} {enc : TypeId × Value → H} {w : World} {base : Nat} {spare : Nat → Bool} {held : Bool}
set_option maxRecDepth 100000 in
theorem open_msg {n : Nat} {cs : List Value} {x : DataW H × List MemPlace} (h : DataW.trod enc Try.prog w base spare held n 45 cs = some x) :
    ∃ y : Mc, cs = y.cells ∧ Rd w 1 y.A y.m.flags.length (SB y.m.flags) ∧ y.m.flags.length ≤ y.c := by
  obtain ⟨xs, n', _, _, hlen, hxl, hf⟩ := DataW.trod_struct Try.underlying45 h
  have hl : cs.length = 6 := hlen.trans (by kernel_rfl)
  obtain ⟨a0, a1, a2, a3, a4, a5, rfl⟩ : ∃ a0 a1 a2 a3 a4 a5, cs = [a0, a1, a2, a3, a4, a5] := by
    match cs, hl with
    | [a0, a1, a2, a3, a4, a5], _ => exact ⟨a0, a1, a2, a3, a4, a5, rfl⟩
  have hget : ∀ i, i < 5 → ∃ y, xs[i]? = some y := fun i hi => ⟨xs[i]'(by rw [hxl]; exact hi), List.getElem?_eq_getElem _⟩
  have h0 := hf 0 _ rfl
  have h1 := hf 1 _ rfl
  have h2 := hf 2 _ rfl
  have h3 := hf 3 _ rfl
  have h4 := hf 4 _ rfl
  obtain ⟨y0, e0⟩ := hget 0 (by decide)
  obtain ⟨y1, e1⟩ := hget 1 (by decide)
  obtain ⟨y2, e2⟩ := hget 2 (by decide)
  obtain ⟨y3, e3⟩ := hget 3 (by decide)
  obtain ⟨y4, e4⟩ := hget 4 (by decide)
  rw [e0] at h0
  rw [e1] at h1
  rw [e2] at h2
  rw [e3] at h3
  rw [e4] at h4
  have c1 : Try.prog.cellsOf 3 = 1 := by kernel_rfl
  have c2 : Try.prog.cellsOf 42 = 2 := by kernel_rfl
  have c3 : Try.prog.cellsOf 38 = 1 := by kernel_rfl
  have c4 : Try.prog.cellsOf 43 = 1 := by kernel_rfl
  have h0 : DataW.trod enc Try.prog w base spare held n' 3 ([a0, a1, a2, a3, a4, a5].take (Try.prog.cellsOf 3)) = some y0 := h0
  have h1 : DataW.trod enc Try.prog w base spare held n' 42 ([a1, a2, a3, a4, a5].take (Try.prog.cellsOf 42)) = some y1 := h1
  have h2 : DataW.trod enc Try.prog w base spare held n' 3 ([a3, a4, a5].take (Try.prog.cellsOf 3)) = some y2 := h2
  have h3 : DataW.trod enc Try.prog w base spare held n' 38 ([a4, a5].take (Try.prog.cellsOf 38)) = some y3 := h3
  have h4 : DataW.trod enc Try.prog w base spare held n' 43 ([a5].take (Try.prog.cellsOf 43)) = some y4 := h4
  rw [c1] at h0 h2
  rw [c2] at h1
  rw [c3] at h3
  rw [c4] at h4
  obtain ⟨z0, g0, _⟩ := DataW.trod_int Try.underlying3 h0
  obtain ⟨z2, g2, _⟩ := DataW.trod_int Try.underlying3 h2
  obtain ⟨z3, g3, _, w3⟩ := DataW.trod_int Try.underlying38 h3
  obtain ⟨xd, nd, _, _, _, hxd, hfd⟩ := DataW.trod_struct Try.underlying42 h1
  have d0 := hfd 0 _ rfl
  have d1 := hfd 1 _ rfl
  have hgd : ∀ i, i < 2 → ∃ y, xd[i]? = some y := fun i hi => ⟨xd[i]'(by rw [hxd]; exact hi), List.getElem?_eq_getElem _⟩
  obtain ⟨u0, f0⟩ := hgd 0 (by decide)
  obtain ⟨u1, f1⟩ := hgd 1 (by decide)
  rw [f0] at d0
  rw [f1] at d1
  have c5 : Try.prog.cellsOf 2 = 1 := by kernel_rfl
  have d0 : DataW.trod enc Try.prog w base spare held nd 2 ([a1, a2].take (Try.prog.cellsOf 2)) = some u0 := d0
  have d1 : DataW.trod enc Try.prog w base spare held nd 3 ([a2].take (Try.prog.cellsOf 3)) = some u1 := d1
  rw [c5] at d0
  rw [c1] at d1
  obtain ⟨zs, gs, _⟩ := DataW.trod_int Try.underlying2 d0
  obtain ⟨zz, gz, _⟩ := DataW.trod_int Try.underlying3 d1
  simp only [List.take_succ_cons, List.take_zero, List.cons.injEq, and_true] at g0 g2 g3 gs gz
  subst g0 g2 g3 gs gz
  have h4 : DataW.trod enc Try.prog w base spare held n' 43 [a5] = some y4 := h4
  have hv : ∃ A l c, a5 = .slice A l c := by
    rcases open_slice1 Try.underlying43 (by kernel_rfl) h4 with ⟨hcs, _⟩ | ⟨ad, l, c, _, _, _, _, _, hcs, _⟩
    · exact ⟨_, _, _, by simpa using hcs⟩
    · exact ⟨_, _, _, by simpa using hcs⟩
  obtain ⟨A, len, c, rfl⟩ := hv
  obtain ⟨fl, rfl, hlc, _, hrd⟩ := rd_txs Try.underlying43 Try.underlying9 (by kernel_rfl) h4
  have hz3 := bounds_u64 w3
  refine ⟨⟨⟨z0, zs, zz, z2, z3.toNat, fl⟩, A, c⟩, ?_, hrd, hlc⟩
  simp only [Mc.cells]
  rw [Int.toNat_of_nonneg hz3.1]
theorem rd_msgs {fuel len cap : Nat} {a : Option Addr} {x : DataW H × List MemPlace} (h : DataW.trod enc Try.prog w base spare held fuel 22 [.slice a len cap] = some x) :
    ∃ l : List Mc, l.length = len ∧ len ≤ cap ∧ cap ≤ 9223372036854775807 ∧ RawM w a l := by
  have hC : Try.prog.cellsOf 45 = 6 := by kernel_rfl
  rcases open_slice Try.underlying22 h with ⟨hcs, _⟩ | ⟨ad, l, c, m, n, D, Pl, hcs, _, hl, hm, hmm, _, hi⟩
  · simp only [List.cons.injEq, Value.slice.injEq, and_true] at hcs
    obtain ⟨rfl, rfl, rfl⟩ := hcs
    exact ⟨[], rfl, Nat.le_refl _, by omega, Rd.nil _ _ _, by simp⟩
  · simp only [List.cons.injEq, Value.slice.injEq, and_true] at hcs
    obtain ⟨rfl, rfl, rfl⟩ := hcs
    have hml : len ≤ m := by rw [hmm]; split <;> omega
    rw [hC] at hi
    have key : ∀ i, i < len → ∃ y : Mc, (∀ j, j < 6 → w.cell? ((ad.add (i * 6)).add j) = y.cells[j]?) ∧ Rd w 1 y.A y.m.flags.length (SB y.m.flags) ∧ y.m.flags.length ≤ y.c := by
      intro i hil
      obtain ⟨cs', hc, ht'⟩ := hi i (by omega)
      obtain ⟨_, hcl, hat⟩ := World.cells?_some hc
      obtain ⟨y, rfl, h1, h2⟩ := open_msg ht'
      exact ⟨y, fun j hj => hat j hj, h1, h2⟩
    obtain ⟨ls, hll, hq⟩ := list_choose len key
    have hcell : ∀ j u, (MC ls)[j]? = some u → w.cell? (ad.add j) = some u := by
      intro j u hu
      rw [show MC ls = ls.flatMap Mc.cells from rfl, flat_idx Mc.cells 6 (by omega) Mc.cells_len] at hu
      obtain ⟨y, hy, hu'⟩ := Option.bind_eq_some_iff.1 hu
      have := (hq _ y hy).1 (j % 6) (Nat.mod_lt _ (by omega))
      rw [Go.Proofs.Ytmfglifjnoilnaa.add_add, Nat.mul_comm, Nat.div_add_mod] at this
      rw [this, hu']
    refine ⟨ls, hll, hl, by simpa [maxLen] using hm, ⟨by rw [MC_len], fun hn => ⟨ad, rfl, ?_, hcell⟩⟩, fun y hy => ?_⟩
    · have h0 : 0 < (MC ls).length := by rw [MC_len]; omega
      have := World.block_lt_of_cell? w _ (hcell 0 _ (List.getElem?_eq_getElem h0))
      rwa [block_add] at this
    · obtain ⟨i, hi', hli⟩ := List.getElem_of_mem hy
      exact (hq i y (by rw [List.getElem?_eq_getElem hi', hli])).2
set_option maxRecDepth 100000 in
theorem open_box {r : Reach} {b0 : Nat} {v : Value} {d : DataW H} {ps : List MemPlace} (hval : Value.okWide Try.prog w r b0 24 v) (hd : DataW.Trod enc Try.prog w base spare held 24 v d ps) :
    ∃ (x n : Int) (a : Option Addr) (c : Nat) (l : List Mc), v = .agg #[.int .i64 x, .int .i64 n, .slice a l.length c] ∧ l.length ≤ c ∧ c ≤ 9223372036854775807 ∧ RawM w a l := by
  obtain ⟨cs, rfl, _⟩ := okWide_struct Try.underlying24 hval
  obtain ⟨fuel, hf⟩ := hd
  have hf : DataW.trod enc Try.prog w base spare held fuel 24 cs.toList = some (d, ps) := hf
  obtain ⟨xs, n', _, _, hlen, hxl, hg⟩ := DataW.trod_struct Try.underlying24 hf
  have hl : cs.toList.length = 3 := hlen.trans (by kernel_rfl)
  obtain ⟨a0, a1, a2, hcs⟩ : ∃ a0 a1 a2, cs.toList = [a0, a1, a2] := by
    match cs.toList, hl with
    | [a0, a1, a2], _ => exact ⟨a0, a1, a2, rfl⟩
  have hcs2 : cs = #[a0, a1, a2] := by rw [← Array.toArray_toList (xs := cs), hcs]
  subst hcs2
  have hget : ∀ i, i < 3 → ∃ y, xs[i]? = some y := fun i hi => ⟨xs[i]'(by rw [hxl]; exact hi), List.getElem?_eq_getElem _⟩
  obtain ⟨y0, e0⟩ := hget 0 (by decide)
  obtain ⟨y1, e1⟩ := hget 1 (by decide)
  obtain ⟨y2, e2⟩ := hget 2 (by decide)
  have c1 : Try.prog.cellsOf 3 = 1 := by kernel_rfl
  have c2 : Try.prog.cellsOf 22 = 1 := by kernel_rfl
  have h0 : DataW.trod enc Try.prog w base spare held n' 3 ([a0, a1, a2].take (Try.prog.cellsOf 3)) = some y0 := (hg 0 _ rfl).trans e0
  have h1 : DataW.trod enc Try.prog w base spare held n' 3 ([a1, a2].take (Try.prog.cellsOf 3)) = some y1 := (hg 1 _ rfl).trans e1
  have h2 : DataW.trod enc Try.prog w base spare held n' 22 ([a2].take (Try.prog.cellsOf 22)) = some y2 := (hg 2 _ rfl).trans e2
  rw [c1] at h0 h1
  rw [c2] at h2
  obtain ⟨z0, g0, _⟩ := DataW.trod_int Try.underlying3 h0
  obtain ⟨z1, g1, _⟩ := DataW.trod_int Try.underlying3 h1
  simp only [List.take_succ_cons, List.take_zero, List.cons.injEq, and_true] at g0 g1
  subst g0 g1
  have h2 : DataW.trod enc Try.prog w base spare held n' 22 [a2] = some y2 := h2
  have hv : ∃ A l c, a2 = .slice A l c := by
    rcases open_slice Try.underlying22 h2 with ⟨hcs, _⟩ | ⟨ad, l, c, _, _, _, _, hcs, _⟩
    · exact ⟨_, _, _, by simpa using hcs⟩
    · exact ⟨_, _, _, by simpa using hcs⟩
  obtain ⟨A, len, c, rfl⟩ := hv
  obtain ⟨l, rfl, k1, k2, k3⟩ := rd_msgs h2
  exact ⟨z0, z1, A, c, l, rfl, k1, k2, k3⟩
end
end Go.Proofs.Ytmfglifjnoilnaa

/-
  Arguments of the laws of box, read.
-/
namespace Go.Proofs.Ytmfglifjnoilnaa
open Go.RowKit Go.Sort

section
variable {H : Type} {enc : TypeId × Value → H} {w : World} {base : Nat} {spare : Nat → Bool} {held : Bool} {n : Nat} {cs : List Value} {x : DataW H × List MemPlace}
theorem msgs_form (h : DataW.trod enc Try.prog w base spare held n 22 cs = some x) : ∃ (A : Option Addr) (c : Nat) (l : List Mc), cs = [.slice A l.length c] ∧ l.length ≤ c ∧ RawM w A l := by
  obtain ⟨A, len, c, rfl⟩ := slice_form Try.underlying22 h
  obtain ⟨l, rfl, h1, _, h3⟩ := rd_msgs h
  exact ⟨A, c, l, rfl, h1, h3⟩
end

set_option maxRecDepth 100000 in
theorem box_form {H : Type} {enc : TypeId × Value → H} {w : World} {base : Nat} {spare : Nat → Bool} {held : Bool} {n : Nat} {cs : List Value} {x : DataW H × List MemPlace} (h : DataW.trod enc Try.prog w base spare held n 24 cs = some x) :
    ∃ (va : Int) (na : Int) (A : Option Addr) (c : Nat) (l : List Mc), cs = ([.int .i64 va] ++ ([.int .i64 na] ++ ([.slice A l.length c] ++ [] : List Value) : List Value) : List Value) ∧ ((Lit.int .i64 va).wf = true) ∧ ((Lit.int .i64 na).wf = true) ∧ (l.length ≤ c ∧ RawM w A l) := by
  obtain ⟨hlen, n', hf⟩ := open_field Try.underlying24 h
  have hl : cs.length = 3 := hlen.trans (by kernel_rfl)
  obtain ⟨a0, a1, a2, rfl⟩ : ∃ a0 a1 a2, cs = [a0, a1, a2] := by
    match cs, hl with
    | [a0, a1, a2], _ => exact ⟨a0, a1, a2, rfl⟩
  clear h hlen hl
  obtain ⟨y0, h0⟩ := hf 0 _ rfl
  have h0 : DataW.trod enc Try.prog w base spare held n' 3 ([a0, a1, a2].take (Try.prog.cellsOf 3)) = some y0 := h0
  rw [show Try.prog.cellsOf 3 = 1 by kernel_rfl] at h0
  have h0 : DataW.trod enc Try.prog w base spare held n' 3 [a0] = some y0 := h0
  obtain ⟨va, e0, q0⟩ := int_form Try.underlying3 h0
  obtain ⟨y1, h1⟩ := hf 1 _ rfl
  have h1 : DataW.trod enc Try.prog w base spare held n' 3 ([a1, a2].take (Try.prog.cellsOf 3)) = some y1 := h1
  rw [show Try.prog.cellsOf 3 = 1 by kernel_rfl] at h1
  have h1 : DataW.trod enc Try.prog w base spare held n' 3 [a1] = some y1 := h1
  obtain ⟨na, e1, q1⟩ := int_form Try.underlying3 h1
  obtain ⟨y2, h2⟩ := hf 2 _ rfl
  have h2 : DataW.trod enc Try.prog w base spare held n' 22 ([a2].take (Try.prog.cellsOf 22)) = some y2 := h2
  rw [show Try.prog.cellsOf 22 = 1 by kernel_rfl] at h2
  have h2 : DataW.trod enc Try.prog w base spare held n' 22 [a2] = some y2 := h2
  obtain ⟨A, c, l, e2, q2⟩ := msgs_form h2
  refine ⟨va, na, A, c, l, ?_, q0, q1, q2⟩
  show ([a0] ++ ([a1] ++ ([a2] ++ [] : List Value) : List Value) : List Value) = _
  rw [e0, e1, e2]
  try rfl

set_option maxRecDepth 100000 in
theorem do_form {H : Type} {enc : TypeId × Value → H} {w : World} {base : Nat} {spare : Nat → Bool} {held : Bool} {n : Nat} {cs : List Value} {xx : DataW H × List MemPlace} (h : DataW.trod enc Try.prog w base spare held n 52 cs = some xx) :
    ∃ (va na : Int) (A : Option Addr) (c : Nat) (l : List Mc) (x : Mc) (place : Int) (op : Int), cs = (BVc va na A l.length c ++ (x.cells ++ ([.int .i64 place] ++ ([.int .i64 op] ++ [] : List Value) : List Value) : List Value) : List Value) ∧ ((Lit.int .i64 va).wf = true ∧ (Lit.int .i64 na).wf = true ∧ l.length ≤ c ∧ RawM w A l) ∧ (Rd w 1 x.A x.m.flags.length (SB x.m.flags) ∧ x.m.flags.length ≤ x.c) ∧ ((Lit.int .i64 place).wf = true) ∧ ((Lit.int .i64 op).wf = true) := by
  obtain ⟨hlen, n', hf⟩ := open_field Try.underlying52 h
  have hl : cs.length = 11 := hlen.trans (by kernel_rfl)
  obtain ⟨a0, a1, a2, a3, a4, a5, a6, a7, a8, a9, a10, rfl⟩ : ∃ a0 a1 a2 a3 a4 a5 a6 a7 a8 a9 a10, cs = [a0, a1, a2, a3, a4, a5, a6, a7, a8, a9, a10] := by
    match cs, hl with
    | [a0, a1, a2, a3, a4, a5, a6, a7, a8, a9, a10], _ => exact ⟨a0, a1, a2, a3, a4, a5, a6, a7, a8, a9, a10, rfl⟩
  clear h hlen hl
  obtain ⟨y0, h0⟩ := hf 0 _ rfl
  have h0 : DataW.trod enc Try.prog w base spare held n' 24 ([a0, a1, a2, a3, a4, a5, a6, a7, a8, a9, a10].take (Try.prog.cellsOf 24)) = some y0 := h0
  rw [show Try.prog.cellsOf 24 = 3 by kernel_rfl] at h0
  have h0 : DataW.trod enc Try.prog w base spare held n' 24 [a0, a1, a2] = some y0 := h0
  obtain ⟨va, na, A, c, l, e0, q0⟩ := box_form h0
  obtain ⟨y1, h1⟩ := hf 1 _ rfl
  have h1 : DataW.trod enc Try.prog w base spare held n' 45 ([a3, a4, a5, a6, a7, a8, a9, a10].take (Try.prog.cellsOf 45)) = some y1 := h1
  rw [show Try.prog.cellsOf 45 = 6 by kernel_rfl] at h1
  have h1 : DataW.trod enc Try.prog w base spare held n' 45 [a3, a4, a5, a6, a7, a8] = some y1 := h1
  obtain ⟨x, e1, q1⟩ := open_msg h1
  obtain ⟨y2, h2⟩ := hf 2 _ rfl
  have h2 : DataW.trod enc Try.prog w base spare held n' 3 ([a9, a10].take (Try.prog.cellsOf 3)) = some y2 := h2
  rw [show Try.prog.cellsOf 3 = 1 by kernel_rfl] at h2
  have h2 : DataW.trod enc Try.prog w base spare held n' 3 [a9] = some y2 := h2
  obtain ⟨place, e2, q2⟩ := int_form Try.underlying3 h2
  obtain ⟨y3, h3⟩ := hf 3 _ rfl
  have h3 : DataW.trod enc Try.prog w base spare held n' 3 ([a10].take (Try.prog.cellsOf 3)) = some y3 := h3
  rw [show Try.prog.cellsOf 3 = 1 by kernel_rfl] at h3
  have h3 : DataW.trod enc Try.prog w base spare held n' 3 [a10] = some y3 := h3
  obtain ⟨op, e3, q3⟩ := int_form Try.underlying3 h3
  refine ⟨va, na, A, c, l, x, place, op, ?_, q0, q1, q2, q3⟩
  show ([a0, a1, a2] ++ ([a3, a4, a5, a6, a7, a8] ++ ([a9] ++ ([a10] ++ [] : List Value) : List Value) : List Value) : List Value) = _
  rw [e0, e1, e2, e3]
  try rfl

set_option maxRecDepth 100000 in
theorem ask_form {H : Type} {enc : TypeId × Value → H} {w : World} {base : Nat} {spare : Nat → Bool} {held : Bool} {n : Nat} {cs : List Value} {x : DataW H × List MemPlace} (h : DataW.trod enc Try.prog w base spare held n 60 cs = some x) :
    ∃ (va na : Int) (A : Option Addr) (c : Nat) (l : List Mc) (valid : Int) (uid : Int) (q : Tx), cs = (BVc va na A l.length c ++ ([.int .i64 valid] ++ ([.int .i64 uid] ++ ([encStr q] ++ [] : List Value) : List Value) : List Value) : List Value) ∧ ((Lit.int .i64 va).wf = true ∧ (Lit.int .i64 na).wf = true ∧ l.length ≤ c ∧ RawM w A l) ∧ ((Lit.int .i64 valid).wf = true) ∧ ((Lit.int .i64 uid).wf = true) ∧ (q.length ≤ 9223372036854775807) := by
  obtain ⟨hlen, n', hf⟩ := open_field Try.underlying60 h
  have hl : cs.length = 6 := hlen.trans (by kernel_rfl)
  obtain ⟨a0, a1, a2, a3, a4, a5, rfl⟩ : ∃ a0 a1 a2 a3 a4 a5, cs = [a0, a1, a2, a3, a4, a5] := by
    match cs, hl with
    | [a0, a1, a2, a3, a4, a5], _ => exact ⟨a0, a1, a2, a3, a4, a5, rfl⟩
  clear h hlen hl
  obtain ⟨y0, h0⟩ := hf 0 _ rfl
  have h0 : DataW.trod enc Try.prog w base spare held n' 24 ([a0, a1, a2, a3, a4, a5].take (Try.prog.cellsOf 24)) = some y0 := h0
  rw [show Try.prog.cellsOf 24 = 3 by kernel_rfl] at h0
  have h0 : DataW.trod enc Try.prog w base spare held n' 24 [a0, a1, a2] = some y0 := h0
  obtain ⟨va, na, A, c, l, e0, q0⟩ := box_form h0
  obtain ⟨y1, h1⟩ := hf 1 _ rfl
  have h1 : DataW.trod enc Try.prog w base spare held n' 3 ([a3, a4, a5].take (Try.prog.cellsOf 3)) = some y1 := h1
  rw [show Try.prog.cellsOf 3 = 1 by kernel_rfl] at h1
  have h1 : DataW.trod enc Try.prog w base spare held n' 3 [a3] = some y1 := h1
  obtain ⟨valid, e1, q1⟩ := int_form Try.underlying3 h1
  obtain ⟨y2, h2⟩ := hf 2 _ rfl
  have h2 : DataW.trod enc Try.prog w base spare held n' 3 ([a4, a5].take (Try.prog.cellsOf 3)) = some y2 := h2
  rw [show Try.prog.cellsOf 3 = 1 by kernel_rfl] at h2
  have h2 : DataW.trod enc Try.prog w base spare held n' 3 [a4] = some y2 := h2
  obtain ⟨uid, e2, q2⟩ := int_form Try.underlying3 h2
  obtain ⟨y3, h3⟩ := hf 3 _ rfl
  have h3 : DataW.trod enc Try.prog w base spare held n' 9 ([a5].take (Try.prog.cellsOf 9)) = some y3 := h3
  rw [show Try.prog.cellsOf 9 = 1 by kernel_rfl] at h3
  have h3 : DataW.trod enc Try.prog w base spare held n' 9 [a5] = some y3 := h3
  obtain ⟨q, e3, q3⟩ := str_form Try.underlying9 h3
  refine ⟨va, na, A, c, l, valid, uid, q, ?_, q0, q1, q2, q3⟩
  show ([a0, a1, a2] ++ ([a3] ++ ([a4] ++ ([a5] ++ [] : List Value) : List Value) : List Value) : List Value) = _
  rw [e0, e1, e2, e3]
  try rfl

end Go.Proofs.Ytmfglifjnoilnaa

