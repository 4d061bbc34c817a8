/-
  'ParamWhole': a text's type and sort are tokens without great letters, and what stands in quotes is read back.
-/
import Derived.Test.YtnllhddbgkeboaaDoorParQ
namespace Go.Proofs.YtnllhddbgkeboaaDoor
open Go.RowKit Go.Sort

theorem medQ_len (q : Tx) : (medQ q).ty.length ≤ q.length + 5 ∧ (medQ q).sub.length ≤ q.length + 5 := by
  unfold medQ
  split
  · exact ⟨by simp [med0], by simp [med0]⟩
  · rename_i p ps h
    have hp := pcs_len _ false q (Nat.le_refl _) p (by rw [h]; simp)
    have ht := trimQ_len p
    have hb := bef_len 47 (trimQ p)
    unfold medOf
    split
    · refine ⟨?_, ?_⟩
      · show (smallS _).length ≤ _
        rw [smallS_len]; omega
      · show (smallS _).length ≤ _
        rw [smallS_len]; omega
    · exact ⟨by simp [med0], by simp [med0]⟩
theorem whole_txt (v : Tx) : (([97, 47, 98, 59, 32, 113, 32, 61, 32, 34] : Tx) ++ quoF v) ++ [34, 32, 59, 32, 122, 61, 49] = wholeT v := by simp [wholeT, wA, wQ, wZ]
theorem whole_len (v : Tx) : (wholeT v).length ≤ 2 * v.length + 17 := by
  have := quoF_len v
  rw [← whole_txt]
  simp
  omega
theorem find_q (v : Tx) : findQ [([113], v), ([122], [49])] [113] = (v, true) := by unfold findQ; rw [if_pos rfl]
theorem find_z (v : Tx) : findQ [([113], v), ([122], [49])] [122] = ([49], true) := by
  unfold findQ
  rw [if_neg (show ([113] : Tx) ≠ [122] by decide)]
  unfold findQ
  rw [if_pos rfl]
theorem quo_snoc (a : Tx) (x : UInt8) : quoF (a ++ [x]) = (quoF a ++ (if x = 34 ∨ x = 92 then [92] else [])) ++ [x] := by
  rw [quoF_append]
  have : quoF [x] = (if x = 34 ∨ x = 92 then [92] else []) ++ [x] := by
    unfold quoF
    split <;> rfl
  rw [this, List.append_assoc]

set_option maxRecDepth 100000 in
theorem whole_walk (q0 v0 : Tx) (w : World) (hq : q0.length ≤ 9223372036854775807) (hv : v0.length ≤ 9223372036854775807) :
    Calls Tryd.prog 4 #[encStr q0, encStr v0] w fun e w' => e = .returned (.bool true) ∧ Frm [] w w' := by
  refine VC.calls (nt := 110) (res := #[.tmp 4]) Tryd.func4 rfl Tryd.ntmps4 Tryd.results4 rfl ?_
  refine VC.seq ?_
  refine VC.region ?_
  refine Ops.r (Run.asg rfl) rfl ?_
  refine Ops.nil ?_
  refine thenQ_n ?_
  refine VC.sub [(0, _), (1, _)] (.cons rfl (.cons rfl .nil)) ?_
  refine VC.seq ?_
  refine VC.region ?_
  refine Ops.r (Run.mv rfl) rfl ?_
  refine Ops.cl (Enters.fn (evs.cons rfl evs.nil) Tryd.call11) (few19_spec q0 _ hq) rfl ?_
  rintro e _ ⟨rfl, rfl⟩
  refine ⟨_, rfl, ?_⟩
  have hql := few400_le q0
  generalize few400 q0 = q at *
  refine Ops.r (Run.mv rfl) rfl ?_
  refine Ops.cl (Enters.fn (evs.cons rfl evs.nil) Tryd.call11) (few19_spec v0 _ hv) rfl ?_
  rintro e _ ⟨rfl, rfl⟩
  refine ⟨_, rfl, ?_⟩
  have hvl := few400_le v0
  generalize few400 v0 = v at *
  refine Ops.r (Run.asg rfl) rfl ?_
  refine Ops.r (Run.asg rfl) rfl ?_
  refine Ops.nil ?_
  refine thenQ_n ?_
  refine VC.sub [(0, _), (1, _)] (.cons rfl (.cons rfl .nil)) ?_
  refine VC.seq ?_
  refine VC.region ?_
  refine Ops.r (Run.mv rfl) rfl ?_
  refine Ops.cl (Enters.fn (evs.cons rfl evs.nil) Tryd.call13) (read_spec q _ (by omega)) rfl ?_
  rintro e w1 ⟨K, A1, c1, rfl, hO1, _⟩
  refine ⟨_, rfl, ?_⟩
  have hmt := medQ_tok q
  have hml := medQ_len q
  generalize medQ q = m at *
  refine Ops.m (Does.alloc zero26) rfl ?_
  rintro _ w2 ⟨rfl, hF2⟩
  have hb5 := hF2.blk
  have hs5 := K.size
  have K := K.trans hF2.frm (by simp)
  generalize hg5 : w1.heap.size = g5 at hb5 hs5 ⊢
  refine Ops.st (Acts.storeA rfl rfl Tryd.sizeOf26 hb5 rfl (MdC_one m A1 c1)) ?_
  rintro w3 ⟨hb5n, hf3, _⟩
  have hb5 : Blk w3 g5 26 (MdC m A1 c1) := hb5n
  have K := Frm.own K hf3 (fun y hy => by simp at hy; omega)
  refine Ops.nil ?_
  refine thenQ_n ?_
  refine VC.sub [(1, _), (5, _)] (.cons rfl (.cons rfl .nil)) ?_
  refine VC.seq ?_
  refine VC.seq ?_
  refine VC.split1 [(1, _), (5, _)] (.cons rfl (.cons rfl .nil)) 29 (.bool (decide (False))) ?_ ?_
  · refine VC.region ?_
    refine Ops.r (Run.fieldAddr rfl Tryd.underlying26 rfl Tryd.sizeOf9 (by decide)) rfl ?_
    refine Ops.r (Run.load rfl Tryd.isAgg9 (hb5.cell 0)) rfl ?_
    refine Ops.cl (Enters.fn (evs.cons rfl evs.nil) Tryd.call16) (rtoken_spec m.ty _ (by omega)) rfl ?_
    rintro e _ ⟨rfl, rfl⟩
    rw [decide_eq_true hmt.1]
    refine ⟨_, rfl, ?_⟩
    refine Ops.r (Run.not rfl) rfl ?_
    refine Ops.r (Run.mv rfl) rfl ?_
    refine Ops.rg rfl (by first | rfl | assumption | exact decide_eq_true (by assumption) | exact decide_eq_false (by assumption) | decide | (simp; done) | (simp; omega) | (simp [*]; done)) (Run.fieldAddr rfl Tryd.underlying26 rfl Tryd.sizeOf9 (by decide)) rfl ?_
    refine Ops.rg rfl (by first | rfl | assumption | exact decide_eq_true (by assumption) | exact decide_eq_false (by assumption) | decide | (simp; done) | (simp; omega) | (simp [*]; done)) (Run.load rfl Tryd.isAgg9 (hb5.cell 1)) rfl ?_
    refine Ops.clg rfl (by first | rfl | assumption | exact decide_eq_true (by assumption) | exact decide_eq_false (by assumption) | decide | (simp; done) | (simp; omega) | (simp [*]; done)) (Enters.fn (evs.cons rfl evs.nil) Tryd.call16) (rtoken_spec m.sub _ (by omega)) rfl ?_
    rintro e _ ⟨rfl, rfl⟩
    rw [decide_eq_true hmt.2.1]
    refine ⟨_, rfl, ?_⟩
    refine Ops.rg rfl (by first | rfl | assumption | exact decide_eq_true (by assumption) | exact decide_eq_false (by assumption) | decide | (simp; done) | (simp; omega) | (simp [*]; done)) (Run.not rfl) rfl ?_
    refine Ops.r (Run.pickF rfl rfl (by first | rfl | assumption | exact decide_eq_true (by assumption) | exact decide_eq_false (by assumption) | decide | (simp; done) | (simp; omega) | (simp [*]; done))) rfl ?_
    refine Ops.nil ?_
    refine thenQ_n ⟨(.cons (congrArg (fun b => some (Value.bool b)) (by first | rfl | (symm; exact decide_eq_false (by simp)))) (.cons rfl (.cons rfl .nil))), rfl⟩
  · intro Γ hΓ
    refine thenQ_n (VC.sub _ hΓ ?_)
    refine VC.condF rfl (decide_eq_false (by simp)) ?_
    refine VC.skip ?_
    refine thenQ_n ?_
    refine VC.sub [(1, _), (5, _)] (.cons rfl (.cons rfl .nil)) ?_
    refine VC.seq ?_
    refine VC.seq ?_
    refine VC.region ?_
    refine Ops.r (v := .int .i64 ((0 : Nat) : Int)) (Run.asg rfl) rfl ?_
    refine Ops.nil ?_
    refine thenQ_n ?_
    refine VC.block ?_
    refine VC.loop (σ := Nat) (fun s => [(1, encStr v), (5, .pointer (some ⟨g5, 0, none⟩)), (6, .int .i64 ((s : Nat) : Int))]) (fun s wr => s ≤ (m.ty ++ m.sub).length ∧ w3 = wr) (fun s => (m.ty ++ m.sub).length - s) 0 (.cons rfl (.cons rfl (.cons rfl .nil))) ⟨by omega, rfl⟩ ?_
    rintro i _ ⟨hi, rfl⟩
    refine VC.seq ?_
    refine VC.seq ?_
    refine VC.region ?_
    refine Ops.r (Run.mv rfl) rfl ?_
    refine Ops.r (Run.fieldAddr rfl Tryd.underlying26 rfl Tryd.sizeOf9 (by decide)) rfl ?_
    refine Ops.r (Run.load rfl Tryd.isAgg9 (hb5.cell 0)) rfl ?_
    refine Ops.r (Run.fieldAddr rfl Tryd.underlying26 rfl Tryd.sizeOf9 (by decide)) rfl ?_
    refine Ops.r (Run.load rfl Tryd.isAgg9 (hb5.cell 1)) rfl ?_
    refine Ops.r (Run.addT rfl rfl (by omega)) rfl ?_
    refine Ops.r (Run.lenT rfl Tryd.underlying9) rfl ?_
    refine Ops.r (Run.bin rfl rfl (Bin.lssN _ _)) rfl ?_
    refine Ops.nil ?_
    refine thenQ_n ?_
    refine VC.sub [(1, _), (5, _), (6, _), (37, _)] (.cons rfl (.cons rfl (.cons rfl (.cons rfl .nil)))) ?_
    refine VC.condD rfl (fun hc2 => ?_) (fun hc2 => ?_)
    · skip
      have hla : (m.ty ++ m.sub).length = m.ty.length + m.sub.length := by simp
      have hgx : (m.ty ++ m.sub)[i]? = some (m.ty ++ m.sub)[i] := List.getElem?_eq_getElem hc2
      have hng := hmt.2.2 _ (List.getElem_mem hc2)
      generalize hx : (m.ty ++ m.sub)[i] = x at *
      refine VC.skip ?_
      refine thenQ_n ?_
      refine VC.sub [(1, _), (5, _), (6, _)] (.cons rfl (.cons rfl (.cons rfl .nil))) ?_
      refine VC.seq ?_
      refine VC.block ?_
      refine VC.seq ?_
      refine VC.region ?_
      refine Ops.r (Run.fieldAddr rfl Tryd.underlying26 rfl Tryd.sizeOf9 (by decide)) rfl ?_
      refine Ops.r (Run.load rfl Tryd.isAgg9 (hb5.cell 0)) rfl ?_
      refine Ops.r (Run.fieldAddr rfl Tryd.underlying26 rfl Tryd.sizeOf9 (by decide)) rfl ?_
      refine Ops.r (Run.load rfl Tryd.isAgg9 (hb5.cell 1)) rfl ?_
      refine Ops.r (Run.addT rfl rfl (by omega)) rfl ?_
      refine Ops.r (Run.mv rfl) rfl ?_
      refine Ops.r (Run.indexT _ rfl rfl Tryd.underlying9 hgx) rfl ?_
      refine Ops.r (Run.asg rfl) rfl ?_
      refine Ops.nil ?_
      refine thenQ_n ?_
      refine VC.sub [(1, _), (5, _), (6, _), (7, _)] (.cons rfl (.cons rfl (.cons rfl (.cons rfl .nil)))) ?_
      refine VC.seq ?_
      refine VC.split1 [(1, _), (5, _), (6, _)] (.cons rfl (.cons rfl (.cons rfl .nil))) 52 (.bool (decide ((65 ≤ x.toNat) ∧ (x.toNat ≤ 90)))) ?_ ?_
      · by_cases hs0 : 65 ≤ x.toNat
        · skip
          refine VC.region ?_
          refine Ops.r (Run.mv rfl) rfl ?_
          refine Ops.r (Run.bin rfl rfl (Bin.leqN 65 _)) rfl ?_
          refine Ops.r (Run.mv rfl) rfl ?_
          refine Ops.rg rfl (by first | rfl | assumption | exact decide_eq_true (by assumption) | exact decide_eq_false (by assumption) | decide | (simp; done) | (simp; omega) | (simp [*]; done)) (Run.mv rfl) rfl ?_
          refine Ops.rg rfl (by first | rfl | assumption | exact decide_eq_true (by assumption) | exact decide_eq_false (by assumption) | decide | (simp; done) | (simp; omega) | (simp [*]; done)) (Run.bin rfl rfl (Bin.leqN _ 90)) rfl ?_
          refine Ops.r (Run.pickT rfl rfl (by first | rfl | assumption | exact decide_eq_true (by assumption) | exact decide_eq_false (by assumption) | decide | (simp; done) | (simp; omega) | (simp [*]; done))) rfl ?_
          refine Ops.nil ?_
          refine thenQ_n ⟨(.cons (by rw [dand1 hs0]; rfl) (.cons rfl (.cons rfl (.cons rfl .nil)))), rfl⟩
        · skip
          refine VC.region ?_
          refine Ops.r (Run.mv rfl) rfl ?_
          refine Ops.r (Run.bin rfl rfl (Bin.leqN 65 _)) rfl ?_
          refine Ops.r (Run.mv rfl) rfl ?_
          refine Ops.sk rfl (by first | rfl | assumption | exact decide_eq_true (by assumption) | exact decide_eq_false (by assumption) | decide | (simp; done) | (simp; omega) | (simp [*]; done)) rfl ?_
          refine Ops.sk rfl (by first | rfl | assumption | exact decide_eq_true (by assumption) | exact decide_eq_false (by assumption) | decide | (simp; done) | (simp; omega) | (simp [*]; done)) rfl ?_
          refine Ops.r (Run.pickF rfl rfl (by first | rfl | assumption | exact decide_eq_true (by assumption) | exact decide_eq_false (by assumption) | decide | (simp; done) | (simp; omega) | (simp [*]; done))) rfl ?_
          refine Ops.nil ?_
          refine thenQ_n ⟨(.cons (by rw [dand0 hs0]; rfl) (.cons rfl (.cons rfl (.cons rfl .nil)))), rfl⟩
      · intro Γ hΓ
        refine thenQ_n (VC.sub _ hΓ ?_)
        refine VC.condF rfl (decide_eq_false hng) ?_
        refine VC.skip ?_
        refine blockQ_n (thenQ_n ?_)
        refine VC.sub [(1, _), (5, _), (6, _)] (.cons rfl (.cons rfl (.cons rfl .nil))) ?_
        refine VC.region ?_
        refine Ops.r (Run.mv rfl) rfl ?_
        refine Ops.r (Run.bin rfl rfl (Bin.add_i64 _ 1 (by omega))) rfl ?_
        refine Ops.r (Run.asg rfl) rfl ?_
        refine Ops.nil ?_
        refine thenQ_n ⟨(i + 1), (.cons rfl (.cons rfl (.cons rfl .nil))), ?_, ?_⟩
        · skip
          exact ⟨hc2, rfl⟩
        · skip
          first | omega | (dsimp only; omega)
    · skip
      refine VC.exit ?_
      refine thenQ_x (thenQ_x (blockQ_x ?_))
      refine thenQ_n ?_
      refine VC.sub [(1, _)] (.cons rfl .nil) ?_
      refine VC.seq ?_
      refine VC.region ?_
      refine Ops.r (Run.asg rfl) rfl ?_
      refine Ops.nil ?_
      refine thenQ_n ?_
      refine VC.seq ?_
      refine VC.seq ?_
      refine VC.region ?_
      refine Ops.r (v := .int .i64 ((0 : Nat) : Int)) (Run.asg rfl) rfl ?_
      refine Ops.nil ?_
      refine thenQ_n ?_
      refine VC.block ?_
      refine VC.loop (σ := Nat) (fun s => [(1, encStr v), (8, encStr (quoF (v.take s))), (9, .int .i64 ((s : Nat) : Int))]) (fun s wr => s ≤ v.length ∧ w3 = wr) (fun s => v.length - s) 0 (.cons rfl (.cons rfl (.cons rfl .nil))) ⟨by omega, rfl⟩ ?_
      rintro i _ ⟨hi, rfl⟩
      refine VC.seq ?_
      refine VC.seq ?_
      refine VC.region ?_
      refine Ops.r (Run.mv rfl) rfl ?_
      refine Ops.r (Run.mv rfl) rfl ?_
      refine Ops.r (Run.lenT rfl Tryd.underlying9) rfl ?_
      refine Ops.r (Run.bin rfl rfl (Bin.lssN _ _)) rfl ?_
      refine Ops.nil ?_
      refine thenQ_n ?_
      refine VC.sub [(1, _), (8, _), (9, _), (56, _)] (.cons rfl (.cons rfl (.cons rfl (.cons rfl .nil)))) ?_
      refine VC.condD rfl (fun hc4 => ?_) (fun hc4 => ?_)
      · skip
        have hgy : v[i]? = some v[i] := List.getElem?_eq_getElem hc4
        have hts := take_snoc hc4
        have hto := take_one hc4
        have hql2 := quoF_len (v.take i)
        rw [List.length_take] at hql2
        have hqs := quo_snoc (v.take i) v[i]
        generalize hx : v[i] = x at *
        have hx34 : x = 34 ↔ x.toNat = 34 := UInt8.toNat_inj.symm
        have hx92 : x = 92 ↔ x.toNat = 92 := UInt8.toNat_inj.symm
        refine VC.skip ?_
        refine thenQ_n ?_
        refine VC.sub [(1, _), (8, _), (9, _)] (.cons rfl (.cons rfl (.cons rfl .nil))) ?_
        refine VC.seq ?_
        refine VC.block ?_
        refine VC.seq ?_
        refine VC.seq ?_
        refine VC.split1 [(1, _), (8, _), (9, _)] (.cons rfl (.cons rfl (.cons rfl .nil))) 68 (.bool (decide ((x.toNat = 34) ∨ (x.toNat = 92)))) ?_ ?_
        · by_cases hs0 : x.toNat = 34
          · skip
            refine VC.region ?_
            refine Ops.r (Run.mv rfl) rfl ?_
            refine Ops.r (Run.mv rfl) rfl ?_
            refine Ops.r (Run.indexT _ rfl rfl Tryd.underlying9 hgy) rfl ?_
            refine Ops.r (Run.bin rfl rfl (Bin.eqlN _ 34)) rfl ?_
            refine Ops.r (Run.mv rfl) rfl ?_
            refine Ops.sk rfl (by first | rfl | assumption | exact decide_eq_true (by assumption) | exact decide_eq_false (by assumption) | decide | (simp; done) | (simp; omega) | (simp [*]; done)) rfl ?_
            refine Ops.sk rfl (by first | rfl | assumption | exact decide_eq_true (by assumption) | exact decide_eq_false (by assumption) | decide | (simp; done) | (simp; omega) | (simp [*]; done)) rfl ?_
            refine Ops.sk rfl (by first | rfl | assumption | exact decide_eq_true (by assumption) | exact decide_eq_false (by assumption) | decide | (simp; done) | (simp; omega) | (simp [*]; done)) rfl ?_
            refine Ops.sk rfl (by first | rfl | assumption | exact decide_eq_true (by assumption) | exact decide_eq_false (by assumption) | decide | (simp; done) | (simp; omega) | (simp [*]; done)) rfl ?_
            refine Ops.r (Run.pickT rfl rfl (by first | rfl | assumption | exact decide_eq_true (by assumption) | exact decide_eq_false (by assumption) | decide | (simp; done) | (simp; omega) | (simp [*]; done))) rfl ?_
            refine Ops.nil ?_
            refine thenQ_n ⟨(.cons (by rw [dor1 hs0]; rfl) (.cons rfl (.cons rfl (.cons rfl .nil)))), rfl⟩
          · skip
            refine VC.region ?_
            refine Ops.r (Run.mv rfl) rfl ?_
            refine Ops.r (Run.mv rfl) rfl ?_
            refine Ops.r (Run.indexT _ rfl rfl Tryd.underlying9 hgy) rfl ?_
            refine Ops.r (Run.bin rfl rfl (Bin.eqlN _ 34)) rfl ?_
            refine Ops.r (Run.mv rfl) rfl ?_
            refine Ops.rg rfl (by first | rfl | assumption | exact decide_eq_true (by assumption) | exact decide_eq_false (by assumption) | decide | (simp; done) | (simp; omega) | (simp [*]; done)) (Run.mv rfl) rfl ?_
            refine Ops.rg rfl (by first | rfl | assumption | exact decide_eq_true (by assumption) | exact decide_eq_false (by assumption) | decide | (simp; done) | (simp; omega) | (simp [*]; done)) (Run.mv rfl) rfl ?_
            refine Ops.rg rfl (by first | rfl | assumption | exact decide_eq_true (by assumption) | exact decide_eq_false (by assumption) | decide | (simp; done) | (simp; omega) | (simp [*]; done)) (Run.indexT _ rfl rfl Tryd.underlying9 hgy) rfl ?_
            refine Ops.rg rfl (by first | rfl | assumption | exact decide_eq_true (by assumption) | exact decide_eq_false (by assumption) | decide | (simp; done) | (simp; omega) | (simp [*]; done)) (Run.bin rfl rfl (Bin.eqlN _ 92)) rfl ?_
            refine Ops.r (Run.pickF rfl rfl (by first | rfl | assumption | exact decide_eq_true (by assumption) | exact decide_eq_false (by assumption) | decide | (simp; done) | (simp; omega) | (simp [*]; done))) rfl ?_
            refine Ops.nil ?_
            refine thenQ_n ⟨(.cons (by rw [dor0 hs0]; rfl) (.cons rfl (.cons rfl (.cons rfl .nil)))), rfl⟩
        · intro Γ hΓ
          refine thenQ_n (VC.sub _ hΓ ?_)
          refine VC.meet (σ := Unit) (fun s => [(1, encStr v), (8, encStr (quoF (v.take i) ++ (if x = 34 ∨ x = 92 then [92] else []))), (9, .int .i64 ((i : Nat) : Int))]) (fun s wr => w3 = wr) ?_ ?_
          · skip
            refine VC.condD rfl (fun hc5 => ?_) (fun hc5 => ?_)
            · skip
              refine VC.region ?_
              refine Ops.r (Run.mv rfl) rfl ?_
              refine Ops.r (Run.addT rfl rfl (by simp; omega)) rfl ?_
              refine Ops.r (Run.asg rfl) rfl ?_
              refine Ops.nil ?_
              refine thenQ_n ⟨(), (.cons rfl (.cons (by rw [if_pos (by rw [hx34, hx92]; exact hc5)]; rfl) (.cons rfl .nil))), ?_⟩
              rfl
            · skip
              refine VC.skip ?_
              refine thenQ_n ⟨(), (.cons rfl (.cons (by rw [if_neg (by rw [hx34, hx92]; exact hc5), List.append_nil]; rfl) (.cons rfl .nil))), ?_⟩
              rfl
          · skip
            rintro _ _ rfl Γ hΓ
            have hil : (if x = 34 ∨ x = 92 then ([92] : Tx) else []).length ≤ 1 := by split <;> simp
            refine thenQ_n (VC.sub _ hΓ ?_)
            refine VC.region ?_
            refine Ops.r (Run.mv rfl) rfl ?_
            refine Ops.r (Run.mv rfl) rfl ?_
            refine Ops.r (Run.mv rfl) rfl ?_
            refine Ops.r (Run.mv rfl) rfl ?_
            refine Ops.r (Run.bin rfl rfl (Bin.add_i64 _ 1 (by omega))) rfl ?_
            refine Ops.r (Run.sliceT i (i + 1) rfl Tryd.underlying9 (evB.some_ rfl) (evB.some_ rfl) (by omega) (by omega)) rfl ?_
            rw [hto]
            refine Ops.r (Run.addT rfl rfl (by simp only [List.length_append, List.length_cons, List.length_nil]; omega)) rfl ?_
            refine Ops.r (Run.asg rfl) rfl ?_
            refine Ops.nil ?_
            refine blockQ_n (thenQ_n ?_)
            refine VC.sub [(1, _), (8, _), (9, _)] (.cons rfl (.cons rfl (.cons rfl .nil))) ?_
            refine VC.region ?_
            refine Ops.r (Run.mv rfl) rfl ?_
            refine Ops.r (Run.bin rfl rfl (Bin.add_i64 _ 1 (by omega))) rfl ?_
            refine Ops.r (Run.asg rfl) rfl ?_
            refine Ops.nil ?_
            refine thenQ_n ⟨(i + 1), (.cons rfl (.cons (by rw [hts, hqs]; rfl) (.cons rfl .nil))), ?_, ?_⟩
            · skip
              exact ⟨hc4, rfl⟩
            · skip
              first | omega | (dsimp only; omega)
      · skip
        have hil : i = v.length := by omega
        rw [hil, List.take_length]
        refine VC.exit ?_
        refine thenQ_x (thenQ_x (blockQ_x ?_))
        refine thenQ_n ?_
        refine VC.sub [(1, _), (8, _)] (.cons rfl (.cons rfl .nil)) ?_
        refine VC.seq ?_
        refine VC.region ?_
        refine Ops.r (Run.mv rfl) rfl ?_
        refine Ops.r (Run.addT rfl rfl (by have := quoF_len v; simp; omega)) rfl ?_
        refine Ops.r (Run.addT rfl rfl (by have := quoF_len v; simp; omega)) rfl ?_
        rw [whole_txt]
        refine Ops.cl (Enters.fn (evs.cons rfl evs.nil) Tryd.call13) (read_spec (wholeT v) _ (by have := whole_len v; omega)) rfl ?_
        rintro e w4 ⟨hfw4, A2, c2, rfl, hO2, _⟩
        rw [whole_med] at hO2
        refine ⟨_, rfl, ?_⟩
        have K := K.trans hfw4 (by simp)
        refine Ops.cl (Enters.fn (evs.cons rfl (evs.cons rfl evs.nil)) Tryd.call18) (find_spec (medQ (wholeT v)) A2 c2 [113] _ (by rw [whole_med]; exact hO2.rd) (by rw [whole_med]; simp)) rfl ?_
        rintro e w5 ⟨hfw5, rfl⟩
        rw [whole_med, find_q]
        refine ⟨_, rfl, ?_⟩
        have K := K.trans hfw5 (by simp)
        refine Ops.r (Run.mv rfl) rfl ?_
        refine Ops.r (Run.extract rfl rfl) rfl ?_
        refine Ops.r (Run.extract rfl rfl) rfl ?_
        refine Ops.r (Run.asg rfl) rfl ?_
        refine Ops.r (Run.asg rfl) rfl ?_
        refine Ops.nil ?_
        refine thenQ_n ?_
        refine VC.sub [(1, _), (8, _), (10, _), (11, _)] (.cons rfl (.cons rfl (.cons rfl (.cons rfl .nil)))) ?_
        refine VC.seq ?_
        refine VC.region ?_
        refine Ops.r (Run.mv rfl) rfl ?_
        refine Ops.r (Run.addT rfl rfl (by have := quoF_len v; simp; omega)) rfl ?_
        refine Ops.r (Run.addT rfl rfl (by have := quoF_len v; simp; omega)) rfl ?_
        rw [whole_txt]
        refine Ops.cl (Enters.fn (evs.cons rfl evs.nil) Tryd.call13) (read_spec (wholeT v) _ (by have := whole_len v; omega)) rfl ?_
        rintro e w6 ⟨hfw6, A3, c3, rfl, hO3, _⟩
        rw [whole_med] at hO3
        refine ⟨_, rfl, ?_⟩
        have K := K.trans hfw6 (by simp)
        refine Ops.cl (Enters.fn (evs.cons rfl (evs.cons rfl evs.nil)) Tryd.call18) (find_spec (medQ (wholeT v)) A3 c3 [122] _ (by rw [whole_med]; exact hO3.rd) (by rw [whole_med]; simp)) rfl ?_
        rintro e w7 ⟨hfw7, rfl⟩
        rw [whole_med, find_z]
        refine ⟨_, rfl, ?_⟩
        have K := K.trans hfw7 (by simp)
        refine Ops.r (Run.mv rfl) rfl ?_
        refine Ops.r (Run.extract rfl rfl) rfl ?_
        refine Ops.r (Run.extract rfl rfl) rfl ?_
        refine Ops.r (Run.asg rfl) rfl ?_
        refine Ops.r (Run.asg rfl) rfl ?_
        refine Ops.nil ?_
        refine thenQ_n ?_
        refine VC.sub [(1, _), (10, _), (11, _), (12, _), (13, _)] (.cons rfl (.cons rfl (.cons rfl (.cons rfl (.cons rfl .nil))))) ?_
        refine VC.seq ?_
        refine VC.region ?_
        refine Ops.r (Run.mv rfl) rfl ?_
        refine Ops.r (Run.mv rfl) rfl ?_
        refine Ops.r (Run.eqlT rfl rfl) rfl ?_
        refine Ops.r (Run.mv rfl) rfl ?_
        refine Ops.rg rfl (by first | rfl | assumption | exact decide_eq_true (by assumption) | exact decide_eq_false (by assumption) | decide | (simp; done) | (simp; omega) | (simp [*]; done)) (Run.mv rfl) rfl ?_
        refine Ops.r (Run.pickT rfl rfl (by first | rfl | assumption | exact decide_eq_true (by assumption) | exact decide_eq_false (by assumption) | decide | (simp; done) | (simp; omega) | (simp [*]; done))) rfl ?_
        refine Ops.r (Run.mv rfl) rfl ?_
        refine Ops.rg rfl (by first | rfl | assumption | exact decide_eq_true (by assumption) | exact decide_eq_false (by assumption) | decide | (simp; done) | (simp; omega) | (simp [*]; done)) (Run.mv rfl) rfl ?_
        refine Ops.rg rfl (by first | rfl | assumption | exact decide_eq_true (by assumption) | exact decide_eq_false (by assumption) | decide | (simp; done) | (simp; omega) | (simp [*]; done)) (Run.eqlT rfl rfl) rfl ?_
        refine Ops.r (Run.pickT rfl rfl (by first | rfl | assumption | exact decide_eq_true (by assumption) | exact decide_eq_false (by assumption) | decide | (simp; done) | (simp; omega) | (simp [*]; done))) rfl ?_
        refine Ops.r (Run.mv rfl) rfl ?_
        refine Ops.rg rfl (by first | rfl | assumption | exact decide_eq_true (by assumption) | exact decide_eq_false (by assumption) | decide | (simp; done) | (simp; omega) | (simp [*]; done)) (Run.mv rfl) rfl ?_
        refine Ops.r (Run.pickT rfl rfl (by first | rfl | assumption | exact decide_eq_true (by assumption) | exact decide_eq_false (by assumption) | decide | (simp; done) | (simp; omega) | (simp [*]; done))) rfl ?_
        refine Ops.r (Run.mv rfl) rfl ?_
        refine Ops.clg rfl (by first | rfl | assumption | exact decide_eq_true (by assumption) | exact decide_eq_false (by assumption) | decide | (simp; done) | (simp; omega) | (simp [*]; done)) (Enters.fn evs.nil Tryd.call17) (awake19_spec _) rfl ?_
        rintro e w8 ⟨rfl, hf8⟩
        refine ⟨_, rfl, ?_⟩
        have K := K.trans hf8 (by simp)
        refine Ops.r (Run.pickT rfl rfl (by first | rfl | assumption | exact decide_eq_true (by assumption) | exact decide_eq_false (by assumption) | decide | (simp; done) | (simp; omega) | (simp [*]; done))) rfl ?_
        refine Ops.r (Run.asg rfl) rfl ?_
        refine Ops.nil ?_
        refine thenQ_n ?_
        refine VC.sub [(4, _)] (.cons rfl .nil) ?_
        refine VC.ret ?_
        refine end1 rfl ?_
        exact ⟨rfl, K⟩

end Go.Proofs.YtnllhddbgkeboaaDoor
