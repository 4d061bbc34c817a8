/-
  The answers of layer 25: texts cut, spans read.
-/
import Derived.Test.YtnllhddbgkeboaaDoorSeqQ
namespace Go.Proofs.YtnllhddbgkeboaaDoor
open Go.RowKit Go.Sort

/-- The rest of the words, behind what is read of the first. -/
def glue (b : Tx) : List Tx → List Tx
  | [] => [b]
  | p :: ps => (b ++ p) :: ps
theorem split_ne (c : UInt8) : ∀ s : Tx, splitF c s ≠ []
  | [] => by simp [splitF]
  | x :: r => by
    unfold splitF
    split
    · simp
    · split <;> simp
theorem glue_nil {l : List Tx} (h : l ≠ []) : glue [] l = l := by
  cases l with
  | nil => exact absurd rfl h
  | cons p ps => rfl
theorem split_same (c : UInt8) (b r : Tx) : glue b (splitF c (c :: r)) = b :: splitF c r := by simp [splitF, glue]
theorem split_other {c x : UInt8} (h : x ≠ c) (b r : Tx) : glue b (splitF c (x :: r)) = glue (b ++ [x]) (splitF c r) := by
  have e : splitF c (x :: r) = match splitF c r with
    | [] => [[x]]
    | p :: ps => (x :: p) :: ps := by
    rw [splitF, if_neg h]
    cases splitF c r <;> rfl
  rw [e]
  cases hs : splitF c r with
  | nil => exact absurd hs (split_ne c r)
  | cons p ps => simp [glue]
theorem drop_cons {α : Type} {s : List α} {i : Nat} (h : i < s.length) : s.drop i = s[i] :: s.drop (i + 1) := by rw [List.drop_eq_getElem_cons h]
theorem set_last {α : Type} (a : List α) (b v : α) : (a ++ [b]).set a.length v = a ++ [v] := by simp
theorem hrdT {w w' : World} {t : TypeId} {q : Tx} (h : Fresh w w' t #[encStr q]) : Rd w' 1 (some ⟨w.heap.size, 0, none⟩) 1 (SB [q]) := Rd.of_blk (n := 1) (size := 1) h.blk rfl


theorem last_cell {w : World} {ad : Addr} {a : List Tx} {b : Tx} {d : Nat} (h : Own w 9 1 (some ad) (a ++ [b]).length d (SB (a ++ [b]))) : w.cell? (ad.add ((a ++ [b]).length - 1)) = some (encStr b) := by
  obtain ⟨ad', h1, h2⟩ := SB_at h.rd (show (a ++ [b]).length - 1 < (a ++ [b]).length by simp)
  cases h1
  rw [h2]
  simp

set_option maxRecDepth 100000 in
theorem rcut_spec (q : Tx) (c : UInt8) (w : World) (hs : q.length ≤ 1000000) : Calls Tryd.prog 55 #[encStr q, .int .u8 ((c.toNat : Nat) : Int)] w fun e w' => Frm [] w w' ∧ ∃ A d, e = .returned (.slice A (splitF c q).length d) ∧ Own w' 9 1 A (splitF c q).length d (SB (splitF c q)) ∧ ∀ x ∈ ob A, w.heap.size ≤ x := by
  refine VC.calls (nt := 36) (res := #[.tmp 4]) Tryd.func55 rfl Tryd.ntmps55 Tryd.results55 rfl ?_
  refine VC.seq ?_
  refine VC.region ?_
  refine Ops.r (Run.asg rfl) rfl ?_
  refine Ops.nil ?_
  refine thenQ_n ?_
  refine VC.sub [(0, _), (1, _)] (.cons rfl (.cons rfl .nil)) ?_
  refine VC.seq ?_
  refine VC.region ?_
  refine Ops.m (Does.buildS1 rfl Tryd.underlying65 Tryd.sizeOf9 zero9 (by decide) (by decide) rfl rfl) rfl ?_
  rintro _ w1 ⟨rfl, hF1⟩
  have K := hF1.frm
  have hA : Own w1 9 1 (some ⟨w.heap.size, 0, none⟩) 1 1 (SB [[]]) := Own.of_blk (n := 1) hF1.blk rfl (by decide)
  have hub : ∀ x ∈ ob (some (⟨w.heap.size, 0, none⟩ : Addr)), w.heap.size ≤ x := by simp [ob]
  refine Ops.r (Run.asg rfl) rfl ?_
  refine Ops.nil ?_
  refine thenQ_n ?_
  refine VC.sub [(0, _), (1, _), (5, _)] (.cons rfl (.cons rfl (.cons rfl .nil))) ?_
  refine VC.seq ?_
  refine VC.seq ?_
  refine VC.region ?_
  refine Ops.r (v := .int .i64 ((0 : Nat) : Int)) (Run.asg rfl) rfl ?_
  refine Ops.nil ?_
  refine thenQ_n ?_
  refine VC.block ?_
  refine VC.loop (σ := Nat × List Tx × Tx × Option Addr × Nat) (fun s => [(0, encStr q), (1, .int .u8 ((c.toNat : Nat) : Int)), (5, .slice s.2.2.2.1 (s.2.1 ++ [s.2.2.1]).length s.2.2.2.2), (6, .int .i64 ((s.1 : Nat) : Int))]) (fun s wr => s.1 ≤ q.length ∧ splitF c q = s.2.1 ++ glue s.2.2.1 (splitF c (q.drop s.1)) ∧ s.2.1.length ≤ s.1 ∧ s.2.2.1.length ≤ s.1 ∧ Own wr 9 1 s.2.2.2.1 (s.2.1 ++ [s.2.2.1]).length s.2.2.2.2 (SB (s.2.1 ++ [s.2.2.1])) ∧ (∀ x ∈ ob s.2.2.2.1, w.heap.size ≤ x) ∧ Frm [] w wr) (fun s => q.length - s.1) (0, [], [], some ⟨w.heap.size, 0, none⟩, 1) (.cons rfl (.cons rfl (.cons rfl (.cons rfl .nil)))) ⟨by omega, by rw [List.drop_zero, List.nil_append, glue_nil (split_ne c q)], by simp, by simp, hA, hub, K⟩ ?_
  rintro ⟨i, a, b, A, d⟩ wr ⟨hi, hsp, hal, hbl, hA, hub, K⟩
  dsimp only at hi hsp hal hbl hA hub ⊢
  have hwl : (a ++ [b]).length = a.length + 1 := by simp
  refine VC.seq ?_
  refine VC.seq ?_
  refine VC.region ?_
  refine Ops.r (Run.mv rfl) rfl ?_
  refine Ops.r (Run.mv rfl) rfl ?_
  refine Ops.r (Run.lenT rfl Tryd.underlying9) rfl ?_
  refine Ops.r (Run.bin rfl rfl (Bin.lssN _ _)) rfl ?_
  refine Ops.nil ?_
  refine thenQ_n ?_
  refine VC.sub [(0, _), (1, _), (5, _), (6, _), (11, _)] (.cons rfl (.cons rfl (.cons rfl (.cons rfl (.cons rfl .nil))))) ?_
  refine VC.condD rfl (fun hc1 => ?_) (fun hc1 => ?_)
  · skip
    have hgx : q[i]? = some q[i] := List.getElem?_eq_getElem hc1
    have hdc := drop_cons hc1
    have htk1 : (q.drop i).take (i + 1 - i) = [q[i]] := by rw [hdc, show i + 1 - i = 1 by omega]; rfl
    have hlk : ((q.drop i).take (i + 1 - i)).length = 1 := by rw [htk1]; rfl
    generalize hx : q[i] = x at *
    refine VC.skip ?_
    refine thenQ_n ?_
    refine VC.sub [(0, _), (1, _), (5, _), (6, _)] (.cons rfl (.cons rfl (.cons rfl (.cons rfl .nil)))) ?_
    refine VC.seq ?_
    refine VC.block ?_
    refine VC.seq ?_
    refine VC.region ?_
    refine Ops.r (Run.mv rfl) rfl ?_
    refine Ops.r (Run.mv rfl) rfl ?_
    refine Ops.r (Run.indexT _ rfl rfl Tryd.underlying9 hgx) rfl ?_
    refine Ops.r (Run.mv rfl) rfl ?_
    refine Ops.r (Run.bin rfl rfl (Bin.eqlN _ _)) rfl ?_
    refine Ops.nil ?_
    refine thenQ_n ?_
    refine VC.sub [(0, _), (1, _), (5, _), (6, _), (18, _)] (.cons rfl (.cons rfl (.cons rfl (.cons rfl (.cons rfl .nil))))) ?_
    refine VC.meet (σ := List Tx × Tx × Option Addr × Nat) (fun s => [(0, encStr q), (1, .int .u8 ((c.toNat : Nat) : Int)), (5, .slice s.2.2.1 (s.1 ++ [s.2.1]).length s.2.2.2), (6, .int .i64 ((i : Nat) : Int))]) (fun s wr => splitF c q = s.1 ++ glue s.2.1 (splitF c (q.drop (i + 1))) ∧ s.1.length ≤ i + 1 ∧ s.2.1.length ≤ i + 1 ∧ Own wr 9 1 s.2.2.1 (s.1 ++ [s.2.1]).length s.2.2.2 (SB (s.1 ++ [s.2.1])) ∧ (∀ x ∈ ob s.2.2.1, w.heap.size ≤ x) ∧ Frm [] w wr) ?_ ?_
    · skip
      refine VC.condD rfl (fun hc2 => ?_) (fun hc2 => ?_)
      · skip
        have hl2 : (a ++ [b]).length + 1 = (a ++ [b] ++ [([] : Tx)]).length := by simp
        have hxc : x = c := UInt8.toNat_inj.1 hc2
        have hsp2 : splitF c q = (a ++ [b]) ++ glue [] (splitF c (q.drop (i + 1))) := by rw [hsp, hdc, hxc, split_same, glue_nil (split_ne c _)]; simp
        refine VC.region ?_
        refine Ops.r (Run.mv rfl) rfl ?_
        refine Ops.m (Does.buildS1 rfl Tryd.underlying65 Tryd.sizeOf9 zero9 (by decide) (by decide) rfl rfl) rfl ?_
        rintro _ w3 ⟨rfl, hF3⟩
        have K := K.trans hF3.frm (by simp)
        refine Ops.m (Does.app rfl rfl Tryd.underlying65 (info9) rfl (by decide) (hA.frm hF3.frm (by simp)) (hrdT (q := []) hF3) (SB_one _) (by omega) (by omega)) rfl ?_
        rintro _ w4 ⟨A4, d4, rfl, hA4, hf4, hob4⟩
        rw [← SB_append] at hA4
        have hub4 := up_app hub hob4 K.size
        have K := Frm.own K hf4 hub
        refine Ops.r (Run.asg rfl) rfl ?_
        refine Ops.nil ?_
        refine thenQ_n ⟨(a ++ [b], [], A4, d4), (.cons rfl (.cons rfl (.cons (by rw [← hl2]; rfl) (.cons rfl .nil)))), ?_⟩
        exact ⟨hsp2, by dsimp only; omega, by simp, by simpa using hA4, hub4, K⟩
      · skip
        obtain ⟨ad, rfl, _⟩ := SB_at hA.rd (show a.length < (a ++ [b]).length by omega)
        have hxc : x ≠ c := fun h => hc2 (by rw [h])
        have hsp2 : splitF c q = a ++ glue (b ++ [x]) (splitF c (q.drop (i + 1))) := by rw [hsp, hdc, split_other hxc]
        refine VC.held (fun _ => True) (by kernel_rfl) ?_
        refine HOps.take 0 rfl (by kernel_rfl) (by kernel_rfl) (by kernel_rfl) trivial (fun w0 hw0 => Run.mv rfl) trivial rfl rfl ?_
        refine HOps.take 1 rfl (by kernel_rfl) (by kernel_rfl) (by kernel_rfl) trivial (fun w0 hw0 => Run.mv rfl) trivial rfl rfl ?_
        refine HOps.take 2 rfl (by kernel_rfl) (by kernel_rfl) (by kernel_rfl) trivial (fun w0 hw0 => Run.lenS rfl Tryd.underlying65) trivial rfl rfl ?_
        refine HOps.take 3 rfl (by kernel_rfl) (by kernel_rfl) (by kernel_rfl) trivial (fun w0 hw0 => Run.bin rfl rfl (Bin.subN (a ++ [b]).length 1 (by omega) (by simp [bmax]; omega))) trivial rfl rfl ?_
        refine HOps.take 4 rfl (by kernel_rfl) (by kernel_rfl) (by kernel_rfl) trivial (fun w0 hw0 => Run.index1 ((a ++ [b]).length - 1) rfl rfl Tryd.underlying65 Tryd.sizeOf9 (show (a ++ [b]).length - 1 < (a ++ [b]).length by omega)) trivial rfl rfl ?_
        refine HOps.take 6 rfl (by kernel_rfl) (by kernel_rfl) (by kernel_rfl) trivial (fun w0 hw0 => Run.mv rfl) trivial rfl rfl ?_
        refine HOps.take 7 rfl (by kernel_rfl) (by kernel_rfl) (by kernel_rfl) trivial (fun w0 hw0 => Run.mv rfl) trivial rfl rfl ?_
        refine HOps.take 8 rfl (by kernel_rfl) (by kernel_rfl) (by kernel_rfl) trivial (fun w0 hw0 => Run.mv rfl) trivial rfl rfl ?_
        refine HOps.take 9 rfl (by kernel_rfl) (by kernel_rfl) (by kernel_rfl) trivial (fun w0 hw0 => Run.bin rfl rfl (Bin.add_i64 _ 1 (by omega))) trivial rfl rfl ?_
        refine HOps.take 10 rfl (by kernel_rfl) (by kernel_rfl) (by kernel_rfl) trivial (fun w0 hw0 => Run.sliceT i (i + 1) rfl Tryd.underlying9 (evB.some_ rfl) (evB.some_ rfl) (by omega) (by omega)) trivial rfl rfl ?_
        refine HOps.r1 5 rfl (by kernel_rfl) trivial (Run.load rfl Tryd.isAgg9 (last_cell hA)) trivial rfl rfl ?_
        refine HOps.take 11 rfl (by kernel_rfl) (by kernel_rfl) (by kernel_rfl) trivial (fun w0 hw0 => Run.addT rfl rfl (by omega)) trivial rfl rfl ?_
        refine HOps.take 12 rfl (by kernel_rfl) (by kernel_rfl) (by kernel_rfl) trivial (fun w0 hw0 => Run.index1 ((a ++ [b]).length - 1) rfl rfl Tryd.underlying65 Tryd.sizeOf9 (show (a ++ [b]).length - 1 < (a ++ [b]).length by omega)) trivial rfl rfl ?_
        refine HOps.st 13 rfl (by kernel_rfl) (Acts.storeOwn ((a ++ [b]).length - 1) rfl rfl Tryd.sizeOf9 hA rfl (by omega) rfl) trivial rfl ?_
        rintro w6 ⟨hA6, hf6, _⟩
        rw [htk1] at hA6
        have hA6 : Own w6 9 1 (some ad) (a ++ [b ++ [x]]).length d (SB (a ++ [b ++ [x]])) := by
          have e1 : (SB (a ++ [b])).set ((a ++ [b]).length - 1) (encStr (b ++ [x])) = SB (a ++ [b ++ [x]]) := by
            rw [show (a ++ [b]).length - 1 = a.length by omega, SB_append, SB_append, ← SB_len a]
            exact set_last _ _ _
          rw [← e1, show (a ++ [b ++ [x]]).length = (a ++ [b]).length by simp]
          exact hA6
        have K := Frm.own K.drew hf6 hub
        refine ⟨trivial, ?_⟩
        refine HOps.done (by kernel_rfl) ?_
        refine thenQ_n ⟨(a, b ++ [x], some ad, d), (.cons rfl (.cons rfl (.cons (by simp; rfl) (.cons rfl .nil)))), ?_⟩
        exact ⟨hsp2, by dsimp only; omega, by simp; omega, hA6, hub, K⟩
    · skip
      rintro ⟨a5, b5, A5, d5⟩ w5 ⟨hsp5, hal5, hbl5, hA5, hub5, K5⟩ Γ hΓ
      dsimp only at hsp5 hal5 hbl5 hA5 hub5
      refine blockQ_n (thenQ_n (VC.sub _ hΓ ?_))
      refine VC.region ?_
      refine Ops.r (Run.mv rfl) rfl ?_
      refine Ops.r (Run.bin rfl rfl (Bin.add_i64 _ 1 (by omega))) rfl ?_
      refine Ops.r (Run.asg rfl) rfl ?_
      refine Ops.nil ?_
      refine thenQ_n ⟨(i + 1, a5, b5, A5, d5), (.cons rfl (.cons rfl (.cons rfl (.cons rfl .nil)))), ?_, ?_⟩
      · skip
        exact ⟨hc1, hsp5, hal5, hbl5, hA5, hub5, K5⟩
      · skip
        first | omega | (dsimp only; omega)
  · skip
    have him : i = q.length := by omega
    subst him
    have hfin : splitF c q = a ++ [b] := by rw [hsp, List.drop_length]; simp [splitF, glue]
    refine VC.exit ?_
    refine thenQ_x (thenQ_x (blockQ_x ?_))
    refine thenQ_n ?_
    refine VC.sub [(5, _)] (.cons rfl .nil) ?_
    refine VC.seq ?_
    refine VC.region ?_
    refine Ops.r (Run.mv rfl) rfl ?_
    refine Ops.r (Run.asg rfl) rfl ?_
    refine Ops.nil ?_
    refine thenQ_n ?_
    refine VC.sub [(4, _)] (.cons rfl .nil) ?_
    refine VC.ret ?_
    refine end1 rfl ?_
    rw [hfin]
    exact ⟨K, A, d, rfl, hA, hub⟩

end Go.Proofs.YtnllhddbgkeboaaDoor
