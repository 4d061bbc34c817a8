/-
  Lemmas on the way, joined: AdT, AdS, SecQ, ShP, ShW, ShQ, PartW, PartV.
-/
import Derived.Lib.ItoaNum
import Derived.Lib.SmallJoins
import Derived.Lib.ItoaMem
import Derived.Lib.Join
import Derived.Test.YtenbjndldenkfaaGreatDoorPk2
namespace Go.Proofs.YtenbjndldenkfaaGreatDoor
open Go.RowKit Go.Sort

theorem apcs_end (s : Tx) (k frm : Nat) (ang : Bool) (out : List Tx) : pcsA s [] k frm ang out = out ++ [s.drop frm] := rfl
theorem apcs_not {s : Tx} {c : UInt8} {u k frm : Nat} {ang : Bool} {out : List Tx} {r : List (UInt8 × Nat)} (h : u ≠ 0) : pcsA s ((c, u) :: r) k frm ang out = pcsA s r (k + 1) frm ang out := by
  conv => lhs; unfold pcsA
  rw [if_pos h]
theorem apcs_in {s : Tx} {c : UInt8} {u k frm : Nat} {ang : Bool} {out : List Tx} {r : List (UInt8 × Nat)} (h : ¬ u ≠ 0) (h1 : c = 60) : pcsA s ((c, u) :: r) k frm ang out = pcsA s r (k + 1) frm true out := by
  conv => lhs; unfold pcsA
  rw [if_neg h, if_pos h1]
theorem apcs_out {s : Tx} {c : UInt8} {u k frm : Nat} {ang : Bool} {out : List Tx} {r : List (UInt8 × Nat)} (h : ¬ u ≠ 0) (h1 : ¬ c = 60) (h2 : c = 62) : pcsA s ((c, u) :: r) k frm ang out = pcsA s r (k + 1) frm false out := by
  conv => lhs; unfold pcsA
  rw [if_neg h, if_neg h1, if_pos h2]
theorem apcs_cut {s : Tx} {c : UInt8} {u k frm : Nat} {ang : Bool} {out : List Tx} {r : List (UInt8 × Nat)} (h : ¬ u ≠ 0) (h1 : ¬ c = 60) (h2 : ¬ c = 62) (h3 : c = 44 ∧ ang = false) : pcsA s ((c, u) :: r) k frm ang out = pcsA s r (k + 1) (k + 1) ang (out ++ [sliceQ s frm k]) := by
  conv => lhs; unfold pcsA
  rw [if_neg h, if_neg h1, if_neg h2, if_pos h3]
theorem apcs_on {s : Tx} {c : UInt8} {u k frm : Nat} {ang : Bool} {out : List Tx} {r : List (UInt8 × Nat)} (h : ¬ u ≠ 0) (h1 : ¬ c = 60) (h2 : ¬ c = 62) (h3 : ¬ (c = 44 ∧ ang = false)) : pcsA s ((c, u) :: r) k frm ang out = pcsA s r (k + 1) frm ang out := by
  conv => lhs; unfold pcsA
  rw [if_neg h, if_neg h1, if_neg h2, if_neg h3]

set_option maxRecDepth 100000 in
set_option maxHeartbeats 800000 in
theorem apieces_spec (q : Tx) (w : World) (hq : q.length ≤ 400000) :
    Calls Tryz.prog 91 #[encStr q] w fun e w' => Frm [] w w' ∧ ∃ A c, e = .returned (.slice A (piecesA q).length c) ∧ Own w' 9 1 A (piecesA q).length c (SB (piecesA q)) ∧ ∀ x ∈ ob A, w.heap.size ≤ x := by
  have K := Frm.refl [] w
  have hul := usesQ_len q
  have hzl := zip_len2 hul
  refine VC.calls (nt := 47) (res := #[.tmp 2]) Tryz.func91 rfl Tryz.ntmps91 Tryz.results91 rfl ?_
  refine VC.seq ?_
  refine VC.region ?_
  refine Ops.r (Run.asg rfl) rfl ?_
  refine Ops.nil ?_
  refine thenQ_n ?_
  refine VC.sub [(0, _)] (.cons rfl .nil) ?_
  refine VC.seq ?_
  refine VC.region ?_
  refine Ops.r (Run.asg rfl) rfl ?_
  refine Ops.nil ?_
  refine thenQ_n ?_
  refine VC.seq ?_
  refine VC.region ?_
  refine Ops.r (Run.mv rfl) rfl ?_
  refine Ops.cl (Enters.fn (evs.cons rfl evs.nil) Tryz.call126) ((uses_spec q _ (by omega))) rfl ?_
  rintro e w1 ⟨f1, L, rfl, hL, hubL⟩
  refine ⟨_, rfl, ?_⟩
  have K := K.trans f1 (by simp)
  refine Ops.r (Run.asg rfl) rfl ?_
  refine Ops.nil ?_
  refine thenQ_n ?_
  refine VC.sub [(0, _), (3, _), (4, _)] (.cons rfl (.cons rfl (.cons rfl .nil))) ?_
  refine VC.seq ?_
  refine VC.region ?_
  refine Ops.r (v := .int .i64 ((0 : Nat) : Int)) (Run.asg rfl) rfl ?_
  refine Ops.r (Run.asg rfl) rfl ?_
  refine Ops.nil ?_
  refine thenQ_n ?_
  refine VC.seq ?_
  refine VC.seq ?_
  refine VC.region ?_
  refine Ops.r (Run.mv rfl) rfl ?_
  refine Ops.r (Run.lenT rfl Tryz.underlying9) rfl ?_
  refine Ops.r (v := .int .i64 ((0 : Nat) : Int)) (Run.mv rfl) rfl ?_
  refine Ops.nil ?_
  refine thenQ_n ?_
  refine VC.sub [(0, _), (3, _), (4, _), (5, _), (6, _), (11, _), (12, _)] (.cons rfl (.cons rfl (.cons rfl (.cons rfl (.cons rfl (.cons rfl (.cons rfl .nil))))))) ?_
  refine VC.block ?_
  refine VC.loop (σ := Nat × Nat × Bool × List Tx × Option Addr × Nat) (fun s => [(0, encStr q), (3, .slice s.2.2.2.2.1 s.2.2.2.1.length s.2.2.2.2.2), (4, .slice L q.length q.length), (5, .int .i64 ((s.2.1 : Nat) : Int)), (6, .bool s.2.2.1), (11, .int .i64 ((q.length : Nat) : Int)), (12, .int .i64 ((s.1 : Nat) : Int))]) (fun s wr => s.1 ≤ q.length ∧ piecesA q = pcsA q ((q.zip (usesQ q)).drop s.1) s.1 s.2.1 s.2.2.1 s.2.2.2.1 ∧ s.2.1 ≤ s.1 ∧ s.2.2.2.1.length ≤ s.1 ∧ Frm [] w wr ∧ Own wr 154 1 L q.length q.length (NI (usesQ q)) ∧ Own wr 9 1 s.2.2.2.2.1 s.2.2.2.1.length s.2.2.2.2.2 (SB s.2.2.2.1) ∧ ∀ x ∈ ob s.2.2.2.2.1, w.heap.size ≤ x) (fun s => q.length - s.1) (0, 0, false, [], none, 0) (.cons rfl (.cons rfl (.cons rfl (.cons rfl (.cons rfl (.cons rfl (.cons rfl .nil))))))) ⟨Nat.zero_le _, rfl, Nat.le_refl _, Nat.le_refl _, K, hL, Own.nil _ _ _, by simp [ob]⟩ ?_
  rintro ⟨k, frm, ang, o, A, c⟩ wr ⟨hk, hz, hfk, hol, K, hL, hO, hub⟩
  dsimp only at hk hz hfk hol hO hub ⊢
  refine VC.seq ?_
  refine VC.region ?_
  refine Ops.r (Run.bin rfl rfl (Bin.lssN _ _)) rfl ?_
  refine Ops.nil ?_
  refine thenQ_n ?_
  refine VC.seq ?_
  refine VC.condD rfl (fun hc1 => ?_) (fun hc1 => ?_)
  · skip
    have hgx : q[k]? = some q[k] := List.getElem?_eq_getElem hc1
    obtain ⟨ad, hLe, hcell⟩ := NI_at (l := usesQ q) (by rw [hul]; exact hL.rd) (show k < (usesQ q).length by omega)
    have hzd := zip_drop hul hc1
    rw [hzd] at hz
    generalize q[k] = x at *
    generalize (usesQ q)[k] = u at *
    have e60 : x.toNat = 60 ↔ x = 60 := u8n rfl
    have e62 : x.toNat = 62 ↔ x = 62 := u8n rfl
    have e44 : x.toNat = 44 ↔ x = 44 := u8n rfl
    refine VC.skip ?_
    refine thenQ_n ?_
    refine VC.sub [(0, _), (3, _), (4, _), (5, _), (6, _), (11, _), (12, _)] (.cons rfl (.cons rfl (.cons rfl (.cons rfl (.cons rfl (.cons rfl (.cons rfl .nil))))))) ?_
    refine VC.seq ?_
    refine VC.block ?_
    refine VC.seq ?_
    refine VC.region ?_
    refine Ops.r (Run.mv rfl) rfl ?_
    refine Ops.r (Run.asg rfl) rfl ?_
    refine Ops.nil ?_
    refine thenQ_n ?_
    refine VC.sub [(0, _), (3, _), (4, _), (5, _), (6, _), (7, _), (11, _), (12, _)] (.cons rfl (.cons rfl (.cons rfl (.cons rfl (.cons rfl (.cons rfl (.cons rfl (.cons rfl .nil)))))))) ?_
    refine VC.seq ?_
    refine VC.seq ?_
    refine VC.region ?_
    refine Ops.r (Run.mv rfl) rfl ?_
    refine Ops.r (Run.mv rfl) rfl ?_
    refine Ops.r (Run.index1 k (by rw [← hLe]; rfl) rfl Tryz.underlying152 Tryz.sizeOf154 (by omega)) rfl ?_
    refine Ops.r (Run.load rfl Tryz.isAgg154 hcell) rfl ?_
    refine Ops.r (Run.bin rfl rfl (Bin.neqN _ 0)) rfl ?_
    refine Ops.nil ?_
    refine thenQ_n ?_
    refine VC.sub [(0, _), (3, _), (4, _), (5, _), (6, _), (7, _), (11, _), (12, _), (19, _)] (.cons rfl (.cons rfl (.cons rfl (.cons rfl (.cons rfl (.cons rfl (.cons rfl (.cons rfl (.cons rfl .nil))))))))) ?_
    refine VC.condD rfl (fun hc2 => ?_) (fun hc2 => ?_)
    · skip
      rw [apcs_not hc2] at hz
      refine VC.exit ?_
      refine thenQ_x (blockQ_x ?_)
      refine thenQ_n ?_
      refine VC.sub [(0, _), (3, _), (4, _), (5, _), (6, _), (11, _), (12, _)] (.cons rfl (.cons rfl (.cons rfl (.cons rfl (.cons rfl (.cons rfl (.cons rfl .nil))))))) ?_
      refine VC.region ?_
      refine Ops.r (Run.bin rfl rfl (Bin.add_i64 _ 1 (by omega))) rfl ?_
      refine Ops.r (Run.mv rfl) rfl ?_
      refine Ops.nil ?_
      refine thenQ_n ⟨(k + 1, frm, ang, o, A, c), (.cons rfl (.cons rfl (.cons rfl (.cons rfl (.cons rfl (.cons rfl (.cons rfl .nil))))))), ?_, ?_⟩
      · skip
        exact ⟨hc1, hz, by dsimp only; omega, by dsimp only; omega, K, hL, hO, hub⟩
      · skip
        first | omega | (dsimp only; omega)
    · skip
      refine VC.skip ?_
      refine thenQ_n ?_
      refine VC.sub [(0, _), (3, _), (4, _), (5, _), (6, _), (7, _), (11, _), (12, _)] (.cons rfl (.cons rfl (.cons rfl (.cons rfl (.cons rfl (.cons rfl (.cons rfl (.cons rfl .nil)))))))) ?_
      refine VC.seq ?_
      refine VC.region ?_
      refine Ops.r (Run.mv rfl) rfl ?_
      refine Ops.r (Run.mv rfl) rfl ?_
      refine Ops.r (Run.indexT _ rfl rfl Tryz.underlying9 hgx) rfl ?_
      refine Ops.nil ?_
      refine thenQ_n ?_
      refine VC.sub [(0, _), (3, _), (4, _), (5, _), (6, _), (7, _), (11, _), (12, _), (22, _)] (.cons rfl (.cons rfl (.cons rfl (.cons rfl (.cons rfl (.cons rfl (.cons rfl (.cons rfl (.cons rfl .nil))))))))) ?_
      refine VC.block ?_
      refine VC.seq ?_
      refine VC.region ?_
      refine Ops.r (Run.bin rfl rfl (Bin.eqlN _ 60)) rfl ?_
      refine Ops.r (Run.asg rfl) rfl ?_
      refine Ops.nil ?_
      refine thenQ_n ?_
      refine VC.sub [(0, _), (3, _), (4, _), (5, _), (6, _), (7, _), (11, _), (12, _), (22, _), (23, _)] (.cons rfl (.cons rfl (.cons rfl (.cons rfl (.cons rfl (.cons rfl (.cons rfl (.cons rfl (.cons rfl (.cons rfl .nil)))))))))) ?_
      refine VC.condD rfl (fun hc3 => ?_) (fun hc3 => ?_)
      · skip
        rw [apcs_in hc2 (e60.1 hc3)] at hz
        refine VC.region ?_
        refine Ops.r (Run.asg rfl) rfl ?_
        refine Ops.nil ?_
        refine blockQ_n (blockQ_n (thenQ_n ?_))
        refine VC.sub [(0, _), (3, _), (4, _), (5, _), (6, _), (11, _), (12, _)] (.cons rfl (.cons rfl (.cons rfl (.cons rfl (.cons rfl (.cons rfl (.cons rfl .nil))))))) ?_
        refine VC.region ?_
        refine Ops.r (Run.bin rfl rfl (Bin.add_i64 _ 1 (by omega))) rfl ?_
        refine Ops.r (Run.mv rfl) rfl ?_
        refine Ops.nil ?_
        refine thenQ_n ⟨(k + 1, frm, true, o, A, c), (.cons rfl (.cons rfl (.cons rfl (.cons rfl (.cons rfl (.cons rfl (.cons rfl .nil))))))), ?_, ?_⟩
        · skip
          exact ⟨hc1, hz, by dsimp only; omega, by dsimp only; omega, K, hL, hO, hub⟩
        · skip
          first | omega | (dsimp only; omega)
      · skip
        have g1 : ¬ x = 60 := fun h => hc3 (e60.2 h)
        refine VC.seq ?_
        refine VC.region ?_
        refine Ops.r (Run.bin rfl rfl (Bin.eqlN _ 62)) rfl ?_
        refine Ops.r (Run.asg rfl) rfl ?_
        refine Ops.nil ?_
        refine thenQ_n ?_
        refine VC.sub [(0, _), (3, _), (4, _), (5, _), (6, _), (7, _), (11, _), (12, _), (22, _), (25, _)] (.cons rfl (.cons rfl (.cons rfl (.cons rfl (.cons rfl (.cons rfl (.cons rfl (.cons rfl (.cons rfl (.cons rfl .nil)))))))))) ?_
        refine VC.condD rfl (fun hc4 => ?_) (fun hc4 => ?_)
        · skip
          rw [apcs_out hc2 g1 (e62.1 hc4)] at hz
          refine VC.region ?_
          refine Ops.r (Run.asg rfl) rfl ?_
          refine Ops.nil ?_
          refine blockQ_n (blockQ_n (thenQ_n ?_))
          refine VC.sub [(0, _), (3, _), (4, _), (5, _), (6, _), (11, _), (12, _)] (.cons rfl (.cons rfl (.cons rfl (.cons rfl (.cons rfl (.cons rfl (.cons rfl .nil))))))) ?_
          refine VC.region ?_
          refine Ops.r (Run.bin rfl rfl (Bin.add_i64 _ 1 (by omega))) rfl ?_
          refine Ops.r (Run.mv rfl) rfl ?_
          refine Ops.nil ?_
          refine thenQ_n ⟨(k + 1, frm, false, o, A, c), (.cons rfl (.cons rfl (.cons rfl (.cons rfl (.cons rfl (.cons rfl (.cons rfl .nil))))))), ?_, ?_⟩
          · skip
            exact ⟨hc1, hz, by dsimp only; omega, by dsimp only; omega, K, hL, hO, hub⟩
          · skip
            first | omega | (dsimp only; omega)
        · skip
          have g2 : ¬ x = 62 := fun h => hc4 (e62.2 h)
          refine VC.seq ?_
          refine VC.region ?_
          refine Ops.r (Run.bin rfl rfl (Bin.eqlN _ 44)) rfl ?_
          refine Ops.r (Run.asg rfl) rfl ?_
          refine Ops.nil ?_
          refine thenQ_n ?_
          refine VC.sub [(0, _), (3, _), (4, _), (5, _), (6, _), (7, _), (11, _), (12, _), (27, _)] (.cons rfl (.cons rfl (.cons rfl (.cons rfl (.cons rfl (.cons rfl (.cons rfl (.cons rfl (.cons rfl .nil))))))))) ?_
          refine VC.condD rfl (fun hc5 => ?_) (fun hc5 => ?_)
          · skip
            refine VC.seq ?_
            refine VC.region ?_
            refine Ops.r (Run.mv rfl) rfl ?_
            refine Ops.r (Run.not rfl) rfl ?_
            refine Ops.nil ?_
            refine thenQ_n ?_
            refine VC.sub [(0, _), (3, _), (4, _), (5, _), (6, _), (7, _), (11, _), (12, _), (30, _)] (.cons rfl (.cons rfl (.cons rfl (.cons rfl (.cons rfl (.cons rfl (.cons rfl (.cons rfl (.cons rfl .nil))))))))) ?_
            refine VC.condB rfl (fun hc6 => ?_) (fun hc6 => ?_)
            · skip
              have hang : ang = false := by simpa using hc6
              rw [apcs_cut hc2 g1 g2 ⟨e44.1 hc5, hang⟩] at hz
              refine VC.seq ?_
              refine VC.region ?_
              refine Ops.r (Run.mv rfl) rfl ?_
              refine Ops.r (Run.mv rfl) rfl ?_
              refine Ops.r (Run.mv rfl) rfl ?_
              refine Ops.r (Run.mv rfl) rfl ?_
              refine Ops.r (Run.sliceT frm k rfl Tryz.underlying9 (evB.some_ rfl) (evB.some_ rfl) hfk (by omega)) rfl ?_
              refine Ops.m (Does.buildS1 rfl Tryz.underlying36 Tryz.sizeOf9 zero9 (by decide) (by decide) rfl rfl) rfl ?_
              rintro _ w2 ⟨rfl, hFw2⟩
              have hr5 : Rd w2 1 (some ⟨_, 0, none⟩) 1 (SB [(q.drop frm).take (k - frm)]) := Rd.of_blk (n := 1) (size := 1) hFw2.blk rfl
              have K := K.trans hFw2.frm (by simp)
              have hL := hL.frm hFw2.frm (by simp)
              have hO := hO.frm hFw2.frm (by simp)
              refine Ops.m (Does.app rfl rfl Tryz.underlying36 (info9) rfl (by decide) hO hr5 (by intro u hu; simp only [SB, List.map_cons, List.map_nil, List.mem_singleton] at hu; subst hu; rfl) (by omega) (by omega)) rfl ?_
              rintro _ w3 ⟨A6, c6, rfl, hO6, f6, hob6⟩
              have sK := K.size
              have hL := hL.frm f6 (fun y hy => hL.ne_own hO (by decide) y hy)
              have K := Frm.own K f6 hub
              rw [← SB_append] at hO6
              have hub6 : ∀ x ∈ ob A6, w.heap.size ≤ x := up_app hub hob6 sK
              refine Ops.r (Run.asg rfl) rfl ?_
              refine Ops.nil ?_
              refine thenQ_n ?_
              refine VC.sub [(0, _), (3, _), (4, _), (6, _), (7, _), (11, _), (12, _)] (.cons rfl (.cons rfl (.cons rfl (.cons rfl (.cons rfl (.cons rfl (.cons rfl .nil))))))) ?_
              refine VC.region ?_
              refine Ops.r (Run.mv rfl) rfl ?_
              refine Ops.r (Run.bin rfl rfl (Bin.add_i64 _ 1 (by omega))) rfl ?_
              refine Ops.r (Run.asg rfl) rfl ?_
              refine Ops.nil ?_
              refine blockQ_n (blockQ_n (thenQ_n ?_))
              refine VC.sub [(0, _), (3, _), (4, _), (5, _), (6, _), (11, _), (12, _)] (.cons rfl (.cons rfl (.cons rfl (.cons rfl (.cons rfl (.cons rfl (.cons rfl .nil))))))) ?_
              refine VC.region ?_
              refine Ops.r (Run.bin rfl rfl (Bin.add_i64 _ 1 (by omega))) rfl ?_
              refine Ops.r (Run.mv rfl) rfl ?_
              refine Ops.nil ?_
              refine thenQ_n ⟨(k + 1, k + 1, ang, o ++ [(q.drop frm).take (k - frm)], A6, c6), (.cons rfl (.cons (by rw [List.length_append]; rfl) (.cons rfl (.cons rfl (.cons rfl (.cons rfl (.cons rfl .nil))))))), ?_, ?_⟩
              · skip
                exact ⟨hc1, hz, by dsimp only; omega, by simp; omega, K, hL, by rw [List.length_append]; exact hO6, hub6⟩
              · skip
                first | omega | (dsimp only; omega)
            · skip
              have hang : ang = true := by simpa using hc6
              rw [apcs_on hc2 g1 g2 (fun h => by rw [hang] at h; cases h.2)] at hz
              refine VC.skip ?_
              refine blockQ_n (blockQ_n (thenQ_n ?_))
              refine VC.sub [(0, _), (3, _), (4, _), (5, _), (6, _), (11, _), (12, _)] (.cons rfl (.cons rfl (.cons rfl (.cons rfl (.cons rfl (.cons rfl (.cons rfl .nil))))))) ?_
              refine VC.region ?_
              refine Ops.r (Run.bin rfl rfl (Bin.add_i64 _ 1 (by omega))) rfl ?_
              refine Ops.r (Run.mv rfl) rfl ?_
              refine Ops.nil ?_
              refine thenQ_n ⟨(k + 1, frm, ang, o, A, c), (.cons rfl (.cons rfl (.cons rfl (.cons rfl (.cons rfl (.cons rfl (.cons rfl .nil))))))), ?_, ?_⟩
              · skip
                exact ⟨hc1, hz, by dsimp only; omega, by dsimp only; omega, K, hL, hO, hub⟩
              · skip
                first | omega | (dsimp only; omega)
          · skip
            rw [apcs_on hc2 g1 g2 (fun h => hc5 (e44.2 h.1))] at hz
            refine VC.skip ?_
            refine blockQ_n (blockQ_n (thenQ_n ?_))
            refine VC.sub [(0, _), (3, _), (4, _), (5, _), (6, _), (11, _), (12, _)] (.cons rfl (.cons rfl (.cons rfl (.cons rfl (.cons rfl (.cons rfl (.cons rfl .nil))))))) ?_
            refine VC.region ?_
            refine Ops.r (Run.bin rfl rfl (Bin.add_i64 _ 1 (by omega))) rfl ?_
            refine Ops.r (Run.mv rfl) rfl ?_
            refine Ops.nil ?_
            refine thenQ_n ⟨(k + 1, frm, ang, o, A, c), (.cons rfl (.cons rfl (.cons rfl (.cons rfl (.cons rfl (.cons rfl (.cons rfl .nil))))))), ?_, ?_⟩
            · skip
              exact ⟨hc1, hz, by dsimp only; omega, by dsimp only; omega, K, hL, hO, hub⟩
            · skip
              first | omega | (dsimp only; omega)
  · skip
    have hkl : k = q.length := by omega
    subst hkl
    rw [List.drop_eq_nil_of_le (by omega), apcs_end] at hz
    refine VC.exit ?_
    refine thenQ_x (thenQ_x (blockQ_x ?_))
    refine thenQ_n ?_
    refine VC.sub [(0, _), (3, _), (5, _)] (.cons rfl (.cons rfl (.cons rfl .nil))) ?_
    refine VC.seq ?_
    refine VC.region ?_
    refine Ops.r (Run.mv rfl) rfl ?_
    refine Ops.r (Run.mv rfl) rfl ?_
    refine Ops.r (Run.mv rfl) rfl ?_
    refine Ops.r (Run.sliceT frm q.length rfl Tryz.underlying9 (evB.some_ rfl) evB.none_ (by omega) (Nat.le_refl _)) rfl ?_
    rw [List.take_of_length_le (show (q.drop frm).length ≤ q.length - frm by simp)]
    refine Ops.m (Does.buildS1 rfl Tryz.underlying36 Tryz.sizeOf9 zero9 (by decide) (by decide) rfl rfl) rfl ?_
    rintro _ w4 ⟨rfl, hFw4⟩
    have hr5 : Rd w4 1 (some ⟨_, 0, none⟩) 1 (SB [q.drop frm]) := Rd.of_blk (n := 1) (size := 1) hFw4.blk rfl
    have K := K.trans hFw4.frm (by simp)
    have hL := hL.frm hFw4.frm (by simp)
    have hO := hO.frm hFw4.frm (by simp)
    refine Ops.m (Does.app rfl rfl Tryz.underlying36 (info9) rfl (by decide) hO hr5 (by intro u hu; simp only [SB, List.map_cons, List.map_nil, List.mem_singleton] at hu; subst hu; rfl) (by omega) (by omega)) rfl ?_
    rintro _ w5 ⟨A6, c6, rfl, hO6, f6, hob6⟩
    have sK := K.size
    have hL := hL.frm f6 (fun y hy => hL.ne_own hO (by decide) y hy)
    have K := Frm.own K f6 hub
    rw [← SB_append] at hO6
    have hub6 : ∀ x ∈ ob A6, w.heap.size ≤ x := up_app hub hob6 sK
    refine Ops.r (Run.asg rfl) rfl ?_
    refine Ops.nil ?_
    refine thenQ_n ?_
    refine VC.sub [(2, _)] (.cons rfl .nil) ?_
    refine VC.ret ?_
    refine end1 rfl ?_
    rw [hz, List.length_append]
    exact ⟨K, A6, c6, rfl, hO6, hub6⟩

def AC1 (a : Adr) : List Value := [encStr a.name, encStr a.box, encStr a.host]
theorem AC1_len (a : Adr) : (AC1 a).length = 3 := rfl
theorem AC1_one (a : Adr) : ∀ u ∈ AC1 a, u.oneCell' = true := by
  intro u hu
  simp only [AC1, List.mem_cons, List.not_mem_nil, or_false] at hu
  rcases hu with rfl | rfl | rfl <;> rfl
def AC (l : List Adr) : List Value := l.flatMap AC1
theorem AC_append (a b : List Adr) : AC (a ++ b) = AC a ++ AC b := by simp [AC]
theorem AC_one (l : List Adr) : ∀ u ∈ AC l, u.oneCell' = true := flat_one AC1 AC1_one l
theorem AC_at {w : World} {A : Option Addr} {l : List Adr} {k : Nat} (h : Rd w 3 A l.length (AC l)) (hk : k < l.length) : ∃ ad, A = some ad ∧ ∀ j v, (AC1 l[k])[j]? = some v → w.cell? ((ad.add (k * 3)).add j) = some v := by
  obtain ⟨ad, rfl, hc⟩ := h.elem hk
  refine ⟨ad, rfl, fun j v hj => hc j v ?_⟩
  rw [show AC l = l.flatMap AC1 from rfl, flat_get AC1 3 AC1_len l k hk]
  exact hj
theorem hrdA {w w' : World} {t : TypeId} {x : Adr} (h : Fresh w w' t (AC1 x).toArray) : Rd w' 3 (some ⟨w.heap.size, 0, none⟩) 1 (AC [x]) := Rd.of_blk (n := 1) (size := 3) h.blk rfl
theorem lastB_spec (t : Tx) (w : World) (ht : t.length ≤ 1000000) : Calls Tryz.prog 130 #[encStr t, .int .u8 ((64 : Nat) : Int)] w fun e w' => w = w' ∧ ∃ k : Int, e = .returned (.int .i64 k) ∧ ((k = -1 ∧ lastAt 64 t = none) ∨ ∃ a b, k = ((a.length : Nat) : Int) ∧ lastAt 64 t = some (a, b)) := by
  have h := Tryz.strings_LastIndexByte ⟨t.toArray⟩ ((64 : Nat) : Int) (by show t.toArray.size < _; simp; omega) w
  refine h.mono fun e w' ⟨h, hw⟩ => ⟨hw.symm, _, h, ?_⟩
  have hat : ∀ j, j < t.length → (((⟨t.toArray⟩ : ByteArray).data[j]!).toNat : Int) = ((64 : Nat) : Int) → t[j]? = some 64 := by
    intro j hj hx
    have e : (⟨t.toArray⟩ : ByteArray).data[j]! = t[j] := by
      show t.toArray[j]! = t[j]
      simp [hj]
    rw [e] at hx
    rw [List.getElem?_eq_getElem hj]
    exact congrArg some (UInt8.toNat_inj.1 (show t[j].toNat = 64 by omega))
  have hno : ∀ j, j < t.length → (((⟨t.toArray⟩ : ByteArray).data[j]!).toNat : Int) ≠ ((64 : Nat) : Int) → t[j]? ≠ some 64 := by
    intro j hj hx he
    have e : (⟨t.toArray⟩ : ByteArray).data[j]! = t[j] := by
      show t.toArray[j]! = t[j]
      simp [hj]
    rw [e] at hx
    rw [List.getElem?_eq_getElem hj] at he
    exact hx (by rw [Option.some.inj he]; rfl)
  have hsz : (⟨t.toArray⟩ : ByteArray).size = t.length := by show t.toArray.size = _; simp
  rcases Lib.lastIndexByte_spec ⟨t.toArray⟩ ((64 : Nat) : Int) with ⟨h1, h2⟩ | ⟨i, hi, h1, h2, h3⟩
  · refine .inl ⟨h1, ?_⟩
    cases hl : lastAt 64 t with
    | none => rfl
    | some p =>
      obtain ⟨a, b⟩ := p
      obtain ⟨e1, e2⟩ := lastAt_some hl
      have hal : a.length < t.length := by rw [e1]; simp
      exact absurd (by rw [e1]; simp) (hno a.length hal (h2 a.length (by rw [hsz]; exact hal)))
  · rw [hsz] at hi h3
    have hti := hat i hi h2
    cases hl : lastAt 64 t with
    | none => exact absurd (List.mem_of_getElem? hti) (lastAt_none hl)
    | some p =>
      obtain ⟨a, b⟩ := p
      obtain ⟨e1, e2⟩ := lastAt_some hl
      have hal : a.length < t.length := by rw [e1]; simp
      have hia : i = a.length := by
        rcases Nat.lt_trichotomy i a.length with hlt | heq | hgt
        · exact absurd (by rw [e1]; simp) (hno a.length hal (h3 a.length hlt hal))
        · exact heq
        · rw [e1, List.getElem?_append_right (by omega), show i - a.length = (i - a.length - 1) + 1 by omega, List.getElem?_cons_succ] at hti
          exact absurd (List.mem_of_getElem? hti) e2
      exact .inr ⟨a, b, by rw [h1, hia], rfl⟩
theorem zip_cut (q : Tx) (l : List Nat) (a n : Nat) : ((q.zip l).drop a).take n = ((q.drop a).take n).zip ((l.drop a).take n) := by
  simp [List.zip_eq_zipWith, List.drop_zipWith, List.take_zipWith]
theorem zip_take (q : Tx) (l : List Nat) (n : Nat) : (q.zip l).take n = (q.take n).zip (l.take n) := by
  simp [List.zip_eq_zipWith, List.take_zipWith]
theorem bh_some {t a b : Tx} (h : lastAt 64 t = some (a, b)) : boxHost t = (a, b) := by unfold boxHost; rw [h]
theorem bh_none {t : Tx} (h : lastAt 64 t = none) : boxHost t = (t, []) := by unfold boxHost; rw [h]
theorem angTo_le {q : Tx} {l : List Nat} (hl : l.length = q.length) {i : Nat} (hi : i < q.length) (h : (q.zip l)[i]? = some (60, 0)) : i + 1 ≤ angTo (q.zip l) i ∧ angTo (q.zip l) i ≤ q.length := by
  have hzl := zip_len2 hl
  unfold angTo
  rcases fndA_res 62 ((q.zip l).drop i) i with h1 | ⟨j, h1, h2, h3⟩
  · rw [h1, if_pos (by decide), hzl]; omega
  · rw [h2, if_neg (by omega), Int.toNat_natCast]
    rw [List.getElem?_drop] at h3
    have hj : j ≠ 0 := by
      rintro rfl
      rw [Nat.add_zero, h] at h3
      exact absurd h3 (by decide)
    rw [List.length_drop, hzl] at h1
    omega

set_option maxRecDepth 100000 in
set_option maxHeartbeats 1600000 in
theorem one_spec (q : Tx) (w : World) (hq : q.length ≤ 400000) :
    Calls Tryz.prog 92 #[encStr q] w fun e w' => e = .returned (.agg (AC1 (oneA q)).toArray) ∧ Frm [] w w' := by
  have K := Frm.refl [] w
  have hul := usesQ_len q
  have hzl := zip_len2 hul
  refine VC.calls (nt := 66) (res := #[.cell 2 91]) Tryz.func92 rfl Tryz.ntmps92 Tryz.results92 rfl ?_
  refine VC.seq ?_
  refine VC.region ?_
  refine Ops.m (Does.alloc zero91) rfl ?_
  rintro _ w1 ⟨rfl, hF_w1⟩
  have hb2 := hF_w1.blk
  have hs2_K := K.size
  have K := Frm.trans K hF_w1.frm (by simp)
  generalize hg2 : w.heap.size = g2 at hb2 hs2_K ⊢
  refine Ops.nil ?_
  refine thenQ_n ?_
  refine VC.seq ?_
  refine VC.region ?_
  refine Ops.r (Run.mv rfl) rfl ?_
  refine Ops.cl (Enters.fn (evs.cons rfl evs.nil) Tryz.call126) ((uses_spec q _ (by omega))) rfl ?_
  rintro e w2 ⟨hf_w2, L, rfl, hL, hubL⟩
  refine ⟨_, rfl, ?_⟩
  have hb2 := hb2.frm hf_w2 (by simp)
  have K := Frm.trans K hf_w2 (by simp)
  rw [← hul] at hL ⊢
  refine Ops.r (Run.asg rfl) rfl ?_
  refine Ops.nil ?_
  refine thenQ_n ?_
  refine VC.sub [(0, _), (2, _), (3, _)] (.cons rfl (.cons rfl (.cons rfl .nil))) ?_
  refine VC.seq ?_
  refine VC.region ?_
  refine Ops.r (Run.mv rfl) rfl ?_
  refine Ops.r (Run.mv rfl) rfl ?_
  refine Ops.cl (Enters.fn (evs.cons rfl (evs.cons rfl evs.nil)) Tryz.call127) ((first_spec q (usesQ q) L _ _ hq hul hL.rd)) rfl ?_
  rintro e w3 ⟨rfl, hf_w3⟩
  refine ⟨_, rfl, ?_⟩
  have hb2 := hb2.frm hf_w3 (by simp)
  have hL := hL.frm hf_w3 (by simp)
  have K := Frm.trans K hf_w3 (by simp)
  refine Ops.r (Run.build (evs.cons rfl evs.nil) zero91 (places91).choose_spec.1 (places91).choose_spec.2 (cells := #[encStr (firstA (q.zip (usesQ q))), encStr [], encStr []]) rfl) rfl ?_
  refine Ops.m (Does.alloc zero91) rfl ?_
  rintro _ w4 ⟨rfl, hF_w4⟩
  have hb4 := hF_w4.blk
  have hs4_K := K.size
  have lt_hb2_4 := hb2.lt
  have hb2 := hb2.frm hF_w4.frm (by simp)
  have hL := hL.frm hF_w4.frm (by simp)
  have K := Frm.trans K hF_w4.frm (by simp)
  generalize hg4 : w3.heap.size = g4 at hb4 hs4_K lt_hb2_4 ⊢
  refine Ops.st (Acts.storeA rfl rfl Tryz.sizeOf91 hb4 rfl (AC1_one ⟨firstA (q.zip (usesQ q)), [], []⟩)) ?_
  rintro w5 ⟨hbn_w5, hf_w5, hsz_w5⟩
  have hb2 := hb2.frm hf_w5 (by simp; omega)
  have hL := hL.frm hf_w5 (fun y hy => by have := hL.ne_blk hb4 (by decide); simp; rintro rfl; exact this hy)
  have hb4 : Blk w5 g4 91 (#[encStr (firstA (q.zip (usesQ q))), encStr [], encStr []]) := hbn_w5
  have K := Frm.own K hf_w5 (fun y hy => by simp at hy; omega)
  refine Ops.nil ?_
  refine thenQ_n ?_
  refine VC.sub [(0, _), (2, _), (3, _), (4, _)] (.cons rfl (.cons rfl (.cons rfl (.cons rfl .nil)))) ?_
  refine VC.seq ?_
  refine VC.region ?_
  refine Ops.r (Run.mv rfl) rfl ?_
  refine Ops.r (Run.mv rfl) rfl ?_
  refine Ops.cl (Enters.fn (evs.cons rfl (evs.cons rfl evs.nil)) Tryz.call128) ((says_spec q (usesQ q) L _ _ hq hul hL.rd)) rfl ?_
  rintro e w6 ⟨rfl, hf_w6⟩
  refine ⟨_, rfl, ?_⟩
  have hb2 := hb2.frm hf_w6 (by simp)
  have hL := hL.frm hf_w6 (by simp)
  have hb4 := hb4.frm hf_w6 (by simp)
  have K := Frm.trans K hf_w6 (by simp)
  refine Ops.r (Run.asg rfl) rfl ?_
  refine Ops.nil ?_
  refine thenQ_n ?_
  refine VC.sub [(0, _), (2, _), (3, _), (4, _), (5, _)] (.cons rfl (.cons rfl (.cons rfl (.cons rfl (.cons rfl .nil))))) ?_
  refine VC.seq ?_
  refine VC.seq ?_
  refine VC.region ?_
  refine Ops.r (Run.mv rfl) rfl ?_
  refine Ops.r (Run.mv rfl) rfl ?_
  refine Ops.cl (Enters.fn (evs.cons rfl (evs.cons rfl (evs.cons rfl (evs.cons rfl evs.nil)))) Tryz.call129) ((afind_spec q (usesQ q) L _ 60 0 _ hq hul hL.rd (Nat.zero_le _))) rfl ?_
  rintro e _ ⟨rfl, rfl⟩
  rw [List.drop_zero]
  refine ⟨_, rfl, ?_⟩
  have hnm0 : nmA (q.zip (usesQ q)) = if fndA 60 (q.zip (usesQ q)) 0 < 0 then firstA (q.zip (usesQ q)) else saysQ ((q.zip (usesQ q)).take (fndA 60 (q.zip (usesQ q)) 0).toNat) := rfl
  have hal0 : allA (q.zip (usesQ q)) = if fndA 60 (q.zip (usesQ q)) 0 < 0 then saysQ (q.zip (usesQ q)) else saysQ (((q.zip (usesQ q)).drop ((fndA 60 (q.zip (usesQ q)) 0).toNat + 1)).take (angTo (q.zip (usesQ q)) (fndA 60 (q.zip (usesQ q)) 0).toNat - ((fndA 60 (q.zip (usesQ q)) 0).toNat + 1))) := rfl
  have hres := fndA_res 60 (q.zip (usesQ q)) 0
  refine Ops.r (Run.asg rfl) rfl ?_
  refine Ops.nil ?_
  refine thenQ_n ?_
  refine VC.sub [(0, _), (2, _), (3, _), (4, _), (5, _), (6, _)] (.cons rfl (.cons rfl (.cons rfl (.cons rfl (.cons rfl (.cons rfl .nil)))))) ?_
  refine VC.seq ?_
  refine VC.region ?_
  refine Ops.r (Run.mv rfl) rfl ?_
  refine Ops.r (Run.bin rfl rfl (Bin.geq _ 0)) rfl ?_
  refine Ops.nil ?_
  refine thenQ_n ?_
  refine VC.sub [(0, _), (2, _), (3, _), (4, _), (5, _), (6, _), (22, _)] (.cons rfl (.cons rfl (.cons rfl (.cons rfl (.cons rfl (.cons rfl (.cons rfl .nil))))))) ?_
  refine VC.meet (σ := Unit) (fun s => [(2, .pointer (some ⟨g2, 0, none⟩)), (4, .pointer (some ⟨g4, 0, none⟩)), (5, encStr (allA (q.zip (usesQ q))))]) (fun s wz => Frm [] w wz ∧ (∃ cs2, Blk wz g2 91 cs2 ∧ cs2.size = 3) ∧ Blk wz g4 91 #[encStr (nmA (q.zip (usesQ q))), encStr [], encStr []]) ?_ ?_
  · skip
    refine VC.condD rfl (fun hc1 => ?_) (fun hc1 => ?_)
    · skip
      obtain ⟨i, hi, hie, hgi⟩ := hres.resolve_left (by omega)
      rw [Nat.zero_add] at hie
      rw [hie, if_neg (by omega), Int.toNat_natCast] at hnm0 hal0
      rw [hzl] at hi
      obtain ⟨ha1, ha2⟩ := angTo_le hul hi hgi
      have hat : angTo (q.zip (usesQ q)) i = if fndA 62 ((q.zip (usesQ q)).drop i) i < 0 then (q.zip (usesQ q)).length else (fndA 62 ((q.zip (usesQ q)).drop i) i).toNat := rfl
      have hres2 := fndA_res 62 ((q.zip (usesQ q)).drop i) i
      rw [hie]
      refine VC.seq ?_
      refine VC.region ?_
      refine Ops.r (Run.mv rfl) rfl ?_
      refine Ops.r (Run.mv rfl) rfl ?_
      refine Ops.r (Run.mv rfl) rfl ?_
      refine Ops.cl (Enters.fn (evs.cons rfl (evs.cons rfl (evs.cons rfl (evs.cons rfl evs.nil)))) Tryz.call129) ((afind_spec q (usesQ q) L _ 62 i _ hq hul hL.rd (by omega))) rfl ?_
      rintro e _ ⟨rfl, rfl⟩
      refine ⟨_, rfl, ?_⟩
      refine Ops.r (Run.asg rfl) rfl ?_
      refine Ops.nil ?_
      refine thenQ_n ?_
      refine VC.sub [(0, _), (2, _), (3, _), (4, _), (6, _), (7, _)] (.cons rfl (.cons rfl (.cons rfl (.cons rfl (.cons rfl (.cons rfl .nil)))))) ?_
      refine VC.seq ?_
      refine VC.seq ?_
      refine VC.region ?_
      refine Ops.r (Run.mv rfl) rfl ?_
      refine Ops.r (Run.bin rfl rfl (Bin.lss _ 0)) rfl ?_
      refine Ops.nil ?_
      refine thenQ_n ?_
      refine VC.sub [(0, _), (2, _), (3, _), (4, _), (6, _), (7, _), (28, _)] (.cons rfl (.cons rfl (.cons rfl (.cons rfl (.cons rfl (.cons rfl (.cons rfl .nil))))))) ?_
      refine VC.meet (σ := Unit) (fun s => [(0, encStr q), (2, .pointer (some ⟨g2, 0, none⟩)), (3, .slice L (usesQ q).length (usesQ q).length), (4, .pointer (some ⟨g4, 0, none⟩)), (6, .int .i64 ((i : Nat) : Int)), (7, .int .i64 ((angTo (q.zip (usesQ q)) i : Nat) : Int))]) (fun s wz => w6 = wz) ?_ ?_
      · skip
        refine VC.condD rfl (fun hc2 => ?_) (fun hc2 => ?_)
        · skip
          rw [if_pos hc2, hzl] at hat
          refine VC.region ?_
          refine Ops.r (Run.mv rfl) rfl ?_
          refine Ops.r (Run.lenT rfl Tryz.underlying9) rfl ?_
          refine Ops.r (Run.asg rfl) rfl ?_
          refine Ops.nil ?_
          refine thenQ_n ⟨(), (.cons rfl (.cons rfl (.cons rfl (.cons rfl (.cons rfl (.cons (by rw [hat]; rfl) .nil)))))), ?_⟩
          rfl
        · skip
          obtain ⟨j2, _, hje, _⟩ := hres2.resolve_left (by omega)
          rw [if_neg hc2, hje, Int.toNat_natCast] at hat
          refine VC.skip ?_
          refine thenQ_n ⟨(), (.cons rfl (.cons rfl (.cons rfl (.cons rfl (.cons rfl (.cons (by rw [hat, ← hje]; rfl) .nil)))))), ?_⟩
          rfl
      · skip
        rintro _ _ rfl Γ hΓ
        generalize angTo (q.zip (usesQ q)) i = j at *
        refine thenQ_n (VC.sub _ hΓ ?_)
        refine VC.held (fun W => Frm [g4] w6 W) (by kernel_rfl) ?_
        have hS : Frm [g4] w6 w6.drew := (Frm.refl [g4] w6).drew
        have hL6 := hL
        have hLg := hL.ne_blk hb4 (by decide)
        have hb6 := hb4
        have hb4 := hb4.drawn (Drawn.drew _)
        have K6 := K
        have hb26 := hb2
        refine HOps.take 0 rfl (by kernel_rfl) (by kernel_rfl) (by kernel_rfl) hS (fun w0 hw0 => Run.mv rfl) trivial rfl rfl ?_
        refine HOps.take 1 rfl (by kernel_rfl) (by kernel_rfl) (by kernel_rfl) hS (fun w0 hw0 => Run.mv rfl) trivial rfl rfl ?_
        refine HOps.take 2 rfl (by kernel_rfl) (by kernel_rfl) (by kernel_rfl) hS (fun w0 hw0 => Run.sliceT 0 i rfl Tryz.underlying9 evB.none_ (evB.some_ rfl) (by omega) (by omega)) trivial rfl rfl ?_
        refine HOps.take 3 rfl (by kernel_rfl) (by kernel_rfl) (by kernel_rfl) hS (fun w0 hw0 => Run.mv rfl) trivial rfl rfl ?_
        refine HOps.take 4 rfl (by kernel_rfl) (by kernel_rfl) (by kernel_rfl) hS (fun w0 hw0 => Run.mv rfl) trivial rfl rfl ?_
        refine HOps.take 5 rfl (by kernel_rfl) (by kernel_rfl) (by kernel_rfl) hS (fun w0 hw0 => Run.sliceS 0 i rfl Tryz.underlying152 Tryz.sizeOf154 evB.none_ (evB.some_ rfl) (by omega) (by omega)) trivial rfl rfl ?_
        refine HOps.take 7 rfl (by kernel_rfl) (by kernel_rfl) (by kernel_rfl) hS (fun w0 hw0 => Run.mv rfl) trivial rfl rfl ?_
        refine HOps.take 8 rfl (by kernel_rfl) (by kernel_rfl) (by kernel_rfl) hS (fun w0 hw0 => Run.mv rfl) trivial rfl rfl ?_
        refine HOps.take 9 rfl (by kernel_rfl) (by kernel_rfl) (by kernel_rfl) hS (fun w0 hw0 => Run.bin rfl rfl (Bin.addZ _ 1 (by omega) (by omega))) trivial rfl rfl ?_
        refine HOps.take 10 rfl (by kernel_rfl) (by kernel_rfl) (by kernel_rfl) hS (fun w0 hw0 => Run.mv rfl) trivial rfl rfl ?_
        refine HOps.take 11 rfl (by kernel_rfl) (by kernel_rfl) (by kernel_rfl) hS (fun w0 hw0 => Run.sliceT (i + 1) j rfl Tryz.underlying9 (evB.some_ rfl) (evB.some_ rfl) (by omega) (by omega)) trivial rfl rfl ?_
        refine HOps.take 12 rfl (by kernel_rfl) (by kernel_rfl) (by kernel_rfl) hS (fun w0 hw0 => Run.mv rfl) trivial rfl rfl ?_
        refine HOps.take 13 rfl (by kernel_rfl) (by kernel_rfl) (by kernel_rfl) hS (fun w0 hw0 => Run.mv rfl) trivial rfl rfl ?_
        refine HOps.take 14 rfl (by kernel_rfl) (by kernel_rfl) (by kernel_rfl) hS (fun w0 hw0 => Run.bin rfl rfl (Bin.addZ _ 1 (by omega) (by omega))) trivial rfl rfl ?_
        refine HOps.take 15 rfl (by kernel_rfl) (by kernel_rfl) (by kernel_rfl) hS (fun w0 hw0 => Run.mv rfl) trivial rfl rfl ?_
        refine HOps.take 16 rfl (by kernel_rfl) (by kernel_rfl) (by kernel_rfl) hS (fun w0 hw0 => Run.sliceS (i + 1) j rfl Tryz.underlying152 Tryz.sizeOf154 (evB.some_ rfl) (evB.some_ rfl) (by omega) (by omega)) trivial rfl rfl ?_
        refine HOps.cl 6 rfl (by kernel_rfl) (Enters.fn (evs.cons rfl (evs.cons rfl evs.nil)) Tryz.call128) ((by have hrc := NI_cut (a := 0) (b := i) ((hL6.frm hS (fun x hx => by simp; rintro rfl; exact hLg hx)).rd) (by omega) (by omega) (Nat.le_refl _); have hh := says_spec ((q.drop (0)).take (i - (0))) (((usesQ q).drop (0)).take (i - (0))) (cutA L (usesQ q).length (0) 1) ((usesQ q).length - (0)) _ (by simp; omega) (by simp; omega) (by rw [show (((usesQ q).drop (0)).take (i - (0))).length = i - (0) by simp; omega]; exact hrc); rw [show (((usesQ q).drop (0)).take (i - (0))).length = i - (0) by simp; omega] at hh; exact hh)) trivial rfl rfl ?_
        rintro e w7 ⟨rfl, fw7⟩
        have hb4 := hb4.frm fw7 (by simp)
        have hS := hS.trans fw7 (by simp)
        refine ⟨_, rfl, hS, ?_⟩
        refine HOps.take 18 rfl (by kernel_rfl) (by kernel_rfl) (by kernel_rfl) hS (fun w0 hw0 => Run.fieldAddr rfl Tryz.underlying91 rfl Tryz.sizeOf9 (by decide)) trivial rfl rfl ?_
        refine HOps.cl 17 rfl (by kernel_rfl) (Enters.fn (evs.cons rfl (evs.cons rfl evs.nil)) Tryz.call128) ((by have hrc := NI_cut (a := i + 1) (b := j) ((hL6.frm hS (fun x hx => by simp; rintro rfl; exact hLg hx)).rd) (by omega) (by omega) (Nat.le_refl _); have hh := says_spec ((q.drop (i + 1)).take (j - (i + 1))) (((usesQ q).drop (i + 1)).take (j - (i + 1))) (cutA L (usesQ q).length (i + 1) 1) ((usesQ q).length - (i + 1)) _ (by simp; omega) (by simp; omega) (by rw [show (((usesQ q).drop (i + 1)).take (j - (i + 1))).length = j - (i + 1) by simp; omega]; exact hrc); rw [show (((usesQ q).drop (i + 1)).take (j - (i + 1))).length = j - (i + 1) by simp; omega] at hh; exact hh)) trivial rfl rfl ?_
        rintro e w8 ⟨rfl, fw8⟩
        have hb4 := hb4.frm fw8 (by simp)
        have hS := hS.trans fw8 (by simp)
        refine ⟨_, rfl, hS, ?_⟩
        refine HOps.st 19 rfl (by kernel_rfl) (Acts.store rfl rfl Tryz.sizeOf9 hb4 rfl rfl) trivial rfl ?_
        rintro w9 ⟨hb4n, f9, _⟩
        have hS := hS.trans f9 (fun y hy => .inl hy)
        refine ⟨hS, ?_⟩
        refine HOps.take 20 rfl (by kernel_rfl) (by kernel_rfl) (by kernel_rfl) hS (fun w0 hw0 => Run.asg rfl) trivial rfl rfl ?_
        refine HOps.done (by kernel_rfl) ?_
        refine thenQ_n ⟨(), (.cons rfl (.cons rfl (.cons (by rw [hal0, zip_cut]; rfl) .nil))), ?_⟩
        refine ⟨Frm.own K6 hS (fun y hy => by simp at hy; omega), ⟨_, hb26.frm hS (by simp; omega), rfl⟩, ?_⟩
        rw [hnm0, zip_take]
        rw [List.drop_zero, List.drop_zero, Nat.sub_zero] at hb4n
        exact hb4n
    · skip
      rw [if_pos (by omega)] at hnm0 hal0
      refine VC.skip ?_
      refine thenQ_n ⟨(), (.cons rfl (.cons rfl (.cons (by rw [hal0]; rfl) .nil))), ?_⟩
      exact ⟨K, ⟨_, hb2, rfl⟩, by rw [hnm0]; exact hb4⟩
  · skip
    rintro _ wz ⟨K, ⟨cs2, hb2, hcs2⟩, hb4⟩ Γ hΓ
    have hnl := nmA_len (q.zip (usesQ q))
    have hall := allA_len (q.zip (usesQ q))
    have hone : oneA q = ⟨nmA (q.zip (usesQ q)), (boxHost (allA (q.zip (usesQ q)))).1, (boxHost (allA (q.zip (usesQ q)))).2⟩ := rfl
    rw [hzl] at hnl hall
    generalize nmA (q.zip (usesQ q)) = nm at *
    generalize allA (q.zip (usesQ q)) = al at *
    refine thenQ_n (VC.sub _ hΓ ?_)
    refine VC.seq ?_
    refine VC.region ?_
    refine Ops.r (Run.mv rfl) rfl ?_
    refine Ops.r (Run.fieldAddr rfl Tryz.underlying91 rfl Tryz.sizeOf9 (by decide)) rfl ?_
    refine Ops.st (Acts.store rfl rfl Tryz.sizeOf9 hb4 rfl rfl) ?_
    rintro w10 ⟨hb4n, f10, _⟩
    have hb2 := hb2.frm f10 (by simp; omega)
    have hb4 : Blk w10 g4 91 #[encStr nm, encStr al, encStr []] := hb4n
    have K := Frm.own K f10 (fun y hy => by simp at hy; omega)
    refine Ops.nil ?_
    refine thenQ_n ?_
    refine VC.sub [(2, _), (4, _), (5, _)] (.cons rfl (.cons rfl (.cons rfl .nil))) ?_
    refine VC.seq ?_
    refine VC.seq ?_
    refine VC.region ?_
    refine Ops.r (Run.mv rfl) rfl ?_
    refine Ops.cl (Enters.fn (evs.cons rfl (evs.cons rfl evs.nil)) Tryz.call130) ((lastB_spec al _ (by omega))) rfl ?_
    rintro e _ ⟨rfl, k, rfl, hkk⟩
    refine ⟨_, rfl, ?_⟩
    refine Ops.r (Run.asg rfl) rfl ?_
    refine Ops.nil ?_
    refine thenQ_n ?_
    refine VC.sub [(2, _), (4, _), (5, _), (8, _)] (.cons rfl (.cons rfl (.cons rfl (.cons rfl .nil)))) ?_
    refine VC.seq ?_
    refine VC.region ?_
    refine Ops.r (Run.mv rfl) rfl ?_
    refine Ops.r (Run.bin rfl rfl (Bin.geq _ 0)) rfl ?_
    refine Ops.nil ?_
    refine thenQ_n ?_
    refine VC.sub [(2, _), (4, _), (5, _), (8, _), (55, _)] (.cons rfl (.cons rfl (.cons rfl (.cons rfl (.cons rfl .nil))))) ?_
    refine VC.meet (σ := Unit) (fun s => [(2, .pointer (some ⟨g2, 0, none⟩)), (4, .pointer (some ⟨g4, 0, none⟩))]) (fun s wz2 => Frm [] w wz2 ∧ Blk wz2 g2 91 cs2 ∧ Blk wz2 g4 91 #[encStr nm, encStr (boxHost al).1, encStr (boxHost al).2]) ?_ ?_
    · skip
      refine VC.condD rfl (fun hc3 => ?_) (fun hc3 => ?_)
      · skip
        obtain ⟨a, b, hka, hla⟩ := hkk.resolve_left (fun h => by omega)
        have hbh := bh_some hla
        have hab := (lastAt_some hla).1
        have habl : al.length = a.length + (b.length + 1) := by rw [hab]; simp
        rw [hka]
        refine VC.held (fun W => Frm [g4] w10 W) (by kernel_rfl) ?_
        have hS : Frm [g4] w10 w10.drew := (Frm.refl [g4] w10).drew
        have hb4 := hb4.drawn (Drawn.drew _)
        refine HOps.take 0 rfl (by kernel_rfl) (by kernel_rfl) (by kernel_rfl) hS (fun w0 hw0 => Run.mv rfl) trivial rfl rfl ?_
        refine HOps.take 1 rfl (by kernel_rfl) (by kernel_rfl) (by kernel_rfl) hS (fun w0 hw0 => Run.mv rfl) trivial rfl rfl ?_
        refine HOps.take 2 rfl (by kernel_rfl) (by kernel_rfl) (by kernel_rfl) hS (fun w0 hw0 => Run.sliceT 0 a.length rfl Tryz.underlying9 evB.none_ (evB.some_ rfl) (by omega) (by omega)) trivial rfl rfl ?_
        refine HOps.take 3 rfl (by kernel_rfl) (by kernel_rfl) (by kernel_rfl) hS (fun w0 hw0 => Run.mv rfl) trivial rfl rfl ?_
        refine HOps.take 4 rfl (by kernel_rfl) (by kernel_rfl) (by kernel_rfl) hS (fun w0 hw0 => Run.mv rfl) trivial rfl rfl ?_
        refine HOps.take 5 rfl (by kernel_rfl) (by kernel_rfl) (by kernel_rfl) hS (fun w0 hw0 => Run.bin rfl rfl (Bin.addZ _ 1 (by omega) (by omega))) trivial rfl rfl ?_
        refine HOps.take 6 rfl (by kernel_rfl) (by kernel_rfl) (by kernel_rfl) hS (fun w0 hw0 => Run.sliceT (a.length + 1) al.length rfl Tryz.underlying9 (evB.some_ rfl) evB.none_ (by omega) (by omega)) trivial rfl rfl ?_
        refine HOps.take 7 rfl (by kernel_rfl) (by kernel_rfl) (by kernel_rfl) hS (fun w0 hw0 => Run.fieldAddr rfl Tryz.underlying91 rfl Tryz.sizeOf9 (by decide)) trivial rfl rfl ?_
        refine HOps.st 8 rfl (by kernel_rfl) (Acts.store rfl rfl Tryz.sizeOf9 hb4 rfl rfl) trivial rfl ?_
        rintro w11 ⟨hb4, fw11, _⟩
        have hS := hS.trans fw11 (fun y hy => .inl hy)
        refine ⟨hS, ?_⟩
        refine HOps.take 9 rfl (by kernel_rfl) (by kernel_rfl) (by kernel_rfl) hS (fun w0 hw0 => Run.fieldAddr rfl Tryz.underlying91 rfl Tryz.sizeOf9 (by decide)) trivial rfl rfl ?_
        refine HOps.st 10 rfl (by kernel_rfl) (Acts.store rfl rfl Tryz.sizeOf9 hb4 rfl rfl) trivial rfl ?_
        rintro w12 ⟨hb4, fw12, _⟩
        have hS := hS.trans fw12 (fun y hy => .inl hy)
        refine ⟨hS, ?_⟩
        refine HOps.done (by kernel_rfl) ?_
        refine thenQ_n ⟨(), (.cons rfl (.cons rfl .nil)), ?_⟩
        refine ⟨Frm.own K hS (fun y hy => by simp at hy; omega), hb2.frm hS (by simp; omega), ?_⟩
        have e1 : (al.drop 0).take (a.length - 0) = a := by rw [hab]; simp
        have e2 : (al.drop (a.length + 1)).take (al.length - (a.length + 1)) = b := by rw [List.take_of_length_le (by simp), hab]; simp
        rw [e1, e2] at hb4
        rw [hbh]
        exact hb4
      · skip
        have hbh := bh_none (hkk.resolve_right (fun ⟨a, b, h, _⟩ => by omega)).2
        refine VC.skip ?_
        refine thenQ_n ⟨(), (.cons rfl (.cons rfl .nil)), ?_⟩
        rw [hbh]
        exact ⟨K, hb2, hb4⟩
    · skip
      rintro _ wz2 ⟨K, hb2, hb4⟩ Γ hΓ
      refine thenQ_n (VC.sub _ hΓ ?_)
      refine VC.seq ?_
      refine VC.region ?_
      refine Ops.r (Run.loadA rfl Tryz.isAgg91 Tryz.sizeOf91 (fun j v hj => hb4.cells j v hj) (by first | rfl | (simp; done))) rfl ?_
      refine Ops.st (Acts.storeA rfl rfl Tryz.sizeOf91 hb2 (by rw [hcs2]; rfl) (AC1_one ⟨nm, (boxHost al).1, (boxHost al).2⟩)) ?_
      rintro w13 ⟨hb2n, f13, _⟩
      have K := Frm.own K f13 (fun y hy => by simp at hy; omega)
      refine Ops.nil ?_
      refine thenQ_n ?_
      refine VC.sub [(2, _)] (.cons rfl .nil) ?_
      refine VC.ret ?_
      refine endR ?_
      refine res_cellA rfl Tryz.isAgg91 Tryz.sizeOf91 (fun j v hj => hb2n.cells j v hj) (by first | rfl | (simp; done)) ?_
      refine res_nil ?_
      rw [hone]
      exact ⟨rfl, K⟩

end Go.Proofs.YtenbjndldenkfaaGreatDoor

namespace Go.Proofs.YtenbjndldenkfaaGreatDoor
open Go.RowKit Go.Sort

set_option maxRecDepth 100000 in
theorem eqA3 (w : World) (a b c : Tx) : (Op.eqFields 9999 #[encStr a, encStr b, encStr c] #[encStr [], encStr [], encStr []] (Tryz.prog.fieldsOf 91).toList).run Tryz.prog w = .ok (decide (a = []) && (decide (b = []) && (decide (c = []) && true))) w := by
  obtain ⟨f0, f1, f2, e, n0, n1, n2, o0, o1, o2, t0, t1, t2⟩ : ∃ f0 f1 f2 : Field, (Tryz.prog.fieldsOf 91).toList = [f0, f1, f2] ∧ f0.name = "Name" ∧ f1.name = "Box" ∧ f2.name = "Host" ∧ f0.offset = 0 ∧ f1.offset = 1 ∧ f2.offset = 2 ∧ f0.type = 9 ∧ f1.type = 9 ∧ f2.type = 9 := ⟨_, _, _, rfl, by kernel_rfl, by kernel_rfl, by kernel_rfl, by kernel_rfl, by kernel_rfl, by kernel_rfl, by kernel_rfl, by kernel_rfl, by kernel_rfl⟩
  rw [e]
  exact eqF_str (P := Tryz.prog) (w := w) (d := 9998) (a := a) (b := []) (by rw [n0]; decide) (by rw [t0]; exact Tryz.isAgg9) (by rw [t0]; exact Tryz.underlying9) (by rw [o0]; rfl) (by rw [o0]; rfl)
    (eqF_str (a := b) (b := []) (by rw [n1]; decide) (by rw [t1]; exact Tryz.isAgg9) (by rw [t1]; exact Tryz.underlying9) (by rw [o1]; rfl) (by rw [o1]; rfl)
      (eqF_str (a := c) (b := []) (by rw [n2]; decide) (by rw [t2]; exact Tryz.isAgg9) (by rw [t2]; exact Tryz.underlying9) (by rw [o2]; rfl) (by rw [o2]; rfl) eqF_nil))
theorem SB_atA {w : World} {A : Option Addr} {l : List Tx} {k : Nat} (h : Rd w 1 A l.length (SB l)) (hk : k < l.length) : ∃ ad, A = some ad ∧ w.cell? (ad.add (k * 1)) = some (encStr l[k]) := by
  rw [Nat.mul_one]
  exact SB_at h hk
def nilA : Adr := ⟨[], [], []⟩
theorem listA_snoc (ps : List Tx) (p : Tx) : ((ps ++ [p]).map oneA).filter (fun a => decide (a ≠ nilA)) = (ps.map oneA).filter (fun a => decide (a ≠ nilA)) ++ (if oneA p = nilA then [] else [oneA p]) := by
  rw [List.map_append, List.filter_append]
  congr 1
  by_cases h : oneA p = nilA
  · rw [if_pos h]; simp [h]
  · rw [if_neg h]; simp [h]

set_option maxRecDepth 100000 in
set_option maxHeartbeats 800000 in
theorem alist_spec (q : Tx) (w : World) (hq : q.length ≤ 400000) :
    Calls Tryz.prog 59 #[encStr q] w fun e w' => Frm [] w w' ∧ ∃ A c, e = .returned (.slice A (listA q).length c) ∧ Own w' 91 3 A (listA q).length c (AC (listA q)) ∧ ∀ x ∈ ob A, w.heap.size ≤ x := by
  have K := Frm.refl [] w
  refine VC.calls (nt := 25) (res := #[.tmp 2]) Tryz.func59 rfl Tryz.ntmps59 Tryz.results59 rfl ?_
  refine VC.seq ?_
  refine VC.region ?_
  refine Ops.r (Run.asg rfl) rfl ?_
  refine Ops.nil ?_
  refine thenQ_n ?_
  refine VC.sub [(0, _)] (.cons rfl .nil) ?_
  refine VC.seq ?_
  refine VC.region ?_
  refine Ops.r (Run.asg rfl) rfl ?_
  refine Ops.nil ?_
  refine thenQ_n ?_
  refine VC.seq ?_
  refine VC.seq ?_
  refine VC.region ?_
  refine Ops.r (Run.mv rfl) rfl ?_
  refine Ops.cl (Enters.fn (evs.cons rfl evs.nil) Tryz.call91) ((apieces_spec q _ (by omega))) rfl ?_
  rintro e w1 ⟨f1, P, pc, rfl, hP, hubP⟩
  refine ⟨_, rfl, ?_⟩
  have K := K.trans f1 (by simp)
  have hpl := pcsA_count q (q.zip (usesQ q)) 0 0 false []
  rw [zip_len, show pcsA q (q.zip (usesQ q)) 0 0 false [] = piecesA q from rfl] at hpl
  simp only [List.length_nil, Nat.zero_add] at hpl
  have hpe : ∀ x ∈ piecesA q, x.length ≤ q.length := pcsA_mem q _ 0 0 false [] (by simp)
  refine Ops.r (Run.lenS rfl Tryz.underlying36) rfl ?_
  refine Ops.r (v := .int .i64 ((0 : Nat) : Int)) (Run.mv rfl) rfl ?_
  refine Ops.nil ?_
  refine thenQ_n ?_
  refine VC.sub [(3, _), (8, _), (9, _), (10, _)] (.cons rfl (.cons rfl (.cons rfl (.cons rfl .nil)))) ?_
  refine VC.block ?_
  refine VC.loop (σ := Nat × List Adr × Option Addr × Nat) (fun s => [(3, .slice s.2.2.1 s.2.1.length s.2.2.2), (8, .slice P (piecesA q).length pc), (9, .int .i64 (((piecesA q).length : Nat) : Int)), (10, .int .i64 ((s.1 : Nat) : Int))]) (fun s wr => s.1 ≤ (piecesA q).length ∧ s.2.1 = (((piecesA q).take s.1).map oneA).filter (fun a => decide (a ≠ nilA)) ∧ Frm [] w wr ∧ Own wr 9 1 P (piecesA q).length pc (SB (piecesA q)) ∧ Own wr 91 3 s.2.2.1 s.2.1.length s.2.2.2 (AC s.2.1) ∧ s.2.1.length ≤ s.1 ∧ ∀ x ∈ ob s.2.2.1, w.heap.size ≤ x) (fun s => (piecesA q).length - s.1) (0, [], none, 0) (.cons rfl (.cons rfl (.cons rfl (.cons rfl .nil)))) ⟨Nat.zero_le _, by simp, K, hP, Own.nil _ _ _, Nat.le_refl _, by simp [ob]⟩ ?_
  rintro ⟨k, o, A, c⟩ wr ⟨hk, ho, K, hP, hO, hol, hub⟩
  dsimp only at hk ho hO hol hub ⊢
  refine VC.seq ?_
  refine VC.region ?_
  refine Ops.r (Run.bin rfl rfl (Bin.lssN _ _)) rfl ?_
  refine Ops.nil ?_
  refine thenQ_n ?_
  refine VC.seq ?_
  refine VC.condD rfl (fun hc1 => ?_) (fun hc1 => ?_)
  · skip
    obtain ⟨adP, hPe, hcell⟩ := SB_atA hP.rd hc1
    have hts := take_snoc hc1
    have hxl := hpe _ (List.getElem_mem hc1)
    have hsn := listA_snoc ((piecesA q).take k) (piecesA q)[k]
    rw [← hts, ← ho] at hsn
    generalize (piecesA q)[k] = x at *
    have hol2 := oneA_len x
    refine VC.skip ?_
    refine thenQ_n ?_
    refine VC.sub [(3, _), (8, _), (9, _), (10, _)] (.cons rfl (.cons rfl (.cons rfl (.cons rfl .nil)))) ?_
    refine VC.seq ?_
    refine VC.block ?_
    refine VC.seq ?_
    refine VC.region ?_
    refine Ops.r (Run.indexS k (by rw [← hPe]; rfl) rfl Tryz.underlying36 Tryz.sizeOf9 hc1) rfl ?_
    refine Ops.r (Run.load rfl Tryz.isAgg9 hcell) rfl ?_
    refine Ops.r (Run.asg rfl) rfl ?_
    refine Ops.nil ?_
    refine thenQ_n ?_
    refine VC.sub [(3, _), (5, _), (8, _), (9, _), (10, _)] (.cons rfl (.cons rfl (.cons rfl (.cons rfl (.cons rfl .nil))))) ?_
    refine VC.seq ?_
    refine VC.region ?_
    refine Ops.r (Run.mv rfl) rfl ?_
    refine Ops.cl (Enters.fn (evs.cons rfl evs.nil) Tryz.call92) ((one_spec x _ (by omega))) rfl ?_
    rintro e w2 ⟨rfl, f2⟩
    refine ⟨_, rfl, ?_⟩
    have K := K.trans f2 (by simp)
    have hP := hP.frm f2 (by simp)
    have hO := hO.frm f2 (by simp)
    generalize oneA x = a at *
    refine Ops.m (Does.alloc zero91) rfl ?_
    rintro _ w3 ⟨rfl, hF3⟩
    have hb6 := hF3.blk
    have sK := K.size
    have hO6 := hO.lt
    have hP6 := hP.lt
    have K := K.trans hF3.frm (by simp)
    have hP := hP.frm hF3.frm (by simp)
    have hO := hO.frm hF3.frm (by simp)
    generalize hg6 : w2.heap.size = g6 at hb6 sK hO6 hP6 ⊢
    refine Ops.st (Acts.storeA rfl rfl Tryz.sizeOf91 hb6 rfl (AC1_one a)) ?_
    rintro w4 ⟨hb6n, f4, _⟩
    have hb6 : Blk w4 g6 91 (AC1 a).toArray := hb6n
    have hP := hP.frm f4 (fun y hy => by have := hP6 y hy; simp; omega)
    have hO := hO.frm f4 (fun y hy => by have := hO6 y hy; simp; omega)
    have K := Frm.own K f4 (fun y hy => by simp at hy; omega)
    refine Ops.nil ?_
    refine thenQ_n ?_
    refine VC.sub [(3, _), (6, _), (8, _), (9, _), (10, _)] (.cons rfl (.cons rfl (.cons rfl (.cons rfl (.cons rfl .nil))))) ?_
    refine VC.seq ?_
    refine VC.region ?_
    refine Ops.r (Run.loadA rfl Tryz.isAgg91 Tryz.sizeOf91 (fun j v hj => hb6.cells j v hj) (by first | rfl | (simp; done))) rfl ?_
    refine Ops.r (Run.build evs.nil zero91 (places91).choose_spec.1 (places91).choose_spec.2 (cells := #[encStr [], encStr [], encStr []]) rfl) rfl ?_
    refine Ops.r (Run.neqAgg rfl rfl (by kernel_rfl) (by kernel_rfl) (by kernel_rfl) ((eqA3 _ a.name a.box a.host))) rfl ?_
    refine Ops.nil ?_
    refine thenQ_n ?_
    refine VC.sub [(3, _), (6, _), (8, _), (9, _), (10, _), (18, _)] (.cons rfl (.cons rfl (.cons rfl (.cons rfl (.cons rfl (.cons rfl .nil)))))) ?_
    refine VC.condB rfl (fun hc2 => ?_) (fun hc2 => ?_)
    · skip
      have hne : a ≠ nilA := by rintro rfl; exact absurd hc2 (by decide)
      rw [if_neg hne] at hsn
      refine VC.region ?_
      refine Ops.r (Run.mv rfl) rfl ?_
      refine Ops.r (Run.loadA rfl Tryz.isAgg91 Tryz.sizeOf91 (fun j v hj => hb6.cells j v hj) (by first | rfl | (simp; done))) rfl ?_
      refine Ops.m (Does.buildS1 rfl Tryz.underlying88 Tryz.sizeOf91 zero91 (by decide) (by decide) rfl rfl) rfl ?_
      rintro _ w5 ⟨rfl, hF5⟩
      have hr5 := hrdA (x := a) hF5
      have K := K.trans hF5.frm (by simp)
      have hP := hP.frm hF5.frm (by simp)
      have hO := hO.frm hF5.frm (by simp)
      refine Ops.m (Does.app rfl rfl Tryz.underlying88 (info91) rfl (by decide) hO hr5 (AC_one _) (by omega) (by omega)) rfl ?_
      rintro _ w6 ⟨A6, c6, rfl, hO6, f6, hob6⟩
      have sK := K.size
      have hP := hP.frm f6 (fun y hy => hP.ne_own hO (by decide) y hy)
      have K := Frm.own K f6 hub
      rw [← AC_append] at hO6
      have hub6 : ∀ x ∈ ob A6, w.heap.size ≤ x := up_app hub hob6 sK
      refine Ops.r (Run.asg rfl) rfl ?_
      refine Ops.nil ?_
      refine blockQ_n (thenQ_n ?_)
      refine VC.sub [(3, _), (8, _), (9, _), (10, _)] (.cons rfl (.cons rfl (.cons rfl (.cons rfl .nil)))) ?_
      refine VC.region ?_
      refine Ops.r (Run.bin rfl rfl (Bin.add_i64 _ 1 (by omega))) rfl ?_
      refine Ops.r (Run.mv rfl) rfl ?_
      refine Ops.nil ?_
      refine thenQ_n ⟨(k + 1, o ++ [a], A6, c6), (.cons (by rw [List.length_append]; rfl) (.cons rfl (.cons rfl (.cons rfl .nil)))), ?_, ?_⟩
      · skip
        exact ⟨hc1, hsn.symm, K, hP, by rw [List.length_append]; exact hO6, by simp; omega, hub6⟩
      · skip
        first | omega | (dsimp only; omega)
    · skip
      have heq : a = nilA := by
        obtain ⟨n, b, c2⟩ := a
        simp only [Bool.not_eq_true, Bool.not_eq_false', Bool.and_eq_true, decide_eq_true_eq, and_true] at hc2
        obtain ⟨h1, h2, h3⟩ := hc2
        have h1 : n = [] := h1
        have h2 : b = [] := h2
        have h3 : c2 = [] := h3
        rw [h1, h2, h3]
        rfl
      rw [if_pos heq, List.append_nil] at hsn
      refine VC.skip ?_
      refine blockQ_n (thenQ_n ?_)
      refine VC.sub [(3, _), (8, _), (9, _), (10, _)] (.cons rfl (.cons rfl (.cons rfl (.cons rfl .nil)))) ?_
      refine VC.region ?_
      refine Ops.r (Run.bin rfl rfl (Bin.add_i64 _ 1 (by omega))) rfl ?_
      refine Ops.r (Run.mv rfl) rfl ?_
      refine Ops.nil ?_
      refine thenQ_n ⟨(k + 1, o, A, c), (.cons rfl (.cons rfl (.cons rfl (.cons rfl .nil)))), ?_, ?_⟩
      · skip
        exact ⟨hc1, hsn.symm, K, hP, hO, by dsimp only; omega, hub⟩
      · skip
        first | omega | (dsimp only; omega)
  · skip
    have hkl : k = (piecesA q).length := by omega
    subst hkl
    rw [List.take_length] at ho
    have ho : o = listA q := ho
    refine VC.exit ?_
    refine thenQ_x (thenQ_x (blockQ_x ?_))
    refine thenQ_n ?_
    refine VC.sub [(3, _)] (.cons rfl .nil) ?_
    refine VC.seq ?_
    refine VC.region ?_
    refine Ops.r (Run.mv rfl) rfl ?_
    refine Ops.r (Run.asg rfl) rfl ?_
    refine Ops.nil ?_
    refine thenQ_n ?_
    refine VC.sub [(2, _)] (.cons rfl .nil) ?_
    refine VC.ret ?_
    refine end1 rfl ?_
    rw [← ho]
    exact ⟨K, A, c, rfl, hO, hub⟩

end Go.Proofs.YtenbjndldenkfaaGreatDoor

namespace Go.Proofs.YtenbjndldenkfaaGreatDoor
open Go.RowKit

/-- The n-th part within another one; -1: there is none. -/
def kidL (i : Int) : List Prt → Nat → Int → Int
  | [], _, _ => -1
  | p :: r, k, n => if p.up = i then (if n = 1 then (k : Int) else kidL i r (k + 1) (n - 1)) else kidL i r (k + 1) n
def kidQ (l : List Prt) (i n : Int) : Int := kidL i l 0 n
theorem kidL_res (i : Int) : ∀ (l : List Prt) (k : Nat) (n : Int), kidL i l k n = -1 ∨ ∃ (j : Nat) (p : Prt), l[j]? = some p ∧ kidL i l k n = ((k + j : Nat) : Int) ∧ p.up = i
  | [], _, _ => .inl rfl
  | p :: r, k, n => by
    unfold kidL
    split
    · rename_i hp
      split
      · exact .inr ⟨0, p, rfl, by simp, hp⟩
      · rcases kidL_res i r (k + 1) (n - 1) with h | ⟨j, q, h1, h2, h3⟩
        · exact .inl h
        · exact .inr ⟨j + 1, q, by simpa using h1, by rw [h2]; congr 1; omega, h3⟩
    · rcases kidL_res i r (k + 1) n with h | ⟨j, q, h1, h2, h3⟩
      · exact .inl h
      · exact .inr ⟨j + 1, q, by simpa using h1, by rw [h2]; congr 1; omega, h3⟩
theorem kidQ_res (l : List Prt) (i n : Int) : kidQ l i n = -1 ∨ ∃ (j : Nat) (p : Prt), l[j]? = some p ∧ kidQ l i n = (j : Int) ∧ p.up = i := by
  rcases kidL_res i l 0 n with h | ⟨j, p, h1, h2, h3⟩
  · exact .inl h
  · exact .inr ⟨j, p, h1, by rw [kidQ, h2]; congr 1; omega, h3⟩
theorem kidL_next {i : Int} {l : List Prt} {k : Nat} {n : Int} (h : k < l.length) : kidL i (l.drop k) k n = if l[k].up = i then (if n = 1 then (k : Int) else kidL i (l.drop (k + 1)) (k + 1) (n - 1)) else kidL i (l.drop (k + 1)) (k + 1) n := by
  rw [List.drop_eq_getElem_cons h, kidL]
/-! ### numbers that wrap -/
theorem wrap_dec (m : Int) : IntKind.i64.wrap (IntKind.i64.wrap m - 1) = IntKind.i64.wrap (m - 1) := by
  simp only [IntKind.wrap, IntKind.bits, IntKind.signed, Bool.true_and]
  split <;> split <;> split <;> simp_all <;> omega
theorem wrap_zero {m : Int} (h1 : -9223372036854785808 ≤ m) (h2 : m ≤ 9223372036854775807) : IntKind.i64.wrap m = 0 ↔ m = 0 := by
  simp only [IntKind.wrap, IntKind.bits, IntKind.signed, Bool.true_and]
  split <;> simp_all <;> omega
end Go.Proofs.YtenbjndldenkfaaGreatDoor

namespace Go.Proofs.YtenbjndldenkfaaGreatDoor
open Go.RowKit

def PlainT (s : Tx) : Prop := (∀ c ∈ s, 32 ≤ c.toNat ∧ c.toNat ≤ 126) ∧ s.length ≤ 200
instance (s : Tx) : Decidable (PlainT s) := by unfold PlainT; infer_instance
def escQ : Tx → Tx
  | [] => []
  | c :: r => (if c = 34 ∨ c = 92 then [92, c] else [c]) ++ escQ r
def strQ (s : Tx) : Tx := if PlainT s then 34 :: (escQ s ++ [34]) else 123 :: (Lib.decDigits s.length ++ ([125, 13, 10] ++ s))
def nilT : Tx := [78, 73, 76]
def nstrQ (s : Tx) : Tx := if s = [] then nilT else strQ s
def jnQ : List Tx → Tx
  | [] => []
  | [x] => x
  | x :: r => x ++ 32 :: jnQ r
def listQ (l : List Tx) : Tx := 40 :: (jnQ l ++ [41])
theorem decL (n : Nat) : (Lib.decDigits n).length ≤ n + 1 := by
  induction n using Nat.strongRecOn with
  | ind n ih =>
    unfold Lib.decDigits
    split
    · simp
    · rw [List.length_append]
      have := ih (n / 10) (by omega)
      simp
      omega
theorem escQ_len : ∀ s : Tx, (escQ s).length ≤ 2 * s.length
  | [] => Nat.le_refl _
  | c :: r => by
    have := escQ_len r
    unfold escQ
    rw [List.length_append, List.length_cons]
    split
    · simp only [List.length_cons, List.length_nil]; omega
    · simp only [List.length_cons, List.length_nil]; omega
theorem escQ_app : ∀ a b : Tx, escQ (a ++ b) = escQ a ++ escQ b
  | [], _ => rfl
  | c :: a, b => by
    show _ ++ escQ (a ++ b) = _
    rw [escQ_app a b, ← List.append_assoc]
    rfl
theorem strQ_len (s : Tx) : (strQ s).length ≤ 2 * s.length + 6 := by
  have h1 := escQ_len s
  have h2 := decL s.length
  unfold strQ
  split
  · simp; omega
  · simp; omega
theorem nstrQ_len (s : Tx) : (nstrQ s).length ≤ 2 * s.length + 6 := by
  unfold nstrQ
  split
  · simp [nilT]
  · exact strQ_len s
theorem jnQ_cons (x y : Tx) (r : List Tx) : jnQ (x :: y :: r) = x ++ 32 :: jnQ (y :: r) := rfl
theorem jnQ_len : ∀ l : List Tx, (jnQ l).length ≤ l.flatten.length + l.length
  | [] => Nat.le_refl _
  | [x] => by simp [jnQ]
  | x :: y :: r => by
    have := jnQ_len (y :: r)
    rw [jnQ_cons, List.length_append, List.length_cons, List.flatten_cons, List.length_append]
    simp only [List.length_cons] at this ⊢
    omega
theorem listQ_len (l : List Tx) : (listQ l).length ≤ l.flatten.length + l.length + 2 := by
  have := jnQ_len l
  show (40 :: (jnQ l ++ [41])).length ≤ _
  simp only [List.length_cons, List.length_append, List.length_nil]
  omega

/-! ### each ( has its ) -/
def skipQ (s : Tx) : Tx := match s with
  | [] => []
  | c :: r => if c = 34 then r else if c = 92 then (match r with
    | [] => []
    | _ :: r2 => skipQ r2) else skipQ r
termination_by s.length
theorem skipQ_le : ∀ (n : Nat) (s : Tx), s.length ≤ n → (skipQ s).length ≤ s.length
  | _, [], _ => by unfold skipQ; exact Nat.le_refl _
  | 0, c :: r, h => by simp at h
  | n + 1, c :: r, h => by
    have h1 := skipQ_le n r (by simpa using h)
    unfold skipQ
    split
    · simp
    · split
      · cases r with
        | nil => simp
        | cons x r2 =>
          have := skipQ_le n r2 (by simp at h; omega)
          simp only [List.length_cons]
          omega
      · simp only [List.length_cons]; omega
def numS : Nat → Tx → Nat × Tx
  | n, [] => (n, [])
  | n, c :: r => if 48 ≤ c.toNat ∧ c.toNat ≤ 57 ∧ n < 1000000 then numS (10 * n + c.toNat - 48) r else (n, c :: r)
theorem numS_le : ∀ (s : Tx) (n : Nat), (numS n s).2.length ≤ s.length
  | [], _ => Nat.le_refl _
  | c :: r, n => by
    unfold numS
    split
    · have := numS_le r (10 * n + c.toNat - 48); simp only [List.length_cons]; omega
    · exact Nat.le_refl _
def litQ (s : Tx) : Tx := (numS 0 s).2.drop (3 + (numS 0 s).1)
theorem litQ_le (s : Tx) : (litQ s).length ≤ s.length := by
  have := numS_le s 0
  unfold litQ
  rw [List.length_drop]
  omega
/-- Is each ( closed by its ), outside of strings? -/
def evenL (s : Tx) (d : Nat) : Bool := match s with
  | [] => false
  | c :: r =>
    if c = 40 then evenL r (d + 1)
    else if c = 41 then (if d ≤ 1 then decide (d = 1 ∧ r = []) else evenL r (d - 1))
    else if c = 34 then evenL (skipQ r) d
    else if c = 123 then evenL (litQ r) d
    else evenL r d
termination_by s.length
decreasing_by
  · simp
  · simp
  · have := skipQ_le r.length r (Nat.le_refl _); simp only [List.length_cons]; omega
  · have := litQ_le r; simp only [List.length_cons]; omega
  · simp
theorem even_on {c : UInt8} (h1 : c ≠ 40) (h2 : c ≠ 41) (h3 : c ≠ 34) (h4 : c ≠ 123) (r : Tx) (d : Nat) : evenL (c :: r) d = evenL r d := by
  conv => lhs; unfold evenL
  rw [if_neg h1, if_neg h2, if_neg h3, if_neg h4]
/-- A text that can stand within (): it closes what it opens. -/
def Shut (s : Tx) : Prop := ∀ (r : Tx) (d : Nat), 1 ≤ d → evenL (s ++ r) d = evenL r d
theorem Shut.nil : Shut [] := fun _ _ _ => rfl
theorem Shut.app {a b : Tx} (ha : Shut a) (hb : Shut b) : Shut (a ++ b) := fun r d h => by rw [List.append_assoc, ha _ d h, hb r d h]
theorem Shut.cons {c : UInt8} {s : Tx} (h1 : c ≠ 40) (h2 : c ≠ 41) (h3 : c ≠ 34) (h4 : c ≠ 123) (hs : Shut s) : Shut (c :: s) := fun r d h => by
  show evenL (c :: (s ++ r)) d = _
  rw [even_on h1 h2 h3 h4, hs r d h]
/-! ### envelopes -/
def fieldS (q name non : Tx) : Tx := if (findH q name).2 = true then strQ (findH q name).1 else non
def adrS (a : Adr) : Tx := listQ [nstrQ a.name, nilT, nstrQ a.box, nstrQ a.host]
def peopleS (q name non : Tx) : Tx := if listA (findH q name).1 = [] then non else 40 :: (((listA (findH q name).1).map adrS).flatten ++ [41])
def datT : Tx := [68, 97, 116, 101]
def subjT : Tx := [83, 117, 98, 106, 101, 99, 116]
def fromT : Tx := [70, 114, 111, 109]
def sendT : Tx := [83, 101, 110, 100, 101, 114]
def replT : Tx := [82, 101, 112, 108, 121, 45, 84, 111]
def toT : Tx := [84, 111]
def ccT : Tx := [67, 99]
def bccT : Tx := [66, 99, 99]
def inrT : Tx := [73, 110, 45, 82, 101, 112, 108, 121, 45, 84, 111]
def midT : Tx := [77, 101, 115, 115, 97, 103, 101, 45, 73, 68]
def envS (q : Tx) : Tx := listQ [fieldS q datT nilT, fieldS q subjT nilT, peopleS q fromT nilT, peopleS q sendT (peopleS q fromT nilT), peopleS q replT (peopleS q fromT nilT), peopleS q toT nilT, peopleS q ccT nilT, peopleS q bccT nilT, fieldS q inrT nilT, fieldS q midT nilT]
theorem findH_len (q name : Tx) : (findH q name).1.length ≤ q.length := findF_len q name _
theorem fieldS_len (q name non : Tx) (M : Nat) (h : 2 * q.length + 6 ≤ M) (hn : non.length ≤ M) : (fieldS q name non).length ≤ M := by
  unfold fieldS
  split
  · have := strQ_len (findH q name).1
    have := findH_len q name
    omega
  · exact hn
theorem adrS_len {t : Tx} {a : Adr} (h : a ∈ listA t) : (adrS a).length ≤ 12 * t.length + 27 := by
  obtain ⟨h1, h2, h3⟩ := listA_mem a h
  have g1 := nstrQ_len a.name
  have g2 := nstrQ_len a.box
  have g3 := nstrQ_len a.host
  have := listQ_len [nstrQ a.name, nilT, nstrQ a.box, nstrQ a.host]
  simp only [List.flatten_cons, List.length_append, List.flatten_nil, List.length_nil, List.length_cons] at this
  have : nilT.length = 3 := rfl
  unfold adrS
  omega
theorem flat_bound {α : Type} (f : α → Tx) (M : Nat) : ∀ l : List α, (∀ a ∈ l, (f a).length ≤ M) → (l.map f).flatten.length ≤ l.length * M
  | [], _ => by simp
  | a :: r, h => by
    have := flat_bound f M r fun x hx => h x (by simp [hx])
    have := h a (by simp)
    rw [List.map_cons, List.flatten_cons, List.length_append, List.length_cons, Nat.add_mul]
    omega
theorem people_flat {t : Tx} (h : t.length ≤ 2000) : ((listA t).map adrS).flatten.length ≤ 50000000 := by
  have h1 := flat_bound adrS 24027 (listA t) fun a ha => by have := adrS_len ha; omega
  have h2 := listA_count t
  have h3 : (listA t).length * 24027 ≤ 2001 * 24027 := Nat.mul_le_mul_right _ (by omega)
  omega
theorem peopleS_len {q name non : Tx} (h : q.length ≤ 2000) (hn : non.length ≤ 50000002) : (peopleS q name non).length ≤ 50000002 := by
  have h1 := people_flat (t := (findH q name).1) (by have := findH_len q name; omega)
  unfold peopleS
  split
  · exact hn
  · simp only [List.length_cons, List.length_append, List.length_nil]; omega
theorem envS_len {q : Tx} (h : q.length ≤ 2000) : (envS q).length ≤ 400000000 := by
  have hn : nilT.length = 3 := rfl
  have hf := fun n => fieldS_len q n nilT 4006 (by omega) (by omega)
  have hp := fun n => peopleS_len (q := q) (name := n) (non := nilT) h (by omega)
  have hp2 := fun n => peopleS_len (q := q) (name := n) (non := peopleS q fromT nilT) h (hp fromT)
  have := listQ_len [fieldS q datT nilT, fieldS q subjT nilT, peopleS q fromT nilT, peopleS q sendT (peopleS q fromT nilT), peopleS q replT (peopleS q fromT nilT), peopleS q toT nilT, peopleS q ccT nilT, peopleS q bccT nilT, fieldS q inrT nilT, fieldS q midT nilT]
  simp only [List.flatten_cons, List.length_append, List.flatten_nil, List.length_nil, List.length_cons] at this
  have h1 := hf datT; have h2 := hf subjT; have h3 := hf inrT; have h4 := hf midT
  have p1 := hp fromT; have p2 := hp toT; have p3 := hp ccT; have p4 := hp bccT; have p5 := hp2 sendT; have p6 := hp2 replT
  unfold envS
  omega
end Go.Proofs.YtenbjndldenkfaaGreatDoor

namespace Go.Proofs.YtenbjndldenkfaaGreatDoor
open Go.RowKit Go.Sort

/-- The table of powers of ten is as the library laid it. -/
def Tab (w : World) : Prop := Lib.TabIs Tryz.prog w "internal/strconv.uint64pow10" .u64 Lib.pow10Tab
theorem Tab.frm {w w' : World} (h : Tab w) (hf : Frm [] w w') : Tab w' := by
  cases hg : Tryz.prog.globalNamed "internal/strconv.uint64pow10" with
  | none =>
    unfold Tab Lib.TabIs World.var? at h
    rw [hg] at h
    cases h
  | some g =>
    unfold Tab Lib.TabIs World.var? at h ⊢
    rw [hg] at h ⊢
    simp only [Option.bind_some] at h ⊢
    cases hb : w.heap[g]? with
    | none => rw [hb] at h; cases h
    | some o => rw [(hf.block g (Array.getElem?_eq_some_iff.1 hb).1 (by simp)).trans hb]; rw [hb] at h; exact h
theorem frm_grown (w : World) (k : Nat) (os : Array Obj) : Frm [] w (grow (w.drewN k) os) := by
  refine ⟨rfl, rfl, rfl, by simp, fun i hi _ => ?_⟩
  rw [heap_grow_old _ _ (by simpa using hi)]
  rfl

theorem itoaN_spec (n : Nat) (w : World) (ht : Tab w) (h1 : n ≤ 9223372036854775807) : Calls Tryz.prog 26 #[.int .i64 ((n : Nat) : Int)] w fun e w' => e = .returned (encStr (Lib.decDigits n)) ∧ Frm [] w w' := by
  refine (Tryz.strconv_Itoa ((n : Nat) : Int) (by omega) (by omega) w ht).mono fun e w' ⟨he, k, os, hw⟩ => ⟨?_, by rw [hw]; exact frm_grown _ _ _⟩
  rw [he]
  have e : Lib.itoa ((n : Nat) : Int) = Lib.decDigits n := by unfold Lib.itoa; rw [if_neg (by omega), Int.toNat_natCast]
  rw [e]
theorem join_jn : ∀ l : List Tx, Lib.join l [32] = jnQ l
  | [] => rfl
  | [x] => Lib.join_one x [32]
  | x :: y :: r => by
    rw [Lib.join_cons, jnQ_cons, ← join_jn (y :: r), Lib.join_cons]
    simp [Lib.joinTail]
theorem joinS_spec (A : Option Addr) (c : Nat) (l : List Tx) (w : World) (h : Rd w 1 A l.length (SB l)) (h0 : 0 < l.length) (hc : l.length ≤ c) (hn : l.length ≤ 1000000) (hl : (jnQ l).length ≤ 100000000000000) :
    Calls Tryz.prog 61 #[.slice A l.length c, encStr [32]] w fun e w' => e = .returned (encStr (jnQ l)) ∧ Frm [] w w' := by
  obtain ⟨b, o, rfl, hb, hcell⟩ := h.plain h0
  have e1 : (l.map (fun s : Tx => (⟨s.toArray⟩ : ByteArray))).length = l.length := by simp
  have e2 : (l.map (fun s : Tx => (⟨s.toArray⟩ : ByteArray))).map (·.data.toList) = l := by
    rw [List.map_map]
    conv => rhs; rw [← List.map_id l]
    exact List.map_congr_left fun s _ => by simp
  have hj := Tryz.strings_Join b o c (l.map (fun s : Tx => (⟨s.toArray⟩ : ByteArray))) ⟨#[32]⟩ w (fun j x hx => by
    rw [List.getElem?_map] at hx
    obtain ⟨s, hs, rfl⟩ := Option.map_eq_some_iff.1 hx
    exact hcell j _ (by show (SB l)[j]? = _; unfold SB; rw [List.getElem?_map, hs]; rfl)) hb (by rw [e1]; omega) (by rw [e1]; exact hc) (by
    rw [e2]
    show (Lib.join l [32]).length ≤ _
    rw [join_jn]
    omega)
  rw [e1, e2] at hj
  refine hj.mono fun e w' ⟨he, hbe⟩ => ⟨?_, Frm.of_below hbe⟩
  rw [he]
  show Ending.returned (encStr (Lib.join l [32])) = _
  rw [join_jn]

set_option maxRecDepth 100000 in
theorem plain_spec (q : Tx) (w : World) (hq : q.length ≤ 1000000) : Calls Tryz.prog 25 #[encStr q] w fun e w' => e = .returned (.bool (decide (PlainT q))) ∧ w = w' := by
  refine VC.calls (nt := 23) (res := #[.tmp 2]) Tryz.func25 rfl Tryz.ntmps25 Tryz.results25 rfl ?_
  refine VC.seq ?_
  refine VC.region ?_
  refine Ops.r (Run.asg rfl) rfl ?_
  refine Ops.nil ?_
  refine thenQ_n ?_
  refine VC.sub [(0, _)] (.cons rfl .nil) ?_
  refine VC.seq ?_
  refine VC.seq ?_
  refine VC.region ?_
  refine Ops.r (Run.mv rfl) rfl ?_
  refine Ops.r (Run.lenT rfl Tryz.underlying9) rfl ?_
  refine Ops.r (v := .int .i64 ((0 : Nat) : Int)) (Run.mv rfl) rfl ?_
  refine Ops.nil ?_
  refine thenQ_n ?_
  refine VC.sub [(0, _), (5, _), (6, _)] (.cons rfl (.cons rfl (.cons rfl .nil))) ?_
  refine VC.block ?_
  refine VC.loop (σ := Nat) (fun s => [(0, encStr q), (5, .int .i64 ((q.length : Nat) : Int)), (6, .int .i64 ((s : Nat) : Int))]) (fun s wr => s ≤ q.length ∧ w = wr ∧ ∀ c ∈ q.take s, 32 ≤ c.toNat ∧ c.toNat ≤ 126) (fun s => q.length - s) 0 (.cons rfl (.cons rfl (.cons rfl .nil))) ⟨Nat.zero_le _, rfl, by simp⟩ ?_
  rintro k _ ⟨hk, rfl, hall⟩
  refine VC.seq ?_
  refine VC.region ?_
  refine Ops.r (Run.bin rfl rfl (Bin.lssN _ _)) rfl ?_
  refine Ops.nil ?_
  refine thenQ_n ?_
  refine VC.seq ?_
  refine VC.condD rfl (fun hc1 => ?_) (fun hc1 => ?_)
  · skip
    have hgx : q[k]? = some q[k] := List.getElem?_eq_getElem hc1
    have hts := take_snoc hc1
    have hmem := List.getElem_mem hc1
    generalize q[k] = x at *
    refine VC.skip ?_
    refine thenQ_n ?_
    refine VC.sub [(0, _), (5, _), (6, _)] (.cons rfl (.cons rfl (.cons rfl .nil))) ?_
    refine VC.seq ?_
    refine VC.block ?_
    refine VC.seq ?_
    refine VC.region ?_
    refine Ops.r (Run.mv rfl) rfl ?_
    refine Ops.r (Run.asg rfl) rfl ?_
    refine Ops.nil ?_
    refine thenQ_n ?_
    refine VC.sub [(0, _), (3, _), (5, _), (6, _)] (.cons rfl (.cons rfl (.cons rfl (.cons rfl .nil)))) ?_
    refine VC.seq ?_
    refine VC.split1 [(0, _), (5, _), (6, _)] (.cons rfl (.cons rfl (.cons rfl .nil))) 18 (.bool (decide (x.toNat < 32 ∨ 126 < x.toNat))) ?_ ?_
    · refine VC.region ?_
      refine Ops.r (Run.mv rfl) rfl ?_
      refine Ops.r (Run.mv rfl) rfl ?_
      refine Ops.r (Run.indexT _ rfl rfl Tryz.underlying9 hgx) rfl ?_
      refine Ops.r (Run.bin rfl rfl (Bin.lssN _ 32)) rfl ?_
      by_cases hs12 : x.toNat < 32
      · skip
        refine Ops.r (Run.mv rfl) rfl ?_
        refine Ops.sk rfl au rfl ?_
        refine Ops.sk rfl au rfl ?_
        refine Ops.sk rfl au rfl ?_
        refine Ops.sk rfl au rfl ?_
        refine Ops.r (Run.pickT rfl rfl au) rfl ?_
        refine Ops.nil ?_
        refine thenQ_n ⟨(.cons (congrArg (fun b => some (Value.bool b)) (by simp [*])) (.cons rfl (.cons rfl (.cons rfl .nil)))), rfl⟩
      · skip
        refine Ops.r (Run.mv rfl) rfl ?_
        refine Ops.rg rfl au (Run.mv rfl) rfl ?_
        refine Ops.rg rfl au (Run.mv rfl) rfl ?_
        refine Ops.rg rfl au (Run.indexT _ rfl rfl Tryz.underlying9 hgx) rfl ?_
        refine Ops.rg rfl au (Run.bin rfl rfl (Bin.gtrN _ 126)) rfl ?_
        by_cases hs17 : 126 < x.toNat
        · skip
          refine Ops.r (Run.pickF rfl rfl au) rfl ?_
          refine Ops.nil ?_
          refine thenQ_n ⟨(.cons (congrArg (fun b => some (Value.bool b)) (by simp [*])) (.cons rfl (.cons rfl (.cons rfl .nil)))), rfl⟩
        · skip
          refine Ops.r (Run.pickF rfl rfl au) rfl ?_
          refine Ops.nil ?_
          refine thenQ_n ⟨(.cons (congrArg (fun b => some (Value.bool b)) (by simp [*])) (.cons rfl (.cons rfl (.cons rfl .nil)))), rfl⟩
    · intro Γ hΓ
      refine thenQ_n (VC.sub _ hΓ ?_)
      refine VC.condD rfl (fun hc2 => ?_) (fun hc2 => ?_)
      · skip
        refine VC.seq ?_
        refine VC.region ?_
        refine Ops.r (Run.asg rfl) rfl ?_
        refine Ops.nil ?_
        refine thenQ_n ?_
        refine VC.sub [(2, _)] (.cons rfl .nil) ?_
        refine VC.ret ?_
        refine blockQ_r (thenQ_r (thenQ_r (blockQ_r (thenQ_r (end1 rfl ?_)))))
        exact ⟨by rw [decide_eq_false (fun h => by have := h.1 x hmem; omega)], rfl⟩
      · skip
        refine VC.skip ?_
        refine blockQ_n (thenQ_n ?_)
        refine VC.sub [(0, _), (5, _), (6, _)] (.cons rfl (.cons rfl (.cons rfl .nil))) ?_
        refine VC.region ?_
        refine Ops.r (Run.bin rfl rfl (Bin.add_i64 _ 1 (by omega))) rfl ?_
        refine Ops.r (Run.mv rfl) rfl ?_
        refine Ops.nil ?_
        refine thenQ_n ⟨(k + 1), (.cons rfl (.cons rfl (.cons rfl .nil))), ?_, ?_⟩
        · skip
          refine ⟨hc1, rfl, fun y hy => ?_⟩
          rw [hts] at hy
          rcases List.mem_append.1 hy with h | h
          · exact hall y h
          · simp only [List.mem_singleton] at h; subst h; omega
        · skip
          first | omega | (dsimp only; omega)
  · skip
    have hkl : k = q.length := by omega
    subst hkl
    rw [List.take_length] at hall
    refine VC.exit ?_
    refine thenQ_x (thenQ_x (blockQ_x ?_))
    refine thenQ_n ?_
    refine VC.sub [(0, _)] (.cons rfl .nil) ?_
    refine VC.seq ?_
    refine VC.region ?_
    refine Ops.r (Run.mv rfl) rfl ?_
    refine Ops.r (Run.lenT rfl Tryz.underlying9) rfl ?_
    refine Ops.r (Run.bin rfl rfl (Bin.leqN _ 200)) rfl ?_
    refine Ops.r (Run.asg rfl) rfl ?_
    refine Ops.nil ?_
    refine thenQ_n ?_
    refine VC.sub [(2, _)] (.cons rfl .nil) ?_
    refine VC.ret ?_
    refine end1 rfl ?_
    exact ⟨by rw [decide_eq_decide.2 (show q.length ≤ 200 ↔ PlainT q from ⟨fun h => ⟨hall, h⟩, fun h => h.2⟩)], rfl⟩

set_option maxRecDepth 100000 in
set_option maxHeartbeats 800000 in
theorem string_spec (q : Tx) (w : World) (ht : Tab w) (hq : q.length ≤ 400000) : Calls Tryz.prog 10 #[encStr q] w fun e w' => e = .returned (encStr (strQ q)) ∧ Frm [] w w' := by
  have K := Frm.refl [] w
  refine VC.calls (nt := 39) (res := #[.tmp 2]) Tryz.func10 rfl Tryz.ntmps10 Tryz.results10 rfl ?_
  refine VC.seq ?_
  refine VC.region ?_
  refine Ops.r (Run.asg rfl) rfl ?_
  refine Ops.nil ?_
  refine thenQ_n ?_
  refine VC.sub [(0, _)] (.cons rfl .nil) ?_
  refine VC.seq ?_
  refine VC.seq ?_
  refine VC.region ?_
  refine Ops.r (Run.mv rfl) rfl ?_
  refine Ops.cl (Enters.fn (evs.cons rfl evs.nil) Tryz.call25) (plain_spec q _ (by omega)) rfl ?_
  rintro e _ ⟨rfl, rfl⟩
  refine ⟨_, rfl, ?_⟩
  refine Ops.r (Run.not rfl) rfl ?_
  rw [show (!decide (PlainT q)) = decide (¬ PlainT q) by by_cases h : PlainT q <;> simp [h]]
  refine Ops.nil ?_
  refine thenQ_n ?_
  refine VC.sub [(0, _), (7, _)] (.cons rfl (.cons rfl .nil)) ?_
  refine VC.condB rfl (fun hc1 => ?_) (fun hc1 => ?_)
  · skip
    have hsq : strQ q = 123 :: (Lib.decDigits q.length ++ ([125, 13, 10] ++ q)) := by unfold strQ; rw [if_neg (of_decide_eq_true hc1)]
    have hdl := decL q.length
    refine VC.seq ?_
    refine VC.region ?_
    refine Ops.r (Run.mv rfl) rfl ?_
    refine Ops.r (Run.lenT rfl Tryz.underlying9) rfl ?_
    refine Ops.cl (Enters.fn (evs.cons rfl evs.nil) Tryz.call26) ((itoaN_spec q.length _ ht (by omega))) rfl ?_
    rintro e w1 ⟨rfl, f1⟩
    refine ⟨_, rfl, ?_⟩
    have K := K.trans f1 (by simp)
    refine Ops.r (Run.addT (a := [123]) rfl rfl (by simp; omega)) rfl ?_
    refine Ops.r (Run.addT (b := [125, 13, 10]) rfl rfl (by simp; omega)) rfl ?_
    refine Ops.r (Run.mv rfl) rfl ?_
    refine Ops.r (Run.addT rfl rfl (by simp; omega)) rfl ?_
    refine Ops.r (Run.asg rfl) rfl ?_
    refine Ops.nil ?_
    refine thenQ_n ?_
    refine VC.sub [(2, _)] (.cons rfl .nil) ?_
    refine VC.ret ?_
    refine thenQ_r (end1 rfl ?_)
    exact ⟨by rw [hsq]; simp, K⟩
  · skip
    have hsq : strQ q = 34 :: (escQ q ++ [34]) := by unfold strQ; rw [if_pos (Classical.not_not.1 (of_decide_eq_false hc1))]
    refine VC.skip ?_
    refine thenQ_n ?_
    refine VC.sub [(0, _)] (.cons rfl .nil) ?_
    refine VC.seq ?_
    refine VC.region ?_
    refine Ops.m (Does.alloc zero50) rfl ?_
    rintro _ w1 ⟨rfl, hF1⟩
    have hb5 : Blk w1 w.heap.size 50 #[.pointer none, .slice none ([] : Tx).length 0] := hF1.blk
    have hg5 := K.size
    have K := K.trans hF1.frm (by simp)
    obtain ⟨g5, hg⟩ : ∃ g, w.heap.size = g := ⟨_, rfl⟩
    rw [hg] at hb5 ⊢
    refine Ops.nil ?_
    refine thenQ_n ?_
    refine VC.seq ?_
    refine VC.region ?_
    refine Ops.cl (Enters.fn (evs.cons rfl (evs.cons rfl evs.nil)) Tryz.call27) (writeByte_spec g5 ([]) 34 none none 0 _ (.inl rfl) hb5 (Own.nil _ _ _) (by simp)) rfl ?_
    have hub : ∀ x ∈ ob none, w.heap.size ≤ x := by simp [ob]
    have hub0 := hub
    rintro e w2 ⟨rfl, Aw2, cw2, hb5, hO, hfw2, hobw2⟩
    refine ⟨_, rfl, ?_⟩
    have hub := up_step hub hobw2 K.size
    have K := Frm.own K hfw2 (fun y hy => by
      simp only [List.mem_cons] at hy
      rcases hy with rfl | hy
      · omega
      · exact hub0 y hy)
    refine Ops.nil ?_
    refine thenQ_n ?_
    refine VC.sub [(0, _), (3, _)] (.cons rfl (.cons rfl .nil)) ?_
    refine VC.seq ?_
    refine VC.seq ?_
    refine VC.region ?_
    refine Ops.r (Run.mv rfl) rfl ?_
    refine Ops.r (Run.lenT rfl Tryz.underlying9) rfl ?_
    refine Ops.r (v := .int .i64 ((0 : Nat) : Int)) (Run.mv rfl) rfl ?_
    refine Ops.nil ?_
    refine thenQ_n ?_
    refine VC.sub [(0, _), (3, _), (17, _), (18, _)] (.cons rfl (.cons rfl (.cons rfl (.cons rfl .nil)))) ?_
    refine VC.block ?_
    refine VC.loop (σ := Nat × Tx × Option Addr × Option Addr × Nat) (fun s => [(0, encStr q), (3, .pointer (some ⟨g5, 0, none⟩)), (17, .int .i64 ((q.length : Nat) : Int)), (18, .int .i64 ((s.1 : Nat) : Int))]) (fun s wr => s.1 ≤ q.length ∧ s.2.1 = 34 :: escQ (q.take s.1) ∧ s.2.1.length ≤ 2 * s.1 + 1 ∧ (s.2.2.1 = none ∨ s.2.2.1 = some (⟨g5, 0, none⟩ : Addr)) ∧ Blk wr g5 50 #[.pointer s.2.2.1, .slice s.2.2.2.1 (s.2.1).length s.2.2.2.2] ∧ Own wr 5 1 s.2.2.2.1 (s.2.1).length s.2.2.2.2 (U8 (s.2.1)) ∧ (∀ x ∈ ob s.2.2.2.1, w.heap.size ≤ x) ∧ Frm [] w wr) (fun s => q.length - s.1) (0, [34], some ⟨g5, 0, none⟩, Aw2, cw2) (.cons rfl (.cons rfl (.cons rfl (.cons rfl .nil)))) ⟨Nat.zero_le _, rfl, by simp, .inr rfl, hb5, hO, hub, K⟩ ?_
    rintro ⟨k, o, p, A, c⟩ wr ⟨hk, ho, hol, hp, hb5, hO, hub, K⟩
    dsimp only at hk ho hol hp hb5 hO hub ⊢
    refine VC.seq ?_
    refine VC.region ?_
    refine Ops.r (Run.bin rfl rfl (Bin.lssN _ _)) rfl ?_
    refine Ops.nil ?_
    refine thenQ_n ?_
    refine VC.seq ?_
    refine VC.condD rfl (fun hc2 => ?_) (fun hc2 => ?_)
    · skip
      have hgx : q[k]? = some q[k] := List.getElem?_eq_getElem hc2
      have hts := take_snoc hc2
      generalize q[k] = x at *
      have e34 : x.toNat = 34 ↔ x = 34 := u8n rfl
      have e92 : x.toNat = 92 ↔ x = 92 := u8n rfl
      have hsn : 34 :: escQ (q.take (k + 1)) = (o ++ (if x = 34 ∨ x = 92 then [92] else [])) ++ [x] := by
        rw [hts, escQ_app, ho]
        by_cases h : x = 34 ∨ x = 92 <;> simp [escQ, h]
      refine VC.skip ?_
      refine thenQ_n ?_
      refine VC.sub [(0, _), (3, _), (17, _), (18, _)] (.cons rfl (.cons rfl (.cons rfl (.cons rfl .nil)))) ?_
      refine VC.seq ?_
      refine VC.block ?_
      refine VC.seq ?_
      refine VC.region ?_
      refine Ops.r (Run.mv rfl) rfl ?_
      refine Ops.r (Run.asg rfl) rfl ?_
      refine Ops.nil ?_
      refine thenQ_n ?_
      refine VC.sub [(0, _), (3, _), (4, _), (17, _), (18, _)] (.cons rfl (.cons rfl (.cons rfl (.cons rfl (.cons rfl .nil))))) ?_
      refine VC.seq ?_
      refine VC.seq ?_
      refine VC.split1 [(0, _), (3, _), (4, _), (17, _), (18, _)] (.cons rfl (.cons rfl (.cons rfl (.cons rfl (.cons rfl .nil))))) 30 (.bool (decide ((x.toNat = 34) ∨ (x.toNat = 92)))) ?_ ?_
      · by_cases hs0 : x.toNat = 34
        · skip
          refine VC.region ?_
          refine Ops.r (Run.mv rfl) rfl ?_
          refine Ops.r (Run.mv rfl) rfl ?_
          refine Ops.r (Run.indexT _ rfl rfl Tryz.underlying9 hgx) rfl ?_
          refine Ops.r (Run.bin rfl rfl (Bin.eqlN _ 34)) rfl ?_
          refine Ops.r (Run.mv rfl) rfl ?_
          refine Ops.sk rfl au rfl ?_
          refine Ops.sk rfl au rfl ?_
          refine Ops.sk rfl au rfl ?_
          refine Ops.sk rfl au rfl ?_
          refine Ops.r (Run.pickT rfl rfl au) rfl ?_
          refine Ops.nil ?_
          refine thenQ_n ⟨(.cons (by rw [dor1 hs0]; rfl) (.cons rfl (.cons rfl (.cons rfl (.cons rfl (.cons rfl .nil)))))), rfl⟩
        · skip
          refine VC.region ?_
          refine Ops.r (Run.mv rfl) rfl ?_
          refine Ops.r (Run.mv rfl) rfl ?_
          refine Ops.r (Run.indexT _ rfl rfl Tryz.underlying9 hgx) rfl ?_
          refine Ops.r (Run.bin rfl rfl (Bin.eqlN _ 34)) rfl ?_
          refine Ops.r (Run.mv rfl) rfl ?_
          refine Ops.rg rfl au (Run.mv rfl) rfl ?_
          refine Ops.rg rfl au (Run.mv rfl) rfl ?_
          refine Ops.rg rfl au (Run.indexT _ rfl rfl Tryz.underlying9 hgx) rfl ?_
          refine Ops.rg rfl au (Run.bin rfl rfl (Bin.eqlN _ 92)) rfl ?_
          refine Ops.r (Run.pickF rfl rfl au) rfl ?_
          refine Ops.nil ?_
          refine thenQ_n ⟨(.cons (by rw [dor0 hs0]; rfl) (.cons rfl (.cons rfl (.cons rfl (.cons rfl (.cons rfl .nil)))))), rfl⟩
      · intro Γ hΓ
        refine thenQ_n (VC.sub _ hΓ ?_)
        refine VC.meet (σ := Tx × Option Addr × Option Addr × Nat) (fun s => [(0, encStr q), (3, .pointer (some ⟨g5, 0, none⟩)), (4, .int .i64 ((k : Nat) : Int)), (17, .int .i64 ((q.length : Nat) : Int)), (18, .int .i64 ((k : Nat) : Int))]) (fun s wz => s.1 = o ++ (if x = 34 ∨ x = 92 then [92] else []) ∧ s.1.length ≤ 2 * k + 2 ∧ (s.2.1 = none ∨ s.2.1 = some (⟨g5, 0, none⟩ : Addr)) ∧ Blk wz g5 50 #[.pointer s.2.1, .slice s.2.2.1 (s.1).length s.2.2.2] ∧ Own wz 5 1 s.2.2.1 (s.1).length s.2.2.2 (U8 (s.1)) ∧ (∀ x ∈ ob s.2.2.1, w.heap.size ≤ x) ∧ Frm [] w wz) ?_ ?_
        · skip
          refine VC.condD rfl (fun hc3 => ?_) (fun hc3 => ?_)
          · skip
            refine VC.region ?_
            refine Ops.cl (Enters.fn (evs.cons rfl (evs.cons rfl evs.nil)) Tryz.call27) (writeByte_spec g5 (o) 92 p A c _ hp hb5 hO (by omega)) rfl ?_
            have hub0 := hub
            rintro e w3 ⟨rfl, Aw3, cw3, hb5, hO, hfw3, hobw3⟩
            refine ⟨_, rfl, ?_⟩
            have hub := up_step hub hobw3 K.size
            have K := Frm.own K hfw3 (fun y hy => by
              simp only [List.mem_cons] at hy
              rcases hy with rfl | hy
              · omega
              · exact hub0 y hy)
            refine Ops.nil ?_
            refine thenQ_n ⟨(o ++ [92], some ⟨g5, 0, none⟩, Aw3, cw3), (.cons rfl (.cons rfl (.cons rfl (.cons rfl (.cons rfl .nil))))), ?_⟩
            exact ⟨by rw [if_pos (hc3.imp e34.1 e92.1)], by simp; omega, .inr rfl, hb5, hO, hub, K⟩
          · skip
            refine VC.skip ?_
            refine thenQ_n ⟨(o, p, A, c), (.cons rfl (.cons rfl (.cons rfl (.cons rfl (.cons rfl .nil))))), ?_⟩
            exact ⟨by rw [if_neg (fun h => hc3 (h.imp e34.2 e92.2)), List.append_nil], by dsimp only; omega, hp, hb5, hO, hub, K⟩
        · skip
          rintro ⟨o2, p, A, c⟩ wz ⟨ho2, ho2l, hp, hb5, hO, hub, K⟩ Γ hΓ
          dsimp only at ho2 ho2l hp hb5 hO hub
          rw [← ho2] at hsn
          refine thenQ_n (VC.sub _ hΓ ?_)
          refine VC.region ?_
          refine Ops.r (Run.mv rfl) rfl ?_
          refine Ops.r (Run.mv rfl) rfl ?_
          refine Ops.r (Run.indexT _ rfl rfl Tryz.underlying9 hgx) rfl ?_
          refine Ops.cl (Enters.fn (evs.cons rfl (evs.cons rfl evs.nil)) Tryz.call27) (writeByte_spec g5 (o2) x p A c _ hp hb5 hO (by omega)) rfl ?_
          have hub0 := hub
          rintro e w4 ⟨rfl, Aw4, cw4, hb5, hO, hfw4, hobw4⟩
          refine ⟨_, rfl, ?_⟩
          have hub := up_step hub hobw4 K.size
          have K := Frm.own K hfw4 (fun y hy => by
            simp only [List.mem_cons] at hy
            rcases hy with rfl | hy
            · omega
            · exact hub0 y hy)
          refine Ops.nil ?_
          refine blockQ_n (thenQ_n ?_)
          refine VC.sub [(0, _), (3, _), (17, _), (18, _)] (.cons rfl (.cons rfl (.cons rfl (.cons rfl .nil)))) ?_
          refine VC.region ?_
          refine Ops.r (Run.bin rfl rfl (Bin.add_i64 _ 1 (by omega))) rfl ?_
          refine Ops.r (Run.mv rfl) rfl ?_
          refine Ops.nil ?_
          refine thenQ_n ⟨(k + 1, o2 ++ [x], some ⟨g5, 0, none⟩, Aw4, cw4), (.cons rfl (.cons rfl (.cons rfl (.cons rfl .nil)))), ?_, ?_⟩
          · skip
            exact ⟨hc2, hsn.symm, by simp; omega, .inr rfl, hb5, hO, hub, K⟩
          · skip
            first | omega | (dsimp only; omega)
    · skip
      have hkl : k = q.length := by omega
      subst hkl
      rw [List.take_length] at ho
      refine VC.exit ?_
      refine thenQ_x (thenQ_x (blockQ_x ?_))
      refine thenQ_n ?_
      refine VC.sub [(3, _)] (.cons rfl .nil) ?_
      refine VC.seq ?_
      refine VC.region ?_
      refine Ops.cl (Enters.fn (evs.cons rfl (evs.cons rfl evs.nil)) Tryz.call27) (writeByte_spec g5 (o) 34 p A c _ hp hb5 hO (by omega)) rfl ?_
      have hub0 := hub
      rintro e w5 ⟨rfl, Aw5, cw5, hb5, hO, hfw5, hobw5⟩
      refine ⟨_, rfl, ?_⟩
      have hub := up_step hub hobw5 K.size
      have K := Frm.own K hfw5 (fun y hy => by
        simp only [List.mem_cons] at hy
        rcases hy with rfl | hy
        · omega
        · exact hub0 y hy)
      refine Ops.nil ?_
      refine thenQ_n ?_
      refine VC.sub [(3, _)] (.cons rfl .nil) ?_
      refine VC.seq ?_
      refine VC.region ?_
      refine Ops.cl (Enters.fn (evs.cons rfl evs.nil) Tryz.call28) ((Tryz.Builder_String_any w.heap.size g5 (o ++ [34]) _ (Bld.isB (.inr rfl) hb5 hO (by omega) (fun x hx => by have := hub x hx; omega)) K.size)) rfl ?_
      rintro e w6 ⟨rfl, hbe⟩
      refine ⟨_, rfl, ?_⟩
      have K6 := Frm.of_below (K.below.trans hbe)
      refine Ops.r (Run.asg rfl) rfl ?_
      refine Ops.nil ?_
      refine thenQ_n ?_
      refine VC.sub [(2, _)] (.cons rfl .nil) ?_
      refine VC.ret ?_
      refine end1 rfl ?_
      exact ⟨by rw [hsq, ho]; rfl, K6⟩

set_option maxRecDepth 100000 in
theorem nstring_spec (q : Tx) (w : World) (ht : Tab w) (hq : q.length ≤ 400000) : Calls Tryz.prog 60 #[encStr q] w fun e w' => e = .returned (encStr (nstrQ q)) ∧ Frm [] w w' := by
  refine VC.calls (nt := 7) (res := #[.tmp 2]) Tryz.func60 rfl Tryz.ntmps60 Tryz.results60 rfl ?_
  refine VC.seq ?_
  refine VC.region ?_
  refine Ops.r (Run.asg rfl) rfl ?_
  refine Ops.nil ?_
  refine thenQ_n ?_
  refine VC.sub [(0, _)] (.cons rfl .nil) ?_
  refine VC.seq ?_
  refine VC.seq ?_
  refine VC.region ?_
  refine Ops.r (Run.mv rfl) rfl ?_
  refine Ops.r (Run.eqlT rfl rfl) rfl ?_
  refine Ops.nil ?_
  refine thenQ_n ?_
  refine VC.sub [(0, _), (4, _)] (.cons rfl (.cons rfl .nil)) ?_
  refine VC.condD rfl (fun hc1 => ?_) (fun hc1 => ?_)
  · skip
    refine VC.seq ?_
    refine VC.region ?_
    refine Ops.r (Run.asg rfl) rfl ?_
    refine Ops.nil ?_
    refine thenQ_n ?_
    refine VC.sub [(2, _)] (.cons rfl .nil) ?_
    refine VC.ret ?_
    refine thenQ_r (end1 rfl ?_)
    exact ⟨by unfold nstrQ; rw [if_pos hc1]; rfl, Frm.refl _ _⟩
  · skip
    refine VC.skip ?_
    refine thenQ_n ?_
    refine VC.sub [(0, _)] (.cons rfl .nil) ?_
    refine VC.seq ?_
    refine VC.region ?_
    refine Ops.r (Run.mv rfl) rfl ?_
    refine Ops.cl (Enters.fn (evs.cons rfl evs.nil) Tryz.call10) ((string_spec q _ ht hq)) rfl ?_
    rintro e w1 ⟨rfl, f1⟩
    refine ⟨_, rfl, ?_⟩
    refine Ops.r (Run.asg rfl) rfl ?_
    refine Ops.nil ?_
    refine thenQ_n ?_
    refine VC.sub [(2, _)] (.cons rfl .nil) ?_
    refine VC.ret ?_
    refine end1 rfl ?_
    exact ⟨by unfold nstrQ; rw [if_neg hc1], f1⟩

set_option maxRecDepth 100000 in
theorem list_spec (A : Option Addr) (c : Nat) (l : List Tx) (w : World) (h : Rd w 1 A l.length (SB l)) (h0 : 0 < l.length) (hc : l.length ≤ c) (hn : l.length ≤ 1000000) (hl : l.flatten.length ≤ 90000000000000) :
    Calls Tryz.prog 34 #[.slice A l.length c] w fun e w' => e = .returned (encStr (listQ l)) ∧ Frm [] w w' := by
  have hj := jnQ_len l
  refine VC.calls (nt := 7) (res := #[.tmp 2]) Tryz.func34 rfl Tryz.ntmps34 Tryz.results34 rfl ?_
  refine VC.seq ?_
  refine VC.region ?_
  refine Ops.r (Run.asg rfl) rfl ?_
  refine Ops.nil ?_
  refine thenQ_n ?_
  refine VC.sub [(0, _)] (.cons rfl .nil) ?_
  refine VC.seq ?_
  refine VC.region ?_
  refine Ops.r (Run.mv rfl) rfl ?_
  refine Ops.cl (Enters.fn (evs.cons rfl (evs.cons rfl evs.nil)) Tryz.call61) ((joinS_spec A c l _ h h0 hc hn (by omega))) rfl ?_
  rintro e w1 ⟨rfl, f1⟩
  refine ⟨_, rfl, ?_⟩
  refine Ops.r (Run.addT (a := [40]) rfl rfl (by simp; omega)) rfl ?_
  refine Ops.r (Run.addT (b := [41]) rfl rfl (by simp; omega)) rfl ?_
  refine Ops.r (Run.asg rfl) rfl ?_
  refine Ops.nil ?_
  refine thenQ_n ?_
  refine VC.sub [(2, _)] (.cons rfl .nil) ?_
  refine VC.ret ?_
  refine end1 rfl ?_
  exact ⟨by unfold listQ; simp, f1⟩

set_option maxRecDepth 100000 in
theorem field_spec (A : Option Addr) (c : Nat) (q nm non : Tx) (w : World) (ht : Tab w) (hrd : Rd w 1 A q.length (U8 q)) (hq : q.length ≤ 400000) (hc : q.length ≤ c) (hnl : nm.length ≤ 1000000) :
    Calls Tryz.prog 31 #[.slice A q.length c, encStr nm, encStr non] w fun e w' => e = .returned (encStr (fieldS q nm non)) ∧ Frm [] w w' := by
  have K := Frm.refl [] w
  have hfl := findH_len q nm
  refine VC.calls (nt := 19) (res := #[.tmp 6]) Tryz.func31 rfl Tryz.ntmps31 Tryz.results31 rfl ?_
  refine VC.seq ?_
  refine VC.region ?_
  refine Ops.r (Run.asg rfl) rfl ?_
  refine Ops.nil ?_
  refine thenQ_n ?_
  refine VC.sub [(0, _), (1, _), (2, _)] (.cons rfl (.cons rfl (.cons rfl .nil))) ?_
  refine VC.seq ?_
  refine VC.seq ?_
  refine VC.region ?_
  refine Ops.r (Run.mv rfl) rfl ?_
  refine Ops.r (Run.mv rfl) rfl ?_
  refine Ops.cl (Enters.fn (evs.cons rfl (evs.cons rfl evs.nil)) Tryz.call58) ((hfind_spec A c q nm _ hrd (by omega) hc hnl)) rfl ?_
  rintro e w1 ⟨rfl, f1⟩
  refine ⟨_, rfl, ?_⟩
  have K := K.trans f1 (by simp)
  refine Ops.r (Run.mv rfl) rfl ?_
  refine Ops.r (Run.extract rfl rfl) rfl ?_
  refine Ops.r (Run.extract rfl rfl) rfl ?_
  refine Ops.r (Run.asg rfl) rfl ?_
  refine Ops.r (Run.asg rfl) rfl ?_
  refine Ops.nil ?_
  refine thenQ_n ?_
  refine VC.sub [(2, _), (7, _), (8, _)] (.cons rfl (.cons rfl (.cons rfl .nil))) ?_
  refine VC.seq ?_
  refine VC.region ?_
  refine Ops.r (Run.mv rfl) rfl ?_
  refine Ops.nil ?_
  refine thenQ_n ?_
  refine VC.sub [(2, _), (7, _), (15, _)] (.cons rfl (.cons rfl (.cons rfl .nil))) ?_
  refine VC.condB rfl (fun hc1 => ?_) (fun hc1 => ?_)
  · skip
    refine VC.seq ?_
    refine VC.region ?_
    refine Ops.r (Run.mv rfl) rfl ?_
    refine Ops.cl (Enters.fn (evs.cons rfl evs.nil) Tryz.call10) ((string_spec (findH q nm).1 _ (ht.frm K) (by omega))) rfl ?_
    rintro e w2 ⟨rfl, f2⟩
    refine ⟨_, rfl, ?_⟩
    have K := K.trans f2 (by simp)
    refine Ops.r (Run.asg rfl) rfl ?_
    refine Ops.nil ?_
    refine thenQ_n ?_
    refine VC.sub [(6, _)] (.cons rfl .nil) ?_
    refine VC.ret ?_
    refine thenQ_r (end1 rfl ?_)
    exact ⟨by unfold fieldS; rw [if_pos hc1], K⟩
  · skip
    refine VC.skip ?_
    refine thenQ_n ?_
    refine VC.sub [(2, _)] (.cons rfl .nil) ?_
    refine VC.seq ?_
    refine VC.region ?_
    refine Ops.r (Run.mv rfl) rfl ?_
    refine Ops.r (Run.asg rfl) rfl ?_
    refine Ops.nil ?_
    refine thenQ_n ?_
    refine VC.sub [(6, _)] (.cons rfl .nil) ?_
    refine VC.ret ?_
    refine end1 rfl ?_
    exact ⟨by unfold fieldS; rw [if_neg (by simp [hc1])], K⟩

set_option maxRecDepth 100000 in
set_option maxHeartbeats 800000 in
theorem people_spec (A : Option Addr) (c : Nat) (q nm non : Tx) (w : World) (ht : Tab w) (hrd : Rd w 1 A q.length (U8 q)) (hq : q.length ≤ 2000) (hc : q.length ≤ c) (hnl : nm.length ≤ 1000000) :
    Calls Tryz.prog 33 #[.slice A q.length c, encStr nm, encStr non] w fun e w' => e = .returned (encStr (peopleS q nm non)) ∧ Frm [] w w' := by
  have K := Frm.refl [] w
  have hfl := findH_len q nm
  refine VC.calls (nt := 48) (res := #[.tmp 6]) Tryz.func33 rfl Tryz.ntmps33 Tryz.results33 rfl ?_
  refine VC.seq ?_
  refine VC.region ?_
  refine Ops.r (Run.asg rfl) rfl ?_
  refine Ops.nil ?_
  refine thenQ_n ?_
  refine VC.sub [(0, _), (1, _), (2, _)] (.cons rfl (.cons rfl (.cons rfl .nil))) ?_
  refine VC.seq ?_
  refine VC.region ?_
  refine Ops.r (Run.mv rfl) rfl ?_
  refine Ops.r (Run.mv rfl) rfl ?_
  refine Ops.cl (Enters.fn (evs.cons rfl (evs.cons rfl evs.nil)) Tryz.call58) ((hfind_spec A c q nm _ hrd (by omega) hc hnl)) rfl ?_
  rintro e w1 ⟨rfl, f1⟩
  refine ⟨_, rfl, ?_⟩
  have K := K.trans f1 (by simp)
  have hpf := people_flat (t := (findH q nm).1) (by omega)
  have hcnt := listA_count (findH q nm).1
  have hmem : ∀ a ∈ listA (findH q nm).1, a.name.length ≤ 4000 ∧ a.box.length ≤ 4000 ∧ a.host.length ≤ 4000 := fun a ha => by have := listA_mem a ha; omega
  have hpS : peopleS q nm non = if listA (findH q nm).1 = [] then non else 40 :: (((listA (findH q nm).1).map adrS).flatten ++ [41]) := rfl
  have hal : ∀ a ∈ listA (findH q nm).1, (adrS a).length ≤ 12 * (findH q nm).1.length + 27 := fun a ha => adrS_len ha
  refine Ops.r (Run.mv rfl) rfl ?_
  refine Ops.r (Run.extract rfl rfl) rfl ?_
  refine Ops.r (Run.extract rfl rfl) rfl ?_
  refine Ops.r (Run.asg rfl) rfl ?_
  refine Ops.r (Run.asg rfl) rfl ?_
  refine Ops.nil ?_
  refine thenQ_n ?_
  refine VC.sub [(2, _), (7, _)] (.cons rfl (.cons rfl .nil)) ?_
  refine VC.seq ?_
  refine VC.region ?_
  refine Ops.r (Run.mv rfl) rfl ?_
  refine Ops.cl (Enters.fn (evs.cons rfl evs.nil) Tryz.call59) ((alist_spec (findH q nm).1 _ (by omega))) rfl ?_
  rintro e w2 ⟨f2, L, lc, rfl, hL, hubL⟩
  refine ⟨_, rfl, ?_⟩
  have K := K.trans f2 (by simp)
  generalize listA (findH q nm).1 = l at *
  refine Ops.r (Run.asg rfl) rfl ?_
  refine Ops.nil ?_
  refine thenQ_n ?_
  refine VC.sub [(2, _), (9, _)] (.cons rfl (.cons rfl .nil)) ?_
  refine VC.seq ?_
  refine VC.seq ?_
  refine VC.region ?_
  refine Ops.r (Run.mv rfl) rfl ?_
  refine Ops.r (Run.lenS rfl Tryz.underlying88) rfl ?_
  refine Ops.r (Run.bin rfl rfl (Bin.eqlN _ 0)) rfl ?_
  refine Ops.nil ?_
  refine thenQ_n ?_
  refine VC.sub [(2, _), (9, _), (23, _)] (.cons rfl (.cons rfl (.cons rfl .nil))) ?_
  refine VC.condD rfl (fun hc1 => ?_) (fun hc1 => ?_)
  · skip
    have hl0 : l = [] := List.length_eq_zero_iff.1 hc1
    refine VC.seq ?_
    refine VC.region ?_
    refine Ops.r (Run.mv rfl) rfl ?_
    refine Ops.r (Run.asg rfl) rfl ?_
    refine Ops.nil ?_
    refine thenQ_n ?_
    refine VC.sub [(6, _)] (.cons rfl .nil) ?_
    refine VC.ret ?_
    refine thenQ_r (end1 rfl ?_)
    exact ⟨by rw [hpS, if_pos hl0], K⟩
  · skip
    have hl0 : l ≠ [] := fun h => hc1 (by rw [h]; rfl)
    refine VC.skip ?_
    refine thenQ_n ?_
    refine VC.sub [(9, _)] (.cons rfl .nil) ?_
    refine VC.seq ?_
    refine VC.region ?_
    refine Ops.r (Run.asg rfl) rfl ?_
    refine Ops.nil ?_
    refine thenQ_n ?_
    refine VC.seq ?_
    refine VC.seq ?_
    refine VC.region ?_
    refine Ops.r (Run.mv rfl) rfl ?_
    refine Ops.r (Run.lenS rfl Tryz.underlying88) rfl ?_
    refine Ops.r (v := .int .i64 ((0 : Nat) : Int)) (Run.mv rfl) rfl ?_
    refine Ops.nil ?_
    refine thenQ_n ?_
    refine VC.sub [(10, _), (25, _), (26, _), (27, _)] (.cons rfl (.cons rfl (.cons rfl (.cons rfl .nil)))) ?_
    refine VC.block ?_
    refine VC.loop (σ := Nat) (fun s => [(10, encStr (((l.take s).map adrS).flatten)), (25, .slice L l.length lc), (26, .int .i64 ((l.length : Nat) : Int)), (27, .int .i64 ((s : Nat) : Int))]) (fun s wr => s ≤ l.length ∧ Frm [] w wr ∧ Own wr 91 3 L l.length lc (AC l)) (fun s => l.length - s) 0 (.cons rfl (.cons rfl (.cons rfl (.cons rfl .nil)))) ⟨Nat.zero_le _, K, hL⟩ ?_
    rintro k wr ⟨hk, K, hL⟩
    have hpre : (((l.take k).map adrS).flatten).length ≤ ((l.map adrS).flatten).length := by
      conv => rhs; rw [← List.take_append_drop k l, List.map_append, List.flatten_append, List.length_append]
      omega
    refine VC.seq ?_
    refine VC.region ?_
    refine Ops.r (Run.bin rfl rfl (Bin.lssN _ _)) rfl ?_
    refine Ops.nil ?_
    refine thenQ_n ?_
    refine VC.seq ?_
    refine VC.condD rfl (fun hc2 => ?_) (fun hc2 => ?_)
    · skip
      obtain ⟨adL, hLe, hcell⟩ := AC_at hL.rd hc2
      have hts := take_snoc hc2
      have hm := hmem _ (List.getElem_mem hc2)
      have hal1 := hal _ (List.getElem_mem hc2)
      have hsn : ((l.take (k + 1)).map adrS).flatten = ((l.take k).map adrS).flatten ++ adrS l[k] := by rw [hts, List.map_append, List.flatten_append]; simp
      generalize l[k] = a at *
      have g1 := nstrQ_len a.name
      have g2 := nstrQ_len a.box
      have g3 := nstrQ_len a.host
      have g4 : nilT.length = 3 := rfl
      refine VC.skip ?_
      refine thenQ_n ?_
      refine VC.sub [(10, _), (25, _), (26, _), (27, _)] (.cons rfl (.cons rfl (.cons rfl (.cons rfl .nil)))) ?_
      refine VC.seq ?_
      refine VC.block ?_
      refine VC.seq ?_
      refine VC.region ?_
      refine Ops.r (Run.indexS k (by rw [← hLe]; rfl) rfl Tryz.underlying88 Tryz.sizeOf91 hc2) rfl ?_
      refine Ops.r (Run.loadA rfl Tryz.isAgg91 Tryz.sizeOf91 hcell (by first | rfl | (simp; done))) rfl ?_
      refine Ops.m (Does.alloc zero91) rfl ?_
      rintro _ w3 ⟨rfl, hF3⟩
      have hb12 := hF3.blk
      have sK := K.size
      have hL3 := hL.lt
      have K := K.trans hF3.frm (by simp)
      have hL := hL.frm hF3.frm (by simp)
      generalize hg12 : wr.heap.size = g12 at hb12 sK hL3 ⊢
      refine Ops.st (Acts.storeA rfl rfl Tryz.sizeOf91 hb12 rfl (AC1_one a)) ?_
      rintro w4 ⟨hb12n, f4, _⟩
      have hb12 : Blk w4 g12 91 (AC1 a).toArray := hb12n
      have hL := hL.frm f4 (fun y hy => by have := hL3 y hy; simp; omega)
      have K := Frm.own K f4 (fun y hy => by simp at hy; omega)
      refine Ops.nil ?_
      refine thenQ_n ?_
      refine VC.sub [(10, _), (12, _), (25, _), (26, _), (27, _)] (.cons rfl (.cons rfl (.cons rfl (.cons rfl (.cons rfl .nil))))) ?_
      refine VC.held (fun W => Frm [] w4 W) (by kernel_rfl) ?_
      have hS : Frm [] w4 w4.drew := (Frm.refl _ _).drew
      refine HOps.take 0 rfl (by kernel_rfl) (by kernel_rfl) (by kernel_rfl) hS (fun w0 hw0 => Run.mv rfl) trivial rfl rfl ?_
      refine HOps.take 1 rfl (by kernel_rfl) (by kernel_rfl) (by kernel_rfl) hS (fun w0 hw0 => Run.fieldAddr rfl Tryz.underlying91 rfl Tryz.sizeOf9 (by decide)) trivial rfl rfl ?_
      refine HOps.take 2 rfl (by kernel_rfl) (by kernel_rfl) (by kernel_rfl) hS (fun w0 hw0 => Run.load rfl Tryz.isAgg9 ((hb12.frm hw0 (by simp)).cell 0)) trivial rfl rfl ?_
      refine HOps.take 4 rfl (by kernel_rfl) (by kernel_rfl) (by kernel_rfl) hS (fun w0 hw0 => Run.fieldAddr rfl Tryz.underlying91 rfl Tryz.sizeOf9 (by decide)) trivial rfl rfl ?_
      refine HOps.take 5 rfl (by kernel_rfl) (by kernel_rfl) (by kernel_rfl) hS (fun w0 hw0 => Run.load rfl Tryz.isAgg9 ((hb12.frm hw0 (by simp)).cell 1)) trivial rfl rfl ?_
      refine HOps.take 7 rfl (by kernel_rfl) (by kernel_rfl) (by kernel_rfl) hS (fun w0 hw0 => Run.fieldAddr rfl Tryz.underlying91 rfl Tryz.sizeOf9 (by decide)) trivial rfl rfl ?_
      refine HOps.take 8 rfl (by kernel_rfl) (by kernel_rfl) (by kernel_rfl) hS (fun w0 hw0 => Run.load rfl Tryz.isAgg9 ((hb12.frm hw0 (by simp)).cell 2)) trivial rfl rfl ?_
      refine HOps.cl 3 rfl (by kernel_rfl) (Enters.fn (evs.cons rfl evs.nil) Tryz.call60) ((nstring_spec a.name _ (ht.frm (K.trans hS (by simp))) (by omega))) trivial rfl rfl ?_
      rintro e w5 ⟨rfl, fw5⟩
      have hS := hS.trans fw5 (by simp)
      refine ⟨_, rfl, hS, ?_⟩
      refine HOps.cl 6 rfl (by kernel_rfl) (Enters.fn (evs.cons rfl evs.nil) Tryz.call60) ((nstring_spec a.box _ (ht.frm (K.trans hS (by simp))) (by omega))) trivial rfl rfl ?_
      rintro e w6 ⟨rfl, fw6⟩
      have hS := hS.trans fw6 (by simp)
      refine ⟨_, rfl, hS, ?_⟩
      refine HOps.cl 9 rfl (by kernel_rfl) (Enters.fn (evs.cons rfl evs.nil) Tryz.call60) ((nstring_spec a.host _ (ht.frm (K.trans hS (by simp))) (by omega))) trivial rfl rfl ?_
      rintro e w7 ⟨rfl, fw7⟩
      have hS := hS.trans fw7 (by simp)
      refine ⟨_, rfl, hS, ?_⟩
      refine HOps.m 10 rfl (by kernel_rfl) (Does.buildN (cells := (SB [nstrQ a.name, nilT, nstrQ a.box, nstrQ a.host]).toArray) (evs.cons rfl (evs.cons rfl (evs.cons rfl (evs.cons rfl evs.nil)))) Tryz.underlying36 Tryz.sizeOf9 zero9 rfl rfl (by kernel_rfl)) trivial rfl rfl ?_
      rintro _ w8 ⟨rfl, hFw8⟩
      have hrw8 : Rd w8 1 (some ⟨_, 0, none⟩) 4 (SB [nstrQ a.name, nilT, nstrQ a.box, nstrQ a.host]) := Rd.of_blk (n := 4) (size := 1) hFw8.blk rfl
      have hS := hS.trans hFw8.frm (by simp)
      refine ⟨hS, ?_⟩
      refine HOps.cl 11 rfl (by kernel_rfl) (Enters.fn (evs.cons rfl evs.nil) Tryz.call34) ((list_spec _ _ [nstrQ a.name, nilT, nstrQ a.box, nstrQ a.host] _ hrw8 (by simp) (by simp) (by simp) (by simp [List.flatten_cons, List.length_append]; omega))) trivial rfl rfl ?_
      rintro e w9 ⟨rfl, fw9⟩
      have hS := hS.trans fw9 (by simp)
      refine ⟨_, rfl, hS, ?_⟩
      refine HOps.take 12 rfl (by kernel_rfl) (by kernel_rfl) (by kernel_rfl) hS (fun w0 hw0 => Run.addT rfl rfl (by show _ + (adrS a).length ≤ _; omega)) trivial rfl rfl ?_
      refine HOps.take 13 rfl (by kernel_rfl) (by kernel_rfl) (by kernel_rfl) hS (fun w0 hw0 => Run.asg rfl) trivial rfl rfl ?_
      refine HOps.done (by kernel_rfl) ?_
      refine blockQ_n (thenQ_n ?_)
      refine VC.sub [(10, _), (25, _), (26, _), (27, _)] (.cons rfl (.cons rfl (.cons rfl (.cons rfl .nil)))) ?_
      refine VC.region ?_
      refine Ops.r (Run.bin rfl rfl (Bin.add_i64 _ 1 (by omega))) rfl ?_
      refine Ops.r (Run.mv rfl) rfl ?_
      refine Ops.nil ?_
      refine thenQ_n ⟨(k + 1), (.cons (by rw [hsn]; rfl) (.cons rfl (.cons rfl (.cons rfl .nil)))), ?_, ?_⟩
      · skip
        exact ⟨hc2, K.trans hS (by simp), hL.frm hS (by simp)⟩
      · skip
        first | omega | (dsimp only; omega)
    · skip
      have hkl : k = l.length := by omega
      subst hkl
      rw [List.take_length]
      refine VC.exit ?_
      refine thenQ_x (thenQ_x (blockQ_x ?_))
      refine thenQ_n ?_
      refine VC.sub [(10, _)] (.cons rfl .nil) ?_
      refine VC.seq ?_
      refine VC.region ?_
      refine Ops.r (Run.mv rfl) rfl ?_
      refine Ops.r (Run.addT (a := [40]) rfl rfl (by simp only [List.length_cons, List.length_nil]; omega)) rfl ?_
      refine Ops.r (Run.addT (b := [41]) rfl rfl (by simp only [List.length_cons, List.length_append, List.length_nil]; omega)) rfl ?_
      refine Ops.r (Run.asg rfl) rfl ?_
      refine Ops.nil ?_
      refine thenQ_n ?_
      refine VC.sub [(6, _)] (.cons rfl .nil) ?_
      refine VC.ret ?_
      refine end1 rfl ?_
      exact ⟨by rw [hpS, if_neg hl0]; simp, K⟩

set_option maxRecDepth 100000 in
theorem env1_spec (A : Option Addr) (c g : Nat) (q nm : Tx) (w : World) (hb : Blk w g 22 #[.slice A q.length c]) (ht : Tab w) (hrd : Rd w 1 A q.length (U8 q)) (hq : q.length ≤ 2000) (hc : q.length ≤ c) (hnl : nm.length ≤ 1000000) :
    Calls Tryz.prog 30 #[encStr nm, .pointer (some ⟨g, 0, none⟩)] w fun e w' => e = .returned (encStr (fieldS q nm nilT)) ∧ Frm [] w w' := by
  refine VC.calls (nt := 7) (res := #[.tmp 3]) Tryz.func30 rfl Tryz.ntmps30 Tryz.results30 rfl ?_
  refine VC.seq ?_
  refine VC.region ?_
  refine Ops.r (Run.asg rfl) rfl ?_
  refine Ops.nil ?_
  refine thenQ_n ?_
  refine VC.sub [(0, _), (1, _)] (.cons rfl (.cons rfl .nil)) ?_
  refine VC.seq ?_
  refine VC.region ?_
  refine Ops.r (Run.load rfl Tryz.isAgg22 (hb.cell 0)) rfl ?_
  refine Ops.r (Run.mv rfl) rfl ?_
  refine Ops.cl (Enters.fn (evs.cons rfl (evs.cons rfl (evs.cons rfl evs.nil))) Tryz.call31) ((field_spec A c q nm nilT _ ht hrd (by omega) hc hnl)) rfl ?_
  rintro e w1 ⟨rfl, f1⟩
  refine ⟨_, rfl, ?_⟩
  refine Ops.r (Run.asg rfl) rfl ?_
  refine Ops.nil ?_
  refine thenQ_n ?_
  refine VC.sub [(3, _)] (.cons rfl .nil) ?_
  refine VC.ret ?_
  refine end1 rfl ?_
  exact ⟨rfl, f1⟩

set_option maxRecDepth 100000 in
theorem env2_spec (A : Option Addr) (c g : Nat) (q nm non : Tx) (w : World) (hb : Blk w g 22 #[.slice A q.length c]) (ht : Tab w) (hrd : Rd w 1 A q.length (U8 q)) (hq : q.length ≤ 2000) (hc : q.length ≤ c) (hnl : nm.length ≤ 1000000) :
    Calls Tryz.prog 32 #[encStr nm, encStr non, .pointer (some ⟨g, 0, none⟩)] w fun e w' => e = .returned (encStr (peopleS q nm non)) ∧ Frm [] w w' := by
  refine VC.calls (nt := 10) (res := #[.tmp 5]) Tryz.func32 rfl Tryz.ntmps32 Tryz.results32 rfl ?_
  refine VC.seq ?_
  refine VC.region ?_
  refine Ops.r (Run.asg rfl) rfl ?_
  refine Ops.nil ?_
  refine thenQ_n ?_
  refine VC.sub [(0, _), (1, _), (2, _)] (.cons rfl (.cons rfl (.cons rfl .nil))) ?_
  refine VC.seq ?_
  refine VC.region ?_
  refine Ops.r (Run.load rfl Tryz.isAgg22 (hb.cell 0)) rfl ?_
  refine Ops.r (Run.mv rfl) rfl ?_
  refine Ops.r (Run.mv rfl) rfl ?_
  refine Ops.cl (Enters.fn (evs.cons rfl (evs.cons rfl (evs.cons rfl evs.nil))) Tryz.call33) ((people_spec A c q nm non _ ht hrd hq hc hnl)) rfl ?_
  rintro e w1 ⟨rfl, f1⟩
  refine ⟨_, rfl, ?_⟩
  refine Ops.r (Run.asg rfl) rfl ?_
  refine Ops.nil ?_
  refine thenQ_n ?_
  refine VC.sub [(5, _)] (.cons rfl .nil) ?_
  refine VC.ret ?_
  refine end1 rfl ?_
  exact ⟨rfl, f1⟩

theorem envS_flat {q : Tx} (h : q.length ≤ 2000) : ([fieldS q datT nilT, fieldS q subjT nilT, peopleS q fromT nilT, peopleS q sendT (peopleS q fromT nilT), peopleS q replT (peopleS q fromT nilT), peopleS q toT nilT, peopleS q ccT nilT, peopleS q bccT nilT, fieldS q inrT nilT, fieldS q midT nilT] : List Tx).flatten.length ≤ 90000000000000 := by
  have hn : nilT.length = 3 := rfl
  have hf := fun n => fieldS_len q n nilT 4006 (by omega) (by omega)
  have hp := fun n => peopleS_len (q := q) (name := n) (non := nilT) h (by omega)
  have hp2 := fun n => peopleS_len (q := q) (name := n) (non := peopleS q fromT nilT) h (hp fromT)
  simp only [List.flatten_cons, List.length_append, List.flatten_nil, List.length_nil]
  have h1 := hf datT; have h2 := hf subjT; have h3 := hf inrT; have h4 := hf midT
  have p1 := hp fromT; have p2 := hp toT; have p3 := hp ccT; have p4 := hp bccT; have p5 := hp2 sendT; have p6 := hp2 replT
  omega

set_option maxRecDepth 100000 in
set_option maxHeartbeats 1600000 in
theorem envelope_spec (A : Option Addr) (c : Nat) (q : Tx) (w : World) (ht : Tab w) (hrd : Rd w 1 A q.length (U8 q)) (hq : q.length ≤ 2000) (hc : q.length ≤ c) :
    Calls Tryz.prog 12 #[.slice A q.length c] w fun e w' => e = .returned (encStr (envS q)) ∧ Frm [] w w' := by
  have K := Frm.refl [] w
  refine VC.calls (nt := 33) (res := #[.tmp 2]) Tryz.func12 rfl Tryz.ntmps12 Tryz.results12 rfl ?_
  refine VC.seq ?_
  refine VC.region ?_
  refine Ops.m (Does.box rfl) rfl ?_
  rintro _ w1 ⟨rfl, hF1⟩
  have hb1 : Blk w1 w.heap.size 22 #[.slice A q.length c] := hF1.blk
  have K := K.trans hF1.frm (by simp)
  obtain ⟨g1, hg⟩ : ∃ g, w.heap.size = g := ⟨_, rfl⟩
  rw [hg] at hb1 ⊢
  refine Ops.r (Run.asg rfl) rfl ?_
  refine Ops.nil ?_
  refine thenQ_n ?_
  refine VC.sub [(1, _)] (.cons rfl .nil) ?_
  refine VC.seq ?_
  refine VC.region ?_
  refine Ops.r (Run.mkFunc evs.nil (evs.cons rfl evs.nil)) rfl ?_
  refine Ops.r (Run.asg rfl) rfl ?_
  refine Ops.nil ?_
  refine thenQ_n ?_
  refine VC.sub [(1, _), (3, _)] (.cons rfl (.cons rfl .nil)) ?_
  refine VC.seq ?_
  refine VC.region ?_
  refine Ops.r (Run.mkFunc evs.nil (evs.cons rfl evs.nil)) rfl ?_
  refine Ops.r (Run.asg rfl) rfl ?_
  refine Ops.nil ?_
  refine thenQ_n ?_
  refine VC.sub [(3, _), (4, _)] (.cons rfl (.cons rfl .nil)) ?_
  refine VC.seq ?_
  refine VC.region ?_
  refine Ops.r (Run.mv rfl) rfl ?_
  refine Ops.cl (Enters.dyn rfl (evs.cons rfl (evs.cons rfl evs.nil)) Tryz.call32) ((env2_spec A c g1 q fromT nilT _ hb1 (ht.frm K) (hrd.frm K (by simp)) hq hc (by decide))) rfl ?_
  rintro e w2 ⟨rfl, fw2⟩
  refine ⟨_, rfl, ?_⟩
  have K := K.trans fw2 (by simp)
  have hb1 := hb1.frm fw2 (by simp)
  refine Ops.r (Run.asg rfl) rfl ?_
  refine Ops.nil ?_
  refine thenQ_n ?_
  refine VC.sub [(3, _), (4, _), (5, _)] (.cons rfl (.cons rfl (.cons rfl .nil))) ?_
  refine VC.seq ?_
  refine VC.region ?_
  refine Ops.r (Run.mv rfl) rfl ?_
  refine Ops.cl (Enters.dyn rfl (evs.cons rfl evs.nil) Tryz.call30) ((env1_spec A c g1 q datT _ hb1 (ht.frm K) (hrd.frm K (by simp)) hq hc (by decide))) rfl ?_
  rintro e w3 ⟨rfl, fw3⟩
  refine ⟨_, rfl, ?_⟩
  have K := K.trans fw3 (by simp)
  have hb1 := hb1.frm fw3 (by simp)
  refine Ops.r (Run.mv rfl) rfl ?_
  refine Ops.cl (Enters.dyn rfl (evs.cons rfl evs.nil) Tryz.call30) ((env1_spec A c g1 q subjT _ hb1 (ht.frm K) (hrd.frm K (by simp)) hq hc (by decide))) rfl ?_
  rintro e w4 ⟨rfl, fw4⟩
  refine ⟨_, rfl, ?_⟩
  have K := K.trans fw4 (by simp)
  have hb1 := hb1.frm fw4 (by simp)
  refine Ops.r (Run.mv rfl) rfl ?_
  refine Ops.r (Run.mv rfl) rfl ?_
  refine Ops.r (Run.mv rfl) rfl ?_
  refine Ops.cl (Enters.dyn rfl (evs.cons rfl (evs.cons rfl evs.nil)) Tryz.call32) ((env2_spec A c g1 q sendT (peopleS q fromT nilT) _ hb1 (ht.frm K) (hrd.frm K (by simp)) hq hc (by decide))) rfl ?_
  rintro e w5 ⟨rfl, fw5⟩
  refine ⟨_, rfl, ?_⟩
  have K := K.trans fw5 (by simp)
  have hb1 := hb1.frm fw5 (by simp)
  refine Ops.r (Run.mv rfl) rfl ?_
  refine Ops.r (Run.mv rfl) rfl ?_
  refine Ops.cl (Enters.dyn rfl (evs.cons rfl (evs.cons rfl evs.nil)) Tryz.call32) ((env2_spec A c g1 q replT (peopleS q fromT nilT) _ hb1 (ht.frm K) (hrd.frm K (by simp)) hq hc (by decide))) rfl ?_
  rintro e w6 ⟨rfl, fw6⟩
  refine ⟨_, rfl, ?_⟩
  have K := K.trans fw6 (by simp)
  have hb1 := hb1.frm fw6 (by simp)
  refine Ops.r (Run.mv rfl) rfl ?_
  refine Ops.cl (Enters.dyn rfl (evs.cons rfl (evs.cons rfl evs.nil)) Tryz.call32) ((env2_spec A c g1 q toT nilT _ hb1 (ht.frm K) (hrd.frm K (by simp)) hq hc (by decide))) rfl ?_
  rintro e w7 ⟨rfl, fw7⟩
  refine ⟨_, rfl, ?_⟩
  have K := K.trans fw7 (by simp)
  have hb1 := hb1.frm fw7 (by simp)
  refine Ops.r (Run.mv rfl) rfl ?_
  refine Ops.cl (Enters.dyn rfl (evs.cons rfl (evs.cons rfl evs.nil)) Tryz.call32) ((env2_spec A c g1 q ccT nilT _ hb1 (ht.frm K) (hrd.frm K (by simp)) hq hc (by decide))) rfl ?_
  rintro e w8 ⟨rfl, fw8⟩
  refine ⟨_, rfl, ?_⟩
  have K := K.trans fw8 (by simp)
  have hb1 := hb1.frm fw8 (by simp)
  refine Ops.r (Run.mv rfl) rfl ?_
  refine Ops.cl (Enters.dyn rfl (evs.cons rfl (evs.cons rfl evs.nil)) Tryz.call32) ((env2_spec A c g1 q bccT nilT _ hb1 (ht.frm K) (hrd.frm K (by simp)) hq hc (by decide))) rfl ?_
  rintro e w9 ⟨rfl, fw9⟩
  refine ⟨_, rfl, ?_⟩
  have K := K.trans fw9 (by simp)
  have hb1 := hb1.frm fw9 (by simp)
  refine Ops.r (Run.mv rfl) rfl ?_
  refine Ops.cl (Enters.dyn rfl (evs.cons rfl evs.nil) Tryz.call30) ((env1_spec A c g1 q inrT _ hb1 (ht.frm K) (hrd.frm K (by simp)) hq hc (by decide))) rfl ?_
  rintro e w10 ⟨rfl, fw10⟩
  refine ⟨_, rfl, ?_⟩
  have K := K.trans fw10 (by simp)
  have hb1 := hb1.frm fw10 (by simp)
  refine Ops.r (Run.mv rfl) rfl ?_
  refine Ops.cl (Enters.dyn rfl (evs.cons rfl evs.nil) Tryz.call30) ((env1_spec A c g1 q midT _ hb1 (ht.frm K) (hrd.frm K (by simp)) hq hc (by decide))) rfl ?_
  rintro e w11 ⟨rfl, fw11⟩
  refine ⟨_, rfl, ?_⟩
  have K := K.trans fw11 (by simp)
  have hb1 := hb1.frm fw11 (by simp)
  refine Ops.m (Does.buildN (cells := (SB [fieldS q datT nilT, fieldS q subjT nilT, peopleS q fromT nilT, peopleS q sendT (peopleS q fromT nilT), peopleS q replT (peopleS q fromT nilT), peopleS q toT nilT, peopleS q ccT nilT, peopleS q bccT nilT, fieldS q inrT nilT, fieldS q midT nilT]).toArray) (evs.cons rfl (evs.cons rfl (evs.cons rfl (evs.cons rfl (evs.cons rfl (evs.cons rfl (evs.cons rfl (evs.cons rfl (evs.cons rfl (evs.cons rfl evs.nil)))))))))) Tryz.underlying36 Tryz.sizeOf9 zero9 rfl rfl (by kernel_rfl)) rfl ?_
  rintro _ w12 ⟨rfl, hF12⟩
  have hr12 : Rd w12 1 (some ⟨_, 0, none⟩) 10 (SB [fieldS q datT nilT, fieldS q subjT nilT, peopleS q fromT nilT, peopleS q sendT (peopleS q fromT nilT), peopleS q replT (peopleS q fromT nilT), peopleS q toT nilT, peopleS q ccT nilT, peopleS q bccT nilT, fieldS q inrT nilT, fieldS q midT nilT]) := Rd.of_blk (n := 10) (size := 1) hF12.blk rfl
  have K := K.trans hF12.frm (by simp)
  refine Ops.cl (Enters.fn (evs.cons rfl evs.nil) Tryz.call34) ((list_spec _ _ [fieldS q datT nilT, fieldS q subjT nilT, peopleS q fromT nilT, peopleS q sendT (peopleS q fromT nilT), peopleS q replT (peopleS q fromT nilT), peopleS q toT nilT, peopleS q ccT nilT, peopleS q bccT nilT, fieldS q inrT nilT, fieldS q midT nilT] _ hr12 (by simp) (by simp) (by simp) (envS_flat hq))) rfl ?_
  rintro e w13 ⟨rfl, f13⟩
  refine ⟨_, rfl, ?_⟩
  have K := K.trans f13 (by simp)
  refine Ops.r (Run.asg rfl) rfl ?_
  refine Ops.nil ?_
  refine thenQ_n ?_
  refine VC.sub [(2, _)] (.cons rfl .nil) ?_
  refine VC.ret ?_
  refine end1 rfl ?_
  exact ⟨rfl, K⟩

end Go.Proofs.YtenbjndldenkfaaGreatDoor

namespace Go.Proofs.YtenbjndldenkfaaGreatDoor
open Go.RowKit

/-! ### what the parts that are found have -/
def newQ (s : Tx) (frm tu : Nat) (up : Int) (dg : Bool) : Prt := ⟨0, frm, frm + splitQ (sliceQ s frm tu), tu, mediaQ (sliceQ s frm tu) dg, up, 0⟩
theorem fnd_keeps (s : Tx) : ∀ (n : Nat) (l : List Prt) (frm tu : Nat) (up : Int) (dg : Bool), l.length ≤ 64 → l.length ≤ (fndQ s n l frm tu up dg).length ∧ (fndQ s n l frm tu up dg).length ≤ 64 := by
  intro n
  induction n with
  | zero =>
    intro l frm tu up dg hl
    unfold fndQ
    split
    · omega
    · dsimp only; rw [kid1_len]; simp; omega
  | succ n ih =>
    intro l frm tu up dg hl
    unfold fndQ
    split
    · omega
    · dsimp only
      have h1 : (kid1 (l ++ [(⟨0, frm, frm + splitQ (sliceQ s frm tu), tu, mediaQ (sliceQ s frm tu) dg, up, 0⟩ : Prt)]) up).length = l.length + 1 := by rw [kid1_len]; simp
      generalize kid1 (l ++ [(⟨0, frm, frm + splitQ (sliceQ s frm tu), tu, mediaQ (sliceQ s frm tu) dg, up, 0⟩ : Prt)]) up = l1 at *
      split
      · have := ih (setK l1 l.length 2) (frm + splitQ (sliceQ s frm tu)) tu (l.length : Int) false (by rw [setK_len]; omega)
        rw [setK_len] at this
        omega
      · split
        · omega
        · have key : ∀ (sp : List (Nat × Nat)) (acc : List Prt) (dg2 : Bool), acc.length ≤ 64 → acc.length ≤ (sp.foldl (fun acc x => fndQ s n (setK acc l.length 1) x.1 x.2 (l.length : Int) dg2) acc).length ∧ (sp.foldl (fun acc x => fndQ s n (setK acc l.length 1) x.1 x.2 (l.length : Int) dg2) acc).length ≤ 64 := by
            intro sp
            induction sp with
            | nil => exact fun acc _ h => ⟨Nat.le_refl _, h⟩
            | cons x r ihs =>
              intro acc dg2 ha
              rw [List.foldl_cons]
              have h2 := ih (setK acc l.length 1) x.1 x.2 (l.length : Int) dg2 (by rw [setK_len]; exact ha)
              rw [setK_len] at h2
              have h3 := ihs (fndQ s n (setK acc l.length 1) x.1 x.2 (l.length : Int) dg2) dg2 h2.2
              omega
          have := key (spansQ s (findQ (mediaQ (sliceQ s frm tu) dg).ps bndT).1 (frm + splitQ (sliceQ s frm tu)) tu) l1 (decide ((mediaQ (sliceQ s frm tu) dg).sub = digT)) (by omega)
          omega
/-- What holds of no parts, and yet when one is added, or has its kind told, holds of those that are found. -/
theorem fnd_inv (s : Tx) (Inv : List Prt → Prop) (hadd : ∀ (l : List Prt) (frm tu : Nat) (up : Int) (dg : Bool), Inv l → up < (l.length : Int) → Inv (kid1 (l ++ [newQ s frm tu up dg]) up)) (hset : ∀ (l : List Prt) (i k : Nat), Inv l → Inv (setK l i k)) :
    ∀ (n : Nat) (l : List Prt) (frm tu : Nat) (up : Int) (dg : Bool), l.length ≤ 64 → up < (l.length : Int) → Inv l → Inv (fndQ s n l frm tu up dg) := by
  intro n
  induction n with
  | zero =>
    intro l frm tu up dg hl hup hi
    unfold fndQ
    split
    · exact hi
    · exact hadd l frm tu up dg hi hup
  | succ n ih =>
    intro l frm tu up dg hl hup hi
    have h0 := hadd l frm tu up dg hi hup
    unfold fndQ
    split
    · exact hi
    · dsimp only
      have h1 : (kid1 (l ++ [newQ s frm tu up dg]) up).length = l.length + 1 := by rw [kid1_len]; simp
      unfold newQ at h0 h1
      generalize kid1 (l ++ [(⟨0, frm, frm + splitQ (sliceQ s frm tu), tu, mediaQ (sliceQ s frm tu) dg, up, 0⟩ : Prt)]) up = l1 at *
      split
      · exact ih _ _ _ _ _ (by rw [setK_len]; omega) (by rw [setK_len]; omega) (hset _ _ _ h0)
      · split
        · exact h0
        · have key : ∀ (sp : List (Nat × Nat)) (acc : List Prt) (dg2 : Bool), acc.length ≤ 64 → l.length < acc.length → Inv acc → Inv (sp.foldl (fun acc x => fndQ s n (setK acc l.length 1) x.1 x.2 (l.length : Int) dg2) acc) := by
            intro sp
            induction sp with
            | nil => exact fun acc _ _ _ h => h
            | cons x r ihs =>
              intro acc dg2 ha hla hia
              rw [List.foldl_cons]
              have hk := fnd_keeps s n (setK acc l.length 1) x.1 x.2 (l.length : Int) dg2 (by rw [setK_len]; exact ha)
              rw [setK_len] at hk
              exact ihs _ dg2 hk.2 (by omega) (ih _ _ _ _ _ (by rw [setK_len]; exact ha) (by rw [setK_len]; omega) (hset _ _ _ hia))
          exact key _ _ _ (by omega) (by omega) h0
theorem parts_inv (s : Tx) (Inv : List Prt → Prop) (h0 : Inv []) (hadd : ∀ (l : List Prt) (frm tu : Nat) (up : Int) (dg : Bool), Inv l → up < (l.length : Int) → Inv (kid1 (l ++ [newQ s frm tu up dg]) up)) (hset : ∀ (l : List Prt) (i k : Nat), Inv l → Inv (setK l i k)) : Inv (partsQ s) :=
  fnd_inv s Inv hadd hset 6 [] 0 s.length (-1) false (by simp) (by simp) h0
def MedOk (N : Nat) (m : Med) : Prop := m.ty.length ≤ N + 10 ∧ m.sub.length ≤ N + 10 ∧ m.ps.length ≤ N + 1 ∧ ∀ p ∈ m.ps, p.1.length ≤ N ∧ p.2.length ≤ N
theorem aftB_len (x : UInt8) (s : Tx) : (aftF x s).length ≤ s.length := by
  induction s with
  | nil => exact Nat.le_refl _
  | cons c r ih =>
    unfold aftF
    split
    · simp
    · simp only [List.length_cons]; omega
theorem medQ_ok (q : Tx) : MedOk q.length (medQ q) := by
  have h0 : MedOk q.length med0 := ⟨by simp [med0], by simp [med0], by simp [med0], by simp [med0]⟩
  have hc := pcs_count _ false q (Nat.le_refl _)
  have hl := pcs_len _ false q (Nat.le_refl _)
  unfold medQ
  split
  · exact h0
  · rename_i p ps h
    rw [h] at hc hl
    have hp := hl p (by simp)
    have ht := trimQ_len p
    have hb := bef_len 47 (trimQ p)
    have ha := aftB_len 47 (trimQ p)
    unfold medOf
    split
    · refine ⟨?_, ?_, ?_, ?_⟩
      · show (smallS _).length ≤ _
        rw [smallS_len]; omega
      · show (smallS _).length ≤ _
        rw [smallS_len]; omega
      · show (ps.flatMap parQ).length ≤ _
        have := pars_count ps
        simp only [List.length_cons] at hc
        omega
      · intro y hy
        have hy : y ∈ ps.flatMap parQ := hy
        obtain ⟨z, hz, hyz⟩ := List.mem_flatMap.1 hy
        have hzl := hl z (by simp [hz])
        unfold parQ at hyz
        split at hyz
        · simp only [List.mem_singleton] at hyz
          subst hyz
          have g1 := bef_len 61 z
          have g2 := trimQ_len (befF 61 z)
          have g3 := aftB_len 61 z
          have g4 := valQ_len (aftF 61 z)
          refine ⟨?_, ?_⟩
          · show (nameQ z).length ≤ _
            unfold nameQ
            rw [smallS_len]; omega
          · show (valQ _).length ≤ _; omega
        · simp at hyz
    · exact h0
theorem mediaM_ok {s : Tx} {a b : Nat} {dg : Bool} : MedOk s.length (mediaQ (sliceQ s a b) dg) := by
  have hs : (sliceQ s a b).length ≤ s.length := by unfold sliceQ; simp; omega
  have hf := findH_len (sliceQ s a b) ctype
  unfold mediaQ
  split
  · exact ⟨by simp [msgT], by simp [rfcT], by simp, by simp⟩
  · obtain ⟨h1, h2, h3, h4⟩ := medQ_ok (findH (sliceQ s a b) ctype).1
    exact ⟨by omega, by omega, by omega, fun p hp => by have := h4 p hp; omega⟩
theorem parts_med (s : Tx) : ∀ p ∈ partsQ s, MedOk s.length p.m := by
  refine parts_inv s (fun l => ∀ p ∈ l, MedOk s.length p.m) (by simp) ?_ ?_
  · intro l frm tu up dg hi _ p hp
    obtain ⟨k, hk⟩ := List.mem_iff_getElem?.1 hp
    obtain ⟨q, hq, c, rfl⟩ := kid1_get _ _ _ hk
    rcases List.mem_append.1 (List.mem_of_getElem? hq) with h | h
    · exact hi q h
    · simp only [List.mem_singleton] at h
      subst h
      exact mediaM_ok
  · intro l i k hi p hp
    obtain ⟨j, hj⟩ := List.mem_iff_getElem?.1 hp
    rw [setK_get] at hj
    obtain ⟨q, hq, rfl⟩ := Option.map_eq_some_iff.1 hj
    have := hi q (List.mem_of_getElem? hq)
    split <;> exact this
/-- How many parts are within another one. -/
def cntK (i : Int) : List Prt → Nat
  | [] => 0
  | p :: r => (if p.up = i then 1 else 0) + cntK i r
theorem cntK_app (i : Int) : ∀ a b : List Prt, cntK i (a ++ b) = cntK i a + cntK i b
  | [], _ => by show _ = 0 + _; rw [Nat.zero_add]; rfl
  | p :: a, b => by
    show _ + cntK i (a ++ b) = _ + cntK i a + _
    rw [cntK_app i a b, Nat.add_assoc]
theorem cntK_ups (i : Int) : ∀ {a b : List Prt}, a.map (·.up) = b.map (·.up) → cntK i a = cntK i b
  | [], [], _ => rfl
  | [], _ :: _, h => by simp at h
  | _ :: _, [], h => by simp at h
  | p :: a, q :: b, h => by
    simp only [List.map_cons, List.cons.injEq] at h
    show (if p.up = i then 1 else 0) + cntK i a = (if q.up = i then 1 else 0) + cntK i b
    rw [h.1, cntK_ups i h.2]
theorem kid1_ups (l : List Prt) (up : Int) : (kid1 l up).map (·.up) = l.map (·.up) := by
  unfold kid1
  split
  · apply List.ext_getElem?
    intro j
    rw [List.getElem?_map, List.getElem?_map, List.getElem?_modify]
    cases l[j]? with
    | none => rfl
    | some p => by_cases e : up.toNat = j <;> simp [e]
  · rfl
theorem setK_ups (l : List Prt) (i k : Nat) : (setK l i k).map (·.up) = l.map (·.up) := by
  apply List.ext_getElem?
  intro j
  rw [List.getElem?_map, List.getElem?_map, setK_get]
  cases l[j]? with
  | none => rfl
  | some p => by_cases e : i = j <;> simp [e]
def KidsQk (l : List Prt) : Prop := (∀ (k : Nat) (p : Prt), l[k]? = some p → p.kids = cntK (k : Int) l ∧ p.up < (k : Int))
theorem cntK_none {l : List Prt} (h : ∀ (k : Nat) (p : Prt), l[k]? = some p → p.up < (k : Int)) (j : Nat) (hj : l.length ≤ j) : cntK (j : Int) l = 0 := by
  have key : ∀ (r : List Prt), (∀ p ∈ r, p.up < (j : Int)) → cntK (j : Int) r = 0 := by
    intro r
    induction r with
    | nil => intro _; rfl
    | cons p r ih =>
      intro hr
      show (if p.up = (j : Int) then 1 else 0) + cntK (j : Int) r = 0
      rw [if_neg (by have := hr p (by simp); omega), ih fun q hq => hr q (by simp [hq])]
  refine key l fun p hp => ?_
  obtain ⟨k, hk⟩ := List.mem_iff_getElem?.1 hp
  have h1 := h k p hk
  have h2 := (List.getElem?_eq_some_iff.1 hk).1
  omega
theorem parts_kids (s : Tx) : KidsQk (partsQ s) := by
  refine parts_inv s KidsQk (fun k p h => by simp at h) ?_ ?_
  · intro l frm tu up dg hi hup
    have hups : (kid1 (l ++ [newQ s frm tu up dg]) up).map (·.up) = (l ++ [newQ s frm tu up dg]).map (·.up) := kid1_ups _ _
    have hlt : ∀ (k : Nat) (p : Prt), l[k]? = some p → p.up < (k : Int) := fun k p h => (hi k p h).2
    intro k p hk
    have hc : cntK (k : Int) (kid1 (l ++ [newQ s frm tu up dg]) up) = cntK (k : Int) l + (if up = (k : Int) then 1 else 0) := by
      rw [cntK_ups _ hups, cntK_app]
      rfl
    have hkk : (if 0 ≤ up then (l ++ [newQ s frm tu up dg]).modify up.toNat (fun p => { p with kids := p.kids + 1 }) else (l ++ [newQ s frm tu up dg]))[k]? = some p := hk
    have hold : ∀ q : Prt, (l ++ [newQ s frm tu up dg])[k]? = some q → q.kids = cntK (k : Int) l ∧ q.up < (k : Int) := by
      intro q hq
      by_cases hkl : k < l.length
      · rw [List.getElem?_append_left hkl] at hq
        exact hi k q hq
      · have hkl2 : k = l.length := by
          have := (List.getElem?_eq_some_iff.1 hq).1
          simp at this
          omega
        subst hkl2
        rw [List.getElem?_concat_length] at hq
        cases hq
        exact ⟨(cntK_none hlt _ (Nat.le_refl _)).symm, hup⟩
    rw [hc]
    split at hkk
    · rename_i h0
      rw [List.getElem?_modify] at hkk
      cases hq : (l ++ [newQ s frm tu up dg])[k]? with
      | none => rw [hq] at hkk; simp at hkk
      | some q =>
        obtain ⟨h1, h2⟩ := hold q hq
        rw [hq] at hkk
        simp only [Option.map_eq_map, Option.map_some, Option.some.injEq] at hkk
        by_cases e : up.toNat = k
        · rw [if_pos e] at hkk
          subst hkk
          refine ⟨?_, h2⟩
          show q.kids + 1 = _
          rw [if_pos (by omega), h1]
        · rw [if_neg e] at hkk
          subst hkk
          refine ⟨?_, h2⟩
          rw [if_neg (by omega), h1, Nat.add_zero]
    · rename_i h0
      obtain ⟨h1, h2⟩ := hold p hkk
      refine ⟨?_, h2⟩
      rw [if_neg (by omega), h1, Nat.add_zero]
  · intro l i k hi j p hj
    rw [setK_get] at hj
    obtain ⟨q, hq, rfl⟩ := Option.map_eq_some_iff.1 hj
    have := hi j q hq
    rw [cntK_ups _ (setK_ups l i k)]
    split <;> exact this

/-! ### the shape -/
def cidT : Tx := [67, 111, 110, 116, 101, 110, 116, 45, 73, 68]
def cdsT : Tx := [67, 111, 110, 116, 101, 110, 116, 45, 68, 101, 115, 99, 114, 105, 112, 116, 105, 111, 110]
def cteT : Tx := [67, 111, 110, 116, 101, 110, 116, 45, 84, 114, 97, 110, 115, 102, 101, 114, 45, 69, 110, 99, 111, 100, 105, 110, 103]
def bitT : Tx := [55, 98, 105, 116]
def texT : Tx := [116, 101, 120, 116]
def parsL (ps : List Par) : List Tx := ps.flatMap fun p => [strQ p.1, strQ p.2]
def parsS (ps : List Par) : Tx := if ps = [] then nilT else listQ (parsL ps)
def linesS (q : Tx) (p : Prt) : Tx := Lib.decDigits ((sliceQ q p.body p.tu).count 10)
def leaf7 (q : Tx) (p : Prt) : List Tx := [strQ p.m.ty, strQ p.m.sub, parsS p.m.ps, fieldS (sliceQ q p.frm p.body) cidT nilT, fieldS (sliceQ q p.frm p.body) cdsT nilT, fieldS (sliceQ q p.frm p.body) cteT (strQ bitT), Lib.decDigits (p.tu - p.body)]
def leafL (q : Tx) (p : Prt) (mid : List Tx) : List Tx := (leaf7 q p ++ mid) ++ (if p.m.ty = texT then [linesS q p] else [])
/-- What the parts within another one give, one behind the other. -/
def kidsC (f : Nat → Tx) (i : Int) : List Prt → Nat → Tx
  | [], _ => []
  | p :: r, k => (if p.up = i then f k else []) ++ kidsC f i r (k + 1)
def midL (f : Nat → Tx) (q : Tx) (l : List Prt) (i : Nat) (p : Prt) : List Tx :=
  if p.kind = 2 ∧ 0 ≤ kidQ l i 1 then (match l[(kidQ l i 1).toNat]? with
    | some k => [envS (sliceQ q k.frm k.tu), f (kidQ l i 1).toNat, linesS q p]
    | none => []) else []
def oneP (f : Nat → Tx) (q : Tx) (l : List Prt) (i : Nat) (p : Prt) : Tx :=
  if p.kind = 1 then 40 :: (kidsC f i l 0 ++ (32 :: (strQ p.m.sub ++ [41]))) else listQ (leafL q p (midL f q l i p))
def oneS : Nat → Tx → List Prt → Nat → Tx
  | 0, _, _, _ => []
  | n + 1, q, l, i => match l[i]? with
    | none => []
    | some p => oneP (oneS n q l) q l i p
def bodyS (q : Tx) : Tx := oneS 64 q (partsQ q) 0
theorem oneS_at {n : Nat} {q : Tx} {l : List Prt} {i : Nat} {p : Prt} (h : l[i]? = some p) : oneS (n + 1) q l i = oneP (oneS n q l) q l i p := by
  conv => lhs; unfold oneS
  rw [h]
theorem kidsC_congr {f g : Nat → Tx} {i : Int} : ∀ {l : List Prt} {k : Nat}, (∀ (j : Nat) (p : Prt), l[j]? = some p → p.up = i → f (k + j) = g (k + j)) → kidsC f i l k = kidsC g i l k
  | [], _, _ => rfl
  | p :: r, k, h => by
    show (if p.up = i then f k else []) ++ kidsC f i r (k + 1) = (if p.up = i then g k else []) ++ kidsC g i r (k + 1)
    have e : kidsC f i r (k + 1) = kidsC g i r (k + 1) := kidsC_congr fun j q hj hq => by
      have := h (j + 1) q (by simpa using hj) hq
      rw [show k + 1 + j = k + (j + 1) by omega]
      exact this
    rw [e]
    congr 1
    split
    · exact h 0 p rfl (by assumption)
    · rfl
theorem oneP_congr {f g : Nat → Tx} {q : Tx} {l : List Prt} {i : Nat} {p : Prt} (h : ∀ (j : Nat) (y : Prt), l[j]? = some y → y.up = (i : Int) → f j = g j) : oneP f q l i p = oneP g q l i p := by
  have h1 : kidsC f i l 0 = kidsC g i l 0 := kidsC_congr fun j y hj hy => by rw [Nat.zero_add]; exact h j y hj hy
  have h2 : midL f q l i p = midL g q l i p := by
    unfold midL
    split
    · rename_i hc
      rcases kidQ_res l i 1 with hk | ⟨j, y, hj, hk, hy⟩
      · omega
      · rw [hk, Int.toNat_natCast, hj]
        dsimp only
        rw [h j y hj hy]
    · rfl
  unfold oneP
  rw [h1, h2]
/-- How deep one may go plays no part, if it is enough. -/
theorem oneS_deep {q : Tx} {l : List Prt} (hup : ∀ (k : Nat) (p : Prt), l[k]? = some p → p.up < (k : Int)) : ∀ (n m i : Nat), l.length - i ≤ n → l.length - i ≤ m → oneS n q l i = oneS m q l i := by
  have hout : ∀ m i, l.length ≤ i → oneS m q l i = [] := by
    intro m i hi
    cases m with
    | zero => rfl
    | succ m => unfold oneS; rw [List.getElem?_eq_none hi]
  intro n
  induction n with
  | zero => intro m i h1 _; rw [hout 0 i (by omega), hout m i (by omega)]
  | succ n ih =>
    intro m i h1 h2
    by_cases hi : i < l.length
    · cases m with
      | zero => omega
      | succ m =>
        rw [oneS_at (List.getElem?_eq_getElem hi), oneS_at (List.getElem?_eq_getElem hi)]
        refine oneP_congr fun j y hj hy => ih m j ?_ ?_
        · have := hup j y hj; omega
        · have := hup j y hj; omega
    · rw [hout _ i (by omega), hout _ i (by omega)]
def smE (F : Nat → Nat) (c : Int) : List Prt → Nat → Nat
  | [], _ => 0
  | p :: r, k => (if p.up = c then F k else 0) + smE F c r (k + 1)
def smL (F : Nat → Nat) (b : Int) : List Prt → Nat → Nat
  | [], _ => 0
  | p :: r, k => (if p.up < b then F k else 0) + smL F b r (k + 1)
theorem kidsC_len (f : Nat → Tx) (i : Int) : ∀ (l : List Prt) (k : Nat), (kidsC f i l k).length = smE (fun j => (f j).length) i l k
  | [], _ => rfl
  | p :: r, k => by
    show ((if p.up = i then f k else []) ++ kidsC f i r (k + 1)).length = _
    rw [List.length_append, kidsC_len f i r]
    show _ = (if p.up = i then (f k).length else 0) + smE (fun j => (f j).length) i r (k + 1)
    congr 1
    split <;> rfl
theorem smL_succ (F : Nat → Nat) (b : Nat) : ∀ (l : List Prt) (k : Nat), smL F ((b + 1 : Nat) : Int) l k = smL F (b : Int) l k + smE F (b : Int) l k
  | [], _ => rfl
  | p :: r, k => by
    have := smL_succ F b r (k + 1)
    show (if p.up < ((b + 1 : Nat) : Int) then F k else 0) + smL F ((b + 1 : Nat) : Int) r (k + 1) = (if p.up < (b : Int) then F k else 0) + smL F (b : Int) r (k + 1) + ((if p.up = (b : Int) then F k else 0) + smE F (b : Int) r (k + 1))
    rw [this]
    by_cases h1 : p.up < (b : Int)
    · rw [if_pos (by omega), if_pos h1, if_neg (by omega)]; omega
    · by_cases h2 : p.up = (b : Int)
      · rw [if_pos (by omega), if_neg h1, if_pos h2]; omega
      · rw [if_neg (by omega), if_neg h1, if_neg h2]; omega
theorem smE_late {F : Nat → Nat} {l : List Prt} (hup : ∀ (k : Nat) (p : Prt), l[k]? = some p → p.up < (k : Int)) (i : Nat) : ∀ j, j ≤ i + 1 → smE F (i : Int) l 0 = smE F (i : Int) (l.drop j) j := by
  intro j
  induction j with
  | zero => intro _; rfl
  | succ j ih =>
    intro hj
    rw [ih (by omega)]
    by_cases hl : j < l.length
    · have h1 := hup j _ (List.getElem?_eq_getElem hl)
      rw [List.drop_eq_getElem_cons hl]
      show (if l[j].up = (i : Int) then F j else 0) + smE F (i : Int) (l.drop (j + 1)) (j + 1) = _
      rw [if_neg (by omega), Nat.zero_add]
    · rw [List.drop_eq_nil_of_le (by omega), List.drop_eq_nil_of_le (by omega)]
      rfl
theorem mass {F : Nat → Nat} {C : Nat} {l : List Prt} (hup : ∀ (k : Nat) (p : Prt), l[k]? = some p → p.up < (k : Int)) (hF : ∀ i, i < l.length → F i ≤ C + smE F (i : Int) l 0) :
    ∀ d i : Nat, i + d = l.length → smL F (i : Int) (l.drop i) i ≤ C * d := by
  intro d
  induction d with
  | zero =>
    intro i hi
    rw [List.drop_eq_nil_of_le (by omega)]
    exact Nat.zero_le _
  | succ d ih =>
    intro i hi
    have hl : i < l.length := by omega
    have h1 := ih (i + 1) (by omega)
    have h2 := hF i hl
    rw [smE_late hup i (i + 1) (Nat.le_refl _)] at h2
    rw [smL_succ] at h1
    rw [List.drop_eq_getElem_cons hl]
    show (if l[i].up < (i : Int) then F i else 0) + smL F (i : Int) (l.drop (i + 1)) (i + 1) ≤ _
    rw [if_pos (hup i _ (List.getElem?_eq_getElem hl)), Nat.mul_succ]
    omega
theorem mass_at {F : Nat → Nat} {C : Nat} {l : List Prt} (hup : ∀ (k : Nat) (p : Prt), l[k]? = some p → p.up < (k : Int)) (hF : ∀ i, i < l.length → F i ≤ C + smE F (i : Int) l 0) {i : Nat} (hi : i < l.length) : F i ≤ C * l.length := by
  have h := mass hup hF (l.length - i) i (by omega)
  rw [List.drop_eq_getElem_cons hi] at h
  have h2 : F i ≤ smL F (i : Int) (l[i] :: l.drop (i + 1)) i := by
    show _ ≤ (if l[i].up < (i : Int) then F i else 0) + _
    rw [if_pos (hup i _ (List.getElem?_eq_getElem hi))]
    omega
  exact Nat.le_trans h2 (Nat.le_trans h (Nat.mul_le_mul_left _ (Nat.sub_le _ _)))
theorem smE_one {F : Nat → Nat} {c : Int} : ∀ {l : List Prt} {k j : Nat} {p : Prt}, l[j]? = some p → p.up = c → F (k + j) ≤ smE F c l k
  | [], _, _, _, h, _ => by simp at h
  | x :: r, k, 0, p, h, hp => by
    simp only [List.getElem?_cons_zero, Option.some.injEq] at h
    subst h
    show _ ≤ (if x.up = c then F k else 0) + _
    rw [if_pos hp]
    exact Nat.le_add_right _ _
  | x :: r, k, j + 1, p, h, hp => by
    have := smE_one (F := F) (c := c) (l := r) (k := k + 1) (j := j) (p := p) (by simpa using h) hp
    show _ ≤ _ + smE F c r (k + 1)
    rw [show k + (j + 1) = k + 1 + j by omega]
    omega
theorem parsL_len {N : Nat} : ∀ {ps : List Par}, (∀ p ∈ ps, p.1.length ≤ N ∧ p.2.length ≤ N) → (parsL ps).flatten.length ≤ ps.length * (4 * N + 12) ∧ (parsL ps).length = 2 * ps.length
  | [], _ => ⟨by simp [parsL], rfl⟩
  | p :: r, h => by
    obtain ⟨h1, h2⟩ := parsL_len (ps := r) fun x hx => h x (by simp [hx])
    have h3 := h p (by simp)
    have g1 := strQ_len p.1
    have g2 := strQ_len p.2
    have e : parsL (p :: r) = strQ p.1 :: strQ p.2 :: parsL r := rfl
    rw [e]
    simp only [List.flatten_cons, List.length_append, List.length_cons, Nat.add_mul]
    exact ⟨by omega, by omega⟩
theorem parsS_len {q : Tx} {m : Med} (hq : q.length ≤ 2000) (h : MedOk q.length m) : (parsS m.ps).length ≤ 17000000 := by
  obtain ⟨_, _, h3, h4⟩ := h
  obtain ⟨g1, g2⟩ := parsL_len h4
  have g3 : m.ps.length * (4 * q.length + 12) ≤ 2001 * 8012 := Nat.mul_le_mul (by omega) (by omega)
  have g4 := listQ_len (parsL m.ps)
  unfold parsS
  split
  · simp [nilT]
  · omega
theorem leafL_len {q : Tx} {p : Prt} {mid : List Tx} (hq : q.length ≤ 2000) (h : MedOk q.length p.m) : (leafL q p mid).flatten.length ≤ 17100000 + mid.flatten.length + p.tu ∧ (leafL q p mid).length ≤ 8 + mid.length := by
  have hs : (sliceQ q p.frm p.body).length ≤ 2000 := by unfold sliceQ; simp; omega
  have hn : nilT.length = 3 := rfl
  have f1 := fieldS_len (sliceQ q p.frm p.body) cidT nilT 4006 (by omega) (by omega)
  have f2 := fieldS_len (sliceQ q p.frm p.body) cdsT nilT 4006 (by omega) (by omega)
  have f3 := fieldS_len (sliceQ q p.frm p.body) cteT (strQ bitT) 4006 (by omega) (by have := strQ_len bitT; have e : bitT.length = 4 := rfl; omega)
  have f4 := parsS_len hq h
  have f5 := strQ_len p.m.ty
  have f6 := strQ_len p.m.sub
  obtain ⟨h1, h2, _, _⟩ := h
  have f7 := decL (p.tu - p.body)
  have f8 : (linesS q p).length ≤ 2001 := by
    have := decL ((sliceQ q p.body p.tu).count 10)
    have g := List.count_le_length (a := 10) (l := sliceQ q p.body p.tu)
    have g2 : (sliceQ q p.body p.tu).length ≤ 2000 := by unfold sliceQ; simp; omega
    unfold linesS
    omega
  have f9 : (if p.m.ty = texT then [linesS q p] else []).flatten.length ≤ 2001 ∧ (if p.m.ty = texT then [linesS q p] else []).length ≤ 1 := by
    split
    · exact ⟨by simpa using f8, by simp⟩
    · exact ⟨by simp, by simp⟩
  unfold leafL leaf7
  simp only [List.flatten_append, List.flatten_cons, List.length_append, List.flatten_nil, List.length_nil, List.length_cons]
  omega
theorem midL_len {f : Nat → Tx} {q : Tx} {l : List Prt} {i : Nat} {p : Prt} (hq : q.length ≤ 2000) : (midL f q l i p).flatten.length ≤ 400002001 + smE (fun j => (f j).length) (i : Int) l 0 ∧ (midL f q l i p).length ≤ 3 := by
  have f8 : (linesS q p).length ≤ 2001 := by
    have := decL ((sliceQ q p.body p.tu).count 10)
    have g := List.count_le_length (a := 10) (l := sliceQ q p.body p.tu)
    have g2 : (sliceQ q p.body p.tu).length ≤ 2000 := by unfold sliceQ; simp; omega
    unfold linesS
    omega
  unfold midL
  split
  · rcases kidQ_res l i 1 with hk | ⟨j, y, hj, hk, hy⟩
    · omega
    · rw [hk, Int.toNat_natCast, hj]
      have g1 := envS_len (q := sliceQ q y.frm y.tu) (by unfold sliceQ; simp; omega)
      have g2 := smE_one (F := fun j => (f j).length) (k := 0) hj hy
      rw [Nat.zero_add] at g2
      dsimp only
      simp only [List.flatten_cons, List.length_append, List.flatten_nil, List.length_nil, List.length_cons]
      omega
  · exact ⟨by simp, by simp⟩
theorem oneP_len {f : Nat → Tx} {q : Tx} {l : List Prt} {i : Nat} {p : Prt} (hq : q.length ≤ 2000) (h : MedOk q.length p.m) (ht : p.tu ≤ q.length) : (oneP f q l i p).length ≤ 500000000 + smE (fun j => (f j).length) (i : Int) l 0 := by
  unfold oneP
  split
  · have f6 := strQ_len p.m.sub
    have h2 := h.2.1
    have := kidsC_len f i l 0
    simp only [List.length_cons, List.length_append, List.length_nil]
    omega
  · have h1 := listQ_len (leafL q p (midL f q l i p))
    have h2 := leafL_len (mid := midL f q l i p) hq h
    have h3 := midL_len (f := f) (l := l) (i := i) (p := p) hq
    omega
theorem oneS_len {q : Tx} (hq : q.length ≤ 2000) {n i : Nat} (hn : 64 ≤ n + i) (hi : i < (partsQ q).length) : (oneS n q (partsQ q) i).length ≤ 32000000000 := by
  obtain ⟨hok, hl64, _⟩ := parts_ok q
  have hup : ∀ (k : Nat) (p : Prt), (partsQ q)[k]? = some p → p.up < (k : Int) := fun k p h => (hok k p h).2.2.2.2.1
  have hm := parts_med q
  generalize partsQ q = l at *
  rw [oneS_deep hup n 64 i (by omega) (by omega)]
  refine Nat.le_trans (mass_at (F := fun i => (oneS 64 q l i).length) (C := 500000000) hup ?_ hi) ?_
  · intro j hj
    have hp := List.getElem?_eq_getElem hj
    have h1 := oneP_len (f := oneS 63 q l) (i := j) (l := l) hq (hm _ (List.getElem_mem hj)) (hok j _ hp).2.2.1
    rw [← oneS_at hp] at h1
    refine Nat.le_trans h1 ?_
    have e : smE (fun k => (oneS 63 q l k).length) (j : Int) l 0 = smE (fun k => (oneS 64 q l k).length) (j : Int) l 0 := by
      rw [← kidsC_len, ← kidsC_len]
      rw [kidsC_congr (f := oneS 63 q l) (g := oneS 64 q l) fun k y hk hy => by
        rw [Nat.zero_add]
        have := hup k y hk
        exact oneS_deep hup 63 64 k (by omega) (by omega)]
    rw [e]
    exact Nat.le_refl _
  · have := Nat.mul_le_mul_left 500000000 hl64
    omega

theorem kidsC_none (f : Nat → Tx) (i : Int) : ∀ {r : List Prt} {k : Nat}, cntK i r = 0 → kidsC f i r k = []
  | [], _, _ => rfl
  | p :: r, k, h => by
    have h : (if p.up = i then 1 else 0) + cntK i r = 0 := h
    have h1 : ¬ p.up = i := fun e => by rw [if_pos e] at h; omega
    rw [if_neg h1] at h
    show (if p.up = i then f k else []) ++ kidsC f i r (k + 1) = []
    rw [if_neg h1, kidsC_none f i (r := r) (by omega)]
    rfl
theorem kidL_first (f : Nat → Tx) (i : Int) : ∀ (r : List Prt) (k : Nat), 0 < cntK i r → ∃ (j : Nat) (p : Prt), r[j]? = some p ∧ p.up = i ∧ kidL i r k 1 = ((k + j : Nat) : Int) ∧ cntK i (r.take (j + 1)) = 1 ∧ kidsC f i r k = f (k + j) ++ kidsC f i (r.drop (j + 1)) (k + j + 1)
  | [], _, h => absurd h (by show ¬ 0 < 0; omega)
  | p :: r, k, h => by
    by_cases e : p.up = i
    · refine ⟨0, p, rfl, e, ?_, ?_, ?_⟩
      · unfold kidL; rw [if_pos e, if_pos rfl, Nat.add_zero]
      · show (if p.up = i then 1 else 0) + 0 = 1
        rw [if_pos e]
      · show (if p.up = i then f k else []) ++ kidsC f i r (k + 1) = _
        rw [if_pos e]
        rfl
    · have h : 0 < (if p.up = i then 1 else 0) + cntK i r := h
      rw [if_neg e] at h
      obtain ⟨j, q, h1, h2, h3, h4, h5⟩ := kidL_first f i r (k + 1) (by omega)
      refine ⟨j + 1, q, by simpa using h1, h2, ?_, ?_, ?_⟩
      · unfold kidL; rw [if_neg e, h3]; congr 1; omega
      · show (if p.up = i then 1 else 0) + cntK i (r.take (j + 1)) = 1
        rw [if_neg e, h4]
      · show (if p.up = i then f k else []) ++ kidsC f i r (k + 1) = _
        rw [if_neg e, h5, show k + 1 + j = k + (j + 1) by omega]
        rfl
theorem kidL_skip (i : Int) : ∀ (a b : List Prt) (k : Nat) (n : Nat), cntK i a < n → kidL i (a ++ b) k (n : Int) = kidL i b (k + a.length) ((n - cntK i a : Nat) : Int)
  | [], b, k, n, _ => rfl
  | p :: a, b, k, n, h => by
    have h : (if p.up = i then 1 else 0) + cntK i a < n := h
    have e2 : cntK i (p :: a) = (if p.up = i then 1 else 0) + cntK i a := rfl
    rw [e2, List.length_cons, show k + (a.length + 1) = k + 1 + a.length by omega]
    show (if p.up = i then (if (n : Int) = 1 then (k : Int) else kidL i (a ++ b) (k + 1) ((n : Int) - 1)) else kidL i (a ++ b) (k + 1) (n : Int)) = _
    by_cases e : p.up = i
    · rw [if_pos e] at h ⊢
      rw [if_neg (by omega), show ((n : Int) - 1) = ((n - 1 : Nat) : Int) by omega, kidL_skip i a b (k + 1) (n - 1) (by omega), if_pos e, show n - 1 - cntK i a = n - (1 + cntK i a) by omega]
    · rw [if_neg e] at h ⊢
      rw [kidL_skip i a b (k + 1) n (by omega), if_neg e, show n - cntK i a = n - (0 + cntK i a) by omega]
/-- The next part within another one. -/
theorem kid_next (f : Nat → Tx) {i : Int} {l : List Prt} {pos j : Nat} (hp : pos ≤ l.length) (h1 : cntK i (l.take pos) = j) (h2 : j < cntK i l) :
    ∃ (k : Nat) (p : Prt), pos ≤ k ∧ l[k]? = some p ∧ p.up = i ∧ kidQ l i ((j + 1 : Nat) : Int) = (k : Int) ∧ cntK i (l.take (k + 1)) = j + 1 ∧ kidsC f i (l.drop pos) pos = f k ++ kidsC f i (l.drop (k + 1)) (k + 1) := by
  have e : l.take pos ++ l.drop pos = l := List.take_append_drop pos l
  have hc : cntK i l = j + cntK i (l.drop pos) := by conv => lhs; rw [← e, cntK_app, h1]
  obtain ⟨m, p, g1, g2, g3, g4, g5⟩ := kidL_first f i (l.drop pos) pos (by omega)
  have hlt : (l.take pos).length = pos := by rw [List.length_take]; omega
  refine ⟨pos + m, p, by omega, by rw [← List.getElem?_drop]; exact g1, g2, ?_, ?_, ?_⟩
  · have := kidL_skip i (l.take pos) (l.drop pos) 0 (j + 1) (by omega)
    rw [e, h1, Nat.zero_add, hlt, show j + 1 - j = 1 by omega] at this
    unfold kidQ
    rw [this]
    exact g3
  · rw [show pos + m + 1 = pos + (m + 1) by omega, List.take_add, cntK_app, h1, g4]
  · rw [g5, List.drop_drop]
    rfl
/-! ### each ( has its ) -/
end Go.Proofs.YtenbjndldenkfaaGreatDoor

namespace Go.Proofs.YtenbjndldenkfaaGreatDoor
open Go.RowKit Go.Sort

set_option maxRecDepth 100000 in
theorem plines_iter (q : Tx) (A : Option Addr) (c g1 g2 g3 frm tu : Nat) (hs : q.length ≤ 1000000) (hc : q.length ≤ c) (hft : frm ≤ tu) (htl : tu ≤ q.length) (hn12 : g1 ≠ g2) (hn13 : g1 ≠ g3) (hnA : g1 ∉ obN A q.length) :
    Iter Tryz.prog 185 #[.pointer (some ⟨g1, 0, none⟩), .pointer (some ⟨g2, 0, none⟩), .pointer (some ⟨g3, 0, none⟩)] (fun x : Nat × Nat => #[.int .i64 ((x.1 : Nat) : Int), .int .i64 ((x.2 : Nat) : Int)]) [g1] (g1 :: g2 :: g3 :: obN A q.length) (fun w => Blk w g1 3 #[.int .i64 ((frm : Nat) : Int)] ∧ Blk w g2 3 #[.int .i64 ((tu : Nat) : Int)] ∧ Blk w g3 22 #[.slice A q.length c] ∧ Rd w 1 A q.length (U8 q)) (offsF frm (linesF (sliceQ q frm tu))) := by
  intro l J Jx w hJ hJx hK hY h0
  obtain ⟨hb1, hb2, hb3, hrd⟩ := hK
  refine VC.calls (nt := 28) (res := #[]) Tryz.func185 rfl Tryz.ntmps185 Tryz.results185 rfl ?_
  refine VC.block ?_
  refine VC.loop (σ := Nat × List (Nat × Nat)) (fun s1 => [(0, .func (.yield l) #[] #[]), (1, .pointer (some ⟨g1, 0, none⟩)), (2, .pointer (some ⟨g2, 0, none⟩)), (3, .pointer (some ⟨g3, 0, none⟩))]) (fun s1 wr => frm ≤ s1.1 ∧ s1.1 ≤ tu ∧ offsF frm (linesF (sliceQ q frm tu)) = s1.2 ++ offsF s1.1 (linesF (sliceQ q s1.1 tu)) ∧ Blk wr g1 3 #[.int .i64 ((s1.1 : Nat) : Int)] ∧ Blk wr g2 3 #[.int .i64 ((tu : Nat) : Int)] ∧ Blk wr g3 22 #[.slice A q.length c] ∧ Rd wr 1 A q.length (U8 q) ∧ J s1.2 wr) (fun s1 => tu - s1.1) (frm, []) (.cons rfl (.cons rfl (.cons rfl (.cons rfl .nil)))) ⟨Nat.le_refl _, hft, rfl, hb1, hb2, hb3, hrd, h0⟩ ?_
  rintro ⟨i, pre⟩ wr ⟨hi0, hi, hsp, hb1, hb2, hb3, hrd, hj⟩
  dsimp only at hi0 hi hsp hb1 hj ⊢
  refine VC.seq ?_
  refine VC.seq ?_
  refine VC.region ?_
  refine Ops.r (Run.load rfl Tryz.isAgg3 (hb1.cell 0)) rfl ?_
  refine Ops.r (Run.load rfl Tryz.isAgg3 (hb2.cell 0)) rfl ?_
  refine Ops.r (Run.bin rfl rfl (Bin.lssN _ _)) rfl ?_
  refine Ops.nil ?_
  refine thenQ_n ?_
  refine VC.sub [(0, _), (1, _), (2, _), (3, _), (9, _)] (.cons rfl (.cons rfl (.cons rfl (.cons rfl (.cons rfl .nil))))) ?_
  refine VC.condD rfl (fun hc1 => ?_) (fun hc1 => ?_)
  · skip
    have hdl : (sliceQ q i tu).length = tu - i := sliceQ_len htl
    have hr0 : sliceQ q i tu ≠ [] := fun h => by have := congrArg List.length h; rw [hdl] at this; simp at this; omega
    have hcut := U8_cut hrd (show i ≤ tu by omega) htl hc
    refine VC.skip ?_
    refine thenQ_n ?_
    refine VC.sub [(0, _), (1, _), (2, _), (3, _)] (.cons rfl (.cons rfl (.cons rfl (.cons rfl .nil)))) ?_
    refine VC.block ?_
    refine VC.seq ?_
    refine VC.region ?_
    refine Ops.r (Run.load rfl Tryz.isAgg3 (hb2.cell 0)) rfl ?_
    refine Ops.r (Run.asg rfl) rfl ?_
    refine Ops.nil ?_
    refine thenQ_n ?_
    refine VC.sub [(0, _), (1, _), (2, _), (3, _), (5, _)] (.cons rfl (.cons rfl (.cons rfl (.cons rfl (.cons rfl .nil))))) ?_
    refine VC.seq ?_
    refine VC.seq ?_
    refine VC.region ?_
    refine Ops.r (Run.load rfl Tryz.isAgg22 (hb3.cell 0)) rfl ?_
    refine Ops.r (Run.load rfl Tryz.isAgg3 (hb1.cell 0)) rfl ?_
    refine Ops.r (Run.load rfl Tryz.isAgg3 (hb2.cell 0)) rfl ?_
    refine Ops.r (Run.sliceS i tu rfl Tryz.underlying22 Tryz.sizeOf5 (evB.some_ rfl) (evB.some_ rfl) (by omega) (by omega)) rfl ?_
    refine Ops.cl (Enters.fn (evs.cons rfl (evs.cons rfl evs.nil)) Tryz.call87) ((by rw [← hdl]; exact idxBytes_spec _ _ (sliceQ q i tu) 10 _ hcut hr0)) rfl ?_
    rintro e _ ⟨rfl, rfl⟩
    refine ⟨_, rfl, ?_⟩
    refine Ops.r (Run.asg rfl) rfl ?_
    refine Ops.nil ?_
    refine thenQ_n ?_
    refine VC.sub [(0, _), (1, _), (2, _), (3, _), (5, _), (6, _)] (.cons rfl (.cons rfl (.cons rfl (.cons rfl (.cons rfl (.cons rfl .nil)))))) ?_
    refine VC.seq ?_
    refine VC.region ?_
    refine Ops.r (Run.mv rfl) rfl ?_
    refine Ops.r (Run.bin rfl rfl (Bin.geq _ 0)) rfl ?_
    refine Ops.nil ?_
    refine thenQ_n ?_
    refine VC.sub [(0, _), (1, _), (2, _), (3, _), (5, _), (6, _), (17, _)] (.cons rfl (.cons rfl (.cons rfl (.cons rfl (.cons rfl (.cons rfl (.cons rfl .nil))))))) ?_
    refine VC.meet (σ := Nat) (fun s1 => [(0, .func (.yield l) #[] #[]), (1, .pointer (some ⟨g1, 0, none⟩)), (2, .pointer (some ⟨g2, 0, none⟩)), (3, .pointer (some ⟨g3, 0, none⟩)), (5, .int .i64 ((s1 : Nat) : Int))]) (fun s1 wr2 => i < s1 ∧ s1 ≤ tu ∧ offsF i (linesF (sliceQ q i tu)) = (i, s1) :: offsF s1 (linesF (sliceQ q s1 tu)) ∧ wr = wr2) ?_ ?_
    · skip
      refine VC.condD rfl (fun hc2 => ?_) (fun hc2 => ?_)
      · skip
        obtain ⟨a, b, hab, hna, hix⟩ := (idxB_cases (sliceQ q i tu) 10).resolve_left (fun h => by rw [h.1] at hc2; omega)
        rw [hix]
        have hal : i + a.length + 1 ≤ tu := by
          have := congrArg List.length hab
          rw [hdl] at this
          simp at this
          omega
        have hcutl : offsF i (linesF (sliceQ q i tu)) = (i, i + a.length + 1) :: offsF (i + a.length + 1) (linesF (sliceQ q (i + a.length + 1) tu)) := by
          have e : sliceQ q (i + a.length + 1) tu = b := by
            have e1 : sliceQ (sliceQ q i tu) (a.length + 1) (tu - i) = sliceQ q (i + (a.length + 1)) (i + (tu - i)) := slice_slice (by omega)
            rw [show i + (tu - i) = tu by omega] at e1
            rw [show i + a.length + 1 = i + (a.length + 1) by omega, ← e1, ← hdl, slice_end, hab, List.drop_append, List.drop_eq_nil_of_le (by omega)]
            simp
          rw [e, hab, linesF_cut b hna]
          show (i, i + (a ++ [10]).length) :: offsF (i + (a ++ [10]).length) _ = _
          rw [List.length_append]
          rfl
        refine VC.region ?_
        refine Ops.r (Run.load rfl Tryz.isAgg3 (hb1.cell 0)) rfl ?_
        refine Ops.r (Run.mv rfl) rfl ?_
        refine Ops.r (Run.bin rfl rfl (Bin.add_i64 i a.length (by omega))) rfl ?_
        refine Ops.r (Run.bin rfl rfl (Bin.add_i64 (i + a.length) 1 (by omega))) rfl ?_
        refine Ops.r (Run.asg rfl) rfl ?_
        refine Ops.nil ?_
        refine thenQ_n ⟨(i + a.length + 1), (.cons rfl (.cons rfl (.cons rfl (.cons rfl (.cons rfl .nil))))), ?_⟩
        exact ⟨by omega, hal, hcutl, rfl⟩
      · skip
        have hna : (10 : UInt8) ∉ sliceQ q i tu := by
          rcases idxB_cases (sliceQ q i tu) 10 with ⟨_, h⟩ | ⟨a, b, _, _, hi⟩
          · exact h
          · rw [hi] at hc2; omega
        have hcutl : offsF i (linesF (sliceQ q i tu)) = (i, tu) :: offsF tu (linesF (sliceQ q tu tu)) := by
          rw [linesF_last hr0 hna]
          show [(i, i + (sliceQ q i tu).length)] = _
          rw [hdl, show i + (tu - i) = tu by omega]
          unfold sliceQ
          rw [Nat.sub_self, List.take_zero]
          rfl
        refine VC.skip ?_
        refine thenQ_n ⟨tu, (.cons rfl (.cons rfl (.cons rfl (.cons rfl (.cons rfl .nil))))), ?_⟩
        exact ⟨hc1, Nat.le_refl _, hcutl, rfl⟩
    · skip
      rintro t _ ⟨hit, htl2, hcutl, rfl⟩ Γ hΓ
      have hpre : (pre ++ [(i, t)]) <+: offsF frm (linesF (sliceQ q frm tu)) := ⟨offsF t (linesF (sliceQ q t tu)), by rw [hsp, hcutl]; simp⟩
      refine thenQ_n (VC.sub _ hΓ ?_)
      refine VC.seq ?_
      refine VC.seq ?_
      refine VC.region ?_
      refine Ops.r (Run.mv rfl) rfl ?_
      refine Ops.r (Run.load rfl Tryz.isAgg3 (hb1.cell 0)) rfl ?_
      refine Ops.r (Run.mv rfl) rfl ?_
      refine Ops.yield rfl rfl (evs.cons rfl (evs.cons rfl evs.nil)) ((by simpa using hY pre (i, t) wr hj hpre : YieldsTo Tryz.prog l #[_, _] wr _)) rfl rfl ?_
      rintro e w1 ⟨hoff, hR0⟩
      obtain ⟨yb, rfl, hR⟩ : ∃ yb : Bool, e = .returned (.bool yb) ∧ ((yb = true ∧ J (pre ++ [(i, t)]) w1) ∨ (yb = false ∧ Jx (pre ++ [(i, t)]) w1)) := by
        rcases hR0 with ⟨rfl, h⟩ | ⟨rfl, h⟩
        · exact ⟨true, rfl, .inl ⟨rfl, h⟩⟩
        · exact ⟨false, rfl, .inr ⟨rfl, h⟩⟩
      refine ⟨_, rfl, ?_⟩
      have hb1 := hoff.blk hb1 (by simp)
      have hb2 := hoff.blk hb2 (by simp)
      have hb3 := hoff.blk hb3 (by simp)
      have hrd := hoff.rd hrd (fun hn x hx => List.mem_cons_of_mem _ (List.mem_cons_of_mem _ (List.mem_cons_of_mem _ (obN_of hn hx))))
      refine Ops.r (Run.not rfl) rfl ?_
      refine Ops.nil ?_
      refine thenQ_n ?_
      refine VC.sub [(0, _), (1, _), (2, _), (3, _), (5, _), (26, _)] (.cons rfl (.cons rfl (.cons rfl (.cons rfl (.cons rfl (.cons rfl .nil)))))) ?_
      refine VC.condB rfl (fun hc3 => ?_) (fun hc3 => ?_)
      · skip
        refine VC.ret ?_
        refine thenQ_r (blockQ_r (thenQ_r (blockQ_r (end0 ?_))))
        exact ⟨⟨_, rfl⟩, .inr ⟨_, (hR.resolve_left (fun h => by rw [h.1] at hc3; simp at hc3)).2⟩⟩
      · skip
        refine VC.skip ?_
        refine thenQ_n ?_
        refine VC.sub [(0, _), (1, _), (2, _), (3, _), (5, _)] (.cons rfl (.cons rfl (.cons rfl (.cons rfl (.cons rfl .nil))))) ?_
        refine VC.region ?_
        refine Ops.r (Run.mv rfl) rfl ?_
        refine Ops.st (Acts.store rfl rfl Tryz.sizeOf3 hb1 rfl rfl) ?_
        rintro w2 ⟨hb1n, hf2, _⟩
        have hb1n : Blk w2 g1 3 #[.int .i64 ((t : Nat) : Int)] := hb1n
        have hb2 := hb2.frm hf2 (by simp; exact fun e => hn12 e.symm)
        have hb3 := hb3.frm hf2 (by simp; exact fun e => hn13 e.symm)
        have hrd := hrd.frm hf2 (fun hn x hx => by simp; rintro rfl; exact hnA (obN_of hn hx))
        have hj2 := hJ _ _ _ (hR.resolve_right (fun h => by rw [h.1] at hc3; simp at hc3)).2 hf2
        refine Ops.nil ?_
        refine blockQ_n (thenQ_n ⟨(t, pre ++ [(i, t)]), (.cons rfl (.cons rfl (.cons rfl (.cons rfl .nil)))), ?_, ?_⟩)
        · skip
          exact ⟨by dsimp only; omega, htl2, by rw [hsp, hcutl]; simp, hb1n, hb2, hb3, hrd, hj2⟩
        · skip
          simp only; omega
  · skip
    have hil : i = tu := by omega
    have hfin : offsF frm (linesF (sliceQ q frm tu)) = pre := by rw [hsp, hil]; unfold sliceQ; rw [Nat.sub_self, List.take_zero]; simp [linesF, offsF]
    refine VC.exit ?_
    refine thenQ_x (thenQ_x (blockQ_x ?_))
    refine end0n ?_
    exact ⟨⟨_, rfl⟩, .inl (by rw [hfin]; exact hj)⟩

set_option maxRecDepth 100000 in
theorem plines_spec (A : Option Addr) (n c frm tu : Nat) (w : World) : Calls Tryz.prog 142 #[.slice A n c, .int .i64 ((frm : Nat) : Int), .int .i64 ((tu : Nat) : Int)] w fun e w' => Frm [] w w' ∧ ∃ g1 g2 g3, e = .returned (.func (.func 185) #[] #[.pointer (some ⟨g1, 0, none⟩), .pointer (some ⟨g2, 0, none⟩), .pointer (some ⟨g3, 0, none⟩)]) ∧ Blk w' g1 3 #[.int .i64 ((frm : Nat) : Int)] ∧ Blk w' g2 3 #[.int .i64 ((tu : Nat) : Int)] ∧ Blk w' g3 22 #[.slice A n c] ∧ w.heap.size ≤ g1 ∧ w.heap.size ≤ g2 ∧ w.heap.size ≤ g3 ∧ g1 ≠ g2 ∧ g1 ≠ g3 ∧ g1 < w'.heap.size ∧ g2 < w'.heap.size ∧ g3 < w'.heap.size := by
  refine VC.calls (nt := 8) (res := #[.tmp 6]) Tryz.func142 rfl Tryz.ntmps142 Tryz.results142 rfl ?_
  refine VC.seq ?_
  refine VC.region ?_
  refine Ops.m (Does.box rfl) rfl ?_
  rintro _ w1 ⟨rfl, hF1⟩
  have hb3 := hF1.blk
  refine Ops.m (Does.box rfl) rfl ?_
  rintro _ w2 ⟨rfl, hF2⟩
  have hb4 := hF2.blk
  have hb3 := hb3.frm hF2.frm (by simp)
  refine Ops.m (Does.box rfl) rfl ?_
  rintro _ w3 ⟨rfl, hF3⟩
  have hb5 := hF3.blk
  have l3 := hb3.lt
  have l4 := hb4.lt
  have hb3 := hb3.frm hF3.frm (by simp)
  have hb4 := hb4.frm hF3.frm (by simp)
  have hs1 := hF1.size
  have hs2 := hF2.size
  have hs3 := hF3.size
  have l1 := hF1.blk.lt
  refine Ops.r (Run.asg rfl) rfl ?_
  refine Ops.nil ?_
  refine thenQ_n ?_
  refine VC.sub [(3, _), (4, _), (5, _)] (.cons rfl (.cons rfl (.cons rfl .nil))) ?_
  refine VC.seq ?_
  refine VC.region ?_
  refine Ops.r (Run.mkFunc evs.nil (evs.cons rfl (evs.cons rfl (evs.cons rfl evs.nil)))) rfl ?_
  refine Ops.r (Run.asg rfl) rfl ?_
  refine Ops.nil ?_
  refine thenQ_n ?_
  refine VC.sub [(6, _)] (.cons rfl .nil) ?_
  refine VC.ret ?_
  refine end1 rfl ?_
  exact ⟨(hF1.frm.trans hF2.frm (by simp)).trans hF3.frm (by simp), _, _, _, rfl, hb4, hb5, hb3, by omega, by omega, by omega, by omega, by omega, hb4.lt, hb5.lt, hb3.lt⟩

set_option maxRecDepth 100000 in
theorem bare_spec (A : Option Addr) (c : Nat) (l : Tx) (w : World) (h : Rd w 1 A l.length (U8 l)) (hl : l.length ≤ 1000000) : Calls Tryz.prog 186 #[.slice A l.length c] w fun e w' => e = .returned (encStr (bareL l)) ∧ w = w' := by
  refine VC.calls (nt := 15) (res := #[.tmp 2]) Tryz.func186 rfl Tryz.ntmps186 Tryz.results186 rfl ?_
  refine VC.seq ?_
  refine VC.region ?_
  refine Ops.r (Run.asg rfl) rfl ?_
  refine Ops.nil ?_
  refine thenQ_n ?_
  refine VC.sub [(0, _)] (.cons rfl .nil) ?_
  refine VC.seq ?_
  refine VC.region ?_
  refine Ops.r (Run.mv rfl) rfl ?_
  refine Ops.r (Run.strOfT rfl Tryz.underlying22 Tryz.underlying5 Tryz.underlying9 h) rfl ?_
  refine Ops.r (Run.asg rfl) rfl ?_
  refine Ops.nil ?_
  refine thenQ_n ?_
  refine VC.sub [(3, _)] (.cons rfl .nil) ?_
  refine VC.seq ?_
  refine VC.seq ?_
  refine VC.region ?_
  refine Ops.r (Run.mv rfl) rfl ?_
  refine Ops.cl (Enters.fn (evs.cons rfl (evs.cons rfl evs.nil)) Tryz.call211) (sufSS_spec l 10 _ hl) rfl ?_
  rintro e _ ⟨rfl, rfl⟩
  refine ⟨_, rfl, ?_⟩
  refine Ops.nil ?_
  refine thenQ_n ?_
  refine VC.sub [(3, _), (7, _)] (.cons rfl (.cons rfl .nil)) ?_
  refine VC.condB rfl (fun hc1 => ?_) (fun hc1 => ?_)
  · skip
    have hlast : l.getLast? = some 10 := of_decide_eq_true hc1
    have h0 : 0 < l.length := List.length_pos_iff.2 (fun e => by rw [e] at hlast; cases hlast)
    have hdl : (l.drop 0).take (l.length - 1 - 0) = l.dropLast := by rw [List.dropLast_eq_take]; simp
    refine VC.seq ?_
    refine VC.region ?_
    refine Ops.r (Run.mv rfl) rfl ?_
    refine Ops.r (Run.mv rfl) rfl ?_
    refine Ops.r (Run.lenT rfl Tryz.underlying9) rfl ?_
    refine Ops.r (Run.bin rfl rfl (Bin.sub_i64 l.length 1 h0 (by omega))) rfl ?_
    refine Ops.r (Run.sliceT 0 (l.length - 1) rfl Tryz.underlying9 evB.none_ (evB.some_ rfl) (Nat.zero_le _) (by omega)) rfl ?_
    rw [hdl]
    refine Ops.cl (Enters.fn (evs.cons rfl (evs.cons rfl evs.nil)) Tryz.call124) (trimSfxS_spec l.dropLast 13 _ (by simp; omega)) rfl ?_
    rintro e _ ⟨rfl, rfl⟩
    refine ⟨_, rfl, ?_⟩
    refine Ops.r (Run.asg rfl) rfl ?_
    refine Ops.nil ?_
    refine thenQ_n ?_
    refine VC.sub [(2, _)] (.cons rfl .nil) ?_
    refine VC.ret ?_
    refine thenQ_r (end1 rfl ?_)
    exact ⟨by rw [bare_trim, if_pos hlast], rfl⟩
  · skip
    refine VC.skip ?_
    refine thenQ_n ?_
    refine VC.sub [(3, _)] (.cons rfl .nil) ?_
    refine VC.seq ?_
    refine VC.region ?_
    refine Ops.r (Run.mv rfl) rfl ?_
    refine Ops.r (Run.asg rfl) rfl ?_
    refine Ops.nil ?_
    refine thenQ_n ?_
    refine VC.sub [(2, _)] (.cons rfl .nil) ?_
    refine VC.ret ?_
    refine end1 rfl ?_
    exact ⟨by rw [bare_trim, if_neg (of_decide_eq_false hc1)], rfl⟩

theorem cutPre_spec (s p : Tx) (w : World) : Calls Tryz.prog 80 #[encStr s, encStr p] w fun e w' => e = .returned (.tuple #[encStr (Lib.trimPrefix s p), .bool (p.isPrefixOf s)]) ∧ w = w' := by
  have h := Tryz.strings_CutPrefix ⟨s.toArray⟩ ⟨p.toArray⟩ w
  exact h.mono fun e w' ⟨h, hw⟩ => ⟨h, hw.symm⟩
theorem trimPre_yes {s p : Tx} (h : p.isPrefixOf s = true) : Lib.trimPrefix s p = s.drop p.length ∧ cutPre p s = some (s.drop p.length) := by
  unfold Lib.trimPrefix Lib.hasPrefix cutPre
  rw [if_pos h, if_pos h]
  exact ⟨rfl, rfl⟩
theorem trimPre_no {s p : Tx} (h : p.isPrefixOf s = false) : Lib.trimPrefix s p = s ∧ cutPre p s = none := by
  unfold Lib.trimPrefix Lib.hasPrefix cutPre
  rw [if_neg (by rw [h]; simp), if_neg (by rw [h]; simp)]
  exact ⟨rfl, rfl⟩
theorem trimPre_le (s p : Tx) : (Lib.trimPrefix s p).length ≤ s.length := by unfold Lib.trimPrefix; split <;> simp
theorem parts_of (bd l : Tx) (h : (dash2 ++ bd).isPrefixOf (bareL l) = true) : partsL bd l = (decide (trimQ (Lib.trimPrefix (Lib.trimPrefix (bareL l) (dash2 ++ bd)) dash2) = []), dash2.isPrefixOf (Lib.trimPrefix (bareL l) (dash2 ++ bd))) := by
  obtain ⟨e1, e2⟩ := trimPre_yes h
  unfold partsL
  rw [e2, e1]
  cases h2 : dash2.isPrefixOf ((bareL l).drop (dash2 ++ bd).length) with
  | true =>
    obtain ⟨e3, e4⟩ := trimPre_yes h2
    dsimp only
    rw [e4, e3]
  | false =>
    obtain ⟨e3, e4⟩ := trimPre_no h2
    dsimp only
    rw [e4, e3]
theorem parts_not (bd l : Tx) (h : (dash2 ++ bd).isPrefixOf (bareL l) = false) : partsL bd l = (false, false) := by
  unfold partsL
  rw [(trimPre_no h).2]

set_option maxRecDepth 100000 in
theorem parts_spec (A : Option Addr) (c : Nat) (l bd : Tx) (w : World) (h : Rd w 1 A l.length (U8 l)) (hl : l.length ≤ 1000000) (hb : bd.length ≤ 1000000) : Calls Tryz.prog 143 #[.slice A l.length c, encStr bd] w fun e w' => e = .returned (.tuple #[.bool (partsL bd l).1, .bool (partsL bd l).2]) ∧ Frm [] w w' := by
  refine VC.calls (nt := 28) (res := #[.tmp 4, .tmp 5]) Tryz.func143 rfl Tryz.ntmps143 Tryz.results143 rfl ?_
  refine VC.seq ?_
  refine VC.region ?_
  refine Ops.r (Run.asg rfl) rfl ?_
  refine Ops.r (Run.asg rfl) rfl ?_
  refine Ops.nil ?_
  refine thenQ_n ?_
  refine VC.sub [(0, _), (1, _)] (.cons rfl (.cons rfl .nil)) ?_
  refine VC.seq ?_
  refine VC.region ?_
  refine Ops.r (Run.mv rfl) rfl ?_
  refine Ops.cl (Enters.fn (evs.cons rfl evs.nil) Tryz.call186) (bare_spec _ _ l _ h hl) rfl ?_
  rintro e _ ⟨rfl, rfl⟩
  refine ⟨_, rfl, ?_⟩
  have hbl := bareL_le l
  refine Ops.r (Run.mv rfl) rfl ?_
  refine Ops.r (Run.addT rfl rfl (by simp; omega)) rfl ?_
  refine Ops.cl (Enters.fn (evs.cons rfl (evs.cons rfl evs.nil)) Tryz.call80) (cutPre_spec (bareL l) (dash2 ++ bd) _) rfl ?_
  rintro e _ ⟨rfl, rfl⟩
  refine ⟨_, rfl, ?_⟩
  have htl := trimPre_le (bareL l) (dash2 ++ bd)
  refine Ops.r (Run.mv rfl) rfl ?_
  refine Ops.r (Run.extract rfl rfl) rfl ?_
  refine Ops.r (Run.extract rfl rfl) rfl ?_
  refine Ops.r (Run.asg rfl) rfl ?_
  refine Ops.r (Run.asg rfl) rfl ?_
  refine Ops.nil ?_
  refine thenQ_n ?_
  refine VC.sub [(6, _), (7, _)] (.cons rfl (.cons rfl .nil)) ?_
  refine VC.seq ?_
  refine VC.seq ?_
  refine VC.region ?_
  refine Ops.r (Run.mv rfl) rfl ?_
  refine Ops.r (Run.not rfl) rfl ?_
  refine Ops.nil ?_
  refine thenQ_n ?_
  refine VC.sub [(6, _), (18, _)] (.cons rfl (.cons rfl .nil)) ?_
  refine VC.condB rfl (fun hc1 => ?_) (fun hc1 => ?_)
  · skip
    refine VC.seq ?_
    refine VC.region ?_
    refine Ops.r (Run.asg rfl) rfl ?_
    refine Ops.r (Run.asg rfl) rfl ?_
    refine Ops.nil ?_
    refine thenQ_n ?_
    refine VC.sub [(4, _), (5, _)] (.cons rfl (.cons rfl .nil)) ?_
    refine VC.ret ?_
    refine thenQ_r (end2 rfl rfl ?_)
    exact ⟨by rw [parts_not bd l (by simpa using hc1)], Frm.refl _ _⟩
  · skip
    refine VC.skip ?_
    refine thenQ_n ?_
    refine VC.sub [(6, _)] (.cons rfl .nil) ?_
    refine VC.seq ?_
    refine VC.region ?_
    refine Ops.r (Run.mv rfl) rfl ?_
    refine Ops.cl (Enters.fn (evs.cons rfl (evs.cons rfl evs.nil)) Tryz.call80) (cutPre_spec (Lib.trimPrefix (bareL l) (dash2 ++ bd)) dash2 _) rfl ?_
    rintro e _ ⟨rfl, rfl⟩
    refine ⟨_, rfl, ?_⟩
    have htl2 := trimPre_le (Lib.trimPrefix (bareL l) (dash2 ++ bd)) dash2
    refine Ops.r (Run.mv rfl) rfl ?_
    refine Ops.r (Run.extract rfl rfl) rfl ?_
    refine Ops.r (Run.extract rfl rfl) rfl ?_
    refine Ops.r (Run.asg rfl) rfl ?_
    refine Ops.r (Run.asg rfl) rfl ?_
    refine Ops.nil ?_
    refine thenQ_n ?_
    refine VC.sub [(6, _), (8, _)] (.cons rfl (.cons rfl .nil)) ?_
    refine VC.seq ?_
    refine VC.region ?_
    refine Ops.r (Run.mv rfl) rfl ?_
    refine Ops.cl (Enters.fn (evs.cons rfl (evs.cons rfl evs.nil)) Tryz.call125) (trimS_spec (Lib.trimPrefix (Lib.trimPrefix (bareL l) (dash2 ++ bd)) dash2) _ (by omega)) rfl ?_
    rintro e w1 ⟨rfl, hf1⟩
    refine ⟨_, rfl, ?_⟩
    refine Ops.r (Run.eqlT rfl rfl) rfl ?_
    refine Ops.r (Run.mv rfl) rfl ?_
    refine Ops.r (Run.asg rfl) rfl ?_
    refine Ops.r (Run.asg rfl) rfl ?_
    refine Ops.nil ?_
    refine thenQ_n ?_
    refine VC.sub [(4, _), (5, _)] (.cons rfl (.cons rfl .nil)) ?_
    refine VC.ret ?_
    refine end2 rfl rfl ?_
    exact ⟨by rw [parts_of bd l (by simpa using hc1)]; rfl, hf1⟩

set_option maxRecDepth 100000 in
theorem ahead_spec (A : Option Addr) (c : Nat) (q : Tx) (frm line : Nat) (w : World) (h : Rd w 1 A q.length (U8 q)) (hq : q.length ≤ 1000000) (hl : line ≤ q.length) : Calls Tryz.prog 144 #[.slice A q.length c, .int .i64 ((frm : Nat) : Int), .int .i64 ((line : Nat) : Int)] w fun e w' => e = .returned (.int .i64 ((aheadQ q frm line : Nat) : Int)) ∧ w = w' := by
  have hah : aheadQ q frm line = if line > frm ∧ q[line - 1]? = some 10 then (if line - 1 > frm ∧ q[line - 2]? = some 13 then line - 2 else line - 1) else line := rfl
  refine VC.calls (nt := 34) (res := #[.tmp 6]) Tryz.func144 rfl Tryz.ntmps144 Tryz.results144 rfl ?_
  refine VC.seq ?_
  refine VC.region ?_
  refine Ops.r (v := .int .i64 ((0 : Nat) : Int)) (Run.asg rfl) rfl ?_
  refine Ops.nil ?_
  refine thenQ_n ?_
  refine VC.sub [(0, _), (1, _), (2, _)] (.cons rfl (.cons rfl (.cons rfl .nil))) ?_
  refine VC.seq ?_
  refine VC.seq ?_
  refine VC.split1 [(0, _), (1, _), (2, _)] (.cons rfl (.cons rfl (.cons rfl .nil))) 17 (.bool (decide (line > frm ∧ q[line - 1]? = some 10))) ?_ ?_
  · refine VC.region ?_
    refine Ops.r (Run.mv rfl) rfl ?_
    refine Ops.r (Run.mv rfl) rfl ?_
    refine Ops.r (Run.bin rfl rfl (Bin.gtrN _ _)) rfl ?_
    by_cases hs9 : frm < line
    · skip
      have hil : line - 1 < q.length := by omega
      obtain ⟨ad, rfl, hcell⟩ := U8_at h hil
      have hgx : q[line - 1]? = some q[line - 1] := List.getElem?_eq_getElem hil
      generalize hz : q[line - 1] = z at *
      have hzb : some z = some (10 : UInt8) ↔ z.toNat = 10 := ⟨fun e => by rw [Option.some.inj e]; rfl, fun e => congrArg some (UInt8.toNat_inj.1 e)⟩
      refine Ops.r (Run.mv rfl) rfl ?_
      refine Ops.rg rfl au (Run.mv rfl) rfl ?_
      refine Ops.rg rfl au (Run.mv rfl) rfl ?_
      refine Ops.rg rfl au (Run.bin rfl rfl (Bin.sub_i64 line 1 (by omega) (by omega))) rfl ?_
      refine Ops.rg rfl au (Run.index1 (line - 1) rfl rfl Tryz.underlying22 Tryz.sizeOf5 hil) rfl ?_
      refine Ops.rg rfl au (Run.load rfl Tryz.isAgg5 hcell) rfl ?_
      refine Ops.rg rfl au (Run.bin rfl rfl (Bin.eqlN _ 10)) rfl ?_
      by_cases hs16 : z.toNat = 10
      · skip
        refine Ops.r (Run.pickT rfl rfl au) rfl ?_
        refine Ops.nil ?_
        refine thenQ_n ⟨(.cons (congrArg (fun b => some (Value.bool b)) (by first | (symm; exact decide_eq_false (fun h => by omega)) | (rw [hgx]; exact decide_eq_decide.2 ⟨fun e => ⟨hs9, hzb.2 e⟩, fun e => hzb.1 e.2⟩))) (.cons rfl (.cons rfl (.cons rfl .nil)))), rfl⟩
      · skip
        refine Ops.r (Run.pickT rfl rfl au) rfl ?_
        refine Ops.nil ?_
        refine thenQ_n ⟨(.cons (congrArg (fun b => some (Value.bool b)) (by first | (symm; exact decide_eq_false (fun h => by omega)) | (rw [hgx]; exact decide_eq_decide.2 ⟨fun e => ⟨hs9, hzb.2 e⟩, fun e => hzb.1 e.2⟩))) (.cons rfl (.cons rfl (.cons rfl .nil)))), rfl⟩
    · skip
      refine Ops.r (Run.mv rfl) rfl ?_
      refine Ops.sk rfl au rfl ?_
      refine Ops.sk rfl au rfl ?_
      refine Ops.sk rfl au rfl ?_
      refine Ops.sk rfl au rfl ?_
      refine Ops.sk rfl au rfl ?_
      refine Ops.sk rfl au rfl ?_
      refine Ops.r (Run.pickF rfl rfl au) rfl ?_
      refine Ops.nil ?_
      refine thenQ_n ⟨(.cons (congrArg (fun b => some (Value.bool b)) (by first | (symm; exact decide_eq_false (fun h => by omega)) | (rw [hgx]; exact decide_eq_decide.2 ⟨fun e => ⟨hs9, hzb.2 e⟩, fun e => hzb.1 e.2⟩))) (.cons rfl (.cons rfl (.cons rfl .nil)))), rfl⟩
  · intro Γ hΓ
    refine thenQ_n (VC.sub _ hΓ ?_)
    refine VC.condD rfl (fun hc1 => ?_) (fun hc1 => ?_)
    · skip
      have hlf := hc1.1
      rw [if_pos hc1] at hah
      refine VC.seq ?_
      refine VC.region ?_
      refine Ops.r (Run.mv rfl) rfl ?_
      refine Ops.r (Run.bin rfl rfl (Bin.sub_i64 line 1 (by omega) (by omega))) rfl ?_
      refine Ops.r (Run.asg rfl) rfl ?_
      refine Ops.nil ?_
      refine thenQ_n ?_
      refine VC.sub [(0, _), (1, _), (2, _)] (.cons rfl (.cons rfl (.cons rfl .nil))) ?_
      refine VC.seq ?_
      refine VC.split1 [(2, _)] (.cons rfl .nil) 30 (.bool (decide (line - 1 > frm ∧ q[line - 2]? = some 13))) ?_ ?_
      · refine VC.region ?_
        refine Ops.r (Run.mv rfl) rfl ?_
        refine Ops.r (Run.mv rfl) rfl ?_
        refine Ops.r (Run.bin rfl rfl (Bin.gtrN _ _)) rfl ?_
        by_cases hs22 : frm < line - 1
        · skip
          have hil : line - 2 < q.length := by omega
          obtain ⟨ad, rfl, hcell⟩ := U8_at h hil
          have hgx : q[line - 2]? = some q[line - 2] := List.getElem?_eq_getElem hil
          generalize hz : q[line - 2] = z at *
          have hzb : some z = some (13 : UInt8) ↔ z.toNat = 13 := ⟨fun e => by rw [Option.some.inj e]; rfl, fun e => congrArg some (UInt8.toNat_inj.1 e)⟩
          refine Ops.r (Run.mv rfl) rfl ?_
          refine Ops.rg rfl au (Run.mv rfl) rfl ?_
          refine Ops.rg rfl au (Run.mv rfl) rfl ?_
          refine Ops.rg rfl au (Run.bin rfl rfl (Bin.sub_i64 (line - 1) 1 (by omega) (by omega))) rfl ?_
          refine Ops.rg rfl au (Run.index1 (line - 1 - 1) rfl rfl Tryz.underlying22 Tryz.sizeOf5 (by omega)) rfl ?_
          refine Ops.rg rfl au (Run.load rfl Tryz.isAgg5 hcell) rfl ?_
          refine Ops.rg rfl au (Run.bin rfl rfl (Bin.eqlN _ 13)) rfl ?_
          by_cases hs29 : z.toNat = 13
          · skip
            refine Ops.r (Run.pickT rfl rfl au) rfl ?_
            refine Ops.nil ?_
            refine thenQ_n ⟨(.cons (congrArg (fun b => some (Value.bool b)) (by first | (symm; exact decide_eq_false (fun h => by omega)) | (rw [hgx]; exact decide_eq_decide.2 ⟨fun e => ⟨hs22, hzb.2 e⟩, fun e => hzb.1 e.2⟩))) (.cons rfl .nil)), rfl⟩
          · skip
            refine Ops.r (Run.pickT rfl rfl au) rfl ?_
            refine Ops.nil ?_
            refine thenQ_n ⟨(.cons (congrArg (fun b => some (Value.bool b)) (by first | (symm; exact decide_eq_false (fun h => by omega)) | (rw [hgx]; exact decide_eq_decide.2 ⟨fun e => ⟨hs22, hzb.2 e⟩, fun e => hzb.1 e.2⟩))) (.cons rfl .nil)), rfl⟩
        · skip
          refine Ops.r (Run.mv rfl) rfl ?_
          refine Ops.sk rfl au rfl ?_
          refine Ops.sk rfl au rfl ?_
          refine Ops.sk rfl au rfl ?_
          refine Ops.sk rfl au rfl ?_
          refine Ops.sk rfl au rfl ?_
          refine Ops.sk rfl au rfl ?_
          refine Ops.r (Run.pickF rfl rfl au) rfl ?_
          refine Ops.nil ?_
          refine thenQ_n ⟨(.cons (congrArg (fun b => some (Value.bool b)) (by first | (symm; exact decide_eq_false (fun h => by omega)) | (rw [hgx]; exact decide_eq_decide.2 ⟨fun e => ⟨hs22, hzb.2 e⟩, fun e => hzb.1 e.2⟩))) (.cons rfl .nil)), rfl⟩
      · intro Γ hΓ
        refine thenQ_n (VC.sub _ hΓ ?_)
        refine VC.condD rfl (fun hc2 => ?_) (fun hc2 => ?_)
        · skip
          rw [if_pos hc2] at hah
          refine VC.region ?_
          refine Ops.r (Run.mv rfl) rfl ?_
          refine Ops.r (Run.bin rfl rfl (Bin.sub_i64 (line - 1) 1 (by have := hc2.1; omega) (by omega))) rfl ?_
          refine Ops.r (Run.asg rfl) rfl ?_
          refine Ops.nil ?_
          refine thenQ_n ?_
          refine VC.sub [(2, _)] (.cons rfl .nil) ?_
          refine VC.seq ?_
          refine VC.region ?_
          refine Ops.r (Run.mv rfl) rfl ?_
          refine Ops.r (Run.asg rfl) rfl ?_
          refine Ops.nil ?_
          refine thenQ_n ?_
          refine VC.sub [(6, _)] (.cons rfl .nil) ?_
          refine VC.ret ?_
          refine end1 rfl ?_
          exact ⟨by rw [hah]; rfl, rfl⟩
        · skip
          rw [if_neg hc2] at hah
          refine VC.skip ?_
          refine thenQ_n ?_
          refine VC.sub [(2, _)] (.cons rfl .nil) ?_
          refine VC.seq ?_
          refine VC.region ?_
          refine Ops.r (Run.mv rfl) rfl ?_
          refine Ops.r (Run.asg rfl) rfl ?_
          refine Ops.nil ?_
          refine thenQ_n ?_
          refine VC.sub [(6, _)] (.cons rfl .nil) ?_
          refine VC.ret ?_
          refine end1 rfl ?_
          exact ⟨by rw [hah], rfl⟩
    · skip
      rw [if_neg hc1] at hah
      refine VC.skip ?_
      refine thenQ_n ?_
      refine VC.sub [(2, _)] (.cons rfl .nil) ?_
      refine VC.seq ?_
      refine VC.region ?_
      refine Ops.r (Run.mv rfl) rfl ?_
      refine Ops.r (Run.asg rfl) rfl ?_
      refine Ops.nil ?_
      refine thenQ_n ?_
      refine VC.sub [(6, _)] (.cons rfl .nil) ?_
      refine VC.ret ?_
      refine end1 rfl ?_
      exact ⟨by rw [hah], rfl⟩

end Go.Proofs.YtenbjndldenkfaaGreatDoor

namespace Go.Proofs.YtenbjndldenkfaaGreatDoor
open Go.RowKit Go.Sort

def PN1 (x : Nat × Nat) : List Value := [.int .i64 ((x.1 : Nat) : Int), .int .i64 ((x.2 : Nat) : Int)]
theorem PN1_len (x : Nat × Nat) : (PN1 x).length = 2 := rfl
theorem PN1_one (x : Nat × Nat) : ∀ u ∈ PN1 x, u.oneCell' = true := by
  intro u hu
  simp only [PN1, List.mem_cons, List.not_mem_nil, or_false] at hu
  rcases hu with rfl | rfl <;> rfl
def PN (l : List (Nat × Nat)) : List Value := l.flatMap PN1
theorem PN_append (a b : List (Nat × Nat)) : PN (a ++ b) = PN a ++ PN b := by simp [PN]
theorem PN_one (l : List (Nat × Nat)) : ∀ u ∈ PN l, u.oneCell' = true := flat_one PN1 PN1_one l
theorem PN_at {w : World} {A : Option Addr} {l : List (Nat × Nat)} {k : Nat} (h : Rd w 2 A l.length (PN l)) (hk : k < l.length) : ∃ ad, A = some ad ∧ ∀ j v, (PN1 l[k])[j]? = some v → w.cell? ((ad.add (k * 2)).add j) = some v := by
  obtain ⟨ad, rfl, hc⟩ := h.elem hk
  refine ⟨ad, rfl, fun j v hj => hc j v ?_⟩
  rw [show PN l = l.flatMap PN1 from rfl, flat_get PN1 2 PN1_len l k hk]
  exact hj
theorem hrdN {w w' : World} {t : TypeId} {x : Nat × Nat} (h : Fresh w w' t (PN1 x).toArray) : Rd w' 2 (some ⟨w.heap.size, 0, none⟩) 1 (PN [x]) := Rd.of_blk (n := 1) (size := 2) h.blk rfl
def begI : Option Nat → Int
  | none => -1
  | some b => (b : Int)
theorem lines_nextO {q : Tx} {frm tu : Nat} {pre : List (Nat × Nat)} {x : Nat × Nat} {ls ls2 : List Tx} (hft : frm ≤ tu) (htl : tu ≤ q.length) (h1 : linesF (sliceQ q frm tu) = ls ++ ls2) (h2 : pre = offsF frm ls) (h3 : (pre ++ [x]) <+: offsF frm (linesF (sliceQ q frm tu))) :
    ∃ l b, ls2 = l :: b ∧ x.1 = frm + ls.flatten.length ∧ x.2 = x.1 + l.length ∧ pre ++ [x] = offsF frm (ls ++ [l]) ∧ linesF (sliceQ q frm tu) = (ls ++ [l]) ++ b ∧ sliceQ q x.1 x.2 = l ∧ x.2 ≤ tu ∧ l ≠ [] ∧ x.2 = frm + (ls ++ [l]).flatten.length := by
  obtain ⟨a, l, b, e1, e2, e3⟩ := offs_pre h3
  have hl : ls.length = a.length := by rw [← offsF_len frm ls, ← h2, e2, offsF_len]
  obtain ⟨rfl, e4⟩ := List.append_inj (h1.symm.trans e1) hl
  obtain ⟨s1, s2⟩ := slice_at e1
  rw [sliceQ_len htl] at s2
  refine ⟨l, b, e4, by rw [e3], by rw [e3], ?_, by rw [e1]; simp, ?_, by rw [e3]; dsimp only; omega, linesF_ne (s := sliceQ q frm tu) (by rw [e1]; simp), by rw [e3]; simp; omega⟩
  · rw [offs_app, h2, e3]
    rfl
  · rw [e3]
    show sliceQ q (frm + ls.flatten.length) (frm + ls.flatten.length + l.length) = l
    rw [Nat.add_assoc, ← slice_slice (q := q) (a := frm) (b := tu) (by omega), s1]
theorem lines_doneO {s : Tx} {o : Nat} {ls ls2 : List Tx} (h1 : linesF s = ls ++ ls2) (h2 : offsF o (linesF s) = offsF o ls) : ls2 = [] ∧ ls = linesF s := by
  have hl : (linesF s).length = ls.length := by rw [← offsF_len o (linesF s), h2, offsF_len]
  rw [h1] at hl ⊢
  simp only [List.length_append] at hl
  have e := List.length_eq_zero_iff.1 (show ls2.length = 0 by omega)
  exact ⟨e, by rw [e, List.append_nil]⟩
def SnI (w : World) (q bd : Tx) (frm tu g4 g7 g8 g9 g10 : Nat) (A : Option Addr) (c : Nat) (Bt : List Nat) (pre : List (Nat × Nat)) (W : World) : Prop :=
  ∃ (ls ls2 : List Tx) (bg : Option Nat) (out : List (Nat × Nat)) (A2 : Option Addr) (c2 : Nat), linesF (sliceQ q frm tu) = ls ++ ls2 ∧ pre = offsF frm ls ∧ spansQ q bd frm tu = spnL q bd tu (frm + ls.flatten.length) bg out ls2 ∧ (∀ b, bg = some b → frm ≤ b ∧ b ≤ frm + ls.flatten.length) ∧ out.length ≤ ls.length ∧ Frm [] w W ∧
    Blk W g4 22 #[.slice A q.length c] ∧ Blk W g7 9 #[encStr bd] ∧ Blk W g8 134 #[.slice none 0 0] ∧ Blk W g9 134 #[.slice A2 out.length c2] ∧ Own W 136 2 A2 out.length c2 (PN out) ∧ Blk W g10 3 #[.int .i64 (begI bg)] ∧ ∀ x ∈ ob A2, w.heap.size ≤ x ∧ x ∉ Bt
def SnX (w : World) (q bd : Tx) (frm tu g8 : Nat) (Bt : List Nat) (e : Exit) (_pre : List (Nat × Nat)) (W : World) : Prop :=
  e = .ret ∧ Frm [] w W ∧ ∃ A2 c2, Blk W g8 134 #[.slice A2 (spansQ q bd frm tu).length c2] ∧ Own W 136 2 A2 (spansQ q bd frm tu).length c2 (PN (spansQ q bd frm tu)) ∧ ∀ x ∈ ob A2, w.heap.size ≤ x ∧ x ∉ Bt
theorem spn_no {s bd : Tx} {tu o : Nat} {bg : Option Nat} {out : List (Nat × Nat)} {l : Tx} {r : List Tx} (h : (partsL bd l).1 = false) : spnL s bd tu o bg out (l :: r) = spnL s bd tu (o + l.length) bg out r := by rw [spnL, if_pos h]
theorem spn_last {s bd : Tx} {tu o : Nat} {bg : Option Nat} {out : List (Nat × Nat)} {l : Tx} {r : List Tx} (h : (partsL bd l).1 = true) (h2 : (partsL bd l).2 = true) : spnL s bd tu o bg out (l :: r) = addB s o bg out := by rw [spnL, if_neg (by rw [h]; simp), if_pos h2]
theorem spn_next {s bd : Tx} {tu o : Nat} {bg : Option Nat} {out : List (Nat × Nat)} {l : Tx} {r : List Tx} (h : (partsL bd l).1 = true) (h2 : (partsL bd l).2 = false) : spnL s bd tu o bg out (l :: r) = spnL s bd tu (o + l.length) (some (o + l.length)) (addB s o bg out) r := by rw [spnL, if_neg (by rw [h]; simp), if_neg (by rw [h2]; simp)]

set_option maxRecDepth 100000 in
theorem spans_spec (A : Option Addr) (c : Nat) (q bd : Tx) (frm tu : Nat) (w : World) (hrd0 : Rd w 1 A q.length (U8 q)) (hq : q.length ≤ 1000000) (hc : q.length ≤ c) (hbd : bd.length ≤ 1000000) (hft : frm ≤ tu) (htl : tu ≤ q.length) :
    Calls Tryz.prog 106 #[.slice A q.length c, .int .i64 ((frm : Nat) : Int), .int .i64 ((tu : Nat) : Int), encStr bd] w fun e w' => Frm [] w w' ∧ ∃ A2 c2, e = .returned (.slice A2 (spansQ q bd frm tu).length c2) ∧ Own w' 136 2 A2 (spansQ q bd frm tu).length c2 (PN (spansQ q bd frm tu)) ∧ ∀ x ∈ ob A2, w.heap.size ≤ x := by
  have K := Frm.refl [] w
  refine DV.calls (nt := 55) (res := #[.cell 8 134]) Tryz.func106 rfl Tryz.ntmps106 Tryz.results106 rfl ?_
  refine DV.seq ?_
  refine DV.vc ?_
  refine VC.region ?_
  refine Ops.m (Does.box rfl) rfl ?_
  rintro _ w1 ⟨rfl, hF_w1⟩
  have hb4 := hF_w1.blk
  have hs4_K := K.size
  have K := Frm.trans K hF_w1.frm (by simp)
  generalize hg4 : w.heap.size = g4 at hb4 hs4_K ⊢
  refine Ops.m (Does.box rfl) rfl ?_
  rintro _ w2 ⟨rfl, hF_w2⟩
  have hb7 := hF_w2.blk
  have hs7_K := K.size
  have lt_hb4_7 := hb4.lt
  have hb4 := hb4.frm hF_w2.frm (by simp)
  have K := Frm.trans K hF_w2.frm (by simp)
  generalize hg7 : w1.heap.size = g7 at hb7 hs7_K lt_hb4_7 ⊢
  refine Ops.m (Does.alloc zero134) rfl ?_
  rintro _ w3 ⟨rfl, hF_w3⟩
  have hb8 := hF_w3.blk
  have hs8_K := K.size
  have lt_hb4_8 := hb4.lt
  have lt_hb7_8 := hb7.lt
  have hb4 := hb4.frm hF_w3.frm (by simp)
  have hb7 := hb7.frm hF_w3.frm (by simp)
  have K := Frm.trans K hF_w3.frm (by simp)
  generalize hg8 : w2.heap.size = g8 at hb8 hs8_K lt_hb4_8 lt_hb7_8 ⊢
  refine Ops.nil ?_
  refine thenD_n ?_
  refine DV.sub [(1, _), (2, _), (4, _), (7, _), (8, _)] (.cons rfl (.cons rfl (.cons rfl (.cons rfl (.cons rfl .nil))))) ?_
  refine DV.seq ?_
  refine DV.vc ?_
  refine VC.region ?_
  refine Ops.m (Does.alloc zero134) rfl ?_
  rintro _ w4 ⟨rfl, hF_w4⟩
  have hb9 := hF_w4.blk
  have hs9_K := K.size
  have lt_hb4_9 := hb4.lt
  have lt_hb7_9 := hb7.lt
  have lt_hb8_9 := hb8.lt
  have hb4 := hb4.frm hF_w4.frm (by simp)
  have hb7 := hb7.frm hF_w4.frm (by simp)
  have hb8 := hb8.frm hF_w4.frm (by simp)
  have K := Frm.trans K hF_w4.frm (by simp)
  generalize hg9 : w3.heap.size = g9 at hb9 hs9_K lt_hb4_9 lt_hb7_9 lt_hb8_9 ⊢
  refine Ops.nil ?_
  refine thenD_n ?_
  refine DV.seq ?_
  refine DV.vc ?_
  refine VC.region ?_
  refine Ops.m (Does.alloc zero3) rfl ?_
  rintro _ w5 ⟨rfl, hF_w5⟩
  have hb10 := hF_w5.blk
  have hs10_K := K.size
  have lt_hb4_10 := hb4.lt
  have lt_hb7_10 := hb7.lt
  have lt_hb8_10 := hb8.lt
  have lt_hb9_10 := hb9.lt
  have hb4 := hb4.frm hF_w5.frm (by simp)
  have hb7 := hb7.frm hF_w5.frm (by simp)
  have hb8 := hb8.frm hF_w5.frm (by simp)
  have hb9 := hb9.frm hF_w5.frm (by simp)
  have K := Frm.trans K hF_w5.frm (by simp)
  generalize hg10 : w4.heap.size = g10 at hb10 hs10_K lt_hb4_10 lt_hb7_10 lt_hb8_10 lt_hb9_10 ⊢
  refine Ops.st (Acts.store rfl rfl Tryz.sizeOf3 hb10 rfl rfl) ?_
  rintro w6 ⟨hbn_w6, hf_w6, hsz_w6⟩
  have hb4 := hb4.frm hf_w6 (by simp; omega)
  have hb7 := hb7.frm hf_w6 (by simp; omega)
  have hb8 := hb8.frm hf_w6 (by simp; omega)
  have hb9 := hb9.frm hf_w6 (by simp; omega)
  have hb10 : Blk w6 g10 3 (#[.int .i64 (begI none)]) := hbn_w6
  have K := Frm.own K hf_w6 (fun y hy => by simp at hy; omega)
  refine Ops.nil ?_
  refine thenD_n ?_
  refine DV.seq ?_
  refine DV.seq ?_
  refine DV.vc ?_
  refine VC.region ?_
  refine Ops.r (Run.load rfl Tryz.isAgg22 (hb4.cell 0)) rfl ?_
  refine Ops.r (Run.mv rfl) rfl ?_
  refine Ops.r (Run.mv rfl) rfl ?_
  refine Ops.cl (Enters.fn (evs.cons rfl (evs.cons rfl (evs.cons rfl evs.nil))) Tryz.call142) (plines_spec A q.length c frm tu _) rfl ?_
  rintro e w7 ⟨hf_w7, ga, gb, gc, rfl, hpa, hpb, hpc, hga, hgb, hgc, hgab, hgac, hga2, hgb2, hgc2⟩
  have l4 := hb4.lt
  have l7 := hb7.lt
  have l8 := hb8.lt
  have l9 := hb9.lt
  have l10 := hb10.lt
  refine ⟨_, rfl, ?_⟩
  have hb4 := hb4.frm hf_w7 (by simp)
  have hb7 := hb7.frm hf_w7 (by simp)
  have hb8 := hb8.frm hf_w7 (by simp)
  have hb9 := hb9.frm hf_w7 (by simp)
  have hb10 := hb10.frm hf_w7 (by simp)
  have K := Frm.trans K hf_w7 (by simp)
  have hA : ∀ x ∈ obN A q.length, x < w.heap.size := fun x hx => hrd0.lt (obN_mem hx).1 x (obN_mem hx).2
  have hs6 := hf_w6.size
  refine Ops.nil ?_
  refine thenD_n ?_
  refine DV.sub [(2, _), (4, _), (7, _), (8, _), (9, _), (10, _), (18, _)] (.cons rfl (.cons rfl (.cons rfl (.cons rfl (.cons rfl (.cons rfl (.cons rfl .nil))))))) ?_
  refine DV.block ?_
  have hKs := K.size
  refine DV.range (ps := [19, 20]) (fun x : Nat × Nat => [.int .i64 ((x.1 : Nat) : Int), .int .i64 ((x.2 : Nat) : Int)]) (plines_iter q A c ga gb gc frm tu hq hc hft htl hgab hgac (fun hm => by have := hA _ hm; omega)) rfl Tryz.call185 (fun _ => rfl) rfl (SnI w q bd frm tu g4 g7 g8 g9 g10 A c (ga :: gb :: gc :: obN A q.length)) (SnX w q bd frm tu g8 (ga :: gb :: gc :: obN A q.length)) (fun x => [(4, .pointer (some ⟨g4, 0, none⟩)), (7, .pointer (some ⟨g7, 0, none⟩)), (8, .pointer (some ⟨g8, 0, none⟩)), (9, .pointer (some ⟨g9, 0, none⟩)), (10, .pointer (some ⟨g10, 0, none⟩)), (11, .int .i64 ((x.1 : Nat) : Int)), (12, .int .i64 ((x.2 : Nat) : Int))]) ?_ ?_ ?_ ?_ ?_ ?_ ?_ ?_ ?_ ?_ ?_
  · skip
    rintro pre W W' S ⟨ls, ls2, bg, outs, A2, c2, h1, h2, h3, h4, h5, h6, h7, h8, h9, h10, h11, h12, h13⟩ hf hS
    exact ⟨ls, ls2, bg, outs, A2, c2, h1, h2, h3, h4, h5, h6.nc hf hS (by simp; omega) K.size, h7.frm hf (h7.nc hS (by simp; omega)), h8.frm hf (h8.nc hS (by simp; omega)), h9.frm hf (h9.nc hS (by simp; omega)), h10.frm hf (h10.nc hS (by simp; omega)), h11.frm hf (h11.nc hS (fun x hx hb => (h13 x hx).2 (by simp at hb; simp [hb]))), h12.frm hf (h12.nc hS (by simp; omega)), h13⟩
  · skip
    rintro e pre W W' S ⟨h1, h2, A2, c2, h3, h4, h5⟩ hf hS
    exact ⟨h1, h2.nc hf hS (by simp; omega) K.size, A2, c2, h3.frm hf (h3.nc hS (by simp; omega)), h4.frm hf (h4.nc hS (fun x hx hb => (h5 x hx).2 (by simp at hb; simp [hb]))), h5⟩
  · skip
    exact fun W hf => ⟨hpa.frm hf (by simp), hpb.frm hf (by simp), hpc.frm hf (by simp), (hrd0.frm K (by simp)).frm hf (by simp)⟩
  · skip
    simp
  · skip
    intro b hb
    simp only [List.mem_cons] at hb
    rcases hb with rfl | rfl | rfl | hb
    · exact hga2
    · exact hgb2
    · exact hgc2
    · have := hA b hb; omega
  · skip
    exact ⟨[], linesF (sliceQ q frm tu), none, [], none, 0, rfl, rfl, rfl, by simp, by simp, K, hb4, hb7, hb8, hb9, Own.nil _ _ _, hb10, by simp [ob]⟩
  · intro l x W
    refine VC.sub [(4, _), (7, _), (8, _), (9, _), (10, _), (19, _), (20, _)] (.cons rfl (.cons rfl (.cons rfl (.cons rfl (.cons rfl (.cons rfl (.cons rfl .nil))))))) ?_
    refine VC.seq ?_
    refine VC.region ?_
    refine Ops.r (Run.asg rfl) rfl ?_
    refine Ops.nil ?_
    refine thenQ_n ?_
    refine VC.sub [(4, _), (7, _), (8, _), (9, _), (10, _), (11, _), (20, _)] (.cons rfl (.cons rfl (.cons rfl (.cons rfl (.cons rfl (.cons rfl (.cons rfl .nil))))))) ?_
    refine VC.region ?_
    refine Ops.r (Run.asg rfl) rfl ?_
    refine Ops.nil ?_
    refine thenQ_n ⟨rfl, (.cons rfl (.cons rfl (.cons rfl (.cons rfl (.cons rfl (.cons rfl (.cons rfl .nil)))))))⟩
  · skip
    rintro l pre x W ⟨ls, ls2, bg, outs, A2, c2, hls, hpr, hsp, hbg, hol, K, hb4, hb7, hb8, hb9, hO, hb10, hAB⟩ hpre hsz hmk
    obtain ⟨ll, rest, hl2, hx1, hx2, hpe, hnl, hsl, hxt, hne, hx3⟩ := lines_nextO hft htl hls hpr hpre
    have hll : x.2 - x.1 = ll.length := by omega
    have hcut : Rd W 1 (cutA A c x.1 1) ll.length (U8 ll) := by
      have := U8_cut (hrd0.frm K (by simp)) (show x.1 ≤ x.2 by omega) (by omega) hc
      rwa [hsl] at this
    have hlc := linesF_count (sliceQ q frm tu)
    rw [hls, sliceQ_len htl] at hlc
    simp only [List.length_append] at hlc
    have hnb8 : g8 ∉ (ga :: gb :: gc :: obN A q.length) := by
      simp only [List.mem_cons, not_or]
      exact ⟨by omega, by omega, by omega, fun hm => by have := hA _ hm; omega⟩
    have hnb9 : g9 ∉ (ga :: gb :: gc :: obN A q.length) := by
      simp only [List.mem_cons, not_or]
      exact ⟨by omega, by omega, by omega, fun hm => by have := hA _ hm; omega⟩
    have hnb10 : g10 ∉ (ga :: gb :: gc :: obN A q.length) := by
      simp only [List.mem_cons, not_or]
      exact ⟨by omega, by omega, by omega, fun hm => by have := hA _ hm; omega⟩
    have h80 := hb8
    have h90 := hb9
    have h100 := hb10
    have hO0 := hO
    refine VC.block ?_
    refine VC.seq ?_
    refine VC.held (fun V => Frm [] W V) (by kernel_rfl) ?_
    have hS : Frm [] W W.drew := (Frm.refl [] W).drew
    have hb4v := hb4
    have hb7v := hb7
    refine HOps.take 0 rfl (by kernel_rfl) (by kernel_rfl) (by kernel_rfl) hS (fun w0 hw0 => Run.load rfl Tryz.isAgg22 ((hb4v.frm hw0 (by simp)).cell 0)) trivial rfl rfl ?_
    refine HOps.take 1 rfl (by kernel_rfl) (by kernel_rfl) (by kernel_rfl) hS (fun w0 hw0 => Run.mv rfl) trivial rfl rfl ?_
    refine HOps.take 2 rfl (by kernel_rfl) (by kernel_rfl) (by kernel_rfl) hS (fun w0 hw0 => Run.mv rfl) trivial rfl rfl ?_
    refine HOps.take 3 rfl (by kernel_rfl) (by kernel_rfl) (by kernel_rfl) hS (fun w0 hw0 => Run.sliceS x.1 x.2 rfl Tryz.underlying22 Tryz.sizeOf5 (evB.some_ rfl) (evB.some_ rfl) (by omega) (by omega)) trivial rfl rfl ?_
    rw [hll]
    refine HOps.take 4 rfl (by kernel_rfl) (by kernel_rfl) (by kernel_rfl) hS (fun w0 hw0 => Run.load rfl Tryz.isAgg9 ((hb7v.frm hw0 (by simp)).cell 0)) trivial rfl rfl ?_
    refine HOps.cl 5 rfl (by kernel_rfl) (Enters.fn (evs.cons rfl (evs.cons rfl evs.nil)) Tryz.call143) (parts_spec _ _ ll bd _ (hcut.frm hS (by simp)) (by omega) (by omega)) trivial rfl rfl ?_
    rintro e V1 ⟨rfl, hfv⟩
    have hS := hS.trans hfv (by simp)
    refine ⟨_, rfl, hS, ?_⟩
    have KW := hS
    have hb4 := hb4.frm hS (by simp)
    have hb7 := hb7.frm hS (by simp)
    have hb8 := hb8.frm hS (by simp)
    have hb9 := hb9.frm hS (by simp)
    have hb10 := hb10.frm hS (by simp)
    have hO := hO.frm hS (by simp)
    have K := K.trans hS (by simp)
    refine HOps.take 6 rfl (by kernel_rfl) (by kernel_rfl) (by kernel_rfl) hS (fun w0 hw0 => Run.mv rfl) trivial rfl rfl ?_
    refine HOps.take 7 rfl (by kernel_rfl) (by kernel_rfl) (by kernel_rfl) hS (fun w0 hw0 => Run.extract rfl rfl) trivial rfl rfl ?_
    refine HOps.take 8 rfl (by kernel_rfl) (by kernel_rfl) (by kernel_rfl) hS (fun w0 hw0 => Run.extract rfl rfl) trivial rfl rfl ?_
    refine HOps.take 9 rfl (by kernel_rfl) (by kernel_rfl) (by kernel_rfl) hS (fun w0 hw0 => Run.asg rfl) trivial rfl rfl ?_
    refine HOps.take 10 rfl (by kernel_rfl) (by kernel_rfl) (by kernel_rfl) hS (fun w0 hw0 => Run.asg rfl) trivial rfl rfl ?_
    refine HOps.done (by kernel_rfl) ?_
    refine thenQ_n ?_
    refine VC.sub [(4, _), (8, _), (9, _), (10, _), (11, _), (12, _), (13, _), (14, _)] (.cons rfl (.cons rfl (.cons rfl (.cons rfl (.cons rfl (.cons rfl (.cons rfl (.cons rfl .nil)))))))) ?_
    refine VC.seq ?_
    refine VC.seq ?_
    refine VC.region ?_
    refine Ops.r (Run.mv rfl) rfl ?_
    refine Ops.r (Run.not rfl) rfl ?_
    refine Ops.nil ?_
    refine thenQ_n ?_
    refine VC.sub [(4, _), (8, _), (9, _), (10, _), (11, _), (12, _), (14, _), (31, _)] (.cons rfl (.cons rfl (.cons rfl (.cons rfl (.cons rfl (.cons rfl (.cons rfl (.cons rfl .nil)))))))) ?_
    refine VC.condB rfl (fun hc1 => ?_) (fun hc1 => ?_)
    · skip
      have hno : (partsL bd ll).1 = false := by simpa using hc1
      refine VC.exit ?_
      refine thenQ_x (blockQ_x ?_)
      refine ⟨.frm0 KW, ls ++ [ll], rest, bg, outs, A2, c2, hnl, hpe, ?_, fun b hb => by have := hbg b hb; rw [← hx3]; omega, by simp; omega, K, hb4, hb7, hb8, hb9, hO, hb10, hAB⟩
      rw [hsp, hl2, ← hx1, spn_no hno, ← hx2, ← hx3]
    · skip
      have hyes : (partsL bd ll).1 = true := by simpa using hc1
      refine VC.skip ?_
      refine thenQ_n ?_
      refine VC.sub [(4, _), (8, _), (9, _), (10, _), (11, _), (12, _), (14, _)] (.cons rfl (.cons rfl (.cons rfl (.cons rfl (.cons rfl (.cons rfl (.cons rfl .nil))))))) ?_
      refine VC.seq ?_
      refine VC.seq ?_
      refine VC.region ?_
      refine Ops.r (Run.load rfl Tryz.isAgg3 (hb10.cell 0)) rfl ?_
      refine Ops.r (Run.bin rfl rfl (Bin.geq _ 0)) rfl ?_
      refine Ops.nil ?_
      refine thenQ_n ?_
      refine VC.sub [(4, _), (8, _), (9, _), (10, _), (11, _), (12, _), (14, _), (33, _)] (.cons rfl (.cons rfl (.cons rfl (.cons rfl (.cons rfl (.cons rfl (.cons rfl (.cons rfl .nil)))))))) ?_
      refine VC.meet (σ := Option Addr × Nat) (fun s => [(8, .pointer (some ⟨g8, 0, none⟩)), (9, .pointer (some ⟨g9, 0, none⟩)), (10, .pointer (some ⟨g10, 0, none⟩)), (12, .int .i64 ((x.2 : Nat) : Int)), (14, .bool (partsL bd ll).2)]) (fun s1 wr => Frm (ob A2 ++ [g9]) W wr ∧ Frm [] w wr ∧ Blk wr g4 22 #[.slice A q.length c] ∧ Blk wr g7 9 #[encStr bd] ∧ Blk wr g8 134 #[.slice none 0 0] ∧ Blk wr g9 134 #[.slice s1.1 (addB q x.1 bg outs).length s1.2] ∧ Own wr 136 2 s1.1 (addB q x.1 bg outs).length s1.2 (PN (addB q x.1 bg outs)) ∧ Blk wr g10 3 #[.int .i64 (begI bg)] ∧ ∀ y ∈ ob s1.1, w.heap.size ≤ y ∧ y ∉ (ga :: gb :: gc :: obN A q.length)) ?_ ?_
      · skip
        refine VC.condD rfl (fun hc2 => ?_) (fun hc2 => ?_)
        · skip
          obtain ⟨b0, rfl⟩ : ∃ b, bg = some b := by
            cases bg with
            | none => exact absurd hc2 (by simp [begI])
            | some b => exact ⟨b, rfl⟩
          have hb0 := hbg b0 rfl
          refine VC.heldL 9 (fun V => Frm (ob A2) V1 V) (by kernel_rfl) ?_
          have hS0 : Frm [] V1 V1.drew := (Frm.refl [] V1).drew
          have hS : Frm (ob A2) V1 V1.drew := hS0.mono (by simp)
          have hn9 := hO.ne_blk hb9 (by decide)
          have hn10 := hO.ne_blk hb10 (by decide)
          have hn4 := hO.ne_blk hb4 (by decide)
          have hb9v := hb9
          have hb10v := hb10
          have hb4v := hb4
          have hO := hO.frm hS0 (by simp)
          have hb4 := hb4.frm hS0 (by simp)
          have hb7 := hb7.frm hS0 (by simp)
          have hb8 := hb8.frm hS0 (by simp)
          have hb9 := hb9.frm hS0 (by simp)
          have hb10 := hb10.frm hS0 (by simp)
          have K := K.drew
          have KW := KW.drew
          refine HOps.take 0 rfl (by kernel_rfl) (by kernel_rfl) (by kernel_rfl) hS (fun w0 hw0 => Run.load rfl Tryz.isAgg134 ((hb9v.frm hw0 hn9).cell 0)) trivial rfl rfl ?_
          refine HOps.take 1 rfl (by kernel_rfl) (by kernel_rfl) (by kernel_rfl) hS (fun w0 hw0 => Run.load rfl Tryz.isAgg3 ((hb10v.frm hw0 hn10).cell 0)) trivial rfl rfl ?_
          refine HOps.take 2 rfl (by kernel_rfl) (by kernel_rfl) (by kernel_rfl) hS (fun w0 hw0 => Run.load rfl Tryz.isAgg22 ((hb4v.frm hw0 hn4).cell 0)) trivial rfl rfl ?_
          refine HOps.take 3 rfl (by kernel_rfl) (by kernel_rfl) (by kernel_rfl) hS (fun w0 hw0 => Run.load rfl Tryz.isAgg3 ((hb10v.frm hw0 hn10).cell 0)) trivial rfl rfl ?_
          refine HOps.r1 4 rfl (by kernel_rfl) hS (Run.mv rfl) trivial rfl rfl ?_
          refine HOps.cl 5 rfl (by kernel_rfl) (Enters.fn (evs.cons rfl (evs.cons rfl (evs.cons rfl evs.nil))) Tryz.call144) (ahead_spec A c q b0 x.1 _ (hrd0.frm K (by simp)) hq (by omega)) trivial rfl rfl ?_
          rintro e _ ⟨rfl, rfl⟩
          refine ⟨_, rfl, hS, ?_⟩
          refine HOps.r1 6 rfl (by kernel_rfl) hS (Run.buildA (evs.cons rfl (evs.cons rfl evs.nil)) zero136 Tryz.underlying136 Tryz.sizeOf3 (cells := (PN1 (b0, aheadQ q b0 x.1)).toArray) (by rfl)) trivial rfl rfl ?_
          refine HOps.m 7 rfl (by kernel_rfl) (Does.buildS1 rfl Tryz.underlying134 Tryz.sizeOf136 zero136 (by decide) (by decide) rfl rfl) trivial rfl rfl ?_
          rintro _ V5 ⟨rfl, hF5⟩
          have hrd := hrdN (x := (b0, aheadQ q b0 x.1)) hF5
          have hb4 := hb4.frm hF5.frm (by simp)
          have hb7 := hb7.frm hF5.frm (by simp)
          have hb8 := hb8.frm hF5.frm (by simp)
          have hb9 := hb9.frm hF5.frm (by simp)
          have hb10 := hb10.frm hF5.frm (by simp)
          have hO := hO.frm hF5.frm (by simp)
          have K := K.trans hF5.frm (by simp)
          have KW := KW.trans hF5.frm (by simp)
          have hS := hS.trans hF5.frm (by simp)
          refine ⟨hS, ?_⟩
          refine HOps.m 8 rfl (by kernel_rfl) (Does.app rfl rfl Tryz.underlying134 (info136) rfl (by decide) hO hrd (PN_one _) (by omega) (by omega)) trivial rfl rfl ?_
          rintro _ V6 ⟨A6, c6, rfl, hO6, hf6, hob6⟩
          rw [← PN_append] at hO6
          have hne6 : ∀ y ∈ ob A2, y ≠ g4 ∧ y ≠ g7 ∧ y ≠ g8 ∧ y ≠ g9 ∧ y ≠ g10 := fun y hy => ⟨by rintro rfl; exact hO.ne_blk hb4 (by decide) hy, by rintro rfl; exact hO.ne_blk hb7 (by decide) hy, by rintro rfl; exact hO.ne_blk hb8 (by decide) hy, by rintro rfl; exact hO.ne_blk hb9 (by decide) hy, by rintro rfl; exact hO.ne_blk hb10 (by decide) hy⟩
          have hb4 := hb4.frm hf6 (fun hy => (hne6 _ hy).1 rfl)
          have hb7 := hb7.frm hf6 (fun hy => (hne6 _ hy).2.1 rfl)
          have hb8 := hb8.frm hf6 (fun hy => (hne6 _ hy).2.2.1 rfl)
          have hb9 := hb9.frm hf6 (fun hy => (hne6 _ hy).2.2.2.1 rfl)
          have hb10 := hb10.frm hf6 (fun hy => (hne6 _ hy).2.2.2.2 rfl)
          have K5 := K
          have KW5 := KW
          have K := Frm.own K hf6 (fun y hy => (hAB y hy).1)
          have hnA := hO6.ne_blk hb9 (by decide)
          have hS := hS.trans hf6 (fun y hy => .inl hy)
          refine ⟨hS, ?_⟩
          refine HOps.stL rfl (by kernel_rfl) (Acts.store rfl rfl Tryz.sizeOf134 hb9 rfl rfl) trivial rfl ?_
          rintro V7 ⟨hb9n, hf7, _⟩
          refine HOps.done (by kernel_rfl) ?_
          refine thenQ_n ⟨(A6, c6), (.cons rfl (.cons rfl (.cons rfl (.cons rfl (.cons rfl .nil))))), ?_⟩
          refine ⟨?_, Frm.own K hf7 (fun y hy => by simp at hy; omega), hb4.frm hf7 (by simp; omega), hb7.frm hf7 (by simp; omega), hb8.frm hf7 (by simp; omega), ?_, ?_, hb10.frm hf7 (by simp; omega), ?_⟩
          · exact ((KW.mono (T := ob A2 ++ [g9]) (by simp)).trans hf6 (fun y hy => .inl (by simp [hy]))).trans hf7 (fun y hy => .inl (by simp at hy; simp [hy]))
          · show Blk V7 g9 _ #[.slice A6 (outs ++ [(b0, aheadQ q b0 x.1)]).length c6]
            rw [List.length_append]; exact hb9n
          · show Own V7 _ 2 A6 (outs ++ [(b0, aheadQ q b0 x.1)]).length c6 _
            rw [List.length_append]
            exact hO6.frm hf7 (fun y hy => by simp; rintro rfl; exact hnA hy)
          · intro y hy
            rcases hob6 with h | h
            · dsimp only at hy; rw [h] at hy; exact hAB y hy
            · dsimp only at hy
              rw [h] at hy
              simp only [List.mem_singleton] at hy
              have h1 := K5.size
              have h2 := KW5.size
              subst hy
              refine ⟨h1, ?_⟩
              simp only [List.mem_cons, not_or]
              exact ⟨by omega, by omega, by omega, fun hm => by have := hA _ hm; omega⟩
        · skip
          have hbn : bg = none := by
            cases bg with
            | none => rfl
            | some b => exact absurd (show (0 : Int) ≤ begI (some b) by simp [begI]) hc2
          have hab : addB q x.1 bg outs = outs := by rw [hbn]; rfl
          refine VC.skip ?_
          refine thenQ_n ⟨(A2, c2), (.cons rfl (.cons rfl (.cons rfl (.cons rfl (.cons rfl .nil))))), ?_⟩
          rw [hab]
          exact ⟨KW.mono (by simp), K, hb4, hb7, hb8, hb9, hO, hb10, hAB⟩
      · skip
        rintro ⟨A3, c3⟩ V8 ⟨KW, K, hb4, hb7, hb8, hb9, hO3, hb10, hAB3⟩ Γ hΓ
        dsimp only at hb9 hO3 hAB3
        have hadl := addB_len q x.1 bg outs
        generalize hou : addB q x.1 bg outs = outs2 at *
        refine thenQ_n (VC.sub _ hΓ ?_)
        refine VC.seq ?_
        refine VC.seq ?_
        refine VC.region ?_
        refine Ops.r (Run.mv rfl) rfl ?_
        refine Ops.nil ?_
        refine thenQ_n ?_
        refine VC.sub [(8, _), (9, _), (10, _), (12, _), (43, _)] (.cons rfl (.cons rfl (.cons rfl (.cons rfl (.cons rfl .nil))))) ?_
        refine VC.condB rfl (fun hc3 => ?_) (fun hc3 => ?_)
        · skip
          have hfin := hsp
          rw [hl2, ← hx1, spn_last hyes hc3, hou] at hfin
          refine VC.seq ?_
          refine VC.region ?_
          refine Ops.r (Run.load rfl Tryz.isAgg134 (hb9.cell 0)) rfl ?_
          refine Ops.st (Acts.store rfl rfl Tryz.sizeOf134 hb8 rfl rfl) ?_
          rintro V9 ⟨hb8n, hf9, _⟩
          refine Ops.nil ?_
          refine thenQ_n ?_
          refine VC.sub [(8, _)] (.cons rfl .nil) ?_
          refine VC.ret ?_
          refine thenQ_r (blockQ_r (?_))
          refine ⟨⟨ob A2 ++ [g9] ++ [g8], ?_, ?_⟩, rfl, Frm.own K hf9 (fun y hy => by simp at hy; omega), A3, c3, ?_, ?_, hAB3⟩
          · exact (KW.mono (T := ob A2 ++ [g9] ++ [g8]) (fun y hy => .inl (by simp at hy; simp; rcases hy with h | h <;> simp [h]))).trans hf9 (fun y hy => .inl (by simp at hy; simp [hy]))
          · intro b hb
            rcases List.mem_append.1 hb with hb | hb
            · rcases List.mem_append.1 hb with hb | hb
              · exact ⟨(hAB b hb).2, hO0.isC b hb⟩
              · simp only [List.mem_singleton] at hb; subst hb; exact ⟨hnb9, h90.isC⟩
            · simp only [List.mem_singleton] at hb; subst hb; exact ⟨hnb8, h80.isC⟩
          · rw [hfin]; exact hb8n
          · rw [hfin]; exact hO3.frm hf9 (fun y hy => by have := hO3.ne_blk hb8 (by decide); simp; rintro rfl; exact this hy)
        · skip
          rw [hl2, ← hx1, spn_next hyes hc3, hou, ← hx2] at hsp
          refine VC.skip ?_
          refine thenQ_n ?_
          refine VC.sub [(10, _), (12, _)] (.cons rfl (.cons rfl .nil)) ?_
          refine VC.region ?_
          refine Ops.r (Run.mv rfl) rfl ?_
          refine Ops.st (Acts.store rfl rfl Tryz.sizeOf3 hb10 rfl rfl) ?_
          rintro V9 ⟨hb10n, hf9, _⟩
          refine Ops.nil ?_
          refine blockQ_n (?_)
          refine ⟨⟨ob A2 ++ [g9] ++ [g10], ?_, ?_⟩, ls ++ [ll], rest, some x.2, outs2, A3, c3, hnl, hpe, by rw [hsp, ← hx3], fun b hb => by cases hb; rw [← hx3]; omega, by simp; omega, Frm.own K hf9 (fun y hy => by simp at hy; omega), hb4.frm hf9 (by simp; omega), hb7.frm hf9 (by simp; omega), hb8.frm hf9 (by simp; omega), hb9.frm hf9 (by simp; omega), ?_, hb10n, hAB3⟩
          · exact (KW.mono (T := ob A2 ++ [g9] ++ [g10]) (fun y hy => .inl (by simp at hy; simp; rcases hy with h | h <;> simp [h]))).trans hf9 (fun y hy => .inl (by simp at hy; simp [hy]))
          · intro b hb
            rcases List.mem_append.1 hb with hb | hb
            · rcases List.mem_append.1 hb with hb | hb
              · exact ⟨(hAB b hb).2, hO0.isC b hb⟩
              · simp only [List.mem_singleton] at hb; subst hb; exact ⟨hnb9, h90.isC⟩
            · simp only [List.mem_singleton] at hb; subst hb; exact ⟨hnb10, h100.isC⟩
          · exact hO3.frm hf9 (fun y hy => by have := hO3.ne_blk hb10 (by decide); simp; rintro rfl; exact this hy)
  · skip
    rintro W ⟨ls, ls2, bg, outs, A2, c2, hls, hpr, hsp, hbg, hol, K, hb4, hb7, hb8, hb9, hO, hb10, hAB⟩ hsz hmk
    obtain ⟨e1, e2⟩ := lines_doneO hls hpr
    subst e1
    have hlc := linesF_count (sliceQ q frm tu)
    rw [← e2, sliceQ_len htl] at hlc
    refine blockD_n (thenD_n ?_)
    refine DV.sub [(2, _), (8, _), (9, _), (10, _)] (.cons rfl (.cons rfl (.cons rfl (.cons rfl .nil)))) ?_
    refine DV.seq ?_
    refine DV.seq ?_
    refine DV.vc ?_
    refine VC.region ?_
    refine Ops.r (Run.load rfl Tryz.isAgg3 (hb10.cell 0)) rfl ?_
    refine Ops.r (Run.bin rfl rfl (Bin.geq _ 0)) rfl ?_
    refine Ops.nil ?_
    refine thenD_n ?_
    refine DV.sub [(2, _), (8, _), (9, _), (10, _), (47, _)] (.cons rfl (.cons rfl (.cons rfl (.cons rfl (.cons rfl .nil))))) ?_
    refine DV.vc ?_
    refine VC.condD rfl (fun hc4 => ?_) (fun hc4 => ?_)
    · skip
      obtain ⟨b0, rfl⟩ : ∃ b, bg = some b := by
        cases bg with
        | none => exact absurd hc4 (by simp [begI])
        | some b => exact ⟨b, rfl⟩
      have hfin : spansQ q bd frm tu = outs ++ [(b0, tu)] := hsp
      refine VC.region ?_
      refine Ops.r (Run.load rfl Tryz.isAgg134 (hb9.cell 0)) rfl ?_
      refine Ops.r (Run.load rfl Tryz.isAgg3 (hb10.cell 0)) rfl ?_
      refine Ops.r (Run.mv rfl) rfl ?_
      refine Ops.r (Run.buildA (evs.cons rfl (evs.cons rfl evs.nil)) zero136 Tryz.underlying136 Tryz.sizeOf3 (cells := (PN1 (b0, tu)).toArray) (by rfl)) rfl ?_
      refine Ops.m (Does.buildS1 rfl Tryz.underlying134 Tryz.sizeOf136 zero136 (by decide) (by decide) rfl rfl) rfl ?_
      rintro _ U5 ⟨rfl, hF5⟩
      have hrd := hrdN (x := (b0, tu)) hF5
      have hb4 := hb4.frm hF5.frm (by simp)
      have hb7 := hb7.frm hF5.frm (by simp)
      have hb8 := hb8.frm hF5.frm (by simp)
      have hb9 := hb9.frm hF5.frm (by simp)
      have hb10 := hb10.frm hF5.frm (by simp)
      have hO := hO.frm hF5.frm (by simp)
      have K := K.trans hF5.frm (by simp)
      have hmk := hmk.frm hF5.frm (by simp)
      have hsz5 := hF5.frm.size
      refine Ops.m (Does.app rfl rfl Tryz.underlying134 (info136) rfl (by decide) hO hrd (PN_one _) (by omega) (by omega)) rfl ?_
      rintro _ U6 ⟨A6, c6, rfl, hO6, hf6, hob6⟩
      rw [← PN_append] at hO6
      have hb8 := hb8.frm hf6 (hO.ne_blk hb8 (by decide))
      have hb9 := hb9.frm hf6 (hO.ne_blk hb9 (by decide))
      have hmk := hmk.frm hf6 (hmk.ne_own hO)
      have K5 := K
      have K := Frm.own K hf6 (fun y hy => (hAB y hy).1)
      have hub6 : ∀ y ∈ ob A6, w.heap.size ≤ y := fun y hy => by
        rcases hob6 with h | h
        · rw [h] at hy; exact (hAB y hy).1
        · rw [h] at hy; simp only [List.mem_singleton] at hy; have := K5.size; omega
      have hb9o := hb9
      refine Ops.st (Acts.store rfl rfl Tryz.sizeOf134 hb9 rfl rfl) ?_
      rintro U7 ⟨hb9n, hf7, _⟩
      have hb9 : Blk U7 g9 134 #[.slice A6 (outs ++ [(b0, tu)]).length c6] := by rw [List.length_append]; exact hb9n
      have hO : Own U7 136 2 A6 (outs ++ [(b0, tu)]).length c6 (PN (outs ++ [(b0, tu)])) := by
        rw [List.length_append]
        exact hO6.frm hf7 (fun y hy => by simp; rintro rfl; exact absurd hy (hO6.ne_blk hb9o (by decide)))
      have hb8 := hb8.frm hf7 (by simp; omega)
      have hmk := hmk.frm hf7 (by simp; exact hmk.ne_blk hb9o)
      have K := Frm.own K hf7 (fun y hy => by simp at hy; omega)
      rw [← hfin] at hb9 hO
      refine Ops.nil ?_
      refine thenD_n ?_
      refine DV.sub [(8, _), (9, _)] (.cons rfl (.cons rfl .nil)) ?_
      refine DV.seq ?_
      refine DV.vc ?_
      refine VC.region ?_
      refine Ops.r (Run.load rfl Tryz.isAgg134 (hb9.cell 0)) rfl ?_
      refine Ops.st (Acts.store rfl rfl Tryz.sizeOf134 hb8 rfl rfl) ?_
      rintro Z1 ⟨hb8n, hf_Z1, _⟩
      have hmk := hmk.frm hf_Z1 (by simp; exact hmk.ne_blk hb8)
      have hO := hO.frm hf_Z1 (fun y hy => by have := hO.ne_blk hb8 (by decide); simp; rintro rfl; exact this hy)
      have K := Frm.own K hf_Z1 (fun y hy => by simp at hy; omega)
      refine Ops.nil ?_
      refine thenD_n ?_
      refine DV.sub [(8, _)] (.cons rfl .nil) ?_
      refine DV.vc (VC.ret ?_)
      refine endD_r (by simp) (fun d hd => by simp only [List.mem_singleton] at hd; subst hd; exact hmk) (fun wz hsh => ?_)
      have hb8n := hb8n.frm hsh (by simp; omega)
      have hO := hO.frm hsh (fun y hy => by have := hmk.ne_own hO; simp; rintro rfl; exact this hy)
      have K := Frm.own K hsh (fun y hy => by have := hKs; simp at hy; omega)
      refine endR ?_
      refine res_cell rfl Tryz.isAgg134 (hb8n.cell 0) ?_
      refine res_nil ?_
      exact ⟨K, A6, c6, rfl, hO, fun x hx => by have := hub6 x hx; omega⟩
    · skip
      have hfin : spansQ q bd frm tu = outs := by
        cases bg with
        | none => exact hsp
        | some b => exact absurd (show (0 : Int) ≤ begI (some b) by simp [begI]) hc4
      refine VC.skip ?_
      refine thenD_n ?_
      refine DV.sub [(8, _), (9, _)] (.cons rfl (.cons rfl .nil)) ?_
      refine DV.seq ?_
      refine DV.vc ?_
      refine VC.region ?_
      refine Ops.r (Run.load rfl Tryz.isAgg134 (hb9.cell 0)) rfl ?_
      rw [← hfin] at hb9 hO
      refine Ops.st (Acts.store rfl rfl Tryz.sizeOf134 hb8 rfl rfl) ?_
      rintro Z1 ⟨hb8n, hf_Z1, _⟩
      have hub6 : ∀ y ∈ ob A2, w.heap.size ≤ y := fun y hy => (hAB y hy).1
      have hmk := hmk.frm hf_Z1 (by simp; exact hmk.ne_blk hb8)
      have hO := hO.frm hf_Z1 (fun y hy => by have := hO.ne_blk hb8 (by decide); simp; rintro rfl; exact this hy)
      have K := Frm.own K hf_Z1 (fun y hy => by simp at hy; omega)
      refine Ops.nil ?_
      refine thenD_n ?_
      refine DV.sub [(8, _)] (.cons rfl .nil) ?_
      refine DV.vc (VC.ret ?_)
      refine endD_r (by simp) (fun d hd => by simp only [List.mem_singleton] at hd; subst hd; exact hmk) (fun wz hsh => ?_)
      have hb8n := hb8n.frm hsh (by simp; omega)
      have hO := hO.frm hsh (fun y hy => by have := hmk.ne_own hO; simp; rintro rfl; exact this hy)
      have K := Frm.own K hsh (fun y hy => by have := hKs; simp at hy; omega)
      refine endR ?_
      refine res_cell rfl Tryz.isAgg134 (hb8n.cell 0) ?_
      refine res_nil ?_
      exact ⟨K, A2, c2, by rw [hfin]; rfl, hO, fun x hx => by have := hub6 x hx; omega⟩
  · skip
    rintro pre W ⟨_, K, A2, c2, hb8, hO, hAB⟩ hsz hmk
    refine blockD_r (thenD_r (endD_r (by simp) (fun d hd => by simp only [List.mem_singleton] at hd; subst hd; exact hmk) (fun wz hsh => ?_)))
    have hb8 := hb8.frm hsh (by simp; omega)
    have hO := hO.frm hsh (fun y hy => by have := hmk.ne_own hO; simp; rintro rfl; exact this hy)
    have K := Frm.own K hsh (fun y hy => by have := hKs; simp at hy; omega)
    refine endR ?_
    refine res_cell rfl Tryz.isAgg134 (hb8.cell 0) ?_
    refine res_nil ?_
    exact ⟨K, A2, c2, rfl, hO, fun x hx => by have := (hAB x hx).1; omega⟩
  · skip
    exact fun _ _ _ h => absurd h.1 (by simp)

set_option maxRecDepth 100000 in
theorem media_spec (A : Option Addr) (c : Nat) (q : Tx) (dg : Bool) (w : World) (hrd0 : Rd w 1 A q.length (U8 q)) (hq : q.length ≤ 500000) (hc : q.length ≤ c) :
    Calls Tryz.prog 104 #[.slice A q.length c, .bool dg] w fun e w' => Frm [] w w' ∧ ∃ A2 c2, e = .returned (.agg (MdC (mediaQ q dg) A2 c2)) ∧ Own w' 102 2 A2 (mediaQ q dg).ps.length c2 (PC (mediaQ q dg).ps) ∧ (∀ x ∈ ob A2, w.heap.size ≤ x) := by
  refine VC.calls (nt := 20) (res := #[.cell 4 67]) Tryz.func104 rfl Tryz.ntmps104 Tryz.results104 rfl ?_
  refine VC.seq ?_
  refine VC.region ?_
  refine Ops.m (Does.alloc zero67) rfl ?_
  rintro _ w1 ⟨rfl, hF1⟩
  have hb4 := hF1.blk
  have K := hF1.frm
  generalize hg4 : w.heap.size = g4 at hb4 ⊢
  refine Ops.nil ?_
  refine thenQ_n ?_
  refine VC.seq ?_
  refine VC.region ?_
  refine Ops.r (Run.mv rfl) rfl ?_
  refine Ops.cl (Enters.fn (evs.cons rfl (evs.cons rfl evs.nil)) Tryz.call58) (hfind_spec A c q ctype _ (hrd0.frm K (by simp)) hq hc (by decide)) rfl ?_
  rintro e w2 ⟨rfl, hf2⟩
  refine ⟨_, rfl, ?_⟩
  have hb4 := hb4.frm hf2 (by simp)
  have K := K.trans hf2 (by simp)
  have hfl := findF_len q ctype (fieldsQ q)
  have hmq : mediaQ q dg = if (findH q ctype).2 = false ∧ dg = true then ⟨msgT, rfcT, []⟩ else medQ (findH q ctype).1 := rfl
  have hfh : findH q ctype = findF q ctype (fieldsQ q) := rfl
  rw [← hfh] at hfl
  generalize findH q ctype = fh at *
  obtain ⟨ft, fb⟩ := fh
  dsimp only at hfl hmq
  refine Ops.r (Run.mv rfl) rfl ?_
  refine Ops.r (Run.extract rfl rfl) rfl ?_
  refine Ops.r (Run.extract rfl rfl) rfl ?_
  refine Ops.r (Run.asg rfl) rfl ?_
  refine Ops.r (Run.asg rfl) rfl ?_
  refine Ops.nil ?_
  refine thenQ_n ?_
  refine VC.sub [(1, _), (4, _), (5, _), (6, _)] (.cons rfl (.cons rfl (.cons rfl (.cons rfl .nil)))) ?_
  refine VC.seq ?_
  refine VC.seq ?_
  refine VC.split1 [(4, _), (5, _)] (.cons rfl (.cons rfl .nil)) 16 (.bool (decide (fb = false ∧ dg = true))) ?_ ?_
  · refine VC.region ?_
    refine Ops.r (Run.mv rfl) rfl ?_
    by_cases hs12 : fb = true
    · skip
      refine Ops.r (Run.not rfl) rfl ?_
      refine Ops.r (Run.mv rfl) rfl ?_
      refine Ops.sk rfl au rfl ?_
      refine Ops.r (Run.pickF rfl rfl au) rfl ?_
      refine Ops.nil ?_
      refine thenQ_n ⟨(.cons (congrArg (fun b => some (Value.bool b)) (by first | (simp [*]; done) | (simp_all; done))) (.cons rfl (.cons rfl .nil))), rfl⟩
    · skip
      refine Ops.r (Run.not rfl) rfl ?_
      refine Ops.r (Run.mv rfl) rfl ?_
      refine Ops.rg rfl au (Run.mv rfl) rfl ?_
      by_cases hs15 : dg = true
      · skip
        refine Ops.r (Run.pickT rfl rfl au) rfl ?_
        refine Ops.nil ?_
        refine thenQ_n ⟨(.cons (congrArg (fun b => some (Value.bool b)) (by first | (simp [*]; done) | (simp_all; done))) (.cons rfl (.cons rfl .nil))), rfl⟩
      · skip
        refine Ops.r (Run.pickT rfl rfl au) rfl ?_
        refine Ops.nil ?_
        refine thenQ_n ⟨(.cons (congrArg (fun b => some (Value.bool b)) (by first | (simp [*]; done) | (simp_all; done))) (.cons rfl (.cons rfl .nil))), rfl⟩
  · intro Γ hΓ
    refine thenQ_n (VC.sub _ hΓ ?_)
    refine VC.condD rfl (fun hc1 => ?_) (fun hc1 => ?_)
    · skip
      rw [if_pos hc1] at hmq
      refine VC.seq ?_
      refine VC.region ?_
      refine Ops.r (Run.build (evs.cons rfl (evs.cons rfl evs.nil)) zero67 (places67).choose_spec.1 (places67).choose_spec.2 rfl) rfl ?_
      refine Ops.st (Acts.storeA rfl rfl Tryz.sizeOf67 hb4 rfl (MdC_one ⟨msgT, rfcT, []⟩ none 0)) ?_
      rintro w3 ⟨hb4n, hf3, _⟩
      have hb4n : Blk w3 g4 67 (MdC ⟨msgT, rfcT, []⟩ none 0) := hb4n
      have K := Frm.own K hf3 (fun y hy => by simp at hy; omega)
      refine Ops.nil ?_
      refine thenQ_n ?_
      refine VC.sub [(4, _)] (.cons rfl .nil) ?_
      refine VC.ret ?_
      refine thenQ_r (endR ?_)
      refine res_cellA rfl Tryz.isAgg67 Tryz.sizeOf67 (fun j v hj => hb4n.cells j v hj) (by first | rfl | (simp; done)) ?_
      refine res_nil ?_
      rw [hmq]
      exact ⟨K, none, 0, rfl, Own.nil _ _ _, by simp [ob]⟩
    · skip
      rw [if_neg hc1] at hmq
      refine VC.skip ?_
      refine thenQ_n ?_
      refine VC.sub [(4, _), (5, _)] (.cons rfl (.cons rfl .nil)) ?_
      refine VC.seq ?_
      refine VC.region ?_
      refine Ops.r (Run.mv rfl) rfl ?_
      refine Ops.cl (Enters.fn (evs.cons rfl evs.nil) Tryz.call139) (read_spec ft _ (by omega)) rfl ?_
      rintro e w4 ⟨hf4, A2, c2, rfl, hO, hub⟩
      refine ⟨_, rfl, ?_⟩
      have hs2 := K.size
      have hb4 := hb4.frm hf4 (by simp)
      have K := K.trans hf4 (by simp)
      refine Ops.st (Acts.storeA rfl rfl Tryz.sizeOf67 hb4 rfl (MdC_one (medQ ft) A2 c2)) ?_
      rintro w5 ⟨hb4n, hf5, _⟩
      have hb4n : Blk w5 g4 67 (MdC (medQ ft) A2 c2) := hb4n
      have hO := hO.frm hf5 (fun y hy => by have := hO.ne_blk hb4 (by decide); simp; rintro rfl; exact this hy)
      have K := Frm.own K hf5 (fun y hy => by simp at hy; omega)
      refine Ops.nil ?_
      refine thenQ_n ?_
      refine VC.sub [(4, _)] (.cons rfl .nil) ?_
      refine VC.ret ?_
      refine endR ?_
      refine res_cellA rfl Tryz.isAgg67 Tryz.sizeOf67 (fun j v hj => hb4n.cells j v hj) (by first | rfl | (simp; done)) ?_
      refine res_nil ?_
      rw [hmq]
      exact ⟨K, A2, c2, rfl, hO, fun x hx => by have := hub x hx; omega⟩

end Go.Proofs.YtenbjndldenkfaaGreatDoor

