/-
  Texts with great letters; numbers of a path.
-/
import Derived.Test.YtenbjndldenkfaaGreatDoorSecT
import Derived.Test.YtenbjndldenkfaaGreatDoorParW
namespace Go.Proofs.YtenbjndldenkfaaGreatDoor
open Go.RowKit Go.Sort

def gre (c : UInt8) : UInt8 := if 97 ≤ c.toNat ∧ c.toNat ≤ 122 then c - 32 else c
theorem gre_nat (c : UInt8) : (gre c).toNat = if 97 ≤ c.toNat ∧ c.toNat ≤ 122 then c.toNat - 32 else c.toNat := by
  unfold gre
  split
  · rename_i h
    have h32 : (32 : UInt8).toNat = 32 := rfl
    rw [UInt8.toNat_sub_of_le _ _ (by rw [UInt8.le_iff_toNat_le]; omega), h32]
  · rfl
def greS (s : Tx) : Tx := s.map gre
theorem greS_len (s : Tx) : (greS s).length = s.length := by simp [greS]

theorem gre_step {s : Tx} {i : Nat} (h : i < s.length) : ((s.take i).map gre ++ s.drop i).set i (gre s[i]) = (s.take (i + 1)).map gre ++ s.drop (i + 1) := by
  have e1 : ((s.take i).map gre).length = i := by simp; omega
  rw [List.set_append_right _ _ (by omega), e1, Nat.sub_self, List.drop_eq_getElem_cons h, List.set_cons_zero]
  have e2 : s.take (i + 1) = s.take i ++ [s[i]] := by rw [List.take_add_one, List.getElem?_eq_getElem h]; rfl
  rw [e2]
  simp only [List.map_append, List.map_cons, List.map_nil, List.append_assoc, List.cons_append, List.nil_append]
theorem gre_stay {s : Tx} {i : Nat} (h : i < s.length) (hl : gre s[i] = s[i]) : (s.take i).map gre ++ s.drop i = (s.take (i + 1)).map gre ++ s.drop (i + 1) := by
  rw [← gre_step h, hl]
  apply List.ext_getElem?
  intro j
  by_cases hj : j = i
  · subst hj
    have e1 : ((s.take j).map gre).length = j := by simp; omega
    rw [List.getElem?_set_self (by simp; omega), List.getElem?_append_right (by omega), e1, Nat.sub_self, List.drop_eq_getElem_cons h]
    rfl
  · rw [List.getElem?_set_ne (Ne.symm hj)]

set_option maxRecDepth 100000 in
theorem great_spec (q : Tx) (w : World) (hq : q.length ≤ 1000000) : Calls Tryz.prog 84 #[encStr q] w fun e w' => e = .returned (encStr (greS q)) ∧ Frm [] w w' := by
  refine VC.calls (nt := 29) (res := #[.tmp 2]) Tryz.func84 rfl Tryz.ntmps84 Tryz.results84 rfl ?_
  refine VC.seq ?_
  refine VC.region ?_
  refine Ops.r (Run.asg rfl) rfl ?_
  refine Ops.nil ?_
  refine thenQ_n ?_
  refine VC.sub [(0, _)] (.cons rfl .nil) ?_
  refine VC.seq ?_
  refine VC.region ?_
  refine Ops.r (Run.mv rfl) rfl ?_
  refine Ops.m (Does.bytesOfT rfl Tryz.underlying9 Tryz.underlying22 Tryz.underlying5) rfl ?_
  rintro _ w1 ⟨c1, cs1, rfl, hF1, ht1, hf1⟩
  have hge : w.heap.size ≤ w.heap.size := Nat.le_refl _
  generalize hg : w.heap.size = g1 at hF1 hge ⊢
  refine Ops.r (Run.asg rfl) rfl ?_
  refine Ops.nil ?_
  refine thenQ_n ?_
  refine VC.sub [(3, _)] (.cons rfl .nil) ?_
  refine VC.seq ?_
  refine VC.seq ?_
  refine VC.region ?_
  refine Ops.r (Run.mv rfl) rfl ?_
  refine Ops.r (Run.lenS rfl Tryz.underlying22) rfl ?_
  refine Ops.r (v := .int .i64 ((0 : Nat) : Int)) (Run.mv rfl) rfl ?_
  refine Ops.nil ?_
  refine thenQ_n ?_
  refine VC.block ?_
  refine VC.loop (σ := Nat) (fun s => [(3, .slice (some ⟨g1, 0, none⟩) q.length c1), (8, .slice (some ⟨g1, 0, none⟩) q.length c1), (9, .int .i64 ((q.length : Nat) : Int)), (10, .int .i64 ((s : Nat) : Int))]) (fun s wr => s ≤ q.length ∧ Frm [] w wr ∧ ∃ cs, Fro wr g1 5 cs ∧ cs.toList.take q.length = U8 ((q.take s).map gre ++ q.drop s)) (fun s => q.length - s) 0 (.cons rfl (.cons rfl (.cons rfl (.cons rfl .nil)))) ⟨by omega, hf1, cs1, hF1, by simpa using ht1⟩ ?_
  rintro i wr ⟨hi, hfr, cs, hF, ht⟩
  refine VC.seq ?_
  refine VC.region ?_
  refine Ops.r (Run.bin rfl rfl (Bin.lssN _ _)) rfl ?_
  refine Ops.nil ?_
  refine thenQ_n ?_
  refine VC.seq ?_
  refine VC.condD rfl (fun hc1 => ?_) (fun hc1 => ?_)
  · skip
    have hrd : Rd wr 1 (some ⟨g1, 0, none⟩) q.length (U8 ((q.take i).map gre ++ q.drop i)) := by
      have h := hF.rd (l := (q.take i).map gre ++ q.drop i) (by simpa [Nat.min_eq_left hi, Nat.add_sub_cancel' hi] using ht)
      simpa [Nat.min_eq_left hi, Nat.add_sub_cancel' hi] using h
    have hcell : wr.cell? ((⟨g1, 0, none⟩ : Addr).add (i * 1)) = some (.int .u8 ((q[i].toNat : Nat) : Int)) := by
      rw [Nat.mul_one]
      obtain ⟨ad, u, hA, hu, hc⟩ := hrd.at1 hc1
      cases hA
      rw [hc, ← hu]
      simp [U8, List.getElem?_append_right, Nat.min_eq_left hi, List.getElem?_eq_getElem, hc1]
    have hll : ((q.take i).map gre ++ q.drop i).length = q.length := by simp; omega
    have hsz : i < cs.size := by
      have := congrArg List.length ht
      simp [U8] at this
      omega
    refine VC.skip ?_
    refine thenQ_n ?_
    refine VC.sub [(3, _), (8, _), (9, _), (10, _)] (.cons rfl (.cons rfl (.cons rfl (.cons rfl .nil)))) ?_
    refine VC.seq ?_
    refine VC.block ?_
    refine VC.seq ?_
    refine VC.region ?_
    refine Ops.r (Run.mv rfl) rfl ?_
    refine Ops.r (Run.indexS i rfl rfl Tryz.underlying22 Tryz.sizeOf5 hc1) rfl ?_
    refine Ops.r (Run.load rfl Tryz.isAgg5 hcell) rfl ?_
    refine Ops.r (Run.asg rfl) rfl ?_
    refine Ops.r (Run.asg rfl) rfl ?_
    refine Ops.nil ?_
    refine thenQ_n ?_
    refine VC.sub [(3, _), (4, _), (5, _), (8, _), (9, _), (10, _)] (.cons rfl (.cons rfl (.cons rfl (.cons rfl (.cons rfl (.cons rfl .nil)))))) ?_
    refine VC.seq ?_
    refine VC.split1 [(3, _), (4, _), (5, _), (8, _), (9, _), (10, _)] (.cons rfl (.cons rfl (.cons rfl (.cons rfl (.cons rfl (.cons rfl .nil)))))) 20 (.bool (decide ((97 ≤ q[i].toNat) ∧ (q[i].toNat ≤ 122)))) ?_ ?_
    · by_cases hs0 : 97 ≤ q[i].toNat
      · skip
        refine VC.region ?_
        refine Ops.r (Run.mv rfl) rfl ?_
        refine Ops.r (Run.bin rfl rfl (Bin.geqN _ 97)) rfl ?_
        refine Ops.r (Run.mv rfl) rfl ?_
        refine Ops.rg rfl (by first | rfl | assumption | exact decide_eq_true (by assumption) | exact decide_eq_false (by assumption) | decide | (simp; done) | (simp; omega) | (simp [*]; done)) (Run.mv rfl) rfl ?_
        refine Ops.rg rfl (by first | rfl | assumption | exact decide_eq_true (by assumption) | exact decide_eq_false (by assumption) | decide | (simp; done) | (simp; omega) | (simp [*]; done)) (Run.bin rfl rfl (Bin.leqN _ 122)) rfl ?_
        refine Ops.r (Run.pickT rfl rfl (by first | rfl | assumption | exact decide_eq_true (by assumption) | exact decide_eq_false (by assumption) | decide | (simp; done) | (simp; omega) | (simp [*]; done))) rfl ?_
        refine Ops.nil ?_
        refine thenQ_n ⟨(.cons (by rw [dand1 hs0]; rfl) (.cons rfl (.cons rfl (.cons rfl (.cons rfl (.cons rfl (.cons rfl .nil))))))), rfl⟩
      · skip
        refine VC.region ?_
        refine Ops.r (Run.mv rfl) rfl ?_
        refine Ops.r (Run.bin rfl rfl (Bin.geqN _ 97)) rfl ?_
        refine Ops.r (Run.mv rfl) rfl ?_
        refine Ops.sk rfl (by first | rfl | assumption | exact decide_eq_true (by assumption) | exact decide_eq_false (by assumption) | decide | (simp; done) | (simp; omega) | (simp [*]; done)) rfl ?_
        refine Ops.sk rfl (by first | rfl | assumption | exact decide_eq_true (by assumption) | exact decide_eq_false (by assumption) | decide | (simp; done) | (simp; omega) | (simp [*]; done)) rfl ?_
        refine Ops.r (Run.pickF rfl rfl (by first | rfl | assumption | exact decide_eq_true (by assumption) | exact decide_eq_false (by assumption) | decide | (simp; done) | (simp; omega) | (simp [*]; done))) rfl ?_
        refine Ops.nil ?_
        refine thenQ_n ⟨(.cons (by rw [dand0 hs0]; rfl) (.cons rfl (.cons rfl (.cons rfl (.cons rfl (.cons rfl (.cons rfl .nil))))))), rfl⟩
    · intro Γ hΓ
      refine thenQ_n (VC.sub _ hΓ ?_)
      refine VC.meet (σ := Unit) (fun s => [(3, .slice (some ⟨g1, 0, none⟩) q.length c1), (8, .slice (some ⟨g1, 0, none⟩) q.length c1), (9, .int .i64 ((q.length : Nat) : Int)), (10, .int .i64 ((i : Nat) : Int))]) (fun s wm => Frm [] w wm ∧ ∃ cs, Fro wm g1 5 cs ∧ cs.toList.take q.length = U8 ((q.take (i + 1)).map gre ++ q.drop (i + 1))) ?_ ?_
      · skip
        refine VC.condD rfl (fun hc2 => ?_) (fun hc2 => ?_)
        · skip
          refine VC.region ?_
          refine Ops.r (Run.mv rfl) rfl ?_
          refine Ops.r (Run.mv rfl) rfl ?_
          refine Ops.r (Run.mv rfl) rfl ?_
          refine Ops.r (Run.bin rfl rfl (Bin.sub_u8 _ 32 (by omega) (by omega))) rfl ?_
          rw [show (q[i].toNat - 32 : Nat) = (gre q[i]).toNat by rw [gre_nat, if_pos hc2]]
          refine Ops.r (Run.indexS i rfl rfl Tryz.underlying22 Tryz.sizeOf5 hc1) rfl ?_
          rw [show (⟨g1, 0, none⟩ : Addr).add (i * 1) = ⟨g1, i, none⟩ by unfold Addr.add; rw [Nat.mul_one]; split <;> simp_all]
          refine Ops.st (Acts.storeFro rfl rfl Tryz.sizeOf5 hF hsz rfl) ?_
          rintro w2 ⟨hF2, hf2, hs2⟩
          refine Ops.nil ?_
          refine thenQ_n ⟨(), (.cons rfl (.cons rfl (.cons rfl (.cons rfl .nil)))), ?_⟩
          exact ⟨hfr.own hf2 (fun x hx => by simp at hx; omega), _, hF2, by rw [u8_set ht hll hc1, gre_step hc1]⟩
        · skip
          refine VC.skip ?_
          refine thenQ_n ⟨(), (.cons rfl (.cons rfl (.cons rfl (.cons rfl .nil)))), ?_⟩
          exact ⟨hfr, cs, hF, by rw [ht, gre_stay hc1 (UInt8.toNat_inj.1 (by rw [gre_nat, if_neg hc2]))]⟩
      · skip
        rintro _ wm ⟨hfr2, cs2, hF2, ht2⟩ Γ hΓ
        refine blockQ_n (thenQ_n (VC.sub _ hΓ ?_))
        refine VC.region ?_
        refine Ops.r (Run.bin rfl rfl (Bin.add_i64 _ 1 (by omega))) rfl ?_
        refine Ops.r (Run.mv rfl) rfl ?_
        refine Ops.nil ?_
        refine thenQ_n ⟨(i + 1), (.cons rfl (.cons rfl (.cons rfl (.cons rfl .nil)))), ?_, ?_⟩
        · skip
          exact ⟨hc1, hfr2, cs2, hF2, ht2⟩
        · skip
          first | omega | (dsimp only; omega)
  · skip
    refine VC.exit ?_
    refine thenQ_x (thenQ_x (blockQ_x ?_))
    refine thenQ_n ?_
    refine VC.sub [(3, _)] (.cons rfl .nil) ?_
    refine VC.seq ?_
    refine VC.region ?_
    refine Ops.r (Run.mv rfl) rfl ?_
    have hR : Rd wr 1 (some ⟨g1, 0, none⟩) q.length (U8 (greS q)) := by
      have him : i = q.length := by omega
      subst him
      have h := hF.rd (l := greS q) (by rw [greS_len, ht]; simp [greS])
      rwa [greS_len] at h
    refine Ops.r (Run.strOfT rfl Tryz.underlying22 Tryz.underlying5 Tryz.underlying9 hR) rfl ?_
    refine Ops.r (Run.asg rfl) rfl ?_
    refine Ops.nil ?_
    refine thenQ_n ?_
    refine VC.sub [(2, _)] (.cons rfl .nil) ?_
    refine VC.ret ?_
    refine end1 rfl ?_
    exact ⟨rfl, hfr⟩

end Go.Proofs.YtenbjndldenkfaaGreatDoor
