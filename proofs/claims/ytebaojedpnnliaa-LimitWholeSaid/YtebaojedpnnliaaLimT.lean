/-
  The walk of limit.Lengths.
-/
import Derived.Test.YtebaojedpnnliaaLimG
import Derived.Test.YtebaojedpnnliaaLimL
namespace Go.Proofs.Ytebaojedpnnliaa
open Go.RowKit

theorem IB_NI {l : List Int} (h : ∀ x ∈ l, 0 ≤ x) : IB l = NI (l.map Int.toNat) := by
  unfold IB NI
  rw [List.map_map]
  apply List.map_congr_left
  intro x hx
  have := h x hx
  simp
  omega
def cntV (n : Nat) (l : List Nat) : List Nat := (List.range n).map fun k => l.count k
theorem cntV_len (n : Nat) (l : List Nat) : (cntV n l).length = n := by simp [cntV]
theorem cntV_nil (n : Nat) : NI (cntV n []) = (List.replicate n [Value.int .i64 0]).flatten := by
  apply List.ext_getElem?
  intro j
  have e : (List.replicate n [Value.int .i64 0]).flatten = List.replicate n (Value.int .i64 0) := by
    induction n with
    | zero => rfl
    | succ n ih => rw [List.replicate_succ, List.flatten_cons, ih]; rfl
  rw [e]
  simp [NI, cntV, List.getElem?_replicate, List.getElem?_map, List.getElem?_range]
  by_cases h : j < n
  · simp [h]
  · simp [h]
theorem cntV_snoc {n s : Nat} (l : List Nat) (h : s < n) : NI (cntV n (l ++ [s])) = (NI (cntV n l)).set s (.int .i64 ((l.count s + 1 : Nat) : Int)) := by
  apply List.ext_getElem?
  intro j
  by_cases hj : j = s
  · subst hj
    rw [List.getElem?_set_self (by simp [NI, cntV_len, h])]
    simp [NI, cntV, h]
  · rw [List.getElem?_set_ne (Ne.symm hj)]
    simp only [NI, cntV, List.getElem?_map]
    by_cases hn : j < n
    · simp [hn, List.count_append, List.count_singleton, Ne.symm hj]
    · simp [hn]
theorem cntV_cell {w : World} {e n c k : Nat} {ad : Addr} {l : List Nat} (h : Own w e 1 (some ad) n c (NI (cntV n l))) (hk : k < n) : w.cell? (ad.add k) = some (.int .i64 ((l.count k : Nat) : Int)) := by
  obtain ⟨ad', u, hA, hu, hc⟩ := h.rd.at1 hk
  injection hA with hA
  subst hA
  rw [hc]
  simp [NI, cntV, hk] at hu
  rw [← hu]
theorem vecOf_eq (n : Nat) (l : List (Nat × List Nat)) : vecOf n l = cntV n (l.flatMap Prod.snd) := by
  unfold vecOf cntV
  apply List.map_congr_left
  intro k _
  induction l with
  | nil => rfl
  | cons a r ih => rw [List.map_cons, List.sum_cons, ih, List.flatMap_cons, List.count_append]
theorem count_le_tot (l : List (Nat × List Nat)) : (l.flatMap Prod.snd).length = totS l := by
  unfold totS
  induction l with
  | nil => rfl
  | cons a r ih => rw [List.flatMap_cons, List.length_append, ih, List.map_cons, List.sum_cons]
theorem totS_take (l : List (Nat × List Nat)) (n : Nat) : totS (l.take n) ≤ totS l := by
  induction l generalizing n with
  | nil => simp
  | cons a r ih =>
    cases n with
    | zero => simp [totS]
    | succ n =>
      have := ih n
      unfold totS at *
      simp only [List.take_succ_cons, List.map_cons, List.sum_cons]
      omega

set_option maxRecDepth 100000 in
theorem lengths_spec (A : Option Addr) (c0 : Nat) (l : List Int) (m : Int) (w : World) (hl : l.length ≤ 1000000) (hr : Rd w 1 A l.length (IB l)) :
    Calls Try.prog 44 #[.slice A l.length c0, .int .i64 m] w fun e w' => Frm [] w w' ∧
      if ¬ mayB l ∨ m < 1 ∨ 15 < m then e = .returned (.tuple #[.slice none 0 0, .int .i64 ((1 : Nat) : Int)])
      else ∃ own, IsCoins (l.map Int.toNat) own ∧ if 2 ^ m.toNat < own.length then e = .returned (.tuple #[.slice none 0 0, .int .i64 ((8 : Nat) : Int)])
        else ∃ B c, e = .returned (.tuple #[.slice B l.length c, .int .i64 ((0 : Nat) : Int)]) ∧ Own w' 3 1 B l.length c (NI (lenP l.length m.toNat own)) ∧ ∀ x ∈ ob B, w.heap.size ≤ x := by
  refine VC.calls (nt := 89) (res := #[.tmp 4, .tmp 5]) Try.func44 rfl Try.ntmps44 Try.results44 rfl ?_
  refine VC.seq ?_
  refine VC.region ?_
  refine Ops.r (Run.asg rfl) rfl ?_
  refine Ops.r (v := .int .i64 ((0 : Nat) : Int)) (Run.asg rfl) rfl ?_
  refine Ops.nil ?_
  refine thenQ_n ?_
  refine VC.sub [(0, _), (1, _)] (.cons rfl (.cons rfl .nil)) ?_
  refine VC.seq ?_
  refine VC.seq ?_
  refine VC.split1 [(0, _), (1, _)] (.cons rfl (.cons rfl .nil)) 23 (.bool (decide (¬ mayB l ∨ m < 1 ∨ 15 < m))) ?_ ?_
  · refine VC.region ?_
    refine Ops.r (Run.mv rfl) rfl ?_
    refine Ops.cl (Enters.fn (evs.cons rfl evs.nil) Try.call57) (may_spec A c0 l _ (by omega) hr) rfl ?_
    rintro e _ ⟨rfl, rfl⟩
    refine ⟨_, rfl, ?_⟩
    by_cases hs14 : mayB l
    · skip
      refine Ops.r (Run.not rfl) rfl ?_
      refine Ops.r (Run.mv rfl) rfl ?_
      refine Ops.rg rfl (by first | rfl | assumption | decide | (simp; done) | (simp; omega) | (simp [*]; done)) (Run.mv rfl) rfl ?_
      refine Ops.rg rfl (by first | rfl | assumption | decide | (simp; done) | (simp; omega) | (simp [*]; done)) (Run.bin rfl rfl (Bin.lss _ 1)) rfl ?_
      by_cases hs18 : m < 1
      · skip
        refine Ops.r (Run.pickF rfl rfl (by first | rfl | assumption | decide | (simp; done) | (simp; omega) | (simp [*]; done))) rfl ?_
        refine Ops.r (Run.mv rfl) rfl ?_
        refine Ops.sk rfl (by first | rfl | assumption | decide | (simp; done) | (simp; omega) | (simp [*]; done)) rfl ?_
        refine Ops.sk rfl (by first | rfl | assumption | decide | (simp; done) | (simp; omega) | (simp [*]; done)) rfl ?_
        refine Ops.r (Run.pickT rfl rfl (by first | rfl | assumption | decide | (simp; done) | (simp; omega) | (simp [*]; done))) rfl ?_
        refine Ops.nil ?_
        refine thenQ_n ⟨(.cons (congrArg (fun b => some (Value.bool b)) (by simp [*])) (.cons rfl (.cons rfl .nil))), rfl⟩
      · skip
        refine Ops.r (Run.pickF rfl rfl (by first | rfl | assumption | decide | (simp; done) | (simp; omega) | (simp [*]; done))) rfl ?_
        refine Ops.r (Run.mv rfl) rfl ?_
        refine Ops.rg rfl (by first | rfl | assumption | decide | (simp; done) | (simp; omega) | (simp [*]; done)) (Run.mv rfl) rfl ?_
        refine Ops.rg rfl (by first | rfl | assumption | decide | (simp; done) | (simp; omega) | (simp [*]; done)) (Run.bin rfl rfl (Bin.gtr _ 15)) rfl ?_
        by_cases hs22 : 15 < m
        · skip
          refine Ops.r (Run.pickF rfl rfl (by first | rfl | assumption | decide | (simp; done) | (simp; omega) | (simp [*]; done))) rfl ?_
          refine Ops.nil ?_
          refine thenQ_n ⟨(.cons (congrArg (fun b => some (Value.bool b)) (by simp [*])) (.cons rfl (.cons rfl .nil))), rfl⟩
        · skip
          refine Ops.r (Run.pickF rfl rfl (by first | rfl | assumption | decide | (simp; done) | (simp; omega) | (simp [*]; done))) rfl ?_
          refine Ops.nil ?_
          refine thenQ_n ⟨(.cons (congrArg (fun b => some (Value.bool b)) (by simp [*])) (.cons rfl (.cons rfl .nil))), rfl⟩
    · skip
      refine Ops.r (Run.not rfl) rfl ?_
      refine Ops.r (Run.mv rfl) rfl ?_
      refine Ops.sk rfl (by first | rfl | assumption | decide | (simp; done) | (simp; omega) | (simp [*]; done)) rfl ?_
      refine Ops.sk rfl (by first | rfl | assumption | decide | (simp; done) | (simp; omega) | (simp [*]; done)) rfl ?_
      refine Ops.r (Run.pickT rfl rfl (by first | rfl | assumption | decide | (simp; done) | (simp; omega) | (simp [*]; done))) rfl ?_
      refine Ops.r (Run.mv rfl) rfl ?_
      refine Ops.sk rfl (by first | rfl | assumption | decide | (simp; done) | (simp; omega) | (simp [*]; done)) rfl ?_
      refine Ops.sk rfl (by first | rfl | assumption | decide | (simp; done) | (simp; omega) | (simp [*]; done)) rfl ?_
      refine Ops.r (Run.pickT rfl rfl (by first | rfl | assumption | decide | (simp; done) | (simp; omega) | (simp [*]; done))) rfl ?_
      refine Ops.nil ?_
      refine thenQ_n ⟨(.cons (congrArg (fun b => some (Value.bool b)) (by simp [*])) (.cons rfl (.cons rfl .nil))), rfl⟩
  · intro Γ hΓ
    refine thenQ_n (VC.sub _ hΓ ?_)
    refine VC.condD rfl (fun hc1 => ?_) (fun hc1 => ?_)
    · skip
      refine VC.seq ?_
      refine VC.region ?_
      refine Ops.r (Run.asg rfl) rfl ?_
      refine Ops.r (v := .int .i64 ((1 : Nat) : Int)) (Run.asg rfl) rfl ?_
      refine Ops.nil ?_
      refine thenQ_n ?_
      refine VC.sub [(4, _), (5, _)] (.cons rfl (.cons rfl .nil)) ?_
      refine VC.ret ?_
      refine thenQ_r (end2 rfl rfl ?_)
      exact ⟨Frm.refl [] w, by rw [if_pos hc1]⟩
    · skip
      obtain ⟨m, rfl⟩ : ∃ k : Nat, m = k := ⟨m.toNat, by omega⟩
      have hm1 : 1 ≤ m := by omega
      have hm15 : m ≤ 15 := by omega
      have hmay : mayB l := Classical.not_not.1 (fun h => hc1 (.inl h))
      have hpos : ∀ x ∈ l, 0 ≤ x := fun x hx => (hmay.2 x hx).1
      have hll := hmay.1
      have hin := IB_NI hpos
      generalize hcs : l.map Int.toNat = cs at *
      have hcl : cs.length = l.length := by rw [← hcs, List.length_map]
      have hcx : ∀ x ∈ cs, x ≤ 2147483647 := by
        intro x hx
        rw [← hcs] at hx
        obtain ⟨y, hy, rfl⟩ := List.mem_map.1 hx
        have := hmay.2 y hy
        omega
      rw [hin, ← hcl] at hr
      rw [← hcl]
      refine VC.skip ?_
      refine thenQ_n ?_
      refine VC.sub [(0, _), (1, _)] (.cons rfl (.cons rfl .nil)) ?_
      refine VC.seq ?_
      refine VC.region ?_
      refine Ops.r (Run.mv rfl) rfl ?_
      refine Ops.cl (Enters.fn (evs.cons rfl evs.nil) Try.call58) (sorted_spec A c0 cs _ (by omega) hcx hr) rfl ?_
      rintro e w1 ⟨B1, c1, ps, rfl, hP1, hco, hf1, hu1⟩
      refine ⟨_, rfl, ?_⟩
      have hpl : ps.length ≤ 320 := by
        have h5 := hco.1.length_eq
        rw [List.length_map] at h5
        rw [h5]
        unfold coinsTo
        rw [List.length_map]
        exact Nat.le_trans (List.length_filter_le _ _) (by simp; omega)
      have hpw : 2 ^ m ≤ 2 ^ 15 := Nat.pow_le_pow_right (by omega) hm15
      refine Ops.r (Run.asg rfl) rfl ?_
      refine Ops.nil ?_
      refine thenQ_n ?_
      refine VC.sub [(0, _), (1, _), (6, _)] (.cons rfl (.cons rfl (.cons rfl .nil))) ?_
      refine VC.seq ?_
      refine VC.region ?_
      refine Ops.r (Run.mv rfl) rfl ?_
      refine Ops.r (Run.lenS rfl Try.underlying54) rfl ?_
      refine Ops.m (Does.makeS rfl rfl Try.underlying54 (info3) rfl (by omega) (by omega)) rfl ?_
      rintro _ w2 ⟨rfl, ho2, hf2, hs2⟩
      have hP2 := hP1.frm hf2 (by simp) (fun _ _ _ _ => by simp)
      have hfr2 := hf1.own hf2 (by simp)
      have hgo := hf1.size
      generalize hgo2 : w1.heap.size = go at *
      refine Ops.r (Run.asg rfl) rfl ?_
      refine Ops.nil ?_
      refine thenQ_n ?_
      refine VC.sub [(1, _), (6, _), (7, _)] (.cons rfl (.cons rfl (.cons rfl .nil))) ?_
      refine VC.seq ?_
      refine VC.block ?_
      refine VC.seq ?_
      refine VC.region ?_
      refine Ops.r (Run.mv rfl) rfl ?_
      refine Ops.r (Run.lenS rfl Try.underlying97) rfl ?_
      refine Ops.r (Run.mv rfl) rfl ?_
      refine Ops.r (Run.bin rfl rfl (Bin.shl_i64 1 m (by omega) (by omega))) rfl ?_
      refine Ops.r (Run.bin rfl rfl (Bin.gtr _ _)) rfl ?_
      refine Ops.r (Run.asg rfl) rfl ?_
      refine Ops.nil ?_
      refine thenQ_n ?_
      refine VC.sub [(1, _), (6, _), (7, _), (29, _)] (.cons rfl (.cons rfl (.cons rfl (.cons rfl .nil)))) ?_
      refine VC.condD rfl (fun hc2 => ?_) (fun hc2 => ?_)
      · skip
        rw [Nat.one_mul] at hc2
        have hc2n : 2 ^ m < ps.length := Int.ofNat_lt.1 hc2
        refine VC.seq ?_
        refine VC.region ?_
        refine Ops.r (Run.asg rfl) rfl ?_
        refine Ops.r (v := .int .i64 ((8 : Nat) : Int)) (Run.asg rfl) rfl ?_
        refine Ops.nil ?_
        refine thenQ_n ?_
        refine VC.sub [(4, _), (5, _)] (.cons rfl (.cons rfl .nil)) ?_
        refine VC.ret ?_
        refine blockQ_r (thenQ_r (end2 rfl rfl ?_))
        refine ⟨hfr2, ?_⟩
        rw [if_neg hc1]
        refine ⟨_, hco, ?_⟩
        rw [Int.toNat_natCast, List.length_map, if_pos hc2n]
      · skip
        have hc2n : ¬ 2 ^ m < ps.length := fun h => hc2 (by rw [Nat.one_mul]; exact Int.ofNat_lt.2 h)
        refine VC.seq ?_
        refine VC.region ?_
        refine Ops.r (Run.mv rfl) rfl ?_
        refine Ops.r (Run.lenS rfl Try.underlying97) rfl ?_
        refine Ops.r (Run.bin rfl rfl (Bin.eqlN _ 1)) rfl ?_
        refine Ops.r (Run.asg rfl) rfl ?_
        refine Ops.nil ?_
        refine thenQ_n ?_
        refine VC.sub [(1, _), (6, _), (7, _), (35, _)] (.cons rfl (.cons rfl (.cons rfl (.cons rfl .nil)))) ?_
        refine VC.condD rfl (fun hc3 => ?_) (fun hc3 => ?_)
        · skip
          obtain ⟨p, rfl⟩ : ∃ p, ps = [p] := by
            match ps, hc3 with
            | [p], _ => exact ⟨p, rfl⟩
          obtain ⟨k, hk, hk0, hpe⟩ := coinsTo_mem (hco.1.mem_iff.1 (List.mem_map_of_mem (f := PkC.abs) (List.mem_singleton.2 rfl)))
          have hsy : p.sy = [k] := congrArg Prod.snd hpe
          obtain ⟨ad, rfl, hea⟩ := hP2.1.rd.elem (k := 0) (by simp)
          rw [flat_get PkC.cells 2 PkC.cells_len [p] 0 (by simp)] at hea
          have hpo := hP2.2 p (by simp)
          unfold PkOk at hpo
          obtain ⟨ai, hai, hci⟩ := NI_at hpo.rd (k := 0) (by rw [hsy]; simp)
          have hci2 : w2.cell? (ai.add 0) = some (.int .i64 ((k : Nat) : Int)) := by rw [hci]; simp [hsy]
          have h1i : (PkC.cells p)[1]? = some (.slice (some ai) 1 p.c) := by simp [PkC.cells, hai, hsy]
          have hl1 : [p].length = 1 := rfl
          rw [hl1]
          refine VC.seq ?_
          refine VC.region ?_
          refine Ops.r (Run.mv rfl) rfl ?_
          refine Ops.r (Run.mv rfl) rfl ?_
          refine Ops.r (Run.indexS 0 rfl rfl Try.underlying97 Try.sizeOf100 (by omega)) rfl ?_
          refine Ops.r (Run.fieldAddr rfl Try.underlying100 rfl Try.sizeOf54 (by decide)) rfl ?_
          refine Ops.r (Run.load rfl Try.isAgg54 (hea 1 _ h1i)) rfl ?_
          refine Ops.r (Run.index1 0 rfl rfl Try.underlying54 Try.sizeOf3 (by omega)) rfl ?_
          refine Ops.r (Run.load rfl Try.isAgg3 hci2) rfl ?_
          refine Ops.r (Run.index1 _ rfl rfl Try.underlying54 Try.sizeOf3 (by omega)) rfl ?_
          refine Ops.st (Acts.storeOwn k rfl rfl Try.sizeOf3 ho2 rfl (by omega) rfl) ?_
          rintro w3 ⟨ho3, hf3, hs3⟩
          refine Ops.nil ?_
          refine thenQ_n ?_
          refine VC.sub [(7, _)] (.cons rfl .nil) ?_
          refine VC.seq ?_
          refine VC.region ?_
          refine Ops.r (Run.mv rfl) rfl ?_
          refine Ops.r (Run.asg rfl) rfl ?_
          refine Ops.r (v := .int .i64 ((0 : Nat) : Int)) (Run.asg rfl) rfl ?_
          refine Ops.nil ?_
          refine thenQ_n ?_
          refine VC.sub [(4, _), (5, _)] (.cons rfl (.cons rfl .nil)) ?_
          refine VC.ret ?_
          refine blockQ_r (thenQ_r (end2 rfl rfl ?_))
          refine ⟨hfr2.own hf3 (fun x hx => by simp [ob] at hx; omega), ?_⟩
          rw [if_neg hc1]
          refine ⟨_, hco, ?_⟩
          rw [Int.toNat_natCast, List.length_map, if_neg hc2n]
          refine ⟨_, _, rfl, ?_, fun x hx => ?_⟩
          · have h5 : lenP cs.length m ([p].map PkC.abs) = cntV cs.length ([] ++ [k]) := by
              unfold lenP
              rw [if_pos (show ([p].map PkC.abs).length ≤ 1 from Nat.le_refl 1), vecOf_eq]
              simp [PkC.abs, hsy]
            have h6 : (List.replicate cs.length (Value.int .i64 0).cells.toList).flatten = NI (cntV cs.length []) := (cntV_nil _).symm
            rw [h5, cntV_snoc [] hk]
            rw [h6] at ho3
            exact ho3
          · simp [ob] at hx
            omega
        · skip
          refine VC.seq ?_
          refine VC.region ?_
          refine Ops.r (Run.mv rfl) rfl ?_
          refine Ops.r (Run.lenS rfl Try.underlying97) rfl ?_
          refine Ops.r (Run.bin rfl rfl (Bin.eqlN _ 0)) rfl ?_
          refine Ops.r (Run.asg rfl) rfl ?_
          refine Ops.nil ?_
          refine thenQ_n ?_
          refine VC.sub [(1, _), (6, _), (7, _), (48, _)] (.cons rfl (.cons rfl (.cons rfl (.cons rfl .nil)))) ?_
          refine VC.condD rfl (fun hc4 => ?_) (fun hc4 => ?_)
          · skip
            refine VC.seq ?_
            refine VC.region ?_
            refine Ops.r (Run.mv rfl) rfl ?_
            refine Ops.r (Run.asg rfl) rfl ?_
            refine Ops.r (v := .int .i64 ((0 : Nat) : Int)) (Run.asg rfl) rfl ?_
            refine Ops.nil ?_
            refine thenQ_n ?_
            refine VC.sub [(4, _), (5, _)] (.cons rfl (.cons rfl .nil)) ?_
            refine VC.ret ?_
            refine blockQ_r (thenQ_r (end2 rfl rfl ?_))
            refine ⟨hfr2, ?_⟩
            rw [if_neg hc1]
            refine ⟨_, hco, ?_⟩
            rw [Int.toNat_natCast, List.length_map, if_neg hc2n]
            refine ⟨_, _, rfl, ?_, fun x hx => ?_⟩
            · have hpn : ps = [] := List.eq_nil_of_length_eq_zero hc4
              have h5 : lenP cs.length m (ps.map PkC.abs) = cntV cs.length [] := by
                unfold lenP
                rw [if_pos (by simp [hpn]), vecOf_eq, hpn]
                rfl
              have h6 : (List.replicate cs.length (Value.int .i64 0).cells.toList).flatten = NI (cntV cs.length []) := (cntV_nil _).symm
              rw [h5, ← h6]
              exact ho2
            · simp [ob] at hx
              omega
          · skip
            have hn2 : 2 ≤ ps.length := by omega
            have hown : ps.map PkC.abs = levelP (ps.map PkC.abs) 0 := rfl
            have htc := tot_coins cs 2147483647 hcx cs.length (Nat.le_refl _)
            have htp := tot_perm hco.1
            have htm : cs.length * 2147483647 ≤ 320 * 2147483647 := Nat.mul_le_mul_right _ (by omega)
            have htC : totC (ps.map PkC.abs) ≤ 320 * 2147483647 := by omega
            have htS : totS (ps.map PkC.abs) ≤ 320 := by omega
            have hpg0 : ∀ p ∈ ps, ∀ x ∈ ob p.A, x ≠ go := fun p hp x hx => by
              have h5 := (hP1.2 p hp).lt x hx
              omega
            have hsy : ∀ k, ∀ p ∈ levelP (ps.map PkC.abs) k, ∀ s ∈ p.2, s < cs.length := all_level _ (fun p hp s hs => by
              obtain ⟨j, hj, _, rfl⟩ := coinsTo_mem (hco.1.mem_iff.1 hp)
              simp at hs
              omega)
            refine VC.skip ?_
            refine blockQ_n (thenQ_n ?_)
            refine VC.sub [(1, _), (6, _), (7, _)] (.cons rfl (.cons rfl (.cons rfl .nil))) ?_
            refine VC.seq ?_
            refine VC.region ?_
            refine Ops.r (Run.mv rfl) rfl ?_
            refine Ops.r (Run.asg rfl) rfl ?_
            refine Ops.nil ?_
            refine thenQ_n ?_
            refine VC.sub [(1, _), (6, _), (7, _), (8, _)] (.cons rfl (.cons rfl (.cons rfl (.cons rfl .nil)))) ?_
            refine VC.seq ?_
            refine VC.seq ?_
            refine VC.region ?_
            refine Ops.r (Run.mv rfl) rfl ?_
            refine Ops.r (Run.bin rfl rfl (Bin.sub_i64 _ 1 (by omega) (by omega))) rfl ?_
            refine Ops.r (v := .int .i64 ((0 : Nat) : Int)) (Run.mv rfl) rfl ?_
            refine Ops.nil ?_
            refine thenQ_n ?_
            refine VC.sub [(6, _), (7, _), (8, _), (55, _), (56, _)] (.cons rfl (.cons rfl (.cons rfl (.cons rfl (.cons rfl .nil))))) ?_
            refine VC.block ?_
            refine VC.loop (σ := Nat × Option Addr × Nat × List PkC) (fun s => [(6, .slice B1 ps.length c1), (7, .slice (some ⟨go, 0, none⟩) cs.length cs.length), (8, .slice s.2.1 s.2.2.2.length s.2.2.1), (55, .int .i64 ((m - 1 : Nat) : Int)), (56, .int .i64 ((s.1 : Nat) : Int))]) (fun s wr => s.1 ≤ m - 1 ∧ s.2.2.2.map PkC.abs = levelP (ps.map PkC.abs) s.1 ∧ Pks wr s.2.1 s.2.2.1 s.2.2.2 ∧ Pks wr B1 c1 ps ∧ Own wr 3 1 (some ⟨go, 0, none⟩) cs.length cs.length (List.replicate cs.length [Value.int .i64 0]).flatten ∧ Frm [] w wr ∧ ∀ p ∈ s.2.2.2, ∀ x ∈ ob p.A, x ≠ go) (fun s => m - 1 - s.1) (0, B1, c1, ps) (.cons rfl (.cons rfl (.cons rfl (.cons rfl (.cons rfl .nil))))) ⟨by omega, rfl, hP2, hP2, ho2, hfr2, hpg0⟩ ?_
            rintro ⟨k, Bk, ck, lst⟩ wr ⟨hk, hlv, hPk, hPo, hoo, hfr, hpg⟩
            dsimp only at hk hlv hPk hPo hoo hfr hpg ⊢
            have hlen := (level_len (ps.map PkC.abs) k).1
            rw [← hlv, List.length_map, List.length_map] at hlen
            have hgw : go < wr.heap.size := hoo.lt go (by simp [ob])
            refine VC.seq ?_
            refine VC.region ?_
            refine Ops.r (Run.bin rfl rfl (Bin.lss _ _)) rfl ?_
            refine Ops.nil ?_
            refine thenQ_n ?_
            refine VC.seq ?_
            refine VC.condD rfl (fun hc5 => ?_) (fun hc5 => ?_)
            · skip
              have hbd : ∀ p ∈ lst, p.count ≤ 2305843009213693951 ∧ p.sy.length ≤ 100000 := by
                intro p hp
                have h5 : p.abs ∈ levelP (ps.map PkC.abs) k := by rw [← hlv]; exact List.mem_map_of_mem hp
                have h6 : p.count ≤ _ := mem_totC h5
                have h7 : p.sy.length ≤ _ := mem_totS h5
                have h8 := level_totC (ps.map PkC.abs) k
                have h9 := level_totS (ps.map PkC.abs) k
                have h10 : (k + 1) * totC (ps.map PkC.abs) ≤ 16 * (320 * 2147483647) := Nat.mul_le_mul (by omega) htC
                have h11 : (k + 1) * totS (ps.map PkC.abs) ≤ 16 * 320 := Nat.mul_le_mul (by omega) htS
                exact ⟨by omega, by omega⟩
              refine VC.skip ?_
              refine thenQ_n ?_
              refine VC.sub [(6, _), (7, _), (8, _), (55, _), (56, _)] (.cons rfl (.cons rfl (.cons rfl (.cons rfl (.cons rfl .nil))))) ?_
              refine VC.seq ?_
              refine VC.block ?_
              refine VC.region ?_
              refine Ops.r (Run.mv rfl) rfl ?_
              refine Ops.r (Run.mv rfl) rfl ?_
              refine Ops.cl (Enters.fn (evs.cons rfl (evs.cons rfl evs.nil)) Try.call59) (merged_spec B1 Bk c1 ck ps lst _ hPo.1.rd hPo.2 hPk.1.rd hPk.2 hPo.1.le (by omega) (by omega) hbd (fun x => x ≠ go) (fun x hx => by omega) hpg0) rfl ?_
              rintro e w5 ⟨B5, c5, qs, rfl, hP5, hq5, hf5, hu5, hg5⟩
              refine ⟨_, rfl, ?_⟩
              refine Ops.r (Run.asg rfl) rfl ?_
              refine Ops.nil ?_
              refine blockQ_n (thenQ_n ?_)
              refine VC.sub [(6, _), (7, _), (8, _), (55, _), (56, _)] (.cons rfl (.cons rfl (.cons rfl (.cons rfl (.cons rfl .nil))))) ?_
              refine VC.region ?_
              refine Ops.r (Run.bin rfl rfl (Bin.add_i64 _ 1 (by omega))) rfl ?_
              refine Ops.r (Run.mv rfl) rfl ?_
              refine Ops.nil ?_
              refine thenQ_n ⟨(k + 1, B5, c5, qs), (.cons rfl (.cons rfl (.cons rfl (.cons rfl (.cons rfl .nil))))), ?_, ?_⟩
              · skip
                exact ⟨by dsimp only; omega, by dsimp only; rw [hq5, hlv]; rfl, hP5, hPo.frm hf5 (by simp) (fun _ _ _ _ => by simp), hoo.frm hf5 (by simp), hfr.own hf5 (by simp), hg5⟩
              · skip
                first | omega | (dsimp only; omega)
            · skip
              have hkm : k = m - 1 := by omega
              subst hkm
              have hen := level_enough (ps.map PkC.abs) (m - 1) (by rw [List.length_map, show m - 1 + 1 = m by omega]; omega)
              rw [← hlv, List.length_map, List.length_map] at hen
              have hcc := hPk.1.le
              rw [← cntV_nil] at hoo
              have hall : ∀ i, i ≤ lst.length → ((lst.take i).flatMap PkC.sy).length ≤ 16 * 320 := by
                intro i _
                have h8 := level_totS (ps.map PkC.abs) (m - 1)
                have h9 : (m - 1 + 1) * totS (ps.map PkC.abs) ≤ 16 * 320 := Nat.mul_le_mul (by omega) htS
                have h10 := totS_take (lst.map PkC.abs) i
                rw [← count_le_tot, ← List.map_take, List.flatMap_map, hlv] at h10
                exact Nat.le_trans h10 (Nat.le_trans h8 h9)
              have hsyl : ∀ p ∈ lst, ∀ s ∈ p.sy, s < cs.length := fun p hp s hs => hsy (m - 1) p.abs (by rw [← hlv]; exact List.mem_map_of_mem hp) s hs
              refine VC.exit ?_
              refine thenQ_x (thenQ_x (blockQ_x ?_))
              refine thenQ_n ?_
              refine VC.sub [(6, _), (7, _), (8, _)] (.cons rfl (.cons rfl (.cons rfl .nil))) ?_
              refine VC.seq ?_
              refine VC.seq ?_
              refine VC.region ?_
              refine Ops.r (Run.mv rfl) rfl ?_
              refine Ops.r (Run.mv rfl) rfl ?_
              refine Ops.r (Run.lenS rfl Try.underlying97) rfl ?_
              refine Ops.r (Run.bin rfl rfl (Bin.mul_i64 2 _ (by omega))) rfl ?_
              refine Ops.r (Run.bin rfl rfl (Bin.sub_i64 _ 2 (by omega) (by omega))) rfl ?_
              refine Ops.r (Run.sliceS 0 _ rfl Try.underlying97 Try.sizeOf100 evB.none_ (evB.some_ rfl) (by omega) (by omega)) rfl ?_
              rw [cutA_zero, Nat.sub_zero, Nat.sub_zero]
              refine Ops.r (Run.lenS rfl Try.underlying97) rfl ?_
              refine Ops.r (v := .int .i64 ((0 : Nat) : Int)) (Run.mv rfl) rfl ?_
              refine Ops.nil ?_
              refine thenQ_n ?_
              refine VC.sub [(7, _), (67, _), (68, _), (69, _)] (.cons rfl (.cons rfl (.cons rfl (.cons rfl .nil)))) ?_
              refine VC.block ?_
              refine VC.loop (σ := Nat) (fun s => [(7, .slice (some ⟨go, 0, none⟩) cs.length cs.length), (67, .slice Bk (2 * ps.length - 2) ck), (68, .int .i64 ((2 * ps.length - 2 : Nat) : Int)), (69, .int .i64 ((s : Nat) : Int))]) (fun s wr => s ≤ 2 * ps.length - 2 ∧ Pks wr Bk ck lst ∧ Own wr 3 1 (some ⟨go, 0, none⟩) cs.length cs.length (NI (cntV cs.length ((lst.take s).flatMap PkC.sy))) ∧ Frm [] w wr) (fun s => 2 * ps.length - 2 - s) 0 (.cons rfl (.cons rfl (.cons rfl (.cons rfl .nil)))) ⟨by omega, hPk, by simpa using hoo, hfr⟩ ?_
              clear hPk hoo hfr hgw
              rintro i w5 ⟨hi, hPk, hoo, hfr⟩
              refine VC.seq ?_
              refine VC.region ?_
              refine Ops.r (Run.bin rfl rfl (Bin.lssN _ _)) rfl ?_
              refine Ops.nil ?_
              refine thenQ_n ?_
              refine VC.seq ?_
              refine VC.condD rfl (fun hc6 => ?_) (fun hc6 => ?_)
              · skip
                have hil : i < lst.length := by omega
                obtain ⟨ad, rfl, hea⟩ := hPk.1.rd.elem (k := i) hil
                rw [flat_get PkC.cells 2 PkC.cells_len lst i hil] at hea
                have hpok := hPk.2 lst[i] (List.getElem_mem _)
                have hpgi := hpg lst[i] (List.getElem_mem _)
                have hpsy := hsyl lst[i] (List.getElem_mem _)
                have htk : lst.take (i + 1) = lst.take i ++ [lst[i]] := by rw [List.take_add_one, List.getElem?_eq_getElem hil]; rfl
                have hfl := hall (i + 1) hil
                rw [htk, List.flatMap_append] at hfl
                simp only [List.flatMap_cons, List.flatMap_nil, List.append_nil, List.length_append] at hfl
                generalize lst[i] = p at *
                refine VC.skip ?_
                refine thenQ_n ?_
                refine VC.sub [(7, _), (67, _), (68, _), (69, _)] (.cons rfl (.cons rfl (.cons rfl (.cons rfl .nil)))) ?_
                refine VC.seq ?_
                refine VC.block ?_
                refine VC.seq ?_
                refine VC.region ?_
                refine Ops.r (Run.indexS _ rfl rfl Try.underlying97 Try.sizeOf100 (by omega)) rfl ?_
                refine Ops.r (Run.loadA rfl Try.isAgg100 Try.sizeOf100 hea (by first | rfl | (simp; done))) rfl ?_
                refine Ops.m (Does.alloc zero100) rfl ?_
                rintro _ w6 ⟨rfl, hF6⟩
                refine Ops.st (Acts.storeA rfl rfl Try.sizeOf100 hF6.blk rfl p.one) ?_
                rintro w7 ⟨hb7, hf7, hs7⟩
                have h74 : w7.cell? ((⟨w5.heap.size, 0, none⟩ : Addr).add 1) = some (.slice p.A p.sy.length p.c) := by rw [add_mk, hb7.cell]; rfl
                have hf67 : Frm [] w5 w7 := hF6.frm.own hf7 (by simp)
                refine Ops.nil ?_
                refine thenQ_n ?_
                refine VC.sub [(7, _), (10, _), (67, _), (68, _), (69, _)] (.cons rfl (.cons rfl (.cons rfl (.cons rfl (.cons rfl .nil))))) ?_
                refine VC.seq ?_
                refine VC.region ?_
                refine Ops.r (Run.fieldAddr rfl Try.underlying100 rfl Try.sizeOf54 (by decide)) rfl ?_
                refine Ops.r (Run.load rfl Try.isAgg54 h74) rfl ?_
                refine Ops.r (Run.lenS rfl Try.underlying54) rfl ?_
                refine Ops.r (v := .int .i64 ((0 : Nat) : Int)) (Run.mv rfl) rfl ?_
                refine Ops.nil ?_
                refine thenQ_n ?_
                refine VC.sub [(7, _), (67, _), (68, _), (69, _), (74, _), (75, _), (76, _)] (.cons rfl (.cons rfl (.cons rfl (.cons rfl (.cons rfl (.cons rfl (.cons rfl .nil))))))) ?_
                refine VC.block ?_
                refine VC.loop (σ := Nat) (fun s => [(7, .slice (some ⟨go, 0, none⟩) cs.length cs.length), (67, .slice (some ad) (2 * ps.length - 2) ck), (68, .int .i64 ((2 * ps.length - 2 : Nat) : Int)), (69, .int .i64 ((i : Nat) : Int)), (74, .slice p.A p.sy.length p.c), (75, .int .i64 ((p.sy.length : Nat) : Int)), (76, .int .i64 ((s : Nat) : Int))]) (fun s wr => s ≤ p.sy.length ∧ Pks wr (some ad) ck lst ∧ PkOk wr p ∧ Own wr 3 1 (some ⟨go, 0, none⟩) cs.length cs.length (NI (cntV cs.length ((lst.take i).flatMap PkC.sy ++ p.sy.take s))) ∧ Frm [] w wr) (fun s => p.sy.length - s) 0 (.cons rfl (.cons rfl (.cons rfl (.cons rfl (.cons rfl (.cons rfl (.cons rfl .nil))))))) ⟨by omega, hPk.frm hf67 (by simp) (fun _ _ _ _ => by simp), hpok.frm hf67 (by simp), by simpa using hoo.frm hf67 (by simp), hfr.own hf67 (by simp)⟩ ?_
                clear hPk hoo hfr hpok hea
                rintro j w8 ⟨hj, hPk, hpok, hoo, hfr⟩
                refine VC.seq ?_
                refine VC.region ?_
                refine Ops.r (Run.bin rfl rfl (Bin.lssN _ _)) rfl ?_
                refine Ops.nil ?_
                refine thenQ_n ?_
                refine VC.seq ?_
                refine VC.condD rfl (fun hc7 => ?_) (fun hc7 => ?_)
                · skip
                  obtain ⟨ai, hai, hci⟩ := NI_at (Own.rd hpok) hc7
                  have hsn := hpsy p.sy[j] (List.getElem_mem _)
                  have hct := cntV_cell hoo hsn
                  have htk2 : p.sy.take (j + 1) = p.sy.take j ++ [p.sy[j]] := by rw [List.take_add_one, List.getElem?_eq_getElem hc7]; rfl
                  have hcl2 : ((lst.take i).flatMap PkC.sy ++ p.sy.take j).count p.sy[j] ≤ 5120 := by
                    refine Nat.le_trans List.count_le_length ?_
                    rw [List.length_append, List.length_take]
                    omega
                  have hsl : p.A = some ai := hai
                  generalize p.sy[j] = sj at *
                  rw [hsl]
                  refine VC.skip ?_
                  refine thenQ_n ?_
                  refine VC.sub [(7, _), (67, _), (68, _), (69, _), (74, _), (75, _), (76, _)] (.cons rfl (.cons rfl (.cons rfl (.cons rfl (.cons rfl (.cons rfl (.cons rfl .nil))))))) ?_
                  refine VC.seq ?_
                  refine VC.block ?_
                  refine VC.seq ?_
                  refine VC.region ?_
                  refine Ops.r (Run.index1 _ rfl rfl Try.underlying54 Try.sizeOf3 (by omega)) rfl ?_
                  refine Ops.r (Run.load rfl Try.isAgg3 hci) rfl ?_
                  refine Ops.r (Run.asg rfl) rfl ?_
                  refine Ops.nil ?_
                  refine thenQ_n ?_
                  refine VC.sub [(7, _), (12, _), (67, _), (68, _), (69, _), (74, _), (75, _), (76, _)] (.cons rfl (.cons rfl (.cons rfl (.cons rfl (.cons rfl (.cons rfl (.cons rfl (.cons rfl .nil)))))))) ?_
                  refine VC.region ?_
                  refine Ops.r (Run.mv rfl) rfl ?_
                  refine Ops.r (Run.mv rfl) rfl ?_
                  refine Ops.r (Run.index1 _ rfl rfl Try.underlying54 Try.sizeOf3 (by omega)) rfl ?_
                  refine Ops.r (Run.load rfl Try.isAgg3 hct) rfl ?_
                  refine Ops.r (Run.bin rfl rfl (Bin.add_i64 _ 1 (by omega))) rfl ?_
                  refine Ops.r (Run.index1 _ rfl rfl Try.underlying54 Try.sizeOf3 (by omega)) rfl ?_
                  refine Ops.st (Acts.storeOwn sj rfl rfl Try.sizeOf3 hoo rfl (by omega) rfl) ?_
                  rintro w9 ⟨ho9, hf9, hs9⟩
                  rw [← cntV_snoc _ hsn, List.append_assoc, ← htk2] at ho9
                  refine Ops.nil ?_
                  refine blockQ_n (thenQ_n ?_)
                  refine VC.sub [(7, _), (67, _), (68, _), (69, _), (74, _), (75, _), (76, _)] (.cons rfl (.cons rfl (.cons rfl (.cons rfl (.cons rfl (.cons rfl (.cons rfl .nil))))))) ?_
                  refine VC.region ?_
                  refine Ops.r (Run.bin rfl rfl (Bin.add_i64 _ 1 (by omega))) rfl ?_
                  refine Ops.r (Run.mv rfl) rfl ?_
                  refine Ops.nil ?_
                  refine thenQ_n ⟨(j + 1), (.cons rfl (.cons rfl (.cons rfl (.cons rfl (.cons (by rw [← hsl]; rfl) (.cons rfl (.cons rfl .nil))))))), ?_, ?_⟩
                  · skip
                    refine ⟨hc7, hPk.frm hf9 (hPk.1.ne_own hoo (by decide)) (fun q hq x hx => by simp [ob]; exact hpg q hq x hx), hpok.frm hf9 (fun x hx => by simp [ob]; exact hpgi x hx), ho9, hfr.own hf9 (fun x hx => ?_)⟩
                    simp [ob] at hx
                    omega
                  · skip
                    first | omega | (dsimp only; omega)
                · skip
                  have hjl : j = p.sy.length := by omega
                  subst hjl
                  rw [List.take_length] at hoo
                  refine VC.exit ?_
                  refine thenQ_x (thenQ_x (blockQ_x ?_))
                  refine blockQ_n (thenQ_n ?_)
                  refine VC.sub [(7, _), (67, _), (68, _), (69, _)] (.cons rfl (.cons rfl (.cons rfl (.cons rfl .nil)))) ?_
                  refine VC.region ?_
                  refine Ops.r (Run.bin rfl rfl (Bin.add_i64 _ 1 (by omega))) rfl ?_
                  refine Ops.r (Run.mv rfl) rfl ?_
                  refine Ops.nil ?_
                  refine thenQ_n ⟨(i + 1), (.cons rfl (.cons rfl (.cons rfl (.cons rfl .nil)))), ?_, ?_⟩
                  · skip
                    refine ⟨by omega, hPk, ?_, hfr⟩
                    rw [htk, List.flatMap_append]
                    simpa using hoo
                  · skip
                    first | omega | (dsimp only; omega)
              · skip
                have hin2 : i = 2 * ps.length - 2 := by omega
                subst hin2
                refine VC.exit ?_
                refine thenQ_x (thenQ_x (blockQ_x ?_))
                refine thenQ_n ?_
                refine VC.sub [(7, _)] (.cons rfl .nil) ?_
                refine VC.seq ?_
                refine VC.region ?_
                refine Ops.r (Run.mv rfl) rfl ?_
                refine Ops.r (Run.asg rfl) rfl ?_
                refine Ops.r (v := .int .i64 ((0 : Nat) : Int)) (Run.asg rfl) rfl ?_
                refine Ops.nil ?_
                refine thenQ_n ?_
                refine VC.sub [(4, _), (5, _)] (.cons rfl (.cons rfl .nil)) ?_
                refine VC.ret ?_
                refine end2 rfl rfl ?_
                refine ⟨hfr, ?_⟩
                rw [if_neg hc1]
                refine ⟨_, hco, ?_⟩
                rw [Int.toNat_natCast, List.length_map, if_neg hc2n]
                refine ⟨_, _, rfl, ?_, fun x hx => ?_⟩
                · have h5 : lenP cs.length m (ps.map PkC.abs) = cntV cs.length ((lst.take (2 * ps.length - 2)).flatMap PkC.sy) := by
                    unfold lenP
                    rw [if_neg (by rw [List.length_map]; omega), vecOf_eq, ← hlv, List.length_map, ← List.map_take, List.flatMap_map]
                    rfl
                  rw [h5]
                  exact hoo
                · simp [ob] at hx
                  omega

end Go.Proofs.Ytebaojedpnnliaa
