/-
  Lemmas on the way, joined: ShE, ShD.
-/
import Derived.Test.YtenbjndldenkfaaGreatDoorPk4
namespace Go.Proofs.YtenbjndldenkfaaGreatDoor
open Go.RowKit Go.Sort

set_option maxRecDepth 100000 in
theorem few20_spec (A : Option Addr) (c : Nat) (q : Tx) (w : World) (hrd : Rd w 1 A q.length (U8 q)) (hc : q.length ≤ c) :
    Calls Tryz.prog 9 #[.slice A q.length c] w fun e w' => w = w' ∧ ∃ (A2 : Option Addr) (c2 : Nat), e = .returned (.slice A2 (q.take 1200).length c2) ∧ Rd w' 1 A2 (q.take 1200).length (U8 (q.take 1200)) ∧ (q.take 1200).length ≤ c2 := by
  refine VC.calls (nt := 9) (res := #[.tmp 2]) Tryz.func9 rfl Tryz.ntmps9 Tryz.results9 rfl ?_
  refine VC.seq ?_
  refine VC.region ?_
  refine Ops.r (Run.asg rfl) rfl ?_
  refine Ops.nil ?_
  refine thenQ_n ?_
  refine VC.sub [(0, _)] (.cons rfl .nil) ?_
  refine VC.seq ?_
  refine VC.seq ?_
  refine VC.region ?_
  refine Ops.r (Run.mv rfl) rfl ?_
  refine Ops.r (Run.lenS rfl Tryz.underlying22) rfl ?_
  refine Ops.r (Run.bin rfl rfl (Bin.gtrN _ 1200)) rfl ?_
  refine Ops.nil ?_
  refine thenQ_n ?_
  refine VC.sub [(0, _), (5, _)] (.cons rfl (.cons rfl .nil)) ?_
  refine VC.condD rfl (fun hc1 => ?_) (fun hc1 => ?_)
  · skip
    refine VC.seq ?_
    refine VC.region ?_
    refine Ops.r (Run.mv rfl) rfl ?_
    refine Ops.r (Run.sliceS 0 1200 rfl Tryz.underlying22 Tryz.sizeOf5 evB.none_ (evB.some_ rfl) (by omega) (by omega)) rfl ?_
    refine Ops.r (Run.asg rfl) rfl ?_
    refine Ops.nil ?_
    refine thenQ_n ?_
    refine VC.sub [(2, _)] (.cons rfl .nil) ?_
    refine VC.ret ?_
    refine thenQ_r (end1 rfl ?_)
    have e1 : sliceQ q 0 1200 = q.take 1200 := by unfold sliceQ; simp
    have h := U8_cut hrd (show 0 ≤ 1200 by omega) (show 1200 ≤ q.length by omega) hc
    rw [e1] at h
    have e2 : (q.take 1200).length = 1200 := by simp; omega
    refine ⟨rfl, cutA A c 0 1, c, ?_, h, by omega⟩
    rw [e2]
    rfl
  · skip
    refine VC.skip ?_
    refine thenQ_n ?_
    refine VC.sub [(0, _)] (.cons rfl .nil) ?_
    refine VC.seq ?_
    refine VC.region ?_
    refine Ops.r (Run.mv rfl) rfl ?_
    refine Ops.r (Run.asg rfl) rfl ?_
    refine Ops.nil ?_
    refine thenQ_n ?_
    refine VC.sub [(2, _)] (.cons rfl .nil) ?_
    refine VC.ret ?_
    refine end1 rfl ?_
    have e1 : q.take 1200 = q := List.take_of_length_le (by omega)
    rw [e1]
    exact ⟨rfl, A, c, rfl, hrd, hc⟩

def hdA (q : Tx) (k : Nat) : UInt8 := (q[k]?).getD 0
theorem hdA_at {q : Tx} {k : Nat} (h : k < q.length) : q[k]? = some (hdA q k) := by unfold hdA; rw [List.getElem?_eq_getElem h]; rfl
theorem hdA_drop {q : Tx} {k : Nat} (h : k < q.length) : q.drop k = hdA q k :: q.drop (k + 1) := by
  rw [List.drop_eq_getElem_cons h]
  have e := hdA_at h
  rw [List.getElem?_eq_getElem h] at e
  rw [Option.some.inj e]
theorem numS_step {n : Nat} {c : UInt8} {r : Tx} (h : 48 ≤ c.toNat ∧ c.toNat ≤ 57 ∧ n < 1000000) : numS n (c :: r) = numS (10 * n + c.toNat - 48) r := by
  conv => lhs; unfold numS
  rw [if_pos h]
theorem numS_end {n : Nat} {c : UInt8} {r : Tx} (h : ¬ (48 ≤ c.toNat ∧ c.toNat ≤ 57 ∧ n < 1000000)) : numS n (c :: r) = (n, c :: r) := by
  conv => lhs; unfold numS
  rw [if_neg h]
theorem skipQ_nil : skipQ [] = [] := by unfold skipQ; rfl
theorem skipQ_quo (r : Tx) : skipQ (34 :: r) = r := by unfold skipQ; rw [if_pos rfl]
theorem skipQ_esc (r : Tx) : skipQ (92 :: r) = skipQ (r.drop 1) := by
  conv => lhs; unfold skipQ
  rw [if_neg (by decide), if_pos rfl]
  cases r with
  | nil => exact skipQ_nil.symm
  | cons x r => rfl
theorem skipQ_on {c : UInt8} {r : Tx} (h1 : c ≠ 34) (h2 : c ≠ 92) : skipQ (c :: r) = skipQ r := by
  conv => lhs; unfold skipQ
  rw [if_neg h1, if_neg h2]

set_option maxRecDepth 100000 in
theorem numb_spec (q : Tx) (a : Nat) (w : World) (hq9 : q.length ≤ 1000000000000) (ha : a ≤ q.length) : Calls Tryz.prog 18 #[encStr q, .int .i64 ((a : Nat) : Int)] w fun e w' => ∃ n k : Nat, e = .returned (.tuple #[.int .i64 ((n : Nat) : Int), .int .i64 ((k : Nat) : Int)]) ∧ a ≤ k ∧ k ≤ q.length ∧ n ≤ 10000000 ∧ numS 0 (q.drop a) = (n, q.drop k) ∧ w = w' := by
  refine VC.calls (nt := 39) (res := #[.tmp 4, .tmp 5]) Tryz.func18 rfl Tryz.ntmps18 Tryz.results18 rfl ?_
  refine VC.seq ?_
  refine VC.region ?_
  refine Ops.r (v := .int .i64 ((0 : Nat) : Int)) (Run.asg rfl) rfl ?_
  refine Ops.r (v := .int .i64 ((0 : Nat) : Int)) (Run.asg rfl) rfl ?_
  refine Ops.nil ?_
  refine thenQ_n ?_
  refine VC.sub [(0, _), (1, _)] (.cons rfl (.cons rfl .nil)) ?_
  refine VC.seq ?_
  refine VC.region ?_
  refine Ops.r (v := .int .i64 ((0 : Nat) : Int)) (Run.asg rfl) rfl ?_
  refine Ops.nil ?_
  refine thenQ_n ?_
  refine VC.seq ?_
  refine VC.block ?_
  refine VC.loop (σ := Nat × Nat) (fun s => [(0, encStr q), (1, .int .i64 ((s.2 : Nat) : Int)), (6, .int .i64 ((s.1 : Nat) : Int))]) (fun s wr => w = wr ∧ a ≤ s.2 ∧ s.2 ≤ q.length ∧ s.1 ≤ 10000000 ∧ numS s.1 (q.drop s.2) = numS 0 (q.drop a)) (fun s => q.length - s.2) (0, a) (.cons rfl (.cons rfl (.cons rfl .nil))) ⟨rfl, Nat.le_refl _, ha, by omega, rfl⟩ ?_
  rintro ⟨n, k⟩ _ ⟨rfl, hak, hk, hn, hq⟩
  dsimp only at hak hk hn hq ⊢
  have hgx : k < q.length → q[k]? = some (hdA q k) := hdA_at
  refine VC.seq ?_
  refine VC.seq ?_
  refine VC.split1 [(0, _), (1, _), (6, _)] (.cons rfl (.cons rfl (.cons rfl .nil))) 26 (.bool (decide (k < q.length ∧ 48 ≤ (hdA q k).toNat ∧ (hdA q k).toNat ≤ 57 ∧ n < 1000000))) ?_ ?_
  · refine VC.region ?_
    refine Ops.r (Run.mv rfl) rfl ?_
    refine Ops.r (Run.mv rfl) rfl ?_
    refine Ops.r (Run.lenT rfl Tryz.underlying9) rfl ?_
    refine Ops.r (Run.bin rfl rfl (Bin.lssN _ _)) rfl ?_
    by_cases hs10 : k < q.length
    · skip
      refine Ops.r (Run.mv rfl) rfl ?_
      refine Ops.rg rfl (by first | rfl | assumption | exact decide_eq_true (by assumption) | exact decide_eq_false (by assumption) | decide | (simp; done) | (simp; omega) | (simp [*]; done)) (Run.mv rfl) rfl ?_
      refine Ops.rg rfl (by first | rfl | assumption | exact decide_eq_true (by assumption) | exact decide_eq_false (by assumption) | decide | (simp; done) | (simp; omega) | (simp [*]; done)) (Run.mv rfl) rfl ?_
      refine Ops.rg rfl (by first | rfl | assumption | exact decide_eq_true (by assumption) | exact decide_eq_false (by assumption) | decide | (simp; done) | (simp; omega) | (simp [*]; done)) (Run.indexT _ rfl rfl Tryz.underlying9 (hgx hs10)) rfl ?_
      refine Ops.rg rfl (by first | rfl | assumption | exact decide_eq_true (by assumption) | exact decide_eq_false (by assumption) | decide | (simp; done) | (simp; omega) | (simp [*]; done)) (Run.bin rfl rfl (Bin.leqN 48 _)) rfl ?_
      by_cases hs15 : 48 ≤ (hdA q k).toNat
      · skip
        refine Ops.r (Run.pickT rfl rfl (by first | rfl | assumption | exact decide_eq_true (by assumption) | exact decide_eq_false (by assumption) | decide | (simp; done) | (simp; omega) | (simp [*]; done))) rfl ?_
        refine Ops.r (Run.mv rfl) rfl ?_
        refine Ops.rg rfl (by first | rfl | assumption | exact decide_eq_true (by assumption) | exact decide_eq_false (by assumption) | decide | (simp; done) | (simp; omega) | (simp [*]; done)) (Run.mv rfl) rfl ?_
        refine Ops.rg rfl (by first | rfl | assumption | exact decide_eq_true (by assumption) | exact decide_eq_false (by assumption) | decide | (simp; done) | (simp; omega) | (simp [*]; done)) (Run.mv rfl) rfl ?_
        refine Ops.rg rfl (by first | rfl | assumption | exact decide_eq_true (by assumption) | exact decide_eq_false (by assumption) | decide | (simp; done) | (simp; omega) | (simp [*]; done)) (Run.indexT _ rfl rfl Tryz.underlying9 (hgx hs10)) rfl ?_
        refine Ops.rg rfl (by first | rfl | assumption | exact decide_eq_true (by assumption) | exact decide_eq_false (by assumption) | decide | (simp; done) | (simp; omega) | (simp [*]; done)) (Run.bin rfl rfl (Bin.leqN _ 57)) rfl ?_
        by_cases hs21 : (hdA q k).toNat ≤ 57
        · skip
          refine Ops.r (Run.pickT rfl rfl (by first | rfl | assumption | exact decide_eq_true (by assumption) | exact decide_eq_false (by assumption) | decide | (simp; done) | (simp; omega) | (simp [*]; done))) rfl ?_
          refine Ops.r (Run.mv rfl) rfl ?_
          refine Ops.rg rfl (by first | rfl | assumption | exact decide_eq_true (by assumption) | exact decide_eq_false (by assumption) | decide | (simp; done) | (simp; omega) | (simp [*]; done)) (Run.mv rfl) rfl ?_
          refine Ops.rg rfl (by first | rfl | assumption | exact decide_eq_true (by assumption) | exact decide_eq_false (by assumption) | decide | (simp; done) | (simp; omega) | (simp [*]; done)) (Run.bin rfl rfl (Bin.lssN _ 1000000)) rfl ?_
          by_cases hs25 : n < 1000000
          · skip
            refine Ops.r (Run.pickT rfl rfl (by first | rfl | assumption | exact decide_eq_true (by assumption) | exact decide_eq_false (by assumption) | decide | (simp; done) | (simp; omega) | (simp [*]; done))) rfl ?_
            refine Ops.nil ?_
            refine thenQ_n ⟨(.cons (congrArg (fun b => some (Value.bool b)) (by simp [*])) (.cons rfl (.cons rfl (.cons rfl .nil)))), rfl⟩
          · skip
            refine Ops.r (Run.pickT rfl rfl (by first | rfl | assumption | exact decide_eq_true (by assumption) | exact decide_eq_false (by assumption) | decide | (simp; done) | (simp; omega) | (simp [*]; done))) rfl ?_
            refine Ops.nil ?_
            refine thenQ_n ⟨(.cons (congrArg (fun b => some (Value.bool b)) (by simp [*])) (.cons rfl (.cons rfl (.cons rfl .nil)))), rfl⟩
        · skip
          refine Ops.r (Run.pickT rfl rfl (by first | rfl | assumption | exact decide_eq_true (by assumption) | exact decide_eq_false (by assumption) | decide | (simp; done) | (simp; omega) | (simp [*]; done))) rfl ?_
          refine Ops.r (Run.mv rfl) rfl ?_
          refine Ops.sk rfl (by first | rfl | assumption | exact decide_eq_true (by assumption) | exact decide_eq_false (by assumption) | decide | (simp; done) | (simp; omega) | (simp [*]; done)) rfl ?_
          refine Ops.sk rfl (by first | rfl | assumption | exact decide_eq_true (by assumption) | exact decide_eq_false (by assumption) | decide | (simp; done) | (simp; omega) | (simp [*]; done)) rfl ?_
          refine Ops.r (Run.pickF rfl rfl (by first | rfl | assumption | exact decide_eq_true (by assumption) | exact decide_eq_false (by assumption) | decide | (simp; done) | (simp; omega) | (simp [*]; done))) rfl ?_
          refine Ops.nil ?_
          refine thenQ_n ⟨(.cons (congrArg (fun b => some (Value.bool b)) (by simp [*])) (.cons rfl (.cons rfl (.cons rfl .nil)))), rfl⟩
      · skip
        refine Ops.r (Run.pickT rfl rfl (by first | rfl | assumption | exact decide_eq_true (by assumption) | exact decide_eq_false (by assumption) | decide | (simp; done) | (simp; omega) | (simp [*]; done))) rfl ?_
        refine Ops.r (Run.mv rfl) rfl ?_
        refine Ops.sk rfl (by first | rfl | assumption | exact decide_eq_true (by assumption) | exact decide_eq_false (by assumption) | decide | (simp; done) | (simp; omega) | (simp [*]; done)) rfl ?_
        refine Ops.sk rfl (by first | rfl | assumption | exact decide_eq_true (by assumption) | exact decide_eq_false (by assumption) | decide | (simp; done) | (simp; omega) | (simp [*]; done)) rfl ?_
        refine Ops.sk rfl (by first | rfl | assumption | exact decide_eq_true (by assumption) | exact decide_eq_false (by assumption) | decide | (simp; done) | (simp; omega) | (simp [*]; done)) rfl ?_
        refine Ops.sk rfl (by first | rfl | assumption | exact decide_eq_true (by assumption) | exact decide_eq_false (by assumption) | decide | (simp; done) | (simp; omega) | (simp [*]; done)) rfl ?_
        refine Ops.r (Run.pickF rfl rfl (by first | rfl | assumption | exact decide_eq_true (by assumption) | exact decide_eq_false (by assumption) | decide | (simp; done) | (simp; omega) | (simp [*]; done))) rfl ?_
        refine Ops.r (Run.mv rfl) rfl ?_
        refine Ops.sk rfl (by first | rfl | assumption | exact decide_eq_true (by assumption) | exact decide_eq_false (by assumption) | decide | (simp; done) | (simp; omega) | (simp [*]; done)) rfl ?_
        refine Ops.sk rfl (by first | rfl | assumption | exact decide_eq_true (by assumption) | exact decide_eq_false (by assumption) | decide | (simp; done) | (simp; omega) | (simp [*]; done)) rfl ?_
        refine Ops.r (Run.pickF rfl rfl (by first | rfl | assumption | exact decide_eq_true (by assumption) | exact decide_eq_false (by assumption) | decide | (simp; done) | (simp; omega) | (simp [*]; done))) rfl ?_
        refine Ops.nil ?_
        refine thenQ_n ⟨(.cons (congrArg (fun b => some (Value.bool b)) (by simp [*])) (.cons rfl (.cons rfl (.cons rfl .nil)))), rfl⟩
    · skip
      refine Ops.r (Run.mv rfl) rfl ?_
      refine Ops.sk rfl (by first | rfl | assumption | exact decide_eq_true (by assumption) | exact decide_eq_false (by assumption) | decide | (simp; done) | (simp; omega) | (simp [*]; done)) rfl ?_
      refine Ops.sk rfl (by first | rfl | assumption | exact decide_eq_true (by assumption) | exact decide_eq_false (by assumption) | decide | (simp; done) | (simp; omega) | (simp [*]; done)) rfl ?_
      refine Ops.sk rfl (by first | rfl | assumption | exact decide_eq_true (by assumption) | exact decide_eq_false (by assumption) | decide | (simp; done) | (simp; omega) | (simp [*]; done)) rfl ?_
      refine Ops.sk rfl (by first | rfl | assumption | exact decide_eq_true (by assumption) | exact decide_eq_false (by assumption) | decide | (simp; done) | (simp; omega) | (simp [*]; done)) rfl ?_
      refine Ops.r (Run.pickF rfl rfl (by first | rfl | assumption | exact decide_eq_true (by assumption) | exact decide_eq_false (by assumption) | decide | (simp; done) | (simp; omega) | (simp [*]; done))) rfl ?_
      refine Ops.r (Run.mv rfl) rfl ?_
      refine Ops.sk rfl (by first | rfl | assumption | exact decide_eq_true (by assumption) | exact decide_eq_false (by assumption) | decide | (simp; done) | (simp; omega) | (simp [*]; done)) rfl ?_
      refine Ops.sk rfl (by first | rfl | assumption | exact decide_eq_true (by assumption) | exact decide_eq_false (by assumption) | decide | (simp; done) | (simp; omega) | (simp [*]; done)) rfl ?_
      refine Ops.sk rfl (by first | rfl | assumption | exact decide_eq_true (by assumption) | exact decide_eq_false (by assumption) | decide | (simp; done) | (simp; omega) | (simp [*]; done)) rfl ?_
      refine Ops.sk rfl (by first | rfl | assumption | exact decide_eq_true (by assumption) | exact decide_eq_false (by assumption) | decide | (simp; done) | (simp; omega) | (simp [*]; done)) rfl ?_
      refine Ops.r (Run.pickF rfl rfl (by first | rfl | assumption | exact decide_eq_true (by assumption) | exact decide_eq_false (by assumption) | decide | (simp; done) | (simp; omega) | (simp [*]; done))) rfl ?_
      refine Ops.r (Run.mv rfl) rfl ?_
      refine Ops.sk rfl (by first | rfl | assumption | exact decide_eq_true (by assumption) | exact decide_eq_false (by assumption) | decide | (simp; done) | (simp; omega) | (simp [*]; done)) rfl ?_
      refine Ops.sk rfl (by first | rfl | assumption | exact decide_eq_true (by assumption) | exact decide_eq_false (by assumption) | decide | (simp; done) | (simp; omega) | (simp [*]; done)) rfl ?_
      refine Ops.r (Run.pickF rfl rfl (by first | rfl | assumption | exact decide_eq_true (by assumption) | exact decide_eq_false (by assumption) | decide | (simp; done) | (simp; omega) | (simp [*]; done))) rfl ?_
      refine Ops.nil ?_
      refine thenQ_n ⟨(.cons (congrArg (fun b => some (Value.bool b)) (by simp [*])) (.cons rfl (.cons rfl (.cons rfl .nil)))), rfl⟩
  · intro Γ hΓ
    refine thenQ_n (VC.sub _ hΓ ?_)
    refine VC.condD rfl (fun hc1 => ?_) (fun hc1 => ?_)
    · skip
      obtain ⟨hkl, hx1, hx2, hx3⟩ := hc1
      rw [hdA_drop hkl, numS_step ⟨hx1, hx2, hx3⟩] at hq
      refine VC.skip ?_
      refine thenQ_n ?_
      refine VC.sub [(0, _), (1, _), (6, _)] (.cons rfl (.cons rfl (.cons rfl .nil))) ?_
      refine VC.block ?_
      refine VC.seq ?_
      refine VC.region ?_
      refine Ops.r (Run.mv rfl) rfl ?_
      refine Ops.r (Run.bin rfl rfl (Bin.mul_i64 10 n (by omega))) rfl ?_
      refine Ops.r (Run.mv rfl) rfl ?_
      refine Ops.r (Run.mv rfl) rfl ?_
      refine Ops.r (Run.indexT _ rfl rfl Tryz.underlying9 (hgx hkl)) rfl ?_
      refine Ops.r (Run.convN _ rfl Tryz.underlying5 Tryz.underlying3 (by simp only [bmax]; omega)) rfl ?_
      refine Ops.r (Run.bin rfl rfl (Bin.add_i64 _ _ (by omega))) rfl ?_
      refine Ops.r (Run.bin rfl rfl (Bin.sub_i64 _ 48 (by omega) (by omega))) rfl ?_
      refine Ops.r (Run.asg rfl) rfl ?_
      refine Ops.nil ?_
      refine thenQ_n ?_
      refine VC.sub [(0, _), (1, _), (6, _)] (.cons rfl (.cons rfl (.cons rfl .nil))) ?_
      refine VC.region ?_
      refine Ops.r (Run.mv rfl) rfl ?_
      refine Ops.r (Run.bin rfl rfl (Bin.add_i64 _ 1 (by omega))) rfl ?_
      refine Ops.r (Run.asg rfl) rfl ?_
      refine Ops.nil ?_
      refine blockQ_n (thenQ_n ⟨(10 * n + (hdA q k).toNat - 48, k + 1), (.cons rfl (.cons rfl (.cons rfl .nil))), ?_, ?_⟩)
      · skip
        exact ⟨rfl, by omega, hkl, by omega, hq⟩
      · skip
        first | omega | (dsimp only; omega)
    · skip
      have he : numS n (q.drop k) = (n, q.drop k) := by
        by_cases hkl : k < q.length
        · rw [hdA_drop hkl]
          exact numS_end (fun h => hc1 ⟨hkl, h⟩)
        · rw [List.drop_of_length_le (by omega)]
          rfl
      rw [he] at hq
      refine VC.exit ?_
      refine thenQ_x (thenQ_x (blockQ_x ?_))
      refine thenQ_n ?_
      refine VC.sub [(1, _), (6, _)] (.cons rfl (.cons rfl .nil)) ?_
      refine VC.seq ?_
      refine VC.region ?_
      refine Ops.r (Run.mv rfl) rfl ?_
      refine Ops.r (Run.mv rfl) rfl ?_
      refine Ops.r (Run.asg rfl) rfl ?_
      refine Ops.r (Run.asg rfl) rfl ?_
      refine Ops.nil ?_
      refine thenQ_n ?_
      refine VC.sub [(4, _), (5, _)] (.cons rfl (.cons rfl .nil)) ?_
      refine VC.ret ?_
      refine end2 rfl rfl ?_
      exact ⟨n, k, rfl, hak, hk, hn, hq.symm, rfl⟩

set_option maxRecDepth 100000 in
set_option maxHeartbeats 800000 in
theorem even_spec (q : Tx) (w : World) (hq9 : q.length ≤ 1000000000000) : Calls Tryz.prog 17 #[encStr q] w fun e w' => e = .returned (.bool (evenL q 0)) ∧ w = w' := by
  refine VC.calls (nt := 70) (res := #[.tmp 2]) Tryz.func17 rfl Tryz.ntmps17 Tryz.results17 rfl ?_
  refine VC.seq ?_
  refine VC.region ?_
  refine Ops.r (Run.asg rfl) rfl ?_
  refine Ops.nil ?_
  refine thenQ_n ?_
  refine VC.sub [(0, _)] (.cons rfl .nil) ?_
  refine VC.seq ?_
  refine VC.region ?_
  refine Ops.r (v := .int .i64 ((0 : Nat) : Int)) (Run.asg rfl) rfl ?_
  refine Ops.nil ?_
  refine thenQ_n ?_
  refine VC.seq ?_
  refine VC.seq ?_
  refine VC.region ?_
  refine Ops.r (v := .int .i64 ((0 : Nat) : Int)) (Run.asg rfl) rfl ?_
  refine Ops.nil ?_
  refine thenQ_n ?_
  refine VC.block ?_
  refine VC.loop (σ := Nat × Nat) (fun s => [(0, encStr q), (3, .int .i64 ((s.2 : Nat) : Int)), (4, .int .i64 ((s.1 : Nat) : Int))]) (fun s wr => w = wr ∧ s.1 ≤ q.length + 20000000 ∧ s.2 ≤ s.1 ∧ evenL (q.drop s.1) s.2 = evenL q 0) (fun s => q.length + 20000001 - s.1) (0, 0) (.cons rfl (.cons rfl (.cons rfl .nil))) ⟨rfl, by omega, Nat.le_refl _, rfl⟩ ?_
  rintro ⟨k, d⟩ _ ⟨rfl, hk, hd, hq⟩
  dsimp only at hk hd hq ⊢
  refine VC.seq ?_
  refine VC.seq ?_
  refine VC.region ?_
  refine Ops.r (Run.mv rfl) rfl ?_
  refine Ops.r (Run.mv rfl) rfl ?_
  refine Ops.r (Run.lenT rfl Tryz.underlying9) rfl ?_
  refine Ops.r (Run.bin rfl rfl (Bin.lssN _ _)) rfl ?_
  refine Ops.nil ?_
  refine thenQ_n ?_
  refine VC.sub [(0, _), (3, _), (4, _), (10, _)] (.cons rfl (.cons rfl (.cons rfl (.cons rfl .nil)))) ?_
  refine VC.condD rfl (fun hc1 => ?_) (fun hc1 => ?_)
  · skip
    have hgx := hdA_at hc1
    rw [hdA_drop hc1] at hq
    generalize hdA q k = x at *
    have e40 : x.toNat = 40 ↔ x = 40 := u8n rfl
    have e41 : x.toNat = 41 ↔ x = 41 := u8n rfl
    have e34 : x.toNat = 34 ↔ x = 34 := u8n rfl
    have e123 : x.toNat = 123 ↔ x = 123 := u8n rfl
    refine VC.skip ?_
    refine thenQ_n ?_
    refine VC.sub [(0, _), (3, _), (4, _)] (.cons rfl (.cons rfl (.cons rfl .nil))) ?_
    refine VC.seq ?_
    refine VC.block ?_
    refine VC.seq ?_
    refine VC.region ?_
    refine Ops.r (Run.mv rfl) rfl ?_
    refine Ops.r (Run.mv rfl) rfl ?_
    refine Ops.r (Run.indexT _ rfl rfl Tryz.underlying9 hgx) rfl ?_
    refine Ops.nil ?_
    refine thenQ_n ?_
    refine VC.sub [(0, _), (3, _), (4, _), (15, _)] (.cons rfl (.cons rfl (.cons rfl (.cons rfl .nil)))) ?_
    refine VC.meet (σ := Nat × Nat) (fun s => [(0, encStr q), (3, .int .i64 ((s.2 : Nat) : Int)), (4, .int .i64 ((s.1 : Nat) : Int))]) (fun s wr => w = wr ∧ k ≤ s.1 ∧ s.1 + 1 ≤ q.length + 20000000 ∧ s.2 ≤ s.1 + 1 ∧ evenL (q.drop (s.1 + 1)) s.2 = evenL q 0) ?_ ?_
    · skip
      refine VC.block ?_
      refine VC.seq ?_
      refine VC.region ?_
      refine Ops.r (Run.bin rfl rfl (Bin.eqlN _ 40)) rfl ?_
      refine Ops.r (Run.asg rfl) rfl ?_
      refine Ops.nil ?_
      refine thenQ_n ?_
      refine VC.sub [(0, _), (3, _), (4, _), (15, _), (16, _)] (.cons rfl (.cons rfl (.cons rfl (.cons rfl (.cons rfl .nil))))) ?_
      refine VC.condD rfl (fun hc2 => ?_) (fun hc2 => ?_)
      · skip
        rw [e40.1 hc2, even_in] at hq
        refine VC.region ?_
        refine Ops.r (Run.mv rfl) rfl ?_
        refine Ops.r (Run.bin rfl rfl (Bin.add_i64 _ 1 (by omega))) rfl ?_
        refine Ops.r (Run.asg rfl) rfl ?_
        refine Ops.nil ?_
        refine blockQ_n (thenQ_n ⟨(k, d + 1), (.cons rfl (.cons rfl (.cons rfl .nil))), ?_⟩)
        exact ⟨rfl, Nat.le_refl _, by omega, by dsimp only; omega, hq⟩
      · skip
        refine VC.seq ?_
        refine VC.region ?_
        refine Ops.r (Run.bin rfl rfl (Bin.eqlN _ 41)) rfl ?_
        refine Ops.r (Run.asg rfl) rfl ?_
        refine Ops.nil ?_
        refine thenQ_n ?_
        refine VC.sub [(0, _), (3, _), (4, _), (15, _), (20, _)] (.cons rfl (.cons rfl (.cons rfl (.cons rfl (.cons rfl .nil))))) ?_
        refine VC.condD rfl (fun hc3 => ?_) (fun hc3 => ?_)
        · skip
          rw [e41.1 hc3, even_out] at hq
          refine VC.seq ?_
          refine VC.region ?_
          refine Ops.r (Run.mv rfl) rfl ?_
          refine Ops.r (Run.bin rfl rfl (Bin.subZ _ 1 (by omega) (by omega))) rfl ?_
          refine Ops.r (Run.asg rfl) rfl ?_
          refine Ops.nil ?_
          refine thenQ_n ?_
          refine VC.sub [(0, _), (3, _), (4, _)] (.cons rfl (.cons rfl (.cons rfl .nil))) ?_
          refine VC.seq ?_
          refine VC.region ?_
          refine Ops.r (Run.mv rfl) rfl ?_
          refine Ops.r (Run.bin rfl rfl (Bin.lss _ 1)) rfl ?_
          refine Ops.nil ?_
          refine thenQ_n ?_
          refine VC.sub [(0, _), (3, _), (4, _), (25, _)] (.cons rfl (.cons rfl (.cons rfl (.cons rfl .nil)))) ?_
          refine VC.condD rfl (fun hc4 => ?_) (fun hc4 => ?_)
          · skip
            rw [if_pos (by omega)] at hq
            refine VC.seq ?_
            refine VC.split1 [] .nil 2 (.bool (decide ((((d : Nat) : Int) - 1 = 0) ∧ (k = q.length - 1)))) ?_ ?_
            · by_cases hs0 : ((d : Nat) : Int) - 1 = 0
              · skip
                refine VC.region ?_
                refine Ops.r (Run.mv rfl) rfl ?_
                refine Ops.r (Run.bin rfl rfl (Bin.eql _ 0)) rfl ?_
                refine Ops.r (Run.mv rfl) rfl ?_
                refine Ops.rg rfl (by first | rfl | assumption | exact decide_eq_true (by assumption) | exact decide_eq_false (by assumption) | decide | (simp; done) | (simp; omega) | (simp [*]; done)) (Run.mv rfl) rfl ?_
                refine Ops.rg rfl (by first | rfl | assumption | exact decide_eq_true (by assumption) | exact decide_eq_false (by assumption) | decide | (simp; done) | (simp; omega) | (simp [*]; done)) (Run.mv rfl) rfl ?_
                refine Ops.rg rfl (by first | rfl | assumption | exact decide_eq_true (by assumption) | exact decide_eq_false (by assumption) | decide | (simp; done) | (simp; omega) | (simp [*]; done)) (Run.lenT rfl Tryz.underlying9) rfl ?_
                refine Ops.rg rfl (by first | rfl | assumption | exact decide_eq_true (by assumption) | exact decide_eq_false (by assumption) | decide | (simp; done) | (simp; omega) | (simp [*]; done)) (Run.bin rfl rfl (Bin.sub_i64 _ 1 (by omega) (by omega))) rfl ?_
                refine Ops.rg rfl (by first | rfl | assumption | exact decide_eq_true (by assumption) | exact decide_eq_false (by assumption) | decide | (simp; done) | (simp; omega) | (simp [*]; done)) (Run.bin rfl rfl (Bin.eqlN _ _)) rfl ?_
                refine Ops.r (Run.pickT rfl rfl (by first | rfl | assumption | exact decide_eq_true (by assumption) | exact decide_eq_false (by assumption) | decide | (simp; done) | (simp; omega) | (simp [*]; done))) rfl ?_
                refine Ops.r (Run.asg rfl) rfl ?_
                refine Ops.nil ?_
                refine thenQ_n ⟨(.cons (by rw [dand1 hs0]; rfl) .nil), rfl⟩
              · skip
                refine VC.region ?_
                refine Ops.r (Run.mv rfl) rfl ?_
                refine Ops.r (Run.bin rfl rfl (Bin.eql _ 0)) rfl ?_
                refine Ops.r (Run.mv rfl) rfl ?_
                refine Ops.sk rfl (by first | rfl | assumption | exact decide_eq_true (by assumption) | exact decide_eq_false (by assumption) | decide | (simp; done) | (simp; omega) | (simp [*]; done)) rfl ?_
                refine Ops.sk rfl (by first | rfl | assumption | exact decide_eq_true (by assumption) | exact decide_eq_false (by assumption) | decide | (simp; done) | (simp; omega) | (simp [*]; done)) rfl ?_
                refine Ops.sk rfl (by first | rfl | assumption | exact decide_eq_true (by assumption) | exact decide_eq_false (by assumption) | decide | (simp; done) | (simp; omega) | (simp [*]; done)) rfl ?_
                refine Ops.sk rfl (by first | rfl | assumption | exact decide_eq_true (by assumption) | exact decide_eq_false (by assumption) | decide | (simp; done) | (simp; omega) | (simp [*]; done)) rfl ?_
                refine Ops.sk rfl (by first | rfl | assumption | exact decide_eq_true (by assumption) | exact decide_eq_false (by assumption) | decide | (simp; done) | (simp; omega) | (simp [*]; done)) rfl ?_
                refine Ops.r (Run.pickF rfl rfl (by first | rfl | assumption | exact decide_eq_true (by assumption) | exact decide_eq_false (by assumption) | decide | (simp; done) | (simp; omega) | (simp [*]; done))) rfl ?_
                refine Ops.r (Run.asg rfl) rfl ?_
                refine Ops.nil ?_
                refine thenQ_n ⟨(.cons (by rw [dand0 hs0]; rfl) .nil), rfl⟩
            · intro Γ hΓ
              refine thenQ_n (VC.sub _ hΓ ?_)
              refine VC.ret ?_
              refine blockQ_r (thenQ_r (blockQ_r (thenQ_r (thenQ_r (blockQ_r (thenQ_r (end1 rfl ?_)))))))
              exact ⟨by rw [← hq, decide_eq_decide.2 (show (((d : Nat) : Int) - 1 = 0 ∧ k = q.length - 1) ↔ (d = 1 ∧ q.drop (k + 1) = []) from ⟨fun ⟨h1, h2⟩ => ⟨by omega, List.drop_of_length_le (by omega)⟩, fun ⟨h1, h2⟩ => ⟨by omega, by have := congrArg List.length h2; simp at this; omega⟩⟩)], rfl⟩
          · skip
            rw [if_neg (by omega)] at hq
            refine VC.skip ?_
            refine blockQ_n (thenQ_n ⟨(k, d - 1), (.cons rfl (.cons (by rw [show ((d - 1 : Nat) : Int) = ((d : Nat) : Int) - 1 by omega]; rfl) (.cons rfl .nil))), ?_⟩)
            exact ⟨rfl, Nat.le_refl _, by omega, by dsimp only; omega, hq⟩
        · skip
          refine VC.seq ?_
          refine VC.region ?_
          refine Ops.r (Run.bin rfl rfl (Bin.eqlN _ 34)) rfl ?_
          refine Ops.r (Run.asg rfl) rfl ?_
          refine Ops.nil ?_
          refine thenQ_n ?_
          refine VC.sub [(0, _), (3, _), (4, _), (15, _), (35, _)] (.cons rfl (.cons rfl (.cons rfl (.cons rfl (.cons rfl .nil))))) ?_
          refine VC.condD rfl (fun hc5 => ?_) (fun hc5 => ?_)
          · skip
            rw [e34.1 hc5, even_quo] at hq
            refine VC.seq ?_
            refine VC.region ?_
            refine Ops.r (Run.mv rfl) rfl ?_
            refine Ops.r (Run.bin rfl rfl (Bin.add_i64 _ 1 (by omega))) rfl ?_
            refine Ops.r (Run.asg rfl) rfl ?_
            refine Ops.nil ?_
            refine thenQ_n ?_
            refine VC.sub [(0, _), (3, _), (4, _)] (.cons rfl (.cons rfl (.cons rfl .nil))) ?_
            refine VC.block ?_
            refine VC.loop (σ := Nat) (fun s => [(0, encStr q), (3, .int .i64 ((d : Nat) : Int)), (4, .int .i64 ((s : Nat) : Int))]) (fun s wr => w = wr ∧ k + 1 ≤ s ∧ s ≤ q.length + 1 ∧ skipQ (q.drop s) = skipQ (q.drop (k + 1))) (fun s => q.length + 2 - s) (k + 1) (.cons rfl (.cons rfl (.cons rfl .nil))) ⟨rfl, Nat.le_refl _, by omega, rfl⟩ ?_
            rintro k3 _ ⟨rfl, hk3, hkl3, hs3⟩
            have hgx3 : k3 < q.length → q[k3]? = some (hdA q k3) := hdA_at
            have e34 : (hdA q k3).toNat = 34 ↔ hdA q k3 = 34 := u8n rfl
            have e92 : (hdA q k3).toNat = 92 ↔ hdA q k3 = 92 := u8n rfl
            refine VC.seq ?_
            refine VC.seq ?_
            refine VC.split1 [(0, _), (3, _), (4, _)] (.cons rfl (.cons rfl (.cons rfl .nil))) 48 (.bool (decide ((k3 < q.length) ∧ ((hdA q k3).toNat ≠ 34)))) ?_ ?_
            · by_cases hs0 : k3 < q.length
              · skip
                refine VC.region ?_
                refine Ops.r (Run.mv rfl) rfl ?_
                refine Ops.r (Run.mv rfl) rfl ?_
                refine Ops.r (Run.lenT rfl Tryz.underlying9) rfl ?_
                refine Ops.r (Run.bin rfl rfl (Bin.lssN _ _)) rfl ?_
                refine Ops.r (Run.mv rfl) rfl ?_
                refine Ops.rg rfl (by first | rfl | assumption | exact decide_eq_true (by assumption) | exact decide_eq_false (by assumption) | decide | (simp; done) | (simp; omega) | (simp [*]; done)) (Run.mv rfl) rfl ?_
                refine Ops.rg rfl (by first | rfl | assumption | exact decide_eq_true (by assumption) | exact decide_eq_false (by assumption) | decide | (simp; done) | (simp; omega) | (simp [*]; done)) (Run.mv rfl) rfl ?_
                refine Ops.rg rfl (by first | rfl | assumption | exact decide_eq_true (by assumption) | exact decide_eq_false (by assumption) | decide | (simp; done) | (simp; omega) | (simp [*]; done)) (Run.indexT _ rfl rfl Tryz.underlying9 (hgx3 hs0)) rfl ?_
                refine Ops.rg rfl (by first | rfl | assumption | exact decide_eq_true (by assumption) | exact decide_eq_false (by assumption) | decide | (simp; done) | (simp; omega) | (simp [*]; done)) (Run.bin rfl rfl (Bin.neqN _ 34)) rfl ?_
                refine Ops.r (Run.pickT rfl rfl (by first | rfl | assumption | exact decide_eq_true (by assumption) | exact decide_eq_false (by assumption) | decide | (simp; done) | (simp; omega) | (simp [*]; done))) rfl ?_
                refine Ops.nil ?_
                refine thenQ_n ⟨(.cons (by rw [dand1 hs0]; rfl) (.cons rfl (.cons rfl (.cons rfl .nil)))), rfl⟩
              · skip
                refine VC.region ?_
                refine Ops.r (Run.mv rfl) rfl ?_
                refine Ops.r (Run.mv rfl) rfl ?_
                refine Ops.r (Run.lenT rfl Tryz.underlying9) rfl ?_
                refine Ops.r (Run.bin rfl rfl (Bin.lssN _ _)) rfl ?_
                refine Ops.r (Run.mv rfl) rfl ?_
                refine Ops.sk rfl (by first | rfl | assumption | exact decide_eq_true (by assumption) | exact decide_eq_false (by assumption) | decide | (simp; done) | (simp; omega) | (simp [*]; done)) rfl ?_
                refine Ops.sk rfl (by first | rfl | assumption | exact decide_eq_true (by assumption) | exact decide_eq_false (by assumption) | decide | (simp; done) | (simp; omega) | (simp [*]; done)) rfl ?_
                refine Ops.sk rfl (by first | rfl | assumption | exact decide_eq_true (by assumption) | exact decide_eq_false (by assumption) | decide | (simp; done) | (simp; omega) | (simp [*]; done)) rfl ?_
                refine Ops.sk rfl (by first | rfl | assumption | exact decide_eq_true (by assumption) | exact decide_eq_false (by assumption) | decide | (simp; done) | (simp; omega) | (simp [*]; done)) rfl ?_
                refine Ops.r (Run.pickF rfl rfl (by first | rfl | assumption | exact decide_eq_true (by assumption) | exact decide_eq_false (by assumption) | decide | (simp; done) | (simp; omega) | (simp [*]; done))) rfl ?_
                refine Ops.nil ?_
                refine thenQ_n ⟨(.cons (by rw [dand0 hs0]; rfl) (.cons rfl (.cons rfl (.cons rfl .nil)))), rfl⟩
            · intro Γ hΓ
              refine thenQ_n (VC.sub _ hΓ ?_)
              refine VC.condD rfl (fun hc6 => ?_) (fun hc6 => ?_)
              · skip
                obtain ⟨hk4, hx4⟩ := hc6
                rw [hdA_drop hk4] at hs3
                refine VC.skip ?_
                refine thenQ_n ?_
                refine VC.sub [(0, _), (3, _), (4, _)] (.cons rfl (.cons rfl (.cons rfl .nil))) ?_
                refine VC.block ?_
                refine VC.seq ?_
                refine VC.seq ?_
                refine VC.region ?_
                refine Ops.r (Run.mv rfl) rfl ?_
                refine Ops.r (Run.mv rfl) rfl ?_
                refine Ops.r (Run.indexT _ rfl rfl Tryz.underlying9 (hgx3 hk4)) rfl ?_
                refine Ops.r (Run.bin rfl rfl (Bin.eqlN _ 92)) rfl ?_
                refine Ops.nil ?_
                refine thenQ_n ?_
                refine VC.sub [(0, _), (3, _), (4, _), (52, _)] (.cons rfl (.cons rfl (.cons rfl (.cons rfl .nil)))) ?_
                refine VC.meet (σ := Nat) (fun s => [(0, encStr q), (3, .int .i64 ((d : Nat) : Int)), (4, .int .i64 ((s : Nat) : Int))]) (fun s wr => w = wr ∧ k3 ≤ s ∧ s ≤ q.length ∧ skipQ (q.drop (s + 1)) = skipQ (q.drop (k + 1))) ?_ ?_
                · skip
                  refine VC.condD rfl (fun hc7 => ?_) (fun hc7 => ?_)
                  · skip
                    refine VC.region ?_
                    refine Ops.r (Run.mv rfl) rfl ?_
                    refine Ops.r (Run.bin rfl rfl (Bin.add_i64 _ 1 (by omega))) rfl ?_
                    refine Ops.r (Run.asg rfl) rfl ?_
                    refine Ops.nil ?_
                    refine thenQ_n ⟨(k3 + 1), (.cons rfl (.cons rfl (.cons rfl .nil))), ?_⟩
                    exact ⟨rfl, by omega, by omega, by rw [← hs3, e92.1 hc7, skipQ_esc, List.drop_drop]⟩
                  · skip
                    refine VC.skip ?_
                    refine thenQ_n ⟨k3, (.cons rfl (.cons rfl (.cons rfl .nil))), ?_⟩
                    exact ⟨rfl, by omega, by omega, by rw [← hs3, skipQ_on (fun h => hx4 (e34.2 h)) (fun h => hc7 (e92.2 h))]⟩
                · skip
                  rintro k5 _ ⟨rfl, hk5, hk5l, hs5⟩ Γ hΓ
                  refine thenQ_n (VC.sub _ hΓ ?_)
                  refine VC.region ?_
                  refine Ops.r (Run.mv rfl) rfl ?_
                  refine Ops.r (Run.bin rfl rfl (Bin.add_i64 _ 1 (by omega))) rfl ?_
                  refine Ops.r (Run.asg rfl) rfl ?_
                  refine Ops.nil ?_
                  refine blockQ_n (thenQ_n ⟨(k5 + 1), (.cons rfl (.cons rfl (.cons rfl .nil))), ?_, ?_⟩)
                  · skip
                    exact ⟨rfl, by omega, by omega, hs5⟩
                  · skip
                    first | omega | (dsimp only; omega)
              · skip
                have hend : q.drop (k3 + 1) = skipQ (q.drop (k + 1)) := by
                  rw [← hs3]
                  by_cases hk4 : k3 < q.length
                  · have hx4 : (hdA q k3).toNat = 34 := Classical.not_not.1 (fun h => hc6 ⟨hk4, h⟩)
                    rw [hdA_drop hk4, e34.1 hx4, skipQ_quo]
                  · rw [List.drop_of_length_le (by omega), List.drop_of_length_le (by omega), skipQ_nil]
                refine VC.exit ?_
                refine thenQ_x (thenQ_x (blockQ_x ?_))
                refine blockQ_n (thenQ_n ⟨(k3, d), (.cons rfl (.cons rfl (.cons rfl .nil))), ?_⟩)
                exact ⟨rfl, by omega, by omega, by dsimp only; omega, by dsimp only; rw [hend]; exact hq⟩
          · skip
            refine VC.seq ?_
            refine VC.region ?_
            refine Ops.r (Run.bin rfl rfl (Bin.eqlN _ 123)) rfl ?_
            refine Ops.r (Run.asg rfl) rfl ?_
            refine Ops.nil ?_
            refine thenQ_n ?_
            refine VC.sub [(0, _), (3, _), (4, _), (57, _)] (.cons rfl (.cons rfl (.cons rfl (.cons rfl .nil)))) ?_
            refine VC.condD rfl (fun hc8 => ?_) (fun hc8 => ?_)
            · skip
              rw [e123.1 hc8, even_lit] at hq
              refine VC.seq ?_
              refine VC.region ?_
              refine Ops.r (Run.mv rfl) rfl ?_
              refine Ops.r (Run.mv rfl) rfl ?_
              refine Ops.r (Run.bin rfl rfl (Bin.add_i64 _ 1 (by omega))) rfl ?_
              refine Ops.cl (Enters.fn (evs.cons rfl (evs.cons rfl evs.nil)) Tryz.call18) ((numb_spec q (k + 1) _ hq9 (by omega))) rfl ?_
              rintro e _ ⟨n, a, rfl, ha1, ha2, hn, hnum, rfl⟩
              refine ⟨_, rfl, ?_⟩
              have hlq : litQ (q.drop (k + 1)) = (q.drop a).drop (3 + n) := by unfold litQ; rw [hnum]
              rw [hlq] at hq
              refine Ops.r (Run.mv rfl) rfl ?_
              refine Ops.r (Run.extract rfl rfl) rfl ?_
              refine Ops.r (Run.extract rfl rfl) rfl ?_
              refine Ops.r (Run.asg rfl) rfl ?_
              refine Ops.r (Run.asg rfl) rfl ?_
              refine Ops.nil ?_
              refine thenQ_n ?_
              refine VC.sub [(0, _), (3, _), (5, _), (6, _)] (.cons rfl (.cons rfl (.cons rfl (.cons rfl .nil)))) ?_
              refine VC.region ?_
              refine Ops.r (Run.mv rfl) rfl ?_
              refine Ops.r (Run.bin rfl rfl (Bin.add_i64 _ 2 (by omega))) rfl ?_
              refine Ops.r (Run.mv rfl) rfl ?_
              refine Ops.r (Run.bin rfl rfl (Bin.add_i64 _ _ (by omega))) rfl ?_
              refine Ops.r (Run.asg rfl) rfl ?_
              refine Ops.nil ?_
              refine blockQ_n (thenQ_n ⟨(a + 2 + n, d), (.cons rfl (.cons rfl (.cons rfl .nil))), ?_⟩)
              exact ⟨rfl, by dsimp only; omega, by dsimp only; omega, by dsimp only; omega, by dsimp only; rw [show a + 2 + n + 1 = a + (3 + n) by omega, ← List.drop_drop]; exact hq⟩
            · skip
              rw [even_on (fun h => hc2 (e40.2 h)) (fun h => hc3 (e41.2 h)) (fun h => hc5 (e34.2 h)) (fun h => hc8 (e123.2 h))] at hq
              refine VC.skip ?_
              refine blockQ_n (thenQ_n ⟨(k, d), (.cons rfl (.cons rfl (.cons rfl .nil))), ?_⟩)
              exact ⟨rfl, Nat.le_refl _, by omega, by dsimp only; omega, hq⟩
    · skip
      rintro ⟨k2, d2⟩ _ ⟨rfl, hk2, hkb, hd2, hq2⟩ Γ hΓ
      dsimp only at hk2 hkb hd2 hq2
      refine blockQ_n (thenQ_n (VC.sub _ hΓ ?_))
      refine VC.region ?_
      refine Ops.r (Run.mv rfl) rfl ?_
      refine Ops.r (Run.bin rfl rfl (Bin.add_i64 _ 1 (by omega))) rfl ?_
      refine Ops.r (Run.asg rfl) rfl ?_
      refine Ops.nil ?_
      refine thenQ_n ⟨(k2 + 1, d2), (.cons rfl (.cons rfl (.cons rfl .nil))), ?_, ?_⟩
      · skip
        exact ⟨rfl, hkb, hd2, hq2⟩
      · skip
        first | omega | (dsimp only; omega)
  · skip
    rw [List.drop_of_length_le (by omega)] at hq
    have hq : false = evenL q 0 := by rw [← hq]; unfold evenL; rfl
    refine VC.exit ?_
    refine thenQ_x (thenQ_x (blockQ_x ?_))
    refine thenQ_n ?_
    refine VC.sub [] .nil ?_
    refine VC.seq ?_
    refine VC.region ?_
    refine Ops.r (Run.asg rfl) rfl ?_
    refine Ops.nil ?_
    refine thenQ_n ?_
    refine VC.ret ?_
    refine end1 rfl ?_
    exact ⟨by rw [hq], rfl⟩

end Go.Proofs.YtenbjndldenkfaaGreatDoor

namespace Go.Proofs.YtenbjndldenkfaaGreatDoor
open Go.RowKit Go.Sort

set_option maxRecDepth 100000 in
theorem seven_walk (A : Option Addr) (c : Nat) (q0 : Tx) (w : World) (ht : Tab w) (hrd : Rd w 1 A q0.length (U8 q0)) (hc : q0.length ≤ c) :
    Calls Tryz.prog 5 #[.slice A q0.length c] w fun e w' => e = .returned (.bool true) ∧ Frm [] w w' := by
  have K := Frm.refl [] w
  refine VC.calls (nt := 16) (res := #[.tmp 2]) Tryz.func5 rfl Tryz.ntmps5 Tryz.results5 rfl ?_
  refine VC.seq ?_
  refine VC.region ?_
  refine Ops.r (Run.asg rfl) rfl ?_
  refine Ops.nil ?_
  refine thenQ_n ?_
  refine VC.sub [(0, _)] (.cons rfl .nil) ?_
  refine VC.seq ?_
  refine VC.region ?_
  refine Ops.r (Run.mv rfl) rfl ?_
  refine Ops.cl (Enters.fn (evs.cons rfl evs.nil) Tryz.call9) ((few20_spec A c q0 _ hrd hc)) rfl ?_
  rintro e _ ⟨rfl, A1, c1, rfl, hrq, hc1l⟩
  refine ⟨_, rfl, ?_⟩
  have hq1 : (q0.take 1200).length ≤ 1200 := by simp; omega
  generalize q0.take 1200 = q at *
  refine Ops.r (Run.asg rfl) rfl ?_
  refine Ops.nil ?_
  refine thenQ_n ?_
  refine VC.sub [(0, _)] (.cons rfl .nil) ?_
  refine VC.seq ?_
  refine VC.region ?_
  refine Ops.r (Run.mv rfl) rfl ?_
  refine Ops.cl (Enters.fn (evs.cons rfl evs.nil) Tryz.call12) ((envelope_spec A1 c1 q _ ht hrq (by omega) hc1l)) rfl ?_
  rintro e w1 ⟨rfl, f1⟩
  refine ⟨_, rfl, ?_⟩
  have K := K.trans f1 (by simp)
  have hel := envS_len (q := q) (by omega)
  refine Ops.cl (Enters.fn (evs.cons rfl evs.nil) Tryz.call17) ((even_spec (envS q) _ (by omega))) rfl ?_
  rintro e _ ⟨rfl, rfl⟩
  rw [(envS_par (q := q) (by omega)).even]
  refine ⟨_, rfl, ?_⟩
  refine Ops.r (Run.mv rfl) rfl ?_
  refine Ops.rg rfl (by first | rfl | assumption | exact decide_eq_true (by assumption) | exact decide_eq_false (by assumption) | decide | (simp; done) | (simp; omega) | (simp [*]; done)) (Run.mv rfl) rfl ?_
  refine Ops.clg rfl (by first | rfl | assumption | exact decide_eq_true (by assumption) | exact decide_eq_false (by assumption) | decide | (simp; done) | (simp; omega) | (simp [*]; done)) (Enters.fn (evs.cons rfl evs.nil) Tryz.call15) ((body_spec A1 c1 q _ (ht.frm K) (hrq.frm K (by simp)) (by omega) hc1l)) rfl ?_
  rintro e w2 ⟨rfl, f2⟩
  refine ⟨_, rfl, ?_⟩
  have K := K.trans f2 (by simp)
  have hbl : (bodyS q).length ≤ 32000000000 := by
    obtain ⟨_, h64, p, hp, _⟩ := parts_ok q
    exact oneS_len (by omega) (by omega) (List.getElem?_eq_some_iff.1 hp).1
  refine Ops.clg rfl (by first | rfl | assumption | exact decide_eq_true (by assumption) | exact decide_eq_false (by assumption) | decide | (simp; done) | (simp; omega) | (simp [*]; done)) (Enters.fn (evs.cons rfl evs.nil) Tryz.call17) ((even_spec (bodyS q) _ (by omega))) rfl ?_
  rintro e _ ⟨rfl, rfl⟩
  rw [(bodyS_par (q := q) (by omega)).even]
  refine ⟨_, rfl, ?_⟩
  refine Ops.r (Run.pickT rfl rfl (by first | rfl | assumption | exact decide_eq_true (by assumption) | exact decide_eq_false (by assumption) | decide | (simp; done) | (simp; omega) | (simp [*]; done))) rfl ?_
  refine Ops.r (Run.mv rfl) rfl ?_
  refine Ops.clg rfl (by first | rfl | assumption | exact decide_eq_true (by assumption) | exact decide_eq_false (by assumption) | decide | (simp; done) | (simp; omega) | (simp [*]; done)) (Enters.fn evs.nil Tryz.call14) ((awake22_spec _ (ht.frm K))) rfl ?_
  rintro e w3 ⟨rfl, fw3⟩
  refine ⟨_, rfl, ?_⟩
  have K := K.trans fw3 (by simp)
  refine Ops.r (Run.pickT rfl rfl (by first | rfl | assumption | exact decide_eq_true (by assumption) | exact decide_eq_false (by assumption) | decide | (simp; done) | (simp; omega) | (simp [*]; done))) rfl ?_
  refine Ops.r (Run.asg rfl) rfl ?_
  refine Ops.nil ?_
  refine thenQ_n ?_
  refine VC.sub [(2, _)] (.cons rfl .nil) ?_
  refine VC.ret ?_
  refine end1 rfl ?_
  exact ⟨rfl, K⟩

end Go.Proofs.YtenbjndldenkfaaGreatDoor

