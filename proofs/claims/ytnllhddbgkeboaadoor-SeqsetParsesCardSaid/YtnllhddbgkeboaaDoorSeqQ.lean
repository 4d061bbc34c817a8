/-
  Digits and signs: of the code, and of the answers.
-/
import Derived.Test.YtnllhddbgkeboaaDoorSeqK
import Derived.Lib.ItoaNum
import Derived.Lib.SmallJoins
import Derived.Lib.ItoaMem
namespace Go.Proofs.YtnllhddbgkeboaaDoor
open Go.RowKit Go.Sort

/-- The table of powers of ten is as the library laid it. -/
def Tab (w : World) : Prop := Lib.TabIs Tryd.prog w "internal/strconv.uint64pow10" .u64 Lib.pow10Tab
theorem Tab.frm {w w' : World} (h : Tab w) (hf : Frm [] w w') : Tab w' := by
  cases hg : Tryd.prog.globalNamed "internal/strconv.uint64pow10" with
  | none =>
    unfold Tab Lib.TabIs World.var? at h
    rw [hg] at h
    cases h
  | some g =>
    unfold Tab Lib.TabIs World.var? at h ⊢
    rw [hg] at h ⊢
    simp only [Option.bind_some] at h ⊢
    cases hb : w.heap[g]? with
    | none => rw [hb] at h; cases h
    | some o => rw [(hf.block g (Array.getElem?_eq_some_iff.1 hb).1 (by simp)).trans hb]; rw [hb] at h; exact h
theorem frm_grown (w : World) (k : Nat) (os : Array Obj) : Frm [] w (grow (w.drewN k) os) := by
  refine ⟨rfl, rfl, rfl, by simp, fun i hi _ => ?_⟩
  rw [heap_grow_old _ _ (by simpa using hi)]
  rfl
/-- A sign of a number. -/
def signQ (n : Int) : Tx := if n = 0 then [42] else Lib.itoa n

set_option maxRecDepth 100000 in
theorem sign_spec (n : Int) (w : World) (ht : Tab w) (h0 : 0 ≤ n) (h1 : n ≤ 9223372036854775807) : Calls Tryd.prog 57 #[.int .i64 n] w fun e w' => e = .returned (encStr (signQ n)) ∧ Frm [] w w' := by
  refine VC.calls (nt := 7) (res := #[.tmp 2]) Tryd.func57 rfl Tryd.ntmps57 Tryd.results57 rfl ?_
  refine VC.seq ?_
  refine VC.region ?_
  refine Ops.r (Run.asg rfl) rfl ?_
  refine Ops.nil ?_
  refine thenQ_n ?_
  refine VC.sub [(0, _)] (.cons rfl .nil) ?_
  refine VC.seq ?_
  refine VC.seq ?_
  refine VC.region ?_
  refine Ops.r (Run.mv rfl) rfl ?_
  refine Ops.r (Run.bin rfl rfl (Bin.eql _ 0)) rfl ?_
  refine Ops.nil ?_
  refine thenQ_n ?_
  refine VC.sub [(0, _), (4, _)] (.cons rfl (.cons rfl .nil)) ?_
  refine VC.condD rfl (fun hc1 => ?_) (fun hc1 => ?_)
  · skip
    refine VC.seq ?_
    refine VC.region ?_
    refine Ops.r (Run.asg rfl) rfl ?_
    refine Ops.nil ?_
    refine thenQ_n ?_
    refine VC.sub [(2, _)] (.cons rfl .nil) ?_
    refine VC.ret ?_
    refine thenQ_r (end1 rfl ?_)
    exact ⟨by unfold signQ; rw [if_pos hc1], Frm.refl _ _⟩
  · skip
    refine VC.skip ?_
    refine thenQ_n ?_
    refine VC.sub [(0, _)] (.cons rfl .nil) ?_
    refine VC.seq ?_
    refine VC.region ?_
    refine Ops.r (Run.mv rfl) rfl ?_
    refine Ops.cl (Enters.fn (evs.cons rfl evs.nil) Tryd.call75) (Tryd.strconv_Itoa n (by omega) h1 _ ht) rfl ?_
    rintro e w1 ⟨rfl, k, os, rfl⟩
    refine ⟨_, rfl, ?_⟩
    refine Ops.r (Run.asg rfl) rfl ?_
    refine Ops.nil ?_
    refine thenQ_n ?_
    refine VC.sub [(2, _)] (.cons rfl .nil) ?_
    refine VC.ret ?_
    refine end1 rfl ?_
    exact ⟨by unfold signQ; rw [if_neg hc1], frm_grown _ _ _⟩

theorem dec_lt {n : Nat} (h : n < 10) : Lib.decDigits n = [UInt8.ofNat (48 + n)] := by rw [Lib.decDigits, dif_pos h]
theorem dec_ge {n : Nat} (h : ¬ n < 10) : Lib.decDigits n = Lib.decDigits (n / 10) ++ Lib.decDigits (n % 10) := by
  conv => lhs; rw [Lib.decDigits, dif_neg h]
  rw [dec_lt (Nat.mod_lt _ (by decide))]
theorem dig_at {n : Nat} (h : n < 10) : ((([48, 49, 50, 51, 52, 53, 54, 55, 56, 57] : Tx).drop n).take (n + 1 - n)) = Lib.decDigits n := by
  rw [dec_lt h]
  match n, h with
  | 0, _ | 1, _ | 2, _ | 3, _ | 4, _ | 5, _ | 6, _ | 7, _ | 8, _ | 9, _ => rfl
theorem dec_len : ∀ n : Nat, (Lib.decDigits n).length ≤ n + 1 := by
  intro n
  induction n using Nat.strongRecOn with
  | ind n ih =>
    by_cases h : n < 10
    · rw [dec_lt h]; simp
    · rw [dec_ge h, dec_lt (Nat.mod_lt _ (by decide)), List.length_append]
      have := ih (n / 10) (by omega)
      simp
      omega

set_option maxRecDepth 100000 in
theorem digits_spec (n : Nat) (w : World) (h1 : n ≤ 9223372036854775807) : Calls Tryd.prog 78 #[.int .i64 ((n : Nat) : Int)] w fun e w' => e = .returned (encStr (Lib.decDigits n)) ∧ w = w' := by
  refine VC.calls (nt := 16) (res := #[.tmp 2]) Tryd.func78 rfl Tryd.ntmps78 Tryd.results78 rfl ?_
  refine VC.seq ?_
  refine VC.region ?_
  refine Ops.r (Run.asg rfl) rfl ?_
  refine Ops.nil ?_
  refine thenQ_n ?_
  refine VC.sub [(0, _)] (.cons rfl .nil) ?_
  refine VC.seq ?_
  refine VC.seq ?_
  refine VC.region ?_
  refine Ops.r (Run.mv rfl) rfl ?_
  refine Ops.r (Run.bin rfl rfl (Bin.lssN _ 10)) rfl ?_
  refine Ops.nil ?_
  refine thenQ_n ?_
  refine VC.sub [(0, _), (4, _)] (.cons rfl (.cons rfl .nil)) ?_
  refine VC.condD rfl (fun hc1 => ?_) (fun hc1 => ?_)
  · skip
    refine VC.seq ?_
    refine VC.region ?_
    refine Ops.r (Run.mv rfl) rfl ?_
    refine Ops.r (Run.mv rfl) rfl ?_
    refine Ops.r (Run.bin rfl rfl (Bin.add_i64 _ 1 (by omega))) rfl ?_
    refine Ops.r (Run.sliceT n (n + 1) rfl Tryd.underlying9 (evB.some_ rfl) (evB.some_ rfl) (by omega) (by simp; omega)) rfl ?_
    refine Ops.r (Run.asg rfl) rfl ?_
    refine Ops.nil ?_
    refine thenQ_n ?_
    refine VC.sub [(2, _)] (.cons rfl .nil) ?_
    refine VC.ret ?_
    refine thenQ_r (end1 rfl ?_)
    exact ⟨by rw [← dig_at hc1], rfl⟩
  · skip
    refine VC.skip ?_
    refine thenQ_n ?_
    refine VC.sub [(0, _)] (.cons rfl .nil) ?_
    refine VC.seq ?_
    refine VC.region ?_
    refine Ops.r (Run.mv rfl) rfl ?_
    refine Ops.r (Run.bin rfl rfl (Bin.quo_i64 _ 10 (by omega) (by omega))) rfl ?_
    refine Ops.cl (Enters.fn (evs.cons rfl evs.nil) Tryd.call78) (digits_spec (n / 10) _ (by omega)) rfl ?_
    rintro e _ ⟨rfl, rfl⟩
    refine ⟨_, rfl, ?_⟩
    refine Ops.r (Run.mv rfl) rfl ?_
    refine Ops.r (Run.bin rfl rfl (Bin.remN _ 10 (by omega))) rfl ?_
    refine Ops.cl (Enters.fn (evs.cons rfl evs.nil) Tryd.call78) (digits_spec (n % 10) _ (by omega)) rfl ?_
    rintro e _ ⟨rfl, rfl⟩
    have hd1 := dec_len (n / 10)
    have hd2 := dec_len (n % 10)
    refine ⟨_, rfl, ?_⟩
    refine Ops.r (Run.addT rfl rfl (by omega)) rfl ?_
    refine Ops.r (Run.asg rfl) rfl ?_
    refine Ops.nil ?_
    refine thenQ_n ?_
    refine VC.sub [(2, _)] (.cons rfl .nil) ?_
    refine VC.ret ?_
    refine end1 rfl ?_
    exact ⟨by rw [dec_ge hc1], rfl⟩
termination_by n
decreasing_by all_goals omega

theorem digitsI_spec (n : Int) (w : World) (h0 : 0 ≤ n) (h1 : n ≤ 9223372036854775807) : Calls Tryd.prog 78 #[.int .i64 n] w fun e w' => e = .returned (encStr (Lib.itoa n)) ∧ w = w' := by
  obtain ⟨k, rfl⟩ : ∃ k : Nat, n = (k : Int) := ⟨n.toNat, by omega⟩
  have e : Lib.itoa (k : Int) = Lib.decDigits k := by unfold Lib.itoa; rw [if_neg (by omega)]; rfl
  rw [e]
  exact digits_spec k w (by omega)
/-- A number of digits, or none: -1. -/
def rnQ (s : Tx) : Int := if s ≠ [] ∧ ∀ x ∈ s, Dig x then ((decN 0 s : Nat) : Int) else -1
theorem rnQ_pos {s : Tx} (h : s ≠ []) (hd : ∀ x ∈ s, Dig x) : rnQ s = ((decN 0 s : Nat) : Int) := by unfold rnQ; rw [if_pos ⟨h, hd⟩]
theorem rnQ_neg {s : Tx} (h : ¬ (s ≠ [] ∧ ∀ x ∈ s, Dig x)) : rnQ s = -1 := by unfold rnQ; rw [if_neg h]
theorem numQ_eq (s : Tx) (h : ¬ (10 < s.length ∨ s.head? = some 48)) (hs : s ≠ [42]) : numQ s = if rnQ s ≤ 2147483647 then rnQ s else -1 := by
  by_cases h0 : s = []
  · rw [numQ_bad hs (.inl h0), rnQ_neg (fun hh => hh.1 h0)]
    rfl
  · rw [numQ_of hs (fun hh => hh.elim h0 h)]
    by_cases hd : ∀ x ∈ s, Dig x
    · rw [rnQ_pos h0 hd]
      by_cases hm : decN 0 s ≤ 2147483647
      · rw [if_pos ⟨hd, hm⟩, if_pos (by omega)]
      · rw [if_neg (fun hh => hm hh.2), if_neg (by omega)]
    · rw [if_neg (fun hh => hd hh.1), rnQ_neg (fun hh => hd hh.2)]
      rfl

set_option maxRecDepth 100000 in
theorem rsign_spec (n : Int) (w : World) (h0 : 0 ≤ n) (h1 : n ≤ 9223372036854775807) : Calls Tryd.prog 59 #[.int .i64 n] w fun e w' => e = .returned (encStr (signQ n)) ∧ w = w' := by
  refine VC.calls (nt := 7) (res := #[.tmp 2]) Tryd.func59 rfl Tryd.ntmps59 Tryd.results59 rfl ?_
  refine VC.seq ?_
  refine VC.region ?_
  refine Ops.r (Run.asg rfl) rfl ?_
  refine Ops.nil ?_
  refine thenQ_n ?_
  refine VC.sub [(0, _)] (.cons rfl .nil) ?_
  refine VC.seq ?_
  refine VC.seq ?_
  refine VC.region ?_
  refine Ops.r (Run.mv rfl) rfl ?_
  refine Ops.r (Run.bin rfl rfl (Bin.eql _ 0)) rfl ?_
  refine Ops.nil ?_
  refine thenQ_n ?_
  refine VC.sub [(0, _), (4, _)] (.cons rfl (.cons rfl .nil)) ?_
  refine VC.condD rfl (fun hc1 => ?_) (fun hc1 => ?_)
  · skip
    refine VC.seq ?_
    refine VC.region ?_
    refine Ops.r (Run.asg rfl) rfl ?_
    refine Ops.nil ?_
    refine thenQ_n ?_
    refine VC.sub [(2, _)] (.cons rfl .nil) ?_
    refine VC.ret ?_
    refine thenQ_r (end1 rfl ?_)
    exact ⟨by unfold signQ; rw [if_pos hc1], rfl⟩
  · skip
    refine VC.skip ?_
    refine thenQ_n ?_
    refine VC.sub [(0, _)] (.cons rfl .nil) ?_
    refine VC.seq ?_
    refine VC.region ?_
    refine Ops.r (Run.mv rfl) rfl ?_
    refine Ops.cl (Enters.fn (evs.cons rfl evs.nil) Tryd.call78) (digitsI_spec n _ h0 h1) rfl ?_
    rintro e _ ⟨rfl, rfl⟩
    refine ⟨_, rfl, ?_⟩
    refine Ops.r (Run.asg rfl) rfl ?_
    refine Ops.nil ?_
    refine thenQ_n ?_
    refine VC.sub [(2, _)] (.cons rfl .nil) ?_
    refine VC.ret ?_
    refine end1 rfl ?_
    exact ⟨by unfold signQ; rw [if_neg hc1], rfl⟩

set_option maxRecDepth 100000 in
theorem rnum_spec (s : Tx) (w : World) (hs : s.length ≤ 10) : Calls Tryd.prog 74 #[encStr s] w fun e w' => e = .returned (.int .i64 (rnQ s)) ∧ w = w' := by
  refine VC.calls (nt := 32) (res := #[.tmp 2]) Tryd.func74 rfl Tryd.ntmps74 Tryd.results74 rfl ?_
  refine VC.seq ?_
  refine VC.region ?_
  refine Ops.r (v := .int .i64 ((0 : Nat) : Int)) (Run.asg rfl) rfl ?_
  refine Ops.nil ?_
  refine thenQ_n ?_
  refine VC.sub [(0, _)] (.cons rfl .nil) ?_
  refine VC.seq ?_
  refine VC.region ?_
  refine Ops.r (v := .int .i64 ((0 : Nat) : Int)) (Run.asg rfl) rfl ?_
  refine Ops.nil ?_
  refine thenQ_n ?_
  refine VC.seq ?_
  refine VC.seq ?_
  refine VC.region ?_
  refine Ops.r (v := .int .i64 ((0 : Nat) : Int)) (Run.asg rfl) rfl ?_
  refine Ops.nil ?_
  refine thenQ_n ?_
  refine VC.block ?_
  refine VC.loop (σ := Nat) (fun i => [(0, encStr s), (3, .int .i64 ((decN 0 (s.take i) : Nat) : Int)), (4, .int .i64 ((i : Nat) : Int))]) (fun i wr => i ≤ s.length ∧ (∀ x ∈ s.take i, Dig x) ∧ w = wr) (fun i => s.length - i) 0 (.cons rfl (.cons rfl (.cons rfl .nil))) ⟨by omega, by simp, rfl⟩ ?_
  rintro i _ ⟨hi, hd, rfl⟩
  refine VC.seq ?_
  refine VC.seq ?_
  refine VC.region ?_
  refine Ops.r (Run.mv rfl) rfl ?_
  refine Ops.r (Run.mv rfl) rfl ?_
  refine Ops.r (Run.lenT rfl Tryd.underlying9) rfl ?_
  refine Ops.r (Run.bin rfl rfl (Bin.lssN _ _)) rfl ?_
  refine Ops.nil ?_
  refine thenQ_n ?_
  refine VC.sub [(0, _), (3, _), (4, _), (8, _)] (.cons rfl (.cons rfl (.cons rfl (.cons rfl .nil)))) ?_
  refine VC.condD rfl (fun hc1 => ?_) (fun hc1 => ?_)
  · skip
    have hts : s.take (i + 1) = s.take i ++ [s[i]] := by rw [List.take_add_one, List.getElem?_eq_getElem hc1]; rfl
    have hxm : s[i] ∈ s := List.getElem_mem hc1
    have hgx : s[i]? = some s[i] := List.getElem?_eq_getElem hc1
    have hdl := decN_lt (s.take i) 0 0 hd (by decide)
    have hdl2 : decN 0 (s.take i) < 10 ^ 10 := Nat.lt_of_lt_of_le hdl (Nat.pow_le_pow_right (by decide) (by simp; omega))
    generalize hx : s[i] = x at *
    have hds := decN_snoc 0 (s.take i) x
    have hx256 := x.toNat_lt
    refine VC.skip ?_
    refine thenQ_n ?_
    refine VC.sub [(0, _), (3, _), (4, _)] (.cons rfl (.cons rfl (.cons rfl .nil))) ?_
    refine VC.seq ?_
    refine VC.block ?_
    refine VC.seq ?_
    refine VC.seq ?_
    refine VC.split1 [(0, _), (3, _), (4, _)] (.cons rfl (.cons rfl (.cons rfl .nil))) 20 (.bool (decide (¬ Dig x))) ?_ ?_
    · refine VC.region ?_
      refine Ops.r (Run.mv rfl) rfl ?_
      refine Ops.r (Run.mv rfl) rfl ?_
      refine Ops.r (Run.indexT _ rfl rfl Tryd.underlying9 hgx) rfl ?_
      refine Ops.r (Run.bin rfl rfl (Bin.lssN _ 48)) rfl ?_
      by_cases hs14 : x.toNat < 48
      · skip
        refine Ops.r (Run.mv rfl) rfl ?_
        refine Ops.sk rfl (by first | rfl | assumption | exact decide_eq_true (by assumption) | exact decide_eq_false (by assumption) | decide | (simp; done) | (simp; omega) | (simp [*]; done)) rfl ?_
        refine Ops.sk rfl (by first | rfl | assumption | exact decide_eq_true (by assumption) | exact decide_eq_false (by assumption) | decide | (simp; done) | (simp; omega) | (simp [*]; done)) rfl ?_
        refine Ops.sk rfl (by first | rfl | assumption | exact decide_eq_true (by assumption) | exact decide_eq_false (by assumption) | decide | (simp; done) | (simp; omega) | (simp [*]; done)) rfl ?_
        refine Ops.sk rfl (by first | rfl | assumption | exact decide_eq_true (by assumption) | exact decide_eq_false (by assumption) | decide | (simp; done) | (simp; omega) | (simp [*]; done)) rfl ?_
        refine Ops.r (Run.pickT rfl rfl (by first | rfl | assumption | exact decide_eq_true (by assumption) | exact decide_eq_false (by assumption) | decide | (simp; done) | (simp; omega) | (simp [*]; done))) rfl ?_
        refine Ops.nil ?_
        refine thenQ_n ⟨(.cons (congrArg (fun b => some (Value.bool b)) (Eq.symm (by first | exact decide_eq_true (by unfold Dig; omega) | exact decide_eq_decide.2 (by unfold Dig; omega)))) (.cons rfl (.cons rfl (.cons rfl .nil)))), rfl⟩
      · skip
        refine Ops.r (Run.mv rfl) rfl ?_
        refine Ops.rg rfl (by first | rfl | assumption | exact decide_eq_true (by assumption) | exact decide_eq_false (by assumption) | decide | (simp; done) | (simp; omega) | (simp [*]; done)) (Run.mv rfl) rfl ?_
        refine Ops.rg rfl (by first | rfl | assumption | exact decide_eq_true (by assumption) | exact decide_eq_false (by assumption) | decide | (simp; done) | (simp; omega) | (simp [*]; done)) (Run.mv rfl) rfl ?_
        refine Ops.rg rfl (by first | rfl | assumption | exact decide_eq_true (by assumption) | exact decide_eq_false (by assumption) | decide | (simp; done) | (simp; omega) | (simp [*]; done)) (Run.indexT _ rfl rfl Tryd.underlying9 hgx) rfl ?_
        refine Ops.rg rfl (by first | rfl | assumption | exact decide_eq_true (by assumption) | exact decide_eq_false (by assumption) | decide | (simp; done) | (simp; omega) | (simp [*]; done)) (Run.bin rfl rfl (Bin.gtrN _ 57)) rfl ?_
        by_cases hs19 : 57 < x.toNat
        · skip
          refine Ops.r (Run.pickF rfl rfl (by first | rfl | assumption | exact decide_eq_true (by assumption) | exact decide_eq_false (by assumption) | decide | (simp; done) | (simp; omega) | (simp [*]; done))) rfl ?_
          refine Ops.nil ?_
          refine thenQ_n ⟨(.cons (congrArg (fun b => some (Value.bool b)) (Eq.symm (by first | exact decide_eq_true (by unfold Dig; omega) | exact decide_eq_decide.2 (by unfold Dig; omega)))) (.cons rfl (.cons rfl (.cons rfl .nil)))), rfl⟩
        · skip
          refine Ops.r (Run.pickF rfl rfl (by first | rfl | assumption | exact decide_eq_true (by assumption) | exact decide_eq_false (by assumption) | decide | (simp; done) | (simp; omega) | (simp [*]; done))) rfl ?_
          refine Ops.nil ?_
          refine thenQ_n ⟨(.cons (congrArg (fun b => some (Value.bool b)) (Eq.symm (by first | exact decide_eq_true (by unfold Dig; omega) | exact decide_eq_decide.2 (by unfold Dig; omega)))) (.cons rfl (.cons rfl (.cons rfl .nil)))), rfl⟩
    · intro Γ hΓ
      refine thenQ_n (VC.sub _ hΓ ?_)
      refine VC.condD rfl (fun hc2 => ?_) (fun hc2 => ?_)
      · skip
        refine VC.seq ?_
        refine VC.region ?_
        refine Ops.r (v := .int .i64 (-1)) (Run.asg rfl) rfl ?_
        refine Ops.nil ?_
        refine thenQ_n ?_
        refine VC.sub [(2, _)] (.cons rfl .nil) ?_
        refine VC.ret ?_
        refine thenQ_r (blockQ_r (thenQ_r (thenQ_r (blockQ_r (thenQ_r (end1 rfl ?_))))))
        exact ⟨by rw [rnQ_neg (fun h => hc2 (h.2 x hxm))], rfl⟩
      · skip
        have hdx : Dig x := Classical.not_not.1 hc2
        refine VC.skip ?_
        refine thenQ_n ?_
        refine VC.sub [(0, _), (3, _), (4, _)] (.cons rfl (.cons rfl (.cons rfl .nil))) ?_
        refine VC.region ?_
        refine Ops.r (Run.mv rfl) rfl ?_
        refine Ops.r (Run.bin rfl rfl (Bin.mul_i64 _ 10 (by omega))) rfl ?_
        refine Ops.r (Run.mv rfl) rfl ?_
        refine Ops.r (Run.mv rfl) rfl ?_
        refine Ops.r (Run.indexT _ rfl rfl Tryd.underlying9 hgx) rfl ?_
        refine Ops.r (Run.convN _ rfl Tryd.underlying5 Tryd.underlying3 (by simp only [bmax]; omega)) rfl ?_
        refine Ops.r (Run.bin rfl rfl (Bin.add_i64 _ _ (by omega))) rfl ?_
        refine Ops.r (Run.bin rfl rfl (Bin.subN (decN 0 (s.take i) * 10 + x.toNat) 48 (by have := hdx.1; omega) (by simp [bmax]; omega))) rfl ?_
        refine Ops.r (Run.asg rfl) rfl ?_
        refine Ops.nil ?_
        refine blockQ_n (thenQ_n ?_)
        refine VC.sub [(0, _), (3, _), (4, _)] (.cons rfl (.cons rfl (.cons rfl .nil))) ?_
        refine VC.region ?_
        refine Ops.r (Run.mv rfl) rfl ?_
        refine Ops.r (Run.bin rfl rfl (Bin.add_i64 _ 1 (by omega))) rfl ?_
        refine Ops.r (Run.asg rfl) rfl ?_
        refine Ops.nil ?_
        refine thenQ_n ⟨(i + 1), (.cons rfl (.cons (by rw [hts, hds, show 10 * decN 0 (s.take i) + (x.toNat - 48) = decN 0 (s.take i) * 10 + x.toNat - 48 by have := hdx.1; omega]; rfl) (.cons rfl .nil))), ?_, ?_⟩
        · skip
          refine ⟨hc1, fun y hy => ?_, rfl⟩
          rw [hts] at hy
          rcases List.mem_append.1 hy with h | h
          · exact hd y h
          · simp only [List.mem_singleton] at h; subst h; exact hdx
        · skip
          first | omega | (dsimp only; omega)
  · skip
    have hil : i = s.length := by omega
    subst hil
    rw [List.take_length] at hd ⊢
    refine VC.exit ?_
    refine thenQ_x (thenQ_x (blockQ_x ?_))
    refine thenQ_n ?_
    refine VC.sub [(0, _), (3, _)] (.cons rfl (.cons rfl .nil)) ?_
    refine VC.seq ?_
    refine VC.seq ?_
    refine VC.region ?_
    refine Ops.r (Run.mv rfl) rfl ?_
    refine Ops.r (Run.eqlT rfl rfl) rfl ?_
    refine Ops.nil ?_
    refine thenQ_n ?_
    refine VC.sub [(3, _), (30, _)] (.cons rfl (.cons rfl .nil)) ?_
    refine VC.condD rfl (fun hc3 => ?_) (fun hc3 => ?_)
    · skip
      refine VC.seq ?_
      refine VC.region ?_
      refine Ops.r (v := .int .i64 (-1)) (Run.asg rfl) rfl ?_
      refine Ops.nil ?_
      refine thenQ_n ?_
      refine VC.sub [(2, _)] (.cons rfl .nil) ?_
      refine VC.ret ?_
      refine thenQ_r (end1 rfl ?_)
      exact ⟨by rw [rnQ_neg (fun h => h.1 hc3)], rfl⟩
    · skip
      refine VC.skip ?_
      refine thenQ_n ?_
      refine VC.sub [(3, _)] (.cons rfl .nil) ?_
      refine VC.seq ?_
      refine VC.region ?_
      refine Ops.r (Run.mv rfl) rfl ?_
      refine Ops.r (Run.asg rfl) rfl ?_
      refine Ops.nil ?_
      refine thenQ_n ?_
      refine VC.sub [(2, _)] (.cons rfl .nil) ?_
      refine VC.ret ?_
      refine end1 rfl ?_
      exact ⟨by rw [rnQ_pos hc3 hd], rfl⟩

set_option maxRecDepth 100000 in
theorem rnumber_spec (s : Tx) (w : World) (hs : s.length ≤ 1000000) : Calls Tryd.prog 56 #[encStr s] w fun e w' => e = .returned (.int .i64 (numQ s)) ∧ w = w' := by
  refine VC.calls (nt := 25) (res := #[.tmp 2]) Tryd.func56 rfl Tryd.ntmps56 Tryd.results56 rfl ?_
  refine VC.seq ?_
  refine VC.region ?_
  refine Ops.r (v := .int .i64 ((0 : Nat) : Int)) (Run.asg rfl) rfl ?_
  refine Ops.nil ?_
  refine thenQ_n ?_
  refine VC.sub [(0, _)] (.cons rfl .nil) ?_
  refine VC.seq ?_
  refine VC.seq ?_
  refine VC.region ?_
  refine Ops.r (Run.mv rfl) rfl ?_
  refine Ops.r (Run.eqlT rfl rfl) rfl ?_
  refine Ops.nil ?_
  refine thenQ_n ?_
  refine VC.sub [(0, _), (4, _)] (.cons rfl (.cons rfl .nil)) ?_
  refine VC.condD rfl (fun hc1 => ?_) (fun hc1 => ?_)
  · skip
    subst hc1
    refine VC.seq ?_
    refine VC.region ?_
    refine Ops.r (v := .int .i64 ((0 : Nat) : Int)) (Run.asg rfl) rfl ?_
    refine Ops.nil ?_
    refine thenQ_n ?_
    refine VC.sub [(2, _)] (.cons rfl .nil) ?_
    refine VC.ret ?_
    refine thenQ_r (end1 rfl ?_)
    exact ⟨by rw [numQ_star]; rfl, rfl⟩
  · skip
    have hnq := fun h => numQ_of hc1 h
    refine VC.skip ?_
    refine thenQ_n ?_
    refine VC.sub [(0, _)] (.cons rfl .nil) ?_
    refine VC.seq ?_
    refine VC.seq ?_
    refine VC.split1 [(0, _)] (.cons rfl .nil) 22 (.bool (decide (10 < s.length ∨ s.head? = some 48 ∨ 2147483647 < rnQ s))) ?_ ?_
    · refine VC.region ?_
      refine Ops.r (Run.mv rfl) rfl ?_
      refine Ops.r (Run.lenT rfl Tryd.underlying9) rfl ?_
      refine Ops.r (Run.bin rfl rfl (Bin.gtrN _ 10)) rfl ?_
      by_cases hs7 : 10 < s.length
      · skip
        refine Ops.r (Run.mv rfl) rfl ?_
        refine Ops.sk rfl (by first | rfl | assumption | exact decide_eq_true (by assumption) | exact decide_eq_false (by assumption) | decide | (simp; done) | (simp; omega) | (simp [*]; done)) rfl ?_
        refine Ops.sk rfl (by first | rfl | assumption | exact decide_eq_true (by assumption) | exact decide_eq_false (by assumption) | decide | (simp; done) | (simp; omega) | (simp [*]; done)) rfl ?_
        refine Ops.sk rfl (by first | rfl | assumption | exact decide_eq_true (by assumption) | exact decide_eq_false (by assumption) | decide | (simp; done) | (simp; omega) | (simp [*]; done)) rfl ?_
        refine Ops.sk rfl (by first | rfl | assumption | exact decide_eq_true (by assumption) | exact decide_eq_false (by assumption) | decide | (simp; done) | (simp; omega) | (simp [*]; done)) rfl ?_
        refine Ops.skU rfl rfl ?_
        refine Ops.skU rfl rfl ?_
        refine Ops.skU rfl rfl ?_
        refine Ops.sk rfl (by first | rfl | assumption | exact decide_eq_true (by assumption) | exact decide_eq_false (by assumption) | decide | (simp; done) | (simp; omega) | (simp [*]; done)) rfl ?_
        refine Ops.r (Run.pickT rfl rfl (by first | rfl | assumption | exact decide_eq_true (by assumption) | exact decide_eq_false (by assumption) | decide | (simp; done) | (simp; omega) | (simp [*]; done))) rfl ?_
        refine Ops.r (Run.mv rfl) rfl ?_
        refine Ops.sk rfl (by first | rfl | assumption | exact decide_eq_true (by assumption) | exact decide_eq_false (by assumption) | decide | (simp; done) | (simp; omega) | (simp [*]; done)) rfl ?_
        refine Ops.sk rfl (by first | rfl | assumption | exact decide_eq_true (by assumption) | exact decide_eq_false (by assumption) | decide | (simp; done) | (simp; omega) | (simp [*]; done)) rfl ?_
        refine Ops.sk rfl (by first | rfl | assumption | exact decide_eq_true (by assumption) | exact decide_eq_false (by assumption) | decide | (simp; done) | (simp; omega) | (simp [*]; done)) rfl ?_
        refine Ops.r (Run.pickT rfl rfl (by first | rfl | assumption | exact decide_eq_true (by assumption) | exact decide_eq_false (by assumption) | decide | (simp; done) | (simp; omega) | (simp [*]; done))) rfl ?_
        refine Ops.nil ?_
        refine thenQ_n ⟨(.cons (congrArg (fun b => some (Value.bool b)) (Eq.symm (by first | exact decide_eq_true (.inl ‹_›) | exact decide_eq_true (.inr (.inl (hx48.2 ‹_›))) | exact decide_eq_decide.2 ⟨fun h => (h.resolve_left ‹_›).resolve_left (fun h2 => ‹¬ x0.toNat = 48› (hx48.1 h2)), fun h => .inr (.inr h)⟩ | exact decide_eq_decide.2 ⟨fun h => (h.resolve_left ‹_›).resolve_left hx48, fun h => .inr (.inr h)⟩))) (.cons rfl .nil)), rfl⟩
      · skip
        refine Ops.r (Run.mv rfl) rfl ?_
        refine Ops.rg rfl (by first | rfl | assumption | exact decide_eq_true (by assumption) | exact decide_eq_false (by assumption) | decide | (simp; done) | (simp; omega) | (simp [*]; done)) (Run.mv rfl) rfl ?_
        refine Ops.rg rfl (by first | rfl | assumption | exact decide_eq_true (by assumption) | exact decide_eq_false (by assumption) | decide | (simp; done) | (simp; omega) | (simp [*]; done)) (Run.lenT rfl Tryd.underlying9) rfl ?_
        refine Ops.rg rfl (by first | rfl | assumption | exact decide_eq_true (by assumption) | exact decide_eq_false (by assumption) | decide | (simp; done) | (simp; omega) | (simp [*]; done)) (Run.bin rfl rfl (Bin.gtrN _ 0)) rfl ?_
        by_cases hs11 : 0 < s.length
        · skip
          obtain ⟨x0, r0, hs0⟩ : ∃ x0 r0, s = x0 :: r0 := by
            cases s with
            | nil => exact absurd hs11 (by simp)
            | cons a r => exact ⟨a, r, rfl⟩
          have hx48 : s.head? = some 48 ↔ x0.toNat = 48 := by
            rw [hs0]
            simp only [List.head?_cons, Option.some.injEq]
            exact ⟨fun h => by subst h; rfl, fun h => UInt8.toNat_inj.1 h⟩
          refine Ops.rg rfl (by first | rfl | assumption | exact decide_eq_true (by assumption) | exact decide_eq_false (by assumption) | decide | (simp; done) | (simp; omega) | (simp [*]; done)) (Run.mv rfl) rfl ?_
          refine Ops.rg rfl (by first | rfl | assumption | exact decide_eq_true (by assumption) | exact decide_eq_false (by assumption) | decide | (simp; done) | (simp; omega) | (simp [*]; done)) (Run.mv rfl) rfl ?_
          refine Ops.rg rfl (by first | rfl | assumption | exact decide_eq_true (by assumption) | exact decide_eq_false (by assumption) | decide | (simp; done) | (simp; omega) | (simp [*]; done)) (Run.indexT 0 rfl rfl Tryd.underlying9 (by rw [hs0]; rfl)) rfl ?_
          refine Ops.rg rfl (by first | rfl | assumption | exact decide_eq_true (by assumption) | exact decide_eq_false (by assumption) | decide | (simp; done) | (simp; omega) | (simp [*]; done)) (Run.bin rfl rfl (Bin.eqlN _ 48)) rfl ?_
          by_cases hs15 : x0.toNat = 48
          · skip
            refine Ops.rg rfl (by first | rfl | assumption | exact decide_eq_true (by assumption) | exact decide_eq_false (by assumption) | decide | (simp; done) | (simp; omega) | (simp [*]; done)) (Run.pickT rfl rfl (by first | rfl | assumption | exact decide_eq_true (by assumption) | exact decide_eq_false (by assumption) | decide | (simp; done) | (simp; omega) | (simp [*]; done))) rfl ?_
            refine Ops.r (Run.pickF rfl rfl (by first | rfl | assumption | exact decide_eq_true (by assumption) | exact decide_eq_false (by assumption) | decide | (simp; done) | (simp; omega) | (simp [*]; done))) rfl ?_
            refine Ops.r (Run.mv rfl) rfl ?_
            refine Ops.sk rfl (by first | rfl | assumption | exact decide_eq_true (by assumption) | exact decide_eq_false (by assumption) | decide | (simp; done) | (simp; omega) | (simp [*]; done)) rfl ?_
            refine Ops.sk rfl (by first | rfl | assumption | exact decide_eq_true (by assumption) | exact decide_eq_false (by assumption) | decide | (simp; done) | (simp; omega) | (simp [*]; done)) rfl ?_
            refine Ops.sk rfl (by first | rfl | assumption | exact decide_eq_true (by assumption) | exact decide_eq_false (by assumption) | decide | (simp; done) | (simp; omega) | (simp [*]; done)) rfl ?_
            refine Ops.r (Run.pickT rfl rfl (by first | rfl | assumption | exact decide_eq_true (by assumption) | exact decide_eq_false (by assumption) | decide | (simp; done) | (simp; omega) | (simp [*]; done))) rfl ?_
            refine Ops.nil ?_
            refine thenQ_n ⟨(.cons (congrArg (fun b => some (Value.bool b)) (Eq.symm (by first | exact decide_eq_true (.inl ‹_›) | exact decide_eq_true (.inr (.inl (hx48.2 ‹_›))) | exact decide_eq_decide.2 ⟨fun h => (h.resolve_left ‹_›).resolve_left (fun h2 => ‹¬ x0.toNat = 48› (hx48.1 h2)), fun h => .inr (.inr h)⟩ | exact decide_eq_decide.2 ⟨fun h => (h.resolve_left ‹_›).resolve_left hx48, fun h => .inr (.inr h)⟩))) (.cons rfl .nil)), rfl⟩
          · skip
            refine Ops.rg rfl (by first | rfl | assumption | exact decide_eq_true (by assumption) | exact decide_eq_false (by assumption) | decide | (simp; done) | (simp; omega) | (simp [*]; done)) (Run.pickT rfl rfl (by first | rfl | assumption | exact decide_eq_true (by assumption) | exact decide_eq_false (by assumption) | decide | (simp; done) | (simp; omega) | (simp [*]; done))) rfl ?_
            refine Ops.r (Run.pickF rfl rfl (by first | rfl | assumption | exact decide_eq_true (by assumption) | exact decide_eq_false (by assumption) | decide | (simp; done) | (simp; omega) | (simp [*]; done))) rfl ?_
            refine Ops.r (Run.mv rfl) rfl ?_
            refine Ops.rg rfl (by first | rfl | assumption | exact decide_eq_true (by assumption) | exact decide_eq_false (by assumption) | decide | (simp; done) | (simp; omega) | (simp [*]; done)) (Run.mv rfl) rfl ?_
            refine Ops.clg rfl (by first | rfl | assumption | exact decide_eq_true (by assumption) | exact decide_eq_false (by assumption) | decide | (simp; done) | (simp; omega) | (simp [*]; done)) (Enters.fn (evs.cons rfl evs.nil) Tryd.call74) (rnum_spec s _ (by omega)) rfl ?_
            rintro e _ ⟨rfl, rfl⟩
            refine ⟨_, rfl, ?_⟩
            refine Ops.rg rfl (by first | rfl | assumption | exact decide_eq_true (by assumption) | exact decide_eq_false (by assumption) | decide | (simp; done) | (simp; omega) | (simp [*]; done)) (Run.bin rfl rfl (Bin.gtr _ 2147483647)) rfl ?_
            by_cases hs21 : 2147483647 < rnQ s
            · skip
              refine Ops.r (Run.pickF rfl rfl (by first | rfl | assumption | exact decide_eq_true (by assumption) | exact decide_eq_false (by assumption) | decide | (simp; done) | (simp; omega) | (simp [*]; done))) rfl ?_
              refine Ops.nil ?_
              refine thenQ_n ⟨(.cons (congrArg (fun b => some (Value.bool b)) (Eq.symm (by first | exact decide_eq_true (.inl ‹_›) | exact decide_eq_true (.inr (.inl (hx48.2 ‹_›))) | exact decide_eq_decide.2 ⟨fun h => (h.resolve_left ‹_›).resolve_left (fun h2 => ‹¬ x0.toNat = 48› (hx48.1 h2)), fun h => .inr (.inr h)⟩ | exact decide_eq_decide.2 ⟨fun h => (h.resolve_left ‹_›).resolve_left hx48, fun h => .inr (.inr h)⟩))) (.cons rfl .nil)), rfl⟩
            · skip
              refine Ops.r (Run.pickF rfl rfl (by first | rfl | assumption | exact decide_eq_true (by assumption) | exact decide_eq_false (by assumption) | decide | (simp; done) | (simp; omega) | (simp [*]; done))) rfl ?_
              refine Ops.nil ?_
              refine thenQ_n ⟨(.cons (congrArg (fun b => some (Value.bool b)) (Eq.symm (by first | exact decide_eq_true (.inl ‹_›) | exact decide_eq_true (.inr (.inl (hx48.2 ‹_›))) | exact decide_eq_decide.2 ⟨fun h => (h.resolve_left ‹_›).resolve_left (fun h2 => ‹¬ x0.toNat = 48› (hx48.1 h2)), fun h => .inr (.inr h)⟩ | exact decide_eq_decide.2 ⟨fun h => (h.resolve_left ‹_›).resolve_left hx48, fun h => .inr (.inr h)⟩))) (.cons rfl .nil)), rfl⟩
        · skip
          have hx48 : ¬ s.head? = some 48 := by
            cases s with
            | nil => simp
            | cons a r => exact absurd (by simp) hs11
          refine Ops.rg rfl (by first | rfl | assumption | exact decide_eq_true (by assumption) | exact decide_eq_false (by assumption) | decide | (simp; done) | (simp; omega) | (simp [*]; done)) (Run.mv rfl) rfl ?_
          refine Ops.sk rfl (by first | rfl | assumption | exact decide_eq_true (by assumption) | exact decide_eq_false (by assumption) | decide | (simp; done) | (simp; omega) | (simp [*]; done)) rfl ?_
          refine Ops.sk rfl (by first | rfl | assumption | exact decide_eq_true (by assumption) | exact decide_eq_false (by assumption) | decide | (simp; done) | (simp; omega) | (simp [*]; done)) rfl ?_
          refine Ops.sk rfl (by first | rfl | assumption | exact decide_eq_true (by assumption) | exact decide_eq_false (by assumption) | decide | (simp; done) | (simp; omega) | (simp [*]; done)) rfl ?_
          refine Ops.rg rfl (by first | rfl | assumption | exact decide_eq_true (by assumption) | exact decide_eq_false (by assumption) | decide | (simp; done) | (simp; omega) | (simp [*]; done)) (Run.pickF rfl rfl (by first | rfl | assumption | exact decide_eq_true (by assumption) | exact decide_eq_false (by assumption) | decide | (simp; done) | (simp; omega) | (simp [*]; done))) rfl ?_
          refine Ops.r (Run.pickF rfl rfl (by first | rfl | assumption | exact decide_eq_true (by assumption) | exact decide_eq_false (by assumption) | decide | (simp; done) | (simp; omega) | (simp [*]; done))) rfl ?_
          refine Ops.r (Run.mv rfl) rfl ?_
          refine Ops.rg rfl (by first | rfl | assumption | exact decide_eq_true (by assumption) | exact decide_eq_false (by assumption) | decide | (simp; done) | (simp; omega) | (simp [*]; done)) (Run.mv rfl) rfl ?_
          refine Ops.clg rfl (by first | rfl | assumption | exact decide_eq_true (by assumption) | exact decide_eq_false (by assumption) | decide | (simp; done) | (simp; omega) | (simp [*]; done)) (Enters.fn (evs.cons rfl evs.nil) Tryd.call74) (rnum_spec s _ (by omega)) rfl ?_
          rintro e _ ⟨rfl, rfl⟩
          refine ⟨_, rfl, ?_⟩
          refine Ops.rg rfl (by first | rfl | assumption | exact decide_eq_true (by assumption) | exact decide_eq_false (by assumption) | decide | (simp; done) | (simp; omega) | (simp [*]; done)) (Run.bin rfl rfl (Bin.gtr _ 2147483647)) rfl ?_
          by_cases hs21 : 2147483647 < rnQ s
          · skip
            refine Ops.r (Run.pickF rfl rfl (by first | rfl | assumption | exact decide_eq_true (by assumption) | exact decide_eq_false (by assumption) | decide | (simp; done) | (simp; omega) | (simp [*]; done))) rfl ?_
            refine Ops.nil ?_
            refine thenQ_n ⟨(.cons (congrArg (fun b => some (Value.bool b)) (Eq.symm (by first | exact decide_eq_true (.inl ‹_›) | exact decide_eq_true (.inr (.inl (hx48.2 ‹_›))) | exact decide_eq_decide.2 ⟨fun h => (h.resolve_left ‹_›).resolve_left (fun h2 => ‹¬ x0.toNat = 48› (hx48.1 h2)), fun h => .inr (.inr h)⟩ | exact decide_eq_decide.2 ⟨fun h => (h.resolve_left ‹_›).resolve_left hx48, fun h => .inr (.inr h)⟩))) (.cons rfl .nil)), rfl⟩
          · skip
            refine Ops.r (Run.pickF rfl rfl (by first | rfl | assumption | exact decide_eq_true (by assumption) | exact decide_eq_false (by assumption) | decide | (simp; done) | (simp; omega) | (simp [*]; done))) rfl ?_
            refine Ops.nil ?_
            refine thenQ_n ⟨(.cons (congrArg (fun b => some (Value.bool b)) (Eq.symm (by first | exact decide_eq_true (.inl ‹_›) | exact decide_eq_true (.inr (.inl (hx48.2 ‹_›))) | exact decide_eq_decide.2 ⟨fun h => (h.resolve_left ‹_›).resolve_left (fun h2 => ‹¬ x0.toNat = 48› (hx48.1 h2)), fun h => .inr (.inr h)⟩ | exact decide_eq_decide.2 ⟨fun h => (h.resolve_left ‹_›).resolve_left hx48, fun h => .inr (.inr h)⟩))) (.cons rfl .nil)), rfl⟩
    · intro Γ hΓ
      refine thenQ_n (VC.sub _ hΓ ?_)
      refine VC.condD rfl (fun hc2 => ?_) (fun hc2 => ?_)
      · skip
        refine VC.seq ?_
        refine VC.region ?_
        refine Ops.r (v := .int .i64 (-1)) (Run.asg rfl) rfl ?_
        refine Ops.nil ?_
        refine thenQ_n ?_
        refine VC.sub [(2, _)] (.cons rfl .nil) ?_
        refine VC.ret ?_
        refine thenQ_r (end1 rfl ?_)
        refine ⟨?_, rfl⟩
        by_cases hb : 10 < s.length ∨ s.head? = some 48
        · rw [numQ_bad hc1 (.inr hb)]
        · rw [numQ_eq s hb hc1, if_neg (by
            have h3 := (hc2.resolve_left (fun h => hb (.inl h))).resolve_left (fun h => hb (.inr h))
            omega)]
      · skip
        refine VC.skip ?_
        refine thenQ_n ?_
        refine VC.sub [(0, _)] (.cons rfl .nil) ?_
        refine VC.seq ?_
        refine VC.region ?_
        refine Ops.r (Run.mv rfl) rfl ?_
        refine Ops.cl (Enters.fn (evs.cons rfl evs.nil) Tryd.call74) (rnum_spec s _ (by omega)) rfl ?_
        rintro e _ ⟨rfl, rfl⟩
        refine ⟨_, rfl, ?_⟩
        refine Ops.r (Run.asg rfl) rfl ?_
        refine Ops.nil ?_
        refine thenQ_n ?_
        refine VC.sub [(2, _)] (.cons rfl .nil) ?_
        refine VC.ret ?_
        refine end1 rfl ?_
        refine ⟨?_, rfl⟩
        rw [numQ_eq s (fun h => hc2 (h.elim .inl (fun h => .inr (.inl h)))) hc1, if_pos (by
          have h3 : ¬ 2147483647 < rnQ s := fun h => hc2 (.inr (.inr h))
          omega)]

end Go.Proofs.YtnllhddbgkeboaaDoor
