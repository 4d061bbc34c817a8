/-
  The law 'FlagSets' of layer 24: how any text is told as a flag, and the set of any, is as the document says. No condition.
-/
import Derived.Test.YtndelocgmcilkaaFlagLC
namespace Go.Proofs.Ytndelocgmcilkaa
open Go.RowKit Go.Sort

/-- A set's text. -/
def tellF (l : List Tx) : Tx := [40] ++ Lib.join l [32] ++ [41]
theorem join_snoc {l : List Tx} (x : Tx) (h : l ≠ []) : Lib.join (l ++ [x]) [32] = Lib.join l [32] ++ [32] ++ x := by
  cases l with
  | nil => exact absurd rfl h
  | cons a r =>
    rw [List.cons_append, Lib.join_cons, Lib.join_cons]
    simp [Lib.joinTail]
theorem join_len : ∀ (l : List Tx) (k : Nat), (∀ q ∈ l, q.length ≤ k) → (Lib.join l [32]).length ≤ l.length * (k + 1) := by
  intro l k h
  cases l with
  | nil => simp [Lib.join_nil]
  | cons a r =>
    rw [Lib.join_cons, List.length_append]
    have h1 := h a (by simp)
    have h2 : (Lib.joinTail [32] r).length ≤ r.length * (k + 1) := by
      have h3 : ∀ q ∈ r, q.length ≤ k := fun q hq => h q (by simp [hq])
      clear h h1
      unfold Lib.joinTail
      induction r with
      | nil => simp
      | cons b r ih =>
        simp only [List.map_cons, List.flatten_cons, List.length_append, List.length_cons, List.length_nil]
        have := ih (fun q hq => h3 q (by simp [hq]))
        have := h3 b (by simp)
        rw [Nat.add_mul]
        omega
    rw [List.length_cons, Nat.add_mul]
    omega

set_option maxRecDepth 100000 in
theorem ftell_spec (A : Option Addr) (c0 : Nat) (l : List Tx) (w : World) (hc : l.length ≤ c0) (hn : l.length ≤ 1000) (hq : ∀ q ∈ l, q.length ≤ 1000) (hr : Rd w 1 A l.length (SB l)) :
    Calls Try.prog 20 #[.slice A l.length c0] w fun e w' => e = .returned (encStr (tellF l)) ∧ Frm [] w w' := by
  have hjl := join_len l 1000 hq
  have hjl2 : (Lib.join l [32]).length ≤ 1001000 := Nat.le_trans hjl (by have := Nat.mul_le_mul_right 1001 hn; omega)
  have hJ : Calls Try.prog 37 #[.slice A l.length c0, encStr [32]] w fun e w' => e = .returned (encStr (Lib.join l [32])) ∧ Frm [] w w' := by
    by_cases h0 : l.length = 0
    · have : l = [] := List.eq_nil_of_length_eq_zero h0
      subst this
      refine (Try.strings_Join_none A c0 ⟨#[32]⟩ w).mono fun e w' ⟨he, hw⟩ => ?_
      subst hw
      exact ⟨he, Frm.refl _ _⟩
    · obtain ⟨b, o, rfl, hlt, hcl⟩ := Rd.plain hr (by omega)
      have e1 : (l.map fun x => (⟨x.toArray⟩ : ByteArray)).map (·.data.toList) = l := by rw [List.map_map]; exact (List.map_congr_left (g := id) (fun _ _ => rfl)).trans (List.map_id l)
      have hcells : ∀ (j : Nat) (x : ByteArray), (l.map fun x => (⟨x.toArray⟩ : ByteArray))[j]? = some x → w.cell? ⟨b, o + j, none⟩ = some (.string x) := fun j x hx => by
        rw [List.getElem?_map] at hx
        obtain ⟨y, hy, rfl⟩ := Option.map_eq_some_iff.1 hx
        exact hcl j _ (by simp [SB, hy])
      have h := Try.strings_Join b o c0 (l.map fun x => (⟨x.toArray⟩ : ByteArray)) ⟨#[32]⟩ w hcells hlt (by rw [List.length_map]; omega) (by rw [List.length_map]; exact hc) (by rw [e1]; show (Lib.join l [32]).length ≤ _; omega)
      rw [List.length_map, e1] at h
      exact h.mono fun e w' ⟨he, hb⟩ => ⟨he, Frm.of_below hb⟩
  refine VC.calls (nt := 7) (res := #[.tmp 2]) Try.func20 rfl Try.ntmps20 Try.results20 rfl ?_
  refine VC.seq ?_
  refine VC.region ?_
  refine Ops.r (Run.asg rfl) rfl ?_
  refine Ops.nil ?_
  refine thenQ_n ?_
  refine VC.sub [(0, _)] (.cons rfl .nil) ?_
  refine VC.seq ?_
  refine VC.region ?_
  refine Ops.r (Run.mv rfl) rfl ?_
  refine Ops.cl (Enters.fn (evs.cons rfl (evs.cons rfl evs.nil)) Try.call37) (hJ) rfl ?_
  rintro e w1 ⟨rfl, hf1⟩
  refine ⟨_, rfl, ?_⟩
  refine Ops.r (Run.addT (a := [40]) rfl rfl (by simp only [List.length_cons, List.length_nil]; omega)) rfl ?_
  refine Ops.r (Run.addT (b := [41]) rfl rfl (by simp only [List.length_append, List.length_cons, List.length_nil]; omega)) rfl ?_
  refine Ops.r (Run.asg rfl) rfl ?_
  refine Ops.nil ?_
  refine thenQ_n ?_
  refine VC.sub [(2, _)] (.cons rfl .nil) ?_
  refine VC.ret ?_
  refine end1 rfl ?_
  exact ⟨rfl, hf1⟩

set_option maxRecDepth 100000 in
theorem rtell_spec (A : Option Addr) (c0 : Nat) (l : List Tx) (w : World) (hn : l.length ≤ 1000) (hq : ∀ q ∈ l, q.length ≤ 1000) (hr : Rd w 1 A l.length (SB l)) :
    Calls Try.prog 21 #[.slice A l.length c0] w fun e w' => e = .returned (encStr (tellF l)) ∧ w = w' := by
  refine VC.calls (nt := 23) (res := #[.tmp 2]) Try.func21 rfl Try.ntmps21 Try.results21 rfl ?_
  refine VC.seq ?_
  refine VC.region ?_
  refine Ops.r (Run.asg rfl) rfl ?_
  refine Ops.nil ?_
  refine thenQ_n ?_
  refine VC.sub [(0, _)] (.cons rfl .nil) ?_
  refine VC.seq ?_
  refine VC.region ?_
  refine Ops.r (Run.asg rfl) rfl ?_
  refine Ops.nil ?_
  refine thenQ_n ?_
  refine VC.seq ?_
  refine VC.seq ?_
  refine VC.region ?_
  refine Ops.r (v := .int .i64 ((0 : Nat) : Int)) (Run.asg rfl) rfl ?_
  refine Ops.nil ?_
  refine thenQ_n ?_
  refine VC.block ?_
  refine VC.loop (σ := Nat) (fun s => [(0, .slice A l.length c0), (3, encStr ([40] ++ Lib.join (l.take s) [32])), (4, .int .i64 ((s : Nat) : Int))]) (fun s wr => s ≤ l.length ∧ wr = w) (fun s => l.length - s) 0 (.cons rfl (.cons (by rw [List.take_zero, Lib.join_nil]; rfl) (.cons rfl .nil))) ⟨by omega, rfl⟩ ?_
  rintro i wr ⟨hi, hw⟩
  obtain rfl : w = wr := hw.symm
  have hjl := join_len (l.take i) 1000 (fun q hq' => hq q (List.mem_of_mem_take hq'))
  have hjl2 : (Lib.join (l.take i) [32]).length ≤ 1001000 := Nat.le_trans hjl (by have := Nat.mul_le_mul_right 1001 (show (l.take i).length ≤ 1000 by simp; omega); omega)
  refine VC.seq ?_
  refine VC.seq ?_
  refine VC.region ?_
  refine Ops.r (Run.mv rfl) rfl ?_
  refine Ops.r (Run.mv rfl) rfl ?_
  refine Ops.r (Run.lenS rfl Try.underlying22) rfl ?_
  refine Ops.r (Run.bin rfl rfl (Bin.lssN _ _)) rfl ?_
  refine Ops.nil ?_
  refine thenQ_n ?_
  refine VC.sub [(0, _), (3, _), (4, _), (8, _)] (.cons rfl (.cons rfl (.cons rfl (.cons rfl .nil)))) ?_
  refine VC.condD rfl (fun hc1 => ?_) (fun hc1 => ?_)
  · skip
    obtain ⟨ad, rfl, hcell⟩ := SB_at hr hc1
    have hxl := hq _ (List.getElem_mem hc1)
    have hts : l.take (i + 1) = l.take i ++ [l[i]] := take_snoc hc1
    have hjs : Lib.join (l.take (i + 1)) [32] = (if 0 < i then Lib.join (l.take i) [32] ++ [32] else []) ++ l[i] := by
      rw [hts]
      by_cases h : 0 < i
      · rw [if_pos h, join_snoc _ (by intro e; have := congrArg List.length e; rw [List.length_take, List.length_nil] at this; omega)]
      · have : i = 0 := by omega
        subst this
        simp [Lib.join_one]
    generalize l[i] = x at *
    refine VC.skip ?_
    refine thenQ_n ?_
    refine VC.sub [(0, _), (3, _), (4, _)] (.cons rfl (.cons rfl (.cons rfl .nil))) ?_
    refine VC.seq ?_
    refine VC.block ?_
    refine VC.seq ?_
    refine VC.seq ?_
    refine VC.region ?_
    refine Ops.r (Run.mv rfl) rfl ?_
    refine Ops.r (Run.bin rfl rfl (Bin.gtrN _ 0)) rfl ?_
    refine Ops.nil ?_
    refine thenQ_n ?_
    refine VC.sub [(0, _), (3, _), (4, _), (12, _)] (.cons rfl (.cons rfl (.cons rfl (.cons rfl .nil)))) ?_
    refine VC.meet (σ := Unit) (fun s => [(0, .slice (some ad) l.length c0), (3, encStr ([40] ++ if 0 < i then Lib.join (l.take i) [32] ++ [32] else [])), (4, .int .i64 ((i : Nat) : Int))]) (fun s wm => w = wm) ?_ ?_
    · skip
      refine VC.condD rfl (fun hc2 => ?_) (fun hc2 => ?_)
      · skip
        refine VC.region ?_
        refine Ops.r (Run.mv rfl) rfl ?_
        refine Ops.r (Run.addT (b := [32]) rfl rfl (by simp only [List.length_append, List.length_cons, List.length_nil]; omega)) rfl ?_
        refine Ops.r (Run.asg rfl) rfl ?_
        refine Ops.nil ?_
        refine thenQ_n ⟨(), (.cons rfl (.cons (by rw [if_pos hc2, ← List.append_assoc]; rfl) (.cons rfl .nil))), ?_⟩
        rfl
      · skip
        refine VC.skip ?_
        refine thenQ_n ⟨(), (.cons rfl (.cons (by rw [if_neg hc2, show l.take i = [] from by rw [show i = 0 by omega, List.take_zero], Lib.join_nil]; rfl) (.cons rfl .nil))), ?_⟩
        rfl
    · skip
      rintro _ _ rfl Γ hΓ
      refine thenQ_n (VC.sub _ hΓ ?_)
      refine VC.region ?_
      refine Ops.r (Run.mv rfl) rfl ?_
      refine Ops.r (Run.mv rfl) rfl ?_
      refine Ops.r (Run.mv rfl) rfl ?_
      refine Ops.r (Run.index1 i rfl rfl Try.underlying22 Try.sizeOf9 hc1) rfl ?_
      refine Ops.r (Run.load rfl Try.isAgg9 hcell) rfl ?_
      refine Ops.r (Run.addT rfl rfl (by split <;> simp only [List.length_append, List.length_cons, List.length_nil] <;> omega)) rfl ?_
      refine Ops.r (Run.asg rfl) rfl ?_
      refine Ops.nil ?_
      refine blockQ_n (thenQ_n ?_)
      refine VC.sub [(0, _), (3, _), (4, _)] (.cons rfl (.cons rfl (.cons rfl .nil))) ?_
      refine VC.region ?_
      refine Ops.r (Run.mv rfl) rfl ?_
      refine Ops.r (Run.bin rfl rfl (Bin.add_i64 _ 1 (by omega))) rfl ?_
      refine Ops.r (Run.asg rfl) rfl ?_
      refine Ops.nil ?_
      refine thenQ_n ⟨(i + 1), (.cons rfl (.cons (by rw [hjs, ← List.append_assoc]; rfl) (.cons rfl .nil))), ?_, ?_⟩
      · skip
        exact ⟨hc1, rfl⟩
      · skip
        first | omega | (dsimp only; omega)
  · skip
    have him : i = l.length := by omega
    subst him
    rw [List.take_length] at hjl2 ⊢
    refine VC.exit ?_
    refine thenQ_x (thenQ_x (blockQ_x ?_))
    refine thenQ_n ?_
    refine VC.sub [(3, _)] (.cons rfl .nil) ?_
    refine VC.seq ?_
    refine VC.region ?_
    refine Ops.r (Run.mv rfl) rfl ?_
    refine Ops.r (Run.addT (b := [41]) rfl rfl (by simp only [List.length_append, List.length_cons, List.length_nil]; omega)) rfl ?_
    refine Ops.r (Run.asg rfl) rfl ?_
    refine Ops.nil ?_
    refine thenQ_n ?_
    refine VC.sub [(2, _)] (.cons rfl .nil) ?_
    refine VC.ret ?_
    refine end1 rfl ?_
    exact ⟨rfl, rfl⟩

set_option maxRecDepth 100000 in
theorem sets_walk (A : Option Addr) (al ac : Nat) (l : List Tx) (q0 : Tx) (w : World) (hal : l.length = al) (hac : al ≤ ac) (hr : Rd w 1 A al (SB l)) :
    Calls Try.prog 6 #[.slice A al ac, encStr q0] w fun e w' => e = .returned (.bool true) ∧ Frm [] w w' := by
  subst hal
  refine VC.calls (nt := 88) (res := #[.tmp 4]) Try.func6 rfl Try.ntmps6 Try.results6 rfl ?_
  refine VC.seq ?_
  refine VC.region ?_
  refine Ops.r (Run.asg rfl) rfl ?_
  refine Ops.nil ?_
  refine thenQ_n ?_
  refine VC.sub [(0, _), (1, _)] (.cons rfl (.cons rfl .nil)) ?_
  refine VC.seq ?_
  refine VC.region ?_
  refine Ops.r (Run.mv rfl) rfl ?_
  refine Ops.cl (Enters.fn (evs.cons rfl evs.nil) Try.call7) (few24_spec A ac l _ hac (hr)) rfl ?_
  rintro e w1 ⟨hf1, F1, fd1, rfl, ho1, hg1⟩
  refine ⟨_, rfl, ?_⟩
  obtain ⟨hl1, hq1⟩ := fewF_facts l
  generalize fewF l = l1 at *
  have K1 : Frm [] w w1 := hf1
  have hlc1 := ho1.le
  refine Ops.r (Run.asg rfl) rfl ?_
  refine Ops.nil ?_
  refine thenQ_n ?_
  refine VC.sub [(0, _), (1, _)] (.cons rfl (.cons rfl .nil)) ?_
  refine VC.seq ?_
  refine VC.region ?_
  refine Ops.r (Run.mv rfl) rfl ?_
  refine Ops.m (Does.buildS1 rfl Try.underlying22 Try.sizeOf9 zero9 (by decide) (by decide) rfl rfl) rfl ?_
  rintro _ w3 ⟨rfl, hF3⟩
  have K3 : Frm [] w1 w3 := hF3.frm
  refine Ops.cl (Enters.fn (evs.cons rfl evs.nil) Try.call7) (few24_spec _ 1 [q0] _ (by simp) (hrd1 hF3)) rfl ?_
  rintro e w4 ⟨hf4, F4, fd4, rfl, ho4, hg4⟩
  rw [few_one] at ho4 ⊢
  refine ⟨_, rfl, ?_⟩
  have hqn : (q0.take 30).length ≤ 30 := by simp; omega
  generalize q0.take 30 = q at *
  have K4 : Frm [] w w4 := (K1.trans K3 (by simp)).trans hf4 (by simp)
  obtain ⟨adq, hAq, hcq⟩ := SB_at (k := 0) ho4.rd (by simp)
  subst hAq
  have J4 : Frm [] w1 w4 := K3.trans hf4 (by simp)
  refine Ops.r (Run.index1 0 rfl rfl Try.underlying22 Try.sizeOf9 (by simp)) rfl ?_
  refine Ops.r (Run.load rfl Try.isAgg9 hcq) rfl ?_
  refine Ops.r (Run.asg rfl) rfl ?_
  refine Ops.nil ?_
  refine thenQ_n ?_
  refine VC.sub [(0, _), (1, _)] (.cons rfl (.cons rfl .nil)) ?_
  refine VC.seq ?_
  refine VC.region ?_
  refine Ops.r (Run.mv rfl) rfl ?_
  refine Ops.cl (Enters.fn (evs.cons rfl evs.nil) Try.call14) (told_spec q _ (by omega)) rfl ?_
  rintro e w5 ⟨rfl, hf5⟩
  refine ⟨_, rfl, ?_⟩
  have J5 := J4.trans hf5 (by simp)
  refine Ops.r (Run.mv rfl) rfl ?_
  refine Ops.r (Run.extract rfl rfl) rfl ?_
  refine Ops.r (Run.extract rfl rfl) rfl ?_
  refine Ops.r (Run.asg rfl) rfl ?_
  refine Ops.r (Run.asg rfl) rfl ?_
  refine Ops.nil ?_
  refine thenQ_n ?_
  refine VC.sub [(0, _), (1, _), (5, _), (6, _)] (.cons rfl (.cons rfl (.cons rfl (.cons rfl .nil)))) ?_
  refine VC.seq ?_
  refine VC.region ?_
  refine Ops.r (Run.mv rfl) rfl ?_
  refine Ops.cl (Enters.fn (evs.cons rfl evs.nil) Try.call16) (rtold_spec q _ (by omega)) rfl ?_
  rintro e w6 ⟨rfl, hf6⟩
  refine ⟨_, rfl, ?_⟩
  have J6 := J5.trans hf6 (by simp)
  have h34 : (decide ((toldV q).2 = 0) != decide ((toldV q).1 ≠ [])) = false := by
    rcases told_cases q with ⟨t, h1, h2⟩ | ⟨h1, h2⟩ <;> rw [h2]
    · have := toldF_ne h1; simp [this]
    · simp
  have h41 : (toldV q).1 = [] → (toldV q).2 = 18 := fun h => by
    rcases told_cases q with ⟨t, h1, h2⟩ | ⟨h1, h2⟩ <;> rw [h2] at h ⊢
    exact absurd h (toldF_ne h1)
  refine Ops.r (Run.asg rfl) rfl ?_
  refine Ops.nil ?_
  refine thenQ_n ?_
  refine VC.sub [(0, _), (1, _), (5, _), (6, _), (7, _)] (.cons rfl (.cons rfl (.cons rfl (.cons rfl (.cons rfl .nil))))) ?_
  refine VC.seq ?_
  refine VC.seq ?_
  refine VC.split1 [(0, _), (1, _)] (.cons rfl (.cons rfl .nil)) 43 (.bool (decide (False))) ?_ ?_
  · refine VC.region ?_
    refine Ops.r (Run.mv rfl) rfl ?_
    refine Ops.r (Run.mv rfl) rfl ?_
    refine Ops.r (Run.neqT rfl rfl) rfl ?_
    refine Ops.r (Run.mv rfl) rfl ?_
    refine Ops.rg rfl (by first | rfl | assumption | exact decide_eq_true (by assumption) | exact decide_eq_false (by assumption) | decide | (simp; done) | (simp; omega) | (simp [*]; done)) (Run.mv rfl) rfl ?_
    refine Ops.rg rfl (by first | rfl | assumption | exact decide_eq_true (by assumption) | exact decide_eq_false (by assumption) | decide | (simp; done) | (simp; omega) | (simp [*]; done)) (Run.bin rfl rfl (Bin.eqlN _ 0)) rfl ?_
    refine Ops.rg rfl (by first | rfl | assumption | exact decide_eq_true (by assumption) | exact decide_eq_false (by assumption) | decide | (simp; done) | (simp; omega) | (simp [*]; done)) (Run.mv rfl) rfl ?_
    refine Ops.rg rfl (by first | rfl | assumption | exact decide_eq_true (by assumption) | exact decide_eq_false (by assumption) | decide | (simp; done) | (simp; omega) | (simp [*]; done)) (Run.neqT rfl rfl) rfl ?_
    refine Ops.rg rfl (by first | rfl | assumption | exact decide_eq_true (by assumption) | exact decide_eq_false (by assumption) | decide | (simp; done) | (simp; omega) | (simp [*]; done)) (Run.neqB rfl rfl Try.underlying4) rfl ?_
    refine Ops.r (Run.pickF rfl rfl (by first | rfl | assumption | exact decide_eq_true (by assumption) | exact decide_eq_false (by assumption) | decide | (simp; done) | (simp; omega) | (simp [*]; done))) rfl ?_
    refine Ops.r (Run.mv rfl) rfl ?_
    refine Ops.rg rfl (by first | rfl | assumption | exact decide_eq_true (by assumption) | exact decide_eq_false (by assumption) | decide | (simp; done) | (simp; omega) | (simp [*]; done)) (Run.mv rfl) rfl ?_
    refine Ops.rg rfl (by first | rfl | assumption | exact decide_eq_true (by assumption) | exact decide_eq_false (by assumption) | decide | (simp; done) | (simp; omega) | (simp [*]; done)) (Run.eqlT rfl rfl) rfl ?_
    by_cases hs38 : (toldV q).1 = []
    · skip
      have h42 := h41 hs38
      refine Ops.rg rfl (by first | rfl | assumption | exact decide_eq_true (by assumption) | exact decide_eq_false (by assumption) | decide | (simp; done) | (simp; omega) | (simp [*]; done)) (Run.mv rfl) rfl ?_
      refine Ops.rg rfl (by first | rfl | assumption | exact decide_eq_true (by assumption) | exact decide_eq_false (by assumption) | decide | (simp; done) | (simp; omega) | (simp [*]; done)) (Run.mv rfl) rfl ?_
      refine Ops.rg rfl (by first | rfl | assumption | exact decide_eq_true (by assumption) | exact decide_eq_false (by assumption) | decide | (simp; done) | (simp; omega) | (simp [*]; done)) (Run.bin rfl rfl (Bin.neqN _ 18)) rfl ?_
      refine Ops.rg rfl (by first | rfl | assumption | exact decide_eq_true (by assumption) | exact decide_eq_false (by assumption) | decide | (simp; done) | (simp; omega) | (simp [*]; done)) (Run.pickT rfl rfl (by first | rfl | assumption | exact decide_eq_true (by assumption) | exact decide_eq_false (by assumption) | decide | (simp; done) | (simp; omega) | (simp [*]; done))) rfl ?_
      refine Ops.r (Run.pickF rfl rfl (by first | rfl | assumption | exact decide_eq_true (by assumption) | exact decide_eq_false (by assumption) | decide | (simp; done) | (simp; omega) | (simp [*]; done))) rfl ?_
      refine Ops.nil ?_
      refine thenQ_n ⟨(.cons (congrArg (fun b => some (Value.bool b)) (by first | (simp; done) | (simp [*]; done))) (.cons rfl (.cons rfl .nil))), rfl⟩
    · skip
      refine Ops.rg rfl (by first | rfl | assumption | exact decide_eq_true (by assumption) | exact decide_eq_false (by assumption) | decide | (simp; done) | (simp; omega) | (simp [*]; done)) (Run.mv rfl) rfl ?_
      refine Ops.sk rfl (by first | rfl | assumption | exact decide_eq_true (by assumption) | exact decide_eq_false (by assumption) | decide | (simp; done) | (simp; omega) | (simp [*]; done)) rfl ?_
      refine Ops.sk rfl (by first | rfl | assumption | exact decide_eq_true (by assumption) | exact decide_eq_false (by assumption) | decide | (simp; done) | (simp; omega) | (simp [*]; done)) rfl ?_
      refine Ops.rg rfl (by first | rfl | assumption | exact decide_eq_true (by assumption) | exact decide_eq_false (by assumption) | decide | (simp; done) | (simp; omega) | (simp [*]; done)) (Run.pickF rfl rfl (by first | rfl | assumption | exact decide_eq_true (by assumption) | exact decide_eq_false (by assumption) | decide | (simp; done) | (simp; omega) | (simp [*]; done))) rfl ?_
      refine Ops.r (Run.pickF rfl rfl (by first | rfl | assumption | exact decide_eq_true (by assumption) | exact decide_eq_false (by assumption) | decide | (simp; done) | (simp; omega) | (simp [*]; done))) rfl ?_
      refine Ops.nil ?_
      refine thenQ_n ⟨(.cons (congrArg (fun b => some (Value.bool b)) (by first | (simp; done) | (simp [*]; done))) (.cons rfl (.cons rfl .nil))), rfl⟩
  · intro Γ hΓ
    refine thenQ_n (VC.sub _ hΓ ?_)
    refine VC.condF rfl (by simp) ?_
    refine VC.skip ?_
    refine thenQ_n ?_
    refine VC.sub [(0, _), (1, _)] (.cons rfl (.cons rfl .nil)) ?_
    refine VC.seq ?_
    refine VC.region ?_
    refine Ops.r (Run.mv rfl) rfl ?_
    refine Ops.cl (Enters.fn (evs.cons rfl evs.nil) Try.call12) (fnorm_spec F1 fd1 l1 _ (by omega) (fun y hy => by have := hq1 y hy; omega) (ho1.rd.frm J6 (by simp))) rfl ?_
    rintro e w7 ⟨hf7, B7, d7, r7, k7, hN7⟩
    have hrl7 := hN7.len
    have hN7' := hN7
    obtain ⟨rfl, ho7, hg7, _⟩ := hN7
    refine ⟨_, rfl, ?_⟩
    have J7 := J6.trans hf7 (by simp)
    refine Ops.r (Run.mv rfl) rfl ?_
    refine Ops.r (Run.extract rfl rfl) rfl ?_
    refine Ops.r (Run.extract rfl rfl) rfl ?_
    refine Ops.r (Run.asg rfl) rfl ?_
    refine Ops.r (Run.asg rfl) rfl ?_
    refine Ops.nil ?_
    refine thenQ_n ?_
    refine VC.sub [(0, _), (1, _), (8, _), (9, _)] (.cons rfl (.cons rfl (.cons rfl (.cons rfl .nil)))) ?_
    refine VC.seq ?_
    refine VC.region ?_
    refine Ops.r (Run.mv rfl) rfl ?_
    refine Ops.cl (Enters.fn (evs.cons rfl evs.nil) Try.call17) (rnorm_spec F1 fd1 l1 _ (by omega) (fun y hy => by have := hq1 y hy; omega) (ho1.rd.frm J7 (by simp))) rfl ?_
    rintro e w8 ⟨hf8, B8, d8, r8, k8, hN8⟩
    obtain ⟨rfl, rfl⟩ := hN7'.same hN8
    obtain ⟨rfl, ho8, hg8, _⟩ := hN8
    refine ⟨_, rfl, ?_⟩
    have J8 := J7.trans hf8 (by simp)
    refine Ops.r (Run.mv rfl) rfl ?_
    refine Ops.r (Run.extract rfl rfl) rfl ?_
    refine Ops.r (Run.extract rfl rfl) rfl ?_
    refine Ops.r (Run.asg rfl) rfl ?_
    refine Ops.r (Run.asg rfl) rfl ?_
    refine Ops.nil ?_
    refine thenQ_n ?_
    refine VC.sub [(0, _), (1, _), (8, _), (9, _), (10, _), (11, _)] (.cons rfl (.cons rfl (.cons rfl (.cons rfl (.cons rfl (.cons rfl .nil)))))) ?_
    refine VC.seq ?_
    refine VC.region ?_
    refine Ops.r (Run.mv rfl) rfl ?_
    refine Ops.r (Run.mv rfl) rfl ?_
    refine Ops.cl (Enters.fn (evs.cons rfl (evs.cons rfl evs.nil)) Try.call10) (rsame_spec B7 B8 d7 d8 r7 r7 _ (by omega) (by omega) (ho7.rd.frm hf8 (by simp)) ho8.rd) rfl ?_
    rintro e w9 ⟨rfl, hd9⟩
    refine ⟨_, rfl, ?_⟩
    have J9 := J8.drawn hd9
    refine Ops.r (Run.mv rfl) rfl ?_
    refine Ops.rg rfl (by first | rfl | assumption | exact decide_eq_true (by assumption) | exact decide_eq_false (by assumption) | decide | (simp; done) | (simp; omega) | (simp [*]; done)) (Run.mv rfl) rfl ?_
    refine Ops.rg rfl (by first | rfl | assumption | exact decide_eq_true (by assumption) | exact decide_eq_false (by assumption) | decide | (simp; done) | (simp; omega) | (simp [*]; done)) (Run.mv rfl) rfl ?_
    refine Ops.rg rfl (by first | rfl | assumption | exact decide_eq_true (by assumption) | exact decide_eq_false (by assumption) | decide | (simp; done) | (simp; omega) | (simp [*]; done)) (Run.bin rfl rfl (Bin.eqlN _ _)) rfl ?_
    refine Ops.r (Run.pickT rfl rfl (by first | rfl | assumption | (simp; done) | (simp [*]; done) | (simp; omega))) rfl ?_
    refine Ops.r (Run.mv rfl) rfl ?_
    refine Ops.rg rfl (by first | rfl | assumption | exact decide_eq_true (by assumption) | exact decide_eq_false (by assumption) | decide | (simp; done) | (simp; omega) | (simp [*]; done)) (Run.mv rfl) rfl ?_
    refine Ops.clg rfl (by first | rfl | assumption | exact decide_eq_true (by assumption) | exact decide_eq_false (by assumption) | decide | (simp; done) | (simp; omega) | (simp [*]; done)) (Enters.fn (evs.cons rfl evs.nil) Try.call15) (fcheck_spec F1 fd1 l1 _ (by omega) (fun y hy => by have := hq1 y hy; omega) (ho1.rd.frm J9 (by simp))) rfl ?_
    rintro e w10 ⟨rfl, hf10⟩
    refine ⟨_, rfl, ?_⟩
    have J10 := J9.trans hf10 (by simp)
    refine Ops.rg rfl (by first | rfl | assumption | exact decide_eq_true (by assumption) | exact decide_eq_false (by assumption) | decide | (simp; done) | (simp; omega) | (simp [*]; done)) (Run.mv rfl) rfl ?_
    refine Ops.clg rfl (by first | rfl | assumption | exact decide_eq_true (by assumption) | exact decide_eq_false (by assumption) | decide | (simp; done) | (simp; omega) | (simp [*]; done)) (Enters.fn (evs.cons rfl evs.nil) Try.call18) (rcheck_spec F1 fd1 l1 _ (by omega) (fun y hy => by have := hq1 y hy; omega) (ho1.rd.frm J10 (by simp))) rfl ?_
    rintro e w11 ⟨rfl, hf11⟩
    refine ⟨_, rfl, ?_⟩
    have J11 := J10.trans hf11 (by simp)
    refine Ops.rg rfl (by first | rfl | assumption | exact decide_eq_true (by assumption) | exact decide_eq_false (by assumption) | decide | (simp; done) | (simp; omega) | (simp [*]; done)) (Run.eqlB rfl rfl Try.underlying4) rfl ?_
    refine Ops.r (Run.pickT rfl rfl (by first | rfl | assumption | (simp; done) | (simp [*]; done) | (simp; omega))) rfl ?_
    refine Ops.r (Run.mv rfl) rfl ?_
    refine Ops.rg rfl (by first | rfl | assumption | exact decide_eq_true (by assumption) | exact decide_eq_false (by assumption) | decide | (simp; done) | (simp; omega) | (simp [*]; done)) (Run.mv rfl) rfl ?_
    refine Ops.rg rfl (by first | rfl | assumption | exact decide_eq_true (by assumption) | exact decide_eq_false (by assumption) | decide | (simp; done) | (simp; omega) | (simp [*]; done)) (Run.mv rfl) rfl ?_
    refine Ops.clg rfl (by first | rfl | assumption | exact decide_eq_true (by assumption) | exact decide_eq_false (by assumption) | decide | (simp; done) | (simp; omega) | (simp [*]; done)) (Enters.fn (evs.cons rfl (evs.cons rfl evs.nil)) Try.call13) (fhas_spec F1 fd1 l1 q _ (by omega) (by omega) (ho1.rd.frm J11 (by simp))) rfl ?_
    rintro e w12 ⟨rfl, hf12⟩
    refine ⟨_, rfl, ?_⟩
    have J12 := J11.trans hf12 (by simp)
    refine Ops.rg rfl (by first | rfl | assumption | exact decide_eq_true (by assumption) | exact decide_eq_false (by assumption) | decide | (simp; done) | (simp; omega) | (simp [*]; done)) (Run.mv rfl) rfl ?_
    refine Ops.rg rfl (by first | rfl | assumption | exact decide_eq_true (by assumption) | exact decide_eq_false (by assumption) | decide | (simp; done) | (simp; omega) | (simp [*]; done)) (Run.mv rfl) rfl ?_
    refine Ops.clg rfl (by first | rfl | assumption | exact decide_eq_true (by assumption) | exact decide_eq_false (by assumption) | decide | (simp; done) | (simp; omega) | (simp [*]; done)) (Enters.fn (evs.cons rfl (evs.cons rfl evs.nil)) Try.call19) (rhas_spec F1 fd1 l1 q _ (by omega) (by omega) (ho1.rd.frm J12 (by simp))) rfl ?_
    rintro e w13 ⟨rfl, hf13⟩
    refine ⟨_, rfl, ?_⟩
    have J13 := J12.trans hf13 (by simp)
    refine Ops.rg rfl (by first | rfl | assumption | exact decide_eq_true (by assumption) | exact decide_eq_false (by assumption) | decide | (simp; done) | (simp; omega) | (simp [*]; done)) (Run.eqlB rfl rfl Try.underlying4) rfl ?_
    refine Ops.r (Run.pickT rfl rfl (by first | rfl | assumption | (simp; done) | (simp [*]; done) | (simp; omega))) rfl ?_
    refine Ops.r (Run.mv rfl) rfl ?_
    refine Ops.rg rfl (by first | rfl | assumption | exact decide_eq_true (by assumption) | exact decide_eq_false (by assumption) | decide | (simp; done) | (simp; omega) | (simp [*]; done)) (Run.mv rfl) rfl ?_
    refine Ops.clg rfl (by first | rfl | assumption | exact decide_eq_true (by assumption) | exact decide_eq_false (by assumption) | decide | (simp; done) | (simp; omega) | (simp [*]; done)) (Enters.fn (evs.cons rfl evs.nil) Try.call20) (ftell_spec F1 fd1 l1 _ hlc1 (by omega) (fun y hy => by have := hq1 y hy; omega) (ho1.rd.frm J13 (by simp))) rfl ?_
    rintro e w14 ⟨rfl, hf14⟩
    refine ⟨_, rfl, ?_⟩
    have J14 := J13.trans hf14 (by simp)
    refine Ops.rg rfl (by first | rfl | assumption | exact decide_eq_true (by assumption) | exact decide_eq_false (by assumption) | decide | (simp; done) | (simp; omega) | (simp [*]; done)) (Run.mv rfl) rfl ?_
    refine Ops.clg rfl (by first | rfl | assumption | exact decide_eq_true (by assumption) | exact decide_eq_false (by assumption) | decide | (simp; done) | (simp; omega) | (simp [*]; done)) (Enters.fn (evs.cons rfl evs.nil) Try.call21) (rtell_spec F1 fd1 l1 _ (by omega) (fun y hy => by have := hq1 y hy; omega) (ho1.rd.frm J14 (by simp))) rfl ?_
    rintro e _ ⟨rfl, rfl⟩
    refine ⟨_, rfl, ?_⟩
    refine Ops.rg rfl (by first | rfl | assumption | exact decide_eq_true (by assumption) | exact decide_eq_false (by assumption) | decide | (simp; done) | (simp; omega) | (simp [*]; done)) (Run.eqlT rfl rfl) rfl ?_
    refine Ops.r (Run.pickT rfl rfl (by first | rfl | assumption | (simp; done) | (simp [*]; done) | (simp; omega))) rfl ?_
    refine Ops.r (Run.mv rfl) rfl ?_
    refine Ops.clg rfl (by first | rfl | assumption | exact decide_eq_true (by assumption) | exact decide_eq_false (by assumption) | decide | (simp; done) | (simp; omega) | (simp [*]; done)) (Enters.fn evs.nil Try.call11) (awake24_spec _) rfl ?_
    rintro e w99 ⟨rfl, hf99⟩
    refine ⟨_, rfl, ?_⟩
    refine Ops.r (Run.pickT rfl rfl (by first | rfl | assumption | (simp; done) | (simp [*]; done) | (simp; omega))) rfl ?_
    refine Ops.r (Run.asg rfl) rfl ?_
    refine Ops.nil ?_
    refine thenQ_n ?_
    refine VC.sub [(4, _)] (.cons rfl .nil) ?_
    refine VC.ret ?_
    refine end1 rfl ?_
    exact ⟨rfl, (K1.trans J14 (by simp)).trans hf99 (by simp)⟩

end Go.Proofs.Ytndelocgmcilkaa
