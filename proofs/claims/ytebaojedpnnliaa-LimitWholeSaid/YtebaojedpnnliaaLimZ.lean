/-
  The walk of the law 'LimitWhole'.
-/
import Derived.Test.YtebaojedpnnliaaLimO
namespace Go.Proofs.Ytebaojedpnnliaa
open Go.RowKit

def comeT (a : List Int) (i : Nat) : Nat := sg (fun k => if 0 < a.getD k 0 then 1 else 0) i
theorem whole_all {a : List Int} {m : Int} {R : List Int} (h : LenRes a m R 0) : (∀ i, i < a.length → (R.getD i 0 = 0 ↔ a.getD i 0 = 0) ∧ 0 ≤ R.getD i 0 ∧ R.getD i 0 ≤ m) ∧ (chk R = 0 ∨ comeT a a.length < 2 ∧ chk R = 2) := by
  have hRo := res_okC h
  obtain ⟨m', own, rfl, h1, h2, hm, ho, hfit, rfl⟩ := lenRes_ok h
  obtain ⟨h3, h4⟩ := whole10 ho (by rw [List.length_map]; exact hm.1) h1 h2 hfit
  rw [List.length_map] at h3 h4
  have hap : ∀ i, 0 ≤ a.getD i 0 := fun i => by
    simp only [List.getD]
    cases e : a[i]? with
    | none => simp
    | some x => exact (hm.2 x (List.mem_of_getElem? e)).1
  have hg : ∀ i, ((lenP a.length m' own).map fun x : Nat => (x : Int)).getD i 0 = (((lenP a.length m' own).getD i 0 : Nat) : Int) := by
    intro i
    simp only [List.getD, List.getElem?_map]
    cases (lenP a.length m' own)[i]? <;> simp
  have hle : ∀ i, i < a.length → (lenP a.length m' own).getD i 0 ≤ m' := fun i hi => by
    have := (len_le ho h1 i (by rw [List.length_map]; exact hi)).1
    rwa [List.length_map] at this
  refine ⟨fun i hi => ?_, ?_⟩
  · rw [hg]
    have h5 := h3 i hi
    rw [getD_toNat] at h5
    have := hap i
    refine ⟨⟨fun h6 => ?_, fun h6 => ?_⟩, by omega, by have := hle i hi; omega⟩
    · have := h5.1 (by omega); omega
    · have := h5.2 (by omega); omega
  · have hgood : good ((lenP a.length m' own).map fun x : Nat => (x : Int)) := ⟨by rw [hRo.1]; exact hm.1, fun x hx => hRo.2.2 x (by rw [List.take_length]; exact hx)⟩
    have h5 := sumK_eq _ hgood.2
    have h6 := sumK_sg ((lenP a.length m' own).map fun x : Nat => (x : Int)) _ (Nat.le_refl _)
    rw [List.take_length, hRo.1] at h6
    have h7 : sg (fun k => if 0 < (((lenP a.length m' own).map fun x : Nat => (x : Int)).getD k 0).toNat then 2 ^ (15 - (((lenP a.length m' own).map fun x : Nat => (x : Int)).getD k 0).toNat) else 0) a.length = if 2 ≤ own.length then 32768 else own.length * 16384 := by
      rw [← h4]
      exact sg_congr _ (fun k _ => by rw [getD_cast])
    rw [h7] at h6
    have hcome : comeT a a.length = own.length := by
      have h8 := sum_own ho (fun _ => 1)
      have h9 : ∀ l : PL, (l.map fun _ => 1).sum = l.length := fun l => by
        induction l with
        | nil => rfl
        | cons a r ih => rw [List.map_cons, List.sum_cons, ih, List.length_cons]; omega
      rw [h9, List.length_map] at h8
      rw [h8]
      exact sg_congr _ (fun k _ => by
        rw [getD_toNat]
        by_cases h10 : 0 < a.getD k 0
        · rw [if_pos h10, if_pos (by omega)]
        · rw [if_neg h10, if_neg (by omega)])
    unfold chk
    rw [if_neg (by simpa using hgood), h5, h6, hcome]
    by_cases h8 : 2 ≤ own.length
    · left; rw [if_pos h8, if_neg (by omega), if_neg (by omega)]
    · right
      rw [if_neg h8, if_neg (by omega), if_pos (by omega)]
      exact ⟨by omega, rfl⟩
theorem comeT_le (a : List Int) : ∀ i, comeT a i ≤ i
  | 0 => Nat.le_refl _
  | i + 1 => by
    have := comeT_le a i
    unfold comeT at *
    rw [sg]
    split <;> omega

set_option maxRecDepth 100000 in
theorem whole_walk (A : Option Addr) (n c : Nat) (a : List Int) (m : Int) (w : World) (hn : a.length = n) (hc : n ≤ c) (ha : Rd w 1 A n (IB a)) :
    Calls Try.prog 11 #[.slice A n c, .int .i64 m] w fun e w' => e = .returned (.bool true) ∧ Frm [] w w' := by
  subst hn
  refine VC.calls (nt := 85) (res := #[.tmp 4]) Try.func11 rfl Try.ntmps11 Try.results11 rfl ?_
  refine VC.seq ?_
  refine VC.region ?_
  refine Ops.r (Run.asg rfl) rfl ?_
  refine Ops.nil ?_
  refine thenQ_n ?_
  refine VC.sub [(0, _), (1, _)] (.cons rfl (.cons rfl .nil)) ?_
  refine VC.seq ?_
  refine VC.region ?_
  refine Ops.r (Run.mv rfl) rfl ?_
  refine Ops.cl (Enters.fn (evs.cons rfl evs.nil) Try.call43) (few10_spec A c a _ hc ha) rfl ?_
  rintro e _ ⟨⟨A1, c1, rfl, ha1, hc1⟩, rfl⟩
  refine ⟨_, rfl, ?_⟩
  have hla := fewL_len a
  generalize fewL a = a at *
  refine Ops.r (Run.asg rfl) rfl ?_
  refine Ops.nil ?_
  refine thenQ_n ?_
  refine VC.sub [(0, _), (1, _)] (.cons rfl (.cons rfl .nil)) ?_
  refine VC.seq ?_
  refine VC.region ?_
  refine Ops.r (Run.mv rfl) rfl ?_
  refine Ops.r (Run.mv rfl) rfl ?_
  refine Ops.cl (Enters.fn (evs.cons rfl (evs.cons rfl evs.nil)) Try.call44) (lengths_spec A1 c1 a m _ (by omega) ha1) rfl ?_
  rintro e w3 ⟨hf3, he⟩
  obtain ⟨R, ev, B3, c3, rfl, hR, hr3, hRl⟩ := lenRes_of (w' := w3) (e := e) (by
    split at he
    · rename_i h; rw [if_pos h]; exact he
    · rename_i h
      rw [if_neg h]
      obtain ⟨own, ho, h2⟩ := he
      refine ⟨own, ho, ?_⟩
      split at h2
      · rename_i h3; rw [if_pos h3]; exact h2
      · rename_i h3; rw [if_neg h3]; obtain ⟨B, c, h4, h5, _⟩ := h2; exact ⟨B, c, h4, h5⟩)
  refine ⟨_, rfl, ?_⟩
  have hRz : ev ≠ 0 → R.length = 0 := by
    intro h
    rcases hR with ⟨_, rfl, _⟩ | ⟨_, own, _, h2⟩
    · rfl
    · rcases h2 with ⟨_, rfl, _⟩ | ⟨_, _, h3⟩
      · rfl
      · exact absurd h3 h
  have ha3 := ha1.belowW hf3.below
  refine Ops.r (Run.mv rfl) rfl ?_
  refine Ops.r (Run.extract rfl rfl) rfl ?_
  refine Ops.r (Run.extract rfl rfl) rfl ?_
  refine Ops.r (Run.asg rfl) rfl ?_
  refine Ops.r (Run.asg rfl) rfl ?_
  refine Ops.nil ?_
  refine thenQ_n ?_
  refine VC.sub [(0, _), (1, _), (5, _), (6, _)] (.cons rfl (.cons rfl (.cons rfl (.cons rfl .nil)))) ?_
  refine VC.seq ?_
  refine VC.seq ?_
  refine VC.region ?_
  refine Ops.r (Run.mv rfl) rfl ?_
  refine Ops.r (Run.bin rfl rfl (Bin.neqN _ 0)) rfl ?_
  refine Ops.nil ?_
  refine thenQ_n ?_
  refine VC.sub [(0, _), (1, _), (5, _), (19, _)] (.cons rfl (.cons rfl (.cons rfl (.cons rfl .nil)))) ?_
  refine VC.condD rfl (fun hc1 => ?_) (fun hc1 => ?_)
  · skip
    have hR0 := hRz hc1
    refine VC.seq ?_
    refine VC.region ?_
    refine Ops.r (Run.mv rfl) rfl ?_
    refine Ops.r (Run.lenS rfl Try.underlying54) rfl ?_
    refine Ops.r (Run.bin rfl rfl (Bin.eqlN _ 0)) rfl ?_
    refine Ops.r (Run.mv rfl) rfl ?_
    refine Ops.clg rfl (decide_eq_true hR0) (Enters.fn evs.nil Try.call47) (awake10_spec _) rfl ?_
    rintro e w8 ⟨rfl, hf8⟩
    refine ⟨_, rfl, ?_⟩
    refine Ops.r (Run.pickT rfl rfl (by first | rfl | assumption | exact decide_eq_true (by assumption) | exact decide_eq_false (by assumption) | decide | (simp; done) | (simp; omega) | (simp [*]; done))) rfl ?_
    refine Ops.r (Run.asg rfl) rfl ?_
    refine Ops.nil ?_
    refine thenQ_n ?_
    refine VC.sub [(4, _)] (.cons rfl .nil) ?_
    refine VC.ret ?_
    refine thenQ_r (end1 rfl ?_)
    exact ⟨rfl, hf3.own hf8 (by simp)⟩
  · skip
    have hev : ev = 0 := Classical.not_not.1 hc1
    subst hev
    have hRo := res_okC hR
    obtain ⟨hwh, hch⟩ := whole_all hR
    refine VC.skip ?_
    refine thenQ_n ?_
    refine VC.sub [(0, _), (1, _), (5, _)] (.cons rfl (.cons rfl (.cons rfl .nil))) ?_
    refine VC.seq ?_
    refine VC.seq ?_
    refine VC.region ?_
    refine Ops.r (Run.mv rfl) rfl ?_
    refine Ops.r (Run.lenS rfl Try.underlying54) rfl ?_
    refine Ops.r (Run.mv rfl) rfl ?_
    refine Ops.r (Run.lenS rfl Try.underlying54) rfl ?_
    refine Ops.r (Run.bin rfl rfl (Bin.neqN _ _)) rfl ?_
    refine Ops.nil ?_
    refine thenQ_n ?_
    refine VC.sub [(0, _), (1, _), (5, _), (30, _)] (.cons rfl (.cons rfl (.cons rfl (.cons rfl .nil)))) ?_
    refine VC.condF rfl (decide_eq_false (fun h => h hRo.1)) ?_
    refine VC.skip ?_
    refine thenQ_n ?_
    refine VC.sub [(0, _), (1, _), (5, _)] (.cons rfl (.cons rfl (.cons rfl .nil))) ?_
    refine VC.seq ?_
    refine VC.region ?_
    refine Ops.r (v := .int .i64 ((0 : Nat) : Int)) (Run.asg rfl) rfl ?_
    refine Ops.nil ?_
    refine thenQ_n ?_
    refine VC.seq ?_
    refine VC.seq ?_
    refine VC.region ?_
    refine Ops.r (v := .int .i64 ((0 : Nat) : Int)) (Run.asg rfl) rfl ?_
    refine Ops.nil ?_
    refine thenQ_n ?_
    refine VC.block ?_
    refine VC.loop (σ := Nat) (fun s => [(0, .slice A1 a.length c1), (1, .int .i64 m), (5, .slice B3 R.length c3), (7, .int .i64 ((comeT a s : Nat) : Int)), (8, .int .i64 ((s : Nat) : Int))]) (fun s wr => s ≤ R.length ∧ Drawn w3 wr) (fun s => R.length - s) 0 (.cons rfl (.cons rfl (.cons rfl (.cons rfl (.cons rfl .nil))))) ⟨by omega, Drawn.refl _⟩ ?_
    rintro i wr ⟨hi, hd⟩
    have hd2 := hd.trans (Drawn.drew wr)
    have hcl := comeT_le a i
    refine VC.seq ?_
    refine VC.seq ?_
    refine VC.region ?_
    refine Ops.r (Run.mv rfl) rfl ?_
    refine Ops.r (Run.mv rfl) rfl ?_
    refine Ops.r (Run.lenS rfl Try.underlying54) rfl ?_
    refine Ops.r (Run.bin rfl rfl (Bin.lssN _ _)) rfl ?_
    refine Ops.nil ?_
    refine thenQ_n ?_
    refine VC.sub [(0, _), (1, _), (5, _), (7, _), (8, _), (34, _)] (.cons rfl (.cons rfl (.cons rfl (.cons rfl (.cons rfl (.cons rfl .nil)))))) ?_
    refine VC.condD rfl (fun hc3 => ?_) (fun hc3 => ?_)
    · skip
      have hia : i < a.length := by omega
      obtain ⟨ad, rfl, hcell⟩ := IB_at (hr3.drawn hd2) hc3
      obtain ⟨ad2, rfl, hcell2⟩ := IB_at (ha3.drawn hd2) hia
      have hcellB : wr.cell? (ad2.add i) = some (.int .i64 a[i]) := by obtain ⟨ad3, h5, h6⟩ := IB_at (ha3.drawn hd) hia; obtain rfl : ad2 = ad3 := (by injection h5); exact h6
      have hcs : comeT a (i + 1) = comeT a i + if 0 < a[i] then 1 else 0 := by unfold comeT; rw [sg, getD_eq a i hia]
      obtain ⟨hiff, hr0, hrm⟩ := hwh i hia
      rw [getD_eq a i hia, getD_eq R i hc3] at hiff
      rw [getD_eq R i hc3] at hr0 hrm
      have hr0' : ¬ R[i] < 0 := by omega
      have hrm' : ¬ m < R[i] := by omega
      generalize R[i] = r at *
      generalize a[i] = y at *
      refine VC.skip ?_
      refine thenQ_n ?_
      refine VC.sub [(0, _), (1, _), (5, _), (7, _), (8, _)] (.cons rfl (.cons rfl (.cons rfl (.cons rfl (.cons rfl .nil))))) ?_
      refine VC.seq ?_
      refine VC.block ?_
      refine VC.seq ?_
      refine VC.seq ?_
      refine VC.splitR [(0, .slice (some ad2) a.length c1), (1, .int .i64 m), (5, .slice (some ad) R.length c3), (7, .int .i64 ((comeT a i : Nat) : Int)), (8, .int .i64 ((i : Nat) : Int))] (fun w1 => w1 = wr.drew) 62 (.bool (decide (False))) ?_ ?_
      · refine VC.still (by kernel_rfl) (by kernel_rfl) ?_
        refine SOps.r (Run.mv rfl) rfl ?_
        refine SOps.r (Run.mv rfl) rfl ?_
        refine SOps.r (Run.index1 _ rfl rfl Try.underlying54 Try.sizeOf3 (by omega)) rfl ?_
        refine SOps.r (Run.load rfl Try.isAgg3 hcell) rfl ?_
        refine SOps.r (Run.bin rfl rfl (Bin.eql _ 0)) rfl ?_
        refine SOps.r (Run.mv rfl) rfl ?_
        refine SOps.r (Run.mv rfl) rfl ?_
        refine SOps.r (Run.index1 _ rfl rfl Try.underlying54 Try.sizeOf3 (by omega)) rfl ?_
        refine SOps.r (Run.load rfl Try.isAgg3 hcell2) rfl ?_
        refine SOps.r (Run.bin rfl rfl (Bin.eql _ 0)) rfl ?_
        refine SOps.r (Run.neqB rfl rfl Try.underlying4) rfl ?_
        refine SOps.r (Run.mv rfl) rfl ?_
        refine SOps.rg rfl (by first | rfl | assumption | exact decide_eq_true (by assumption) | exact decide_eq_false (by assumption) | decide | (simp; done) | (simp; omega) | (simp [*]; done)) (Run.mv rfl) rfl ?_
        refine SOps.rg rfl (by first | rfl | assumption | exact decide_eq_true (by assumption) | exact decide_eq_false (by assumption) | decide | (simp; done) | (simp; omega) | (simp [*]; done)) (Run.mv rfl) rfl ?_
        refine SOps.rg rfl (by first | rfl | assumption | exact decide_eq_true (by assumption) | exact decide_eq_false (by assumption) | decide | (simp; done) | (simp; omega) | (simp [*]; done)) (Run.index1 _ rfl rfl Try.underlying54 Try.sizeOf3 (by omega)) rfl ?_
        refine SOps.rg rfl (by first | rfl | assumption | exact decide_eq_true (by assumption) | exact decide_eq_false (by assumption) | decide | (simp; done) | (simp; omega) | (simp [*]; done)) (Run.load rfl Try.isAgg3 hcell) rfl ?_
        refine SOps.rg rfl (by first | rfl | assumption | exact decide_eq_true (by assumption) | exact decide_eq_false (by assumption) | decide | (simp; done) | (simp; omega) | (simp [*]; done)) (Run.bin rfl rfl (Bin.lss _ 0)) rfl ?_
        refine SOps.r (Run.pickF rfl rfl (by first | rfl | assumption | exact decide_eq_true (by assumption) | exact decide_eq_false (by assumption) | decide | (simp; done) | (simp; omega) | (simp [*]; done))) rfl ?_
        refine SOps.r (Run.mv rfl) rfl ?_
        refine SOps.rg rfl (by first | rfl | assumption | exact decide_eq_true (by assumption) | exact decide_eq_false (by assumption) | decide | (simp; done) | (simp; omega) | (simp [*]; done)) (Run.mv rfl) rfl ?_
        refine SOps.rg rfl (by first | rfl | assumption | exact decide_eq_true (by assumption) | exact decide_eq_false (by assumption) | decide | (simp; done) | (simp; omega) | (simp [*]; done)) (Run.mv rfl) rfl ?_
        refine SOps.rg rfl (by first | rfl | assumption | exact decide_eq_true (by assumption) | exact decide_eq_false (by assumption) | decide | (simp; done) | (simp; omega) | (simp [*]; done)) (Run.index1 _ rfl rfl Try.underlying54 Try.sizeOf3 (by omega)) rfl ?_
        refine SOps.rg rfl (by first | rfl | assumption | exact decide_eq_true (by assumption) | exact decide_eq_false (by assumption) | decide | (simp; done) | (simp; omega) | (simp [*]; done)) (Run.load rfl Try.isAgg3 hcell) rfl ?_
        refine SOps.rg rfl (by first | rfl | assumption | exact decide_eq_true (by assumption) | exact decide_eq_false (by assumption) | decide | (simp; done) | (simp; omega) | (simp [*]; done)) (Run.mv rfl) rfl ?_
        refine SOps.rg rfl (by first | rfl | assumption | exact decide_eq_true (by assumption) | exact decide_eq_false (by assumption) | decide | (simp; done) | (simp; omega) | (simp [*]; done)) (Run.bin rfl rfl (Bin.gtr _ _)) rfl ?_
        refine SOps.r (Run.pickF rfl rfl (by first | rfl | assumption | exact decide_eq_true (by assumption) | exact decide_eq_false (by assumption) | decide | (simp; done) | (simp; omega) | (simp [*]; done))) rfl ?_
        refine SOps.nil ?_
        refine thenQ_n ⟨(.cons (congrArg (fun b => some (Value.bool b)) (by simp; omega)) (.cons rfl (.cons rfl (.cons rfl (.cons rfl (.cons rfl .nil)))))), (rfl)⟩
      · intro Γ w9 hΓ hw9
        refine thenQ_n (VC.sub _ hΓ ?_)
        refine VC.condF rfl (rfl) ?_
        refine VC.skip ?_
        refine thenQ_n ?_
        refine VC.sub [(0, _), (1, _), (5, _), (7, _), (8, _)] (.cons rfl (.cons rfl (.cons rfl (.cons rfl (.cons rfl .nil))))) ?_
        refine VC.seq ?_
        refine VC.region ?_
        refine Ops.r (Run.mv rfl) rfl ?_
        refine Ops.r (Run.mv rfl) rfl ?_
        refine Ops.r (Run.index1 _ rfl rfl Try.underlying54 Try.sizeOf3 (by omega)) rfl ?_
        refine Ops.r (Run.load rfl Try.isAgg3 (hw9 ▸ hcell2)) rfl ?_
        refine Ops.r (Run.bin rfl rfl (Bin.gtr _ 0)) rfl ?_
        refine Ops.nil ?_
        refine thenQ_n ?_
        refine VC.sub [(0, _), (1, _), (5, _), (7, _), (8, _), (67, _)] (.cons rfl (.cons rfl (.cons rfl (.cons rfl (.cons rfl (.cons rfl .nil)))))) ?_
        refine VC.condD rfl (fun hc5 => ?_) (fun hc5 => ?_)
        · skip
          rw [if_pos hc5] at hcs
          refine VC.region ?_
          refine Ops.r (Run.mv rfl) rfl ?_
          refine Ops.r (Run.bin rfl rfl (Bin.add_i64 _ 1 (by omega))) rfl ?_
          refine Ops.r (Run.asg rfl) rfl ?_
          refine Ops.nil ?_
          refine blockQ_n (thenQ_n ?_)
          refine VC.sub [(0, _), (1, _), (5, _), (7, _), (8, _)] (.cons rfl (.cons rfl (.cons rfl (.cons rfl (.cons rfl .nil))))) ?_
          refine VC.region ?_
          refine Ops.r (Run.mv rfl) rfl ?_
          refine Ops.r (Run.bin rfl rfl (Bin.add_i64 _ 1 (by omega))) rfl ?_
          refine Ops.r (Run.asg rfl) rfl ?_
          refine Ops.nil ?_
          refine thenQ_n ⟨(i + 1), (.cons rfl (.cons rfl (.cons rfl (.cons (by rw [hcs]; rfl) (.cons rfl .nil))))), ?_, ?_⟩
          · skip
            exact ⟨hc3, hw9 ▸ hd2⟩
          · skip
            first | omega | (dsimp only; omega)
        · skip
          rw [if_neg hc5] at hcs
          refine VC.skip ?_
          refine blockQ_n (thenQ_n ?_)
          refine VC.sub [(0, _), (1, _), (5, _), (7, _), (8, _)] (.cons rfl (.cons rfl (.cons rfl (.cons rfl (.cons rfl .nil))))) ?_
          refine VC.region ?_
          refine Ops.r (Run.mv rfl) rfl ?_
          refine Ops.r (Run.bin rfl rfl (Bin.add_i64 _ 1 (by omega))) rfl ?_
          refine Ops.r (Run.asg rfl) rfl ?_
          refine Ops.nil ?_
          refine thenQ_n ⟨(i + 1), (.cons rfl (.cons rfl (.cons rfl (.cons (by rw [hcs]; rfl) (.cons rfl .nil))))), ?_, ?_⟩
          · skip
            exact ⟨hc3, hw9 ▸ hd2⟩
          · skip
            first | omega | (dsimp only; omega)
    · skip
      have hil : i = a.length := by omega
      subst hil
      refine VC.exit ?_
      refine thenQ_x (thenQ_x (blockQ_x ?_))
      refine thenQ_n ?_
      refine VC.sub [(5, _), (7, _)] (.cons rfl (.cons rfl .nil)) ?_
      refine VC.seq ?_
      refine VC.region ?_
      refine Ops.r (Run.mv rfl) rfl ?_
      refine Ops.cl (Enters.fn (evs.cons rfl evs.nil) Try.call34) (refCheck_spec B3 c3 R _ (by omega) (hr3.drawn hd)) rfl ?_
      rintro e _ ⟨rfl, rfl⟩
      refine ⟨_, rfl, ?_⟩
      have hfr := hf3.drawn hd
      refine Ops.r (Run.asg rfl) rfl ?_
      refine Ops.nil ?_
      refine thenQ_n ?_
      refine VC.sub [(7, _), (9, _)] (.cons rfl (.cons rfl .nil)) ?_
      refine VC.seq ?_
      refine VC.splitR [] (fun w1 => Frm [] w w1) 4 (.bool (decide (True))) ?_ ?_
      · refine VC.region ?_
        refine Ops.r (Run.mv rfl) rfl ?_
        refine Ops.r (Run.bin rfl rfl (Bin.eqlN _ 0)) rfl ?_
        by_cases hs73 : chk R = 0
        · skip
          refine Ops.r (Run.mv rfl) rfl ?_
          refine Ops.sk rfl (by first | rfl | assumption | exact decide_eq_true (by assumption) | exact decide_eq_false (by assumption) | decide | (simp; done) | (simp; omega) | (simp [*]; done)) rfl ?_
          refine Ops.sk rfl (by first | rfl | assumption | exact decide_eq_true (by assumption) | exact decide_eq_false (by assumption) | decide | (simp; done) | (simp; omega) | (simp [*]; done)) rfl ?_
          refine Ops.sk rfl (by first | rfl | assumption | exact decide_eq_true (by assumption) | exact decide_eq_false (by assumption) | decide | (simp; done) | (simp; omega) | (simp [*]; done)) rfl ?_
          refine Ops.skU rfl rfl ?_
          refine Ops.skU rfl rfl ?_
          refine Ops.sk rfl (by first | rfl | assumption | exact decide_eq_true (by assumption) | exact decide_eq_false (by assumption) | decide | (simp; done) | (simp; omega) | (simp [*]; done)) rfl ?_
          refine Ops.r (Run.pickT rfl rfl (by first | rfl | assumption | exact decide_eq_true (by assumption) | exact decide_eq_false (by assumption) | decide | (simp; done) | (simp; omega) | (simp [*]; done))) rfl ?_
          refine Ops.r (Run.mv rfl) rfl ?_
          refine Ops.clg rfl (by first | rfl | assumption | exact decide_eq_true (by assumption) | exact decide_eq_false (by assumption) | decide | (simp; done) | (simp; omega) | (simp [*]; done)) (Enters.fn evs.nil Try.call47) (awake10_spec _) rfl ?_
          rintro e w8 ⟨rfl, hf8⟩
          refine ⟨_, rfl, ?_⟩
          refine Ops.r (Run.pickT rfl rfl (by first | rfl | assumption | exact decide_eq_true (by assumption) | exact decide_eq_false (by assumption) | decide | (simp; done) | (simp; omega) | (simp [*]; done))) rfl ?_
          refine Ops.r (Run.asg rfl) rfl ?_
          refine Ops.nil ?_
          refine thenQ_n ⟨(.cons (congrArg (fun b => some (Value.bool b)) (by simp)) .nil), (hfr.own hf8 (by simp))⟩
        · skip
          obtain ⟨hcm, hch2⟩ := hch.resolve_left hs73
          refine Ops.r (Run.mv rfl) rfl ?_
          refine Ops.rg rfl (by first | rfl | assumption | exact decide_eq_true (by assumption) | exact decide_eq_false (by assumption) | decide | (simp; done) | (simp; omega) | (simp [*]; done)) (Run.mv rfl) rfl ?_
          refine Ops.rg rfl (by first | rfl | assumption | exact decide_eq_true (by assumption) | exact decide_eq_false (by assumption) | decide | (simp; done) | (simp; omega) | (simp [*]; done)) (Run.bin rfl rfl (Bin.lssN _ 2)) rfl ?_
          refine Ops.rg rfl (by first | rfl | assumption | exact decide_eq_true (by assumption) | exact decide_eq_false (by assumption) | decide | (simp; done) | (simp; omega) | (simp [*]; done)) (Run.mv rfl) rfl ?_
          refine Ops.rg rfl (by first | rfl | assumption | exact decide_eq_true (by assumption) | exact decide_eq_false (by assumption) | decide | (simp; done) | (simp; omega) | (simp [*]; done)) (Run.mv rfl) rfl ?_
          refine Ops.rg rfl (by first | rfl | assumption | exact decide_eq_true (by assumption) | exact decide_eq_false (by assumption) | decide | (simp; done) | (simp; omega) | (simp [*]; done)) (Run.bin rfl rfl (Bin.eqlN _ 2)) rfl ?_
          refine Ops.rg rfl (by first | rfl | assumption | exact decide_eq_true (by assumption) | exact decide_eq_false (by assumption) | decide | (simp; done) | (simp; omega) | (simp [*]; done)) (Run.pickT rfl rfl (by first | rfl | assumption | exact decide_eq_true (by assumption) | exact decide_eq_false (by assumption) | decide | (simp; done) | (simp; omega) | (simp [*]; done))) rfl ?_
          refine Ops.r (Run.pickF rfl rfl (by first | rfl | assumption | exact decide_eq_true (by assumption) | exact decide_eq_false (by assumption) | decide | (simp; done) | (simp; omega) | (simp [*]; done))) rfl ?_
          refine Ops.r (Run.mv rfl) rfl ?_
          refine Ops.clg rfl (by first | rfl | assumption | exact decide_eq_true (by assumption) | exact decide_eq_false (by assumption) | decide | (simp; done) | (simp; omega) | (simp [*]; done)) (Enters.fn evs.nil Try.call47) (awake10_spec _) rfl ?_
          rintro e w8 ⟨rfl, hf8⟩
          refine ⟨_, rfl, ?_⟩
          refine Ops.r (Run.pickT rfl rfl (by first | rfl | assumption | exact decide_eq_true (by assumption) | exact decide_eq_false (by assumption) | decide | (simp; done) | (simp; omega) | (simp [*]; done))) rfl ?_
          refine Ops.r (Run.asg rfl) rfl ?_
          refine Ops.nil ?_
          refine thenQ_n ⟨(.cons (congrArg (fun b => some (Value.bool b)) (by simp)) .nil), (hfr.own hf8 (by simp))⟩
      · intro Γ w9 hΓ hf9
        refine thenQ_n (VC.sub _ hΓ ?_)
        refine VC.ret ?_
        refine end1 rfl ?_
        exact ⟨by simp, hf9⟩

end Go.Proofs.Ytebaojedpnnliaa
