/-
  The answers of layer 19: texts.
-/
import Derived.Test.YtenbjndldenkfaaGreatDoorParP
namespace Go.Proofs.YtenbjndldenkfaaGreatDoor
open Go.RowKit Go.Sort

theorem spc_nat (c : UInt8) : c ∈ spcQ ↔ (c.toNat = 40 ∨ c.toNat = 41 ∨ c.toNat = 60 ∨ c.toNat = 62 ∨ c.toNat = 64 ∨ c.toNat = 44 ∨ c.toNat = 59 ∨ c.toNat = 58 ∨ c.toNat = 92 ∨ c.toNat = 34 ∨ c.toNat = 47 ∨ c.toNat = 91 ∨ c.toNat = 93 ∨ c.toNat = 63 ∨ c.toNat = 61) := by
  unfold spcQ
  simp only [List.mem_cons, List.not_mem_nil, or_false, ← UInt8.toNat_inj]
  exact Iff.rfl
def hdB : Tx → Bool
  | [] => false
  | x :: _ => decide (Bl x)
def hdN : Tx → Bool
  | [] => false
  | x :: _ => decide (¬ Bl x)
theorem bl_nat (c : UInt8) : Bl c ↔ (c.toNat = 32 ∨ c.toNat = 9) := by
  show (c = 32 ∨ c = 9) ↔ _
  rw [← UInt8.toNat_inj, ← UInt8.toNat_inj]
  exact Iff.rfl
theorem drop_cons {α : Type} {s : List α} {i : Nat} (h : i < s.length) : s.drop i = s[i] :: s.drop (i + 1) := by rw [List.drop_eq_getElem_cons h]
theorem take_one {α : Type} {s : List α} {i : Nat} (h : i < s.length) : (s.drop i).take (i + 1 - i) = [s[i]] := by rw [drop_cons h, show i + 1 - i = 1 by omega]; rfl
theorem take_snoc {α : Type} {s : List α} {i : Nat} (h : i < s.length) : s.take (i + 1) = s.take i ++ [s[i]] := by rw [List.take_add_one, List.getElem?_eq_getElem h]; rfl
theorem set_last {α : Type} (a : List α) (b v : α) : (a ++ [b]).set a.length v = a ++ [v] := by simp
theorem hrdT {w w' : World} {t : TypeId} {q : Tx} (h : Fresh w w' t #[encStr q]) : Rd w' 1 (some ⟨w.heap.size, 0, none⟩) 1 (SB [q]) := Rd.of_blk (n := 1) (size := 1) h.blk rfl
theorem last_cell {w : World} {ad : Addr} {a : List Tx} {b : Tx} {d : Nat} (h : Own w 9 1 (some ad) (a ++ [b]).length d (SB (a ++ [b]))) : w.cell? (ad.add ((a ++ [b]).length - 1)) = some (encStr b) := by
  obtain ⟨ad', h1, h2⟩ := SB_at h.rd (show (a ++ [b]).length - 1 < (a ++ [b]).length by simp)
  cases h1
  rw [h2]
  simp
theorem idxB_app {c : UInt8} : ∀ {a b : Tx}, c ∉ a → Lib.indexByte (a ++ c :: b) c = ((a.length : Nat) : Int)
  | a, b, h => by
    rcases idxB_cases (a ++ c :: b) c with ⟨_, h2⟩ | ⟨a2, b2, h1, h2, h3⟩
    · exact absurd (by simp) h2
    · rw [h3]
      have e1 := (bef_at (b := b) h).1
      rw [h1, (bef_at (b := b2) h2).1] at e1
      rw [e1]

set_option maxRecDepth 100000 in
theorem rtoken_spec (q : Tx) (w : World) (hq : q.length ≤ 1000000) : Calls Tryz.prog 49 #[encStr q] w fun e w' => e = .returned (.bool (decide (TokQ q))) ∧ w = w' := by
  refine VC.calls (nt := 40) (res := #[.tmp 2]) Tryz.func49 rfl Tryz.ntmps49 Tryz.results49 rfl ?_
  refine VC.seq ?_
  refine VC.region ?_
  refine Ops.r (Run.asg rfl) rfl ?_
  refine Ops.nil ?_
  refine thenQ_n ?_
  refine VC.sub [(0, _)] (.cons rfl .nil) ?_
  refine VC.seq ?_
  refine VC.seq ?_
  refine VC.region ?_
  refine Ops.r (v := .int .i64 ((0 : Nat) : Int)) (Run.asg rfl) rfl ?_
  refine Ops.nil ?_
  refine thenQ_n ?_
  refine VC.block ?_
  refine VC.loop (σ := Nat) (fun s => [(0, encStr q), (3, .int .i64 ((s : Nat) : Int))]) (fun s wr => s ≤ q.length ∧ (∀ c ∈ q.take s, TokC c) ∧ w = wr) (fun s => q.length - s) 0 (.cons rfl (.cons rfl .nil)) ⟨by omega, by simp, rfl⟩ ?_
  rintro i _ ⟨hi, hd, rfl⟩
  refine VC.seq ?_
  refine VC.seq ?_
  refine VC.region ?_
  refine Ops.r (Run.mv rfl) rfl ?_
  refine Ops.r (Run.mv rfl) rfl ?_
  refine Ops.r (Run.lenT rfl Tryz.underlying9) rfl ?_
  refine Ops.r (Run.bin rfl rfl (Bin.lssN _ _)) rfl ?_
  refine Ops.nil ?_
  refine thenQ_n ?_
  refine VC.sub [(0, _), (3, _), (8, _)] (.cons rfl (.cons rfl (.cons rfl .nil))) ?_
  refine VC.condD rfl (fun hc1 => ?_) (fun hc1 => ?_)
  · skip
    have hts := take_snoc hc1
    have hxm : q[i] ∈ q := List.getElem_mem hc1
    have hgx : q[i]? = some q[i] := List.getElem?_eq_getElem hc1
    generalize hx : q[i] = x at *
    have hsp := spc_nat x
    have htc : TokC x ↔ (33 ≤ x.toNat ∧ x.toNat ≤ 126 ∧ x ∉ spcQ) := Iff.rfl
    refine VC.skip ?_
    refine thenQ_n ?_
    refine VC.sub [(0, _), (3, _)] (.cons rfl (.cons rfl .nil)) ?_
    refine VC.seq ?_
    refine VC.block ?_
    refine VC.seq ?_
    refine VC.region ?_
    refine Ops.r (Run.mv rfl) rfl ?_
    refine Ops.r (Run.mv rfl) rfl ?_
    refine Ops.r (Run.indexT _ rfl rfl Tryz.underlying9 hgx) rfl ?_
    refine Ops.r (Run.asg rfl) rfl ?_
    refine Ops.nil ?_
    refine thenQ_n ?_
    refine VC.sub [(0, _), (3, _), (4, _)] (.cons rfl (.cons rfl (.cons rfl .nil))) ?_
    refine VC.seq ?_
    refine VC.seq ?_
    refine VC.split1 [(0, _), (3, _), (4, _)] (.cons rfl (.cons rfl (.cons rfl .nil))) 19 (.bool (decide ((x.toNat ≤ 32) ∨ (127 ≤ x.toNat)))) ?_ ?_
    · by_cases hs0 : x.toNat ≤ 32
      · skip
        refine VC.region ?_
        refine Ops.r (Run.mv rfl) rfl ?_
        refine Ops.r (Run.bin rfl rfl (Bin.leqN _ 32)) rfl ?_
        refine Ops.r (Run.mv rfl) rfl ?_
        refine Ops.sk rfl (by first | rfl | assumption | exact decide_eq_true (by assumption) | exact decide_eq_false (by assumption) | decide | (simp; done) | (simp; omega) | (simp [*]; done)) rfl ?_
        refine Ops.sk rfl (by first | rfl | assumption | exact decide_eq_true (by assumption) | exact decide_eq_false (by assumption) | decide | (simp; done) | (simp; omega) | (simp [*]; done)) rfl ?_
        refine Ops.r (Run.pickT rfl rfl (by first | rfl | assumption | exact decide_eq_true (by assumption) | exact decide_eq_false (by assumption) | decide | (simp; done) | (simp; omega) | (simp [*]; done))) rfl ?_
        refine Ops.nil ?_
        refine thenQ_n ⟨(.cons (by rw [dor1 hs0]; rfl) (.cons rfl (.cons rfl (.cons rfl .nil)))), rfl⟩
      · skip
        refine VC.region ?_
        refine Ops.r (Run.mv rfl) rfl ?_
        refine Ops.r (Run.bin rfl rfl (Bin.leqN _ 32)) rfl ?_
        refine Ops.r (Run.mv rfl) rfl ?_
        refine Ops.rg rfl (by first | rfl | assumption | exact decide_eq_true (by assumption) | exact decide_eq_false (by assumption) | decide | (simp; done) | (simp; omega) | (simp [*]; done)) (Run.mv rfl) rfl ?_
        refine Ops.rg rfl (by first | rfl | assumption | exact decide_eq_true (by assumption) | exact decide_eq_false (by assumption) | decide | (simp; done) | (simp; omega) | (simp [*]; done)) (Run.bin rfl rfl (Bin.geqN _ 127)) rfl ?_
        refine Ops.r (Run.pickF rfl rfl (by first | rfl | assumption | exact decide_eq_true (by assumption) | exact decide_eq_false (by assumption) | decide | (simp; done) | (simp; omega) | (simp [*]; done))) rfl ?_
        refine Ops.nil ?_
        refine thenQ_n ⟨(.cons (by rw [dor0 hs0]; rfl) (.cons rfl (.cons rfl (.cons rfl .nil)))), rfl⟩
    · intro Γ hΓ
      refine thenQ_n (VC.sub _ hΓ ?_)
      refine VC.condD rfl (fun hc2 => ?_) (fun hc2 => ?_)
      · skip
        refine VC.seq ?_
        refine VC.region ?_
        refine Ops.r (Run.asg rfl) rfl ?_
        refine Ops.nil ?_
        refine thenQ_n ?_
        refine VC.sub [(2, _)] (.cons rfl .nil) ?_
        refine VC.ret ?_
        refine thenQ_r (blockQ_r (thenQ_r (thenQ_r (blockQ_r (thenQ_r (end1 rfl ?_))))))
        exact ⟨by rw [decide_eq_false (fun h => by have := htc.1 (h.2 x hxm); omega)], rfl⟩
      · skip
        refine VC.skip ?_
        refine thenQ_n ?_
        refine VC.sub [(0, _), (3, _), (4, _)] (.cons rfl (.cons rfl (.cons rfl .nil))) ?_
        refine VC.seq ?_
        refine VC.region ?_
        refine Ops.r (Run.mv rfl) rfl ?_
        refine Ops.nil ?_
        refine thenQ_n ?_
        refine VC.sub [(0, _), (3, _), (20, _)] (.cons rfl (.cons rfl (.cons rfl .nil))) ?_
        refine VC.block ?_
        refine VC.seq ?_
        refine VC.seq ?_
        refine VC.region ?_
        refine Ops.r (Run.bin rfl rfl (Bin.eqlN _ 40)) rfl ?_
        refine Ops.r (Run.asg rfl) rfl ?_
        refine Ops.nil ?_
        refine thenQ_n ?_
        refine VC.sub [(0, _), (3, _), (20, _), (21, _)] (.cons rfl (.cons rfl (.cons rfl (.cons rfl .nil)))) ?_
        refine VC.meet (σ := Unit) (fun s => [(0, encStr q), (3, .int .i64 ((i : Nat) : Int)), (21, .bool (decide (x ∈ spcQ)))]) (fun s wr => w = wr) ?_ ?_
        · skip
          refine VC.condD rfl (fun hc3 => ?_) (fun hc3 => ?_)
          · skip
            refine VC.skip ?_
            refine thenQ_n ⟨(), (.cons rfl (.cons rfl (.cons (congrArg (fun b => some (Value.bool b)) (decide_eq_decide.2 (by rw [hsp]; omega))) .nil))), ?_⟩
            rfl
          · skip
            refine VC.seq ?_
            refine VC.region ?_
            refine Ops.r (Run.bin rfl rfl (Bin.eqlN _ 41)) rfl ?_
            refine Ops.r (Run.asg rfl) rfl ?_
            refine Ops.nil ?_
            refine thenQ_n ?_
            refine VC.sub [(0, _), (3, _), (20, _), (21, _)] (.cons rfl (.cons rfl (.cons rfl (.cons rfl .nil)))) ?_
            refine VC.condD rfl (fun hc4 => ?_) (fun hc4 => ?_)
            · skip
              refine VC.skip ?_
              refine thenQ_n ⟨(), (.cons rfl (.cons rfl (.cons (congrArg (fun b => some (Value.bool b)) (decide_eq_decide.2 (by rw [hsp]; omega))) .nil))), ?_⟩
              rfl
            · skip
              refine VC.seq ?_
              refine VC.region ?_
              refine Ops.r (Run.bin rfl rfl (Bin.eqlN _ 60)) rfl ?_
              refine Ops.r (Run.asg rfl) rfl ?_
              refine Ops.nil ?_
              refine thenQ_n ?_
              refine VC.sub [(0, _), (3, _), (20, _), (21, _)] (.cons rfl (.cons rfl (.cons rfl (.cons rfl .nil)))) ?_
              refine VC.condD rfl (fun hc5 => ?_) (fun hc5 => ?_)
              · skip
                refine VC.skip ?_
                refine thenQ_n ⟨(), (.cons rfl (.cons rfl (.cons (congrArg (fun b => some (Value.bool b)) (decide_eq_decide.2 (by rw [hsp]; omega))) .nil))), ?_⟩
                rfl
              · skip
                refine VC.seq ?_
                refine VC.region ?_
                refine Ops.r (Run.bin rfl rfl (Bin.eqlN _ 62)) rfl ?_
                refine Ops.r (Run.asg rfl) rfl ?_
                refine Ops.nil ?_
                refine thenQ_n ?_
                refine VC.sub [(0, _), (3, _), (20, _), (21, _)] (.cons rfl (.cons rfl (.cons rfl (.cons rfl .nil)))) ?_
                refine VC.condD rfl (fun hc6 => ?_) (fun hc6 => ?_)
                · skip
                  refine VC.skip ?_
                  refine thenQ_n ⟨(), (.cons rfl (.cons rfl (.cons (congrArg (fun b => some (Value.bool b)) (decide_eq_decide.2 (by rw [hsp]; omega))) .nil))), ?_⟩
                  rfl
                · skip
                  refine VC.seq ?_
                  refine VC.region ?_
                  refine Ops.r (Run.bin rfl rfl (Bin.eqlN _ 64)) rfl ?_
                  refine Ops.r (Run.asg rfl) rfl ?_
                  refine Ops.nil ?_
                  refine thenQ_n ?_
                  refine VC.sub [(0, _), (3, _), (20, _), (21, _)] (.cons rfl (.cons rfl (.cons rfl (.cons rfl .nil)))) ?_
                  refine VC.condD rfl (fun hc7 => ?_) (fun hc7 => ?_)
                  · skip
                    refine VC.skip ?_
                    refine thenQ_n ⟨(), (.cons rfl (.cons rfl (.cons (congrArg (fun b => some (Value.bool b)) (decide_eq_decide.2 (by rw [hsp]; omega))) .nil))), ?_⟩
                    rfl
                  · skip
                    refine VC.seq ?_
                    refine VC.region ?_
                    refine Ops.r (Run.bin rfl rfl (Bin.eqlN _ 44)) rfl ?_
                    refine Ops.r (Run.asg rfl) rfl ?_
                    refine Ops.nil ?_
                    refine thenQ_n ?_
                    refine VC.sub [(0, _), (3, _), (20, _), (21, _)] (.cons rfl (.cons rfl (.cons rfl (.cons rfl .nil)))) ?_
                    refine VC.condD rfl (fun hc8 => ?_) (fun hc8 => ?_)
                    · skip
                      refine VC.skip ?_
                      refine thenQ_n ⟨(), (.cons rfl (.cons rfl (.cons (congrArg (fun b => some (Value.bool b)) (decide_eq_decide.2 (by rw [hsp]; omega))) .nil))), ?_⟩
                      rfl
                    · skip
                      refine VC.seq ?_
                      refine VC.region ?_
                      refine Ops.r (Run.bin rfl rfl (Bin.eqlN _ 59)) rfl ?_
                      refine Ops.r (Run.asg rfl) rfl ?_
                      refine Ops.nil ?_
                      refine thenQ_n ?_
                      refine VC.sub [(0, _), (3, _), (20, _), (21, _)] (.cons rfl (.cons rfl (.cons rfl (.cons rfl .nil)))) ?_
                      refine VC.condD rfl (fun hc9 => ?_) (fun hc9 => ?_)
                      · skip
                        refine VC.skip ?_
                        refine thenQ_n ⟨(), (.cons rfl (.cons rfl (.cons (congrArg (fun b => some (Value.bool b)) (decide_eq_decide.2 (by rw [hsp]; omega))) .nil))), ?_⟩
                        rfl
                      · skip
                        refine VC.seq ?_
                        refine VC.region ?_
                        refine Ops.r (Run.bin rfl rfl (Bin.eqlN _ 58)) rfl ?_
                        refine Ops.r (Run.asg rfl) rfl ?_
                        refine Ops.nil ?_
                        refine thenQ_n ?_
                        refine VC.sub [(0, _), (3, _), (20, _), (21, _)] (.cons rfl (.cons rfl (.cons rfl (.cons rfl .nil)))) ?_
                        refine VC.condD rfl (fun hc10 => ?_) (fun hc10 => ?_)
                        · skip
                          refine VC.skip ?_
                          refine thenQ_n ⟨(), (.cons rfl (.cons rfl (.cons (congrArg (fun b => some (Value.bool b)) (decide_eq_decide.2 (by rw [hsp]; omega))) .nil))), ?_⟩
                          rfl
                        · skip
                          refine VC.seq ?_
                          refine VC.region ?_
                          refine Ops.r (Run.bin rfl rfl (Bin.eqlN _ 92)) rfl ?_
                          refine Ops.r (Run.asg rfl) rfl ?_
                          refine Ops.nil ?_
                          refine thenQ_n ?_
                          refine VC.sub [(0, _), (3, _), (20, _), (21, _)] (.cons rfl (.cons rfl (.cons rfl (.cons rfl .nil)))) ?_
                          refine VC.condD rfl (fun hc11 => ?_) (fun hc11 => ?_)
                          · skip
                            refine VC.skip ?_
                            refine thenQ_n ⟨(), (.cons rfl (.cons rfl (.cons (congrArg (fun b => some (Value.bool b)) (decide_eq_decide.2 (by rw [hsp]; omega))) .nil))), ?_⟩
                            rfl
                          · skip
                            refine VC.seq ?_
                            refine VC.region ?_
                            refine Ops.r (Run.bin rfl rfl (Bin.eqlN _ 34)) rfl ?_
                            refine Ops.r (Run.asg rfl) rfl ?_
                            refine Ops.nil ?_
                            refine thenQ_n ?_
                            refine VC.sub [(0, _), (3, _), (20, _), (21, _)] (.cons rfl (.cons rfl (.cons rfl (.cons rfl .nil)))) ?_
                            refine VC.condD rfl (fun hc12 => ?_) (fun hc12 => ?_)
                            · skip
                              refine VC.skip ?_
                              refine thenQ_n ⟨(), (.cons rfl (.cons rfl (.cons (congrArg (fun b => some (Value.bool b)) (decide_eq_decide.2 (by rw [hsp]; omega))) .nil))), ?_⟩
                              rfl
                            · skip
                              refine VC.seq ?_
                              refine VC.region ?_
                              refine Ops.r (Run.bin rfl rfl (Bin.eqlN _ 47)) rfl ?_
                              refine Ops.r (Run.asg rfl) rfl ?_
                              refine Ops.nil ?_
                              refine thenQ_n ?_
                              refine VC.sub [(0, _), (3, _), (20, _), (21, _)] (.cons rfl (.cons rfl (.cons rfl (.cons rfl .nil)))) ?_
                              refine VC.condD rfl (fun hc13 => ?_) (fun hc13 => ?_)
                              · skip
                                refine VC.skip ?_
                                refine thenQ_n ⟨(), (.cons rfl (.cons rfl (.cons (congrArg (fun b => some (Value.bool b)) (decide_eq_decide.2 (by rw [hsp]; omega))) .nil))), ?_⟩
                                rfl
                              · skip
                                refine VC.seq ?_
                                refine VC.region ?_
                                refine Ops.r (Run.bin rfl rfl (Bin.eqlN _ 91)) rfl ?_
                                refine Ops.r (Run.asg rfl) rfl ?_
                                refine Ops.nil ?_
                                refine thenQ_n ?_
                                refine VC.sub [(0, _), (3, _), (20, _), (21, _)] (.cons rfl (.cons rfl (.cons rfl (.cons rfl .nil)))) ?_
                                refine VC.condD rfl (fun hc14 => ?_) (fun hc14 => ?_)
                                · skip
                                  refine VC.skip ?_
                                  refine thenQ_n ⟨(), (.cons rfl (.cons rfl (.cons (congrArg (fun b => some (Value.bool b)) (decide_eq_decide.2 (by rw [hsp]; omega))) .nil))), ?_⟩
                                  rfl
                                · skip
                                  refine VC.seq ?_
                                  refine VC.region ?_
                                  refine Ops.r (Run.bin rfl rfl (Bin.eqlN _ 93)) rfl ?_
                                  refine Ops.r (Run.asg rfl) rfl ?_
                                  refine Ops.nil ?_
                                  refine thenQ_n ?_
                                  refine VC.sub [(0, _), (3, _), (20, _), (21, _)] (.cons rfl (.cons rfl (.cons rfl (.cons rfl .nil)))) ?_
                                  refine VC.condD rfl (fun hc15 => ?_) (fun hc15 => ?_)
                                  · skip
                                    refine VC.skip ?_
                                    refine thenQ_n ⟨(), (.cons rfl (.cons rfl (.cons (congrArg (fun b => some (Value.bool b)) (decide_eq_decide.2 (by rw [hsp]; omega))) .nil))), ?_⟩
                                    rfl
                                  · skip
                                    refine VC.seq ?_
                                    refine VC.region ?_
                                    refine Ops.r (Run.bin rfl rfl (Bin.eqlN _ 63)) rfl ?_
                                    refine Ops.r (Run.asg rfl) rfl ?_
                                    refine Ops.nil ?_
                                    refine thenQ_n ?_
                                    refine VC.sub [(0, _), (3, _), (20, _), (21, _)] (.cons rfl (.cons rfl (.cons rfl (.cons rfl .nil)))) ?_
                                    refine VC.condD rfl (fun hc16 => ?_) (fun hc16 => ?_)
                                    · skip
                                      refine VC.skip ?_
                                      refine thenQ_n ⟨(), (.cons rfl (.cons rfl (.cons (congrArg (fun b => some (Value.bool b)) (decide_eq_decide.2 (by rw [hsp]; omega))) .nil))), ?_⟩
                                      rfl
                                    · skip
                                      refine VC.region ?_
                                      refine Ops.r (Run.bin rfl rfl (Bin.eqlN _ 61)) rfl ?_
                                      refine Ops.r (Run.asg rfl) rfl ?_
                                      refine Ops.nil ?_
                                      refine thenQ_n ⟨(), (.cons rfl (.cons rfl (.cons (congrArg (fun b => some (Value.bool b)) (decide_eq_decide.2 (by rw [hsp]; omega))) .nil))), ?_⟩
                                      rfl
        · skip
          rintro _ _ rfl Γ hΓ
          refine thenQ_n (VC.sub _ hΓ ?_)
          refine VC.condD rfl (fun hc17 => ?_) (fun hc17 => ?_)
          · skip
            refine VC.seq ?_
            refine VC.region ?_
            refine Ops.r (Run.asg rfl) rfl ?_
            refine Ops.nil ?_
            refine thenQ_n ?_
            refine VC.sub [(2, _)] (.cons rfl .nil) ?_
            refine VC.ret ?_
            refine blockQ_r (blockQ_r (thenQ_r (thenQ_r (blockQ_r (thenQ_r (end1 rfl ?_))))))
            exact ⟨by rw [decide_eq_false (fun h => (htc.1 (h.2 x hxm)).2.2 hc17)], rfl⟩
          · skip
            refine VC.skip ?_
            refine blockQ_n (blockQ_n (thenQ_n ?_))
            refine VC.sub [(0, _), (3, _)] (.cons rfl (.cons rfl .nil)) ?_
            refine VC.region ?_
            refine Ops.r (Run.mv rfl) rfl ?_
            refine Ops.r (Run.bin rfl rfl (Bin.add_i64 _ 1 (by omega))) rfl ?_
            refine Ops.r (Run.asg rfl) rfl ?_
            refine Ops.nil ?_
            refine thenQ_n ⟨(i + 1), (.cons rfl (.cons rfl .nil)), ?_, ?_⟩
            · skip
              refine ⟨hc1, fun y hy => ?_, rfl⟩
              rw [hts] at hy
              rcases List.mem_append.1 hy with h | h
              · exact hd y h
              · simp only [List.mem_singleton] at h; subst h; exact htc.2 ⟨by omega, by omega, hc17⟩
            · skip
              first | omega | (dsimp only; omega)
  · skip
    have hil : i = q.length := by omega
    subst hil
    rw [List.take_length] at hd
    refine VC.exit ?_
    refine thenQ_x (thenQ_x (blockQ_x ?_))
    refine thenQ_n ?_
    refine VC.sub [(0, _)] (.cons rfl .nil) ?_
    refine VC.seq ?_
    refine VC.region ?_
    refine Ops.r (Run.mv rfl) rfl ?_
    refine Ops.r (Run.lenT rfl Tryz.underlying9) rfl ?_
    refine Ops.r (Run.bin rfl rfl (Bin.gtrN _ 0)) rfl ?_
    refine Ops.r (Run.asg rfl) rfl ?_
    refine Ops.nil ?_
    refine thenQ_n ?_
    refine VC.sub [(2, _)] (.cons rfl .nil) ?_
    refine VC.ret ?_
    refine end1 rfl ?_
    exact ⟨by rw [decide_eq_decide.2 (show TokQ q ↔ 0 < q.length from ⟨fun h => List.length_pos_iff.2 h.1, fun h => ⟨List.length_pos_iff.1 h, hd⟩⟩)], rfl⟩

set_option maxRecDepth 100000 in
theorem rsmall_spec (q : Tx) (w : World) (hq : q.length ≤ 1000000) : Calls Tryz.prog 148 #[encStr q] w fun e w' => e = .returned (encStr (smallS q)) ∧ Frm [] w w' := by
  refine VC.calls (nt := 29) (res := #[.tmp 2]) Tryz.func148 rfl Tryz.ntmps148 Tryz.results148 rfl ?_
  refine VC.seq ?_
  refine VC.region ?_
  refine Ops.r (Run.asg rfl) rfl ?_
  refine Ops.nil ?_
  refine thenQ_n ?_
  refine VC.sub [(0, _)] (.cons rfl .nil) ?_
  refine VC.seq ?_
  refine VC.region ?_
  refine Ops.r (Run.asg rfl) rfl ?_
  refine Ops.nil ?_
  refine thenQ_n ?_
  refine VC.seq ?_
  refine VC.seq ?_
  refine VC.region ?_
  refine Ops.r (v := .int .i64 ((0 : Nat) : Int)) (Run.asg rfl) rfl ?_
  refine Ops.nil ?_
  refine thenQ_n ?_
  refine VC.block ?_
  refine VC.loop (σ := Nat) (fun s => [(0, encStr q), (3, encStr (smallS (q.take s))), (4, .int .i64 ((s : Nat) : Int))]) (fun s wr => s ≤ q.length ∧ Frm [] w wr) (fun s => q.length - s) 0 (.cons rfl (.cons rfl (.cons rfl .nil))) ⟨by omega, Frm.refl _ _⟩ ?_
  rintro i wr ⟨hi, K⟩
  refine VC.seq ?_
  refine VC.seq ?_
  refine VC.region ?_
  refine Ops.r (Run.mv rfl) rfl ?_
  refine Ops.r (Run.mv rfl) rfl ?_
  refine Ops.r (Run.lenT rfl Tryz.underlying9) rfl ?_
  refine Ops.r (Run.bin rfl rfl (Bin.lssN _ _)) rfl ?_
  refine Ops.nil ?_
  refine thenQ_n ?_
  refine VC.sub [(0, _), (3, _), (4, _), (9, _)] (.cons rfl (.cons rfl (.cons rfl (.cons rfl .nil)))) ?_
  refine VC.condD rfl (fun hc1 => ?_) (fun hc1 => ?_)
  · skip
    have hts := take_snoc hc1
    have hgx : q[i]? = some q[i] := List.getElem?_eq_getElem hc1
    have hsl := smallS_len (q.take i)
    rw [List.length_take] at hsl
    generalize hx : q[i] = x at *
    have hlx := low_nat x
    refine VC.skip ?_
    refine thenQ_n ?_
    refine VC.sub [(0, _), (3, _), (4, _)] (.cons rfl (.cons rfl (.cons rfl .nil))) ?_
    refine VC.seq ?_
    refine VC.block ?_
    refine VC.seq ?_
    refine VC.region ?_
    refine Ops.r (Run.mv rfl) rfl ?_
    refine Ops.r (Run.mv rfl) rfl ?_
    refine Ops.r (Run.indexT _ rfl rfl Tryz.underlying9 hgx) rfl ?_
    refine Ops.r (Run.asg rfl) rfl ?_
    refine Ops.nil ?_
    refine thenQ_n ?_
    refine VC.sub [(0, _), (3, _), (4, _), (5, _)] (.cons rfl (.cons rfl (.cons rfl (.cons rfl .nil)))) ?_
    refine VC.seq ?_
    refine VC.seq ?_
    refine VC.split1 [(0, _), (3, _), (4, _), (5, _)] (.cons rfl (.cons rfl (.cons rfl (.cons rfl .nil)))) 20 (.bool (decide ((65 ≤ x.toNat) ∧ (x.toNat ≤ 90)))) ?_ ?_
    · by_cases hs0 : 65 ≤ x.toNat
      · skip
        refine VC.region ?_
        refine Ops.r (Run.mv rfl) rfl ?_
        refine Ops.r (Run.bin rfl rfl (Bin.leqN 65 _)) rfl ?_
        refine Ops.r (Run.mv rfl) rfl ?_
        refine Ops.rg rfl (by first | rfl | assumption | exact decide_eq_true (by assumption) | exact decide_eq_false (by assumption) | decide | (simp; done) | (simp; omega) | (simp [*]; done)) (Run.mv rfl) rfl ?_
        refine Ops.rg rfl (by first | rfl | assumption | exact decide_eq_true (by assumption) | exact decide_eq_false (by assumption) | decide | (simp; done) | (simp; omega) | (simp [*]; done)) (Run.bin rfl rfl (Bin.leqN _ 90)) rfl ?_
        refine Ops.r (Run.pickT rfl rfl (by first | rfl | assumption | exact decide_eq_true (by assumption) | exact decide_eq_false (by assumption) | decide | (simp; done) | (simp; omega) | (simp [*]; done))) rfl ?_
        refine Ops.nil ?_
        refine thenQ_n ⟨(.cons (by rw [dand1 hs0]; rfl) (.cons rfl (.cons rfl (.cons rfl (.cons rfl .nil))))), rfl⟩
      · skip
        refine VC.region ?_
        refine Ops.r (Run.mv rfl) rfl ?_
        refine Ops.r (Run.bin rfl rfl (Bin.leqN 65 _)) rfl ?_
        refine Ops.r (Run.mv rfl) rfl ?_
        refine Ops.sk rfl (by first | rfl | assumption | exact decide_eq_true (by assumption) | exact decide_eq_false (by assumption) | decide | (simp; done) | (simp; omega) | (simp [*]; done)) rfl ?_
        refine Ops.sk rfl (by first | rfl | assumption | exact decide_eq_true (by assumption) | exact decide_eq_false (by assumption) | decide | (simp; done) | (simp; omega) | (simp [*]; done)) rfl ?_
        refine Ops.r (Run.pickF rfl rfl (by first | rfl | assumption | exact decide_eq_true (by assumption) | exact decide_eq_false (by assumption) | decide | (simp; done) | (simp; omega) | (simp [*]; done))) rfl ?_
        refine Ops.nil ?_
        refine thenQ_n ⟨(.cons (by rw [dand0 hs0]; rfl) (.cons rfl (.cons rfl (.cons rfl (.cons rfl .nil))))), rfl⟩
    · intro Γ hΓ
      refine thenQ_n (VC.sub _ hΓ ?_)
      refine VC.meet (σ := Unit) (fun s => [(0, encStr q), (3, encStr (smallS (q.take i))), (4, .int .i64 ((i : Nat) : Int)), (5, .int .u8 (((low x).toNat : Nat) : Int))]) (fun s wr => Frm [] w wr) ?_ ?_
      · skip
        refine VC.condD rfl (fun hc2 => ?_) (fun hc2 => ?_)
        · skip
          refine VC.region ?_
          refine Ops.r (Run.mv rfl) rfl ?_
          refine Ops.r (Run.bin rfl rfl (Bin.add_u8 _ 32 (by omega))) rfl ?_
          refine Ops.r (Run.asg rfl) rfl ?_
          refine Ops.nil ?_
          refine thenQ_n ⟨(), (.cons rfl (.cons rfl (.cons rfl (.cons (by rw [hlx, if_pos hc2]; rfl) .nil)))), ?_⟩
          exact K
        · skip
          refine VC.skip ?_
          refine thenQ_n ⟨(), (.cons rfl (.cons rfl (.cons rfl (.cons (by rw [hlx, if_neg hc2]; rfl) .nil)))), ?_⟩
          exact K
      · skip
        rintro _ wr K Γ hΓ
        refine thenQ_n (VC.sub _ hΓ ?_)
        refine VC.region ?_
        refine Ops.r (Run.mv rfl) rfl ?_
        refine Ops.r (Run.mv rfl) rfl ?_
        refine Ops.m (Does.buildS1 rfl Tryz.underlying22 Tryz.sizeOf5 zero5 (by decide) (by decide) rfl rfl) rfl ?_
        rintro _ w2 ⟨rfl, hF2⟩
        have K2 := K.trans hF2.frm (by simp)
        refine Ops.r (Run.strOfT rfl Tryz.underlying22 Tryz.underlying5 Tryz.underlying9 (show Rd w2 1 (some ⟨wr.heap.size, 0, none⟩) 1 (U8 [low x]) from Rd.of_blk (n := 1) (size := 1) hF2.blk rfl)) rfl ?_
        refine Ops.r (Run.addT rfl rfl (by simp; omega)) rfl ?_
        refine Ops.r (Run.asg rfl) rfl ?_
        refine Ops.nil ?_
        refine blockQ_n (thenQ_n ?_)
        refine VC.sub [(0, _), (3, _), (4, _)] (.cons rfl (.cons rfl (.cons rfl .nil))) ?_
        refine VC.region ?_
        refine Ops.r (Run.mv rfl) rfl ?_
        refine Ops.r (Run.bin rfl rfl (Bin.add_i64 _ 1 (by omega))) rfl ?_
        refine Ops.r (Run.asg rfl) rfl ?_
        refine Ops.nil ?_
        refine thenQ_n ⟨(i + 1), (.cons rfl (.cons (by rw [hts]; simp only [smallS, List.map_append, List.map_cons, List.map_nil]; rfl) (.cons rfl .nil))), ?_, ?_⟩
        · skip
          exact ⟨hc1, K2⟩
        · skip
          first | omega | (dsimp only; omega)
  · skip
    have hil : i = q.length := by omega
    subst hil
    rw [List.take_length]
    refine VC.exit ?_
    refine thenQ_x (thenQ_x (blockQ_x ?_))
    refine thenQ_n ?_
    refine VC.sub [(3, _)] (.cons rfl .nil) ?_
    refine VC.seq ?_
    refine VC.region ?_
    refine Ops.r (Run.mv rfl) rfl ?_
    refine Ops.r (Run.asg rfl) rfl ?_
    refine Ops.nil ?_
    refine thenQ_n ?_
    refine VC.sub [(2, _)] (.cons rfl .nil) ?_
    refine VC.ret ?_
    refine end1 rfl ?_
    exact ⟨rfl, K⟩

set_option maxRecDepth 100000 in
theorem rleft_spec (q : Tx) (w : World) (hq : q.length ≤ 1000000) : Calls Tryz.prog 187 #[encStr q] w fun e w' => e = .returned (encStr (leftB q)) ∧ w = w' := by
  refine VC.calls (nt := 19) (res := #[.tmp 2]) Tryz.func187 rfl Tryz.ntmps187 Tryz.results187 rfl ?_
  refine VC.seq ?_
  refine VC.region ?_
  refine Ops.r (Run.asg rfl) rfl ?_
  refine Ops.nil ?_
  refine thenQ_n ?_
  refine VC.sub [(0, _)] (.cons rfl .nil) ?_
  refine VC.seq ?_
  refine VC.block ?_
  refine VC.loop (σ := Tx) (fun s => [(0, encStr s)]) (fun s wr => leftB s = leftB q ∧ s.length ≤ q.length ∧ w = wr) (fun s => s.length) q (.cons rfl .nil) ⟨rfl, Nat.le_refl _, rfl⟩ ?_
  rintro r _ ⟨hr, hrl, rfl⟩
  refine VC.seq ?_
  refine VC.seq ?_
  refine VC.split1 [(0, _)] (.cons rfl .nil) 15 (.bool (decide (hdB r = true))) ?_ ?_
  · refine VC.region ?_
    refine Ops.r (Run.mv rfl) rfl ?_
    refine Ops.r (Run.lenT rfl Tryz.underlying9) rfl ?_
    refine Ops.r (Run.bin rfl rfl (Bin.gtrN _ 0)) rfl ?_
    by_cases hs5 : 0 < r.length
    · skip
      obtain ⟨y, r2, rfl⟩ : ∃ y r2, r = y :: r2 := by
        cases r with
        | nil => exact absurd hs5 (by simp)
        | cons a r => exact ⟨a, r, rfl⟩
      have hyb := bl_nat y
      have hhd : hdB (y :: r2) = decide (Bl y) := rfl
      refine Ops.r (Run.mv rfl) rfl ?_
      refine Ops.rg rfl (by first | rfl | assumption | exact decide_eq_true (by assumption) | exact decide_eq_false (by assumption) | decide | (simp; done) | (simp; omega) | (simp [*]; done)) (Run.mv rfl) rfl ?_
      refine Ops.rg rfl (by first | rfl | assumption | exact decide_eq_true (by assumption) | exact decide_eq_false (by assumption) | decide | (simp; done) | (simp; omega) | (simp [*]; done)) (Run.indexT 0 rfl rfl Tryz.underlying9 rfl) rfl ?_
      refine Ops.rg rfl (by first | rfl | assumption | exact decide_eq_true (by assumption) | exact decide_eq_false (by assumption) | decide | (simp; done) | (simp; omega) | (simp [*]; done)) (Run.bin rfl rfl (Bin.eqlN _ 32)) rfl ?_
      by_cases hs9 : y.toNat = 32
      · skip
        refine Ops.rg rfl (by first | rfl | assumption | exact decide_eq_true (by assumption) | exact decide_eq_false (by assumption) | decide | (simp; done) | (simp; omega) | (simp [*]; done)) (Run.mv rfl) rfl ?_
        refine Ops.sk rfl (by first | rfl | assumption | exact decide_eq_true (by assumption) | exact decide_eq_false (by assumption) | decide | (simp; done) | (simp; omega) | (simp [*]; done)) rfl ?_
        refine Ops.sk rfl (by first | rfl | assumption | exact decide_eq_true (by assumption) | exact decide_eq_false (by assumption) | decide | (simp; done) | (simp; omega) | (simp [*]; done)) rfl ?_
        refine Ops.sk rfl (by first | rfl | assumption | exact decide_eq_true (by assumption) | exact decide_eq_false (by assumption) | decide | (simp; done) | (simp; omega) | (simp [*]; done)) rfl ?_
        refine Ops.rg rfl (by first | rfl | assumption | exact decide_eq_true (by assumption) | exact decide_eq_false (by assumption) | decide | (simp; done) | (simp; omega) | (simp [*]; done)) (Run.pickT rfl rfl (by first | rfl | assumption | exact decide_eq_true (by assumption) | exact decide_eq_false (by assumption) | decide | (simp; done) | (simp; omega) | (simp [*]; done))) rfl ?_
        refine Ops.r (Run.pickT rfl rfl (by first | rfl | assumption | exact decide_eq_true (by assumption) | exact decide_eq_false (by assumption) | decide | (simp; done) | (simp; omega) | (simp [*]; done))) rfl ?_
        refine Ops.nil ?_
        refine thenQ_n ⟨(.cons (congrArg (fun b => some (Value.bool b)) (by first | rfl | (rw [hhd]; first | exact (decide_eq_decide.2 (by rw [decide_eq_true_eq, hyb]; omega)) | (symm; exact decide_eq_true (decide_eq_true (hyb.2 (by omega))))))) (.cons rfl .nil)), rfl⟩
      · skip
        refine Ops.rg rfl (by first | rfl | assumption | exact decide_eq_true (by assumption) | exact decide_eq_false (by assumption) | decide | (simp; done) | (simp; omega) | (simp [*]; done)) (Run.mv rfl) rfl ?_
        refine Ops.rg rfl (by first | rfl | assumption | exact decide_eq_true (by assumption) | exact decide_eq_false (by assumption) | decide | (simp; done) | (simp; omega) | (simp [*]; done)) (Run.mv rfl) rfl ?_
        refine Ops.rg rfl (by first | rfl | assumption | exact decide_eq_true (by assumption) | exact decide_eq_false (by assumption) | decide | (simp; done) | (simp; omega) | (simp [*]; done)) (Run.indexT 0 rfl rfl Tryz.underlying9 rfl) rfl ?_
        refine Ops.rg rfl (by first | rfl | assumption | exact decide_eq_true (by assumption) | exact decide_eq_false (by assumption) | decide | (simp; done) | (simp; omega) | (simp [*]; done)) (Run.bin rfl rfl (Bin.eqlN _ 9)) rfl ?_
        by_cases hs13 : y.toNat = 9
        · skip
          refine Ops.rg rfl (by first | rfl | assumption | exact decide_eq_true (by assumption) | exact decide_eq_false (by assumption) | decide | (simp; done) | (simp; omega) | (simp [*]; done)) (Run.pickF rfl rfl (by first | rfl | assumption | exact decide_eq_true (by assumption) | exact decide_eq_false (by assumption) | decide | (simp; done) | (simp; omega) | (simp [*]; done))) rfl ?_
          refine Ops.r (Run.pickT rfl rfl (by first | rfl | assumption | exact decide_eq_true (by assumption) | exact decide_eq_false (by assumption) | decide | (simp; done) | (simp; omega) | (simp [*]; done))) rfl ?_
          refine Ops.nil ?_
          refine thenQ_n ⟨(.cons (congrArg (fun b => some (Value.bool b)) (by first | rfl | (rw [hhd]; first | exact (decide_eq_decide.2 (by rw [decide_eq_true_eq, hyb]; omega)) | (symm; exact decide_eq_true (decide_eq_true (hyb.2 (by omega))))))) (.cons rfl .nil)), rfl⟩
        · skip
          refine Ops.rg rfl (by first | rfl | assumption | exact decide_eq_true (by assumption) | exact decide_eq_false (by assumption) | decide | (simp; done) | (simp; omega) | (simp [*]; done)) (Run.pickF rfl rfl (by first | rfl | assumption | exact decide_eq_true (by assumption) | exact decide_eq_false (by assumption) | decide | (simp; done) | (simp; omega) | (simp [*]; done))) rfl ?_
          refine Ops.r (Run.pickT rfl rfl (by first | rfl | assumption | exact decide_eq_true (by assumption) | exact decide_eq_false (by assumption) | decide | (simp; done) | (simp; omega) | (simp [*]; done))) rfl ?_
          refine Ops.nil ?_
          refine thenQ_n ⟨(.cons (congrArg (fun b => some (Value.bool b)) (by first | rfl | (rw [hhd]; first | exact (decide_eq_decide.2 (by rw [decide_eq_true_eq, hyb]; omega)) | (symm; exact decide_eq_true (decide_eq_true (hyb.2 (by omega))))))) (.cons rfl .nil)), rfl⟩
    · skip
      have hre : r = [] := by
        cases r with
        | nil => rfl
        | cons a r => exact absurd (by simp) hs5
      subst hre
      refine Ops.r (Run.mv rfl) rfl ?_
      refine Ops.sk rfl (by first | rfl | assumption | exact decide_eq_true (by assumption) | exact decide_eq_false (by assumption) | decide | (simp; done) | (simp; omega) | (simp [*]; done)) rfl ?_
      refine Ops.sk rfl (by first | rfl | assumption | exact decide_eq_true (by assumption) | exact decide_eq_false (by assumption) | decide | (simp; done) | (simp; omega) | (simp [*]; done)) rfl ?_
      refine Ops.sk rfl (by first | rfl | assumption | exact decide_eq_true (by assumption) | exact decide_eq_false (by assumption) | decide | (simp; done) | (simp; omega) | (simp [*]; done)) rfl ?_
      refine Ops.sk rfl (by first | rfl | assumption | exact decide_eq_true (by assumption) | exact decide_eq_false (by assumption) | decide | (simp; done) | (simp; omega) | (simp [*]; done)) rfl ?_
      refine Ops.skU rfl rfl ?_
      refine Ops.skU rfl rfl ?_
      refine Ops.skU rfl rfl ?_
      refine Ops.sk rfl (by first | rfl | assumption | exact decide_eq_true (by assumption) | exact decide_eq_false (by assumption) | decide | (simp; done) | (simp; omega) | (simp [*]; done)) rfl ?_
      refine Ops.r (Run.pickF rfl rfl (by first | rfl | assumption | exact decide_eq_true (by assumption) | exact decide_eq_false (by assumption) | decide | (simp; done) | (simp; omega) | (simp [*]; done))) rfl ?_
      refine Ops.nil ?_
      refine thenQ_n ⟨(.cons (congrArg (fun b => some (Value.bool b)) (by first | rfl | (rw [hhd]; first | exact (decide_eq_decide.2 (by rw [decide_eq_true_eq, hyb]; omega)) | (symm; exact decide_eq_true (decide_eq_true (hyb.2 (by omega))))))) (.cons rfl .nil)), rfl⟩
  · intro Γ hΓ
    refine thenQ_n (VC.sub _ hΓ ?_)
    refine VC.condD rfl (fun hc1 => ?_) (fun hc1 => ?_)
    · skip
      obtain ⟨x, r, rfl⟩ : ∃ x r2, r = x :: r2 := by
        cases r with
        | nil => exact absurd hc1 (by simp [hdB])
        | cons a r => exact ⟨a, r, rfl⟩
      have hbx : Bl x := of_decide_eq_true hc1
      have hrx : leftB (x :: r) = if Bl x then leftB r else x :: r := rfl
      refine VC.skip ?_
      refine thenQ_n ?_
      refine VC.sub [(0, _)] (.cons rfl .nil) ?_
      refine VC.block ?_
      refine VC.region ?_
      refine Ops.r (Run.mv rfl) rfl ?_
      refine Ops.r (Run.sliceT 1 (x :: r).length rfl Tryz.underlying9 (evB.some_ rfl) evB.none_ (by simp) (by simp)) rfl ?_
      refine Ops.r (Run.asg rfl) rfl ?_
      refine Ops.nil ?_
      refine blockQ_n (thenQ_n ⟨r, (.cons (by simp; rfl) .nil), ?_, ?_⟩)
      · skip
        rw [hrx, if_pos hbx] at hr
        exact ⟨hr, by simp at hrl; omega, rfl⟩
      · skip
        simp
    · skip
      refine VC.exit ?_
      refine thenQ_x (thenQ_x (blockQ_x ?_))
      refine thenQ_n ?_
      refine VC.sub [(0, _)] (.cons rfl .nil) ?_
      refine VC.seq ?_
      refine VC.region ?_
      refine Ops.r (Run.mv rfl) rfl ?_
      refine Ops.r (Run.asg rfl) rfl ?_
      refine Ops.nil ?_
      refine thenQ_n ?_
      refine VC.sub [(2, _)] (.cons rfl .nil) ?_
      refine VC.ret ?_
      refine end1 rfl ?_
      refine ⟨?_, rfl⟩
      have : leftB r = r := by
        cases r with
        | nil => rfl
        | cons a r => rw [leftB, if_neg (fun h => hc1 (decide_eq_true h))]
      rw [← hr, this]

set_option maxRecDepth 100000 in
theorem rtrim_spec (q : Tx) (w : World) (hq : q.length ≤ 1000000) : Calls Tryz.prog 146 #[encStr q] w fun e w' => e = .returned (encStr (trimQ q)) ∧ w = w' := by
  refine VC.calls (nt := 30) (res := #[.tmp 2]) Tryz.func146 rfl Tryz.ntmps146 Tryz.results146 rfl ?_
  refine VC.seq ?_
  refine VC.region ?_
  refine Ops.r (Run.asg rfl) rfl ?_
  refine Ops.nil ?_
  refine thenQ_n ?_
  refine VC.sub [(0, _)] (.cons rfl .nil) ?_
  refine VC.seq ?_
  refine VC.region ?_
  refine Ops.r (Run.mv rfl) rfl ?_
  refine Ops.cl (Enters.fn (evs.cons rfl evs.nil) Tryz.call187) (rleft_spec q _ hq) rfl ?_
  rintro e _ ⟨rfl, rfl⟩
  refine ⟨_, rfl, ?_⟩
  have hql := leftB_le q
  have hcm := trim_comm q
  generalize hq1 : leftB q = q1 at *
  refine Ops.r (Run.asg rfl) rfl ?_
  refine Ops.nil ?_
  refine thenQ_n ?_
  refine VC.sub [(0, _)] (.cons rfl .nil) ?_
  refine VC.seq ?_
  refine VC.block ?_
  refine VC.loop (σ := Tx) (fun s => [(0, encStr s)]) (fun s wr => rightB s = rightB q1 ∧ s.length ≤ q.length ∧ w = wr) (fun s => s.length) q1 (.cons rfl .nil) ⟨rfl, hql, rfl⟩ ?_
  rintro r _ ⟨hr, hrl, rfl⟩
  refine VC.seq ?_
  refine VC.seq ?_
  refine VC.split1 [(0, _)] (.cons rfl .nil) 23 (.bool (decide (hdB r.reverse = true))) ?_ ?_
  · refine VC.region ?_
    refine Ops.r (Run.mv rfl) rfl ?_
    refine Ops.r (Run.lenT rfl Tryz.underlying9) rfl ?_
    refine Ops.r (Run.bin rfl rfl (Bin.gtrN _ 0)) rfl ?_
    by_cases hs7 : 0 < r.length
    · skip
      obtain ⟨r2, y, rfl⟩ : ∃ r2 y, r = r2 ++ [y] := ⟨r.dropLast, r.getLast (fun h => by subst h; simp at hs7), (List.dropLast_concat_getLast _).symm⟩
      have hyb := bl_nat y
      have hlx : (r2 ++ [y]).length = r2.length + 1 := by simp
      have hhd : hdB (r2 ++ [y]).reverse = decide (Bl y) := by rw [List.reverse_append]; rfl
      have hgl : (r2 ++ [y])[(r2 ++ [y]).length - 1]? = some y := by rw [hlx]; simp
      refine Ops.r (Run.mv rfl) rfl ?_
      refine Ops.rg rfl (by first | rfl | assumption | exact decide_eq_true (by assumption) | exact decide_eq_false (by assumption) | decide | (simp; done) | (simp; omega) | (simp [*]; done)) (Run.mv rfl) rfl ?_
      refine Ops.rg rfl (by first | rfl | assumption | exact decide_eq_true (by assumption) | exact decide_eq_false (by assumption) | decide | (simp; done) | (simp; omega) | (simp [*]; done)) (Run.mv rfl) rfl ?_
      refine Ops.rg rfl (by first | rfl | assumption | exact decide_eq_true (by assumption) | exact decide_eq_false (by assumption) | decide | (simp; done) | (simp; omega) | (simp [*]; done)) (Run.lenT rfl Tryz.underlying9) rfl ?_
      refine Ops.rg rfl (by first | rfl | assumption | exact decide_eq_true (by assumption) | exact decide_eq_false (by assumption) | decide | (simp; done) | (simp; omega) | (simp [*]; done)) (Run.bin rfl rfl (Bin.subN (r2 ++ [y]).length 1 (by omega) (by simp [bmax]; omega))) rfl ?_
      refine Ops.rg rfl (by first | rfl | assumption | exact decide_eq_true (by assumption) | exact decide_eq_false (by assumption) | decide | (simp; done) | (simp; omega) | (simp [*]; done)) (Run.indexT _ rfl rfl Tryz.underlying9 hgl) rfl ?_
      refine Ops.rg rfl (by first | rfl | assumption | exact decide_eq_true (by assumption) | exact decide_eq_false (by assumption) | decide | (simp; done) | (simp; omega) | (simp [*]; done)) (Run.bin rfl rfl (Bin.eqlN _ 32)) rfl ?_
      by_cases hs14 : y.toNat = 32
      · skip
        refine Ops.rg rfl (by first | rfl | assumption | exact decide_eq_true (by assumption) | exact decide_eq_false (by assumption) | decide | (simp; done) | (simp; omega) | (simp [*]; done)) (Run.mv rfl) rfl ?_
        refine Ops.sk rfl (by first | rfl | assumption | exact decide_eq_true (by assumption) | exact decide_eq_false (by assumption) | decide | (simp; done) | (simp; omega) | (simp [*]; done)) rfl ?_
        refine Ops.sk rfl (by first | rfl | assumption | exact decide_eq_true (by assumption) | exact decide_eq_false (by assumption) | decide | (simp; done) | (simp; omega) | (simp [*]; done)) rfl ?_
        refine Ops.sk rfl (by first | rfl | assumption | exact decide_eq_true (by assumption) | exact decide_eq_false (by assumption) | decide | (simp; done) | (simp; omega) | (simp [*]; done)) rfl ?_
        refine Ops.sk rfl (by first | rfl | assumption | exact decide_eq_true (by assumption) | exact decide_eq_false (by assumption) | decide | (simp; done) | (simp; omega) | (simp [*]; done)) rfl ?_
        refine Ops.sk rfl (by first | rfl | assumption | exact decide_eq_true (by assumption) | exact decide_eq_false (by assumption) | decide | (simp; done) | (simp; omega) | (simp [*]; done)) rfl ?_
        refine Ops.sk rfl (by first | rfl | assumption | exact decide_eq_true (by assumption) | exact decide_eq_false (by assumption) | decide | (simp; done) | (simp; omega) | (simp [*]; done)) rfl ?_
        refine Ops.rg rfl (by first | rfl | assumption | exact decide_eq_true (by assumption) | exact decide_eq_false (by assumption) | decide | (simp; done) | (simp; omega) | (simp [*]; done)) (Run.pickT rfl rfl (by first | rfl | assumption | exact decide_eq_true (by assumption) | exact decide_eq_false (by assumption) | decide | (simp; done) | (simp; omega) | (simp [*]; done))) rfl ?_
        refine Ops.r (Run.pickT rfl rfl (by first | rfl | assumption | exact decide_eq_true (by assumption) | exact decide_eq_false (by assumption) | decide | (simp; done) | (simp; omega) | (simp [*]; done))) rfl ?_
        refine Ops.nil ?_
        refine thenQ_n ⟨(.cons (congrArg (fun b => some (Value.bool b)) (by first | rfl | (rw [hhd]; first | exact (decide_eq_decide.2 (by rw [decide_eq_true_eq, hyb]; omega)) | (symm; exact decide_eq_true (decide_eq_true (hyb.2 (by omega))))))) (.cons rfl .nil)), rfl⟩
      · skip
        refine Ops.rg rfl (by first | rfl | assumption | exact decide_eq_true (by assumption) | exact decide_eq_false (by assumption) | decide | (simp; done) | (simp; omega) | (simp [*]; done)) (Run.mv rfl) rfl ?_
        refine Ops.rg rfl (by first | rfl | assumption | exact decide_eq_true (by assumption) | exact decide_eq_false (by assumption) | decide | (simp; done) | (simp; omega) | (simp [*]; done)) (Run.mv rfl) rfl ?_
        refine Ops.rg rfl (by first | rfl | assumption | exact decide_eq_true (by assumption) | exact decide_eq_false (by assumption) | decide | (simp; done) | (simp; omega) | (simp [*]; done)) (Run.mv rfl) rfl ?_
        refine Ops.rg rfl (by first | rfl | assumption | exact decide_eq_true (by assumption) | exact decide_eq_false (by assumption) | decide | (simp; done) | (simp; omega) | (simp [*]; done)) (Run.lenT rfl Tryz.underlying9) rfl ?_
        refine Ops.rg rfl (by first | rfl | assumption | exact decide_eq_true (by assumption) | exact decide_eq_false (by assumption) | decide | (simp; done) | (simp; omega) | (simp [*]; done)) (Run.bin rfl rfl (Bin.subN (r2 ++ [y]).length 1 (by omega) (by simp [bmax]; omega))) rfl ?_
        refine Ops.rg rfl (by first | rfl | assumption | exact decide_eq_true (by assumption) | exact decide_eq_false (by assumption) | decide | (simp; done) | (simp; omega) | (simp [*]; done)) (Run.indexT _ rfl rfl Tryz.underlying9 hgl) rfl ?_
        refine Ops.rg rfl (by first | rfl | assumption | exact decide_eq_true (by assumption) | exact decide_eq_false (by assumption) | decide | (simp; done) | (simp; omega) | (simp [*]; done)) (Run.bin rfl rfl (Bin.eqlN _ 9)) rfl ?_
        by_cases hs21 : y.toNat = 9
        · skip
          refine Ops.rg rfl (by first | rfl | assumption | exact decide_eq_true (by assumption) | exact decide_eq_false (by assumption) | decide | (simp; done) | (simp; omega) | (simp [*]; done)) (Run.pickF rfl rfl (by first | rfl | assumption | exact decide_eq_true (by assumption) | exact decide_eq_false (by assumption) | decide | (simp; done) | (simp; omega) | (simp [*]; done))) rfl ?_
          refine Ops.r (Run.pickT rfl rfl (by first | rfl | assumption | exact decide_eq_true (by assumption) | exact decide_eq_false (by assumption) | decide | (simp; done) | (simp; omega) | (simp [*]; done))) rfl ?_
          refine Ops.nil ?_
          refine thenQ_n ⟨(.cons (congrArg (fun b => some (Value.bool b)) (by first | rfl | (rw [hhd]; first | exact (decide_eq_decide.2 (by rw [decide_eq_true_eq, hyb]; omega)) | (symm; exact decide_eq_true (decide_eq_true (hyb.2 (by omega))))))) (.cons rfl .nil)), rfl⟩
        · skip
          refine Ops.rg rfl (by first | rfl | assumption | exact decide_eq_true (by assumption) | exact decide_eq_false (by assumption) | decide | (simp; done) | (simp; omega) | (simp [*]; done)) (Run.pickF rfl rfl (by first | rfl | assumption | exact decide_eq_true (by assumption) | exact decide_eq_false (by assumption) | decide | (simp; done) | (simp; omega) | (simp [*]; done))) rfl ?_
          refine Ops.r (Run.pickT rfl rfl (by first | rfl | assumption | exact decide_eq_true (by assumption) | exact decide_eq_false (by assumption) | decide | (simp; done) | (simp; omega) | (simp [*]; done))) rfl ?_
          refine Ops.nil ?_
          refine thenQ_n ⟨(.cons (congrArg (fun b => some (Value.bool b)) (by first | rfl | (rw [hhd]; first | exact (decide_eq_decide.2 (by rw [decide_eq_true_eq, hyb]; omega)) | (symm; exact decide_eq_true (decide_eq_true (hyb.2 (by omega))))))) (.cons rfl .nil)), rfl⟩
    · skip
      have hre : r = [] := by
        cases r with
        | nil => rfl
        | cons a r => exact absurd (by simp) hs7
      subst hre
      refine Ops.r (Run.mv rfl) rfl ?_
      refine Ops.sk rfl (by first | rfl | assumption | exact decide_eq_true (by assumption) | exact decide_eq_false (by assumption) | decide | (simp; done) | (simp; omega) | (simp [*]; done)) rfl ?_
      refine Ops.sk rfl (by first | rfl | assumption | exact decide_eq_true (by assumption) | exact decide_eq_false (by assumption) | decide | (simp; done) | (simp; omega) | (simp [*]; done)) rfl ?_
      refine Ops.sk rfl (by first | rfl | assumption | exact decide_eq_true (by assumption) | exact decide_eq_false (by assumption) | decide | (simp; done) | (simp; omega) | (simp [*]; done)) rfl ?_
      refine Ops.sk rfl (by first | rfl | assumption | exact decide_eq_true (by assumption) | exact decide_eq_false (by assumption) | decide | (simp; done) | (simp; omega) | (simp [*]; done)) rfl ?_
      refine Ops.sk rfl (by first | rfl | assumption | exact decide_eq_true (by assumption) | exact decide_eq_false (by assumption) | decide | (simp; done) | (simp; omega) | (simp [*]; done)) rfl ?_
      refine Ops.sk rfl (by first | rfl | assumption | exact decide_eq_true (by assumption) | exact decide_eq_false (by assumption) | decide | (simp; done) | (simp; omega) | (simp [*]; done)) rfl ?_
      refine Ops.sk rfl (by first | rfl | assumption | exact decide_eq_true (by assumption) | exact decide_eq_false (by assumption) | decide | (simp; done) | (simp; omega) | (simp [*]; done)) rfl ?_
      refine Ops.skU rfl rfl ?_
      refine Ops.skU rfl rfl ?_
      refine Ops.skU rfl rfl ?_
      refine Ops.skU rfl rfl ?_
      refine Ops.skU rfl rfl ?_
      refine Ops.skU rfl rfl ?_
      refine Ops.sk rfl (by first | rfl | assumption | exact decide_eq_true (by assumption) | exact decide_eq_false (by assumption) | decide | (simp; done) | (simp; omega) | (simp [*]; done)) rfl ?_
      refine Ops.r (Run.pickF rfl rfl (by first | rfl | assumption | exact decide_eq_true (by assumption) | exact decide_eq_false (by assumption) | decide | (simp; done) | (simp; omega) | (simp [*]; done))) rfl ?_
      refine Ops.nil ?_
      refine thenQ_n ⟨(.cons (congrArg (fun b => some (Value.bool b)) (by first | rfl | (rw [hhd]; first | exact (decide_eq_decide.2 (by rw [decide_eq_true_eq, hyb]; omega)) | (symm; exact decide_eq_true (decide_eq_true (hyb.2 (by omega))))))) (.cons rfl .nil)), rfl⟩
  · intro Γ hΓ
    refine thenQ_n (VC.sub _ hΓ ?_)
    refine VC.condD rfl (fun hc1 => ?_) (fun hc1 => ?_)
    · skip
      obtain ⟨r, x, rfl⟩ : ∃ r2 x, r = r2 ++ [x] := ⟨r.dropLast, r.getLast (fun h => by subst h; simp [hdB] at hc1), (List.dropLast_concat_getLast _).symm⟩
      have hbx : Bl x := by rw [List.reverse_append] at hc1; exact of_decide_eq_true hc1
      have hrx := rightB_snoc r x
      have hlx : (r ++ [x]).length = r.length + 1 := by simp
      refine VC.skip ?_
      refine thenQ_n ?_
      refine VC.sub [(0, _)] (.cons rfl .nil) ?_
      refine VC.block ?_
      refine VC.region ?_
      refine Ops.r (Run.mv rfl) rfl ?_
      refine Ops.r (Run.mv rfl) rfl ?_
      refine Ops.r (Run.lenT rfl Tryz.underlying9) rfl ?_
      refine Ops.r (Run.bin rfl rfl (Bin.subN (r ++ [x]).length 1 (by omega) (by simp [bmax]; omega))) rfl ?_
      refine Ops.r (Run.sliceT 0 ((r ++ [x]).length - 1) rfl Tryz.underlying9 evB.none_ (evB.some_ rfl) (by omega) (show (r ++ [x]).length - 1 ≤ (r ++ [x]).length by omega)) rfl ?_
      refine Ops.r (Run.asg rfl) rfl ?_
      refine Ops.nil ?_
      refine blockQ_n (thenQ_n ⟨r, (.cons (by rw [show (((r ++ [x]).drop 0).take ((r ++ [x]).length - 1 - 0)) = r by rw [hlx]; simp]; rfl) .nil), ?_, ?_⟩)
      · skip
        rw [hrx, if_pos hbx] at hr
        exact ⟨hr, by omega, rfl⟩
      · skip
        simp
    · skip
      refine VC.exit ?_
      refine thenQ_x (thenQ_x (blockQ_x ?_))
      refine thenQ_n ?_
      refine VC.sub [(0, _)] (.cons rfl .nil) ?_
      refine VC.seq ?_
      refine VC.region ?_
      refine Ops.r (Run.mv rfl) rfl ?_
      refine Ops.r (Run.asg rfl) rfl ?_
      refine Ops.nil ?_
      refine thenQ_n ?_
      refine VC.sub [(2, _)] (.cons rfl .nil) ?_
      refine VC.ret ?_
      refine end1 rfl ?_
      refine ⟨?_, rfl⟩
      have hrr : rightB r = r := by
        by_cases h : r = []
        · subst h; rfl
        · obtain ⟨r2, x, rfl⟩ : ∃ r2 x, r = r2 ++ [x] := ⟨r.dropLast, r.getLast h, (List.dropLast_concat_getLast _).symm⟩
          rw [rightB_snoc, if_neg (fun hb => hc1 (by rw [List.reverse_append]; exact decide_eq_true hb))]
      unfold trimQ
      rw [← hcm, ← hr, hrr]

set_option maxRecDepth 100000 in
theorem rat_spec (q : Tx) (c : UInt8) (w : World) (hq : q.length ≤ 1000000) : Calls Tryz.prog 147 #[encStr q, .int .u8 ((c.toNat : Nat) : Int)] w fun e w' => e = .returned (.int .i64 (Lib.indexByte q c)) ∧ w = w' := by
  refine VC.calls (nt := 18) (res := #[.tmp 4]) Tryz.func147 rfl Tryz.ntmps147 Tryz.results147 rfl ?_
  refine VC.seq ?_
  refine VC.region ?_
  refine Ops.r (v := .int .i64 ((0 : Nat) : Int)) (Run.asg rfl) rfl ?_
  refine Ops.nil ?_
  refine thenQ_n ?_
  refine VC.sub [(0, _), (1, _)] (.cons rfl (.cons rfl .nil)) ?_
  refine VC.seq ?_
  refine VC.seq ?_
  refine VC.region ?_
  refine Ops.r (v := .int .i64 ((0 : Nat) : Int)) (Run.asg rfl) rfl ?_
  refine Ops.nil ?_
  refine thenQ_n ?_
  refine VC.block ?_
  refine VC.loop (σ := Nat) (fun s => [(0, encStr q), (1, .int .u8 ((c.toNat : Nat) : Int)), (5, .int .i64 ((s : Nat) : Int))]) (fun s wr => s ≤ q.length ∧ c ∉ q.take s ∧ w = wr) (fun s => q.length - s) 0 (.cons rfl (.cons rfl (.cons rfl .nil))) ⟨by omega, by simp, rfl⟩ ?_
  rintro i _ ⟨hi, hno, rfl⟩
  refine VC.seq ?_
  refine VC.seq ?_
  refine VC.region ?_
  refine Ops.r (Run.mv rfl) rfl ?_
  refine Ops.r (Run.mv rfl) rfl ?_
  refine Ops.r (Run.lenT rfl Tryz.underlying9) rfl ?_
  refine Ops.r (Run.bin rfl rfl (Bin.lssN _ _)) rfl ?_
  refine Ops.nil ?_
  refine thenQ_n ?_
  refine VC.sub [(0, _), (1, _), (5, _), (9, _)] (.cons rfl (.cons rfl (.cons rfl (.cons rfl .nil)))) ?_
  refine VC.condD rfl (fun hc1 => ?_) (fun hc1 => ?_)
  · skip
    have hts := take_snoc hc1
    have hgx : q[i]? = some q[i] := List.getElem?_eq_getElem hc1
    have hsp : q = q.take i ++ q[i] :: q.drop (i + 1) := by rw [← drop_cons hc1, List.take_append_drop]
    have htl : (q.take i).length = i := by rw [List.length_take]; omega
    generalize hx : q[i] = x at *
    refine VC.skip ?_
    refine thenQ_n ?_
    refine VC.sub [(0, _), (1, _), (5, _)] (.cons rfl (.cons rfl (.cons rfl .nil))) ?_
    refine VC.seq ?_
    refine VC.block ?_
    refine VC.seq ?_
    refine VC.region ?_
    refine Ops.r (Run.mv rfl) rfl ?_
    refine Ops.r (Run.mv rfl) rfl ?_
    refine Ops.r (Run.indexT _ rfl rfl Tryz.underlying9 hgx) rfl ?_
    refine Ops.r (Run.mv rfl) rfl ?_
    refine Ops.r (Run.bin rfl rfl (Bin.eqlN _ _)) rfl ?_
    refine Ops.nil ?_
    refine thenQ_n ?_
    refine VC.sub [(0, _), (1, _), (5, _), (16, _)] (.cons rfl (.cons rfl (.cons rfl (.cons rfl .nil)))) ?_
    refine VC.condD rfl (fun hc2 => ?_) (fun hc2 => ?_)
    · skip
      refine VC.seq ?_
      refine VC.region ?_
      refine Ops.r (Run.mv rfl) rfl ?_
      refine Ops.r (Run.asg rfl) rfl ?_
      refine Ops.nil ?_
      refine thenQ_n ?_
      refine VC.sub [(4, _)] (.cons rfl .nil) ?_
      refine VC.ret ?_
      refine blockQ_r (thenQ_r (thenQ_r (blockQ_r (thenQ_r (end1 rfl ?_)))))
      refine ⟨?_, rfl⟩
      obtain rfl : x = c := UInt8.toNat_inj.1 hc2
      have := idxB_app (b := q.drop (i + 1)) hno
      rw [← hsp, htl] at this
      rw [this]
    · skip
      refine VC.skip ?_
      refine blockQ_n (thenQ_n ?_)
      refine VC.sub [(0, _), (1, _), (5, _)] (.cons rfl (.cons rfl (.cons rfl .nil))) ?_
      refine VC.region ?_
      refine Ops.r (Run.mv rfl) rfl ?_
      refine Ops.r (Run.bin rfl rfl (Bin.add_i64 _ 1 (by omega))) rfl ?_
      refine Ops.r (Run.asg rfl) rfl ?_
      refine Ops.nil ?_
      refine thenQ_n ⟨(i + 1), (.cons rfl (.cons rfl (.cons rfl .nil))), ?_, ?_⟩
      · skip
        refine ⟨hc1, ?_, rfl⟩
        rw [hts, List.mem_append, List.mem_singleton]
        rintro (h | rfl)
        · exact hno h
        · exact hc2 rfl
      · skip
        first | omega | (dsimp only; omega)
  · skip
    refine VC.exit ?_
    refine thenQ_x (thenQ_x (blockQ_x ?_))
    refine thenQ_n ?_
    refine VC.sub [] .nil ?_
    refine VC.seq ?_
    refine VC.region ?_
    refine Ops.r (v := .int .i64 (-1)) (Run.asg rfl) rfl ?_
    refine Ops.nil ?_
    refine thenQ_n ?_
    refine VC.ret ?_
    refine end1 rfl ?_
    refine ⟨?_, rfl⟩
    have hil : i = q.length := by omega
    subst hil
    rw [List.take_length] at hno
    rcases idxB_cases q c with ⟨h1, _⟩ | ⟨a, b, h1, _, _⟩
    · rw [h1]
    · exact absurd (by rw [h1]; simp) hno

end Go.Proofs.YtenbjndldenkfaaGreatDoor
