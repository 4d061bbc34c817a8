/-
  The first blank of a text, by the library.
-/
import Derived.Test.YtenbjndldenkfaaGreatDoorParW
import Derived.Test.YtenbjndldenkfaaGreatDoorParE
import Derived.Test.YtenbjndldenkfaaGreatDoorEng15
import Derived.Test.YtenbjndldenkfaaGreatDoorSeqP
namespace Go.Proofs.YtenbjndldenkfaaGreatDoor
open Go.RowKit Go.Sort

/-- What comes next of a text that is ranged over. -/
def nxt (s : ByteArray) (p : Nat) : Array Value := if p < s.size then #[.bool true, .int .i64 (p : Int), .int .i32 ((Utf8.decode s p).1 : Int)] else #[.bool false]
def nxtP (s : ByteArray) (p : Nat) : Nat := if p < s.size then p + (Utf8.decode s p).2 else p
theorem nxt0 (s : ByteArray) (p : Nat) : (nxt s p)[0]? = some (.bool (decide (p < s.size))) := by
  unfold nxt
  split
  · rename_i h; rw [decide_eq_true h]; rfl
  · rename_i h; rw [decide_eq_false h]; rfl
theorem nxt1 {s : ByteArray} {p : Nat} (h : p < s.size) : (nxt s p)[1]? = some (.int .i64 (p : Int)) := by unfold nxt; rw [if_pos h]; rfl
theorem nxt2 {s : ByteArray} {p : Nat} (h : p < s.size) : (nxt s p)[2]? = some (.int .i32 ((Utf8.decode s p).1 : Int)) := by unfold nxt; rw [if_pos h]; rfl
theorem Does.nextA {P : Program} {Γ : Env} {w : World} {dst : Option Tmp} {pos : String} {after : Array Edge} {g : Option (Nat × Bool)} {T : TypeId} {x : Operand} {s : ByteArray} {b p : Nat} (hx : ev? Γ x = some (.pointer (some ⟨b, 0, none⟩))) (hb : SIt w b s p) :
    Does P ⟨dst, .next x true, T, pos, after, g⟩ Γ w (fun r w' => r = .tuple (nxt s p) ∧ SIt w' b s (nxtP s p) ∧ Frm [b] w w') := by
  unfold nxt nxtP
  by_cases h : p < s.size
  · rw [if_pos h, if_pos h]; exact Does.nextS hx hb h
  · rw [if_neg h, if_neg h]; exact (Does.nextEnd hx hb h).mono fun v w' ⟨h1, h2⟩ => ⟨h1, h2 ▸ hb, h2 ▸ Frm.refl _ _⟩
theorem SIt.frm {w w' : World} {b p : Nat} {s : ByteArray} {S : List Nat} (h : SIt w b s p) (k : Frm S w w') (hb : b ∉ S) : SIt w' b s p := by
  have hlt : b < w.heap.size := (Array.getElem?_eq_some_iff.1 h).1
  exact (k.block b hlt hb).trans h
theorem rune_wide (r : Int) (h : 128 ≤ r) : ∃ (q : Tx) (z : UInt8), Value.string (Utf8.encode r) = encStr q ∧ 2 ≤ q.length ∧ q.length ≤ 4 ∧ q[q.length - 1]? = some z ∧ 128 ≤ z.toNat := by
  obtain ⟨a, z, h1, h2, h3, h4⟩ := enc_wide r h
  refine ⟨a ++ [z], z, ?_, by simp; omega, by simp; omega, by simp, h4⟩
  rw [← h1]

set_option maxRecDepth 100000 in
theorem useSet_spec (n : Nat) (w : World) (hn : n ≤ 1000000) : Calls Tryz.prog 220 #[.int .i64 ((n : Nat) : Int)] w fun e w' => e = .returned (.bool (decide (8 < n))) ∧ w = w' := by
  refine VC.calls (nt := 5) (res := #[.tmp 2]) Tryz.func220 rfl Tryz.ntmps220 Tryz.results220 rfl ?_
  refine VC.seq ?_
  refine VC.region ?_
  refine Ops.r (Run.asg rfl) rfl ?_
  refine Ops.nil ?_
  refine thenQ_n ?_
  refine VC.sub [(0, _)] (.cons rfl .nil) ?_
  refine VC.seq ?_
  refine VC.region ?_
  refine Ops.r (Run.mv rfl) rfl ?_
  refine Ops.r (Run.bin rfl rfl (Bin.gtrN _ 8)) rfl ?_
  refine Ops.r (Run.asg rfl) rfl ?_
  refine Ops.nil ?_
  refine thenQ_n ?_
  refine VC.sub [(2, _)] (.cons rfl .nil) ?_
  refine VC.ret ?_
  refine end1 rfl ?_
  exact ⟨rfl, rfl⟩

set_option maxRecDepth 100000 in
theorem idxRune_spec (r : Int) (w : World) (h0 : 128 ≤ r) (h1 : r ≤ 2147483647) : Calls Tryz.prog 217 #[encStr [32, 9], .int .i32 r] w fun e w' => e = .returned (.int .i64 (-1)) ∧ Frm [] w w' := by
  refine VC.calls (nt := 187) (res := #[.tmp 4]) Tryz.func217 rfl Tryz.ntmps217 Tryz.results217 rfl ?_
  refine VC.seq ?_
  refine VC.region ?_
  refine Ops.r (v := .int .i64 ((0 : Nat) : Int)) (Run.asg rfl) rfl ?_
  refine Ops.nil ?_
  refine thenQ_n ?_
  refine VC.sub [(0, _), (1, _)] (.cons rfl (.cons rfl .nil)) ?_
  refine VC.block ?_
  refine VC.seq ?_
  refine VC.split1 [(0, _), (1, _)] (.cons rfl (.cons rfl .nil)) 160 (.bool (decide (False))) ?_ ?_
  · refine VC.region ?_
    refine Ops.r (Run.mv rfl) rfl ?_
    refine Ops.r (Run.bin rfl rfl (Bin.leq 0 _)) rfl ?_
    refine Ops.r (Run.mv rfl) rfl ?_
    refine Ops.rg rfl (by first | rfl | assumption | exact decide_eq_true (by assumption) | exact decide_eq_false (by assumption) | decide | (simp; done) | (simp; omega) | (simp [*]; done)) (Run.mv rfl) rfl ?_
    refine Ops.rg rfl (by first | rfl | assumption | exact decide_eq_true (by assumption) | exact decide_eq_false (by assumption) | decide | (simp; done) | (simp; omega) | (simp [*]; done)) (Run.bin rfl rfl (Bin.lss _ 128)) rfl ?_
    refine Ops.r (Run.pickT rfl rfl (by first | rfl | assumption | exact decide_eq_true (by assumption) | exact decide_eq_false (by assumption) | decide | (simp; done) | (simp; omega) | (simp [*]; done))) rfl ?_
    refine Ops.r (Run.asg rfl) rfl ?_
    refine Ops.nil ?_
    refine thenQ_n ⟨(.cons (congrArg (fun b => some (Value.bool b)) (by first | rfl | exact decide_eq_false (by omega) | (symm; exact decide_eq_false (by omega)))) (.cons rfl (.cons rfl .nil))), rfl⟩
  · intro Γ hΓ
    refine thenQ_n (VC.sub _ hΓ ?_)
    refine VC.condF rfl (decide_eq_false (by simp)) ?_
    refine VC.seq ?_
    refine VC.region ?_
    refine Ops.r (Run.mv rfl) rfl ?_
    refine Ops.r (Run.bin rfl rfl (Bin.eql _ 65533)) rfl ?_
    refine Ops.r (Run.asg rfl) rfl ?_
    refine Ops.nil ?_
    refine thenQ_n ?_
    refine VC.sub [(0, _), (1, _), (171, _)] (.cons rfl (.cons rfl (.cons rfl .nil))) ?_
    refine VC.condD rfl (fun hc2 => ?_) (fun hc2 => ?_)
    · skip
      refine VC.seq ?_
      refine VC.seq ?_
      refine VC.region ?_
      refine Ops.r (Run.mv rfl) rfl ?_
      refine Ops.m (Does.rangeS rfl Tryz.underlying9) rfl ?_
      rintro _ w1 ⟨rfl, hit, K⟩
      have hgs : w.heap.size ≤ w.heap.size := Nat.le_refl _
      generalize hg : w.heap.size = gi at hit hgs ⊢
      refine Ops.nil ?_
      refine thenQ_n ?_
      refine VC.sub [(175, _)] (.cons rfl .nil) ?_
      refine VC.block ?_
      refine VC.loop (σ := Nat) (fun s => [(175, .pointer (some ⟨gi, 0, none⟩))]) (fun s wr => s ≤ 2 ∧ SIt wr gi ⟨#[32, 9]⟩ s ∧ Frm [] w wr) (fun s => 2 - s) 0 (.cons rfl .nil) ⟨by omega, hit, K⟩ ?_
      rintro i wr ⟨hi, hit, K⟩
      refine VC.seq ?_
      refine VC.region ?_
      refine Ops.m (Does.nextA rfl hit) rfl ?_
      rintro _ w2 ⟨rfl, hit2, hf2⟩
      have K2 := Frm.own K hf2 (fun y hy => by simp at hy; omega)
      refine Ops.r (Run.extract rfl (nxt0 _ _)) rfl ?_
      refine Ops.nil ?_
      refine thenQ_n ?_
      refine VC.seq ?_
      refine VC.condB rfl (fun hc3 => ?_) (fun hc3 => ?_)
      · skip
        have hp : i < (⟨#[32, 9]⟩ : ByteArray).size := of_decide_eq_true hc3
        have hi2 : i = 0 ∨ i = 1 := by have : (⟨#[32, 9]⟩ : ByteArray).size = 2 := rfl; omega
        have hnp : nxtP ⟨#[32, 9]⟩ i = i + 1 := by rcases hi2 with rfl | rfl <;> rfl
        rw [hnp] at hit2
        refine VC.skip ?_
        refine thenQ_n ?_
        refine VC.sub [(175, _), (176, _)] (.cons rfl (.cons rfl .nil)) ?_
        refine VC.block ?_
        refine VC.seq ?_
        refine VC.region ?_
        refine Ops.r (Run.extract rfl (nxt1 hp)) rfl ?_
        refine Ops.r (Run.extract rfl (nxt2 hp)) rfl ?_
        refine Ops.r (Run.asg rfl) rfl ?_
        refine Ops.r (Run.asg rfl) rfl ?_
        refine Ops.nil ?_
        refine thenQ_n ?_
        refine VC.sub [(5, _), (6, _), (175, _)] (.cons rfl (.cons rfl (.cons rfl .nil))) ?_
        refine VC.seq ?_
        refine VC.region ?_
        refine Ops.r (Run.mv rfl) rfl ?_
        refine Ops.r (Run.bin rfl rfl (Bin.eqlN _ 65533)) rfl ?_
        refine Ops.nil ?_
        refine thenQ_n ?_
        refine VC.sub [(5, _), (175, _), (181, _)] (.cons rfl (.cons rfl (.cons rfl .nil))) ?_
        refine VC.condF rfl (decide_eq_false (by rcases hi2 with rfl | rfl <;> decide)) ?_
        refine VC.skip ?_
        refine blockQ_n (thenQ_n ⟨(i + 1), (.cons rfl .nil), ?_, ?_⟩)
        · skip
          exact ⟨by omega, hit2, K2⟩
        · skip
          first | omega | (dsimp only; omega)
      · skip
        refine VC.exit ?_
        refine thenQ_x (thenQ_x (blockQ_x ?_))
        refine thenQ_n ?_
        refine VC.sub [] .nil ?_
        refine VC.seq ?_
        refine VC.region ?_
        refine Ops.r (v := .int .i64 (-1)) (Run.asg rfl) rfl ?_
        refine Ops.nil ?_
        refine thenQ_n ?_
        refine VC.ret ?_
        refine blockQ_r (end1 rfl ?_)
        exact ⟨rfl, K2⟩
    · skip
      refine VC.seq ?_
      refine VC.region ?_
      refine Ops.r (Run.mv rfl) rfl ?_
      refine Ops.cl (Enters.fn (evs.cons rfl evs.nil) Tryz.call223) ((Tryz.utf8_ValidRune r _)) rfl ?_
      rintro e w1 ⟨rfl, hw1⟩
      obtain rfl := hw1.symm
      refine ⟨_, rfl, ?_⟩
      refine Ops.r (Run.not rfl) rfl ?_
      refine Ops.r (Run.asg rfl) rfl ?_
      refine Ops.nil ?_
      refine thenQ_n ?_
      refine VC.sub [(0, _), (1, _), (183, _)] (.cons rfl (.cons rfl (.cons rfl .nil))) ?_
      refine VC.condB rfl (fun hc5 => ?_) (fun hc5 => ?_)
      · skip
        refine VC.seq ?_
        refine VC.region ?_
        refine Ops.r (v := .int .i64 (-1)) (Run.asg rfl) rfl ?_
        refine Ops.nil ?_
        refine thenQ_n ?_
        refine VC.sub [(4, _)] (.cons rfl .nil) ?_
        refine VC.ret ?_
        refine blockQ_r (end1 rfl ?_)
        exact ⟨rfl, Frm.refl _ _⟩
      · skip
        refine VC.scope rfl ?_
        refine VC.seq ?_
        refine VC.region ?_
        refine Ops.r (Run.mv rfl) rfl ?_
        obtain ⟨q, z, hq, hl1, hl2, hqz, hz⟩ := rune_wide r h0
        refine Ops.r (v := encStr q) (hq ▸ Run.runeS rfl Tryz.underlying21 Tryz.underlying9) rfl ?_
        refine Ops.r (Run.asg rfl) rfl ?_
        refine Ops.nil ?_
        refine thenQ_n ?_
        refine VC.sub [(0, _), (7, _)] (.cons rfl (.cons rfl .nil)) ?_
        refine VC.seq ?_
        refine VC.region ?_
        refine Ops.r (Run.mv rfl) rfl ?_
        refine Ops.r (Run.lenT rfl Tryz.underlying9) rfl ?_
        refine Ops.r (Run.bin rfl rfl (Bin.sub_i64 _ 1 (by omega) (by omega))) rfl ?_
        refine Ops.r (Run.asg rfl) rfl ?_
        refine Ops.nil ?_
        refine thenQ_n ?_
        refine VC.sub [(0, _), (7, _), (8, _)] (.cons rfl (.cons rfl (.cons rfl .nil))) ?_
        refine VC.seq ?_
        refine VC.region ?_
        refine Ops.r (Run.mv rfl) rfl ?_
        refine Ops.r (Run.asg rfl) rfl ?_
        refine Ops.nil ?_
        refine thenQ_n ?_
        refine VC.sub [(0, _), (7, _), (8, _), (9, _)] (.cons rfl (.cons rfl (.cons rfl (.cons rfl .nil)))) ?_
        refine VC.seq ?_
        refine VC.region ?_
        refine Ops.r (v := .int .i64 ((0 : Nat) : Int)) (Run.asg rfl) rfl ?_
        refine Ops.nil ?_
        refine thenQ_n ?_
        refine VC.sub [(0, _), (7, _), (8, _), (9, _)] (.cons rfl (.cons rfl (.cons rfl (.cons rfl .nil)))) ?_
        refine VC.seq ?_
        refine VC.block ?_
        refine VC.loop (σ := Unit) (fun s => [(0, encStr [32, 9]), (7, encStr q), (8, .int .i64 ((q.length - 1 : Nat) : Int)), (9, .int .i64 ((q.length - 1 : Nat) : Int))]) (fun s wr => Frm [] w wr) (fun s => 0) () (.cons rfl (.cons rfl (.cons rfl (.cons rfl .nil)))) (Frm.refl _ _) ?_
        rintro _ wr K
        refine VC.seq ?_
        refine VC.seq ?_
        refine VC.region ?_
        refine Ops.r (Run.mv rfl) rfl ?_
        refine Ops.r (Run.mv rfl) rfl ?_
        refine Ops.r (Run.lenT rfl Tryz.underlying9) rfl ?_
        refine Ops.r (Run.bin rfl rfl (Bin.lssN _ _)) rfl ?_
        refine Ops.nil ?_
        refine thenQ_n ?_
        refine VC.sub [(0, _), (7, _), (8, _), (9, _), (26, _)] (.cons rfl (.cons rfl (.cons rfl (.cons rfl (.cons rfl .nil))))) ?_
        refine VC.condD rfl (fun hc6 => ?_) (fun hc6 => ?_)
        · skip
          obtain ⟨y, z', rfl⟩ : ∃ y z', q = [y, z'] := by
            match q, hl1, hc6 with
            | [y, z'], _, _ => exact ⟨y, z', rfl⟩
            | _ :: _ :: _ :: _, _, h => exact absurd h (by simp)
          obtain rfl : z' = z := by simpa using hqz
          refine VC.skip ?_
          refine thenQ_n ?_
          refine VC.sub [(0, _), (7, _), (8, _), (9, _)] (.cons rfl (.cons rfl (.cons rfl (.cons rfl .nil)))) ?_
          refine VC.block ?_
          refine VC.scope rfl ?_
          refine VC.seq ?_
          refine VC.seq ?_
          refine VC.still (by kernel_rfl) (by kernel_rfl) ?_
          refine SOps.r (Run.mv rfl) rfl ?_
          refine SOps.r (Run.mv rfl) rfl ?_
          refine SOps.r (Run.indexT _ rfl rfl Tryz.underlying9 rfl) rfl ?_
          refine SOps.r (Run.mv rfl) rfl ?_
          refine SOps.r (Run.mv rfl) rfl ?_
          refine SOps.r (Run.indexT _ rfl rfl Tryz.underlying9 rfl) rfl ?_
          refine SOps.r (Run.bin rfl rfl (Bin.neqN _ _)) rfl ?_
          refine SOps.nil ?_
          refine thenQ_n ?_
          refine VC.sub [(0, _), (7, _), (8, _), (9, _), (33, _)] (.cons rfl (.cons rfl (.cons rfl (.cons rfl (.cons rfl .nil))))) ?_
          refine VC.condT rfl (decide_eq_true (by simp; omega)) ?_
          refine VC.seq ?_
          refine VC.tail 7 (by kernel_rfl) (by kernel_rfl) ?_
          simp only [List.take_succ_cons, List.take_zero, List.drop_succ_cons, List.drop_zero]
          refine SOps.r (Run.mv rfl) rfl ?_
          refine SOps.r (Run.mv rfl) rfl ?_
          refine SOps.r (Run.bin rfl rfl (Bin.add_i64 _ 1 (by omega))) rfl ?_
          refine SOps.r (Run.sliceT 2 2 rfl Tryz.underlying9 (evB.some_ rfl) evB.none_ (by omega) (by simp)) rfl ?_
          refine SOps.r (Run.mv rfl) rfl ?_
          refine SOps.r (Run.mv rfl) rfl ?_
          refine SOps.r (Run.indexT _ rfl rfl Tryz.underlying9 rfl) rfl ?_
          refine SOps.nil ?_
          refine Ops.cl (Enters.fn (evs.cons rfl (evs.cons rfl evs.nil)) Tryz.call113) (sIdx_spec [] z' _) rfl ?_
          rintro e _ ⟨rfl, rfl⟩
          refine ⟨_, rfl, ?_⟩
          refine Ops.r (Run.asg rfl) rfl ?_
          refine Ops.nil ?_
          refine thenQ_n ?_
          refine VC.sub [(0, _), (7, _), (8, _), (9, _), (11, _)] (.cons rfl (.cons rfl (.cons rfl (.cons rfl (.cons rfl .nil))))) ?_
          refine VC.seq ?_
          refine VC.seq ?_
          refine VC.region ?_
          refine Ops.r (Run.mv rfl) rfl ?_
          refine Ops.r (Run.bin rfl rfl (Bin.lss _ 0)) rfl ?_
          refine Ops.nil ?_
          refine thenQ_n ?_
          refine VC.sub [(0, _), (7, _), (8, _), (9, _), (11, _), (43, _)] (.cons rfl (.cons rfl (.cons rfl (.cons rfl (.cons rfl (.cons rfl .nil)))))) ?_
          refine VC.condT rfl (rfl) ?_
          refine VC.seq ?_
          refine VC.region ?_
          refine Ops.r (v := .int .i64 (-1)) (Run.asg rfl) rfl ?_
          refine Ops.nil ?_
          refine thenQ_n ?_
          refine VC.sub [(4, _)] (.cons rfl .nil) ?_
          refine VC.ret ?_
          refine thenQ_r (thenQ_r (straightQ_r (blockQ_r (thenQ_r (blockQ_r (thenQ_r (straightQ_r (blockQ_r (end1 rfl ?_)))))))))
          exact ⟨rfl, K.drew.drew⟩
        · skip
          refine VC.exit ?_
          refine thenQ_x (thenQ_x (blockQ_x ?_))
          refine thenQ_n ?_
          refine VC.sub [] .nil ?_
          refine VC.seq ?_
          refine VC.seq ?_
          refine VC.region ?_
          refine Ops.r (v := .int .i64 (-1)) (Run.asg rfl) rfl ?_
          refine Ops.nil ?_
          refine thenQ_n ?_
          refine VC.ret ?_
          refine thenQ_r (straightQ_r (blockQ_r (end1 rfl ?_)))
          exact ⟨rfl, K⟩

set_option maxRecDepth 100000 in
theorem idxRuneN_spec (c : UInt8) (w : World) (h0 : c.toNat < 128) : Calls Tryz.prog 217 #[encStr [32, 9], .int .i32 ((c.toNat : Nat) : Int)] w fun e w' => e = .returned (.int .i64 (Lib.indexByte [32, 9] c)) ∧ w = w' := by
  refine VC.calls (nt := 187) (res := #[.tmp 4]) Tryz.func217 rfl Tryz.ntmps217 Tryz.results217 rfl ?_
  refine VC.seq ?_
  refine VC.region ?_
  refine Ops.r (v := .int .i64 ((0 : Nat) : Int)) (Run.asg rfl) rfl ?_
  refine Ops.nil ?_
  refine thenQ_n ?_
  refine VC.sub [(0, _), (1, _)] (.cons rfl (.cons rfl .nil)) ?_
  refine VC.block ?_
  refine VC.seq ?_
  refine VC.split1 [(0, _), (1, _)] (.cons rfl (.cons rfl .nil)) 160 (.bool (decide (True))) ?_ ?_
  · refine VC.region ?_
    refine Ops.r (Run.mv rfl) rfl ?_
    refine Ops.r (Run.bin rfl rfl (Bin.leqN 0 _)) rfl ?_
    refine Ops.r (Run.mv rfl) rfl ?_
    refine Ops.rg rfl (by first | rfl | assumption | exact decide_eq_true (by assumption) | exact decide_eq_false (by assumption) | decide | (simp; done) | (simp; omega) | (simp [*]; done)) (Run.mv rfl) rfl ?_
    refine Ops.rg rfl (by first | rfl | assumption | exact decide_eq_true (by assumption) | exact decide_eq_false (by assumption) | decide | (simp; done) | (simp; omega) | (simp [*]; done)) (Run.bin rfl rfl (Bin.lssN _ 128)) rfl ?_
    refine Ops.r (Run.pickT rfl rfl (by first | rfl | assumption | exact decide_eq_true (by assumption) | exact decide_eq_false (by assumption) | decide | (simp; done) | (simp; omega) | (simp [*]; done))) rfl ?_
    refine Ops.r (Run.asg rfl) rfl ?_
    refine Ops.nil ?_
    refine thenQ_n ⟨(.cons (congrArg (fun b => some (Value.bool b)) (by first | rfl | (symm; exact decide_eq_true (by omega)) | exact decide_eq_true (by omega) | (simp; omega))) (.cons rfl (.cons rfl .nil))), rfl⟩
  · intro Γ hΓ
    refine thenQ_n (VC.sub _ hΓ ?_)
    refine VC.condT rfl (decide_eq_true trivial) ?_
    refine VC.seq ?_
    refine VC.region ?_
    refine Ops.r (Run.mv rfl) rfl ?_
    refine Ops.r (Run.mv rfl) rfl ?_
    refine Ops.r (Run.convN c.toNat rfl Tryz.underlying21 Tryz.underlying5 (by simp only [bmax]; omega)) rfl ?_
    refine Ops.cl (Enters.fn (evs.cons rfl (evs.cons rfl evs.nil)) Tryz.call113) (sIdx_spec [32, 9] c _) rfl ?_
    rintro e _ ⟨rfl, rfl⟩
    refine ⟨_, rfl, ?_⟩
    refine Ops.r (Run.asg rfl) rfl ?_
    refine Ops.nil ?_
    refine thenQ_n ?_
    refine VC.sub [(4, _)] (.cons rfl .nil) ?_
    refine VC.ret ?_
    refine blockQ_r (end1 rfl ?_)
    exact ⟨rfl, rfl⟩


theorem dec_le {s : ByteArray} {i r n : Nat} (h : Utf8.decode s i = (r, n)) : r ≤ 1114111 := by
  have e : Utf8.runeError ≤ 1114111 := by decide
  have hb : (s.get! (i + 0)).toNat < 256 := (s.get! (i + 0)).toNat_lt
  unfold Utf8.decode at h
  dsimp only at h
  split at h
  · injection h with h1 h2; omega
  · split at h
    · split at h
      · injection h with h1 h2; omega
      · injection h with h1 h2; omega
    · split at h
      · split at h
        · rename_i hv
          simp only [Bool.and_eq_true, decide_eq_true_eq] at hv
          injection h with h1 h2
          omega
        · injection h with h1 h2; omega
      · split at h
        · split at h
          · rename_i hv
            simp only [Bool.and_eq_true, decide_eq_true_eq, Utf8.valid, Bool.or_eq_true] at hv
            injection h with h1 h2
            omega
          · injection h with h1 h2; omega
        · injection h with h1 h2; omega

/-- The first blank of a text. -/
def FstB (s : Tx) (k : Int) : Prop := (k = -1 ∧ ∀ c ∈ s, ¬ Bl c) ∨ ∃ i : Nat, k = (i : Int) ∧ i < s.length ∧ (∀ c ∈ s.take i, ¬ Bl c) ∧ ∀ c, s[i]? = some c → Bl c
theorem idxBl (c : UInt8) : 0 ≤ Lib.indexByte [32, 9] c ↔ Bl c := by
  rcases idxB_cases [32, 9] c with ⟨h1, h2⟩ | ⟨a, b, h1, h2, h3⟩
  · rw [h1]
    simp only [List.mem_cons, List.not_mem_nil, or_false, not_or] at h2
    exact ⟨fun h => by omega, fun h => by rcases h with h | h <;> simp_all⟩
  · rw [h3]
    have hm : c ∈ ([32, 9] : Tx) := by rw [h1]; simp
    simp only [List.mem_cons, List.not_mem_nil, or_false] at hm
    exact ⟨fun _ => hm, fun _ => by omega⟩
theorem bl_lt {c : UInt8} (h : Bl c) : c.toNat < 128 := by rcases h with rfl | rfl <;> decide
theorem dec_get (s : Tx) (i : Nat) (h : i < s.length) : (⟨s.toArray⟩ : ByteArray).get! i = s[i] := by
  have hs : i < (⟨s.toArray⟩ : ByteArray).size := by show i < s.toArray.size; simpa using h
  show (s.toArray)[i]! = _
  simp [h]
/-- What a round of a range over a text's runes sees. -/
theorem dec_round (s : Tx) (i : Nat) (h : i < s.length) : ∃ r n, Utf8.decode ⟨s.toArray⟩ i = (r, n) ∧ 1 ≤ n ∧ i + n ≤ s.length ∧ r ≤ 1114111 ∧
    ((r < 128 ∧ n = 1 ∧ r = s[i].toNat) ∨ (128 ≤ r ∧ ∀ k, k < n → ∀ c, s[i + k]? = some c → ¬ Bl c)) := by
  have hs : i < (⟨s.toArray⟩ : ByteArray).size := by show i < s.toArray.size; simpa using h
  by_cases hb : s[i].toNat < 128
  · have := decode_ascii ⟨s.toArray⟩ i hs (by show (s.toArray[i]'_).toNat < 128; simpa using hb)
    refine ⟨_, _, this, by omega, by omega, ?_, .inl ⟨?_, rfl, ?_⟩⟩
    · show (s.toArray[i]'_).toNat ≤ _; simp; omega
    · show (s.toArray[i]'_).toNat < _; simpa using hb
    · show (s.toArray[i]'_).toNat = _; simp
  · obtain ⟨r, n, h1, h2, h3, h4⟩ := dec_wide ⟨s.toArray⟩ i hs (by rw [dec_get s i h]; omega)
    have h5 := (h4 (n - 1) (by omega)).2
    have h6 : (⟨s.toArray⟩ : ByteArray).size = s.length := by show s.toArray.size = _; simp
    rw [h6] at h5
    refine ⟨r, n, h1, h3, by omega, dec_le h1, .inr ⟨h2, fun k hk c hc hB => ?_⟩⟩
    have h7 := (h4 k hk).1
    obtain ⟨hlt, rfl⟩ := List.getElem?_eq_some_iff.1 hc
    rw [dec_get s _ hlt] at h7
    have := bl_lt hB
    omega

set_option maxRecDepth 100000 in
theorem idxAny_spec (q : Tx) (w : World) (hq : q.length ≤ 1000000) : Calls Tryz.prog 210 #[encStr q, encStr [32, 9]] w fun e w' => ∃ k, e = .returned (.int .i64 k) ∧ FstB q k ∧ Frm [] w w' := by
  refine VC.calls (nt := 55) (res := #[.tmp 4]) Tryz.func210 rfl Tryz.ntmps210 Tryz.results210 rfl ?_
  refine VC.seq ?_
  refine VC.region ?_
  refine Ops.r (v := .int .i64 ((0 : Nat) : Int)) (Run.asg rfl) rfl ?_
  refine Ops.nil ?_
  refine thenQ_n ?_
  refine VC.sub [(0, _), (1, _)] (.cons rfl (.cons rfl .nil)) ?_
  refine VC.seq ?_
  refine VC.seq ?_
  refine VC.region ?_
  refine Ops.r (Run.mv rfl) rfl ?_
  refine Ops.r (Run.eqlT rfl rfl) rfl ?_
  refine Ops.nil ?_
  refine thenQ_n ?_
  refine VC.sub [(0, _), (1, _), (12, _)] (.cons rfl (.cons rfl (.cons rfl .nil))) ?_
  refine VC.condF rfl (decide_eq_false (by simp)) ?_
  refine VC.skip ?_
  refine thenQ_n ?_
  refine VC.sub [(0, _), (1, _)] (.cons rfl (.cons rfl .nil)) ?_
  refine VC.seq ?_
  refine VC.seq ?_
  refine VC.region ?_
  refine Ops.r (Run.mv rfl) rfl ?_
  refine Ops.r (Run.lenT rfl Tryz.underlying9) rfl ?_
  refine Ops.r (Run.bin rfl rfl (Bin.eqlN _ 1)) rfl ?_
  refine Ops.nil ?_
  refine thenQ_n ?_
  refine VC.sub [(0, _), (1, _), (15, _)] (.cons rfl (.cons rfl (.cons rfl .nil))) ?_
  refine VC.condF rfl (decide_eq_false (by simp)) ?_
  refine VC.skip ?_
  refine thenQ_n ?_
  refine VC.sub [(0, _), (1, _)] (.cons rfl (.cons rfl .nil)) ?_
  refine VC.seq ?_
  refine VC.seq ?_
  refine VC.region ?_
  refine Ops.r (Run.mv rfl) rfl ?_
  refine Ops.r (Run.lenT rfl Tryz.underlying9) rfl ?_
  refine Ops.cl (Enters.fn (evs.cons rfl evs.nil) Tryz.call220) (useSet_spec q.length _ hq) rfl ?_
  rintro e _ ⟨rfl, rfl⟩
  refine ⟨_, rfl, ?_⟩
  refine Ops.nil ?_
  refine thenQ_n ?_
  refine VC.sub [(0, _), (1, _), (26, _)] (.cons rfl (.cons rfl (.cons rfl .nil))) ?_
  refine VC.meet (σ := Unit) (fun s => [(0, encStr q), (1, encStr [32, 9])]) (fun s wr => Frm [] w wr) ?_ ?_
  · skip
    refine VC.condB rfl (fun hc4 => ?_) (fun hc4 => ?_)
    · skip
      refine VC.seq ?_
      refine VC.region ?_
      refine Ops.r (Run.mv rfl) rfl ?_
      refine Ops.cl (Enters.fn (evs.cons rfl evs.nil) Tryz.call169) (mkset_spec _) rfl ?_
      rintro e w1 ⟨rfl, hf1⟩
      refine ⟨_, rfl, ?_⟩
      refine Ops.r (Run.mv rfl) rfl ?_
      refine Ops.r (Run.extract rfl rfl) rfl ?_
      refine Ops.r (Run.extract rfl rfl) rfl ?_
      refine Ops.m (Does.alloc zero178) rfl ?_
      rintro _ w2 ⟨rfl, hF2⟩
      have hb6 := hF2.blk
      have K := hf1.trans hF2.frm (by simp)
      have hs6 := hf1.size
      generalize hg6 : w1.heap.size = g6 at hb6 hs6 ⊢
      refine Ops.st (Acts.storeA rfl rfl Tryz.sizeOf178 hb6 rfl set_one) ?_
      rintro w3 ⟨hb6n, hf3, _⟩
      have hb6 : SetB w3 g6 := hb6n
      have K := Frm.own K hf3 (fun y hy => by simp at hy; omega)
      refine Ops.r (Run.asg rfl) rfl ?_
      refine Ops.nil ?_
      refine thenQ_n ?_
      refine VC.sub [(0, _), (1, _), (6, _), (7, _)] (.cons rfl (.cons rfl (.cons rfl (.cons rfl .nil)))) ?_
      refine VC.seq ?_
      refine VC.region ?_
      refine Ops.r (Run.mv rfl) rfl ?_
      refine Ops.nil ?_
      refine thenQ_n ?_
      refine VC.sub [(0, _), (1, _), (6, _), (32, _)] (.cons rfl (.cons rfl (.cons rfl (.cons rfl .nil)))) ?_
      refine VC.condT rfl (rfl) ?_
      refine VC.seq ?_
      refine VC.seq ?_
      refine VC.region ?_
      refine Ops.r (v := .int .i64 ((0 : Nat) : Int)) (Run.asg rfl) rfl ?_
      refine Ops.nil ?_
      refine thenQ_n ?_
      refine VC.sub [(0, _), (6, _), (8, _)] (.cons rfl (.cons rfl (.cons rfl .nil))) ?_
      refine VC.block ?_
      refine VC.loop (σ := Nat) (fun s => [(0, encStr q), (6, .pointer (some ⟨g6, 0, none⟩)), (8, .int .i64 ((s : Nat) : Int))]) (fun s wr => s ≤ q.length ∧ (∀ c ∈ q.take s, ¬ Bl c) ∧ w3 = wr) (fun s => q.length - s) 0 (.cons rfl (.cons rfl (.cons rfl .nil))) ⟨by omega, by simp, rfl⟩ ?_
      rintro i _ ⟨hi, hno, rfl⟩
      refine VC.seq ?_
      refine VC.seq ?_
      refine VC.region ?_
      refine Ops.r (Run.mv rfl) rfl ?_
      refine Ops.r (Run.mv rfl) rfl ?_
      refine Ops.r (Run.lenT rfl Tryz.underlying9) rfl ?_
      refine Ops.r (Run.bin rfl rfl (Bin.lssN _ _)) rfl ?_
      refine Ops.nil ?_
      refine thenQ_n ?_
      refine VC.sub [(0, _), (6, _), (8, _), (36, _)] (.cons rfl (.cons rfl (.cons rfl (.cons rfl .nil)))) ?_
      refine VC.condD rfl (fun hc6 => ?_) (fun hc6 => ?_)
      · skip
        have hts : q.take (i + 1) = q.take i ++ [q[i]] := by rw [List.take_add_one, List.getElem?_eq_getElem hc6]; rfl
        have hgx : q[i]? = some q[i] := List.getElem?_eq_getElem hc6
        generalize hx : q[i] = x at *
        refine VC.skip ?_
        refine thenQ_n ?_
        refine VC.sub [(0, _), (6, _), (8, _)] (.cons rfl (.cons rfl (.cons rfl .nil))) ?_
        refine VC.seq ?_
        refine VC.block ?_
        refine VC.seq ?_
        refine VC.region ?_
        refine Ops.r (Run.mv rfl) rfl ?_
        refine Ops.r (Run.mv rfl) rfl ?_
        refine Ops.r (Run.indexT _ rfl rfl Tryz.underlying9 hgx) rfl ?_
        refine Ops.cl (Enters.fn (evs.cons rfl (evs.cons rfl evs.nil)) Tryz.call202) (contB_spec g6 x _ hb6) rfl ?_
        rintro e _ ⟨rfl, rfl⟩
        refine ⟨_, rfl, ?_⟩
        refine Ops.nil ?_
        refine thenQ_n ?_
        refine VC.sub [(0, _), (6, _), (8, _), (42, _)] (.cons rfl (.cons rfl (.cons rfl (.cons rfl .nil)))) ?_
        refine VC.condB rfl (fun hc7 => ?_) (fun hc7 => ?_)
        · skip
          refine VC.seq ?_
          refine VC.region ?_
          refine Ops.r (Run.mv rfl) rfl ?_
          refine Ops.r (Run.asg rfl) rfl ?_
          refine Ops.nil ?_
          refine thenQ_n ?_
          refine VC.sub [(4, _)] (.cons rfl .nil) ?_
          refine VC.ret ?_
          refine blockQ_r (thenQ_r (thenQ_r (blockQ_r (thenQ_r (thenQ_r (thenQ_r (end1 rfl ?_)))))))
          refine ⟨_, rfl, .inr ⟨i, rfl, hc6, hno, fun c hc => ?_⟩, K⟩
          rw [hgx] at hc
          cases hc
          exact of_decide_eq_true hc7
        · skip
          refine VC.skip ?_
          refine blockQ_n (thenQ_n ?_)
          refine VC.sub [(0, _), (6, _), (8, _)] (.cons rfl (.cons rfl (.cons rfl .nil))) ?_
          refine VC.region ?_
          refine Ops.r (Run.mv rfl) rfl ?_
          refine Ops.r (Run.bin rfl rfl (Bin.add_i64 _ 1 (by omega))) rfl ?_
          refine Ops.r (Run.asg rfl) rfl ?_
          refine Ops.nil ?_
          refine thenQ_n ⟨(i + 1), (.cons rfl (.cons rfl (.cons rfl .nil))), ?_, ?_⟩
          · skip
            refine ⟨hc6, fun y hy => ?_, rfl⟩
            rw [hts] at hy
            rcases List.mem_append.1 hy with h | h
            · exact hno y h
            · simp only [List.mem_singleton] at h; subst h; exact of_decide_eq_false hc7
          · skip
            first | omega | (dsimp only; omega)
      · skip
        refine VC.exit ?_
        refine thenQ_x (thenQ_x (blockQ_x ?_))
        refine thenQ_n ?_
        refine VC.sub [] .nil ?_
        refine VC.seq ?_
        refine VC.region ?_
        refine Ops.r (v := .int .i64 (-1)) (Run.asg rfl) rfl ?_
        refine Ops.nil ?_
        refine thenQ_n ?_
        refine VC.ret ?_
        refine thenQ_r (thenQ_r (end1 rfl ?_))
        refine ⟨_, rfl, .inl ⟨rfl, ?_⟩, K⟩
        have : i = q.length := by omega
        subst this
        rw [List.take_length] at hno
        exact hno
    · skip
      refine VC.skip ?_
      refine thenQ_n ⟨(), (.cons rfl (.cons rfl .nil)), ?_⟩
      exact Frm.refl _ _
  · skip
    rintro _ wx hfx Γ hΓ
    refine thenQ_n (VC.sub _ hΓ ?_)
    refine VC.seq ?_
    refine VC.seq ?_
    refine VC.region ?_
    refine Ops.r (Run.mv rfl) rfl ?_
    refine Ops.m (Does.rangeS rfl Tryz.underlying9) rfl ?_
    rintro _ w4 ⟨rfl, hit, K4⟩
    have K4 := hfx.trans K4 (by simp)
    have hgs := hfx.size
    generalize hg : wx.heap.size = gi at hit hgs ⊢
    refine Ops.nil ?_
    refine thenQ_n ?_
    refine VC.sub [(1, _), (45, _)] (.cons rfl (.cons rfl .nil)) ?_
    refine VC.block ?_
    refine VC.loop (σ := Nat) (fun s => [(1, encStr [32, 9]), (45, .pointer (some ⟨gi, 0, none⟩))]) (fun s wr => s ≤ q.length ∧ (∀ c ∈ q.take s, ¬ Bl c) ∧ SIt wr gi ⟨q.toArray⟩ s ∧ Frm [] w wr) (fun s => q.length - s) 0 (.cons rfl (.cons rfl .nil)) ⟨by omega, by simp, hit, K4⟩ ?_
    rintro i wr ⟨hi, hno, hit, K⟩
    refine VC.seq ?_
    refine VC.region ?_
    refine Ops.m (Does.nextA rfl hit) rfl ?_
    rintro _ w5 ⟨rfl, hit2, hf2⟩
    have K2 := Frm.own K hf2 (fun y hy => by simp at hy; omega)
    have hsz : (⟨q.toArray⟩ : ByteArray).size = q.length := by show q.toArray.size = _; simp
    refine Ops.r (Run.extract rfl (nxt0 _ _)) rfl ?_
    refine Ops.nil ?_
    refine thenQ_n ?_
    refine VC.seq ?_
    refine VC.condB rfl (fun hc8 => ?_) (fun hc8 => ?_)
    · skip
      have hp : i < (⟨q.toArray⟩ : ByteArray).size := of_decide_eq_true hc8
      refine VC.skip ?_
      refine thenQ_n ?_
      refine VC.sub [(1, _), (45, _), (46, _)] (.cons rfl (.cons rfl (.cons rfl .nil))) ?_
      refine VC.block ?_
      refine VC.seq ?_
      refine VC.region ?_
      refine Ops.r (Run.extract rfl (nxt1 hp)) rfl ?_
      refine Ops.r (Run.extract rfl (nxt2 hp)) rfl ?_
      refine Ops.r (Run.asg rfl) rfl ?_
      refine Ops.r (Run.asg rfl) rfl ?_
      refine Ops.nil ?_
      refine thenQ_n ?_
      refine VC.sub [(1, _), (9, _), (10, _), (45, _)] (.cons rfl (.cons rfl (.cons rfl (.cons rfl .nil)))) ?_
      refine VC.seq ?_
      refine VC.region ?_
      refine Ops.r (Run.mv rfl) rfl ?_
      refine Ops.r (Run.mv rfl) rfl ?_
      obtain ⟨r, n, hd, hn1, hn2, hr, hcase⟩ := dec_round q i (by omega)
      have hnp : nxtP ⟨q.toArray⟩ i = i + n := by unfold nxtP; rw [if_pos hp, hd]
      rw [hnp] at hit2
      rw [hd]
      have hone : Calls Tryz.prog 217 #[encStr [32, 9], .int .i32 ((r : Nat) : Int)] w5 fun e w' => ∃ k, e = .returned (.int .i64 k) ∧ (0 ≤ k ↔ r < 128 ∧ Bl q[i]) ∧ Frm [] w5 w' := by
        rcases hcase with ⟨h1, h2, h3⟩ | ⟨h1, h2⟩
        · subst h3
          exact (idxRuneN_spec _ _ h1).mono fun e w' ⟨h, hw⟩ => ⟨_, h, ⟨fun h => ⟨h1, (idxBl _).1 h⟩, fun h => (idxBl _).2 h.2⟩, hw ▸ Frm.refl _ _⟩
        · exact (idxRune_spec r _ (by omega) (by omega)).mono fun e w' ⟨h, hw⟩ => ⟨_, h, ⟨fun h => by omega, fun h => by omega⟩, hw⟩
      refine Ops.cl (Enters.fn (evs.cons rfl (evs.cons rfl evs.nil)) Tryz.call217) (hone) rfl ?_
      rintro e w6 ⟨k, rfl, hk, hf6⟩
      refine ⟨_, rfl, ?_⟩
      have hit3 := hit2.frm hf6 (by simp)
      have K3 := K2.trans hf6 (by simp)
      refine Ops.r (Run.bin rfl rfl (Bin.geq _ 0)) rfl ?_
      refine Ops.nil ?_
      refine thenQ_n ?_
      refine VC.sub [(1, _), (9, _), (45, _), (53, _)] (.cons rfl (.cons rfl (.cons rfl (.cons rfl .nil)))) ?_
      refine VC.condD rfl (fun hc9 => ?_) (fun hc9 => ?_)
      · skip
        refine VC.seq ?_
        refine VC.region ?_
        refine Ops.r (Run.mv rfl) rfl ?_
        refine Ops.r (Run.asg rfl) rfl ?_
        refine Ops.nil ?_
        refine thenQ_n ?_
        refine VC.sub [(4, _)] (.cons rfl .nil) ?_
        refine VC.ret ?_
        refine blockQ_r (thenQ_r (blockQ_r (thenQ_r (end1 rfl ?_))))
        have hkb := hk.1 (by omega)
        refine ⟨_, rfl, .inr ⟨i, rfl, by omega, hno, fun c hc => ?_⟩, K3⟩
        rw [List.getElem?_eq_getElem (show i < q.length by omega)] at hc
        cases hc
        exact hkb.2
      · skip
        refine VC.skip ?_
        refine blockQ_n (thenQ_n ⟨(i + n), (.cons rfl (.cons rfl .nil)), ?_, ?_⟩)
        · skip
          refine ⟨hn2, fun y hy => ?_, hit3, K3⟩
          obtain ⟨j, hj, rfl⟩ := List.getElem_of_mem hy
          rw [List.getElem_take]
          rw [List.length_take] at hj
          by_cases hji : j < i
          · exact hno _ (by rw [List.mem_iff_getElem]; exact ⟨j, by rw [List.length_take]; omega, by rw [List.getElem_take]⟩)
          · rcases hcase with ⟨h1, h2, h3⟩ | ⟨h1, h2⟩
            · have : j = i := by omega
              subst this
              exact fun h => hc9 (by have := hk.2 ⟨h1, h⟩; omega)
            · exact h2 (j - i) (by omega) _ (by rw [show i + (j - i) = j by omega]; exact List.getElem?_eq_getElem (by omega))
        · skip
          first | omega | (dsimp only; omega)
    · skip
      refine VC.exit ?_
      refine thenQ_x (thenQ_x (blockQ_x ?_))
      refine thenQ_n ?_
      refine VC.sub [] .nil ?_
      refine VC.seq ?_
      refine VC.region ?_
      refine Ops.r (v := .int .i64 (-1)) (Run.asg rfl) rfl ?_
      refine Ops.nil ?_
      refine thenQ_n ?_
      refine VC.ret ?_
      refine end1 rfl ?_
      refine ⟨_, rfl, .inl ⟨rfl, ?_⟩, K2⟩
      have : ¬ i < (⟨q.toArray⟩ : ByteArray).size := of_decide_eq_false hc8
      have : i = q.length := by omega
      subst this
      rw [List.take_length] at hno
      exact hno

end Go.Proofs.YtenbjndldenkfaaGreatDoor
