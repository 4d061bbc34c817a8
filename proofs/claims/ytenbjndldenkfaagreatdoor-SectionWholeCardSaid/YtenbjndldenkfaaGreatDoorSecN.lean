/-
  The section of a text.
-/
import Derived.Test.YtenbjndldenkfaaGreatDoorSecR
import Derived.Test.YtenbjndldenkfaaGreatDoorSeqC
namespace Go.Proofs.YtenbjndldenkfaaGreatDoor
open Go.RowKit Go.Sort

theorem aft_lt {c : UInt8} {s : Tx} (h : ¬ s = []) : (aftF c s).length < s.length := by
  cases s with
  | nil => exact absurd rfl h
  | cons x r =>
    unfold aftF
    have := (bef_len c r).2
    split <;> simp <;> omega
/-- The numbers of a path, and what stands behind them; none: nothing stands behind the last point. -/
def pathF : Nat → Tx → List Int → Option (List Int × Tx)
  | 0, r, p => some (p, r)
  | k + 1, r, p => if r = [] then some (p, r) else if pnumQ (befF 46 r) = 0 then some (p, r) else if 46 ∈ r ∧ aftF 46 r = [] then none else pathF k (aftF 46 r) (p ++ [pnumQ (befF 46 r)])
def pathQ (s : Tx) : Option (List Int × Tx) := pathF s.length s []
def innQ (l : Tx) : Tx := Lib.trimSuffix (Lib.trimPrefix l [40]) [41]
def splQ (t : Tx) : List Tx := (Lib.splitB ⟨#[32]⟩ 0 (Lib.countB ⟨t.toArray⟩ ⟨#[32]⟩) ⟨t.toArray⟩).map fun b => b.data.toList
def namesQ (s : Tx) : Option (List Tx) := if 32 ∈ s then (if (!Lib.hasPrefix (aftF 32 s) [40]) = true ∨ (!Lib.hasSuffix (Lib.trimPrefix (aftF 32 s) [40]) [41]) = true then none else some (splQ (innQ (aftF 32 s)))) else some []
def readQ (s : Tx) : Option Wnt := match namesQ s with
  | none => none
  | some l => match pathQ (befF 32 s) with
    | none => none
    | some (p, r) => if MayW ⟨p, greS r, l⟩ then some ⟨p, greS r, l⟩ else none
def wnt0 : Wnt := ⟨[], [], []⟩
theorem pathF_next {k : Nat} {r : Tx} {p : List Int} (h : ¬ r = []) (hk : r.length ≤ k) : ∃ k', k = k' + 1 ∧ pathF k r p = if pnumQ (befF 46 r) = 0 then some (p, r) else if 46 ∈ r ∧ aftF 46 r = [] then none else pathF k' (aftF 46 r) (p ++ [pnumQ (befF 46 r)]) := by
  cases k with
  | zero => exact absurd (List.length_eq_zero_iff.1 (by omega)) h
  | succ k => exact ⟨k, rfl, by rw [pathF, if_neg h]⟩
theorem pathF_end {k : Nat} {p : List Int} : pathF k [] p = some (p, []) := by
  cases k <;> simp [pathF]
theorem PI_append (a b : List Int) : PI (a ++ b) = PI a ++ PI b := by simp [PI]
theorem PI_one (l : List Int) : ∀ u ∈ PI l, u.oneCell' = true := by
  intro u hu
  obtain ⟨b, _, rfl⟩ := List.mem_map.1 hu
  rfl
theorem cutp_spec (a p : Tx) (w : World) : Calls Tryz.prog 80 #[encStr a, encStr p] w fun e w' => e = .returned (.tuple #[encStr (Lib.trimPrefix a p), .bool (Lib.hasPrefix a p)]) ∧ w = w' :=
  (Tryz.strings_CutPrefix ⟨a.toArray⟩ ⟨p.toArray⟩ w).mono fun e w' ⟨h1, h2⟩ => ⟨h1, h2.symm⟩
theorem cuts_spec (a p : Tx) (w : World) (ha : a.length ≤ 1000000) : Calls Tryz.prog 81 #[encStr a, encStr p] w fun e w' => e = .returned (.tuple #[encStr (Lib.trimSuffix a p), .bool (Lib.hasSuffix a p)]) ∧ w = w' :=
  (Tryz.strings_CutSuffix ⟨a.toArray⟩ ⟨p.toArray⟩ w (by show a.toArray.size ≤ _; simp; omega)).mono fun e w' ⟨h1, h2⟩ => ⟨h1, h2.symm⟩
theorem cnt_le (t : Tx) : Lib.countB ⟨t.toArray⟩ ⟨#[32]⟩ ≤ t.length := by
  have h := Lib.countB_le ⟨#[32]⟩ (by decide) _ ⟨t.toArray⟩ (Nat.le_refl _)
  have e : (⟨t.toArray⟩ : ByteArray).size = t.length := by show t.toArray.size = _; simp
  omega
theorem splB_len (sep : ByteArray) : ∀ (k : Nat) (s b : ByteArray), b ∈ Lib.splitB sep 0 k s → b.size ≤ s.size
  | 0, s, b, h => by
    rw [Lib.splitB_zero] at h
    simp only [List.mem_singleton] at h
    subst h
    exact Nat.le_refl _
  | k + 1, s, b, h => by
    rw [Lib.splitB] at h
    split at h
    · simp only [List.mem_singleton] at h
      subst h
      exact Nat.le_refl _
    · rcases List.mem_cons.1 h with h | h
      · subst h
        rw [ByteArray.size_extract]
        omega
      · have := splB_len sep k _ b h
        rw [ByteArray.size_extract] at this
        omega
theorem splQ_len (t : Tx) : (splQ t).length ≤ t.length + 1 ∧ ∀ x ∈ splQ t, x.length ≤ t.length := by
  have h1 := cnt_le t
  have e : (⟨t.toArray⟩ : ByteArray).size = t.length := by show t.toArray.size = _; simp
  refine ⟨by unfold splQ; rw [List.length_map, Lib.splitB_all _ (by decide) 0 _ _ rfl]; omega, fun x hx => ?_⟩
  obtain ⟨b, hb, rfl⟩ := List.mem_map.1 hx
  have := splB_len _ _ _ b hb
  have e2 : b.data.toList.length = b.size := by simp
  omega
theorem innQ_len (l : Tx) : (innQ l).length ≤ l.length ∧ (Lib.trimPrefix l [40]).length ≤ l.length := by
  have h1 : ∀ (a p : Tx), (Lib.trimPrefix a p).length ≤ a.length := fun a p => by unfold Lib.trimPrefix; split <;> simp
  have h2 : ∀ (a p : Tx), (Lib.trimSuffix a p).length ≤ a.length := fun a p => by unfold Lib.trimSuffix; split <;> simp
  have h3 := h1 l [40]
  have h4 := h2 (Lib.trimPrefix l [40]) [41]
  unfold innQ
  omega
theorem spl_spec (t : Tx) (w : World) (ht : t.length ≤ 1000000) (hv : LibV w) : Calls Tryz.prog 82 #[encStr t, encStr [32]] w fun e w' => Frm [] w w' ∧ ∃ A c, e = .returned (.slice A (splQ t).length c) ∧ Own w' 9 1 A (splQ t).length c (SB (splQ t)) ∧ ∀ x ∈ ob A, w.heap.size ≤ x := by
  obtain ⟨⟨m, hm⟩, _⟩ := hv
  refine (Tryz.strings_Split ⟨t.toArray⟩ ⟨#[32]⟩ m w (by show t.toArray.size < _; simp; omega) hm (by decide)).mono fun e w' ⟨h1, h2⟩ => ?_
  have hl : (splQ t).length = Lib.countB ⟨t.toArray⟩ ⟨#[32]⟩ + 1 := by unfold splQ; rw [List.length_map, Lib.splitB_all _ (by decide) 0 _ _ rfl]
  have hcs : ((Lib.splitB ⟨#[32]⟩ 0 (Lib.countB ⟨t.toArray⟩ ⟨#[32]⟩) ⟨t.toArray⟩).map Value.string).toArray.toList = SB (splQ t) := by
    unfold splQ SB
    rw [List.map_map]
    apply List.map_congr_left
    intro b _
    simp [encStr]
  have hb : Blk w' w.heap.size 9 ((Lib.splitB ⟨#[32]⟩ 0 (Lib.countB ⟨t.toArray⟩ ⟨#[32]⟩) ⟨t.toArray⟩).map Value.string).toArray := by
    rw [h2]
    exact heap_alloc_new w _
  have hcl := cnt_le t
  have hO := Own.of_blk (n := (splQ t).length) (size := 1) hb (by rw [List.size_toArray, List.length_map, hl, Lib.splitB_all _ (by decide) 0 _ _ rfl]; omega) (by rw [hl]; unfold maxLen; omega)
  rw [hcs] at hO
  refine ⟨h2 ▸ (Frm.refl [] w).alloc _, _, _, by rw [h1, hl], by rw [← hl]; exact hO, by simp [ob]⟩

set_option maxRecDepth 100000 in
theorem sread_spec (q : Tx) (w : World) (hs : q.length ≤ 500000) (hv : LibV w) :
    Calls Tryz.prog 46 #[encStr q] w fun e w' => Frm [] w w' ∧ ∃ (PA : Option Addr) (pc : Nat) (NA : Option Addr) (nc : Nat), e = .returned (.tuple #[.agg (WtC ((readQ q).getD wnt0) PA pc NA nc), .int .i64 (if (readQ q).isSome then 0 else 3)]) ∧ Own w' 3 1 PA ((readQ q).getD wnt0).path.length pc (PI ((readQ q).getD wnt0).path) ∧ Own w' 9 1 NA ((readQ q).getD wnt0).names.length nc (SB ((readQ q).getD wnt0).names) := by
  have hbl := bef_len 32 q
  have hil := innQ_len (aftF 32 q)
  refine VC.calls (nt := 77) (res := #[.cell 2 38, .tmp 3]) Tryz.func46 rfl Tryz.ntmps46 Tryz.results46 rfl ?_
  refine VC.seq ?_
  refine VC.region ?_
  refine Ops.m (Does.alloc zero38) rfl ?_
  rintro _ w1 ⟨rfl, hF1⟩
  have hb2 : Blk w1 w.heap.size 38 (WtC wnt0 none 0 none 0) := hF1.blk
  have K := hF1.frm
  have l2 := hb2.lt
  generalize hg2e : w.heap.size = g2 at hb2 l2 ⊢
  refine Ops.r (v := .int .i64 ((0 : Nat) : Int)) (Run.asg rfl) rfl ?_
  refine Ops.nil ?_
  refine thenQ_n ?_
  refine VC.sub [(0, _), (2, _)] (.cons rfl (.cons rfl .nil)) ?_
  refine VC.seq ?_
  refine VC.region ?_
  refine Ops.r (Run.build evs.nil zero38 (places38).choose_spec.1 (places38).choose_spec.2 rfl) rfl ?_
  refine Ops.m (Does.alloc zero38) rfl ?_
  rintro _ w2 ⟨rfl, hF2⟩
  have hb4 : Blk w2 w1.heap.size 38 (WtC wnt0 none 0 none 0) := hF2.blk
  have hb2 := hb2.frm hF2.frm (by simp)
  have K1 := K.size
  have K := K.trans hF2.frm (by simp)
  generalize hg4e : w1.heap.size = g4 at hb4 l2 K1 ⊢
  refine Ops.st (Acts.storeA rfl rfl Tryz.sizeOf38 hb4 rfl (WtC_one wnt0 none 0 none 0)) ?_
  rintro w3 ⟨hb4n, hf3, _⟩
  have hb4 : Blk w3 g4 38 (WtC wnt0 none 0 none 0) := hb4n
  have hb2 := hb2.frm hf3 (by simp; omega)
  have K := Frm.own K hf3 (fun y hy => by simp at hy; omega)
  refine Ops.nil ?_
  refine thenQ_n ?_
  refine VC.sub [(0, _), (2, _), (4, _)] (.cons rfl (.cons rfl (.cons rfl .nil))) ?_
  refine VC.seq ?_
  refine VC.region ?_
  refine Ops.r (Run.mv rfl) rfl ?_
  refine Ops.cl (Enters.fn (evs.cons rfl (evs.cons rfl evs.nil)) Tryz.call79) ((cut_spec q 32 _ (by omega))) rfl ?_
  rintro e w4 ⟨rfl, hf4⟩
  refine ⟨_, rfl, ?_⟩
  have hb2 := hb2.frm hf4 (by simp)
  have hb4 := hb4.frm hf4 (by simp)
  have K := K.trans hf4 (by simp)
  refine Ops.r (Run.mv rfl) rfl ?_
  refine Ops.r (Run.extract rfl rfl) rfl ?_
  refine Ops.r (Run.extract rfl rfl) rfl ?_
  refine Ops.r (Run.extract rfl rfl) rfl ?_
  refine Ops.r (Run.asg rfl) rfl ?_
  refine Ops.r (Run.asg rfl) rfl ?_
  refine Ops.r (Run.asg rfl) rfl ?_
  refine Ops.nil ?_
  refine thenQ_n ?_
  refine VC.sub [(0, _), (2, _), (4, _), (5, _), (6, _)] (.cons rfl (.cons rfl (.cons rfl (.cons rfl (.cons rfl .nil))))) ?_
  refine VC.seq ?_
  refine VC.seq ?_
  refine VC.region ?_
  refine Ops.r (Run.mv rfl) rfl ?_
  refine Ops.nil ?_
  refine thenQ_n ?_
  refine VC.sub [(0, _), (2, _), (4, _), (5, _), (22, _)] (.cons rfl (.cons rfl (.cons rfl (.cons rfl (.cons rfl .nil))))) ?_
  refine VC.meet (σ := List Tx × Option Addr × Nat) (fun s => [(0, encStr (befF 32 q)), (2, .pointer (some ⟨g2, 0, none⟩)), (4, .pointer (some ⟨g4, 0, none⟩))]) (fun s wr => namesQ q = some s.1 ∧ Blk wr g2 38 (WtC wnt0 none 0 none 0) ∧ Blk wr g4 38 (WtC ⟨[], [], s.1⟩ none 0 s.2.1 s.2.2) ∧ Own wr 9 1 s.2.1 s.1.length s.2.2 (SB s.1) ∧ Frm [] w wr ∧ s.1.length ≤ 1000000 ∧ (∀ x ∈ s.1, x.length ≤ 1000000) ∧ (∀ x ∈ ob s.2.1, w.heap.size ≤ x) ∧ g4 ∉ ob s.2.1 ∧ g2 < g4) ?_ ?_
  · skip
    refine VC.condB rfl (fun hc1 => ?_) (fun hc1 => ?_)
    · skip
      have hc1 := of_decide_eq_true hc1
      refine VC.seq ?_
      refine VC.region ?_
      refine Ops.r (Run.mv rfl) rfl ?_
      refine Ops.cl (Enters.fn (evs.cons rfl (evs.cons rfl evs.nil)) Tryz.call80) ((cutp_spec (aftF 32 q) [40] _)) rfl ?_
      rintro e _ ⟨rfl, rfl⟩
      refine ⟨_, rfl, ?_⟩
      refine Ops.r (Run.mv rfl) rfl ?_
      refine Ops.r (Run.extract rfl rfl) rfl ?_
      refine Ops.r (Run.extract rfl rfl) rfl ?_
      refine Ops.r (Run.asg rfl) rfl ?_
      refine Ops.r (Run.asg rfl) rfl ?_
      refine Ops.nil ?_
      refine thenQ_n ?_
      refine VC.sub [(0, _), (2, _), (4, _), (7, _), (8, _)] (.cons rfl (.cons rfl (.cons rfl (.cons rfl (.cons rfl .nil))))) ?_
      refine VC.seq ?_
      refine VC.region ?_
      refine Ops.r (Run.mv rfl) rfl ?_
      refine Ops.cl (Enters.fn (evs.cons rfl (evs.cons rfl evs.nil)) Tryz.call81) ((cuts_spec (Lib.trimPrefix (aftF 32 q) [40]) [41] _ (by omega))) rfl ?_
      rintro e _ ⟨rfl, rfl⟩
      refine ⟨_, rfl, ?_⟩
      refine Ops.r (Run.mv rfl) rfl ?_
      refine Ops.r (Run.extract rfl rfl) rfl ?_
      refine Ops.r (Run.extract rfl rfl) rfl ?_
      refine Ops.r (Run.asg rfl) rfl ?_
      refine Ops.r (Run.asg rfl) rfl ?_
      refine Ops.nil ?_
      refine thenQ_n ?_
      refine VC.sub [(0, _), (2, _), (4, _), (7, _), (8, _), (9, _)] (.cons rfl (.cons rfl (.cons rfl (.cons rfl (.cons rfl (.cons rfl .nil)))))) ?_
      refine VC.seq ?_
      refine VC.seq ?_
      refine VC.split1 [(0, _), (2, _), (4, _), (7, _)] (.cons rfl (.cons rfl (.cons rfl (.cons rfl .nil)))) 38 (.bool (decide ((!Lib.hasPrefix (aftF 32 q) [40]) = true ∨ (!Lib.hasSuffix (Lib.trimPrefix (aftF 32 q) [40]) [41]) = true))) ?_ ?_
      · refine VC.region ?_
        refine Ops.r (Run.mv rfl) rfl ?_
        refine Ops.r (Run.not rfl) rfl ?_
        by_cases hs34 : (!Lib.hasPrefix (aftF 32 q) [40]) = true
        · skip
          refine Ops.r (Run.mv rfl) rfl ?_
          refine Ops.sk rfl (by first | rfl | assumption | exact decide_eq_true (by assumption) | exact decide_eq_false (by assumption) | decide | (simp; done) | (simp; omega) | (simp [*]; done)) rfl ?_
          refine Ops.sk rfl (by first | rfl | assumption | exact decide_eq_true (by assumption) | exact decide_eq_false (by assumption) | decide | (simp; done) | (simp; omega) | (simp [*]; done)) rfl ?_
          refine Ops.r (Run.pickT rfl rfl (by first | rfl | assumption | exact decide_eq_true (by assumption) | exact decide_eq_false (by assumption) | decide | (simp; done) | (simp; omega) | (simp [*]; done))) rfl ?_
          refine Ops.nil ?_
          refine thenQ_n ⟨(.cons (congrArg (fun b => some (Value.bool b)) (by first | (simp_all; done))) (.cons rfl (.cons rfl (.cons rfl (.cons rfl .nil))))), rfl⟩
        · skip
          refine Ops.r (Run.mv rfl) rfl ?_
          refine Ops.rg rfl (by first | rfl | assumption | exact decide_eq_true (by assumption) | exact decide_eq_false (by assumption) | decide | (simp; done) | (simp; omega) | (simp [*]; done)) (Run.mv rfl) rfl ?_
          refine Ops.rg rfl (by first | rfl | assumption | exact decide_eq_true (by assumption) | exact decide_eq_false (by assumption) | decide | (simp; done) | (simp; omega) | (simp [*]; done)) (Run.not rfl) rfl ?_
          by_cases hs37 : (!Lib.hasSuffix (Lib.trimPrefix (aftF 32 q) [40]) [41]) = true
          · skip
            refine Ops.r (Run.pickF rfl rfl (by first | rfl | assumption | exact decide_eq_true (by assumption) | exact decide_eq_false (by assumption) | decide | (simp; done) | (simp; omega) | (simp [*]; done))) rfl ?_
            refine Ops.nil ?_
            refine thenQ_n ⟨(.cons (congrArg (fun b => some (Value.bool b)) (by first | (simp_all; done))) (.cons rfl (.cons rfl (.cons rfl (.cons rfl .nil))))), rfl⟩
          · skip
            refine Ops.r (Run.pickF rfl rfl (by first | rfl | assumption | exact decide_eq_true (by assumption) | exact decide_eq_false (by assumption) | decide | (simp; done) | (simp; omega) | (simp [*]; done))) rfl ?_
            refine Ops.nil ?_
            refine thenQ_n ⟨(.cons (congrArg (fun b => some (Value.bool b)) (by first | (simp_all; done))) (.cons rfl (.cons rfl (.cons rfl (.cons rfl .nil))))), rfl⟩
      · intro Γ hΓ
        refine thenQ_n (VC.sub _ hΓ ?_)
        refine VC.condD rfl (fun hc2 => ?_) (fun hc2 => ?_)
        · skip
          have hrq : readQ q = none := by unfold readQ namesQ; rw [if_pos hc1, if_pos hc2]
          refine VC.seq ?_
          refine VC.region ?_
          refine Ops.r (Run.build evs.nil zero38 (places38).choose_spec.1 (places38).choose_spec.2 rfl) rfl ?_
          refine Ops.st (Acts.storeA rfl rfl Tryz.sizeOf38 hb2 rfl (WtC_one wnt0 none 0 none 0)) ?_
          rintro Z1 ⟨hb2n, hfz, _⟩
          have hb2 : Blk Z1 g2 38 (WtC wnt0 none 0 none 0) := hb2n
          have K := Frm.own K hfz (fun y hy => by simp at hy; omega)
          refine Ops.r (v := .int .i64 ((3 : Nat) : Int)) (Run.asg rfl) rfl ?_
          refine Ops.nil ?_
          refine thenQ_n ?_
          refine VC.sub [(2, _), (3, _)] (.cons rfl (.cons rfl .nil)) ?_
          refine VC.ret ?_
          refine thenQ_r (thenQ_r (thenQ_r (endR ?_)))
          refine res_cellA rfl Tryz.isAgg38 Tryz.sizeOf38 (fun j v hj => hb2.cells j v hj) (by first | rfl | (simp; done)) ?_
          refine res_tmp rfl ?_
          refine res_nil ?_
          rw [hrq]
          exact ⟨K, none, 0, none, 0, rfl, Own.nil _ _ _, Own.nil _ _ _⟩
        · skip
          have hnq : namesQ q = some (splQ (innQ (aftF 32 q))) := by unfold namesQ; rw [if_pos hc1, if_neg hc2]
          refine VC.skip ?_
          refine thenQ_n ?_
          refine VC.sub [(0, _), (2, _), (4, _), (7, _)] (.cons rfl (.cons rfl (.cons rfl (.cons rfl .nil)))) ?_
          refine VC.region ?_
          refine Ops.r (Run.mv rfl) rfl ?_
          refine Ops.cl (Enters.fn (evs.cons rfl (evs.cons rfl evs.nil)) Tryz.call82) ((spl_spec (innQ (aftF 32 q)) _ (by omega) (hv.frm0 K))) rfl ?_
          rintro e w5 ⟨hf5, NA, nc, rfl, hN, hubN⟩
          refine ⟨_, rfl, ?_⟩
          have sK := K.size
          have hb2 := hb2.frm hf5 (by simp)
          have hb4 := hb4.frm hf5 (by simp)
          have K := K.trans hf5 (by simp)
          have hsp := splQ_len (innQ (aftF 32 q))
          refine Ops.r (Run.fieldAddr rfl Tryz.underlying38 rfl Tryz.sizeOf36 (by decide)) rfl ?_
          refine Ops.st (Acts.store rfl rfl Tryz.sizeOf36 hb4 rfl rfl) ?_
          rintro w6 ⟨hb4n, hf6, _⟩
          have hb4o := hb4
          have hb4 : Blk w6 g4 38 (WtC ⟨[], [], splQ (innQ (aftF 32 q))⟩ none 0 NA nc) := hb4n
          have hN := hN.frm hf6 (fun y hy => by have := hN.ne_blk hb4o (by decide); simp; rintro rfl; exact this hy)
          have hb2 := hb2.frm hf6 (by simp; omega)
          have K := Frm.own K hf6 (fun y hy => by simp at hy; omega)
          refine Ops.nil ?_
          refine thenQ_n ⟨(splQ (innQ (aftF 32 q)), NA, nc), (.cons rfl (.cons rfl (.cons rfl .nil))), ?_⟩
          exact ⟨hnq, hb2, hb4, hN, K, by show (splQ (innQ (aftF 32 q))).length ≤ 1000000; omega, fun x hx => by have := hsp.2 x hx; omega, fun x hx => by have := hubN x hx; omega, hN.ne_blk hb4 (by decide), by omega⟩
    · skip
      have hc1 := of_decide_eq_false hc1
      have hnq : namesQ q = some [] := by unfold namesQ; rw [if_neg hc1]
      refine VC.skip ?_
      refine thenQ_n ⟨([], none, 0), (.cons rfl (.cons rfl (.cons rfl .nil))), ?_⟩
      exact ⟨hnq, hb2, hb4, Own.nil _ _ _, K, by simp, by simp, by simp [ob], by simp [ob], by omega⟩
  · skip
    rintro ⟨names, NA, nc⟩ w7 ⟨hnq, hb2, hb4, hN, K, hnl, hns, hubN, hg4N, hg24⟩ Γ hΓ
    dsimp only at hnq hb4 hN hnl hns hubN hg4N
    have lb4 := hb4.lt
    refine thenQ_n (VC.sub _ hΓ ?_)
    refine VC.seq ?_
    refine VC.region ?_
    refine Ops.r (Run.mv rfl) rfl ?_
    refine Ops.r (Run.asg rfl) rfl ?_
    refine Ops.nil ?_
    refine thenQ_n ?_
    refine VC.sub [(2, _), (4, _), (10, _)] (.cons rfl (.cons rfl (.cons rfl .nil))) ?_
    refine VC.seq ?_
    refine VC.block ?_
    refine VC.loop (σ := Tx × List Int × Option Addr × Nat) (fun s => [(2, .pointer (some ⟨g2, 0, none⟩)), (4, .pointer (some ⟨g4, 0, none⟩)), (10, encStr s.1)]) (fun s wr => (∃ k, s.1.length ≤ k ∧ pathF k s.1 s.2.1 = pathQ (befF 32 q)) ∧ s.1.length + s.2.1.length ≤ 1000000 ∧ Blk wr g2 38 (WtC wnt0 none 0 none 0) ∧ Blk wr g4 38 (WtC ⟨s.2.1, [], names⟩ s.2.2.1 s.2.2.2 NA nc) ∧ Own wr 3 1 s.2.2.1 s.2.1.length s.2.2.2 (PI s.2.1) ∧ Own wr 9 1 NA names.length nc (SB names) ∧ Frm [] w wr ∧ (∀ x ∈ ob s.2.2.1, w.heap.size ≤ x ∧ x ≠ g4 ∧ x ≠ g2)) (fun s => s.1.length) (befF 32 q, [], none, 0) (.cons rfl (.cons rfl (.cons rfl .nil))) ⟨⟨_, Nat.le_refl _, rfl⟩, by simp; omega, hb2, hb4, Own.nil _ _ _, hN, K, by simp [ob]⟩ ?_
    rintro ⟨r, p, PA, pc⟩ W ⟨⟨k, hk, hpq⟩, hrl, hb2, hb4, hPI, hN, K, hubP⟩
    dsimp only at hk hpq hrl hb4 hPI hubP ⊢
    have hbr := bef_len 46 r
    refine VC.seq ?_
    refine VC.seq ?_
    refine VC.region ?_
    refine Ops.r (Run.mv rfl) rfl ?_
    refine Ops.r (Run.neqT rfl rfl) rfl ?_
    refine Ops.nil ?_
    refine thenQ_n ?_
    refine VC.sub [(2, _), (4, _), (10, _), (45, _)] (.cons rfl (.cons rfl (.cons rfl (.cons rfl .nil)))) ?_
    refine VC.condD rfl (fun hc3 => ?_) (fun hc3 => ?_)
    · skip
      obtain ⟨k2, rfl, hst⟩ := pathF_next hc3 hk
      rw [hpq] at hst
      have halt := aft_lt (c := 46) hc3
      refine VC.skip ?_
      refine thenQ_n ?_
      refine VC.sub [(2, _), (4, _), (10, _)] (.cons rfl (.cons rfl (.cons rfl .nil))) ?_
      refine VC.block ?_
      refine VC.seq ?_
      refine VC.region ?_
      refine Ops.r (Run.mv rfl) rfl ?_
      refine Ops.cl (Enters.fn (evs.cons rfl (evs.cons rfl evs.nil)) Tryz.call79) ((cut_spec r 46 _ (by omega))) rfl ?_
      rintro e W1 ⟨rfl, hf1⟩
      refine ⟨_, rfl, ?_⟩
      have hb2 := hb2.frm hf1 (by simp)
      have hb4 := hb4.frm hf1 (by simp)
      have hPI := hPI.frm hf1 (by simp)
      have hN := hN.frm hf1 (by simp)
      have K := K.trans hf1 (by simp)
      refine Ops.r (Run.mv rfl) rfl ?_
      refine Ops.r (Run.extract rfl rfl) rfl ?_
      refine Ops.r (Run.extract rfl rfl) rfl ?_
      refine Ops.r (Run.extract rfl rfl) rfl ?_
      refine Ops.r (Run.asg rfl) rfl ?_
      refine Ops.r (Run.asg rfl) rfl ?_
      refine Ops.r (Run.asg rfl) rfl ?_
      refine Ops.nil ?_
      refine thenQ_n ?_
      refine VC.sub [(2, _), (4, _), (10, _), (11, _), (12, _), (13, _)] (.cons rfl (.cons rfl (.cons rfl (.cons rfl (.cons rfl (.cons rfl .nil)))))) ?_
      refine VC.seq ?_
      refine VC.region ?_
      refine Ops.r (Run.mv rfl) rfl ?_
      refine Ops.cl (Enters.fn (evs.cons rfl evs.nil) Tryz.call83) ((number_spec (befF 46 r) _ (by omega) (hv.frm0 K))) rfl ?_
      rintro e W2 ⟨rfl, hf2⟩
      refine ⟨_, rfl, ?_⟩
      have hb2 := hb2.frm hf2 (by simp)
      have hb4 := hb4.frm hf2 (by simp)
      have hPI := hPI.frm hf2 (by simp)
      have hN := hN.frm hf2 (by simp)
      have K := K.trans hf2 (by simp)
      refine Ops.r (Run.asg rfl) rfl ?_
      refine Ops.nil ?_
      refine thenQ_n ?_
      refine VC.sub [(2, _), (4, _), (10, _), (12, _), (13, _), (14, _)] (.cons rfl (.cons rfl (.cons rfl (.cons rfl (.cons rfl (.cons rfl .nil)))))) ?_
      refine VC.seq ?_
      refine VC.seq ?_
      refine VC.region ?_
      refine Ops.r (Run.mv rfl) rfl ?_
      refine Ops.r (Run.bin rfl rfl (Bin.eql _ 0)) rfl ?_
      refine Ops.nil ?_
      refine thenQ_n ?_
      refine VC.sub [(2, _), (4, _), (10, _), (12, _), (13, _), (14, _), (55, _)] (.cons rfl (.cons rfl (.cons rfl (.cons rfl (.cons rfl (.cons rfl (.cons rfl .nil))))))) ?_
      refine VC.condD rfl (fun hc4 => ?_) (fun hc4 => ?_)
      · skip
        have hfin : pathQ (befF 32 q) = some (p, r) := by rw [hst, if_pos hc4]
        refine VC.exit ?_
        refine thenQ_x (blockQ_o rfl (thenQ_x (blockQ_x ?_)))
        refine thenQ_n ?_
        refine VC.sub [(2, _), (4, _), (10, _)] (.cons rfl (.cons rfl (.cons rfl .nil))) ?_
        refine VC.seq ?_
        refine VC.region ?_
        refine Ops.r (Run.mv rfl) rfl ?_
        refine Ops.cl (Enters.fn (evs.cons rfl evs.nil) Tryz.call84) ((great_spec r _ (by omega))) rfl ?_
        rintro e V1 ⟨rfl, hf1⟩
        refine ⟨_, rfl, ?_⟩
        have hb2 := hb2.frm hf1 (by simp)
        have hb4 := hb4.frm hf1 (by simp)
        have hPI := hPI.frm hf1 (by simp)
        have hN := hN.frm hf1 (by simp)
        have K := K.trans hf1 (by simp)
        refine Ops.r (Run.fieldAddr rfl Tryz.underlying38 rfl Tryz.sizeOf9 (by decide)) rfl ?_
        refine Ops.st (Acts.store rfl rfl Tryz.sizeOf9 hb4 rfl rfl) ?_
        rintro V2 ⟨hb4n, hf2, _⟩
        have hb4 : Blk V2 g4 38 (WtC ⟨p, greS r, names⟩ PA pc NA nc) := hb4n
        have hPI := hPI.frm hf2 (fun y hy => by have := hubP y hy; simp; exact this.2.1)
        have hN := hN.frm hf2 (fun y hy => by simp; rintro rfl; exact hg4N hy)
        have hb2 := hb2.frm hf2 (by simp; omega)
        have K := Frm.own K hf2 (fun y hy => by simp at hy; omega)
        obtain ⟨v, hvv⟩ : ∃ v : Wnt, v = ⟨p, greS r, names⟩ := ⟨_, rfl⟩
        have hrq : readQ q = if MayW v then some v else none := by unfold readQ; rw [hnq]; dsimp only; rw [hfin, hvv]
        rw [← hvv] at hb4
        refine Ops.nil ?_
        refine thenQ_n ?_
        refine VC.sub [(2, _), (4, _)] (.cons rfl (.cons rfl .nil)) ?_
        refine VC.seq ?_
        refine VC.seq ?_
        refine VC.region ?_
        refine Ops.r (Run.loadA rfl Tryz.isAgg38 Tryz.sizeOf38 (fun j v hj => hb4.cells j v hj) (by first | rfl | (simp; done))) rfl ?_
        refine Ops.cl (Enters.fn (evs.cons rfl evs.nil) Tryz.call42) ((may_spec v PA NA pc nc _ (by rw [hvv]; exact hPI.rd) (by rw [hvv]; show p.length ≤ 1000000; omega) (by rw [hvv]; exact hN.rd) (by rw [hvv]; exact hnl) (by rw [hvv]; exact hns))) rfl ?_
        rintro e V3 ⟨rfl, hf3⟩
        refine ⟨_, rfl, ?_⟩
        have hb2 := hb2.frm hf3 (by simp)
        have hb4 := hb4.frm hf3 (by simp)
        have hPI := hPI.frm hf3 (by simp)
        have hN := hN.frm hf3 (by simp)
        have K := K.trans hf3 (by simp)
        refine Ops.r (Run.not rfl) rfl ?_
        rw [not_dec]
        refine Ops.nil ?_
        refine thenQ_n ?_
        refine VC.sub [(2, _), (4, _), (74, _)] (.cons rfl (.cons rfl (.cons rfl .nil))) ?_
        refine VC.condB rfl (fun hc6 => ?_) (fun hc6 => ?_)
        · skip
          rw [if_neg (of_decide_eq_true hc6)] at hrq
          refine VC.seq ?_
          refine VC.region ?_
          refine Ops.r (Run.build evs.nil zero38 (places38).choose_spec.1 (places38).choose_spec.2 rfl) rfl ?_
          refine Ops.st (Acts.storeA rfl rfl Tryz.sizeOf38 hb2 rfl (WtC_one wnt0 none 0 none 0)) ?_
          rintro Z1 ⟨hb2n, hfz, _⟩
          have hb2 : Blk Z1 g2 38 (WtC wnt0 none 0 none 0) := hb2n
          have K := Frm.own K hfz (fun y hy => by simp at hy; omega)
          refine Ops.r (v := .int .i64 ((3 : Nat) : Int)) (Run.asg rfl) rfl ?_
          refine Ops.nil ?_
          refine thenQ_n ?_
          refine VC.sub [(2, _), (3, _)] (.cons rfl (.cons rfl .nil)) ?_
          refine VC.ret ?_
          refine thenQ_r (endR ?_)
          refine res_cellA rfl Tryz.isAgg38 Tryz.sizeOf38 (fun j v hj => hb2.cells j v hj) (by first | rfl | (simp; done)) ?_
          refine res_tmp rfl ?_
          refine res_nil ?_
          rw [hrq]
          exact ⟨K, none, 0, none, 0, rfl, Own.nil _ _ _, Own.nil _ _ _⟩
        · skip
          rw [if_pos (Classical.byContradiction fun h => of_decide_eq_false hc6 h)] at hrq
          refine VC.skip ?_
          refine thenQ_n ?_
          refine VC.sub [(2, _), (4, _)] (.cons rfl (.cons rfl .nil)) ?_
          refine VC.seq ?_
          refine VC.region ?_
          refine Ops.r (Run.loadA rfl Tryz.isAgg38 Tryz.sizeOf38 (fun j v hj => hb4.cells j v hj) (by first | rfl | (simp; done))) rfl ?_
          have hb2o := hb2
          refine Ops.st (Acts.storeA rfl rfl Tryz.sizeOf38 hb2 rfl (WtC_one v PA pc NA nc)) ?_
          rintro V4 ⟨hb2n, hf4, _⟩
          have hb2 : Blk V4 g2 38 (WtC v PA pc NA nc) := hb2n
          have hPI := hPI.frm hf4 (fun y hy => by have := hubP y hy; simp; exact this.2.2)
          have hN := hN.frm hf4 (fun y hy => by have := hN.ne_blk hb2o (by decide); simp; rintro rfl; exact this hy)
          have K := Frm.own K hf4 (fun y hy => by simp at hy; omega)
          refine Ops.r (v := .int .i64 ((0 : Nat) : Int)) (Run.asg rfl) rfl ?_
          refine Ops.nil ?_
          refine thenQ_n ?_
          refine VC.sub [(2, _), (3, _)] (.cons rfl (.cons rfl .nil)) ?_
          refine VC.ret ?_
          refine endR ?_
          refine res_cellA rfl Tryz.isAgg38 Tryz.sizeOf38 (fun j v hj => hb2.cells j v hj) (by first | rfl | (simp; done)) ?_
          refine res_tmp rfl ?_
          refine res_nil ?_
          rw [hrq]
          exact ⟨K, PA, pc, NA, nc, rfl, by rw [hvv] at hb2 ⊢; exact hPI, by rw [hvv]; exact hN⟩
      · skip
        rw [if_neg hc4] at hst
        refine VC.skip ?_
        refine thenQ_n ?_
        refine VC.sub [(2, _), (4, _), (12, _), (13, _), (14, _)] (.cons rfl (.cons rfl (.cons rfl (.cons rfl (.cons rfl .nil))))) ?_
        refine VC.seq ?_
        refine VC.region ?_
        refine Ops.r (Run.fieldAddr rfl Tryz.underlying38 rfl Tryz.sizeOf33 (by decide)) rfl ?_
        refine Ops.r (Run.load rfl Tryz.isAgg33 (show _ = some (Value.slice PA p.length pc) from hb4.cell 0)) rfl ?_
        refine Ops.r (Run.mv rfl) rfl ?_
        refine Ops.m (Does.buildS1 rfl Tryz.underlying33 Tryz.sizeOf3 zero3 (by decide) (by decide) rfl rfl) rfl ?_
        rintro _ W3 ⟨rfl, hF3⟩
        have hrd3 : Rd W3 1 (some ⟨_, 0, none⟩) 1 (PI [pnumQ (befF 46 r)]) := Rd.of_blk (n := 1) (size := 1) hF3.blk rfl
        have hb2 := hb2.frm hF3.frm (by simp)
        have hb4 := hb4.frm hF3.frm (by simp)
        have hPI := hPI.frm hF3.frm (by simp)
        have hN := hN.frm hF3.frm (by simp)
        have K := K.trans hF3.frm (by simp)
        refine Ops.m (Does.app rfl rfl Tryz.underlying33 (info3) rfl (by decide) hPI hrd3 (PI_one _) (by omega) (by omega)) rfl ?_
        rintro _ W4 ⟨PA2, pc2, rfl, hPI2, hf4, hob4⟩
        rw [← PI_append] at hPI2
        have l43 := hb4.lt
        have hb2 := hb2.frm hf4 (fun hm => (hubP _ hm).2.2 rfl)
        have hb4 := hb4.frm hf4 (fun hm => (hubP _ hm).2.1 rfl)
        have hN := hN.own' hf4 hPI (by decide)
        have sK3 := K.size
        have lb43 := hb4.lt
        have K := Frm.own K hf4 (fun y hy => (hubP y hy).1)
        have hubP2 : ∀ x ∈ ob PA2, w.heap.size ≤ x ∧ x ≠ g4 ∧ x ≠ g2 := fun x hx => by
          rcases hob4 with h | h
          · rw [h] at hx; exact hubP x hx
          · rw [h] at hx; simp only [List.mem_singleton] at hx; omega
        refine Ops.r (Run.fieldAddr rfl Tryz.underlying38 rfl Tryz.sizeOf33 (by decide)) rfl ?_
        refine Ops.st (Acts.store rfl rfl Tryz.sizeOf33 hb4 rfl rfl) ?_
        rintro W5 ⟨hb4n, hf5, _⟩
        have hb4o := hb4
        have hPI := hPI2.frm hf5 (fun y hy => by have := hubP2 y hy; simp; exact this.2.1)
        have hpl : (p ++ [pnumQ (befF 46 r)]).length = p.length + 1 := by simp
        rw [← hpl] at hPI
        have hb4 : Blk W5 g4 38 (WtC ⟨p ++ [pnumQ (befF 46 r)], [], names⟩ PA2 pc2 NA nc) := by unfold WtC; rw [hpl]; exact hb4n
        have hN := hN.frm hf5 (fun y hy => by simp; rintro rfl; exact hg4N hy)
        have hb2 := hb2.frm hf5 (by simp; omega)
        have K := Frm.own K hf5 (fun y hy => by simp at hy; omega)
        refine Ops.nil ?_
        refine thenQ_n ?_
        refine VC.sub [(2, _), (4, _), (12, _), (13, _)] (.cons rfl (.cons rfl (.cons rfl (.cons rfl .nil)))) ?_
        refine VC.seq ?_
        refine VC.region ?_
        refine Ops.r (Run.mv rfl) rfl ?_
        refine Ops.r (Run.asg rfl) rfl ?_
        refine Ops.nil ?_
        refine thenQ_n ?_
        refine VC.sub [(2, _), (4, _), (10, _), (13, _)] (.cons rfl (.cons rfl (.cons rfl (.cons rfl .nil)))) ?_
        refine VC.seq ?_
        refine VC.split1 [(2, _), (4, _), (10, _)] (.cons rfl (.cons rfl (.cons rfl .nil))) 67 (.bool (decide (46 ∈ r ∧ aftF 46 r = []))) ?_ ?_
        · refine VC.region ?_
          refine Ops.r (Run.mv rfl) rfl ?_
          refine Ops.r (Run.mv rfl) rfl ?_
          by_cases hs64 : 46 ∈ r
          · skip
            refine Ops.rg rfl (by first | rfl | assumption | exact decide_eq_true (by assumption) | exact decide_eq_false (by assumption) | decide | (simp; done) | (simp; omega) | (simp [*]; done)) (Run.mv rfl) rfl ?_
            refine Ops.rg rfl (by first | rfl | assumption | exact decide_eq_true (by assumption) | exact decide_eq_false (by assumption) | decide | (simp; done) | (simp; omega) | (simp [*]; done)) (Run.eqlT rfl rfl) rfl ?_
            by_cases hs66 : aftF 46 r = []
            · skip
              refine Ops.r (Run.pickT rfl rfl (by first | rfl | assumption | exact decide_eq_true (by assumption) | exact decide_eq_false (by assumption) | decide | (simp; done) | (simp; omega) | (simp [*]; done))) rfl ?_
              refine Ops.nil ?_
              refine thenQ_n ⟨(.cons (congrArg (fun b => some (Value.bool b)) (by first | exact (decide_eq_true hs66).trans (decide_eq_true ⟨hs64, hs66⟩).symm | exact (decide_eq_false hs66).trans (decide_eq_false (show ¬ (46 ∈ r ∧ aftF 46 r = []) from fun h => hs66 h.2)).symm | exact (decide_eq_false (show ¬ (46 ∈ r ∧ aftF 46 r = []) from fun h => hs64 h.1)).symm | exact (decide_eq_false hs64).trans (decide_eq_false (show ¬ (46 ∈ r ∧ aftF 46 r = []) from fun h => hs64 h.1)).symm)) (.cons rfl (.cons rfl (.cons rfl .nil)))), rfl⟩
            · skip
              refine Ops.r (Run.pickT rfl rfl (by first | rfl | assumption | exact decide_eq_true (by assumption) | exact decide_eq_false (by assumption) | decide | (simp; done) | (simp; omega) | (simp [*]; done))) rfl ?_
              refine Ops.nil ?_
              refine thenQ_n ⟨(.cons (congrArg (fun b => some (Value.bool b)) (by first | exact (decide_eq_true hs66).trans (decide_eq_true ⟨hs64, hs66⟩).symm | exact (decide_eq_false hs66).trans (decide_eq_false (show ¬ (46 ∈ r ∧ aftF 46 r = []) from fun h => hs66 h.2)).symm | exact (decide_eq_false (show ¬ (46 ∈ r ∧ aftF 46 r = []) from fun h => hs64 h.1)).symm | exact (decide_eq_false hs64).trans (decide_eq_false (show ¬ (46 ∈ r ∧ aftF 46 r = []) from fun h => hs64 h.1)).symm)) (.cons rfl (.cons rfl (.cons rfl .nil)))), rfl⟩
          · skip
            refine Ops.sk rfl (by first | rfl | assumption | exact decide_eq_true (by assumption) | exact decide_eq_false (by assumption) | decide | (simp; done) | (simp; omega) | (simp [*]; done)) rfl ?_
            refine Ops.sk rfl (by first | rfl | assumption | exact decide_eq_true (by assumption) | exact decide_eq_false (by assumption) | decide | (simp; done) | (simp; omega) | (simp [*]; done)) rfl ?_
            refine Ops.r (Run.pickF rfl rfl (by first | rfl | assumption | exact decide_eq_true (by assumption) | exact decide_eq_false (by assumption) | decide | (simp; done) | (simp; omega) | (simp [*]; done))) rfl ?_
            refine Ops.nil ?_
            refine thenQ_n ⟨(.cons (congrArg (fun b => some (Value.bool b)) (by first | exact (decide_eq_true hs66).trans (decide_eq_true ⟨hs64, hs66⟩).symm | exact (decide_eq_false hs66).trans (decide_eq_false (show ¬ (46 ∈ r ∧ aftF 46 r = []) from fun h => hs66 h.2)).symm | exact (decide_eq_false (show ¬ (46 ∈ r ∧ aftF 46 r = []) from fun h => hs64 h.1)).symm | exact (decide_eq_false hs64).trans (decide_eq_false (show ¬ (46 ∈ r ∧ aftF 46 r = []) from fun h => hs64 h.1)).symm)) (.cons rfl (.cons rfl (.cons rfl .nil)))), rfl⟩
        · intro Γ hΓ
          refine thenQ_n (VC.sub _ hΓ ?_)
          refine VC.condD rfl (fun hc5 => ?_) (fun hc5 => ?_)
          · skip
            rw [if_pos hc5] at hst
            have hrq : readQ q = none := by unfold readQ; rw [hnq]; dsimp only; rw [hst]
            refine VC.seq ?_
            refine VC.region ?_
            refine Ops.r (Run.build evs.nil zero38 (places38).choose_spec.1 (places38).choose_spec.2 rfl) rfl ?_
            refine Ops.st (Acts.storeA rfl rfl Tryz.sizeOf38 hb2 rfl (WtC_one wnt0 none 0 none 0)) ?_
            rintro Z1 ⟨hb2n, hfz, _⟩
            have hb2 : Blk Z1 g2 38 (WtC wnt0 none 0 none 0) := hb2n
            have K := Frm.own K hfz (fun y hy => by simp at hy; omega)
            refine Ops.r (v := .int .i64 ((3 : Nat) : Int)) (Run.asg rfl) rfl ?_
            refine Ops.nil ?_
            refine thenQ_n ?_
            refine VC.sub [(2, _), (3, _)] (.cons rfl (.cons rfl .nil)) ?_
            refine VC.ret ?_
            refine blockQ_r (thenQ_r (blockQ_r (thenQ_r (endR ?_))))
            refine res_cellA rfl Tryz.isAgg38 Tryz.sizeOf38 (fun j v hj => hb2.cells j v hj) (by first | rfl | (simp; done)) ?_
            refine res_tmp rfl ?_
            refine res_nil ?_
            rw [hrq]
            exact ⟨K, none, 0, none, 0, rfl, Own.nil _ _ _, Own.nil _ _ _⟩
          · skip
            rw [if_neg hc5] at hst
            refine VC.skip ?_
            refine blockQ_n (thenQ_n ⟨(aftF 46 r, p ++ [pnumQ (befF 46 r)], PA2, pc2), (.cons rfl (.cons rfl (.cons rfl .nil))), ?_, ?_⟩)
            · skip
              exact ⟨⟨k2, by show (aftF 46 r).length ≤ k2; omega, hst.symm⟩, by show (aftF 46 r).length + (p ++ [pnumQ (befF 46 r)]).length ≤ 1000000; omega, hb2, hb4, hPI, hN, K, hubP2⟩
            · skip
              first | omega | (dsimp only; omega)
    · skip
      have hr0 : r = [] := Classical.byContradiction hc3
      subst hr0
      have hfin : pathQ (befF 32 q) = some (p, []) := by rw [← hpq, pathF_end]
      refine VC.exit ?_
      refine thenQ_x (thenQ_x (blockQ_x ?_))
      refine thenQ_n ?_
      refine VC.sub [(2, _), (4, _), (10, _)] (.cons rfl (.cons rfl (.cons rfl .nil))) ?_
      refine VC.seq ?_
      refine VC.region ?_
      refine Ops.r (Run.mv rfl) rfl ?_
      refine Ops.cl (Enters.fn (evs.cons rfl evs.nil) Tryz.call84) ((great_spec [] _ (by simp))) rfl ?_
      rintro e V1 ⟨rfl, hf1⟩
      refine ⟨_, rfl, ?_⟩
      have hb2 := hb2.frm hf1 (by simp)
      have hb4 := hb4.frm hf1 (by simp)
      have hPI := hPI.frm hf1 (by simp)
      have hN := hN.frm hf1 (by simp)
      have K := K.trans hf1 (by simp)
      refine Ops.r (Run.fieldAddr rfl Tryz.underlying38 rfl Tryz.sizeOf9 (by decide)) rfl ?_
      refine Ops.st (Acts.store rfl rfl Tryz.sizeOf9 hb4 rfl rfl) ?_
      rintro V2 ⟨hb4n, hf2, _⟩
      have hb4 : Blk V2 g4 38 (WtC ⟨p, greS [], names⟩ PA pc NA nc) := hb4n
      have hPI := hPI.frm hf2 (fun y hy => by have := hubP y hy; simp; exact this.2.1)
      have hN := hN.frm hf2 (fun y hy => by simp; rintro rfl; exact hg4N hy)
      have hb2 := hb2.frm hf2 (by simp; omega)
      have K := Frm.own K hf2 (fun y hy => by simp at hy; omega)
      obtain ⟨v, hvv⟩ : ∃ v : Wnt, v = ⟨p, greS [], names⟩ := ⟨_, rfl⟩
      have hrq : readQ q = if MayW v then some v else none := by unfold readQ; rw [hnq]; dsimp only; rw [hfin, hvv]
      rw [← hvv] at hb4
      refine Ops.nil ?_
      refine thenQ_n ?_
      refine VC.sub [(2, _), (4, _)] (.cons rfl (.cons rfl .nil)) ?_
      refine VC.seq ?_
      refine VC.seq ?_
      refine VC.region ?_
      refine Ops.r (Run.loadA rfl Tryz.isAgg38 Tryz.sizeOf38 (fun j v hj => hb4.cells j v hj) (by first | rfl | (simp; done))) rfl ?_
      refine Ops.cl (Enters.fn (evs.cons rfl evs.nil) Tryz.call42) ((may_spec v PA NA pc nc _ (by rw [hvv]; exact hPI.rd) (by rw [hvv]; show p.length ≤ 1000000; omega) (by rw [hvv]; exact hN.rd) (by rw [hvv]; exact hnl) (by rw [hvv]; exact hns))) rfl ?_
      rintro e V3 ⟨rfl, hf3⟩
      refine ⟨_, rfl, ?_⟩
      have hb2 := hb2.frm hf3 (by simp)
      have hb4 := hb4.frm hf3 (by simp)
      have hPI := hPI.frm hf3 (by simp)
      have hN := hN.frm hf3 (by simp)
      have K := K.trans hf3 (by simp)
      refine Ops.r (Run.not rfl) rfl ?_
      rw [not_dec]
      refine Ops.nil ?_
      refine thenQ_n ?_
      refine VC.sub [(2, _), (4, _), (74, _)] (.cons rfl (.cons rfl (.cons rfl .nil))) ?_
      refine VC.condB rfl (fun hc6 => ?_) (fun hc6 => ?_)
      · skip
        rw [if_neg (of_decide_eq_true hc6)] at hrq
        refine VC.seq ?_
        refine VC.region ?_
        refine Ops.r (Run.build evs.nil zero38 (places38).choose_spec.1 (places38).choose_spec.2 rfl) rfl ?_
        refine Ops.st (Acts.storeA rfl rfl Tryz.sizeOf38 hb2 rfl (WtC_one wnt0 none 0 none 0)) ?_
        rintro Z1 ⟨hb2n, hfz, _⟩
        have hb2 : Blk Z1 g2 38 (WtC wnt0 none 0 none 0) := hb2n
        have K := Frm.own K hfz (fun y hy => by simp at hy; omega)
        refine Ops.r (v := .int .i64 ((3 : Nat) : Int)) (Run.asg rfl) rfl ?_
        refine Ops.nil ?_
        refine thenQ_n ?_
        refine VC.sub [(2, _), (3, _)] (.cons rfl (.cons rfl .nil)) ?_
        refine VC.ret ?_
        refine thenQ_r (endR ?_)
        refine res_cellA rfl Tryz.isAgg38 Tryz.sizeOf38 (fun j v hj => hb2.cells j v hj) (by first | rfl | (simp; done)) ?_
        refine res_tmp rfl ?_
        refine res_nil ?_
        rw [hrq]
        exact ⟨K, none, 0, none, 0, rfl, Own.nil _ _ _, Own.nil _ _ _⟩
      · skip
        rw [if_pos (Classical.byContradiction fun h => of_decide_eq_false hc6 h)] at hrq
        refine VC.skip ?_
        refine thenQ_n ?_
        refine VC.sub [(2, _), (4, _)] (.cons rfl (.cons rfl .nil)) ?_
        refine VC.seq ?_
        refine VC.region ?_
        refine Ops.r (Run.loadA rfl Tryz.isAgg38 Tryz.sizeOf38 (fun j v hj => hb4.cells j v hj) (by first | rfl | (simp; done))) rfl ?_
        have hb2o := hb2
        refine Ops.st (Acts.storeA rfl rfl Tryz.sizeOf38 hb2 rfl (WtC_one v PA pc NA nc)) ?_
        rintro V4 ⟨hb2n, hf4, _⟩
        have hb2 : Blk V4 g2 38 (WtC v PA pc NA nc) := hb2n
        have hPI := hPI.frm hf4 (fun y hy => by have := hubP y hy; simp; exact this.2.2)
        have hN := hN.frm hf4 (fun y hy => by have := hN.ne_blk hb2o (by decide); simp; rintro rfl; exact this hy)
        have K := Frm.own K hf4 (fun y hy => by simp at hy; omega)
        refine Ops.r (v := .int .i64 ((0 : Nat) : Int)) (Run.asg rfl) rfl ?_
        refine Ops.nil ?_
        refine thenQ_n ?_
        refine VC.sub [(2, _), (3, _)] (.cons rfl (.cons rfl .nil)) ?_
        refine VC.ret ?_
        refine endR ?_
        refine res_cellA rfl Tryz.isAgg38 Tryz.sizeOf38 (fun j v hj => hb2.cells j v hj) (by first | rfl | (simp; done)) ?_
        refine res_tmp rfl ?_
        refine res_nil ?_
        rw [hrq]
        exact ⟨K, PA, pc, NA, nc, rfl, by rw [hvv] at hb2 ⊢; exact hPI, by rw [hvv]; exact hN⟩

end Go.Proofs.YtenbjndldenkfaaGreatDoor
