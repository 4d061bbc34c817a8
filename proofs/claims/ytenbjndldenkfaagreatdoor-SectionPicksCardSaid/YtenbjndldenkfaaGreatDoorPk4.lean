/-
  Lemmas on the way, joined: SecN, SecM, SecL0, SecK, SecG, SecF, SecE.
-/
import Derived.Test.YtenbjndldenkfaaGreatDoorPk3
namespace Go.Proofs.YtenbjndldenkfaaGreatDoor
open Go.RowKit Go.Sort

theorem aft_lt {c : UInt8} {s : Tx} (h : ¬ s = []) : (aftF c s).length < s.length := by
  cases s with
  | nil => exact absurd rfl h
  | cons x r =>
    unfold aftF
    have := (bef_len c r).2
    split <;> simp <;> omega
/-- The numbers of a path, and what stands behind them; none: nothing stands behind the last point. -/
def pathF : Nat → Tx → List Int → Option (List Int × Tx)
  | 0, r, p => some (p, r)
  | k + 1, r, p => if r = [] then some (p, r) else if pnumQ (befF 46 r) = 0 then some (p, r) else if 46 ∈ r ∧ aftF 46 r = [] then none else pathF k (aftF 46 r) (p ++ [pnumQ (befF 46 r)])
def pathQ (s : Tx) : Option (List Int × Tx) := pathF s.length s []
def innQ (l : Tx) : Tx := Lib.trimSuffix (Lib.trimPrefix l [40]) [41]
def splQ (t : Tx) : List Tx := (Lib.splitB ⟨#[32]⟩ 0 (Lib.countB ⟨t.toArray⟩ ⟨#[32]⟩) ⟨t.toArray⟩).map fun b => b.data.toList
def namesQ (s : Tx) : Option (List Tx) := if 32 ∈ s then (if (!Lib.hasPrefix (aftF 32 s) [40]) = true ∨ (!Lib.hasSuffix (Lib.trimPrefix (aftF 32 s) [40]) [41]) = true then none else some (splQ (innQ (aftF 32 s)))) else some []
def readQ (s : Tx) : Option Wnt := match namesQ s with
  | none => none
  | some l => match pathQ (befF 32 s) with
    | none => none
    | some (p, r) => if MayW ⟨p, greS r, l⟩ then some ⟨p, greS r, l⟩ else none
def wnt0 : Wnt := ⟨[], [], []⟩
theorem pathF_next {k : Nat} {r : Tx} {p : List Int} (h : ¬ r = []) (hk : r.length ≤ k) : ∃ k', k = k' + 1 ∧ pathF k r p = if pnumQ (befF 46 r) = 0 then some (p, r) else if 46 ∈ r ∧ aftF 46 r = [] then none else pathF k' (aftF 46 r) (p ++ [pnumQ (befF 46 r)]) := by
  cases k with
  | zero => exact absurd (List.length_eq_zero_iff.1 (by omega)) h
  | succ k => exact ⟨k, rfl, by rw [pathF, if_neg h]⟩
theorem pathF_end {k : Nat} {p : List Int} : pathF k [] p = some (p, []) := by
  cases k <;> simp [pathF]
theorem PI_append (a b : List Int) : PI (a ++ b) = PI a ++ PI b := by simp [PI]
theorem PI_one (l : List Int) : ∀ u ∈ PI l, u.oneCell' = true := by
  intro u hu
  obtain ⟨b, _, rfl⟩ := List.mem_map.1 hu
  rfl
theorem cutp_spec (a p : Tx) (w : World) : Calls Tryz.prog 80 #[encStr a, encStr p] w fun e w' => e = .returned (.tuple #[encStr (Lib.trimPrefix a p), .bool (Lib.hasPrefix a p)]) ∧ w = w' :=
  (Tryz.strings_CutPrefix ⟨a.toArray⟩ ⟨p.toArray⟩ w).mono fun e w' ⟨h1, h2⟩ => ⟨h1, h2.symm⟩
theorem cuts_spec (a p : Tx) (w : World) (ha : a.length ≤ 1000000) : Calls Tryz.prog 81 #[encStr a, encStr p] w fun e w' => e = .returned (.tuple #[encStr (Lib.trimSuffix a p), .bool (Lib.hasSuffix a p)]) ∧ w = w' :=
  (Tryz.strings_CutSuffix ⟨a.toArray⟩ ⟨p.toArray⟩ w (by show a.toArray.size ≤ _; simp; omega)).mono fun e w' ⟨h1, h2⟩ => ⟨h1, h2.symm⟩
theorem cnt_le (t : Tx) : Lib.countB ⟨t.toArray⟩ ⟨#[32]⟩ ≤ t.length := by
  have h := Lib.countB_le ⟨#[32]⟩ (by decide) _ ⟨t.toArray⟩ (Nat.le_refl _)
  have e : (⟨t.toArray⟩ : ByteArray).size = t.length := by show t.toArray.size = _; simp
  omega
theorem splB_len (sep : ByteArray) : ∀ (k : Nat) (s b : ByteArray), b ∈ Lib.splitB sep 0 k s → b.size ≤ s.size
  | 0, s, b, h => by
    rw [Lib.splitB_zero] at h
    simp only [List.mem_singleton] at h
    subst h
    exact Nat.le_refl _
  | k + 1, s, b, h => by
    rw [Lib.splitB] at h
    split at h
    · simp only [List.mem_singleton] at h
      subst h
      exact Nat.le_refl _
    · rcases List.mem_cons.1 h with h | h
      · subst h
        rw [ByteArray.size_extract]
        omega
      · have := splB_len sep k _ b h
        rw [ByteArray.size_extract] at this
        omega
theorem splQ_len (t : Tx) : (splQ t).length ≤ t.length + 1 ∧ ∀ x ∈ splQ t, x.length ≤ t.length := by
  have h1 := cnt_le t
  have e : (⟨t.toArray⟩ : ByteArray).size = t.length := by show t.toArray.size = _; simp
  refine ⟨by unfold splQ; rw [List.length_map, Lib.splitB_all _ (by decide) 0 _ _ rfl]; omega, fun x hx => ?_⟩
  obtain ⟨b, hb, rfl⟩ := List.mem_map.1 hx
  have := splB_len _ _ _ b hb
  have e2 : b.data.toList.length = b.size := by simp
  omega
theorem innQ_len (l : Tx) : (innQ l).length ≤ l.length ∧ (Lib.trimPrefix l [40]).length ≤ l.length := by
  have h1 : ∀ (a p : Tx), (Lib.trimPrefix a p).length ≤ a.length := fun a p => by unfold Lib.trimPrefix; split <;> simp
  have h2 : ∀ (a p : Tx), (Lib.trimSuffix a p).length ≤ a.length := fun a p => by unfold Lib.trimSuffix; split <;> simp
  have h3 := h1 l [40]
  have h4 := h2 (Lib.trimPrefix l [40]) [41]
  unfold innQ
  omega
theorem spl_spec (t : Tx) (w : World) (ht : t.length ≤ 1000000) (hv : LibV w) : Calls Tryz.prog 82 #[encStr t, encStr [32]] w fun e w' => Frm [] w w' ∧ ∃ A c, e = .returned (.slice A (splQ t).length c) ∧ Own w' 9 1 A (splQ t).length c (SB (splQ t)) ∧ ∀ x ∈ ob A, w.heap.size ≤ x := by
  obtain ⟨⟨m, hm⟩, _⟩ := hv
  refine (Tryz.strings_Split ⟨t.toArray⟩ ⟨#[32]⟩ m w (by show t.toArray.size < _; simp; omega) hm (by decide)).mono fun e w' ⟨h1, h2⟩ => ?_
  have hl : (splQ t).length = Lib.countB ⟨t.toArray⟩ ⟨#[32]⟩ + 1 := by unfold splQ; rw [List.length_map, Lib.splitB_all _ (by decide) 0 _ _ rfl]
  have hcs : ((Lib.splitB ⟨#[32]⟩ 0 (Lib.countB ⟨t.toArray⟩ ⟨#[32]⟩) ⟨t.toArray⟩).map Value.string).toArray.toList = SB (splQ t) := by
    unfold splQ SB
    rw [List.map_map]
    apply List.map_congr_left
    intro b _
    simp [encStr]
  have hb : Blk w' w.heap.size 9 ((Lib.splitB ⟨#[32]⟩ 0 (Lib.countB ⟨t.toArray⟩ ⟨#[32]⟩) ⟨t.toArray⟩).map Value.string).toArray := by
    rw [h2]
    exact heap_alloc_new w _
  have hcl := cnt_le t
  have hO := Own.of_blk (n := (splQ t).length) (size := 1) hb (by rw [List.size_toArray, List.length_map, hl, Lib.splitB_all _ (by decide) 0 _ _ rfl]; omega) (by rw [hl]; unfold maxLen; omega)
  rw [hcs] at hO
  refine ⟨h2 ▸ (Frm.refl [] w).alloc _, _, _, by rw [h1, hl], by rw [← hl]; exact hO, by simp [ob]⟩

set_option maxRecDepth 100000 in
theorem sread_spec (q : Tx) (w : World) (hs : q.length ≤ 500000) (hv : LibV w) :
    Calls Tryz.prog 46 #[encStr q] w fun e w' => Frm [] w w' ∧ ∃ (PA : Option Addr) (pc : Nat) (NA : Option Addr) (nc : Nat), e = .returned (.tuple #[.agg (WtC ((readQ q).getD wnt0) PA pc NA nc), .int .i64 (if (readQ q).isSome then 0 else 3)]) ∧ Own w' 3 1 PA ((readQ q).getD wnt0).path.length pc (PI ((readQ q).getD wnt0).path) ∧ Own w' 9 1 NA ((readQ q).getD wnt0).names.length nc (SB ((readQ q).getD wnt0).names) := by
  have hbl := bef_len 32 q
  have hil := innQ_len (aftF 32 q)
  refine VC.calls (nt := 77) (res := #[.cell 2 38, .tmp 3]) Tryz.func46 rfl Tryz.ntmps46 Tryz.results46 rfl ?_
  refine VC.seq ?_
  refine VC.region ?_
  refine Ops.m (Does.alloc zero38) rfl ?_
  rintro _ w1 ⟨rfl, hF1⟩
  have hb2 : Blk w1 w.heap.size 38 (WtC wnt0 none 0 none 0) := hF1.blk
  have K := hF1.frm
  have l2 := hb2.lt
  generalize hg2e : w.heap.size = g2 at hb2 l2 ⊢
  refine Ops.r (v := .int .i64 ((0 : Nat) : Int)) (Run.asg rfl) rfl ?_
  refine Ops.nil ?_
  refine thenQ_n ?_
  refine VC.sub [(0, _), (2, _)] (.cons rfl (.cons rfl .nil)) ?_
  refine VC.seq ?_
  refine VC.region ?_
  refine Ops.r (Run.build evs.nil zero38 (places38).choose_spec.1 (places38).choose_spec.2 rfl) rfl ?_
  refine Ops.m (Does.alloc zero38) rfl ?_
  rintro _ w2 ⟨rfl, hF2⟩
  have hb4 : Blk w2 w1.heap.size 38 (WtC wnt0 none 0 none 0) := hF2.blk
  have hb2 := hb2.frm hF2.frm (by simp)
  have K1 := K.size
  have K := K.trans hF2.frm (by simp)
  generalize hg4e : w1.heap.size = g4 at hb4 l2 K1 ⊢
  refine Ops.st (Acts.storeA rfl rfl Tryz.sizeOf38 hb4 rfl (WtC_one wnt0 none 0 none 0)) ?_
  rintro w3 ⟨hb4n, hf3, _⟩
  have hb4 : Blk w3 g4 38 (WtC wnt0 none 0 none 0) := hb4n
  have hb2 := hb2.frm hf3 (by simp; omega)
  have K := Frm.own K hf3 (fun y hy => by simp at hy; omega)
  refine Ops.nil ?_
  refine thenQ_n ?_
  refine VC.sub [(0, _), (2, _), (4, _)] (.cons rfl (.cons rfl (.cons rfl .nil))) ?_
  refine VC.seq ?_
  refine VC.region ?_
  refine Ops.r (Run.mv rfl) rfl ?_
  refine Ops.cl (Enters.fn (evs.cons rfl (evs.cons rfl evs.nil)) Tryz.call79) ((cut_spec q 32 _ (by omega))) rfl ?_
  rintro e w4 ⟨rfl, hf4⟩
  refine ⟨_, rfl, ?_⟩
  have hb2 := hb2.frm hf4 (by simp)
  have hb4 := hb4.frm hf4 (by simp)
  have K := K.trans hf4 (by simp)
  refine Ops.r (Run.mv rfl) rfl ?_
  refine Ops.r (Run.extract rfl rfl) rfl ?_
  refine Ops.r (Run.extract rfl rfl) rfl ?_
  refine Ops.r (Run.extract rfl rfl) rfl ?_
  refine Ops.r (Run.asg rfl) rfl ?_
  refine Ops.r (Run.asg rfl) rfl ?_
  refine Ops.r (Run.asg rfl) rfl ?_
  refine Ops.nil ?_
  refine thenQ_n ?_
  refine VC.sub [(0, _), (2, _), (4, _), (5, _), (6, _)] (.cons rfl (.cons rfl (.cons rfl (.cons rfl (.cons rfl .nil))))) ?_
  refine VC.seq ?_
  refine VC.seq ?_
  refine VC.region ?_
  refine Ops.r (Run.mv rfl) rfl ?_
  refine Ops.nil ?_
  refine thenQ_n ?_
  refine VC.sub [(0, _), (2, _), (4, _), (5, _), (22, _)] (.cons rfl (.cons rfl (.cons rfl (.cons rfl (.cons rfl .nil))))) ?_
  refine VC.meet (σ := List Tx × Option Addr × Nat) (fun s => [(0, encStr (befF 32 q)), (2, .pointer (some ⟨g2, 0, none⟩)), (4, .pointer (some ⟨g4, 0, none⟩))]) (fun s wr => namesQ q = some s.1 ∧ Blk wr g2 38 (WtC wnt0 none 0 none 0) ∧ Blk wr g4 38 (WtC ⟨[], [], s.1⟩ none 0 s.2.1 s.2.2) ∧ Own wr 9 1 s.2.1 s.1.length s.2.2 (SB s.1) ∧ Frm [] w wr ∧ s.1.length ≤ 1000000 ∧ (∀ x ∈ s.1, x.length ≤ 1000000) ∧ (∀ x ∈ ob s.2.1, w.heap.size ≤ x) ∧ g4 ∉ ob s.2.1 ∧ g2 < g4) ?_ ?_
  · skip
    refine VC.condB rfl (fun hc1 => ?_) (fun hc1 => ?_)
    · skip
      have hc1 := of_decide_eq_true hc1
      refine VC.seq ?_
      refine VC.region ?_
      refine Ops.r (Run.mv rfl) rfl ?_
      refine Ops.cl (Enters.fn (evs.cons rfl (evs.cons rfl evs.nil)) Tryz.call80) ((cutp_spec (aftF 32 q) [40] _)) rfl ?_
      rintro e _ ⟨rfl, rfl⟩
      refine ⟨_, rfl, ?_⟩
      refine Ops.r (Run.mv rfl) rfl ?_
      refine Ops.r (Run.extract rfl rfl) rfl ?_
      refine Ops.r (Run.extract rfl rfl) rfl ?_
      refine Ops.r (Run.asg rfl) rfl ?_
      refine Ops.r (Run.asg rfl) rfl ?_
      refine Ops.nil ?_
      refine thenQ_n ?_
      refine VC.sub [(0, _), (2, _), (4, _), (7, _), (8, _)] (.cons rfl (.cons rfl (.cons rfl (.cons rfl (.cons rfl .nil))))) ?_
      refine VC.seq ?_
      refine VC.region ?_
      refine Ops.r (Run.mv rfl) rfl ?_
      refine Ops.cl (Enters.fn (evs.cons rfl (evs.cons rfl evs.nil)) Tryz.call81) ((cuts_spec (Lib.trimPrefix (aftF 32 q) [40]) [41] _ (by omega))) rfl ?_
      rintro e _ ⟨rfl, rfl⟩
      refine ⟨_, rfl, ?_⟩
      refine Ops.r (Run.mv rfl) rfl ?_
      refine Ops.r (Run.extract rfl rfl) rfl ?_
      refine Ops.r (Run.extract rfl rfl) rfl ?_
      refine Ops.r (Run.asg rfl) rfl ?_
      refine Ops.r (Run.asg rfl) rfl ?_
      refine Ops.nil ?_
      refine thenQ_n ?_
      refine VC.sub [(0, _), (2, _), (4, _), (7, _), (8, _), (9, _)] (.cons rfl (.cons rfl (.cons rfl (.cons rfl (.cons rfl (.cons rfl .nil)))))) ?_
      refine VC.seq ?_
      refine VC.seq ?_
      refine VC.split1 [(0, _), (2, _), (4, _), (7, _)] (.cons rfl (.cons rfl (.cons rfl (.cons rfl .nil)))) 38 (.bool (decide ((!Lib.hasPrefix (aftF 32 q) [40]) = true ∨ (!Lib.hasSuffix (Lib.trimPrefix (aftF 32 q) [40]) [41]) = true))) ?_ ?_
      · refine VC.region ?_
        refine Ops.r (Run.mv rfl) rfl ?_
        refine Ops.r (Run.not rfl) rfl ?_
        by_cases hs34 : (!Lib.hasPrefix (aftF 32 q) [40]) = true
        · skip
          refine Ops.r (Run.mv rfl) rfl ?_
          refine Ops.sk rfl (by first | rfl | assumption | exact decide_eq_true (by assumption) | exact decide_eq_false (by assumption) | decide | (simp; done) | (simp; omega) | (simp [*]; done)) rfl ?_
          refine Ops.sk rfl (by first | rfl | assumption | exact decide_eq_true (by assumption) | exact decide_eq_false (by assumption) | decide | (simp; done) | (simp; omega) | (simp [*]; done)) rfl ?_
          refine Ops.r (Run.pickT rfl rfl (by first | rfl | assumption | exact decide_eq_true (by assumption) | exact decide_eq_false (by assumption) | decide | (simp; done) | (simp; omega) | (simp [*]; done))) rfl ?_
          refine Ops.nil ?_
          refine thenQ_n ⟨(.cons (congrArg (fun b => some (Value.bool b)) (by first | (simp_all; done))) (.cons rfl (.cons rfl (.cons rfl (.cons rfl .nil))))), rfl⟩
        · skip
          refine Ops.r (Run.mv rfl) rfl ?_
          refine Ops.rg rfl (by first | rfl | assumption | exact decide_eq_true (by assumption) | exact decide_eq_false (by assumption) | decide | (simp; done) | (simp; omega) | (simp [*]; done)) (Run.mv rfl) rfl ?_
          refine Ops.rg rfl (by first | rfl | assumption | exact decide_eq_true (by assumption) | exact decide_eq_false (by assumption) | decide | (simp; done) | (simp; omega) | (simp [*]; done)) (Run.not rfl) rfl ?_
          by_cases hs37 : (!Lib.hasSuffix (Lib.trimPrefix (aftF 32 q) [40]) [41]) = true
          · skip
            refine Ops.r (Run.pickF rfl rfl (by first | rfl | assumption | exact decide_eq_true (by assumption) | exact decide_eq_false (by assumption) | decide | (simp; done) | (simp; omega) | (simp [*]; done))) rfl ?_
            refine Ops.nil ?_
            refine thenQ_n ⟨(.cons (congrArg (fun b => some (Value.bool b)) (by first | (simp_all; done))) (.cons rfl (.cons rfl (.cons rfl (.cons rfl .nil))))), rfl⟩
          · skip
            refine Ops.r (Run.pickF rfl rfl (by first | rfl | assumption | exact decide_eq_true (by assumption) | exact decide_eq_false (by assumption) | decide | (simp; done) | (simp; omega) | (simp [*]; done))) rfl ?_
            refine Ops.nil ?_
            refine thenQ_n ⟨(.cons (congrArg (fun b => some (Value.bool b)) (by first | (simp_all; done))) (.cons rfl (.cons rfl (.cons rfl (.cons rfl .nil))))), rfl⟩
      · intro Γ hΓ
        refine thenQ_n (VC.sub _ hΓ ?_)
        refine VC.condD rfl (fun hc2 => ?_) (fun hc2 => ?_)
        · skip
          have hrq : readQ q = none := by unfold readQ namesQ; rw [if_pos hc1, if_pos hc2]
          refine VC.seq ?_
          refine VC.region ?_
          refine Ops.r (Run.build evs.nil zero38 (places38).choose_spec.1 (places38).choose_spec.2 rfl) rfl ?_
          refine Ops.st (Acts.storeA rfl rfl Tryz.sizeOf38 hb2 rfl (WtC_one wnt0 none 0 none 0)) ?_
          rintro Z1 ⟨hb2n, hfz, _⟩
          have hb2 : Blk Z1 g2 38 (WtC wnt0 none 0 none 0) := hb2n
          have K := Frm.own K hfz (fun y hy => by simp at hy; omega)
          refine Ops.r (v := .int .i64 ((3 : Nat) : Int)) (Run.asg rfl) rfl ?_
          refine Ops.nil ?_
          refine thenQ_n ?_
          refine VC.sub [(2, _), (3, _)] (.cons rfl (.cons rfl .nil)) ?_
          refine VC.ret ?_
          refine thenQ_r (thenQ_r (thenQ_r (endR ?_)))
          refine res_cellA rfl Tryz.isAgg38 Tryz.sizeOf38 (fun j v hj => hb2.cells j v hj) (by first | rfl | (simp; done)) ?_
          refine res_tmp rfl ?_
          refine res_nil ?_
          rw [hrq]
          exact ⟨K, none, 0, none, 0, rfl, Own.nil _ _ _, Own.nil _ _ _⟩
        · skip
          have hnq : namesQ q = some (splQ (innQ (aftF 32 q))) := by unfold namesQ; rw [if_pos hc1, if_neg hc2]
          refine VC.skip ?_
          refine thenQ_n ?_
          refine VC.sub [(0, _), (2, _), (4, _), (7, _)] (.cons rfl (.cons rfl (.cons rfl (.cons rfl .nil)))) ?_
          refine VC.region ?_
          refine Ops.r (Run.mv rfl) rfl ?_
          refine Ops.cl (Enters.fn (evs.cons rfl (evs.cons rfl evs.nil)) Tryz.call82) ((spl_spec (innQ (aftF 32 q)) _ (by omega) (hv.frm0 K))) rfl ?_
          rintro e w5 ⟨hf5, NA, nc, rfl, hN, hubN⟩
          refine ⟨_, rfl, ?_⟩
          have sK := K.size
          have hb2 := hb2.frm hf5 (by simp)
          have hb4 := hb4.frm hf5 (by simp)
          have K := K.trans hf5 (by simp)
          have hsp := splQ_len (innQ (aftF 32 q))
          refine Ops.r (Run.fieldAddr rfl Tryz.underlying38 rfl Tryz.sizeOf36 (by decide)) rfl ?_
          refine Ops.st (Acts.store rfl rfl Tryz.sizeOf36 hb4 rfl rfl) ?_
          rintro w6 ⟨hb4n, hf6, _⟩
          have hb4o := hb4
          have hb4 : Blk w6 g4 38 (WtC ⟨[], [], splQ (innQ (aftF 32 q))⟩ none 0 NA nc) := hb4n
          have hN := hN.frm hf6 (fun y hy => by have := hN.ne_blk hb4o (by decide); simp; rintro rfl; exact this hy)
          have hb2 := hb2.frm hf6 (by simp; omega)
          have K := Frm.own K hf6 (fun y hy => by simp at hy; omega)
          refine Ops.nil ?_
          refine thenQ_n ⟨(splQ (innQ (aftF 32 q)), NA, nc), (.cons rfl (.cons rfl (.cons rfl .nil))), ?_⟩
          exact ⟨hnq, hb2, hb4, hN, K, by show (splQ (innQ (aftF 32 q))).length ≤ 1000000; omega, fun x hx => by have := hsp.2 x hx; omega, fun x hx => by have := hubN x hx; omega, hN.ne_blk hb4 (by decide), by omega⟩
    · skip
      have hc1 := of_decide_eq_false hc1
      have hnq : namesQ q = some [] := by unfold namesQ; rw [if_neg hc1]
      refine VC.skip ?_
      refine thenQ_n ⟨([], none, 0), (.cons rfl (.cons rfl (.cons rfl .nil))), ?_⟩
      exact ⟨hnq, hb2, hb4, Own.nil _ _ _, K, by simp, by simp, by simp [ob], by simp [ob], by omega⟩
  · skip
    rintro ⟨names, NA, nc⟩ w7 ⟨hnq, hb2, hb4, hN, K, hnl, hns, hubN, hg4N, hg24⟩ Γ hΓ
    dsimp only at hnq hb4 hN hnl hns hubN hg4N
    have lb4 := hb4.lt
    refine thenQ_n (VC.sub _ hΓ ?_)
    refine VC.seq ?_
    refine VC.region ?_
    refine Ops.r (Run.mv rfl) rfl ?_
    refine Ops.r (Run.asg rfl) rfl ?_
    refine Ops.nil ?_
    refine thenQ_n ?_
    refine VC.sub [(2, _), (4, _), (10, _)] (.cons rfl (.cons rfl (.cons rfl .nil))) ?_
    refine VC.seq ?_
    refine VC.block ?_
    refine VC.loop (σ := Tx × List Int × Option Addr × Nat) (fun s => [(2, .pointer (some ⟨g2, 0, none⟩)), (4, .pointer (some ⟨g4, 0, none⟩)), (10, encStr s.1)]) (fun s wr => (∃ k, s.1.length ≤ k ∧ pathF k s.1 s.2.1 = pathQ (befF 32 q)) ∧ s.1.length + s.2.1.length ≤ 1000000 ∧ Blk wr g2 38 (WtC wnt0 none 0 none 0) ∧ Blk wr g4 38 (WtC ⟨s.2.1, [], names⟩ s.2.2.1 s.2.2.2 NA nc) ∧ Own wr 3 1 s.2.2.1 s.2.1.length s.2.2.2 (PI s.2.1) ∧ Own wr 9 1 NA names.length nc (SB names) ∧ Frm [] w wr ∧ (∀ x ∈ ob s.2.2.1, w.heap.size ≤ x ∧ x ≠ g4 ∧ x ≠ g2)) (fun s => s.1.length) (befF 32 q, [], none, 0) (.cons rfl (.cons rfl (.cons rfl .nil))) ⟨⟨_, Nat.le_refl _, rfl⟩, by simp; omega, hb2, hb4, Own.nil _ _ _, hN, K, by simp [ob]⟩ ?_
    rintro ⟨r, p, PA, pc⟩ W ⟨⟨k, hk, hpq⟩, hrl, hb2, hb4, hPI, hN, K, hubP⟩
    dsimp only at hk hpq hrl hb4 hPI hubP ⊢
    have hbr := bef_len 46 r
    refine VC.seq ?_
    refine VC.seq ?_
    refine VC.region ?_
    refine Ops.r (Run.mv rfl) rfl ?_
    refine Ops.r (Run.neqT rfl rfl) rfl ?_
    refine Ops.nil ?_
    refine thenQ_n ?_
    refine VC.sub [(2, _), (4, _), (10, _), (45, _)] (.cons rfl (.cons rfl (.cons rfl (.cons rfl .nil)))) ?_
    refine VC.condD rfl (fun hc3 => ?_) (fun hc3 => ?_)
    · skip
      obtain ⟨k2, rfl, hst⟩ := pathF_next hc3 hk
      rw [hpq] at hst
      have halt := aft_lt (c := 46) hc3
      refine VC.skip ?_
      refine thenQ_n ?_
      refine VC.sub [(2, _), (4, _), (10, _)] (.cons rfl (.cons rfl (.cons rfl .nil))) ?_
      refine VC.block ?_
      refine VC.seq ?_
      refine VC.region ?_
      refine Ops.r (Run.mv rfl) rfl ?_
      refine Ops.cl (Enters.fn (evs.cons rfl (evs.cons rfl evs.nil)) Tryz.call79) ((cut_spec r 46 _ (by omega))) rfl ?_
      rintro e W1 ⟨rfl, hf1⟩
      refine ⟨_, rfl, ?_⟩
      have hb2 := hb2.frm hf1 (by simp)
      have hb4 := hb4.frm hf1 (by simp)
      have hPI := hPI.frm hf1 (by simp)
      have hN := hN.frm hf1 (by simp)
      have K := K.trans hf1 (by simp)
      refine Ops.r (Run.mv rfl) rfl ?_
      refine Ops.r (Run.extract rfl rfl) rfl ?_
      refine Ops.r (Run.extract rfl rfl) rfl ?_
      refine Ops.r (Run.extract rfl rfl) rfl ?_
      refine Ops.r (Run.asg rfl) rfl ?_
      refine Ops.r (Run.asg rfl) rfl ?_
      refine Ops.r (Run.asg rfl) rfl ?_
      refine Ops.nil ?_
      refine thenQ_n ?_
      refine VC.sub [(2, _), (4, _), (10, _), (11, _), (12, _), (13, _)] (.cons rfl (.cons rfl (.cons rfl (.cons rfl (.cons rfl (.cons rfl .nil)))))) ?_
      refine VC.seq ?_
      refine VC.region ?_
      refine Ops.r (Run.mv rfl) rfl ?_
      refine Ops.cl (Enters.fn (evs.cons rfl evs.nil) Tryz.call83) ((number_spec (befF 46 r) _ (by omega) (hv.frm0 K))) rfl ?_
      rintro e W2 ⟨rfl, hf2⟩
      refine ⟨_, rfl, ?_⟩
      have hb2 := hb2.frm hf2 (by simp)
      have hb4 := hb4.frm hf2 (by simp)
      have hPI := hPI.frm hf2 (by simp)
      have hN := hN.frm hf2 (by simp)
      have K := K.trans hf2 (by simp)
      refine Ops.r (Run.asg rfl) rfl ?_
      refine Ops.nil ?_
      refine thenQ_n ?_
      refine VC.sub [(2, _), (4, _), (10, _), (12, _), (13, _), (14, _)] (.cons rfl (.cons rfl (.cons rfl (.cons rfl (.cons rfl (.cons rfl .nil)))))) ?_
      refine VC.seq ?_
      refine VC.seq ?_
      refine VC.region ?_
      refine Ops.r (Run.mv rfl) rfl ?_
      refine Ops.r (Run.bin rfl rfl (Bin.eql _ 0)) rfl ?_
      refine Ops.nil ?_
      refine thenQ_n ?_
      refine VC.sub [(2, _), (4, _), (10, _), (12, _), (13, _), (14, _), (55, _)] (.cons rfl (.cons rfl (.cons rfl (.cons rfl (.cons rfl (.cons rfl (.cons rfl .nil))))))) ?_
      refine VC.condD rfl (fun hc4 => ?_) (fun hc4 => ?_)
      · skip
        have hfin : pathQ (befF 32 q) = some (p, r) := by rw [hst, if_pos hc4]
        refine VC.exit ?_
        refine thenQ_x (blockQ_o rfl (thenQ_x (blockQ_x ?_)))
        refine thenQ_n ?_
        refine VC.sub [(2, _), (4, _), (10, _)] (.cons rfl (.cons rfl (.cons rfl .nil))) ?_
        refine VC.seq ?_
        refine VC.region ?_
        refine Ops.r (Run.mv rfl) rfl ?_
        refine Ops.cl (Enters.fn (evs.cons rfl evs.nil) Tryz.call84) ((great_spec r _ (by omega))) rfl ?_
        rintro e V1 ⟨rfl, hf1⟩
        refine ⟨_, rfl, ?_⟩
        have hb2 := hb2.frm hf1 (by simp)
        have hb4 := hb4.frm hf1 (by simp)
        have hPI := hPI.frm hf1 (by simp)
        have hN := hN.frm hf1 (by simp)
        have K := K.trans hf1 (by simp)
        refine Ops.r (Run.fieldAddr rfl Tryz.underlying38 rfl Tryz.sizeOf9 (by decide)) rfl ?_
        refine Ops.st (Acts.store rfl rfl Tryz.sizeOf9 hb4 rfl rfl) ?_
        rintro V2 ⟨hb4n, hf2, _⟩
        have hb4 : Blk V2 g4 38 (WtC ⟨p, greS r, names⟩ PA pc NA nc) := hb4n
        have hPI := hPI.frm hf2 (fun y hy => by have := hubP y hy; simp; exact this.2.1)
        have hN := hN.frm hf2 (fun y hy => by simp; rintro rfl; exact hg4N hy)
        have hb2 := hb2.frm hf2 (by simp; omega)
        have K := Frm.own K hf2 (fun y hy => by simp at hy; omega)
        obtain ⟨v, hvv⟩ : ∃ v : Wnt, v = ⟨p, greS r, names⟩ := ⟨_, rfl⟩
        have hrq : readQ q = if MayW v then some v else none := by unfold readQ; rw [hnq]; dsimp only; rw [hfin, hvv]
        rw [← hvv] at hb4
        refine Ops.nil ?_
        refine thenQ_n ?_
        refine VC.sub [(2, _), (4, _)] (.cons rfl (.cons rfl .nil)) ?_
        refine VC.seq ?_
        refine VC.seq ?_
        refine VC.region ?_
        refine Ops.r (Run.loadA rfl Tryz.isAgg38 Tryz.sizeOf38 (fun j v hj => hb4.cells j v hj) (by first | rfl | (simp; done))) rfl ?_
        refine Ops.cl (Enters.fn (evs.cons rfl evs.nil) Tryz.call42) ((may_spec v PA NA pc nc _ (by rw [hvv]; exact hPI.rd) (by rw [hvv]; show p.length ≤ 1000000; omega) (by rw [hvv]; exact hN.rd) (by rw [hvv]; exact hnl) (by rw [hvv]; exact hns))) rfl ?_
        rintro e V3 ⟨rfl, hf3⟩
        refine ⟨_, rfl, ?_⟩
        have hb2 := hb2.frm hf3 (by simp)
        have hb4 := hb4.frm hf3 (by simp)
        have hPI := hPI.frm hf3 (by simp)
        have hN := hN.frm hf3 (by simp)
        have K := K.trans hf3 (by simp)
        refine Ops.r (Run.not rfl) rfl ?_
        rw [not_dec]
        refine Ops.nil ?_
        refine thenQ_n ?_
        refine VC.sub [(2, _), (4, _), (74, _)] (.cons rfl (.cons rfl (.cons rfl .nil))) ?_
        refine VC.condB rfl (fun hc6 => ?_) (fun hc6 => ?_)
        · skip
          rw [if_neg (of_decide_eq_true hc6)] at hrq
          refine VC.seq ?_
          refine VC.region ?_
          refine Ops.r (Run.build evs.nil zero38 (places38).choose_spec.1 (places38).choose_spec.2 rfl) rfl ?_
          refine Ops.st (Acts.storeA rfl rfl Tryz.sizeOf38 hb2 rfl (WtC_one wnt0 none 0 none 0)) ?_
          rintro Z1 ⟨hb2n, hfz, _⟩
          have hb2 : Blk Z1 g2 38 (WtC wnt0 none 0 none 0) := hb2n
          have K := Frm.own K hfz (fun y hy => by simp at hy; omega)
          refine Ops.r (v := .int .i64 ((3 : Nat) : Int)) (Run.asg rfl) rfl ?_
          refine Ops.nil ?_
          refine thenQ_n ?_
          refine VC.sub [(2, _), (3, _)] (.cons rfl (.cons rfl .nil)) ?_
          refine VC.ret ?_
          refine thenQ_r (endR ?_)
          refine res_cellA rfl Tryz.isAgg38 Tryz.sizeOf38 (fun j v hj => hb2.cells j v hj) (by first | rfl | (simp; done)) ?_
          refine res_tmp rfl ?_
          refine res_nil ?_
          rw [hrq]
          exact ⟨K, none, 0, none, 0, rfl, Own.nil _ _ _, Own.nil _ _ _⟩
        · skip
          rw [if_pos (Classical.byContradiction fun h => of_decide_eq_false hc6 h)] at hrq
          refine VC.skip ?_
          refine thenQ_n ?_
          refine VC.sub [(2, _), (4, _)] (.cons rfl (.cons rfl .nil)) ?_
          refine VC.seq ?_
          refine VC.region ?_
          refine Ops.r (Run.loadA rfl Tryz.isAgg38 Tryz.sizeOf38 (fun j v hj => hb4.cells j v hj) (by first | rfl | (simp; done))) rfl ?_
          have hb2o := hb2
          refine Ops.st (Acts.storeA rfl rfl Tryz.sizeOf38 hb2 rfl (WtC_one v PA pc NA nc)) ?_
          rintro V4 ⟨hb2n, hf4, _⟩
          have hb2 : Blk V4 g2 38 (WtC v PA pc NA nc) := hb2n
          have hPI := hPI.frm hf4 (fun y hy => by have := hubP y hy; simp; exact this.2.2)
          have hN := hN.frm hf4 (fun y hy => by have := hN.ne_blk hb2o (by decide); simp; rintro rfl; exact this hy)
          have K := Frm.own K hf4 (fun y hy => by simp at hy; omega)
          refine Ops.r (v := .int .i64 ((0 : Nat) : Int)) (Run.asg rfl) rfl ?_
          refine Ops.nil ?_
          refine thenQ_n ?_
          refine VC.sub [(2, _), (3, _)] (.cons rfl (.cons rfl .nil)) ?_
          refine VC.ret ?_
          refine endR ?_
          refine res_cellA rfl Tryz.isAgg38 Tryz.sizeOf38 (fun j v hj => hb2.cells j v hj) (by first | rfl | (simp; done)) ?_
          refine res_tmp rfl ?_
          refine res_nil ?_
          rw [hrq]
          exact ⟨K, PA, pc, NA, nc, rfl, by rw [hvv] at hb2 ⊢; exact hPI, by rw [hvv]; exact hN⟩
      · skip
        rw [if_neg hc4] at hst
        refine VC.skip ?_
        refine thenQ_n ?_
        refine VC.sub [(2, _), (4, _), (12, _), (13, _), (14, _)] (.cons rfl (.cons rfl (.cons rfl (.cons rfl (.cons rfl .nil))))) ?_
        refine VC.seq ?_
        refine VC.region ?_
        refine Ops.r (Run.fieldAddr rfl Tryz.underlying38 rfl Tryz.sizeOf33 (by decide)) rfl ?_
        refine Ops.r (Run.load rfl Tryz.isAgg33 (show _ = some (Value.slice PA p.length pc) from hb4.cell 0)) rfl ?_
        refine Ops.r (Run.mv rfl) rfl ?_
        refine Ops.m (Does.buildS1 rfl Tryz.underlying33 Tryz.sizeOf3 zero3 (by decide) (by decide) rfl rfl) rfl ?_
        rintro _ W3 ⟨rfl, hF3⟩
        have hrd3 : Rd W3 1 (some ⟨_, 0, none⟩) 1 (PI [pnumQ (befF 46 r)]) := Rd.of_blk (n := 1) (size := 1) hF3.blk rfl
        have hb2 := hb2.frm hF3.frm (by simp)
        have hb4 := hb4.frm hF3.frm (by simp)
        have hPI := hPI.frm hF3.frm (by simp)
        have hN := hN.frm hF3.frm (by simp)
        have K := K.trans hF3.frm (by simp)
        refine Ops.m (Does.app rfl rfl Tryz.underlying33 (info3) rfl (by decide) hPI hrd3 (PI_one _) (by omega) (by omega)) rfl ?_
        rintro _ W4 ⟨PA2, pc2, rfl, hPI2, hf4, hob4⟩
        rw [← PI_append] at hPI2
        have l43 := hb4.lt
        have hb2 := hb2.frm hf4 (fun hm => (hubP _ hm).2.2 rfl)
        have hb4 := hb4.frm hf4 (fun hm => (hubP _ hm).2.1 rfl)
        have hN := hN.own' hf4 hPI (by decide)
        have sK3 := K.size
        have lb43 := hb4.lt
        have K := Frm.own K hf4 (fun y hy => (hubP y hy).1)
        have hubP2 : ∀ x ∈ ob PA2, w.heap.size ≤ x ∧ x ≠ g4 ∧ x ≠ g2 := fun x hx => by
          rcases hob4 with h | h
          · rw [h] at hx; exact hubP x hx
          · rw [h] at hx; simp only [List.mem_singleton] at hx; omega
        refine Ops.r (Run.fieldAddr rfl Tryz.underlying38 rfl Tryz.sizeOf33 (by decide)) rfl ?_
        refine Ops.st (Acts.store rfl rfl Tryz.sizeOf33 hb4 rfl rfl) ?_
        rintro W5 ⟨hb4n, hf5, _⟩
        have hb4o := hb4
        have hPI := hPI2.frm hf5 (fun y hy => by have := hubP2 y hy; simp; exact this.2.1)
        have hpl : (p ++ [pnumQ (befF 46 r)]).length = p.length + 1 := by simp
        rw [← hpl] at hPI
        have hb4 : Blk W5 g4 38 (WtC ⟨p ++ [pnumQ (befF 46 r)], [], names⟩ PA2 pc2 NA nc) := by unfold WtC; rw [hpl]; exact hb4n
        have hN := hN.frm hf5 (fun y hy => by simp; rintro rfl; exact hg4N hy)
        have hb2 := hb2.frm hf5 (by simp; omega)
        have K := Frm.own K hf5 (fun y hy => by simp at hy; omega)
        refine Ops.nil ?_
        refine thenQ_n ?_
        refine VC.sub [(2, _), (4, _), (12, _), (13, _)] (.cons rfl (.cons rfl (.cons rfl (.cons rfl .nil)))) ?_
        refine VC.seq ?_
        refine VC.region ?_
        refine Ops.r (Run.mv rfl) rfl ?_
        refine Ops.r (Run.asg rfl) rfl ?_
        refine Ops.nil ?_
        refine thenQ_n ?_
        refine VC.sub [(2, _), (4, _), (10, _), (13, _)] (.cons rfl (.cons rfl (.cons rfl (.cons rfl .nil)))) ?_
        refine VC.seq ?_
        refine VC.split1 [(2, _), (4, _), (10, _)] (.cons rfl (.cons rfl (.cons rfl .nil))) 67 (.bool (decide (46 ∈ r ∧ aftF 46 r = []))) ?_ ?_
        · refine VC.region ?_
          refine Ops.r (Run.mv rfl) rfl ?_
          refine Ops.r (Run.mv rfl) rfl ?_
          by_cases hs64 : 46 ∈ r
          · skip
            refine Ops.rg rfl (by first | rfl | assumption | exact decide_eq_true (by assumption) | exact decide_eq_false (by assumption) | decide | (simp; done) | (simp; omega) | (simp [*]; done)) (Run.mv rfl) rfl ?_
            refine Ops.rg rfl (by first | rfl | assumption | exact decide_eq_true (by assumption) | exact decide_eq_false (by assumption) | decide | (simp; done) | (simp; omega) | (simp [*]; done)) (Run.eqlT rfl rfl) rfl ?_
            by_cases hs66 : aftF 46 r = []
            · skip
              refine Ops.r (Run.pickT rfl rfl (by first | rfl | assumption | exact decide_eq_true (by assumption) | exact decide_eq_false (by assumption) | decide | (simp; done) | (simp; omega) | (simp [*]; done))) rfl ?_
              refine Ops.nil ?_
              refine thenQ_n ⟨(.cons (congrArg (fun b => some (Value.bool b)) (by first | exact (decide_eq_true hs66).trans (decide_eq_true ⟨hs64, hs66⟩).symm | exact (decide_eq_false hs66).trans (decide_eq_false (show ¬ (46 ∈ r ∧ aftF 46 r = []) from fun h => hs66 h.2)).symm | exact (decide_eq_false (show ¬ (46 ∈ r ∧ aftF 46 r = []) from fun h => hs64 h.1)).symm | exact (decide_eq_false hs64).trans (decide_eq_false (show ¬ (46 ∈ r ∧ aftF 46 r = []) from fun h => hs64 h.1)).symm)) (.cons rfl (.cons rfl (.cons rfl .nil)))), rfl⟩
            · skip
              refine Ops.r (Run.pickT rfl rfl (by first | rfl | assumption | exact decide_eq_true (by assumption) | exact decide_eq_false (by assumption) | decide | (simp; done) | (simp; omega) | (simp [*]; done))) rfl ?_
              refine Ops.nil ?_
              refine thenQ_n ⟨(.cons (congrArg (fun b => some (Value.bool b)) (by first | exact (decide_eq_true hs66).trans (decide_eq_true ⟨hs64, hs66⟩).symm | exact (decide_eq_false hs66).trans (decide_eq_false (show ¬ (46 ∈ r ∧ aftF 46 r = []) from fun h => hs66 h.2)).symm | exact (decide_eq_false (show ¬ (46 ∈ r ∧ aftF 46 r = []) from fun h => hs64 h.1)).symm | exact (decide_eq_false hs64).trans (decide_eq_false (show ¬ (46 ∈ r ∧ aftF 46 r = []) from fun h => hs64 h.1)).symm)) (.cons rfl (.cons rfl (.cons rfl .nil)))), rfl⟩
          · skip
            refine Ops.sk rfl (by first | rfl | assumption | exact decide_eq_true (by assumption) | exact decide_eq_false (by assumption) | decide | (simp; done) | (simp; omega) | (simp [*]; done)) rfl ?_
            refine Ops.sk rfl (by first | rfl | assumption | exact decide_eq_true (by assumption) | exact decide_eq_false (by assumption) | decide | (simp; done) | (simp; omega) | (simp [*]; done)) rfl ?_
            refine Ops.r (Run.pickF rfl rfl (by first | rfl | assumption | exact decide_eq_true (by assumption) | exact decide_eq_false (by assumption) | decide | (simp; done) | (simp; omega) | (simp [*]; done))) rfl ?_
            refine Ops.nil ?_
            refine thenQ_n ⟨(.cons (congrArg (fun b => some (Value.bool b)) (by first | exact (decide_eq_true hs66).trans (decide_eq_true ⟨hs64, hs66⟩).symm | exact (decide_eq_false hs66).trans (decide_eq_false (show ¬ (46 ∈ r ∧ aftF 46 r = []) from fun h => hs66 h.2)).symm | exact (decide_eq_false (show ¬ (46 ∈ r ∧ aftF 46 r = []) from fun h => hs64 h.1)).symm | exact (decide_eq_false hs64).trans (decide_eq_false (show ¬ (46 ∈ r ∧ aftF 46 r = []) from fun h => hs64 h.1)).symm)) (.cons rfl (.cons rfl (.cons rfl .nil)))), rfl⟩
        · intro Γ hΓ
          refine thenQ_n (VC.sub _ hΓ ?_)
          refine VC.condD rfl (fun hc5 => ?_) (fun hc5 => ?_)
          · skip
            rw [if_pos hc5] at hst
            have hrq : readQ q = none := by unfold readQ; rw [hnq]; dsimp only; rw [hst]
            refine VC.seq ?_
            refine VC.region ?_
            refine Ops.r (Run.build evs.nil zero38 (places38).choose_spec.1 (places38).choose_spec.2 rfl) rfl ?_
            refine Ops.st (Acts.storeA rfl rfl Tryz.sizeOf38 hb2 rfl (WtC_one wnt0 none 0 none 0)) ?_
            rintro Z1 ⟨hb2n, hfz, _⟩
            have hb2 : Blk Z1 g2 38 (WtC wnt0 none 0 none 0) := hb2n
            have K := Frm.own K hfz (fun y hy => by simp at hy; omega)
            refine Ops.r (v := .int .i64 ((3 : Nat) : Int)) (Run.asg rfl) rfl ?_
            refine Ops.nil ?_
            refine thenQ_n ?_
            refine VC.sub [(2, _), (3, _)] (.cons rfl (.cons rfl .nil)) ?_
            refine VC.ret ?_
            refine blockQ_r (thenQ_r (blockQ_r (thenQ_r (endR ?_))))
            refine res_cellA rfl Tryz.isAgg38 Tryz.sizeOf38 (fun j v hj => hb2.cells j v hj) (by first | rfl | (simp; done)) ?_
            refine res_tmp rfl ?_
            refine res_nil ?_
            rw [hrq]
            exact ⟨K, none, 0, none, 0, rfl, Own.nil _ _ _, Own.nil _ _ _⟩
          · skip
            rw [if_neg hc5] at hst
            refine VC.skip ?_
            refine blockQ_n (thenQ_n ⟨(aftF 46 r, p ++ [pnumQ (befF 46 r)], PA2, pc2), (.cons rfl (.cons rfl (.cons rfl .nil))), ?_, ?_⟩)
            · skip
              exact ⟨⟨k2, by show (aftF 46 r).length ≤ k2; omega, hst.symm⟩, by show (aftF 46 r).length + (p ++ [pnumQ (befF 46 r)]).length ≤ 1000000; omega, hb2, hb4, hPI, hN, K, hubP2⟩
            · skip
              first | omega | (dsimp only; omega)
    · skip
      have hr0 : r = [] := Classical.byContradiction hc3
      subst hr0
      have hfin : pathQ (befF 32 q) = some (p, []) := by rw [← hpq, pathF_end]
      refine VC.exit ?_
      refine thenQ_x (thenQ_x (blockQ_x ?_))
      refine thenQ_n ?_
      refine VC.sub [(2, _), (4, _), (10, _)] (.cons rfl (.cons rfl (.cons rfl .nil))) ?_
      refine VC.seq ?_
      refine VC.region ?_
      refine Ops.r (Run.mv rfl) rfl ?_
      refine Ops.cl (Enters.fn (evs.cons rfl evs.nil) Tryz.call84) ((great_spec [] _ (by simp))) rfl ?_
      rintro e V1 ⟨rfl, hf1⟩
      refine ⟨_, rfl, ?_⟩
      have hb2 := hb2.frm hf1 (by simp)
      have hb4 := hb4.frm hf1 (by simp)
      have hPI := hPI.frm hf1 (by simp)
      have hN := hN.frm hf1 (by simp)
      have K := K.trans hf1 (by simp)
      refine Ops.r (Run.fieldAddr rfl Tryz.underlying38 rfl Tryz.sizeOf9 (by decide)) rfl ?_
      refine Ops.st (Acts.store rfl rfl Tryz.sizeOf9 hb4 rfl rfl) ?_
      rintro V2 ⟨hb4n, hf2, _⟩
      have hb4 : Blk V2 g4 38 (WtC ⟨p, greS [], names⟩ PA pc NA nc) := hb4n
      have hPI := hPI.frm hf2 (fun y hy => by have := hubP y hy; simp; exact this.2.1)
      have hN := hN.frm hf2 (fun y hy => by simp; rintro rfl; exact hg4N hy)
      have hb2 := hb2.frm hf2 (by simp; omega)
      have K := Frm.own K hf2 (fun y hy => by simp at hy; omega)
      obtain ⟨v, hvv⟩ : ∃ v : Wnt, v = ⟨p, greS [], names⟩ := ⟨_, rfl⟩
      have hrq : readQ q = if MayW v then some v else none := by unfold readQ; rw [hnq]; dsimp only; rw [hfin, hvv]
      rw [← hvv] at hb4
      refine Ops.nil ?_
      refine thenQ_n ?_
      refine VC.sub [(2, _), (4, _)] (.cons rfl (.cons rfl .nil)) ?_
      refine VC.seq ?_
      refine VC.seq ?_
      refine VC.region ?_
      refine Ops.r (Run.loadA rfl Tryz.isAgg38 Tryz.sizeOf38 (fun j v hj => hb4.cells j v hj) (by first | rfl | (simp; done))) rfl ?_
      refine Ops.cl (Enters.fn (evs.cons rfl evs.nil) Tryz.call42) ((may_spec v PA NA pc nc _ (by rw [hvv]; exact hPI.rd) (by rw [hvv]; show p.length ≤ 1000000; omega) (by rw [hvv]; exact hN.rd) (by rw [hvv]; exact hnl) (by rw [hvv]; exact hns))) rfl ?_
      rintro e V3 ⟨rfl, hf3⟩
      refine ⟨_, rfl, ?_⟩
      have hb2 := hb2.frm hf3 (by simp)
      have hb4 := hb4.frm hf3 (by simp)
      have hPI := hPI.frm hf3 (by simp)
      have hN := hN.frm hf3 (by simp)
      have K := K.trans hf3 (by simp)
      refine Ops.r (Run.not rfl) rfl ?_
      rw [not_dec]
      refine Ops.nil ?_
      refine thenQ_n ?_
      refine VC.sub [(2, _), (4, _), (74, _)] (.cons rfl (.cons rfl (.cons rfl .nil))) ?_
      refine VC.condB rfl (fun hc6 => ?_) (fun hc6 => ?_)
      · skip
        rw [if_neg (of_decide_eq_true hc6)] at hrq
        refine VC.seq ?_
        refine VC.region ?_
        refine Ops.r (Run.build evs.nil zero38 (places38).choose_spec.1 (places38).choose_spec.2 rfl) rfl ?_
        refine Ops.st (Acts.storeA rfl rfl Tryz.sizeOf38 hb2 rfl (WtC_one wnt0 none 0 none 0)) ?_
        rintro Z1 ⟨hb2n, hfz, _⟩
        have hb2 : Blk Z1 g2 38 (WtC wnt0 none 0 none 0) := hb2n
        have K := Frm.own K hfz (fun y hy => by simp at hy; omega)
        refine Ops.r (v := .int .i64 ((3 : Nat) : Int)) (Run.asg rfl) rfl ?_
        refine Ops.nil ?_
        refine thenQ_n ?_
        refine VC.sub [(2, _), (3, _)] (.cons rfl (.cons rfl .nil)) ?_
        refine VC.ret ?_
        refine thenQ_r (endR ?_)
        refine res_cellA rfl Tryz.isAgg38 Tryz.sizeOf38 (fun j v hj => hb2.cells j v hj) (by first | rfl | (simp; done)) ?_
        refine res_tmp rfl ?_
        refine res_nil ?_
        rw [hrq]
        exact ⟨K, none, 0, none, 0, rfl, Own.nil _ _ _, Own.nil _ _ _⟩
      · skip
        rw [if_pos (Classical.byContradiction fun h => of_decide_eq_false hc6 h)] at hrq
        refine VC.skip ?_
        refine thenQ_n ?_
        refine VC.sub [(2, _), (4, _)] (.cons rfl (.cons rfl .nil)) ?_
        refine VC.seq ?_
        refine VC.region ?_
        refine Ops.r (Run.loadA rfl Tryz.isAgg38 Tryz.sizeOf38 (fun j v hj => hb4.cells j v hj) (by first | rfl | (simp; done))) rfl ?_
        have hb2o := hb2
        refine Ops.st (Acts.storeA rfl rfl Tryz.sizeOf38 hb2 rfl (WtC_one v PA pc NA nc)) ?_
        rintro V4 ⟨hb2n, hf4, _⟩
        have hb2 : Blk V4 g2 38 (WtC v PA pc NA nc) := hb2n
        have hPI := hPI.frm hf4 (fun y hy => by have := hubP y hy; simp; exact this.2.2)
        have hN := hN.frm hf4 (fun y hy => by have := hN.ne_blk hb2o (by decide); simp; rintro rfl; exact this hy)
        have K := Frm.own K hf4 (fun y hy => by simp at hy; omega)
        refine Ops.r (v := .int .i64 ((0 : Nat) : Int)) (Run.asg rfl) rfl ?_
        refine Ops.nil ?_
        refine thenQ_n ?_
        refine VC.sub [(2, _), (3, _)] (.cons rfl (.cons rfl .nil)) ?_
        refine VC.ret ?_
        refine endR ?_
        refine res_cellA rfl Tryz.isAgg38 Tryz.sizeOf38 (fun j v hj => hb2.cells j v hj) (by first | rfl | (simp; done)) ?_
        refine res_tmp rfl ?_
        refine res_nil ?_
        rw [hrq]
        exact ⟨K, PA, pc, NA, nc, rfl, by rw [hvv] at hb2 ⊢; exact hPI, by rw [hvv]; exact hN⟩

end Go.Proofs.YtenbjndldenkfaaGreatDoor

namespace Go.Proofs.YtenbjndldenkfaaGreatDoor
open Go.RowKit Go.Sort

theorem PI_get {w : World} {ad : Addr} {l : List Int} {k : Nat} (h : Rd w 1 (some ad) l.length (PI l)) (hk : k < l.length) : w.cell? (ad.add (k * 1)) = some (.int .i64 l[k]) := by
  obtain ⟨ad', e, h⟩ := PI_at h hk
  cases e
  exact h
theorem SB_get1 {w : World} {ad : Addr} {l : List Tx} {k : Nat} (h : Rd w 1 (some ad) l.length (SB l)) (hk : k < l.length) : w.cell? (ad.add (k * 1)) = some (encStr l[k]) := by
  obtain ⟨ad', e, h⟩ := SB_at1 h hk
  cases e
  exact h
def SameW (v u : Wnt) : Prop := v.what = u.what ∧ v.path = u.path ∧ v.names = u.names
instance (v u : Wnt) : Decidable (SameW v u) := by unfold SameW; infer_instance
theorem not_same {v u : Wnt} (h : (v.what ≠ u.what ∨ v.path.length ≠ u.path.length) ∨ v.names.length ≠ u.names.length) : ¬ SameW v u := by
  rintro ⟨h1, h2, h3⟩
  rcases h with (h | h) | h
  · exact h h1
  · exact h (by rw [h2])
  · exact h (by rw [h3])

set_option maxRecDepth 100000 in
theorem same_want_spec (v u : Wnt) (A N B M : Option Addr) (c nc d mc : Nat) (w : World) (hp : Rd w 1 A v.path.length (PI v.path)) (hn : Rd w 1 N v.names.length (SB v.names)) (hq : Rd w 1 B u.path.length (PI u.path)) (hm : Rd w 1 M u.names.length (SB u.names)) (hpl : v.path.length ≤ 1000000) (hnl : v.names.length ≤ 1000000) :
    Calls Tryz.prog 47 #[.agg (WtC v A c N nc), .agg (WtC u B d M mc)] w fun e w' => e = .returned (.bool (decide (SameW v u))) ∧ Frm [] w w' := by
  refine VC.calls (nt := 66) (res := #[.tmp 4]) Tryz.func47 rfl Tryz.ntmps47 Tryz.results47 rfl ?_
  refine VC.seq ?_
  refine VC.region ?_
  refine Ops.m (Does.box rfl) rfl ?_
  rintro _ w1 ⟨rfl, hF2⟩
  have hb2 : Blk w1 w.heap.size 38 (WtC v A c N nc) := hF2.blk
  have f2 := hF2.frm
  have hp := hp.frm f2 (by simp)
  have hn := hn.frm f2 (by simp)
  have hq := hq.frm f2 (by simp)
  have hm := hm.frm f2 (by simp)
  generalize w.heap.size = g2 at hb2 ⊢
  refine Ops.m (Does.box rfl) rfl ?_
  rintro _ w2 ⟨rfl, hF3⟩
  have hb3 : Blk w2 w1.heap.size 38 (WtC u B d M mc) := hF3.blk
  have f3 := hF3.frm
  have hp := hp.frm f3 (by simp)
  have hn := hn.frm f3 (by simp)
  have hq := hq.frm f3 (by simp)
  have hm := hm.frm f3 (by simp)
  have hb2 := hb2.frm f3 (by simp)
  generalize w1.heap.size = g3 at hb3 ⊢
  have K := f2.trans f3 (by simp)
  have hb20 := hb2
  have hb30 := hb3
  refine Ops.r (Run.asg rfl) rfl ?_
  refine Ops.nil ?_
  refine thenQ_n ?_
  refine VC.sub [(2, _), (3, _)] (.cons rfl (.cons rfl .nil)) ?_
  refine VC.seq ?_
  refine VC.seq ?_
  refine VC.split1 [(2, _), (3, _)] (.cons rfl (.cons rfl .nil)) 29 (.bool (decide ((v.what ≠ u.what ∨ v.path.length ≠ u.path.length) ∨ v.names.length ≠ u.names.length))) ?_ ?_
  · refine VC.region ?_
    refine Ops.r (Run.fieldAddr rfl Tryz.underlying38 rfl Tryz.sizeOf9 (by decide)) rfl ?_
    refine Ops.r (Run.load rfl Tryz.isAgg9 (hb2.cell 1)) rfl ?_
    refine Ops.r (Run.fieldAddr rfl Tryz.underlying38 rfl Tryz.sizeOf9 (by decide)) rfl ?_
    refine Ops.r (Run.load rfl Tryz.isAgg9 (hb3.cell 1)) rfl ?_
    refine Ops.r (Run.neqT rfl rfl) rfl ?_
    by_cases hs11 : v.what ≠ u.what
    · skip
      refine Ops.r (Run.mv rfl) rfl ?_
      refine Ops.sk rfl (by first | rfl | assumption | exact decide_eq_true (by assumption) | exact decide_eq_false (by assumption) | decide | (simp; done) | (simp; omega) | (simp [*]; done)) rfl ?_
      refine Ops.sk rfl (by first | rfl | assumption | exact decide_eq_true (by assumption) | exact decide_eq_false (by assumption) | decide | (simp; done) | (simp; omega) | (simp [*]; done)) rfl ?_
      refine Ops.sk rfl (by first | rfl | assumption | exact decide_eq_true (by assumption) | exact decide_eq_false (by assumption) | decide | (simp; done) | (simp; omega) | (simp [*]; done)) rfl ?_
      refine Ops.sk rfl (by first | rfl | assumption | exact decide_eq_true (by assumption) | exact decide_eq_false (by assumption) | decide | (simp; done) | (simp; omega) | (simp [*]; done)) rfl ?_
      refine Ops.sk rfl (by first | rfl | assumption | exact decide_eq_true (by assumption) | exact decide_eq_false (by assumption) | decide | (simp; done) | (simp; omega) | (simp [*]; done)) rfl ?_
      refine Ops.sk rfl (by first | rfl | assumption | exact decide_eq_true (by assumption) | exact decide_eq_false (by assumption) | decide | (simp; done) | (simp; omega) | (simp [*]; done)) rfl ?_
      refine Ops.sk rfl (by first | rfl | assumption | exact decide_eq_true (by assumption) | exact decide_eq_false (by assumption) | decide | (simp; done) | (simp; omega) | (simp [*]; done)) rfl ?_
      refine Ops.r (Run.pickT rfl rfl (by first | rfl | assumption | exact decide_eq_true (by assumption) | exact decide_eq_false (by assumption) | decide | (simp; done) | (simp; omega) | (simp [*]; done))) rfl ?_
      refine Ops.r (Run.mv rfl) rfl ?_
      refine Ops.sk rfl (by first | rfl | assumption | exact decide_eq_true (by assumption) | exact decide_eq_false (by assumption) | decide | (simp; done) | (simp; omega) | (simp [*]; done)) rfl ?_
      refine Ops.sk rfl (by first | rfl | assumption | exact decide_eq_true (by assumption) | exact decide_eq_false (by assumption) | decide | (simp; done) | (simp; omega) | (simp [*]; done)) rfl ?_
      refine Ops.sk rfl (by first | rfl | assumption | exact decide_eq_true (by assumption) | exact decide_eq_false (by assumption) | decide | (simp; done) | (simp; omega) | (simp [*]; done)) rfl ?_
      refine Ops.sk rfl (by first | rfl | assumption | exact decide_eq_true (by assumption) | exact decide_eq_false (by assumption) | decide | (simp; done) | (simp; omega) | (simp [*]; done)) rfl ?_
      refine Ops.sk rfl (by first | rfl | assumption | exact decide_eq_true (by assumption) | exact decide_eq_false (by assumption) | decide | (simp; done) | (simp; omega) | (simp [*]; done)) rfl ?_
      refine Ops.sk rfl (by first | rfl | assumption | exact decide_eq_true (by assumption) | exact decide_eq_false (by assumption) | decide | (simp; done) | (simp; omega) | (simp [*]; done)) rfl ?_
      refine Ops.sk rfl (by first | rfl | assumption | exact decide_eq_true (by assumption) | exact decide_eq_false (by assumption) | decide | (simp; done) | (simp; omega) | (simp [*]; done)) rfl ?_
      refine Ops.r (Run.pickT rfl rfl (by first | rfl | assumption | exact decide_eq_true (by assumption) | exact decide_eq_false (by assumption) | decide | (simp; done) | (simp; omega) | (simp [*]; done))) rfl ?_
      refine Ops.nil ?_
      refine thenQ_n ⟨(.cons (congrArg (fun b => some (Value.bool b)) (by first | exact (decide_eq_true (show (v.what ≠ u.what ∨ v.path.length ≠ u.path.length) ∨ v.names.length ≠ u.names.length from .inl (.inl hs11))).symm | exact (decide_eq_true hs11).trans (decide_eq_true (show (v.what ≠ u.what ∨ v.path.length ≠ u.path.length) ∨ v.names.length ≠ u.names.length from .inl (.inl hs11))).symm | exact (decide_eq_true (show (v.what ≠ u.what ∨ v.path.length ≠ u.path.length) ∨ v.names.length ≠ u.names.length from .inl (.inr hs19))).symm | exact (decide_eq_true hs19).trans (decide_eq_true (show (v.what ≠ u.what ∨ v.path.length ≠ u.path.length) ∨ v.names.length ≠ u.names.length from .inl (.inr hs19))).symm | exact (decide_eq_true hs28).trans (decide_eq_true (show (v.what ≠ u.what ∨ v.path.length ≠ u.path.length) ∨ v.names.length ≠ u.names.length from .inr hs28)).symm | exact (decide_eq_false hs28).trans (decide_eq_false (show ¬ ((v.what ≠ u.what ∨ v.path.length ≠ u.path.length) ∨ v.names.length ≠ u.names.length) from fun h => h.elim (fun h => h.elim hs11 hs19) hs28)).symm)) (.cons rfl (.cons rfl .nil))), rfl⟩
    · skip
      refine Ops.r (Run.mv rfl) rfl ?_
      refine Ops.rg rfl (by first | rfl | assumption | exact decide_eq_true (by assumption) | exact decide_eq_false (by assumption) | decide | (simp; done) | (simp; omega) | (simp [*]; done)) (Run.fieldAddr rfl Tryz.underlying38 rfl Tryz.sizeOf33 (by decide)) rfl ?_
      refine Ops.rg rfl (by first | rfl | assumption | exact decide_eq_true (by assumption) | exact decide_eq_false (by assumption) | decide | (simp; done) | (simp; omega) | (simp [*]; done)) (Run.load rfl Tryz.isAgg33 (show _ = some (Value.slice A v.path.length c) from hb2.cell 0)) rfl ?_
      refine Ops.rg rfl (by first | rfl | assumption | exact decide_eq_true (by assumption) | exact decide_eq_false (by assumption) | decide | (simp; done) | (simp; omega) | (simp [*]; done)) (Run.lenS rfl Tryz.underlying33) rfl ?_
      refine Ops.rg rfl (by first | rfl | assumption | exact decide_eq_true (by assumption) | exact decide_eq_false (by assumption) | decide | (simp; done) | (simp; omega) | (simp [*]; done)) (Run.fieldAddr rfl Tryz.underlying38 rfl Tryz.sizeOf33 (by decide)) rfl ?_
      refine Ops.rg rfl (by first | rfl | assumption | exact decide_eq_true (by assumption) | exact decide_eq_false (by assumption) | decide | (simp; done) | (simp; omega) | (simp [*]; done)) (Run.load rfl Tryz.isAgg33 (show _ = some (Value.slice B u.path.length d) from hb3.cell 0)) rfl ?_
      refine Ops.rg rfl (by first | rfl | assumption | exact decide_eq_true (by assumption) | exact decide_eq_false (by assumption) | decide | (simp; done) | (simp; omega) | (simp [*]; done)) (Run.lenS rfl Tryz.underlying33) rfl ?_
      refine Ops.rg rfl (by first | rfl | assumption | exact decide_eq_true (by assumption) | exact decide_eq_false (by assumption) | decide | (simp; done) | (simp; omega) | (simp [*]; done)) (Run.bin rfl rfl (Bin.neqN _ _)) rfl ?_
      by_cases hs19 : v.path.length ≠ u.path.length
      · skip
        refine Ops.r (Run.pickF rfl rfl (by first | rfl | assumption | exact decide_eq_true (by assumption) | exact decide_eq_false (by assumption) | decide | (simp; done) | (simp; omega) | (simp [*]; done))) rfl ?_
        refine Ops.r (Run.mv rfl) rfl ?_
        refine Ops.sk rfl (by first | rfl | assumption | exact decide_eq_true (by assumption) | exact decide_eq_false (by assumption) | decide | (simp; done) | (simp; omega) | (simp [*]; done)) rfl ?_
        refine Ops.sk rfl (by first | rfl | assumption | exact decide_eq_true (by assumption) | exact decide_eq_false (by assumption) | decide | (simp; done) | (simp; omega) | (simp [*]; done)) rfl ?_
        refine Ops.sk rfl (by first | rfl | assumption | exact decide_eq_true (by assumption) | exact decide_eq_false (by assumption) | decide | (simp; done) | (simp; omega) | (simp [*]; done)) rfl ?_
        refine Ops.sk rfl (by first | rfl | assumption | exact decide_eq_true (by assumption) | exact decide_eq_false (by assumption) | decide | (simp; done) | (simp; omega) | (simp [*]; done)) rfl ?_
        refine Ops.sk rfl (by first | rfl | assumption | exact decide_eq_true (by assumption) | exact decide_eq_false (by assumption) | decide | (simp; done) | (simp; omega) | (simp [*]; done)) rfl ?_
        refine Ops.sk rfl (by first | rfl | assumption | exact decide_eq_true (by assumption) | exact decide_eq_false (by assumption) | decide | (simp; done) | (simp; omega) | (simp [*]; done)) rfl ?_
        refine Ops.sk rfl (by first | rfl | assumption | exact decide_eq_true (by assumption) | exact decide_eq_false (by assumption) | decide | (simp; done) | (simp; omega) | (simp [*]; done)) rfl ?_
        refine Ops.r (Run.pickT rfl rfl (by first | rfl | assumption | exact decide_eq_true (by assumption) | exact decide_eq_false (by assumption) | decide | (simp; done) | (simp; omega) | (simp [*]; done))) rfl ?_
        refine Ops.nil ?_
        refine thenQ_n ⟨(.cons (congrArg (fun b => some (Value.bool b)) (by first | exact (decide_eq_true (show (v.what ≠ u.what ∨ v.path.length ≠ u.path.length) ∨ v.names.length ≠ u.names.length from .inl (.inl hs11))).symm | exact (decide_eq_true hs11).trans (decide_eq_true (show (v.what ≠ u.what ∨ v.path.length ≠ u.path.length) ∨ v.names.length ≠ u.names.length from .inl (.inl hs11))).symm | exact (decide_eq_true (show (v.what ≠ u.what ∨ v.path.length ≠ u.path.length) ∨ v.names.length ≠ u.names.length from .inl (.inr hs19))).symm | exact (decide_eq_true hs19).trans (decide_eq_true (show (v.what ≠ u.what ∨ v.path.length ≠ u.path.length) ∨ v.names.length ≠ u.names.length from .inl (.inr hs19))).symm | exact (decide_eq_true hs28).trans (decide_eq_true (show (v.what ≠ u.what ∨ v.path.length ≠ u.path.length) ∨ v.names.length ≠ u.names.length from .inr hs28)).symm | exact (decide_eq_false hs28).trans (decide_eq_false (show ¬ ((v.what ≠ u.what ∨ v.path.length ≠ u.path.length) ∨ v.names.length ≠ u.names.length) from fun h => h.elim (fun h => h.elim hs11 hs19) hs28)).symm)) (.cons rfl (.cons rfl .nil))), rfl⟩
      · skip
        refine Ops.r (Run.pickF rfl rfl (by first | rfl | assumption | exact decide_eq_true (by assumption) | exact decide_eq_false (by assumption) | decide | (simp; done) | (simp; omega) | (simp [*]; done))) rfl ?_
        refine Ops.r (Run.mv rfl) rfl ?_
        refine Ops.rg rfl (by first | rfl | assumption | exact decide_eq_true (by assumption) | exact decide_eq_false (by assumption) | decide | (simp; done) | (simp; omega) | (simp [*]; done)) (Run.fieldAddr rfl Tryz.underlying38 rfl Tryz.sizeOf36 (by decide)) rfl ?_
        refine Ops.rg rfl (by first | rfl | assumption | exact decide_eq_true (by assumption) | exact decide_eq_false (by assumption) | decide | (simp; done) | (simp; omega) | (simp [*]; done)) (Run.load rfl Tryz.isAgg36 (show _ = some (Value.slice N v.names.length nc) from hb2.cell 2)) rfl ?_
        refine Ops.rg rfl (by first | rfl | assumption | exact decide_eq_true (by assumption) | exact decide_eq_false (by assumption) | decide | (simp; done) | (simp; omega) | (simp [*]; done)) (Run.lenS rfl Tryz.underlying36) rfl ?_
        refine Ops.rg rfl (by first | rfl | assumption | exact decide_eq_true (by assumption) | exact decide_eq_false (by assumption) | decide | (simp; done) | (simp; omega) | (simp [*]; done)) (Run.fieldAddr rfl Tryz.underlying38 rfl Tryz.sizeOf36 (by decide)) rfl ?_
        refine Ops.rg rfl (by first | rfl | assumption | exact decide_eq_true (by assumption) | exact decide_eq_false (by assumption) | decide | (simp; done) | (simp; omega) | (simp [*]; done)) (Run.load rfl Tryz.isAgg36 (show _ = some (Value.slice M u.names.length mc) from hb3.cell 2)) rfl ?_
        refine Ops.rg rfl (by first | rfl | assumption | exact decide_eq_true (by assumption) | exact decide_eq_false (by assumption) | decide | (simp; done) | (simp; omega) | (simp [*]; done)) (Run.lenS rfl Tryz.underlying36) rfl ?_
        refine Ops.rg rfl (by first | rfl | assumption | exact decide_eq_true (by assumption) | exact decide_eq_false (by assumption) | decide | (simp; done) | (simp; omega) | (simp [*]; done)) (Run.bin rfl rfl (Bin.neqN _ _)) rfl ?_
        by_cases hs28 : v.names.length ≠ u.names.length
        · skip
          refine Ops.r (Run.pickF rfl rfl (by first | rfl | assumption | exact decide_eq_true (by assumption) | exact decide_eq_false (by assumption) | decide | (simp; done) | (simp; omega) | (simp [*]; done))) rfl ?_
          refine Ops.nil ?_
          refine thenQ_n ⟨(.cons (congrArg (fun b => some (Value.bool b)) (by first | exact (decide_eq_true (show (v.what ≠ u.what ∨ v.path.length ≠ u.path.length) ∨ v.names.length ≠ u.names.length from .inl (.inl hs11))).symm | exact (decide_eq_true hs11).trans (decide_eq_true (show (v.what ≠ u.what ∨ v.path.length ≠ u.path.length) ∨ v.names.length ≠ u.names.length from .inl (.inl hs11))).symm | exact (decide_eq_true (show (v.what ≠ u.what ∨ v.path.length ≠ u.path.length) ∨ v.names.length ≠ u.names.length from .inl (.inr hs19))).symm | exact (decide_eq_true hs19).trans (decide_eq_true (show (v.what ≠ u.what ∨ v.path.length ≠ u.path.length) ∨ v.names.length ≠ u.names.length from .inl (.inr hs19))).symm | exact (decide_eq_true hs28).trans (decide_eq_true (show (v.what ≠ u.what ∨ v.path.length ≠ u.path.length) ∨ v.names.length ≠ u.names.length from .inr hs28)).symm | exact (decide_eq_false hs28).trans (decide_eq_false (show ¬ ((v.what ≠ u.what ∨ v.path.length ≠ u.path.length) ∨ v.names.length ≠ u.names.length) from fun h => h.elim (fun h => h.elim hs11 hs19) hs28)).symm)) (.cons rfl (.cons rfl .nil))), rfl⟩
        · skip
          refine Ops.r (Run.pickF rfl rfl (by first | rfl | assumption | exact decide_eq_true (by assumption) | exact decide_eq_false (by assumption) | decide | (simp; done) | (simp; omega) | (simp [*]; done))) rfl ?_
          refine Ops.nil ?_
          refine thenQ_n ⟨(.cons (congrArg (fun b => some (Value.bool b)) (by first | exact (decide_eq_true (show (v.what ≠ u.what ∨ v.path.length ≠ u.path.length) ∨ v.names.length ≠ u.names.length from .inl (.inl hs11))).symm | exact (decide_eq_true hs11).trans (decide_eq_true (show (v.what ≠ u.what ∨ v.path.length ≠ u.path.length) ∨ v.names.length ≠ u.names.length from .inl (.inl hs11))).symm | exact (decide_eq_true (show (v.what ≠ u.what ∨ v.path.length ≠ u.path.length) ∨ v.names.length ≠ u.names.length from .inl (.inr hs19))).symm | exact (decide_eq_true hs19).trans (decide_eq_true (show (v.what ≠ u.what ∨ v.path.length ≠ u.path.length) ∨ v.names.length ≠ u.names.length from .inl (.inr hs19))).symm | exact (decide_eq_true hs28).trans (decide_eq_true (show (v.what ≠ u.what ∨ v.path.length ≠ u.path.length) ∨ v.names.length ≠ u.names.length from .inr hs28)).symm | exact (decide_eq_false hs28).trans (decide_eq_false (show ¬ ((v.what ≠ u.what ∨ v.path.length ≠ u.path.length) ∨ v.names.length ≠ u.names.length) from fun h => h.elim (fun h => h.elim hs11 hs19) hs28)).symm)) (.cons rfl (.cons rfl .nil))), rfl⟩
  · intro Γ hΓ
    refine thenQ_n (VC.sub _ hΓ ?_)
    refine VC.condD rfl (fun hc1 => ?_) (fun hc1 => ?_)
    · skip
      refine VC.seq ?_
      refine VC.region ?_
      refine Ops.r (Run.asg rfl) rfl ?_
      refine Ops.nil ?_
      refine thenQ_n ?_
      refine VC.sub [(4, _)] (.cons rfl .nil) ?_
      refine VC.ret ?_
      refine thenQ_r (end1 rfl ?_)
      exact ⟨by rw [decide_eq_false (not_same hc1)], K⟩
    · skip
      have e1 : v.what = u.what := Classical.byContradiction fun h => hc1 (.inl (.inl h))
      have e2 : v.path.length = u.path.length := Classical.byContradiction fun h => hc1 (.inl (.inr h))
      have e3 : v.names.length = u.names.length := Classical.byContradiction fun h => hc1 (.inr h)
      refine VC.skip ?_
      refine thenQ_n ?_
      refine VC.sub [(2, _), (3, _)] (.cons rfl (.cons rfl .nil)) ?_
      refine VC.seq ?_
      refine VC.seq ?_
      refine VC.region ?_
      refine Ops.r (v := .int .i64 ((0 : Nat) : Int)) (Run.asg rfl) rfl ?_
      refine Ops.nil ?_
      refine thenQ_n ?_
      refine VC.block ?_
      refine VC.loop (σ := Nat) (fun s => [(2, .pointer (some ⟨g2, 0, none⟩)), (3, .pointer (some ⟨g3, 0, none⟩)), (5, .int .i64 ((s : Nat) : Int))]) (fun s wr => s ≤ v.path.length ∧ v.path.take s = u.path.take s ∧ Frm [] w2 wr) (fun s => v.path.length - s) 0 (.cons rfl (.cons rfl (.cons rfl .nil))) ⟨by omega, by simp, Frm.refl _ _⟩ ?_
      rintro i wr ⟨hi, heq, K0⟩
      have hb2 := hb20.frm K0 (by simp)
      have hb3 := hb30.frm K0 (by simp)
      refine VC.seq ?_
      refine VC.seq ?_
      refine VC.region ?_
      refine Ops.r (Run.mv rfl) rfl ?_
      refine Ops.r (Run.fieldAddr rfl Tryz.underlying38 rfl Tryz.sizeOf33 (by decide)) rfl ?_
      refine Ops.r (Run.load rfl Tryz.isAgg33 (show _ = some (Value.slice A v.path.length c) from hb2.cell 0)) rfl ?_
      refine Ops.r (Run.lenS rfl Tryz.underlying33) rfl ?_
      refine Ops.r (Run.bin rfl rfl (Bin.lssN _ _)) rfl ?_
      refine Ops.nil ?_
      refine thenQ_n ?_
      refine VC.sub [(2, _), (3, _), (5, _), (34, _)] (.cons rfl (.cons rfl (.cons rfl (.cons rfl .nil)))) ?_
      refine VC.condD rfl (fun hc2 => ?_) (fun hc2 => ?_)
      · skip
        obtain ⟨ad1, rfl, _⟩ := PI_at (hp.frm K0 (by simp)) hc2
        obtain ⟨ad2, rfl, _⟩ := PI_at (hq.frm K0 (by simp)) (show i < u.path.length by omega)
        have hg1 := fun {w0 : World} (k : Frm [] w2 w0) => PI_get (hp.frm k (by simp)) hc2
        have hg2 := fun {w0 : World} (k : Frm [] w2 w0) => PI_get (hq.frm k (by simp)) (show i < u.path.length by omega)
        have ht1 := take_snoc hc2
        have ht2 := take_snoc (show i < u.path.length by omega)
        refine VC.skip ?_
        refine thenQ_n ?_
        refine VC.sub [(2, _), (3, _), (5, _)] (.cons rfl (.cons rfl (.cons rfl .nil))) ?_
        refine VC.seq ?_
        refine VC.block ?_
        refine VC.seq ?_
        refine VC.held (fun V => Frm [] wr V) (by kernel_rfl) ?_
        have hS : Frm [] wr wr.drew := (Frm.refl [] wr).drew
        refine HOps.take 0 rfl (by kernel_rfl) (by kernel_rfl) (by kernel_rfl) hS (fun w0 hw0 => Run.fieldAddr rfl Tryz.underlying38 rfl Tryz.sizeOf33 (by decide)) trivial rfl rfl ?_
        refine HOps.take 1 rfl (by kernel_rfl) (by kernel_rfl) (by kernel_rfl) hS (fun w0 hw0 => Run.load rfl Tryz.isAgg33 (show _ = some (Value.slice (some ad1) v.path.length c) from (hb2.frm hw0 (by simp)).cell 0)) trivial rfl rfl ?_
        refine HOps.take 2 rfl (by kernel_rfl) (by kernel_rfl) (by kernel_rfl) hS (fun w0 hw0 => Run.mv rfl) trivial rfl rfl ?_
        refine HOps.take 3 rfl (by kernel_rfl) (by kernel_rfl) (by kernel_rfl) hS (fun w0 hw0 => Run.indexS i rfl rfl Tryz.underlying33 Tryz.sizeOf3 hc2) trivial rfl rfl ?_
        refine HOps.take 4 rfl (by kernel_rfl) (by kernel_rfl) (by kernel_rfl) hS (fun w0 hw0 => Run.load rfl Tryz.isAgg3 (hg1 (K0.trans hw0 (by simp)))) trivial rfl rfl ?_
        refine HOps.take 5 rfl (by kernel_rfl) (by kernel_rfl) (by kernel_rfl) hS (fun w0 hw0 => Run.fieldAddr rfl Tryz.underlying38 rfl Tryz.sizeOf33 (by decide)) trivial rfl rfl ?_
        refine HOps.take 6 rfl (by kernel_rfl) (by kernel_rfl) (by kernel_rfl) hS (fun w0 hw0 => Run.load rfl Tryz.isAgg33 (show _ = some (Value.slice (some ad2) u.path.length d) from (hb3.frm hw0 (by simp)).cell 0)) trivial rfl rfl ?_
        refine HOps.take 7 rfl (by kernel_rfl) (by kernel_rfl) (by kernel_rfl) hS (fun w0 hw0 => Run.mv rfl) trivial rfl rfl ?_
        refine HOps.take 8 rfl (by kernel_rfl) (by kernel_rfl) (by kernel_rfl) hS (fun w0 hw0 => Run.indexS i rfl rfl Tryz.underlying33 Tryz.sizeOf3 (by omega)) trivial rfl rfl ?_
        refine HOps.take 9 rfl (by kernel_rfl) (by kernel_rfl) (by kernel_rfl) hS (fun w0 hw0 => Run.load rfl Tryz.isAgg3 (hg2 (K0.trans hw0 (by simp)))) trivial rfl rfl ?_
        refine HOps.take 10 rfl (by kernel_rfl) (by kernel_rfl) (by kernel_rfl) hS (fun w0 hw0 => Run.bin rfl rfl (Bin.neq _ _)) trivial rfl rfl ?_
        refine HOps.done (by kernel_rfl) ?_
        refine thenQ_n ?_
        refine VC.sub [(2, _), (3, _), (5, _), (47, _)] (.cons rfl (.cons rfl (.cons rfl (.cons rfl .nil)))) ?_
        refine VC.condD rfl (fun hc3 => ?_) (fun hc3 => ?_)
        · skip
          have hne : v.path ≠ u.path := fun h => by have h2 := hc3; simp [h] at h2
          refine VC.seq ?_
          refine VC.region ?_
          refine Ops.r (Run.asg rfl) rfl ?_
          refine Ops.nil ?_
          refine thenQ_n ?_
          refine VC.sub [(4, _)] (.cons rfl .nil) ?_
          refine VC.ret ?_
          refine blockQ_r (thenQ_r (thenQ_r (blockQ_r (thenQ_r (end1 rfl ?_)))))
          exact ⟨by rw [decide_eq_false (show ¬ SameW v u from fun h => hne h.2.1)], K.trans (K0.drew) (by simp)⟩
        · skip
          refine VC.skip ?_
          refine blockQ_n (thenQ_n ?_)
          refine VC.sub [(2, _), (3, _), (5, _)] (.cons rfl (.cons rfl (.cons rfl .nil))) ?_
          refine VC.region ?_
          refine Ops.r (Run.mv rfl) rfl ?_
          refine Ops.r (Run.bin rfl rfl (Bin.add_i64 _ 1 (by omega))) rfl ?_
          refine Ops.r (Run.asg rfl) rfl ?_
          refine Ops.nil ?_
          refine thenQ_n ⟨(i + 1), (.cons rfl (.cons rfl (.cons rfl .nil))), ?_, ?_⟩
          · skip
            have hxy : v.path[i] = u.path[i] := by have h2 := hc3; simpa using h2
            exact ⟨by omega, by rw [ht1, ht2, heq, hxy], (K0.drew)⟩
          · skip
            first | omega | (dsimp only; omega)
      · skip
        have hep : v.path = u.path := by
          have hil : i = v.path.length := by omega
          rw [hil, List.take_length, e2, List.take_length] at heq
          exact heq
        refine VC.exit ?_
        refine thenQ_x (thenQ_x (blockQ_x ?_))
        refine thenQ_n ?_
        refine VC.sub [(2, _), (3, _)] (.cons rfl (.cons rfl .nil)) ?_
        refine VC.seq ?_
        refine VC.seq ?_
        refine VC.region ?_
        refine Ops.r (v := .int .i64 ((0 : Nat) : Int)) (Run.asg rfl) rfl ?_
        refine Ops.nil ?_
        refine thenQ_n ?_
        refine VC.block ?_
        refine VC.loop (σ := Nat) (fun s => [(2, .pointer (some ⟨g2, 0, none⟩)), (3, .pointer (some ⟨g3, 0, none⟩)), (6, .int .i64 ((s : Nat) : Int))]) (fun s wr => s ≤ v.names.length ∧ v.names.take s = u.names.take s ∧ Frm [] w2 wr) (fun s => v.names.length - s) 0 (.cons rfl (.cons rfl (.cons rfl .nil))) ⟨by omega, by simp, K0⟩ ?_
        rintro i wr ⟨hi, heq, K0⟩
        have hb2 := hb20.frm K0 (by simp)
        have hb3 := hb30.frm K0 (by simp)
        refine VC.seq ?_
        refine VC.seq ?_
        refine VC.region ?_
        refine Ops.r (Run.mv rfl) rfl ?_
        refine Ops.r (Run.fieldAddr rfl Tryz.underlying38 rfl Tryz.sizeOf36 (by decide)) rfl ?_
        refine Ops.r (Run.load rfl Tryz.isAgg36 (show _ = some (Value.slice N v.names.length nc) from hb2.cell 2)) rfl ?_
        refine Ops.r (Run.lenS rfl Tryz.underlying36) rfl ?_
        refine Ops.r (Run.bin rfl rfl (Bin.lssN _ _)) rfl ?_
        refine Ops.nil ?_
        refine thenQ_n ?_
        refine VC.sub [(2, _), (3, _), (6, _), (52, _)] (.cons rfl (.cons rfl (.cons rfl (.cons rfl .nil)))) ?_
        refine VC.condD rfl (fun hc4 => ?_) (fun hc4 => ?_)
        · skip
          obtain ⟨ad1, rfl, _⟩ := SB_at1 (hn.frm K0 (by simp)) hc4
          obtain ⟨ad2, rfl, _⟩ := SB_at1 (hm.frm K0 (by simp)) (show i < u.names.length by omega)
          have hg1 := fun {w0 : World} (k : Frm [] w2 w0) => SB_get1 (hn.frm k (by simp)) hc4
          have hg2 := fun {w0 : World} (k : Frm [] w2 w0) => SB_get1 (hm.frm k (by simp)) (show i < u.names.length by omega)
          have ht1 := take_snoc hc4
          have ht2 := take_snoc (show i < u.names.length by omega)
          refine VC.skip ?_
          refine thenQ_n ?_
          refine VC.sub [(2, _), (3, _), (6, _)] (.cons rfl (.cons rfl (.cons rfl .nil))) ?_
          refine VC.seq ?_
          refine VC.block ?_
          refine VC.seq ?_
          refine VC.held (fun V => Frm [] wr V) (by kernel_rfl) ?_
          have hS : Frm [] wr wr.drew := (Frm.refl [] wr).drew
          refine HOps.take 0 rfl (by kernel_rfl) (by kernel_rfl) (by kernel_rfl) hS (fun w0 hw0 => Run.fieldAddr rfl Tryz.underlying38 rfl Tryz.sizeOf36 (by decide)) trivial rfl rfl ?_
          refine HOps.take 1 rfl (by kernel_rfl) (by kernel_rfl) (by kernel_rfl) hS (fun w0 hw0 => Run.load rfl Tryz.isAgg36 (show _ = some (Value.slice (some ad1) v.names.length nc) from (hb2.frm hw0 (by simp)).cell 2)) trivial rfl rfl ?_
          refine HOps.take 2 rfl (by kernel_rfl) (by kernel_rfl) (by kernel_rfl) hS (fun w0 hw0 => Run.mv rfl) trivial rfl rfl ?_
          refine HOps.take 3 rfl (by kernel_rfl) (by kernel_rfl) (by kernel_rfl) hS (fun w0 hw0 => Run.indexS i rfl rfl Tryz.underlying36 Tryz.sizeOf9 hc4) trivial rfl rfl ?_
          refine HOps.take 4 rfl (by kernel_rfl) (by kernel_rfl) (by kernel_rfl) hS (fun w0 hw0 => Run.load rfl Tryz.isAgg9 (hg1 (K0.trans hw0 (by simp)))) trivial rfl rfl ?_
          refine HOps.take 5 rfl (by kernel_rfl) (by kernel_rfl) (by kernel_rfl) hS (fun w0 hw0 => Run.fieldAddr rfl Tryz.underlying38 rfl Tryz.sizeOf36 (by decide)) trivial rfl rfl ?_
          refine HOps.take 6 rfl (by kernel_rfl) (by kernel_rfl) (by kernel_rfl) hS (fun w0 hw0 => Run.load rfl Tryz.isAgg36 (show _ = some (Value.slice (some ad2) u.names.length mc) from (hb3.frm hw0 (by simp)).cell 2)) trivial rfl rfl ?_
          refine HOps.take 7 rfl (by kernel_rfl) (by kernel_rfl) (by kernel_rfl) hS (fun w0 hw0 => Run.mv rfl) trivial rfl rfl ?_
          refine HOps.take 8 rfl (by kernel_rfl) (by kernel_rfl) (by kernel_rfl) hS (fun w0 hw0 => Run.indexS i rfl rfl Tryz.underlying36 Tryz.sizeOf9 (by omega)) trivial rfl rfl ?_
          refine HOps.take 9 rfl (by kernel_rfl) (by kernel_rfl) (by kernel_rfl) hS (fun w0 hw0 => Run.load rfl Tryz.isAgg9 (hg2 (K0.trans hw0 (by simp)))) trivial rfl rfl ?_
          refine HOps.take 10 rfl (by kernel_rfl) (by kernel_rfl) (by kernel_rfl) hS (fun w0 hw0 => Run.neqT rfl rfl) trivial rfl rfl ?_
          refine HOps.done (by kernel_rfl) ?_
          refine thenQ_n ?_
          refine VC.sub [(2, _), (3, _), (6, _), (65, _)] (.cons rfl (.cons rfl (.cons rfl (.cons rfl .nil)))) ?_
          refine VC.condD rfl (fun hc5 => ?_) (fun hc5 => ?_)
          · skip
            have hne : v.names ≠ u.names := fun h => by have h2 := hc5; simp [h] at h2
            refine VC.seq ?_
            refine VC.region ?_
            refine Ops.r (Run.asg rfl) rfl ?_
            refine Ops.nil ?_
            refine thenQ_n ?_
            refine VC.sub [(4, _)] (.cons rfl .nil) ?_
            refine VC.ret ?_
            refine blockQ_r (thenQ_r (thenQ_r (blockQ_r (thenQ_r (end1 rfl ?_)))))
            exact ⟨by rw [decide_eq_false (show ¬ SameW v u from fun h => hne h.2.2)], K.trans (K0.drew) (by simp)⟩
          · skip
            refine VC.skip ?_
            refine blockQ_n (thenQ_n ?_)
            refine VC.sub [(2, _), (3, _), (6, _)] (.cons rfl (.cons rfl (.cons rfl .nil))) ?_
            refine VC.region ?_
            refine Ops.r (Run.mv rfl) rfl ?_
            refine Ops.r (Run.bin rfl rfl (Bin.add_i64 _ 1 (by omega))) rfl ?_
            refine Ops.r (Run.asg rfl) rfl ?_
            refine Ops.nil ?_
            refine thenQ_n ⟨(i + 1), (.cons rfl (.cons rfl (.cons rfl .nil))), ?_, ?_⟩
            · skip
              have hxy : v.names[i] = u.names[i] := by have h2 := hc5; simpa using h2
              exact ⟨by omega, by rw [ht1, ht2, heq, hxy], (K0.drew)⟩
            · skip
              first | omega | (dsimp only; omega)
        · skip
          have hen : v.names = u.names := by
            have hil : i = v.names.length := by omega
            rw [hil, List.take_length, e3, List.take_length] at heq
            exact heq
          refine VC.exit ?_
          refine thenQ_x (thenQ_x (blockQ_x ?_))
          refine thenQ_n ?_
          refine VC.sub [] .nil ?_
          refine VC.seq ?_
          refine VC.region ?_
          refine Ops.r (Run.asg rfl) rfl ?_
          refine Ops.nil ?_
          refine thenQ_n ?_
          refine VC.ret ?_
          refine end1 rfl ?_
          exact ⟨by rw [decide_eq_true (show SameW v u from ⟨e1, hep, hen⟩)], K.trans K0 (by simp)⟩

end Go.Proofs.YtenbjndldenkfaaGreatDoor

namespace Go.Proofs.YtenbjndldenkfaaGreatDoor
open Go.RowKit Go.Sort

deriving instance DecidableEq for Wnt
def b21 : Tx := [65, 58, 32, 49, 13, 10, 13, 10, 120]
set_option maxRecDepth 100000 in
theorem ex21a : readQ [49, 46, 50, 46, 104, 101, 97, 100, 101, 114, 46, 102, 105, 101, 108, 100, 115, 32, 40, 84, 111, 32, 68, 97, 116, 101, 41] = some (⟨[1, 2], fldT, [[84, 111], [68, 97, 116, 101]]⟩ : Wnt) := by decide +kernel
set_option maxRecDepth 100000 in
theorem ex21b : readQ [77, 73, 77, 69] = none := by decide +kernel
set_option maxRecDepth 100000 in
theorem ex21c : getQ b21 (⟨[1], [], []⟩ : Wnt) = some [120] := by decide +kernel
set_option maxRecDepth 100000 in
theorem ex21d : getQ b21 (⟨[2], [], []⟩ : Wnt) = none := by decide +kernel
set_option maxRecDepth 100000 in
theorem ex21e : getQ b21 (⟨[1], mimT, []⟩ : Wnt) = some [65, 58, 32, 49, 13, 10, 13, 10] := by decide +kernel

set_option maxRecDepth 100000 in
theorem awake21_spec (w : World) (hv : LibV w) : Calls Tryz.prog 20 #[] w fun e w' => e = .returned (.bool true) ∧ Frm [] w w' := by
  have K := Frm.refl [] w
  refine VC.calls (nt := 76) (res := #[.tmp 0]) Tryz.func20 rfl Tryz.ntmps20 Tryz.results20 rfl ?_
  refine VC.seq ?_
  refine VC.region ?_
  refine Ops.r (Run.asg rfl) rfl ?_
  refine Ops.nil ?_
  refine thenQ_n ?_
  refine VC.sub [] .nil ?_
  refine VC.seq ?_
  refine VC.region ?_
  refine Ops.cl (Enters.fn (evs.cons rfl evs.nil) Tryz.call46) ((sread_spec [49, 46, 50, 46, 104, 101, 97, 100, 101, 114, 46, 102, 105, 101, 108, 100, 115, 32, 40, 84, 111, 32, 68, 97, 116, 101, 41] _ (by decide) (hv.frm0 K))) rfl ?_
  rintro e w1 ⟨f1, PA, pc, NA, nc, rfl, hOP, hON⟩
  rw [ex21a] at hOP hON ⊢
  refine ⟨_, rfl, ?_⟩
  dsimp only [Option.getD_some, Option.isSome_some, if_true] at hOP hON ⊢
  
  have K := K.trans f1 (by simp)
  refine Ops.r (Run.mv rfl) rfl ?_
  refine Ops.r (Run.extract rfl rfl) rfl ?_
  refine Ops.r (Run.extract rfl rfl) rfl ?_
  refine Ops.m (Does.alloc zero38) rfl ?_
  rintro _ w2 ⟨rfl, hF2⟩
  have hb1 : Blk w2 w1.heap.size 38 _ := hF2.blk
  have K1 := K.size
  have hOP := hOP.frm hF2.frm (by simp)
  have hON := hON.frm hF2.frm (by simp)
  have K := K.trans hF2.frm (by simp)
  generalize hg1 : w1.heap.size = g1 at hb1 K1 ⊢
  refine Ops.st (Acts.storeA rfl rfl Tryz.sizeOf38 hb1 rfl (WtC_one (⟨[1, 2], fldT, [[84, 111], [68, 97, 116, 101]]⟩ : Wnt) PA pc NA nc)) ?_
  rintro w3 ⟨hb1n, f3, _⟩
  have hb1o := hb1
  have hb1 : Blk w3 g1 38 (WtC (⟨[1, 2], fldT, [[84, 111], [68, 97, 116, 101]]⟩ : Wnt) PA pc NA nc) := hb1n
  have hOP := hOP.frm f3 (fun y hy => by have := hOP.ne_blk hb1o (by decide); simp; rintro rfl; exact this hy)
  have hON := hON.frm f3 (fun y hy => by have := hON.ne_blk hb1o (by decide); simp; rintro rfl; exact this hy)
  have K := Frm.own K f3 (fun y hy => by simp at hy; omega)
  refine Ops.r (Run.asg rfl) rfl ?_
  refine Ops.nil ?_
  refine thenQ_n ?_
  refine VC.sub [(1, _), (2, _)] (.cons rfl (.cons rfl .nil)) ?_
  refine VC.seq ?_
  refine VC.region ?_
  refine Ops.m (Does.buildN (cells := (U8 b21).toArray) (evs.cons rfl (evs.cons rfl (evs.cons rfl (evs.cons rfl (evs.cons rfl (evs.cons rfl (evs.cons rfl (evs.cons rfl (evs.cons rfl evs.nil))))))))) Tryz.underlying22 Tryz.sizeOf5 zero5 rfl rfl (by kernel_rfl)) rfl ?_
  rintro _ w4 ⟨rfl, hF4⟩
  have hbb : Blk w4 w3.heap.size 5 (U8 b21).toArray := hF4.blk
  have K3 := K.size
  have hOP := hOP.frm hF4.frm (by simp)
  have hON := hON.frm hF4.frm (by simp)
  have hb1 := hb1.frm hF4.frm (by simp)
  have K := K.trans hF4.frm (by simp)
  generalize hgb : w3.heap.size = gb at hbb K3 ⊢
  have hgb1 : gb ≠ g1 := hbb.ne hb1 (by decide)
  refine Ops.m (Does.mark rfl Tryz.underlying22 Tryz.underlying5 hbb) rfl ?_
  rintro _ w5 ⟨rfl, hfro, f5⟩
  have hrb : Rd w5 1 (some ⟨gb, 0, none⟩) b21.length (U8 b21) := hfro.rd (by show (U8 b21).take b21.length = U8 b21; exact List.take_of_length_le (by simp [U8]))
  have hOP := hOP.frm f5 (fun y hy => by have := hOP.ne_blk hbb (by decide); simp; rintro rfl; exact this hy)
  have hON := hON.frm f5 (fun y hy => by have := hON.ne_blk hbb (by decide); simp; rintro rfl; exact this hy)
  have hb1 := hb1.frm f5 (by simp; exact hgb1.symm)
  have K := Frm.own K f5 (fun y hy => by simp at hy; omega)
  refine Ops.r (Run.asg rfl) rfl ?_
  refine Ops.nil ?_
  refine thenQ_n ?_
  refine VC.sub [(1, _), (2, _), (3, _)] (.cons rfl (.cons rfl (.cons rfl .nil))) ?_
  refine VC.seq ?_
  refine VC.region ?_
  refine Ops.r (Run.mv rfl) rfl ?_
  refine Ops.m (Does.buildS1 rfl Tryz.underlying33 Tryz.sizeOf3 zero3 (by decide) (by decide) rfl rfl) rfl ?_
  rintro _ w6 ⟨rfl, hFw6⟩
  have hrp : Rd w6 1 (some ⟨_, 0, none⟩) 1 (PI [1]) := Rd.of_blk (n := 1) (size := 1) hFw6.blk rfl
  have hOP := hOP.frm hFw6.frm (by simp)
  have hON := hON.frm hFw6.frm (by simp)
  have hb1 := hb1.frm hFw6.frm (by simp)
  have hrb := hrb.frm hFw6.frm (by simp)
  have K := K.trans hFw6.frm (by simp)
  refine Ops.r (Run.build (evs.cons rfl (evs.nil)) zero38 (places38).choose_spec.1 (places38).choose_spec.2 (cells := WtC (⟨[1], [], []⟩ : Wnt) (some ⟨_, 0, none⟩) 1 none 0) rfl) rfl ?_
  refine Ops.cl (Enters.fn (evs.cons rfl (evs.cons rfl evs.nil)) Tryz.call19) ((get_spec (some ⟨gb, 0, none⟩) 9 b21 (⟨[1], [], []⟩ : Wnt) (some ⟨_, 0, none⟩) none 1 0 _ hrb (by decide) (by decide) hrp (by decide) (by decide) (Rd.nil _ _ _) (by decide) (by decide) (by decide))) rfl ?_
  rintro e w7 ⟨hfw7, Ax, cx, rfl, hOx, _⟩
  rw [ex21c] at hOx ⊢
  refine ⟨_, rfl, ?_⟩
  have hOP := hOP.frm hfw7 (by simp)
  have hON := hON.frm hfw7 (by simp)
  have hb1 := hb1.frm hfw7 (by simp)
  have hrb := hrb.frm hfw7 (by simp)
  have K := K.trans hfw7 (by simp)
  refine Ops.r (Run.mv rfl) rfl ?_
  refine Ops.r (Run.extract rfl rfl) rfl ?_
  refine Ops.r (Run.extract rfl rfl) rfl ?_
  refine Ops.r (Run.asg rfl) rfl ?_
  refine Ops.r (Run.asg rfl) rfl ?_
  refine Ops.nil ?_
  refine thenQ_n ?_
  refine VC.sub [(1, _), (2, _), (3, _), (4, _), (5, _)] (.cons rfl (.cons rfl (.cons rfl (.cons rfl (.cons rfl .nil))))) ?_
  refine VC.seq ?_
  refine VC.region ?_
  refine Ops.r (Run.mv rfl) rfl ?_
  refine Ops.m (Does.buildS1 rfl Tryz.underlying33 Tryz.sizeOf3 zero3 (by decide) (by decide) rfl rfl) rfl ?_
  rintro _ w8 ⟨rfl, hFw8⟩
  have hrp : Rd w8 1 (some ⟨_, 0, none⟩) 1 (PI [2]) := Rd.of_blk (n := 1) (size := 1) hFw8.blk rfl
  have hOP := hOP.frm hFw8.frm (by simp)
  have hON := hON.frm hFw8.frm (by simp)
  have hb1 := hb1.frm hFw8.frm (by simp)
  have hrb := hrb.frm hFw8.frm (by simp)
  have hOx := hOx.frm hFw8.frm (by simp)
  have K := K.trans hFw8.frm (by simp)
  refine Ops.r (Run.build (evs.cons rfl (evs.nil)) zero38 (places38).choose_spec.1 (places38).choose_spec.2 (cells := WtC (⟨[2], [], []⟩ : Wnt) (some ⟨_, 0, none⟩) 1 none 0) rfl) rfl ?_
  refine Ops.cl (Enters.fn (evs.cons rfl (evs.cons rfl evs.nil)) Tryz.call19) ((get_spec (some ⟨gb, 0, none⟩) 9 b21 (⟨[2], [], []⟩ : Wnt) (some ⟨_, 0, none⟩) none 1 0 _ hrb (by decide) (by decide) hrp (by decide) (by decide) (Rd.nil _ _ _) (by decide) (by decide) (by decide))) rfl ?_
  rintro e w9 ⟨hfw9, An, cn, rfl, hOn, _⟩
  rw [ex21d] at hOn ⊢
  refine ⟨_, rfl, ?_⟩
  have hOP := hOP.frm hfw9 (by simp)
  have hON := hON.frm hfw9 (by simp)
  have hb1 := hb1.frm hfw9 (by simp)
  have hrb := hrb.frm hfw9 (by simp)
  have hOx := hOx.frm hfw9 (by simp)
  have K := K.trans hfw9 (by simp)
  refine Ops.r (Run.mv rfl) rfl ?_
  refine Ops.r (Run.extract rfl rfl) rfl ?_
  refine Ops.r (Run.extract rfl rfl) rfl ?_
  refine Ops.r (Run.asg rfl) rfl ?_
  refine Ops.r (Run.asg rfl) rfl ?_
  refine Ops.nil ?_
  refine thenQ_n ?_
  refine VC.sub [(1, _), (2, _), (3, _), (4, _), (5, _), (7, _)] (.cons rfl (.cons rfl (.cons rfl (.cons rfl (.cons rfl (.cons rfl .nil)))))) ?_
  refine VC.seq ?_
  refine VC.region ?_
  refine Ops.r (Run.mv rfl) rfl ?_
  refine Ops.m (Does.buildS1 rfl Tryz.underlying33 Tryz.sizeOf3 zero3 (by decide) (by decide) rfl rfl) rfl ?_
  rintro _ w10 ⟨rfl, hFw10⟩
  have hrp : Rd w10 1 (some ⟨_, 0, none⟩) 1 (PI [1]) := Rd.of_blk (n := 1) (size := 1) hFw10.blk rfl
  have hOP := hOP.frm hFw10.frm (by simp)
  have hON := hON.frm hFw10.frm (by simp)
  have hb1 := hb1.frm hFw10.frm (by simp)
  have hrb := hrb.frm hFw10.frm (by simp)
  have hOx := hOx.frm hFw10.frm (by simp)
  have hOn := hOn.frm hFw10.frm (by simp)
  have K := K.trans hFw10.frm (by simp)
  refine Ops.r (Run.build (evs.cons rfl (evs.cons rfl (evs.nil))) zero38 (places38).choose_spec.1 (places38).choose_spec.2 (cells := WtC (⟨[1], mimT, []⟩ : Wnt) (some ⟨_, 0, none⟩) 1 none 0) rfl) rfl ?_
  refine Ops.cl (Enters.fn (evs.cons rfl (evs.cons rfl evs.nil)) Tryz.call19) ((get_spec (some ⟨gb, 0, none⟩) 9 b21 (⟨[1], mimT, []⟩ : Wnt) (some ⟨_, 0, none⟩) none 1 0 _ hrb (by decide) (by decide) hrp (by decide) (by decide) (Rd.nil _ _ _) (by decide) (by decide) (by decide))) rfl ?_
  rintro e w11 ⟨hfw11, Ay, cy, rfl, hOy, _⟩
  rw [ex21e] at hOy ⊢
  refine ⟨_, rfl, ?_⟩
  have hOP := hOP.frm hfw11 (by simp)
  have hON := hON.frm hfw11 (by simp)
  have hb1 := hb1.frm hfw11 (by simp)
  have hrb := hrb.frm hfw11 (by simp)
  have hOx := hOx.frm hfw11 (by simp)
  have hOn := hOn.frm hfw11 (by simp)
  have K := K.trans hfw11 (by simp)
  refine Ops.r (Run.mv rfl) rfl ?_
  refine Ops.r (Run.extract rfl rfl) rfl ?_
  refine Ops.r (Run.extract rfl rfl) rfl ?_
  refine Ops.r (Run.asg rfl) rfl ?_
  refine Ops.r (Run.asg rfl) rfl ?_
  refine Ops.nil ?_
  refine thenQ_n ?_
  refine VC.sub [(1, _), (2, _), (4, _), (5, _), (7, _), (8, _), (9, _)] (.cons rfl (.cons rfl (.cons rfl (.cons rfl (.cons rfl (.cons rfl (.cons rfl .nil))))))) ?_
  refine VC.seq ?_
  refine VC.region ?_
  refine Ops.cl (Enters.fn (evs.cons rfl evs.nil) Tryz.call46) ((sread_spec [77, 73, 77, 69] _ (by decide) (hv.frm0 K))) rfl ?_
  rintro e w12 ⟨f12, PA2, pc2, NA2, nc2, rfl, hOP2, hON2⟩
  rw [ex21b] at hOP2 hON2 ⊢
  refine ⟨_, rfl, ?_⟩
  have hOP := hOP.frm f12 (by simp)
  have hON := hON.frm f12 (by simp)
  have hb1 := hb1.frm f12 (by simp)
  have hrb := hrb.frm f12 (by simp)
  have hOx := hOx.frm f12 (by simp)
  have hOn := hOn.frm f12 (by simp)
  have hOy := hOy.frm f12 (by simp)
  have K := K.trans f12 (by simp)
  refine Ops.r (Run.mv rfl) rfl ?_
  refine Ops.r (Run.extract rfl rfl) rfl ?_
  refine Ops.r (Run.extract rfl rfl) rfl ?_
  refine Ops.m (Does.alloc zero38) rfl ?_
  rintro _ w13 ⟨rfl, hF13⟩
  have hb10 : Blk w13 w12.heap.size 38 _ := hF13.blk
  have K12 := K.size
  have lt1 := hb1.lt
  have ltP := hOP.lt
  have ltN := hON.lt
  have ltx := hOx.lt
  have lty := hOy.lt
  have hOP := hOP.frm hF13.frm (by simp)
  have hON := hON.frm hF13.frm (by simp)
  have hb1 := hb1.frm hF13.frm (by simp)
  have hrb := hrb.frm hF13.frm (by simp)
  have hOx := hOx.frm hF13.frm (by simp)
  have hOn := hOn.frm hF13.frm (by simp)
  have hOy := hOy.frm hF13.frm (by simp)
  have K := K.trans hF13.frm (by simp)
  generalize hg10 : w12.heap.size = g10 at hb10 K12 lt1 ltP ltN ltx lty ⊢
  refine Ops.st (Acts.storeA rfl rfl Tryz.sizeOf38 hb10 rfl (WtC_one wnt0 PA2 pc2 NA2 nc2)) ?_
  rintro w14 ⟨_, f14, _⟩
  have hb1 := hb1.frm f14 (by simp; omega)
  have hOP := hOP.frm f14 (fun y hy => by have := ltP y hy; simp; omega)
  have hON := hON.frm f14 (fun y hy => by have := ltN y hy; simp; omega)
  have hOx := hOx.frm f14 (fun y hy => by have := ltx y hy; simp; omega)
  have hOy := hOy.frm f14 (fun y hy => by have := lty y hy; simp; omega)
  have K := Frm.own K f14 (fun y hy => by simp at hy; omega)
  refine Ops.r (Run.asg rfl) rfl ?_
  refine Ops.nil ?_
  refine thenQ_n ?_
  refine VC.sub [(1, _), (2, _), (4, _), (5, _), (7, _), (8, _), (9, _), (11, _)] (.cons rfl (.cons rfl (.cons rfl (.cons rfl (.cons rfl (.cons rfl (.cons rfl (.cons rfl .nil)))))))) ?_
  refine VC.seq ?_
  refine VC.region ?_
  refine Ops.r (Run.loadA rfl Tryz.isAgg38 Tryz.sizeOf38 (fun j v hj => hb1.cells j v hj) (by first | rfl | (simp; done))) rfl ?_
  refine Ops.m (Does.buildN (cells := (PI [1, 2]).toArray) (evs.cons rfl (evs.cons rfl evs.nil)) Tryz.underlying33 Tryz.sizeOf3 zero3 rfl rfl (by kernel_rfl)) rfl ?_
  rintro _ w15 ⟨rfl, hF15⟩
  have hr44 : Rd w15 1 (some ⟨_, 0, none⟩) 2 (PI [1, 2]) := Rd.of_blk (n := 2) (size := 1) hF15.blk rfl
  have hOP := hOP.frm hF15.frm (by simp)
  have hON := hON.frm hF15.frm (by simp)
  have hb1 := hb1.frm hF15.frm (by simp)
  have hOx := hOx.frm hF15.frm (by simp)
  have hOy := hOy.frm hF15.frm (by simp)
  have K := K.trans hF15.frm (by simp)
  refine Ops.m (Does.buildN (cells := (SB [[84, 111], [68, 97, 116, 101]]).toArray) (evs.cons rfl (evs.cons rfl evs.nil)) Tryz.underlying36 Tryz.sizeOf9 zero9 rfl rfl (by kernel_rfl)) rfl ?_
  rintro _ w16 ⟨rfl, hF16⟩
  have hr45 : Rd w16 1 (some ⟨_, 0, none⟩) 2 (SB [[84, 111], [68, 97, 116, 101]]) := Rd.of_blk (n := 2) (size := 1) hF16.blk rfl
  have hOP := hOP.frm hF16.frm (by simp)
  have hON := hON.frm hF16.frm (by simp)
  have hb1 := hb1.frm hF16.frm (by simp)
  have hOx := hOx.frm hF16.frm (by simp)
  have hOy := hOy.frm hF16.frm (by simp)
  have hr44 := hr44.frm hF16.frm (by simp)
  have K := K.trans hF16.frm (by simp)
  refine Ops.r (Run.build (evs.cons rfl (evs.cons rfl (evs.cons rfl evs.nil))) zero38 (places38).choose_spec.1 (places38).choose_spec.2 (cells := WtC (⟨[1, 2], fldT, [[84, 111], [68, 97, 116, 101]]⟩ : Wnt) (some ⟨_, 0, none⟩) 2 (some ⟨_, 0, none⟩) 2) rfl) rfl ?_
  refine Ops.cl (Enters.fn (evs.cons rfl (evs.cons rfl evs.nil)) Tryz.call47) ((same_want_spec (⟨[1, 2], fldT, [[84, 111], [68, 97, 116, 101]]⟩ : Wnt) (⟨[1, 2], fldT, [[84, 111], [68, 97, 116, 101]]⟩ : Wnt) PA NA (some ⟨_, 0, none⟩) (some ⟨_, 0, none⟩) pc nc 2 2 _ hOP.rd hON.rd hr44 hr45 (by decide) (by decide))) rfl ?_
  rintro e w17 ⟨rfl, f17⟩
  rw [decide_eq_true (show SameW (⟨[1, 2], fldT, [[84, 111], [68, 97, 116, 101]]⟩ : Wnt) (⟨[1, 2], fldT, [[84, 111], [68, 97, 116, 101]]⟩ : Wnt) from ⟨rfl, rfl, rfl⟩)]
  refine ⟨_, rfl, ?_⟩
  have hOP := hOP.frm f17 (by simp)
  have hON := hON.frm f17 (by simp)
  have hb1 := hb1.frm f17 (by simp)
  have hOx := hOx.frm f17 (by simp)
  have hOy := hOy.frm f17 (by simp)
  have hr44 := hr44.frm f17 (by simp)
  have K := K.trans f17 (by simp)
  refine Ops.r (Run.mv rfl) rfl ?_
  refine Ops.rg rfl (by first | rfl | assumption | exact decide_eq_true (by assumption) | exact decide_eq_false (by assumption) | decide | (simp; done) | (simp; omega) | (simp [*]; done)) (Run.mv rfl) rfl ?_
  refine Ops.rg rfl (by first | rfl | assumption | exact decide_eq_true (by assumption) | exact decide_eq_false (by assumption) | decide | (simp; done) | (simp; omega) | (simp [*]; done)) (Run.bin rfl rfl (Bin.eqlN _ 0)) rfl ?_
  refine Ops.r (Run.pickT rfl rfl (by first | rfl | assumption | exact decide_eq_true (by assumption) | exact decide_eq_false (by assumption) | decide | (simp; done) | (simp; omega) | (simp [*]; done))) rfl ?_
  refine Ops.r (Run.mv rfl) rfl ?_
  refine Ops.rg rfl (by first | rfl | assumption | exact decide_eq_true (by assumption) | exact decide_eq_false (by assumption) | decide | (simp; done) | (simp; omega) | (simp [*]; done)) (Run.mv rfl) rfl ?_
  refine Ops.rg rfl (by first | rfl | assumption | exact decide_eq_true (by assumption) | exact decide_eq_false (by assumption) | decide | (simp; done) | (simp; omega) | (simp [*]; done)) (Run.strOfT rfl Tryz.underlying22 Tryz.underlying5 Tryz.underlying9 hOx.rd) rfl ?_
  refine Ops.rg rfl (by first | rfl | assumption | exact decide_eq_true (by assumption) | exact decide_eq_false (by assumption) | decide | (simp; done) | (simp; omega) | (simp [*]; done)) (Run.eqlT rfl rfl) rfl ?_
  refine Ops.r (Run.pickT rfl rfl (by first | rfl | assumption | exact decide_eq_true (by assumption) | exact decide_eq_false (by assumption) | decide | (simp; done) | (simp; omega) | (simp [*]; done))) rfl ?_
  refine Ops.r (Run.mv rfl) rfl ?_
  refine Ops.rg rfl (by first | rfl | assumption | exact decide_eq_true (by assumption) | exact decide_eq_false (by assumption) | decide | (simp; done) | (simp; omega) | (simp [*]; done)) (Run.mv rfl) rfl ?_
  refine Ops.r (Run.pickT rfl rfl (by first | rfl | assumption | exact decide_eq_true (by assumption) | exact decide_eq_false (by assumption) | decide | (simp; done) | (simp; omega) | (simp [*]; done))) rfl ?_
  refine Ops.r (Run.mv rfl) rfl ?_
  refine Ops.rg rfl (by first | rfl | assumption | exact decide_eq_true (by assumption) | exact decide_eq_false (by assumption) | decide | (simp; done) | (simp; omega) | (simp [*]; done)) (Run.mv rfl) rfl ?_
  refine Ops.rg rfl (by first | rfl | assumption | exact decide_eq_true (by assumption) | exact decide_eq_false (by assumption) | decide | (simp; done) | (simp; omega) | (simp [*]; done)) (Run.not rfl) rfl ?_
  refine Ops.r (Run.pickT rfl rfl (by first | rfl | assumption | exact decide_eq_true (by assumption) | exact decide_eq_false (by assumption) | decide | (simp; done) | (simp; omega) | (simp [*]; done))) rfl ?_
  refine Ops.r (Run.mv rfl) rfl ?_
  refine Ops.rg rfl (by first | rfl | assumption | exact decide_eq_true (by assumption) | exact decide_eq_false (by assumption) | decide | (simp; done) | (simp; omega) | (simp [*]; done)) (Run.mv rfl) rfl ?_
  refine Ops.rg rfl (by first | rfl | assumption | exact decide_eq_true (by assumption) | exact decide_eq_false (by assumption) | decide | (simp; done) | (simp; omega) | (simp [*]; done)) (Run.strOfT rfl Tryz.underlying22 Tryz.underlying5 Tryz.underlying9 hOy.rd) rfl ?_
  refine Ops.rg rfl (by first | rfl | assumption | exact decide_eq_true (by assumption) | exact decide_eq_false (by assumption) | decide | (simp; done) | (simp; omega) | (simp [*]; done)) (Run.eqlT rfl rfl) rfl ?_
  refine Ops.r (Run.pickT rfl rfl (by first | rfl | assumption | exact decide_eq_true (by assumption) | exact decide_eq_false (by assumption) | decide | (simp; done) | (simp; omega) | (simp [*]; done))) rfl ?_
  refine Ops.r (Run.mv rfl) rfl ?_
  refine Ops.rg rfl (by first | rfl | assumption | exact decide_eq_true (by assumption) | exact decide_eq_false (by assumption) | decide | (simp; done) | (simp; omega) | (simp [*]; done)) (Run.mv rfl) rfl ?_
  refine Ops.r (Run.pickT rfl rfl (by first | rfl | assumption | exact decide_eq_true (by assumption) | exact decide_eq_false (by assumption) | decide | (simp; done) | (simp; omega) | (simp [*]; done))) rfl ?_
  refine Ops.r (Run.mv rfl) rfl ?_
  refine Ops.rg rfl (by first | rfl | assumption | exact decide_eq_true (by assumption) | exact decide_eq_false (by assumption) | decide | (simp; done) | (simp; omega) | (simp [*]; done)) (Run.mv rfl) rfl ?_
  refine Ops.rg rfl (by first | rfl | assumption | exact decide_eq_true (by assumption) | exact decide_eq_false (by assumption) | decide | (simp; done) | (simp; omega) | (simp [*]; done)) (Run.bin rfl rfl (Bin.eqlN _ 3)) rfl ?_
  refine Ops.r (Run.pickT rfl rfl (by first | rfl | assumption | exact decide_eq_true (by assumption) | exact decide_eq_false (by assumption) | decide | (simp; done) | (simp; omega) | (simp [*]; done))) rfl ?_
  refine Ops.r (Run.asg rfl) rfl ?_
  refine Ops.nil ?_
  refine thenQ_n ?_
  refine VC.sub [(0, _)] (.cons rfl .nil) ?_
  refine VC.ret ?_
  refine end1 rfl ?_
  exact ⟨rfl, K⟩

end Go.Proofs.YtenbjndldenkfaaGreatDoor

namespace Go.Proofs.YtenbjndldenkfaaGreatDoor
open Go.RowKit
theorem find_nil (l : List Prt) : findPQ l [] = ((0 : Nat) : Int) := rfl
end Go.Proofs.YtenbjndldenkfaaGreatDoor

namespace Go.Proofs.YtenbjndldenkfaaGreatDoor
open Go.RowKit

/-- The last empty line of some lines, or what came ahead. -/
def lastE : Tx → List Tx → Tx
  | last, [] => last
  | last, l :: r => lastE (if EmptyL l then l else last) r
def crlf : Tx := [13, 10]
/-- The empty line that ends a header, or what stands for it. -/
def hendQ (q : Tx) : Tx := lastE crlf (linesF (q.take (splitQ q)))
theorem lastE_or : ∀ (ls : List Tx) (last : Tx), EmptyL last → EmptyL (lastE last ls)
  | [], _, h => h
  | l :: r, last, h => by
    unfold lastE
    refine lastE_or r _ ?_
    split
    · assumption
    · exact h
theorem hendQ_len (q : Tx) : (hendQ q).length = 1 ∨ (hendQ q).length = 2 := by
  rcases lastE_or (linesF (q.take (splitQ q))) crlf (.inr rfl) with h | h
  · exact .inl (by unfold hendQ; rw [h]; rfl)
  · exact .inr (by unfold hendQ; rw [h]; rfl)
theorem lastE_app : ∀ (a b : List Tx) (last : Tx), lastE last (a ++ b) = lastE (lastE last a) b
  | [], _, _ => rfl
  | l :: a, b, last => by
    show lastE (if EmptyL l then l else last) (a ++ b) = _
    rw [lastE_app a b]
    rfl
theorem lastE_snoc (a : List Tx) (l last : Tx) : lastE last (a ++ [l]) = if EmptyL l then l else lastE last a := by
  rw [lastE_app]
  rfl
/-- Has a field one of some names? -/
def NamedF (names : List Tx) (f : Fld) : Prop := ∃ s ∈ names, smallS s = smallS f.name
instance (names : List Tx) (f : Fld) : Decidable (NamedF names f) := by unfold NamedF; infer_instance
/-- The octets of some fields: of those of some names, or of the others. -/
def pickL (q : Tx) (names : List Tx) (neg : Bool) : List Fld → Tx
  | [] => []
  | f :: r => (if decide (NamedF names f) != neg then sliceQ q f.frm f.tu else []) ++ pickL q names neg r
theorem pickL_app (q : Tx) (names : List Tx) (neg : Bool) : ∀ (a b : List Fld), pickL q names neg (a ++ b) = pickL q names neg a ++ pickL q names neg b
  | [], _ => rfl
  | f :: a, b => by
    show _ ++ pickL q names neg (a ++ b) = _
    rw [pickL_app q names neg a b, ← List.append_assoc]
    rfl
def pickQ (q : Tx) (names : List Tx) (neg : Bool) : Tx := pickL q names neg (fieldsQ q) ++ hendQ q
/-- How many octets some fields have: of those of some names, or of the others. -/
def pickN (names : List Tx) (neg : Bool) : List Fld → Nat
  | [] => 0
  | f :: r => (if decide (NamedF names f) != neg then f.tu - f.frm else 0) + pickN names neg r
theorem pickN_app (names : List Tx) (neg : Bool) : ∀ (a b : List Fld), pickN names neg (a ++ b) = pickN names neg a + pickN names neg b
  | [], _ => by show _ = 0 + _; rw [Nat.zero_add]; rfl
  | f :: a, b => by
    show _ + pickN names neg (a ++ b) = _
    rw [pickN_app names neg a b, ← Nat.add_assoc]
    rfl
theorem pickN_len (q : Tx) (names : List Tx) (neg : Bool) : ∀ l : List Fld, (∀ f ∈ l, FldOk (splitQ q) f) → (pickL q names neg l).length = pickN names neg l
  | [], _ => rfl
  | f :: r, h => by
    have h1 := h f (by simp)
    have h2 := splitQ_le q
    unfold pickL pickN
    rw [List.length_append, pickN_len q names neg r fun g hg => h g (by simp [hg])]
    congr 1
    split
    · rw [sliceQ_len (by have := h1.2.2.1; omega)]
    · rfl
theorem pickN_sum (names : List Tx) : ∀ l : List Fld, pickN names false l + pickN names true l = (l.map fun f => f.tu - f.frm).sum
  | [] => rfl
  | f :: r => by
    have := pickN_sum names r
    have e : ∀ b, pickN names b (f :: r) = (if decide (NamedF names f) != b then f.tu - f.frm else 0) + pickN names b r := fun _ => rfl
    rw [List.map_cons, List.sum_cons, ← this, e, e]
    by_cases h : NamedF names f
    · rw [decide_eq_true h, if_pos (by decide), if_neg (by decide)]; omega
    · rw [decide_eq_false h, if_neg (by decide), if_pos (by decide)]; omega
/-- The fields lie one behind the other. -/
theorem fldL_sum : ∀ (ls : List Tx) (o : Nat) (op : Bool) (out : List Fld) , (∀ f ∈ out, f.frm ≤ f.tu) → (op = true → ∀ f, out.getLast? = some f → f.tu = o) → (out.map fun f => f.tu - f.frm).sum ≤ o →
    ((fldL o op out ls).map fun f => f.tu - f.frm).sum ≤ o + ls.flatten.length
  | [], o, op, out, _, _, h => by simpa [fldL] using h
  | l :: r, o, op, out, h0, h1, h => by
    rw [List.flatten_cons, List.length_append]
    unfold fldL
    split
    · omega
    · split
      · cases op with
        | false =>
          have := fldL_sum r (o + l.length) false out h0 (by simp) (by omega)
          simpa [Nat.add_assoc] using this
        | true =>
          rcases List.eq_nil_or_concat out with rfl | ⟨t, g, rfl⟩
          · have := fldL_sum r (o + l.length) true [] (by simp) (by simp) (by simp)
            simpa [Nat.add_assoc, setTo] using this
          · rw [List.concat_eq_append] at *
            rw [if_pos rfl, setTo_snoc]
            have hg := h1 rfl g (by simp)
            have hf := h0 g (by simp)
            have := fldL_sum r (o + l.length) true (t ++ [⟨g.name, g.frm, o + l.length, g.at_⟩]) (by
              intro f hf2
              rcases List.mem_append.1 hf2 with hf2 | hf2
              · exact h0 f (by simp [hf2])
              · simp only [List.mem_singleton] at hf2; subst hf2; show g.frm ≤ o + l.length; omega) (by
              intro _ f hf2
              rw [List.getLast?_concat] at hf2
              cases hf2
              rfl) (by
              simp only [List.map_append, List.map_cons, List.map_nil, List.sum_append, List.sum_cons, List.sum_nil] at h ⊢
              omega)
            rw [Nat.add_assoc] at this
            exact this
      · split
        · have := fldL_sum r (o + l.length) false out h0 (by simp) (by omega)
          rw [Nat.add_assoc] at this
          exact this
        · rename_i n k hb
          have := fldL_sum r (o + l.length) true (out ++ [⟨n, o, o + l.length, o + k⟩]) (by
            intro f hf2
            rcases List.mem_append.1 hf2 with hf2 | hf2
            · exact h0 f hf2
            · simp only [List.mem_singleton] at hf2; subst hf2; show o ≤ o + l.length; omega) (by
            intro _ f hf2
            rw [List.getLast?_concat] at hf2
            cases hf2
            rfl) (by
            simp only [List.map_append, List.map_cons, List.map_nil, List.sum_append, List.sum_cons, List.sum_nil]
            omega)
          rw [Nat.add_assoc] at this
          exact this
theorem pickN_le (q : Tx) (names : List Tx) (neg : Bool) : pickN names neg (fieldsQ q) ≤ q.length := by
  have h1 := pickN_sum names (fieldsQ q)
  have h2 := fldL_sum (linesF (q.take (splitQ q))) 0 false [] (by simp) (by simp) (by simp)
  have h3 : ((fieldsQ q).map fun f => f.tu - f.frm).sum ≤ 0 + (linesF (q.take (splitQ q))).flatten.length := h2
  rw [linesF_flat, List.length_take] at h3
  cases neg <;> omega
theorem pickN_pre (names : List Tx) (neg : Bool) (a b : List Fld) : pickN names neg a ≤ pickN names neg (a ++ b) := by rw [pickN_app]; omega
theorem pickQ_len (q : Tx) (names : List Tx) (neg : Bool) : (pickQ q names neg).length = pickN names neg (fieldsQ q) + (hendQ q).length := by
  unfold pickQ
  rw [List.length_append, pickN_len q names neg _ (fieldsQ_ok q)]
theorem pickQ_drop (q : Tx) (names : List Tx) (neg : Bool) : sliceQ (pickQ q names neg) (pickN names neg (fieldsQ q)) (pickQ q names neg).length = hendQ q := by
  have := pickN_len q names neg _ (fieldsQ_ok q)
  rw [sliceQ, List.take_of_length_le (by simp), ← this, pickQ, List.drop_left' rfl]
end Go.Proofs.YtenbjndldenkfaaGreatDoor

namespace Go.Proofs.YtenbjndldenkfaaGreatDoor
open Go.RowKit Go.Sort

def EnI (w : World) (hd : Tx) (g3 g4 : Nat) (A0 : Option Addr) (c0 : Nat) (pre : List (Nat × Nat)) (W : World) : Prop :=
  ∃ (ls ls2 : List Tx) (A2 : Option Addr) (c2 : Nat), linesF hd = ls ++ ls2 ∧ pre = offsF 0 ls ∧ Frm [] w W ∧ Blk W g3 22 #[.slice A0 hd.length c0] ∧ Blk W g4 22 #[.slice A2 (lastE crlf ls).length c2] ∧
    Rd W 1 A2 (lastE crlf ls).length (U8 (lastE crlf ls)) ∧ ∀ x ∈ ob A2, x < g4

set_option maxRecDepth 100000 in
theorem hend_spec (A : Option Addr) (c : Nat) (q : Tx) (w : World) (hrd0 : Rd w 1 A q.length (U8 q)) (hq : q.length ≤ 1000000) (hc : q.length ≤ c) :
    Calls Tryz.prog 78 #[.slice A q.length c] w fun e w' => Frm [] w w' ∧ ∃ A2 c2, e = .returned (.slice A2 (hendQ q).length c2) ∧ Rd w' 1 A2 (hendQ q).length (U8 (hendQ q)) := by
  have K := Frm.refl [] w
  have hsl0 := splitQ_le q
  have hhl : (q.take (splitQ q)).length = splitQ q := by rw [List.length_take]; omega
  have hA : 0 < q.length → ∀ x ∈ ob A, x < w.heap.size := fun hn => hrd0.lt hn
  refine DV.calls (nt := 27) (res := #[.tmp 2]) Tryz.func78 rfl Tryz.ntmps78 Tryz.results78 rfl ?_
  refine DV.seq ?_
  refine DV.vc ?_
  refine VC.region ?_
  refine Ops.r (Run.asg rfl) rfl ?_
  refine Ops.nil ?_
  refine thenD_n ?_
  refine DV.seq ?_
  refine DV.vc ?_
  refine VC.region ?_
  refine Ops.r (Run.mv rfl) rfl ?_
  refine Ops.r (Run.mv rfl) rfl ?_
  refine Ops.cl (Enters.fn (evs.cons rfl evs.nil) Tryz.call51) (split_spec A c q _ (hrd0.frm K (by simp)) (by omega) hc) rfl ?_
  rintro e w1 ⟨rfl, hf_w1⟩
  refine ⟨_, rfl, ?_⟩
  have K := Frm.trans K hf_w1 (by simp)
  refine Ops.r (Run.sliceS 0 (splitQ q) rfl Tryz.underlying22 Tryz.sizeOf5 evB.none_ (evB.some_ rfl) (Nat.zero_le _) (by omega)) rfl ?_
  rw [show splitQ q - 0 = (q.take (splitQ q)).length by rw [hhl]; rfl]
  refine Ops.m (Does.alloc zero22) rfl ?_
  rintro _ w2 ⟨rfl, hF_w2⟩
  have hb3 := hF_w2.blk
  have hs3_K := K.size
  have K := Frm.trans K hF_w2.frm (by simp)
  generalize hg3 : w1.heap.size = g3 at hb3 hs3_K ⊢
  refine Ops.st (Acts.store rfl rfl Tryz.sizeOf22 hb3 rfl rfl) ?_
  rintro w3 ⟨hbn_w3, hf_w3, hsz_w3⟩
  have hb3 : Blk w3 g3 22 (#[.slice (cutA A c 0 1) (q.take (splitQ q)).length (c - 0)]) := hbn_w3
  have K := Frm.own K hf_w3 (fun y hy => by simp at hy; omega)
  refine Ops.nil ?_
  refine thenD_n ?_
  refine DV.sub [(2, _), (3, _)] (.cons rfl (.cons rfl .nil)) ?_
  refine DV.seq ?_
  refine DV.vc ?_
  refine VC.region ?_
  refine Ops.m (Does.buildN (cells := (U8 crlf).toArray) (evs.cons rfl (evs.cons rfl evs.nil)) Tryz.underlying22 Tryz.sizeOf5 zero5 rfl rfl (by kernel_rfl)) rfl ?_
  rintro _ w4 ⟨rfl, hF_w4⟩
  have hb11 := hF_w4.blk
  have hs11_K := K.size
  have lt_hb3_11 := hb3.lt
  have hb3 := hb3.frm hF_w4.frm (by simp)
  have K := Frm.trans K hF_w4.frm (by simp)
  generalize hg11 : w3.heap.size = g11 at hb11 hs11_K lt_hb3_11 ⊢
  refine Ops.m (Does.mark rfl Tryz.underlying22 Tryz.underlying5 hb11) rfl ?_
  rintro _ w5 ⟨rfl, hfro, f5⟩
  have hr11 : Rd w5 1 (some ⟨g11, 0, none⟩) crlf.length (U8 crlf) := hfro.rd (by show (U8 crlf).take crlf.length = U8 crlf; rfl)
  have hl11 := hfro.lt
  have hb3 := hb3.frm f5 (by simp; omega)
  have K := Frm.own K f5 (fun y hy => by simp at hy; omega)
  have K5 := Frm.refl [] w5
  refine Ops.m (Does.alloc zero22) rfl ?_
  rintro _ w6 ⟨rfl, hF_w6⟩
  have hb4 := hF_w6.blk
  have hs4_K := K.size
  have hs4_K5 := K5.size
  have lt_hb3_4 := hb3.lt
  have hb3 := hb3.frm hF_w6.frm (by simp)
  have hr11 := hr11.frm hF_w6.frm (by simp)
  have K := Frm.trans K hF_w6.frm (by simp)
  have K5 := Frm.trans K5 hF_w6.frm (by simp)
  generalize hg4 : w5.heap.size = g4 at hb4 hs4_K hs4_K5 lt_hb3_4 ⊢
  refine Ops.st (Acts.store rfl rfl Tryz.sizeOf22 hb4 rfl rfl) ?_
  rintro w7 ⟨hbn_w7, hf_w7, hsz_w7⟩
  have hb3 := hb3.frm hf_w7 (by simp; omega)
  have hr11 := hr11.frm hf_w7 (fun _ x hx => by simp only [ob, List.mem_singleton] at hx ⊢; omega)
  have hb4 : Blk w7 g4 22 (#[.slice (some ⟨g11, 0, none⟩) 2 2]) := hbn_w7
  have K := Frm.own K hf_w7 (fun y hy => by simp at hy; omega)
  have K5 := Frm.own K5 hf_w7 (fun y hy => by simp at hy; omega)
  refine Ops.nil ?_
  refine thenD_n ?_
  refine DV.sub [(2, _), (3, _), (4, _)] (.cons rfl (.cons rfl (.cons rfl .nil))) ?_
  refine DV.seq ?_
  refine DV.seq ?_
  refine DV.vc ?_
  refine VC.region ?_
  refine Ops.r (Run.load rfl Tryz.isAgg22 (hb3.cell 0)) rfl ?_
  refine Ops.cl (Enters.fn (evs.cons rfl evs.nil) Tryz.call50) (hlines_spec (cutA A c 0 1) (q.take (splitQ q)).length (c - 0) _) rfl ?_
  rintro e w8 ⟨hf_w8, gl, rfl, hpl, hgl, hgl2⟩
  have l3 := hb3.lt
  have l4 := hb4.lt
  refine ⟨_, rfl, ?_⟩
  have hb3 := hb3.frm hf_w8 (by simp)
  have hr11 := hr11.frm hf_w8 (by simp)
  have hb4 := hb4.frm hf_w8 (by simp)
  have K := Frm.trans K hf_w8 (by simp)
  have K5 := Frm.trans K5 hf_w8 (by simp)
  have hrh : Rd w 1 (cutA A c 0 1) (q.take (splitQ q)).length (U8 (q.take (splitQ q))) := by
    have := U8_cut hrd0 (Nat.zero_le _) hsl0 hc
    rwa [show sliceQ q 0 (splitQ q) = q.take (splitQ q) by unfold sliceQ; simp] at this
  have hAh : ∀ x ∈ obN (cutA A c 0 1) (q.take (splitQ q)).length, x < w.heap.size := fun x hx => by
    obtain ⟨hn, hx2⟩ := obN_mem hx
    rw [ob_cutA] at hx2
    exact hA (by omega) x hx2
  have hhd : hendQ q = lastE crlf (linesF (q.take (splitQ q))) := rfl
  generalize q.take (splitQ q) = hd at *
  refine Ops.nil ?_
  refine thenD_n ?_
  refine DV.sub [(2, _), (3, _), (4, _), (14, _)] (.cons rfl (.cons rfl (.cons rfl (.cons rfl .nil)))) ?_
  refine DV.block ?_
  have hKs := K.size
  refine DV.range (ps := [15, 16]) (fun x : Nat × Nat => [.int .i64 ((x.1 : Nat) : Int), .int .i64 ((x.2 : Nat) : Int)]) (hlines_iter hd (cutA A c 0 1) (c - 0) gl (by omega) (by omega)) rfl Tryz.call86 (fun _ => rfl) rfl (EnI w hd g3 g4 (cutA A c 0 1) (c - 0)) (fun _ _ _ => False) (fun x => [(3, .pointer (some ⟨g3, 0, none⟩)), (4, .pointer (some ⟨g4, 0, none⟩)), (5, .int .i64 ((x.1 : Nat) : Int)), (6, .int .i64 ((x.2 : Nat) : Int))]) ?_ ?_ ?_ ?_ ?_ ?_ ?_ ?_ ?_ ?_ ?_
  · skip
    rintro pre W W' S ⟨ls, ls2, A2, c2, h1, h2, h3, h4, h5, h6, h7⟩ hf hS
    refine ⟨ls, ls2, A2, c2, h1, h2, h3.nc hf hS (by simp) K.size, h4.frm hf (h4.nc hS (by simp)), h5.frm hf (h5.nc hS (by simp)), h6.frm hf (fun _ x hx hxS => ?_), h7⟩
    have := h7 x hx
    rcases hS x hxS with h | h
    · simp at h
    · omega
  · skip
    exact fun _ _ _ _ _ h => h.elim
  · skip
    exact fun W hf => ⟨hpl.frm hf (by simp), (hrh.frm K (by simp)).frm hf (by simp)⟩
  · skip
    simp
  · skip
    intro b hb
    simp only [List.mem_cons] at hb
    rcases hb with rfl | hb
    · exact hgl2
    · have := hAh b hb; omega
  · skip
    exact ⟨[], linesF hd, some ⟨g11, 0, none⟩, 2, rfl, rfl, K, hb3, hb4, hr11, fun x hx => by simp only [ob, List.mem_singleton] at hx; omega⟩
  · intro l x W
    refine VC.sub [(3, _), (4, _), (15, _), (16, _)] (.cons rfl (.cons rfl (.cons rfl (.cons rfl .nil)))) ?_
    refine VC.seq ?_
    refine VC.region ?_
    refine Ops.r (Run.asg rfl) rfl ?_
    refine Ops.nil ?_
    refine thenQ_n ?_
    refine VC.sub [(3, _), (4, _), (5, _), (16, _)] (.cons rfl (.cons rfl (.cons rfl (.cons rfl .nil)))) ?_
    refine VC.region ?_
    refine Ops.r (Run.asg rfl) rfl ?_
    refine Ops.nil ?_
    refine thenQ_n ⟨rfl, (.cons rfl (.cons rfl (.cons rfl (.cons rfl .nil))))⟩
  · skip
    rintro l pre x W ⟨ls, ls2, A2, c2, hls, hpr, K, hb3, hb4, hr2, hlt⟩ hpre hsz hmk
    obtain ⟨ll, rest, hl2, hx, hpe, hnl, hsl, hx1, hx2, hne, hxe⟩ := lines_next hls hpr hpre
    have hx : x.2 = ls.flatten.length + ll.length ∧ x.1 = ls.flatten.length := by rw [hx]; exact ⟨rfl, rfl⟩
    have hsl2 : (sliceQ hd x.1 x.2).length = x.2 - x.1 := sliceQ_len hx2
    have hcut := U8_cut (hrh.frm K (by simp)) hx1 hx2 (show hd.length ≤ c - 0 by omega)
    have h40 := hb4
    refine VC.block ?_
    refine VC.seq ?_
    refine VC.region ?_
    refine Ops.r (Run.load rfl Tryz.isAgg22 (hb3.cell 0)) rfl ?_
    refine Ops.r (Run.mv rfl) rfl ?_
    refine Ops.r (Run.mv rfl) rfl ?_
    refine Ops.r (Run.sliceS x.1 x.2 rfl Tryz.underlying22 Tryz.sizeOf5 (evB.some_ rfl) (evB.some_ rfl) (by omega) (by omega)) rfl ?_
    refine Ops.cl (Enters.fn (evs.cons rfl evs.nil) Tryz.call52) ((by rw [← hsl2]; exact empty_spec _ _ (sliceQ hd x.1 x.2) _ hcut)) rfl ?_
    rintro e _ ⟨rfl, rfl⟩
    rw [hsl]
    refine ⟨_, rfl, ?_⟩
    refine Ops.nil ?_
    refine thenQ_n ?_
    refine VC.sub [(3, _), (4, _), (5, _), (6, _), (21, _)] (.cons rfl (.cons rfl (.cons rfl (.cons rfl (.cons rfl .nil))))) ?_
    refine VC.condB rfl (fun hc1 => ?_) (fun hc1 => ?_)
    · skip
      refine VC.region ?_
      refine Ops.r (Run.load rfl Tryz.isAgg22 (hb3.cell 0)) rfl ?_
      refine Ops.r (Run.mv rfl) rfl ?_
      refine Ops.r (Run.mv rfl) rfl ?_
      refine Ops.r (Run.sliceS x.1 x.2 rfl Tryz.underlying22 Tryz.sizeOf5 (evB.some_ rfl) (evB.some_ rfl) (by omega) (by omega)) rfl ?_
      refine Ops.st (Acts.store rfl rfl Tryz.sizeOf22 hb4 rfl rfl) ?_
      rintro W3 ⟨hb4n, hf3, _⟩
      refine Ops.nil ?_
      refine blockQ_n (?_)
      have hem : EmptyL ll := of_decide_eq_true hc1
      have hle : lastE crlf (ls ++ [ll]) = ll := by rw [lastE_snoc, if_pos hem]
      refine ⟨⟨[g4], ((Frm.refl [] W).mono (T := [g4]) (by simp)).trans hf3 (by simp), ?_⟩, ls ++ [ll], rest, cutA (cutA A c 0 1) (c - 0) x.1 1, c - 0 - x.1, hnl, hpe, Frm.own K hf3 (fun y hy => by simp at hy; omega), hb3.frm hf3 (by simp; omega), ?_, ?_, ?_⟩
      · intro b hb
        simp only [List.mem_singleton] at hb
        subst hb
        refine ⟨?_, h40.isC⟩
        simp only [List.mem_cons, not_or]
        exact ⟨by omega, fun hm => by have := hAh _ hm; omega⟩
      · rw [hle, ← hsl, hsl2]
        exact hb4n
      · rw [hle, ← hsl]
        exact hcut.frm hf3 (fun hn x hx => by have := hAh x (obN_of (by omega) (by rw [ob_cutA] at hx; exact hx)); simp; omega)
      · intro x hx
        have := hAh x (obN_of (by have : 0 < ll.length := List.length_pos_iff.2 hne
                                  omega) (by rw [ob_cutA] at hx; exact hx))
        omega
    · skip
      refine VC.skip ?_
      refine blockQ_n (?_)
      have hem : ¬ EmptyL ll := of_decide_eq_false hc1
      have hle : lastE crlf (ls ++ [ll]) = lastE crlf ls := by rw [lastE_snoc, if_neg hem]
      exact ⟨.frm0 (Frm.refl _ _), ls ++ [ll], rest, A2, c2, hnl, hpe, K, hb3, by rw [hle]; exact hb4, by rw [hle]; exact hr2, hlt⟩
  · skip
    rintro W ⟨ls, ls2, A2, c2, hls, hpr, K, hb3, hb4, hr2, hlt⟩ hsz hmk
    have e := lines_done hls hpr
    rw [hhd]
    subst e
    refine blockD_n (thenD_n ?_)
    refine DV.sub [(4, _)] (.cons rfl .nil) ?_
    refine DV.seq ?_
    refine DV.vc ?_
    refine VC.region ?_
    refine Ops.r (Run.load rfl Tryz.isAgg22 (hb4.cell 0)) rfl ?_
    refine Ops.r (Run.asg rfl) rfl ?_
    refine Ops.nil ?_
    refine thenD_n ?_
    refine DV.sub [(2, _)] (.cons rfl .nil) ?_
    refine DV.vc (VC.ret ?_)
    refine endD_r (by simp) (fun d hd => by simp only [List.mem_singleton] at hd; subst hd; exact hmk) (fun wz hsh => ?_)
    have hr2 := hr2.frm hsh (fun _ y hy => by have := hlt y hy; simp; omega)
    have K := Frm.own K hsh (fun y hy => by have := hKs; simp at hy; omega)
    refine end1 rfl ?_
    exact ⟨K, A2, c2, rfl, hr2⟩
  · skip
    exact fun _ _ h => h.elim
  · skip
    exact fun _ _ _ h => h.elim

set_option maxRecDepth 100000 in
theorem pick1_spec (q : Tx) (f : Fld) (g : Nat) (w : World) (hb : Blk w g 45 (FC1 f).toArray) (hq : q.length ≤ 1000000) (hf : f.name.length ≤ 1000000) :
    Calls Tryz.prog 77 #[encStr q, .pointer (some ⟨g, 0, none⟩)] w fun e w' => e = .returned (.bool (decide (smallS q = smallS f.name))) ∧ Drawn w w' := by
  refine VC.calls (nt := 8) (res := #[.tmp 3]) Tryz.func77 rfl Tryz.ntmps77 Tryz.results77 rfl ?_
  refine VC.seq ?_
  refine VC.region ?_
  refine Ops.r (Run.asg rfl) rfl ?_
  refine Ops.nil ?_
  refine thenQ_n ?_
  refine VC.sub [(0, _), (1, _)] (.cons rfl (.cons rfl .nil)) ?_
  refine VC.seq ?_
  refine VC.region ?_
  refine Ops.r (Run.mv rfl) rfl ?_
  refine Ops.r (Run.fieldAddr rfl Tryz.underlying45 rfl Tryz.sizeOf9 (by decide)) rfl ?_
  refine Ops.r (Run.load rfl Tryz.isAgg9 (hb.cell 0)) rfl ?_
  refine Ops.cl (Enters.fn (evs.cons rfl (evs.cons rfl evs.nil)) Tryz.call24) ((halike_spec q f.name _ hq hf)) rfl ?_
  rintro e w1 ⟨rfl, hd⟩
  refine ⟨_, rfl, ?_⟩
  refine Ops.r (Run.asg rfl) rfl ?_
  refine Ops.nil ?_
  refine thenQ_n ?_
  refine VC.sub [(3, _)] (.cons rfl .nil) ?_
  refine VC.ret ?_
  refine end1 rfl ?_
  exact ⟨rfl, hd⟩

set_option maxRecDepth 100000 in
theorem idxP (A : Option Addr) (c : Nat) (l : List Tx) (f : Fld) (g : Nat) (w : World) (hb : Blk w g 45 (FC1 f).toArray) (hl : Rd w 1 A l.length (SB l)) (hn : l.length ≤ 1000000) (hs : ∀ s ∈ l, s.length ≤ 1000000) (hf : f.name.length ≤ 1000000) :
    Calls Tryz.prog 112 #[.slice A l.length c, .func (.func 77) #[] #[.pointer (some ⟨g, 0, none⟩)]] w fun e w' => Drawn w w' ∧ ∃ k : Int, e = .returned (.int .i64 k) ∧ (0 ≤ k ↔ NamedF l f) := by
  refine VC.calls (nt := 19) (res := #[.tmp 4]) Tryz.func112 rfl Tryz.ntmps112 Tryz.results112 rfl ?_
  refine VC.seq ?_
  refine VC.region ?_
  refine Ops.r (v := .int .i64 ((0 : Nat) : Int)) (Run.asg rfl) rfl ?_
  refine Ops.nil ?_
  refine thenQ_n ?_
  refine VC.sub [(0, _), (1, _)] (.cons rfl (.cons rfl .nil)) ?_
  refine VC.seq ?_
  refine VC.seq ?_
  refine VC.region ?_
  refine Ops.r (Run.mv rfl) rfl ?_
  refine Ops.r (Run.lenS rfl Tryz.underlying36) rfl ?_
  refine Ops.r (v := .int .i64 ((0 : Nat) : Int)) (Run.mv rfl) rfl ?_
  refine Ops.nil ?_
  refine thenQ_n ?_
  refine VC.sub [(0, _), (1, _), (7, _), (8, _)] (.cons rfl (.cons rfl (.cons rfl (.cons rfl .nil)))) ?_
  refine VC.block ?_
  refine VC.loop (σ := Nat) (fun s => [(0, .slice A l.length c), (1, .func (.func 77) #[] #[.pointer (some ⟨g, 0, none⟩)]), (7, .int .i64 ((l.length : Nat) : Int)), (8, .int .i64 ((s : Nat) : Int))]) (fun s wr => s ≤ l.length ∧ Drawn w wr ∧ ∀ x ∈ l.take s, ¬ smallS x = smallS f.name) (fun s => l.length - s) 0 (.cons rfl (.cons rfl (.cons rfl (.cons rfl .nil)))) ⟨by omega, Drawn.refl _, by simp⟩ ?_
  rintro i wr ⟨hi, hd, hno⟩
  refine VC.seq ?_
  refine VC.region ?_
  refine Ops.r (Run.bin rfl rfl (Bin.lssN _ _)) rfl ?_
  refine Ops.nil ?_
  refine thenQ_n ?_
  refine VC.seq ?_
  refine VC.condD rfl (fun hc1 => ?_) (fun hc1 => ?_)
  · skip
    obtain ⟨ad, rfl, hcell⟩ := SB_at1 (hl.drawn hd) hc1
    have hts := take_snoc hc1
    have hmem := List.getElem_mem hc1
    generalize hx : l[i] = x at *
    refine VC.skip ?_
    refine thenQ_n ?_
    refine VC.sub [(0, _), (1, _), (7, _), (8, _)] (.cons rfl (.cons rfl (.cons rfl (.cons rfl .nil)))) ?_
    refine VC.seq ?_
    refine VC.block ?_
    refine VC.seq ?_
    refine VC.region ?_
    refine Ops.r (Run.mv rfl) rfl ?_
    refine Ops.r (Run.asg rfl) rfl ?_
    refine Ops.nil ?_
    refine thenQ_n ?_
    refine VC.sub [(0, _), (1, _), (5, _), (7, _), (8, _)] (.cons rfl (.cons rfl (.cons rfl (.cons rfl (.cons rfl .nil))))) ?_
    refine VC.seq ?_
    refine VC.region ?_
    refine Ops.r (Run.mv rfl) rfl ?_
    refine Ops.r (Run.mv rfl) rfl ?_
    refine Ops.r (Run.mv rfl) rfl ?_
    refine Ops.r (Run.indexS i rfl rfl Tryz.underlying36 Tryz.sizeOf9 hc1) rfl ?_
    refine Ops.r (Run.load rfl Tryz.isAgg9 hcell) rfl ?_
    refine Ops.cl (Enters.dyn rfl (evs.cons rfl evs.nil) Tryz.call77) ((pick1_spec x f g _ (hb.drawn hd) (hs x hmem) hf)) rfl ?_
    rintro e w1 ⟨rfl, hd1⟩
    have hd := hd.trans hd1
    refine ⟨_, rfl, ?_⟩
    refine Ops.nil ?_
    refine thenQ_n ?_
    refine VC.sub [(0, _), (1, _), (5, _), (7, _), (8, _), (16, _)] (.cons rfl (.cons rfl (.cons rfl (.cons rfl (.cons rfl (.cons rfl .nil)))))) ?_
    refine VC.condB rfl (fun hc2 => ?_) (fun hc2 => ?_)
    · skip
      refine VC.seq ?_
      refine VC.region ?_
      refine Ops.r (Run.mv rfl) rfl ?_
      refine Ops.r (Run.asg rfl) rfl ?_
      refine Ops.nil ?_
      refine thenQ_n ?_
      refine VC.sub [(4, _)] (.cons rfl .nil) ?_
      refine VC.ret ?_
      refine blockQ_r (thenQ_r (thenQ_r (blockQ_r (thenQ_r (end1 rfl ?_)))))
      exact ⟨hd, _, rfl, ⟨fun _ => ⟨x, hmem, of_decide_eq_true hc2⟩, fun _ => by omega⟩⟩
    · skip
      refine VC.skip ?_
      refine blockQ_n (thenQ_n ?_)
      refine VC.sub [(0, _), (1, _), (7, _), (8, _)] (.cons rfl (.cons rfl (.cons rfl (.cons rfl .nil)))) ?_
      refine VC.region ?_
      refine Ops.r (Run.bin rfl rfl (Bin.add_i64 _ 1 (by omega))) rfl ?_
      refine Ops.r (Run.mv rfl) rfl ?_
      refine Ops.nil ?_
      refine thenQ_n ⟨(i + 1), (.cons rfl (.cons rfl (.cons rfl (.cons rfl .nil)))), ?_, ?_⟩
      · skip
        refine ⟨hc1, hd, fun y hy => ?_⟩
        rw [hts] at hy
        rcases List.mem_append.1 hy with h | h
        · exact hno y h
        · simp only [List.mem_singleton] at h; subst h; exact of_decide_eq_false hc2
      · skip
        first | omega | (dsimp only; omega)
  · skip
    have hil : i = l.length := by omega
    rw [hil, List.take_length] at hno
    refine VC.exit ?_
    refine thenQ_x (thenQ_x (blockQ_x ?_))
    refine thenQ_n ?_
    refine VC.sub [] .nil ?_
    refine VC.seq ?_
    refine VC.region ?_
    refine Ops.r (v := .int .i64 (-1)) (Run.asg rfl) rfl ?_
    refine Ops.nil ?_
    refine thenQ_n ?_
    refine VC.ret ?_
    refine end1 rfl ?_
    exact ⟨hd, _, rfl, ⟨fun h => by omega, fun ⟨y, hy, hb⟩ => absurd hb (hno y hy)⟩⟩

set_option maxRecDepth 100000 in
theorem hasP (A : Option Addr) (c : Nat) (l : List Tx) (f : Fld) (g : Nat) (w : World) (hb : Blk w g 45 (FC1 f).toArray) (hl : Rd w 1 A l.length (SB l)) (hn : l.length ≤ 1000000) (hs : ∀ s ∈ l, s.length ≤ 1000000) (hf : f.name.length ≤ 1000000) :
    Calls Tryz.prog 74 #[.slice A l.length c, .func (.func 77) #[] #[.pointer (some ⟨g, 0, none⟩)]] w fun e w' => e = .returned (.bool (decide (NamedF l f))) ∧ Drawn w w' := by
  refine VC.calls (nt := 9) (res := #[.tmp 4]) Tryz.func74 rfl Tryz.ntmps74 Tryz.results74 rfl ?_
  refine VC.seq ?_
  refine VC.region ?_
  refine Ops.r (Run.asg rfl) rfl ?_
  refine Ops.nil ?_
  refine thenQ_n ?_
  refine VC.sub [(0, _), (1, _)] (.cons rfl (.cons rfl .nil)) ?_
  refine VC.seq ?_
  refine VC.region ?_
  refine Ops.r (Run.mv rfl) rfl ?_
  refine Ops.r (Run.mv rfl) rfl ?_
  refine Ops.cl (Enters.fn (evs.cons rfl (evs.cons rfl evs.nil)) Tryz.call112) ((idxP A c l f g _ hb hl hn hs hf)) rfl ?_
  rintro e w1 ⟨hd, k, rfl, hk⟩
  refine ⟨_, rfl, ?_⟩
  refine Ops.r (Run.bin rfl rfl (Bin.geq _ 0)) rfl ?_
  refine Ops.r (Run.asg rfl) rfl ?_
  refine Ops.nil ?_
  refine thenQ_n ?_
  refine VC.sub [(4, _)] (.cons rfl .nil) ?_
  refine VC.ret ?_
  refine end1 rfl ?_
  exact ⟨by rw [decide_eq_decide.2 hk], hd⟩

set_option maxRecDepth 100000 in
theorem pick_spec (A B : Option Addr) (c d : Nat) (q : Tx) (l : List Tx) (neg : Bool) (w : World) (hrd0 : Rd w 1 A q.length (U8 q)) (hq : q.length ≤ 400000) (hc : q.length ≤ c) (hl : Rd w 1 B l.length (SB l)) (hln : l.length ≤ 1000000) (hls : ∀ s ∈ l, s.length ≤ 1000000) (hnm : ∀ f ∈ fieldsQ q, f.name.length ≤ 1000000) :
    Calls Tryz.prog 45 #[.slice A q.length c, .slice B l.length d, .bool neg] w fun e w' => Frm [] w w' ∧ ∃ A2 c2, e = .returned (.slice A2 (pickQ q l neg).length c2) ∧ Own w' 5 1 A2 (pickQ q l neg).length c2 (U8 (pickQ q l neg)) ∧ ∀ x ∈ ob A2, w.heap.size ≤ x := by
  have K := Frm.refl [] w
  refine VC.calls (nt := 37) (res := #[.tmp 6]) Tryz.func45 rfl Tryz.ntmps45 Tryz.results45 rfl ?_
  refine VC.seq ?_
  refine VC.region ?_
  refine Ops.r (Run.asg rfl) rfl ?_
  refine Ops.nil ?_
  refine thenQ_n ?_
  refine VC.sub [(0, _), (1, _), (2, _)] (.cons rfl (.cons rfl (.cons rfl .nil))) ?_
  refine VC.seq ?_
  refine VC.region ?_
  refine Ops.r (Run.asg rfl) rfl ?_
  refine Ops.nil ?_
  refine thenQ_n ?_
  refine VC.seq ?_
  refine VC.seq ?_
  refine VC.region ?_
  refine Ops.r (Run.mv rfl) rfl ?_
  refine Ops.cl (Enters.fn (evs.cons rfl evs.nil) Tryz.call23) ((fields_spec A c q _ (hrd0.frm K (by simp)) (by omega) hc)) rfl ?_
  rintro e w1 ⟨f1, F, fc, rfl, hF, hubF⟩
  have hok := fieldsQ_ok q
  have hsl := splitQ_le q
  have hfn := fieldsQ_count q
  have hpl := pickN_le q l neg
  have hpn := fun k => pickN_len q l neg ((fieldsQ q).take k) (fun f hf => hok f (List.mem_of_mem_take hf))
  have hpp : ∀ k, pickN l neg ((fieldsQ q).take k) ≤ pickN l neg (fieldsQ q) := fun k => by
    have := pickN_pre l neg ((fieldsQ q).take k) ((fieldsQ q).drop k)
    rwa [List.take_append_drop] at this
  refine ⟨_, rfl, ?_⟩
  have K := K.trans f1 (by simp)
  have K1 := K
  refine Ops.r (Run.lenS rfl Tryz.underlying42) rfl ?_
  refine Ops.r (v := .int .i64 ((0 : Nat) : Int)) (Run.mv rfl) rfl ?_
  refine Ops.nil ?_
  refine thenQ_n ?_
  refine VC.sub [(0, _), (1, _), (2, _), (7, _), (12, _), (13, _), (14, _)] (.cons rfl (.cons rfl (.cons rfl (.cons rfl (.cons rfl (.cons rfl (.cons rfl .nil))))))) ?_
  refine VC.block ?_
  refine VC.loop (σ := Nat × Option Addr × Nat) (fun s => [(0, .slice A q.length c), (1, .slice B l.length d), (2, .bool neg), (7, .slice s.2.1 (pickL q l neg ((fieldsQ q).take s.1)).length s.2.2), (12, .slice F (fieldsQ q).length fc), (13, .int .i64 (((fieldsQ q).length : Nat) : Int)), (14, .int .i64 ((s.1 : Nat) : Int))]) (fun s wr => s.1 ≤ (fieldsQ q).length ∧ Frm [] w wr ∧ Own wr 45 4 F (fieldsQ q).length fc (FC (fieldsQ q)) ∧ Own wr 5 1 s.2.1 (pickL q l neg ((fieldsQ q).take s.1)).length s.2.2 (U8 (pickL q l neg ((fieldsQ q).take s.1))) ∧ ∀ x ∈ ob s.2.1, w.heap.size ≤ x) (fun s => (fieldsQ q).length - s.1) (0, none, 0) (.cons rfl (.cons rfl (.cons rfl (.cons rfl (.cons rfl (.cons rfl (.cons rfl .nil))))))) ⟨by omega, K, hF, Own.nil _ _ _, by simp [ob]⟩ ?_
  rintro ⟨k, A2, c2⟩ wr ⟨hk, K, hF, hO, hub⟩
  dsimp only at hk hF hO hub ⊢
  refine VC.seq ?_
  refine VC.region ?_
  refine Ops.r (Run.bin rfl rfl (Bin.lssN _ _)) rfl ?_
  refine Ops.nil ?_
  refine thenQ_n ?_
  refine VC.seq ?_
  refine VC.condD rfl (fun hc1 => ?_) (fun hc1 => ?_)
  · skip
    obtain ⟨adF, hFe, hcell⟩ := FC_at hF.rd hc1
    have hmem := List.getElem_mem hc1
    have hts := take_snoc hc1
    have hfo := hok _ hmem
    have hnn := hnm _ hmem
    have hlk := hpn k
    have hpk := hpp k
    have hpk1 := hpp (k + 1)
    rw [hts, pickN_app] at hpk1
    have hsplit : pickL q l neg ((fieldsQ q).take (k + 1)) = pickL q l neg ((fieldsQ q).take k) ++ pickL q l neg [(fieldsQ q)[k]] := by rw [hts, pickL_app]
    generalize hfe : (fieldsQ q)[k] = f at *
    obtain ⟨ho1, ho2, ho3, ho4⟩ := hfo
    refine VC.skip ?_
    refine thenQ_n ?_
    refine VC.sub [(0, _), (1, _), (2, _), (7, _), (12, _), (13, _), (14, _)] (.cons rfl (.cons rfl (.cons rfl (.cons rfl (.cons rfl (.cons rfl (.cons rfl .nil))))))) ?_
    refine VC.seq ?_
    refine VC.block ?_
    refine VC.seq ?_
    refine VC.region ?_
    refine Ops.r (Run.indexS k (by rw [← hFe]; rfl) rfl Tryz.underlying42 Tryz.sizeOf45 hc1) rfl ?_
    refine Ops.r (Run.loadA rfl Tryz.isAgg45 Tryz.sizeOf45 hcell (by first | rfl | (simp; done))) rfl ?_
    refine Ops.m (Does.alloc zero45) rfl ?_
    rintro _ w2 ⟨rfl, hF2⟩
    have hb9 := hF2.blk
    have sK := K.size
    have hO9 := hO.lt
    have hF9 := hF.lt
    have K := K.trans hF2.frm (by simp)
    have hF := hF.frm hF2.frm (by simp)
    have hO := hO.frm hF2.frm (by simp)
    generalize hg9 : wr.heap.size = g9 at hb9 sK hO9 hF9 ⊢
    refine Ops.st (Acts.storeA rfl rfl Tryz.sizeOf45 hb9 rfl (FC1_one f)) ?_
    rintro w3 ⟨hb9n, f3, _⟩
    have hb9 : Blk w3 g9 45 (FC1 f).toArray := hb9n
    have hF := hF.frm f3 (fun y hy => by have := hF9 y hy; simp; omega)
    have hO := hO.frm f3 (fun y hy => by have := hO9 y hy; simp; omega)
    have K := Frm.own K f3 (fun y hy => by simp at hy; omega)
    refine Ops.nil ?_
    refine thenQ_n ?_
    refine VC.sub [(0, _), (1, _), (2, _), (7, _), (9, _), (12, _), (13, _), (14, _)] (.cons rfl (.cons rfl (.cons rfl (.cons rfl (.cons rfl (.cons rfl (.cons rfl (.cons rfl .nil)))))))) ?_
    refine VC.seq ?_
    refine VC.region ?_
    refine Ops.r (Run.mv rfl) rfl ?_
    refine Ops.r (Run.mkFunc evs.nil (evs.cons rfl evs.nil)) rfl ?_
    refine Ops.cl (Enters.fn (evs.cons rfl (evs.cons rfl evs.nil)) Tryz.call74) ((hasP B d l f g9 _ hb9 (hl.frm K (by simp)) hln hls hnn)) rfl ?_
    rintro e w4 ⟨rfl, hd4⟩
    refine ⟨_, rfl, ?_⟩
    have f4 := hd4.frm
    have hb9 := hb9.frm f4 (by simp)
    have hF := hF.frm f4 (by simp)
    have hO := hO.frm f4 (by simp)
    have K := K.trans f4 (by simp)
    refine Ops.r (Run.asg rfl) rfl ?_
    refine Ops.nil ?_
    refine thenQ_n ?_
    refine VC.sub [(0, _), (1, _), (2, _), (7, _), (9, _), (10, _), (12, _), (13, _), (14, _)] (.cons rfl (.cons rfl (.cons rfl (.cons rfl (.cons rfl (.cons rfl (.cons rfl (.cons rfl (.cons rfl .nil))))))))) ?_
    refine VC.seq ?_
    refine VC.region ?_
    refine Ops.r (Run.mv rfl) rfl ?_
    refine Ops.r (Run.mv rfl) rfl ?_
    refine Ops.r (Run.neqB rfl rfl Tryz.underlying4) rfl ?_
    refine Ops.nil ?_
    refine thenQ_n ?_
    refine VC.sub [(0, _), (1, _), (2, _), (7, _), (9, _), (12, _), (13, _), (14, _), (23, _)] (.cons rfl (.cons rfl (.cons rfl (.cons rfl (.cons rfl (.cons rfl (.cons rfl (.cons rfl (.cons rfl .nil))))))))) ?_
    refine VC.meet (σ := Option Addr × Nat) (fun s => [(0, .slice A q.length c), (1, .slice B l.length d), (2, .bool neg), (7, .slice s.1 (pickL q l neg ((fieldsQ q).take (k + 1))).length s.2), (12, .slice F (fieldsQ q).length fc), (13, .int .i64 (((fieldsQ q).length : Nat) : Int)), (14, .int .i64 ((k : Nat) : Int))]) (fun s wr => Frm [] w wr ∧ Own wr 45 4 F (fieldsQ q).length fc (FC (fieldsQ q)) ∧ Own wr 5 1 s.1 (pickL q l neg ((fieldsQ q).take (k + 1))).length s.2 (U8 (pickL q l neg ((fieldsQ q).take (k + 1)))) ∧ ∀ x ∈ ob s.1, w.heap.size ≤ x) ?_ ?_
    · skip
      refine VC.condB rfl (fun hc2 => ?_) (fun hc2 => ?_)
      · skip
        have hpe : pickL q l neg [f] = sliceQ q f.frm f.tu := by
          unfold pickL
          rw [if_pos hc2]
          exact List.append_nil _
        have hpne : pickN l neg [f] = f.tu - f.frm := by
          unfold pickN
          rw [if_pos hc2]
          rfl
        rw [hpe] at hsplit
        refine VC.region ?_
        refine Ops.r (Run.mv rfl) rfl ?_
        refine Ops.r (Run.mv rfl) rfl ?_
        refine Ops.r (Run.fieldAddr rfl Tryz.underlying45 rfl Tryz.sizeOf3 (by decide)) rfl ?_
        refine Ops.r (Run.load rfl Tryz.isAgg3 (hb9.cell 1)) rfl ?_
        refine Ops.r (Run.fieldAddr rfl Tryz.underlying45 rfl Tryz.sizeOf3 (by decide)) rfl ?_
        refine Ops.r (Run.load rfl Tryz.isAgg3 (hb9.cell 2)) rfl ?_
        refine Ops.r (Run.sliceS f.frm f.tu rfl Tryz.underlying22 Tryz.sizeOf5 (evB.some_ rfl) (evB.some_ rfl) (by omega) (by omega)) rfl ?_
        refine Ops.m (Does.app rfl rfl Tryz.underlying22 (info5) rfl (by decide) hO (U8_cutN (hrd0.frm K (by simp)) ho4 (show f.tu ≤ q.length by omega) hc) (U8_one _) (by omega) (by omega)) rfl ?_
        rintro _ w5 ⟨A3, c3, rfl, hO3, f5, hob3⟩
        have sK5 := K.size
        have hF := hF.frm f5 (fun y hy => hF.ne_own hO (by decide) y hy)
        have K := Frm.own K f5 hub
        have hl30 : (pickL q l neg ((fieldsQ q).take k)).length + (f.tu - f.frm) = (pickL q l neg ((fieldsQ q).take (k + 1))).length := by rw [hsplit, List.length_append, sliceQ_len (by omega)]
        have hO3 : Own w5 5 1 A3 (pickL q l neg ((fieldsQ q).take (k + 1))).length c3 (U8 (pickL q l neg ((fieldsQ q).take (k + 1)))) := by
          rw [← hl30, hsplit]
          have e : U8 (pickL q l neg ((fieldsQ q).take k) ++ sliceQ q f.frm f.tu) = U8 (pickL q l neg ((fieldsQ q).take k)) ++ U8 (sliceQ q f.frm f.tu) := by simp [U8]
          rw [e]
          exact hO3
        have hub3 : ∀ x ∈ ob A3, w.heap.size ≤ x := up_app hub hob3 sK5
        rw [hl30]
        refine Ops.r (Run.asg rfl) rfl ?_
        refine Ops.nil ?_
        refine thenQ_n ⟨(A3, c3), (.cons rfl (.cons rfl (.cons rfl (.cons rfl (.cons rfl (.cons rfl (.cons rfl .nil))))))), ?_⟩
        exact ⟨K, hF, hO3, hub3⟩
      · skip
        have hpe : pickL q l neg [f] = [] := by
          unfold pickL
          rw [if_neg (by simp [hc2])]
          rfl
        rw [hpe, List.append_nil] at hsplit
        refine VC.skip ?_
        refine thenQ_n ⟨(A2, c2), (.cons rfl (.cons rfl (.cons rfl (.cons (by rw [hsplit]; rfl) (.cons rfl (.cons rfl (.cons rfl .nil))))))), ?_⟩
        exact ⟨K, hF, by rw [hsplit]; exact hO, hub⟩
    · skip
      rintro ⟨A3, c3⟩ w9 ⟨K, hF, hO, hub⟩ Γ hΓ
      dsimp only at hO hub
      refine blockQ_n (thenQ_n (VC.sub _ hΓ ?_))
      refine VC.region ?_
      refine Ops.r (Run.bin rfl rfl (Bin.add_i64 _ 1 (by omega))) rfl ?_
      refine Ops.r (Run.mv rfl) rfl ?_
      refine Ops.nil ?_
      refine thenQ_n ⟨(k + 1, A3, c3), (.cons rfl (.cons rfl (.cons rfl (.cons rfl (.cons rfl (.cons rfl (.cons rfl .nil))))))), ?_, ?_⟩
      · skip
        exact ⟨hc1, K, hF, hO, hub⟩
      · skip
        first | omega | (dsimp only; omega)
  · skip
    have hkl : k = (fieldsQ q).length := by omega
    subst hkl
    rw [List.take_length] at hO ⊢
    have hlk := pickN_len q l neg _ hok
    refine VC.exit ?_
    refine thenQ_x (thenQ_x (blockQ_x ?_))
    refine thenQ_n ?_
    refine VC.sub [(0, _), (7, _)] (.cons rfl (.cons rfl .nil)) ?_
    refine VC.seq ?_
    refine VC.region ?_
    refine Ops.r (Run.mv rfl) rfl ?_
    refine Ops.r (Run.mv rfl) rfl ?_
    refine Ops.cl (Enters.fn (evs.cons rfl evs.nil) Tryz.call78) ((hend_spec A c q _ (hrd0.frm K (by simp)) (by omega) hc)) rfl ?_
    rintro e w6 ⟨f6, E, ec, rfl, hrE⟩
    refine ⟨_, rfl, ?_⟩
    have hO := hO.frm f6 (by simp)
    have K := K.trans f6 (by simp)
    have hel := hendQ_len q
    refine Ops.m (Does.app rfl rfl Tryz.underlying22 (info5) rfl (by decide) hO hrE (U8_one _) (by omega) (by omega)) rfl ?_
    rintro _ w7 ⟨A7, c7, rfl, hO7, f7, hob7⟩
    have sK7 := K.size
    have K := Frm.own K f7 hub
    have hub7 : ∀ x ∈ ob A7, w.heap.size ≤ x := up_app hub hob7 sK7
    have hl36 : (pickL q l neg (fieldsQ q)).length + (hendQ q).length = (pickQ q l neg).length := by rw [pickQ, List.length_append]
    have hO7 : Own w7 5 1 A7 (pickQ q l neg).length c7 (U8 (pickQ q l neg)) := by
      rw [← hl36]
      have e : U8 (pickQ q l neg) = U8 (pickL q l neg (fieldsQ q)) ++ U8 (hendQ q) := by simp [U8, pickQ]
      rw [e]
      exact hO7
    rw [hl36]
    refine Ops.r (Run.asg rfl) rfl ?_
    refine Ops.nil ?_
    refine thenQ_n ?_
    refine VC.sub [(6, _)] (.cons rfl .nil) ?_
    refine VC.ret ?_
    refine end1 rfl ?_
    exact ⟨K, A7, c7, rfl, hO7, hub7⟩

end Go.Proofs.YtenbjndldenkfaaGreatDoor

namespace Go.Proofs.YtenbjndldenkfaaGreatDoor
open Go.RowKit Go.Sort

/-- What a section of picked fields of a letter has. -/
def getF (q : Tx) (wh : Tx) (ns : List Tx) : Tx := if MayW ⟨[], wh, ns⟩ then pickQ q ns (decide (wh = othT)) else []
theorem nameQ_len {l n : Tx} {k : Nat} (h : beginQ l = some (n, k)) : n.length ≤ l.length := (beginQ_lt h).2
theorem fldL_names (N : Nat) : ∀ (ls : List Tx) (o : Nat) (op : Bool) (out : List Fld), (∀ l ∈ ls, l.length ≤ N) → (∀ f ∈ out, f.name.length ≤ N) → ∀ f ∈ fldL o op out ls, f.name.length ≤ N
  | [], _, _, _, _, h => h
  | l :: r, o, op, out, hl, h => by
    have hr : ∀ x ∈ r, x.length ≤ N := fun x hx => hl x (by simp [hx])
    unfold fldL
    split
    · exact h
    · split
      · refine fldL_names N r _ op _ hr ?_
        cases op with
        | false => exact h
        | true =>
          intro f hf
          rw [if_pos rfl] at hf
          rcases List.eq_nil_or_concat out with rfl | ⟨t, g, rfl⟩
          · simp [setTo] at hf
          · rw [List.concat_eq_append, setTo_snoc] at hf
            rcases List.mem_append.1 hf with hf | hf
            · exact h f (by simp [hf])
            · simp only [List.mem_singleton] at hf
              subst hf
              exact h g (by simp)
      · split
        · exact fldL_names N r _ _ _ hr h
        · rename_i n k hb
          refine fldL_names N r _ _ _ hr fun f hf => ?_
          rcases List.mem_append.1 hf with hf | hf
          · exact h f hf
          · simp only [List.mem_singleton] at hf
            subst hf
            have h1 := nameQ_len hb
            have h2 := hl l (by simp)
            show n.length ≤ N
            omega
theorem flat_mem_len : ∀ {ls : List Tx} {l : Tx}, l ∈ ls → l.length ≤ ls.flatten.length
  | x :: r, l, h => by
    rw [List.flatten_cons, List.length_append]
    rcases List.mem_cons.1 h with rfl | h
    · omega
    · have := flat_mem_len h
      omega
theorem fieldsQ_names (q : Tx) : ∀ f ∈ fieldsQ q, f.name.length ≤ q.length := by
  refine fldL_names _ _ 0 false [] (fun l hl => ?_) (by simp)
  have := flat_mem_len hl
  rw [linesF_flat, List.length_take] at this
  omega

set_option maxRecDepth 100000 in
theorem getF_spec (A : Option Addr) (c : Nat) (q wh : Tx) (ns : List Tx) (B N : Option Addr) (d nc : Nat) (w : World) (hrd : Rd w 1 A q.length (U8 q)) (hq : q.length ≤ 400000) (hc : q.length ≤ c) (hn : Rd w 1 N ns.length (SB ns)) (hnl : ns.length ≤ 1000000) (hns : ∀ s ∈ ns, s.length ≤ 1000000) (hnn : NamedW wh) :
    Calls Tryz.prog 19 #[.slice A q.length c, .agg (WtC ⟨[], wh, ns⟩ B d N nc)] w fun e w' => Frm [] w w' ∧ ∃ (A2 : Option Addr) (c2 : Nat), e = .returned (.tuple #[.slice A2 (getF q wh ns).length c2, .bool (decide (MayW ⟨[], wh, ns⟩))]) ∧ Own w' 5 1 A2 (getF q wh ns).length c2 (U8 (getF q wh ns)) ∧ ∀ x ∈ ob A2, w.heap.size ≤ x := by
  have hw0 : ¬ wh = [] := by rintro rfl; exact absurd hnn (by decide)
  have hw1 : ¬ wh = mimT := by rintro rfl; exact absurd hnn (by decide)
  have hw2 : ¬ wh = txtT := by rintro rfl; exact absurd hnn (by decide)
  have hw3 : ¬ wh = hdrT := by rintro rfl; exact absurd hnn (by decide)
  have hnmq : ∀ f ∈ fieldsQ q, f.name.length ≤ 1000000 := fun f hf => by have := fieldsQ_names q f hf; omega
  obtain ⟨v, hv⟩ : ∃ v : Wnt, v = ⟨[], wh, ns⟩ := ⟨_, rfl⟩
  refine VC.calls (nt := 104) (res := #[.tmp 4, .tmp 5]) Tryz.func19 rfl Tryz.ntmps19 Tryz.results19 rfl ?_
  refine VC.seq ?_
  refine VC.region ?_
  refine Ops.m (Does.box rfl) rfl ?_
  rintro _ w1 ⟨rfl, hF1⟩
  have hb3 : Blk w1 w.heap.size 38 (WtC ⟨[], wh, ns⟩ B d N nc) := hF1.blk
  have K := hF1.frm
  have hg3 := hb3.lt
  generalize hg3e : w.heap.size = g3 at hb3 hg3 ⊢
  refine Ops.r (Run.asg rfl) rfl ?_
  refine Ops.r (Run.asg rfl) rfl ?_
  refine Ops.nil ?_
  refine thenQ_n ?_
  refine VC.sub [(0, _), (3, _)] (.cons rfl (.cons rfl .nil)) ?_
  refine VC.seq ?_
  refine VC.region ?_
  refine Ops.r (Run.mv rfl) rfl ?_
  refine Ops.cl (Enters.fn (evs.cons rfl evs.nil) Tryz.call38) ((all_spec A c q _ (hrd.frm K (by simp)) (by omega) hc)) rfl ?_
  rintro e w2 ⟨hf2, l, LA, lc, hm, rfl, hP, _, hubP⟩
  refine ⟨_, rfl, ?_⟩
  have hb3 := hb3.frm hf2 (by simp)
  have K := K.trans hf2 (by simp)
  have hml : l.length = (partsQ q).length := by rw [← hm, List.length_map]
  obtain ⟨hok, hl64, pz, hpz, hz1, hz2, hz3, hz4⟩ := parts_ok q
  have hl0 := parts_pos q
  refine Ops.r (Run.asg rfl) rfl ?_
  refine Ops.nil ?_
  refine thenQ_n ?_
  refine VC.sub [(0, _), (3, _), (6, _)] (.cons rfl (.cons rfl (.cons rfl .nil))) ?_
  refine VC.seq ?_
  refine VC.region ?_
  refine Ops.r (Run.mv rfl) rfl ?_
  refine Ops.r (Run.fieldAddr rfl Tryz.underlying38 rfl Tryz.sizeOf33 (by decide)) rfl ?_
  refine Ops.r (Run.load rfl Tryz.isAgg33 (hb3.cell 0)) rfl ?_
  refine Ops.cl (Enters.fn (evs.cons rfl (evs.cons rfl evs.nil)) Tryz.call41) ((find_path_spec LA B lc d l [] _ hP.rd (by omega) (by omega) (Rd.nil _ _ _) (by decide) (by simp))) rfl ?_
  rintro e w3 ⟨rfl, hf3⟩
  rw [hm, find_nil]
  refine ⟨_, rfl, ?_⟩
  have hb3 := hb3.frm hf3 (by simp)
  have hP := hP.frm hf3 (by simp)
  have K := K.trans hf3 (by simp)
  refine Ops.r (Run.asg rfl) rfl ?_
  refine Ops.nil ?_
  refine thenQ_n ?_
  refine VC.sub [(0, _), (3, _), (6, _), (7, _)] (.cons rfl (.cons rfl (.cons rfl (.cons rfl .nil)))) ?_
  refine VC.seq ?_
  refine VC.seq ?_
  refine VC.splitR [(0, .slice A q.length c), (3, .pointer (some ⟨g3, 0, none⟩)), (6, .slice LA l.length lc), (7, .int .i64 ((0 : Nat) : Int))] (Frm [] w3) 22 (.bool (decide (¬ MayW ⟨[], wh, ns⟩))) ?_ ?_
  · refine VC.region ?_
    refine Ops.r (Run.loadA rfl Tryz.isAgg38 Tryz.sizeOf38 (fun j v hj => hb3.cells j v hj) (by first | rfl | (simp; done))) rfl ?_
    refine Ops.cl (Enters.fn (evs.cons rfl evs.nil) Tryz.call42) ((may_spec ⟨[], wh, ns⟩ B N d nc _ (Rd.nil _ _ _) (by simp) (hn.frm K (by simp)) hnl hns)) rfl ?_
    rintro e w4 ⟨rfl, hf4⟩
    refine ⟨_, rfl, ?_⟩
    refine Ops.r (Run.not rfl) rfl ?_
    rw [not_dec]
    by_cases hs18 : ¬ MayW ⟨[], wh, ns⟩
    · skip
      refine Ops.r (Run.mv rfl) rfl ?_
      refine Ops.sk rfl (by first | rfl | assumption | exact decide_eq_true (by assumption) | exact decide_eq_false (by assumption) | decide | (simp; done) | (simp; omega) | (simp [*]; done)) rfl ?_
      refine Ops.sk rfl (by first | rfl | assumption | exact decide_eq_true (by assumption) | exact decide_eq_false (by assumption) | decide | (simp; done) | (simp; omega) | (simp [*]; done)) rfl ?_
      refine Ops.r (Run.pickT rfl rfl (by first | rfl | assumption | exact decide_eq_true (by assumption) | exact decide_eq_false (by assumption) | decide | (simp; done) | (simp; omega) | (simp [*]; done))) rfl ?_
      refine Ops.nil ?_
      refine thenQ_n ⟨(.cons (congrArg (fun b => some (Value.bool b)) (by first | exact (decide_eq_true hs18).symm | exact (decide_eq_false hlt0).trans (decide_eq_false hs18).symm | rfl | simp [*])) (.cons rfl (.cons rfl (.cons rfl (.cons rfl .nil))))), (hf4)⟩
    · skip
      have hlt0 : ¬ ((0 : Nat) : Int) < 0 := by omega
      refine Ops.r (Run.mv rfl) rfl ?_
      refine Ops.rg rfl (by first | rfl | assumption | exact decide_eq_true (by assumption) | exact decide_eq_false (by assumption) | decide | (simp; done) | (simp; omega) | (simp [*]; done)) (Run.mv rfl) rfl ?_
      refine Ops.rg rfl (by first | rfl | assumption | exact decide_eq_true (by assumption) | exact decide_eq_false (by assumption) | decide | (simp; done) | (simp; omega) | (simp [*]; done)) (Run.bin rfl rfl (Bin.lss _ 0)) rfl ?_
      refine Ops.r (Run.pickF rfl rfl (by first | rfl | assumption | exact decide_eq_true (by assumption) | exact decide_eq_false (by assumption) | decide | (simp; done) | (simp; omega) | (simp [*]; done))) rfl ?_
      refine Ops.nil ?_
      refine thenQ_n ⟨(.cons (congrArg (fun b => some (Value.bool b)) (by first | exact (decide_eq_true hs18).symm | exact (decide_eq_false hlt0).trans (decide_eq_false hs18).symm | rfl | simp [*])) (.cons rfl (.cons rfl (.cons rfl (.cons rfl .nil))))), (hf4)⟩
  · intro Γ w4 hΓ hf4
    refine thenQ_n (VC.sub _ hΓ ?_)
    refine VC.condD rfl (fun hc1 => ?_) (fun hc1 => ?_)
    · skip
      have hb3 := hb3.frm hf4 (by simp)
      have hP := hP.frm hf4 (by simp)
      have K := K.trans hf4 (by simp)
      have hgq : getF q wh ns = [] := by unfold getF; rw [if_neg hc1]
      refine VC.seq ?_
      refine VC.region ?_
      refine Ops.r (Run.asg rfl) rfl ?_
      refine Ops.r (Run.asg rfl) rfl ?_
      refine Ops.nil ?_
      refine thenQ_n ?_
      refine VC.sub [(4, _), (5, _)] (.cons rfl (.cons rfl .nil)) ?_
      refine VC.ret ?_
      refine thenQ_r (end2 rfl rfl ?_)
      rw [hgq, decide_eq_false hc1]
      exact ⟨K, none, 0, rfl, Own.nil _ _ _, by simp [ob]⟩
    · skip
      have hb3 := hb3.frm hf4 (by simp)
      have hP := hP.frm hf4 (by simp)
      have K := K.trans hf4 (by simp)
      have hmay : MayW ⟨[], wh, ns⟩ := Classical.not_not.1 hc1
      have hgq : getF q wh ns = pickQ q ns (decide (wh = othT)) := by unfold getF; rw [if_pos hmay]
      have hlm : l[0].1 = pz := by have := List.getElem?_map (f := fun x : Pc => x.1) (l := l) (i := 0); rw [hm, hpz, List.getElem?_eq_getElem (by omega)] at this; simpa using this.symm
      obtain ⟨ad, rfl, hcell⟩ := PP_at hP.rd (show 0 < l.length by omega)
      obtain ⟨y, hy⟩ : ∃ y, l[0] = (pz, y) := ⟨l[0].2, by rw [← hlm]⟩
      rw [hy] at hcell
      refine VC.skip ?_
      refine thenQ_n ?_
      refine VC.sub [(0, _), (3, _), (6, _), (7, _)] (.cons rfl (.cons rfl (.cons rfl (.cons rfl .nil)))) ?_
      refine VC.seq ?_
      refine VC.region ?_
      refine Ops.r (Run.mv rfl) rfl ?_
      refine Ops.r (Run.mv rfl) rfl ?_
      refine Ops.r (Run.indexS 0 rfl rfl Tryz.underlying60 Tryz.sizeOf69 (by omega)) rfl ?_
      refine Ops.r (Run.loadA rfl Tryz.isAgg69 Tryz.sizeOf69 hcell (by first | rfl | (simp; done))) rfl ?_
      refine Ops.m (Does.alloc zero69) rfl ?_
      rintro _ w5 ⟨rfl, hF5⟩
      have hb8 := hF5.blk
      have hP4 := hP
      have hb34 := hb3.lt
      have sK4 := K.size
      have hb3 := hb3.frm hF5.frm (by simp)
      have hP := hP.frm hF5.frm (by simp)
      have lP := hP.lt
      have lb3 := hb3.lt
      have K := K.trans hF5.frm (by simp)
      have hPn : ∀ x ∈ ob (some ad), x < w4.heap.size := by have := hP4.lt; exact this
      generalize hg8 : w4.heap.size = g8 at hb8 sK4 hPn hb34 ⊢
      refine Ops.st (Acts.storeA rfl rfl Tryz.sizeOf69 hb8 rfl (PP1_one (pz, y))) ?_
      rintro w6 ⟨hb8n, hf6, _⟩
      have hb8 : Blk w6 g8 69 (PP1 (pz, y)).toArray := hb8n
      have hb3 := hb3.frm hf6 (by simp; omega)
      have hP := hP.frm hf6 (fun x hx => by have := hPn x hx; simp; omega)
      have K := Frm.own K hf6 (fun y hy => by simp at hy; omega)
      refine Ops.nil ?_
      refine thenQ_n ?_
      refine VC.sub [(0, _), (3, _), (6, _), (7, _), (8, _)] (.cons rfl (.cons rfl (.cons rfl (.cons rfl (.cons rfl .nil))))) ?_
      refine VC.seq ?_
      refine VC.block ?_
      refine VC.seq ?_
      refine VC.region ?_
      refine Ops.r (Run.fieldAddr rfl Tryz.underlying38 rfl Tryz.sizeOf9 (by decide)) rfl ?_
      refine Ops.r (Run.load rfl Tryz.isAgg9 (hb3.cell 1)) rfl ?_
      refine Ops.r (Run.eqlT rfl rfl) rfl ?_
      refine Ops.r (Run.mv rfl) rfl ?_
      refine Ops.sk rfl (decide_eq_false hw0) rfl ?_
      refine Ops.sk rfl (decide_eq_false hw0) rfl ?_
      refine Ops.sk rfl (decide_eq_false hw0) rfl ?_
      refine Ops.sk rfl (decide_eq_false hw0) rfl ?_
      refine Ops.r (Run.pickF rfl rfl (decide_eq_false hw0)) rfl ?_
      refine Ops.r (Run.asg rfl) rfl ?_
      refine Ops.nil ?_
      refine thenQ_n ?_
      refine VC.sub [(0, _), (3, _), (6, _), (7, _), (8, _), (27, _)] (.cons rfl (.cons rfl (.cons rfl (.cons rfl (.cons rfl (.cons rfl .nil)))))) ?_
      refine VC.condF rfl (rfl) ?_
      refine VC.seq ?_
      refine VC.region ?_
      refine Ops.r (Run.fieldAddr rfl Tryz.underlying38 rfl Tryz.sizeOf9 (by decide)) rfl ?_
      refine Ops.r (Run.load rfl Tryz.isAgg9 (hb3.cell 1)) rfl ?_
      refine Ops.r (Run.eqlT rfl rfl) rfl ?_
      refine Ops.r (Run.asg rfl) rfl ?_
      refine Ops.nil ?_
      refine thenQ_n ?_
      refine VC.sub [(0, _), (3, _), (6, _), (7, _), (8, _), (39, _)] (.cons rfl (.cons rfl (.cons rfl (.cons rfl (.cons rfl (.cons rfl .nil)))))) ?_
      refine VC.condF rfl (decide_eq_false hw0) ?_
      refine VC.seq ?_
      refine VC.region ?_
      refine Ops.r (Run.fieldAddr rfl Tryz.underlying38 rfl Tryz.sizeOf9 (by decide)) rfl ?_
      refine Ops.r (Run.load rfl Tryz.isAgg9 (hb3.cell 1)) rfl ?_
      refine Ops.r (Run.eqlT rfl rfl) rfl ?_
      refine Ops.r (Run.asg rfl) rfl ?_
      refine Ops.nil ?_
      refine thenQ_n ?_
      refine VC.sub [(0, _), (3, _), (6, _), (7, _), (8, _), (50, _)] (.cons rfl (.cons rfl (.cons rfl (.cons rfl (.cons rfl (.cons rfl .nil)))))) ?_
      refine VC.condF rfl (decide_eq_false hw1) ?_
      refine VC.skip ?_
      refine blockQ_n (thenQ_n ?_)
      refine VC.sub [(0, _), (3, _), (6, _), (7, _), (8, _)] (.cons rfl (.cons rfl (.cons rfl (.cons rfl (.cons rfl .nil))))) ?_
      refine VC.seq ?_
      refine VC.region ?_
      refine Ops.r (Run.mv rfl) rfl ?_
      refine Ops.r (Run.mv rfl) rfl ?_
      refine Ops.r (Run.fieldAddr rfl Tryz.underlying38 rfl Tryz.sizeOf33 (by decide)) rfl ?_
      refine Ops.r (Run.load rfl Tryz.isAgg33 (hb3.cell 0)) rfl ?_
      refine Ops.cl (Enters.fn (evs.cons rfl (evs.cons rfl (evs.cons rfl evs.nil))) Tryz.call44) ((whole_path_spec (some ad) B lc d l 0 [] _ hP.rd (by omega) (by omega))) rfl ?_
      rintro e w7 ⟨rfl, hf7⟩
      rw [hm, show wholeQ (partsQ q) 0 ([] : List Int) = ((0 : Nat) : Int) by unfold wholeQ; rw [if_pos rfl]; rfl]
      refine ⟨_, rfl, ?_⟩
      have hb3 := hb3.frm hf7 (by simp)
      have hP := hP.frm hf7 (by simp)
      have hb8 := hb8.frm hf7 (by simp)
      have sK7 := K.size
      have K := K.trans hf7 (by simp)
      refine Ops.r (Run.asg rfl) rfl ?_
      refine Ops.nil ?_
      refine thenQ_n ?_
      refine VC.sub [(0, _), (3, _), (6, _), (8, _), (9, _)] (.cons rfl (.cons rfl (.cons rfl (.cons rfl (.cons rfl .nil))))) ?_
      refine VC.seq ?_
      refine VC.seq ?_
      refine VC.region ?_
      refine Ops.r (Run.mv rfl) rfl ?_
      refine Ops.r (Run.bin rfl rfl (Bin.lss _ 0)) rfl ?_
      refine Ops.nil ?_
      refine thenQ_n ?_
      refine VC.sub [(0, _), (3, _), (6, _), (8, _), (9, _), (67, _)] (.cons rfl (.cons rfl (.cons rfl (.cons rfl (.cons rfl (.cons rfl .nil)))))) ?_
      refine VC.condF rfl (decide_eq_false (by omega)) ?_
      refine VC.skip ?_
      refine thenQ_n ?_
      refine VC.sub [(0, _), (3, _), (6, _), (8, _), (9, _)] (.cons rfl (.cons rfl (.cons rfl (.cons rfl (.cons rfl .nil))))) ?_
      refine VC.seq ?_
      refine VC.region ?_
      refine Ops.r (Run.mv rfl) rfl ?_
      refine Ops.r (Run.mv rfl) rfl ?_
      refine Ops.r (Run.indexS 0 rfl rfl Tryz.underlying60 Tryz.sizeOf69 (by omega)) rfl ?_
      refine Ops.r (Run.loadA rfl Tryz.isAgg69 Tryz.sizeOf69 (by have := PP_get hP.rd (show 0 < l.length by omega); rw [hy] at this; exact this) (by first | rfl | (simp; done))) rfl ?_
      refine Ops.st (Acts.storeA rfl rfl Tryz.sizeOf69 hb8 rfl (PP1_one (pz, y))) ?_
      rintro w8 ⟨hb8n, hf8, _⟩
      have hb8 : Blk w8 g8 69 (PP1 (pz, y)).toArray := hb8n
      have hb3 := hb3.frm hf8 (by simp; omega)
      have K := Frm.own K hf8 (fun y hy => by simp at hy; omega)
      refine Ops.nil ?_
      refine thenQ_n ?_
      refine VC.sub [(0, _), (3, _), (8, _)] (.cons rfl (.cons rfl (.cons rfl .nil))) ?_
      refine VC.seq ?_
      refine VC.seq ?_
      refine VC.region ?_
      refine Ops.r (Run.fieldAddr rfl Tryz.underlying38 rfl Tryz.sizeOf9 (by decide)) rfl ?_
      refine Ops.r (Run.load rfl Tryz.isAgg9 (hb3.cell 1)) rfl ?_
      refine Ops.nil ?_
      refine thenQ_n ?_
      refine VC.sub [(0, _), (3, _), (8, _), (73, _)] (.cons rfl (.cons rfl (.cons rfl (.cons rfl .nil)))) ?_
      refine VC.block ?_
      refine VC.seq ?_
      refine VC.region ?_
      refine Ops.r (Run.eqlT rfl rfl) rfl ?_
      refine Ops.r (Run.asg rfl) rfl ?_
      refine Ops.nil ?_
      refine thenQ_n ?_
      refine VC.sub [(0, _), (3, _), (8, _), (73, _), (74, _)] (.cons rfl (.cons rfl (.cons rfl (.cons rfl (.cons rfl .nil))))) ?_
      refine VC.condF rfl (decide_eq_false hw2) ?_
      refine VC.seq ?_
      refine VC.region ?_
      refine Ops.r (Run.eqlT rfl rfl) rfl ?_
      refine Ops.r (Run.asg rfl) rfl ?_
      refine Ops.nil ?_
      refine thenQ_n ?_
      refine VC.sub [(0, _), (3, _), (8, _), (83, _)] (.cons rfl (.cons rfl (.cons rfl (.cons rfl .nil)))) ?_
      refine VC.condF rfl (decide_eq_false hw3) ?_
      refine VC.skip ?_
      refine blockQ_n (thenQ_n ?_)
      refine VC.sub [(0, _), (3, _), (8, _)] (.cons rfl (.cons rfl (.cons rfl .nil))) ?_
      refine VC.seq ?_
      refine VC.tail 11 (by kernel_rfl) (by kernel_rfl) ?_
      simp only [List.take_succ_cons, List.take_zero, List.drop_succ_cons, List.drop_zero]
      refine SOps.r (Run.mv rfl) rfl ?_
      refine SOps.r (Run.fieldAddr rfl Tryz.underlying69 rfl Tryz.sizeOf3 (by decide)) rfl ?_
      refine SOps.r (Run.load rfl Tryz.isAgg3 (hb8.drawn (Drawn.drew _) |>.cell 1)) rfl ?_
      refine SOps.r (Run.fieldAddr rfl Tryz.underlying69 rfl Tryz.sizeOf3 (by decide)) rfl ?_
      refine SOps.r (Run.load rfl Tryz.isAgg3 (hb8.drawn (Drawn.drew _) |>.cell 3)) rfl ?_
      refine SOps.r (Run.sliceS pz.frm pz.tu rfl Tryz.underlying22 Tryz.sizeOf5 (evB.some_ rfl) (evB.some_ rfl) (by omega) (by omega)) rfl ?_
      rw [hz1, hz3]
      refine SOps.r (Run.fieldAddr rfl Tryz.underlying38 rfl Tryz.sizeOf36 (by decide)) rfl ?_
      refine SOps.r (Run.load rfl Tryz.isAgg36 (hb3.drawn (Drawn.drew _) |>.cell 2)) rfl ?_
      refine SOps.r (Run.fieldAddr rfl Tryz.underlying38 rfl Tryz.sizeOf9 (by decide)) rfl ?_
      refine SOps.r (Run.load rfl Tryz.isAgg9 (hb3.drawn (Drawn.drew _) |>.cell 1)) rfl ?_
      refine SOps.r (Run.eqlT rfl rfl) rfl ?_
      refine SOps.nil ?_
      refine Ops.cl (Enters.fn (evs.cons rfl (evs.cons rfl (evs.cons rfl evs.nil))) Tryz.call45) ((pick_spec (cutA A c 0 1) N (c - 0) nc q ns (decide (wh = othT)) _ (by have := U8_cut ((hrd.frm K (by simp)).drawn (Drawn.drew _)) (Nat.zero_le _) (Nat.le_refl _) hc; rwa [show sliceQ q 0 q.length = q by unfold sliceQ; simp] at this) hq (by omega) ((hn.frm K (by simp)).drawn (Drawn.drew _)) hnl hns hnmq)) rfl ?_
      rintro e w9 ⟨hf9, A2, c2, rfl, hO2, hub2⟩
      refine ⟨_, rfl, ?_⟩
      have sK := K.size
      have K := K.trans ((Frm.refl [] w8).drew.trans hf9 (by simp)) (by simp)
      refine Ops.r (Run.asg rfl) rfl ?_
      refine Ops.r (Run.asg rfl) rfl ?_
      refine Ops.nil ?_
      refine thenQ_n ?_
      refine VC.sub [(4, _), (5, _)] (.cons rfl (.cons rfl .nil)) ?_
      refine VC.ret ?_
      refine end2 rfl rfl ?_
      rw [hgq, decide_eq_true hmay]
      exact ⟨K, A2, c2, rfl, hO2, fun x hx => by have h1 := hub2 x hx; have h2 : w8.drew.heap.size = w8.heap.size := rfl; omega⟩

def few21 (ns : List Tx) : List Tx := (ns.take 18).map (·.take 60)
theorem few21_len (ns : List Tx) : (few21 ns).length ≤ 18 := by unfold few21; simp; omega
theorem few21_each (ns : List Tx) : ∀ s ∈ few21 ns, s.length ≤ 60 := by
  intro s hs
  obtain ⟨x, _, rfl⟩ := List.mem_map.1 hs
  simp
  omega
theorem SB_cut {w : World} {A : Option Addr} {c : Nat} {l : List Tx} (h : Rd w 1 A l.length (SB l)) (k : Nat) (hk : k ≤ l.length) (hc : l.length ≤ c) : Rd w 1 (cutA A c 0 1) (l.take k).length (SB (l.take k)) := by
  have e := h.cut (l := 0) (r := k) (cap := c) (by omega) hk hc
  have e1 : (l.take k).length = k - 0 := by simp; omega
  have e2 : SB (l.take k) = ((SB l).drop (0 * 1)).take ((k - 0) * 1) := by simp [SB, List.map_take]
  rw [e1, e2]
  exact e

set_option maxRecDepth 100000 in
theorem few21_spec (wh : Tx) (ns : List Tx) (N : Option Addr) (nc : Nat) (w : World) (hn : Rd w 1 N ns.length (SB ns)) (hnc : ns.length ≤ nc) (hns : ∀ s ∈ ns, s.length ≤ 9223372036854775807) (hwl : wh.length ≤ 60) :
    Calls Tryz.prog 21 #[.agg (WtC ⟨[], wh, ns⟩ none 0 N nc)] w fun e w' => Frm [] w w' ∧ ∃ (B : Option Addr) (c : Nat), e = .returned (.agg (WtC ⟨[], wh, few21 ns⟩ none 0 B c)) ∧ Own w' 9 1 B (few21 ns).length c (SB (few21 ns)) ∧ ∀ x ∈ ob B, w.heap.size ≤ x := by
  have K := Frm.refl [] w
  refine VC.calls (nt := 54) (res := #[.cell 2 38]) Tryz.func21 rfl Tryz.ntmps21 Tryz.results21 rfl ?_
  refine VC.seq ?_
  refine VC.region ?_
  refine Ops.m (Does.box rfl) rfl ?_
  rintro _ w1 ⟨rfl, hF_w1⟩
  have hb1 : Blk w1 w.heap.size 38 (#[.slice none 0 0, encStr wh, .slice N (List.length (α := Tx) ns) nc]) := hF_w1.blk
  have hs1_K := K.size
  have K := Frm.trans K hF_w1.frm (by simp)
  generalize hg1 : w.heap.size = g1 at hb1 hs1_K ⊢
  refine Ops.m (Does.alloc zero38) rfl ?_
  rintro _ w2 ⟨rfl, hF_w2⟩
  have hb2 := hF_w2.blk
  have hs2_K := K.size
  have lt_hb1_2 := hb1.lt
  have hb1 := hb1.frm hF_w2.frm (by simp)
  have K := Frm.trans K hF_w2.frm (by simp)
  generalize hg2 : w1.heap.size = g2 at hb2 hs2_K lt_hb1_2 ⊢
  obtain ⟨zz, hzz⟩ : ∃ zz : Array Value, Blk w2 g2 38 zz ∧ zz.size = 3 := ⟨_, hb2, rfl⟩
  obtain ⟨hb2, hzs⟩ := hzz
  refine Ops.nil ?_
  refine thenQ_n ?_
  refine VC.sub [(1, _), (2, _)] (.cons rfl (.cons rfl .nil)) ?_
  refine VC.seq ?_
  refine VC.seq ?_
  refine VC.region ?_
  refine Ops.r (Run.fieldAddr rfl Tryz.underlying38 rfl Tryz.sizeOf33 (by decide)) rfl ?_
  refine Ops.r (Run.load rfl Tryz.isAgg33 (hb1.cell 0)) rfl ?_
  refine Ops.r (Run.lenS rfl Tryz.underlying33) rfl ?_
  refine Ops.r (Run.bin rfl rfl (Bin.gtrN _ 10)) rfl ?_
  refine Ops.nil ?_
  refine thenQ_n ?_
  refine VC.sub [(1, _), (2, _), (9, _)] (.cons rfl (.cons rfl (.cons rfl .nil))) ?_
  refine VC.condF rfl (decide_eq_false (by omega)) ?_
  refine VC.skip ?_
  refine thenQ_n ?_
  refine VC.sub [(1, _), (2, _)] (.cons rfl (.cons rfl .nil)) ?_
  refine VC.seq ?_
  refine VC.seq ?_
  refine VC.region ?_
  refine Ops.r (Run.fieldAddr rfl Tryz.underlying38 rfl Tryz.sizeOf36 (by decide)) rfl ?_
  refine Ops.r (Run.load rfl Tryz.isAgg36 (hb1.cell 2)) rfl ?_
  refine Ops.r (Run.lenS rfl Tryz.underlying36) rfl ?_
  refine Ops.r (Run.bin rfl rfl (Bin.gtrN _ 18)) rfl ?_
  refine Ops.nil ?_
  refine thenQ_n ?_
  refine VC.sub [(1, _), (2, _), (17, _)] (.cons rfl (.cons rfl (.cons rfl .nil))) ?_
  refine VC.meet (σ := Option Addr × Nat) (fun s => [(1, .pointer (some ⟨g1, 0, none⟩)), (2, .pointer (some ⟨g2, 0, none⟩))]) (fun s wr => Frm [] w wr ∧ Blk wr g1 38 #[.slice none 0 0, encStr wh, .slice s.1 (List.length (α := Tx) (ns.take 18)) s.2] ∧ Blk wr g2 38 zz ∧ Rd wr 1 s.1 (ns.take 18).length (SB (ns.take 18)) ∧ (ns.take 18).length ≤ s.2) ?_ ?_
  · skip
    refine VC.condD rfl (fun hc2 => ?_) (fun hc2 => ?_)
    · skip
      refine VC.region ?_
      refine Ops.r (Run.fieldAddr rfl Tryz.underlying38 rfl Tryz.sizeOf36 (by decide)) rfl ?_
      refine Ops.r (Run.load rfl Tryz.isAgg36 (hb1.cell 2)) rfl ?_
      refine Ops.r (Run.sliceS 0 18 rfl Tryz.underlying36 Tryz.sizeOf9 evB.none_ (evB.some_ rfl) (by omega) (by omega)) rfl ?_
      refine Ops.r (Run.fieldAddr rfl Tryz.underlying38 rfl Tryz.sizeOf36 (by decide)) rfl ?_
      refine Ops.st (Acts.store rfl rfl Tryz.sizeOf36 hb1 rfl rfl) ?_
      rintro w3 ⟨hb1n, hf3, _⟩
      have hb2 := hb2.frm hf3 (by simp; omega)
      have K := Frm.own K hf3 (fun y hy => by simp at hy; omega)
      refine Ops.nil ?_
      refine thenQ_n ⟨(cutA N nc 0 1, nc - 0), (.cons rfl (.cons rfl .nil)), ?_⟩
      refine ⟨K, ?_, hb2, SB_cut (hn.frm K (by simp)) 18 (by omega) hnc, by simp; omega⟩
      have e : (ns.take 18).length = 18 - 0 := by simp; omega
      rw [e]
      exact hb1n
    · skip
      refine VC.skip ?_
      refine thenQ_n ⟨(N, nc), (.cons rfl (.cons rfl .nil)), ?_⟩
      rw [List.take_of_length_le (by omega)]
      exact ⟨K, hb1, hb2, hn.frm K (by simp), hnc⟩
  · skip
    rintro ⟨N, nc⟩ w4 ⟨K, hb1, hb2, hn, hnc⟩ Γ hΓ
    dsimp only at hb1 hn hnc
    have hl18 : (ns.take 18).length ≤ 18 := by simp; omega
    have hss : ∀ s ∈ ns.take 18, s.length ≤ 9223372036854775807 := fun s hs => hns s (List.mem_of_mem_take hs)
    have hfew : few21 ns = (ns.take 18).map (·.take 60) := rfl
    generalize ns.take 18 = l at *
    refine thenQ_n (VC.sub _ hΓ ?_)
    refine VC.seq ?_
    refine VC.region ?_
    refine Ops.r (Run.asg rfl) rfl ?_
    refine Ops.nil ?_
    refine thenQ_n ?_
    refine VC.seq ?_
    refine VC.seq ?_
    refine VC.region ?_
    refine Ops.r (v := .int .i64 ((0 : Nat) : Int)) (Run.asg rfl) rfl ?_
    refine Ops.nil ?_
    refine thenQ_n ?_
    refine VC.block ?_
    refine VC.loop (σ := Nat × Option Addr × Nat) (fun s => [(1, .pointer (some ⟨g1, 0, none⟩)), (2, .pointer (some ⟨g2, 0, none⟩)), (3, .slice s.2.1 ((l.take s.1).map (·.take 60)).length s.2.2), (4, .int .i64 ((s.1 : Nat) : Int))]) (fun s wr => s.1 ≤ l.length ∧ Frm [] w wr ∧ Blk wr g1 38 #[.slice none 0 0, encStr wh, .slice N (List.length (α := Tx) l) nc] ∧ Blk wr g2 38 zz ∧ Rd wr 1 N l.length (SB l) ∧ Own wr 9 1 s.2.1 ((l.take s.1).map (·.take 60)).length s.2.2 (SB ((l.take s.1).map (·.take 60))) ∧ ∀ x ∈ ob s.2.1, w.heap.size ≤ x ∧ x ∉ ob N) (fun s => l.length - s.1) (0, none, 0) (.cons rfl (.cons rfl (.cons rfl (.cons rfl .nil)))) ⟨by omega, K, hb1, hb2, hn, Own.nil _ _ _, by simp [ob]⟩ ?_
    rintro ⟨k, A2, c2⟩ wr ⟨hk, K, hb1, hb2, hn, hO, hub⟩
    dsimp only at hk hO hub ⊢
    refine VC.seq ?_
    refine VC.seq ?_
    refine VC.region ?_
    refine Ops.r (Run.mv rfl) rfl ?_
    refine Ops.r (Run.fieldAddr rfl Tryz.underlying38 rfl Tryz.sizeOf36 (by decide)) rfl ?_
    refine Ops.r (Run.load rfl Tryz.isAgg36 (hb1.cell 2)) rfl ?_
    refine Ops.r (Run.lenS rfl Tryz.underlying36) rfl ?_
    refine Ops.r (Run.bin rfl rfl (Bin.lssN _ _)) rfl ?_
    refine Ops.nil ?_
    refine thenQ_n ?_
    refine VC.sub [(1, _), (2, _), (3, _), (4, _), (26, _)] (.cons rfl (.cons rfl (.cons rfl (.cons rfl (.cons rfl .nil))))) ?_
    refine VC.condD rfl (fun hc3 => ?_) (fun hc3 => ?_)
    · skip
      obtain ⟨adN, hNe, hcell⟩ := SB_at1 hn hc3
      have hts := take_snoc hc3
      have hsk := hss _ (List.getElem_mem hc3)
      have hk18 : ((l.take k).map (·.take 60)).length ≤ 18 := by simp; omega
      generalize hx : l[k] = x at *
      refine VC.skip ?_
      refine thenQ_n ?_
      refine VC.sub [(1, _), (2, _), (3, _), (4, _)] (.cons rfl (.cons rfl (.cons rfl (.cons rfl .nil)))) ?_
      refine VC.seq ?_
      refine VC.block ?_
      refine VC.seq ?_
      refine VC.region ?_
      refine Ops.r (Run.fieldAddr rfl Tryz.underlying38 rfl Tryz.sizeOf36 (by decide)) rfl ?_
      refine Ops.r (Run.load rfl Tryz.isAgg36 (hb1.cell 2)) rfl ?_
      refine Ops.r (Run.mv rfl) rfl ?_
      refine Ops.r (Run.indexS k (by rw [← hNe]; rfl) rfl Tryz.underlying36 Tryz.sizeOf9 hc3) rfl ?_
      refine Ops.r (Run.load rfl Tryz.isAgg9 hcell) rfl ?_
      refine Ops.r (Run.asg rfl) rfl ?_
      refine Ops.nil ?_
      refine thenQ_n ?_
      refine VC.sub [(1, _), (2, _), (3, _), (4, _), (5, _)] (.cons rfl (.cons rfl (.cons rfl (.cons rfl (.cons rfl .nil))))) ?_
      refine VC.seq ?_
      refine VC.seq ?_
      refine VC.region ?_
      refine Ops.r (Run.mv rfl) rfl ?_
      refine Ops.r (Run.lenT rfl Tryz.underlying9) rfl ?_
      refine Ops.r (Run.bin rfl rfl (Bin.gtrN _ 60)) rfl ?_
      refine Ops.nil ?_
      refine thenQ_n ?_
      refine VC.sub [(1, _), (2, _), (3, _), (4, _), (5, _), (36, _)] (.cons rfl (.cons rfl (.cons rfl (.cons rfl (.cons rfl (.cons rfl .nil)))))) ?_
      refine VC.meet (σ := Unit) (fun s => [(1, .pointer (some ⟨g1, 0, none⟩)), (2, .pointer (some ⟨g2, 0, none⟩)), (3, .slice A2 ((l.take k).map (·.take 60)).length c2), (4, .int .i64 ((k : Nat) : Int)), (5, encStr (x.take 60))]) (fun s wx => wr = wx) ?_ ?_
      · skip
        refine VC.condD rfl (fun hc4 => ?_) (fun hc4 => ?_)
        · skip
          refine VC.region ?_
          refine Ops.r (Run.mv rfl) rfl ?_
          refine Ops.r (Run.sliceT 0 60 rfl Tryz.underlying9 evB.none_ (evB.some_ rfl) (by omega) (by omega)) rfl ?_
          refine Ops.r (Run.asg rfl) rfl ?_
          refine Ops.nil ?_
          refine thenQ_n ⟨(), (.cons rfl (.cons rfl (.cons rfl (.cons rfl (.cons rfl .nil))))), ?_⟩
          rfl
        · skip
          refine VC.skip ?_
          refine thenQ_n ⟨(), (.cons rfl (.cons rfl (.cons rfl (.cons rfl (.cons (by rw [List.take_of_length_le (show x.length ≤ 60 by omega)]; rfl) .nil))))), ?_⟩
          rfl
      · skip
        rintro _ _ rfl Γ hΓ
        refine thenQ_n (VC.sub _ hΓ ?_)
        refine VC.region ?_
        refine Ops.r (Run.mv rfl) rfl ?_
        refine Ops.r (Run.mv rfl) rfl ?_
        refine Ops.m (Does.buildS1 rfl Tryz.underlying36 Tryz.sizeOf9 zero9 (by decide) (by decide) rfl rfl) rfl ?_
        rintro _ w5 ⟨rfl, hF5⟩
        have hr5 : Rd w5 1 (some ⟨wr.heap.size, 0, none⟩) 1 (SB [x.take 60]) := Rd.of_blk (n := 1) (size := 1) hF5.blk rfl
        have K := K.trans hF5.frm (by simp)
        have hb1 := hb1.frm hF5.frm (by simp)
        have hb2 := hb2.frm hF5.frm (by simp)
        have hN0 := hn
        have hn := hn.frm hF5.frm (by simp)
        have hO := hO.frm hF5.frm (by simp)
        refine Ops.m (Does.app rfl rfl Tryz.underlying36 (info9) rfl (by decide) hO hr5 (by intro u hu; simp only [SB, List.map_cons, List.map_nil, List.mem_singleton] at hu; subst hu; rfl) (by omega) (by omega)) rfl ?_
        rintro _ w6 ⟨A6, c6, rfl, hO6, f6, hob6⟩
        have sK := K.size
        have hb1 := hb1.frm f6 (hO.ne_blk hb1 (by decide))
        have hb2 := hb2.frm f6 (hO.ne_blk hb2 (by decide))
        have hn := hn.frm f6 (fun _ y hy hy2 => (hub y hy2).2 hy)
        have K := Frm.own K f6 (fun y hy => (hub y hy).1)
        have hsn : (l.take (k + 1)).map (·.take 60) = (l.take k).map (·.take 60) ++ [x.take 60] := by rw [hts, List.map_append]; rfl
        have hl42 : ((l.take k).map (·.take 60)).length + 1 = ((l.take (k + 1)).map (·.take 60)).length := by rw [hsn]; simp
        rw [hl42]
        refine Ops.r (Run.asg rfl) rfl ?_
        refine Ops.nil ?_
        refine blockQ_n (thenQ_n ?_)
        refine VC.sub [(1, _), (2, _), (3, _), (4, _)] (.cons rfl (.cons rfl (.cons rfl (.cons rfl .nil)))) ?_
        refine VC.region ?_
        refine Ops.r (Run.mv rfl) rfl ?_
        refine Ops.r (Run.bin rfl rfl (Bin.add_i64 _ 1 (by omega))) rfl ?_
        refine Ops.r (Run.asg rfl) rfl ?_
        refine Ops.nil ?_
        refine thenQ_n ⟨(k + 1, A6, c6), (.cons rfl (.cons rfl (.cons rfl (.cons rfl .nil)))), ?_, ?_⟩
        · skip
          refine ⟨hc3, K, hb1, hb2, hn, ?_, fun y hy => ?_⟩
          · rw [← hl42, hsn]
            rw [← SB_append] at hO6
            exact hO6
          · rcases hob6 with h | h
            · rw [h] at hy; exact hub y hy
            · rw [h] at hy
              simp only [List.mem_singleton] at hy
              subst hy
              refine ⟨sK, fun hy => ?_⟩
              have h2 := hN0.lt (by omega) _ hy
              have h3 := hF5.size
              omega
        · skip
          first | omega | (dsimp only; omega)
    · skip
      have hkl : k = l.length := by omega
      subst hkl
      rw [List.take_length] at hO ⊢
      refine VC.exit ?_
      refine thenQ_x (thenQ_x (blockQ_x ?_))
      refine thenQ_n ?_
      refine VC.sub [(1, _), (2, _), (3, _)] (.cons rfl (.cons rfl (.cons rfl .nil))) ?_
      refine VC.seq ?_
      refine VC.region ?_
      refine Ops.r (Run.mv rfl) rfl ?_
      refine Ops.r (Run.fieldAddr rfl Tryz.underlying38 rfl Tryz.sizeOf36 (by decide)) rfl ?_
      refine Ops.st (Acts.store rfl rfl Tryz.sizeOf36 hb1 rfl rfl) ?_
      rintro w7 ⟨hb1n, hf7, _⟩
      have hO := hO.frm hf7 (fun y hy => by have := hO.ne_blk hb1 (by decide); simp; rintro rfl; exact this hy)
      have hb2 := hb2.frm hf7 (by simp; omega)
      have K := Frm.own K hf7 (fun y hy => by simp at hy; omega)
      have hb1 : Blk w7 g1 38 #[.slice none 0 0, encStr wh, .slice A2 (List.length (α := Tx) (few21 ns)) c2] := by rw [hfew]; exact hb1n
      refine Ops.nil ?_
      refine thenQ_n ?_
      refine VC.sub [(1, _), (2, _)] (.cons rfl (.cons rfl .nil)) ?_
      refine VC.seq ?_
      refine VC.seq ?_
      refine VC.region ?_
      refine Ops.r (Run.fieldAddr rfl Tryz.underlying38 rfl Tryz.sizeOf9 (by decide)) rfl ?_
      refine Ops.r (Run.load rfl Tryz.isAgg9 (hb1.cell 1)) rfl ?_
      refine Ops.r (Run.lenT rfl Tryz.underlying9) rfl ?_
      refine Ops.r (Run.bin rfl rfl (Bin.gtrN _ 60)) rfl ?_
      refine Ops.nil ?_
      refine thenQ_n ?_
      refine VC.sub [(1, _), (2, _), (48, _)] (.cons rfl (.cons rfl (.cons rfl .nil))) ?_
      refine VC.condF rfl (decide_eq_false (by omega)) ?_
      refine VC.skip ?_
      refine thenQ_n ?_
      refine VC.sub [(1, _), (2, _)] (.cons rfl (.cons rfl .nil)) ?_
      refine VC.seq ?_
      refine VC.region ?_
      refine Ops.r (Run.loadA rfl Tryz.isAgg38 Tryz.sizeOf38 (fun j v hj => hb1.cells j v hj) (by first | rfl | (simp; done))) rfl ?_
      refine Ops.st (Acts.storeA rfl rfl Tryz.sizeOf38 hb2 (hzs ▸ rfl) (WtC_one ⟨[], wh, few21 ns⟩ none 0 A2 c2)) ?_
      rintro w8 ⟨hb2n, hf8, _⟩
      have hO := hO.frm hf8 (fun y hy => by have := hO.ne_blk hb2 (by decide); simp; rintro rfl; exact this hy)
      have K := Frm.own K hf8 (fun y hy => by simp at hy; omega)
      refine Ops.nil ?_
      refine thenQ_n ?_
      refine VC.sub [(2, _)] (.cons rfl .nil) ?_
      refine VC.ret ?_
      refine endR ?_
      refine res_cellA rfl Tryz.isAgg38 Tryz.sizeOf38 (fun j v hj => hb2n.cells j v hj) (by first | rfl | (simp; done)) ?_
      refine res_nil ?_
      exact ⟨K, A2, c2, rfl, by rw [hfew]; exact hO, fun x hx => by have := (hub x hx).1; omega⟩

def kindsL : List Tx := [[], hdrT, txtT, mimT, fldT, othT]
theorem mayF_iff {wh : Tx} (hnn : NamedW wh) (ns : List Tx) : MayW ⟨[], wh, ns⟩ ↔ (∀ s ∈ ns, TokQ s) ∧ ns.length ≤ 16 ∧ 0 < ns.length := by
  have hk : KindW ⟨[], wh, ns⟩ := by
    rcases hnn with h | h
    · exact .inr (.inr (.inr (.inl h)))
    · exact .inr (.inr (.inr (.inr (.inl h))))
  constructor
  · rintro ⟨_, h2, _⟩
    have h3 : ¬ (16 < ns.length ∨ ¬ (NamedW wh ↔ 0 < ns.length)) := fun h => h2 (.inl h)
    refine ⟨fun s hs => Classical.byContradiction fun hn => h2 (.inr ⟨s, hs, hn⟩), ?_, ?_⟩
    · have : ¬ 16 < ns.length := fun h => h3 (.inl h)
      omega
    · exact (Classical.not_not.1 fun h => h3 (.inr h)).1 hnn
  · rintro ⟨h1, h2, h3⟩
    refine ⟨by simp, ?_, hk⟩
    rintro ((h | h) | ⟨s, hs, hn⟩)
    · have h : 16 < ns.length := h
      omega
    · exact h ⟨fun _ => h3, fun _ => hnn⟩
    · exact hn (h1 s hs)

set_option maxRecDepth 100000 in
theorem kinds_spec (w : World) : Calls Tryz.prog 85 #[] w fun e w' => Frm [] w w' ∧ ∃ ad : Addr, e = .returned (.slice (some ad) 6 6) ∧ ∀ k v, (SB kindsL)[k]? = some v → w'.cell? (ad.add k) = some v := by
  refine VC.calls (nt := 2) (res := #[.tmp 0]) Tryz.func85 rfl Tryz.ntmps85 Tryz.results85 rfl ?_
  refine VC.seq ?_
  refine VC.region ?_
  refine Ops.r (Run.asg rfl) rfl ?_
  refine Ops.nil ?_
  refine thenQ_n ?_
  refine VC.sub [] .nil ?_
  refine VC.seq ?_
  refine VC.region ?_
  refine Ops.m (Does.buildN (cells := (SB kindsL).toArray) (evs.cons rfl (evs.cons rfl (evs.cons rfl (evs.cons rfl (evs.cons rfl (evs.cons rfl evs.nil)))))) Tryz.underlying36 Tryz.sizeOf9 zero9 rfl rfl (by kernel_rfl)) rfl ?_
  rintro _ w1 ⟨rfl, hF1⟩
  refine Ops.r (Run.asg rfl) rfl ?_
  refine Ops.nil ?_
  refine thenQ_n ?_
  refine VC.sub [(0, _)] (.cons rfl .nil) ?_
  refine VC.ret ?_
  refine end1 rfl ?_
  exact ⟨hF1.frm, _, rfl, fun k v hk => hF1.blk.cells k v hk⟩

set_option maxRecDepth 100000 in
theorem kind5_spec (w : World) : Calls Tryz.prog 48 #[encStr othT] w fun e w' => e = .returned (.int .i64 ((5 : Nat) : Int)) ∧ Frm [] w w' := by
  refine VC.calls (nt := 15) (res := #[.tmp 2]) Tryz.func48 rfl Tryz.ntmps48 Tryz.results48 rfl ?_
  refine VC.seq ?_
  refine VC.region ?_
  refine Ops.r (v := .int .i64 ((0 : Nat) : Int)) (Run.asg rfl) rfl ?_
  refine Ops.nil ?_
  refine thenQ_n ?_
  refine VC.sub [(0, _)] (.cons rfl .nil) ?_
  refine VC.seq ?_
  refine VC.seq ?_
  refine VC.region ?_
  refine Ops.r (v := .int .i64 ((0 : Nat) : Int)) (Run.asg rfl) rfl ?_
  refine Ops.nil ?_
  refine thenQ_n ?_
  refine VC.block ?_
  refine VC.loop (σ := Nat) (fun s => [(0, encStr othT), (3, .int .i64 ((s : Nat) : Int))]) (fun s wr => s ≤ 5 ∧ Frm [] w wr) (fun s => 6 - s) 0 (.cons rfl (.cons rfl .nil)) ⟨by omega, Frm.refl _ _⟩ ?_
  rintro k wr ⟨hk, K⟩
  refine VC.seq ?_
  refine VC.seq ?_
  refine VC.region ?_
  refine Ops.r (Run.mv rfl) rfl ?_
  refine Ops.r (Run.bin rfl rfl (Bin.lssN _ 6)) rfl ?_
  refine Ops.nil ?_
  refine thenQ_n ?_
  refine VC.sub [(0, _), (3, _), (5, _)] (.cons rfl (.cons rfl (.cons rfl .nil))) ?_
  refine VC.condT rfl (decide_eq_true (by omega)) ?_
  refine VC.skip ?_
  refine thenQ_n ?_
  refine VC.sub [(0, _), (3, _)] (.cons rfl (.cons rfl .nil)) ?_
  refine VC.seq ?_
  refine VC.block ?_
  refine VC.seq ?_
  refine VC.region ?_
  refine Ops.r (Run.mv rfl) rfl ?_
  refine Ops.cl (Enters.fn evs.nil Tryz.call85) ((kinds_spec _)) rfl ?_
  rintro e w1 ⟨f1, ad, rfl, hc⟩
  refine ⟨_, rfl, ?_⟩
  have K := K.trans f1 (by simp)
  obtain ⟨x, hx⟩ : ∃ x, kindsL[k]? = some x := ⟨kindsL[k]'(by show k < 6; omega), List.getElem?_eq_getElem _⟩
  have hcell := hc k (encStr x) (by unfold SB; rw [List.getElem?_map, hx]; rfl)
  have hnot : othT = x → k = 5 := fun e => by
    subst e
    rcases (show k = 0 ∨ k = 1 ∨ k = 2 ∨ k = 3 ∨ k = 4 ∨ k = 5 by omega) with rfl | rfl | rfl | rfl | rfl | rfl
    · exact absurd hx (by decide)
    · exact absurd hx (by decide)
    · exact absurd hx (by decide)
    · exact absurd hx (by decide)
    · exact absurd hx (by decide)
    · rfl
  have hyes : k = 5 → othT = x := fun e => by subst e; exact Option.some.inj hx
  refine Ops.r (Run.mv rfl) rfl ?_
  refine Ops.r (Run.indexS k rfl rfl Tryz.underlying36 Tryz.sizeOf9 (by omega)) rfl ?_
  refine Ops.r (Run.load rfl Tryz.isAgg9 (by rw [Nat.mul_one]; exact hcell)) rfl ?_
  refine Ops.r (Run.eqlT rfl rfl) rfl ?_
  refine Ops.nil ?_
  refine thenQ_n ?_
  refine VC.sub [(0, _), (3, _), (13, _)] (.cons rfl (.cons rfl (.cons rfl .nil))) ?_
  refine VC.condD rfl (fun hc2 => ?_) (fun hc2 => ?_)
  · skip
    have hk5 := hnot hc2
    subst hk5
    refine VC.seq ?_
    refine VC.region ?_
    refine Ops.r (Run.mv rfl) rfl ?_
    refine Ops.r (Run.asg rfl) rfl ?_
    refine Ops.nil ?_
    refine thenQ_n ?_
    refine VC.sub [(2, _)] (.cons rfl .nil) ?_
    refine VC.ret ?_
    refine blockQ_r (thenQ_r (thenQ_r (blockQ_r (thenQ_r (end1 rfl ?_)))))
    exact ⟨rfl, K⟩
  · skip
    have hk5 : k ≠ 5 := fun e => hc2 (hyes e)
    refine VC.skip ?_
    refine blockQ_n (thenQ_n ?_)
    refine VC.sub [(0, _), (3, _)] (.cons rfl (.cons rfl .nil)) ?_
    refine VC.region ?_
    refine Ops.r (Run.mv rfl) rfl ?_
    refine Ops.r (Run.bin rfl rfl (Bin.add_i64 _ 1 (by omega))) rfl ?_
    refine Ops.r (Run.asg rfl) rfl ?_
    refine Ops.nil ?_
    refine thenQ_n ⟨(k + 1), (.cons rfl (.cons rfl .nil)), ?_, ?_⟩
    · skip
      exact ⟨by omega, K⟩
    · skip
      first | omega | (dsimp only; omega)

set_option maxRecDepth 100000 in
theorem rmay_spec (ns : List Tx) (B N : Option Addr) (d nc : Nat) (w : World) (hn : Rd w 1 N ns.length (SB ns)) (hnl : ns.length ≤ 1000000) (hns : ∀ s ∈ ns, s.length ≤ 1000000) :
    Calls Tryz.prog 22 #[.agg (WtC ⟨[], othT, ns⟩ B d N nc)] w fun e w' => e = .returned (.bool (decide (MayW ⟨[], othT, ns⟩))) ∧ Frm [] w w' := by
  have K := Frm.refl [] w
  refine VC.calls (nt := 77) (res := #[.tmp 2]) Tryz.func22 rfl Tryz.ntmps22 Tryz.results22 rfl ?_
  refine VC.seq ?_
  refine VC.region ?_
  refine Ops.m (Does.box rfl) rfl ?_
  rintro _ w1 ⟨rfl, hF_w1⟩
  have hb1 : Blk w1 w.heap.size 38 #[.slice B 0 d, encStr othT, .slice N (List.length (α := Tx) ns) nc] := hF_w1.blk
  have hs1_K := K.size
  have K := Frm.trans K hF_w1.frm (by simp)
  generalize hg1 : w.heap.size = g1 at hb1 hs1_K ⊢
  refine Ops.r (Run.asg rfl) rfl ?_
  refine Ops.nil ?_
  refine thenQ_n ?_
  refine VC.sub [(1, _)] (.cons rfl .nil) ?_
  refine VC.seq ?_
  refine VC.region ?_
  refine Ops.r (Run.fieldAddr rfl Tryz.underlying38 rfl Tryz.sizeOf9 (by decide)) rfl ?_
  refine Ops.r (Run.load rfl Tryz.isAgg9 (hb1.cell 1)) rfl ?_
  refine Ops.cl (Enters.fn (evs.cons rfl evs.nil) Tryz.call48) (kind5_spec _) rfl ?_
  rintro e w2 ⟨rfl, hf_w2⟩
  refine ⟨_, rfl, ?_⟩
  have hb1 := hb1.frm hf_w2 (by simp)
  have K := Frm.trans K hf_w2 (by simp)
  refine Ops.r (Run.asg rfl) rfl ?_
  refine Ops.nil ?_
  refine thenQ_n ?_
  refine VC.sub [(1, _), (3, _)] (.cons rfl (.cons rfl .nil)) ?_
  refine VC.seq ?_
  refine VC.seq ?_
  refine VC.region ?_
  refine Ops.r (v := .int .i64 ((0 : Nat) : Int)) (Run.asg rfl) rfl ?_
  refine Ops.nil ?_
  refine thenQ_n ?_
  refine VC.block ?_
  refine VC.loop (σ := Unit) (fun s => [(1, .pointer (some ⟨g1, 0, none⟩)), (3, .int .i64 ((5 : Nat) : Int)), (4, .int .i64 ((0 : Nat) : Int))]) (fun s wr => w2 = wr) (fun s => 0) () (.cons rfl (.cons rfl (.cons rfl .nil))) rfl ?_
  rintro _ _ rfl
  refine VC.seq ?_
  refine VC.seq ?_
  refine VC.region ?_
  refine Ops.r (Run.mv rfl) rfl ?_
  refine Ops.r (Run.fieldAddr rfl Tryz.underlying38 rfl Tryz.sizeOf33 (by decide)) rfl ?_
  refine Ops.r (Run.load rfl Tryz.isAgg33 (hb1.cell 0)) rfl ?_
  refine Ops.r (Run.lenS rfl Tryz.underlying33) rfl ?_
  refine Ops.r (Run.bin rfl rfl (Bin.lssN _ _)) rfl ?_
  refine Ops.nil ?_
  refine thenQ_n ?_
  refine VC.sub [(1, _), (3, _), (4, _), (13, _)] (.cons rfl (.cons rfl (.cons rfl (.cons rfl .nil)))) ?_
  refine VC.condF rfl (decide_eq_false (by simp)) ?_
  refine VC.exit ?_
  refine thenQ_x (thenQ_x (blockQ_x ?_))
  refine thenQ_n ?_
  refine VC.sub [(1, _), (3, _)] (.cons rfl (.cons rfl .nil)) ?_
  refine VC.seq ?_
  refine VC.seq ?_
  refine VC.region ?_
  refine Ops.r (v := .int .i64 ((0 : Nat) : Int)) (Run.asg rfl) rfl ?_
  refine Ops.nil ?_
  refine thenQ_n ?_
  refine VC.block ?_
  refine VC.loop (σ := Nat) (fun s => [(1, .pointer (some ⟨g1, 0, none⟩)), (3, .int .i64 ((5 : Nat) : Int)), (5, .int .i64 ((s : Nat) : Int))]) (fun s wr => s ≤ ns.length ∧ w2 = wr ∧ ∀ x ∈ ns.take s, TokQ x) (fun s => ns.length - s) 0 (.cons rfl (.cons rfl (.cons rfl .nil))) ⟨by omega, rfl, by simp⟩ ?_
  rintro k _ ⟨hk, rfl, hall⟩
  refine VC.seq ?_
  refine VC.seq ?_
  refine VC.region ?_
  refine Ops.r (Run.mv rfl) rfl ?_
  refine Ops.r (Run.fieldAddr rfl Tryz.underlying38 rfl Tryz.sizeOf36 (by decide)) rfl ?_
  refine Ops.r (Run.load rfl Tryz.isAgg36 (hb1.cell 2)) rfl ?_
  refine Ops.r (Run.lenS rfl Tryz.underlying36) rfl ?_
  refine Ops.r (Run.bin rfl rfl (Bin.lssN _ _)) rfl ?_
  refine Ops.nil ?_
  refine thenQ_n ?_
  refine VC.sub [(1, _), (3, _), (5, _), (34, _)] (.cons rfl (.cons rfl (.cons rfl (.cons rfl .nil)))) ?_
  refine VC.condD rfl (fun hc3 => ?_) (fun hc3 => ?_)
  · skip
    obtain ⟨adN, hNe, hcell⟩ := SB_at1 (hn.frm K (by simp)) hc3
    have hts := take_snoc hc3
    have hmem := List.getElem_mem hc3
    generalize hx : ns[k] = x at *
    refine VC.skip ?_
    refine thenQ_n ?_
    refine VC.sub [(1, _), (3, _), (5, _)] (.cons rfl (.cons rfl (.cons rfl .nil))) ?_
    refine VC.seq ?_
    refine VC.block ?_
    refine VC.seq ?_
    refine VC.region ?_
    refine Ops.r (Run.fieldAddr rfl Tryz.underlying38 rfl Tryz.sizeOf36 (by decide)) rfl ?_
    refine Ops.r (Run.load rfl Tryz.isAgg36 (hb1.cell 2)) rfl ?_
    refine Ops.r (Run.mv rfl) rfl ?_
    refine Ops.r (Run.indexS k (by rw [← hNe]; rfl) rfl Tryz.underlying36 Tryz.sizeOf9 hc3) rfl ?_
    refine Ops.r (Run.load rfl Tryz.isAgg9 hcell) rfl ?_
    refine Ops.cl (Enters.fn (evs.cons rfl evs.nil) Tryz.call49) (rtoken_spec x _ (hns x hmem)) rfl ?_
    rintro e _ ⟨rfl, rfl⟩
    refine ⟨_, rfl, ?_⟩
    refine Ops.r (Run.not rfl) rfl ?_
    rw [not_dec]
    refine Ops.nil ?_
    refine thenQ_n ?_
    refine VC.sub [(1, _), (3, _), (5, _), (43, _)] (.cons rfl (.cons rfl (.cons rfl (.cons rfl .nil)))) ?_
    refine VC.condB rfl (fun hc4 => ?_) (fun hc4 => ?_)
    · skip
      refine VC.seq ?_
      refine VC.region ?_
      refine Ops.r (Run.asg rfl) rfl ?_
      refine Ops.nil ?_
      refine thenQ_n ?_
      refine VC.sub [(2, _)] (.cons rfl .nil) ?_
      refine VC.ret ?_
      refine blockQ_r (thenQ_r (thenQ_r (blockQ_r (thenQ_r (end1 rfl ?_)))))
      exact ⟨by rw [decide_eq_false (fun h => of_decide_eq_true hc4 (((mayF_iff (.inr rfl) ns).1 h).1 x hmem))], K⟩
    · skip
      refine VC.skip ?_
      refine blockQ_n (thenQ_n ?_)
      refine VC.sub [(1, _), (3, _), (5, _)] (.cons rfl (.cons rfl (.cons rfl .nil))) ?_
      refine VC.region ?_
      refine Ops.r (Run.mv rfl) rfl ?_
      refine Ops.r (Run.bin rfl rfl (Bin.add_i64 _ 1 (by omega))) rfl ?_
      refine Ops.r (Run.asg rfl) rfl ?_
      refine Ops.nil ?_
      refine thenQ_n ⟨(k + 1), (.cons rfl (.cons rfl (.cons rfl .nil))), ?_, ?_⟩
      · skip
        refine ⟨hc3, rfl, fun y hy => ?_⟩
        rw [hts] at hy
        rcases List.mem_append.1 hy with h | h
        · exact hall y h
        · simp only [List.mem_singleton] at h; subst h; exact Classical.not_not.1 (of_decide_eq_false hc4)
      · skip
        first | omega | (dsimp only; omega)
  · skip
    have hkl : k = ns.length := by omega
    rw [hkl, List.take_length] at hall
    refine VC.exit ?_
    refine thenQ_x (thenQ_x (blockQ_x ?_))
    refine thenQ_n ?_
    refine VC.sub [(1, _), (3, _)] (.cons rfl (.cons rfl .nil)) ?_
    refine VC.seq ?_
    refine VC.split1 [] .nil 2 (.bool (decide (ns.length ≤ 16 ∧ 0 < ns.length))) ?_ ?_
    · refine VC.region ?_
      refine Ops.r (Run.mv rfl) rfl ?_
      refine Ops.r (Run.bin rfl rfl (Bin.geqN _ 0)) rfl ?_
      refine Ops.r (Run.mv rfl) rfl ?_
      refine Ops.rg rfl (by first | rfl | assumption | exact decide_eq_true (by assumption) | exact decide_eq_false (by assumption) | decide | (simp; done) | (simp; omega) | (simp [*]; done)) (Run.fieldAddr rfl Tryz.underlying38 rfl Tryz.sizeOf33 (by decide)) rfl ?_
      refine Ops.rg rfl (by first | rfl | assumption | exact decide_eq_true (by assumption) | exact decide_eq_false (by assumption) | decide | (simp; done) | (simp; omega) | (simp [*]; done)) (Run.load rfl Tryz.isAgg33 (hb1.cell 0)) rfl ?_
      refine Ops.rg rfl (by first | rfl | assumption | exact decide_eq_true (by assumption) | exact decide_eq_false (by assumption) | decide | (simp; done) | (simp; omega) | (simp [*]; done)) (Run.lenS rfl Tryz.underlying33) rfl ?_
      refine Ops.rg rfl (by first | rfl | assumption | exact decide_eq_true (by assumption) | exact decide_eq_false (by assumption) | decide | (simp; done) | (simp; omega) | (simp [*]; done)) (Run.bin rfl rfl (Bin.leqN _ 8)) rfl ?_
      refine Ops.r (Run.pickT rfl rfl (by first | rfl | assumption | exact decide_eq_true (by assumption) | exact decide_eq_false (by assumption) | decide | (simp; done) | (simp; omega) | (simp [*]; done))) rfl ?_
      refine Ops.r (Run.mv rfl) rfl ?_
      refine Ops.rg rfl (by first | rfl | assumption | exact decide_eq_true (by assumption) | exact decide_eq_false (by assumption) | decide | (simp; done) | (simp; omega) | (simp [*]; done)) (Run.fieldAddr rfl Tryz.underlying38 rfl Tryz.sizeOf36 (by decide)) rfl ?_
      refine Ops.rg rfl (by first | rfl | assumption | exact decide_eq_true (by assumption) | exact decide_eq_false (by assumption) | decide | (simp; done) | (simp; omega) | (simp [*]; done)) (Run.load rfl Tryz.isAgg36 (hb1.cell 2)) rfl ?_
      refine Ops.rg rfl (by first | rfl | assumption | exact decide_eq_true (by assumption) | exact decide_eq_false (by assumption) | decide | (simp; done) | (simp; omega) | (simp [*]; done)) (Run.lenS rfl Tryz.underlying36) rfl ?_
      refine Ops.rg rfl (by first | rfl | assumption | exact decide_eq_true (by assumption) | exact decide_eq_false (by assumption) | decide | (simp; done) | (simp; omega) | (simp [*]; done)) (Run.bin rfl rfl (Bin.leqN _ 16)) rfl ?_
      by_cases hs56 : ns.length ≤ 16
      · skip
        refine Ops.r (Run.pickT rfl rfl (by first | rfl | assumption | exact decide_eq_true (by assumption) | exact decide_eq_false (by assumption) | decide | (simp; done) | (simp; omega) | (simp [*]; done))) rfl ?_
        refine Ops.r (Run.mv rfl) rfl ?_
        refine Ops.rg rfl (by first | rfl | assumption | exact decide_eq_true (by assumption) | exact decide_eq_false (by assumption) | decide | (simp; done) | (simp; omega) | (simp [*]; done)) (Run.mv rfl) rfl ?_
        refine Ops.rg rfl (by first | rfl | assumption | exact decide_eq_true (by assumption) | exact decide_eq_false (by assumption) | decide | (simp; done) | (simp; omega) | (simp [*]; done)) (Run.bin rfl rfl (Bin.geqN _ 4)) rfl ?_
        refine Ops.rg rfl (by first | rfl | assumption | exact decide_eq_true (by assumption) | exact decide_eq_false (by assumption) | decide | (simp; done) | (simp; omega) | (simp [*]; done)) (Run.fieldAddr rfl Tryz.underlying38 rfl Tryz.sizeOf36 (by decide)) rfl ?_
        refine Ops.rg rfl (by first | rfl | assumption | exact decide_eq_true (by assumption) | exact decide_eq_false (by assumption) | decide | (simp; done) | (simp; omega) | (simp [*]; done)) (Run.load rfl Tryz.isAgg36 (hb1.cell 2)) rfl ?_
        refine Ops.rg rfl (by first | rfl | assumption | exact decide_eq_true (by assumption) | exact decide_eq_false (by assumption) | decide | (simp; done) | (simp; omega) | (simp [*]; done)) (Run.lenS rfl Tryz.underlying36) rfl ?_
        refine Ops.rg rfl (by first | rfl | assumption | exact decide_eq_true (by assumption) | exact decide_eq_false (by assumption) | decide | (simp; done) | (simp; omega) | (simp [*]; done)) (Run.bin rfl rfl (Bin.gtrN _ 0)) rfl ?_
        by_cases hs64 : 0 < ns.length
        · skip
          refine Ops.rg rfl (by first | rfl | assumption | exact decide_eq_true (by assumption) | exact decide_eq_false (by assumption) | decide | (simp; done) | (simp; omega) | (simp [*]; done)) (Run.eqlB rfl rfl Tryz.underlying4) rfl ?_
          refine Ops.r (Run.pickT rfl rfl (by first | rfl | assumption | exact decide_eq_true (by assumption) | exact decide_eq_false (by assumption) | decide | (simp; done) | (simp; omega) | (simp [*]; done))) rfl ?_
          refine Ops.r (Run.mv rfl) rfl ?_
          refine Ops.rg rfl (by first | rfl | assumption | exact decide_eq_true (by assumption) | exact decide_eq_false (by assumption) | decide | (simp; done) | (simp; omega) | (simp [*]; done)) (Run.mv rfl) rfl ?_
          refine Ops.rg rfl (by first | rfl | assumption | exact decide_eq_true (by assumption) | exact decide_eq_false (by assumption) | decide | (simp; done) | (simp; omega) | (simp [*]; done)) (Run.bin rfl rfl (Bin.neqN _ 3)) rfl ?_
          refine Ops.rg rfl (by first | rfl | assumption | exact decide_eq_true (by assumption) | exact decide_eq_false (by assumption) | decide | (simp; done) | (simp; omega) | (simp [*]; done)) (Run.mv rfl) rfl ?_
          refine Ops.sk rfl (by first | rfl | assumption | exact decide_eq_true (by assumption) | exact decide_eq_false (by assumption) | decide | (simp; done) | (simp; omega) | (simp [*]; done)) rfl ?_
          refine Ops.sk rfl (by first | rfl | assumption | exact decide_eq_true (by assumption) | exact decide_eq_false (by assumption) | decide | (simp; done) | (simp; omega) | (simp [*]; done)) rfl ?_
          refine Ops.sk rfl (by first | rfl | assumption | exact decide_eq_true (by assumption) | exact decide_eq_false (by assumption) | decide | (simp; done) | (simp; omega) | (simp [*]; done)) rfl ?_
          refine Ops.sk rfl (by first | rfl | assumption | exact decide_eq_true (by assumption) | exact decide_eq_false (by assumption) | decide | (simp; done) | (simp; omega) | (simp [*]; done)) rfl ?_
          refine Ops.rg rfl (by first | rfl | assumption | exact decide_eq_true (by assumption) | exact decide_eq_false (by assumption) | decide | (simp; done) | (simp; omega) | (simp [*]; done)) (Run.pickT rfl rfl (by first | rfl | assumption | exact decide_eq_true (by assumption) | exact decide_eq_false (by assumption) | decide | (simp; done) | (simp; omega) | (simp [*]; done))) rfl ?_
          refine Ops.r (Run.pickT rfl rfl (by first | rfl | assumption | exact decide_eq_true (by assumption) | exact decide_eq_false (by assumption) | decide | (simp; done) | (simp; omega) | (simp [*]; done))) rfl ?_
          refine Ops.r (Run.asg rfl) rfl ?_
          refine Ops.nil ?_
          refine thenQ_n ⟨(.cons (congrArg (fun b => some (Value.bool b)) (by simp [*])) .nil), rfl⟩
        · skip
          refine Ops.rg rfl (by first | rfl | assumption | exact decide_eq_true (by assumption) | exact decide_eq_false (by assumption) | decide | (simp; done) | (simp; omega) | (simp [*]; done)) (Run.eqlB rfl rfl Tryz.underlying4) rfl ?_
          refine Ops.r (Run.pickT rfl rfl (by first | rfl | assumption | exact decide_eq_true (by assumption) | exact decide_eq_false (by assumption) | decide | (simp; done) | (simp; omega) | (simp [*]; done))) rfl ?_
          refine Ops.r (Run.mv rfl) rfl ?_
          refine Ops.sk rfl (by first | rfl | assumption | exact decide_eq_true (by assumption) | exact decide_eq_false (by assumption) | decide | (simp; done) | (simp; omega) | (simp [*]; done)) rfl ?_
          refine Ops.sk rfl (by first | rfl | assumption | exact decide_eq_true (by assumption) | exact decide_eq_false (by assumption) | decide | (simp; done) | (simp; omega) | (simp [*]; done)) rfl ?_
          refine Ops.sk rfl (by first | rfl | assumption | exact decide_eq_true (by assumption) | exact decide_eq_false (by assumption) | decide | (simp; done) | (simp; omega) | (simp [*]; done)) rfl ?_
          refine Ops.skU rfl rfl ?_
          refine Ops.skU rfl rfl ?_
          refine Ops.skU rfl rfl ?_
          refine Ops.skU rfl rfl ?_
          refine Ops.sk rfl (by first | rfl | assumption | exact decide_eq_true (by assumption) | exact decide_eq_false (by assumption) | decide | (simp; done) | (simp; omega) | (simp [*]; done)) rfl ?_
          refine Ops.r (Run.pickF rfl rfl (by first | rfl | assumption | exact decide_eq_true (by assumption) | exact decide_eq_false (by assumption) | decide | (simp; done) | (simp; omega) | (simp [*]; done))) rfl ?_
          refine Ops.r (Run.asg rfl) rfl ?_
          refine Ops.nil ?_
          refine thenQ_n ⟨(.cons (congrArg (fun b => some (Value.bool b)) (by simp [*])) .nil), rfl⟩
      · skip
        refine Ops.r (Run.pickT rfl rfl (by first | rfl | assumption | exact decide_eq_true (by assumption) | exact decide_eq_false (by assumption) | decide | (simp; done) | (simp; omega) | (simp [*]; done))) rfl ?_
        refine Ops.r (Run.mv rfl) rfl ?_
        refine Ops.sk rfl (by first | rfl | assumption | exact decide_eq_true (by assumption) | exact decide_eq_false (by assumption) | decide | (simp; done) | (simp; omega) | (simp [*]; done)) rfl ?_
        refine Ops.sk rfl (by first | rfl | assumption | exact decide_eq_true (by assumption) | exact decide_eq_false (by assumption) | decide | (simp; done) | (simp; omega) | (simp [*]; done)) rfl ?_
        refine Ops.sk rfl (by first | rfl | assumption | exact decide_eq_true (by assumption) | exact decide_eq_false (by assumption) | decide | (simp; done) | (simp; omega) | (simp [*]; done)) rfl ?_
        refine Ops.sk rfl (by first | rfl | assumption | exact decide_eq_true (by assumption) | exact decide_eq_false (by assumption) | decide | (simp; done) | (simp; omega) | (simp [*]; done)) rfl ?_
        refine Ops.sk rfl (by first | rfl | assumption | exact decide_eq_true (by assumption) | exact decide_eq_false (by assumption) | decide | (simp; done) | (simp; omega) | (simp [*]; done)) rfl ?_
        refine Ops.sk rfl (by first | rfl | assumption | exact decide_eq_true (by assumption) | exact decide_eq_false (by assumption) | decide | (simp; done) | (simp; omega) | (simp [*]; done)) rfl ?_
        refine Ops.sk rfl (by first | rfl | assumption | exact decide_eq_true (by assumption) | exact decide_eq_false (by assumption) | decide | (simp; done) | (simp; omega) | (simp [*]; done)) rfl ?_
        refine Ops.r (Run.pickF rfl rfl (by first | rfl | assumption | exact decide_eq_true (by assumption) | exact decide_eq_false (by assumption) | decide | (simp; done) | (simp; omega) | (simp [*]; done))) rfl ?_
        refine Ops.r (Run.mv rfl) rfl ?_
        refine Ops.sk rfl (by first | rfl | assumption | exact decide_eq_true (by assumption) | exact decide_eq_false (by assumption) | decide | (simp; done) | (simp; omega) | (simp [*]; done)) rfl ?_
        refine Ops.sk rfl (by first | rfl | assumption | exact decide_eq_true (by assumption) | exact decide_eq_false (by assumption) | decide | (simp; done) | (simp; omega) | (simp [*]; done)) rfl ?_
        refine Ops.sk rfl (by first | rfl | assumption | exact decide_eq_true (by assumption) | exact decide_eq_false (by assumption) | decide | (simp; done) | (simp; omega) | (simp [*]; done)) rfl ?_
        refine Ops.skU rfl rfl ?_
        refine Ops.skU rfl rfl ?_
        refine Ops.skU rfl rfl ?_
        refine Ops.skU rfl rfl ?_
        refine Ops.sk rfl (by first | rfl | assumption | exact decide_eq_true (by assumption) | exact decide_eq_false (by assumption) | decide | (simp; done) | (simp; omega) | (simp [*]; done)) rfl ?_
        refine Ops.r (Run.pickF rfl rfl (by first | rfl | assumption | exact decide_eq_true (by assumption) | exact decide_eq_false (by assumption) | decide | (simp; done) | (simp; omega) | (simp [*]; done))) rfl ?_
        refine Ops.r (Run.asg rfl) rfl ?_
        refine Ops.nil ?_
        refine thenQ_n ⟨(.cons (congrArg (fun b => some (Value.bool b)) (by simp [*])) .nil), rfl⟩
    · intro Γ hΓ
      refine thenQ_n (VC.sub _ hΓ ?_)
      refine VC.ret ?_
      refine end1 rfl ?_
      exact ⟨by rw [decide_eq_decide.2 (show (ns.length ≤ 16 ∧ 0 < ns.length) ↔ MayW ⟨[], othT, ns⟩ from ⟨fun h => (mayF_iff (.inr rfl) ns).2 ⟨hall, h⟩, fun h => ((mayF_iff (.inr rfl) ns).1 h).2⟩)], K⟩

end Go.Proofs.YtenbjndldenkfaaGreatDoor

