/-
  The cost of lengths, what the laws of layer 10 use, and the chapter's examples.
-/
import Derived.Test.YtebaojedpnnliaaLimT
namespace Go.Proofs.Ytebaojedpnnliaa
open Go.RowKit

theorem coins_unique {cs : List Nat} {a b : List (Nat × List Nat)} (ha : IsCoins cs a) (hb : IsCoins cs b) : a = b := by
  have hp : a.Perm b := ha.1.trans hb.1.symm
  have : ∀ (a b : List (Nat × List Nat)), a.Perm b → a.Pairwise (fun a b => keyA a < keyA b) → b.Pairwise (fun a b => keyA a < keyA b) → a = b := by
    intro a
    induction a with
    | nil => intro b h _ _; exact (List.Perm.nil_eq h)
    | cons x r ih =>
      intro b h h1 h2
      cases b with
      | nil => exact absurd h.length_eq (by simp)
      | cons y t =>
        have hxy : x = y := by
          rcases List.mem_cons.1 (h.mem_iff.1 (List.mem_cons_self : x ∈ x :: r)) with h3 | h3
          · exact h3
          · rcases List.mem_cons.1 (h.symm.mem_iff.1 (List.mem_cons_self : y ∈ y :: t)) with h4 | h4
            · exact h4.symm
            · have h5 := (List.pairwise_cons.1 h1).1 _ h4
              have h6 := (List.pairwise_cons.1 h2).1 _ h3
              omega
        subst hxy
        rw [ih t (List.Perm.cons_inv h) (List.pairwise_cons.1 h1).2 (List.pairwise_cons.1 h2).2]
  exact this a b hp ha.2 hb.2
theorem ex1 : IsCoins [5, 1, 1] [(1, [1]), (1, [2]), (5, [0])] := by unfold IsCoins; exact ⟨by decide +kernel, by decide +kernel⟩
theorem ex1b : lenP 3 15 [(1, [1]), (1, [2]), (5, [0])] = [1, 2, 2] := by decide +kernel
theorem ex2 : IsCoins [8, 4, 2, 1] [(1, [3]), (2, [2]), (4, [1]), (8, [0])] := by unfold IsCoins; exact ⟨by decide +kernel, by decide +kernel⟩
theorem ex2b : lenP 4 2 [(1, [3]), (2, [2]), (4, [1]), (8, [0])] = [2, 2, 2, 2] := by decide +kernel
theorem ex3 : IsCoins [0, 3] [(3, [1])] := by unfold IsCoins; exact ⟨by decide +kernel, by decide +kernel⟩
theorem ex3b : lenP 2 15 [(3, [1])] = [0, 1] := by decide +kernel
/-- What the document adds up. -/
def dotT (a b : List Int) : Nat → Int
  | 0 => 0
  | i + 1 => dotT a b i + a.getD i 0 * b.getD i 0
def okC (a b : List Int) (i : Nat) : Prop := (mayB a ∧ a.length = b.length) ∧ ∀ x ∈ b.take i, 0 ≤ x ∧ x ≤ 15
instance (a b : List Int) (i : Nat) : Decidable (okC a b i) := by unfold okC; infer_instance
theorem mul_bound {x y A B : Int} (hx : 0 ≤ x) (hx2 : x ≤ A) (hy : 0 ≤ y) (hy2 : y ≤ B) : 0 ≤ x * y ∧ x * y ≤ A * B :=
  ⟨Int.mul_nonneg hx hy, Int.mul_le_mul hx2 hy2 hy (Int.le_trans hx hx2)⟩
theorem getD_eq (l : List Int) (i : Nat) (h : i < l.length) : l.getD i 0 = l[i] := by simp [List.getD, List.getElem?_eq_getElem h]
theorem take_okC (b : List Int) (i : Nat) (h : i < b.length) : (∀ x ∈ b.take (i + 1), 0 ≤ x ∧ x ≤ 15) ↔ (∀ x ∈ b.take i, 0 ≤ x ∧ x ≤ 15) ∧ 0 ≤ b[i] ∧ b[i] ≤ 15 := by
  rw [List.take_add_one, List.getElem?_eq_getElem h]
  simp only [Option.toList_some, List.mem_append, List.mem_singleton]
  constructor
  · intro h2
    exact ⟨fun x hx => h2 x (.inl hx), h2 _ (.inr rfl)⟩
  · rintro ⟨h2, h3⟩ x (h4 | rfl)
    · exact h2 x h4
    · exact h3
theorem okC_succ (a b : List Int) (i : Nat) (h : i < b.length) : okC a b (i + 1) ↔ okC a b i ∧ 0 ≤ b[i] ∧ b[i] ≤ 15 := by
  unfold okC
  rw [take_okC b i h]
  simp only [and_assoc]
theorem dotT_bound (a b : List Int) : ∀ i, okC a b i → i ≤ b.length → 0 ≤ dotT a b i ∧ dotT a b i ≤ (i : Int) * 32212254705
  | 0, _, _ => by simp [dotT]
  | i + 1, h, hi => by
    have h2 := (okC_succ a b i (by omega)).1 h
    obtain ⟨h3, h4⟩ := dotT_bound a b i h2.1 (by omega)
    have hal : i < a.length := by have := h.1.2; omega
    have h5 := h.1.1.2 a[i] (List.getElem_mem _)
    have h6 := mul_bound h5.1 h5.2 h2.2.1 h2.2.2
    rw [dotT, getD_eq a i hal, getD_eq b i (by omega)]
    omega

set_option maxRecDepth 100000 in
theorem cost_spec (A B : Option Addr) (c d : Nat) (a b : List Int) (w : World) (hla : a.length ≤ 1000000) (hlb : b.length ≤ 1000000) (ha : Rd w 1 A a.length (IB a)) (hb : Rd w 1 B b.length (IB b)) :
    Calls Try.prog 48 #[.slice A a.length c, .slice B b.length d] w fun e w' => w = w' ∧ e = .returned (if okC a b b.length then .tuple #[.int .i64 (dotT a b b.length), .int .i64 ((0 : Nat) : Int)] else .tuple #[.int .i64 ((0 : Nat) : Int), .int .i64 ((1 : Nat) : Int)]) := by
  refine VC.calls (nt := 42) (res := #[.tmp 4, .tmp 5]) Try.func48 rfl Try.ntmps48 Try.results48 rfl ?_
  refine VC.seq ?_
  refine VC.region ?_
  refine Ops.r (v := .int .i64 ((0 : Nat) : Int)) (Run.asg rfl) rfl ?_
  refine Ops.r (v := .int .i64 ((0 : Nat) : Int)) (Run.asg rfl) rfl ?_
  refine Ops.nil ?_
  refine thenQ_n ?_
  refine VC.sub [(0, _), (1, _)] (.cons rfl (.cons rfl .nil)) ?_
  refine VC.seq ?_
  refine VC.seq ?_
  refine VC.split1 [(0, _), (1, _)] (.cons rfl (.cons rfl .nil)) 18 (.bool (decide (¬ (mayB a ∧ a.length = b.length)))) ?_ ?_
  · refine VC.region ?_
    refine Ops.r (Run.mv rfl) rfl ?_
    refine Ops.cl (Enters.fn (evs.cons rfl evs.nil) Try.call57) (may_spec A c a _ (by omega) ha) rfl ?_
    rintro e _ ⟨rfl, rfl⟩
    refine ⟨_, rfl, ?_⟩
    by_cases hs10 : mayB a
    · skip
      refine Ops.r (Run.not rfl) rfl ?_
      refine Ops.r (Run.mv rfl) rfl ?_
      refine Ops.rg rfl (by first | rfl | assumption | decide | (simp; done) | (simp; omega) | (simp [*]; done)) (Run.mv rfl) rfl ?_
      refine Ops.rg rfl (by first | rfl | assumption | decide | (simp; done) | (simp; omega) | (simp [*]; done)) (Run.lenS rfl Try.underlying54) rfl ?_
      refine Ops.rg rfl (by first | rfl | assumption | decide | (simp; done) | (simp; omega) | (simp [*]; done)) (Run.mv rfl) rfl ?_
      refine Ops.rg rfl (by first | rfl | assumption | decide | (simp; done) | (simp; omega) | (simp [*]; done)) (Run.lenS rfl Try.underlying54) rfl ?_
      refine Ops.rg rfl (by first | rfl | assumption | decide | (simp; done) | (simp; omega) | (simp [*]; done)) (Run.bin rfl rfl (Bin.neqN _ _)) rfl ?_
      by_cases hs17 : a.length ≠ b.length
      · skip
        refine Ops.r (Run.pickF rfl rfl (by first | rfl | assumption | decide | (simp; done) | (simp; omega) | (simp [*]; done))) rfl ?_
        refine Ops.nil ?_
        refine thenQ_n ⟨(.cons (congrArg (fun b => some (Value.bool b)) (by simp [*])) (.cons rfl (.cons rfl .nil))), rfl⟩
      · skip
        refine Ops.r (Run.pickF rfl rfl (by first | rfl | assumption | decide | (simp; done) | (simp; omega) | (simp [*]; done))) rfl ?_
        refine Ops.nil ?_
        refine thenQ_n ⟨(.cons (congrArg (fun b => some (Value.bool b)) (by simp [*])) (.cons rfl (.cons rfl .nil))), rfl⟩
    · skip
      refine Ops.r (Run.not rfl) rfl ?_
      refine Ops.r (Run.mv rfl) rfl ?_
      refine Ops.sk rfl (by first | rfl | assumption | decide | (simp; done) | (simp; omega) | (simp [*]; done)) rfl ?_
      refine Ops.sk rfl (by first | rfl | assumption | decide | (simp; done) | (simp; omega) | (simp [*]; done)) rfl ?_
      refine Ops.sk rfl (by first | rfl | assumption | decide | (simp; done) | (simp; omega) | (simp [*]; done)) rfl ?_
      refine Ops.sk rfl (by first | rfl | assumption | decide | (simp; done) | (simp; omega) | (simp [*]; done)) rfl ?_
      refine Ops.sk rfl (by first | rfl | assumption | decide | (simp; done) | (simp; omega) | (simp [*]; done)) rfl ?_
      refine Ops.r (Run.pickT rfl rfl (by first | rfl | assumption | decide | (simp; done) | (simp; omega) | (simp [*]; done))) rfl ?_
      refine Ops.nil ?_
      refine thenQ_n ⟨(.cons (congrArg (fun b => some (Value.bool b)) (by simp [*])) (.cons rfl (.cons rfl .nil))), rfl⟩
  · intro Γ hΓ
    refine thenQ_n (VC.sub _ hΓ ?_)
    refine VC.condD rfl (fun hc1 => ?_) (fun hc1 => ?_)
    · skip
      refine VC.seq ?_
      refine VC.region ?_
      refine Ops.r (v := .int .i64 ((0 : Nat) : Int)) (Run.asg rfl) rfl ?_
      refine Ops.r (v := .int .i64 ((1 : Nat) : Int)) (Run.asg rfl) rfl ?_
      refine Ops.nil ?_
      refine thenQ_n ?_
      refine VC.sub [(4, _), (5, _)] (.cons rfl (.cons rfl .nil)) ?_
      refine VC.ret ?_
      refine thenQ_r (end2 rfl rfl ?_)
      exact ⟨rfl, by rw [if_neg (fun h => hc1 h.1)]⟩
    · skip
      have hc1 := Classical.not_not.1 hc1
      refine VC.skip ?_
      refine thenQ_n ?_
      refine VC.sub [(0, _), (1, _)] (.cons rfl (.cons rfl .nil)) ?_
      refine VC.seq ?_
      refine VC.region ?_
      refine Ops.r (v := .int .i64 ((0 : Nat) : Int)) (Run.asg rfl) rfl ?_
      refine Ops.nil ?_
      refine thenQ_n ?_
      refine VC.seq ?_
      refine VC.seq ?_
      refine VC.region ?_
      refine Ops.r (Run.mv rfl) rfl ?_
      refine Ops.r (Run.lenS rfl Try.underlying54) rfl ?_
      refine Ops.r (v := .int .i64 ((0 : Nat) : Int)) (Run.mv rfl) rfl ?_
      refine Ops.nil ?_
      refine thenQ_n ?_
      refine VC.sub [(0, _), (6, _), (19, _), (20, _), (21, _)] (.cons rfl (.cons rfl (.cons rfl (.cons rfl (.cons rfl .nil))))) ?_
      refine VC.block ?_
      refine VC.loop (σ := Nat) (fun s => [(0, .slice A a.length c), (6, .int .i64 (dotT a b s)), (19, .slice B b.length d), (20, .int .i64 ((b.length : Nat) : Int)), (21, .int .i64 ((s : Nat) : Int))]) (fun s wr => s ≤ b.length ∧ okC a b s ∧ w = wr) (fun s => b.length - s) 0 (.cons rfl (.cons rfl (.cons rfl (.cons rfl (.cons rfl .nil))))) ⟨by omega, ⟨hc1, by simp⟩, rfl⟩ ?_
      rintro i _ ⟨hi, hok, rfl⟩
      have hdb := dotT_bound a b i hok hi
      refine VC.seq ?_
      refine VC.region ?_
      refine Ops.r (Run.bin rfl rfl (Bin.lssN _ _)) rfl ?_
      refine Ops.nil ?_
      refine thenQ_n ?_
      refine VC.seq ?_
      refine VC.condD rfl (fun hc2 => ?_) (fun hc2 => ?_)
      · skip
        obtain ⟨ad, rfl, hcell⟩ := IB_at hb hc2
        have hia : i < a.length := by omega
        obtain ⟨ad2, rfl, hcell2⟩ := IB_at ha hia
        have hai := hc1.1.2 a[i] (List.getElem_mem _)
        have hoi := okC_succ a b i hc2
        have hdt : dotT a b (i + 1) = dotT a b i + a[i] * b[i] := by rw [dotT, getD_eq a i hia, getD_eq b i hc2]
        generalize hx : b[i] = x at *
        generalize a[i] = y at *
        refine VC.skip ?_
        refine thenQ_n ?_
        refine VC.sub [(0, _), (6, _), (19, _), (20, _), (21, _)] (.cons rfl (.cons rfl (.cons rfl (.cons rfl (.cons rfl .nil))))) ?_
        refine VC.seq ?_
        refine VC.block ?_
        refine VC.seq ?_
        refine VC.region ?_
        refine Ops.r (Run.mv rfl) rfl ?_
        refine Ops.r (Run.index1 _ rfl rfl Try.underlying54 Try.sizeOf3 (by omega)) rfl ?_
        refine Ops.r (Run.load rfl Try.isAgg3 hcell) rfl ?_
        refine Ops.r (Run.asg rfl) rfl ?_
        refine Ops.r (Run.asg rfl) rfl ?_
        refine Ops.nil ?_
        refine thenQ_n ?_
        refine VC.sub [(0, _), (6, _), (7, _), (8, _), (19, _), (20, _), (21, _)] (.cons rfl (.cons rfl (.cons rfl (.cons rfl (.cons rfl (.cons rfl (.cons rfl .nil))))))) ?_
        refine VC.seq ?_
        refine VC.seq ?_
        refine VC.split1 [(0, _), (6, _), (7, _), (8, _), (19, _), (20, _), (21, _)] (.cons rfl (.cons rfl (.cons rfl (.cons rfl (.cons rfl (.cons rfl (.cons rfl .nil))))))) 31 (.bool (decide (x < 0 ∨ 15 < x))) ?_ ?_
        · by_cases hs0 : x < 0
          · skip
            refine VC.region ?_
            refine Ops.r (Run.mv rfl) rfl ?_
            refine Ops.r (Run.bin rfl rfl (Bin.lss _ 0)) rfl ?_
            refine Ops.r (Run.mv rfl) rfl ?_
            refine Ops.sk rfl (by first | rfl | assumption | decide | (simp; done) | (simp; omega) | (simp [*]; done)) rfl ?_
            refine Ops.sk rfl (by first | rfl | assumption | decide | (simp; done) | (simp; omega) | (simp [*]; done)) rfl ?_
            refine Ops.r (Run.pickT rfl rfl (by first | rfl | assumption | decide | (simp; done) | (simp; omega) | (simp [*]; done))) rfl ?_
            refine Ops.nil ?_
            refine thenQ_n ⟨(.cons (by rw [dor1 hs0]; rfl) (.cons rfl (.cons rfl (.cons rfl (.cons rfl (.cons rfl (.cons rfl (.cons rfl .nil)))))))), rfl⟩
          · skip
            refine VC.region ?_
            refine Ops.r (Run.mv rfl) rfl ?_
            refine Ops.r (Run.bin rfl rfl (Bin.lss _ 0)) rfl ?_
            refine Ops.r (Run.mv rfl) rfl ?_
            refine Ops.rg rfl (by first | rfl | assumption | decide | (simp; done) | (simp; omega) | (simp [*]; done)) (Run.mv rfl) rfl ?_
            refine Ops.rg rfl (by first | rfl | assumption | decide | (simp; done) | (simp; omega) | (simp [*]; done)) (Run.bin rfl rfl (Bin.gtr _ 15)) rfl ?_
            refine Ops.r (Run.pickF rfl rfl (by first | rfl | assumption | decide | (simp; done) | (simp; omega) | (simp [*]; done))) rfl ?_
            refine Ops.nil ?_
            refine thenQ_n ⟨(.cons (by rw [dor0 hs0]; rfl) (.cons rfl (.cons rfl (.cons rfl (.cons rfl (.cons rfl (.cons rfl (.cons rfl .nil)))))))), rfl⟩
        · intro Γ hΓ
          refine thenQ_n (VC.sub _ hΓ ?_)
          refine VC.condD rfl (fun hc3 => ?_) (fun hc3 => ?_)
          · skip
            have hno : ¬ okC a b b.length := fun h => by
              have := h.2 x (by rw [← hx, List.take_length]; exact List.getElem_mem _)
              omega
            refine VC.seq ?_
            refine VC.region ?_
            refine Ops.r (v := .int .i64 ((0 : Nat) : Int)) (Run.asg rfl) rfl ?_
            refine Ops.r (v := .int .i64 ((1 : Nat) : Int)) (Run.asg rfl) rfl ?_
            refine Ops.nil ?_
            refine thenQ_n ?_
            refine VC.sub [(4, _), (5, _)] (.cons rfl (.cons rfl .nil)) ?_
            refine VC.ret ?_
            refine thenQ_r (blockQ_r (thenQ_r (thenQ_r (blockQ_r (thenQ_r (end2 rfl rfl ?_))))))
            exact ⟨rfl, by rw [if_neg hno]⟩
          · skip
            have hmb := mul_bound hai.1 hai.2 (show 0 ≤ x by omega) (show x ≤ 15 by omega)
            refine VC.skip ?_
            refine thenQ_n ?_
            refine VC.sub [(0, _), (6, _), (7, _), (8, _), (19, _), (20, _), (21, _)] (.cons rfl (.cons rfl (.cons rfl (.cons rfl (.cons rfl (.cons rfl (.cons rfl .nil))))))) ?_
            refine VC.region ?_
            refine Ops.r (Run.mv rfl) rfl ?_
            refine Ops.r (Run.mv rfl) rfl ?_
            refine Ops.r (Run.mv rfl) rfl ?_
            refine Ops.r (Run.index1 _ rfl rfl Try.underlying54 Try.sizeOf3 (by omega)) rfl ?_
            refine Ops.r (Run.load rfl Try.isAgg3 hcell2) rfl ?_
            refine Ops.r (Run.mv rfl) rfl ?_
            refine Ops.r (Run.bin rfl rfl (Bin.mulZ _ _ (by omega) (by omega))) rfl ?_
            refine Ops.r (Run.bin rfl rfl (Bin.addZ _ _ (by omega) (by omega))) rfl ?_
            refine Ops.r (Run.asg rfl) rfl ?_
            refine Ops.nil ?_
            refine blockQ_n (thenQ_n ?_)
            refine VC.sub [(0, _), (6, _), (19, _), (20, _), (21, _)] (.cons rfl (.cons rfl (.cons rfl (.cons rfl (.cons rfl .nil))))) ?_
            refine VC.region ?_
            refine Ops.r (Run.bin rfl rfl (Bin.add_i64 _ 1 (by omega))) rfl ?_
            refine Ops.r (Run.mv rfl) rfl ?_
            refine Ops.nil ?_
            refine thenQ_n ⟨(i + 1), (.cons rfl (.cons (by rw [hdt]; rfl) (.cons rfl (.cons rfl (.cons rfl .nil))))), ?_, ?_⟩
            · skip
              exact ⟨hc2, hoi.2 ⟨hok, by omega, by omega⟩, rfl⟩
            · skip
              first | omega | (dsimp only; omega)
      · skip
        have hil : i = b.length := by omega
        subst hil
        refine VC.exit ?_
        refine thenQ_x (thenQ_x (blockQ_x ?_))
        refine thenQ_n ?_
        refine VC.sub [(6, _)] (.cons rfl .nil) ?_
        refine VC.seq ?_
        refine VC.region ?_
        refine Ops.r (Run.mv rfl) rfl ?_
        refine Ops.r (Run.asg rfl) rfl ?_
        refine Ops.r (v := .int .i64 ((0 : Nat) : Int)) (Run.asg rfl) rfl ?_
        refine Ops.nil ?_
        refine thenQ_n ?_
        refine VC.sub [(4, _), (5, _)] (.cons rfl (.cons rfl .nil)) ?_
        refine VC.ret ?_
        refine end2 rfl rfl ?_
        exact ⟨rfl, by rw [if_pos hok]⟩

def fewL (l : List Int) : List Int := if 60 < (l.take 322).length ∧ (l.take 322).length ≤ 320 then (l.take 322).take 60 else l.take 322
theorem fewL_len (l : List Int) : (fewL l).length ≤ 322 := by
  unfold fewL
  split <;> simp <;> omega
theorem IB_cut {w : World} {A : Option Addr} {c : Nat} {l : List Int} (h : Rd w 1 A l.length (IB l)) (k : Nat) (hk : k ≤ l.length) (hc : l.length ≤ c) : Rd w 1 (cutA A c 0 1) (l.take k).length (IB (l.take k)) := by
  have e := h.cut (l := 0) (r := k) (cap := c) (by omega) hk hc
  have e1 : (l.take k).length = k - 0 := by simp; omega
  have e2 : IB (l.take k) = ((IB l).drop (0 * 1)).take ((k - 0) * 1) := by simp [IB, List.map_take]
  rw [e1, e2]
  exact e

set_option maxRecDepth 100000 in
theorem few10_spec (A : Option Addr) (c0 : Nat) (l : List Int) (w : World) (hc : l.length ≤ c0) (hr : Rd w 1 A l.length (IB l)) :
    Calls Try.prog 43 #[.slice A l.length c0] w fun e w' => (∃ B c, e = .returned (.slice B (fewL l).length c) ∧ Rd w 1 B (fewL l).length (IB (fewL l)) ∧ (fewL l).length ≤ c) ∧ w = w' := by
  refine VC.calls (nt := 19) (res := #[.tmp 2]) Try.func43 rfl Try.ntmps43 Try.results43 rfl ?_
  refine VC.seq ?_
  refine VC.region ?_
  refine Ops.r (Run.asg rfl) rfl ?_
  refine Ops.nil ?_
  refine thenQ_n ?_
  refine VC.sub [(0, _)] (.cons rfl .nil) ?_
  refine VC.seq ?_
  refine VC.seq ?_
  refine VC.region ?_
  refine Ops.r (Run.mv rfl) rfl ?_
  refine Ops.r (Run.lenS rfl Try.underlying54) rfl ?_
  refine Ops.r (Run.bin rfl rfl (Bin.gtrN _ 322)) rfl ?_
  refine Ops.nil ?_
  refine thenQ_n ?_
  refine VC.sub [(0, _), (5, _)] (.cons rfl (.cons rfl .nil)) ?_
  refine VC.meet (σ := Option Addr × Nat) (fun s => [(0, .slice s.1 (l.take 322).length s.2)]) (fun s wr => Rd w 1 s.1 (l.take 322).length (IB (l.take 322)) ∧ (l.take 322).length ≤ s.2 ∧ w = wr) ?_ ?_
  · skip
    refine VC.condD rfl (fun hc1 => ?_) (fun hc1 => ?_)
    · skip
      refine VC.region ?_
      refine Ops.r (Run.mv rfl) rfl ?_
      refine Ops.r (Run.sliceS 0 322 rfl Try.underlying54 Try.sizeOf3 evB.none_ (evB.some_ rfl) (by omega) (by omega)) rfl ?_
      refine Ops.r (Run.asg rfl) rfl ?_
      refine Ops.nil ?_
      refine thenQ_n ⟨(cutA A c0 0 1, c0 - 0), (.cons (by rw [show (l.take 322).length = 322 - 0 by simp; omega]; rfl) .nil), ?_⟩
      exact ⟨IB_cut hr 322 (by omega) hc, by dsimp only; simp; omega, rfl⟩
    · skip
      refine VC.skip ?_
      refine thenQ_n ⟨(A, c0), (.cons (by rw [List.take_of_length_le (by omega)]; rfl) .nil), ?_⟩
      exact ⟨by rw [List.take_of_length_le (by omega)]; exact hr, by rw [List.take_of_length_le (by omega)]; exact hc, rfl⟩
  · skip
    rintro ⟨B, cb⟩ _ ⟨hrB, hcB, rfl⟩ Γ hΓ
    dsimp only at hrB hcB
    have hfl : fewL l = if 60 < (l.take 322).length ∧ (l.take 322).length ≤ 320 then (l.take 322).take 60 else l.take 322 := rfl
    generalize l.take 322 = k at *
    refine thenQ_n (VC.sub _ hΓ ?_)
    refine VC.seq ?_
    refine VC.seq ?_
    refine VC.split1 [(0, _)] (.cons rfl .nil) 15 (.bool (decide (60 < k.length ∧ k.length ≤ 320))) ?_ ?_
    · by_cases hs0 : 60 < k.length
      · skip
        refine VC.region ?_
        refine Ops.r (Run.mv rfl) rfl ?_
        refine Ops.r (Run.lenS rfl Try.underlying54) rfl ?_
        refine Ops.r (Run.bin rfl rfl (Bin.gtrN _ 60)) rfl ?_
        refine Ops.r (Run.mv rfl) rfl ?_
        refine Ops.rg rfl (by first | rfl | assumption | decide | (simp; done) | (simp; omega) | (simp [*]; done)) (Run.mv rfl) rfl ?_
        refine Ops.rg rfl (by first | rfl | assumption | decide | (simp; done) | (simp; omega) | (simp [*]; done)) (Run.lenS rfl Try.underlying54) rfl ?_
        refine Ops.rg rfl (by first | rfl | assumption | decide | (simp; done) | (simp; omega) | (simp [*]; done)) (Run.bin rfl rfl (Bin.leqN _ 320)) rfl ?_
        refine Ops.r (Run.pickT rfl rfl (by first | rfl | assumption | decide | (simp; done) | (simp; omega) | (simp [*]; done))) rfl ?_
        refine Ops.nil ?_
        refine thenQ_n ⟨(.cons (by rw [dand1 hs0]; rfl) (.cons rfl .nil)), rfl⟩
      · skip
        refine VC.region ?_
        refine Ops.r (Run.mv rfl) rfl ?_
        refine Ops.r (Run.lenS rfl Try.underlying54) rfl ?_
        refine Ops.r (Run.bin rfl rfl (Bin.gtrN _ 60)) rfl ?_
        refine Ops.r (Run.mv rfl) rfl ?_
        refine Ops.sk rfl (by first | rfl | assumption | decide | (simp; done) | (simp; omega) | (simp [*]; done)) rfl ?_
        refine Ops.sk rfl (by first | rfl | assumption | decide | (simp; done) | (simp; omega) | (simp [*]; done)) rfl ?_
        refine Ops.sk rfl (by first | rfl | assumption | decide | (simp; done) | (simp; omega) | (simp [*]; done)) rfl ?_
        refine Ops.r (Run.pickF rfl rfl (by first | rfl | assumption | decide | (simp; done) | (simp; omega) | (simp [*]; done))) rfl ?_
        refine Ops.nil ?_
        refine thenQ_n ⟨(.cons (by rw [dand0 hs0]; rfl) (.cons rfl .nil)), rfl⟩
    · intro Γ hΓ
      refine thenQ_n (VC.sub _ hΓ ?_)
      refine VC.condD rfl (fun hc2 => ?_) (fun hc2 => ?_)
      · skip
        refine VC.region ?_
        refine Ops.r (Run.mv rfl) rfl ?_
        refine Ops.r (Run.sliceS 0 60 rfl Try.underlying54 Try.sizeOf3 evB.none_ (evB.some_ rfl) (by omega) (by omega)) rfl ?_
        refine Ops.r (Run.asg rfl) rfl ?_
        refine Ops.nil ?_
        refine thenQ_n ?_
        refine VC.sub [(0, _)] (.cons rfl .nil) ?_
        refine VC.seq ?_
        refine VC.region ?_
        refine Ops.r (Run.mv rfl) rfl ?_
        refine Ops.r (Run.asg rfl) rfl ?_
        refine Ops.nil ?_
        refine thenQ_n ?_
        refine VC.sub [(2, _)] (.cons rfl .nil) ?_
        refine VC.ret ?_
        refine end1 rfl ?_
        rw [if_pos hc2] at hfl
        rw [hfl]
        refine ⟨⟨cutA B cb 0 1, cb - 0, ?_, IB_cut hrB 60 (by omega) hcB, by simp; omega⟩, rfl⟩
        rw [show (k.take 60).length = 60 - 0 by simp; omega]
      · skip
        refine VC.skip ?_
        refine thenQ_n ?_
        refine VC.sub [(0, _)] (.cons rfl .nil) ?_
        refine VC.seq ?_
        refine VC.region ?_
        refine Ops.r (Run.mv rfl) rfl ?_
        refine Ops.r (Run.asg rfl) rfl ?_
        refine Ops.nil ?_
        refine thenQ_n ?_
        refine VC.sub [(2, _)] (.cons rfl .nil) ?_
        refine VC.ret ?_
        refine end1 rfl ?_
        rw [if_neg hc2] at hfl
        rw [hfl]
        exact ⟨⟨B, cb, rfl, hrB, hcB⟩, rfl⟩

set_option maxRecDepth 100000 in
theorem same10_spec (A B : Option Addr) (c d : Nat) (a b : List Int) (w : World) (hla : a.length ≤ 1000000) (hlb : b.length ≤ 1000000) (ha : Rd w 1 A a.length (IB a)) (hb : Rd w 1 B b.length (IB b)) :
    Calls Try.prog 46 #[.slice A a.length c, .slice B b.length d] w fun e w' => e = .returned (.bool (decide (a = b))) ∧ Drawn w w' := by
  refine VC.calls (nt := 26) (res := #[.tmp 4]) Try.func46 rfl Try.ntmps46 Try.results46 rfl ?_
  refine VC.seq ?_
  refine VC.region ?_
  refine Ops.r (Run.asg rfl) rfl ?_
  refine Ops.nil ?_
  refine thenQ_n ?_
  refine VC.sub [(0, _), (1, _)] (.cons rfl (.cons rfl .nil)) ?_
  refine VC.seq ?_
  refine VC.seq ?_
  refine VC.region ?_
  refine Ops.r (Run.mv rfl) rfl ?_
  refine Ops.r (Run.lenS rfl Try.underlying54) rfl ?_
  refine Ops.r (Run.mv rfl) rfl ?_
  refine Ops.r (Run.lenS rfl Try.underlying54) rfl ?_
  refine Ops.r (Run.bin rfl rfl (Bin.neqN _ _)) rfl ?_
  refine Ops.nil ?_
  refine thenQ_n ?_
  refine VC.sub [(0, _), (1, _), (10, _)] (.cons rfl (.cons rfl (.cons rfl .nil))) ?_
  refine VC.condD rfl (fun hc1 => ?_) (fun hc1 => ?_)
  · skip
    have hne : ¬ a = b := fun h => hc1 (by rw [h])
    refine VC.seq ?_
    refine VC.region ?_
    refine Ops.r (Run.asg rfl) rfl ?_
    refine Ops.nil ?_
    refine thenQ_n ?_
    refine VC.sub [(4, _)] (.cons rfl .nil) ?_
    refine VC.ret ?_
    refine thenQ_r (end1 rfl ?_)
    exact ⟨by simp [hne], Drawn.refl _⟩
  · skip
    have hll : a.length = b.length := Classical.not_not.1 hc1
    refine VC.skip ?_
    refine thenQ_n ?_
    refine VC.sub [(0, _), (1, _)] (.cons rfl (.cons rfl .nil)) ?_
    refine VC.seq ?_
    refine VC.seq ?_
    refine VC.region ?_
    refine Ops.r (v := .int .i64 ((0 : Nat) : Int)) (Run.asg rfl) rfl ?_
    refine Ops.nil ?_
    refine thenQ_n ?_
    refine VC.block ?_
    refine VC.loop (σ := Nat) (fun s => [(0, .slice A a.length c), (1, .slice B b.length d), (5, .int .i64 ((s : Nat) : Int))]) (fun s wr => s ≤ a.length ∧ a.take s = b.take s ∧ Drawn w wr) (fun s => a.length - s) 0 (.cons rfl (.cons rfl (.cons rfl .nil))) ⟨by omega, rfl, Drawn.refl _⟩ ?_
    rintro i wr ⟨hi, htk, hd⟩
    refine VC.seq ?_
    refine VC.seq ?_
    refine VC.region ?_
    refine Ops.r (Run.mv rfl) rfl ?_
    refine Ops.r (Run.mv rfl) rfl ?_
    refine Ops.r (Run.lenS rfl Try.underlying54) rfl ?_
    refine Ops.r (Run.bin rfl rfl (Bin.lssN _ _)) rfl ?_
    refine Ops.nil ?_
    refine thenQ_n ?_
    refine VC.sub [(0, _), (1, _), (5, _), (14, _)] (.cons rfl (.cons rfl (.cons rfl (.cons rfl .nil)))) ?_
    refine VC.condD rfl (fun hc2 => ?_) (fun hc2 => ?_)
    · skip
      have hib : i < b.length := by omega
      obtain ⟨ad, rfl, hcell⟩ := IB_at (ha.drawn (hd.trans (Drawn.drew _))) hc2
      obtain ⟨ad2, rfl, hcell2⟩ := IB_at (hb.drawn (hd.trans (Drawn.drew _))) hib
      have hta : a.take (i + 1) = a.take i ++ [a[i]] := by rw [List.take_add_one, List.getElem?_eq_getElem hc2]; rfl
      have htb : b.take (i + 1) = b.take i ++ [b[i]] := by rw [List.take_add_one, List.getElem?_eq_getElem hib]; rfl
      have hab : a = b → a[i] = b[i] := by rintro rfl; rfl
      generalize a[i] = x at *
      generalize b[i] = y at *
      refine VC.skip ?_
      refine thenQ_n ?_
      refine VC.sub [(0, _), (1, _), (5, _)] (.cons rfl (.cons rfl (.cons rfl .nil))) ?_
      refine VC.seq ?_
      refine VC.block ?_
      refine VC.seq ?_
      refine VC.still (by kernel_rfl) (by kernel_rfl) ?_
      refine SOps.r (Run.mv rfl) rfl ?_
      refine SOps.r (Run.mv rfl) rfl ?_
      refine SOps.r (Run.index1 _ rfl rfl Try.underlying54 Try.sizeOf3 (by omega)) rfl ?_
      refine SOps.r (Run.load rfl Try.isAgg3 hcell) rfl ?_
      refine SOps.r (Run.mv rfl) rfl ?_
      refine SOps.r (Run.mv rfl) rfl ?_
      refine SOps.r (Run.index1 _ rfl rfl Try.underlying54 Try.sizeOf3 (by omega)) rfl ?_
      refine SOps.r (Run.load rfl Try.isAgg3 hcell2) rfl ?_
      refine SOps.r (Run.bin rfl rfl (Bin.neq _ _)) rfl ?_
      refine SOps.nil ?_
      refine thenQ_n ?_
      refine VC.sub [(0, _), (1, _), (5, _), (25, _)] (.cons rfl (.cons rfl (.cons rfl (.cons rfl .nil)))) ?_
      refine VC.condD rfl (fun hc3 => ?_) (fun hc3 => ?_)
      · skip
        have hne : ¬ a = b := fun h => hc3 (hab h)
        refine VC.seq ?_
        refine VC.region ?_
        refine Ops.r (Run.asg rfl) rfl ?_
        refine Ops.nil ?_
        refine thenQ_n ?_
        refine VC.sub [(4, _)] (.cons rfl .nil) ?_
        refine VC.ret ?_
        refine blockQ_r (thenQ_r (thenQ_r (blockQ_r (thenQ_r (end1 rfl ?_)))))
        exact ⟨by simp [hne], hd.trans (Drawn.drew _)⟩
      · skip
        have hxy : x = y := Classical.not_not.1 hc3
        refine VC.skip ?_
        refine blockQ_n (thenQ_n ?_)
        refine VC.sub [(0, _), (1, _), (5, _)] (.cons rfl (.cons rfl (.cons rfl .nil))) ?_
        refine VC.region ?_
        refine Ops.r (Run.mv rfl) rfl ?_
        refine Ops.r (Run.bin rfl rfl (Bin.add_i64 _ 1 (by omega))) rfl ?_
        refine Ops.r (Run.asg rfl) rfl ?_
        refine Ops.nil ?_
        refine thenQ_n ⟨(i + 1), (.cons rfl (.cons rfl (.cons rfl .nil))), ?_, ?_⟩
        · skip
          exact ⟨hc2, by rw [hta, htb, htk, hxy], hd.trans (Drawn.drew _)⟩
        · skip
          first | omega | (dsimp only; omega)
    · skip
      have hil : i = a.length := by omega
      subst hil
      have heq : a = b := by
        rw [List.take_length, hll, List.take_length] at htk
        exact htk
      refine VC.exit ?_
      refine thenQ_x (thenQ_x (blockQ_x ?_))
      refine thenQ_n ?_
      refine VC.sub [] .nil ?_
      refine VC.seq ?_
      refine VC.region ?_
      refine Ops.r (Run.asg rfl) rfl ?_
      refine Ops.nil ?_
      refine thenQ_n ?_
      refine VC.ret ?_
      refine end1 rfl ?_
      exact ⟨by simp [heq], hd⟩

end Go.Proofs.Ytebaojedpnnliaa
