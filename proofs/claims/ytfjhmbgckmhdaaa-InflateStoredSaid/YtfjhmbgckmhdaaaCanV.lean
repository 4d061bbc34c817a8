/-
  The walks of the document's answer for layer 9.
-/
import Derived.Test.YtfjhmbgckmhdaaaCanC
import Derived.Test.YtfjhmbgckmhdaaaBitsT
namespace Go.Proofs.Ytfjhmbgckmhdaaa
open Go.RowKit

/-- What the lengths take up, of 2^15. -/
def sumK (l : List Int) : Nat := (l.map fun x => if 0 < x then 2 ^ (15 - x.toNat) else 0).sum
theorem KC_congr {f h : Nat → Nat} : ∀ i, (∀ k, k < i → f k = h k) → KC f i = KC h i
  | 0, _ => rfl
  | i + 1, e => by rw [KC, KC, KC_congr i (fun k hk => e k (by omega)), e i (by omega)]
theorem KC_add (f h : Nat → Nat) : ∀ i, KC (fun k => f k + h k) i = KC f i + KC h i
  | 0 => rfl
  | i + 1 => by rw [KC, KC, KC, KC_add f h i, Nat.add_mul]; omega
theorem KC_zero : ∀ i, KC (fun _ => 0) i = 0
  | 0 => rfl
  | i + 1 => by rw [KC, KC_zero i, Nat.zero_mul]
theorem KC_one (m : Nat) : ∀ i, KC (fun k => if k = m then 1 else 0) i = if m < i then 2 ^ (15 - m) else 0
  | 0 => by simp [KC]
  | i + 1 => by
    rw [KC, KC_one m i]
    by_cases h : i = m
    · subst h; simp
    · by_cases h2 : m < i
      · simp [h, h2, show m < i + 1 by omega]
      · simp [h, h2, show ¬ m < i + 1 by omega]
theorem sumK_eq (l : List Int) (h : ∀ x ∈ l, 0 ≤ x ∧ x ≤ 15) : KC (cn l) 16 = sumK l := by
  induction l with
  | nil =>
    have e : KC (cn []) 16 = KC (fun _ => 0) 16 := KC_congr 16 (fun k _ => by simp [cn])
    rw [e, KC_zero]; rfl
  | cons a r ih =>
    have ha := h a (by simp)
    obtain ⟨m, rfl⟩ : ∃ m : Nat, a = m := ⟨a.toNat, by omega⟩
    have ih := ih (fun x hx => h x (by simp [hx]))
    by_cases hm : m = 0
    · subst hm
      have e : KC (cn (((0 : Nat) : Int) :: r)) 16 = KC (cn r) 16 := KC_congr 16 (fun k _ => by
        unfold cn
        split
        · rfl
        · rename_i hk
          rw [List.count_cons]
          have : ¬ (((0 : Nat) : Int) == (k : Int)) = true := by simp; omega
          rw [if_neg this, Nat.add_zero])
      rw [e, ih]
      simp [sumK]
    · have e : KC (cn ((m : Int) :: r)) 16 = KC (fun k => (if k = m then 1 else 0) + cn r k) 16 := KC_congr 16 (fun k _ => by
        unfold cn
        by_cases hk : k = 0
        · simp [hk]; omega
        · rw [if_neg hk, if_neg hk, List.count_cons]
          by_cases hkm : k = m
          · subst hkm; simp; omega
          · have : ¬ ((m : Int) == (k : Int)) = true := by simp; omega
            rw [if_neg this, if_neg hkm]; omega)
      rw [e, KC_add, KC_one, if_pos (by omega), ih]
      unfold sumK
      rw [List.map_cons, List.sum_cons, if_pos (by omega), Int.toNat_natCast]
theorem sumK_take (l : List Int) (i : Nat) (h : i < l.length) : sumK (l.take (i + 1)) = sumK (l.take i) + if 0 < l[i] then 2 ^ (15 - l[i].toNat) else 0 := by
  unfold sumK
  rw [List.take_add_one, List.getElem?_eq_getElem h]
  simp only [Option.toList_some, List.map_append, List.sum_append, List.map_cons, List.map_nil, List.sum_cons, List.sum_nil, Nat.add_zero]
theorem sumK_le (l : List Int) : sumK l ≤ 32768 * l.length := by
  induction l with
  | nil => simp [sumK]
  | cons a r ih =>
    unfold sumK at ih ⊢
    rw [List.map_cons, List.sum_cons, List.length_cons]
    have : (if 0 < a then 2 ^ (15 - a.toNat) else 0) ≤ 32768 := by
      split
      · exact Nat.pow_le_pow_right (n := 2) (by omega) (show 15 - a.toNat ≤ 15 by omega)
      · omega
    omega

set_option maxRecDepth 100000 in
theorem refCheck_spec (A : Option Addr) (c0 : Nat) (l : List Int) (w : World) (hl : l.length ≤ 1000000) (hr : Rd w 1 A l.length (IB l)) :
    Calls Try.prog 54 #[.slice A l.length c0] w fun e w' => e = .returned (.int .i64 ((chk l : Nat) : Int)) ∧ w = w' := by
  refine VC.calls (nt := 50) (res := #[.tmp 2]) Try.func54 rfl Try.ntmps54 Try.results54 rfl ?_
  refine VC.seq ?_
  refine VC.region ?_
  refine Ops.r (v := .int .i64 ((0 : Nat) : Int)) (Run.asg rfl) rfl ?_
  refine Ops.nil ?_
  refine thenQ_n ?_
  refine VC.sub [(0, _)] (.cons rfl .nil) ?_
  refine VC.seq ?_
  refine VC.seq ?_
  refine VC.region ?_
  refine Ops.r (Run.mv rfl) rfl ?_
  refine Ops.r (Run.lenS rfl Try.underlying37) rfl ?_
  refine Ops.r (Run.bin rfl rfl (Bin.gtrN _ 320)) rfl ?_
  refine Ops.nil ?_
  refine thenQ_n ?_
  refine VC.sub [(0, _), (9, _)] (.cons rfl (.cons rfl .nil)) ?_
  refine VC.condD rfl (fun hc1 => ?_) (fun hc1 => ?_)
  · skip
    have he : chk l = 1 := by unfold chk; rw [if_pos (fun h => absurd h.1 (by omega))]
    refine VC.seq ?_
    refine VC.region ?_
    refine Ops.r (v := .int .i64 ((1 : Nat) : Int)) (Run.asg rfl) rfl ?_
    refine Ops.nil ?_
    refine thenQ_n ?_
    refine VC.sub [(2, _)] (.cons rfl .nil) ?_
    refine VC.ret ?_
    refine thenQ_r (end1 rfl ?_)
    exact ⟨by rw [he], rfl⟩
  · skip
    refine VC.skip ?_
    refine thenQ_n ?_
    refine VC.sub [(0, _)] (.cons rfl .nil) ?_
    refine VC.seq ?_
    refine VC.region ?_
    refine Ops.r (v := .int .i64 ((0 : Nat) : Int)) (Run.asg rfl) rfl ?_
    refine Ops.nil ?_
    refine thenQ_n ?_
    refine VC.seq ?_
    refine VC.seq ?_
    refine VC.region ?_
    refine Ops.r (v := .int .i64 ((0 : Nat) : Int)) (Run.asg rfl) rfl ?_
    refine Ops.nil ?_
    refine thenQ_n ?_
    refine VC.block ?_
    refine VC.loop (σ := Nat) (fun s => [(0, .slice A l.length c0), (3, .int .i64 ((sumK (l.take s) : Nat) : Int)), (4, .int .i64 s)]) (fun s wr => s ≤ l.length ∧ (∀ x ∈ l.take s, 0 ≤ x ∧ x ≤ 15) ∧ w = wr) (fun s => l.length - s) 0 (.cons rfl (.cons rfl (.cons rfl .nil))) ⟨by omega, by simp, rfl⟩ ?_
    rintro i _ ⟨hi, hpre, rfl⟩
    refine VC.seq ?_
    refine VC.seq ?_
    refine VC.region ?_
    refine Ops.r (Run.mv rfl) rfl ?_
    refine Ops.r (Run.mv rfl) rfl ?_
    refine Ops.r (Run.lenS rfl Try.underlying37) rfl ?_
    refine Ops.r (Run.bin rfl rfl (Bin.lssN _ _)) rfl ?_
    refine Ops.nil ?_
    refine thenQ_n ?_
    refine VC.sub [(0, _), (3, _), (4, _), (13, _)] (.cons rfl (.cons rfl (.cons rfl (.cons rfl .nil)))) ?_
    refine VC.condD rfl (fun hc2 => ?_) (fun hc2 => ?_)
    · skip
      obtain ⟨ad, rfl, hcell⟩ := IB_at hr hc2
      have htk : l.take (i + 1) = l.take i ++ [l[i]] := by rw [List.take_add_one, List.getElem?_eq_getElem hc2]; rfl
      have hsk := sumK_take l i hc2
      have hsl := sumK_le (l.take i)
      have hlt : (l.take i).length ≤ l.length := by simp; omega
      generalize hx : l[i] = x at *
      refine VC.skip ?_
      refine thenQ_n ?_
      refine VC.sub [(0, _), (3, _), (4, _)] (.cons rfl (.cons rfl (.cons rfl .nil))) ?_
      refine VC.seq ?_
      refine VC.block ?_
      refine VC.seq ?_
      refine VC.seq ?_
      refine VC.split1 [(0, _), (3, _), (4, _)] (.cons rfl (.cons rfl (.cons rfl .nil))) 27 (.bool (decide (x < 0 ∨ 15 < x))) ?_ ?_
      · by_cases hs0 : x < 0
        · skip
          refine VC.region ?_
          refine Ops.r (Run.mv rfl) rfl ?_
          refine Ops.r (Run.mv rfl) rfl ?_
          refine Ops.r (Run.index1 _ rfl rfl Try.underlying37 Try.sizeOf3 (by omega)) rfl ?_
          refine Ops.r (Run.load rfl Try.isAgg3 hcell) rfl ?_
          refine Ops.r (Run.bin rfl rfl (Bin.lss _ 0)) rfl ?_
          refine Ops.r (Run.mv rfl) rfl ?_
          refine Ops.sk rfl (by first | rfl | assumption | decide | (simp; done) | (simp; omega) | (simp [*]; done)) rfl ?_
          refine Ops.sk rfl (by first | rfl | assumption | decide | (simp; done) | (simp; omega) | (simp [*]; done)) rfl ?_
          refine Ops.sk rfl (by first | rfl | assumption | decide | (simp; done) | (simp; omega) | (simp [*]; done)) rfl ?_
          refine Ops.sk rfl (by first | rfl | assumption | decide | (simp; done) | (simp; omega) | (simp [*]; done)) rfl ?_
          refine Ops.sk rfl (by first | rfl | assumption | decide | (simp; done) | (simp; omega) | (simp [*]; done)) rfl ?_
          refine Ops.r (Run.pickT rfl rfl (by first | rfl | assumption | decide | (simp; done) | (simp; omega) | (simp [*]; done))) rfl ?_
          refine Ops.nil ?_
          refine thenQ_n ⟨(.cons (by rw [dor1 hs0]; rfl) (.cons rfl (.cons rfl (.cons rfl .nil)))), rfl⟩
        · skip
          refine VC.region ?_
          refine Ops.r (Run.mv rfl) rfl ?_
          refine Ops.r (Run.mv rfl) rfl ?_
          refine Ops.r (Run.index1 _ rfl rfl Try.underlying37 Try.sizeOf3 (by omega)) rfl ?_
          refine Ops.r (Run.load rfl Try.isAgg3 hcell) rfl ?_
          refine Ops.r (Run.bin rfl rfl (Bin.lss _ 0)) rfl ?_
          refine Ops.r (Run.mv rfl) rfl ?_
          refine Ops.rg rfl (by first | rfl | assumption | decide | (simp; done) | (simp; omega) | (simp [*]; done)) (Run.mv rfl) rfl ?_
          refine Ops.rg rfl (by first | rfl | assumption | decide | (simp; done) | (simp; omega) | (simp [*]; done)) (Run.mv rfl) rfl ?_
          refine Ops.rg rfl (by first | rfl | assumption | decide | (simp; done) | (simp; omega) | (simp [*]; done)) (Run.index1 _ rfl rfl Try.underlying37 Try.sizeOf3 (by omega)) rfl ?_
          refine Ops.rg rfl (by first | rfl | assumption | decide | (simp; done) | (simp; omega) | (simp [*]; done)) (Run.load rfl Try.isAgg3 hcell) rfl ?_
          refine Ops.rg rfl (by first | rfl | assumption | decide | (simp; done) | (simp; omega) | (simp [*]; done)) (Run.bin rfl rfl (Bin.gtr _ 15)) rfl ?_
          refine Ops.r (Run.pickF rfl rfl (by first | rfl | assumption | decide | (simp; done) | (simp; omega) | (simp [*]; done))) rfl ?_
          refine Ops.nil ?_
          refine thenQ_n ⟨(.cons (by rw [dor0 hs0]; rfl) (.cons rfl (.cons rfl (.cons rfl .nil)))), rfl⟩
      · intro Γ hΓ
        refine thenQ_n (VC.sub _ hΓ ?_)
        refine VC.condD rfl (fun hc3 => ?_) (fun hc3 => ?_)
        · skip
          have he : chk l = 1 := by
            unfold chk
            rw [if_pos]
            intro h
            have := h.2 x (by rw [← hx]; exact List.getElem_mem hc2)
            omega
          refine VC.seq ?_
          refine VC.region ?_
          refine Ops.r (v := .int .i64 ((1 : Nat) : Int)) (Run.asg rfl) rfl ?_
          refine Ops.nil ?_
          refine thenQ_n ?_
          refine VC.sub [(2, _)] (.cons rfl .nil) ?_
          refine VC.ret ?_
          refine thenQ_r (blockQ_r (thenQ_r (thenQ_r (blockQ_r (thenQ_r (end1 rfl ?_))))))
          exact ⟨by rw [he], rfl⟩
        · skip
          obtain ⟨m, rfl⟩ : ∃ m : Nat, x = m := ⟨x.toNat, by omega⟩
          refine VC.skip ?_
          refine thenQ_n ?_
          refine VC.sub [(0, _), (3, _), (4, _)] (.cons rfl (.cons rfl (.cons rfl .nil))) ?_
          refine VC.seq ?_
          refine VC.region ?_
          refine Ops.r (v := .int .i64 ((32768 : Nat) : Int)) (Run.asg rfl) rfl ?_
          refine Ops.nil ?_
          refine thenQ_n ?_
          refine VC.seq ?_
          refine VC.seq ?_
          refine VC.region ?_
          refine Ops.r (v := .int .i64 ((0 : Nat) : Int)) (Run.asg rfl) rfl ?_
          refine Ops.nil ?_
          refine thenQ_n ?_
          refine VC.block ?_
          refine VC.loop (σ := Nat) (fun s => [(0, .slice (some ad) l.length c0), (3, .int .i64 ((sumK (l.take i) : Nat) : Int)), (4, .int .i64 i), (5, .int .i64 ((2 ^ (15 - s) : Nat) : Int)), (6, .int .i64 s)]) (fun s wr => s ≤ m ∧ w = wr) (fun s => m - s) 0 (.cons rfl (.cons rfl (.cons rfl (.cons rfl (.cons rfl .nil))))) ⟨by omega, rfl⟩ ?_
          rintro k _ ⟨hk, rfl⟩
          have hpk : 2 ^ (15 - k) ≤ 2 ^ 15 := Nat.pow_le_pow_right (by omega) (by omega)
          refine VC.seq ?_
          refine VC.seq ?_
          refine VC.region ?_
          refine Ops.r (Run.mv rfl) rfl ?_
          refine Ops.r (Run.mv rfl) rfl ?_
          refine Ops.r (Run.mv rfl) rfl ?_
          refine Ops.r (Run.index1 _ rfl rfl Try.underlying37 Try.sizeOf3 (by omega)) rfl ?_
          refine Ops.r (Run.load rfl Try.isAgg3 hcell) rfl ?_
          refine Ops.r (Run.bin rfl rfl (Bin.lss _ _)) rfl ?_
          refine Ops.nil ?_
          refine thenQ_n ?_
          refine VC.sub [(0, _), (3, _), (4, _), (5, _), (6, _), (33, _)] (.cons rfl (.cons rfl (.cons rfl (.cons rfl (.cons rfl (.cons rfl .nil)))))) ?_
          refine VC.condD rfl (fun hc4 => ?_) (fun hc4 => ?_)
          · skip
            have hph : 2 ^ (15 - k) / 2 = 2 ^ (15 - (k + 1)) := by rw [show 15 - k = 15 - (k + 1) + 1 by omega, Nat.pow_succ]; omega
            refine VC.skip ?_
            refine thenQ_n ?_
            refine VC.sub [(0, _), (3, _), (4, _), (5, _), (6, _)] (.cons rfl (.cons rfl (.cons rfl (.cons rfl (.cons rfl .nil))))) ?_
            refine VC.seq ?_
            refine VC.block ?_
            refine VC.region ?_
            refine Ops.r (Run.mv rfl) rfl ?_
            refine Ops.r (Run.bin rfl rfl (Bin.quo_i64 _ 2 (by omega) (by omega))) rfl ?_
            refine Ops.r (Run.asg rfl) rfl ?_
            refine Ops.nil ?_
            refine blockQ_n (thenQ_n ?_)
            refine VC.sub [(0, _), (3, _), (4, _), (5, _), (6, _)] (.cons rfl (.cons rfl (.cons rfl (.cons rfl (.cons rfl .nil))))) ?_
            refine VC.region ?_
            refine Ops.r (Run.mv rfl) rfl ?_
            refine Ops.r (Run.bin rfl rfl (Bin.add_i64 _ 1 (by omega))) rfl ?_
            refine Ops.r (Run.asg rfl) rfl ?_
            refine Ops.nil ?_
            refine thenQ_n ⟨(k + 1), (.cons rfl (.cons rfl (.cons rfl (.cons (by rw [← hph]; rfl) (.cons rfl .nil))))), ?_, ?_⟩
            · skip
              exact ⟨by omega, rfl⟩
            · skip
              first | omega | (dsimp only; omega)
          · skip
            have hkm : k = m := by omega
            subst hkm
            refine VC.exit ?_
            refine thenQ_x (thenQ_x (blockQ_x ?_))
            refine thenQ_n ?_
            refine VC.sub [(0, _), (3, _), (4, _), (5, _)] (.cons rfl (.cons rfl (.cons rfl (.cons rfl .nil)))) ?_
            refine VC.seq ?_
            refine VC.region ?_
            refine Ops.r (Run.mv rfl) rfl ?_
            refine Ops.r (Run.mv rfl) rfl ?_
            refine Ops.r (Run.index1 _ rfl rfl Try.underlying37 Try.sizeOf3 (by omega)) rfl ?_
            refine Ops.r (Run.load rfl Try.isAgg3 hcell) rfl ?_
            refine Ops.r (Run.bin rfl rfl (Bin.gtr _ 0)) rfl ?_
            refine Ops.nil ?_
            refine thenQ_n ?_
            refine VC.sub [(0, _), (3, _), (4, _), (5, _), (42, _)] (.cons rfl (.cons rfl (.cons rfl (.cons rfl (.cons rfl .nil))))) ?_
            refine VC.condD rfl (fun hc5 => ?_) (fun hc5 => ?_)
            · skip
              refine VC.region ?_
              refine Ops.r (Run.mv rfl) rfl ?_
              refine Ops.r (Run.mv rfl) rfl ?_
              refine Ops.r (Run.bin rfl rfl (Bin.add_i64 _ _ (by omega))) rfl ?_
              refine Ops.r (Run.asg rfl) rfl ?_
              refine Ops.nil ?_
              refine blockQ_n (thenQ_n ?_)
              refine VC.sub [(0, _), (3, _), (4, _)] (.cons rfl (.cons rfl (.cons rfl .nil))) ?_
              refine VC.region ?_
              refine Ops.r (Run.mv rfl) rfl ?_
              refine Ops.r (Run.bin rfl rfl (Bin.add_i64 _ 1 (by omega))) rfl ?_
              refine Ops.r (Run.asg rfl) rfl ?_
              refine Ops.nil ?_
              refine thenQ_n ⟨(i + 1), (.cons rfl (.cons (by rw [hsk, if_pos (by omega), Int.toNat_natCast]; rfl) (.cons rfl .nil))), ?_, ?_⟩
              · skip
                refine ⟨hc2, ?_, rfl⟩
                rw [htk]
                intro y hy
                rcases List.mem_append.1 hy with h | h
                · exact hpre y h
                · simp at h; subst h; omega
              · skip
                first | omega | (dsimp only; omega)
            · skip
              refine VC.skip ?_
              refine blockQ_n (thenQ_n ?_)
              refine VC.sub [(0, _), (3, _), (4, _)] (.cons rfl (.cons rfl (.cons rfl .nil))) ?_
              refine VC.region ?_
              refine Ops.r (Run.mv rfl) rfl ?_
              refine Ops.r (Run.bin rfl rfl (Bin.add_i64 _ 1 (by omega))) rfl ?_
              refine Ops.r (Run.asg rfl) rfl ?_
              refine Ops.nil ?_
              refine thenQ_n ⟨(i + 1), (.cons rfl (.cons (by rw [hsk, if_neg (by omega), Nat.add_zero]; rfl) (.cons rfl .nil))), ?_, ?_⟩
              · skip
                refine ⟨hc2, ?_, rfl⟩
                rw [htk]
                intro y hy
                rcases List.mem_append.1 hy with h | h
                · exact hpre y h
                · simp at h; subst h; omega
              · skip
                first | omega | (dsimp only; omega)
    · skip
      have hil : i = l.length := by omega
      subst hil
      rw [List.take_length] at hpre
      rw [List.take_length]
      have hg : good l := ⟨by omega, hpre⟩
      have hk := sumK_eq l hpre
      have hch : chk l = if 32768 < sumK l then 8 else if sumK l < 32768 then 2 else 0 := by unfold chk; rw [if_neg (by simpa using hg), hk]
      have hsl := sumK_le l
      refine VC.exit ?_
      refine thenQ_x (thenQ_x (blockQ_x ?_))
      refine thenQ_n ?_
      refine VC.sub [(3, _)] (.cons rfl .nil) ?_
      refine VC.seq ?_
      refine VC.seq ?_
      refine VC.region ?_
      refine Ops.r (Run.mv rfl) rfl ?_
      refine Ops.r (Run.bin rfl rfl (Bin.gtrN _ 32768)) rfl ?_
      refine Ops.nil ?_
      refine thenQ_n ?_
      refine VC.sub [(3, _), (47, _)] (.cons rfl (.cons rfl .nil)) ?_
      refine VC.condD rfl (fun hc6 => ?_) (fun hc6 => ?_)
      · skip
        have he : chk l = 8 := by rw [hch, if_pos hc6]
        refine VC.seq ?_
        refine VC.region ?_
        refine Ops.r (v := .int .i64 ((8 : Nat) : Int)) (Run.asg rfl) rfl ?_
        refine Ops.nil ?_
        refine thenQ_n ?_
        refine VC.sub [(2, _)] (.cons rfl .nil) ?_
        refine VC.ret ?_
        refine thenQ_r (end1 rfl ?_)
        exact ⟨by rw [he], rfl⟩
      · skip
        refine VC.skip ?_
        refine thenQ_n ?_
        refine VC.sub [(3, _)] (.cons rfl .nil) ?_
        refine VC.seq ?_
        refine VC.seq ?_
        refine VC.region ?_
        refine Ops.r (Run.mv rfl) rfl ?_
        refine Ops.r (Run.bin rfl rfl (Bin.lssN _ 32768)) rfl ?_
        refine Ops.nil ?_
        refine thenQ_n ?_
        refine VC.sub [(49, _)] (.cons rfl .nil) ?_
        refine VC.condD rfl (fun hc7 => ?_) (fun hc7 => ?_)
        · skip
          have he : chk l = 2 := by rw [hch, if_neg hc6, if_pos hc7]
          refine VC.seq ?_
          refine VC.region ?_
          refine Ops.r (v := .int .i64 ((2 : Nat) : Int)) (Run.asg rfl) rfl ?_
          refine Ops.nil ?_
          refine thenQ_n ?_
          refine VC.sub [(2, _)] (.cons rfl .nil) ?_
          refine VC.ret ?_
          refine thenQ_r (end1 rfl ?_)
          exact ⟨by rw [he], rfl⟩
        · skip
          have he : chk l = 0 := by rw [hch, if_neg hc6, if_neg hc7]
          refine VC.skip ?_
          refine thenQ_n ?_
          refine VC.sub [] .nil ?_
          refine VC.seq ?_
          refine VC.region ?_
          refine Ops.r (v := .int .i64 ((0 : Nat) : Int)) (Run.asg rfl) rfl ?_
          refine Ops.nil ?_
          refine thenQ_n ?_
          refine VC.ret ?_
          refine end1 rfl ?_
          exact ⟨by rw [he], rfl⟩

set_option maxRecDepth 100000 in
theorem refOrder_spec (A : Option Addr) (c0 : Nat) (l : List Int) (w : World) (hl : l.length ≤ 1000000) (hr : Rd w 1 A l.length (IB l)) :
    Calls Try.prog 55 #[.slice A l.length c0] w fun e w' => ∃ B c, e = .returned (.slice B (order l).length c) ∧ Own w' 3 1 B (order l).length c (NI (order l)) ∧ Frm [] w w' ∧ ∀ x ∈ ob B, w.heap.size ≤ x := by
  refine VC.calls (nt := 27) (res := #[.tmp 2]) Try.func55 rfl Try.ntmps55 Try.results55 rfl ?_
  refine VC.seq ?_
  refine VC.region ?_
  refine Ops.r (Run.asg rfl) rfl ?_
  refine Ops.nil ?_
  refine thenQ_n ?_
  refine VC.sub [(0, _)] (.cons rfl .nil) ?_
  refine VC.seq ?_
  refine VC.region ?_
  refine Ops.r (Run.asg rfl) rfl ?_
  refine Ops.nil ?_
  refine thenQ_n ?_
  refine VC.seq ?_
  refine VC.seq ?_
  refine VC.region ?_
  refine Ops.r (v := .int .i64 ((1 : Nat) : Int)) (Run.asg rfl) rfl ?_
  refine Ops.nil ?_
  refine thenQ_n ?_
  refine VC.block ?_
  refine VC.loop (σ := Nat × Option Addr × Nat) (fun s => [(0, .slice A l.length c0), (3, .slice s.2.1 (ordTo l s.1).length s.2.2), (4, .int .i64 ((s.1 : Nat) : Int))]) (fun s wr => 1 ≤ s.1 ∧ s.1 ≤ 16 ∧ Own wr 3 1 s.2.1 (ordTo l s.1).length s.2.2 (NI (ordTo l s.1)) ∧ Frm [] w wr ∧ ∀ x ∈ ob s.2.1, w.heap.size ≤ x) (fun s => 16 - s.1) (1, none, 0) (.cons rfl (.cons rfl (.cons rfl .nil))) ⟨Nat.le_refl 1, by dsimp only; omega, Own.nil _ _ _, Frm.refl _ _, up_nil⟩ ?_
  rintro ⟨n, B, c⟩ wr ⟨hn1, hn, ho, hfr, huB⟩
  dsimp only at hn1 hn ho hfr huB ⊢
  refine VC.seq ?_
  refine VC.seq ?_
  refine VC.region ?_
  refine Ops.r (Run.mv rfl) rfl ?_
  refine Ops.r (Run.bin rfl rfl (Bin.leqN _ 15)) rfl ?_
  refine Ops.nil ?_
  refine thenQ_n ?_
  refine VC.sub [(0, _), (3, _), (4, _), (7, _)] (.cons rfl (.cons rfl (.cons rfl (.cons rfl .nil)))) ?_
  refine VC.condD rfl (fun hc1 => ?_) (fun hc1 => ?_)
  · skip
    refine VC.skip ?_
    refine thenQ_n ?_
    refine VC.sub [(0, _), (3, _), (4, _)] (.cons rfl (.cons rfl (.cons rfl .nil))) ?_
    refine VC.seq ?_
    refine VC.block ?_
    refine VC.seq ?_
    refine VC.region ?_
    refine Ops.r (v := .int .i64 ((0 : Nat) : Int)) (Run.asg rfl) rfl ?_
    refine Ops.nil ?_
    refine thenQ_n ?_
    refine VC.block ?_
    refine VC.loop (σ := Nat × Option Addr × Nat) (fun s => [(0, .slice A l.length c0), (3, .slice s.2.1 (ordTo l n ++ idxsT l n s.1).length s.2.2), (4, .int .i64 ((n : Nat) : Int)), (5, .int .i64 ((s.1 : Nat) : Int))]) (fun s wr => s.1 ≤ l.length ∧ Own wr 3 1 s.2.1 (ordTo l n ++ idxsT l n s.1).length s.2.2 (NI (ordTo l n ++ idxsT l n s.1)) ∧ Frm [] w wr ∧ ∀ x ∈ ob s.2.1, w.heap.size ≤ x) (fun s => l.length - s.1) (0, B, c) (.cons rfl (.cons (by simp [idxsT]; rfl) (.cons rfl (.cons rfl .nil)))) ⟨by omega, by simpa [idxsT] using ho, hfr, huB⟩ ?_
    clear ho hfr huB
    rintro ⟨i, B, c⟩ wr ⟨hi, ho, hfr, huB⟩
    dsimp only at hi ho hfr huB ⊢
    have hsl : (ordTo l n ++ idxsT l n i).length ≤ l.length := by
      rw [List.length_append, ordTo_len]
      have h1 := atL_le l (n + 1)
      have h2 : atL l (n + 1) = atL l n + cn l n := rfl
      have h3 := idxsT_len l n (by omega) i hi
      have h4 : (l.take i).count (n : Int) ≤ l.count (n : Int) := (List.take_sublist i l).count_le _
      have h5 : cn l n = l.count (n : Int) := by unfold cn; rw [if_neg (by omega)]
      omega
    refine VC.seq ?_
    refine VC.seq ?_
    refine VC.region ?_
    refine Ops.r (Run.mv rfl) rfl ?_
    refine Ops.r (Run.mv rfl) rfl ?_
    refine Ops.r (Run.lenS rfl Try.underlying37) rfl ?_
    refine Ops.r (Run.bin rfl rfl (Bin.lssN _ _)) rfl ?_
    refine Ops.nil ?_
    refine thenQ_n ?_
    refine VC.sub [(0, _), (3, _), (4, _), (5, _), (13, _)] (.cons rfl (.cons rfl (.cons rfl (.cons rfl (.cons rfl .nil))))) ?_
    refine VC.condD rfl (fun hc2 => ?_) (fun hc2 => ?_)
    · skip
      obtain ⟨ad, rfl, hcell⟩ := IB_at (hr.belowW hfr.below) hc2
      have hgt := getD_at l i hc2
      generalize hx : l[i] = x at *
      refine VC.skip ?_
      refine thenQ_n ?_
      refine VC.sub [(0, _), (3, _), (4, _), (5, _)] (.cons rfl (.cons rfl (.cons rfl (.cons rfl .nil)))) ?_
      refine VC.seq ?_
      refine VC.block ?_
      refine VC.seq ?_
      refine VC.region ?_
      refine Ops.r (Run.mv rfl) rfl ?_
      refine Ops.r (Run.mv rfl) rfl ?_
      refine Ops.r (Run.index1 _ rfl rfl Try.underlying37 Try.sizeOf3 (by omega)) rfl ?_
      refine Ops.r (Run.load rfl Try.isAgg3 hcell) rfl ?_
      refine Ops.r (Run.mv rfl) rfl ?_
      refine Ops.r (Run.bin rfl rfl (Bin.eql _ _)) rfl ?_
      refine Ops.nil ?_
      refine thenQ_n ?_
      refine VC.sub [(0, _), (3, _), (4, _), (5, _), (21, _)] (.cons rfl (.cons rfl (.cons rfl (.cons rfl (.cons rfl .nil))))) ?_
      refine VC.condD rfl (fun hc3 => ?_) (fun hc3 => ?_)
      · skip
        refine VC.region ?_
        refine Ops.r (Run.mv rfl) rfl ?_
        refine Ops.r (Run.mv rfl) rfl ?_
        refine Ops.m (Does.buildS1 rfl Try.underlying37 Try.sizeOf3 zero3 (by decide) (by decide) rfl rfl) rfl ?_
        rintro _ w7 ⟨rfl, hF7⟩
        have ho7 := ho.frm hF7.frm (by simp)
        have hrd7 : Rd w7 1 (some ⟨wr.heap.size, 0, none⟩) 1 (NI [i]) := Rd.of_blk hF7.blk rfl
        refine Ops.m (Does.app rfl rfl Try.underlying37 (info3) rfl (by decide) ho7 hrd7 (NI_one [i]) (by omega) (by omega)) rfl ?_
        rintro _ w8 ⟨A8, c8, rfl, ho8, hf8, hob8⟩
        have hfr7 := hfr.own hF7.frm (by simp)
        have hfr8 := hfr7.own hf8 huB
        have hu8 := up_app huB hob8 hfr7.size
        refine Ops.r (Run.asg rfl) rfl ?_
        refine Ops.nil ?_
        refine blockQ_n (thenQ_n ?_)
        refine VC.sub [(0, _), (3, _), (4, _), (5, _)] (.cons rfl (.cons rfl (.cons rfl (.cons rfl .nil)))) ?_
        refine VC.region ?_
        refine Ops.r (Run.mv rfl) rfl ?_
        refine Ops.r (Run.bin rfl rfl (Bin.add_i64 _ 1 (by omega))) rfl ?_
        refine Ops.r (Run.asg rfl) rfl ?_
        refine Ops.nil ?_
        have e : ordTo l n ++ idxsT l n (i + 1) = (ordTo l n ++ idxsT l n i) ++ [i] := by
          unfold idxsT
          rw [if_neg (by omega), if_neg (by omega), List.range_succ, List.filter_append, List.filter_cons_of_pos (by rw [hgt]; simpa using hc3), List.append_assoc]
          rfl
        have e2 : (ordTo l n ++ idxsT l n i ++ [i]).length = (ordTo l n ++ idxsT l n i).length + 1 := List.length_append
        refine thenQ_n ⟨(i + 1, A8, c8), (.cons rfl (.cons (by dsimp only; rw [e, e2]; rfl) (.cons rfl (.cons rfl .nil)))), ?_, ?_⟩
        · skip
          refine ⟨hc2, ?_, hfr8, hu8⟩
          dsimp only
          rw [e]
          generalize ordTo l n ++ idxsT l n i = sy at *
          rw [e2, NI_append]
          exact ho8
        · skip
          first | omega | (dsimp only; omega)
      · skip
        refine VC.skip ?_
        refine blockQ_n (thenQ_n ?_)
        refine VC.sub [(0, _), (3, _), (4, _), (5, _)] (.cons rfl (.cons rfl (.cons rfl (.cons rfl .nil)))) ?_
        refine VC.region ?_
        refine Ops.r (Run.mv rfl) rfl ?_
        refine Ops.r (Run.bin rfl rfl (Bin.add_i64 _ 1 (by omega))) rfl ?_
        refine Ops.r (Run.asg rfl) rfl ?_
        refine Ops.nil ?_
        have e : idxsT l n (i + 1) = idxsT l n i := by
          unfold idxsT
          split
          · rfl
          · rw [List.range_succ, List.filter_append, List.filter_cons_of_neg (by rw [hgt]; simp; omega)]
            simp
        refine thenQ_n ⟨(i + 1, B, c), (.cons rfl (.cons (by dsimp only; rw [e]; rfl) (.cons rfl (.cons rfl .nil)))), ?_, ?_⟩
        · skip
          refine ⟨hc2, ?_, hfr, huB⟩
          dsimp only
          rw [e]
          exact ho
        · skip
          first | omega | (dsimp only; omega)
    · skip
      have hil : i = l.length := by omega
      have hord : ordTo l n ++ idxsT l n i = ordTo l (n + 1) := by rw [ordTo_succ, hil]; rfl
      rw [hord] at ho
      refine VC.exit ?_
      refine thenQ_x (thenQ_x (blockQ_x ?_))
      refine blockQ_n (thenQ_n ?_)
      refine VC.sub [(0, _), (3, _), (4, _)] (.cons rfl (.cons rfl (.cons rfl .nil))) ?_
      refine VC.region ?_
      refine Ops.r (Run.mv rfl) rfl ?_
      refine Ops.r (Run.bin rfl rfl (Bin.add_i64 _ 1 (by omega))) rfl ?_
      refine Ops.r (Run.asg rfl) rfl ?_
      refine Ops.nil ?_
      refine thenQ_n ⟨(n + 1, B, c), (.cons rfl (.cons (by dsimp only; rw [← hord]; rfl) (.cons rfl .nil))), ?_, ?_⟩
      · skip
        exact ⟨by dsimp only; omega, by dsimp only; omega, ho, hfr, huB⟩
      · skip
        first | omega | (dsimp only; omega)
  · skip
    have hn16 : n = 16 := by omega
    subst hn16
    refine VC.exit ?_
    refine thenQ_x (thenQ_x (blockQ_x ?_))
    refine thenQ_n ?_
    refine VC.sub [(3, _)] (.cons rfl .nil) ?_
    refine VC.seq ?_
    refine VC.region ?_
    refine Ops.r (Run.mv rfl) rfl ?_
    refine Ops.r (Run.asg rfl) rfl ?_
    refine Ops.nil ?_
    refine thenQ_n ?_
    refine VC.sub [(2, _)] (.cons rfl .nil) ?_
    refine VC.ret ?_
    refine end1 rfl ?_
    exact ⟨B, c, rfl, ho, hfr, huB⟩

set_option maxRecDepth 100000 in
theorem refCodes_spec (A : Option Addr) (c0 : Nat) (l : List Int) (w : World) (hg : good l) (hr : Rd w 1 A l.length (IB l)) :
    Calls Try.prog 61 #[.slice A l.length c0] w fun e w' => ∃ B c, e = .returned (.slice B l.length c) ∧ Own w' 104 2 B l.length c ((codesL l).flatMap CB) ∧ Frm [] w w' ∧ ∀ x ∈ ob B, w.heap.size ≤ x := by
  have hl := hg.1
  refine VC.calls (nt := 48) (res := #[.tmp 2]) Try.func61 rfl Try.ntmps61 Try.results61 rfl ?_
  refine VC.seq ?_
  refine VC.region ?_
  refine Ops.r (Run.asg rfl) rfl ?_
  refine Ops.nil ?_
  refine thenQ_n ?_
  refine VC.sub [(0, _)] (.cons rfl .nil) ?_
  refine VC.seq ?_
  refine VC.region ?_
  refine Ops.r (Run.mv rfl) rfl ?_
  refine Ops.r (Run.lenS rfl Try.underlying37) rfl ?_
  refine Ops.m (Does.makeS rfl rfl Try.underlying101 (info104) rfl (by omega) (by omega)) rfl ?_
  rintro _ w8 ⟨rfl, ho8, hf8, hs8⟩
  have hlt8 : w.heap.size < w8.heap.size := by omega
  have ho8 : Own w8 104 2 (some ⟨w.heap.size, 0, none⟩) l.length l.length ((codesO l 0).flatMap CB) := by
    have e : codesO l 0 = codesT l 0 := by unfold codesO codesT; simp
    rw [e, ← codesT_zero]; exact ho8
  generalize hgo0 : w.heap.size = go at ho8 hlt8 ⊢
  refine Ops.r (Run.asg rfl) rfl ?_
  refine Ops.nil ?_
  refine thenQ_n ?_
  refine VC.sub [(0, _), (3, _)] (.cons rfl (.cons rfl .nil)) ?_
  refine VC.seq ?_
  refine VC.region ?_
  refine Ops.r (Run.mv rfl) rfl ?_
  refine Ops.cl (Enters.fn (evs.cons rfl evs.nil) Try.call55) (refOrder_spec A c0 l _ (by omega) (hr.belowW hf8.below)) rfl ?_
  rintro e w1 ⟨Bo, co, rfl, hord, hf1, huo⟩
  refine ⟨_, rfl, ?_⟩
  have ho1 := ho8.frm hf1 (by simp)
  have hfr1 := hf8.own hf1 (by simp)
  have hgo : go ∉ ob Bo := fun h => by have := huo go h; omega
  refine Ops.r (Run.asg rfl) rfl ?_
  refine Ops.nil ?_
  refine thenQ_n ?_
  refine VC.sub [(0, _), (3, _), (4, _)] (.cons rfl (.cons rfl (.cons rfl .nil))) ?_
  refine VC.seq ?_
  refine VC.region ?_
  refine Ops.r (v := .int .u64 ((0 : Nat) : Int)) (Run.asg rfl) rfl ?_
  refine Ops.r (v := .int .i64 ((0 : Nat) : Int)) (Run.asg rfl) rfl ?_
  refine Ops.nil ?_
  refine thenQ_n ?_
  refine VC.seq ?_
  refine VC.seq ?_
  refine VC.region ?_
  refine Ops.r (v := .int .i64 ((0 : Nat) : Int)) (Run.asg rfl) rfl ?_
  refine Ops.nil ?_
  refine thenQ_n ?_
  refine VC.block ?_
  refine VC.loop (σ := Nat) (fun s => [(0, .slice A l.length c0), (3, .slice (some ⟨go, 0, none⟩) l.length l.length), (4, .slice Bo (order l).length co), (5, .int .u64 ((codeP l s : Nat) : Int)), (6, .int .i64 ((wasL l s : Nat) : Int)), (7, .int .i64 s)]) (fun s wr => s ≤ (order l).length ∧ Own wr 104 2 (some ⟨go, 0, none⟩) l.length l.length ((codesO l s).flatMap CB) ∧ Own wr 3 1 Bo (order l).length co (NI (order l)) ∧ Frm [] w wr) (fun s => (order l).length - s) 0 (.cons rfl (.cons rfl (.cons rfl (.cons rfl (.cons rfl (.cons rfl .nil)))))) ⟨by omega, ho1, hord, hfr1⟩ ?_
  rintro i w5 ⟨hi, ho, hord, hfr⟩
  refine VC.seq ?_
  refine VC.seq ?_
  refine VC.region ?_
  refine Ops.r (Run.mv rfl) rfl ?_
  refine Ops.r (Run.mv rfl) rfl ?_
  refine Ops.r (Run.lenS rfl Try.underlying37) rfl ?_
  refine Ops.r (Run.bin rfl rfl (Bin.lssN _ _)) rfl ?_
  refine Ops.nil ?_
  refine thenQ_n ?_
  refine VC.sub [(0, _), (3, _), (4, _), (5, _), (6, _), (7, _), (17, _)] (.cons rfl (.cons rfl (.cons rfl (.cons rfl (.cons rfl (.cons rfl (.cons rfl .nil))))))) ?_
  refine VC.condD rfl (fun hc1 => ?_) (fun hc1 => ?_)
  · skip
    have hoi := List.getElem?_eq_getElem hc1
    have holen := order_len l
    have hatl := atL_le l 16
    obtain ⟨ad, rfl, hcell⟩ := NI_at hord.rd hc1
    generalize hj : (order l)[i] = j at *
    obtain ⟨n, hn1, hn15, hjl, hjn, hti, hrk⟩ := order_get l i j hoi
    obtain ⟨ad2, rfl, hcell2⟩ := IB_at (hr.belowW hfr.below) hjl
    have hgt := getD_at l j hjl
    rw [hjn] at hgt
    rw [← hgt] at hcell2
    obtain ⟨hwn, hcp⟩ := codeP_step l i j n hoi hjn
    have hsm := fst_small l hl n hn15
    have hcj : codeOf l j = fst' l n + rank l j := by unfold codeOf; rw [hjn, Int.toNat_natCast]
    have hcb : codeOf l j ≤ 10485760 := by omega
    have hcc : codeC l j = (codeOf l j, (n : Int)) := by unfold codeC; rw [hjn, if_neg (by omega)]
    have hpo : 0 < 2 ^ (n - wasL l i) := Nat.two_pow_pos _
    have hc1le : (if i = 0 then 0 else codeP l i + 1) ≤ codeOf l j := by rw [← hcp]; exact Nat.le_mul_of_pos_right _ hpo
    generalize hc1v : (if i = 0 then 0 else codeP l i + 1) = c1 at *
    refine VC.skip ?_
    refine thenQ_n ?_
    refine VC.sub [(0, _), (3, _), (4, _), (5, _), (6, _), (7, _)] (.cons rfl (.cons rfl (.cons rfl (.cons rfl (.cons rfl (.cons rfl .nil)))))) ?_
    refine VC.seq ?_
    refine VC.block ?_
    refine VC.seq ?_
    refine VC.region ?_
    refine Ops.r (Run.mv rfl) rfl ?_
    refine Ops.r (Run.mv rfl) rfl ?_
    refine Ops.r (Run.mv rfl) rfl ?_
    refine Ops.r (Run.index1 _ rfl rfl Try.underlying37 Try.sizeOf3 (by omega)) rfl ?_
    refine Ops.r (Run.load rfl Try.isAgg3 hcell) rfl ?_
    refine Ops.r (Run.index1 _ rfl rfl Try.underlying37 Try.sizeOf3 (by omega)) rfl ?_
    refine Ops.r (Run.load rfl Try.isAgg3 hcell2) rfl ?_
    refine Ops.r (Run.asg rfl) rfl ?_
    refine Ops.nil ?_
    refine thenQ_n ?_
    refine VC.sub [(0, _), (3, _), (4, _), (5, _), (6, _), (7, _), (8, _)] (.cons rfl (.cons rfl (.cons rfl (.cons rfl (.cons rfl (.cons rfl (.cons rfl .nil))))))) ?_
    refine VC.seq ?_
    refine VC.seq ?_
    refine VC.region ?_
    refine Ops.r (Run.mv rfl) rfl ?_
    refine Ops.r (Run.bin rfl rfl (Bin.gtrN _ 0)) rfl ?_
    refine Ops.nil ?_
    refine thenQ_n ?_
    refine VC.sub [(0, _), (3, _), (4, _), (5, _), (6, _), (7, _), (8, _), (28, _)] (.cons rfl (.cons rfl (.cons rfl (.cons rfl (.cons rfl (.cons rfl (.cons rfl (.cons rfl .nil)))))))) ?_
    refine VC.meet (σ := Unit) (fun s => [(0, .slice (some ad2) l.length c0), (3, .slice (some ⟨go, 0, none⟩) l.length l.length), (4, .slice (some ad) (order l).length co), (5, .int .u64 ((c1 : Nat) : Int)), (6, .int .i64 ((wasL l i : Nat) : Int)), (7, .int .i64 i), (8, .int .i64 ((n : Nat) : Int))]) (fun s w9 => w5 = w9) ?_ ?_
    · skip
      refine VC.condD rfl (fun hc2 => ?_) (fun hc2 => ?_)
      · skip
        rw [if_neg (by omega)] at hc1v
        refine VC.region ?_
        refine Ops.r (Run.mv rfl) rfl ?_
        refine Ops.r (Run.bin rfl rfl (Bin.add_u64 _ 1 (by omega))) rfl ?_
        refine Ops.r (Run.asg rfl) rfl ?_
        refine Ops.nil ?_
        refine thenQ_n ⟨(), (.cons rfl (.cons rfl (.cons rfl (.cons (by rw [← hc1v]; rfl) (.cons rfl (.cons rfl (.cons rfl .nil))))))), ?_⟩
        rfl
      · skip
        refine VC.skip ?_
        refine thenQ_n ⟨(), (.cons rfl (.cons rfl (.cons rfl (.cons (by rw [← hc1v, if_pos (by omega)]; rw [show codeP l i = 0 by unfold codeP; rw [if_pos (by omega)]]; rfl) (.cons rfl (.cons rfl (.cons rfl .nil))))))), ?_⟩
        rfl
    · skip
      rintro _ _ rfl Γ hΓ
      refine thenQ_n (VC.sub _ hΓ ?_)
      refine VC.seq ?_
      refine VC.block ?_
      refine VC.loop (σ := Nat) (fun s => [(0, .slice (some ad2) l.length c0), (3, .slice (some ⟨go, 0, none⟩) l.length l.length), (4, .slice (some ad) (order l).length co), (5, .int .u64 ((c1 * 2 ^ (s - wasL l i) : Nat) : Int)), (6, .int .i64 ((s : Nat) : Int)), (7, .int .i64 i), (8, .int .i64 ((n : Nat) : Int))]) (fun s wr => wasL l i ≤ s ∧ s ≤ n ∧ w5 = wr) (fun s => n - s) (wasL l i) (.cons rfl (.cons rfl (.cons rfl (.cons (by rw [Nat.sub_self, Nat.pow_zero, Nat.mul_one]; rfl) (.cons rfl (.cons rfl (.cons rfl .nil))))))) ⟨Nat.le_refl _, hwn, rfl⟩ ?_
      rintro s _ ⟨hs1, hs2, rfl⟩
      refine VC.seq ?_
      refine VC.seq ?_
      refine VC.region ?_
      refine Ops.r (Run.mv rfl) rfl ?_
      refine Ops.r (Run.mv rfl) rfl ?_
      refine Ops.r (Run.bin rfl rfl (Bin.lssN _ _)) rfl ?_
      refine Ops.nil ?_
      refine thenQ_n ?_
      refine VC.sub [(0, _), (3, _), (4, _), (5, _), (6, _), (7, _), (8, _), (33, _)] (.cons rfl (.cons rfl (.cons rfl (.cons rfl (.cons rfl (.cons rfl (.cons rfl (.cons rfl .nil)))))))) ?_
      refine VC.condD rfl (fun hc3 => ?_) (fun hc3 => ?_)
      · skip
        have hp1 : 2 ^ (s + 1 - wasL l i) = 2 ^ (s - wasL l i) * 2 := by rw [← Nat.pow_succ]; congr 1; omega
        have hle : c1 * 2 ^ (s + 1 - wasL l i) ≤ codeOf l j := by rw [← hcp]; exact Nat.mul_le_mul_left _ (Nat.pow_le_pow_right (by omega) (by omega))
        rw [hp1, ← Nat.mul_assoc] at hle
        refine VC.skip ?_
        refine thenQ_n ?_
        refine VC.sub [(0, _), (3, _), (4, _), (5, _), (6, _), (7, _), (8, _)] (.cons rfl (.cons rfl (.cons rfl (.cons rfl (.cons rfl (.cons rfl (.cons rfl .nil))))))) ?_
        refine VC.block ?_
        refine VC.seq ?_
        refine VC.region ?_
        refine Ops.r (Run.mv rfl) rfl ?_
        refine Ops.r (Run.bin rfl rfl (Bin.mul_u64 _ 2 (by omega))) rfl ?_
        refine Ops.r (Run.asg rfl) rfl ?_
        refine Ops.nil ?_
        refine thenQ_n ?_
        refine VC.sub [(0, _), (3, _), (4, _), (5, _), (6, _), (7, _), (8, _)] (.cons rfl (.cons rfl (.cons rfl (.cons rfl (.cons rfl (.cons rfl (.cons rfl .nil))))))) ?_
        refine VC.region ?_
        refine Ops.r (Run.mv rfl) rfl ?_
        refine Ops.r (Run.bin rfl rfl (Bin.add_i64 _ 1 (by omega))) rfl ?_
        refine Ops.r (Run.asg rfl) rfl ?_
        refine Ops.nil ?_
        refine blockQ_n (thenQ_n ⟨(s + 1), (.cons rfl (.cons rfl (.cons rfl (.cons (by rw [hp1, ← Nat.mul_assoc]; rfl) (.cons rfl (.cons rfl (.cons rfl .nil))))))), ?_, ?_⟩)
        · skip
          exact ⟨by omega, by omega, rfl⟩
        · skip
          first | omega | (dsimp only; omega)
      · skip
        have hsn : s = n := by omega
        subst hsn
        rw [hcp]
        refine VC.exit ?_
        refine thenQ_x (thenQ_x (blockQ_x ?_))
        refine thenQ_n ?_
        refine VC.sub [(0, _), (3, _), (4, _), (5, _), (6, _), (7, _), (8, _)] (.cons rfl (.cons rfl (.cons rfl (.cons rfl (.cons rfl (.cons rfl (.cons rfl .nil))))))) ?_
        refine VC.region ?_
        refine Ops.r (Run.mv rfl) rfl ?_
        refine Ops.r (Run.mv rfl) rfl ?_
        refine Ops.r (Run.mv rfl) rfl ?_
        refine Ops.r (Run.index1 _ rfl rfl Try.underlying37 Try.sizeOf3 (by omega)) rfl ?_
        refine Ops.r (Run.load rfl Try.isAgg3 hcell) rfl ?_
        refine Ops.r (Run.mv rfl) rfl ?_
        refine Ops.r (Run.mv rfl) rfl ?_
        refine Ops.r (Run.build (evs.cons rfl (evs.cons rfl evs.nil)) zero104 (places104).choose_spec.1 (places104).choose_spec.2 rfl) rfl ?_
        refine Ops.r (Run.indexS _ rfl rfl Try.underlying101 Try.sizeOf104 (by omega)) rfl ?_
        refine Ops.st (Acts.storeOwnA CB (codeOf l j, (s : Int)) j rfl rfl Try.sizeOf104 CB_len (by simp [codesO]) ho rfl hjl (CB_one _)) ?_
        rintro w3 ⟨ho3, hf3, hs3⟩
        rw [← hcc, codesO_set l i j hoi] at ho3
        refine Ops.nil ?_
        refine blockQ_n (thenQ_n ?_)
        refine VC.sub [(0, _), (3, _), (4, _), (5, _), (6, _), (7, _)] (.cons rfl (.cons rfl (.cons rfl (.cons rfl (.cons rfl (.cons rfl .nil)))))) ?_
        refine VC.region ?_
        refine Ops.r (Run.mv rfl) rfl ?_
        refine Ops.r (Run.bin rfl rfl (Bin.add_i64 _ 1 (by omega))) rfl ?_
        refine Ops.r (Run.asg rfl) rfl ?_
        refine Ops.nil ?_
        refine thenQ_n ⟨(i + 1), (.cons rfl (.cons rfl (.cons rfl (.cons (by rw [show codeP l (i + 1) = codeOf l j by unfold codeP; simp [List.getD, hoi]]; rfl) (.cons (by rw [show wasL l (i + 1) = s by unfold wasL; simp [List.getD, hoi]; rw [List.getD] at hjn; simp [hjn]]; rfl) (.cons rfl .nil)))))), ?_, ?_⟩
        · skip
          refine ⟨by omega, ho3, hord.frm hf3 (fun x hx hx2 => by simp [ob] at hx2; subst hx2; exact hgo hx), hfr.own hf3 (by simp [ob]; omega)⟩
        · skip
          first | omega | (dsimp only; omega)
  · skip
    have hio : i = (order l).length := by omega
    subst hio
    rw [codesO_all l hg.2] at ho
    refine VC.exit ?_
    refine thenQ_x (thenQ_x (blockQ_x ?_))
    refine thenQ_n ?_
    refine VC.sub [(3, _)] (.cons rfl .nil) ?_
    refine VC.seq ?_
    refine VC.region ?_
    refine Ops.r (Run.mv rfl) rfl ?_
    refine Ops.r (Run.asg rfl) rfl ?_
    refine Ops.nil ?_
    refine thenQ_n ?_
    refine VC.sub [(2, _)] (.cons rfl .nil) ?_
    refine VC.ret ?_
    refine end1 rfl ?_
    exact ⟨_, _, rfl, ho, hfr, by first | (simp [ob]; done) | (simp [ob]; omega)⟩

end Go.Proofs.Ytfjhmbgckmhdaaa
