/-
  Package-merge, in plain lists: no other lengths cost less, and the lengths are complete.
-/
import Derived.Test.YtebaojedpnnliaaLimX
namespace Go.Proofs.Ytebaojedpnnliaa
open Go.RowKit

/-! ### sums -/
def sg (f : Nat → Nat) : Nat → Nat
  | 0 => 0
  | n + 1 => sg f n + f n
theorem sg_congr {f h : Nat → Nat} : ∀ n, (∀ k, k < n → f k = h k) → sg f n = sg h n
  | 0, _ => rfl
  | n + 1, e => by rw [sg, sg, sg_congr n (fun k hk => e k (by omega)), e n (by omega)]
theorem sg_le {f h : Nat → Nat} : ∀ n, (∀ k, k < n → f k ≤ h k) → sg f n ≤ sg h n
  | 0, _ => Nat.le_refl _
  | n + 1, e => Nat.add_le_add (sg_le n (fun k hk => e k (by omega))) (e n (by omega))
theorem sg_add (f h : Nat → Nat) : ∀ n, sg (fun k => f k + h k) n = sg f n + sg h n
  | 0 => rfl
  | n + 1 => by rw [sg, sg, sg, sg_add f h n]; omega
theorem sg_zero : ∀ n, sg (fun _ => 0) n = 0
  | 0 => rfl
  | n + 1 => by rw [sg, sg_zero n]
theorem sg_mul (f : Nat → Nat) (c : Nat) : ∀ n, sg (fun k => f k * c) n = sg f n * c
  | 0 => by simp [sg]
  | n + 1 => by rw [sg, sg, sg_mul f c n, Nat.add_mul]
theorem sg_swap (f : Nat → Nat → Nat) (m : Nat) : ∀ n, sg (fun i => sg (fun j => f i j) m) n = sg (fun j => sg (fun i => f i j) n) m
  | 0 => by simp only [sg]; rw [sg_zero]
  | n + 1 => by rw [sg, sg_swap f m n, ← sg_add]; rfl
theorem sg_lt (a : Nat) : ∀ n, a ≤ n → sg (fun i => if i < a then 1 else 0) n = a
  | 0, h => by simp [sg]; omega
  | n + 1, h => by
    rw [sg]
    by_cases h2 : a = n + 1
    · subst h2
      rw [sg_congr (h := fun _ => 1) n (fun k hk => by simp; omega), if_pos (by omega)]
      have : ∀ n, sg (fun _ => 1) n = n := fun n => by
        induction n with
        | zero => rfl
        | succ n ih => rw [sg, ih]
      rw [this]
    · rw [sg_lt a n (by omega), if_neg (by omega)]; rfl

/-! ### no other lengths cost less -/
abbrev PL := List (Nat × List Nat)
theorem totC_cons (a : Nat × List Nat) (l : PL) : totC (a :: l) = a.1 + totC l := by simp [totC]
theorem totC_nil : totC [] = 0 := rfl
theorem totC_app (a b : PL) : totC (a ++ b) = totC a + totC b := by simp [totC]
theorem totC_take_succ {c : Nat} (l : PL) (n : Nat) (h : n < l.length) : totC (l.take (n + 1)) = totC (l.take n) + l[n].1 := by
  rw [List.take_add_one, List.getElem?_eq_getElem h, totC_app]
  simp [totC]
theorem totC_take_le (l : PL) : ∀ a b, a ≤ b → totC (l.take a) ≤ totC (l.take b) := by
  induction l with
  | nil => intro a b _; simp
  | cons x r ih =>
    intro a b h
    cases a with
    | zero => simp [totC]
    | succ a =>
      cases b with
      | zero => omega
      | succ b => rw [List.take_succ_cons, List.take_succ_cons, totC_cons, totC_cons]; have := ih a b (by omega); omega
/-- A prefix of a merging is the least of its size. -/
theorem merge_min : ∀ (A B : PL) (s t : Nat), SortP A → SortP B → s ≤ A.length → t ≤ B.length → totC ((mergeP A B).take (s + t)) ≤ totC (A.take s) + totC (B.take t)
  | [], B, s, t, _, _, hs, _ => by
    have : s = 0 := by simpa using hs
    subst this
    simp [mergeP, totC]
  | c :: cs, [], s, t, _, _, _, ht => by
    have : t = 0 := by simpa using ht
    subst this
    simp [mergeP, totC]
  | c :: cs, p :: ps, s, t, hA, hB, hs, ht => by
    have h1 := List.pairwise_cons.1 hA
    have h2 := List.pairwise_cons.1 hB
    rw [mergeP]
    by_cases h : c.1 ≤ p.1
    · rw [if_pos h]
      cases s with
      | succ s =>
        have ih := merge_min cs (p :: ps) s t h1.2 hB (by simpa using hs) ht
        rw [show s + 1 + t = (s + t) + 1 by omega, List.take_succ_cons, List.take_succ_cons, totC_cons, totC_cons]
        omega
      | zero =>
        cases t with
        | zero => simp [totC]
        | succ t =>
          have ih := merge_min cs (p :: ps) 0 t h1.2 hB (by omega) (by omega)
          have hlt : t < (p :: ps).length := by omega
          have h3 : p.1 ≤ ((p :: ps)[t]).1 := by
            cases t with
            | zero => exact Nat.le_refl _
            | succ t => exact h2.1 _ (List.getElem_mem _)
          rw [show 0 + (t + 1) = (0 + t) + 1 by omega, List.take_succ_cons, totC_cons, totC_take_succ (c := 0) (p :: ps) t hlt]
          simp only [List.take_zero, totC_nil, Nat.add_zero, Nat.zero_add] at ih ⊢
          omega
    · rw [if_neg h]
      cases t with
      | succ t =>
        have ih := merge_min (c :: cs) ps s t hA h2.2 hs (by simpa using ht)
        rw [show s + (t + 1) = (s + t) + 1 by omega, List.take_succ_cons, List.take_succ_cons, totC_cons, totC_cons]
        omega
      | zero =>
        cases s with
        | zero => simp [totC]
        | succ s =>
          have ih := merge_min (c :: cs) ps s 0 hA h2.2 (by omega) (by omega)
          have hlt : s < (c :: cs).length := by omega
          have h3 : c.1 ≤ ((c :: cs)[s]).1 := by
            cases s with
            | zero => exact Nat.le_refl _
            | succ s => exact h1.1 _ (List.getElem_mem _)
          rw [show s + 1 + 0 = (s + 0) + 1 by omega, List.take_succ_cons, totC_cons, totC_take_succ (c := 0) (c :: cs) s hlt]
          simp only [List.take_zero, totC_nil, Nat.add_zero, Nat.zero_add] at ih ⊢
          omega
  termination_by A B => A.length + B.length
theorem sub_min {A B : PL} (h : B.Sublist A) : SortP A → totC (A.take B.length) ≤ totC B := by
  induction h with
  | slnil => intro _; simp [totC]
  | @cons B A a h ih =>
    intro hA
    have h1 := List.pairwise_cons.1 hA
    have ih := ih h1.2
    have hl := h.length_le
    cases hB : B.length with
    | zero => simp [totC]
    | succ b =>
      rw [hB] at ih hl
      rw [List.take_succ_cons, totC_cons]
      have hb : b < A.length := by omega
      rw [totC_take_succ (c := 0) A b hb] at ih
      have := h1.1 A[b] (List.getElem_mem _)
      omega
  | @cons_cons B A a h ih =>
    intro hA
    have h1 := List.pairwise_cons.1 hA
    rw [List.length_cons, List.take_succ_cons, totC_cons, totC_cons]
    have := ih h1.2
    omega
theorem pairs_tot : ∀ (L : PL) (p : Nat), 2 * p ≤ L.length → totC ((pairsP L).take p) = totC (L.take (2 * p))
  | L, 0, _ => by simp [totC]
  | [], p + 1, h => by simp at h
  | [a], p + 1, h => by simp at h; omega
  | a :: b :: r, p + 1, h => by
    have ih := pairs_tot r p (by simp at h; omega)
    rw [pairsP, List.take_succ_cons, totC_cons, ih, show 2 * (p + 1) = (2 * p) + 1 + 1 by omega, List.take_succ_cons, List.take_succ_cons, totC_cons, totC_cons]
    simp only [both2]
    omega
def wid (S : Nat → PL) (k : Nat) : Nat := sg (fun j => (S j).length * 2 ^ j) (k + 1)
def cst (S : Nat → PL) (k : Nat) : Nat := sg (fun j => totC (S j)) (k + 1)
theorem wid_bound {own : PL} {S : Nat → PL} (h : ∀ j, (S j).length ≤ own.length) : ∀ k, wid S k + own.length ≤ own.length * 2 ^ (k + 1)
  | 0 => by
    have := h 0
    simp [wid, sg]
    omega
  | k + 1 => by
    have ih := wid_bound h k
    have h2 : (S (k + 1)).length * 2 ^ (k + 1) ≤ own.length * 2 ^ (k + 1) := Nat.mul_le_mul_right _ (h _)
    have h3 : own.length * 2 ^ (k + 1 + 1) = own.length * 2 ^ (k + 1) * 2 := by rw [Nat.pow_succ, Nat.mul_assoc]
    unfold wid at *
    rw [sg, h3]
    omega
theorem opt {own : PL} (hs : SortP own) (S : Nat → PL) (hS : ∀ j, (S j).Sublist own) : ∀ k x, x * 2 ^ k ≤ wid S k → totC ((levelP own k).take x) ≤ cst S k
  | 0, x, h => by
    simp only [wid, sg, Nat.pow_zero, Nat.mul_one, Nat.zero_add] at h
    simp only [cst, sg, Nat.zero_add, levelP]
    exact Nat.le_trans (totC_take_le own _ _ h) (sub_min (hS 0) hs)
  | k + 1, x, h => by
    have hl : ∀ j, (S j).length ≤ own.length := fun j => (hS j).length_le
    have hm := sub_min (hS (k + 1)) hs
    have hsl := sort_level own hs k
    have hsp := sort_pairs _ hsl
    have hc : cst S (k + 1) = cst S k + totC (S (k + 1)) := rfl
    have hw : wid S (k + 1) = wid S k + (S (k + 1)).length * 2 ^ (k + 1) := rfl
    rw [levelP]
    rcases Nat.lt_or_ge (S (k + 1)).length x with hx | hx
    · obtain ⟨t, rfl⟩ : ∃ t, x = (S (k + 1)).length + t := ⟨x - (S (k + 1)).length, by omega⟩
      have h1 : 2 * t * 2 ^ k ≤ wid S k := by
        rw [hw, Nat.add_mul] at h
        have : 2 * t * 2 ^ k = t * 2 ^ (k + 1) := by rw [Nat.pow_succ, Nat.mul_comm 2 t, Nat.mul_assoc, Nat.mul_comm 2]
        omega
      have ih := opt hs S hS k (2 * t) h1
      have hb := wid_bound hl k
      obtain ⟨hl1, hl2⟩ := level_len own k
      have h2 : 2 * t ≤ (levelP own k).length := by
        have e1 : own.length * 2 ^ (k + 1) = 2 * own.length * 2 ^ k := by rw [Nat.pow_succ, Nat.mul_comm 2 own.length, Nat.mul_assoc, Nat.mul_comm 2]
        rw [Nat.sub_mul] at hl2
        have h3 : (levelP own k).length * 2 ^ k ≤ 2 * own.length * 2 ^ k := Nat.mul_le_mul_right _ hl1
        have h4 : 2 * t * 2 ^ k < ((levelP own k).length + 1) * 2 ^ k := by
          rw [Nat.add_mul, Nat.one_mul]
          omega
        have := Nat.lt_of_mul_lt_mul_right h4
        omega
      have h3 : t ≤ (pairsP (levelP own k)).length := by rw [pairsP_len]; omega
      have h4 := merge_min own (pairsP (levelP own k)) (S (k + 1)).length t hs hsp (hl _) h3
      rw [pairs_tot _ t h2] at h4
      omega
    · have h4 := merge_min own (pairsP (levelP own k)) x 0 hs hsp (Nat.le_trans hx (hl _)) (by omega)
      have h5 := totC_take_le own x _ hx
      simp only [Nat.add_zero, List.take_zero, totC_nil] at h4
      omega
/-! ### the nodes that lengths stand for -/
def gN (k e : Nat) : Nat := if e ≤ k then 2 ^ (k + 1) - 2 ^ e else 0
theorem gN_succ (k e : Nat) : gN (k + 1) e = gN k e + (if e ≤ k + 1 then 2 ^ (k + 1) else 0) := by
  unfold gN
  have h1 : 2 ^ (k + 1 + 1) = 2 ^ (k + 1) * 2 := Nat.pow_succ ..
  by_cases h : e ≤ k
  · have h2 : 2 ^ e ≤ 2 ^ (k + 1) := Nat.pow_le_pow_right (by omega) (by omega)
    rw [if_pos h, if_pos (by omega), if_pos (by omega)]
    omega
  · by_cases h3 : e = k + 1
    · subst h3; rw [if_neg h, if_pos (by omega), if_pos (by omega)]; omega
    · rw [if_neg h, if_neg (by omega), if_neg (by omega)]
theorem wid_filter (own : PL) (e : Nat × List Nat → Nat) : ∀ k, wid (fun j => own.filter fun c => decide (e c ≤ j)) k = (own.map fun c => gN k (e c)).sum
  | 0 => by
    simp only [wid, sg, Nat.pow_zero, Nat.mul_one, Nat.zero_add]
    induction own with
    | nil => rfl
    | cons a r ih =>
      rw [List.map_cons, List.sum_cons, ← ih, List.filter_cons]
      by_cases h : e a ≤ 0
      · have h0 : e a = 0 := by omega
        simp [h0, gN]; omega
      · simp [h, gN]
  | k + 1 => by
    have ih := wid_filter own e k
    have hw : ∀ S : Nat → PL, wid S (k + 1) = wid S k + (S (k + 1)).length * 2 ^ (k + 1) := fun _ => rfl
    rw [hw, ih]
    have h2 : ∀ l : PL, (l.map fun c => gN k (e c)).sum + (l.filter fun c => decide (e c ≤ k + 1)).length * 2 ^ (k + 1) = (l.map fun c => gN (k + 1) (e c)).sum := by
      intro l
      induction l with
      | nil => simp
      | cons a r ih2 =>
        rw [List.map_cons, List.sum_cons, List.map_cons, List.sum_cons, ← ih2, gN_succ, List.filter_cons]
        by_cases h : e a ≤ k + 1
        · simp only [h, decide_true, if_true, List.length_cons, Nat.add_mul, Nat.one_mul]; omega
        · simp only [h, decide_false, Bool.false_eq_true, if_false]; omega
    exact h2 own
theorem cst_filter (own : PL) (e : Nat × List Nat → Nat) : ∀ k, cst (fun j => own.filter fun c => decide (e c ≤ j)) k = (own.map fun c => c.1 * (k + 1 - e c)).sum
  | 0 => by
    simp only [cst, sg, Nat.zero_add]
    induction own with
    | nil => rfl
    | cons a r ih =>
      rw [List.map_cons, List.sum_cons, ← ih, List.filter_cons]
      by_cases h : e a ≤ 0
      · have h0 : e a = 0 := by omega
        simp [h0, totC_cons]
      · have h1 : 1 - e a = 0 := by omega
        simp [h, h1]
  | k + 1 => by
    have ih := cst_filter own e k
    have hw : ∀ S : Nat → PL, cst S (k + 1) = cst S k + totC (S (k + 1)) := fun _ => rfl
    rw [hw, ih]
    have h2 : ∀ l : PL, (l.map fun c => c.1 * (k + 1 - e c)).sum + totC (l.filter fun c => decide (e c ≤ k + 1)) = (l.map fun c => c.1 * (k + 1 + 1 - e c)).sum := by
      intro l
      induction l with
      | nil => simp [totC]
      | cons a r ih2 =>
        rw [List.map_cons, List.sum_cons, List.map_cons, List.sum_cons, ← ih2, List.filter_cons]
        by_cases h : e a ≤ k + 1
        · have h3 : k + 1 + 1 - e a = (k + 1 - e a) + 1 := by omega
          simp only [h, decide_true, if_true, totC_cons, h3, Nat.mul_add, Nat.mul_one]; omega
        · have h3 : k + 1 + 1 - e a = 0 := by omega
          have h4 : k + 1 - e a = 0 := by omega
          simp only [h, decide_false, Bool.false_eq_true, if_false, h3, h4, Nat.mul_zero]; omega
    exact h2 own
theorem sum_coins (cs : List Nat) (g : Nat × List Nat → Nat) : ∀ n, ((coinsTo cs n).map g).sum = sg (fun k => if 0 < cs.getD k 0 then g (cs.getD k 0, [k]) else 0) n
  | 0 => rfl
  | n + 1 => by
    rw [coinsTo_succ, List.map_append, List.sum_append, sum_coins cs g n, sg]
    by_cases h : 0 < cs.getD n 0
    · rw [if_pos h, if_pos h]; simp
    · rw [if_neg h, if_neg h]; simp
theorem sum_own {cs : List Nat} {own : PL} (h : IsCoins cs own) (g : Nat × List Nat → Nat) : (own.map g).sum = sg (fun k => if 0 < cs.getD k 0 then g (cs.getD k 0, [k]) else 0) cs.length := by
  rw [← sum_coins, (h.1.map g).sum_nat]
/-- What holds of coins, and of two together, holds of all packages. -/
theorem allp_level {own : PL} (Q : Nat × List Nat → Prop) (h0 : ∀ p ∈ own, Q p) (h2 : ∀ a b, Q a → Q b → Q (both2 a b)) : ∀ k, ∀ p ∈ levelP own k, Q p
  | 0 => h0
  | k + 1 => by
    intro p hp
    rcases mem_merge _ _ p hp with h | h
    · exact h0 p h
    · obtain ⟨u, v, hu, hv, rfl⟩ := mem_pairs _ p h
      exact h2 u v (allp_level Q h0 h2 k u hu) (allp_level Q h0 h2 k v hv)
theorem sg_single (f : Nat → Nat) (s : Nat) : ∀ n, sg (fun i => if i = s then f i else 0) n = if s < n then f s else 0
  | 0 => by simp [sg]
  | n + 1 => by
    rw [sg, sg_single f s n]
    by_cases h : n = s
    · subst h; simp
    · by_cases h2 : s < n
      · rw [if_pos h2, if_neg h, if_pos (by omega)]; rfl
      · rw [if_neg h2, if_neg h, if_neg (by omega)]
theorem weigh (cs : List Nat) (n : Nat) : ∀ fl : List Nat, (∀ s ∈ fl, s < n) → (fl.map fun s => cs.getD s 0).sum = sg (fun i => cs.getD i 0 * fl.count i) n
  | [], _ => by
    simp only [List.map_nil, List.sum_nil, List.count_nil, Nat.mul_zero]
    rw [sg_zero]
  | s :: r, h => by
    rw [List.map_cons, List.sum_cons, weigh cs n r (fun x hx => h x (by simp [hx]))]
    have h1 := sg_single (fun i => cs.getD i 0) s n
    rw [if_pos (h s (by simp))] at h1
    rw [← h1, ← sg_add]
    apply sg_congr
    intro i _
    rw [List.count_cons]
    by_cases hi : i = s
    · subst hi; simp [Nat.mul_add]; omega
    · rw [if_neg hi]
      have : ¬ (s == i) = true := by simp; exact fun e => hi e.symm
      rw [if_neg this, Nat.add_zero, Nat.zero_add]
def wok (cs : List Nat) (p : Nat × List Nat) : Prop := p.1 = (p.2.map fun s => cs.getD s 0).sum ∧ ∀ s ∈ p.2, s < cs.length
theorem wok_own {cs : List Nat} {own : PL} (h : IsCoins cs own) : ∀ p ∈ own, wok cs p := by
  intro p hp
  obtain ⟨k, hk, _, rfl⟩ := coinsTo_mem (h.1.mem_iff.1 hp)
  exact ⟨by simp, by simp [hk]⟩
theorem wok_both {cs : List Nat} (a b : Nat × List Nat) (ha : wok cs a) (hb : wok cs b) : wok cs (both2 a b) := by
  refine ⟨?_, fun s hs => ?_⟩
  · simp only [both2, List.map_append, List.sum_append]
    rw [← ha.1, ← hb.1]
  · rcases List.mem_append.1 hs with h | h
    · exact ha.2 s h
    · exact hb.2 s h
theorem tot_weigh {cs : List Nat} : ∀ l : PL, (∀ p ∈ l, wok cs p) → totC l = sg (fun i => cs.getD i 0 * (l.flatMap Prod.snd).count i) cs.length := by
  intro l h
  rw [← weigh cs cs.length _ (fun s hs => by
    obtain ⟨p, hp, hsp⟩ := List.mem_flatMap.1 hs
    exact (h p hp).2 s hsp)]
  induction l with
  | nil => rfl
  | cons a r ih =>
    rw [totC_cons, ih (fun p hp => h p (by simp [hp])), List.flatMap_cons, List.map_append, List.sum_append, ← (h a (by simp)).1]
theorem vec_getD (n : Nat) (l : PL) (i : Nat) (hi : i < n) : (vecOf n l).getD i 0 = (l.flatMap Prod.snd).count i := by
  rw [vecOf_eq]
  simp [cntV, List.getD, hi]
/-- The coins' lengths need as many bits as what is taken counts. -/
theorem cost_vec {cs : List Nat} (l : PL) (h : ∀ p ∈ l, wok cs p) : sg (fun i => cs.getD i 0 * (vecOf cs.length l).getD i 0) cs.length = totC l := by
  rw [tot_weigh l h]
  exact sg_congr _ (fun i hi => by rw [vec_getD _ _ _ hi])
theorem sum_le {l : PL} {f h : Nat × List Nat → Nat} (e : ∀ p ∈ l, f p ≤ h p) : (l.map f).sum ≤ (l.map h).sum := by
  induction l with
  | nil => simp
  | cons a r ih =>
    rw [List.map_cons, List.map_cons, List.sum_cons, List.sum_cons]
    have := e a (by simp)
    have := ih (fun p hp => e p (by simp [hp]))
    omega
theorem best_cost {cs : List Nat} {own : PL} {m : Nat} (hco : IsCoins cs own) (hn : cs.length ≤ 320) (hm1 : 1 ≤ m) (hm15 : m ≤ 15) (o : Nat → Nat) (ho : ∀ i, i < cs.length → o i ≤ m) (ho1 : ∀ i, i < cs.length → 0 < cs.getD i 0 → 0 < o i)
    (hk : sg (fun i => if 0 < o i then 2 ^ (15 - o i) else 0) cs.length ≤ 32768) : sg (fun i => cs.getD i 0 * (lenP cs.length m own).getD i 0) cs.length ≤ sg (fun i => cs.getD i 0 * o i) cs.length := by
  have hsym : ∀ p ∈ own, ∃ k, k < cs.length ∧ 0 < cs.getD k 0 ∧ p = (cs.getD k 0, [k]) := fun p hp => coinsTo_mem (hco.1.mem_iff.1 hp)
  have hR : (own.map fun c => c.1 * o (c.2.headD 0)).sum ≤ sg (fun i => cs.getD i 0 * o i) cs.length := by
    rw [sum_own hco]
    refine sg_le _ (fun i _ => ?_)
    by_cases h : 0 < cs.getD i 0
    · rw [if_pos h]; exact Nat.le_refl _
    · rw [if_neg h]; omega
  refine Nat.le_trans ?_ hR
  unfold lenP
  by_cases h1 : own.length ≤ 1
  · rw [if_pos h1, cost_vec own (wok_own hco)]
    refine sum_le (f := Prod.fst) (fun p hp => ?_)
    obtain ⟨k, hk1, hk2, rfl⟩ := hsym p hp
    have := ho1 k hk1 hk2
    exact Nat.le_mul_of_pos_right _ this
  · rw [if_neg h1, cost_vec _ (fun p hp => allp_level (wok cs) (wok_own hco) wok_both (m - 1) p (List.mem_of_mem_take hp))]
    have hs := sort_coins hco hn
    have h2 := opt hs (fun j => own.filter fun c => decide (m - o (c.2.headD 0) ≤ j)) (fun j => List.filter_sublist) (m - 1) (2 * own.length - 2) ?_
    · rw [cst_filter] at h2
      refine Nat.le_trans h2 (sum_le (fun p hp => ?_))
      obtain ⟨k, hk1, hk2, rfl⟩ := hsym p hp
      have := ho k hk1
      simp only [List.headD_cons]
      rw [show m - 1 + 1 - (m - o k) = o k by omega]
      exact Nat.le_refl _
    · rw [wid_filter]
      have e1 : ∀ l : PL, (∀ p ∈ l, p ∈ own) → (l.map fun c => gN (m - 1) (m - o (c.2.headD 0))).sum + (l.map fun c => 2 ^ (m - o (c.2.headD 0))).sum = l.length * 2 ^ m := by
        intro l
        induction l with
        | nil => intro _; simp
        | cons a r ih =>
          intro h
          obtain ⟨k, hk1, hk2, rfl⟩ := hsym a (h a (by simp))
          have h3 := ih (fun p hp => h p (by simp [hp]))
          have h4 := ho k hk1
          have h5 := ho1 k hk1 hk2
          have h6 : 2 ^ (m - o k) ≤ 2 ^ m := Nat.pow_le_pow_right (by omega) (by omega)
          rw [List.map_cons, List.map_cons, List.sum_cons, List.sum_cons, List.length_cons, Nat.add_mul, Nat.one_mul, ← h3]
          have hg : gN (m - 1) (m - o k) = 2 ^ m - 2 ^ (m - o k) := by unfold gN; rw [if_pos (by omega), show m - 1 + 1 = m by omega]
          simp only [List.headD_cons]
          rw [hg]
          omega
      have e2 := e1 own (fun p hp => hp)
      have e3 : (own.map fun c => 2 ^ (m - o (c.2.headD 0))).sum * 2 ^ (15 - m) ≤ 32768 := by
        have h3 : (own.map fun c => 2 ^ (15 - o (c.2.headD 0))).sum ≤ 32768 := by
          refine Nat.le_trans ?_ hk
          rw [sum_own hco]
          refine sg_le _ (fun i hi => ?_)
          by_cases h : 0 < cs.getD i 0
          · rw [if_pos h, if_pos (ho1 i hi h)]; exact Nat.le_refl _
          · rw [if_neg h]; omega
        have h4 : ∀ l : PL, (∀ p ∈ l, p ∈ own) → (l.map fun c => 2 ^ (m - o (c.2.headD 0))).sum * 2 ^ (15 - m) = (l.map fun c => 2 ^ (15 - o (c.2.headD 0))).sum := by
          intro l
          induction l with
          | nil => intro _; simp
          | cons a r ih =>
            intro h
            obtain ⟨k, hk1, hk2, rfl⟩ := hsym a (h a (by simp))
            have h5 := ho k hk1
            rw [List.map_cons, List.map_cons, List.sum_cons, List.sum_cons, Nat.add_mul, ih (fun p hp => h p (by simp [hp]))]
            simp only [List.headD_cons]
            rw [← Nat.pow_add, show m - o k + (15 - m) = 15 - o k by omega]
        rw [h4 own (fun p hp => hp)]
        exact h3
      have e4 : (own.map fun c => 2 ^ (m - o (c.2.headD 0))).sum ≤ 2 ^ m := by
        have h3 : 2 ^ m * 2 ^ (15 - m) = 32768 := by rw [← Nat.pow_add, show m + (15 - m) = 15 by omega]
        rw [← h3] at e3
        exact Nat.le_of_mul_le_mul_right e3 (Nat.pow_pos (by omega))
      have e5 : (2 * own.length - 2) * 2 ^ (m - 1) = own.length * 2 ^ m - 2 ^ m := by
        have h3 : 2 ^ (m - 1 + 1) = 2 ^ (m - 1) * 2 := Nat.pow_succ ..
        rw [show m - 1 + 1 = m by omega] at h3
        rw [h3, Nat.sub_mul, Nat.mul_comm 2 own.length, Nat.mul_assoc, Nat.mul_comm (2 ^ (m - 1)) 2]
      omega
/-- No symbol is in more packages than there are levels. -/
theorem flat_count_merge (s : Nat) : ∀ a b : PL, ((mergeP a b).flatMap Prod.snd).count s = (a.flatMap Prod.snd).count s + (b.flatMap Prod.snd).count s
  | [], b => by simp [mergeP]
  | c :: cs, [] => by simp [mergeP]
  | c :: cs, p :: ps => by
    rw [mergeP]
    split
    · rw [List.flatMap_cons, List.count_append, flat_count_merge s cs (p :: ps), List.flatMap_cons (x := c), List.count_append]; omega
    · rw [List.flatMap_cons, List.count_append, flat_count_merge s (c :: cs) ps, List.flatMap_cons (x := p), List.count_append]; omega
  termination_by a b => a.length + b.length
theorem flat_count_pairs (s : Nat) : ∀ l : PL, ((pairsP l).flatMap Prod.snd).count s ≤ (l.flatMap Prod.snd).count s
  | [] => by simp [pairsP]
  | [a] => by simp [pairsP]
  | a :: b :: r => by
    have := flat_count_pairs s r
    rw [pairsP, List.flatMap_cons, List.flatMap_cons, List.flatMap_cons]
    simp only [both2, List.count_append]
    omega
theorem flat_count_level (own : PL) (s : Nat) : ∀ k, ((levelP own k).flatMap Prod.snd).count s ≤ (k + 1) * (own.flatMap Prod.snd).count s
  | 0 => by simp [levelP]
  | k + 1 => by
    have ih := flat_count_level own s k
    have h := flat_count_pairs s (levelP own k)
    rw [levelP, flat_count_merge, Nat.succ_mul]
    omega
theorem own_count {cs : List Nat} {own : PL} (h : IsCoins cs own) (s : Nat) : (own.flatMap Prod.snd).count s = if s < cs.length ∧ 0 < cs.getD s 0 then 1 else 0 := by
  have e : (own.flatMap Prod.snd).count s = (own.map fun p => p.2.count s).sum := by
    clear h
    induction own with
    | nil => rfl
    | cons a r ih => rw [List.flatMap_cons, List.count_append, ih, List.map_cons, List.sum_cons]
  rw [e, sum_own h]
  have h2 := sg_single (fun k => if 0 < cs.getD k 0 then 1 else 0) s cs.length
  rw [sg_congr (h := fun i => if i = s then (if 0 < cs.getD i 0 then 1 else 0) else 0) _ (fun k _ => ?_), h2]
  · by_cases h3 : s < cs.length
    · simp [h3]
    · simp [h3]
  · by_cases hk : k = s
    · subst hk; simp
    · simp [hk, List.count_cons]
theorem take_flat_count (l : PL) (s x : Nat) : ((l.take x).flatMap Prod.snd).count s ≤ (l.flatMap Prod.snd).count s := by
  have h : l.flatMap Prod.snd = (l.take x).flatMap Prod.snd ++ (l.drop x).flatMap Prod.snd := by rw [← List.flatMap_append, List.take_append_drop]
  rw [h, List.count_append]
  omega
theorem len_le {cs : List Nat} {own : PL} {m : Nat} (h : IsCoins cs own) (hm : 1 ≤ m) (i : Nat) (hi : i < cs.length) : (lenP cs.length m own).getD i 0 ≤ m ∧ (cs.getD i 0 = 0 → (lenP cs.length m own).getD i 0 = 0) := by
  have h1 := own_count h i
  unfold lenP
  split
  · rw [vec_getD _ _ _ hi, h1]
    split
    · rename_i h2; exact ⟨hm, fun h3 => by omega⟩
    · exact ⟨by omega, fun _ => rfl⟩
  · rw [vec_getD _ _ _ hi]
    have h2 := take_flat_count (levelP own (m - 1)) i (2 * own.length - 2)
    have h3 := flat_count_level own i (m - 1)
    rw [show m - 1 + 1 = m by omega] at h3
    rw [h1] at h3
    split at h3
    · rename_i h4; exact ⟨by omega, fun h5 => by omega⟩
    · exact ⟨by omega, fun _ => by omega⟩
end Go.Proofs.Ytebaojedpnnliaa
