/-
  Package-merge, in plain lists: the lengths are complete.
-/
import Derived.Test.YtebaojedpnnliaaLimY
namespace Go.Proofs.Ytebaojedpnnliaa
open Go.RowKit

theorem merge_pre : ∀ (A B : PL) (x : Nat), SortP A → SortP B → x ≤ A.length + B.length → ∃ a p, a + p = x ∧ a ≤ A.length ∧ p ≤ B.length ∧ ((mergeP A B).take x).Perm (A.take a ++ B.take p) ∧ ∀ i j (hi : i < A.length) (hj : j < B.length), j < p → A[i].1 ≤ B[j].1 → i < a
  | [], B, x, _, _, h => ⟨0, x, by omega, by simp, by simpa using h, by simp [mergeP], fun i j hi => by simp at hi⟩
  | c :: cs, [], x, _, _, h => ⟨x, 0, by omega, by simpa using h, by simp, by simp [mergeP], fun i j hi hj => by simp at hj⟩
  | c :: cs, p0 :: ps, 0, _, _, h => ⟨0, 0, rfl, by omega, by omega, by simp, fun i j hi hj h2 => by omega⟩
  | c :: cs, p0 :: ps, x + 1, hA, hB, h => by
    have h1 := List.pairwise_cons.1 hA
    have h2 := List.pairwise_cons.1 hB
    rw [mergeP]
    by_cases hc : c.1 ≤ p0.1
    · obtain ⟨a, p, e, ha, hp, hperm, hb⟩ := merge_pre cs (p0 :: ps) x h1.2 hB (by simp at h ⊢; omega)
      rw [if_pos hc]
      refine ⟨a + 1, p, by omega, by simpa using ha, hp, ?_, ?_⟩
      · rw [List.take_succ_cons, List.take_succ_cons, List.cons_append]
        exact hperm.cons c
      · intro i j hi hj hjp hle
        cases i with
        | zero => omega
        | succ i =>
          have := hb i j (by simpa using hi) hj hjp hle
          omega
    · obtain ⟨a, p, e, ha, hp, hperm, hb⟩ := merge_pre (c :: cs) ps x hA h2.2 (by simp at h ⊢; omega)
      rw [if_neg hc]
      refine ⟨a, p + 1, by omega, ha, by simpa using hp, ?_, ?_⟩
      · rw [List.take_succ_cons, List.take_succ_cons]
        exact (hperm.cons p0).trans List.perm_middle.symm
      · intro i j hi hj hjp hle
        cases j with
        | zero =>
          exfalso
          have h3 : c.1 ≤ ((c :: cs)[i]).1 := by
            cases i with
            | zero => exact Nat.le_refl _
            | succ i => exact h1.1 _ (List.getElem_mem _)
          simp only [List.getElem_cons_zero] at hle
          omega
        | succ j => exact hb i j hi (by simpa using hj) (by omega) hle
  termination_by A B => A.length + B.length
theorem pair_ge : ∀ (L : PL) (q : Nat) (hq : q < L.length) (h : q / 2 < (pairsP L).length), L[q].1 ≤ ((pairsP L)[q / 2]).1
  | [], q, hq, _ => by simp at hq
  | [a], q, _, h => by simp [pairsP] at h
  | a :: b :: r, 0, _, _ => by simp [pairsP, both2]
  | a :: b :: r, 1, _, _ => by simp [pairsP, both2]
  | a :: b :: r, q + 2, hq, h => by
    have e : (q + 2) / 2 = q / 2 + 1 := by omega
    have h2 : q / 2 < (pairsP r).length := by simp only [pairsP, List.length_cons, e] at h; omega
    have := pair_ge r q (by simpa using hq) h2
    simp only [List.getElem_cons_succ, pairsP, e]
    exact this
theorem pairs_flat : ∀ (L : PL) (p : Nat), 2 * p ≤ L.length → ((pairsP L).take p).flatMap Prod.snd = (L.take (2 * p)).flatMap Prod.snd
  | L, 0, _ => by simp
  | [], p + 1, h => by simp at h
  | [a], p + 1, h => by simp at h; omega
  | a :: b :: r, p + 1, h => by
    have ih := pairs_flat r p (by simp at h; omega)
    rw [pairsP, List.take_succ_cons, List.flatMap_cons, ih, show 2 * (p + 1) = (2 * p) + 1 + 1 by omega, List.take_succ_cons, List.take_succ_cons, List.flatMap_cons, List.flatMap_cons]
    simp [both2]
theorem mem_take_of {l : PL} {i x : Nat} (hi : i < l.length) (h : i < x) : l[i] ∈ l.take x := by
  have : (l.take x)[i]'(by simp; omega) = l[i] := by simp
  rw [← this]
  exact List.getElem_mem _
theorem level_pre {own : PL} (hs : SortP own) : ∀ k x, x ≤ (levelP own k).length → ∃ a : Nat → Nat, (∀ j, j ≤ k → a j ≤ own.length) ∧ (∀ j, j < k → a j ≤ a (j + 1)) ∧ x * 2 ^ k = sg (fun j => a j * 2 ^ j) (k + 1) ∧
    (∀ s, (((levelP own k).take x).flatMap Prod.snd).count s = sg (fun j => ((own.take (a j)).flatMap Prod.snd).count s) (k + 1)) ∧ ∀ i (hi : i < own.length), i < a k → own[i] ∈ (levelP own k).take x
  | 0, x, h => ⟨fun _ => x, fun _ _ => h, fun _ _ => Nat.le_refl _, by simp [sg], fun s => by simp [sg, levelP], fun i hi hx => mem_take_of hi hx⟩
  | k + 1, x, h => by
    have hsl := sort_level own hs k
    have hsp := sort_pairs _ hsl
    rw [levelP, len_merge] at h
    obtain ⟨a', p, e, ha, hp, hperm, hb⟩ := merge_pre own (pairsP (levelP own k)) x hs hsp h
    have hpl := pairsP_len (levelP own k)
    have h2p : 2 * p ≤ (levelP own k).length := by omega
    obtain ⟨a, h1, h2, h3, h4, h5⟩ := level_pre hs k (2 * p) h2p
    have hmono : a k ≤ a' := by
      refine Nat.le_of_not_lt fun hlt => ?_
      have hi : a' < own.length := Nat.lt_of_lt_of_le hlt (h1 k (Nat.le_refl _))
      obtain ⟨q, hq, hqe⟩ := List.getElem_of_mem (h5 a' hi hlt)
      rw [List.length_take] at hq
      have hq2 : q / 2 < (pairsP (levelP own k)).length := by omega
      have h6 := pair_ge (levelP own k) q (by omega) hq2
      rw [List.getElem_take] at hqe
      rw [hqe] at h6
      have := hb a' (q / 2) hi hq2 (by omega) h6
      omega
    have hc : ∀ (f : Nat → Nat → Nat), sg (fun j => f (if j ≤ k then a j else a') j) (k + 1) = sg (fun j => f (a j) j) (k + 1) := fun f => sg_congr _ (fun j hj => by rw [if_pos (by omega)])
    refine ⟨fun j => if j ≤ k then a j else a', ?_, ?_, ?_, ?_, ?_⟩
    · intro j hj
      dsimp only
      split
      · exact h1 j (by assumption)
      · exact ha
    · intro j hj
      dsimp only
      rw [if_pos (by omega)]
      by_cases hjk : j = k
      · subst hjk; rw [if_neg (by omega)]; exact hmono
      · rw [if_pos (by omega)]; exact h2 j (by omega)
    · rw [sg, hc (fun y j => y * 2 ^ j), ← h3]
      dsimp only
      rw [if_neg (by omega), ← e, Nat.add_mul, Nat.pow_succ, Nat.mul_comm 2 p, Nat.mul_assoc p 2, Nat.mul_comm 2 (2 ^ k)]
      omega
    · intro s
      rw [sg, hc (fun y j => ((own.take y).flatMap Prod.snd).count s), ← h4 s, ← pairs_flat _ _ h2p, levelP]
      dsimp only
      rw [if_neg (by omega), (hperm.flatMap_right _).count_eq, List.flatMap_append, List.count_append]
      omega
    · intro i hi hia
      dsimp only at hia
      rw [if_neg (by omega)] at hia
      rw [levelP]
      exact hperm.mem_iff.2 (List.mem_append_left _ (mem_take_of hi hia))
theorem mono_le {a : Nat → Nat} {k : Nat} (h : ∀ j, j < k → a j ≤ a (j + 1)) : ∀ d j, j + d = k → a j ≤ a k
  | 0, j, e => by subst e; exact Nat.le_refl _
  | d + 1, j, e => Nat.le_trans (h j (by omega)) (mono_le h d (j + 1) (by omega))
/-- What a coin takes of the whole. -/
theorem kraft1 (a : Nat → Nat) (i : Nat) : ∀ k, (∀ j, j < k → a j ≤ a (j + 1)) → sg (fun j => if i < a j then 1 else 0) (k + 1) ≤ k + 1 ∧ sg (fun j => if i < a j then 2 ^ j else 0) (k + 1) + 2 ^ (k + 1 - sg (fun j => if i < a j then 1 else 0) (k + 1)) = 2 ^ (k + 1)
  | 0, _ => by
    by_cases h : i < a 0
    · simp [sg, h]
    · simp [sg, h]
  | k + 1, hm => by
    obtain ⟨h1, h2⟩ := kraft1 a i k (fun j hj => hm j (by omega))
    have e1 : ∀ f : Nat → Nat, sg f (k + 1 + 1) = sg f (k + 1) + f (k + 1) := fun _ => rfl
    rw [e1, e1]
    by_cases h : i < a (k + 1)
    · rw [if_pos h, if_pos h]
      refine ⟨by omega, ?_⟩
      have h3 : 2 ^ (k + 1 + 1) = 2 ^ (k + 1) * 2 := Nat.pow_succ ..
      rw [show k + 1 + 1 - (sg (fun j => if i < a j then 1 else 0) (k + 1) + 1) = k + 1 - sg (fun j => if i < a j then 1 else 0) (k + 1) by omega]
      omega
    · have h4 : ∀ j, j < k + 1 → ¬ i < a j := fun j hj h5 => h (Nat.lt_of_lt_of_le h5 (mono_le hm (k + 1 - j) j (by omega)))
      have h5 : sg (fun j => if i < a j then 1 else 0) (k + 1) = 0 := by rw [sg_congr (h := fun _ => 0) _ (fun j hj => if_neg (h4 j hj)), sg_zero]
      have h6 : sg (fun j => if i < a j then 2 ^ j else 0) (k + 1) = 0 := by rw [sg_congr (h := fun _ => 0) _ (fun j hj => if_neg (h4 j hj)), sg_zero]
      rw [if_neg h, if_neg h, h5, h6]
      simp
theorem map_sum_sg (g : Nat × List Nat → Nat) (l : PL) : ∀ i, i ≤ l.length → ((l.take i).map g).sum = sg (fun k => g (l.getD k (0, []))) i
  | 0, _ => rfl
  | i + 1, h => by
    rw [List.take_add_one, List.getElem?_eq_getElem (show i < l.length by omega), List.map_append, List.sum_append, map_sum_sg g l i (by omega), sg]
    simp [List.getD, List.getElem?_eq_getElem (show i < l.length by omega)]
theorem sg_ge (f : Nat → Nat) (i : Nat) : ∀ n, i < n → (∀ k, k < n → 1 ≤ f k) → f i + (n - 1) ≤ sg f n
  | 0, h, _ => by omega
  | n + 1, h, h1 => by
    rw [sg]
    have h2 := h1 n (by omega)
    by_cases e : i = n
    · subst e
      have : ∀ m, m ≤ i → m ≤ sg f m := fun m => by
        induction m with
        | zero => intro _; omega
        | succ m ih =>
          intro hm
          have := ih (by omega)
          have := h1 m (by omega)
          rw [sg]; omega
      have := this i (Nat.le_refl _)
      omega
    · have := sg_ge f i n (by omega) (fun k hk => h1 k (by omega))
      omega
theorem take_own_count {cs : List Nat} {own : PL} (h : IsCoins cs own) (i b : Nat) (hi : i < own.length) : ((own.take b).flatMap Prod.snd).count (own[i].2.headD 0) = if i < b then 1 else 0 := by
  obtain ⟨k, hk, hk0, he⟩ := coinsTo_mem (h.1.mem_iff.1 (List.getElem_mem hi))
  have hsy : own[i].2 = [k] := by rw [he]
  rw [hsy, List.headD_cons]
  have h1 := own_count h k
  rw [if_pos ⟨hk, hk0⟩] at h1
  have hsplit : own = own.take i ++ own[i] :: own.drop (i + 1) := by rw [← List.drop_eq_getElem_cons hi, List.take_append_drop]
  have h2 : ((own.take i).flatMap Prod.snd).count k + (1 + ((own.drop (i + 1)).flatMap Prod.snd).count k) = (own.flatMap Prod.snd).count k := by
    conv => rhs; rw [hsplit]
    rw [List.flatMap_append, List.flatMap_cons, hsy, List.count_append, List.count_append]
    simp
  rw [h1] at h2
  by_cases hb : i < b
  · rw [if_pos hb]
    have h3 := take_flat_count own k b
    have h4 : own.take b = own.take i ++ own[i] :: (own.drop (i + 1)).take (b - (i + 1)) := by
      conv => lhs; rw [hsplit]
      rw [List.take_append, List.length_take, Nat.min_eq_left (by omega), List.take_of_length_le (by simp; omega), show b - i = (b - (i + 1)) + 1 by omega, List.take_succ_cons]
    rw [h4, List.flatMap_append, List.flatMap_cons, hsy, List.count_append, List.count_append]
    rw [h4, List.flatMap_append, List.flatMap_cons, hsy, List.count_append, List.count_append] at h3
    simp at h3 ⊢
    omega
  · rw [if_neg hb]
    have h4 : own.take b = (own.take i).take b := by rw [List.take_take, Nat.min_eq_left (by omega)]
    have h3 := take_flat_count (own.take i) k b
    rw [h4]
    omega
theorem whole10 {cs : List Nat} {own : PL} {m : Nat} (hco : IsCoins cs own) (hn : cs.length ≤ 320) (hm1 : 1 ≤ m) (hm15 : m ≤ 15) (hfit : own.length ≤ 2 ^ m) :
    (∀ i, i < cs.length → ((lenP cs.length m own).getD i 0 = 0 ↔ cs.getD i 0 = 0)) ∧ sg (fun k => if 0 < (lenP cs.length m own).getD k 0 then 2 ^ (15 - (lenP cs.length m own).getD k 0) else 0) cs.length = if 2 ≤ own.length then 32768 else own.length * 16384 := by
  have hone : ∀ c : Nat, (own.map fun _ => c).sum = own.length * c := by
    intro c
    generalize own = l
    induction l with
    | nil => simp
    | cons a r ih => rw [List.map_cons, List.sum_cons, ih, List.length_cons, Nat.succ_mul]; omega
  by_cases h1 : own.length ≤ 1
  · have hR : ∀ i, i < cs.length → (lenP cs.length m own).getD i 0 = if 0 < cs.getD i 0 then 1 else 0 := by
      intro i hi
      unfold lenP
      rw [if_pos h1, vec_getD _ _ _ hi, own_count hco]
      by_cases h2 : 0 < cs.getD i 0
      · rw [if_pos ⟨hi, h2⟩, if_pos h2]
      · rw [if_neg (fun h => h2 h.2), if_neg h2]
    refine ⟨fun i hi => ?_, ?_⟩
    · rw [hR i hi]
      by_cases h2 : 0 < cs.getD i 0
      · rw [if_pos h2]; omega
      · rw [if_neg h2]; omega
    · rw [if_neg (by omega), ← hone, sum_own hco]
      refine sg_congr _ (fun i hi => ?_)
      rw [hR i hi]
      by_cases h2 : 0 < cs.getD i 0
      · rw [if_pos h2, if_pos h2, if_pos (by omega)]
      · rw [if_neg h2, if_neg h2, if_neg (by omega)]
  · obtain ⟨q, rfl⟩ : ∃ q, m = q + 1 := ⟨m - 1, by omega⟩
    have hen := level_enough own q hfit
    obtain ⟨a, ha1, ha2, ha3, ha4, _⟩ := level_pre (sort_coins hco hn) q (2 * own.length - 2) hen
    have hL : ∀ i (hi : i < own.length), (lenP cs.length (q + 1) own).getD (own[i].2.headD 0) 0 = sg (fun j => if i < a j then 1 else 0) (q + 1) := by
      intro i hi
      obtain ⟨k, hk, hk0, he⟩ := coinsTo_mem (hco.1.mem_iff.1 (List.getElem_mem hi))
      unfold lenP
      rw [if_neg h1, Nat.add_sub_cancel, vec_getD _ _ _ (by rw [he]; exact hk), ha4]
      exact sg_congr _ (fun j _ => take_own_count hco i (a j) hi)
    have hsum : sg (fun i => 2 ^ (q + 1 - sg (fun j => if i < a j then 1 else 0) (q + 1))) own.length = 2 ^ (q + 1) := by
      have e1 : sg (fun i => sg (fun j => if i < a j then 2 ^ j else 0) (q + 1)) own.length = (2 * own.length - 2) * 2 ^ q := by
        rw [sg_swap, ha3]
        refine sg_congr _ (fun j hj => ?_)
        have e2 : sg (fun i => (if i < a j then 1 else 0) * 2 ^ j) own.length = a j * 2 ^ j := by rw [sg_mul, sg_lt _ _ (ha1 j (by omega))]
        rw [← e2]
        exact sg_congr _ (fun i _ => by split <;> simp)
      have e3 : sg (fun i => sg (fun j => if i < a j then 2 ^ j else 0) (q + 1) + 2 ^ (q + 1 - sg (fun j => if i < a j then 1 else 0) (q + 1))) own.length = own.length * 2 ^ (q + 1) := by
        rw [sg_congr (h := fun _ => 2 ^ (q + 1)) _ (fun i _ => (kraft1 a i q ha2).2)]
        generalize own.length = z
        induction z with
        | zero => simp [sg]
        | succ z ih => rw [sg, ih, Nat.succ_mul]
      rw [sg_add, e1] at e3
      have e4 : (2 * own.length - 2) * 2 ^ q = own.length * 2 ^ (q + 1) - 2 ^ (q + 1) := by
        have h3 : 2 ^ (q + 1) = 2 ^ q * 2 := Nat.pow_succ ..
        rw [h3, Nat.sub_mul, Nat.mul_comm 2 own.length, Nat.mul_assoc, Nat.mul_comm (2 ^ q) 2]
      have e5 : 2 ^ (q + 1) ≤ own.length * 2 ^ (q + 1) := Nat.le_mul_of_pos_left _ (by omega)
      omega
    have hpos : ∀ i, i < own.length → 0 < sg (fun j => if i < a j then 1 else 0) (q + 1) := by
      intro i hi
      refine Nat.pos_of_ne_zero fun h0 => ?_
      have h2 := sg_ge (fun i => 2 ^ (q + 1 - sg (fun j => if i < a j then 1 else 0) (q + 1))) i own.length hi (fun k _ => Nat.pow_pos (by omega))
      rw [hsum] at h2
      rw [h0, Nat.sub_zero] at h2
      omega
    have hcome : ∀ s, s < cs.length → 0 < cs.getD s 0 → ∃ i, ∃ hi : i < own.length, own[i].2.headD 0 = s := by
      intro s hs hs0
      have hmem : (cs.getD s 0, [s]) ∈ own := by
        refine hco.1.mem_iff.2 ?_
        unfold coinsTo
        exact List.mem_map.2 ⟨s, List.mem_filter.2 ⟨List.mem_range.2 hs, by simpa using hs0⟩, rfl⟩
      obtain ⟨i, hi, he⟩ := List.getElem_of_mem hmem
      exact ⟨i, hi, by rw [he]; rfl⟩
    have hz : ∀ i, i < cs.length → ((lenP cs.length (q + 1) own).getD i 0 = 0 ↔ cs.getD i 0 = 0) := by
      intro s hs
      refine ⟨fun h => ?_, (len_le hco hm1 s hs).2⟩
      refine Classical.byContradiction fun h2 => ?_
      obtain ⟨i, hi, he⟩ := hcome s hs (by omega)
      have h3 := hL i hi
      rw [he, h] at h3
      have := hpos i hi
      omega
    refine ⟨hz, ?_⟩
    rw [if_pos (by omega)]
    have e6 : sg (fun k => if 0 < (lenP cs.length (q + 1) own).getD k 0 then 2 ^ (15 - (lenP cs.length (q + 1) own).getD k 0) else 0) cs.length = (own.map fun c => 2 ^ (15 - (lenP cs.length (q + 1) own).getD (c.2.headD 0) 0)).sum := by
      rw [sum_own hco]
      refine sg_congr _ (fun k hk => ?_)
      have h2 := hz k hk
      by_cases h3 : 0 < cs.getD k 0
      · rw [if_pos h3, if_pos (by omega)]; rfl
      · rw [if_neg h3, if_neg (by omega)]
    rw [e6]
    have e7 := map_sum_sg (fun c => 2 ^ (15 - (lenP cs.length (q + 1) own).getD (c.2.headD 0) 0)) own own.length (Nat.le_refl _)
    rw [List.take_length] at e7
    rw [e7]
    have e8 : sg (fun k => 2 ^ (15 - (lenP cs.length (q + 1) own).getD ((own.getD k (0, [])).2.headD 0) 0)) own.length = sg (fun i => 2 ^ (q + 1 - sg (fun j => if i < a j then 1 else 0) (q + 1)) * 2 ^ (15 - (q + 1))) own.length := by
      refine sg_congr _ (fun i hi => ?_)
      have h2 : own.getD i (0, []) = own[i] := by simp [List.getD, List.getElem?_eq_getElem hi]
      have h3 := (kraft1 a i q ha2).1
      rw [h2, hL i hi, ← Nat.pow_add]
      congr 1
      omega
    rw [e8, sg_mul, hsum, ← Nat.pow_add, show q + 1 + (15 - (q + 1)) = 15 by omega]
end Go.Proofs.Ytebaojedpnnliaa
