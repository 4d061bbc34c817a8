/-
  Lemmas on the way, joined: LimQ, LimR, LimX, LimK, LimY, LimO, DefM, InfPT, InfLF, DefN, DefO, DefK, RefT, Eng17, DefL, DefLC, BackA, BackB, BackC, BackD, DefLR.
-/
import Derived.ArgAppend
import Derived.Test.YtnmieihcjjiccaaPk3
namespace Go.Proofs.Ytnmieihcjjiccaa
open Go.RowKit

def kyC (cs : List Nat) (k : Nat) : Nat := cs.getD k 0 * 1024 + k
def Rem (cs js : List Nat) (k : Nat) : Prop := 0 < cs.getD k 0 ∧ k ∉ js
def BestOk (cs js : List Nat) (i : Nat) : Option Nat → Prop
 | none => ∀ k, k < i → ¬ Rem cs js k
 | some b => b < i ∧ Rem cs js b ∧ ∀ k, k < i → Rem cs js k → kyC cs b ≤ kyC cs k
structure JsOk (cs js : List Nat) : Prop where
 nodup : js.Nodup
 mem : ∀ k ∈ js, k < cs.length ∧ 0 < cs.getD k 0
 rise : js.Pairwise fun a b => kyC cs a < kyC cs b
 left : ∀ j ∈ js, ∀ k, k < cs.length → Rem cs js k → kyC cs j < kyC cs k
theorem nodup_len : ∀ (n : Nat) (l : List Nat), l.Nodup → (∀ x ∈ l, x < n) → l.length ≤ n
 | 0, l, _, h => by
  cases l with
  | nil => simp
  | cons a r => exact absurd (h a (by simp)) (by omega)
 | n + 1, l, hd, h => by
  by_cases hn : n ∈ l
  ·
   have h1 := nodup_len n (l.erase n) (hd.erase n) (fun x hx => by
    have h2 := h x (List.mem_of_mem_erase hx)
    have h3 : x ≠ n := fun e => by subst e; exact (hd.not_mem_erase) hx
    omega)
   rw [List.length_erase_of_mem hn] at h1
   omega
  ·
   have := nodup_len n l hd (fun x hx => by
    have h2 := h x hx
    have h3 : x ≠ n := fun e => hn (by rw [← e]; exact hx)
    omega)
   omega
theorem JsOk.len {cs js : List Nat} (h : JsOk cs js) : js.length ≤ cs.length := nodup_len _ _ h.nodup (fun k hk => (h.mem k hk).1)
theorem JsOk.nil (cs : List Nat) : JsOk cs [] := ⟨List.nodup_nil, by simp, .nil, by simp⟩
theorem JsOk.add {cs js : List Nat} {b : Nat} (h : JsOk cs js) (hb : BestOk cs js cs.length (some b)) (hn : cs.length ≤ 320) : JsOk cs (js ++ [b]) := by
 obtain ⟨h1, h2, h3⟩ := hb
 refine ⟨?_, ?_, ?_, ?_⟩
 ·
  rw [List.nodup_append]
  refine ⟨h.nodup, by simp, fun a ha c hc => ?_⟩
  simp at hc
  subst hc
  exact fun e => h2.2 (by rw [← e]; exact ha)
 ·
  intro k hk
  rcases List.mem_append.1 hk with hk | hk
  ·
   exact h.mem k hk
  ·
   simp at hk; subst hk; exact ⟨h1, h2.1⟩
 ·
  rw [List.pairwise_append]
  refine ⟨h.rise, by simp, fun a ha c hc => ?_⟩
  simp at hc
  subst hc
  exact h.left a ha c h1 h2
 ·
  intro j hj k hk hr
  have hr2 : Rem cs js k := ⟨hr.1, fun h4 => hr.2 (List.mem_append_left _ h4)⟩
  rcases List.mem_append.1 hj with hj | hj
  ·
   exact h.left j hj k hk hr2
  ·
   simp at hj
   subst hj
   have h5 := h3 k hk hr2
   have h6 : k ≠ j := fun e => hr.2 (by rw [e]; simp)
   unfold kyC at h5 ⊢
   omega
theorem JsOk.done {cs js : List Nat} (h : JsOk cs js) (hb : BestOk cs js cs.length none) : IsCoins cs (js.map fun k => (cs.getD k 0, [k])) := by
 refine ⟨?_, ?_⟩
 ·
  unfold coinsTo
  refine List.Perm.map _ ((List.perm_ext_iff_of_nodup h.nodup (List.Pairwise.filter _ List.nodup_range)).2 fun k => ?_)
  rw [List.mem_filter, List.mem_range]
  constructor
  ·
   intro hk; exact ⟨(h.mem k hk).1, by simpa using (h.mem k hk).2⟩
  ·
   rintro ⟨h1, h2⟩
   exact Classical.byContradiction fun h3 => hb k h1 ⟨by simpa using h2, h3⟩
 ·
  rw [List.pairwise_map]
  exact h.rise.imp (fun {a b} hab => by simpa [keyA, kyC] using hab)


def SortP (l : List (Nat × List Nat)) : Prop := l.Pairwise fun a b => a.1 ≤ b.1
theorem mem_merge : ∀ (a b : List (Nat × List Nat)) (x : Nat × List Nat), x ∈ mergeP a b → x ∈ a ∨ x ∈ b
 | [], b, x, h => by simp [mergeP] at h; exact .inr h
 | c :: cs, [], x, h => by simp only [mergeP] at h; exact .inl h
 | c :: cs, p :: ps, x, h => by
  rw [mergeP] at h
  split at h
  ·
   rcases List.mem_cons.1 h with rfl | h
   ·
    exact .inl (by simp)
   ·
    rcases mem_merge cs (p :: ps) x h with h | h
    ·
     exact .inl (by simp [h])
    ·
     exact .inr h
  ·
   rcases List.mem_cons.1 h with rfl | h
   ·
    exact .inr (by simp)
   ·
    rcases mem_merge (c :: cs) ps x h with h | h
    ·
     exact .inl h
    ·
     exact .inr (by simp [h])
 termination_by a b => a.length + b.length
theorem mem_pairs : ∀ (l : List (Nat × List Nat)) (x : Nat × List Nat), x ∈ pairsP l → ∃ u v, u ∈ l ∧ v ∈ l ∧ x = both2 u v
 | [], x, h => by simp [pairsP] at h
 | [a], x, h => by simp [pairsP] at h
 | a :: b :: r, x, h => by
  rw [pairsP] at h
  rcases List.mem_cons.1 h with rfl | h
  ·
   exact ⟨a, b, by simp, by simp, rfl⟩
  ·
   obtain ⟨u, v, hu, hv, rfl⟩ := mem_pairs r x h
   exact ⟨u, v, by simp [hu], by simp [hv], rfl⟩
theorem sort_merge : ∀ (a b : List (Nat × List Nat)), SortP a → SortP b → SortP (mergeP a b)
 | [], b, _, hb => by simpa [mergeP] using hb
 | c :: cs, [], ha, _ => by simpa [mergeP] using ha
 | c :: cs, p :: ps, ha, hb => by
  have h1 := List.pairwise_cons.1 ha
  have h2 := List.pairwise_cons.1 hb
  have hm : ∀ (a b : List (Nat × List Nat)) x, x ∈ mergeP a b → x ∈ a ∨ x ∈ b := mem_merge
  rw [mergeP]
  split
  ·
   rename_i h
   refine List.pairwise_cons.2 ⟨fun x hx => ?_, sort_merge cs (p :: ps) h1.2 hb⟩
   rcases hm _ _ x hx with h3 | h3
   ·
    exact h1.1 x h3
   ·
    rcases List.mem_cons.1 h3 with rfl | h3
    ·
     exact h
    ·
     exact Nat.le_trans h (h2.1 x h3)
  ·
   rename_i h
   refine List.pairwise_cons.2 ⟨fun x hx => ?_, sort_merge (c :: cs) ps ha h2.2⟩
   rcases hm _ _ x hx with h3 | h3
   ·
    rcases List.mem_cons.1 h3 with rfl | h3
    ·
     omega
    ·
     have := h1.1 x h3; omega
   ·
    exact h2.1 x h3
 termination_by a b => a.length + b.length
theorem sort_pairs : ∀ (l : List (Nat × List Nat)), SortP l → SortP (pairsP l)
 | [], _ => .nil
 | [a], _ => .nil
 | a :: b :: r, h => by
  have h1 := List.pairwise_cons.1 h
  have h2 := List.pairwise_cons.1 h1.2
  rw [pairsP]
  refine List.pairwise_cons.2 ⟨fun x hx => ?_, sort_pairs r h2.2⟩
  obtain ⟨u, v, hu, hv, rfl⟩ := mem_pairs r x hx
  have := h1.1 u (by simp [hu])
  have := h2.1 v hv
  simp only [both2]
  omega
theorem sort_coins {cs : List Nat} {l : List (Nat × List Nat)} (h : IsCoins cs l) (hn : cs.length ≤ 320) : SortP l := by
 refine h.2.imp_of_mem (fun {a b} ha hb hab => ?_)
 obtain ⟨k, hk, _, rfl⟩ := coinsTo_mem (h.1.mem_iff.1 ha)
 obtain ⟨j, hj, _, rfl⟩ := coinsTo_mem (h.1.mem_iff.1 hb)
 simp only [keyA, List.headD_cons] at hab ⊢
 omega
theorem sort_level (cs : List (Nat × List Nat)) (h : SortP cs) : ∀ k, SortP (levelP cs k)
 | 0 => h
 | k + 1 => sort_merge _ _ h (sort_pairs _ (sort_level cs h k))
end Go.Proofs.Ytnmieihcjjiccaa
namespace Go.Proofs.Ytnmieihcjjiccaa
open Go.RowKit
def RC (n : Nat) (p : PkC) : List Value := [.int .i64 ((p.count : Nat) : Int), .slice p.A n p.c]
def RkOk (w : World) (n : Nat) (p : PkC) : Prop := Own w 3 1 p.A n p.c (NI (cntV n p.sy))
theorem RkOk.frm {w w' : World} {n : Nat} {p : PkC} {S : List Nat} (h : RkOk w n p) (k : Frm S w w') (hS : ∀ x ∈ ob p.A, x ∉ S) : RkOk w' n p := Own.frm h k hS
def Rps (w : World) (n : Nat) (A : Option Addr) (c : Nat) (ps : List PkC) : Prop := Own w 125 2 A ps.length c (ps.flatMap (RC n)) ∧ ∀ p ∈ ps, RkOk w n p
theorem Rps.frm {w w' : World} {n : Nat} {A : Option Addr} {c : Nat} {ps : List PkC} {S : List Nat} (h : Rps w n A c ps) (k : Frm S w w') (hA : ∀ x ∈ ob A, x ∉ S) (hS : ∀ p ∈ ps, ∀ x ∈ ob p.A, x ∉ S) : Rps w' n A c ps :=
 ⟨h.1.frm k hA, fun p hp => (h.2 p hp).frm k (hS p hp)⟩
theorem Rps.ne {w : World} {n : Nat} {A : Option Addr} {c : Nat} {ps : List PkC} (h : Rps w n A c ps) : ∀ p ∈ ps, ∀ x ∈ ob p.A, x ∉ ob A := fun p hp => Own.ne_own (h.2 p hp) h.1 (by decide)
theorem RkOk.at1 {w : World} {n k : Nat} {p : PkC} (h : RkOk w n p) (hk : k < n) : ∃ ad, p.A = some ad ∧ w.cell? (ad.add k) = some (.int .i64 ((p.sy.count k : Nat) : Int)) := by
 obtain ⟨ad, u, hA, hu, hc⟩ := (Own.rd h).at1 hk
 refine ⟨ad, hA, ?_⟩
 rw [hc]
 simp [NI, cntV, hk] at hu
 rw [← hu]
end Go.Proofs.Ytnmieihcjjiccaa
namespace Go.Proofs.Ytnmieihcjjiccaa
open Go.RowKit
theorem NI_IB (l : List Nat) : NI l = IB (l.map fun x : Nat => (x : Int)) := by simp [NI, IB]
theorem lenP_len (n m : Nat) (own : List (Nat × List Nat)) : (lenP n m own).length = n := by
 unfold lenP
 split <;> simp [vecOf]
end Go.Proofs.Ytnmieihcjjiccaa
namespace Go.Proofs.Ytnmieihcjjiccaa
open Go.RowKit

def sg (f : Nat → Nat) : Nat → Nat
 | 0 => 0
 | n + 1 => sg f n + f n
theorem sg_congr {f h : Nat → Nat} : ∀ n, (∀ k, k < n → f k = h k) → sg f n = sg h n
 | 0, _ => rfl
 | n + 1, e => by rw [sg, sg, sg_congr n (fun k hk => e k (by omega)), e n (by omega)]
theorem sg_add (f h : Nat → Nat) : ∀ n, sg (fun k => f k + h k) n = sg f n + sg h n
 | 0 => rfl
 | n + 1 => by rw [sg, sg, sg, sg_add f h n]; omega
theorem sg_zero : ∀ n, sg (fun _ => 0) n = 0
 | 0 => rfl
 | n + 1 => by rw [sg, sg_zero n]
theorem sg_mul (f : Nat → Nat) (c : Nat) : ∀ n, sg (fun k => f k * c) n = sg f n * c
 | 0 => by simp [sg]
 | n + 1 => by rw [sg, sg, sg_mul f c n, Nat.add_mul]
theorem sg_swap (f : Nat → Nat → Nat) (m : Nat) : ∀ n, sg (fun i => sg (fun j => f i j) m) n = sg (fun j => sg (fun i => f i j) n) m
 | 0 => by simp only [sg]; rw [sg_zero]
 | n + 1 => by rw [sg, sg_swap f m n, ← sg_add]; rfl
theorem sg_lt (a : Nat) : ∀ n, a ≤ n → sg (fun i => if i < a then 1 else 0) n = a
 | 0, h => by simp [sg]; omega
 | n + 1, h => by
  rw [sg]
  by_cases h2 : a = n + 1
  ·
   subst h2
   rw [sg_congr (h := fun _ => 1) n (fun k hk => by simp; omega), if_pos (by omega)]
   have : ∀ n, sg (fun _ => 1) n = n := fun n => by
    induction n with
    | zero => rfl
    | succ n ih => rw [sg, ih]
   rw [this]
  ·
   rw [sg_lt a n (by omega), if_neg (by omega)]; rfl

abbrev PL := List (Nat × List Nat)

theorem sum_coins (cs : List Nat) (g : Nat × List Nat → Nat) : ∀ n, ((coinsTo cs n).map g).sum = sg (fun k => if 0 < cs.getD k 0 then g (cs.getD k 0, [k]) else 0) n
 | 0 => rfl
 | n + 1 => by
  rw [coinsTo_succ, List.map_append, List.sum_append, sum_coins cs g n, sg]
  by_cases h : 0 < cs.getD n 0
  ·
   rw [if_pos h, if_pos h]; simp
  ·
   rw [if_neg h, if_neg h]; simp
theorem sum_own {cs : List Nat} {own : PL} (h : IsCoins cs own) (g : Nat × List Nat → Nat) : (own.map g).sum = sg (fun k => if 0 < cs.getD k 0 then g (cs.getD k 0, [k]) else 0) cs.length := by
 rw [← sum_coins, (h.1.map g).sum_nat]
theorem sg_single (f : Nat → Nat) (s : Nat) : ∀ n, sg (fun i => if i = s then f i else 0) n = if s < n then f s else 0
 | 0 => by simp [sg]
 | n + 1 => by
  rw [sg, sg_single f s n]
  by_cases h : n = s
  ·
   subst h; simp
  ·
   by_cases h2 : s < n
   ·
    rw [if_pos h2, if_neg h, if_pos (by omega)]; rfl
   ·
    rw [if_neg h2, if_neg h, if_neg (by omega)]
theorem vec_getD (n : Nat) (l : PL) (i : Nat) (hi : i < n) : (vecOf n l).getD i 0 = (l.flatMap Prod.snd).count i := by
 rw [vecOf_eq]
 simp [cntV, List.getD, hi]
theorem flat_count_merge (s : Nat) : ∀ a b : PL, ((mergeP a b).flatMap Prod.snd).count s = (a.flatMap Prod.snd).count s + (b.flatMap Prod.snd).count s
 | [], b => by simp [mergeP]
 | c :: cs, [] => by simp [mergeP]
 | c :: cs, p :: ps => by
  rw [mergeP]
  split
  ·
   rw [List.flatMap_cons, List.count_append, flat_count_merge s cs (p :: ps), List.flatMap_cons (x := c), List.count_append]; omega
  ·
   rw [List.flatMap_cons, List.count_append, flat_count_merge s (c :: cs) ps, List.flatMap_cons (x := p), List.count_append]; omega
 termination_by a b => a.length + b.length
theorem flat_count_pairs (s : Nat) : ∀ l : PL, ((pairsP l).flatMap Prod.snd).count s ≤ (l.flatMap Prod.snd).count s
 | [] => by simp [pairsP]
 | [a] => by simp [pairsP]
 | a :: b :: r => by
  have := flat_count_pairs s r
  rw [pairsP, List.flatMap_cons, List.flatMap_cons, List.flatMap_cons]
  simp only [both2, List.count_append]
  omega
theorem flat_count_level (own : PL) (s : Nat) : ∀ k, ((levelP own k).flatMap Prod.snd).count s ≤ (k + 1) * (own.flatMap Prod.snd).count s
 | 0 => by simp [levelP]
 | k + 1 => by
  have ih := flat_count_level own s k
  have h := flat_count_pairs s (levelP own k)
  rw [levelP, flat_count_merge, Nat.succ_mul]
  omega
theorem own_count {cs : List Nat} {own : PL} (h : IsCoins cs own) (s : Nat) : (own.flatMap Prod.snd).count s = if s < cs.length ∧ 0 < cs.getD s 0 then 1 else 0 := by
 have e : (own.flatMap Prod.snd).count s = (own.map fun p => p.2.count s).sum := by
  clear h
  induction own with
  | nil => rfl
  | cons a r ih => rw [List.flatMap_cons, List.count_append, ih, List.map_cons, List.sum_cons]
 rw [e, sum_own h]
 have h2 := sg_single (fun k => if 0 < cs.getD k 0 then 1 else 0) s cs.length
 rw [sg_congr (h := fun i => if i = s then (if 0 < cs.getD i 0 then 1 else 0) else 0) _ (fun k _ => ?_), h2]
 ·
  by_cases h3 : s < cs.length
  ·
   simp [h3]
  ·
   simp [h3]
 ·
  by_cases hk : k = s
  ·
   subst hk; simp
  ·
   simp [hk, List.count_cons]
theorem take_flat_count (l : PL) (s x : Nat) : ((l.take x).flatMap Prod.snd).count s ≤ (l.flatMap Prod.snd).count s := by
 have h : l.flatMap Prod.snd = (l.take x).flatMap Prod.snd ++ (l.drop x).flatMap Prod.snd := by rw [← List.flatMap_append, List.take_append_drop]
 rw [h, List.count_append]
 omega
theorem len_le {cs : List Nat} {own : PL} {m : Nat} (h : IsCoins cs own) (hm : 1 ≤ m) (i : Nat) (hi : i < cs.length) : (lenP cs.length m own).getD i 0 ≤ m ∧ (cs.getD i 0 = 0 → (lenP cs.length m own).getD i 0 = 0) := by
 have h1 := own_count h i
 unfold lenP
 split
 ·
  rw [vec_getD _ _ _ hi, h1]
  split
  ·
   rename_i h2; exact ⟨hm, fun h3 => by omega⟩
  ·
   exact ⟨by omega, fun _ => rfl⟩
 ·
  rw [vec_getD _ _ _ hi]
  have h2 := take_flat_count (levelP own (m - 1)) i (2 * own.length - 2)
  have h3 := flat_count_level own i (m - 1)
  rw [show m - 1 + 1 = m by omega] at h3
  rw [h1] at h3
  split at h3
  ·
   rename_i h4; exact ⟨by omega, fun h5 => by omega⟩
  ·
   exact ⟨by omega, fun _ => by omega⟩
end Go.Proofs.Ytnmieihcjjiccaa
namespace Go.Proofs.Ytnmieihcjjiccaa
open Go.RowKit
noncomputable section
open Classical in
def rgt (a b : List Int) (m : Int) (i : Nat) : Prop := (chk b = 0 ∨ chk b = 2) ∧ ∀ k, k < i → b.getD k 0 ≤ m ∧ (0 < b.getD k 0 ∨ a.getD k 0 = 0)
instance (a b : List Int) (m : Int) (i : Nat) : Decidable (rgt a b m i) := Classical.propDecidable _
end
theorem sumK_sg (l : List Int) : ∀ i, i ≤ l.length → sumK (l.take i) = sg (fun k => if 0 < (l.getD k 0).toNat then 2 ^ (15 - (l.getD k 0).toNat) else 0) i
 | 0, _ => by simp [sumK, sg]
 | i + 1, h => by
  rw [sumK_take l i (by omega), sumK_sg l i (by omega), sg]
  have e : l.getD i 0 = l[i] := by simp [List.getD, List.getElem?_eq_getElem (show i < l.length by omega)]
  rw [e]
  by_cases h2 : 0 < l[i]
  ·
   rw [if_pos h2, if_pos (by omega)]
  ·
   rw [if_neg h2, if_neg (by omega)]
end Go.Proofs.Ytnmieihcjjiccaa
namespace Go.Proofs.Ytnmieihcjjiccaa
open Go.RowKit
theorem merge_pre : ∀ (A B : PL) (x : Nat), SortP A → SortP B → x ≤ A.length + B.length → ∃ a p, a + p = x ∧ a ≤ A.length ∧ p ≤ B.length ∧ ((mergeP A B).take x).Perm (A.take a ++ B.take p) ∧ ∀ i j (hi : i < A.length) (hj : j < B.length), j < p → A[i].1 ≤ B[j].1 → i < a
 | [], B, x, _, _, h => ⟨0, x, by omega, by simp, by simpa using h, by simp [mergeP], fun i j hi => by simp at hi⟩
 | c :: cs, [], x, _, _, h => ⟨x, 0, by omega, by simpa using h, by simp, by simp [mergeP], fun i j hi hj => by simp at hj⟩
 | c :: cs, p0 :: ps, 0, _, _, h => ⟨0, 0, rfl, by omega, by omega, by simp, fun i j hi hj h2 => by omega⟩
 | c :: cs, p0 :: ps, x + 1, hA, hB, h => by
  have h1 := List.pairwise_cons.1 hA
  have h2 := List.pairwise_cons.1 hB
  rw [mergeP]
  by_cases hc : c.1 ≤ p0.1
  ·
   obtain ⟨a, p, e, ha, hp, hperm, hb⟩ := merge_pre cs (p0 :: ps) x h1.2 hB (by simp at h ⊢; omega)
   rw [if_pos hc]
   refine ⟨a + 1, p, by omega, by simpa using ha, hp, ?_, ?_⟩
   ·
    rw [List.take_succ_cons, List.take_succ_cons, List.cons_append]
    exact hperm.cons c
   ·
    intro i j hi hj hjp hle
    cases i with
    | zero => omega
    | succ i =>
     have := hb i j (by simpa using hi) hj hjp hle
     omega
  ·
   obtain ⟨a, p, e, ha, hp, hperm, hb⟩ := merge_pre (c :: cs) ps x hA h2.2 (by simp at h ⊢; omega)
   rw [if_neg hc]
   refine ⟨a, p + 1, by omega, ha, by simpa using hp, ?_, ?_⟩
   ·
    rw [List.take_succ_cons, List.take_succ_cons]
    exact (hperm.cons p0).trans List.perm_middle.symm
   ·
    intro i j hi hj hjp hle
    cases j with
    | zero =>
     exfalso
     have h3 : c.1 ≤ ((c :: cs)[i]).1 := by
      cases i with
      | zero => exact Nat.le_refl _
      | succ i => exact h1.1 _ (List.getElem_mem _)
     simp only [List.getElem_cons_zero] at hle
     omega
    | succ j => exact hb i j hi (by simpa using hj) (by omega) hle
 termination_by A B => A.length + B.length
theorem pair_ge : ∀ (L : PL) (q : Nat) (hq : q < L.length) (h : q / 2 < (pairsP L).length), L[q].1 ≤ ((pairsP L)[q / 2]).1
 | [], q, hq, _ => by simp at hq
 | [a], q, _, h => by simp [pairsP] at h
 | a :: b :: r, 0, _, _ => by simp [pairsP, both2]
 | a :: b :: r, 1, _, _ => by simp [pairsP, both2]
 | a :: b :: r, q + 2, hq, h => by
  have e : (q + 2) / 2 = q / 2 + 1 := by omega
  have h2 : q / 2 < (pairsP r).length := by simp only [pairsP, List.length_cons, e] at h; omega
  have := pair_ge r q (by simpa using hq) h2
  simp only [List.getElem_cons_succ, pairsP, e]
  exact this
theorem pairs_flat : ∀ (L : PL) (p : Nat), 2 * p ≤ L.length → ((pairsP L).take p).flatMap Prod.snd = (L.take (2 * p)).flatMap Prod.snd
 | L, 0, _ => by simp
 | [], p + 1, h => by simp at h
 | [a], p + 1, h => by simp at h; omega
 | a :: b :: r, p + 1, h => by
  have ih := pairs_flat r p (by simp at h; omega)
  rw [pairsP, List.take_succ_cons, List.flatMap_cons, ih, show 2 * (p + 1) = (2 * p) + 1 + 1 by omega, List.take_succ_cons, List.take_succ_cons, List.flatMap_cons, List.flatMap_cons]
  simp [both2]
theorem mem_take_of {l : PL} {i x : Nat} (hi : i < l.length) (h : i < x) : l[i] ∈ l.take x := by
 have : (l.take x)[i]'(by simp; omega) = l[i] := by simp
 rw [← this]
 exact List.getElem_mem _
theorem level_pre {own : PL} (hs : SortP own) : ∀ k x, x ≤ (levelP own k).length → ∃ a : Nat → Nat, (∀ j, j ≤ k → a j ≤ own.length) ∧ (∀ j, j < k → a j ≤ a (j + 1)) ∧ x * 2 ^ k = sg (fun j => a j * 2 ^ j) (k + 1) ∧
  (∀ s, (((levelP own k).take x).flatMap Prod.snd).count s = sg (fun j => ((own.take (a j)).flatMap Prod.snd).count s) (k + 1)) ∧ ∀ i (hi : i < own.length), i < a k → own[i] ∈ (levelP own k).take x
 | 0, x, h => ⟨fun _ => x, fun _ _ => h, fun _ _ => Nat.le_refl _, by simp [sg], fun s => by simp [sg, levelP], fun i hi hx => mem_take_of hi hx⟩
 | k + 1, x, h => by
  have hsl := sort_level own hs k
  have hsp := sort_pairs _ hsl
  rw [levelP, len_merge] at h
  obtain ⟨a', p, e, ha, hp, hperm, hb⟩ := merge_pre own (pairsP (levelP own k)) x hs hsp h
  have hpl := pairsP_len (levelP own k)
  have h2p : 2 * p ≤ (levelP own k).length := by omega
  obtain ⟨a, h1, h2, h3, h4, h5⟩ := level_pre hs k (2 * p) h2p
  have hmono : a k ≤ a' := by
   refine Nat.le_of_not_lt fun hlt => ?_
   have hi : a' < own.length := Nat.lt_of_lt_of_le hlt (h1 k (Nat.le_refl _))
   obtain ⟨q, hq, hqe⟩ := List.getElem_of_mem (h5 a' hi hlt)
   rw [List.length_take] at hq
   have hq2 : q / 2 < (pairsP (levelP own k)).length := by omega
   have h6 := pair_ge (levelP own k) q (by omega) hq2
   rw [List.getElem_take] at hqe
   rw [hqe] at h6
   have := hb a' (q / 2) hi hq2 (by omega) h6
   omega
  have hc : ∀ (f : Nat → Nat → Nat), sg (fun j => f (if j ≤ k then a j else a') j) (k + 1) = sg (fun j => f (a j) j) (k + 1) := fun f => sg_congr _ (fun j hj => by rw [if_pos (by omega)])
  refine ⟨fun j => if j ≤ k then a j else a', ?_, ?_, ?_, ?_, ?_⟩
  ·
   intro j hj
   dsimp only
   split
   ·
    exact h1 j (by assumption)
   ·
    exact ha
  ·
   intro j hj
   dsimp only
   rw [if_pos (by omega)]
   by_cases hjk : j = k
   ·
    subst hjk; rw [if_neg (by omega)]; exact hmono
   ·
    rw [if_pos (by omega)]; exact h2 j (by omega)
  ·
   rw [sg, hc (fun y j => y * 2 ^ j), ← h3]
   dsimp only
   rw [if_neg (by omega), ← e, Nat.add_mul, Nat.pow_succ, Nat.mul_comm 2 p, Nat.mul_assoc p 2, Nat.mul_comm 2 (2 ^ k)]
   omega
  ·
   intro s
   rw [sg, hc (fun y j => ((own.take y).flatMap Prod.snd).count s), ← h4 s, ← pairs_flat _ _ h2p, levelP]
   dsimp only
   rw [if_neg (by omega), (hperm.flatMap_right _).count_eq, List.flatMap_append, List.count_append]
   omega
  ·
   intro i hi hia
   dsimp only at hia
   rw [if_neg (by omega)] at hia
   rw [levelP]
   exact hperm.mem_iff.2 (List.mem_append_left _ (mem_take_of hi hia))
theorem mono_le {a : Nat → Nat} {k : Nat} (h : ∀ j, j < k → a j ≤ a (j + 1)) : ∀ d j, j + d = k → a j ≤ a k
 | 0, j, e => by subst e; exact Nat.le_refl _
 | d + 1, j, e => Nat.le_trans (h j (by omega)) (mono_le h d (j + 1) (by omega))
theorem kraft1 (a : Nat → Nat) (i : Nat) : ∀ k, (∀ j, j < k → a j ≤ a (j + 1)) → sg (fun j => if i < a j then 1 else 0) (k + 1) ≤ k + 1 ∧ sg (fun j => if i < a j then 2 ^ j else 0) (k + 1) + 2 ^ (k + 1 - sg (fun j => if i < a j then 1 else 0) (k + 1)) = 2 ^ (k + 1)
 | 0, _ => by
  by_cases h : i < a 0
  ·
   simp [sg, h]
  ·
   simp [sg, h]
 | k + 1, hm => by
  obtain ⟨h1, h2⟩ := kraft1 a i k (fun j hj => hm j (by omega))
  have e1 : ∀ f : Nat → Nat, sg f (k + 1 + 1) = sg f (k + 1) + f (k + 1) := fun _ => rfl
  rw [e1, e1]
  by_cases h : i < a (k + 1)
  ·
   rw [if_pos h, if_pos h]
   refine ⟨by omega, ?_⟩
   have h3 : 2 ^ (k + 1 + 1) = 2 ^ (k + 1) * 2 := Nat.pow_succ ..
   rw [show k + 1 + 1 - (sg (fun j => if i < a j then 1 else 0) (k + 1) + 1) = k + 1 - sg (fun j => if i < a j then 1 else 0) (k + 1) by omega]
   omega
  ·
   have h4 : ∀ j, j < k + 1 → ¬ i < a j := fun j hj h5 => h (Nat.lt_of_lt_of_le h5 (mono_le hm (k + 1 - j) j (by omega)))
   have h5 : sg (fun j => if i < a j then 1 else 0) (k + 1) = 0 := by rw [sg_congr (h := fun _ => 0) _ (fun j hj => if_neg (h4 j hj)), sg_zero]
   have h6 : sg (fun j => if i < a j then 2 ^ j else 0) (k + 1) = 0 := by rw [sg_congr (h := fun _ => 0) _ (fun j hj => if_neg (h4 j hj)), sg_zero]
   rw [if_neg h, if_neg h, h5, h6]
   simp
theorem map_sum_sg (g : Nat × List Nat → Nat) (l : PL) : ∀ i, i ≤ l.length → ((l.take i).map g).sum = sg (fun k => g (l.getD k (0, []))) i
 | 0, _ => rfl
 | i + 1, h => by
  rw [List.take_add_one, List.getElem?_eq_getElem (show i < l.length by omega), List.map_append, List.sum_append, map_sum_sg g l i (by omega), sg]
  simp [List.getD, List.getElem?_eq_getElem (show i < l.length by omega)]
theorem sg_ge (f : Nat → Nat) (i : Nat) : ∀ n, i < n → (∀ k, k < n → 1 ≤ f k) → f i + (n - 1) ≤ sg f n
 | 0, h, _ => by omega
 | n + 1, h, h1 => by
  rw [sg]
  have h2 := h1 n (by omega)
  by_cases e : i = n
  ·
   subst e
   have : ∀ m, m ≤ i → m ≤ sg f m := fun m => by
    induction m with
    | zero => intro _; omega
    | succ m ih =>
     intro hm
     have := ih (by omega)
     have := h1 m (by omega)
     rw [sg]; omega
   have := this i (Nat.le_refl _)
   omega
  ·
   have := sg_ge f i n (by omega) (fun k hk => h1 k (by omega))
   omega
theorem take_own_count {cs : List Nat} {own : PL} (h : IsCoins cs own) (i b : Nat) (hi : i < own.length) : ((own.take b).flatMap Prod.snd).count (own[i].2.headD 0) = if i < b then 1 else 0 := by
 obtain ⟨k, hk, hk0, he⟩ := coinsTo_mem (h.1.mem_iff.1 (List.getElem_mem hi))
 have hsy : own[i].2 = [k] := by rw [he]
 rw [hsy, List.headD_cons]
 have h1 := own_count h k
 rw [if_pos ⟨hk, hk0⟩] at h1
 have hsplit : own = own.take i ++ own[i] :: own.drop (i + 1) := by rw [← List.drop_eq_getElem_cons hi, List.take_append_drop]
 have h2 : ((own.take i).flatMap Prod.snd).count k + (1 + ((own.drop (i + 1)).flatMap Prod.snd).count k) = (own.flatMap Prod.snd).count k := by
  conv => rhs; rw [hsplit]
  rw [List.flatMap_append, List.flatMap_cons, hsy, List.count_append, List.count_append]
  simp
 rw [h1] at h2
 by_cases hb : i < b
 ·
  rw [if_pos hb]
  have h3 := take_flat_count own k b
  have h4 : own.take b = own.take i ++ own[i] :: (own.drop (i + 1)).take (b - (i + 1)) := by
   conv => lhs; rw [hsplit]
   rw [List.take_append, List.length_take, Nat.min_eq_left (by omega), List.take_of_length_le (by simp; omega), show b - i = (b - (i + 1)) + 1 by omega, List.take_succ_cons]
  rw [h4, List.flatMap_append, List.flatMap_cons, hsy, List.count_append, List.count_append]
  rw [h4, List.flatMap_append, List.flatMap_cons, hsy, List.count_append, List.count_append] at h3
  simp at h3 ⊢
  omega
 ·
  rw [if_neg hb]
  have h4 : own.take b = (own.take i).take b := by rw [List.take_take, Nat.min_eq_left (by omega)]
  have h3 := take_flat_count (own.take i) k b
  rw [h4]
  omega
theorem whole10 {cs : List Nat} {own : PL} {m : Nat} (hco : IsCoins cs own) (hn : cs.length ≤ 320) (hm1 : 1 ≤ m) (hm15 : m ≤ 15) (hfit : own.length ≤ 2 ^ m) :
  (∀ i, i < cs.length → ((lenP cs.length m own).getD i 0 = 0 ↔ cs.getD i 0 = 0)) ∧ sg (fun k => if 0 < (lenP cs.length m own).getD k 0 then 2 ^ (15 - (lenP cs.length m own).getD k 0) else 0) cs.length = if 2 ≤ own.length then 32768 else own.length * 16384 := by
 have hone : ∀ c : Nat, (own.map fun _ => c).sum = own.length * c := by
  intro c
  generalize own = l
  induction l with
  | nil => simp
  | cons a r ih => rw [List.map_cons, List.sum_cons, ih, List.length_cons, Nat.succ_mul]; omega
 by_cases h1 : own.length ≤ 1
 ·
  have hR : ∀ i, i < cs.length → (lenP cs.length m own).getD i 0 = if 0 < cs.getD i 0 then 1 else 0 := by
   intro i hi
   unfold lenP
   rw [if_pos h1, vec_getD _ _ _ hi, own_count hco]
   by_cases h2 : 0 < cs.getD i 0
   ·
    rw [if_pos ⟨hi, h2⟩, if_pos h2]
   ·
    rw [if_neg (fun h => h2 h.2), if_neg h2]
  refine ⟨fun i hi => ?_, ?_⟩
  ·
   rw [hR i hi]
   by_cases h2 : 0 < cs.getD i 0
   ·
    rw [if_pos h2]; omega
   ·
    rw [if_neg h2]; omega
  ·
   rw [if_neg (by omega), ← hone, sum_own hco]
   refine sg_congr _ (fun i hi => ?_)
   rw [hR i hi]
   by_cases h2 : 0 < cs.getD i 0
   ·
    rw [if_pos h2, if_pos h2, if_pos (by omega)]
   ·
    rw [if_neg h2, if_neg h2, if_neg (by omega)]
 ·
  obtain ⟨q, rfl⟩ : ∃ q, m = q + 1 := ⟨m - 1, by omega⟩
  have hen := level_enough own q hfit
  obtain ⟨a, ha1, ha2, ha3, ha4, _⟩ := level_pre (sort_coins hco hn) q (2 * own.length - 2) hen
  have hL : ∀ i (hi : i < own.length), (lenP cs.length (q + 1) own).getD (own[i].2.headD 0) 0 = sg (fun j => if i < a j then 1 else 0) (q + 1) := by
   intro i hi
   obtain ⟨k, hk, hk0, he⟩ := coinsTo_mem (hco.1.mem_iff.1 (List.getElem_mem hi))
   unfold lenP
   rw [if_neg h1, Nat.add_sub_cancel, vec_getD _ _ _ (by rw [he]; exact hk), ha4]
   exact sg_congr _ (fun j _ => take_own_count hco i (a j) hi)
  have hsum : sg (fun i => 2 ^ (q + 1 - sg (fun j => if i < a j then 1 else 0) (q + 1))) own.length = 2 ^ (q + 1) := by
   have e1 : sg (fun i => sg (fun j => if i < a j then 2 ^ j else 0) (q + 1)) own.length = (2 * own.length - 2) * 2 ^ q := by
    rw [sg_swap, ha3]
    refine sg_congr _ (fun j hj => ?_)
    have e2 : sg (fun i => (if i < a j then 1 else 0) * 2 ^ j) own.length = a j * 2 ^ j := by rw [sg_mul, sg_lt _ _ (ha1 j (by omega))]
    rw [← e2]
    exact sg_congr _ (fun i _ => by split <;> simp)
   have e3 : sg (fun i => sg (fun j => if i < a j then 2 ^ j else 0) (q + 1) + 2 ^ (q + 1 - sg (fun j => if i < a j then 1 else 0) (q + 1))) own.length = own.length * 2 ^ (q + 1) := by
    rw [sg_congr (h := fun _ => 2 ^ (q + 1)) _ (fun i _ => (kraft1 a i q ha2).2)]
    generalize own.length = z
    induction z with
    | zero => simp [sg]
    | succ z ih => rw [sg, ih, Nat.succ_mul]
   rw [sg_add, e1] at e3
   have e4 : (2 * own.length - 2) * 2 ^ q = own.length * 2 ^ (q + 1) - 2 ^ (q + 1) := by
    have h3 : 2 ^ (q + 1) = 2 ^ q * 2 := Nat.pow_succ ..
    rw [h3, Nat.sub_mul, Nat.mul_comm 2 own.length, Nat.mul_assoc, Nat.mul_comm (2 ^ q) 2]
   have e5 : 2 ^ (q + 1) ≤ own.length * 2 ^ (q + 1) := Nat.le_mul_of_pos_left _ (by omega)
   omega
  have hpos : ∀ i, i < own.length → 0 < sg (fun j => if i < a j then 1 else 0) (q + 1) := by
   intro i hi
   refine Nat.pos_of_ne_zero fun h0 => ?_
   have h2 := sg_ge (fun i => 2 ^ (q + 1 - sg (fun j => if i < a j then 1 else 0) (q + 1))) i own.length hi (fun k _ => Nat.pow_pos (by omega))
   rw [hsum] at h2
   rw [h0, Nat.sub_zero] at h2
   omega
  have hcome : ∀ s, s < cs.length → 0 < cs.getD s 0 → ∃ i, ∃ hi : i < own.length, own[i].2.headD 0 = s := by
   intro s hs hs0
   have hmem : (cs.getD s 0, [s]) ∈ own := by
    refine hco.1.mem_iff.2 ?_
    unfold coinsTo
    exact List.mem_map.2 ⟨s, List.mem_filter.2 ⟨List.mem_range.2 hs, by simpa using hs0⟩, rfl⟩
   obtain ⟨i, hi, he⟩ := List.getElem_of_mem hmem
   exact ⟨i, hi, by rw [he]; rfl⟩
  have hz : ∀ i, i < cs.length → ((lenP cs.length (q + 1) own).getD i 0 = 0 ↔ cs.getD i 0 = 0) := by
   intro s hs
   refine ⟨fun h => ?_, (len_le hco hm1 s hs).2⟩
   refine Classical.byContradiction fun h2 => ?_
   obtain ⟨i, hi, he⟩ := hcome s hs (by omega)
   have h3 := hL i hi
   rw [he, h] at h3
   have := hpos i hi
   omega
  refine ⟨hz, ?_⟩
  rw [if_pos (by omega)]
  have e6 : sg (fun k => if 0 < (lenP cs.length (q + 1) own).getD k 0 then 2 ^ (15 - (lenP cs.length (q + 1) own).getD k 0) else 0) cs.length = (own.map fun c => 2 ^ (15 - (lenP cs.length (q + 1) own).getD (c.2.headD 0) 0)).sum := by
   rw [sum_own hco]
   refine sg_congr _ (fun k hk => ?_)
   have h2 := hz k hk
   by_cases h3 : 0 < cs.getD k 0
   ·
    rw [if_pos h3, if_pos (by omega)]; rfl
   ·
    rw [if_neg h3, if_neg (by omega)]
  rw [e6]
  have e7 := map_sum_sg (fun c => 2 ^ (15 - (lenP cs.length (q + 1) own).getD (c.2.headD 0) 0)) own own.length (Nat.le_refl _)
  rw [List.take_length] at e7
  rw [e7]
  have e8 : sg (fun k => 2 ^ (15 - (lenP cs.length (q + 1) own).getD ((own.getD k (0, [])).2.headD 0) 0)) own.length = sg (fun i => 2 ^ (q + 1 - sg (fun j => if i < a j then 1 else 0) (q + 1)) * 2 ^ (15 - (q + 1))) own.length := by
   refine sg_congr _ (fun i hi => ?_)
   have h2 : own.getD i (0, []) = own[i] := by simp [List.getD, List.getElem?_eq_getElem hi]
   have h3 := (kraft1 a i q ha2).1
   rw [h2, hL i hi, ← Nat.pow_add]
   congr 1
   omega
  rw [e8, sg_mul, hsum, ← Nat.pow_add, show q + 1 + (15 - (q + 1)) = 15 by omega]
end Go.Proofs.Ytnmieihcjjiccaa
namespace Go.Proofs.Ytnmieihcjjiccaa
open Go.RowKit
def toZ (l : List Nat) : List Int := l.map fun x : Nat => (x : Int)
theorem toZ_len (l : List Nat) : (toZ l).length = l.length := by simp [toZ]
theorem toZ_IB (l : List Nat) : NI l = IB (toZ l) := NI_IB l
theorem toZ_nat (l : List Nat) : (toZ l).map Int.toNat = l := by simp [toZ, Function.comp_def]
theorem toZ_getD (l : List Nat) (i : Nat) : (toZ l).getD i 0 = ((l.getD i 0 : Nat) : Int) := by
 simp only [toZ, List.getD, List.getElem?_map]
 cases l[i]? <;> simp
noncomputable section
open Classical in
def coinsM (cs : List Nat) : PL := if h : ∃ own, IsCoins cs own then h.choose else []
def lenM (cs : List Nat) (m : Nat) : List Nat := lenP cs.length m (coinsM cs)
end
theorem coinsM_eq {cs : List Nat} {own : PL} (h : IsCoins cs own) : coinsM cs = own := by
 have h1 : ∃ own, IsCoins cs own := ⟨own, h⟩
 unfold coinsM
 rw [dif_pos h1]
 exact coins_unique h1.choose_spec h
theorem lenM_len (cs : List Nat) (m : Nat) : (lenM cs m).length = cs.length := lenP_len _ _ _
theorem coins_le {cs : List Nat} {own : PL} (h : IsCoins cs own) : own.length ≤ cs.length := by
 rw [h.1.length_eq]
 unfold coinsTo
 rw [List.length_map]
 exact Nat.le_trans (List.length_filter_le _ _) (by simp)
structure LenOk (cs ls : List Nat) (m : Nat) : Prop where
 len : ls.length = cs.length
 ok : LOk (toZ ls)
 most : ∀ i, ls.getD i 0 ≤ m
 come : ∀ i, i < cs.length → (ls.getD i 0 = 0 ↔ cs.getD i 0 = 0)
theorem lenM_ok {cs : List Nat} {own : PL} {m : Nat} (h : IsCoins cs own) (hl : cs.length ≤ 320) (hm1 : 1 ≤ m) (hm2 : m ≤ 15) (hf : cs.length ≤ 2 ^ m) : LenOk cs (lenM cs m) m := by
 have hfit : own.length ≤ 2 ^ m := Nat.le_trans (coins_le h) hf
 obtain ⟨h1, h2⟩ := whole10 h hl hm1 hm2 hfit
 have hE : lenM cs m = lenP cs.length m own := by unfold lenM; rw [coinsM_eq h]
 have hlen := lenM_len cs m
 have hle : ∀ i, (lenM cs m).getD i 0 ≤ m := fun i => by
  by_cases hi : i < cs.length
  ·
   rw [hE]; exact (len_le h hm1 i hi).1
  ·
   rw [List.getD_eq_getElem?_getD, List.getElem?_eq_none (by omega)]
   exact Nat.zero_le _
 have hr : ∀ x ∈ toZ (lenM cs m), 0 ≤ x ∧ x ≤ 15 := fun x hx => by
  obtain ⟨y, hy, rfl⟩ := List.mem_map.1 hx
  obtain ⟨i, hi, rfl⟩ := List.getElem_of_mem hy
  have := hle i
  rw [List.getD_eq_getElem?_getD, List.getElem?_eq_getElem hi, Option.getD_some] at this
  omega
 refine ⟨hlen, ⟨⟨by rw [toZ_len]; omega, hr⟩, ?_⟩, hle, fun i hi => by rw [hE]; exact h1 i hi⟩
 rw [sumK_eq _ hr]
 have h3 := sumK_sg (toZ (lenM cs m)) _ (Nat.le_refl _)
 rw [List.take_length] at h3
 rw [h3, toZ_len, hlen, sg_congr (h := fun k => if 0 < (lenP cs.length m own).getD k 0 then 2 ^ (15 - (lenP cs.length m own).getD k 0) else 0) _ (fun k _ => by rw [toZ_getD, Int.toNat_natCast, hE]), h2]
 split
 ·
  exact Nat.le_refl _
 ·
  have : own.length ≤ 1 := by omega
  omega
theorem lens_ok (A : Option Addr) (c0 : Nat) (cs : List Nat) (m : Nat) (w : World) (hl : cs.length ≤ 320) (hb : ∀ x ∈ cs, x ≤ 2147483647) (hm1 : 1 ≤ m) (hm2 : m ≤ 15) (hf : cs.length ≤ 2 ^ m) (hr : Rd w 1 A cs.length (NI cs)) :
  Calls Try.prog 25 #[.slice A cs.length c0, .int .i64 ((m : Nat) : Int)] w fun e w' => ∃ B c, e = .returned (.tuple #[.slice B cs.length c, .int .i64 ((0 : Nat) : Int)]) ∧ Own w' 3 1 B cs.length c (NI (lenM cs m)) ∧ Frm [] w w' ∧ (∀ x ∈ ob B, w.heap.size ≤ x) ∧ LenOk cs (lenM cs m) m := by
 have h1 := lengths_spec A c0 (toZ cs) m w (by rw [toZ_len]; omega) (by rw [toZ_len, ← toZ_IB]; exact hr)
 rw [toZ_len, toZ_nat] at h1
 refine h1.mono ?_
 rintro e w' ⟨hfr, h2⟩
 have hmay : mayB (toZ cs) := ⟨by rw [toZ_len]; exact hl, fun x hx => by
  obtain ⟨y, hy, rfl⟩ := List.mem_map.1 hx
  have := hb y hy
  omega⟩
 rw [if_neg (by rintro (h | h | h); exact h hmay; omega; omega)] at h2
 obtain ⟨own, hco, h2⟩ := h2
 rw [Int.toNat_natCast, if_neg (by have := coins_le hco; omega)] at h2
 obtain ⟨B, c, he, ho, hn⟩ := h2
 have hE : lenM cs m = lenP cs.length m own := by unfold lenM; rw [coinsM_eq hco]
 exact ⟨B, c, he, by rw [hE]; exact ho, hfr, hn, lenM_ok hco hl hm1 hm2 hf⟩
def SdOk (t : Sd) : Prop := t.1 < 19 ∧ t.2.1 ≤ 7 ∧ t.2.2 < 2 ^ t.2.1
theorem sayAt_ok {l : List Nat} (h : ∀ i, l.getD i 0 ≤ 15) (a : Nat) : SdOk (sayAt l a).1 := by
 have h1 := h a
 unfold sayAt SdOk
 split
 ·
  dsimp only; omega
 ·
  split
  ·
   dsimp only; omega
  ·
   split
   ·
    dsimp only; omega
   ·
    dsimp only; omega
theorem sayF_ok {l : List Nat} (h : ∀ i, l.getD i 0 ≤ 15) : ∀ m a, ∀ t ∈ sayF l m a, SdOk t
 | 0, _, t, ht => by simp [sayF] at ht
 | m + 1, a, t, ht => by
  unfold sayF at ht
  split at ht
  ·
   cases ht
  ·
   rcases List.mem_cons.1 ht with rfl | ht
   ·
    exact sayAt_ok h a
   ·
    exact sayF_ok h m _ t ht
theorem sayM_ok {l : List Nat} (h : ∀ i, l.getD i 0 ≤ 15) : ∀ t ∈ sayM l 0, SdOk t := sayF_ok h _ _
theorem sayM_len (l : List Nat) : (sayM l 0).length ≤ l.length := sayF_len l _ _
def timeStep (c : List Nat) (t : Sd) : List Nat := c.set t.1 (c.getD t.1 0 + 1)
def timesC (l : List Sd) : List Nat := l.foldl timeStep (rep 19)
theorem timesC_snoc (l : List Sd) (t : Sd) : timesC (l ++ [t]) = timeStep (timesC l) t := by unfold timesC; rw [List.foldl_append]; rfl
theorem time_fold (l : List Sd) : ∀ c : List Nat, (l.foldl timeStep c).length = c.length := by
 induction l with
 | nil => intro c; rfl
 | cons t r ih => intro c; rw [List.foldl_cons, ih]; unfold timeStep; rw [List.length_set]
theorem timesC_len (l : List Sd) : (timesC l).length = 19 := by unfold timesC; rw [time_fold]; rfl
theorem time_le (l : List Sd) : ∀ (c : List Nat) (n : Nat), (∀ x ∈ c, x ≤ n) → ∀ x ∈ l.foldl timeStep c, x ≤ n + l.length := by
 induction l with
 | nil => intro c n h; exact h
 | cons t r ih =>
  intro c n h x hx
  have := ih _ (n + 1) (set_le h) x hx
  simp only [List.length_cons]
  omega
theorem timesC_le (l : List Sd) : ∀ x ∈ timesC l, x ≤ 0 + l.length := time_le l _ 0 (fun x hx => by rw [List.eq_of_mem_replicate hx]; omega)
noncomputable section
def litsM (bs : List Nat) : List Nat := lenM (litC (toks bs 0)) 15
def waysM (bs : List Nat) : List Nat := lenM (wayC (toks bs 0)) 15
def manyM (bs : List Nat) : List Nat := cutL (litsM bs) 257
def farM (bs : List Nat) : List Nat := cutL (waysM bs) 1
def listM (bs : List Nat) : List Sd := sayM (manyM bs ++ farM bs) 0
def thirdM (bs : List Nat) : List Nat := lenM (timesC (listM bs)) 7
def writM (bs : List Nat) : List Nat := cutL (ordL (thirdM bs)) 4
def sayB (third : List Int) (t : Sd) : List Bool := cbits third t.1 ++ bitsL t.2.2 t.2.1
def dynB (bs : List Nat) : List Bool :=
 bitsL 1 1 ++ bitsL 2 2 ++ bitsL ((manyM bs).length - 257) 5 ++ bitsL ((farM bs).length - 1) 5 ++ bitsL ((writM bs).length - 4) 4 ++ (writM bs).flatMap (fun n => bitsL n 3) ++ (listM bs).flatMap (sayB (toZ (thirdM bs))) ++ toksB (toZ (litsM bs)) (toZ (waysM bs)) (toks bs 0)
end
theorem cutL_bound (l : List Nat) (least : Nat) (h : least ≤ l.length) : least ≤ (cutL l least).length ∧ (cutL l least).length ≤ l.length := by
 rw [cutL_len]
 exact ⟨cutN_ge l least _ h, cutN_le l least _⟩
theorem cutL_getD (l : List Nat) (least n : Nat) (h : ∀ i, l.getD i 0 ≤ n) (i : Nat) : (cutL l least).getD i 0 ≤ n := by
 unfold cutL
 by_cases hi : i < cutN l least l.length
 ·
  rw [List.getD_eq_getElem?_getD, List.getElem?_take_of_lt hi, ← List.getD_eq_getElem?_getD]
  exact h i
 ·
  rw [List.getD_eq_getElem?_getD, List.getElem?_take_eq_none (by omega)]
  exact Nat.zero_le _
theorem append_getD (a b : List Nat) (n : Nat) (ha : ∀ i, a.getD i 0 ≤ n) (hb : ∀ i, b.getD i 0 ≤ n) (i : Nat) : (a ++ b).getD i 0 ≤ n := by
 rw [List.getD_eq_getElem?_getD, List.getElem?_append]
 split
 ·
  rw [← List.getD_eq_getElem?_getD]; exact ha i
 ·
  rw [← List.getD_eq_getElem?_getD]; exact hb _
theorem ordL_len (l : List Nat) : (ordL l).length = 19 := by unfold ordL; rw [List.length_map]; rfl
theorem ordL_getD (l : List Nat) (n : Nat) (h : ∀ i, l.getD i 0 ≤ n) (i : Nat) : (ordL l).getD i 0 ≤ n := by
 unfold ordL
 rw [List.getD_eq_getElem?_getD, List.getElem?_map]
 cases orderT[i]? with
 | none => exact Nat.zero_le _
 | some s => exact h s
theorem say_flat {third : List Int} (h3 : LOk third) (hl : 19 ≤ third.length) : ∀ L : List Sd, (∀ t ∈ L, SdOk t) → (L.flatMap (sayB third)).length ≤ 22 * L.length
 | [], _ => by simp
 | t :: L, h => by
  have h1 := say_flat h3 hl L (fun t ht => h t (List.mem_cons_of_mem _ ht))
  obtain ⟨h4, h5, _⟩ := h t List.mem_cons_self
  have h2 := cbits_len h3.1 h3.2 (show t.1 < third.length by omega)
  have h6 : (sayB third t).length = (cbits third t.1).length + t.2.1 := by unfold sayB; rw [List.length_append, bitsL_len]
  rw [List.flatMap_cons, List.length_append, List.length_cons]
  omega
theorem flat_three : ∀ L : List Nat, (L.flatMap fun n => bitsL n 3).length = 3 * L.length
 | [] => by simp
 | a :: L => by rw [List.flatMap_cons, List.length_append, flat_three L, bitsL_len, List.length_cons]; omega
end Go.Proofs.Ytnmieihcjjiccaa
namespace Go.Proofs.Ytnmieihcjjiccaa
open Go.RowKit
structure Sm {α : Type} (L' L : List Bool) (m' m : Nat) (pos len : α → Nat) (p o : Nat) (X Y : Except Nat α) : Prop where
 low : ∀ x, Y = .ok x → p ≤ pos x ∧ pos x ≤ L.length ∧ o ≤ len x
 sim : p ≤ L'.length → (X = Y ∧ ∀ x, Y = .ok x → pos x ≤ L'.length) ∨ (L' ≠ L ∧ X = .error 2 ∧ ∀ x, Y = .ok x → L'.length < pos x) ∨ (m' ≠ m ∧ X = .error 13 ∧ ∀ x, Y = .ok x → m' < len x)
section
variable {α β : Type} {L' L : List Bool} {m' m : Nat}
theorem Sm.bind {pos len : α → Nat} {pos2 len2 : β → Nat} {p o : Nat} {X Y : Except Nat α} {f g : α → Except Nat β} (h : Sm L' L m' m pos len p o X Y)
  (hf : ∀ x, Y = .ok x → p ≤ pos x → pos x ≤ L.length → o ≤ len x → Sm L' L m' m pos2 len2 (pos x) (len x) (f x) (g x)) : Sm L' L m' m pos2 len2 p o (bnd X f) (bnd Y g) := by
 refine ⟨?_, fun hp => ?_⟩
 ·
  intro y hy
  cases hY : Y with
  | error k => rw [hY] at hy; cases hy
  | ok x =>
   rw [hY, bnd_k] at hy
   obtain ⟨h1, h2, h3⟩ := h.low x hY
   obtain ⟨h4, h5, h6⟩ := (hf x hY h1 h2 h3).low y hy
   exact ⟨by omega, h5, by omega⟩
 ·
  rcases h.sim hp with ⟨h1, h0⟩ | ⟨h1, h2, h3⟩ | ⟨h1, h2, h3⟩
  ·
   subst h1
   cases hY : X with
   | error k => exact .inl ⟨rfl, by intro x h; cases h⟩
   | ok x =>
    obtain ⟨h1, h2, h3⟩ := h.low x hY
    exact (hf x hY h1 h2 h3).sim (h0 x hY)
  ·
   subst h2
   refine .inr (.inl ⟨h1, rfl, fun y hy => ?_⟩)
   cases hY : Y with
   | error k => rw [hY] at hy; cases hy
   | ok x =>
    rw [hY, bnd_k] at hy
    obtain ⟨h4, h5, h6⟩ := h.low x hY
    have := (hf x hY h4 h5 h6).low y hy
    have := h3 x hY
    omega
  ·
   subst h2
   refine .inr (.inr ⟨h1, rfl, fun y hy => ?_⟩)
   cases hY : Y with
   | error k => rw [hY] at hy; cases hy
   | ok x =>
    rw [hY, bnd_k] at hy
    obtain ⟨h4, h5, h6⟩ := h.low x hY
    have := (hf x hY h4 h5 h6).low y hy
    have := h3 x hY
    omega
end
section
variable {L' L : List Bool} {m' m : Nat}
end
section
variable {L' L : List Bool} {m' m : Nat} (hL : L' <+: L)
include hL
end
section
variable {bs' bs : List Nat} {m' m : Nat} (hb : bs' <+: bs) (hm : m' ≤ m)
include hb hm
end
structure NZ {α : Type} (X : Except Nat α) : Prop where
 ne : X ≠ .error 0
theorem NZ.bnd {α β : Type} {X : Except Nat α} {f : α → Except Nat β} (h : NZ X) (hf : ∀ x, NZ (f x)) : NZ (bnd X f) := by
 cases X with
 | error k => exact ⟨fun e => h.ne (by injection e with e; rw [e])⟩
 | ok x => exact hf x
theorem NZ.ok {α : Type} (x : α) : NZ (.ok x : Except Nat α) := ⟨by intro h; cases h⟩
end Go.Proofs.Ytnmieihcjjiccaa
namespace Go.Proofs.Ytnmieihcjjiccaa
open Go.RowKit
def encB (h : Nat) (x : List Nat) : List Nat := [h, x.length % 256, x.length / 256, 255 - x.length % 256, 255 - x.length / 256] ++ x
def encAll : List (List Nat) → List Nat → List Nat
 | [], last => encB 1 last
 | x :: r, last => encB 0 x ++ encAll r last
theorem takeF_at {L A B : List Bool} {n p : Nat} (hL : ∃ C, L = A ++ B ++ C) (hn : n = B.length) (hp : p = A.length) : takeF L n p = .ok (num B, p + n) := by
 obtain ⟨C, hL⟩ := hL
 subst hL hn hp
 unfold takeF
 rw [if_pos (by simp)]
 rw [List.append_assoc, List.drop_left, List.take_left]
theorem bits01 {h : Nat} (hh : h < 2) : bitsL h 8 = [decide (h = 1)] ++ [false, false] ++ [false, false, false, false, false] := by
 rcases (by omega : h = 0 ∨ h = 1) with rfl | rfl <;> rfl
theorem num16 {a b : Nat} (ha : a < 256) (hb : b < 256) : num (bitsL a 8 ++ bitsL b 8) = a + 256 * b := by
 rw [num_append, num_bitsL 8 a ha, num_bitsL 8 b hb, bitsL_len]
theorem block_enc {bs pre x post : List Nat} {h most : Nat} {out : List Nat} (hbs : bs = pre ++ encB h x ++ post) (hh : h < 2) (hx : x.length < 65536) (hm : out.length + x.length ≤ most) :
  blockF bs most (8 * pre.length) out = .ok (decide (h = 0), 8 * (pre.length + 5 + x.length), out ++ x) := by
 have e0 : ofB bs = ofB pre ++ bitsL h 8 ++ (bitsL (x.length % 256) 8 ++ bitsL (x.length / 256) 8 ++ (bitsL (255 - x.length % 256) 8 ++ bitsL (255 - x.length / 256) 8 ++ ofB (x ++ post))) := by
  rw [hbs]
  simp only [encB, List.cons_append, List.nil_append, List.append_assoc, ofB_append, ofB_cons]
 have el := ofB_len pre
 have hq : x.length / 256 < 256 := by omega
 have hr : x.length % 256 < 256 := by omega
 have hlen : bs.length = pre.length + 5 + x.length + post.length := by rw [hbs]; simp [encB]; omega
 unfold blockF
 rw [takeF_at (A := ofB pre) (B := [decide (h = 1)]) (n := 1) (p := 8 * pre.length) (⟨_, by rw [e0, bits01 hh]; simp only [List.append_assoc]; rfl⟩) rfl el.symm, bnd_k]
 dsimp only
 rw [takeF_at (A := ofB pre ++ [decide (h = 1)]) (B := [false, false]) (n := 2) (p := 8 * pre.length + 1) (⟨_, by rw [e0, bits01 hh]; simp only [List.append_assoc]; rfl⟩) rfl (by simp [el]), bnd_k]
 dsimp only
 have n2 : num [false, false] = 0 := rfl
 rw [n2, if_neg (by omega), if_pos rfl]
 unfold storedF
 rw [show (8 * pre.length + 1 + 2 + 7) / 8 * 8 = 8 * pre.length + 8 by omega]
 rw [takeF_at (A := ofB pre ++ bitsL h 8) (B := bitsL (x.length % 256) 8 ++ bitsL (x.length / 256) 8) (n := 16) (p := 8 * pre.length + 8) (⟨_, by rw [e0]; simp only [List.append_assoc]; rfl⟩) (by simp [bitsL_len]) (by simp [bitsL_len, el]), bnd_k]
 dsimp only
 rw [takeF_at (A := ofB pre ++ bitsL h 8 ++ (bitsL (x.length % 256) 8 ++ bitsL (x.length / 256) 8)) (B := bitsL (255 - x.length % 256) 8 ++ bitsL (255 - x.length / 256) 8) (n := 16) (p := 8 * pre.length + 8 + 16) (⟨_, by rw [e0]; simp only [List.append_assoc]; rfl⟩) (by simp [bitsL_len]) (by simp [bitsL_len, el]), bnd_k]
 dsimp only
 rw [num16 hr hq, num16 (by omega) (by omega)]
 have en : x.length % 256 + 256 * (x.length / 256) = x.length := Nat.mod_add_div ..
 rw [en]
 have hxor : x.length ^^^ (255 - x.length % 256 + 256 * (255 - x.length / 256)) = 65535 := (xor_sum (by omega) (by omega)).2 (by omega)
 rw [hxor, if_neg (by simp), if_neg (by omega), if_neg (by omega), bnd_k]
 have ed : bs.drop ((8 * pre.length + 8 + 16 + 16) / 8) = x ++ post := by
  rw [hbs, show (8 * pre.length + 8 + 16 + 16) / 8 = (pre ++ [h, x.length % 256, x.length / 256, 255 - x.length % 256, 255 - x.length / 256]).length by simp; omega]
  unfold encB
  rw [show pre ++ ([h, x.length % 256, x.length / 256, 255 - x.length % 256, 255 - x.length / 256] ++ x) ++ post = (pre ++ [h, x.length % 256, x.length / 256, 255 - x.length % 256, 255 - x.length / 256]) ++ (x ++ post) by simp only [List.append_assoc]]
  rw [List.drop_left]
 rw [ed, List.take_left]
 congr 2
 ·
  rcases (by omega : h = 0 ∨ h = 1) with rfl | rfl <;> rfl
 ·
  congr 1
  omega
theorem blocks_enc {bs : List Nat} {most : Nat} {last : List Nat} (hl : last.length < 65536) : ∀ (r : List (List Nat)) (pre out : List Nat) (f : Nat), bs = pre ++ encAll r last → (∀ x ∈ r, x.length < 65536) → out.length + r.flatten.length + last.length ≤ most → r.length < f →
  blocksF bs most f (8 * pre.length) out = .ok (8 * bs.length, out ++ r.flatten ++ last)
 | r, pre, out, 0, _, _, _, hf => by omega
 | [], pre, out, f + 1, hbs, hx, hm, hf => by
  unfold blocksF
  rw [block_enc (pre := pre) (x := last) (post := []) (h := 1) (by simpa [encAll] using hbs) (by omega) hl (by simpa using hm), bnd_k]
  have : bs.length = pre.length + 5 + last.length := by rw [hbs]; simp [encAll, encB]; omega
  simp [this]
 | x :: r, pre, out, f + 1, hbs, hx, hm, hf => by
  unfold blocksF
  simp only [List.flatten_cons, List.length_append] at hm
  rw [block_enc (pre := pre) (x := x) (post := encAll r last) (h := 0) (by simpa [encAll] using hbs) (by omega) (hx x (by simp)) (by omega), bnd_k]
  have e1 : pre.length + 5 + x.length = (pre ++ encB 0 x).length := by simp [encB]; omega
  simp only [decide_true, if_true]
  rw [e1, blocks_enc hl r (pre ++ encB 0 x) (out ++ x) f (by rw [hbs]; simp [encAll]) (fun y hy => hx y (by simp [hy])) (by simp only [List.length_append]; omega) (by simpa using hf)]
  simp
theorem infl_enc {r : List (List Nat)} {last : List Nat} (hx : ∀ x ∈ r, x.length < 65536) (hl : last.length < 65536) :
  inflF (encAll r last) ((r.flatten ++ last).length : Nat) = .ok (r.flatten ++ last, (encAll r last).length) := by
 have hlen : ∀ r : List (List Nat), r.length < 8 * (encAll r last).length + 1 := by
  intro r
  induction r with
  | nil => simp
  | cons x r ih => simp only [encAll, encB, List.length_cons, List.length_append] at *; omega
 unfold inflF
 rw [if_neg (by omega)]
 have h := blocks_enc (bs := encAll r last) (most := (r.flatten ++ last).length) hl r [] [] (8 * (encAll r last).length + 1) rfl hx (by simp) (hlen r)
 simp only [Int.toNat_natCast]
 rw [show (0 : Nat) = 8 * ([] : List Nat).length from rfl, h, bnd_k]
 simp
 omega
end Go.Proofs.Ytnmieihcjjiccaa
namespace Go.Proofs.Ytnmieihcjjiccaa
open Go.RowKit
def storO (bs : List Nat) : List Nat := if 65535 < bs.length then encB 0 (bs.take 65535) ++ storO (bs.drop 65535) else encB 1 bs
termination_by bs.length
decreasing_by simp; omega
theorem storO_eq (bs : List Nat) : storO bs = if 65535 < bs.length then encB 0 (bs.take 65535) ++ storO (bs.drop 65535) else encB 1 bs := by rw [storO]
theorem encB_lt {h : Nat} {x : List Nat} (hh : h < 2) (hx : ∀ b ∈ x, b < 256) (hl : x.length ≤ 65535) : ∀ b ∈ encB h x, b < 256 := by
 intro b hb
 simp only [encB, List.mem_append, List.mem_cons, List.not_mem_nil, or_false] at hb
 rcases hb with (rfl | rfl | rfl | rfl | rfl) | hb
 ·
  omega
 ·
  omega
 ·
  omega
 ·
  omega
 ·
  omega
 ·
  exact hx b hb
theorem encB_len (h : Nat) (x : List Nat) : (encB h x).length = x.length + 5 := by simp [encB]
theorem whole_head {pre : List Nat} {h : Nat} (hh : h < 2) : whole (ofB pre ++ bitsL h 1 ++ bitsL 0 2) = ofB (pre ++ [h]) := by
 rw [ofB_append, show ofB [h] = bitsL h 8 ++ [] from rfl, bits01 hh, List.append_nil]
 unfold whole
 have e : (8 - (ofB pre ++ bitsL h 1 ++ bitsL 0 2).length % 8) % 8 = 5 := by
  simp only [List.length_append, ofB_len, bitsL_len]
  omega
 rw [e]
 have e1 : bitsL h 1 = [decide (h = 1)] := by rcases (by omega : h = 0 ∨ h = 1) with rfl | rfl <;> rfl
 rw [e1]
 simp only [List.append_assoc]
 rfl
theorem whole_ofB (l : List Nat) : whole (ofB l) = ofB l := whole_of _ (by rw [ofB_len]; omega)
theorem woctets_n (g c0 n : Nat) (A B : Option Addr) (l : List Bool) (bs : List Nat) (w : World) (hn : bs.length = n) (hl : l.length ≤ 1000000000) (hbs : bs.length ≤ 1000000000) (hB : ∀ b ∈ bs, b < 256) (hW : IsW w g A l) (hr : Rd w 1 B bs.length (NB bs)) :
  Calls Try.prog 47 #[.pointer (some ⟨g, 0, none⟩), .slice B n c0] w fun e w' => e = .returned (.tuple #[]) ∧ ∃ A', IsW w' g A' (whole l ++ ofB bs) ∧ Frm (g :: ob A) w w' ∧ ∀ x ∈ ob A', x ∈ ob A ∨ w.heap.size ≤ x := by
 subst hn
 exact woctets_spec g c0 A B l bs w hl hbs hB hW hr
theorem storO_len : ∀ n (bs : List Nat), bs.length ≤ n → (storO bs).length ≤ 2 * bs.length + 5
 | n, bs, h => by
  rw [storO_eq]
  split
  ·
   rename_i h1
   have h2 := storO_len (n - 1) (bs.drop 65535) (by rw [List.length_drop]; omega)
   rw [List.length_drop] at h2
   rw [List.length_append, encB_len, List.length_take]
   omega
  ·
   rw [encB_len]; omega
 termination_by n => n
 decreasing_by omega
theorem storO_lt : ∀ n (bs : List Nat), bs.length ≤ n → (∀ b ∈ bs, b < 256) → ∀ b ∈ storO bs, b < 256
 | n, bs, h, hB => by
  rw [storO_eq]
  split
  ·
   intro b hb
   rcases List.mem_append.1 hb with hb | hb
   ·
    exact encB_lt (by omega) (fun b hb => hB b (List.mem_of_mem_take hb)) (by rw [List.length_take]; omega) b hb
   ·
    exact storO_lt (n - 1) (bs.drop 65535) (by rw [List.length_drop]; omega) (fun b hb => hB b (List.mem_of_mem_drop hb)) b hb
  ·
   exact encB_lt (by omega) hB (by omega)
 termination_by n => n
 decreasing_by omega
set_option maxRecDepth 100000 in
theorem flag_spec (b : Bool) (w : World) : Calls Try.prog 46 #[.bool b] w fun e w' => e = .returned (.int .u64 ((b.toNat : Nat) : Int)) ∧ w = w' := by
 refine VC.calls (nt := 4) (res := #[.tmp 2]) Try.func46 rfl Try.ntmps46 Try.results46 rfl ?_
 refine jS (jR ?_)
 refine Ops.r (v := .int .u64 ((0 : Nat) : Int)) (Run.asg rfl) rfl ?_
 refine jO (jN (jv1 0 ?_))
 refine jS (jS (jR (jM ?_)))
 refine jO (jN (jv1 3 ?_))
 refine VC.condB rfl (fun hc1 => ?_) (fun hc1 => ?_)
 ·
  refine jS (jR ?_)
  refine Ops.r (v := .int .u64 ((1 : Nat) : Int)) (Run.asg rfl) rfl ?_
  refine jO (jN (jv1 2 ?_))
  refine jT ?_
  refine thenQ_r (end1 rfl ?_)
  subst hc1
  exact ⟨rfl, rfl⟩
 ·
  refine jQ (jN ?_)
  refine VC.sub [] .nil ?_
  refine jS (jR ?_)
  refine Ops.r (v := .int .u64 ((0 : Nat) : Int)) (Run.asg rfl) rfl ?_
  refine jO (jN (jT ?_))
  refine end1 rfl ?_
  rw [show b = false from by simpa using hc1]
  exact ⟨rfl, rfl⟩
set_option maxRecDepth 100000 in
theorem stor_spec (A : Option Addr) (c : Nat) (bs : List Nat) (w : World) (hl : bs.length ≤ 1000000) (hc : bs.length ≤ c) (hB : ∀ b ∈ bs, b < 256) (hr : Rd w 1 A bs.length (NB bs)) :
  Calls Try.prog 15 #[.slice A bs.length c] w fun e w' => ∃ B d, e = .returned (.slice B (storO bs).length d) ∧ Own w' 5 1 B (storO bs).length d (NB (storO bs)) ∧ Frm [] w w' ∧ ∀ x ∈ ob B, w.heap.size ≤ x := by
 refine VC.calls (nt := 47) (res := #[.tmp 2]) Try.func15 rfl Try.ntmps15 Try.results15 rfl ?_
 refine jS (jR (jA ?_))
 refine jO (jN (jv1 0 ?_))
 refine jS (jR ?_)
 refine Ops.cl (Enters.fn evs.nil Try.call18) (new_spec _) rfl ?_
 rintro e w2 ⟨rfl, hW, hf2, _⟩
 refine ⟨_, rfl, ?_⟩
 obtain ⟨g, hgl, hgv⟩ : ∃ g, w.heap.size ≤ g ∧ g = w.heap.size := ⟨_, Nat.le_refl _, rfl⟩
 rw [← hgv] at hW
 refine jA ?_
 refine jO (jN (jv2 0 3 ?_))
 refine jS (jS (jR (jA ?_)))
 refine jO (jN (jB ?_))
 refine VC.loop (σ := Option Addr × Nat × List Nat × Bool × Option Addr × List Nat) (fun s => [(0, .slice s.1 s.2.2.1.length s.2.1), (3, .pointer (some ⟨g, 0, none⟩)), (4, .bool s.2.2.2.1)]) (fun s wr => IsW wr g s.2.2.2.2.1 (ofB s.2.2.2.2.2) ∧ Rd w 1 s.1 s.2.2.1.length (NB s.2.2.1) ∧ s.2.2.1.length ≤ s.2.1 ∧ (∀ b ∈ s.2.2.1, b < 256) ∧ Frm [] w wr ∧ (∀ x ∈ ob s.2.2.2.2.1, w.heap.size ≤ x) ∧ (s.2.2.2.1 = true → s.2.2.2.2.2 ++ storO s.2.2.1 = storO bs ∧ s.2.2.2.2.2.length + 2 * s.2.2.1.length ≤ 2 * bs.length) ∧ (s.2.2.2.1 = false → s.2.2.2.2.2 = storO bs) ∧ s.2.2.1.length ≤ bs.length) (fun s => s.2.2.1.length + s.2.2.2.1.toNat) (A, c, bs, true, none, []) (js3 rfl (by rw [hgv]; rfl) rfl) ⟨hW, hr, hc, hB, hf2, by simp [ob], fun _ => ⟨rfl, by simp⟩, (by simp), Nat.le_refl _⟩ ?_
 rintro ⟨B, c1, rest, more, A1, pre⟩ wr ⟨hW, hr1, hcr, hB1, K, hA1, hm, hf, hlr⟩
 dsimp only at hW hr1 hcr hB1 hA1 hm hf hlr ⊢
 refine jS (jS (jR (jM ?_)))
 refine jO (jN (jv3 0 3 7 ?_))
 refine VC.condB rfl (fun hc1 => ?_) (fun hc1 => ?_)
 ·
  obtain ⟨hm1, hm2⟩ := hm hc1
  refine jQ (jN (jv2 0 3 ?_))
  refine jB (jS (jR (jM ?_)))
  refine Ops.r (Run.lenS rfl Try.underlying22) rfl ?_
  refine Ops.r (Run.minI rfl rfl) rfl ?_
  have em : (if (65535 : Int) < ((rest.length : Nat) : Int) then (65535 : Int) else ((rest.length : Nat) : Int)) = ((min rest.length 65535 : Nat) : Int) := by split <;> omega
  rw [em]
  have hnle : min rest.length 65535 ≤ 65535 := Nat.min_le_right _ _
  have hnl : min rest.length 65535 ≤ rest.length := Nat.min_le_left _ _
  have hnlt : ¬ min rest.length 65535 < rest.length → min rest.length 65535 = rest.length := by omega
  have hnlt2 : min rest.length 65535 < rest.length → min rest.length 65535 = 65535 := by omega
  generalize min rest.length 65535 = n at hnle hnl hnlt hnlt2 ⊢
  refine jA ?_
  refine jO (jN (jv3 0 3 5 ?_))
  refine jS (jR (jM ?_))
  refine jM ?_
  refine Ops.r (Run.lenS rfl Try.underlying22) rfl ?_
  refine Ops.r (Run.bin rfl rfl (Bin.lssN _ _)) rfl ?_
  refine jA ?_
  refine jO (jN (jv4 0 3 4 5 ?_))
  refine jS (jR (jM ?_))
  refine jM ?_
  refine Ops.r (Run.not rfl) rfl ?_
  refine Ops.cl (Enters.fn (evs.cons rfl evs.nil) Try.call46) (flag_spec _ _) rfl ?_
  rintro e _ ⟨rfl, rfl⟩
  refine ⟨_, rfl, ?_⟩
  have hh2 : (!decide (n < rest.length)).toNat < 2 := Bool.toNat_lt _
  generalize hhv : (!decide (n < rest.length)).toNat = hh at hh2 ⊢
  refine Ops.cl (Enters.fn (evs.cons rfl (evs.cons rfl (evs.cons rfl evs.nil))) Try.call19) (put_ok g hh 1 A1 (ofB pre) wr (by omega) (by omega) (by rw [ofB_len]; omega) hW) rfl ?_
  rintro e w3 ⟨rfl, A2, hW2, hf3, hA2⟩
  refine ⟨_, rfl, ?_⟩
  have hgA : ∀ x ∈ g :: ob A1, w.heap.size ≤ x := fun x hx => by rcases List.mem_cons.1 hx with rfl | hx; exact hgl; exact hA1 x hx
  have K3 := K.own hf3 hgA
  have hA2 : ∀ x ∈ ob A2, w.heap.size ≤ x := fun x hx => by rcases hA2 x hx with h | h; exact hA1 x h; have := K.size; omega
  refine jO (jN (jv4 0 3 4 5 ?_))
  refine jS (jR (jM ?_))
  refine Ops.cl (Enters.fn (evs.cons rfl (evs.cons rfl (evs.cons rfl evs.nil))) Try.call19) (put_ok g 0 2 A2 _ w3 (by decide) (by omega) (by rw [List.length_append, ofB_len, bitsL_len]; omega) hW2) rfl ?_
  rintro e w4 ⟨rfl, A3, hW3, hf4, hA3⟩
  refine ⟨_, rfl, ?_⟩
  have hgA : ∀ x ∈ g :: ob A2, w.heap.size ≤ x := fun x hx => by rcases List.mem_cons.1 hx with rfl | hx; exact hgl; exact hA2 x hx
  have K4 := K3.own hf4 hgA
  have hA3 : ∀ x ∈ ob A3, w.heap.size ≤ x := fun x hx => by rcases hA3 x hx with h | h; exact hA2 x h; have := K3.size; omega
  refine jO (jN (jv4 0 3 4 5 ?_))
  refine jS (jR (jM ?_))
  refine jM ?_
  refine Ops.r (Run.conv8 _ rfl Try.underlying3 Try.underlying5) rfl ?_
  refine jM ?_
  refine Ops.r (Run.bin rfl rfl (Bin.shr_i64 _ 8 (by omega))) rfl ?_
  refine Ops.r (Run.conv8 _ rfl Try.underlying3 Try.underlying5) rfl ?_
  refine jM ?_
  refine Ops.r (Run.compl _ rfl (by omega)) rfl ?_
  refine Ops.r (Run.conv rfl Try.underlying3 Try.underlying5 _ (wrap_compl n hnle)) rfl ?_
  refine jM ?_
  refine Ops.r (Run.compl _ rfl (by omega)) rfl ?_
  refine Ops.r (Run.bin rfl rfl (Bin.shr_neg8 n)) rfl ?_
  refine Ops.r (Run.conv rfl Try.underlying3 Try.underlying5 _ (wrap_compl8 n hnle)) rfl ?_
  refine Ops.m (Does.buildN (cells := (NB [n % 256, n / 2 ^ 8 % 256, (65535 - n) % 256, (65535 - n) / 256]).toArray) (evs.cons rfl (evs.cons rfl (evs.cons rfl (evs.cons rfl evs.nil)))) Try.underlying22 Try.sizeOf5 zero5 rfl rfl jK) rfl ?_
  rintro _ w5 ⟨rfl, hF5⟩
  have hrd : Rd w5 1 (some ⟨w4.heap.size, 0, none⟩) 4 (NB [n % 256, n / 2 ^ 8 % 256, (65535 - n) % 256, (65535 - n) / 256]) := Rd.of_blk (n := 4) (size := 1) hF5.blk rfl
  have hW3 := hW3.frm hF5.frm (by simp)
  have K5 := K4.trans hF5.frm (by simp)
  refine Ops.cl (Enters.fn (evs.cons rfl (evs.cons rfl evs.nil)) Try.call47) (woctets_n g 4 4 A3 _ _ [n % 256, n / 2 ^ 8 % 256, (65535 - n) % 256, (65535 - n) / 256] w5 rfl (by simp only [List.length_append, ofB_len, bitsL_len]; omega) (by simp) (by intro b hb; simp only [List.mem_cons, List.not_mem_nil, or_false] at hb; rcases hb with rfl | rfl | rfl | rfl <;> omega) hW3 hrd) rfl ?_
  rintro e w6 ⟨rfl, A4, hW4, hf6, hA4⟩
  refine ⟨_, rfl, ?_⟩
  have hgA : ∀ x ∈ g :: ob A3, w.heap.size ≤ x := fun x hx => by rcases List.mem_cons.1 hx with rfl | hx; exact hgl; exact hA3 x hx
  have K6 := K5.own hf6 hgA
  have hA4 : ∀ x ∈ ob A4, w.heap.size ≤ x := fun x hx => by rcases hA4 x hx with h | h; exact hA3 x h; have := K5.size; omega
  rw [whole_head hh2, ← ofB_append] at hW4
  refine jO (jN (jv4 0 3 4 5 ?_))
  refine jS (jR (jM ?_))
  refine jM ?_
  refine jM ?_
  refine Ops.r (Run.sliceS 0 n rfl Try.underlying22 Try.sizeOf5 evB.none_ (evB.some_ rfl) (by omega) (by omega)) rfl ?_
  rw [cutA_0, Nat.sub_zero, Nat.sub_zero]
  have hr6 : Rd w6 1 B rest.length (NB rest) := hr1.frm K6 (by simp)
  have hr7 := NB_cut rest 0 n (by omega) hr6 hcr
  rw [cutA_0, List.drop_zero] at hr7
  have hln : (rest.take n).length = n := by rw [List.length_take]; omega
  refine Ops.cl (Enters.fn (evs.cons rfl (evs.cons rfl evs.nil)) Try.call47) (woctets_n g _ n A4 B _ (rest.take n) w6 hln (by simp only [List.length_append, ofB_len, List.length_cons, List.length_nil]; omega) (by omega) (fun b hb => hB1 b (List.mem_of_mem_take hb)) hW4 hr7) rfl ?_
  rintro e w7 ⟨rfl, A5, hW5, hf7, hA5⟩
  refine ⟨_, rfl, ?_⟩
  have hgA : ∀ x ∈ g :: ob A4, w.heap.size ≤ x := fun x hx => by rcases List.mem_cons.1 hx with rfl | hx; exact hgl; exact hA4 x hx
  have K7 := K6.own hf7 hgA
  have hA5 : ∀ x ∈ ob A5, w.heap.size ≤ x := fun x hx => by rcases hA5 x hx with h | h; exact hA4 x h; have := K6.size; omega
  rw [whole_ofB, ← ofB_append] at hW5
  refine jO (jN (jv4 0 3 4 5 ?_))
  refine jR (jM ?_)
  refine jM ?_
  refine Ops.r (Run.sliceS n _ rfl Try.underlying22 Try.sizeOf5 (evB.some_ rfl) evB.none_ (by omega) (by omega)) rfl ?_
  refine jA ?_
  refine jO ?_
  refine blockQ_n (jN ⟨(cutA B c1 n 1, c1 - n, rest.drop n, decide (n < rest.length), A5, pre ++ encB hh (rest.take n)), (js3 (by rw [List.length_drop]; rfl) rfl rfl), ?_, ?_⟩)
  ·
   have heq : pre ++ [hh] ++ [n % 256, n / 2 ^ 8 % 256, (65535 - n) % 256, (65535 - n) / 256] ++ rest.take n = pre ++ encB hh (rest.take n) := by
    have e1 : n / 2 ^ 8 % 256 = n / 256 := by omega
    have e2 : (65535 - n) % 256 = 255 - n % 256 := by omega
    have e3 : (65535 - n) / 256 = 255 - n / 256 := by omega
    unfold encB
    rw [hln, e1, e2, e3]
    simp only [List.append_assoc, List.cons_append, List.nil_append]
   rw [heq] at hW5
   refine ⟨hW5, ?_, by dsimp only; rw [List.length_drop]; omega, fun b hb => hB1 b (List.mem_of_mem_drop hb), K7, hA5, fun h => ?_, fun h => ?_, by dsimp only; rw [List.length_drop]; omega⟩
   ·
    have h9 := NB_cut rest n (rest.length - n) (by omega) hr1 hcr
    rw [List.take_of_length_le (by rw [List.length_drop]; omega)] at h9
    exact h9
   ·
    have h9 : n < rest.length := of_decide_eq_true h
    have h8 := hnlt2 h9
    subst h8
    have h7 : hh = 0 := by rw [← hhv, decide_eq_true h9]; rfl
    rw [storO_eq, if_pos h9] at hm1
    rw [h7, List.append_assoc]
    refine ⟨hm1, ?_⟩
    rw [List.length_append, encB_len, hln, List.length_drop]
    omega
   ·
    have h9 : ¬ n < rest.length := of_decide_eq_false h
    have h8 := hnlt h9
    have h7 : hh = 1 := by rw [← hhv, decide_eq_false h9]; rfl
    rw [storO_eq, if_neg (by omega)] at hm1
    rw [h7, List.take_of_length_le (by omega)]
    exact hm1
  ·
   dsimp only
   rw [List.length_drop]
   have hdn : n < rest.length ∨ (decide (n < rest.length)).toNat = 0 := by
    by_cases h : n < rest.length
    ·
     exact .inl h
    ·
     exact .inr (by rw [decide_eq_false h]; rfl)
   have hd1 : (decide (n < rest.length)).toNat < 2 := Bool.toNat_lt _
   have hd2 : more.toNat = 1 := by rw [hc1]; rfl
   omega
 ·
  refine jX ?_
  refine thenQ_x (thenQ_x (blockQ_x ?_))
  refine jN (jv1 3 ?_)
  refine jS (jR (jM ?_))
  refine Ops.cl (Enters.fn (evs.cons rfl evs.nil) Try.call22) (bytes_spec g A1 (ofB pre) wr (by rw [ofB_len]; have := hf (by simpa using hc1); rw [this]; have := storO_len _ bs (Nat.le_refl _); omega) hW) rfl ?_
  rintro e w9 ⟨Bz, dz, rfl, hBz, hfz, huz⟩
  refine ⟨_, rfl, ?_⟩
  refine jA ?_
  refine jO (jN (jv1 2 ?_))
  refine jT ?_
  refine end1 rfl ?_
  have he := hf (by simpa using hc1)
  subst he
  rw [pack_ofB _ (storO_lt _ bs (Nat.le_refl _) hB)] at hBz ⊢
  exact ⟨Bz, dz, rfl, hBz, K.trans hfz (by simp), fun x hx => Nat.le_trans K.size (huz x hx)⟩
end Go.Proofs.Ytnmieihcjjiccaa
namespace Go.Proofs.Ytnmieihcjjiccaa
open Go.RowKit
theorem SyC_rdL {w : World} {g : Nat} {t : TypeId} {a b : List Nat} {n : Nat} (h : Blk w g t (SyC a b)) (hn : a.length = n) : Rd w 1 (some ⟨g, 0, none⟩) n (NI a) := by
 subst hn
 refine ⟨by simp [NI], fun _ => ⟨_, rfl, h.lt, fun j u hu => ?_⟩⟩
 rw [add_mk, h.cell, SyC]
 have hj : j < (NI a).length := (List.getElem?_eq_some_iff.1 hu).1
 rw [List.getElem?_toArray, List.getElem?_append_left hj]
 exact hu
theorem SyC_rdW {w : World} {g : Nat} {t : TypeId} {a b : List Nat} {n m : Nat} (h : Blk w g t (SyC a b)) (hm : a.length = m) (hn : b.length = n) : Rd w 1 (some ⟨g, m, none⟩) n (NI b) := by
 subst hn hm
 refine ⟨by simp [NI], fun _ => ⟨_, rfl, h.lt, fun j u hu => ?_⟩⟩
 have e : ((⟨g, a.length, none⟩ : Addr).add j) = ⟨g, a.length + j, none⟩ := by simp [Addr.add]
 rw [e, h.cell, SyC, List.getElem?_toArray, List.getElem?_append_right (by simp [NI]), show a.length + j - (NI a).length = j by simp [NI]]
 exact hu
theorem count_n (Bt : Option Addr) (n ct : Nat) (lt : List Tk) (w : World) (hn : lt.length = n) (hlt : ∀ t ∈ lt, TkOk t) (hll : n ≤ 1000000) (hot : Own w 73 3 Bt n ct (TC lt)) :
  Calls Try.prog 23 #[.slice Bt n ct] w fun e w' => e = .returned (.agg (SyC (litC lt) (wayC lt))) ∧ Frm [] w w' := by
 subst hn
 exact count_sp Bt ct lt w hlt hll hot
theorem lens_n (A : Option Addr) (n c0 : Nat) (cs : List Nat) (m : Nat) (w : World) (hn : cs.length = n) (hl : n ≤ 320) (hb : ∀ x ∈ cs, x ≤ 2147483647) (hm1 : 1 ≤ m) (hm2 : m ≤ 15) (hf : n ≤ 2 ^ m) (hr : Rd w 1 A n (NI cs)) :
  Calls Try.prog 25 #[.slice A n c0, .int .i64 ((m : Nat) : Int)] w fun e w' => ∃ B c, e = .returned (.tuple #[.slice B n c, .int .i64 ((0 : Nat) : Int)]) ∧ Own w' 3 1 B n c (NI (lenM cs m)) ∧ Frm [] w w' ∧ (∀ x ∈ ob B, w.heap.size ≤ x) ∧ LenOk cs (lenM cs m) m := by
 subst hn
 exact lens_ok A c0 cs m w hl hb hm1 hm2 hf hr
theorem cut_n (A : Option Addr) (n c least : Nat) (l : List Nat) (w : World) (hn : l.length = n) (hl : n ≤ 1000000) (hc : n ≤ c) (hr : Rd w 1 A n (NI l)) :
  Calls Try.prog 26 #[.slice A n c, .int .i64 ((least : Nat) : Int)] w fun e w' => (∃ B d, e = .returned (.slice B (cutL l least).length d) ∧ Rd w 1 B (cutL l least).length (NI (cutL l least)) ∧ (cutL l least).length ≤ d) ∧ w = w' := by
 subst hn
 exact cut_sp A c least l w hl hc hr
theorem say_n (A : Option Addr) (n c : Nat) (l : List Nat) (w : World) (hn : l.length = n) (hl : n ≤ 100000) (hr : Rd w 1 A n (NI l)) :
  Calls Try.prog 27 #[.slice A n c] w fun e w' => ∃ B d, e = .returned (.slice B (sayM l 0).length d) ∧ Own w' 56 3 B (sayM l 0).length d (SDC (sayM l 0)) ∧ Frm [] w w' ∧ ∀ x ∈ ob B, w.heap.size ≤ x := by
 subst hn
 exact say_sp A c l w hl hr
theorem order_n (A : Option Addr) (c : Nat) (l : List Nat) (w : World) (hl : l.length = 19) (hr : Rd w 1 A 19 (NI l)) :
  Calls Try.prog 28 #[.slice A 19 c] w fun e w' => ∃ B d, e = .returned (.slice B (ordL l).length d) ∧ Own w' 3 1 B (ordL l).length d (NI (ordL l)) ∧ Frm [] w w' ∧ ∀ x ∈ ob B, w.heap.size ≤ x := by
 have h := order_sp A c l w hl (by rw [hl]; exact hr)
 rw [hl] at h
 exact h
theorem codes_n (A : Option Addr) (n c0 : Nat) (l : List Nat) (w : World) (hn : l.length = n) (h : LOk (toZ l)) (hr : Rd w 1 A n (NI l)) :
  Calls Try.prog 31 #[.slice A n c0] w fun e w' => Frm [] w w' ∧ ∃ B c, e = .returned (.tuple #[.slice B n c, .int .i64 ((0 : Nat) : Int)]) ∧ Own w' 116 2 B n c ((codesL (toZ l)).flatMap CB) := by
 subst hn
 have h1 := codes_ok A c0 (toZ l) w h (by rw [toZ_len, ← toZ_IB]; exact hr)
 rw [toZ_len] at h1
 exact h1
theorem more1_n (n0 g g2 g3 s n v c : Nat) (A B : Option Addr) (l : List Bool) (ls : List Int) (w : World) (hn0 : ls.length = n0) (hg : good ls) (hk : KC (cn ls) 16 ≤ 32768) (hs : s < n0) (hv : v < 2 ^ n) (hn : n ≤ 32) (hl : l.length ≤ 900000000) (hW : IsW w g A l) (ho : Own w 116 2 B n0 c ((codesL ls).flatMap CB))
  (hb2 : Blk w g2 34 #[.pointer (some ⟨g, 0, none⟩)]) (hb3 : Blk w g3 60 #[.slice B n0 c]) :
  Calls Try.prog 59 #[.int .i64 ((s : Nat) : Int), .int .i64 ((n : Nat) : Int), .int .i64 ((v : Nat) : Int), .pointer (some ⟨g2, 0, none⟩), .pointer (some ⟨g3, 0, none⟩)] w fun e w' => e = .returned (.tuple #[]) ∧ WR w w' g A (l ++ cbits ls s ++ bitsL v n) := by
 subst hn0
 exact more1_spec g g2 g3 s n v c A B l ls w hg hk hs hv hn hl hW ho hb2 hb3
theorem tokens_n (g ct c1 c2 na nb nt : Nat) (A Bt La Lb : Option Addr) (l : List Bool) (lt : List Tk) (a b : List Nat) (w : World) (hna : a.length = na) (hnb : b.length = nb) (hnt : lt.length = nt) (ha : LOk (toZ a)) (hb : LOk (toZ b)) (ha2 : 286 ≤ na) (hb2 : 30 ≤ nb) (hlt : ∀ t ∈ lt, TkOk t) (hll : nt ≤ 1000000) (hl : l.length ≤ 100000000) (hW : IsW w g A l) (hot : Own w 73 3 Bt nt ct (TC lt)) (hra : Rd w 1 La na (NI a)) (hrb : Rd w 1 Lb nb (NI b)) :
  Calls Try.prog 21 #[.pointer (some ⟨g, 0, none⟩), .slice Bt nt ct, .slice La na c1, .slice Lb nb c2] w fun e w' => e = .returned (.tuple #[]) ∧ WR w w' g A (l ++ toksB (toZ a) (toZ b) lt) := by
 subst hna hnb hnt
 have h := tokens_spec g ct c1 c2 A Bt La Lb l lt (toZ a) (toZ b) w ha hb (by rw [toZ_len]; exact ha2) (by rw [toZ_len]; exact hb2) hlt hll hl hW hot (by rw [toZ_len, ← toZ_IB]; exact hra) (by rw [toZ_len, ← toZ_IB]; exact hrb)
 rw [toZ_len, toZ_len] at h
 exact h
theorem flat3s : ∀ (L : List Sd) (s : Nat) (_ : s < L.length), ((SDC L).drop (s * 3)).take 3 = sdC (L.getD s (0, 0, 0))
 | a :: L, 0, _ => rfl
 | a :: L, s + 1, h => by
  have := flat3s L s (by simpa using h)
  rw [show SDC (a :: L) = sdC a ++ SDC L from rfl, show (s + 1) * 3 = (sdC a).length + s * 3 by simp [sdC]; omega, List.drop_length_add_append, List.getD_cons_succ]
  exact this
theorem sd_snoc {L : List Sd} {i : Nat} (h : i < L.length) : L.take (i + 1) = L.take i ++ [L.getD i (0, 0, 0)] := tok_snoc h
theorem nat_snoc {L : List Nat} {i : Nat} (h : i < L.length) : L.take (i + 1) = L.take i ++ [L.getD i 0] := by
 rw [List.take_add_one, List.getElem?_eq_getElem h, List.getD_eq_getElem?_getD, List.getElem?_eq_getElem h]
 rfl
theorem NIa_set (a : List Nat) (i x : Nat) : (NI a).toArray.setIfInBounds i (.int .i64 ((x : Nat) : Int)) = (NI (a.set i x)).toArray := by rw [NI_set]; simp
theorem NIa_get (a : List Nat) (i : Nat) (h : i < a.length) : (NI a).toArray[i]? = some (.int .i64 ((a.getD i 0 : Nat) : Int)) := by rw [List.getElem?_toArray]; exact NI_get a i h
theorem dyn_bounds (bs : List Nat) (hb : LenOk (litC (toks bs 0)) (litsM bs) 15) (hw : LenOk (wayC (toks bs 0)) (waysM bs) 15) :
  (litsM bs).length = 286 ∧ (waysM bs).length = 30 ∧ 257 ≤ (manyM bs).length ∧ (manyM bs).length ≤ 286 ∧ 1 ≤ (farM bs).length ∧ (farM bs).length ≤ 30 ∧ (∀ t ∈ listM bs, SdOk t) ∧ (listM bs).length ≤ 316 := by
 have h1 : (litsM bs).length = 286 := hb.len.trans (litC_len _)
 have h2 : (waysM bs).length = 30 := hw.len.trans (wayC_len _)
 have h3 := cutL_bound (litsM bs) 257 (by omega)
 have h4 := cutL_bound (waysM bs) 1 (by omega)
 have h5 := sayM_len (manyM bs ++ farM bs)
 rw [List.length_append] at h5
 refine ⟨h1, h2, h3.1, by unfold manyM; omega, h4.1, by unfold farM; omega, sayM_ok (append_getD _ _ _ (cutL_getD _ _ _ hb.most) (cutL_getD _ _ _ hw.most)), ?_⟩
 have e1 : (manyM bs).length = (cutL (litsM bs) 257).length := rfl
 have e2 : (farM bs).length = (cutL (waysM bs) 1).length := rfl
 unfold listM
 omega
set_option maxRecDepth 100000 in
theorem ddyn_spec (A : Option Addr) (c : Nat) (bs : List Nat) (w : World) (hl : bs.length ≤ 32768) (hc : bs.length ≤ c) (hB : ∀ b ∈ bs, b < 256) (hr : Rd w 1 A bs.length (NB bs)) :
  Calls Try.prog 8 #[.slice A bs.length c] w fun e w' => ∃ B d, e = .returned (.tuple #[.slice B (pack (dynB bs)).length d, .int .i64 ((0 : Nat) : Int)]) ∧ Own w' 5 1 B (pack (dynB bs)).length d (NB (pack (dynB bs))) ∧ Frm [] w w' ∧ ∀ x ∈ ob B, w.heap.size ≤ x := by
 have htl := toks_len0 bs
 have hok := toks_ok bs 0 hl hB
 refine VC.calls (nt := 138) (res := #[.tmp 2, .tmp 3]) Try.func8 rfl Try.ntmps8 Try.results8 rfl ?_
 refine jS (jR (jA ?_))
 refine Ops.r (v := .int .i64 ((0 : Nat) : Int)) (Run.asg rfl) rfl ?_
 refine jO (jN (jv1 0 ?_))
 refine jS (jR (jM ?_))
 refine Ops.cl (Enters.fn (evs.cons rfl evs.nil) Try.call17) (find_small A c bs w hl hc hB hr) rfl ?_
 rintro e w1 ⟨Bt, dt, rfl, hot, K, _⟩
 refine ⟨_, rfl, ?_⟩
 have hnt : (toks bs 0).length = (toks bs 0).length := rfl
 generalize hntv : (toks bs 0).length = nt at *
 refine jM ?_
 refine Ops.r (Run.extract rfl rfl) rfl ?_
 refine Ops.r (Run.extract rfl rfl) rfl ?_
 refine jA ?_
 refine jA ?_
 refine jO (jN (jv2 4 5 ?_))
 refine jS (jS (jR (jM ?_)))
 refine Ops.r (Run.bin rfl rfl (Bin.neqN _ 0)) rfl ?_
 refine jO (jN (jv3 4 5 29 ?_))
 refine VC.condF rfl (by decide) ?_
 refine jQ (jN (jv1 4 ?_))
 refine jS (jR (jM ?_))
 refine Ops.cl (Enters.fn (evs.cons rfl evs.nil) Try.call23) (count_n Bt nt dt (toks bs 0) w1 hntv hok (by omega) hot) rfl ?_
 rintro e w2 ⟨rfl, hf2⟩
 refine ⟨_, rfl, ?_⟩
 have hot := hot.frm hf2 (by simp)
 have K := K.trans hf2 (by simp)
 refine Ops.m (Does.alloc zeroSy) rfl ?_
 rintro _ w3 ⟨rfl, hF3⟩
 have hg6 := K.size
 have hot := hot.frm hF3.frm (by simp)
 have K := K.trans hF3.frm (by simp)
 have hb3 : Blk w3 w2.heap.size 46 (SyC (rep 286) (rep 30)) := hF3.blk
 generalize w2.heap.size = g6 at hb3 hg6 ⊢
 refine Ops.st (Acts.storeA rfl rfl (fun w => by rw [SyC_size, litC_len, wayC_len]; exact Try.sizeOf46 w) hb3 (by rw [SyC_size, SyC_size, litC_len, wayC_len]; simp [rep]) (SyC_one _ _)) ?_
 rintro w4 ⟨hb4, hf4, hs4⟩
 have hot := hot.frm hf4 (fun x hx hx2 => by rw [List.mem_singleton] at hx2; subst hx2; exact hot.ne_blk hb3 (by decide) hx)
 have K := K.own hf4 (by simp; omega)
 refine jO (jN (jv2 4 6 ?_))
 refine jS ?_
 refine VC.held (fun v => Blk v g6 46 (SyC (litC (toks bs 0)) (wayC (toks bs 0)))) jK ?_
 have hS : (fun v => Blk v g6 46 (SyC (litC (toks bs 0)) (wayC (toks bs 0)))) w4.drew := hb4.drawn (Drawn.drew _)
 have hot := hot.drawn (Drawn.drew w4)
 have K := K.drawn (Drawn.drew w4)
 refine jH 0 rfl hS (fun w0 hw0 => Run.fieldAddr rfl Try.underlying46 rfl Try.sizeOf43 (by decide)) ?_
 refine HOps.take (v := .slice (some ⟨g6, 0, none⟩) 286 286) 1 rfl jK jK jK hS (fun w0 hw0 => Run.sliceA 0 286 rfl Try.underlying43 Try.sizeOf3 evB.none_ evB.none_ (by omega) (by omega)) trivial rfl rfl ?_
 refine jH 6 rfl hS (fun w0 hw0 => Run.fieldAddr rfl Try.underlying46 rfl Try.sizeOf44 (by decide)) ?_
 refine HOps.take (v := .slice (some ⟨g6, 286, none⟩) 30 30) 7 rfl jK jK jK hS (fun w0 hw0 => Run.sliceA 0 30 rfl Try.underlying44 Try.sizeOf3 evB.none_ evB.none_ (by omega) (by omega)) trivial rfl rfl ?_
 refine HOps.cl 2 rfl jK (Enters.fn (evs.cons rfl (evs.cons rfl evs.nil)) Try.call25) (lens_n (some ⟨g6, 0, none⟩) 286 286 (litC (toks bs 0)) 15 _ (litC_len _) (by omega) (fun x hx => by have := litC_le _ x hx; omega) (by omega) (by omega) (by decide) (SyC_rdL hS (litC_len _))) trivial rfl rfl ?_
 rintro e w5 ⟨Ba, ca, rfl, hoa, hf5, hna, hlo⟩
 refine ⟨_, rfl, hS.frm hf5 (by simp), ?_⟩
 have hS := hS.frm hf5 (by simp)
 have hot := hot.frm hf5 (by simp)
 have K := K.trans hf5 (by simp)
 refine jH 3 rfl hS (fun w0 hw0 => Run.extract rfl rfl) ?_
 refine jH 4 rfl hS (fun w0 hw0 => Run.extract rfl rfl) ?_
 refine HOps.cl 5 rfl jK (Enters.fn (evs.cons rfl (evs.cons rfl evs.nil)) Try.call24) (mustI_spec _ _ _) trivial rfl rfl ?_
 rintro e _ ⟨rfl, rfl⟩
 refine ⟨_, rfl, hS, ?_⟩
 refine HOps.cl 8 rfl jK (Enters.fn (evs.cons rfl (evs.cons rfl evs.nil)) Try.call25) (lens_n (some ⟨g6, 286, none⟩) 30 30 (wayC (toks bs 0)) 15 _ (wayC_len _) (by omega) (fun x hx => by have := wayC_le _ x hx; omega) (by omega) (by omega) (by decide) (SyC_rdW hS (litC_len _) (wayC_len _))) trivial rfl rfl ?_
 rintro e w6 ⟨Bb, cb, rfl, hob, hf6, hnb, hwo⟩
 refine ⟨_, rfl, hS.frm hf6 (by simp), ?_⟩
 have hS := hS.frm hf6 (by simp)
 have hot := hot.frm hf6 (by simp)
 have hoa := hoa.frm hf6 (by simp)
 have K := K.trans hf6 (by simp)
 have hlo : LenOk (litC (toks bs 0)) (litsM bs) 15 := hlo
 have hwo : LenOk (wayC (toks bs 0)) (waysM bs) 15 := hwo
 have hoa : Own w6 3 1 Ba 286 ca (NI (litsM bs)) := hoa
 have hob : Own w6 3 1 Bb 30 cb (NI (waysM bs)) := hob
 obtain ⟨hL1, hL2, hM1, hM2, hF1, hF2, hLok, hLl⟩ := dyn_bounds bs hlo hwo
 refine jH 9 rfl hS (fun w0 hw0 => Run.extract rfl rfl) ?_
 refine jH 10 rfl hS (fun w0 hw0 => Run.extract rfl rfl) ?_
 refine HOps.cl 11 rfl jK (Enters.fn (evs.cons rfl (evs.cons rfl evs.nil)) Try.call24) (mustI_spec _ _ _) trivial rfl rfl ?_
 rintro e _ ⟨rfl, rfl⟩
 refine ⟨_, rfl, hS, ?_⟩
 refine jH 12 rfl hS (fun w0 hw0 => Run.asg rfl) ?_
 refine jH 13 rfl hS (fun w0 hw0 => Run.asg rfl) ?_
 refine HOps.done jK ?_
 refine jN (jv3 4 7 8 ?_)
 refine jS (jR (jM ?_))
 refine Ops.cl (Enters.fn (evs.cons rfl (evs.cons rfl evs.nil)) Try.call26) (cut_n Ba 286 ca 257 (litsM bs) w6 hL1 (by omega) hoa.le hoa.rd) rfl ?_
 rintro e _ ⟨⟨Bm, dm, rfl, hrm, hcm⟩, rfl⟩
 refine ⟨_, rfl, ?_⟩
 have hrm : Rd w6 1 Bm (manyM bs).length (NI (manyM bs)) := hrm
 have em : (cutL (litsM bs) 257).length = (manyM bs).length := rfl
 rw [em]
 refine jM ?_
 refine Ops.cl (Enters.fn (evs.cons rfl (evs.cons rfl evs.nil)) Try.call26) (cut_n Bb 30 cb 1 (waysM bs) w6 hL2 (by omega) hob.le hob.rd) rfl ?_
 rintro e _ ⟨⟨Bf, df, rfl, hrf, hcf⟩, rfl⟩
 refine ⟨_, rfl, ?_⟩
 have hrf : Rd w6 1 Bf (farM bs).length (NI (farM bs)) := hrf
 have ef : (cutL (waysM bs) 1).length = (farM bs).length := rfl
 rw [ef]
 clear hcm hcf
 generalize hvm : (manyM bs).length = vm at *
 generalize hvf : (farM bs).length = vf at *
 refine jA ?_
 refine jA ?_
 refine jO (jN (jv5 4 7 8 9 10 ?_))
 refine jS (jR (jM ?_))
 refine Ops.m (Does.app rfl rfl Try.underlying38 (info3) rfl (by decide) (Own.nil _ _ _) hrm (NI_one _) (by omega) (by omega)) rfl ?_
 rintro _ w7 ⟨A7, c7, rfl, ho7, hf7, hob7⟩
 have hf7 : Frm [] w6 w7 := hf7
 rw [List.nil_append] at ho7
 have hrf := hrf.frm hf7 (by simp)
 refine jM ?_
 refine Ops.m (Does.app rfl rfl Try.underlying38 (info3) rfl (by decide) ho7 hrf (NI_one _) (by omega) (by omega)) rfl ?_
 rintro _ w8 ⟨A8, c8, rfl, ho8, hf8, hob8⟩
 have hu7 : ∀ x ∈ ob A7, w6.heap.size ≤ x := fun x hx => by
  rcases hob7 with h | h
  ·
   rw [h] at hx; cases hx
  ·
   rw [h, List.mem_singleton] at hx; omega
 have hf8 : Frm [] w6 w8 := hf7.own hf8 hu7
 rw [show NI (manyM bs) ++ NI (farM bs) = NI (manyM bs ++ farM bs) by simp [NI]] at ho8
 refine Ops.cl (Enters.fn (evs.cons rfl evs.nil) Try.call27) (say_n A8 (0 + vm + vf) c8 (manyM bs ++ farM bs) w8 (by rw [List.length_append]; omega) (by omega) ho8.rd) rfl ?_
 rintro e w9 ⟨Bl, dl, rfl, hol, hf9, _⟩
 refine ⟨_, rfl, ?_⟩
 have hf9 := hf8.trans hf9 (by simp)
 have hot := hot.frm hf9 (by simp)
 have hoa := hoa.frm hf9 (by simp)
 have hob := hob.frm hf9 (by simp)
 have K := K.trans hf9 (by simp)
 have hol : Own w9 56 3 Bl (listM bs).length dl (SDC (listM bs)) := hol
 have el : (sayM (manyM bs ++ farM bs) 0).length = (listM bs).length := rfl
 rw [el]
 clear ho8 ho7 hrm hrf hf8 hf7 hb4 hb3
 refine jA ?_
 refine jO (jN (jv6 4 7 8 9 10 11 ?_))
 refine jS (jR ?_)
 refine Ops.m (Does.alloc zero54) rfl ?_
 rintro _ w10 ⟨rfl, hF10⟩
 have hb12 : Blk w10 w9.heap.size 54 (NI (timesC ((listM bs).take 0))).toArray := hF10.blk
 have hg12 : w9.heap.size ≤ w9.heap.size := Nat.le_refl _
 have K10 : Frm [] w9 w10 := hF10.frm
 generalize hgv : w9.heap.size = g12 at hb12 hg12 ⊢
 have hgl : w9.heap.size ≤ g12 := by omega
 refine jO (jN (jS (jS (jR (jM ?_)))))
 refine Ops.r (Run.lenS rfl Try.underlying52) rfl ?_
 refine Ops.r (v := .int .i64 ((0 : Nat) : Int)) (Run.mv rfl) rfl ?_
 refine jO (jN (jB ?_))
 refine VC.loop (σ := Nat) (fun s => [(4, _), (7, _), (8, _), (9, _), (10, _), (11, _), (12, _), (54, .slice Bl (listM bs).length dl), (55, .int .i64 (((listM bs).length : Nat) : Int)), (56, .int .i64 ((s : Nat) : Int))]) (fun s wr => s ≤ (listM bs).length ∧ Blk wr g12 54 (NI (timesC ((listM bs).take s))).toArray ∧ Frm [] w9 wr) (fun s => (listM bs).length - s) 0 (js10 rfl rfl rfl rfl rfl rfl rfl rfl rfl rfl) ⟨Nat.zero_le _, hb12, K10⟩ ?_
 rintro i wr ⟨hi, hb12, K10⟩
 refine jS (jR ?_)
 refine Ops.r (Run.bin rfl rfl (Bin.lssN _ _)) rfl ?_
 refine jO (jN (jS ?_))
 refine VC.condD rfl (fun hc2 => ?_) (fun hc2 => ?_)
 ·
  have hol1 := hol.frm K10 (by simp)
  obtain ⟨ad, rfl, hel⟩ := hol1.rd.elem hc2
  rw [flat3s (listM bs) i hc2] at hel
  have hsn := sd_snoc hc2
  have hqok := hLok ((listM bs).getD i (0, 0, 0)) (by rw [List.getD_eq_getElem?_getD, List.getElem?_eq_getElem hc2]; exact List.getElem_mem hc2)
  generalize (listM bs).getD i (0, 0, 0) = q at hel hsn hqok
  have hq19 := hqok.1
  have hts := timesC_snoc ((listM bs).take i) q
  rw [← hsn] at hts
  have htl1 := timesC_len ((listM bs).take i)
  have hle1 := timesC_le ((listM bs).take i)
  rw [List.length_take, Nat.min_eq_left hi] at hle1
  generalize timesC ((listM bs).take i) = ct at *
  have hv1 := getD_le hle1 q.1
  refine jQ (jN (jv10 4 7 8 9 10 11 12 54 55 56 ?_))
  refine jS (jB (jS (jR ?_)))
  refine Ops.r (Run.indexS _ rfl rfl Try.underlying52 Try.sizeOf56 (by omega)) rfl ?_
  refine Ops.r (Run.loadA rfl Try.isAgg56 Try.sizeOf56 hel (by first | rfl | (simp; done))) rfl ?_
  refine Ops.m (Does.alloc zero56) rfl ?_
  rintro _ w11 ⟨rfl, hF11⟩
  refine Ops.st (Acts.storeA rfl rfl Try.sizeOf56 hF11.blk rfl (by intro v hv; exact SDC_one [q] v (by simpa [SDC] using hv))) ?_
  rintro w12 ⟨hb14, hf12, hs12⟩
  have hf12 : Frm [] wr w12 := hF11.frm.own hf12 (by simp)
  have hb12 := hb12.frm hf12 (by simp)
  have K10 := K10.trans hf12 (by simp)
  refine jO (jN (jv11 4 7 8 9 10 11 12 14 54 55 56 ?_))
  refine jR ?_
  refine Ops.r (Run.fieldAddr rfl Try.underlying56 rfl Try.sizeOf3 (by decide)) rfl ?_
  refine Ops.r (Run.load rfl Try.isAgg3 (hb14.cell 0)) rfl ?_
  refine Ops.r (Run.indexA1 _ rfl rfl Try.underlying54 Try.sizeOf3 (by omega)) rfl ?_
  refine Ops.r (Run.load rfl Try.isAgg3 ((hb12.cell _).trans (by rw [Nat.zero_add]; exact NIa_get _ _ (by omega)))) rfl ?_
  refine Ops.r (Run.bin rfl rfl (Bin.add_i64 _ 1 (by omega))) rfl ?_
  refine Ops.r (Run.indexA1 _ rfl rfl Try.underlying54 Try.sizeOf3 (by omega)) rfl ?_
  refine Ops.st (Acts.store rfl rfl Try.sizeOf3 hb12 (by rw [Nat.blt_eq]; simp [NI]; omega) rfl) ?_
  rintro w13 ⟨hb13, hf13, hs13⟩
  rw [Nat.zero_add, NIa_set] at hb13
  unfold timeStep at hts
  rw [← hts] at hb13
  refine jO ?_
  refine blockQ_n (jN ?_)
  refine jv10 4 7 8 9 10 11 12 54 55 56 ?_
  refine jR ?_
  refine Ops.r (Run.bin rfl rfl (Bin.add_i64 _ 1 (by omega))) rfl ?_
  refine jM ?_
  refine jO ?_
  refine jN ⟨i + 1, (js10 rfl rfl rfl rfl rfl rfl rfl rfl rfl rfl), ?_, ?_⟩
  ·
   exact ⟨hc2, hb13, K10.own hf13 (by simp; omega)⟩
  ·
   first | omega | (dsimp only; omega)
 ·
  refine jX ?_
  refine thenQ_x (thenQ_x (blockQ_x ?_))
  refine jN (jv7 4 7 8 9 10 11 12 ?_)
  refine jS (jR ?_)
  have ei : i = (listM bs).length := by omega
  subst ei
  rw [List.take_length] at hb12
  refine Ops.r (v := .slice (some ⟨g12, 0, none⟩) 19 19) (Run.sliceA 0 19 rfl Try.underlying54 Try.sizeOf3 evB.none_ evB.none_ (by omega) (by omega)) rfl ?_
  refine Ops.cl (Enters.fn (evs.cons rfl (evs.cons rfl evs.nil)) Try.call25) (lens_n (some ⟨g12, 0, none⟩) 19 19 (timesC (listM bs)) 7 wr (timesC_len _) (by omega) (fun x hx => by have := timesC_le _ x hx; omega) (by omega) (by omega) (by decide) (Rd.of_blk (n := 19) (size := 1) hb12 (by simp [NI, timesC_len]))) rfl ?_
  rintro e w14 ⟨B3, c3, rfl, ho3, hf14, _, h3o⟩
  refine ⟨_, rfl, ?_⟩
  have K10 := K10.trans hf14 (by simp)
  have ho3 : Own w14 3 1 B3 19 c3 (NI (thirdM bs)) := ho3
  have h3o : LenOk (timesC (listM bs)) (thirdM bs) 7 := h3o
  have h3l : (thirdM bs).length = 19 := h3o.len.trans (timesC_len _)
  refine Ops.r (Run.extract rfl rfl) rfl ?_
  refine Ops.r (Run.extract rfl rfl) rfl ?_
  refine Ops.cl (Enters.fn (evs.cons rfl (evs.cons rfl evs.nil)) Try.call24) (mustI_spec _ _ _) rfl ?_
  rintro e _ ⟨rfl, rfl⟩
  refine ⟨_, rfl, ?_⟩
  refine jA ?_
  refine jO (jN (jv7 4 7 8 9 10 11 15 ?_))
  refine jS (jR (jM ?_))
  refine Ops.cl (Enters.fn (evs.cons rfl evs.nil) Try.call28) (order_n B3 c3 (thirdM bs) w14 h3l ho3.rd) rfl ?_
  rintro e w15 ⟨Bo, co, rfl, hoo, hf15, _⟩
  refine ⟨_, rfl, ?_⟩
  have K10 := K10.trans hf15 (by simp)
  have ho3 := ho3.frm hf15 (by simp)
  refine Ops.cl (Enters.fn (evs.cons rfl (evs.cons rfl evs.nil)) Try.call26) (cut_sp Bo co 4 (ordL (thirdM bs)) w15 (by rw [ordL_len]; omega) hoo.le hoo.rd) rfl ?_
  rintro e _ ⟨⟨Bw, dw, rfl, hrw, hcw⟩, rfl⟩
  refine ⟨_, rfl, ?_⟩
  have hrw : Rd w15 1 Bw (writM bs).length (NI (writM bs)) := hrw
  have ew : (cutL (ordL (thirdM bs)) 4).length = (writM bs).length := rfl
  rw [ew]
  have hwb : 4 ≤ (writM bs).length ∧ (writM bs).length ≤ 19 := by
   have := cutL_bound (ordL (thirdM bs)) 4 (by rw [ordL_len]; omega)
   rw [ordL_len] at this
   exact this
  have hw7 : ∀ i, (writM bs).getD i 0 ≤ 7 := cutL_getD _ _ _ (ordL_getD _ _ h3o.most)
  generalize hvw : (writM bs).length = vw at *
  have hot := hot.frm K10 (by simp)
  have hoa := hoa.frm K10 (by simp)
  have hob := hob.frm K10 (by simp)
  have hol := hol.frm K10 (by simp)
  have K := K.trans K10 (by simp)
  clear hoo hcw
  refine jA ?_
  refine jO (jN (jv8 4 7 8 9 10 11 15 16 ?_))
  refine jS (jR ?_)
  refine Ops.cl (Enters.fn evs.nil Try.call18) (new_spec _) rfl ?_
  rintro e w16 ⟨rfl, hW, hf16, _⟩
  refine ⟨_, rfl, ?_⟩
  have K11 := hf16
  obtain ⟨g, hgl, hgv⟩ : ∃ g, w15.heap.size ≤ g ∧ g = w15.heap.size := ⟨_, Nat.le_refl _, rfl⟩
  rw [← hgv] at hW
  rw [← hgv]
  have hA0 : ∀ x ∈ ob (none : Option Addr), w15.heap.size ≤ x := by simp [ob]
  refine jA ?_
  refine jO (jN (jv9 4 7 8 9 10 11 15 16 17 ?_))
  refine jS (jR (jM ?_))
  refine Ops.cl (Enters.fn (evs.cons rfl (evs.cons rfl (evs.cons rfl evs.nil))) Try.call19) (put_ok g 1 1 none _ w16 (by decide) (by omega) (by simp [bitsL_len]) hW) rfl ?_
  rintro e w17 ⟨rfl, A1, hW1, hfp, hAp⟩
  refine ⟨_, rfl, ?_⟩
  have K11n := K11.own hfp (fun x hx => by rcases List.mem_cons.1 hx with rfl | hx; exact hgl; exact hA0 x hx)
  have hA0 : ∀ x ∈ ob A1, w15.heap.size ≤ x := fun x hx => by rcases hAp x hx with h | h; exact hA0 x h; have := K11.size; omega
  have K11 := K11n
  clear K11n hfp hAp
  refine jO (jN (jv9 4 7 8 9 10 11 15 16 17 ?_))
  refine jS (jR (jM ?_))
  refine Ops.cl (Enters.fn (evs.cons rfl (evs.cons rfl (evs.cons rfl evs.nil))) Try.call19) (put_ok g 2 2 A1 _ w17 (by decide) (by omega) (by simp [bitsL_len]) hW1) rfl ?_
  rintro e w18 ⟨rfl, A2, hW2, hfp, hAp⟩
  refine ⟨_, rfl, ?_⟩
  have K11n := K11.own hfp (fun x hx => by rcases List.mem_cons.1 hx with rfl | hx; exact hgl; exact hA0 x hx)
  have hA0 : ∀ x ∈ ob A2, w15.heap.size ≤ x := fun x hx => by rcases hAp x hx with h | h; exact hA0 x h; have := K11.size; omega
  have K11 := K11n
  clear K11n hfp hAp
  refine jO (jN (jv9 4 7 8 9 10 11 15 16 17 ?_))
  refine jS (jR (jM ?_))
  refine jM ?_
  refine Ops.r (Run.lenS rfl Try.underlying38) rfl ?_
  refine Ops.r (Run.bin rfl rfl (Bin.sub_i64 _ 257 (by omega) (by omega))) rfl ?_
  refine Ops.r (Run.convN _ rfl Try.underlying3 Try.underlying37 (by simp only [bmax]; omega)) rfl ?_
  refine Ops.cl (Enters.fn (evs.cons rfl (evs.cons rfl (evs.cons rfl evs.nil))) Try.call19) (put_ok g (vm - 257) 5 A2 _ w18 (by omega) (by omega) (by simp [bitsL_len]) hW2) rfl ?_
  rintro e w19 ⟨rfl, A3, hW3, hfp, hAp⟩
  refine ⟨_, rfl, ?_⟩
  have K11n := K11.own hfp (fun x hx => by rcases List.mem_cons.1 hx with rfl | hx; exact hgl; exact hA0 x hx)
  have hA0 : ∀ x ∈ ob A3, w15.heap.size ≤ x := fun x hx => by rcases hAp x hx with h | h; exact hA0 x h; have := K11.size; omega
  have K11 := K11n
  clear K11n hfp hAp
  refine jO (jN (jv8 4 7 8 10 11 15 16 17 ?_))
  refine jS (jR (jM ?_))
  refine jM ?_
  refine Ops.r (Run.lenS rfl Try.underlying38) rfl ?_
  refine Ops.r (Run.bin rfl rfl (Bin.sub_i64 _ 1 (by omega) (by omega))) rfl ?_
  refine Ops.r (Run.convN _ rfl Try.underlying3 Try.underlying37 (by simp only [bmax]; omega)) rfl ?_
  refine Ops.cl (Enters.fn (evs.cons rfl (evs.cons rfl (evs.cons rfl evs.nil))) Try.call19) (put_ok g (vf - 1) 5 A3 _ w19 (by omega) (by omega) (by simp [bitsL_len]) hW3) rfl ?_
  rintro e w20 ⟨rfl, A4, hW4, hfp, hAp⟩
  refine ⟨_, rfl, ?_⟩
  have K11n := K11.own hfp (fun x hx => by rcases List.mem_cons.1 hx with rfl | hx; exact hgl; exact hA0 x hx)
  have hA0 : ∀ x ∈ ob A4, w15.heap.size ≤ x := fun x hx => by rcases hAp x hx with h | h; exact hA0 x h; have := K11.size; omega
  have K11 := K11n
  clear K11n hfp hAp
  refine jO (jN (jv7 4 7 8 11 15 16 17 ?_))
  refine jS (jR (jM ?_))
  refine jM ?_
  refine Ops.r (Run.lenS rfl Try.underlying38) rfl ?_
  refine Ops.r (Run.bin rfl rfl (Bin.sub_i64 _ 4 (by omega) (by omega))) rfl ?_
  refine Ops.r (Run.convN _ rfl Try.underlying3 Try.underlying37 (by simp only [bmax]; omega)) rfl ?_
  refine Ops.cl (Enters.fn (evs.cons rfl (evs.cons rfl (evs.cons rfl evs.nil))) Try.call19) (put_ok g (vw - 4) 4 A4 _ w20 (by omega) (by omega) (by simp [bitsL_len]) hW4) rfl ?_
  rintro e w21 ⟨rfl, A5, hW5, hfp, hAp⟩
  refine ⟨_, rfl, ?_⟩
  have K11n := K11.own hfp (fun x hx => by rcases List.mem_cons.1 hx with rfl | hx; exact hgl; exact hA0 x hx)
  have hA0 : ∀ x ∈ ob A5, w15.heap.size ≤ x := fun x hx => by rcases hAp x hx with h | h; exact hA0 x h; have := K11.size; omega
  have K11 := K11n
  clear K11n hfp hAp
  refine jO (jN (jv7 4 7 8 11 15 16 17 ?_))
  refine jS (jS (jR (jM ?_)))
  refine Ops.r (Run.lenS rfl Try.underlying38) rfl ?_
  refine Ops.r (v := .int .i64 ((0 : Nat) : Int)) (Run.mv rfl) rfl ?_
  refine jO (jN (jv9 4 7 8 11 15 17 98 99 100 ?_))
  refine jB ?_
  obtain ⟨PRE, hPRE⟩ : ∃ P, P = (([] : List Bool) ++ bitsL 1 1 ++ bitsL 2 2 ++ bitsL (vm - 257) 5 ++ bitsL (vf - 1) 5 ++ bitsL (vw - 4) 4) := ⟨_, rfl⟩
  rw [← hPRE] at hW5
  have hPl : PRE.length = 17 := by rw [hPRE]; simp [bitsL_len]
  refine VC.loop (σ := Nat × Option Addr) (fun s => [(4, _), (7, _), (8, _), (11, _), (15, _), (17, .pointer (some ⟨g, 0, none⟩)), (98, .slice Bw vw dw), (99, .int .i64 ((vw : Nat) : Int)), (100, .int .i64 ((s.1 : Nat) : Int))]) (fun s wr => s.1 ≤ vw ∧ IsW wr g s.2 (PRE ++ ((writM bs).take s.1).flatMap (fun n => bitsL n 3)) ∧ Frm [] w15 wr ∧ ∀ x ∈ ob s.2, w15.heap.size ≤ x) (fun s => vw - s.1) (0, A5) (js9 rfl rfl rfl rfl rfl rfl rfl rfl rfl) ⟨Nat.zero_le _, by simpa using hW5, K11, hA0⟩ ?_
  rintro ⟨i, A6⟩ wr ⟨hi, hW6, K11, hA0⟩
  dsimp only at hi hW6 hA0 ⊢
  have hfl := flat_three ((writM bs).take i)
  have hti := List.length_take_le i (writM bs)
  refine jS (jR ?_)
  refine Ops.r (Run.bin rfl rfl (Bin.lssN _ _)) rfl ?_
  refine jO (jN (jS ?_))
  refine VC.condD rfl (fun hc3 => ?_) (fun hc3 => ?_)
  ·
   obtain ⟨ad, rfl, _, hadc⟩ := (hrw.frm K11 (by simp)).2 (by omega)
   have hcell := hadc i _ (NI_get (writM bs) i (by omega))
   have hsn := nat_snoc (show i < (writM bs).length by omega)
   have hq7 := hw7 i
   generalize (writM bs).getD i 0 = q at hcell hsn hq7
   refine jQ (jN (jv9 4 7 8 11 15 17 98 99 100 ?_))
   refine jS (jB (jS (jR ?_)))
   refine Ops.r (Run.index1 _ rfl rfl Try.underlying38 Try.sizeOf3 (by omega)) rfl ?_
   refine Ops.r (Run.load rfl Try.isAgg3 hcell) rfl ?_
   refine jA ?_
   refine jO (jN (jv10 4 7 8 11 15 17 19 98 99 100 ?_))
   refine jR (jM ?_)
   refine jM ?_
   refine Ops.r (Run.convN _ rfl Try.underlying3 Try.underlying37 (by simp only [bmax]; omega)) rfl ?_
   refine Ops.cl (Enters.fn (evs.cons rfl (evs.cons rfl (evs.cons rfl evs.nil))) Try.call19) (put_ok g q 3 A6 _ wr (by omega) (by omega) (by rw [List.length_append]; omega) hW6) rfl ?_
   rintro e w22 ⟨rfl, A7, hW7, hfp, hAp⟩
   refine ⟨_, rfl, ?_⟩
   have K11n := K11.own hfp (fun x hx => by rcases List.mem_cons.1 hx with rfl | hx; exact hgl; exact hA0 x hx)
   have hA0 : ∀ x ∈ ob A7, w15.heap.size ≤ x := fun x hx => by rcases hAp x hx with h | h; exact hA0 x h; have := K11.size; omega
   refine jO ?_
   refine blockQ_n (jN ?_)
   refine jv9 4 7 8 11 15 17 98 99 100 ?_
   refine jR ?_
   refine Ops.r (Run.bin rfl rfl (Bin.add_i64 _ 1 (by omega))) rfl ?_
   refine jM ?_
   refine jO ?_
   refine jN ⟨(i + 1, A7), (js9 rfl rfl rfl rfl rfl rfl rfl rfl rfl), ?_, ?_⟩
   ·
    exact ⟨hc3, by rw [hsn, List.flatMap_append, List.flatMap_singleton, ← List.append_assoc]; exact hW7, K11n, hA0⟩
   ·
    first | omega | (dsimp only; omega)
  ·
   refine jX ?_
   refine thenQ_x (thenQ_x (blockQ_x ?_))
   refine jN (jv6 4 7 8 11 15 17 ?_)
   refine jS (jR (jM ?_))
   refine jM ?_
   refine Ops.cl (Enters.fn (evs.cons rfl evs.nil) Try.call31) (codes_n B3 19 c3 (thirdM bs) wr h3l h3o.ok (ho3.frm K11 (by simp)).rd) rfl ?_
   rintro e w23 ⟨hf23, Bc, cc, rfl, hoc⟩
   refine ⟨_, rfl, ?_⟩
   have hW6 := hW6.new hf23
   have K11 := K11.trans hf23 (by simp)
   refine Ops.r (Run.extract rfl rfl) rfl ?_
   refine Ops.r (Run.extract rfl rfl) rfl ?_
   refine Ops.cl (Enters.fn (evs.cons rfl (evs.cons rfl evs.nil)) Try.call30) (mustC_spec _ _ _) rfl ?_
   rintro e _ ⟨rfl, rfl⟩
   refine ⟨_, rfl, ?_⟩
   refine Ops.cl (Enters.fn (evs.cons rfl (evs.cons rfl evs.nil)) Try.call29) (more_spec (.pointer (some ⟨g, 0, none⟩)) (.slice Bc 19 cc) rfl rfl _) rfl ?_
   rintro e w24 ⟨g2, g3, rfl, hg2, hg3, hf24⟩
   refine ⟨_, rfl, ?_⟩
   have hW6 := hW6.new hf24
   have hoc := hoc.frm hf24 (by simp)
   have K11 := K11.trans hf24 (by simp)
   have ei : i = vw := by omega
   subst ei
   rw [← hvw, List.take_length] at hW6
   refine jA ?_
   refine jO (jN (jv6 4 7 8 11 17 20 ?_))
   refine jS (jS (jR (jM ?_)))
   refine Ops.r (Run.lenS rfl Try.underlying52) rfl ?_
   refine Ops.r (v := .int .i64 ((0 : Nat) : Int)) (Run.mv rfl) rfl ?_
   refine jO (jN (jv8 4 7 8 17 20 116 117 118 ?_))
   refine jB ?_
   refine VC.loop (σ := Nat × Option Addr) (fun s => [(4, _), (7, _), (8, _), (17, .pointer (some ⟨g, 0, none⟩)), (20, .func (.func 59) #[] #[.pointer (some ⟨g2, 0, none⟩), .pointer (some ⟨g3, 0, none⟩)]), (116, .slice Bl (listM bs).length dl), (117, .int .i64 (((listM bs).length : Nat) : Int)), (118, .int .i64 ((s.1 : Nat) : Int))]) (fun s wr => s.1 ≤ (listM bs).length ∧ IsW wr g s.2 (PRE ++ (writM bs).flatMap (fun n => bitsL n 3) ++ ((listM bs).take s.1).flatMap (sayB (toZ (thirdM bs)))) ∧ Frm [] w15 wr ∧ (∀ x ∈ ob s.2, w15.heap.size ≤ x) ∧ Blk wr g2 34 #[.pointer (some ⟨g, 0, none⟩)] ∧ Blk wr g3 60 #[.slice Bc 19 cc] ∧ Own wr 116 2 Bc 19 cc ((codesL (toZ (thirdM bs))).flatMap CB)) (fun s => (listM bs).length - s.1) (0, A6) (js8 rfl rfl rfl rfl rfl rfl rfl rfl) ⟨Nat.zero_le _, by simpa using hW6, K11, hA0, hg2, hg3, hoc⟩ ?_
   rintro ⟨i, A8⟩ wr ⟨hi, hW8, K11, hA0, hg2, hg3, hoc⟩
   dsimp only at hi hW8 hA0 ⊢
   have hfl2 := say_flat h3o.ok (by rw [toZ_len, h3l]; omega) ((listM bs).take i) (fun t ht => hLok t (List.mem_of_mem_take ht))
   have hti2 : ((listM bs).take i).length = i := by rw [List.length_take, Nat.min_eq_left hi]
   have hfl3 := flat_three (writM bs)
   have hbl : (PRE ++ (writM bs).flatMap (fun n => bitsL n 3) ++ ((listM bs).take i).flatMap (sayB (toZ (thirdM bs)))).length ≤ 100000 := by
    rw [List.length_append, List.length_append, hPl, hfl3, hvw]
    omega
   refine jS (jR ?_)
   refine Ops.r (Run.bin rfl rfl (Bin.lssN _ _)) rfl ?_
   refine jO (jN (jS ?_))
   refine VC.condD rfl (fun hc4 => ?_) (fun hc4 => ?_)
   ·
    have hol1 := hol.frm K11 (by simp)
    obtain ⟨ad, rfl, hel⟩ := hol1.rd.elem hc4
    rw [flat3s (listM bs) i hc4] at hel
    have hsn := sd_snoc hc4
    have hqok := hLok ((listM bs).getD i (0, 0, 0)) (by rw [List.getD_eq_getElem?_getD, List.getElem?_eq_getElem hc4]; exact List.getElem_mem hc4)
    generalize (listM bs).getD i (0, 0, 0) = q at hel hsn hqok
    refine jQ (jN (jv8 4 7 8 17 20 116 117 118 ?_))
    refine jS (jB (jS (jR ?_)))
    refine Ops.r (Run.indexS _ rfl rfl Try.underlying52 Try.sizeOf56 (by omega)) rfl ?_
    refine Ops.r (Run.loadA rfl Try.isAgg56 Try.sizeOf56 hel (by first | rfl | (simp; done))) rfl ?_
    refine Ops.m (Does.alloc zero56) rfl ?_
    rintro _ w25 ⟨rfl, hF25⟩
    refine Ops.st (Acts.storeA rfl rfl Try.sizeOf56 hF25.blk rfl (by intro v hv; exact SDC_one [q] v (by simpa [SDC] using hv))) ?_
    rintro w26 ⟨hb22, hf26, hs26⟩
    have hf26 : Frm [] wr w26 := hF25.frm.own hf26 (by simp)
    have hW8 := hW8.new hf26
    have hg2 := hg2.frm hf26 (by simp)
    have hg3 := hg3.frm hf26 (by simp)
    have hoc := hoc.frm hf26 (by simp)
    have K11 := K11.trans hf26 (by simp)
    refine jO (jN (jv9 4 7 8 17 20 22 116 117 118 ?_))
    refine jR (jM ?_)
    refine Ops.r (Run.fieldAddr rfl Try.underlying56 rfl Try.sizeOf3 (by decide)) rfl ?_
    refine Ops.r (Run.load rfl Try.isAgg3 (hb22.cell 0)) rfl ?_
    refine Ops.r (Run.fieldAddr rfl Try.underlying56 rfl Try.sizeOf3 (by decide)) rfl ?_
    refine Ops.r (Run.load rfl Try.isAgg3 (hb22.cell 1)) rfl ?_
    refine Ops.r (Run.fieldAddr rfl Try.underlying56 rfl Try.sizeOf3 (by decide)) rfl ?_
    refine Ops.r (Run.load rfl Try.isAgg3 (hb22.cell 2)) rfl ?_
    refine Ops.cl (Enters.dyn rfl (evs.cons rfl (evs.cons rfl (evs.cons rfl evs.nil))) Try.call59) (more1_n 19 g g2 g3 q.1 q.2.1 q.2.2 cc A8 Bc _ (toZ (thirdM bs)) w26 (by rw [toZ_len, h3l]) h3o.ok.1 h3o.ok.2 hqok.1 hqok.2.2 (by have := hqok.2.1; omega) (by omega) hW8 hoc hg2 hg3) rfl ?_
    rintro e w27 ⟨rfl, A9, hW9, hf27, hA9⟩
    refine ⟨_, rfl, ?_⟩
    have hg2 := hW8.keepB hf27 hg2 (by decide) (by decide)
    have hg3 := hW8.keepB hf27 hg3 (by decide) (by decide)
    have hoc := hW8.keepO hf27 hoc (by decide) (by decide)
    have hA0n : ∀ x ∈ ob A9, w15.heap.size ≤ x := fun x hx => by rcases hA9 x hx with h | h; exact hA0 x h; have := K11.size; omega
    have K11 := K11.own hf27 (fun x hx => by rcases List.mem_cons.1 hx with rfl | hx; exact hgl; exact hA0 x hx)
    refine jO ?_
    refine blockQ_n (jN ?_)
    refine jv8 4 7 8 17 20 116 117 118 ?_
    refine jR ?_
    refine Ops.r (Run.bin rfl rfl (Bin.add_i64 _ 1 (by omega))) rfl ?_
    refine jM ?_
    refine jO ?_
    refine jN ⟨(i + 1, A9), (js8 rfl rfl rfl rfl rfl rfl rfl rfl), ?_, ?_⟩
    ·
     exact ⟨hc4, by rw [hsn, List.flatMap_append, List.flatMap_singleton]; unfold sayB at hW9 ⊢; simpa [List.append_assoc] using hW9, K11, hA0n, hg2, hg3, hoc⟩
    ·
     first | omega | (dsimp only; omega)
   ·
    refine jX ?_
    refine thenQ_x (thenQ_x (blockQ_x ?_))
    refine jN (jv4 4 7 8 17 ?_)
    refine jS (jR (jM ?_))
    refine jM ?_
    refine jM ?_
    refine jM ?_
    refine Ops.cl (Enters.fn (evs.cons rfl (evs.cons rfl (evs.cons rfl (evs.cons rfl evs.nil)))) Try.call21) (tokens_n g dt ca cb 286 30 nt A8 Bt Ba Bb _ (toks bs 0) (litsM bs) (waysM bs) wr hL1 hL2 hntv hlo.ok hwo.ok (by omega) (by omega) hok (by omega) (by omega) hW8 (hot.frm K11 (by simp)) (hoa.frm K11 (by simp)).rd (hob.frm K11 (by simp)).rd) rfl ?_
    rintro e w28 ⟨rfl, A9, hW9, hf28, hA9⟩
    refine ⟨_, rfl, ?_⟩
    have K11 := K11.own hf28 (fun x hx => by rcases List.mem_cons.1 hx with rfl | hx; exact hgl; exact hA0 x hx)
    have ei : i = (listM bs).length := by omega
    subst ei
    have hfin : PRE ++ (writM bs).flatMap (fun n => bitsL n 3) ++ ((listM bs).take (listM bs).length).flatMap (sayB (toZ (thirdM bs))) ++ toksB (toZ (litsM bs)) (toZ (waysM bs)) (toks bs 0) = dynB bs := by
     rw [List.take_length, hPRE]
     unfold dynB
     rw [hvm, hvf, hvw, List.nil_append]
    rw [hfin] at hW9
    refine jO (jN (jv1 17 ?_))
    refine jS (jR (jM ?_))
    refine Ops.cl (Enters.fn (evs.cons rfl evs.nil) Try.call22) (bytes_spec g A9 (dynB bs) w28 (by have h1 := toks_flat hlo.ok hwo.ok (by rw [toZ_len]; omega) (by rw [toZ_len]; omega) _ hok; have h3 := cbits_len hlo.ok.1 hlo.ok.2 (show 256 < (toZ (litsM bs)).length by rw [toZ_len]; omega); rw [← hfin]; unfold toksB; simp only [List.length_append] at hbl ⊢; omega) hW9) rfl ?_
    rintro e w29 ⟨B, d, rfl, hB7, hf29, hu7⟩
    refine ⟨_, rfl, ?_⟩
    refine jA ?_
    refine Ops.r (v := .int .i64 ((0 : Nat) : Int)) (Run.asg rfl) rfl ?_
    refine jO (jN (jv2 2 3 ?_))
    refine jT ?_
    refine end2 rfl rfl ?_
    exact ⟨B, d, rfl, hB7, (K.trans K11 (by simp)).trans hf29 (by simp), fun x hx => by have := hu7 x hx; have := K.size; have := K11.size; omega⟩
set_option maxRecDepth 100000 in
theorem ddyn_big (A : Option Addr) (n c : Nat) (w : World) (hn : 65536 < n) :
  Calls Try.prog 8 #[.slice A n c] w fun e w' => e = .returned (.tuple #[.slice none 0 0, .int .i64 ((5 : Nat) : Int)]) ∧ w = w' := by
 refine VC.calls (nt := 138) (res := #[.tmp 2, .tmp 3]) Try.func8 rfl Try.ntmps8 Try.results8 rfl ?_
 refine jS (jR (jA ?_))
 refine Ops.r (v := .int .i64 ((0 : Nat) : Int)) (Run.asg rfl) rfl ?_
 refine jO (jN (jv1 0 ?_))
 refine jS (jR (jM ?_))
 refine Ops.cl (Enters.fn (evs.cons rfl evs.nil) Try.call17) (find_big A n c w hn) rfl ?_
 rintro e _ ⟨rfl, rfl⟩
 refine ⟨_, rfl, ?_⟩
 refine jM ?_
 refine Ops.r (Run.extract rfl rfl) rfl ?_
 refine Ops.r (Run.extract rfl rfl) rfl ?_
 refine jA ?_
 refine jA ?_
 refine jO (jN (jv2 4 5 ?_))
 refine jS (jS (jR (jM ?_)))
 refine Ops.r (Run.bin rfl rfl (Bin.neqN _ 0)) rfl ?_
 refine jO (jN (jv3 4 5 29 ?_))
 refine VC.condT rfl (by decide) ?_
 refine jS (jR (jM ?_))
 refine jA ?_
 refine jA ?_
 refine jO (jN (jv2 2 3 ?_))
 refine jT ?_
 refine thenQ_r (end2 rfl rfl ?_)
 exact ⟨rfl, rfl⟩
end Go.Proofs.Ytnmieihcjjiccaa
namespace Go.Proofs.Ytnmieihcjjiccaa
open Go.RowKit
def kindF (i : Nat) : FuncId := if i = 0 then 7 else 8
noncomputable section
def kindX (bs : List Nat) (i : Nat) : List Nat := if i = 0 then pack (fixM bs) else pack (dynB bs)
def bestK (bs : List Nat) : Nat → List Nat
 | 0 => storO bs
 | i + 1 => if (kindX bs i).length < (bestK bs i).length then kindX bs i else bestK bs i
end
theorem kind_call (i : Nat) (args : Array Value) (w : World) : (callFunc (kindF i) args).run Try.prog w = .ok (.enter (kindF i) args) w := by
 unfold kindF
 split
 ·
  exact Try.call7 args w
 ·
  exact Try.call8 args w
theorem kind_spec (i : Nat) (A : Option Addr) (c : Nat) (bs : List Nat) (w : World) (hl : bs.length ≤ 32768) (hc : bs.length ≤ c) (hB : ∀ b ∈ bs, b < 256) (hr : Rd w 1 A bs.length (NB bs)) :
  Calls Try.prog (kindF i) #[.slice A bs.length c] w fun e w' => ∃ B d, e = .returned (.tuple #[.slice B (kindX bs i).length d, .int .i64 ((0 : Nat) : Int)]) ∧ Own w' 5 1 B (kindX bs i).length d (NB (kindX bs i)) ∧ Frm [] w w' ∧ ∀ x ∈ ob B, w.heap.size ≤ x := by
 unfold kindF kindX
 split
 ·
  exact dfix_spec A c bs w hl hc hB hr
 ·
  exact ddyn_spec A c bs w hl hc hB hr
theorem kind_big (i : Nat) (A : Option Addr) (n c : Nat) (w : World) (hn : 65536 < n) :
  Calls Try.prog (kindF i) #[.slice A n c] w fun e w' => e = .returned (.tuple #[.slice none 0 0, .int .i64 ((5 : Nat) : Int)]) ∧ w = w' := by
 unfold kindF
 split
 ·
  exact dfix_big A n c w hn
 ·
  exact ddyn_big A n c w hn
def kindC : Array Value := #[.func (.func 7) #[] #[], .func (.func 8) #[] #[]]
theorem kindC_at (i : Nat) (h : i < 2) : kindC[i]? = some (.func (.func (kindF i)) #[] #[]) := by
 rcases (by omega : i = 0 ∨ i = 1) with rfl | rfl <;> rfl
theorem zeroFn (w : World) : (zeroValue 26).run Try.prog w = .ok .nilFunc w := by
 simp only [zeroValue, Sem.run_bind, Try.typeInfo26, Result.andThen_ok]; rfl
set_option maxRecDepth 100000 in
theorem defl_spec (A : Option Addr) (c : Nat) (bs : List Nat) (w : World) (hl : bs.length ≤ 32768) (hc : bs.length ≤ c) (hB : ∀ b ∈ bs, b < 256) (hr : Rd w 1 A bs.length (NB bs)) :
  Calls Try.prog 12 #[.slice A bs.length c] w fun e w' => ∃ B d, e = .returned (.tuple #[.slice B (bestK bs 2).length d, .int .i64 ((0 : Nat) : Int)]) ∧ Own w' 5 1 B (bestK bs 2).length d (NB (bestK bs 2)) ∧ Frm [] w w' ∧ ∀ x ∈ ob B, w.heap.size ≤ x := by
 refine VC.calls (nt := 34) (res := #[.tmp 2, .tmp 3]) Try.func12 rfl Try.ntmps12 Try.results12 rfl ?_
 refine jS (jR (jA ?_))
 refine Ops.r (v := .int .i64 ((0 : Nat) : Int)) (Run.asg rfl) rfl ?_
 refine jO (jN (jv1 0 ?_))
 refine jS (jR (jM ?_))
 refine Ops.cl (Enters.fn (evs.cons rfl evs.nil) Try.call15) (stor_spec A c bs w (by omega) hc hB hr) rfl ?_
 rintro e w1 ⟨B0, c0, rfl, ho0, K, hu0⟩
 refine ⟨_, rfl, ?_⟩
 refine jA ?_
 refine jO (jN (jv2 0 4 ?_))
 refine jS (jS (jR ?_))
 refine Ops.m (Does.buildN (cells := kindC) (evs.cons rfl (evs.cons rfl evs.nil)) Try.underlying84 Try.sizeOf26 zeroFn rfl rfl jK) rfl ?_
 rintro _ w2 ⟨rfl, hF2⟩
 have hb2 := hF2.blk
 have ho0 := ho0.frm hF2.frm (by simp)
 have K2 : Frm [] w w2 := K.trans hF2.frm (by simp)
 have hgl : w.heap.size ≤ w1.heap.size := K.size
 generalize w1.heap.size = gk at hb2 hgl ⊢
 refine Ops.r (Run.lenS rfl Try.underlying84) rfl ?_
 refine Ops.r (v := .int .i64 ((0 : Nat) : Int)) (Run.mv rfl) rfl ?_
 refine jO (jN (jB ?_))
 refine VC.loop (σ := Nat × Option Addr × Nat) (fun s => [(0, .slice A bs.length c), (4, .slice s.2.1 (bestK bs s.1).length s.2.2), (11, .slice (some ⟨gk, 0, none⟩) 2 2), (12, .int .i64 ((2 : Nat) : Int)), (13, .int .i64 ((s.1 : Nat) : Int))]) (fun s wr => s.1 ≤ 2 ∧ Own wr 5 1 s.2.1 (bestK bs s.1).length s.2.2 (NB (bestK bs s.1)) ∧ Blk wr gk 26 kindC ∧ Frm [] w wr ∧ ∀ x ∈ ob s.2.1, w.heap.size ≤ x) (fun s => 2 - s.1) (0, B0, c0) (js5 rfl rfl rfl rfl rfl) ⟨Nat.zero_le _, ho0, hb2, K2, hu0⟩ ?_
 rintro ⟨i, B, d⟩ wr ⟨hi, hO, hb2, K, hu⟩
 dsimp only at hi hO hu ⊢
 refine jS (jR ?_)
 refine Ops.r (Run.bin rfl rfl (Bin.lssN _ _)) rfl ?_
 refine jO (jN (jS ?_))
 refine VC.condD rfl (fun hc1 => ?_) (fun hc1 => ?_)
 ·
  refine jQ (jN (jv5 0 4 11 12 13 ?_))
  refine jS (jB (jS (jR ?_)))
  refine Ops.r (Run.index1 _ rfl rfl Try.underlying84 Try.sizeOf26 (by omega)) rfl ?_
  refine Ops.r (Run.load rfl Try.isAgg26 (by rw [add_mk, hb2.cell]; exact kindC_at i hc1)) rfl ?_
  refine jA ?_
  refine jO (jN (jv6 0 4 6 11 12 13 ?_))
  refine jS (jR (jM ?_))
  refine jM ?_
  refine Ops.cl (Enters.dyn rfl (evs.cons rfl evs.nil) (kind_call i)) (kind_spec i A c bs wr hl hc hB (hr.frm K (by simp))) rfl ?_
  rintro e w3 ⟨B3, d3, rfl, hO3, hf3, hu3⟩
  refine ⟨_, rfl, ?_⟩
  have hO := hO.frm hf3 (by simp)
  have hb2 := hb2.frm hf3 (by simp)
  have hu3 : ∀ x ∈ ob B3, w.heap.size ≤ x := fun x hx => Nat.le_trans K.size (hu3 x hx)
  have K := K.trans hf3 (by simp)
  refine jM ?_
  refine Ops.r (Run.extract rfl rfl) rfl ?_
  refine Ops.r (Run.extract rfl rfl) rfl ?_
  refine jA ?_
  refine jA ?_
  refine jO (jN (jv7 0 4 7 8 11 12 13 ?_))
  refine jS (jS (jR (jM ?_)))
  refine Ops.r (Run.bin rfl rfl (Bin.neqN _ 0)) rfl ?_
  refine jO (jN (jv8 0 4 7 8 11 12 13 24 ?_))
  refine VC.condF rfl (by decide) ?_
  refine jQ (jN (jv6 0 4 7 11 12 13 ?_))
  refine jS (jR (jM ?_))
  refine Ops.r (Run.lenS rfl Try.underlying22) rfl ?_
  refine jM ?_
  refine Ops.r (Run.lenS rfl Try.underlying22) rfl ?_
  refine Ops.r (Run.bin rfl rfl (Bin.lssN _ _)) rfl ?_
  refine jO (jN (jv7 0 4 7 11 12 13 30 ?_))
  refine VC.condD rfl (fun hc3 => ?_) (fun hc3 => ?_)
  ·
   refine jR (jM ?_)
   refine jA ?_
   refine jO ?_
   refine blockQ_n (jN ?_)
   refine jv5 0 4 11 12 13 ?_
   refine jR ?_
   refine Ops.r (Run.bin rfl rfl (Bin.add_i64 _ 1 (by omega))) rfl ?_
   refine jM ?_
   refine jO ?_
   refine jN ⟨(i + 1, B3, d3), (js5 rfl (by rw [bestK, if_pos hc3]; rfl) rfl rfl rfl), ?_, ?_⟩
   ·
    have e : bestK bs (i + 1) = kindX bs i := by rw [bestK, if_pos hc3]
    exact ⟨hc1, by rw [e]; exact hO3, hb2, K, hu3⟩
   ·
    first | omega | (dsimp only; omega)
  ·
   refine jQ ?_
   refine blockQ_n (jN ?_)
   refine jv5 0 4 11 12 13 ?_
   refine jR ?_
   refine Ops.r (Run.bin rfl rfl (Bin.add_i64 _ 1 (by omega))) rfl ?_
   refine jM ?_
   refine jO ?_
   refine jN ⟨(i + 1, B, d), (js5 rfl (by rw [bestK, if_neg hc3]; rfl) rfl rfl rfl), ?_, ?_⟩
   ·
    have e : bestK bs (i + 1) = bestK bs i := by rw [bestK, if_neg hc3]
    exact ⟨hc1, by rw [e]; exact hO, hb2, K, hu⟩
   ·
    first | omega | (dsimp only; omega)
 ·
  refine jX ?_
  refine thenQ_x (thenQ_x (blockQ_x ?_))
  refine jN (jv1 4 ?_)
  refine jS (jR (jM ?_))
  refine jA ?_
  refine Ops.r (v := .int .i64 ((0 : Nat) : Int)) (Run.asg rfl) rfl ?_
  refine jO (jN (jv2 2 3 ?_))
  refine jT ?_
  refine end2 rfl rfl ?_
  have ei : i = 2 := by omega
  subst ei
  exact ⟨B, d, rfl, hO, K, hu⟩
set_option maxRecDepth 100000 in
theorem defl_big (A : Option Addr) (c : Nat) (bs : List Nat) (w : World) (hl : bs.length ≤ 1000000) (hn : 65536 < bs.length) (hc : bs.length ≤ c) (hB : ∀ b ∈ bs, b < 256) (hr : Rd w 1 A bs.length (NB bs)) :
  Calls Try.prog 12 #[.slice A bs.length c] w fun e w' => e = .returned (.tuple #[.slice none 0 0, .int .i64 ((5 : Nat) : Int)]) ∧ Frm [] w w' := by
 refine VC.calls (nt := 34) (res := #[.tmp 2, .tmp 3]) Try.func12 rfl Try.ntmps12 Try.results12 rfl ?_
 refine jS (jR (jA ?_))
 refine Ops.r (v := .int .i64 ((0 : Nat) : Int)) (Run.asg rfl) rfl ?_
 refine jO (jN (jv1 0 ?_))
 refine jS (jR (jM ?_))
 refine Ops.cl (Enters.fn (evs.cons rfl evs.nil) Try.call15) (stor_spec A c bs w (by omega) hc hB hr) rfl ?_
 rintro e w1 ⟨B0, c0, rfl, ho0, K, hu0⟩
 refine ⟨_, rfl, ?_⟩
 refine jA ?_
 refine jO (jN (jv2 0 4 ?_))
 refine jS (jS (jR ?_))
 refine Ops.m (Does.buildN (cells := kindC) (evs.cons rfl (evs.cons rfl evs.nil)) Try.underlying84 Try.sizeOf26 zeroFn rfl rfl jK) rfl ?_
 rintro _ w2 ⟨rfl, hF2⟩
 have hb2 := hF2.blk
 have K2 : Frm [] w w2 := K.trans hF2.frm (by simp)
 have hgl : w.heap.size ≤ w1.heap.size := K.size
 generalize w1.heap.size = gk at hb2 hgl ⊢
 refine Ops.r (Run.lenS rfl Try.underlying84) rfl ?_
 refine Ops.r (v := .int .i64 ((0 : Nat) : Int)) (Run.mv rfl) rfl ?_
 refine jO (jN (jB ?_))
 refine VC.loop (σ := Nat) (fun s => [(0, .slice A bs.length c), (4, _), (11, .slice (some ⟨gk, 0, none⟩) 2 2), (12, .int .i64 ((2 : Nat) : Int)), (13, .int .i64 ((s : Nat) : Int))]) (fun s wr => s = 0 ∧ Blk wr gk 26 kindC ∧ Frm [] w wr) (fun s => 2 - s) 0 (js5 rfl rfl rfl rfl rfl) ⟨rfl, hb2, K2⟩ ?_
 rintro i wr ⟨hi, hb2, K⟩
 refine jS (jR ?_)
 refine Ops.r (Run.bin rfl rfl (Bin.lssN _ _)) rfl ?_
 refine jO (jN (jS ?_))
 refine VC.condD rfl (fun hc1 => ?_) (fun hc1 => ?_)
 ·
  refine jQ (jN (jv5 0 4 11 12 13 ?_))
  refine jS (jB (jS (jR ?_)))
  refine Ops.r (Run.index1 _ rfl rfl Try.underlying84 Try.sizeOf26 (by omega)) rfl ?_
  refine Ops.r (Run.load rfl Try.isAgg26 (by rw [add_mk, hb2.cell]; exact kindC_at i hc1)) rfl ?_
  refine jA ?_
  refine jO (jN (jv6 0 4 6 11 12 13 ?_))
  refine jS (jR (jM ?_))
  refine jM ?_
  refine Ops.cl (Enters.dyn rfl (evs.cons rfl evs.nil) (kind_call i)) (kind_big i A bs.length c wr hn) rfl ?_
  rintro e _ ⟨rfl, rfl⟩
  refine ⟨_, rfl, ?_⟩
  refine jM ?_
  refine Ops.r (Run.extract rfl rfl) rfl ?_
  refine Ops.r (Run.extract rfl rfl) rfl ?_
  refine jA ?_
  refine jA ?_
  refine jO (jN (jv7 0 4 7 8 11 12 13 ?_))
  refine jS (jS (jR (jM ?_)))
  refine Ops.r (Run.bin rfl rfl (Bin.neqN _ 0)) rfl ?_
  refine jO (jN (jv8 0 4 7 8 11 12 13 24 ?_))
  refine VC.condT rfl (by decide) ?_
  refine jS (jR (jM ?_))
  refine jA ?_
  refine jA ?_
  refine jO (jN (jv2 2 3 ?_))
  refine jT ?_
  refine thenQ_r (blockQ_r (thenQ_r (thenQ_r (blockQ_r (thenQ_r (end2 rfl rfl ?_))))))
  exact ⟨rfl, K⟩
 ·
  refine jX ?_
  refine thenQ_x (thenQ_x (blockQ_x ?_))
  refine jN (jv1 4 ?_)
  refine jS (jR (jM ?_))
  refine jA ?_
  refine Ops.r (v := .int .i64 ((0 : Nat) : Int)) (Run.asg rfl) rfl ?_
  refine jO (jN (jv2 2 3 ?_))
  refine jT ?_
  refine end2 rfl rfl ?_
  omega
end Go.Proofs.Ytnmieihcjjiccaa
namespace Go.Proofs.Ytnmieihcjjiccaa
open Go.RowKit
theorem best2 (bs : List Nat) : bestK bs 2 = if (pack (dynB bs)).length < (if (pack (fixM bs)).length < (storO bs).length then pack (fixM bs) else storO bs).length then pack (dynB bs) else (if (pack (fixM bs)).length < (storO bs).length then pack (fixM bs) else storO bs) := rfl
end Go.Proofs.Ytnmieihcjjiccaa
namespace Go.Proofs.Ytnmieihcjjiccaa
open Go.RowKit
section
variable {P : Program} {Γ : Env} {w : World} {dst : Option Tmp} {pos : String} {after : Array Edge} {g : Option (Nat × Bool)} {T : TypeId}
theorem Does.mark {t e : TypeId} {x : Operand} {gb n c : Nat} {cs : Array Value} (hx : ev? Γ x = some (.slice (some ⟨gb, 0, none⟩) n c)) (ht : P.underlying t = some (.slice e)) (he : P.underlying e = some (.int .u8)) (hb : Blk w gb e cs) :
  Does P ⟨dst, .convert t t x, T, pos, after, g⟩ Γ w (fun r w' => r = .slice (some ⟨gb, 0, none⟩) n c ∧ Fro w' gb e cs ∧ Frm [gb] w w') := fun ρ hρ => by
 have hsh : w.shape? gb = some (e, cs.size) := by
  unfold Blk at hb
  unfold World.shape?
  rw [hb]
 refine ⟨.slice (some ⟨gb, 0, none⟩) n c, w.freeze ⟨gb, cs.size, none⟩ 1, ?_, rfl, ?_, ?_⟩
 ·
  simp [execOp, hρ _ _ hx, convert, run_underlying ht, run_underlying he, markStringish, hsh]
 ·
  unfold Blk at hb
  unfold Fro World.freeze
  rw [if_neg (by decide)]
  show (w.heap.modify gb _)[gb]? = _
  rw [Array.getElem?_modify, if_pos rfl, hb]
  rfl
 ·
  refine ⟨?_, ?_, ?_, ?_, ?_⟩
  ·
   unfold World.freeze; rw [if_neg (by decide)]
  ·
   unfold World.freeze; rw [if_neg (by decide)]
  ·
   unfold World.freeze; rw [if_neg (by decide)]
  ·
   unfold World.freeze; rw [if_neg (by decide)]; simp
  ·
   intro i hi hni
   unfold World.freeze
   rw [if_neg (by decide)]
   show (w.heap.modify gb _)[i]? = _
   rw [Array.getElem?_modify, if_neg (fun h => hni (by simp [h]))]
def OwnF (w : World) (e : TypeId) (A : Option Addr) (n c : Nat) (xs : List Value) : Prop := Own w e 1 A n c xs ∨ ∃ (gb : Nat) (cs : Array Value), A = some ⟨gb, 0, none⟩ ∧ c = n ∧ cs.toList = xs ∧ xs.length = n ∧ Fro w gb e cs
theorem OwnF.frm {w w' : World} {S : List Nat} {e n c : Nat} {A : Option Addr} {xs : List Value} (h : OwnF w e A n c xs) (k : Frm S w w') (hS : ∀ x ∈ ob A, x ∉ S) : OwnF w' e A n c xs := by
 rcases h with h | ⟨gb, cs, rfl, h1, h2, h3, h4⟩
 ·
  exact .inl (h.frm k hS)
 ·
  exact .inr ⟨gb, cs, rfl, h1, h2, h3, h4.frm k (hS gb (by simp [ob]))⟩
theorem OwnF.lt {w : World} {e n c : Nat} {A : Option Addr} {xs : List Value} (h : OwnF w e A n c xs) : ∀ x ∈ ob A, x < w.heap.size := by
 rcases h with h | ⟨gb, cs, rfl, h1, h2, h3, h4⟩
 ·
  exact h.lt
 ·
  simpa [ob] using h4.lt
theorem OwnF.cells {w : World} {e n c gb : Nat} {cs : Array Value} {xs : List Value} (h2 : cs.toList = xs) (h4 : Fro w gb e cs) : ∀ j u, xs[j]? = some u → w.cell? ((⟨gb, 0, none⟩ : Addr).add j) = some u := by
 intro j u hu
 have e1 : (⟨gb, 0, none⟩ : Addr).add j = ⟨gb, j, none⟩ := by unfold Addr.add; split <;> simp_all
 rw [e1, h4.cell, ← hu, ← h2, Array.getElem?_toList]
theorem OwnF.rd {w : World} {e n c : Nat} {A : Option Addr} {xs : List Value} (h : OwnF w e A n c xs) : Rd w 1 A n xs := by
 rcases h with h | ⟨gb, cs, rfl, h1, h2, h3, h4⟩
 ·
  exact h.rd
 ·
  exact ⟨by omega, fun hn => ⟨_, rfl, h4.lt, OwnF.cells (n := n) (c := c) h2 h4⟩⟩
theorem OwnF.le {w : World} {e n c : Nat} {A : Option Addr} {xs : List Value} (h : OwnF w e A n c xs) : n ≤ c := by
 rcases h with h | ⟨gb, cs, rfl, h1, h2, h3, h4⟩
 ·
  exact h.le
 ·
  omega
theorem OwnF.ne_blk {w : World} {e t n c gb : Nat} {A : Option Addr} {xs : List Value} {cs : Array Value} (h : OwnF w e A n c xs) (hb : Blk w gb t cs) (hne : e ≠ t) : gb ∉ ob A := by
 rcases h with h | ⟨g2, cs2, rfl, h1, h2, h3, h4⟩
 ·
  exact h.ne_blk hb hne
 ·
  intro hm
  simp only [ob, List.mem_singleton] at hm
  subst hm
  unfold Fro at h4
  unfold Blk at hb
  rw [h4] at hb
  injection hb with hb
  injection hb with _ hb _
  exact hne hb
end
end Go.Proofs.Ytnmieihcjjiccaa
namespace Go.Proofs.Ytnmieihcjjiccaa
open Go.RowKit
theorem rd_take {w : World} {B : Option Addr} {c : Nat} {l : List Nat} (m : Nat) (h : Rd w 1 B l.length (NB l)) (hc : l.length ≤ c) (hm : m ≤ l.length) : Rd w 1 (cutA B c 0 1) (l.take m).length (NB (l.take m)) := by
 have e := NB_cut l 0 m (by omega) h hc
 rw [List.drop_zero] at e
 exact e
set_option maxRecDepth 100000 in
theorem few11_spec (A : Option Addr) (c : Nat) (l : List Nat) (w : World) (hc : l.length ≤ c) (hB : ∀ b ∈ l, b < 256) (hr : Rd w 1 A l.length (NB l)) :
  Calls Try.prog 14 #[.slice A l.length c] w fun e w' => (∃ B d l', e = .returned (.slice B l'.length d) ∧ l'.length ≤ d ∧ Rd w 1 B l'.length (NB l') ∧ (∀ b ∈ l', b < 256) ∧ (l'.length ≤ 700 ∨ (65536 < l'.length ∧ l'.length ≤ 65537))) ∧ w = w' := by
 refine VC.calls (nt := 19) (res := #[.tmp 2]) Try.func14 rfl Try.ntmps14 Try.results14 rfl ?_
 refine jS (jR (jA ?_))
 refine jO (jN (jv1 0 ?_))
 refine jS (jS (jR (jM ?_)))
 refine Ops.r (Run.lenS rfl Try.underlying22) rfl ?_
 refine Ops.r (Run.bin rfl rfl (Bin.gtrN _ 65537)) rfl ?_
 refine jO (jN (jv2 0 5 ?_))
 refine VC.meet (σ := Option Addr × Nat × List Nat) (fun s => [(0, .slice s.1 s.2.2.length s.2.1)]) (fun s wz => w = wz ∧ s.2.2.length ≤ s.2.1 ∧ Rd w 1 s.1 s.2.2.length (NB s.2.2) ∧ (∀ b ∈ s.2.2, b < 256) ∧ s.2.2.length ≤ 65537) ?_ ?_
 ·
  refine VC.condD rfl (fun hc1 => ?_) (fun hc1 => ?_)
  ·
   refine jR (jM ?_)
   refine Ops.r (Run.sliceS 0 65537 rfl Try.underlying22 Try.sizeOf5 evB.none_ (evB.some_ rfl) (by omega) (by omega)) rfl ?_
   refine jA ?_
   refine jO ?_
   refine jN ⟨(cutA A c 0 1, c - 0, l.take 65537), (js1 (by rw [List.length_take, Nat.min_eq_left (by omega)]; rfl)), ?_⟩
   exact ⟨rfl, by dsimp only; rw [List.length_take]; omega, rd_take 65537 hr hc (by omega), fun b hb => hB b (List.mem_of_mem_take hb), by dsimp only; rw [List.length_take]; omega⟩
  ·
   refine jQ ?_
   refine jN ⟨(A, c, l), (js1 rfl), ?_⟩
   exact ⟨rfl, hc, hr, hB, by dsimp only; omega⟩
 ·
  rintro ⟨B, d, l1⟩ _ ⟨rfl, hd, hr1, hB1, hl1⟩ Γ hΓ
  dsimp only at hd hr1 hB1 hl1 hΓ ⊢
  refine jN (VC.sub _ hΓ ?_)
  refine jS (jS ?_)
  refine VC.split1 [(0, _)] (js1 rfl) 15 (.bool (decide (700 < l1.length ∧ l1.length ≤ 65536))) ?_ ?_
  ·
   refine jR ?_
   refine jM ?_
   refine Ops.r (Run.lenS rfl Try.underlying22) rfl ?_
   refine Ops.r (Run.bin rfl rfl (Bin.gtrN _ 700)) rfl ?_
   by_cases hs10 : 700 < l1.length
   ·
    refine jM ?_
    refine jG ?_
    refine Ops.rg rfl au (Run.lenS rfl Try.underlying22) rfl ?_
    refine Ops.rg rfl au (Run.bin rfl rfl (Bin.leqN _ 65536)) rfl ?_
    by_cases hs14 : l1.length ≤ 65536
    ·
     refine Ops.r (Run.pickT rfl rfl au) rfl ?_
     refine jO ?_
     refine jN ⟨(js2 (jC (by first | exact decide_eq_decide.2 ⟨fun h => ⟨by assumption, h⟩, fun h => h.2⟩ | exact (decide_eq_false (fun h => absurd h.1 (by assumption))).symm)) rfl), rfl⟩
    ·
     refine Ops.r (Run.pickT rfl rfl au) rfl ?_
     refine jO ?_
     refine jN ⟨(js2 (jC (by first | exact decide_eq_decide.2 ⟨fun h => ⟨by assumption, h⟩, fun h => h.2⟩ | exact (decide_eq_false (fun h => absurd h.1 (by assumption))).symm)) rfl), rfl⟩
   ·
    refine jM ?_
    refine jU ?_
    refine jU ?_
    refine jU ?_
    refine Ops.r (Run.pickF rfl rfl au) rfl ?_
    refine jO ?_
    refine jN ⟨(js2 (jC (by first | exact decide_eq_decide.2 ⟨fun h => ⟨by assumption, h⟩, fun h => h.2⟩ | exact (decide_eq_false (fun h => absurd h.1 (by assumption))).symm)) rfl), rfl⟩
  ·
   intro Γ hΓ
   refine jN (VC.sub _ hΓ ?_)
   refine VC.condD rfl (fun hc2 => ?_) (fun hc2 => ?_)
   ·
    refine jR (jM ?_)
    refine Ops.r (Run.sliceS 0 700 rfl Try.underlying22 Try.sizeOf5 evB.none_ (evB.some_ rfl) (by omega) (by omega)) rfl ?_
    refine jA ?_
    refine jO (jN (jv1 0 ?_))
    refine jS (jR (jM ?_))
    refine jA ?_
    refine jO (jN (jv1 2 ?_))
    refine jT ?_
    refine end1 rfl ?_
    refine ⟨⟨cutA B d 0 1, d - 0, l1.take 700, ?_, ?_, rd_take 700 hr1 hd (by omega), fun b hb => hB1 b (List.mem_of_mem_take hb), ?_⟩, rfl⟩
    ·
     rw [List.length_take, Nat.min_eq_left (by omega)]
    ·
     rw [List.length_take]; omega
    ·
     rw [List.length_take]; omega
   ·
    refine jQ (jN (jv1 0 ?_))
    refine jS (jR (jM ?_))
    refine jA ?_
    refine jO (jN (jv1 2 ?_))
    refine jT ?_
    refine end1 rfl ?_
    exact ⟨⟨B, d, l1, rfl, hd, hr1, hB1, by omega⟩, rfl⟩
theorem Fro.rd1 {w : World} {g e : Nat} {cs : Array Value} {l : List Value} (h : Fro w g e cs) (hc : cs = l.toArray) : Rd w 1 (some ⟨g, 0, none⟩) l.length l := by
 subst hc
 refine ⟨by omega, fun _ => ⟨_, rfl, h.lt, fun j u hu => ?_⟩⟩
 rw [add_mk, h.cell, List.getElem?_toArray]
 exact hu
theorem fix97 : pack (fixM [97]) = [75, 4, 0] := by decide +kernel
theorem stor0 : storO [] = [1, 0, 0, 255, 255] := by rw [storO_eq]; decide +kernel
theorem stor97 : storO [97] = [1, 1, 0, 254, 255, 97] := by rw [storO_eq]; decide +kernel
theorem dyn_long (bs : List Nat) : 4 ≤ (pack (dynB bs)).length := by
 have h1 : 4 ≤ (writM bs).length := (cutL_bound (ordL (thirdM bs)) 4 (by rw [ordL_len]; omega)).1
 have h2 := flat_three (writM bs)
 rw [pack_len]
 unfold dynB
 simp only [List.length_append, bitsL_len]
 omega
theorem best97 : bestK [97] 2 = [75, 4, 0] := by
 have h := dyn_long [97]
 rw [best2, fix97, stor97, if_pos (show ([75, 4, 0] : List Nat).length < ([1, 1, 0, 254, 255, 97] : List Nat).length by decide), if_neg]
 show ¬ (pack (dynB [97])).length < 3
 omega
set_option maxRecDepth 100000 in
theorem awake13_spec (w : World) : Calls Try.prog 9 #[] w fun e w' => e = .returned (.bool true) ∧ Frm [] w w' := by
 refine VC.calls (nt := 38) (res := #[.tmp 0]) Try.func9 rfl Try.ntmps9 Try.results9 rfl ?_
 refine jS (jR (jA ?_))
 refine jO (jN ?_)
 refine VC.sub [] .nil ?_
 refine jS (jR ?_)
 refine Ops.m (Does.buildS1 rfl Try.underlying22 Try.sizeOf5 zero5 (by decide) (by decide) rfl rfl) rfl ?_
 rintro _ w1 ⟨rfl, hF1⟩
 have hb1 := hF1.blk
 have K := hF1.frm
 refine Ops.m (Does.mark rfl Try.underlying22 Try.underlying5 hb1) rfl ?_
 rintro _ w2 ⟨rfl, hfr2, hf2⟩
 have K := K.own hf2 (by simp)
 have hr2 : Rd w2 1 (some ⟨w.heap.size, 0, none⟩) ([97] : List Nat).length (NB [97]) := hfr2.rd1 (l := NB [97]) rfl
 refine Ops.cl (Enters.fn (evs.cons rfl evs.nil) Try.call7) (dfix_spec _ 1 [97] w2 (by decide) (by decide) (by decide) hr2) rfl ?_
 rintro e w3 ⟨A1, d1, rfl, ho1, hf3, _⟩
 refine ⟨_, rfl, ?_⟩
 have K := K.trans hf3 (by simp)
 rw [fix97] at ho1 ⊢
 have ho1 : Own w3 5 1 A1 3 d1 (NB [75, 4, 0]) := ho1
 refine jM ?_
 refine Ops.r (Run.extract rfl rfl) rfl ?_
 refine Ops.r (Run.extract rfl rfl) rfl ?_
 refine jA ?_
 refine jA ?_
 refine jO (jN (jv2 1 2 ?_))
 refine jS (jR ?_)
 refine Ops.m (Does.buildS1 rfl Try.underlying22 Try.sizeOf5 zero5 (by decide) (by decide) rfl rfl) rfl ?_
 rintro _ w4 ⟨rfl, hF4⟩
 have hb4 := hF4.blk
 have hlt3 := ho1.lt
 have hk3 := K.size
 have ho1 := ho1.frm hF4.frm (by simp)
 have K := K.trans hF4.frm (by simp)
 have hsz := ho1.lt
 refine Ops.m (Does.mark rfl Try.underlying22 Try.underlying5 hb4) rfl ?_
 rintro _ w5 ⟨rfl, hfr5, hf5⟩
 have hne : ∀ x ∈ ob A1, x ∉ [w3.heap.size] := by
  intro x hx hx2
  rw [List.mem_singleton] at hx2
  subst hx2
  exact absurd (hlt3 _ hx) (by omega)
 have ho1 := ho1.frm hf5 hne
 have K := K.own hf5 (by simp; omega)
 have hr5 : Rd w5 1 (some ⟨w3.heap.size, 0, none⟩) ([97] : List Nat).length (NB [97]) := hfr5.rd1 (l := NB [97]) rfl
 refine Ops.cl (Enters.fn (evs.cons rfl evs.nil) Try.call12) (defl_spec _ 1 [97] w5 (by decide) (by decide) (by decide) hr5) rfl ?_
 rintro e w6 ⟨A2, d2, rfl, ho2, hf6, _⟩
 refine ⟨_, rfl, ?_⟩
 have K := K.trans hf6 (by simp)
 have ho1 := ho1.frm hf6 (by simp)
 rw [best97] at ho2 ⊢
 have ho2 : Own w6 5 1 A2 3 d2 (NB [75, 4, 0]) := ho2
 refine jM ?_
 refine Ops.r (Run.extract rfl rfl) rfl ?_
 refine Ops.r (Run.extract rfl rfl) rfl ?_
 refine jA ?_
 refine jA ?_
 refine jO (jN (jv4 1 2 3 4 ?_))
 refine jS (jR ?_)
 refine Ops.cl (Enters.fn (evs.cons rfl evs.nil) Try.call15) (stor_spec none 0 [] w6 (by decide) (by decide) (by decide) (Own.nil w6 5 1).rd) rfl ?_
 rintro e w8 ⟨A3, d3, rfl, ho3, hf8, _⟩
 refine ⟨_, rfl, ?_⟩
 have K := K.trans hf8 (by simp)
 have ho1 := ho1.frm hf8 (by simp)
 have ho2 := ho2.frm hf8 (by simp)
 rw [stor0] at ho3 ⊢
 have hst1 : Rd w8 1 A1 3 (U8 ([75, 4, 0].map UInt8.ofNat)) := by rw [← NB_U8 [75, 4, 0] (by decide)]; exact ho1.rd
 have hst2 : Rd w8 1 A2 3 (U8 ([75, 4, 0].map UInt8.ofNat)) := by rw [← NB_U8 [75, 4, 0] (by decide)]; exact ho2.rd
 have hst3 : Rd w8 1 A3 5 (U8 ([1, 0, 0, 255, 255].map UInt8.ofNat)) := by rw [← NB_U8 [1, 0, 0, 255, 255] (by decide)]; exact ho3.rd
 refine Ops.r (Run.strOf rfl Try.underlying22 Try.underlying5 Try.underlying9 hst3) rfl ?_
 refine Ops.r (Run.eqlStr rfl rfl) rfl ?_
 refine jM ?_
 refine jG ?_
 refine Ops.rg rfl au (Run.strOf rfl Try.underlying22 Try.underlying5 Try.underlying9 hst1) rfl ?_
 refine Ops.rg rfl au (Run.eqlStr rfl rfl) rfl ?_
 refine Ops.r (Run.pickT rfl rfl au) rfl ?_
 refine jM ?_
 refine jG ?_
 refine Ops.rg rfl au (Run.bin rfl rfl (Bin.eqlN _ 0)) rfl ?_
 refine Ops.r (Run.pickT rfl rfl au) rfl ?_
 refine jM ?_
 refine jG ?_
 refine Ops.rg rfl au (Run.strOf rfl Try.underlying22 Try.underlying5 Try.underlying9 hst2) rfl ?_
 refine Ops.rg rfl au (Run.eqlStr rfl rfl) rfl ?_
 refine Ops.r (Run.pickT rfl rfl au) rfl ?_
 refine jM ?_
 refine jG ?_
 refine Ops.rg rfl au (Run.bin rfl rfl (Bin.eqlN _ 0)) rfl ?_
 refine Ops.r (Run.pickT rfl rfl au) rfl ?_
 refine jA ?_
 refine jO (jN (jv1 0 ?_))
 refine jT ?_
 refine end1 rfl ?_
 exact ⟨rfl, K⟩
end Go.Proofs.Ytnmieihcjjiccaa
namespace Go.Proofs.Ytnmieihcjjiccaa
open Go.RowKit
def Kinds (bs x : List Nat) (k : Nat) (y : List Nat) : Prop := (bs.length ≤ 700 ∧ x = y ∧ k = 0) ∨ (65536 < bs.length ∧ x = [] ∧ k = 5)
theorem pack_b (l : List Bool) : ∀ b ∈ pack l, b < 256 := pack_lt l
theorem dfix_any (A : Option Addr) (c : Nat) (bs : List Nat) (w : World) (hl : bs.length ≤ 700 ∨ (65536 < bs.length ∧ bs.length ≤ 65537)) (hc : bs.length ≤ c) (hB : ∀ b ∈ bs, b < 256) (hr : Rd w 1 A bs.length (NB bs)) :
  Calls Try.prog 7 #[.slice A bs.length c] w fun e w' => ∃ B d x k, e = .returned (.tuple #[.slice B (x : List Nat).length d, .int .i64 ((k : Nat) : Int)]) ∧ Rd w' 1 B x.length (NB x) ∧ x.length ≤ d ∧ (∀ b ∈ x, b < 256) ∧ Frm [] w w' ∧ Kinds bs x k (pack (fixM bs)) := by
 rcases hl with h | ⟨h, _⟩
 ·
  refine (dfix_spec A c bs w (by omega) hc hB hr).mono ?_
  rintro e w' ⟨B, d, h1, h2, h3, _⟩
  exact ⟨B, d, _, 0, h1, h2.rd, h2.le, pack_b _, h3, .inl ⟨h, rfl, rfl⟩⟩
 ·
  refine (dfix_big A bs.length c w h).mono ?_
  rintro e w' ⟨h1, rfl⟩
  exact ⟨none, 0, [], 5, h1, (Own.nil w 5 1).rd, Nat.le_refl _, by simp, Frm.refl _ _, .inr ⟨h, rfl, rfl⟩⟩
theorem ddyn_any (A : Option Addr) (c : Nat) (bs : List Nat) (w : World) (hl : bs.length ≤ 700 ∨ (65536 < bs.length ∧ bs.length ≤ 65537)) (hc : bs.length ≤ c) (hB : ∀ b ∈ bs, b < 256) (hr : Rd w 1 A bs.length (NB bs)) :
  Calls Try.prog 8 #[.slice A bs.length c] w fun e w' => ∃ B d x k, e = .returned (.tuple #[.slice B (x : List Nat).length d, .int .i64 ((k : Nat) : Int)]) ∧ Rd w' 1 B x.length (NB x) ∧ x.length ≤ d ∧ (∀ b ∈ x, b < 256) ∧ Frm [] w w' ∧ Kinds bs x k (pack (dynB bs)) := by
 rcases hl with h | ⟨h, _⟩
 ·
  refine (ddyn_spec A c bs w (by omega) hc hB hr).mono ?_
  rintro e w' ⟨B, d, h1, h2, h3, _⟩
  exact ⟨B, d, _, 0, h1, h2.rd, h2.le, pack_b _, h3, .inl ⟨h, rfl, rfl⟩⟩
 ·
  refine (ddyn_big A bs.length c w h).mono ?_
  rintro e w' ⟨h1, rfl⟩
  exact ⟨none, 0, [], 5, h1, (Own.nil w 5 1).rd, Nat.le_refl _, by simp, Frm.refl _ _, .inr ⟨h, rfl, rfl⟩⟩
theorem bestK_lt {bs : List Nat} (hB : ∀ b ∈ bs, b < 256) : ∀ b ∈ bestK bs 2, b < 256 := by
 rw [best2]
 by_cases h1 : (pack (dynB bs)).length < (if (pack (fixM bs)).length < (storO bs).length then pack (fixM bs) else storO bs).length
 ·
  rw [if_pos h1]
  exact pack_b _
 ·
  rw [if_neg h1]
  by_cases h2 : (pack (fixM bs)).length < (storO bs).length
  ·
   rw [if_pos h2]
   exact pack_b _
  ·
   rw [if_neg h2]
   exact storO_lt _ bs (Nat.le_refl _) hB
theorem defl_any (A : Option Addr) (c : Nat) (bs : List Nat) (w : World) (hl : bs.length ≤ 700 ∨ (65536 < bs.length ∧ bs.length ≤ 65537)) (hc : bs.length ≤ c) (hB : ∀ b ∈ bs, b < 256) (hr : Rd w 1 A bs.length (NB bs)) :
  Calls Try.prog 12 #[.slice A bs.length c] w fun e w' => ∃ B d x k, e = .returned (.tuple #[.slice B (x : List Nat).length d, .int .i64 ((k : Nat) : Int)]) ∧ Rd w' 1 B x.length (NB x) ∧ x.length ≤ d ∧ (∀ b ∈ x, b < 256) ∧ Frm [] w w' ∧ Kinds bs x k (bestK bs 2) := by
 rcases hl with h | ⟨h, h0⟩
 ·
  refine (defl_spec A c bs w (by omega) hc hB hr).mono ?_
  rintro e w' ⟨B, d, h1, h2, h3, _⟩
  exact ⟨B, d, _, 0, h1, h2.rd, h2.le, bestK_lt hB, h3, .inl ⟨h, rfl, rfl⟩⟩
 ·
  refine (defl_big A c bs w (by omega) h hc hB hr).mono ?_
  rintro e w' ⟨h1, h2⟩
  exact ⟨none, 0, [], 5, h1, (Own.nil w' 5 1).rd, Nat.le_refl _, by simp, h2, .inr ⟨h, rfl, rfl⟩⟩
theorem rd_str {w : World} {A : Option Addr} {l : List Nat} (h : Rd w 1 A l.length (NB l)) (hB : ∀ b ∈ l, b < 256) : Rd w 1 A l.length (U8 (l.map UInt8.ofNat)) := by rw [← NB_U8 l hB]; exact h
end Go.Proofs.Ytnmieihcjjiccaa
namespace Go.Proofs.Ytnmieihcjjiccaa
open Go.RowKit
theorem fst_ge (l : List Int) (i : Nat) : ∀ d, (fst' l i + cn l i) * 2 ^ (d + 1) ≤ fst' l (i + 1 + d)
 | 0 => Nat.le_refl _
 | d + 1 => by
  have ih := fst_ge l i d
  have e : fst' l (i + 1 + (d + 1)) = (fst' l (i + 1 + d) + cn l (i + 1 + d)) * 2 := rfl
  rw [e, Nat.pow_succ, ← Nat.mul_assoc]
  omega
theorem code_no_hit {l : List Int} {s n i : Nat} (hc : codeC l s = (codeOf l s, (n : Int))) (hn : l.getD s 0 = (n : Int)) (hi : i < n) : hit l i (codeOf l s / 2 ^ (n - i)) = none := by
 refine hit_none (fun h => ?_)
 obtain ⟨d, rfl⟩ : ∃ d, n = i + 1 + d := ⟨n - i - 1, by omega⟩
 have h1 := fst_ge l i d
 have h2 : fst' l (i + 1 + d) ≤ codeOf l s := by
  unfold codeOf
  rw [hn, Int.toNat_natCast]
  omega
 have h3 : fst' l i + cn l i ≤ codeOf l s / 2 ^ (d + 1) := (Nat.le_div_iff_mul_le (Nat.pow_pos (by omega))).2 (by omega)
 rw [show i + 1 + d - i = d + 1 by omega] at h
 omega
theorem rev_bits_at (c n i : Nat) (hi : i < n) : ((bitsL c n).reverse)[i]? = some (decide (c / 2 ^ (n - 1 - i) % 2 = 1)) := by
 rw [List.getElem?_reverse (by rw [bitsL_len]; exact hi), bitsL_len]
 exact bitsL_get c n (n - 1 - i) (by omega)
theorem half_bit (c k : Nat) : c / 2 ^ k = 2 * (c / 2 ^ (k + 1)) + (decide (c / 2 ^ k % 2 = 1)).toNat := by
 rw [Nat.pow_succ, ← Nat.div_div_eq_div_mul]
 by_cases h : c / 2 ^ k % 2 = 1
 ·
  rw [decide_eq_true h]
  simp
  omega
 ·
  rw [decide_eq_false h]
  simp
  omega
theorem tk_at {l : List Int} {L A C : List Bool} {s n : Nat} (hs : s < l.length) (hc : codeC l s = (codeOf l s, (n : Int))) (hn : l.getD s 0 = (n : Int)) (hn1 : 1 ≤ n) (hn15 : n ≤ 15) (hlt : codeOf l s < 2 ^ n) (hL : L = A ++ cbits l s ++ C) :
  ∀ d i m, i + d = n → 1 ≤ d → d ≤ m → tk l L m (i + 1) (codeOf l s / 2 ^ d) (A.length + i) = (s, A.length + n, 0)
 | 0, i, m, _, h0, _ => by omega
 | d + 1, i, 0, _, _, h => by omega
 | d + 1, i, m + 1, h1, h2, h3 => by
  have hcb : cbits l s = (bitsL (codeOf l s) n).reverse := by unfold cbits; rw [hc]; rfl
  have hb : L[A.length + i]? = some (decide (codeOf l s / 2 ^ d % 2 = 1)) := by
   rw [hL, List.append_assoc, List.getElem?_append_right (by omega), Nat.add_sub_cancel_left, List.getElem?_append_left (by rw [hcb, List.length_reverse, bitsL_len]; omega), hcb, rev_bits_at _ _ _ (by omega), show n - 1 - i = d by omega]
  unfold tk
  rw [hb]
  dsimp only
  rw [← half_bit]
  by_cases hd : d = 0
  ·
   subst hd
   obtain rfl : i + 1 = n := by omega
   rw [Nat.pow_zero, Nat.div_one, (hit_iff l (i + 1) (codeOf l s) s hn1 hn15).2 ⟨hs, hc⟩]
   rfl
  ·
   have hno := code_no_hit hc hn (show i + 1 < n by omega)
   rw [show n - (i + 1) = d by omega] at hno
   rw [hno]
   dsimp only
   have := tk_at hs hc hn hn1 hn15 hlt hL d (i + 1) m (by omega) (by omega) (by omega)
   rw [Nat.add_assoc A.length i 1]
   exact this
theorem symF_at {l : List Int} {L : List Bool} {s n p : Nat} (hs : s < l.length) (hc : codeC l s = (codeOf l s, (n : Int))) (hn : l.getD s 0 = (n : Int)) (hn1 : 1 ≤ n) (hn15 : n ≤ 15) (hlt : codeOf l s < 2 ^ n) (hm : n ≤ mostC l) (hL : ∃ A C, L = A ++ cbits l s ++ C ∧ p = A.length) :
  symF L l p = .ok (s, p + n) := by
 obtain ⟨A, C, hL, rfl⟩ := hL
 have h : tk l L (mostC l) 1 (codeOf l s / 2 ^ n) A.length = (s, A.length + n, 0) := tk_at hs hc hn hn1 hn15 hlt hL n 0 (mostC l) (by omega) hn1 hm
 rw [Nat.div_eq_of_lt hlt] at h
 unfold symF
 rw [h]
 rfl
theorem order_atL (l : List Int) : (order l).length = atL l 16 := ordTo_len l 16
theorem atL_pos {l : List Int} {n : Nat} : ∀ m, n < m → cn l n ≤ atL l m
 | 0, h => by omega
 | m + 1, h => by
  rw [atL]
  by_cases hm : n < m
  ·
   have := atL_pos (l := l) m hm; omega
  ·
   obtain rfl : n = m := by omega
   omega
theorem atL_two {l : List Int} {n k : Nat} (hnk : n < k) : ∀ m, k < m → cn l n + cn l k ≤ atL l m
 | 0, h => by omega
 | m + 1, h => by
  rw [atL]
  by_cases hm : k < m
  ·
   have := atL_two (l := l) hnk m hm; omega
  ·
   obtain rfl : k = m := by omega
   have := atL_pos (l := l) k hnk
   omega
theorem most_ge {l : List Int} {s n : Nat} (he : newE l = 0) (hs : s < l.length) (hn : l.getD s 0 = (n : Int)) (hn1 : 1 ≤ n) (hn15 : n ≤ 15) : n ≤ mostC l := by
 unfold mostC
 split
 ·
  rename_i h2
  have hc : 1 ≤ cn l n := by have := rank_lt_cn l s n hs (by omega) hn; omega
  have hp := atL_pos (l := l) (n := n) 16 (by omega)
  unfold newE at he
  rw [h2] at he
  rw [order_atL] at he ⊢
  split at he
  ·
   rename_i h3
   rcases h3.2 with h4 | ⟨h4, h5⟩
   ·
    omega
   ·
    by_cases hn2 : n = 1
    ·
     omega
    ·
     have := atL_two (l := l) (n := 1) (k := n) (by omega) 16 (by omega)
     omega
  ·
   omega
 ·
  exact hn15
def ROk (l : List Int) : Prop := LOk l ∧ newE l = 0
theorem sym_back {l : List Int} (h : ROk l) {s : Nat} (hs : s < l.length) (h0 : l.getD s 0 ≠ 0) {L : List Bool} {p : Nat} (hL : ∃ A C, L = A ++ cbits l s ++ C ∧ p = A.length) : symF L l p = .ok (s, p + (cbits l s).length) ∧ 1 ≤ (cbits l s).length := by
 rcases codeC_fits h.1.1 h.1.2 hs with h1 | ⟨n, h1, h2, h3, h4, h5⟩
 ·
  exfalso
  unfold codeC at h1
  rw [if_neg h0] at h1
  exact h0 (Prod.mk.inj h1).2
 ·
  have hl : (cbits l s).length = n := by unfold cbits; rw [h1, List.length_reverse, bitsL_len]; rfl
  rw [hl]
  exact ⟨symF_at hs h1 h2 h3 h4 h5 (most_ge h.2 hs h2 h3 h4) hL, h3⟩

theorem cn_zeros (l : List Int) (k n : Nat) : cn (l ++ List.replicate k 0) n = cn l n := by
 unfold cn
 split
 ·
  rfl
 ·
  rename_i h
  rw [List.count_append, List.count_replicate, if_neg (by simp; omega), Nat.add_zero]
theorem fst_zeros (l : List Int) (k n : Nat) : fst' (l ++ List.replicate k 0) n = fst' l n := fstF_congr n (fun m _ => cn_zeros l k m)
theorem codeC_zeros (l : List Int) (k s : Nat) (hs : s < l.length) : codeC (l ++ List.replicate k 0) s = codeC l s := by
 have e : (l ++ List.replicate k 0).getD s 0 = l.getD s 0 := by rw [List.getD_eq_getElem?_getD, List.getElem?_append_left hs, ← List.getD_eq_getElem?_getD]
 unfold codeC codeOf rank
 rw [e, fst_zeros, List.take_append_of_le_length (by omega)]
theorem cbits_zeros (l : List Int) (k s : Nat) (hs : s < l.length) : cbits (l ++ List.replicate k 0) s = cbits l s := by unfold cbits; rw [codeC_zeros l k s hs]
theorem KC_same {f g : Nat → Nat} (h : ∀ n, f n = g n) : ∀ i, KC f i = KC g i
 | 0 => rfl
 | i + 1 => by rw [KC, KC, KC_same h i, h i]
theorem atL_zeros (l : List Int) (k : Nat) : ∀ m, atL (l ++ List.replicate k 0) m = atL l m
 | 0 => rfl
 | m + 1 => by rw [atL, atL, atL_zeros l k m, cn_zeros]
theorem good_zeros {l : List Int} {k : Nat} (h : good (l ++ List.replicate k 0)) : good l := ⟨by have := h.1; rw [List.length_append] at this; omega, fun x hx => h.2 x (List.mem_append.2 (.inl hx))⟩
theorem chk_zeros {l : List Int} {k : Nat} (h : good (l ++ List.replicate k 0)) : chk (l ++ List.replicate k 0) = chk l := by
 have e : KC (cn (l ++ List.replicate k 0)) 16 = KC (cn l) 16 := KC_same (cn_zeros l k) 16
 have h1 := good_zeros h
 unfold chk
 rw [e]
 simp only [h, h1, not_true_eq_false, if_false]
theorem ROk.zeros {l : List Int} {k : Nat} (h : ROk (l ++ List.replicate k 0)) : ROk l := by
 obtain ⟨⟨h1, h2⟩, h3⟩ := h
 refine ⟨⟨good_zeros h1, ?_⟩, ?_⟩
 ·
  rw [KC_same (cn_zeros l k) 16] at h2
  exact h2
 ·
  unfold newE at h3 ⊢
  rw [chk_zeros h1, order_atL, atL_zeros, ← order_atL, cn_zeros] at h3
  exact h3

theorem cutN_zero (l : List Nat) (least : Nat) : ∀ n i, cutN l least n ≤ i → i < n → l.getD i 0 = 0
 | 0, _, _, h => by omega
 | n + 1, i, h1, h2 => by
  unfold cutN at h1
  split at h1
  ·
   rename_i h3
   by_cases hi : i = n
   ·
    rw [hi]; exact h3.2
   ·
    exact cutN_zero l least n i h1 (by omega)
  ·
   omega
theorem cutL_zeros (l : List Nat) (least : Nat) : l = cutL l least ++ List.replicate (l.length - (cutL l least).length) 0 := by
 have hle := cutN_le l least l.length
 apply List.ext_getElem?
 intro i
 rw [cutL_len]
 by_cases h1 : i < cutN l least l.length
 ·
  rw [List.getElem?_append_left (by rw [cutL_len]; exact h1), cutL, List.getElem?_take_of_lt h1]
 ·
  rw [List.getElem?_append_right (by rw [cutL_len]; omega), cutL_len]
  by_cases h2 : i < l.length
  ·
   have h3 := cutN_zero l least l.length i (by omega) h2
   rw [List.getD_eq_getElem?_getD, List.getElem?_eq_getElem h2, Option.getD_some] at h3
   rw [List.getElem?_eq_getElem h2, h3, List.getElem?_replicate, if_pos (by omega)]
  ·
   rw [List.getElem?_eq_none (by omega), List.getElem?_eq_none (by rw [List.length_replicate]; omega)]
theorem cutL_toZ (l : List Nat) (least : Nat) : toZ l = toZ (cutL l least) ++ List.replicate (l.length - (cutL l least).length) 0 := by
 have h := congrArg toZ (cutL_zeros l least)
 have e : toZ (cutL l least ++ List.replicate (l.length - (cutL l least).length) 0) = toZ (cutL l least) ++ List.replicate (l.length - (cutL l least).length) 0 := by
  unfold toZ
  rw [List.map_append, List.map_replicate]
  rfl
 rw [e] at h
 exact h
theorem ROk.cut {l : List Nat} (least : Nat) (h : ROk (toZ l)) : ROk (toZ (cutL l least)) := by
 rw [cutL_toZ l least] at h
 exact h.zeros
theorem cbits_cut (l : List Nat) (least s : Nat) (hs : s < (cutL l least).length) : cbits (toZ l) s = cbits (toZ (cutL l least)) s := by
 rw [cutL_toZ l least]
 exact cbits_zeros _ _ _ (by rw [toZ_len]; exact hs)

theorem coins_exist (cs : List Nat) (hl : cs.length ≤ 1024) : ∃ own, IsCoins cs own := by
 refine ⟨(coinsTo cs cs.length).mergeSort (fun a b => decide (keyA a ≤ keyA b)), List.mergeSort_perm _ _, ?_⟩
 have h1 : ((coinsTo cs cs.length).mergeSort (fun a b => decide (keyA a ≤ keyA b))).Pairwise (fun a b => decide (keyA a ≤ keyA b) = true) := by
  refine List.pairwise_mergeSort ?_ ?_ _
  ·
   intro a b c h1 h2
   simp only [decide_eq_true_eq] at h1 h2 ⊢
   omega
  ·
   intro a b
   simp only [Bool.or_eq_true, decide_eq_true_eq]
   omega
 have h2 : (((coinsTo cs cs.length).mergeSort (fun a b => decide (keyA a ≤ keyA b))).map keyA).Nodup := ((List.mergeSort_perm _ _).map keyA).nodup_iff.2 (coinsTo_nodup cs cs.length hl)
 have h3 : ((coinsTo cs cs.length).mergeSort (fun a b => decide (keyA a ≤ keyA b))).Pairwise (fun a b => keyA a ≠ keyA b) := by
  unfold List.Nodup at h2
  exact List.pairwise_map.1 h2
 refine (h1.and h3).imp ?_
 rintro a b ⟨h4, h5⟩
 simp only [decide_eq_true_eq] at h4
 omega
theorem len_getD_pos {l : List Nat} {i : Nat} (h : l.getD i 0 ≠ 0) : i < l.length := by
 by_cases hi : i < l.length
 ·
  exact hi
 ·
  rw [List.getD_eq_getElem?_getD, List.getElem?_eq_none (by omega)] at h
  exact absurd rfl h
theorem lenM_read {cs : List Nat} {m : Nat} (hl : cs.length ≤ 320) (hm1 : 1 ≤ m) (hm2 : m ≤ 15) (hf : cs.length ≤ 2 ^ m) : LenOk cs (lenM cs m) m ∧ ROk (toZ (lenM cs m)) := by
 obtain ⟨own, hco⟩ := coins_exist cs (by omega)
 have hok := lenM_ok hco hl hm1 hm2 hf
 refine ⟨hok, hok.ok, ?_⟩
 have hfit : own.length ≤ 2 ^ m := Nat.le_trans (coins_le hco) hf
 obtain ⟨h1, h2⟩ := whole10 hco hl hm1 hm2 hfit
 have hE : lenM cs m = lenP cs.length m own := by unfold lenM; rw [coinsM_eq hco]
 have hg := hok.ok.1
 have hK : KC (cn (toZ (lenM cs m))) 16 = if 2 ≤ own.length then 32768 else own.length * 16384 := by
  rw [sumK_eq _ hg.2]
  have h3 := sumK_sg (toZ (lenM cs m)) _ (Nat.le_refl _)
  rw [List.take_length] at h3
  rw [h3, toZ_len, hok.len, sg_congr (h := fun k => if 0 < (lenP cs.length m own).getD k 0 then 2 ^ (15 - (lenP cs.length m own).getD k 0) else 0) _ (fun k _ => by rw [toZ_getD, Int.toNat_natCast, hE]), h2]
 have hchk : chk (toZ (lenM cs m)) = if 2 ≤ own.length then 0 else 2 := by
  unfold chk
  rw [if_neg (fun hn => hn hg), hK]
  split
  ·
   simp
  ·
   rw [if_neg (by omega), if_pos (by omega)]
 unfold newE
 rw [hchk]
 by_cases h3 : 2 ≤ own.length
 ·
  rw [if_pos h3]
  simp
 ·
  rw [if_neg h3, if_pos]
  refine ⟨rfl, ?_⟩
  have hKK : KC (cn (toZ (lenM cs m))) 16 = own.length * 16384 := by rw [hK, if_neg h3]
  rw [order_atL]
  have hone : ∀ n, 2 ≤ n → cn (toZ (lenM cs m)) n = 0 := by
   intro n hn
   unfold cn
   rw [if_neg (by omega), List.count_eq_zero]
   intro hmem
   obtain ⟨y, hy, hyn⟩ := List.mem_map.1 hmem
   obtain ⟨i, hi, rfl⟩ := List.getElem_of_mem hy
   have h5 : (lenM cs m).getD i 0 = n := by rw [List.getD_eq_getElem?_getD, List.getElem?_eq_getElem hi, Option.getD_some]; omega
   rw [hE] at h5
   unfold lenP at h5
   rw [if_pos (by omega), vec_getD _ _ _ (by rw [hok.len] at hi; exact hi), own_count hco] at h5
   split at h5 <;> omega
  have hat : ∀ d, atL (toZ (lenM cs m)) (2 + d) = cn (toZ (lenM cs m)) 1 := by
   intro d
   induction d with
   | zero => simp [atL, cn]
   | succ d ih => rw [show 2 + (d + 1) = (2 + d) + 1 by omega, atL, ih, hone (2 + d) (by omega), Nat.add_zero]
  have hkc : ∀ d, KC (cn (toZ (lenM cs m))) (2 + d) = cn (toZ (lenM cs m)) 1 * 16384 := by
   intro d
   induction d with
   | zero => simp [KC, cn]
   | succ d ih => rw [show 2 + (d + 1) = (2 + d) + 1 by omega, KC, ih, hone (2 + d) (by omega), Nat.zero_mul, Nat.add_zero]
  have h6 := hat 14
  have h7 := hkc 14
  rw [hKK] at h7
  rw [show 2 + 14 = 16 from rfl] at h6
  rw [h6]
  omega
theorem newE_fixed : newE fixedL = 0 ∧ newE fixedW = 0 := by decide +kernel
theorem ROk_fixed : ROk fixedL ∧ ROk fixedW := ⟨⟨fixedL_ok, newE_fixed.1⟩, ⟨fixedW_ok, newE_fixed.2⟩⟩
end Go.Proofs.Ytnmieihcjjiccaa
namespace Go.Proofs.Ytnmieihcjjiccaa
open Go.RowKit
theorem len_getI_pos {l : List Int} {i : Nat} (h : l.getD i 0 ≠ 0) : i < l.length := by
 by_cases hi : i < l.length
 ·
  exact hi
 ·
  rw [List.getD_eq_getElem?_getD, List.getElem?_eq_none (by omega)] at h
  exact absurd rfl h
theorem tokF_lit {L A C : List Bool} {a b : List Int} {s most p : Nat} {out : List Nat} (ha : ROk a) (hs : s < 256) (h0 : a.getD s 0 ≠ 0) (hL : L = A ++ cbits a s ++ C) (hp : p = A.length) (ho : out.length < most) :
  tokenF L a b most p out = .ok (true, p + (cbits a s).length, out ++ [s]) := by
 have h := (sym_back ha (len_getI_pos h0) h0 ⟨A, C, hL, hp⟩).1
 unfold tokenF
 rw [h, bnd_k]
 dsimp only
 rw [if_pos hs, if_pos ho]
theorem tokF_end {L A C : List Bool} {a b : List Int} {most p : Nat} {out : List Nat} (ha : ROk a) (h0 : a.getD 256 0 ≠ 0) (hL : L = A ++ cbits a 256 ++ C) (hp : p = A.length) :
  tokenF L a b most p out = .ok (false, p + (cbits a 256).length, out) := by
 have h := (sym_back ha (len_getI_pos h0) h0 ⟨A, C, hL, hp⟩).1
 unfold tokenF
 rw [h, bnd_k]
 rfl
theorem tokF_match {L A C : List Bool} {a b : List Int} {n d most p : Nat} {out : List Nat} (ha : ROk a) (hb : ROk b) (h3 : 3 ≤ n) (h4 : n ≤ 258) (h5 : 1 ≤ d) (h6 : d ≤ 32768) (h0 : a.getD (257 + lenS n) 0 ≠ 0) (h1 : b.getD (wayS d) 0 ≠ 0)
  (hL : L = A ++ (lenB a n ++ wayB b d) ++ C) (hp : p = A.length) (hd : d ≤ out.length) (ho : out.length + n ≤ most) :
  tokenF L a b most p out = .ok (true, p + (lenB a n ++ wayB b d).length, copyF n d out) := by
 obtain ⟨l1, l2, l3, _⟩ := lenS_facts h3 h4
 obtain ⟨w1, w2, w3, _⟩ := wayS_facts h5 h6
 unfold lenB wayB at hL ⊢
 generalize hk1 : cbits a (257 + lenS n) = k1 at hL
 generalize hk2 : cbits b (wayS d) = k2 at hL
 have hs1 := (sym_back ha (len_getI_pos h0) h0 (L := L) (p := p) ⟨A, bitsL (n - (longT.getD (lenS n) (0, 0)).1) (longT.getD (lenS n) (0, 0)).2 ++ k2 ++ bitsL (d - (wayT.getD (wayS d) (0, 0)).1) (wayT.getD (wayS d) (0, 0)).2 ++ C, by rw [hL, hk1]; simp only [List.append_assoc], hp⟩).1
 rw [hk1] at hs1
 have ht1 : takeF L (longT.getD (lenS n) (0, 0)).2 (p + k1.length) = .ok (n - (longT.getD (lenS n) (0, 0)).1, p + k1.length + (longT.getD (lenS n) (0, 0)).2) := by
  have := takeF_at (L := L) (A := A ++ k1) (B := bitsL (n - (longT.getD (lenS n) (0, 0)).1) (longT.getD (lenS n) (0, 0)).2) (n := (longT.getD (lenS n) (0, 0)).2) (p := p + k1.length) ⟨k2 ++ bitsL (d - (wayT.getD (wayS d) (0, 0)).1) (wayT.getD (wayS d) (0, 0)).2 ++ C, by rw [hL]; simp only [List.append_assoc]⟩ (by rw [bitsL_len]) (by rw [List.length_append, hp])
  rw [num_bitsL _ _ l3] at this
  exact this
 have hs2 := (sym_back hb (len_getI_pos h1) h1 (L := L) (p := p + k1.length + (longT.getD (lenS n) (0, 0)).2) ⟨A ++ k1 ++ bitsL (n - (longT.getD (lenS n) (0, 0)).1) (longT.getD (lenS n) (0, 0)).2, bitsL (d - (wayT.getD (wayS d) (0, 0)).1) (wayT.getD (wayS d) (0, 0)).2 ++ C, by rw [hL, hk2]; simp only [List.append_assoc], by rw [List.length_append, List.length_append, bitsL_len, hp]⟩).1
 rw [hk2] at hs2
 have ht2 : takeF L (wayT.getD (wayS d) (0, 0)).2 (p + k1.length + (longT.getD (lenS n) (0, 0)).2 + k2.length) = .ok (d - (wayT.getD (wayS d) (0, 0)).1, p + k1.length + (longT.getD (lenS n) (0, 0)).2 + k2.length + (wayT.getD (wayS d) (0, 0)).2) := by
  have := takeF_at (L := L) (A := A ++ k1 ++ bitsL (n - (longT.getD (lenS n) (0, 0)).1) (longT.getD (lenS n) (0, 0)).2 ++ k2) (B := bitsL (d - (wayT.getD (wayS d) (0, 0)).1) (wayT.getD (wayS d) (0, 0)).2) (n := (wayT.getD (wayS d) (0, 0)).2) (p := p + k1.length + (longT.getD (lenS n) (0, 0)).2 + k2.length) ⟨C, by rw [hL]; simp only [List.append_assoc]⟩ (by rw [bitsL_len]) (by simp only [List.length_append, bitsL_len, hp])
  rw [num_bitsL _ _ w3] at this
  exact this
 have e1 : 257 + lenS n - 257 = lenS n := by omega
 have e2 : (longT.getD (lenS n) (0, 0)).1 + (n - (longT.getD (lenS n) (0, 0)).1) = n := by omega
 have e3 : (wayT.getD (wayS d) (0, 0)).1 + (d - (wayT.getD (wayS d) (0, 0)).1) = d := by omega
 unfold tokenF
 rw [hs1, bnd_k]
 dsimp only
 rw [if_neg (by omega), if_neg (by omega), if_neg (by omega), e1, ht1, bnd_k]
 dsimp only
 rw [hs2, bnd_k]
 dsimp only
 rw [if_neg (by omega), ht2, bnd_k]
 dsimp only
 rw [e2, e3, if_neg (by omega), if_neg (by omega)]
 simp only [List.length_append, bitsL_len, Nat.add_assoc]
theorem copy_back {bs : List Nat} {d : Nat} (hd : 1 ≤ d) : ∀ n a, d ≤ a → a + n ≤ bs.length → (∀ j, j < n → bs.getD (a - d + j) 0 = bs.getD (a + j) 0) → copyF n d (bs.take a) = bs.take (a + n)
 | 0, a, _, _, _ => rfl
 | n + 1, a, h1, h2, h3 => by
  have hl : (bs.take a).length = a := by rw [List.length_take]; omega
  have e : (bs.take a).getD (a - d) 0 = bs.getD a 0 := by
   rw [List.getD_eq_getElem?_getD, List.getElem?_take_of_lt (by omega), ← List.getD_eq_getElem?_getD]
   have := h3 0 (by omega)
   rw [Nat.add_zero, Nat.add_zero] at this
   exact this
  rw [copyF, hl, e, ← nat_snoc (L := bs) (by omega), copy_back hd n (a + 1) (by omega) (by omega) (fun j hj => by
   have := h3 (j + 1) (by omega)
   rw [show a + 1 - d + j = a - d + (j + 1) by omega, show a + 1 + j = a + (j + 1) by omega]
   exact this), show a + 1 + n = a + (n + 1) by omega]
def Used (a b : List Int) (t : Tk) : Prop := if t.2.1 = 0 then a.getD t.1 0 ≠ 0 else a.getD (257 + lenS t.2.1) 0 ≠ 0 ∧ b.getD (wayS t.2.2) 0 ≠ 0
theorem tokens_back {bs : List Nat} {c1 c2 : List Int} (hl : bs.length ≤ 32768) (hB : ∀ b ∈ bs, b < 256) (h1 : ROk c1) (h2 : ROk c2) (h0 : c1.getD 256 0 ≠ 0) :
  ∀ m a f (L A C : List Bool) p, bs.length - a ≤ m → a ≤ bs.length → (∀ t ∈ toks bs a, Used c1 c2 t) → L = A ++ toksB c1 c2 (toks bs a) ++ C → p = A.length → (toks bs a).length < f →
   tokensF L c1 c2 bs.length f p (bs.take a) = .ok (p + (toksB c1 c2 (toks bs a)).length, bs)
 | m, a, 0, L, A, C, p, _, _, _, _, _, hf => by omega
 | m, a, f + 1, L, A, C, p, hm, ha, hu, hL, hp, hf => by
  by_cases hend : a = bs.length
  ·
   rw [toks_end bs a (by omega)] at hL ⊢
   have ht : toksB c1 c2 [] = cbits c1 256 := rfl
   rw [ht] at hL ⊢
   rw [tokensF, tokF_end h1 h0 hL hp, bnd_k]
   dsimp only
   rw [List.take_of_length_le (by omega)]
   rfl
  ·
   have ha2 : a < bs.length := by omega
   have htl : (bs.take a).length = a := by rw [List.length_take]; omega
   cases m with
   | zero => omega
   | succ m =>
    by_cases hbm : (bestM bs a).1 = 0
    ·
     rw [toks_lit bs a ha2 hbm] at hu hL hf ⊢
     have hu0 := hu _ List.mem_cons_self
     have htb : tokB c1 c2 (bs.getD a 0, 0, 0) = cbits c1 (bs.getD a 0) := rfl
     have htt : toksB c1 c2 ((bs.getD a 0, 0, 0) :: toks bs (a + 1)) = cbits c1 (bs.getD a 0) ++ toksB c1 c2 (toks bs (a + 1)) := by
      unfold toksB
      rw [List.flatMap_cons, htb, List.append_assoc]
     rw [htt] at hL ⊢
     have hx := tokF_lit (b := c2) (most := bs.length) (out := bs.take a) h1 (getD_lt hB a) hu0 (show L = A ++ cbits c1 (bs.getD a 0) ++ (toksB c1 c2 (toks bs (a + 1)) ++ C) by rw [hL]; simp only [List.append_assoc]) hp (by omega)
     rw [tokensF, hx, bnd_k]
     dsimp only
     rw [← nat_snoc (L := bs) ha2, if_pos rfl, tokens_back hl hB h1 h2 h0 m (a + 1) f L (A ++ cbits c1 (bs.getD a 0)) C _ (by omega) (by omega) (fun t ht => hu t (List.mem_cons_of_mem _ ht)) (by rw [hL]; simp only [List.append_assoc]) (by rw [hp]; simp only [List.length_append]) (by simpa using hf)]
     rw [List.length_append, Nat.add_assoc]
    ·
     rcases bestM_facts bs a (by omega) with h3 | ⟨h3, h4, h5, h6, h7, h8⟩
     ·
      rw [h3] at hbm; exact absurd rfl hbm
     rw [toks_match bs a ha2 hbm] at hu hL hf ⊢
     have hu0 := hu _ List.mem_cons_self
     unfold Used at hu0
     rw [if_neg hbm] at hu0
     have htb : tokB c1 c2 (0, (bestM bs a).1, (bestM bs a).2) = lenB c1 (bestM bs a).1 ++ wayB c2 (bestM bs a).2 := by unfold tokB; rw [if_neg hbm]
     have htt : toksB c1 c2 ((0, (bestM bs a).1, (bestM bs a).2) :: toks bs (a + (bestM bs a).1)) = (lenB c1 (bestM bs a).1 ++ wayB c2 (bestM bs a).2) ++ toksB c1 c2 (toks bs (a + (bestM bs a).1)) := by
      unfold toksB
      rw [List.flatMap_cons, htb, List.append_assoc]
     rw [htt] at hL ⊢
     have hx := tokF_match (most := bs.length) (out := bs.take a) (n := (bestM bs a).1) (d := (bestM bs a).2) (p := p) h1 h2 h3 h4 h5 (by omega) hu0.1 hu0.2 (show L = A ++ (lenB c1 (bestM bs a).1 ++ wayB c2 (bestM bs a).2) ++ (toksB c1 c2 (toks bs (a + (bestM bs a).1)) ++ C) by rw [hL]; simp only [List.append_assoc]) hp (by omega) (by omega)
     have hcp : copyF (bestM bs a).1 (bestM bs a).2 (bs.take a) = bs.take (a + (bestM bs a).1) := by
      refine copy_back h5 _ a h6 h7 (fun j hj => ?_)
      have := (lgM_ge bs 258 (a - (bestM bs a).2) a (bestM bs a).1 h4).1 (by
       have : longM bs (a - (bestM bs a).2) a = lgM bs (a - (bestM bs a).2) a 258 := rfl
       omega) j hj
      exact this.2
     rw [tokensF, hx, bnd_k]
     dsimp only
     rw [hcp, if_pos rfl, tokens_back hl hB h1 h2 h0 m (a + (bestM bs a).1) f L (A ++ (lenB c1 (bestM bs a).1 ++ wayB c2 (bestM bs a).2)) C _ (by omega) h7 (fun t ht => hu t (List.mem_cons_of_mem _ ht)) (by rw [hL]; simp only [List.append_assoc]) (by rw [hp]; simp only [List.length_append]) (by simpa using hf)]
     simp only [List.length_append, Nat.add_assoc]
theorem tok_few {c1 c2 : List Int} (h1 : ROk c1) : ∀ L : List Tk, (∀ t ∈ L, Used c1 c2 t) → L.length ≤ (L.flatMap (tokB c1 c2)).length
 | [], _ => Nat.le_refl _
 | t :: L, h => by
  have ih := tok_few h1 L (fun t ht => h t (List.mem_cons_of_mem _ ht))
  have hu := h t List.mem_cons_self
  have h2 : 1 ≤ (tokB c1 c2 t).length := by
   unfold Used at hu
   unfold tokB
   split
   ·
    rename_i h0
    rw [if_pos h0] at hu
    exact (sym_back h1 (len_getI_pos hu) hu ⟨[], [], rfl, rfl⟩).2
   ·
    rename_i h0
    rw [if_neg h0] at hu
    have := (sym_back h1 (len_getI_pos hu.1) hu.1 ⟨[], [], rfl, rfl⟩).2
    unfold lenB
    rw [List.length_append, List.length_append]
    omega
  rw [List.flatMap_cons, List.length_append, List.length_cons]
  omega
theorem one_block {bs : List Nat} {c1 c2 : List Int} {H : List Bool} {k : Nat} (hl : bs.length ≤ 32768) (hB : ∀ b ∈ bs, b < 256) (h1 : ROk c1) (h2 : ROk c2) (h0 : c1.getD 256 0 ≠ 0) (hu : ∀ t ∈ toks bs 0, Used c1 c2 t) (hc : (k = 1 ∧ H = [] ∧ c1 = fixedL ∧ c2 = fixedW) ∨ (k = 2 ∧ ∀ C, dynF (bitsL 1 1 ++ bitsL k 2 ++ H ++ toksB c1 c2 (toks bs 0) ++ C) 3 = .ok (3 + H.length, c1, c2))) :
  inflF (pack (bitsL 1 1 ++ bitsL k 2 ++ H ++ toksB c1 c2 (toks bs 0))) bs.length = .ok (bs, (pack (bitsL 1 1 ++ bitsL k 2 ++ H ++ toksB c1 c2 (toks bs 0))).length) := by
 have hk : k = 1 ∨ k = 2 := hc.imp (·.1) (·.1)
 generalize hM : bitsL 1 1 ++ bitsL k 2 ++ H ++ toksB c1 c2 (toks bs 0) = M at hc
 have hL : ∃ C, ofB (pack M) = M ++ C := ⟨_, ofB_pack M⟩
 obtain ⟨C, hL⟩ := hL
 have hMl : M.length = 3 + H.length + (toksB c1 c2 (toks bs 0)).length := by rw [← hM]; simp only [List.length_append, bitsL_len]
 have hfew := tok_few (c2 := c2) h1 (toks bs 0) hu
 have hLl : M.length ≤ 8 * (pack M).length := by rw [← ofB_len, hL, List.length_append]; omega
 have ht1 : takeF (ofB (pack M)) 1 0 = .ok (1, 1) := by
  have := takeF_at (L := ofB (pack M)) (A := []) (B := bitsL 1 1) (n := 1) (p := 0) ⟨bitsL k 2 ++ H ++ toksB c1 c2 (toks bs 0) ++ C, by rw [hL, ← hM]; simp only [List.append_assoc, List.nil_append]⟩ rfl rfl
  exact this
 have ht2 : takeF (ofB (pack M)) 2 1 = .ok (k, 3) := by
  have := takeF_at (L := ofB (pack M)) (A := bitsL 1 1) (B := bitsL k 2) (n := 2) (p := 1) ⟨H ++ toksB c1 c2 (toks bs 0) ++ C, by rw [hL, ← hM]; simp only [List.append_assoc]⟩ (by rw [bitsL_len]) rfl
  rw [num_bitsL 2 k (by rcases hk with rfl | rfl <;> decide)] at this
  exact this
 have htok := tokens_back hl hB h1 h2 h0 bs.length 0 (8 * (pack M).length + 1) (ofB (pack M)) (bitsL 1 1 ++ bitsL k 2 ++ H) C (3 + H.length) (by omega) (by omega) hu (by rw [hL, ← hM]) (by simp only [List.length_append, bitsL_len]) (by
  unfold toksB at hMl
  rw [List.length_append] at hMl
  omega)
 rw [List.take_zero] at htok
 have hblk : blockF (pack M) bs.length 0 [] = .ok (false, 3 + H.length + (toksB c1 c2 (toks bs 0)).length, bs) := by
  unfold blockF
  rw [ht1, bnd_k]
  dsimp only
  rw [ht2, bnd_k]
  dsimp only
  rw [if_neg (by omega), if_neg (by omega)]
  rcases hc with ⟨rfl, rfl, rfl, rfl⟩ | ⟨rfl, hcC⟩
  ·
   rw [if_pos rfl]
   rw [List.length_nil, Nat.add_zero] at htok ⊢
   rw [htok, bnd_k]
   rfl
  ·
   rw [if_neg (by omega)]
   have hcC := hcC C
   rw [← hL] at hcC
   rw [hcC, bnd_k]
   dsimp only
   rw [htok, bnd_k]
   rfl
 unfold inflF
 rw [if_neg (by omega), Int.toNat_natCast, blocksF, hblk, bnd_k]
 dsimp only
 rw [if_neg (by decide), bnd_k, pack_len, hMl]
end Go.Proofs.Ytnmieihcjjiccaa
namespace Go.Proofs.Ytnmieihcjjiccaa
open Go.RowKit
theorem fold_mono {α : Type} {f : List Nat → α → List Nat} (h : ∀ c t i, c.getD i 0 ≤ (f c t).getD i 0) : ∀ (l : List α) c i, c.getD i 0 ≤ (l.foldl f c).getD i 0
 | [], _, _ => Nat.le_refl _
 | t :: l, c, i => Nat.le_trans (h c t i) (fold_mono h l _ i)
theorem fold_pos {α : Type} {f : List Nat → α → List Nat} {n : Nat} (h : ∀ c t i, c.getD i 0 ≤ (f c t).getD i 0) (hlen : ∀ c t, (f c t).length = c.length) {t : α} {k : Nat} (hk : ∀ c, c.length = n → 0 < (f c t).getD k 0) : ∀ (l : List α) c, c.length = n → t ∈ l → 0 < (l.foldl f c).getD k 0
 | [], _, _, h => by cases h
 | u :: l, c, hc, hm => by
  rcases List.mem_cons.1 hm with rfl | hm
  ·
   exact Nat.lt_of_lt_of_le (hk c hc) (fold_mono h l _ k)
  ·
   exact fold_pos h hlen hk l _ (by rw [hlen]; exact hc) hm
theorem bump_mono (c : List Nat) (k i : Nat) : c.getD i 0 ≤ (c.set k (c.getD k 0 + 1)).getD i 0 := by
 simp only [List.getD_eq_getElem?_getD, List.getElem?_set]
 by_cases h : k = i
 ·
  subst h
  by_cases h2 : k < c.length
  ·
   simp [h2]
  ·
   simp [h2]
 ·
  simp [h]
theorem bump_pos (c : List Nat) (k : Nat) (h : k < c.length) : 0 < (c.set k (c.getD k 0 + 1)).getD k 0 := by
 simp [List.getD_eq_getElem?_getD, h]
theorem lit_mono (c : List Nat) (t : Tk) (i : Nat) : c.getD i 0 ≤ (litStep c t).getD i 0 := by
 unfold litStep
 split <;> exact bump_mono _ _ _
theorem way_mono (c : List Nat) (t : Tk) (i : Nat) : c.getD i 0 ≤ (wayStep c t).getD i 0 := by
 unfold wayStep
 split
 ·
  exact Nat.le_refl _
 ·
  exact bump_mono _ _ _
theorem used_counts {lt : List Tk} (hok : ∀ t ∈ lt, TkOk t) : (∀ t ∈ lt, if t.2.1 = 0 then (litC lt).getD t.1 0 ≠ 0 else (litC lt).getD (257 + lenS t.2.1) 0 ≠ 0 ∧ (wayC lt).getD (wayS t.2.2) 0 ≠ 0) ∧ (litC lt).getD 256 0 ≠ 0 := by
 have h0l : lit0.length = 286 := by unfold lit0; rw [List.length_set, List.length_replicate]
 refine ⟨fun t ht => ?_, ?_⟩
 ·
  have hq := hok t ht
  by_cases h0 : t.2.1 = 0
  ·
   rw [if_pos h0]
   have h1 : t.1 < 256 := by rcases hq with ⟨_, _, h⟩ | ⟨_, h, _⟩ <;> omega
   have := fold_pos (n := 286) (k := t.1) lit_mono litStep_len (fun c hc => by unfold litStep; rw [if_pos h0]; exact bump_pos _ _ (by omega)) lt lit0 h0l ht
   unfold litC
   omega
  ·
   rw [if_neg h0]
   obtain ⟨q3, q4, q5, q6⟩ : 3 ≤ t.2.1 ∧ t.2.1 ≤ 258 ∧ 1 ≤ t.2.2 ∧ t.2.2 ≤ 32768 := by
    rcases hq with ⟨h, _⟩ | ⟨_, h⟩
    ·
     exact absurd h h0
    ·
     exact h
   have hl := (lenS_facts q3 q4).1
   have hw := (wayS_facts q5 q6).1
   have h1 := fold_pos (n := 286) (k := 257 + lenS t.2.1) lit_mono litStep_len (fun c hc => by unfold litStep; rw [if_neg h0]; exact bump_pos _ _ (by omega)) lt lit0 h0l ht
   have h2 := fold_pos (n := 30) (k := wayS t.2.2) way_mono wayStep_len (fun c hc => by unfold wayStep; rw [if_neg h0]; exact bump_pos _ _ (by omega)) lt (List.replicate 30 0) (by simp) ht
   unfold litC wayC
   exact ⟨by omega, by omega⟩
 ·
  have h1 := fold_mono lit_mono lt lit0 256
  have h2 : lit0.getD 256 0 = 1 := by decide
  unfold litC
  omega
theorem said_counts {L : List Sd} (hok : ∀ t ∈ L, SdOk t) : ∀ t ∈ L, (timesC L).getD t.1 0 ≠ 0 := by
 intro t ht
 have h1 := (hok t ht).1
 have := fold_pos (f := timeStep) (n := 19) (k := t.1) (fun c t i => bump_mono c t.1 i) (fun c t => by unfold timeStep; rw [List.length_set]) (fun c hc => bump_pos c t.1 (by omega)) L (rep 19) (by simp [rep]) ht
 unfold timesC
 omega

theorem third_back {L : List Bool} {v : Nat → Nat} (hv : ∀ s, v s ≤ 7) : ∀ (R : List Nat) (A C : List Bool) (p : Nat) (l : List Int), L = A ++ (R.map v).flatMap (fun n => bitsL n 3) ++ C → p = A.length → thirdF L R p l = .ok (p + 3 * R.length, R.foldl (fun l s => l.set s ((v s : Nat) : Int)) l)
 | [], A, C, p, l, _, _ => rfl
 | s :: R, A, C, p, l, hL, hp => by
  have ht := takeF_at (L := L) (A := A) (B := bitsL (v s) 3) (n := 3) (p := p) ⟨(R.map v).flatMap (fun n => bitsL n 3) ++ C, by rw [hL]; simp only [List.map_cons, List.flatMap_cons, List.append_assoc]⟩ (by rw [bitsL_len]) hp
  rw [num_bitsL 3 (v s) (by have := hv s; omega)] at ht
  rw [thirdF, ht, bnd_k]
  dsimp only
  rw [third_back hv R (A ++ bitsL (v s) 3) C (p + 3) _ (by rw [hL]; simp only [List.map_cons, List.flatMap_cons, List.append_assoc]) (by rw [List.length_append, bitsL_len, hp]), List.length_cons, List.foldl_cons]
  congr 2
  omega
theorem sets_len (v : Nat → Nat) : ∀ (R : List Nat) (l : List Int), (R.foldl (fun l s => l.set s ((v s : Nat) : Int)) l).length = l.length
 | [], _ => rfl
 | s :: R, l => by rw [List.foldl_cons, sets_len v R, List.length_set]
theorem sets_getD (v : Nat → Nat) : ∀ (R : List Nat) (l : List Int) (i : Nat), i < l.length → (R.foldl (fun l s => l.set s ((v s : Nat) : Int)) l).getD i 0 = if i ∈ R then ((v i : Nat) : Int) else l.getD i 0
 | [], _, _, _ => rfl
 | s :: R, l, i, hi => by
  rw [List.foldl_cons, sets_getD v R _ i (by rw [List.length_set]; exact hi)]
  by_cases h : i ∈ R
  ·
   rw [if_pos h, if_pos (List.mem_cons_of_mem _ h)]
  ·
   rw [if_neg h]
   by_cases h2 : s = i
   ·
    subst h2
    rw [if_pos List.mem_cons_self]
    simp [List.getD_eq_getElem?_getD, hi]
   ·
    rw [if_neg (by rw [List.mem_cons]; rintro (h3 | h3); exact h2 h3.symm; exact h h3)]
    simp [List.getD_eq_getElem?_getD, h2]
theorem ordT_len : orderT.length = 19 := rfl
theorem order_all : ∀ s, s < 19 → ∃ j, j < 19 ∧ orderT.getD j 0 = s := by decide +kernel
theorem sets_third {third : List Nat} (h19 : third.length = 19) (w : Nat) (hw : w = (cutL (ordL third) 4).length) : (orderT.take w).foldl (fun l s => l.set s ((third.getD s 0 : Nat) : Int)) (List.replicate 19 0) = toZ third := by
 apply List.ext_getElem?
 intro i
 have hlen := sets_len (fun s => third.getD s 0) (orderT.take w) (List.replicate 19 0)
 rw [List.length_replicate] at hlen
 by_cases hi : i < 19
 ·
  have h1 := sets_getD (fun s => third.getD s 0) (orderT.take w) (List.replicate 19 0) i (by rw [List.length_replicate]; exact hi)
  rw [List.getD_eq_getElem?_getD, List.getElem?_eq_getElem (by rw [hlen]; exact hi), Option.getD_some] at h1
  rw [List.getElem?_eq_getElem (by rw [hlen]; exact hi), h1]
  have h2 : (toZ third)[i]? = some ((third.getD i 0 : Nat) : Int) := by
   have := toZ_getD third i
   rw [List.getD_eq_getElem?_getD, List.getElem?_eq_getElem (by rw [toZ_len, h19]; exact hi), Option.getD_some] at this
   rw [List.getElem?_eq_getElem (by rw [toZ_len, h19]; exact hi), this]
  rw [h2]
  by_cases h3 : i ∈ orderT.take w
  ·
   rw [if_pos h3]
  ·
   rw [if_neg h3]
   obtain ⟨j, hj, hji⟩ := order_all i hi
   have hwj : w ≤ j := by
    rcases Nat.lt_or_ge j w with h | h
    ·
     exfalso
     refine h3 ?_
     rw [← hji, List.getD_eq_getElem?_getD, List.getElem?_eq_getElem (show j < orderT.length by rw [ordT_len]; exact hj), Option.getD_some]
     exact List.mem_take_iff_getElem.2 ⟨j, by rw [ordT_len]; omega, rfl⟩
    ·
     exact h
   have h4 := cutN_zero (ordL third) 4 (ordL third).length j (by rw [← cutL_len, ← hw]; exact hwj) (by rw [ordL_len]; exact hj)
   have h5 : (ordL third).getD j 0 = third.getD i 0 := by
    unfold ordL
    rw [List.getD_eq_getElem?_getD, List.getElem?_map, List.getElem?_eq_getElem (show j < orderT.length by rw [ordT_len]; exact hj)]
    rw [List.getD_eq_getElem?_getD (l := orderT), List.getElem?_eq_getElem (show j < orderT.length by rw [ordT_len]; exact hj), Option.getD_some] at hji
    simp only [Option.map_some, Option.getD_some, hji]
   rw [← h5, h4, List.getD_eq_getElem?_getD, List.getElem?_replicate, if_pos hi]
   rfl
 ·
  rw [List.getElem?_eq_none (by omega), List.getElem?_eq_none (by rw [toZ_len]; omega)]

theorem runF_alike (l : List Nat) (v : Nat) : ∀ m n j, j < runF l v m n → n + j < l.length ∧ l.getD (n + j) 0 = v
 | 0, n, j, h => by simp [runF] at h
 | m + 1, n, j, h => by
  by_cases hc : n < l.length ∧ l.getD n 0 = v
  ·
   rw [runF_go hc.1 hc.2 (by omega), Nat.add_sub_cancel] at h
   cases j with
   | zero => exact hc
   | succ j =>
    have := runF_alike l v m (n + 1) j (by omega)
    rw [show n + (j + 1) = n + 1 + j by omega]
    exact this
  ·
   rw [runF_stop hc] at h
   omega
theorem take_run (l : List Nat) (a : Nat) : ∀ n, n ≤ runN l a → l.take (a + n) = l.take a ++ List.replicate n (l.getD a 0)
 | 0, _ => by simp
 | n + 1, h => by
  have h1 := runF_alike l (l.getD a 0) (l.length - a) a n (by unfold runN at h; omega)
  rw [← Nat.add_assoc, nat_snoc h1.1, take_run l a n (by omega), h1.2, List.append_assoc, List.replicate_succ']
theorem toZ_append (a b : List Nat) : toZ (a ++ b) = toZ a ++ toZ b := by simp [toZ]
theorem toZ_rep (n v : Nat) : toZ (List.replicate n v) = List.replicate n (v : Int) := by simp [toZ]
theorem more_back {L A C : List Bool} {third : List Int} {x : List Nat} {a p : Nat} (h3 : ROk third) (hl : third.length = 19) (hx : ∀ i, x.getD i 0 ≤ 15) (ha : a < x.length) (hu : third.getD (sayAt x a).1.1 0 ≠ 0) (hL : L = A ++ sayB third (sayAt x a).1 ++ C) (hp : p = A.length) :
  moreF L third p (toZ (x.take a)) x.length = .ok (p + (sayB third (sayAt x a).1).length, toZ (x.take (a + (sayAt x a).2))) := by
 have hle := sayAt_le ha
 have hal : (toZ (x.take a)).length = a := by rw [toZ_len, List.length_take]; omega
 obtain ⟨hs19, hn7, hv⟩ := sayAt_ok hx a
 have hsym := (sym_back h3 (by rw [hl]; exact hs19) hu (L := L) (p := p) ⟨A, bitsL (sayAt x a).1.2.2 (sayAt x a).1.2.1 ++ C, by rw [hL]; unfold sayB; simp only [List.append_assoc], hp⟩).1
 have htk : takeF L (sayAt x a).1.2.1 (p + (cbits third (sayAt x a).1.1).length) = .ok ((sayAt x a).1.2.2, p + (cbits third (sayAt x a).1.1).length + (sayAt x a).1.2.1) := by
  have := takeF_at (L := L) (A := A ++ cbits third (sayAt x a).1.1) (B := bitsL (sayAt x a).1.2.2 (sayAt x a).1.2.1) (n := (sayAt x a).1.2.1) (p := p + (cbits third (sayAt x a).1.1).length) ⟨C, by rw [hL]; unfold sayB; simp only [List.append_assoc]⟩ (by rw [bitsL_len]) (by rw [List.length_append, hp])
  rw [num_bitsL _ _ hv] at this
  exact this
 have hlen : (sayB third (sayAt x a).1).length = (cbits third (sayAt x a).1.1).length + (sayAt x a).1.2.1 := by unfold sayB; rw [List.length_append, bitsL_len]
 rw [hlen, ← Nat.add_assoc]
 generalize hk : (cbits third (sayAt x a).1.1).length = k at hsym htk ⊢
 have hrun : (sayAt x a).2 ≤ runN x a := by
  have := runN_pos ha
  unfold sayAt
  split
  ·
   dsimp only; omega
  ·
   split
   ·
    dsimp only; omega
   ·
    split
    ·
     dsimp only; omega
    ·
     dsimp only; omega
 have htr := take_run x a _ hrun
 unfold moreF
 rw [hsym, bnd_k]
 dsimp only
 rw [htr, toZ_append, toZ_rep]
 have hsa := hle
 unfold sayAt at htk hsa ⊢
 by_cases c1 : x.getD a 0 = 0 ∧ 11 ≤ runN x a
 ·
  rw [if_pos c1] at htk hsa ⊢
  dsimp only at htk hsa ⊢
  rw [if_neg (by omega), if_neg (by omega), if_pos rfl, htk, bnd_k, bnd_k]
  dsimp only
  rw [hal, if_neg (by omega), show 11 + (min (runN x a) 138 - 11) = min (runN x a) 138 by omega, c1.1]
  rfl
 ·
  rw [if_neg c1] at htk hsa ⊢
  by_cases c2 : x.getD a 0 = 0 ∧ 3 ≤ runN x a
  ·
   rw [if_pos c2] at htk hsa ⊢
   dsimp only at htk hsa ⊢
   rw [if_neg (by omega), if_pos rfl, htk, bnd_k, bnd_k]
   dsimp only
   rw [hal, if_neg (by omega), show 3 + (min (runN x a) 10 - 3) = min (runN x a) 10 by omega, c2.1]
   rfl
  ·
   rw [if_neg c2] at htk hsa ⊢
   by_cases c3 : 0 < a ∧ x.getD (a - 1) 0 = x.getD a 0 ∧ 3 ≤ runN x a
   ·
    rw [if_pos c3] at htk hsa ⊢
    dsimp only at htk hsa ⊢
    have hlast : (toZ (x.take a)).getD (a - 1) 0 = ((x.getD a 0 : Nat) : Int) := by
     rw [toZ_getD, List.getD_eq_getElem?_getD, List.getElem?_take_of_lt (by omega), ← List.getD_eq_getElem?_getD, c3.2.1]
    rw [if_pos rfl, hal, if_neg (by omega), htk, bnd_k, bnd_k]
    dsimp only
    rw [if_neg (by omega), show 3 + (min (runN x a) 6 - 3) = min (runN x a) 6 by omega, hlast]
   ·
    rw [if_neg c3] at htk hsa ⊢
    dsimp only at htk hsa ⊢
    have h15 := hx a
    rw [if_neg (by omega), if_neg (by omega), if_neg (by omega), bnd_k]
    dsimp only
    rw [hal, if_neg (by omega)]
    rfl
theorem mores_back {L : List Bool} {third : List Int} {x : List Nat} (h3 : ROk third) (hl : third.length = 19) (hx : ∀ i, x.getD i 0 ≤ 15) :
  ∀ m a f (A C : List Bool) p, x.length - a ≤ m → a ≤ x.length → (sayM x a).length < f → (∀ t ∈ sayM x a, third.getD t.1 0 ≠ 0) → L = A ++ (sayM x a).flatMap (sayB third) ++ C → p = A.length →
   moresF L third x.length f p (toZ (x.take a)) = .ok (p + ((sayM x a).flatMap (sayB third)).length, toZ x)
 | m, a, 0, _, _, _, _, _, hf, _, _, _ => by omega
 | m, a, f + 1, A, C, p, hm, ha, hf, hu, hL, hp => by
  have hal : (toZ (x.take a)).length = a := by rw [toZ_len, List.length_take]; omega
  rw [moresF, hal]
  by_cases h1 : a < x.length
  ·
   rw [sayM_step h1] at hu hL hf ⊢
   have hpos := sayAt_pos (l := x) (a := a)
   have hle := sayAt_le h1
   rw [List.flatMap_cons] at hL ⊢
   cases m with
   | zero => omega
   | succ m =>
    rw [if_pos h1, more_back h3 hl hx h1 (hu _ List.mem_cons_self) (show L = A ++ sayB third (sayAt x a).1 ++ ((sayM x (a + (sayAt x a).2)).flatMap (sayB third) ++ C) by rw [hL]; simp only [List.append_assoc]) hp, bnd_k]
    dsimp only
    rw [mores_back h3 hl hx m (a + (sayAt x a).2) f (A ++ sayB third (sayAt x a).1) C _ (by omega) hle (by simpa using hf) (fun t ht => hu t (List.mem_cons_of_mem _ ht)) (by rw [hL]; simp only [List.append_assoc]) (by rw [List.length_append, hp]), List.length_append, Nat.add_assoc]
  ·
   rw [if_neg h1, sayM_end (by omega), List.take_of_length_le (by omega)]
   rfl
theorem say_few {third : List Int} (h : ROk third) : ∀ L : List Sd, (∀ t ∈ L, third.getD t.1 0 ≠ 0) → L.length ≤ (L.flatMap (sayB third)).length
 | [], _ => Nat.le_refl _
 | t :: L, hu => by
  have ih := say_few h L (fun t ht => hu t (List.mem_cons_of_mem _ ht))
  have h0 := hu t List.mem_cons_self
  have := (sym_back h (len_getI_pos h0) h0 ⟨[], [], rfl, rfl⟩).2
  rw [List.flatMap_cons, List.length_append, List.length_cons]
  unfold sayB at ih ⊢
  rw [List.length_append]
  omega
theorem flatMap_same {α β : Type} {f g : α → List β} : ∀ l : List α, (∀ t ∈ l, f t = g t) → l.flatMap f = l.flatMap g
 | [], _ => rfl
 | t :: l, h => by rw [List.flatMap_cons, List.flatMap_cons, h t List.mem_cons_self, flatMap_same l (fun t ht => h t (List.mem_cons_of_mem _ ht))]
end Go.Proofs.Ytnmieihcjjiccaa
namespace Go.Proofs.Ytnmieihcjjiccaa
open Go.RowKit
theorem fixed_used : (∀ i, i < 288 → fixedL.getD i 0 ≠ 0) ∧ ∀ i, i < 32 → fixedW.getD i 0 ≠ 0 := by decide +kernel
theorem fix_back (bs : List Nat) (hl : bs.length ≤ 32768) (hB : ∀ b ∈ bs, b < 256) : inflF (pack (fixM bs)) bs.length = .ok (bs, (pack (fixM bs)).length) := by
 have h := one_block (bs := bs) (c1 := fixedL) (c2 := fixedW) (H := []) (k := 1) hl hB ROk_fixed.1 ROk_fixed.2 (fixed_used.1 256 (by omega)) (fun t ht => by
  have hq := toks_ok bs 0 hl hB t ht
  unfold Used
  split
  ·
   rename_i h0
   exact fixed_used.1 _ (by rcases hq with ⟨_, _, h⟩ | ⟨_, h, _⟩ <;> omega)
  ·
   rename_i h0
   obtain ⟨q3, q4, q5, q6⟩ : 3 ≤ t.2.1 ∧ t.2.1 ≤ 258 ∧ 1 ≤ t.2.2 ∧ t.2.2 ≤ 32768 := by
    rcases hq with ⟨h, _⟩ | ⟨_, h⟩
    ·
     exact absurd h h0
    ·
     exact h
   have hl := (lenS_facts q3 q4).1
   have hw := (wayS_facts q5 q6).1
   exact ⟨fixed_used.1 _ (by omega), fixed_used.2 _ (by omega)⟩) (.inl ⟨rfl, rfl, rfl, rfl⟩)
 rw [List.append_nil] at h
 exact h
theorem cut_used {l : List Nat} {least s : Nat} (h : l.getD s 0 ≠ 0) : s < (cutL l least).length ∧ (cutL l least).getD s 0 = l.getD s 0 := by
 have hs := len_getD_pos h
 have h1 : s < (cutL l least).length := by
  rw [cutL_len]
  rcases Nat.lt_or_ge s (cutN l least l.length) with h2 | h2
  ·
   exact h2
  ·
   exact absurd (cutN_zero l least l.length s h2 hs) h
 refine ⟨h1, ?_⟩
 rw [cutL_len] at h1
 unfold cutL
 rw [List.getD_eq_getElem?_getD, List.getElem?_take_of_lt h1, ← List.getD_eq_getElem?_getD]
theorem dyn_back (bs : List Nat) (hl : bs.length ≤ 32768) (hB : ∀ b ∈ bs, b < 256) : inflF (pack (dynB bs)) bs.length = .ok (bs, (pack (dynB bs)).length) := by
 have hok := toks_ok bs 0 hl hB
 obtain ⟨hlo, hlr⟩ := lenM_read (cs := litC (toks bs 0)) (m := 15) (by rw [litC_len]; omega) (by omega) (by omega) (by rw [litC_len]; decide)
 obtain ⟨hwo, hwr⟩ := lenM_read (cs := wayC (toks bs 0)) (m := 15) (by rw [wayC_len]; omega) (by omega) (by omega) (by rw [wayC_len]; decide)
 obtain ⟨h3o, h3r⟩ := lenM_read (cs := timesC (listM bs)) (m := 7) (by rw [timesC_len]; omega) (by omega) (by omega) (by rw [timesC_len]; decide)
 have hlo : LenOk (litC (toks bs 0)) (litsM bs) 15 := hlo
 have hwo : LenOk (wayC (toks bs 0)) (waysM bs) 15 := hwo
 have h3o : LenOk (timesC (listM bs)) (thirdM bs) 7 := h3o
 have hlr : ROk (toZ (litsM bs)) := hlr
 have hwr : ROk (toZ (waysM bs)) := hwr
 have h3r : ROk (toZ (thirdM bs)) := h3r
 obtain ⟨hL1, hL2, hM1, hM2, hF1, hF2, hLok, hLl⟩ := dyn_bounds bs hlo hwo
 have h3l : (thirdM bs).length = 19 := h3o.len.trans (timesC_len _)
 obtain ⟨huse, h256⟩ := used_counts hok
 have hlit : ∀ s, (litC (toks bs 0)).getD s 0 ≠ 0 → (litsM bs).getD s 0 ≠ 0 := fun s hs h0 => hs ((hlo.come s (len_getD_pos hs)).1 h0)
 have hway : ∀ s, (wayC (toks bs 0)).getD s 0 ≠ 0 → (waysM bs).getD s 0 ≠ 0 := fun s hs h0 => hs ((hwo.come s (len_getD_pos hs)).1 h0)
 have hthi : ∀ s, (timesC (listM bs)).getD s 0 ≠ 0 → (thirdM bs).getD s 0 ≠ 0 := fun s hs h0 => hs ((h3o.come s (len_getD_pos hs)).1 h0)
 have hmr : ROk (toZ (manyM bs)) := hlr.cut 257
 have hfr : ROk (toZ (farM bs)) := hwr.cut 1
 have hml : ∀ s, (litC (toks bs 0)).getD s 0 ≠ 0 → s < (manyM bs).length ∧ (manyM bs).getD s 0 ≠ 0 := fun s hs => by
  have h1 := hlit s hs
  have h2 := cut_used (least := 257) h1
  exact ⟨h2.1, by unfold manyM; rw [h2.2]; exact h1⟩
 have hfl : ∀ s, (wayC (toks bs 0)).getD s 0 ≠ 0 → s < (farM bs).length ∧ (farM bs).getD s 0 ≠ 0 := fun s hs => by
  have h1 := hway s hs
  have h2 := cut_used (least := 1) h1
  exact ⟨h2.1, by unfold farM; rw [h2.2]; exact h1⟩
 have hz : ∀ (l : List Nat) s, l.getD s 0 ≠ 0 → (toZ l).getD s 0 ≠ 0 := fun l s h => by rw [toZ_getD]; omega
 have hu : ∀ t ∈ toks bs 0, Used (toZ (manyM bs)) (toZ (farM bs)) t := fun t ht => by
  have h1 := huse t ht
  unfold Used
  split
  ·
   rename_i h0
   rw [if_pos h0] at h1
   exact hz _ _ (hml _ h1).2
  ·
   rename_i h0
   rw [if_neg h0] at h1
   exact ⟨hz _ _ (hml _ h1.1).2, hz _ _ (hfl _ h1.2).2⟩
 have htok : toksB (toZ (litsM bs)) (toZ (waysM bs)) (toks bs 0) = toksB (toZ (manyM bs)) (toZ (farM bs)) (toks bs 0) := by
  have hc : ∀ t ∈ toks bs 0, tokB (toZ (litsM bs)) (toZ (waysM bs)) t = tokB (toZ (manyM bs)) (toZ (farM bs)) t := fun t ht => by
   have h1 := huse t ht
   unfold tokB
   split
   ·
    rename_i h0
    rw [if_pos h0] at h1
    exact cbits_cut _ 257 _ (hml _ h1).1
   ·
    rename_i h0
    rw [if_neg h0] at h1
    unfold lenB wayB
    have e1 : cbits (toZ (litsM bs)) (257 + lenS t.2.1) = cbits (toZ (manyM bs)) (257 + lenS t.2.1) := cbits_cut _ 257 _ (hml _ h1.1).1
    have e2 : cbits (toZ (waysM bs)) (wayS t.2.2) = cbits (toZ (farM bs)) (wayS t.2.2) := cbits_cut _ 1 _ (hfl _ h1.2).1
    rw [e1, e2]
  have e3 : cbits (toZ (litsM bs)) 256 = cbits (toZ (manyM bs)) 256 := cbits_cut _ 257 _ (hml _ h256).1
  unfold toksB
  rw [e3]
  congr 1
  exact flatMap_same _ hc
 have h256m := hz _ _ (hml _ h256).2
 have hxb : ∀ i, (manyM bs ++ farM bs).getD i 0 ≤ 15 := append_getD _ _ _ (cutL_getD _ _ _ hlo.most) (cutL_getD _ _ _ hwo.most)
 have hw19 : 4 ≤ (writM bs).length ∧ (writM bs).length ≤ 19 := by
  have := cutL_bound (ordL (thirdM bs)) 4 (by rw [ordL_len]; omega)
  rw [ordL_len] at this
  exact this
 have hwm : writM bs = (orderT.take (writM bs).length).map (fun s => (thirdM bs).getD s 0) := by
  have e : writM bs = (ordL (thirdM bs)).take (writM bs).length := by
   have h1 := cutN_le (ordL (thirdM bs)) 4 (ordL (thirdM bs)).length
   have h2 : (writM bs).length = cutN (ordL (thirdM bs)) 4 (ordL (thirdM bs)).length := cutL_len _ _
   rw [h2]
   rfl
  rw [List.map_take]
  exact e
 have hxl : (manyM bs ++ farM bs).length = (manyM bs).length + (farM bs).length := List.length_append
 have h := one_block (bs := bs) (c1 := toZ (manyM bs)) (c2 := toZ (farM bs)) (H := bitsL ((manyM bs).length - 257) 5 ++ bitsL ((farM bs).length - 1) 5 ++ bitsL ((writM bs).length - 4) 4 ++ (writM bs).flatMap (fun n => bitsL n 3) ++ (listM bs).flatMap (sayB (toZ (thirdM bs)))) (k := 2) hl hB hmr hfr h256m hu (.inr ⟨rfl, fun C => ?_⟩)
 ·
  have e : bitsL 1 1 ++ bitsL 2 2 ++ (bitsL ((manyM bs).length - 257) 5 ++ bitsL ((farM bs).length - 1) 5 ++ bitsL ((writM bs).length - 4) 4 ++ (writM bs).flatMap (fun n => bitsL n 3) ++ (listM bs).flatMap (sayB (toZ (thirdM bs)))) ++ toksB (toZ (manyM bs)) (toZ (farM bs)) (toks bs 0) = dynB bs := by
   unfold dynB
   rw [htok]
   simp only [List.append_assoc]
  rw [e] at h
  exact h
 ·
  generalize hTC : toksB (toZ (manyM bs)) (toZ (farM bs)) (toks bs 0) ++ C = TC
  rw [List.append_assoc _ _ C, hTC]
  generalize hLd : bitsL 1 1 ++ bitsL 2 2 ++ (bitsL ((manyM bs).length - 257) 5 ++ bitsL ((farM bs).length - 1) 5 ++ bitsL ((writM bs).length - 4) 4 ++ (writM bs).flatMap (fun n => bitsL n 3) ++ (listM bs).flatMap (sayB (toZ (thirdM bs)))) ++ TC = L
  have ht1 := takeF_at (L := L) (A := bitsL 1 1 ++ bitsL 2 2) (B := bitsL ((manyM bs).length - 257) 5) (n := 5) (p := 3) ⟨_, by rw [← hLd]; simp only [List.append_assoc]; rfl⟩ (by rw [bitsL_len]) (by simp [bitsL_len])
  have ht2 := takeF_at (L := L) (A := bitsL 1 1 ++ bitsL 2 2 ++ bitsL ((manyM bs).length - 257) 5) (B := bitsL ((farM bs).length - 1) 5) (n := 5) (p := 8) ⟨_, by rw [← hLd]; simp only [List.append_assoc]; rfl⟩ (by rw [bitsL_len]) (by simp [bitsL_len])
  have ht3 := takeF_at (L := L) (A := bitsL 1 1 ++ bitsL 2 2 ++ bitsL ((manyM bs).length - 257) 5 ++ bitsL ((farM bs).length - 1) 5) (B := bitsL ((writM bs).length - 4) 4) (n := 4) (p := 13) ⟨_, by rw [← hLd]; simp only [List.append_assoc]; rfl⟩ (by rw [bitsL_len]) (by simp [bitsL_len])
  rw [num_bitsL 5 _ (by omega)] at ht1 ht2
  rw [num_bitsL 4 _ (by omega)] at ht3
  have hth := third_back (L := L) (v := fun s => (thirdM bs).getD s 0) h3o.most (orderT.take (writM bs).length) (bitsL 1 1 ++ bitsL 2 2 ++ bitsL ((manyM bs).length - 257) 5 ++ bitsL ((farM bs).length - 1) 5 ++ bitsL ((writM bs).length - 4) 4) ((listM bs).flatMap (sayB (toZ (thirdM bs))) ++ TC) 17 (List.replicate 19 0) (by rw [← hwm, ← hLd]; simp only [List.append_assoc]) (by simp [bitsL_len])
  rw [sets_third h3l (writM bs).length rfl] at hth
  have htl : (orderT.take (writM bs).length).length = (writM bs).length := by rw [List.length_take, ordT_len]; omega
  rw [htl] at hth
  have hfl3 := flat_three (writM bs)
  have hle : listM bs = sayM (manyM bs ++ farM bs) 0 := rfl
  have hmo := mores_back (L := L) (third := toZ (thirdM bs)) (x := manyM bs ++ farM bs) h3r (by rw [toZ_len]; exact h3l) hxb (manyM bs ++ farM bs).length 0 (L.length + 1) (bitsL 1 1 ++ bitsL 2 2 ++ bitsL ((manyM bs).length - 257) 5 ++ bitsL ((farM bs).length - 1) 5 ++ bitsL ((writM bs).length - 4) 4 ++ (writM bs).flatMap (fun n => bitsL n 3)) TC (17 + 3 * (writM bs).length) (by omega) (by omega) ?_ (fun t ht => hz _ _ (hthi _ (said_counts hLok t ht))) (by rw [← hLd, ← hle]; simp only [List.append_assoc]) (by simp only [List.length_append, bitsL_len, hfl3])
  ·
   have hs0 : toZ ((manyM bs ++ farM bs).take 0) = [] := rfl
   rw [hs0] at hmo
   have hH : 3 + (bitsL ((manyM bs).length - 257) 5 ++ bitsL ((farM bs).length - 1) 5 ++ bitsL ((writM bs).length - 4) 4 ++ (writM bs).flatMap (fun n => bitsL n 3) ++ (listM bs).flatMap (sayB (toZ (thirdM bs)))).length = 17 + 3 * (writM bs).length + ((sayM (manyM bs ++ farM bs) 0).flatMap (sayB (toZ (thirdM bs)))).length := by
    have e : listM bs = sayM (manyM bs ++ farM bs) 0 := rfl
    rw [e]
    simp only [List.length_append, bitsL_len, hfl3]
    omega
   rw [hH]
   unfold dynF
   rw [ht1, bnd_k]
   dsimp only
   rw [ht2, bnd_k]
   dsimp only
   rw [ht3, bnd_k]
   dsimp only
   rw [if_neg (fun hn => hn (by omega)), show 4 + ((writM bs).length - 4) = (writM bs).length by omega, show 257 + ((manyM bs).length - 257) = (manyM bs).length by omega, show 1 + ((farM bs).length - 1) = (farM bs).length by omega, hth, bnd_k]
   unfold dynG
   dsimp only
   rw [if_neg (fun hn => hn h3r.2), ← hxl, hmo, bnd_k]
   have hml2 : (toZ (manyM bs)).length = (manyM bs).length := toZ_len _
   have htk : (toZ (manyM bs ++ farM bs)).take (manyM bs).length = toZ (manyM bs) := by rw [toZ_append, ← hml2, List.take_left]
   have hdr : (toZ (manyM bs ++ farM bs)).drop (manyM bs).length = toZ (farM bs) := by rw [toZ_append, ← hml2, List.drop_left]
   have hpos : 0 < (toZ (manyM bs ++ farM bs)).getD 256 0 := by
    rw [toZ_append, List.getD_eq_getElem?_getD, List.getElem?_append_left (by rw [hml2]; omega), ← List.getD_eq_getElem?_getD]
    rw [toZ_getD] at h256m ⊢
    omega
   unfold dynH
   dsimp only
   rw [if_neg (fun hn => hn hpos), htk, hdr, if_neg (fun hn => hn hmr.2), if_neg (fun hn => hn hfr.2)]
  ·
   have h5 := say_few h3r (listM bs) (fun t ht => hz _ _ (hthi _ (said_counts hLok t ht)))
   rw [← hle, ← hLd]
   simp only [List.length_append]
   omega
theorem storO_enc : ∀ n (bs : List Nat), bs.length ≤ n → ∃ r last, storO bs = encAll r last ∧ r.flatten ++ last = bs ∧ (∀ x ∈ r, x.length < 65536) ∧ last.length < 65536
 | n, bs, h => by
  rw [storO_eq]
  by_cases h1 : 65535 < bs.length
  ·
   rw [if_pos h1]
   obtain ⟨r, last, h2, h3, h4, h5⟩ := storO_enc (n - 1) (bs.drop 65535) (by rw [List.length_drop]; omega)
   refine ⟨bs.take 65535 :: r, last, by rw [h2]; rfl, by rw [List.flatten_cons, List.append_assoc, h3, List.take_append_drop], fun x hx => ?_, h5⟩
   rcases List.mem_cons.1 hx with rfl | hx
   ·
    rw [List.length_take]; omega
   ·
    exact h4 x hx
  ·
   rw [if_neg h1]
   exact ⟨[], bs, rfl, rfl, by simp, by omega⟩
 termination_by n => n
 decreasing_by omega
theorem stor_back (bs : List Nat) : inflF (storO bs) bs.length = .ok (bs, (storO bs).length) := by
 obtain ⟨r, last, h1, h2, h3, h4⟩ := storO_enc _ bs (Nat.le_refl _)
 have h := infl_enc h3 h4
 rw [h2, ← h1] at h
 exact h
theorem best_back (bs : List Nat) (hl : bs.length ≤ 32768) (hB : ∀ b ∈ bs, b < 256) : inflF (bestK bs 2) bs.length = .ok (bs, (bestK bs 2).length) ∧ (bestK bs 2).length ≤ (storO bs).length ∧ (bestK bs 2).length ≤ (pack (fixM bs)).length ∧ (bestK bs 2).length ≤ (pack (dynB bs)).length := by
 rw [best2]
 by_cases h2 : (pack (fixM bs)).length < (storO bs).length
 ·
  rw [if_pos h2]
  by_cases h1 : (pack (dynB bs)).length < (pack (fixM bs)).length
  ·
   rw [if_pos h1]
   exact ⟨dyn_back bs hl hB, by omega, by omega, by omega⟩
  ·
   rw [if_neg h1]
   exact ⟨fix_back bs hl hB, by omega, by omega, by omega⟩
 ·
  rw [if_neg h2]
  by_cases h1 : (pack (dynB bs)).length < (storO bs).length
  ·
   rw [if_pos h1]
   exact ⟨dyn_back bs hl hB, by omega, by omega, by omega⟩
  ·
   rw [if_neg h1]
   exact ⟨stor_back bs, by omega, by omega, by omega⟩
end Go.Proofs.Ytnmieihcjjiccaa
namespace Go.Proofs.Ytnmieihcjjiccaa
open Go.RowKit
theorem dynB_len (bs : List Nat) (hl : bs.length ≤ 32768) (hB : ∀ b ∈ bs, b < 256) : (dynB bs).length ≤ 2000000 := by
 have hok := toks_ok bs 0 hl hB
 obtain ⟨hlo, _⟩ := lenM_read (cs := litC (toks bs 0)) (m := 15) (by rw [litC_len]; omega) (by omega) (by omega) (by rw [litC_len]; decide)
 obtain ⟨hwo, _⟩ := lenM_read (cs := wayC (toks bs 0)) (m := 15) (by rw [wayC_len]; omega) (by omega) (by omega) (by rw [wayC_len]; decide)
 obtain ⟨h3o, _⟩ := lenM_read (cs := timesC (listM bs)) (m := 7) (by rw [timesC_len]; omega) (by omega) (by omega) (by rw [timesC_len]; decide)
 have hlo : LenOk (litC (toks bs 0)) (litsM bs) 15 := hlo
 have hwo : LenOk (wayC (toks bs 0)) (waysM bs) 15 := hwo
 have h3o : LenOk (timesC (listM bs)) (thirdM bs) 7 := h3o
 obtain ⟨hL1, hL2, _, _, _, _, hLok, hLl⟩ := dyn_bounds bs hlo hwo
 have h3l : (thirdM bs).length = 19 := h3o.len.trans (timesC_len _)
 have h1 := toks_flat hlo.ok hwo.ok (by rw [toZ_len]; omega) (by rw [toZ_len]; omega) _ hok
 have h2 := toks_len0 bs
 have h3 := cbits_len hlo.ok.1 hlo.ok.2 (show 256 < (toZ (litsM bs)).length by rw [toZ_len]; omega)
 have h4 := say_flat h3o.ok (by rw [toZ_len, h3l]; omega) (listM bs) hLok
 have h5 := flat_three (writM bs)
 have h6 := (cutL_bound (ordL (thirdM bs)) 4 (by rw [ordL_len]; omega)).2
 rw [ordL_len] at h6
 have h7 : (writM bs).length ≤ 19 := h6
 unfold dynB toksB
 simp only [List.length_append, bitsL_len]
 omega
set_option maxRecDepth 100000 in
theorem back13_spec (X B : Option Addr) (cx cb : Nat) (x bs : List Nat) (w : World) (hxl : x.length ≤ 1000000) (hbl : bs.length ≤ 1000000) (hx : ∀ b ∈ x, b < 256) (hb : ∀ b ∈ bs, b < 256) (hrx : Rd w 1 X x.length (NB x)) (hrb : Rd w 1 B bs.length (NB bs)) (hF : inflF x bs.length = .ok (bs, x.length)) :
  Calls Try.prog 16 #[.slice X x.length cx, .slice B bs.length cb] w fun e w' => e = .returned (.bool true) ∧ Frm [] w w' := by
 refine VC.calls (nt := 31) (res := #[.tmp 4]) Try.func16 rfl Try.ntmps16 Try.results16 rfl ?_
 refine jS (jR (jA ?_))
 refine jO (jN (jv2 0 1 ?_))
 refine jS (jR (jM ?_))
 refine jM ?_
 refine Ops.r (Run.lenS rfl Try.underlying22) rfl ?_
 refine Ops.cl (Enters.fn (evs.cons rfl (evs.cons rfl evs.nil)) Try.call48) (infl_spec X cx x ((bs.length : Nat) : Int) w (by omega) hxl hx hrx) rfl ?_
 rintro e w2 ⟨hf2, he⟩
 rw [hF] at he
 obtain ⟨A2, c2, rfl, ho2, _⟩ := he
 refine ⟨_, rfl, ?_⟩
 have hst := rd_str ho2.rd hb
 have hsb := rd_str (hrb.frm hf2 (by simp)) hb
 refine jM ?_
 refine Ops.r (Run.extract rfl rfl) rfl ?_
 refine Ops.r (Run.extract rfl rfl) rfl ?_
 refine Ops.r (Run.extract rfl rfl) rfl ?_
 refine jA ?_
 refine jA ?_
 refine jA ?_
 refine jO (jN (jv5 0 1 5 6 7 ?_))
 refine jS (jR (jM ?_))
 refine Ops.r (Run.strOf rfl Try.underlying22 Try.underlying5 Try.underlying9 hst) rfl ?_
 refine jM ?_
 refine Ops.r (Run.strOf rfl Try.underlying22 Try.underlying5 Try.underlying9 hsb) rfl ?_
 refine Ops.r (Run.eqlStr rfl rfl) rfl ?_
 refine jM ?_
 refine Ops.rg rfl (by first | rfl | (simp; done) | (simp [strB]; done)) (Run.mv rfl) rfl ?_
 refine Ops.rg rfl (by first | rfl | (simp; done) | (simp [strB]; done)) (Run.mv rfl) rfl ?_
 refine Ops.rg rfl (by first | rfl | (simp; done) | (simp [strB]; done)) (Run.lenS rfl Try.underlying22) rfl ?_
 refine Ops.rg rfl (by first | rfl | (simp; done) | (simp [strB]; done)) (Run.bin rfl rfl (Bin.eqlN _ _)) rfl ?_
 refine Ops.r (Run.pickT rfl rfl (by first | rfl | (simp; done) | (simp [strB]; done))) rfl ?_
 refine jM ?_
 refine Ops.rg rfl (by first | rfl | (simp; done) | (simp [strB]; done)) (Run.mv rfl) rfl ?_
 refine Ops.rg rfl (by first | rfl | (simp; done) | (simp [strB]; done)) (Run.bin rfl rfl (Bin.eqlN _ 0)) rfl ?_
 refine Ops.r (Run.pickT rfl rfl (by first | rfl | (simp; done) | (simp [strB]; done))) rfl ?_
 refine jA ?_
 refine jO (jN (jv1 4 ?_))
 refine jT ?_
 refine end1 rfl ?_
 exact ⟨rfl, hf2⟩
set_option maxRecDepth 100000 in
theorem back_law (B0 : Option Addr) (n0 c0 : Nat) (l0 : List Nat) (w : World) (hn0 : l0.length = n0) (hc0 : n0 ≤ c0) (hb0 : ∀ b ∈ l0, b < 256) (hr0 : Rd w 1 B0 n0 (NB l0)) :
  Calls Try.prog 5 #[.slice B0 n0 c0] w fun e w' => e = .returned (.bool true) ∧ Frm [] w w' := by
 subst hn0
 refine VC.calls (nt := 111) (res := #[.tmp 2]) Try.func5 rfl Try.ntmps5 Try.results5 rfl ?_
 refine jS (jR (jA ?_))
 refine jO (jN (jv1 0 ?_))
 refine jS (jR (jM ?_))
 refine Ops.cl (Enters.fn (evs.cons rfl evs.nil) Try.call14) (few11_spec B0 c0 l0 w hc0 hb0 hr0) rfl ?_
 rintro e _ ⟨⟨B, c, bs, rfl, hc, hr, hB, hl⟩, rfl⟩
 refine ⟨_, rfl, ?_⟩
 refine jA ?_
 refine jO (jN (jv1 0 ?_))
 refine jS (jR (jM ?_))
 refine Ops.cl (Enters.fn (evs.cons rfl evs.nil) Try.call7) (dfix_any B c bs w hl hc hB hr) rfl ?_
 rintro e w1 ⟨A1, d1, x, k, rfl, hrx, hdx, hxb, hf1, hK1⟩
 refine ⟨_, rfl, ?_⟩
 refine jM ?_
 refine Ops.r (Run.extract rfl rfl) rfl ?_
 refine Ops.r (Run.extract rfl rfl) rfl ?_
 refine jA ?_
 refine jA ?_
 refine jO (jN (jv3 0 3 4 ?_))
 refine jS (jR (jM ?_))
 refine Ops.cl (Enters.fn (evs.cons rfl evs.nil) Try.call8) (ddyn_any B c bs w1 hl hc hB (hr.frm hf1 (by simp))) rfl ?_
 rintro e w2 ⟨A2, d2, y, m, rfl, hry, hdy, hyb, hf2, hK2⟩
 refine ⟨_, rfl, ?_⟩
 have hrx := hrx.frm hf2 (by simp)
 have K := hf1.trans hf2 (by simp)
 refine jM ?_
 refine Ops.r (Run.extract rfl rfl) rfl ?_
 refine Ops.r (Run.extract rfl rfl) rfl ?_
 refine jA ?_
 refine jA ?_
 refine jO (jN (jv5 0 3 4 5 6 ?_))
 refine jS (jR (jM ?_))
 refine Ops.cl (Enters.fn (evs.cons rfl evs.nil) Try.call12) (defl_any B c bs w2 hl hc hB (hr.frm K (by simp))) rfl ?_
 rintro e w3 ⟨A3, d3, z, j, rfl, hrz, hdz, hzb, hf3, hK3⟩
 refine ⟨_, rfl, ?_⟩
 have hrx := hrx.frm hf3 (by simp)
 have hry := hry.frm hf3 (by simp)
 have K := K.trans hf3 (by simp)
 refine jM ?_
 refine Ops.r (Run.extract rfl rfl) rfl ?_
 refine Ops.r (Run.extract rfl rfl) rfl ?_
 refine jA ?_
 refine jA ?_
 refine jO (jN (jv7 0 3 4 5 6 7 8 ?_))
 refine jS (jR (jM ?_))
 refine Ops.cl (Enters.fn (evs.cons rfl evs.nil) Try.call15) (stor_spec B c bs w3 (by omega) hc hB (hr.frm K (by simp))) rfl ?_
 rintro e w4 ⟨A4, d4, rfl, ho4, hf4, _⟩
 refine ⟨_, rfl, ?_⟩
 have hrx := hrx.frm hf4 (by simp)
 have hry := hry.frm hf4 (by simp)
 have hrz := hrz.frm hf4 (by simp)
 have K := K.trans hf4 (by simp)
 have hsl := storO_len _ bs (Nat.le_refl _)
 refine jA ?_
 refine jO (jN (jv8 0 3 4 5 6 7 8 9 ?_))
 refine jS (jS (jR (jM ?_)))
 refine jM ?_
 refine Ops.cl (Enters.fn (evs.cons rfl (evs.cons rfl evs.nil)) Try.call16) (back13_spec A4 B d4 c (storO bs) bs w4 (by omega) (by omega) (storO_lt _ bs (Nat.le_refl _) hB) hB ho4.rd (hr.frm K (by simp)) (stor_back bs)) rfl ?_
 rintro e w5 ⟨rfl, hf5⟩
 refine ⟨_, rfl, ?_⟩
 have hrx := hrx.frm hf5 (by simp)
 have hry := hry.frm hf5 (by simp)
 have hrz := hrz.frm hf5 (by simp)
 have K := K.trans hf5 (by simp)
 refine Ops.r (Run.not rfl) rfl ?_
 refine jO (jN (jv9 0 3 4 5 6 7 8 9 32 ?_))
 refine VC.condF rfl (rfl) ?_
 refine jQ (jN (jv8 0 3 4 5 6 7 8 9 ?_))
 refine jS (jS (jR (jM ?_)))
 refine Ops.r (Run.bin rfl rfl (Bin.neqN _ 0)) rfl ?_
 refine jO (jN (jv9 0 3 4 5 6 7 8 9 34 ?_))
 refine VC.condD rfl (fun hc2 => ?_) (fun hc2 => ?_)
 ·
  obtain ⟨hbig, rfl, rfl⟩ : 65536 < bs.length ∧ x = [] ∧ k = 5 := by
   rcases hK1 with ⟨_, _, h⟩ | h
   ·
    omega
   ·
    exact h
  obtain ⟨_, rfl, rfl⟩ : 65536 < bs.length ∧ y = [] ∧ m = 5 := by
   rcases hK2 with ⟨h, _⟩ | h
   ·
    omega
   ·
    exact h
  obtain ⟨_, rfl, rfl⟩ : 65536 < bs.length ∧ z = [] ∧ j = 5 := by
   rcases hK3 with ⟨h, _⟩ | h
   ·
    omega
   ·
    exact h
  have hbd : decide (65536 < bs.length) = true := decide_eq_true hbig
  refine jS (jR (jM ?_))
  refine Ops.r (Run.lenS rfl Try.underlying22) rfl ?_
  refine Ops.r (Run.bin rfl rfl (Bin.gtrN _ 65536)) rfl ?_
  refine jM ?_
  refine Ops.rg rfl (by first | rfl | assumption | (simp; done)) (Run.mv rfl) rfl ?_
  refine Ops.rg rfl (by first | rfl | assumption | (simp; done)) (Run.mv rfl) rfl ?_
  refine Ops.rg rfl (by first | rfl | assumption | (simp; done)) (Run.bin rfl rfl (Bin.eqlN _ _)) rfl ?_
  refine Ops.r (Run.pickT rfl rfl (by first | rfl | assumption | (simp; done))) rfl ?_
  refine jM ?_
  refine Ops.rg rfl (by first | rfl | assumption | (simp; done)) (Run.mv rfl) rfl ?_
  refine Ops.rg rfl (by first | rfl | assumption | (simp; done)) (Run.mv rfl) rfl ?_
  refine Ops.rg rfl (by first | rfl | assumption | (simp; done)) (Run.bin rfl rfl (Bin.eqlN _ _)) rfl ?_
  refine Ops.r (Run.pickT rfl rfl (by first | rfl | assumption | (simp; done))) rfl ?_
  refine jM ?_
  refine Ops.rg rfl (by first | rfl | assumption | (simp; done)) (Run.mv rfl) rfl ?_
  refine Ops.rg rfl (by first | rfl | assumption | (simp; done)) (Run.lenS rfl Try.underlying22) rfl ?_
  refine Ops.rg rfl (by first | rfl | assumption | (simp; done)) (Run.bin rfl rfl (Bin.eqlN _ 0)) rfl ?_
  refine Ops.r (Run.pickT rfl rfl (by first | rfl | assumption | (simp; done))) rfl ?_
  refine jM ?_
  refine Ops.rg rfl (by first | rfl | assumption | (simp; done)) (Run.mv rfl) rfl ?_
  refine Ops.rg rfl (by first | rfl | assumption | (simp; done)) (Run.lenS rfl Try.underlying22) rfl ?_
  refine Ops.rg rfl (by first | rfl | assumption | (simp; done)) (Run.bin rfl rfl (Bin.eqlN _ 0)) rfl ?_
  refine Ops.r (Run.pickT rfl rfl (by first | rfl | assumption | (simp; done))) rfl ?_
  refine jM ?_
  refine Ops.rg rfl (by first | rfl | assumption | (simp; done)) (Run.mv rfl) rfl ?_
  refine Ops.rg rfl (by first | rfl | assumption | (simp; done)) (Run.lenS rfl Try.underlying22) rfl ?_
  refine Ops.rg rfl (by first | rfl | assumption | (simp; done)) (Run.bin rfl rfl (Bin.eqlN _ 0)) rfl ?_
  refine Ops.r (Run.pickT rfl rfl (by first | rfl | assumption | (simp; done))) rfl ?_
  refine jM ?_
  refine Ops.clg rfl (by first | rfl | assumption | (simp; done)) (Enters.fn evs.nil Try.call9) (awake13_spec _) rfl ?_
  rintro e w8 ⟨rfl, hf8⟩
  refine ⟨_, rfl, ?_⟩
  have K := K.trans hf8 (by simp)
  refine Ops.r (Run.pickT rfl rfl (by first | rfl | assumption | (simp; done))) rfl ?_
  refine jA ?_
  refine jO (jN (jv1 2 ?_))
  refine jT ?_
  refine thenQ_r (end1 rfl ?_)
  exact ⟨rfl, K⟩
 ·
  obtain ⟨hl7, rfl, rfl⟩ : bs.length ≤ 700 ∧ x = pack (fixM bs) ∧ k = 0 := by
   rcases hK1 with h | ⟨_, _, h⟩
   ·
    exact h
   ·
    omega
  obtain ⟨_, rfl, rfl⟩ : bs.length ≤ 700 ∧ y = pack (dynB bs) ∧ m = 0 := by
   rcases hK2 with h | ⟨h, _⟩
   ·
    exact h
   ·
    omega
  obtain ⟨_, rfl, rfl⟩ : bs.length ≤ 700 ∧ z = bestK bs 2 ∧ j = 0 := by
   rcases hK3 with h | ⟨h, _⟩
   ·
    exact h
   ·
    omega
  obtain ⟨hbb, hb1, hb2, hb3⟩ := best_back bs (by omega) hB
  have hfl := fixM_len bs (by omega) hB
  have hdl := dynB_len bs (by omega) hB
  have hpl1 : (pack (fixM bs)).length ≤ 1000000 := by rw [pack_len]; omega
  have hpl2 : (pack (dynB bs)).length ≤ 1000000 := by rw [pack_len]; omega
  have hd1 : decide ((bestK bs 2).length ≤ (storO bs).length) = true := decide_eq_true hb1
  have hd2 : decide ((bestK bs 2).length ≤ (pack (fixM bs)).length) = true := decide_eq_true hb2
  have hd3 : decide ((bestK bs 2).length ≤ (pack (dynB bs)).length) = true := decide_eq_true hb3
  refine jQ (jN (jv7 0 3 5 6 7 8 9 ?_))
  refine jS (jR (jM ?_))
  refine Ops.r (Run.bin rfl rfl (Bin.eqlN _ 0)) rfl ?_
  refine jM ?_
  refine Ops.rg rfl (by first | rfl | assumption | (simp; done)) (Run.mv rfl) rfl ?_
  refine Ops.rg rfl (by first | rfl | assumption | (simp; done)) (Run.bin rfl rfl (Bin.eqlN _ 0)) rfl ?_
  refine Ops.r (Run.pickT rfl rfl (by first | rfl | assumption | (simp; done))) rfl ?_
  refine jM ?_
  refine Ops.rg rfl (by first | rfl | assumption | (simp; done)) (Run.mv rfl) rfl ?_
  refine Ops.rg rfl (by first | rfl | assumption | (simp; done)) (Run.mv rfl) rfl ?_
  refine Ops.clg rfl (by first | rfl | assumption | (simp; done)) (Enters.fn (evs.cons rfl (evs.cons rfl evs.nil)) Try.call16) (back13_spec A1 B d1 c (pack (fixM bs)) bs w5 hpl1 (by omega) hxb hB hrx (hr.frm K (by simp)) (fix_back bs (by omega) hB)) rfl ?_
  rintro e w6 ⟨rfl, hf6⟩
  refine ⟨_, rfl, ?_⟩
  have hry := hry.frm hf6 (by simp)
  have hrz := hrz.frm hf6 (by simp)
  have K := K.trans hf6 (by simp)
  refine Ops.r (Run.pickT rfl rfl (by first | rfl | assumption | (simp; done))) rfl ?_
  refine jM ?_
  refine Ops.rg rfl (by first | rfl | assumption | (simp; done)) (Run.mv rfl) rfl ?_
  refine Ops.rg rfl (by first | rfl | assumption | (simp; done)) (Run.mv rfl) rfl ?_
  refine Ops.clg rfl (by first | rfl | assumption | (simp; done)) (Enters.fn (evs.cons rfl (evs.cons rfl evs.nil)) Try.call16) (back13_spec A2 B d2 c (pack (dynB bs)) bs w6 hpl2 (by omega) hyb hB hry (hr.frm K (by simp)) (dyn_back bs (by omega) hB)) rfl ?_
  rintro e w7 ⟨rfl, hf7⟩
  refine ⟨_, rfl, ?_⟩
  have hrz := hrz.frm hf7 (by simp)
  have K := K.trans hf7 (by simp)
  refine Ops.r (Run.pickT rfl rfl (by first | rfl | assumption | (simp; done))) rfl ?_
  refine jM ?_
  refine Ops.rg rfl (by first | rfl | assumption | (simp; done)) (Run.mv rfl) rfl ?_
  refine Ops.rg rfl (by first | rfl | assumption | (simp; done)) (Run.mv rfl) rfl ?_
  refine Ops.clg rfl (by first | rfl | assumption | (simp; done)) (Enters.fn (evs.cons rfl (evs.cons rfl evs.nil)) Try.call16) (back13_spec A3 B d3 c (bestK bs 2) bs w7 (by omega) (by omega) hzb hB hrz (hr.frm K (by simp)) hbb) rfl ?_
  rintro e w9 ⟨rfl, hf9⟩
  refine ⟨_, rfl, ?_⟩
  have K := K.trans hf9 (by simp)
  refine Ops.r (Run.pickT rfl rfl (by first | rfl | assumption | (simp; done))) rfl ?_
  refine jM ?_
  refine Ops.rg rfl (by first | rfl | assumption | (simp; done)) (Run.mv rfl) rfl ?_
  refine Ops.rg rfl (by first | rfl | assumption | (simp; done)) (Run.lenS rfl Try.underlying22) rfl ?_
  refine Ops.rg rfl (by first | rfl | assumption | (simp; done)) (Run.mv rfl) rfl ?_
  refine Ops.rg rfl (by first | rfl | assumption | (simp; done)) (Run.lenS rfl Try.underlying22) rfl ?_
  refine Ops.rg rfl (by first | rfl | assumption | (simp; done)) (Run.bin rfl rfl (Bin.leqN _ _)) rfl ?_
  refine Ops.r (Run.pickT rfl rfl (by first | rfl | assumption | (simp; done))) rfl ?_
  refine jM ?_
  refine Ops.rg rfl (by first | rfl | assumption | (simp; done)) (Run.mv rfl) rfl ?_
  refine Ops.rg rfl (by first | rfl | assumption | (simp; done)) (Run.lenS rfl Try.underlying22) rfl ?_
  refine Ops.rg rfl (by first | rfl | assumption | (simp; done)) (Run.mv rfl) rfl ?_
  refine Ops.rg rfl (by first | rfl | assumption | (simp; done)) (Run.lenS rfl Try.underlying22) rfl ?_
  refine Ops.rg rfl (by first | rfl | assumption | (simp; done)) (Run.bin rfl rfl (Bin.leqN _ _)) rfl ?_
  refine Ops.r (Run.pickT rfl rfl (by first | rfl | assumption | (simp; done))) rfl ?_
  refine jM ?_
  refine Ops.rg rfl (by first | rfl | assumption | (simp; done)) (Run.mv rfl) rfl ?_
  refine Ops.rg rfl (by first | rfl | assumption | (simp; done)) (Run.lenS rfl Try.underlying22) rfl ?_
  refine Ops.rg rfl (by first | rfl | assumption | (simp; done)) (Run.mv rfl) rfl ?_
  refine Ops.rg rfl (by first | rfl | assumption | (simp; done)) (Run.lenS rfl Try.underlying22) rfl ?_
  refine Ops.rg rfl (by first | rfl | assumption | (simp; done)) (Run.bin rfl rfl (Bin.leqN _ _)) rfl ?_
  refine Ops.r (Run.pickT rfl rfl (by first | rfl | assumption | (simp; done))) rfl ?_
  refine jM ?_
  refine Ops.clg rfl (by first | rfl | assumption | (simp; done)) (Enters.fn evs.nil Try.call9) (awake13_spec _) rfl ?_
  rintro e w8 ⟨rfl, hf8⟩
  refine ⟨_, rfl, ?_⟩
  have K := K.trans hf8 (by simp)
  refine Ops.r (Run.pickT rfl rfl (by first | rfl | assumption | (simp; done))) rfl ?_
  refine jA ?_
  refine jO (jN (jv1 2 ?_))
  refine jT ?_
  refine end1 rfl ?_
  exact ⟨rfl, K⟩
end Go.Proofs.Ytnmieihcjjiccaa
