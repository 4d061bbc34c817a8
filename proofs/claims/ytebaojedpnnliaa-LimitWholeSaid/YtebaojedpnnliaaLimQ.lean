/-
  The document's package-merge on plain lists: the least coin, insertion, and that insertion is merging.
-/
import Derived.Test.YtebaojedpnnliaaLimA
namespace Go.Proofs.Ytebaojedpnnliaa
open Go.RowKit

/-! ### choosing the least coin again and again -/
def kyC (cs : List Nat) (k : Nat) : Nat := cs.getD k 0 * 1024 + k
def Rem (cs js : List Nat) (k : Nat) : Prop := 0 < cs.getD k 0 ∧ k ∉ js
def BestOk (cs js : List Nat) (i : Nat) : Option Nat → Prop
  | none => ∀ k, k < i → ¬ Rem cs js k
  | some b => b < i ∧ Rem cs js b ∧ ∀ k, k < i → Rem cs js k → kyC cs b ≤ kyC cs k
def bestI : Option Nat → Int
  | none => -1
  | some k => (k : Int)
set_option maxRecDepth 100000 in
theorem kyC_lt {cs : List Nat} {b k i : Nat} (h2 : kyC cs b ≤ kyC cs k) (h3 : cs.getD i 0 < cs.getD b 0) (hi : i < 1024) : kyC cs i ≤ kyC cs k := by
  unfold kyC at *
  omega
theorem best_yes {cs js : List Nat} {i : Nat} {b : Option Nat} (h : BestOk cs js i b) (hr : Rem cs js i) (hb : bestI b < 0 ∨ cs.getD i 0 < cs.getD (b.getD 0) 0) (hi : i < 1024) : BestOk cs js (i + 1) (some i) := by
  refine ⟨by omega, hr, fun k hk hrk => ?_⟩
  by_cases e : k = i
  · subst e; exact Nat.le_refl _
  · cases b with
    | none => exact absurd hrk (h k (by omega))
    | some b =>
      have h2 := h.2.2 k (by omega) hrk
      have h3 : cs.getD i 0 < cs.getD b 0 := hb.resolve_left (by simp only [bestI]; omega)
      exact kyC_lt h2 h3 hi
theorem best_no {cs js : List Nat} {i : Nat} {b : Option Nat} (h : BestOk cs js i b) (hn : ¬ (0 < cs.getD i 0 ∧ i ∉ js ∧ (bestI b < 0 ∨ cs.getD i 0 < cs.getD (b.getD 0) 0))) : BestOk cs js (i + 1) b := by
  cases b with
  | none =>
    intro k hk hrk
    by_cases e : k = i
    · subst e; exact hn ⟨hrk.1, hrk.2, .inl (by simp [bestI])⟩
    · exact h k (by omega) hrk
  | some b =>
    refine ⟨by have := h.1; omega, h.2.1, fun k hk hrk => ?_⟩
    by_cases e : k = i
    · subst e
      have h3 : ¬ cs.getD k 0 < cs.getD b 0 := fun h4 => hn ⟨hrk.1, hrk.2, .inr h4⟩
      have := h.1
      unfold kyC
      omega
    · exact h.2.2 k (by omega) hrk
structure JsOk (cs js : List Nat) : Prop where
  nodup : js.Nodup
  mem : ∀ k ∈ js, k < cs.length ∧ 0 < cs.getD k 0
  rise : js.Pairwise fun a b => kyC cs a < kyC cs b
  left : ∀ j ∈ js, ∀ k, k < cs.length → Rem cs js k → kyC cs j < kyC cs k
theorem nodup_len : ∀ (n : Nat) (l : List Nat), l.Nodup → (∀ x ∈ l, x < n) → l.length ≤ n
  | 0, l, _, h => by
    cases l with
    | nil => simp
    | cons a r => exact absurd (h a (by simp)) (by omega)
  | n + 1, l, hd, h => by
    by_cases hn : n ∈ l
    · have h1 := nodup_len n (l.erase n) (hd.erase n) (fun x hx => by
        have h2 := h x (List.mem_of_mem_erase hx)
        have h3 : x ≠ n := fun e => by subst e; exact (hd.not_mem_erase) hx
        omega)
      rw [List.length_erase_of_mem hn] at h1
      omega
    · have := nodup_len n l hd (fun x hx => by
        have h2 := h x hx
        have h3 : x ≠ n := fun e => hn (by rw [← e]; exact hx)
        omega)
      omega
theorem JsOk.len {cs js : List Nat} (h : JsOk cs js) : js.length ≤ cs.length := nodup_len _ _ h.nodup (fun k hk => (h.mem k hk).1)
theorem JsOk.nil (cs : List Nat) : JsOk cs [] := ⟨List.nodup_nil, by simp, .nil, by simp⟩
theorem JsOk.add {cs js : List Nat} {b : Nat} (h : JsOk cs js) (hb : BestOk cs js cs.length (some b)) (hn : cs.length ≤ 320) : JsOk cs (js ++ [b]) := by
  obtain ⟨h1, h2, h3⟩ := hb
  refine ⟨?_, ?_, ?_, ?_⟩
  · rw [List.nodup_append]
    refine ⟨h.nodup, by simp, fun a ha c hc => ?_⟩
    simp at hc
    subst hc
    exact fun e => h2.2 (by rw [← e]; exact ha)
  · intro k hk
    rcases List.mem_append.1 hk with hk | hk
    · exact h.mem k hk
    · simp at hk; subst hk; exact ⟨h1, h2.1⟩
  · rw [List.pairwise_append]
    refine ⟨h.rise, by simp, fun a ha c hc => ?_⟩
    simp at hc
    subst hc
    exact h.left a ha c h1 h2
  · intro j hj k hk hr
    have hr2 : Rem cs js k := ⟨hr.1, fun h4 => hr.2 (List.mem_append_left _ h4)⟩
    rcases List.mem_append.1 hj with hj | hj
    · exact h.left j hj k hk hr2
    · simp at hj
      subst hj
      have h5 := h3 k hk hr2
      have h6 : k ≠ j := fun e => hr.2 (by rw [e]; simp)
      unfold kyC at h5 ⊢
      omega
theorem JsOk.done {cs js : List Nat} (h : JsOk cs js) (hb : BestOk cs js cs.length none) : IsCoins cs (js.map fun k => (cs.getD k 0, [k])) := by
  refine ⟨?_, ?_⟩
  · unfold coinsTo
    refine List.Perm.map _ ((List.perm_ext_iff_of_nodup h.nodup (List.Pairwise.filter _ List.nodup_range)).2 fun k => ?_)
    rw [List.mem_filter, List.mem_range]
    constructor
    · intro hk; exact ⟨(h.mem k hk).1, by simpa using (h.mem k hk).2⟩
    · rintro ⟨h1, h2⟩
      exact Classical.byContradiction fun h3 => hb k h1 ⟨by simpa using h2, h3⟩
  · rw [List.pairwise_map]
    exact h.rise.imp (fun {a b} hab => by simpa [keyA, kyC] using hab)
/-! ### sums of how often symbols are among packages, place by place -/
def cntM (n : Nat) (l1 l2 : List Nat) (k : Nat) : List Nat := (List.range n).map fun j => if j < k then (l1 ++ l2).count j else l1.count j
theorem cntM_zero (n : Nat) (l1 l2 : List Nat) : cntM n l1 l2 0 = cntV n l1 := by simp [cntM, cntV]
theorem cntM_all (n : Nat) (l1 l2 : List Nat) : cntM n l1 l2 n = cntV n (l1 ++ l2) := by
  unfold cntM cntV
  apply List.map_congr_left
  intro j hj
  rw [if_pos (List.mem_range.1 hj)]
theorem cntM_succ (n : Nat) (l1 l2 : List Nat) (k : Nat) (h : k < n) : NI (cntM n l1 l2 (k + 1)) = (NI (cntM n l1 l2 k)).set k (.int .i64 ((l1.count k + l2.count k : Nat) : Int)) := by
  apply List.ext_getElem?
  intro j
  by_cases hj : j = k
  · subst hj
    rw [List.getElem?_set_self (by simp [NI, cntM, h])]
    simp [NI, cntM, h]
  · rw [List.getElem?_set_ne (Ne.symm hj)]
    simp only [NI, cntM, List.getElem?_map]
    by_cases hn : j < n
    · simp [hn, show j < k + 1 ↔ j < k by omega]
    · simp [hn]
theorem cntM_cell {w : World} {e n c k : Nat} {ad : Addr} {l1 l2 : List Nat} (h : Own w e 1 (some ad) n c (NI (cntM n l1 l2 k))) (hk : k < n) : w.cell? (ad.add k) = some (.int .i64 ((l1.count k : Nat) : Int)) := by
  obtain ⟨ad', u, hA, hu, hc⟩ := h.rd.at1 hk
  injection hA with hA
  subst hA
  rw [hc]
  simp [NI, cntM, hk] at hu
  rw [← hu]
/-! ### insertion -/
def insP : List (Nat × List Nat) → Nat × List Nat → List (Nat × List Nat)
  | [], p => [p]
  | c :: cs, p => if ∀ x ∈ c :: cs, p.1 < x.1 then p :: c :: cs else c :: insP cs p
theorem insP_low {Y : List (Nat × List Nat)} {p : Nat × List Nat} (h : ∀ x ∈ Y, p.1 < x.1) : insP Y p = p :: Y := by
  cases Y with
  | nil => rfl
  | cons c cs => rw [insP, if_pos h]
theorem insP_at {X Y : List (Nat × List Nat)} {p : Nat × List Nat} (hY : ∀ x ∈ Y, p.1 < x.1) (hX : X = [] ∨ ∃ x, X.getLast? = some x ∧ x.1 ≤ p.1) : insP (X ++ Y) p = X ++ p :: Y := by
  induction X with
  | nil => exact insP_low hY
  | cons c r ih =>
    obtain ⟨x, hx, hxp⟩ := hX.resolve_left (by simp)
    have hm : x ∈ c :: r := List.mem_of_getLast? hx
    rw [List.cons_append, insP, if_neg (fun h => by have := h x (List.mem_append_left Y hm); omega), ih ?_]
    · rfl
    · cases r with
      | nil => exact .inl rfl
      | cons d t => exact .inr ⟨x, by rw [← hx]; simp [List.getLast?_cons_cons], hxp⟩
theorem insP_app {X Y : List (Nat × List Nat)} {q : Nat × List Nat} (h : ∀ x ∈ X, x.1 ≤ q.1) : insP (X ++ Y) q = X ++ insP Y q := by
  induction X with
  | nil => rfl
  | cons c r ih =>
    rw [List.cons_append, insP, if_neg (fun h2 => by have := h2 c (by simp); have := h c (by simp); omega), ih (fun x hx => h x (by simp [hx]))]
    rfl
theorem fold_app {X : List (Nat × List Nat)} (qs : List (Nat × List Nat)) : ∀ Y, (∀ x ∈ X, ∀ q ∈ qs, x.1 ≤ q.1) → qs.foldl insP (X ++ Y) = X ++ qs.foldl insP Y := by
  induction qs with
  | nil => intro Y _; rfl
  | cons q r ih =>
    intro Y h
    rw [List.foldl_cons, insP_app (fun x hx => h x hx q (by simp)), ih _ (fun x hx s hs => h x hx s (by simp [hs]))]
    rfl
def SortP (l : List (Nat × List Nat)) : Prop := l.Pairwise fun a b => a.1 ≤ b.1
theorem merge_ins : ∀ (ps cs : List (Nat × List Nat)), SortP cs → SortP ps → ps.foldl insP cs = mergeP cs ps
  | [], cs, _, _ => by cases cs <;> simp [mergeP]
  | p :: ps, [], _, hp => by
    have h1 := List.pairwise_cons.1 hp
    rw [mergeP, List.foldl_cons, show insP [] p = [p] ++ [] from rfl, fold_app ps [] (fun x hx q hq => by simp at hx; subst hx; exact h1.1 q hq), merge_ins ps [] .nil h1.2]
    simp [mergeP]
  | p :: ps, c :: cs, hc, hp => by
    have h1 := List.pairwise_cons.1 hp
    have h2 := List.pairwise_cons.1 hc
    rw [mergeP]
    by_cases h : c.1 ≤ p.1
    · rw [if_pos h, show c :: cs = [c] ++ cs from rfl, fold_app (p :: ps) cs (fun x hx q hq => by
        simp at hx
        subst hx
        rcases List.mem_cons.1 hq with rfl | hq
        · exact h
        · exact Nat.le_trans h (h1.1 q hq)), merge_ins (p :: ps) cs h2.2 hp]
      rfl
    · rw [if_neg h, List.foldl_cons, insP_low (fun x hx => by
        rcases List.mem_cons.1 hx with rfl | hx
        · omega
        · have := h2.1 x hx; omega), show p :: c :: cs = [p] ++ (c :: cs) from rfl, fold_app ps (c :: cs) (fun x hx q hq => by simp at hx; subst hx; exact h1.1 q hq), merge_ins ps (c :: cs) hc h1.2]
      rfl
  termination_by ps cs => ps.length + cs.length
theorem mem_merge : ∀ (a b : List (Nat × List Nat)) (x : Nat × List Nat), x ∈ mergeP a b → x ∈ a ∨ x ∈ b
  | [], b, x, h => by simp [mergeP] at h; exact .inr h
  | c :: cs, [], x, h => by simp only [mergeP] at h; exact .inl h
  | c :: cs, p :: ps, x, h => by
    rw [mergeP] at h
    split at h
    · rcases List.mem_cons.1 h with rfl | h
      · exact .inl (by simp)
      · rcases mem_merge cs (p :: ps) x h with h | h
        · exact .inl (by simp [h])
        · exact .inr h
    · rcases List.mem_cons.1 h with rfl | h
      · exact .inr (by simp)
      · rcases mem_merge (c :: cs) ps x h with h | h
        · exact .inl h
        · exact .inr (by simp [h])
  termination_by a b => a.length + b.length
theorem mem_pairs : ∀ (l : List (Nat × List Nat)) (x : Nat × List Nat), x ∈ pairsP l → ∃ u v, u ∈ l ∧ v ∈ l ∧ x = both2 u v
  | [], x, h => by simp [pairsP] at h
  | [a], x, h => by simp [pairsP] at h
  | a :: b :: r, x, h => by
    rw [pairsP] at h
    rcases List.mem_cons.1 h with rfl | h
    · exact ⟨a, b, by simp, by simp, rfl⟩
    · obtain ⟨u, v, hu, hv, rfl⟩ := mem_pairs r x h
      exact ⟨u, v, by simp [hu], by simp [hv], rfl⟩
theorem sort_merge : ∀ (a b : List (Nat × List Nat)), SortP a → SortP b → SortP (mergeP a b)
  | [], b, _, hb => by simpa [mergeP] using hb
  | c :: cs, [], ha, _ => by simpa [mergeP] using ha
  | c :: cs, p :: ps, ha, hb => by
    have h1 := List.pairwise_cons.1 ha
    have h2 := List.pairwise_cons.1 hb
    have hm : ∀ (a b : List (Nat × List Nat)) x, x ∈ mergeP a b → x ∈ a ∨ x ∈ b := mem_merge
    rw [mergeP]
    split
    · rename_i h
      refine List.pairwise_cons.2 ⟨fun x hx => ?_, sort_merge cs (p :: ps) h1.2 hb⟩
      rcases hm _ _ x hx with h3 | h3
      · exact h1.1 x h3
      · rcases List.mem_cons.1 h3 with rfl | h3
        · exact h
        · exact Nat.le_trans h (h2.1 x h3)
    · rename_i h
      refine List.pairwise_cons.2 ⟨fun x hx => ?_, sort_merge (c :: cs) ps ha h2.2⟩
      rcases hm _ _ x hx with h3 | h3
      · rcases List.mem_cons.1 h3 with rfl | h3
        · omega
        · have := h1.1 x h3; omega
      · exact h2.1 x h3
  termination_by a b => a.length + b.length
theorem sort_pairs : ∀ (l : List (Nat × List Nat)), SortP l → SortP (pairsP l)
  | [], _ => .nil
  | [a], _ => .nil
  | a :: b :: r, h => by
    have h1 := List.pairwise_cons.1 h
    have h2 := List.pairwise_cons.1 h1.2
    rw [pairsP]
    refine List.pairwise_cons.2 ⟨fun x hx => ?_, sort_pairs r h2.2⟩
    obtain ⟨u, v, hu, hv, rfl⟩ := mem_pairs r x hx
    have := h1.1 u (by simp [hu])
    have := h2.1 v hv
    simp only [both2]
    omega
theorem sort_coins {cs : List Nat} {l : List (Nat × List Nat)} (h : IsCoins cs l) (hn : cs.length ≤ 320) : SortP l := by
  refine h.2.imp_of_mem (fun {a b} ha hb hab => ?_)
  obtain ⟨k, hk, _, rfl⟩ := coinsTo_mem (h.1.mem_iff.1 ha)
  obtain ⟨j, hj, _, rfl⟩ := coinsTo_mem (h.1.mem_iff.1 hb)
  simp only [keyA, List.headD_cons] at hab ⊢
  omega
theorem sort_level (cs : List (Nat × List Nat)) (h : SortP cs) : ∀ k, SortP (levelP cs k)
  | 0 => h
  | k + 1 => sort_merge _ _ h (sort_pairs _ (sort_level cs h k))

end Go.Proofs.Ytebaojedpnnliaa
