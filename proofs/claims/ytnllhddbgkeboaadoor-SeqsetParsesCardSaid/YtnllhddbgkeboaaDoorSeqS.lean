/-
  Numbers sorted and made compact: on plain lists, and by the library.
-/
import Derived.Test.YtnllhddbgkeboaaDoorSeqP
import Derived.Test.YtnllhddbgkeboaaDoorShelf
namespace Go.Proofs.YtnllhddbgkeboaaDoor
open Go.RowKit Go.Sort
/-! ### plain -/
theorem lt_of_le_ne_I {a b : Int} (h : a ≤ b) (h2 : a ≠ b) : a < b := by omega
abbrev SSI (l : List Int) : Prop := l.Pairwise (· < ·)
theorem srtI_len (ss : List Int) : (srtI ss).length = ss.length := by simp [srtI]
theorem srtI_mem (ts : List Int) (x : Int) : x ∈ srtI ts ↔ x ∈ ts := (List.mergeSort_perm ts _).mem_iff
theorem srtI_sorted (ts : List Int) : (srtI ts).Pairwise (· ≤ ·) := by
  have := List.pairwise_mergeSort (le := fun x y : Int => decide (x ≤ y)) (fun a b c h1 h2 => by
    simp only [decide_eq_true_eq] at *
    omega) (fun a b => by
    simp only [Bool.or_eq_true, decide_eq_true_eq]
    omega) ts
  exact this.imp (by intro a b h; simpa using h)
theorem compactI_sorted {d : Array Int} (hd : ∀ i j, i ≤ j → j < d.size → d[i]! ≤ d[j]!) : ∀ m, m ≤ d.size →
    SSI (Lib.compactUpTo d m) ∧ (∀ x, x ∈ Lib.compactUpTo d m ↔ ∃ j, j < m ∧ d[j]! = x)
  | 0, _ => by simp [Lib.compactUpTo]
  | m + 1, hm => by
    obtain ⟨h1, h2⟩ := compactI_sorted hd m (by omega)
    rw [Lib.compactUpTo_succ]
    by_cases hk : Lib.keeps d m = true
    · rw [if_pos hk]
      refine ⟨List.pairwise_append.2 ⟨h1, by simp, fun x hx y hy => ?_⟩, fun x => ?_⟩
      · simp only [List.mem_singleton] at hy
        subst hy
        obtain ⟨j, hj, rfl⟩ := (h2 x).1 hx
        have h3 := hd j (m - 1) (by omega) (by omega)
        have h4 := hd (m - 1) m (by omega) (by omega)
        unfold Lib.keeps at hk
        rw [decide_eq_true_eq] at hk
        have h5 : d[m - 1]! < d[m]! := lt_of_le_ne_I h4 (by rcases hk with h | h; omega; exact fun e => h e.symm)
        omega
      · rw [List.mem_append, h2, List.mem_singleton]
        constructor
        · rintro (⟨j, hj, rfl⟩ | rfl)
          · exact ⟨j, by omega, rfl⟩
          · exact ⟨m, by omega, rfl⟩
        · rintro ⟨j, hj, rfl⟩
          rcases Nat.lt_or_ge j m with h | h
          · exact .inl ⟨j, h, rfl⟩
          · have : j = m := by omega
            subst this
            exact .inr rfl
    · rw [if_neg hk, List.append_nil]
      refine ⟨h1, fun x => ?_⟩
      rw [h2]
      unfold Lib.keeps at hk
      rw [decide_eq_true_eq] at hk
      constructor
      · rintro ⟨j, hj, rfl⟩
        exact ⟨j, by omega, rfl⟩
      · rintro ⟨j, hj, rfl⟩
        rcases Nat.lt_or_ge j m with h | h
        · exact ⟨j, h, rfl⟩
        · have : j = m := by omega
          subst this
          have hne : j ≠ 0 := fun h => hk (.inl h)
          have heq : d[j]! = d[j - 1]! := Classical.not_not.1 fun h => hk (.inr h)
          exact ⟨j - 1, by omega, heq.symm⟩
theorem nubI_spec (ts : List Int) : SSI (Lib.compact (srtI ts)) ∧ ∀ x, x ∈ Lib.compact (srtI ts) ↔ x ∈ ts := by
  have hs := srtI_sorted ts
  have hd : ∀ i j, i ≤ j → j < (srtI ts).toArray.size → (srtI ts).toArray[i]! ≤ (srtI ts).toArray[j]! := by
    intro i j hij hj
    have hj' : j < (srtI ts).length := by simpa using hj
    rw [getElem!_pos _ i (by simp; omega), getElem!_pos _ j (by simpa using hj)]
    simp only [List.getElem_toArray]
    rcases Nat.lt_or_ge i j with h | h
    · exact List.pairwise_iff_getElem.1 hs i j (by omega) hj' h
    · have : i = j := by omega
      subst this
      omega
  obtain ⟨h1, h2⟩ := compactI_sorted hd (srtI ts).length (by simp)
  refine ⟨h1, fun x => ?_⟩
  rw [← srtI_mem ts x]
  unfold Lib.compact
  rw [h2]
  constructor
  · rintro ⟨j, hj, rfl⟩
    rw [getElem!_pos _ j (by simpa using hj)]
    simp
  · intro hx
    obtain ⟨j, hj, rfl⟩ := List.getElem_of_mem hx
    exact ⟨j, hj, by rw [getElem!_pos _ j (by simpa using hj)]; simp⟩
theorem ssI_ext : ∀ {a b : List Int}, SSI a → SSI b → (∀ x, x ∈ a ↔ x ∈ b) → a = b
  | [], [], _, _, _ => rfl
  | [], y :: b, _, _, h => absurd ((h y).2 (by simp)) (by simp)
  | x :: a, [], _, _, h => absurd ((h x).1 (by simp)) (by simp)
  | x :: a, y :: b, ha, hb, h => by
    have ha := List.pairwise_cons.1 ha
    have hb := List.pairwise_cons.1 hb
    have hxy : x = y := by
      rcases List.mem_cons.1 ((h x).1 (by simp)) with h1 | h1
      · exact h1
      rcases List.mem_cons.1 ((h y).2 (by simp)) with h2 | h2
      · exact h2.symm
      have := hb.1 x h1
      have := ha.1 y h2
      omega
    subst hxy
    rw [ssI_ext ha.2 hb.2]
    intro z
    constructor
    · intro hz
      rcases List.mem_cons.1 ((h z).1 (List.mem_cons_of_mem _ hz)) with h1 | h1
      · subst h1; have := ha.1 z hz; omega
      · exact h1
    · intro hz
      rcases List.mem_cons.1 ((h z).2 (List.mem_cons_of_mem _ hz)) with h1 | h1
      · subst h1; have := hb.1 z hz; omega
      · exact h1
/-! ### by the library -/
theorem IB_append (a b : List Int) : IB (a ++ b) = IB a ++ IB b := by simp [IB]
theorem ownsRowI {w : World} {base g cap n : Nat} {e : TypeId} {os : Array Obj} {cur : Array Value} {ss ts : List Int} (hl : ts.length = ss.length) (hbase : base ≤ g) (hb : w.heap[g]? = some (.cells cur e (0, 0)))
    (h1 : ss.length ≤ cap) (h2 : cap ≤ maxLen) (h3 : cur.size = cap * 1) :
    (grow (putRow (Value.int .i64) (Sort.ahead w n) g 0 ts.toArray) os).ownsRow base e 1 (.slice (some ⟨g, 0, none⟩) ss.length cap) ss.length (IB ts) := by
  have ht : (putCells (Value.int .i64) 0 ts.toArray cur).toList.take ts.length = IB ts := by
    apply List.ext_getElem?
    intro j
    by_cases hj : j < ts.length
    · rw [List.getElem?_take_of_lt hj, Array.getElem?_toList]
      simp [putCells, IB, hj, show j < cur.size by omega]
    · rw [List.getElem?_take_eq_none (by omega), List.getElem?_eq_none (by simp [IB]; omega)]
  have hh : (grow (putRow (Value.int .i64) (Sort.ahead w n) g 0 ts.toArray) os).heap[g]? = some (.cells (putCells (Value.int .i64) 0 ts.toArray cur) e (0, 0)) := by
    have hlt : g < w.heap.size := Array.getElem?_eq_some_iff.1 hb |>.1
    rw [heap_grow_old _ _ (by simpa using hlt)]
    simp [putRow, mapBlock, Sort.ahead, Array.getElem?_modify, hb, onCells]
  exact ⟨by simp [IB, hl], .inr ⟨g, cap, _, rfl, hbase, hh, h1, h2, by simp [putCells, h3], by rw [Nat.mul_one, ← hl]; exact ht⟩⟩
theorem grownByI {w : World} {g n : Nat} {os : Array Obj} (d : Array Int) : w.grownBy (grow (putRow (Value.int .i64) (Sort.ahead w n) g 0 d) os) (some g) := by
  refine ⟨rfl, rfl, rfl, by simp, fun k hk hne => ?_⟩
  rw [heap_grow_old _ _ (by simpa using hk)]
  have : g ≠ k := fun e => hne (by rw [e])
  simp [putRow, mapBlock, Sort.ahead, Array.getElem?_modify, this]
theorem Own.putI {w : World} {g c m : Nat} {e : TypeId} {os : Array Obj} {ss ts : List Int} (h : Own w e 1 (some ⟨g, 0, none⟩) ss.length c (IB ss)) (hl : ts.length = ss.length) :
    Own (grow (putRow (Value.int .i64) (Sort.ahead w m) g 0 ts.toArray) os) e 1 (some ⟨g, 0, none⟩) ss.length c (IB ts) ∧ Frm [g] w (grow (putRow (Value.int .i64) (Sort.ahead w m) g 0 ts.toArray) os) := by
  rcases h.cases with ⟨h0, _⟩ | ⟨g', cur, hA, hb, h1, h2, h3, h4⟩
  · cases h0
  · cases hA
    refine ⟨ownsRowI hl (Nat.zero_le _) hb h1 h2 (by simpa using h3), ?_⟩
    have := Frm.grown (grownByI (w := w) (g := g) (n := m) (os := os) ts.toArray)
    simpa using this
theorem Own.holdsI {w : World} {g c : Nat} {e : TypeId} {ss : List Int} (h : Own w e 1 (some ⟨g, 0, none⟩) ss.length c (IB ss)) : Holds (Value.int .i64) w g 0 ss.toArray ∧ g < w.heap.size := by
  rcases h.cases with ⟨h0, _⟩ | ⟨g', cur, hA, hb, h1, h2, h3, h4⟩
  · cases h0
  · cases hA
    refine ⟨?_, hb.lt⟩
    rw [Nat.mul_one] at h4
    intro j hj
    have hj' : j < ss.length := by simpa using hj
    have hb' : w.heap[g]? = some (.cells cur e (0, 0)) := hb
    refine ⟨?_, by simp [World.frozen?, hb']⟩
    have h5 : (cur.toList.take ss.length)[j]? = (IB ss)[j]? := by rw [h4]
    rw [List.getElem?_take_of_lt hj'] at h5
    simp only [World.cell?, hb', Nat.zero_add]
    simp only [Option.isSome_none, Bool.false_eq_true, if_false]
    rw [← Array.getElem?_toList, h5]
    simp [IB, hj']
theorem sortI_spec (A : Option Addr) (c : Nat) (ss : List Int) (w : World) (h : Own w 3 1 A ss.length c (IB ss)) (hs : ss.length < 4611686018427387904) :
    Calls Tryd.prog 51 #[.slice A ss.length c] w fun e w' => e = .returned (.tuple #[]) ∧ Own w' 3 1 A ss.length c (IB (srtI ss)) ∧ Frm (ob A) w w' := by
  cases A with
  | none =>
    have h0 : ss = [] := by
      rcases h.cases with ⟨_, h1, _⟩ | ⟨g, cur, h1, _⟩
      · exact List.eq_nil_of_length_eq_zero h1
      · cases h1
    subst h0
    refine (Tryd.slices_Sort_int_none none c w).mono fun e w' ⟨he, hw⟩ => ?_
    subst hw
    exact ⟨he, by simpa [srtI] using h, Frm.refl _ _⟩
  | some ad =>
    obtain ⟨g, rfl⟩ : ∃ g, ad = ⟨g, 0, none⟩ := by
      rcases h.cases with ⟨h1, _⟩ | ⟨g, cur, h1, _⟩
      · cases h1
      · cases h1; exact ⟨g, rfl⟩
    obtain ⟨h1, h2⟩ := h.holdsI
    refine (Tryd.slices_Sort_int g 0 c ss w h1 h2 hs).mono fun e w' ⟨he, m, os, hw⟩ => ?_
    subst hw
    obtain ⟨h3, h4⟩ := h.putI (m := m) (os := os) (ts := srtI ss) (srtI_len ss)
    exact ⟨he, h3, h4⟩
theorem compactI_le (ss : List Int) : (Lib.compact ss).length ≤ ss.length := by
  unfold Lib.compact Lib.compactUpTo
  rw [List.length_map]
  refine Nat.le_trans (List.length_filter_le _ _) ?_
  simp
theorem compactI_spec (A : Option Addr) (c : Nat) (ss : List Int) (w : World) (h : Own w 3 1 A ss.length c (IB ss)) (hs : ss.length ≤ 9223372036854775807) :
    Calls Tryd.prog 52 #[.slice A ss.length c] w fun e w' => e = .returned (.slice A (Lib.compact ss).length c) ∧ Own w' 3 1 A (Lib.compact ss).length c (IB (Lib.compact ss)) ∧ Frm (ob A) w w' := by
  cases A with
  | none =>
    have h0 : ss = [] := by
      rcases h.cases with ⟨_, h1, _⟩ | ⟨g, cur, h1, _⟩
      · exact List.eq_nil_of_length_eq_zero h1
      · cases h1
    subst h0
    refine (Tryd.slices_Compact_int_empty none c w).mono fun e w' ⟨he, hw⟩ => ?_
    subst hw
    exact ⟨he, by simpa [Lib.compact, Lib.compactUpTo] using h, Frm.refl _ _⟩
  | some ad =>
    obtain ⟨g, rfl⟩ : ∃ g, ad = ⟨g, 0, none⟩ := by
      rcases h.cases with ⟨h1, _⟩ | ⟨g, cur, h1, _⟩
      · cases h1
      · cases h1; exact ⟨g, rfl⟩
    obtain ⟨h1, h2⟩ := h.holdsI
    refine (Tryd.slices_Compact_int g 0 c ss w h1 hs h.le).mono fun e w' ⟨he, m, hw⟩ => ?_
    have hle := compactI_le ss
    obtain ⟨h3, h4⟩ := h.putI (m := m) (os := #[]) (ts := Lib.compact ss ++ List.replicate (ss.length - (Lib.compact ss).length) 0) (by simp; omega)
    have hg : grow (putRow (Value.int .i64) (Sort.ahead w m) g 0 (Lib.compact ss ++ List.replicate (ss.length - (Lib.compact ss).length) 0).toArray) #[] = w' := by rw [hw, grow_nil]
    rw [hg] at h3 h4
    refine ⟨he, ?_, h4⟩
    have h5 := h3.short (k := (Lib.compact ss).length) hle
    simpa [IB_append, IB, List.take_append] using h5
end Go.Proofs.YtnllhddbgkeboaaDoor
