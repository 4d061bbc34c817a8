/-
  Slices of texts, and what the library does with them, in this seat's words: sorted, made compact, compared, asked for one, copied, thinned out.
-/
import Derived.Test.YtmfglifjnoilnaaTy
import Derived.Test.YtmfglifjnoilnaaEngB
import Derived.Test.YtmfglifjnoilnaaShelf
import Derived.Sort.OwnSorted
namespace Go.Proofs.Ytmfglifjnoilnaa
open Go.RowKit Go.Sort

/-- A text: its octets. -/
abbrev Tx := List UInt8
/-- Texts in cells. -/
def SB (ss : List Tx) : List Value := ss.map encStr
theorem SB_len (ss : List Tx) : (SB ss).length = ss.length := by simp [SB]
theorem SB_one (ss : List Tx) : ∀ u ∈ SB ss, u.oneCell' = true := by
  intro u hu
  obtain ⟨b, _, rfl⟩ := List.mem_map.1 hu
  rfl
theorem SB_append (a b : List Tx) : SB (a ++ b) = SB a ++ SB b := by simp [SB]
theorem SB_at {w : World} {A : Option Addr} {ss : List Tx} {k : Nat} (h : Rd w 1 A ss.length (SB ss)) (hk : k < ss.length) : ∃ ad, A = some ad ∧ w.cell? (ad.add k) = some (encStr ss[k]) := by
  obtain ⟨ad, u, hA, hu, hc⟩ := h.at1 hk
  refine ⟨ad, hA, ?_⟩
  rw [hc, ← hu]
  simp [SB, List.getElem?_eq_getElem hk]
/-- What is read at all lies in a block. -/
theorem Rd.plain {w : World} {A : Option Addr} {n : Nat} {xs : List Value} (h : Rd w 1 A n xs) (hn : 0 < n) : ∃ b o, A = some ⟨b, o, none⟩ ∧ b < w.heap.size ∧ ∀ j u, xs[j]? = some u → w.cell? ⟨b, o + j, none⟩ = some u := by
  obtain ⟨ad, hA, hlt, hc⟩ := h.2 hn
  have hx : 0 < xs.length := by rw [h.1]; omega
  obtain ⟨b, o, t⟩ := ad
  have h0 := hc 0 _ (List.getElem?_eq_getElem hx)
  have ht : t = none := by
    cases t with
    | none => rfl
    | some t =>
      exfalso
      simp [World.cell?, Addr.add] at h0
      cases hb : w.heap[b]? with
      | none => rw [hb] at h0; simp at h0
      | some ob => rw [hb] at h0; cases ob <;> simp at h0
  subst ht
  refine ⟨b, o, hA, hlt, fun j u hu => ?_⟩
  have := hc j u hu
  have e : (⟨b, o, none⟩ : Addr).add j = ⟨b, o + j, none⟩ := by unfold Addr.add; split <;> simp_all
  rwa [e] at this
theorem Own.short {w : World} {e size n c k : Nat} {A : Option Addr} {xs : List Value} (h : Own w e size A n c xs) (hk : k ≤ n) : Own w e size A k c (xs.take (k * size)) := by
  have hl := h.len
  have hmul : k * size ≤ n * size := Nat.mul_le_mul_right _ hk
  refine ⟨by rw [List.length_take]; omega, ?_⟩
  rcases h.cases with ⟨rfl, rfl, rfl, rfl⟩ | ⟨g, cur, rfl, hb, h1, h2, h3, h4⟩
  · have : k = 0 := by omega
    subst this
    simp
  · right
    refine ⟨g, c, cur, rfl, Nat.zero_le _, hb, by omega, h2, h3, ?_⟩
    rw [← h4, List.take_take, Nat.min_eq_left hmul]
/-- Behind a row that the library wrote anew. -/
theorem Own.put {w : World} {g c m : Nat} {e : TypeId} {os : Array Obj} {ss ts : List Tx} (h : Own w e 1 (some ⟨g, 0, none⟩) ss.length c (SB ss)) (hl : ts.length = ss.length) :
    Own (grow (putRow encStr (Sort.ahead w m) g 0 ts.toArray) os) e 1 (some ⟨g, 0, none⟩) ss.length c (SB ts) ∧ Frm [g] w (grow (putRow encStr (Sort.ahead w m) g 0 ts.toArray) os) := by
  rcases h.cases with ⟨h0, _⟩ | ⟨g', cur, hA, hb, h1, h2, h3, h4⟩
  · cases h0
  · cases hA
    refine ⟨ownsRow_sorted hl (Nat.zero_le _) hb h1 h2 (by simpa using h3), ?_⟩
    have := Frm.grown (grownBy_sorted (w := w) (g := g) (n := m) (os := os) ts.toArray)
    simpa using this
theorem Own.holds {w : World} {g c : Nat} {e : TypeId} {ss : List Tx} (h : Own w e 1 (some ⟨g, 0, none⟩) ss.length c (SB ss)) : Holds encStr w g 0 ss.toArray ∧ g < w.heap.size := by
  rcases h.cases with ⟨h0, _⟩ | ⟨g', cur, hA, hb, h1, h2, h3, h4⟩
  · cases h0
  · cases hA
    exact ⟨holds_of_block hb (by rw [Nat.mul_one] at h4; exact h4), hb.lt⟩

theorem grow_nil (w : World) : grow w #[] = w := by cases w; simp [grow]
/-- In order, from the least on. -/
def srt (ss : List Tx) : List Tx := ss.mergeSort fun x y => decide (x ≤ y)
theorem srt_len (ss : List Tx) : (srt ss).length = ss.length := by simp [srt]
theorem sort_spec (A : Option Addr) (c : Nat) (ss : List Tx) (w : World) (h : Own w 9 1 A ss.length c (SB ss)) (hs : ss.length < 4611686018427387904) :
    Calls Try.prog 77 #[.slice A ss.length c] w fun e w' => e = .returned (.tuple #[]) ∧ Own w' 9 1 A ss.length c (SB (srt ss)) ∧ Frm (ob A) w w' := by
  cases A with
  | none =>
    have h0 : ss = [] := by
      rcases h.cases with ⟨_, h1, _⟩ | ⟨g, cur, h1, _⟩
      · exact List.eq_nil_of_length_eq_zero h1
      · cases h1
    subst h0
    refine (Try.slices_Sort_string_none none c w).mono fun e w' ⟨he, hw⟩ => ?_
    subst hw
    exact ⟨he, by simpa [srt] using h, Frm.refl _ _⟩
  | some ad =>
    obtain ⟨g, rfl⟩ : ∃ g, ad = ⟨g, 0, none⟩ := by
      rcases h.cases with ⟨h1, _⟩ | ⟨g, cur, h1, _⟩
      · cases h1
      · cases h1; exact ⟨g, rfl⟩
    obtain ⟨h1, h2⟩ := h.holds
    refine (Try.slices_Sort_string g 0 c ss w h1 h2 hs).mono fun e w' ⟨he, m, os, hw⟩ => ?_
    subst hw
    obtain ⟨h3, h4⟩ := h.put (m := m) (os := os) (ts := srt ss) (srt_len ss)
    exact ⟨he, h3, h4⟩
theorem compact_le (ss : List Tx) : (Lib.compact ss).length ≤ ss.length := by
  unfold Lib.compact Lib.compactUpTo
  rw [List.length_map]
  refine Nat.le_trans (List.length_filter_le _ _) ?_
  simp
theorem compact_spec (A : Option Addr) (c : Nat) (ss : List Tx) (w : World) (h : Own w 9 1 A ss.length c (SB ss)) (hs : ss.length ≤ 9223372036854775807) :
    Calls Try.prog 78 #[.slice A ss.length c] w fun e w' => e = .returned (.slice A (Lib.compact ss).length c) ∧ Own w' 9 1 A (Lib.compact ss).length c (SB (Lib.compact ss)) ∧ Frm (ob A) w w' := by
  cases A with
  | none =>
    have h0 : ss = [] := by
      rcases h.cases with ⟨_, h1, _⟩ | ⟨g, cur, h1, _⟩
      · exact List.eq_nil_of_length_eq_zero h1
      · cases h1
    subst h0
    refine (Try.slices_Compact_string_empty none c w).mono fun e w' ⟨he, hw⟩ => ?_
    subst hw
    exact ⟨he, by simpa [Lib.compact, Lib.compactUpTo] using h, Frm.refl _ _⟩
  | some ad =>
    obtain ⟨g, rfl⟩ : ∃ g, ad = ⟨g, 0, none⟩ := by
      rcases h.cases with ⟨h1, _⟩ | ⟨g, cur, h1, _⟩
      · cases h1
      · cases h1; exact ⟨g, rfl⟩
    obtain ⟨h1, h2⟩ := h.holds
    refine (Try.slices_Compact_string g 0 c ss w h1 hs h.le).mono fun e w' ⟨he, m, hw⟩ => ?_
    have hle := compact_le ss
    obtain ⟨h3, h4⟩ := h.put (m := m) (os := #[]) (ts := Lib.compact ss ++ List.replicate (ss.length - (Lib.compact ss).length) []) (by simp; omega)
    have hg : grow (putRow encStr (Sort.ahead w m) g 0 (Lib.compact ss ++ List.replicate (ss.length - (Lib.compact ss).length) []).toArray) #[] = w' := by rw [hw, grow_nil]
    rw [hg] at h3 h4
    refine ⟨he, ?_, h4⟩
    have h5 := h3.short (k := (Lib.compact ss).length) hle
    simpa [SB_append, SB, List.take_append] using h5
theorem bas {ss : List Tx} {j : Nat} : (ss.map fun l => (⟨l.toArray⟩ : ByteArray)).getD j ByteArray.empty = ⟨(ss.getD j []).toArray⟩ := by
  simp only [List.getD_eq_getElem?_getD, List.getElem?_map]
  cases ss[j]? <;> rfl
theorem bas_inj {a b : List Tx} (h : (a.map fun l => (⟨l.toArray⟩ : ByteArray)) = b.map fun l => (⟨l.toArray⟩ : ByteArray)) : a = b := by
  refine (List.map_inj_right fun x y hxy => ?_).1 h
  injection hxy with h1
  simpa using congrArg Array.toList h1
theorem equal_spec (A B : Option Addr) (c d : Nat) (xs ys : List Tx) (w : World) (hx : Rd w 1 A xs.length (SB xs)) (hy : Rd w 1 B ys.length (SB ys)) (h1 : xs.length ≤ 9223372036854775807) (h2 : ys.length ≤ 9223372036854775807) :
    Calls Try.prog 42 #[.slice A xs.length c, .slice B ys.length d] w fun e w' => e = .returned (.bool (decide (xs = ys))) ∧ Drawn w w' := by
  by_cases hl : xs.length = ys.length
  · by_cases h0 : xs.length = 0
    · have e1 : xs = [] := List.eq_nil_of_length_eq_zero h0
      have e2 : ys = [] := List.eq_nil_of_length_eq_zero (by omega)
      subst e1 e2
      refine (Try.slices_Equal_string_empty A B c 0 d w (by omega)).mono fun e w' ⟨he, hw⟩ => ?_
      subst hw
      exact ⟨by simpa using he, Drawn.refl _⟩
    · obtain ⟨b1, o1, rfl, _, hc1⟩ := Rd.plain hx (by omega)
      obtain ⟨b2, o2, rfl, _, hc2⟩ := Rd.plain hy (by omega)
      refine (Try.slices_Equal_string b1 o1 xs.length c b2 o2 ys.length d (xs.map fun l => ⟨l.toArray⟩) (ys.map fun l => ⟨l.toArray⟩) w (by simp) (by simp) h1 h2 (fun j hj => ?_) (fun j hj => ?_)).mono fun e w' ⟨he, q, hw⟩ => ?_
      · rw [bas]
        simp only [List.length_map] at hj
        exact hc1 j _ (by simp [SB, List.getElem?_eq_getElem hj, List.getD])
      · rw [bas]
        simp only [List.length_map] at hj
        exact hc2 j _ (by simp [SB, List.getElem?_eq_getElem hj, List.getD])
      · refine ⟨?_, q, hw⟩
        rw [he, List.take_of_length_le (by simp), List.take_of_length_le (by simp)]
        congr 2
        rw [decide_eq_decide]
        exact ⟨bas_inj, fun h => by rw [h]⟩
  · refine (Try.slices_Equal_string_lens A B xs.length c ys.length d w hl).mono fun e w' ⟨he, hw⟩ => ?_
    subst hw
    exact ⟨by rw [he, decide_eq_false (fun h => hl (by rw [h]))], Drawn.refl _⟩
theorem contains_spec (A : Option Addr) (c : Nat) (zs : List Tx) (x : Tx) (w : World) (hz : Rd w 1 A zs.length (SB zs)) (h1 : zs.length ≤ 9223372036854775807) :
    Calls Try.prog 57 #[.slice A zs.length c, encStr x] w fun e w' => e = .returned (.bool (decide (x ∈ zs))) ∧ w = w' := by
  by_cases h0 : zs.length = 0
  · have e1 : zs = [] := List.eq_nil_of_length_eq_zero h0
    subst e1
    refine (Try.slices_Contains_string_empty A c ⟨x.toArray⟩ w).mono fun e w' ⟨he, hw⟩ => ⟨by simpa using he, hw.symm⟩
  · obtain ⟨b1, o1, rfl, _, hc1⟩ := Rd.plain hz (by omega)
    refine (Try.slices_Contains_string b1 o1 zs.length c (zs.map fun l => ⟨l.toArray⟩) ⟨x.toArray⟩ w (by simp) h1 (fun j hj => ?_)).mono fun e w' ⟨he, hw⟩ => ⟨?_, hw.symm⟩
    · rw [bas]
      simp only [List.length_map] at hj
      exact hc1 j _ (by simp [SB, List.getElem?_eq_getElem hj, List.getD])
    · rw [he, List.take_of_length_le (by simp)]
      congr 2
      rw [Bool.eq_iff_iff, Lib.containsS_iff, decide_eq_true_eq]
      constructor
      · intro h
        obtain ⟨y, hy, hxy⟩ := List.mem_map.1 h
        injection hxy with h2
        have := congrArg Array.toList h2
        simp at this
        rwa [← this]
      · intro h
        exact List.mem_map.2 ⟨x, h, rfl⟩
theorem clone_spec (A : Option Addr) (c : Nat) (zs : List Tx) (w : World) (hz : Rd w 1 A zs.length (SB zs)) (h1 : zs.length * 16 ≤ 140737488355328) :
    Calls Try.prog 53 #[.slice A zs.length c] w fun e w' => ∃ B d, e = .returned (.slice B zs.length d) ∧ Own w' 9 1 B zs.length d (SB zs) ∧ (∀ x ∈ ob B, w.heap.size ≤ x) ∧ Frm [] w w' := by
  have own : ∀ v' w', World.ownsRow w' w.heap.size 9 1 v' zs.length (SB zs) → Below w.heap.size w w' → ∃ B d, v' = .slice B zs.length d ∧ Own w' 9 1 B zs.length d (SB zs) ∧ (∀ x ∈ ob B, w.heap.size ≤ x) ∧ Frm [] w w' := by
    intro v' w' ho hb
    rcases ho.2 with ⟨rfl, h2⟩ | ⟨g, cap, cur, rfl, hg, hb1, h4, h5, h6, h7⟩
    · refine ⟨none, 0, by rw [h2], ⟨ho.1, .inl ⟨by rw [h2], h2⟩⟩, by simp [ob], Frm.of_below hb⟩
    · exact ⟨some ⟨g, 0, none⟩, cap, rfl, ⟨ho.1, .inr ⟨g, cap, cur, rfl, Nat.zero_le _, hb1, h4, h5, h6, h7⟩⟩, by simp [ob]; exact hg, Frm.of_below hb⟩
  by_cases h0 : zs.length = 0
  · have e1 : zs = [] := List.eq_nil_of_length_eq_zero h0
    subst e1
    cases A with
    | none =>
      refine (Try.slices_Clone_string_nil 0 c w).mono fun e w' ⟨he, hw⟩ => ?_
      subst hw
      exact ⟨none, 0, he, Own.nil _ _ _, by simp [ob], Frm.refl _ _⟩
    | some a =>
      refine (Try.slices_Clone_string_zero a c w).mono fun e w' ⟨v', he, ho, _, hb⟩ => ?_
      obtain ⟨B, d, rfl, h2⟩ := own v' w' ho hb
      exact ⟨B, d, he, h2⟩
  · obtain ⟨b1, o1, rfl, _, hc1⟩ := Rd.plain hz (by omega)
    refine (Try.slices_Clone_string b1 o1 zs.length c (zs.map fun l => ⟨l.toArray⟩) w (by simp) h1 (fun j hj => ?_)).mono fun e w' ⟨v', he, ho, _, hb⟩ => ?_
    · rw [bas]
      simp only [List.length_map] at hj
      exact hc1 j _ (by simp [SB, List.getElem?_eq_getElem hj, List.getD])
    · rw [List.take_of_length_le (by simp), List.map_map] at ho
      obtain ⟨B, d, rfl, h2⟩ := own v' w' ho hb
      exact ⟨B, d, he, h2⟩
end Go.Proofs.Ytmfglifjnoilnaa
