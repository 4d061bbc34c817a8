/-
  Plain laws of boxes: what stays may be, what goes goes in order.
-/
import Derived.Test.YtmfglifjnoilnaaBoxXD
namespace Go.Proofs.Ytmfglifjnoilnaa
open Go.RowKit
theorem mayB_iff {v n : Int} {l : List MsgP} : mayB ⟨v, n, l⟩ ↔ (1 ≤ v ∧ v ≤ 2147483647 ∧ 1 ≤ n ∧ n ≤ 2147483648 ∧ l.length ≤ 128) ∧ (l.map MsgP.uid).Pairwise (· < ·) ∧ ∀ m ∈ l, 0 < m.uid ∧ m.uid < n ∧ MsgOk m := by
  constructor
  · intro h
    have hr := rises h
    refine ⟨h.1, ?_, fun m hm => ?_⟩
    · rw [List.pairwise_iff_getElem]
      intro i j hi hj hij
      rw [List.getElem_map, List.getElem_map]
      exact hr i j (by simpa using hi) (by simpa using hj) hij
    · obtain ⟨j, hj, rfl⟩ := List.getElem_of_mem hm
      obtain ⟨h1, h2, h3⟩ := h.2 j hj
      refine ⟨?_, h2, h3⟩
      have h0 : ∀ j (hj : j < l.length), 0 < l[j].uid := by
        intro j
        induction j with
        | zero => intro hj; exact (h.2 0 hj).1
        | succ j ih =>
          intro hj
          have h4 := ih (by omega)
          have h5 := hr j (j + 1) (by omega) hj (by omega)
          omega
      exact h0 j hj
  · rintro ⟨h1, h2, h3⟩
    refine ⟨h1, fun j hj => ?_⟩
    obtain ⟨h4, h5, h6⟩ := h3 _ (List.getElem_mem hj)
    refine ⟨?_, h5, h6⟩
    cases j with
    | zero => exact h4
    | succ j =>
      rw [List.pairwise_iff_getElem] at h2
      have hj2 : j + 1 < l.length := hj
      have h7 := h2 j (j + 1) (by simp; omega) (by simpa using hj) (by omega)
      rw [List.getElem_map, List.getElem_map] at h7
      have hj' : j < l.length := by have : j + 1 < l.length := hj; omega
      show prevU l (j + 1) < _
      simp only [prevU, List.getElem?_eq_getElem hj', Option.map_some, Option.getD_some]
      exact h7
theorem mayB_sub {v n : Int} {l l' : List MsgP} (h : mayB ⟨v, n, l⟩) (hs : l'.Sublist l) : mayB ⟨v, n, l'⟩ := by
  rw [mayB_iff] at h ⊢
  obtain ⟨h1, h2, h3⟩ := h
  have := hs.length_le
  exact ⟨by omega, h2.sublist (hs.map _), fun m hm => h3 m (hs.subset hm)⟩
theorem appendB_may {b b' : BoxV} {m : MsgP} (h : appendB b m = .ok b') : mayB b ∧ mayB b' ∧ b'.next = b.next + 1 ∧ b'.l.length = b.l.length + 1 ∧ b'.valid = b.valid := by
  obtain ⟨v, n, l⟩ := b
  unfold appendB at h
  split at h
  · cases h
  · rename_i hc
    split at h
    · cases h
    · rename_i hl
      split at h
      · cases h
      · rename_i hn
        injection h with h
        subst h
        have hm : mayB ⟨v, n, l⟩ := Classical.byContradiction fun h => hc (.inl h)
        have hk : MsgOk m := Classical.byContradiction fun h => hc (.inr h)
        have hm0 := hm
        rw [mayB_iff] at hm
        obtain ⟨h1, h2, h3⟩ := hm
        simp only at hl hn
        refine ⟨hm0, mayB_iff.2 ⟨by simp; omega, ?_, ?_⟩, rfl, by simp, rfl⟩
        · rw [List.map_append, List.pairwise_append]
          refine ⟨h2, List.pairwise_singleton _ _, fun a ha b hb => ?_⟩
          obtain ⟨x, hx, rfl⟩ := List.mem_map.1 ha
          simp only [List.map_cons, List.map_nil, List.mem_singleton] at hb
          subst hb
          exact (h3 x hx).2.1
        · intro x hx
          rcases List.mem_append.1 hx with hx | hx
          · obtain ⟨h4, h5, h6⟩ := h3 x hx
            exact ⟨h4, show x.uid < n + 1 by omega, h6⟩
          · simp only [List.mem_singleton] at hx
            subst hx
            exact ⟨by show 0 < n; omega, by show n < n + 1; omega, hk⟩
theorem appendB_err {b : BoxV} {m : MsgP} {k : Nat} (h : appendB b m = .error k) (hb : mayB b) (hm : MsgOk m) : k = 5 ∨ k = 19 := by
  unfold appendB at h
  split at h
  · rename_i hc
    rcases hc with h1 | h1
    · exact absurd hb h1
    · exact absurd hm h1
  · split at h
    · injection h with h; exact .inl h.symm
    · split at h
      · injection h with h; exact .inr h.symm
      · cases h
theorem changeB_may {b b' : BoxV} {p o : Int} {f : List Tx} (h : changeB b p o f = .ok b') : mayB b' ∧ b'.next = b.next ∧ b'.l.length = b.l.length ∧ b'.valid = b.valid := by
  obtain ⟨v, n, l⟩ := b
  unfold changeB at h
  split at h
  · cases h
  · rename_i hm
    have hm := Classical.not_not.1 hm
    split at h
    · cases h
    · split at h
      · cases h
      · rename_i m hget
        split at h
        · cases h
        · rename_i r hr
          injection h with h
          subst h
          rw [mayB_iff] at hm
          obtain ⟨h1, h2, h3⟩ := hm
          have hck := changeF_check hr
          obtain ⟨hlt, hg⟩ := List.getElem?_eq_some_iff.1 hget
          have hmem : m ∈ l := by rw [← hg]; exact List.getElem_mem hlt
          have hu : ((l.set (p - 1).toNat { m with flags := r }).map MsgP.uid) = l.map MsgP.uid := by
            rw [List.map_set]
            apply List.ext_getElem?
            intro i
            rw [List.getElem?_set]
            split
            · rename_i hi
              subst hi
              simp only [List.length_map, hlt, if_true, List.getElem?_map, hget, Option.map_some]
            · rfl
          refine ⟨mayB_iff.2 ⟨by simpa using h1, ?_, fun x hx => ?_⟩, rfl, by simp, rfl⟩
          · show ((l.set (p - 1).toNat { m with flags := r }).map MsgP.uid).Pairwise (· < ·)
            rw [hu]; exact h2
          · rcases List.mem_or_eq_of_mem_set hx with h4 | rfl
            · exact h3 x h4
            · obtain ⟨h5, h6, h7⟩ := h3 m hmem
              exact ⟨h5, h6, h7.1, h7.2.1, h7.2.2.1, hck⟩
/-! ### one place after the other -/
theorem shiftP_get : ∀ (l : List Nat) (k i : Nat) (h : i < (shiftP k l).length) (h' : i < l.length), (shiftP k l)[i] = l[i] - (k + i)
  | [], k, i, _, h' => by simp at h'
  | a :: r, k, 0, _, _ => by simp [shiftP]
  | a :: r, k, i + 1, h, h' => by
    simp only [shiftP, List.getElem_cons_succ]
    rw [shiftP_get r (k + 1) i (by simpa [shiftP] using h) (by simpa using h')]
    omega
def delP (xs : List Mc) (p : Nat) : List Mc := xs.take (p - 1) ++ xs.drop p
/-- Each place is there, as it is then, with its blob; and behind all of them the last list is left. -/
def GoodP (last : List Mc) : List Mc → List Nat → List Nat → Prop
  | xs, [], bs => bs = [] ∧ xs = last
  | xs, p :: ps, bs => 1 ≤ p ∧ p ≤ xs.length ∧ (∃ b r, bs = b :: r ∧ (xs[p - 1]?.map fun x => x.m.blob) = some b ∧ GoodP last (delP xs p) ps r)
theorem good_places (q : MsgP → Bool) : ∀ (l pre : List Mc), GoodP (pre ++ l.filter fun x => !q x.m) (pre ++ l) (placesQ q pre.length (Ms l)) (((Ms l).filter q).map MsgP.blob)
  | [], pre => by simp [placesQ, GoodP, Ms]
  | a :: r, pre => by
    by_cases h : q a.m = true
    · have e1 : placesQ q pre.length (Ms (a :: r)) = (pre.length + 1) :: placesQ q pre.length (Ms r) := by simp [Ms, placesQ, h]
      have e2 : ((Ms (a :: r)).filter q).map MsgP.blob = a.m.blob :: ((Ms r).filter q).map MsgP.blob := by simp [Ms, h]
      have e3 : ((a :: r).filter fun x => !q x.m) = r.filter fun x => !q x.m := by simp [h]
      rw [e1, e2, e3]
      refine ⟨by omega, by simp, _, _, rfl, by simp, ?_⟩
      have e4 : delP (pre ++ a :: r) (pre.length + 1) = pre ++ r := by
        unfold delP
        rw [Nat.add_sub_cancel, List.take_left, List.drop_append, List.drop_eq_nil_of_le (by omega), Nat.add_sub_cancel_left]
        rfl
      rw [e4]
      exact good_places q r pre
    · have h := Bool.eq_false_iff.2 h
      have e1 : placesQ q pre.length (Ms (a :: r)) = placesQ q (pre ++ [a]).length (Ms r) := by simp [Ms, placesQ, h]
      have e2 : ((Ms (a :: r)).filter q).map MsgP.blob = ((Ms r).filter q).map MsgP.blob := by simp [Ms, h]
      have e3 : pre ++ ((a :: r).filter fun x => !q x.m) = (pre ++ [a]) ++ r.filter fun x => !q x.m := by simp [h]
      have e4 : pre ++ a :: r = (pre ++ [a]) ++ r := by simp
      rw [e1, e2, e3, e4]
      exact good_places q r (pre ++ [a])
theorem places_rise (q : MsgP → Bool) : ∀ (l : List MsgP) (k : Nat), (∀ p ∈ placesQ q k l, k + 1 ≤ p) ∧ (placesQ q k l).Pairwise (· ≤ ·)
  | [], k => by simp [placesQ]
  | a :: r, k => by
    unfold placesQ
    split
    · obtain ⟨h1, h2⟩ := places_rise q r k
      refine ⟨fun p hp => ?_, List.pairwise_cons.2 ⟨fun p hp => h1 p hp, h2⟩⟩
      rcases List.mem_cons.1 hp with rfl | hp
      · exact Nat.le_refl _
      · exact h1 p hp
    · obtain ⟨h1, h2⟩ := places_rise q r (k + 1)
      exact ⟨fun p hp => by have := h1 p hp; omega, h2⟩
theorem marks_none (q : MsgP → Bool) : ∀ (l : List MsgP) (i : Nat), (∀ m ∈ l, q m = false) → marksQ q i l = []
  | [], i, _ => rfl
  | a :: r, i, h => by
    have h1 := h a (by simp)
    simp only [marksQ, h1]
    exact marks_none q r (i + 1) fun m hm => h m (by simp [hm])
theorem goes_every (only : List Int) (m : MsgP) : goesQ true only m = goesQ true [] m := by
  unfold goesQ goesB
  simp
end Go.Proofs.Ytmfglifjnoilnaa
