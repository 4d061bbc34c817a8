/-
  Header and text of a letter are all of it; so of each part that is a letter: on plain lists.
-/
import Derived.Test.YtenbjndldenkfaaGreatDoorSecL0
namespace Go.Proofs.YtenbjndldenkfaaGreatDoor
open Go.RowKit
def GoodP (p : List Int) : Prop := ¬ (8 < p.length ∨ ∃ n ∈ p, BadN n)
theorem may_iff {p : List Int} {t : Tx} (hn : ¬ NamedW t) : MayW ⟨p, t, []⟩ ↔ GoodP p ∧ KindW ⟨p, t, []⟩ := by
  unfold MayW GoodP
  constructor
  · rintro ⟨h1, _, h3⟩
    exact ⟨h1, h3⟩
  · rintro ⟨h1, h3⟩
    refine ⟨h1, ?_, h3⟩
    rintro ((h | h) | h)
    · exact absurd h (show ¬ 16 < 0 by decide)
    · exact h ⟨fun h2 => absurd h2 hn, fun h2 => absurd h2 (show ¬ 0 < 0 by decide)⟩
    · obtain ⟨x, hx, _⟩ := h
      simp at hx
theorem slice_join {q : Tx} {a b c : Nat} (h1 : a ≤ b) (h2 : b ≤ c) (h3 : c ≤ q.length) : sliceQ q a b ++ sliceQ q b c = sliceQ q a c := by
  unfold sliceQ
  rw [show c - a = (b - a) + (c - b) by omega, List.take_add, List.drop_drop, show a + (b - a) = b by omega]
theorem slice_all (q : Tx) : sliceQ q 0 q.length = q := by unfold sliceQ; simp
theorem goodP_nil : GoodP [] := by unfold GoodP; simp
theorem find_nil (l : List Prt) : findPQ l [] = ((0 : Nat) : Int) := rfl
theorem whole_nil (q : Tx) : ∃ h t, getQ q ⟨[], hdrT, []⟩ = some h ∧ getQ q ⟨[], txtT, []⟩ = some t ∧ h ++ t = q ∧ getQ q ⟨[], [], []⟩ = some q ∧ getQ q ⟨[], mimT, []⟩ = none := by
  obtain ⟨hok, _, p, hp, e1, e2, e3, _⟩ := parts_ok q
  have hpo := hok 0 p hp
  have hw : ∀ (t : Tx), wholeQ (partsQ q) 0 ([] : List Int) = ((0 : Nat) : Int) := fun _ => by unfold wholeQ; rw [if_pos rfl]; rfl
  have key : ∀ t : Tx, ¬ NamedW t → KindW ⟨[], t, []⟩ → getQ q ⟨[], t, []⟩ = if t = [] ∧ (0 : Nat) = 0 then some q else if t = [] then some (sliceQ q p.body p.tu) else if t = mimT then some (sliceQ q p.frm p.body) else some (if t = txtT then sliceQ q p.body p.tu else sliceQ q p.frm p.body) := by
    intro t hn hk
    have hm : MayW ⟨[], t, []⟩ := (may_iff hn).2 ⟨goodP_nil, hk⟩
    have h1 : ¬ (¬ MayW ⟨[], t, []⟩ ∨ findPQ (partsQ q) [] < 0) := by
      rintro (h | h)
      · exact h hm
      · rw [find_nil] at h; omega
    have h2 := getQ_at (v := ⟨[], t, []⟩) h1 (find_nil _) hp
    rw [h2]
    have h3 : pickK q ⟨[], t, []⟩ 0 = some (if t = txtT then sliceQ q p.body p.tu else sliceQ q p.frm p.body) := pickK_at (v := ⟨[], t, []⟩) (hw t) hp
    rw [h3]
    rfl
  refine ⟨sliceQ q p.frm p.body, sliceQ q p.body p.tu, ?_, ?_, ?_, ?_, ?_⟩
  · rw [key hdrT (by decide) (by decide)]
    rw [if_neg (by decide), if_neg (by decide), if_neg (by decide), if_neg (by decide)]
  · rw [key txtT (by decide) (by decide)]
    rw [if_neg (by decide), if_neg (by decide), if_neg (by decide), if_pos rfl]
  · rw [slice_join hpo.1 hpo.2.1 hpo.2.2.1, e1, e3, slice_all]
  · rw [key [] (by decide) (by decide), if_pos ⟨rfl, rfl⟩]
  · unfold getQ
    rw [if_pos (.inl fun h => by have := h.2.2; revert this; decide)]
theorem get_none {q : Tx} {p : List Int} {t : Tx} (hn : ¬ NamedW t) (h : ¬ GoodP p ∨ findPQ (partsQ q) p < 0) : getQ q ⟨p, t, []⟩ = none := by
  unfold getQ
  rw [if_pos]
  rcases h with h | h
  · exact .inl fun hm => h ((may_iff hn).1 hm).1
  · exact .inr h
/-- What stands for a path that is not empty. -/
theorem whole_path {q : Tx} {p : List Int} (hp0 : p ≠ []) :
    (getQ q ⟨p, [], []⟩).isSome = (getQ q ⟨p, mimT, []⟩).isSome ∧ (getQ q ⟨p, hdrT, []⟩).isSome = (getQ q ⟨p, txtT, []⟩).isSome ∧
    ((getQ q ⟨p, hdrT, []⟩).isSome = true → (getQ q ⟨p, [], []⟩).isSome = true ∧ (getQ q ⟨p, hdrT, []⟩).getD [] ++ (getQ q ⟨p, txtT, []⟩).getD [] = (getQ q ⟨p, [], []⟩).getD []) := by
  by_cases hg : ¬ GoodP p ∨ findPQ (partsQ q) p < 0
  · rw [get_none (by decide) hg, get_none (t := mimT) (by decide) hg, get_none (t := hdrT) (by decide) hg, get_none (t := txtT) (by decide) hg]
    exact ⟨rfl, rfl, fun h => by cases h⟩
  · have hG : GoodP p := Classical.byContradiction fun h => hg (.inl h)
    obtain ⟨i, hil, hie⟩ : ∃ i : Nat, i < (partsQ q).length ∧ findPQ (partsQ q) p = (i : Int) := by
      rcases findL_res (partsQ q) p 0 true (parts_pos q) with h | h
      · exact absurd (.inr (by show findPQ (partsQ q) p < 0; unfold findPQ; omega)) hg
      · exact h
    have hpl : 0 < p.length := List.length_pos_iff.2 hp0
    have hpi := List.getElem?_eq_getElem hil
    generalize (partsQ q)[i] = pp at hpi
    have key : ∀ t : Tx, ¬ NamedW t → KindW ⟨p, t, []⟩ → getQ q ⟨p, t, []⟩ = if t = [] ∧ p.length = 0 then some q else if t = [] then some (sliceQ q pp.body pp.tu) else if t = mimT then some (sliceQ q pp.frm pp.body) else pickK q ⟨p, t, []⟩ i := by
      intro t hn hk
      refine getQ_at (v := ⟨p, t, []⟩) ?_ hie hpi
      rintro (h | h)
      · exact h ((may_iff hn).2 ⟨hG, hk⟩)
      · exact hg (.inr h)
    have k1 : getQ q ⟨p, [], []⟩ = some (sliceQ q pp.body pp.tu) := by rw [key [] (by decide) (.inl rfl), if_neg (by omega), if_pos rfl]
    have k2 : getQ q ⟨p, mimT, []⟩ = some (sliceQ q pp.frm pp.body) := by
      rw [key mimT (by decide) (.inr (.inr (.inr (.inr (.inr ⟨rfl, hpl⟩))))), if_neg (by rintro ⟨h, _⟩; exact absurd h (by decide)), if_neg (by decide), if_pos rfl]
    have k3 : getQ q ⟨p, hdrT, []⟩ = pickK q ⟨p, hdrT, []⟩ i := by
      rw [key hdrT (by decide) (.inr (.inl rfl)), if_neg (by rintro ⟨h, _⟩; exact absurd h (by decide)), if_neg (by decide), if_neg (by decide)]
    have k4 : getQ q ⟨p, txtT, []⟩ = pickK q ⟨p, txtT, []⟩ i := by
      rw [key txtT (by decide) (.inr (.inr (.inl rfl))), if_neg (by rintro ⟨h, _⟩; exact absurd h (by decide)), if_neg (by decide), if_neg (by decide)]
    rw [k1, k2, k3, k4]
    refine ⟨rfl, ?_⟩
    have hwe := wholeQ_at (l := partsQ q) (path := p) hpi
    rw [if_neg hp0] at hwe
    rcases wholeQ_res (partsQ q) i p (parts_pos q) with h | ⟨k, hkl, hke⟩
    · have h1 : ∀ t : Tx, pickK q ⟨p, t, []⟩ i = none := fun t => by unfold pickK; rw [if_pos (by show wholeQ (partsQ q) i p < 0; omega)]
      rw [h1, h1]
      exact ⟨rfl, fun h => by cases h⟩
    · have hpk := List.getElem?_eq_getElem hkl
      generalize (partsQ q)[k] = pk at hpk
      rw [pickK_at (v := ⟨p, hdrT, []⟩) hke hpk, pickK_at (v := ⟨p, txtT, []⟩) hke hpk]
      refine ⟨rfl, fun _ => ⟨rfl, ?_⟩⟩
      have hk2 : pp.kind = 2 := Classical.byContradiction fun h => by rw [if_pos h] at hwe; omega
      rw [if_neg (fun h => h hk2)] at hwe
      rcases kidQ_res (partsQ q) i 1 with h | ⟨j, pj, hj, hje, hup⟩
      · omega
      · have hjk : j = k := by omega
        subst hjk
        rw [hpk] at hj
        cases hj
        obtain ⟨hok, _, _⟩ := parts_ok q
        obtain ⟨a1, a2, a3, _, _, a6⟩ := hok j pk hpk
        have a7 := a6 (by omega) pp (by rw [hup, Int.toNat_natCast]; exact hpi) hk2
        show (if hdrT = txtT then sliceQ q pk.body pk.tu else sliceQ q pk.frm pk.body) ++ (if txtT = txtT then sliceQ q pk.body pk.tu else sliceQ q pk.frm pk.body) = sliceQ q pp.body pp.tu
        rw [if_neg (by decide), if_pos rfl, slice_join a1 a2 a3, a7.1, a7.2]
end Go.Proofs.YtenbjndldenkfaaGreatDoor
