/-
  Sections of a letter on plain lists; how its parts lie.
-/
import Derived.Test.YtenbjndldenkfaaGreatDoorPartQ
namespace Go.Proofs.YtenbjndldenkfaaGreatDoor
open Go.RowKit

/-! ### how parts lie -/
/-- What a part of a letter has: it lies among the octets, and just as the letter's body that it is of. -/
def PartOk (N : Nat) (l : List Prt) (k : Nat) (p : Prt) : Prop :=
  p.frm ≤ p.body ∧ p.body ≤ p.tu ∧ p.tu ≤ N ∧ p.kind ≤ 2 ∧ p.up < (k : Int) ∧ (0 ≤ p.up → ∀ u, l[p.up.toNat]? = some u → u.kind = 2 → p.frm = u.body ∧ p.tu = u.tu)
def AllOk (N : Nat) (l : List Prt) : Prop := ∀ (k : Nat) (p : Prt), l[k]? = some p → PartOk N l k p
/-- The parts that were there are there yet, but for how many they have within. -/
def Ext (l l2 : List Prt) : Prop := l.length ≤ l2.length ∧ ∀ (k : Nat) (p : Prt), l[k]? = some p → ∃ j, l2[k]? = some { p with kids := j }
theorem Ext.refl (l : List Prt) : Ext l l := ⟨Nat.le_refl _, fun _ p h => ⟨p.kids, h⟩⟩
theorem Ext.trans {a b c : List Prt} (h : Ext a b) (k : Ext b c) : Ext a c := ⟨Nat.le_trans h.1 k.1, fun i p hp => by
  obtain ⟨j, hj⟩ := h.2 i p hp
  obtain ⟨j2, hj2⟩ := k.2 i _ hj
  exact ⟨j2, hj2⟩⟩
theorem kid1_len (l : List Prt) (up : Int) : (kid1 l up).length = l.length := by unfold kid1; split <;> simp
theorem kid1_ext (l : List Prt) (up : Int) : Ext l (kid1 l up) := by
  refine ⟨by rw [kid1_len]; exact Nat.le_refl _, fun k p h => ?_⟩
  unfold kid1
  split
  · rw [List.getElem?_modify, h]
    by_cases e : up.toNat = k
    · exact ⟨p.kids + 1, by simp [e]⟩
    · exact ⟨p.kids, by simp [e]⟩
  · exact ⟨p.kids, h⟩
theorem snoc_ext (l : List Prt) (p : Prt) : Ext l (l ++ [p]) := ⟨by simp, fun k q h => ⟨q.kids, by
  have := (List.getElem?_eq_some_iff.1 h).1
  rw [List.getElem?_append_left this, h]⟩⟩
theorem setK_len (l : List Prt) (i k : Nat) : (setK l i k).length = l.length := by unfold setK; simp
theorem setK_get (l : List Prt) (i k j : Nat) : (setK l i k)[j]? = (l[j]?).map (fun p => if i = j then { p with kind := k } else p) := by
  unfold setK
  rw [List.getElem?_modify]
  cases l[j]? with
  | none => rfl
  | some p => by_cases e : i = j <;> simp [e]
theorem kid1_get (l : List Prt) (up : Int) (j : Nat) {p : Prt} (h : (kid1 l up)[j]? = some p) : ∃ q, l[j]? = some q ∧ ∃ c, p = { q with kids := c } := by
  unfold kid1 at h
  split at h
  · rw [List.getElem?_modify] at h
    cases hl : l[j]? with
    | none => rw [hl] at h; simp at h
    | some q =>
      rw [hl] at h
      simp only [Option.map_eq_map, Option.map_some, Option.some.injEq] at h
      by_cases e : up.toNat = j
      · rw [if_pos e] at h; exact ⟨q, rfl, _, h.symm⟩
      · rw [if_neg e] at h; exact ⟨q, rfl, q.kids, h.symm⟩
  · exact ⟨p, h, p.kids, rfl⟩

/-- The entry of a part stays but for its kind and how many it has within. -/
def Lies (l : List Prt) (i frm body tu : Nat) (up : Int) : Prop := ∃ q, l[i]? = some q ∧ q.frm = frm ∧ q.body = body ∧ q.tu = tu ∧ q.up = up
theorem Lies.ext {l l2 : List Prt} {i a b c : Nat} {up : Int} (h : Lies l i a b c up) (k : Ext l l2) : Lies l2 i a b c up := by
  obtain ⟨q, h1, h2, h3, h4, h5⟩ := h
  obtain ⟨j, hj⟩ := k.2 i q h1
  exact ⟨_, hj, h2, h3, h4, h5⟩
theorem Lies.set {l : List Prt} {i a b c j k : Nat} {up : Int} (h : Lies l i a b c up) : Lies (setK l j k) i a b c up := by
  obtain ⟨q, h1, h2, h3, h4, h5⟩ := h
  rw [Lies]
  rw [setK_get, h1]
  by_cases e : j = i
  · exact ⟨{ q with kind := k }, by simp [e], h2, h3, h4, h5⟩
  · exact ⟨q, by simp [e], h2, h3, h4, h5⟩
theorem setK_ext {l l2 : List Prt} {i k : Nat} (h : Ext l l2) (hi : l.length ≤ i) : Ext l (setK l2 i k) := by
  refine ⟨by rw [setK_len]; exact h.1, fun j p hp => ?_⟩
  obtain ⟨c, hc⟩ := h.2 j p hp
  have hj := (List.getElem?_eq_some_iff.1 hp).1
  refine ⟨c, ?_⟩
  rw [setK_get, hc]
  simp [show i ≠ j by omega]
theorem set1_ok {N : Nat} {l : List Prt} (h : AllOk N l) (i : Nat) : AllOk N (setK l i 1) := by
  intro k p hp
  rw [setK_get] at hp
  cases hl : l[k]? with
  | none => rw [hl] at hp; cases hp
  | some q =>
    rw [hl] at hp
    simp only [Option.map_some, Option.some.injEq] at hp
    obtain ⟨h1, h2, h3, h4, h5, h6⟩ := h k q hl
    have hu : ∀ u, (setK l i 1)[q.up.toNat]? = some u → u.kind = 2 → ∃ u2, l[q.up.toNat]? = some u2 ∧ u2.kind = 2 ∧ u2.body = u.body ∧ u2.tu = u.tu := by
      intro u hu hk
      rw [setK_get] at hu
      cases hl2 : l[q.up.toNat]? with
      | none => rw [hl2] at hu; cases hu
      | some u2 =>
        rw [hl2] at hu
        simp only [Option.map_some, Option.some.injEq] at hu
        split at hu
        · subst hu; simp at hk
        · subst hu; exact ⟨u2, rfl, hk, rfl, rfl⟩
    by_cases e : i = k
    · rw [if_pos e] at hp
      subst hp
      refine ⟨h1, h2, h3, by show (1 : Nat) ≤ 2; omega, h5, fun hup u hu2 hk => ?_⟩
      obtain ⟨u2, e1, e2, e3, e4⟩ := hu u hu2 hk
      have := h6 hup u2 e1 e2
      exact ⟨this.1.trans e3, this.2.trans e4⟩
    · rw [if_neg e] at hp
      subst hp
      refine ⟨h1, h2, h3, h4, h5, fun hup u hu2 hk => ?_⟩
      obtain ⟨u2, e1, e2, e3, e4⟩ := hu u hu2 hk
      have := h6 hup u2 e1 e2
      exact ⟨this.1.trans e3, this.2.trans e4⟩
/-- The last part becomes a letter: nothing is within it yet. -/
theorem set2_ok {N : Nat} {l : List Prt} (h : AllOk N l) {i : Nat} (hi : l.length = i + 1) : AllOk N (setK l i 2) := by
  intro k p hp
  rw [setK_get] at hp
  cases hl : l[k]? with
  | none => rw [hl] at hp; cases hp
  | some q =>
    rw [hl] at hp
    simp only [Option.map_some, Option.some.injEq] at hp
    have hk := (List.getElem?_eq_some_iff.1 hl).1
    obtain ⟨h1, h2, h3, h4, h5, h6⟩ := h k q hl
    have hne : 0 ≤ q.up → i ≠ q.up.toNat := fun hup => by omega
    have hu : 0 ≤ q.up → ∀ u, (setK l i 2)[q.up.toNat]? = some u → l[q.up.toNat]? = some u := by
      intro hup u hu
      rw [setK_get] at hu
      cases hl2 : l[q.up.toNat]? with
      | none => rw [hl2] at hu; cases hu
      | some u2 =>
        rw [hl2] at hu
        simp only [Option.map_some, Option.some.injEq] at hu
        rw [if_neg (hne hup)] at hu
        rw [hu]
    by_cases e : i = k
    · rw [if_pos e] at hp
      subst hp
      exact ⟨h1, h2, h3, by show (2 : Nat) ≤ 2; omega, h5, fun hup u hu2 hk2 => h6 hup u (hu hup u hu2) hk2⟩
    · rw [if_neg e] at hp
      subst hp
      exact ⟨h1, h2, h3, h4, h5, fun hup u hu2 hk2 => h6 hup u (hu hup u hu2) hk2⟩
theorem add_ok {N : Nat} {l : List Prt} {p : Prt} (h : AllOk N l) (h1 : p.frm ≤ p.body) (h2 : p.body ≤ p.tu) (h3 : p.tu ≤ N) (h4 : p.kind = 0) (h5 : p.up < (l.length : Int)) (h6 : 0 ≤ p.up → ∀ u, l[p.up.toNat]? = some u → u.kind = 2 → p.frm = u.body ∧ p.tu = u.tu) (up : Int) : AllOk N (kid1 (l ++ [p]) up) := by
  intro k q hq
  obtain ⟨q2, hq2, c, rfl⟩ := kid1_get _ _ _ hq
  have hu : ∀ (j : Nat) (u : Prt), j < l.length → (kid1 (l ++ [p]) up)[j]? = some u → ∃ u2, l[j]? = some u2 ∧ u2.kind = u.kind ∧ u2.body = u.body ∧ u2.tu = u.tu := by
    intro j u hj hu
    obtain ⟨u2, hu2, c2, rfl⟩ := kid1_get _ _ _ hu
    rw [List.getElem?_append_left hj] at hu2
    exact ⟨u2, hu2, rfl, rfl, rfl⟩
  by_cases hk : k < l.length
  · rw [List.getElem?_append_left hk] at hq2
    obtain ⟨g1, g2, g3, g4, g5, g6⟩ := h k q2 hq2
    refine ⟨g1, g2, g3, g4, g5, fun hup u hu1 hk2 => ?_⟩
    have hup : 0 ≤ q2.up := hup
    obtain ⟨u2, e1, e2, e3, e4⟩ := hu q2.up.toNat u (by omega) hu1
    have := g6 hup u2 e1 (e2.trans hk2)
    exact ⟨this.1.trans e3, this.2.trans e4⟩
  · have hkl : k = l.length := by
      have := (List.getElem?_eq_some_iff.1 hq2).1
      simp at this
      omega
    subst hkl
    rw [List.getElem?_concat_length] at hq2
    cases hq2
    refine ⟨h1, h2, h3, by show p.kind ≤ 2; omega, h5, fun hup u hu1 hk2 => ?_⟩
    have hup : 0 ≤ p.up := hup
    obtain ⟨u2, e1, e2, e3, e4⟩ := hu p.up.toNat u (by omega) hu1
    have := h6 hup u2 e1 (e2.trans hk2)
    exact ⟨this.1.trans e3, this.2.trans e4⟩
theorem fnd_ok (s : Tx) : ∀ (n : Nat) (l : List Prt) (frm tu : Nat) (up : Int) (dg : Bool), frm ≤ tu → tu ≤ s.length → l.length ≤ 64 → AllOk s.length l → up < (l.length : Int) → (0 ≤ up → ∀ u, l[up.toNat]? = some u → u.kind = 2 → frm = u.body ∧ tu = u.tu) →
    AllOk s.length (fndQ s n l frm tu up dg) ∧ Ext l (fndQ s n l frm tu up dg) ∧ (fndQ s n l frm tu up dg).length ≤ 64 ∧ (l.length < 64 → Lies (fndQ s n l frm tu up dg) l.length frm (frm + splitQ (sliceQ s frm tu)) tu up) := by
  intro n
  induction n with
  | zero =>
    intro l frm tu up dg hft hts hl hok hup hu
    unfold fndQ
    by_cases h64 : l.length = 64
    · rw [if_pos h64]; exact ⟨hok, Ext.refl l, hl, fun h => absurd h (by omega)⟩
    rw [if_neg h64]
    have hsp : splitQ (sliceQ s frm tu) ≤ tu - frm := by have := splitQ_le (sliceQ s frm tu); rw [sliceQ_len hts] at this; exact this
    refine ⟨add_ok hok (by dsimp only; omega) (by dsimp only; omega) hts rfl hup hu up, (snoc_ext _ _).trans (kid1_ext _ _), by rw [kid1_len]; simp; omega, fun _ => ?_⟩
    have : Lies (l ++ [(⟨0, frm, frm + splitQ (sliceQ s frm tu), tu, mediaQ (sliceQ s frm tu) dg, up, 0⟩ : Prt)]) l.length frm (frm + splitQ (sliceQ s frm tu)) tu up := ⟨_, List.getElem?_concat_length .., rfl, rfl, rfl, rfl⟩
    exact this.ext (kid1_ext _ _)
  | succ n ih =>
    intro l frm tu up dg hft hts hl hok hup hu
    unfold fndQ
    by_cases h64 : l.length = 64
    · rw [if_pos h64]; exact ⟨hok, Ext.refl l, hl, fun h => absurd h (by omega)⟩
    rw [if_neg h64]
    have hsp : splitQ (sliceQ s frm tu) ≤ tu - frm := by have := splitQ_le (sliceQ s frm tu); rw [sliceQ_len hts] at this; exact this
    have hok1 := add_ok (p := ⟨0, frm, frm + splitQ (sliceQ s frm tu), tu, mediaQ (sliceQ s frm tu) dg, up, 0⟩) hok (by dsimp only; omega) (by dsimp only; omega) hts rfl hup hu up
    have hex1 : Ext l (kid1 (l ++ [(⟨0, frm, frm + splitQ (sliceQ s frm tu), tu, mediaQ (sliceQ s frm tu) dg, up, 0⟩ : Prt)]) up) := (snoc_ext _ _).trans (kid1_ext _ _)
    have hlen1 : (kid1 (l ++ [(⟨0, frm, frm + splitQ (sliceQ s frm tu), tu, mediaQ (sliceQ s frm tu) dg, up, 0⟩ : Prt)]) up).length = l.length + 1 := by rw [kid1_len]; simp
    have hli1 : Lies (kid1 (l ++ [(⟨0, frm, frm + splitQ (sliceQ s frm tu), tu, mediaQ (sliceQ s frm tu) dg, up, 0⟩ : Prt)]) up) l.length frm (frm + splitQ (sliceQ s frm tu)) tu up := by
      have : Lies (l ++ [(⟨0, frm, frm + splitQ (sliceQ s frm tu), tu, mediaQ (sliceQ s frm tu) dg, up, 0⟩ : Prt)]) l.length frm (frm + splitQ (sliceQ s frm tu)) tu up := ⟨_, List.getElem?_concat_length .., rfl, rfl, rfl, rfl⟩
      exact this.ext (kid1_ext _ _)
    dsimp only
    generalize hm : mediaQ (sliceQ s frm tu) dg = m at *
    generalize hbd : frm + splitQ (sliceQ s frm tu) = body at *
    generalize kid1 (l ++ [(⟨0, frm, body, tu, m, up, 0⟩ : Prt)]) up = l1 at *
    by_cases hlet : IsLet m
    · rw [if_pos hlet]
      have hex2 := setK_ext (k := 2) hex1 (Nat.le_refl _)
      have hlen2 : (setK l1 l.length 2).length = l.length + 1 := by rw [setK_len, hlen1]
      obtain ⟨r1, r2, r3, _⟩ := ih (setK l1 l.length 2) body tu (l.length : Int) false (by omega) hts (by omega) (set2_ok hok1 hlen1) (by omega) (fun _ u hu1 _ => by
        obtain ⟨q, e1, e2, e3, e4, e5⟩ := (hli1.set (j := l.length) (k := 2))
        rw [Int.toNat_natCast, e1] at hu1
        cases hu1
        exact ⟨e3.symm, e4.symm⟩)
      exact ⟨r1, hex2.trans r2, r3, fun _ => (hli1.set).ext r2⟩
    · rw [if_neg hlet]
      split
      · exact ⟨hok1, hex1, by omega, fun _ => hli1⟩
      · have hsps := spansQ_ok (s := s) (bd := (findQ m.ps bndT).1) (frm := body) (tu := tu) (by omega) hts
        generalize spansQ s (findQ m.ps bndT).1 body tu = sp at *
        have key : ∀ (sp : List (Nat × Nat)) (acc : List Prt), (∀ x ∈ sp, body ≤ x.1 ∧ x.1 ≤ x.2 ∧ x.2 ≤ tu) → AllOk s.length acc → Ext l acc → acc.length ≤ 64 → l.length < acc.length → Lies acc l.length frm body tu up →
            (AllOk s.length (sp.foldl (fun acc x => fndQ s n (setK acc l.length 1) x.1 x.2 (l.length : Int) (decide (m.sub = digT))) acc) ∧ Ext l (sp.foldl (fun acc x => fndQ s n (setK acc l.length 1) x.1 x.2 (l.length : Int) (decide (m.sub = digT))) acc) ∧ (sp.foldl (fun acc x => fndQ s n (setK acc l.length 1) x.1 x.2 (l.length : Int) (decide (m.sub = digT))) acc).length ≤ 64 ∧ Lies (sp.foldl (fun acc x => fndQ s n (setK acc l.length 1) x.1 x.2 (l.length : Int) (decide (m.sub = digT))) acc) l.length frm body tu up) := by
          intro sp
          induction sp with
          | nil => exact fun acc _ a b c _ d => ⟨a, b, c, d⟩
          | cons x r ihs =>
            intro acc hb ha he hle hlt hli
            have hx := hb x (by simp)
            have hk : (setK acc l.length 1).length = acc.length := setK_len _ _ _
            obtain ⟨r1, r2, r3, _⟩ := ih (setK acc l.length 1) x.1 x.2 (l.length : Int) (decide (m.sub = digT)) hx.2.1 (by omega) (by omega) (set1_ok ha _) (by omega) (fun _ u hu1 hk2 => by
              rw [Int.toNat_natCast, setK_get] at hu1
              cases hc : acc[l.length]? with
              | none => rw [hc] at hu1; cases hu1
              | some u2 =>
                rw [hc] at hu1
                simp only [Option.map_some, if_true, Option.some.injEq] at hu1
                subst hu1
                simp at hk2)
            rw [List.foldl_cons]
            exact ihs _ (fun y hy => hb y (by simp [hy])) r1 ((setK_ext he (Nat.le_refl _)).trans r2) r3 (by have := r2.1; omega) ((hli.set).ext r2)
        obtain ⟨r1, r2, r3, r4⟩ := key sp l1 hsps hok1 hex1 (by omega) (by omega) hli1
        exact ⟨r1, r2, r3, fun _ => r4⟩
theorem parts_ok (s : Tx) : AllOk s.length (partsQ s) ∧ (partsQ s).length ≤ 64 ∧ Lies (partsQ s) 0 0 (splitQ s) s.length (-1) := by
  obtain ⟨h1, _, h3, h4⟩ := fnd_ok s 6 [] 0 s.length (-1) false (Nat.zero_le _) (Nat.le_refl _) (by simp) (fun k p h => by simp at h) (by simp) (fun h => absurd h (by decide))
  have h4 := h4 (by simp)
  have hs0 : sliceQ s 0 s.length = s := by unfold sliceQ; simp
  rw [hs0, Nat.zero_add] at h4
  exact ⟨h1, h3, h4⟩
end Go.Proofs.YtenbjndldenkfaaGreatDoor
