/-
  A letter that is made of some parts has just these, on plain lists.
-/
import Derived.Test.YtenbjndldenkfaaGreatDoorPartP
namespace Go.Proofs.YtenbjndldenkfaaGreatDoor
open Go.RowKit

theorem linesF_app : ∀ {a : Tx} (b : Tx), (a = [] ∨ a.getLast? = some 10) → linesF (a ++ b) = linesF a ++ linesF b
  | [], b, _ => rfl
  | x :: r, b, h => by
    have h : (x :: r).getLast? = some 10 := h.resolve_left (by simp)
    have hr : r = [] ∨ r.getLast? = some 10 := by
      cases r with
      | nil => exact .inl rfl
      | cons y t => rw [List.getLast?_cons_cons] at h; exact .inr h
    have ih := linesF_app b hr
    show linesF (x :: (r ++ b)) = _
    by_cases hx : x = 10
    · rw [linesF, if_pos hx, ih]
      conv => rhs; rw [linesF, if_pos hx]
      rfl
    · rw [linesF, if_neg hx, ih]
      conv => rhs; rw [linesF, if_neg hx]
      cases hl : linesF r with
      | nil =>
        have := linesF_flat r
        rw [hl] at this
        have hrn : r = [] := this.symm
        subst hrn
        simp only [List.getLast?_singleton, Option.some.injEq] at h
        exact absurd h hx
      | cons p ps => rfl
theorem linesF_mem {l a : Tx} (h : l ∈ linesF a) {c : UInt8} (hc : c ∈ l) : c ∈ a := by
  rw [← linesF_flat a]
  exact List.mem_flatten.2 ⟨l, h, hc⟩
theorem bareL_mem {l : Tx} {c : UInt8} (h : c ∈ bareL l) : c ∈ l := by
  unfold bareL at h
  split at h
  · split at h
    · exact List.dropLast_subset _ (List.dropLast_subset _ h)
    · exact List.dropLast_subset _ h
  · exact h
theorem partsL_nodash {bd l : Tx} (h : ∀ c ∈ l, c ≠ 45) : (partsL bd l).1 = false := by
  have e : cutPre (dash2 ++ bd) (bareL l) = none := by
    unfold cutPre
    rw [if_neg]
    intro hp
    have hp2 := List.isPrefixOf_iff_prefix.1 hp
    have : (45 : UInt8) ∈ bareL l := hp2.subset (by simp [dash2])
    exact h 45 (bareL_mem this) rfl
  unfold partsL
  rw [e]
theorem spnL_skip (s bd : Tx) (tu : Nat) : ∀ (a : List Tx) (o : Nat) (bg : Option Nat) (out : List (Nat × Nat)) (r : List Tx), (∀ l ∈ a, (partsL bd l).1 = false) → spnL s bd tu o bg out (a ++ r) = spnL s bd tu (o + a.flatten.length) bg out r
  | [], o, bg, out, r, _ => rfl
  | l :: a, o, bg, out, r, h => by
    show spnL s bd tu o bg out (l :: (a ++ r)) = _
    rw [spnL, if_pos (h l (by simp)), spnL_skip s bd tu a _ bg out r (fun x hx => h x (by simp [hx]))]
    congr 1
    simp
    omega
def qqT : Tx := [113, 113]
def sgnT : Tx := [45, 45, 113, 113, 10]
/-- 'Content-Type: multipart/mixed; boundary=qq', and an empty line. -/
def headT : Tx := [67, 111, 110, 116, 101, 110, 116, 45, 84, 121, 112, 101, 58, 32, 109, 117, 108, 116, 105, 112, 97, 114, 116, 47, 109, 105, 120, 101, 100, 59, 32, 98, 111, 117, 110, 100, 97, 114, 121, 61, 113, 113, 10, 10]
/-- What stands behind the last part, from its line on. -/
def endL : Tx := [45, 45, 113, 113, 45, 45, 10]
def finT : Tx := endL ++ [45, 45, 113, 113, 10, 10, 110, 111, 32, 109, 111, 114, 101]
def segT (xs : List Tx) : Tx := xs.flatMap fun x => sgnT ++ (x ++ [10])
def segL (xs : List Tx) : List Tx := xs.flatMap fun x => sgnT :: linesF (x ++ [10])
theorem segT_last (xs : List Tx) : segT xs = [] ∨ (segT xs).getLast? = some 10 := by
  rcases List.eq_nil_or_concat xs with rfl | ⟨t, x, rfl⟩
  · exact .inl rfl
  · right
    rw [List.concat_eq_append]
    unfold segT
    rw [List.flatMap_append]
    simp only [List.flatMap_cons, List.flatMap_nil, List.append_nil]
    rw [show (List.flatMap (fun x => sgnT ++ (x ++ [10])) t) ++ (sgnT ++ (x ++ [10])) = ((List.flatMap (fun x => sgnT ++ (x ++ [10])) t) ++ (sgnT ++ x)) ++ [10] by simp, List.getLast?_concat]
theorem segL_of : ∀ xs : List Tx, linesF (segT xs) = segL xs
  | [] => rfl
  | x :: r => by
    show linesF ((sgnT ++ (x ++ [10])) ++ segT r) = _
    have h1 : (sgnT ++ (x ++ [10])).getLast? = some 10 := by
      rw [show sgnT ++ (x ++ [10]) = (sgnT ++ x) ++ [10] by simp, List.getLast?_concat]
    rw [linesF_app _ (.inr h1), linesF_app _ (.inr (by decide)), segL_of r]
    have e : linesF sgnT = [sgnT] := by decide
    rw [e]
    rfl
/-- The spans of parts that stand one behind the other. -/
def mkS : Nat → List Tx → List (Nat × Nat)
  | _, [] => []
  | o, x :: r => (o + 5, o + 5 + x.length) :: mkS (o + 5 + x.length + 1) r
theorem sgn_parts : partsL qqT sgnT = (true, false) := by decide
theorem end_parts : partsL qqT endL = (true, true) := by decide
theorem spn_segs (s : Tx) (tu : Nat) (fl : List Tx) : ∀ (xs : List Tx) (o : Nat) (bg : Option Nat) (out : List (Nat × Nat)), (∀ x ∈ xs, x ≠ [] ∧ ∀ c ∈ x, c ≠ 45 ∧ c ≠ 13) → s.drop o = segT xs ++ finT →
    spnL s qqT tu o bg out (segL xs ++ endL :: fl) = addB s o bg out ++ mkS o xs
  | [], o, bg, out, _, _ => by
    show spnL s qqT tu o bg out (endL :: fl) = _
    rw [spnL, if_neg (by rw [end_parts]; simp), if_pos (by rw [end_parts])]
    simp [mkS]
  | x :: r, o, bg, out, h, hs => by
    have hx := h x (by simp)
    have hd : s.drop o = sgnT ++ (x ++ ([10] ++ (segT r ++ finT))) := by
      rw [hs]
      show (sgnT ++ (x ++ [10])) ++ segT r ++ finT = _
      simp
    have hget : ∀ k, s[o + k]? = (sgnT ++ (x ++ ([10] ++ (segT r ++ finT))))[k]? := fun k => by rw [← hd, List.getElem?_drop]
    show spnL s qqT tu o bg out (sgnT :: (linesF (x ++ [10]) ++ segL r) ++ endL :: fl) = _
    rw [List.cons_append, spnL, if_neg (by rw [sgn_parts]; simp), if_neg (by rw [sgn_parts]; simp), List.append_assoc]
    rw [spnL_skip]
    · rw [linesF_flat]
      have hl5 : sgnT.length = 5 := rfl
      have hlen : o + sgnT.length + (x ++ [10]).length = o + 5 + x.length + 1 := by simp [hl5]; omega
      rw [hlen, spn_segs s tu fl r _ _ _ (fun y hy => h y (by simp [hy]))]
      · have hx0 : 0 < x.length := List.length_pos_iff.2 hx.1
        have h10 : s[o + 5 + x.length + 1 - 1]? = some 10 := by
          rw [show o + 5 + x.length + 1 - 1 = o + (5 + x.length) by omega, hget, List.getElem?_append_right (by rw [hl5]; omega), List.getElem?_append_right (by rw [hl5]; omega)]
          rw [hl5, show 5 + x.length - 5 - x.length = 0 by omega]
          rfl
        have h13 : ¬ s[o + 5 + x.length + 1 - 2]? = some 13 := by
          rw [show o + 5 + x.length + 1 - 2 = o + (5 + (x.length - 1)) by omega, hget, List.getElem?_append_right (by rw [hl5]; omega), hl5, show 5 + (x.length - 1) - 5 = x.length - 1 by omega, List.getElem?_append_left (by omega)]
          intro e
          exact (hx.2 13 (List.mem_of_getElem? e)).2 rfl
        have ha : aheadQ s (o + sgnT.length) (o + 5 + x.length + 1) = o + 5 + x.length := by
          unfold aheadQ
          rw [hl5, if_pos ⟨by omega, h10⟩, if_neg (fun e => h13 e.2)]
          omega
        show addB s o bg out ++ [(o + sgnT.length, aheadQ s (o + sgnT.length) (o + 5 + x.length + 1))] ++ mkS _ r = addB s o bg out ++ ((o + 5, o + 5 + x.length) :: mkS _ r)
        rw [ha, hl5]
        simp
      · rw [show o + 5 + x.length + 1 = o + (5 + x.length + 1) by omega, ← List.drop_drop, hd]
        rw [show (sgnT ++ (x ++ ([10] ++ (segT r ++ finT)))) = (sgnT ++ (x ++ [10])) ++ (segT r ++ finT) by simp]
        rw [List.drop_left' (by simp [hl5]; omega)]
    · intro l hl
      exact partsL_nodash fun c hc => by
        rcases List.mem_append.1 (linesF_mem hl hc) with h1 | h1
        · exact (hx.2 c h1).1
        · simp only [List.mem_singleton] at h1
          subst h1
          decide
/-- The letter. -/
def madeT (ah : Tx) (xs : List Tx) : Tx := headT ++ ((ah ++ [10]) ++ (segT xs ++ finT))
theorem made_lines (ah : Tx) (xs : List Tx) : linesF (madeT ah xs) = linesF headT ++ (linesF (ah ++ [10]) ++ (segL xs ++ linesF finT)) := by
  unfold madeT
  rw [linesF_app _ (.inr (by decide)), linesF_app _ (.inr (List.getLast?_concat ..)), linesF_app _ (segT_last xs), segL_of]
theorem made_split (ah : Tx) (xs : List Tx) : splitQ (madeT ah xs) = 44 := by
  unfold splitQ
  rw [made_lines]
  have e : linesF headT = [headT.take 43, [10]] := by decide
  rw [e]
  show splitL (headT.take 43 :: [10] :: _) = 44
  rw [splitL, if_neg (by decide), splitL, if_pos (by decide)]
  rfl
theorem made_take (ah : Tx) (xs : List Tx) : (madeT ah xs).take 44 = headT := by
  unfold madeT
  exact List.take_left' rfl
theorem made_drop (ah : Tx) (xs : List Tx) : (madeT ah xs).drop 44 = (ah ++ [10]) ++ (segT xs ++ finT) := by
  unfold madeT
  exact List.drop_left' rfl
theorem head_fields : fldL 0 false [] (linesF headT) = [⟨ctype, 0, 43, 13⟩] := by rfl
theorem head_media : medQ (trimQ ((linesF ((headT.drop 13).take 30)).map bareL).flatten) = ⟨multT, [109, 105, 120, 101, 100], [(bndT, qqT)]⟩ := Med.of (by decide +kernel) (by decide +kernel) (by decide +kernel)
theorem made_media (ah : Tx) (xs : List Tx) (dg : Bool) : mediaQ (madeT ah xs) dg = ⟨multT, [109, 105, 120, 101, 100], [(bndT, qqT)]⟩ := by
  have hf : fieldsQ (madeT ah xs) = [⟨ctype, 0, 43, 13⟩] := by
    unfold fieldsQ
    rw [made_split, made_take]
    exact head_fields
  have ht : ((madeT ah xs).drop 13).take 30 = (headT.drop 13).take 30 := by
    unfold madeT
    rw [List.drop_append_of_le_length (by decide), List.take_append_of_le_length (by decide)]
  have hh : findH (madeT ah xs) ctype = (trimQ ((linesF ((headT.drop 13).take 30)).map bareL).flatten, true) := by
    unfold findH
    rw [hf]
    unfold findF
    rw [if_pos rfl]
    unfold textQ
    rw [show (43 : Nat) - 13 = 30 from rfl, ht]
  unfold mediaQ
  rw [hh, if_neg (by simp), head_media]
theorem nil_media : mediaQ [10] false = med0 ∧ splitQ [10] = 1 := by
  refine ⟨?_, by decide⟩
  unfold mediaQ
  rw [if_neg (by simp)]
  exact Med.of (by decide +kernel) (by decide +kernel) (by decide +kernel)
theorem leaf_media (x : Tx) : mediaQ (10 :: x) false = med0 ∧ splitQ (10 :: x) = 1 := by
  have hs : splitQ (10 :: x) = 1 := by
    unfold splitQ
    rw [linesF, if_pos rfl, splitL, if_pos (by decide)]
    rfl
  refine ⟨?_, hs⟩
  have hf : fieldsQ (10 :: x) = [] := by
    unfold fieldsQ
    rw [hs]
    show fldL 0 false [] (linesF [10]) = []
    rw [show linesF [10] = [[10]] by decide, fldL, if_pos (by decide)]
  have hh : findH (10 :: x) ctype = ([], false) := by unfold findH; rw [hf]; rfl
  unfold mediaQ
  rw [hh, if_neg (by simp)]
  exact Med.of (by decide +kernel) (by decide +kernel) (by decide +kernel)
/-- The parts within: each with the line ahead of what it has. -/
def leafP (a b : Nat) : Prt := ⟨0, a, a + 1, b, med0, 0, 0⟩
theorem fnd_leaf {s : Tx} {n a b : Nat} {l : List Prt} {x : Tx} (hl : l.length < 64) (hs : sliceQ s a b = 10 :: x) : fndQ s n l a b 0 false = kid1 (l ++ [leafP a b]) 0 := by
  obtain ⟨hm, hsp⟩ := leaf_media x
  have hnl : ¬ IsLet med0 := by decide
  have hty : med0.ty ≠ multT := by decide
  cases n with
  | zero =>
    unfold fndQ
    rw [if_neg (by omega)]
    dsimp only
    rw [hs, hm, hsp]
    rfl
  | succ n =>
    unfold fndQ
    rw [if_neg (by omega)]
    dsimp only
    rw [hs, hm, hsp, if_neg hnl, if_pos (.inl hty)]
    rfl
/-- The parts of the letter, so many kids found. -/
def madeP (s : Tx) (k : Nat) (j : Nat) (sp : List (Nat × Nat)) : List Prt := ⟨k, 0, 44, s.length, ⟨multT, [109, 105, 120, 101, 100], [(bndT, qqT)]⟩, -1, j⟩ :: sp.map fun x => leafP x.1 x.2
theorem made_fold (s : Tx) : ∀ (sp2 sp1 : List (Nat × Nat)) (k : Nat), sp1.length + sp2.length ≤ 60 → (∀ x ∈ sp2, ∃ t, sliceQ s x.1 x.2 = 10 :: t) →
    sp2.foldl (fun acc x => fndQ s 5 (setK acc 0 1) x.1 x.2 ((0 : Nat) : Int) false) (madeP s k sp1.length sp1) = madeP s (if sp2 = [] then k else 1) (sp1 ++ sp2).length (sp1 ++ sp2)
  | [], sp1, k, _, _ => by simp
  | x :: r, sp1, k, hl, h => by
    obtain ⟨t, ht⟩ := h x (by simp)
    simp only [List.length_cons] at hl
    rw [List.foldl_cons]
    have e1 : setK (madeP s k sp1.length sp1) 0 1 = madeP s 1 sp1.length sp1 := rfl
    have e2 : fndQ s 5 (madeP s 1 sp1.length sp1) x.1 x.2 ((0 : Nat) : Int) false = madeP s 1 (sp1 ++ [x]).length (sp1 ++ [x]) := by
      show fndQ s 5 (madeP s 1 sp1.length sp1) x.1 x.2 0 false = _
      rw [fnd_leaf (by simp [madeP]; omega) ht]
      simp [kid1, madeP]
    rw [e1, e2, made_fold s r (sp1 ++ [x]) 1 (by simp; omega) (fun y hy => h y (by simp [hy]))]
    simp
theorem mkS_mem (s : Tx) : ∀ (xs : List Tx) (o : Nat), s.drop o = segT xs ++ finT → ∀ (i : Nat) (p : Nat × Nat), (mkS o xs)[i]? = some p → ∃ x, xs[i]? = some x ∧ sliceQ s p.1 p.2 = x ∧ p.2 = p.1 + x.length ∧ p.2 ≤ s.length
  | [], _, _, i, p, h => by simp [mkS] at h
  | x :: r, o, hs, i, p, h => by
    have hd : s.drop o = sgnT ++ (x ++ ([10] ++ (segT r ++ finT))) := by
      rw [hs]
      show (sgnT ++ (x ++ [10])) ++ segT r ++ finT = _
      simp
    have hl5 : sgnT.length = 5 := rfl
    have hlen : o + 5 + x.length + 1 ≤ s.length := by
      have := congrArg List.length hd
      simp only [List.length_drop, List.length_append, hl5, List.length_cons, List.length_nil] at this
      omega
    cases i with
    | zero =>
      simp only [mkS, List.getElem?_cons_zero, Option.some.injEq] at h
      subst h
      refine ⟨x, rfl, ?_, rfl, by show o + 5 + x.length ≤ s.length; omega⟩
      unfold sliceQ
      rw [← List.drop_drop, hd, List.drop_left' hl5, show o + 5 + x.length - (o + 5) = x.length by omega]
      exact List.take_left' rfl
    | succ i =>
      simp only [mkS, List.getElem?_cons_succ] at h
      obtain ⟨y, h1, h2⟩ := mkS_mem s r (o + 5 + x.length + 1) (by
        rw [show o + 5 + x.length + 1 = o + (5 + x.length + 1) by omega, ← List.drop_drop, hd]
        rw [show (sgnT ++ (x ++ ([10] ++ (segT r ++ finT)))) = (sgnT ++ (x ++ [10])) ++ (segT r ++ finT) by simp]
        rw [List.drop_left' (by simp [hl5]; omega)]) i p h
      exact ⟨y, by simpa using h1, h2⟩
theorem mkS_len : ∀ (xs : List Tx) (o : Nat), (mkS o xs).length = xs.length
  | [], _ => rfl
  | x :: r, o => by simp [mkS, mkS_len r]
/-- The parts of the letter that is made. -/
theorem made_parts (ah : Tx) (xs : List Tx) (hah : ∀ c ∈ ah, c ≠ 45) (hx : ∀ x ∈ xs, ∃ t, x = 10 :: t ∧ ∀ c ∈ t, c ≠ 45 ∧ c ≠ 13) (hn : xs.length ≤ 60) :
    partsQ (madeT ah xs) = madeP (madeT ah xs) (if xs = [] then 0 else 1) xs.length (mkS (44 + ah.length + 1) xs) := by
  have hx2 : ∀ x ∈ xs, x ≠ [] ∧ ∀ c ∈ x, c ≠ 45 ∧ c ≠ 13 := fun x hxm => by
    obtain ⟨t, rfl, ht⟩ := hx x hxm
    refine ⟨by simp, fun c hc => ?_⟩
    simp only [List.mem_cons] at hc
    rcases hc with rfl | hc
    · decide
    · exact ht c hc
  have hdr : (madeT ah xs).drop (44 + ah.length + 1) = segT xs ++ finT := by
    rw [show 44 + ah.length + 1 = 44 + (ah.length + 1) by omega, ← List.drop_drop, made_drop]
    exact List.drop_left' (by simp)
  have hmed := made_media ah xs false
  have hspl := made_split ah xs
  have hlen : 44 ≤ (madeT ah xs).length := by unfold madeT; simp [headT]
  have hsp : spansQ (madeT ah xs) qqT 44 (madeT ah xs).length = mkS (44 + ah.length + 1) xs := by
    unfold spansQ sliceQ
    rw [List.take_of_length_le (by simp), made_drop]
    rw [linesF_app _ (.inr (List.getLast?_concat ..)), linesF_app _ (segT_last xs), segL_of]
    rw [spnL_skip]
    · rw [linesF_flat]
      have hfl : linesF finT = endL :: linesF [45, 45, 113, 113, 10, 10, 110, 111, 32, 109, 111, 114, 101] := by decide
      have hl1 : 44 + (ah ++ [10]).length = 44 + ah.length + 1 := by rw [List.length_append]; rfl
      rw [hfl, hl1, spn_segs _ _ _ xs _ none [] hx2 hdr]
      rfl
    · intro l hl
      exact partsL_nodash fun c hc => by
        rcases List.mem_append.1 (linesF_mem hl hc) with h1 | h1
        · exact hah c h1
        · simp only [List.mem_singleton] at h1
          subst h1
          decide
  generalize madeT ah xs = s at *
  unfold partsQ fndQ
  rw [if_neg (by simp)]
  have hs0 : sliceQ s 0 s.length = s := by unfold sliceQ; simp
  dsimp only
  rw [hs0, hmed, hspl]
  rw [if_neg (show ¬ IsLet ⟨multT, [109, 105, 120, 101, 100], [(bndT, qqT)]⟩ by decide)]
  have hfq : findQ [(bndT, qqT)] bndT = (qqT, true) := by decide
  rw [hfq, if_neg (by rintro (h | h) <;> first | exact h rfl | exact absurd h (by decide))]
  rw [Nat.zero_add, hsp]
  have hfold := made_fold s (mkS (44 + ah.length + 1) xs) [] 0 (by rw [mkS_len]; simpa using hn) (fun p hp => by
    obtain ⟨i, hi, hpe⟩ := List.getElem_of_mem hp
    obtain ⟨x, h1, h2, _⟩ := mkS_mem s xs _ hdr i p (by rw [← hpe]; exact List.getElem?_eq_getElem hi)
    obtain ⟨t, ht, _⟩ := hx x (List.mem_of_getElem? h1)
    exact ⟨t, by rw [h2, ht]⟩)
  have hnil : (mkS (44 + ah.length + 1) xs = []) ↔ xs = [] := by
    rw [← List.length_eq_zero_iff, mkS_len, List.length_eq_zero_iff]
  simp only [List.nil_append, List.length_nil] at hfold
  rw [mkS_len] at hfold
  simp only [hnil] at hfold
  exact hfold
end Go.Proofs.YtenbjndldenkfaaGreatDoor
