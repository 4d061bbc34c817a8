/-
  Media on plain lists: what is written is read back.
-/
import Derived.Test.YtnllhddbgkeboaaDoorParLR
namespace Go.Proofs.YtnllhddbgkeboaaDoor
open Go.RowKit

/-! ### types and sorts are tokens without great letters -/
theorem tok_low {c : UInt8} (h : TokC c) : TokC (low c) := by
  obtain ⟨h1, h2, h3⟩ := h
  have hl := low_nat c
  by_cases hc : 65 ≤ c.toNat ∧ c.toNat ≤ 90
  · rw [if_pos hc] at hl
    refine ⟨by omega, by omega, ?_⟩
    rw [spc_nat]
    omega
  · rw [if_neg hc] at hl
    have : low c = c := UInt8.toNat_inj.1 hl
    rw [this]
    exact ⟨h1, h2, h3⟩
theorem tok_small {s : Tx} (h : TokQ s) : TokQ (smallS s) := by
  refine ⟨fun e => h.1 ?_, fun c hc => ?_⟩
  · have := congrArg List.length e
    rw [smallS_len] at this
    simpa using this
  · unfold smallS at hc
    obtain ⟨d, hd, rfl⟩ := List.mem_map.1 hc
    exact tok_low (h.2 d hd)
theorem low_small (c : UInt8) : ¬ (65 ≤ (low c).toNat ∧ (low c).toNat ≤ 90) := by
  have hl := low_nat c
  split at hl <;> omega
theorem small_small {s : Tx} {c : UInt8} (h : c ∈ smallS s) : ¬ (65 ≤ c.toNat ∧ c.toNat ≤ 90) := by
  unfold smallS at h
  obtain ⟨d, _, rfl⟩ := List.mem_map.1 h
  exact low_small d
theorem medQ_tok (s : Tx) : TokQ (medQ s).ty ∧ TokQ (medQ s).sub ∧ ∀ c ∈ (medQ s).ty ++ (medQ s).sub, ¬ (65 ≤ c.toNat ∧ c.toNat ≤ 90) := by
  have h0 : TokQ med0.ty ∧ TokQ med0.sub ∧ ∀ c ∈ med0.ty ++ med0.sub, ¬ (65 ≤ c.toNat ∧ c.toNat ≤ 90) := by decide
  unfold medQ
  split
  · exact h0
  · rename_i p ps _
    unfold medOf
    split
    · rename_i hm
      refine ⟨tok_small hm.2.1, tok_small hm.2.2, fun c hc => ?_⟩
      rcases List.mem_append.1 hc with h | h
      · exact small_small h
      · exact small_small h
    · exact h0

/-! ### pieces of what is plain -/
theorem pcs_plain : ∀ {a : Tx} (s : Tx), (∀ c ∈ a, c ≠ 34 ∧ c ≠ 59) → pcs false (a ++ s) = gluP a (pcs false s)
  | [], s, _ => (gluP_nil (pcs_ne _ _)).symm
  | x :: r, s, h => by
    have hx := h x (by simp)
    show pcs false (x :: (r ++ s)) = _
    rw [pcs_other (by simp) hx.1 (fun e => hx.2 e.1), pcs_plain s (fun c hc => h c (by simp [hc])), gluP_gluP]
    rfl
theorem pcs_plain_end {a : Tx} (h : ∀ c ∈ a, c ≠ 34 ∧ c ≠ 59) : pcs false a = [a] := by
  have := pcs_plain [] h
  rw [List.append_nil] at this
  rw [this]
  simp [pcs, gluP]
theorem pcs_plain_cut {a : Tx} (s : Tx) (h : ∀ c ∈ a, c ≠ 34 ∧ c ≠ 59) : pcs false (a ++ 59 :: s) = a :: pcs false s := by
  rw [pcs_plain _ h, pcs_cut]
  simp [gluP]
/-- What a value is in quotes. -/
def quoF : Tx → Tx
  | [] => []
  | x :: r => if x = 34 ∨ x = 92 then 92 :: x :: quoF r else x :: quoF r
theorem quoF_append : ∀ a b : Tx, quoF (a ++ b) = quoF a ++ quoF b
  | [], b => rfl
  | x :: r, b => by
    show quoF (x :: (r ++ b)) = quoF (x :: r) ++ quoF b
    rw [quoF, quoF, quoF_append r b]
    split <;> rfl
theorem quoF_len : ∀ a : Tx, (quoF a).length ≤ 2 * a.length
  | [] => Nat.le_refl _
  | x :: r => by
    have := quoF_len r
    unfold quoF
    split <;> simp <;> omega
theorem pcs_quo : ∀ (v s : Tx), pcs true (quoF v ++ s) = gluP (quoF v) (pcs true s)
  | [], s => (gluP_nil (pcs_ne _ _)).symm
  | x :: r, s => by
    unfold quoF
    by_cases h : x = 34 ∨ x = 92
    · rw [if_pos h]
      show pcs true (92 :: x :: (quoF r ++ s)) = _
      rw [pcs_esc, pcs_quo r s, gluP_gluP]
      rfl
    · rw [if_neg h]
      show pcs true (x :: (quoF r ++ s)) = _
      rw [pcs_other (fun e => h (.inr e.2)) (fun e => h (.inl e)) (by simp), pcs_quo r s, gluP_gluP]
      rfl
theorem unq_quo : ∀ (v r : Tx), unq (quoF v ++ 34 :: r) = v
  | [], r => unq_end r
  | x :: v, r => by
    unfold quoF
    by_cases h : x = 34 ∨ x = 92
    · rw [if_pos h]
      show unq (92 :: x :: (quoF v ++ 34 :: r)) = _
      rw [unq_esc, unq_quo v r]
    · rw [if_neg h]
      show unq (x :: (quoF v ++ 34 :: r)) = _
      rw [unq_other (fun e => h (.inl e)) (fun e => h (.inr e)), unq_quo v r]

/-! ### trimmed -/
theorem leftB_blanks : ∀ {l : Tx} (s : Tx), (∀ c ∈ l, Bl c) → leftB (l ++ s) = leftB s
  | [], _, _ => rfl
  | x :: r, s, h => by
    show leftB (x :: (r ++ s)) = _
    rw [leftB, if_pos (h x (by simp)), leftB_blanks s fun c hc => h c (by simp [hc])]
theorem leftB_all {l : Tx} (h : ∀ c ∈ l, Bl c) : leftB l = [] := by
  have := leftB_blanks [] h
  rwa [List.append_nil] at this
theorem leftB_solid {s : Tx} (r : Tx) (hs : s ≠ []) (h : ∀ c ∈ s, ¬ Bl c) : leftB (s ++ r) = s ++ r := by
  cases s with
  | nil => exact absurd rfl hs
  | cons x t =>
    show leftB (x :: (t ++ r)) = _
    rw [leftB, if_neg (h x (by simp))]
    rfl
theorem trim_mid {l s r : Tx} (hl : ∀ c ∈ l, Bl c) (hs0 : s ≠ []) (hs : ∀ c ∈ s, ¬ Bl c) (hr : ∀ c ∈ r, Bl c) : trimQ (l ++ (s ++ r)) = s := by
  unfold trimQ
  rw [← trim_comm, leftB_blanks _ hl, leftB_solid r hs0 hs]
  unfold rightB
  rw [List.reverse_append, leftB_blanks _ (fun c hc => hr c (by simpa using hc))]
  have := leftB_solid [] (s := s.reverse) (by simpa using hs0) (fun c hc => hs c (by simpa using hc))
  rw [List.append_nil] at this
  rw [this, List.reverse_reverse]
theorem noB_solid : ∀ {s : Tx} (r : Tx), (∀ c ∈ s, ¬ Bl c) → noB (s ++ r) = s ++ noB r
  | [], r, _ => rfl
  | x :: t, r, h => by
    show noB (x :: (t ++ r)) = _
    rw [noB, if_neg (h x (by simp)), noB_solid r fun c hc => h c (by simp [hc])]
    rfl
theorem noB_blanks {r : Tx} (h : ∀ c ∈ r, Bl c) : noB r = [] := by
  cases r with
  | nil => rfl
  | cons x t => rw [noB, if_pos (h x (by simp))]
theorem val_mid {l s r : Tx} (hl : ∀ c ∈ l, Bl c) (hs0 : s ≠ []) (hs : ∀ c ∈ s, ¬ Bl c ∧ c ≠ 34) (hr : ∀ c ∈ r, Bl c) : valQ (l ++ (s ++ r)) = s := by
  have e := leftB_solid r hs0 (fun c hc => (hs c hc).1)
  have e2 : leftB (l ++ (s ++ r)) = s ++ r := by rw [leftB_blanks _ hl, e]
  unfold valQ
  rw [e2]
  have e3 : noB (s ++ r) = s := by rw [noB_solid r fun c hc => (hs c hc).1, noB_blanks hr, List.append_nil]
  cases s with
  | nil => exact absurd rfl hs0
  | cons x t =>
    show (if x = 34 then unq (t ++ r) else noB (x :: (t ++ r))) = _
    rw [if_neg (hs x (by simp)).2]
    exact e3
theorem val_quo {l v r : Tx} (hl : ∀ c ∈ l, Bl c) : valQ (l ++ 34 :: (quoF v ++ 34 :: r)) = v := by
  have e2 : leftB (l ++ 34 :: (quoF v ++ 34 :: r)) = 34 :: (quoF v ++ 34 :: r) := by
    rw [leftB_blanks _ hl, leftB, if_neg (by decide)]
  unfold valQ
  rw [e2]
  show (if (34 : UInt8) = 34 then unq (quoF v ++ 34 :: r) else _) = _
  rw [if_pos rfl, unq_quo]

/-! ### the text of the law 'ParamWhole' -/
def wA : Tx := [97, 47, 98]
def wQ : Tx := [32, 113, 32]
def wZ : Tx := [32, 122, 61, 49]
def wholeT (v : Tx) : Tx := wA ++ 59 :: (wQ ++ 61 :: 32 :: 34 :: (quoF v ++ 34 :: 32 :: 59 :: wZ))
theorem whole_pcs (v : Tx) : pcs false (wholeT v) = [wA, wQ ++ 61 :: (32 :: 34 :: (quoF v ++ 34 :: [32])), wZ] := by
  unfold wholeT
  rw [pcs_plain_cut _ (by decide)]
  have e : wQ ++ 61 :: 32 :: 34 :: (quoF v ++ 34 :: 32 :: 59 :: wZ) = (wQ ++ [61, 32]) ++ 34 :: (quoF v ++ (34 :: (32 :: 59 :: wZ))) := by simp
  have e3 : pcs false ([32] ++ 59 :: wZ) = [[32], wZ] := by rw [pcs_plain_cut _ (by decide), pcs_plain_end (by decide)]
  rw [e, pcs_plain _ (by decide), pcs_quote, show (!false) = true from rfl, pcs_quo, pcs_quote, show (!true) = false from rfl, show (32 :: 59 :: wZ : Tx) = [32] ++ 59 :: wZ from rfl, e3]
  simp [gluP]
theorem whole_med (v : Tx) : (medQ (wholeT v)).ps = [([113], v), ([122], [49])] := by
  unfold medQ
  rw [whole_pcs]
  show (medOf wA _).ps = _
  have hm : IsMed wA := by decide
  unfold medOf
  rw [if_pos hm]
  have h1 : parQ (wQ ++ 61 :: (32 :: 34 :: (quoF v ++ 34 :: [32]))) = [([113], v)] := by
    have hb : befF 61 (wQ ++ 61 :: (32 :: 34 :: (quoF v ++ 34 :: [32]))) = wQ := (bef_at (by decide)).1
    have ha : aftF 61 (wQ ++ 61 :: (32 :: 34 :: (quoF v ++ 34 :: [32]))) = 32 :: 34 :: (quoF v ++ 34 :: [32]) := (bef_at (by decide)).2
    have hn : nameQ (wQ ++ 61 :: (32 :: 34 :: (quoF v ++ 34 :: [32]))) = [113] := by unfold nameQ; rw [hb]; decide
    unfold parQ
    rw [if_pos ⟨by simp, by rw [hn]; decide⟩, hn, ha]
    rw [show (32 :: 34 :: (quoF v ++ 34 :: [32]) : Tx) = [32] ++ 34 :: (quoF v ++ 34 :: [32]) from rfl, val_quo (by decide)]
  have h2 : parQ wZ = [([122], [49])] := by decide
  show [_, wZ].flatMap parQ = _
  rw [List.flatMap_cons, List.flatMap_cons, h1, h2]
  rfl

/-! ### the texts of the law 'ParamOrder' -/
/-- A letter. -/
def Ltr (c : UInt8) : Prop := (97 ≤ c.toNat ∧ c.toNat ≤ 122) ∨ (65 ≤ c.toNat ∧ c.toNat ≤ 90)
theorem Ltr.ne {c : UInt8} (h : Ltr c) {n : UInt8} (hn : ¬ ((97 ≤ n.toNat ∧ n.toNat ≤ 122) ∨ (65 ≤ n.toNat ∧ n.toNat ≤ 90))) : c ≠ n := by rintro rfl; exact hn h
theorem Ltr.bl {c : UInt8} (h : Ltr c) : ¬ Bl c := by
  rintro (e | e)
  · exact h.ne (n := 32) (by decide) e
  · exact h.ne (n := 9) (by decide) e
theorem Ltr.tok {c : UInt8} (h : Ltr c) : TokC c := by
  unfold Ltr at h
  refine ⟨by omega, by omega, ?_⟩
  rw [spc_nat]
  omega
theorem ltr_tok {s : Tx} (h0 : s ≠ []) (h : ∀ c ∈ s, Ltr c) : TokQ s := ⟨h0, fun c hc => (h c hc).tok⟩
def oX : Tx := [120, 47, 121]
/-- ' n' and letters, '=1'. -/
def oN (x : Tx) : Tx := [32] ++ (110 :: x)
def ord1 (x : Tx) : Tx := oX ++ 59 :: (oN x ++ 61 :: [49])
def oM (y : Tx) : Tx := [32, 32] ++ ((78 :: y) ++ [32])
def ord2 (x y : Tx) : Tx := oX ++ 59 :: ((oN x ++ 61 :: [49, 32]) ++ 59 :: (oM y ++ 61 :: (32 :: (y ++ [50]))))
theorem plain_cases {a b : Tx} {P : UInt8 → Prop} (ha : ∀ c ∈ a, P c) (hb : ∀ c ∈ b, P c) : ∀ c ∈ a ++ b, P c := by
  intro c hc
  rcases List.mem_append.1 hc with h | h
  · exact ha c h
  · exact hb c h
theorem ltr_plain {x : Tx} (h : ∀ c ∈ x, Ltr c) : ∀ c ∈ x, c ≠ 34 ∧ c ≠ 59 := fun c hc => ⟨(h c hc).ne (by decide), (h c hc).ne (by decide)⟩
theorem oN_plain {x : Tx} (h : ∀ c ∈ x, Ltr c) (t : Tx) (ht : ∀ c ∈ t, c ≠ 34 ∧ c ≠ 59) : ∀ c ∈ oN x ++ 61 :: t, c ≠ 34 ∧ c ≠ 59 :=
  plain_cases (plain_cases (by decide) (plain_cases (a := [110]) (by decide) (ltr_plain h))) (plain_cases (a := [61]) (by decide) ht)
theorem oM_plain {y : Tx} (h : ∀ c ∈ y, Ltr c) : ∀ c ∈ oM y ++ 61 :: (32 :: (y ++ [50])), c ≠ 34 ∧ c ≠ 59 :=
  plain_cases (plain_cases (by decide) (plain_cases (plain_cases (a := [78]) (by decide) (ltr_plain h)) (by decide))) (plain_cases (a := [61, 32]) (by decide) (plain_cases (ltr_plain h) (by decide)))
theorem small_of_lower {x : Tx} (h : ∀ c ∈ x, 97 ≤ c.toNat ∧ c.toNat ≤ 122) : smallS x = x := by
  unfold smallS
  conv => rhs; rw [← List.map_id x]
  refine List.map_congr_left fun c hc => ?_
  have := h c hc
  have hl := low_nat c
  rw [if_neg (by omega)] at hl
  exact UInt8.toNat_inj.1 hl
theorem par_n {x : Tx} (hx : ∀ c ∈ x, 97 ≤ c.toNat ∧ c.toNat ≤ 122) (r : Tx) (hr : ∀ c ∈ r, Bl c) : parQ (oN x ++ 61 :: (49 :: r)) = [(110 :: x, [49])] := by
  have hl : ∀ c ∈ x, Ltr c := fun c hc => .inl (hx c hc)
  have h61 : (61 : UInt8) ∉ oN x := by
    unfold oN
    simp only [List.singleton_append, List.mem_cons, not_or]
    exact ⟨by decide, by decide, fun h => (hl 61 h).ne (n := 61) (by decide) rfl⟩
  obtain ⟨hb, ha⟩ := bef_at (b := 49 :: r) h61
  have hall : ∀ c ∈ (110 :: x : Tx), Ltr c := plain_cases (a := [110]) (by intro c hc; simp at hc; subst hc; exact .inl (by decide)) hl
  have ht : trimQ (oN x) = 110 :: x := by
    have := trim_mid (l := [32]) (s := 110 :: x) (r := []) (by decide) (by simp) (fun c hc => (hall c hc).bl) (by simp)
    rw [List.append_nil] at this
    exact this
  have hn : nameQ (oN x ++ 61 :: (49 :: r)) = 110 :: x := by
    unfold nameQ
    rw [hb, ht]
    exact small_of_lower (plain_cases (a := [110]) (by decide) hx)
  have hv : valQ (49 :: r) = [49] := val_mid (l := []) (s := [49]) (r := r) (by simp) (by simp) (by decide) hr
  unfold parQ
  rw [if_pos ⟨by simp, by rw [hn]; exact ltr_tok (by simp) hall⟩, hn, ha, hv]
theorem par_m {y : Tx} (hy : ∀ c ∈ y, 65 ≤ c.toNat ∧ c.toNat ≤ 90) : parQ (oM y ++ 61 :: (32 :: (y ++ [50]))) = [(110 :: smallS y, y ++ [50])] := by
  have hl : ∀ c ∈ y, Ltr c := fun c hc => .inr (hy c hc)
  have h61 : (61 : UInt8) ∉ oM y := by
    unfold oM
    simp only [List.cons_append, List.nil_append, List.mem_cons, List.mem_append, List.not_mem_nil, or_false, not_or]
    exact ⟨by decide, by decide, by decide, fun h => (hl 61 h).ne (n := 61) (by decide) rfl, by decide⟩
  obtain ⟨hb, ha⟩ := bef_at (b := 32 :: (y ++ [50])) h61
  have hall : ∀ c ∈ (78 :: y : Tx), Ltr c := plain_cases (a := [78]) (by intro c hc; simp at hc; subst hc; exact .inr (by decide)) hl
  have ht : trimQ (oM y) = 78 :: y := trim_mid (l := [32, 32]) (s := 78 :: y) (r := [32]) (by decide) (by simp) (fun c hc => (hall c hc).bl) (by decide)
  have hn : nameQ (oM y ++ 61 :: (32 :: (y ++ [50]))) = 110 :: smallS y := by
    unfold nameQ
    rw [hb, ht]
    rfl
  have hv : valQ (32 :: (y ++ [50])) = y ++ [50] := by
    have := val_mid (l := [32]) (s := y ++ [50]) (r := []) (by decide) (by simp) (plain_cases (fun c hc => ⟨(hl c hc).bl, (hl c hc).ne (by decide)⟩) (by decide)) (by simp)
    rw [List.append_nil] at this
    exact this
  have htk : TokQ (110 :: smallS y) := tok_small (ltr_tok (s := 78 :: y) (by simp) hall)
  unfold parQ
  rw [if_pos ⟨by simp, by rw [hn]; exact htk⟩, hn, ha, hv]
theorem ord1_med {x : Tx} (hx : ∀ c ∈ x, 97 ≤ c.toNat ∧ c.toNat ≤ 122) : medQ (ord1 x) = ⟨[120], [121], [(110 :: x, [49])]⟩ := by
  have hl : ∀ c ∈ x, Ltr c := fun c hc => .inl (hx c hc)
  unfold medQ ord1
  rw [pcs_plain_cut _ (by decide), pcs_plain_end (oN_plain hl [49] (by decide))]
  show medOf oX _ = _
  have hm : IsMed oX := by decide
  unfold medOf
  rw [if_pos hm, List.flatMap_cons, par_n hx [] (by simp)]
  exact Med.of (show smallS (befF 47 (trimQ oX)) = [120] by decide) (show smallS (aftF 47 (trimQ oX)) = [121] by decide) rfl
theorem ord2_med {x y : Tx} (hx : ∀ c ∈ x, 97 ≤ c.toNat ∧ c.toNat ≤ 122) (hy : ∀ c ∈ y, 65 ≤ c.toNat ∧ c.toNat ≤ 90) : medQ (ord2 x y) = ⟨[120], [121], [(110 :: x, [49]), (110 :: smallS y, y ++ [50])]⟩ := by
  have hl : ∀ c ∈ x, Ltr c := fun c hc => .inl (hx c hc)
  have hly : ∀ c ∈ y, Ltr c := fun c hc => .inr (hy c hc)
  unfold medQ ord2
  rw [pcs_plain_cut _ (by decide), pcs_plain_cut _ (oN_plain hl [49, 32] (by decide)), pcs_plain_end (oM_plain hly)]
  show medOf oX _ = _
  have hm : IsMed oX := by decide
  unfold medOf
  rw [if_pos hm, List.flatMap_cons, List.flatMap_cons, par_n hx [32] (by decide), par_m hy]
  exact Med.of (show smallS (befF 47 (trimQ oX)) = [120] by decide) (show smallS (aftF 47 (trimQ oX)) = [121] by decide) rfl
theorem find_ord (x : Tx) (y s : Tx) : findQ [(110 :: x, [49]), (110 :: s, y ++ [50])] (110 :: s) = (if s = x then [49] else y ++ [50], true) := by
  unfold findQ
  by_cases h : s = x
  · subst h
    rw [if_pos rfl, if_pos rfl]
  · rw [if_neg (fun e => h (by simpa using e.symm)), if_neg h]
    unfold findQ
    rw [if_pos rfl]
end Go.Proofs.YtnllhddbgkeboaaDoor
