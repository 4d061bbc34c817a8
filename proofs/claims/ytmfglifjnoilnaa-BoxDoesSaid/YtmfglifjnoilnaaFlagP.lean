/-
  Flags on plain lists: how a text is told as one, sets in order, what is done with sets.
-/
import Derived.Test.YtmfglifjnoilnaaStr
import Derived.Lib.DecodeN
namespace Go.Proofs.Ytmfglifjnoilnaa
open Go.RowKit Go.Sort

/-! ### small letters -/
def low (c : UInt8) : UInt8 := if 65 ≤ c.toNat ∧ c.toNat ≤ 90 then c + 32 else c
theorem low_nat (c : UInt8) : (low c).toNat = if 65 ≤ c.toNat ∧ c.toNat ≤ 90 then c.toNat + 32 else c.toNat := by
  unfold low
  split
  · rename_i h
    rw [UInt8.toNat_add]
    have : (32 : UInt8).toNat = 32 := rfl
    omega
  · rfl
theorem low_low (c : UInt8) : low (low c) = low c := by
  apply UInt8.toNat_inj.1
  rw [low_nat, low_nat]
  by_cases h : 65 ≤ c.toNat ∧ c.toNat ≤ 90
  · rw [if_pos h, if_neg (by omega)]
  · rw [if_neg h, if_neg h]
def smallS (s : Tx) : Tx := s.map low
theorem smallS_len (s : Tx) : (smallS s).length = s.length := by simp [smallS]
theorem smallS_smallS (s : Tx) : smallS (smallS s) = smallS s := by
  unfold smallS
  rw [List.map_map]
  exact List.map_congr_left fun c _ => low_low c
/-- May a keyword have it? -/
def SignN (n : Nat) : Prop := (97 ≤ n ∧ n ≤ 122) ∨ (48 ≤ n ∧ n ≤ 57) ∨ n = 36 ∨ n = 45 ∨ n = 46 ∨ n = 95
instance (n : Nat) : Decidable (SignN n) := by unfold SignN; exact inferInstance
theorem SignN.lt {n : Nat} (h : SignN n) : n < 128 := by unfold SignN at h; omega

/-! ### the flags -/
def fiveL : List Tx := [[92, 65, 110, 115, 119, 101, 114, 101, 100], [92, 68, 101, 108, 101, 116, 101, 100], [92, 68, 114, 97, 102, 116], [92, 70, 108, 97, 103, 103, 101, 100], [92, 83, 101, 101, 110]]
/-- A flag as it is told. -/
def toldF (s : Tx) : Option Tx :=
  if ([92] : Tx).isPrefixOf s = true then fiveL.find? fun f => decide (smallS f = smallS s)
  else if smallS s = [] ∨ 20 < s.length ∨ ∃ c ∈ smallS s, ¬ SignN c.toNat then none else some (smallS s)
theorem toldF_len {s t : Tx} (h : toldF s = some t) : 0 < t.length ∧ t.length ≤ 20 := by
  unfold toldF at h
  split at h
  · have := List.mem_of_find?_eq_some h
    have key : ∀ t ∈ fiveL, 0 < t.length ∧ t.length ≤ 20 := by decide
    exact key t this
  · split at h
    · cases h
    · rename_i h1
      injection h with h
      subst h
      rw [smallS_len]
      refine ⟨?_, by omega⟩
      have : smallS s ≠ [] := fun e => h1 (.inl e)
      rw [← smallS_len]
      exact List.length_pos_iff.2 this
theorem toldF_ne {s t : Tx} (h : toldF s = some t) : t ≠ [] := by
  have := (toldF_len h).1
  intro e; subst e; simp at this
theorem toldF_five : ∀ f ∈ fiveL, toldF f = some f := by decide +kernel
theorem toldF_told {s t : Tx} (h : toldF s = some t) : toldF t = some t := by
  unfold toldF at h
  split at h
  · exact toldF_five t (List.mem_of_find?_eq_some h)
  · split at h
    · cases h
    · rename_i h0 h1
      injection h with h
      subst h
      unfold toldF
      rw [if_neg, if_neg]
      · rw [smallS_smallS]
      · rw [smallS_smallS, smallS_len]; exact h1
      · intro h2
        cases hs : smallS s with
        | nil => rw [hs] at h2; simp at h2
        | cons c r =>
          rw [hs] at h2
          simp at h2
          subst h2
          refine h1 (.inr (.inr ⟨92, by rw [hs]; simp, by decide⟩))
def toldL : List Tx → Option (List Tx)
  | [] => some []
  | s :: r => match toldF s, toldL r with
    | some t, some ts => some (t :: ts)
    | _, _ => none
theorem toldL_snoc (l : List Tx) (s : Tx) : toldL (l ++ [s]) = match toldL l, toldF s with
    | some ts, some t => some (ts ++ [t])
    | _, _ => none := by
  induction l with
  | nil => simp only [List.nil_append, toldL]; cases toldF s <;> rfl
  | cons a r ih =>
    simp only [List.cons_append, toldL, ih]
    cases toldF a <;> cases toldL r <;> cases toldF s <;> rfl
theorem toldL_none {l : List Tx} {s : Tx} (hs : s ∈ l) (h : toldF s = none) : toldL l = none := by
  induction l with
  | nil => cases hs
  | cons a r ih =>
    simp only [toldL]
    rcases List.mem_cons.1 hs with rfl | hs
    · rw [h]
    · rw [ih hs]; cases toldF a <;> rfl
theorem toldL_all {l : List Tx} (h : ∀ s ∈ l, toldF s = some s) : toldL l = some l := by
  induction l with
  | nil => rfl
  | cons a r ih =>
    simp only [toldL]
    rw [h a (by simp), ih fun s hs => h s (by simp [hs])]
theorem toldL_mem {l ts : List Tx} (h : toldL l = some ts) : ∀ t, t ∈ ts ↔ ∃ s ∈ l, toldF s = some t := by
  induction l generalizing ts with
  | nil => simp only [toldL, Option.some.injEq] at h; subst h; simp
  | cons a r ih =>
    simp only [toldL] at h
    cases ha : toldF a with
    | none => rw [ha] at h; cases h
    | some t0 =>
      cases hr : toldL r with
      | none => rw [ha, hr] at h; cases h
      | some ts0 =>
        rw [ha, hr] at h
        injection h with h
        subst h
        intro t
        simp only [List.mem_cons, ih hr, exists_eq_or_imp, ha, Option.some.injEq]
        constructor
        · rintro (rfl | h)
          · exact .inl rfl
          · exact .inr h
        · rintro (rfl | h)
          · exact .inl rfl
          · exact .inr h
theorem toldL_told {l ts : List Tx} (h : toldL l = some ts) : ∀ t ∈ ts, toldF t = some t := fun t ht => by
  obtain ⟨s, _, hs⟩ := (toldL_mem h t).1 ht
  exact toldF_told hs
theorem toldL_len {l ts : List Tx} (h : toldL l = some ts) : ts.length = l.length := by
  induction l generalizing ts with
  | nil => simp only [toldL, Option.some.injEq] at h; subst h; rfl
  | cons a r ih =>
    simp only [toldL] at h
    cases ha : toldF a with
    | none => rw [ha] at h; cases h
    | some t0 =>
      cases hr : toldL r with
      | none => rw [ha, hr] at h; cases h
      | some ts0 => rw [ha, hr] at h; injection h with h; subst h; simp [ih hr]

/-! ### sets -/
/-- In order, each once. -/
abbrev SS (l : List Tx) : Prop := l.Pairwise (· < ·)
theorem lt_of_le_ne {a b : Tx} (h : a ≤ b) (hne : a ≠ b) : a < b := by
  rcases Classical.em (a < b) with h1 | h1
  · exact h1
  · exact absurd (List.le_antisymm h (List.not_lt.1 h1)) hne
theorem lt_irr (a : Tx) : ¬ a < a := List.lt_irrefl a
theorem ss_ext {a b : List Tx} (ha : SS a) (hb : SS b) (h : ∀ x, x ∈ a ↔ x ∈ b) : a = b := by
  induction a generalizing b with
  | nil =>
    cases b with
    | nil => rfl
    | cons y r => exact absurd ((h y).2 (by simp)) (by simp)
  | cons x r ih =>
    cases b with
    | nil => exact absurd ((h x).1 (by simp)) (by simp)
    | cons y q =>
      have ha := List.pairwise_cons.1 ha
      have hb := List.pairwise_cons.1 hb
      have hxy : x = y := by
        rcases List.mem_cons.1 ((h x).1 (by simp)) with h1 | h1
        · exact h1
        · rcases List.mem_cons.1 ((h y).2 (by simp)) with h2 | h2
          · exact h2.symm
          · exact absurd (List.lt_trans (ha.1 y h2) (hb.1 x h1)) (lt_irr x)
      subst hxy
      rw [ih ha.2 hb.2]
      intro z
      constructor
      · intro hz
        rcases List.mem_cons.1 ((h z).1 (List.mem_cons_of_mem _ hz)) with h1 | h1
        · subst h1; exact absurd (ha.1 z hz) (lt_irr z)
        · exact h1
      · intro hz
        rcases List.mem_cons.1 ((h z).2 (List.mem_cons_of_mem _ hz)) with h1 | h1
        · subst h1; exact absurd (hb.1 z hz) (lt_irr z)
        · exact h1
/-- A set of whatever comes. -/
def nub (ts : List Tx) : List Tx := Lib.compact (srt ts)
theorem srt_mem (ts : List Tx) (x : Tx) : x ∈ srt ts ↔ x ∈ ts := (List.mergeSort_perm ts _).mem_iff
theorem srt_sorted (ts : List Tx) : (srt ts).Pairwise (· ≤ ·) := by
  have := List.pairwise_mergeSort (le := fun x y : Tx => decide (x ≤ y)) (fun a b c h1 h2 => by
    simp only [decide_eq_true_eq] at *
    exact List.le_trans h1 h2) (fun a b => by
    simp only [Bool.or_eq_true, decide_eq_true_eq]
    exact List.le_total a b) ts
  exact this.imp (by intro a b h; simpa using h)
theorem compact_sorted {d : Array Tx} (hd : ∀ i j, i ≤ j → j < d.size → d[i]! ≤ d[j]!) : ∀ m, m ≤ d.size →
    SS (Lib.compactUpTo d m) ∧ (∀ x, x ∈ Lib.compactUpTo d m ↔ ∃ j, j < m ∧ d[j]! = x)
  | 0, _ => by simp [Lib.compactUpTo]
  | m + 1, hm => by
    obtain ⟨h1, h2⟩ := compact_sorted hd m (by omega)
    rw [Lib.compactUpTo_succ]
    by_cases hk : Lib.keeps d m = true
    · rw [if_pos hk]
      refine ⟨List.pairwise_append.2 ⟨h1, by simp, fun x hx y hy => ?_⟩, fun x => ?_⟩
      · simp only [List.mem_singleton] at hy
        subst hy
        obtain ⟨j, hj, rfl⟩ := (h2 x).1 hx
        have h3 := hd j (m - 1) (by omega) (by omega)
        have h4 := hd (m - 1) m (by omega) (by omega)
        unfold Lib.keeps at hk
        rw [decide_eq_true_eq] at hk
        have h5 : d[m - 1]! < d[m]! := lt_of_le_ne h4 (by rcases hk with h | h; omega; exact fun e => h e.symm)
        exact List.lt_of_le_of_lt h3 h5
      · rw [List.mem_append, h2, List.mem_singleton]
        constructor
        · rintro (⟨j, hj, rfl⟩ | rfl)
          · exact ⟨j, by omega, rfl⟩
          · exact ⟨m, by omega, rfl⟩
        · rintro ⟨j, hj, rfl⟩
          rcases Nat.lt_or_ge j m with h | h
          · exact .inl ⟨j, h, rfl⟩
          · have : j = m := by omega
            subst this
            exact .inr rfl
    · rw [if_neg hk, List.append_nil]
      refine ⟨h1, fun x => ?_⟩
      rw [h2]
      unfold Lib.keeps at hk
      rw [decide_eq_true_eq] at hk
      constructor
      · rintro ⟨j, hj, rfl⟩
        exact ⟨j, by omega, rfl⟩
      · rintro ⟨j, hj, rfl⟩
        rcases Nat.lt_or_ge j m with h | h
        · exact ⟨j, h, rfl⟩
        · have : j = m := by omega
          subst this
          have hne : j ≠ 0 := fun h => hk (.inl h)
          have heq : d[j]! = d[j - 1]! := Classical.not_not.1 fun h => hk (.inr h)
          exact ⟨j - 1, by omega, heq.symm⟩
theorem nub_spec (ts : List Tx) : SS (nub ts) ∧ ∀ x, x ∈ nub ts ↔ x ∈ ts := by
  have hs := srt_sorted ts
  have hd : ∀ i j, i ≤ j → j < (srt ts).toArray.size → (srt ts).toArray[i]! ≤ (srt ts).toArray[j]! := by
    intro i j hij hj
    have hj' : j < (srt ts).length := by simpa using hj
    rw [getElem!_pos _ i (by simp; omega), getElem!_pos _ j (by simpa using hj)]
    simp only [List.getElem_toArray]
    rcases Nat.lt_or_ge i j with h | h
    · exact List.pairwise_iff_getElem.1 hs i j (by omega) hj' h
    · have : i = j := by omega
      subst this
      exact List.le_refl _
  obtain ⟨h1, h2⟩ := compact_sorted hd (srt ts).length (by simp)
  refine ⟨h1, fun x => ?_⟩
  rw [← srt_mem ts x]
  unfold nub Lib.compact
  rw [h2]
  constructor
  · rintro ⟨j, hj, rfl⟩
    rw [getElem!_pos _ j (by simpa using hj)]
    simp
  · intro hx
    obtain ⟨j, hj, rfl⟩ := List.getElem_of_mem hx
    exact ⟨j, hj, by rw [getElem!_pos _ j (by simpa using hj)]; simp⟩
theorem nub_self {l : List Tx} (h : SS l) : nub l = l := ss_ext (nub_spec l).1 h (nub_spec l).2
theorem nub_len (ts : List Tx) : (nub ts).length ≤ ts.length := by
  unfold nub
  refine Nat.le_trans (compact_le _) ?_
  rw [srt_len]
  exact Nat.le_refl _
/-- A flag into a set. -/
def layF (l : List Tx) (s : Tx) : List Tx := l.filter (fun x => decide (x < s)) ++ [s] ++ l.filter (fun x => decide (s < x))
theorem layF_spec {l : List Tx} (h : SS l) (s : Tx) : SS (layF l s) ∧ ∀ x, x ∈ layF l s ↔ x ∈ l ∨ x = s := by
  refine ⟨?_, fun x => ?_⟩
  · unfold layF
    refine List.pairwise_append.2 ⟨List.pairwise_append.2 ⟨h.filter _, by simp, fun x hx y hy => ?_⟩, h.filter _, fun x hx y hy => ?_⟩
    · simp only [List.mem_filter, decide_eq_true_eq, List.mem_singleton] at hx hy
      rw [hy]; exact hx.2
    · simp only [List.mem_filter, decide_eq_true_eq] at hy
      rcases List.mem_append.1 hx with hx | hx
      · simp only [List.mem_filter, decide_eq_true_eq] at hx
        exact List.lt_trans hx.2 hy.2
      · simp only [List.mem_singleton] at hx
        rw [hx]; exact hy.2
  · unfold layF
    simp only [List.mem_append, List.mem_filter, decide_eq_true_eq, List.mem_singleton]
    constructor
    · rintro ((⟨h1, _⟩ | h1) | ⟨h1, _⟩)
      · exact .inl h1
      · exact .inr h1
      · exact .inl h1
    · rintro (h1 | h1)
      · rcases Classical.em (x < s) with h2 | h2
        · exact .inl (.inl ⟨h1, h2⟩)
        · rcases Classical.em (x = s) with h3 | h3
          · exact .inl (.inr h3)
          · exact .inr ⟨h1, lt_of_le_ne (List.not_lt.1 h2) (fun e => h3 e.symm)⟩
      · exact .inl (.inr h1)
def laysF (l ts : List Tx) : List Tx := ts.foldl layF l
theorem laysF_spec {l : List Tx} (h : SS l) : ∀ ts, SS (laysF l ts) ∧ ∀ x, x ∈ laysF l ts ↔ x ∈ l ∨ x ∈ ts := by
  intro ts
  induction ts generalizing l with
  | nil => exact ⟨h, by simp [laysF]⟩
  | cons t r ih =>
    obtain ⟨h1, h2⟩ := layF_spec h t
    obtain ⟨h3, h4⟩ := ih h1
    refine ⟨h3, fun x => ?_⟩
    show x ∈ laysF (layF l t) r ↔ _
    rw [h4, h2, List.mem_cons, or_assoc]
theorem laysF_nub (ts : List Tx) : laysF [] ts = nub ts := by
  obtain ⟨h1, h2⟩ := laysF_spec (l := []) (by simp) ts
  exact ss_ext h1 (nub_spec ts).1 fun x => by rw [h2, (nub_spec ts).2]; simp
theorem laysF_app (l a b : List Tx) : laysF (laysF l a) b = laysF l (a ++ b) := by simp [laysF]
theorem laysF_snoc (l a : List Tx) (t : Tx) : layF (laysF l a) t = laysF l (a ++ [t]) := by simp [laysF]

/-! ### what is done with sets -/
/-- The set of flags. -/
def normF (l : List Tx) : Except Nat (List Tx) := match toldL l with
  | none => .error 18
  | some ts => if 16 < (nub ts).length then .error 5 else .ok (nub ts)
def checkF (l : List Tx) : Prop := normF l = .ok l
instance (l : List Tx) : Decidable (checkF l) := by
  unfold checkF
  cases h : normF l with
  | error k => exact isFalse (by simp)
  | ok x => exact if hx : x = l then isTrue (by rw [hx]) else isFalse (by simp [hx])
theorem checkF_facts {l : List Tx} (h : checkF l) : SS l ∧ l.length ≤ 16 ∧ toldL l = some l ∧ ∀ s ∈ l, toldF s = some s := by
  unfold checkF normF at h
  cases ht : toldL l with
  | none => rw [ht] at h; cases h
  | some ts =>
    rw [ht] at h
    dsimp only at h
    split at h
    · cases h
    · rename_i hl
      injection h with h
      have h1 := nub_spec ts
      rw [h] at h1
      have h2 : ∀ s ∈ l, toldF s = some s := fun s hs => toldL_told ht s ((h1.2 s).1 hs)
      refine ⟨h1.1, by rw [h] at hl; omega, ?_, h2⟩
      exact ht.symm.trans (toldL_all h2)
theorem checkF_iff {l : List Tx} : checkF l ↔ SS l ∧ l.length ≤ 16 ∧ ∀ s ∈ l, toldF s = some s := by
  constructor
  · intro h
    obtain ⟨h1, h2, _, h3⟩ := checkF_facts h
    exact ⟨h1, h2, h3⟩
  · rintro ⟨h1, h2, h3⟩
    unfold checkF normF
    rw [toldL_all h3]
    dsimp only
    rw [nub_self h1, if_neg (by omega)]
theorem normF_check {l r : List Tx} (h : normF l = .ok r) : checkF r := by
  unfold normF at h
  cases ht : toldL l with
  | none => rw [ht] at h; cases h
  | some ts =>
    rw [ht] at h
    dsimp only at h
    split at h
    · cases h
    · rename_i hl
      injection h with h
      subst h
      exact checkF_iff.2 ⟨(nub_spec ts).1, by omega, fun s hs => toldL_told ht s (((nub_spec ts).2 s).1 hs)⟩
def changeF (l : List Tx) (op : Int) (more : List Tx) : Except Nat (List Tx) :=
  if ¬ checkF l ∨ op < 0 ∨ 2 < op then .error 1
  else match toldL more with
    | none => .error 18
    | some ts => normF (if op = 1 then ts ++ l else if op = 2 then l.filter (fun x => !decide (x ∈ ts)) else ts)
end Go.Proofs.Ytmfglifjnoilnaa
