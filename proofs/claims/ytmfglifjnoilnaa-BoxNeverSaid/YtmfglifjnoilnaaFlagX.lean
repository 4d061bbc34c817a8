/-
  FlagP, FlagW, FlagN, FlagC in one text.
-/
import Derived.Test.YtmfglifjnoilnaaStr
import Derived.Lib.DecodeN
/-
  Flags on plain lists: how a text is told as one, sets in order, what is done with sets.
-/
namespace Go.Proofs.Ytmfglifjnoilnaa
open Go.RowKit Go.Sort

/-! ### small letters -/
def low (c : UInt8) : UInt8 := if 65 ≤ c.toNat ∧ c.toNat ≤ 90 then c + 32 else c
theorem low_nat (c : UInt8) : (low c).toNat = if 65 ≤ c.toNat ∧ c.toNat ≤ 90 then c.toNat + 32 else c.toNat := by
  unfold low
  split
  · rename_i h
    rw [UInt8.toNat_add]
    have : (32 : UInt8).toNat = 32 := rfl
    omega
  · rfl
theorem low_low (c : UInt8) : low (low c) = low c := by
  apply UInt8.toNat_inj.1
  rw [low_nat, low_nat]
  by_cases h : 65 ≤ c.toNat ∧ c.toNat ≤ 90
  · rw [if_pos h, if_neg (by omega)]
  · rw [if_neg h, if_neg h]
def smallS (s : Tx) : Tx := s.map low
theorem smallS_len (s : Tx) : (smallS s).length = s.length := by simp [smallS]
theorem smallS_smallS (s : Tx) : smallS (smallS s) = smallS s := by
  unfold smallS
  rw [List.map_map]
  exact List.map_congr_left fun c _ => low_low c
/-- May a keyword have it? -/
def SignN (n : Nat) : Prop := (97 ≤ n ∧ n ≤ 122) ∨ (48 ≤ n ∧ n ≤ 57) ∨ n = 36 ∨ n = 45 ∨ n = 46 ∨ n = 95
instance (n : Nat) : Decidable (SignN n) := by unfold SignN; exact inferInstance
theorem SignN.lt {n : Nat} (h : SignN n) : n < 128 := by unfold SignN at h; omega

/-! ### the flags -/
def fiveL : List Tx := [[92, 65, 110, 115, 119, 101, 114, 101, 100], [92, 68, 101, 108, 101, 116, 101, 100], [92, 68, 114, 97, 102, 116], [92, 70, 108, 97, 103, 103, 101, 100], [92, 83, 101, 101, 110]]
/-- A flag as it is told. -/
def toldF (s : Tx) : Option Tx :=
  if ([92] : Tx).isPrefixOf s = true then fiveL.find? fun f => decide (smallS f = smallS s)
  else if smallS s = [] ∨ 20 < s.length ∨ ∃ c ∈ smallS s, ¬ SignN c.toNat then none else some (smallS s)
theorem toldF_len {s t : Tx} (h : toldF s = some t) : 0 < t.length ∧ t.length ≤ 20 := by
  unfold toldF at h
  split at h
  · have := List.mem_of_find?_eq_some h
    have key : ∀ t ∈ fiveL, 0 < t.length ∧ t.length ≤ 20 := by decide
    exact key t this
  · split at h
    · cases h
    · rename_i h1
      injection h with h
      subst h
      rw [smallS_len]
      refine ⟨?_, by omega⟩
      have : smallS s ≠ [] := fun e => h1 (.inl e)
      rw [← smallS_len]
      exact List.length_pos_iff.2 this
theorem toldF_ne {s t : Tx} (h : toldF s = some t) : t ≠ [] := by
  have := (toldF_len h).1
  intro e; subst e; simp at this
theorem toldF_five : ∀ f ∈ fiveL, toldF f = some f := by decide +kernel
theorem toldF_told {s t : Tx} (h : toldF s = some t) : toldF t = some t := by
  unfold toldF at h
  split at h
  · exact toldF_five t (List.mem_of_find?_eq_some h)
  · split at h
    · cases h
    · rename_i h0 h1
      injection h with h
      subst h
      unfold toldF
      rw [if_neg, if_neg]
      · rw [smallS_smallS]
      · rw [smallS_smallS, smallS_len]; exact h1
      · intro h2
        cases hs : smallS s with
        | nil => rw [hs] at h2; simp at h2
        | cons c r =>
          rw [hs] at h2
          simp at h2
          subst h2
          refine h1 (.inr (.inr ⟨92, by rw [hs]; simp, by decide⟩))
def toldL : List Tx → Option (List Tx)
  | [] => some []
  | s :: r => match toldF s, toldL r with
    | some t, some ts => some (t :: ts)
    | _, _ => none
theorem toldL_snoc (l : List Tx) (s : Tx) : toldL (l ++ [s]) = match toldL l, toldF s with
    | some ts, some t => some (ts ++ [t])
    | _, _ => none := by
  induction l with
  | nil => simp only [List.nil_append, toldL]; cases toldF s <;> rfl
  | cons a r ih =>
    simp only [List.cons_append, toldL, ih]
    cases toldF a <;> cases toldL r <;> cases toldF s <;> rfl
theorem toldL_none {l : List Tx} {s : Tx} (hs : s ∈ l) (h : toldF s = none) : toldL l = none := by
  induction l with
  | nil => cases hs
  | cons a r ih =>
    simp only [toldL]
    rcases List.mem_cons.1 hs with rfl | hs
    · rw [h]
    · rw [ih hs]; cases toldF a <;> rfl
theorem toldL_all {l : List Tx} (h : ∀ s ∈ l, toldF s = some s) : toldL l = some l := by
  induction l with
  | nil => rfl
  | cons a r ih =>
    simp only [toldL]
    rw [h a (by simp), ih fun s hs => h s (by simp [hs])]
theorem toldL_mem {l ts : List Tx} (h : toldL l = some ts) : ∀ t, t ∈ ts ↔ ∃ s ∈ l, toldF s = some t := by
  induction l generalizing ts with
  | nil => simp only [toldL, Option.some.injEq] at h; subst h; simp
  | cons a r ih =>
    simp only [toldL] at h
    cases ha : toldF a with
    | none => rw [ha] at h; cases h
    | some t0 =>
      cases hr : toldL r with
      | none => rw [ha, hr] at h; cases h
      | some ts0 =>
        rw [ha, hr] at h
        injection h with h
        subst h
        intro t
        simp only [List.mem_cons, ih hr, exists_eq_or_imp, ha, Option.some.injEq]
        constructor
        · rintro (rfl | h)
          · exact .inl rfl
          · exact .inr h
        · rintro (rfl | h)
          · exact .inl rfl
          · exact .inr h
theorem toldL_told {l ts : List Tx} (h : toldL l = some ts) : ∀ t ∈ ts, toldF t = some t := fun t ht => by
  obtain ⟨s, _, hs⟩ := (toldL_mem h t).1 ht
  exact toldF_told hs
theorem toldL_len {l ts : List Tx} (h : toldL l = some ts) : ts.length = l.length := by
  induction l generalizing ts with
  | nil => simp only [toldL, Option.some.injEq] at h; subst h; rfl
  | cons a r ih =>
    simp only [toldL] at h
    cases ha : toldF a with
    | none => rw [ha] at h; cases h
    | some t0 =>
      cases hr : toldL r with
      | none => rw [ha, hr] at h; cases h
      | some ts0 => rw [ha, hr] at h; injection h with h; subst h; simp [ih hr]

/-! ### sets -/
/-- In order, each once. -/
abbrev SS (l : List Tx) : Prop := l.Pairwise (· < ·)
theorem lt_of_le_ne {a b : Tx} (h : a ≤ b) (hne : a ≠ b) : a < b := by
  rcases Classical.em (a < b) with h1 | h1
  · exact h1
  · exact absurd (List.le_antisymm h (List.not_lt.1 h1)) hne
theorem lt_irr (a : Tx) : ¬ a < a := List.lt_irrefl a
theorem ss_ext {a b : List Tx} (ha : SS a) (hb : SS b) (h : ∀ x, x ∈ a ↔ x ∈ b) : a = b := by
  induction a generalizing b with
  | nil =>
    cases b with
    | nil => rfl
    | cons y r => exact absurd ((h y).2 (by simp)) (by simp)
  | cons x r ih =>
    cases b with
    | nil => exact absurd ((h x).1 (by simp)) (by simp)
    | cons y q =>
      have ha := List.pairwise_cons.1 ha
      have hb := List.pairwise_cons.1 hb
      have hxy : x = y := by
        rcases List.mem_cons.1 ((h x).1 (by simp)) with h1 | h1
        · exact h1
        · rcases List.mem_cons.1 ((h y).2 (by simp)) with h2 | h2
          · exact h2.symm
          · exact absurd (List.lt_trans (ha.1 y h2) (hb.1 x h1)) (lt_irr x)
      subst hxy
      rw [ih ha.2 hb.2]
      intro z
      constructor
      · intro hz
        rcases List.mem_cons.1 ((h z).1 (List.mem_cons_of_mem _ hz)) with h1 | h1
        · subst h1; exact absurd (ha.1 z hz) (lt_irr z)
        · exact h1
      · intro hz
        rcases List.mem_cons.1 ((h z).2 (List.mem_cons_of_mem _ hz)) with h1 | h1
        · subst h1; exact absurd (hb.1 z hz) (lt_irr z)
        · exact h1
/-- A set of whatever comes. -/
def nub (ts : List Tx) : List Tx := Lib.compact (srt ts)
theorem srt_mem (ts : List Tx) (x : Tx) : x ∈ srt ts ↔ x ∈ ts := (List.mergeSort_perm ts _).mem_iff
theorem srt_sorted (ts : List Tx) : (srt ts).Pairwise (· ≤ ·) := by
  have := List.pairwise_mergeSort (le := fun x y : Tx => decide (x ≤ y)) (fun a b c h1 h2 => by
    simp only [decide_eq_true_eq] at *
    exact List.le_trans h1 h2) (fun a b => by
    simp only [Bool.or_eq_true, decide_eq_true_eq]
    exact List.le_total a b) ts
  exact this.imp (by intro a b h; simpa using h)
theorem compact_sorted {d : Array Tx} (hd : ∀ i j, i ≤ j → j < d.size → d[i]! ≤ d[j]!) : ∀ m, m ≤ d.size →
    SS (Lib.compactUpTo d m) ∧ (∀ x, x ∈ Lib.compactUpTo d m ↔ ∃ j, j < m ∧ d[j]! = x)
  | 0, _ => by simp [Lib.compactUpTo]
  | m + 1, hm => by
    obtain ⟨h1, h2⟩ := compact_sorted hd m (by omega)
    rw [Lib.compactUpTo_succ]
    by_cases hk : Lib.keeps d m = true
    · rw [if_pos hk]
      refine ⟨List.pairwise_append.2 ⟨h1, by simp, fun x hx y hy => ?_⟩, fun x => ?_⟩
      · simp only [List.mem_singleton] at hy
        subst hy
        obtain ⟨j, hj, rfl⟩ := (h2 x).1 hx
        have h3 := hd j (m - 1) (by omega) (by omega)
        have h4 := hd (m - 1) m (by omega) (by omega)
        unfold Lib.keeps at hk
        rw [decide_eq_true_eq] at hk
        have h5 : d[m - 1]! < d[m]! := lt_of_le_ne h4 (by rcases hk with h | h; omega; exact fun e => h e.symm)
        exact List.lt_of_le_of_lt h3 h5
      · rw [List.mem_append, h2, List.mem_singleton]
        constructor
        · rintro (⟨j, hj, rfl⟩ | rfl)
          · exact ⟨j, by omega, rfl⟩
          · exact ⟨m, by omega, rfl⟩
        · rintro ⟨j, hj, rfl⟩
          rcases Nat.lt_or_ge j m with h | h
          · exact .inl ⟨j, h, rfl⟩
          · have : j = m := by omega
            subst this
            exact .inr rfl
    · rw [if_neg hk, List.append_nil]
      refine ⟨h1, fun x => ?_⟩
      rw [h2]
      unfold Lib.keeps at hk
      rw [decide_eq_true_eq] at hk
      constructor
      · rintro ⟨j, hj, rfl⟩
        exact ⟨j, by omega, rfl⟩
      · rintro ⟨j, hj, rfl⟩
        rcases Nat.lt_or_ge j m with h | h
        · exact ⟨j, h, rfl⟩
        · have : j = m := by omega
          subst this
          have hne : j ≠ 0 := fun h => hk (.inl h)
          have heq : d[j]! = d[j - 1]! := Classical.not_not.1 fun h => hk (.inr h)
          exact ⟨j - 1, by omega, heq.symm⟩
theorem nub_spec (ts : List Tx) : SS (nub ts) ∧ ∀ x, x ∈ nub ts ↔ x ∈ ts := by
  have hs := srt_sorted ts
  have hd : ∀ i j, i ≤ j → j < (srt ts).toArray.size → (srt ts).toArray[i]! ≤ (srt ts).toArray[j]! := by
    intro i j hij hj
    have hj' : j < (srt ts).length := by simpa using hj
    rw [getElem!_pos _ i (by simp; omega), getElem!_pos _ j (by simpa using hj)]
    simp only [List.getElem_toArray]
    rcases Nat.lt_or_ge i j with h | h
    · exact List.pairwise_iff_getElem.1 hs i j (by omega) hj' h
    · have : i = j := by omega
      subst this
      exact List.le_refl _
  obtain ⟨h1, h2⟩ := compact_sorted hd (srt ts).length (by simp)
  refine ⟨h1, fun x => ?_⟩
  rw [← srt_mem ts x]
  unfold nub Lib.compact
  rw [h2]
  constructor
  · rintro ⟨j, hj, rfl⟩
    rw [getElem!_pos _ j (by simpa using hj)]
    simp
  · intro hx
    obtain ⟨j, hj, rfl⟩ := List.getElem_of_mem hx
    exact ⟨j, hj, by rw [getElem!_pos _ j (by simpa using hj)]; simp⟩
theorem nub_self {l : List Tx} (h : SS l) : nub l = l := ss_ext (nub_spec l).1 h (nub_spec l).2
theorem nub_len (ts : List Tx) : (nub ts).length ≤ ts.length := by
  unfold nub
  refine Nat.le_trans (compact_le _) ?_
  rw [srt_len]
  exact Nat.le_refl _
/-- A flag into a set. -/
def layF (l : List Tx) (s : Tx) : List Tx := l.filter (fun x => decide (x < s)) ++ [s] ++ l.filter (fun x => decide (s < x))
theorem layF_spec {l : List Tx} (h : SS l) (s : Tx) : SS (layF l s) ∧ ∀ x, x ∈ layF l s ↔ x ∈ l ∨ x = s := by
  refine ⟨?_, fun x => ?_⟩
  · unfold layF
    refine List.pairwise_append.2 ⟨List.pairwise_append.2 ⟨h.filter _, by simp, fun x hx y hy => ?_⟩, h.filter _, fun x hx y hy => ?_⟩
    · simp only [List.mem_filter, decide_eq_true_eq, List.mem_singleton] at hx hy
      rw [hy]; exact hx.2
    · simp only [List.mem_filter, decide_eq_true_eq] at hy
      rcases List.mem_append.1 hx with hx | hx
      · simp only [List.mem_filter, decide_eq_true_eq] at hx
        exact List.lt_trans hx.2 hy.2
      · simp only [List.mem_singleton] at hx
        rw [hx]; exact hy.2
  · unfold layF
    simp only [List.mem_append, List.mem_filter, decide_eq_true_eq, List.mem_singleton]
    constructor
    · rintro ((⟨h1, _⟩ | h1) | ⟨h1, _⟩)
      · exact .inl h1
      · exact .inr h1
      · exact .inl h1
    · rintro (h1 | h1)
      · rcases Classical.em (x < s) with h2 | h2
        · exact .inl (.inl ⟨h1, h2⟩)
        · rcases Classical.em (x = s) with h3 | h3
          · exact .inl (.inr h3)
          · exact .inr ⟨h1, lt_of_le_ne (List.not_lt.1 h2) (fun e => h3 e.symm)⟩
      · exact .inl (.inr h1)
def laysF (l ts : List Tx) : List Tx := ts.foldl layF l
theorem laysF_spec {l : List Tx} (h : SS l) : ∀ ts, SS (laysF l ts) ∧ ∀ x, x ∈ laysF l ts ↔ x ∈ l ∨ x ∈ ts := by
  intro ts
  induction ts generalizing l with
  | nil => exact ⟨h, by simp [laysF]⟩
  | cons t r ih =>
    obtain ⟨h1, h2⟩ := layF_spec h t
    obtain ⟨h3, h4⟩ := ih h1
    refine ⟨h3, fun x => ?_⟩
    show x ∈ laysF (layF l t) r ↔ _
    rw [h4, h2, List.mem_cons, or_assoc]
theorem laysF_nub (ts : List Tx) : laysF [] ts = nub ts := by
  obtain ⟨h1, h2⟩ := laysF_spec (l := []) (by simp) ts
  exact ss_ext h1 (nub_spec ts).1 fun x => by rw [h2, (nub_spec ts).2]; simp
theorem laysF_app (l a b : List Tx) : laysF (laysF l a) b = laysF l (a ++ b) := by simp [laysF]
theorem laysF_snoc (l a : List Tx) (t : Tx) : layF (laysF l a) t = laysF l (a ++ [t]) := by simp [laysF]

/-! ### what is done with sets -/
/-- The set of flags. -/
def normF (l : List Tx) : Except Nat (List Tx) := match toldL l with
  | none => .error 18
  | some ts => if 16 < (nub ts).length then .error 5 else .ok (nub ts)
def checkF (l : List Tx) : Prop := normF l = .ok l
instance (l : List Tx) : Decidable (checkF l) := by
  unfold checkF
  cases h : normF l with
  | error k => exact isFalse (by simp)
  | ok x => exact if hx : x = l then isTrue (by rw [hx]) else isFalse (by simp [hx])
theorem checkF_facts {l : List Tx} (h : checkF l) : SS l ∧ l.length ≤ 16 ∧ toldL l = some l ∧ ∀ s ∈ l, toldF s = some s := by
  unfold checkF normF at h
  cases ht : toldL l with
  | none => rw [ht] at h; cases h
  | some ts =>
    rw [ht] at h
    dsimp only at h
    split at h
    · cases h
    · rename_i hl
      injection h with h
      have h1 := nub_spec ts
      rw [h] at h1
      have h2 : ∀ s ∈ l, toldF s = some s := fun s hs => toldL_told ht s ((h1.2 s).1 hs)
      refine ⟨h1.1, by rw [h] at hl; omega, ?_, h2⟩
      exact ht.symm.trans (toldL_all h2)
theorem checkF_iff {l : List Tx} : checkF l ↔ SS l ∧ l.length ≤ 16 ∧ ∀ s ∈ l, toldF s = some s := by
  constructor
  · intro h
    obtain ⟨h1, h2, _, h3⟩ := checkF_facts h
    exact ⟨h1, h2, h3⟩
  · rintro ⟨h1, h2, h3⟩
    unfold checkF normF
    rw [toldL_all h3]
    dsimp only
    rw [nub_self h1, if_neg (by omega)]
theorem normF_check {l r : List Tx} (h : normF l = .ok r) : checkF r := by
  unfold normF at h
  cases ht : toldL l with
  | none => rw [ht] at h; cases h
  | some ts =>
    rw [ht] at h
    dsimp only at h
    split at h
    · cases h
    · rename_i hl
      injection h with h
      subst h
      exact checkF_iff.2 ⟨(nub_spec ts).1, by omega, fun s hs => toldL_told ht s (((nub_spec ts).2 s).1 hs)⟩
def changeF (l : List Tx) (op : Int) (more : List Tx) : Except Nat (List Tx) :=
  if ¬ checkF l ∨ op < 0 ∨ 2 < op then .error 1
  else match toldL more with
    | none => .error 18
    | some ts => normF (if op = 1 then ts ++ l else if op = 2 then l.filter (fun x => !decide (x ∈ ts)) else ts)
end Go.Proofs.Ytmfglifjnoilnaa

/-
  The walks of flag: small letters, a flag as it is told.
-/
namespace Go.Proofs.Ytmfglifjnoilnaa
open Go.RowKit Go.Sort

theorem u8_set {n i : Nat} {cs : Array Value} {l : List UInt8} {c : UInt8} (h : cs.toList.take n = U8 l) (hl : l.length = n) (hi : i < n) : (cs.setIfInBounds i (.int .u8 ((c.toNat : Nat) : Int))).toList.take n = U8 (l.set i c) := by
  rw [Array.toList_setIfInBounds, List.take_set, h]
  simp [U8, List.map_set]
theorem low_step {s : Tx} {i : Nat} (h : i < s.length) : ((s.take i).map low ++ s.drop i).set i (low s[i]) = (s.take (i + 1)).map low ++ s.drop (i + 1) := by
  have e1 : ((s.take i).map low).length = i := by simp; omega
  rw [List.set_append_right _ _ (by omega), e1, Nat.sub_self, List.drop_eq_getElem_cons h, List.set_cons_zero]
  have e2 : s.take (i + 1) = s.take i ++ [s[i]] := by rw [List.take_add_one, List.getElem?_eq_getElem h]; rfl
  rw [e2]
  simp only [List.map_append, List.map_cons, List.map_nil, List.append_assoc, List.cons_append, List.nil_append]
theorem low_stay {s : Tx} {i : Nat} (h : i < s.length) (hl : low s[i] = s[i]) : (s.take i).map low ++ s.drop i = (s.take (i + 1)).map low ++ s.drop (i + 1) := by
  rw [← low_step h, hl]
  apply List.ext_getElem?
  intro j
  by_cases hj : j = i
  · subst hj
    have e1 : ((s.take j).map low).length = j := by simp; omega
    rw [List.getElem?_set_self (by simp; omega), List.getElem?_append_right (by omega), e1, Nat.sub_self, List.drop_eq_getElem_cons h]
    rfl
  · rw [List.getElem?_set_ne (Ne.symm hj)]

set_option maxRecDepth 100000 in
theorem small_spec (q : Tx) (w : World) (hq : q.length ≤ 1000000) : Calls Try.prog 71 #[encStr q] w fun e w' => e = .returned (encStr (smallS q)) ∧ Frm [] w w' := by
  refine VC.calls (nt := 29) (res := #[.tmp 2]) Try.func71 rfl Try.ntmps71 Try.results71 rfl ?_
  refine VC.seq ?_
  refine VC.region ?_
  refine Ops.r (Run.asg rfl) rfl ?_
  refine Ops.nil ?_
  refine thenQ_n ?_
  refine VC.sub [(0, _)] (.cons rfl .nil) ?_
  refine VC.seq ?_
  refine VC.region ?_
  refine Ops.r (Run.mv rfl) rfl ?_
  refine Ops.m (Does.bytesOfT rfl Try.underlying9 Try.underlying40 Try.underlying5) rfl ?_
  rintro _ w1 ⟨c1, cs1, rfl, hF1, ht1, hf1⟩
  have hge : w.heap.size ≤ w.heap.size := Nat.le_refl _
  generalize hg : w.heap.size = g1 at hF1 hge ⊢
  refine Ops.r (Run.asg rfl) rfl ?_
  refine Ops.nil ?_
  refine thenQ_n ?_
  refine VC.sub [(3, _)] (.cons rfl .nil) ?_
  refine VC.seq ?_
  refine VC.seq ?_
  refine VC.region ?_
  refine Ops.r (Run.mv rfl) rfl ?_
  refine Ops.r (Run.lenS rfl Try.underlying40) rfl ?_
  refine Ops.r (v := .int .i64 ((0 : Nat) : Int)) (Run.mv rfl) rfl ?_
  refine Ops.nil ?_
  refine thenQ_n ?_
  refine VC.block ?_
  refine VC.loop (σ := Nat) (fun s => [(3, .slice (some ⟨g1, 0, none⟩) q.length c1), (8, .slice (some ⟨g1, 0, none⟩) q.length c1), (9, .int .i64 ((q.length : Nat) : Int)), (10, .int .i64 ((s : Nat) : Int))]) (fun s wr => s ≤ q.length ∧ Frm [] w wr ∧ ∃ cs, Fro wr g1 5 cs ∧ cs.toList.take q.length = U8 ((q.take s).map low ++ q.drop s)) (fun s => q.length - s) 0 (.cons rfl (.cons rfl (.cons rfl (.cons rfl .nil)))) ⟨by omega, hf1, cs1, hF1, by simpa using ht1⟩ ?_
  rintro i wr ⟨hi, hfr, cs, hF, ht⟩
  refine VC.seq ?_
  refine VC.region ?_
  refine Ops.r (Run.bin rfl rfl (Bin.lssN _ _)) rfl ?_
  refine Ops.nil ?_
  refine thenQ_n ?_
  refine VC.seq ?_
  refine VC.condD rfl (fun hc1 => ?_) (fun hc1 => ?_)
  · skip
    have hrd : Rd wr 1 (some ⟨g1, 0, none⟩) q.length (U8 ((q.take i).map low ++ q.drop i)) := by
      have h := hF.rd (l := (q.take i).map low ++ q.drop i) (by simpa [Nat.min_eq_left hi, Nat.add_sub_cancel' hi] using ht)
      simpa [Nat.min_eq_left hi, Nat.add_sub_cancel' hi] using h
    have hcell : wr.cell? ((⟨g1, 0, none⟩ : Addr).add (i * 1)) = some (.int .u8 ((q[i].toNat : Nat) : Int)) := by
      rw [Nat.mul_one]
      obtain ⟨ad, u, hA, hu, hc⟩ := hrd.at1 hc1
      cases hA
      rw [hc, ← hu]
      simp [U8, List.getElem?_append_right, Nat.min_eq_left hi, List.getElem?_eq_getElem, hc1]
    have hll : ((q.take i).map low ++ q.drop i).length = q.length := by simp; omega
    have hsz : i < cs.size := by
      have := congrArg List.length ht
      simp [U8] at this
      omega
    refine VC.skip ?_
    refine thenQ_n ?_
    refine VC.sub [(3, _), (8, _), (9, _), (10, _)] (.cons rfl (.cons rfl (.cons rfl (.cons rfl .nil)))) ?_
    refine VC.seq ?_
    refine VC.block ?_
    refine VC.seq ?_
    refine VC.region ?_
    refine Ops.r (Run.mv rfl) rfl ?_
    refine Ops.r (Run.indexS i rfl rfl Try.underlying40 Try.sizeOf5 hc1) rfl ?_
    refine Ops.r (Run.load rfl Try.isAgg5 hcell) rfl ?_
    refine Ops.r (Run.asg rfl) rfl ?_
    refine Ops.r (Run.asg rfl) rfl ?_
    refine Ops.nil ?_
    refine thenQ_n ?_
    refine VC.sub [(3, _), (4, _), (5, _), (8, _), (9, _), (10, _)] (.cons rfl (.cons rfl (.cons rfl (.cons rfl (.cons rfl (.cons rfl .nil)))))) ?_
    refine VC.seq ?_
    refine VC.split1 [(3, _), (4, _), (5, _), (8, _), (9, _), (10, _)] (.cons rfl (.cons rfl (.cons rfl (.cons rfl (.cons rfl (.cons rfl .nil)))))) 20 (.bool (decide ((65 ≤ q[i].toNat) ∧ (q[i].toNat ≤ 90)))) ?_ ?_
    · by_cases hs0 : 65 ≤ q[i].toNat
      · skip
        refine VC.region ?_
        refine Ops.r (Run.mv rfl) rfl ?_
        refine Ops.r (Run.bin rfl rfl (Bin.geqN _ 65)) rfl ?_
        refine Ops.r (Run.mv rfl) rfl ?_
        refine Ops.rg rfl (by first | rfl | assumption | exact decide_eq_true (by assumption) | exact decide_eq_false (by assumption) | decide | (simp; done) | (simp; omega) | (simp [*]; done)) (Run.mv rfl) rfl ?_
        refine Ops.rg rfl (by first | rfl | assumption | exact decide_eq_true (by assumption) | exact decide_eq_false (by assumption) | decide | (simp; done) | (simp; omega) | (simp [*]; done)) (Run.bin rfl rfl (Bin.leqN _ 90)) rfl ?_
        refine Ops.r (Run.pickT rfl rfl (by first | rfl | assumption | exact decide_eq_true (by assumption) | exact decide_eq_false (by assumption) | decide | (simp; done) | (simp; omega) | (simp [*]; done))) rfl ?_
        refine Ops.nil ?_
        refine thenQ_n ⟨(.cons (by rw [dand1 hs0]; rfl) (.cons rfl (.cons rfl (.cons rfl (.cons rfl (.cons rfl (.cons rfl .nil))))))), rfl⟩
      · skip
        refine VC.region ?_
        refine Ops.r (Run.mv rfl) rfl ?_
        refine Ops.r (Run.bin rfl rfl (Bin.geqN _ 65)) rfl ?_
        refine Ops.r (Run.mv rfl) rfl ?_
        refine Ops.sk rfl (by first | rfl | assumption | exact decide_eq_true (by assumption) | exact decide_eq_false (by assumption) | decide | (simp; done) | (simp; omega) | (simp [*]; done)) rfl ?_
        refine Ops.sk rfl (by first | rfl | assumption | exact decide_eq_true (by assumption) | exact decide_eq_false (by assumption) | decide | (simp; done) | (simp; omega) | (simp [*]; done)) rfl ?_
        refine Ops.r (Run.pickF rfl rfl (by first | rfl | assumption | exact decide_eq_true (by assumption) | exact decide_eq_false (by assumption) | decide | (simp; done) | (simp; omega) | (simp [*]; done))) rfl ?_
        refine Ops.nil ?_
        refine thenQ_n ⟨(.cons (by rw [dand0 hs0]; rfl) (.cons rfl (.cons rfl (.cons rfl (.cons rfl (.cons rfl (.cons rfl .nil))))))), rfl⟩
    · intro Γ hΓ
      refine thenQ_n (VC.sub _ hΓ ?_)
      refine VC.meet (σ := Unit) (fun s => [(3, .slice (some ⟨g1, 0, none⟩) q.length c1), (8, .slice (some ⟨g1, 0, none⟩) q.length c1), (9, .int .i64 ((q.length : Nat) : Int)), (10, .int .i64 ((i : Nat) : Int))]) (fun s wm => Frm [] w wm ∧ ∃ cs, Fro wm g1 5 cs ∧ cs.toList.take q.length = U8 ((q.take (i + 1)).map low ++ q.drop (i + 1))) ?_ ?_
      · skip
        refine VC.condD rfl (fun hc2 => ?_) (fun hc2 => ?_)
        · skip
          refine VC.region ?_
          refine Ops.r (Run.mv rfl) rfl ?_
          refine Ops.r (Run.mv rfl) rfl ?_
          refine Ops.r (Run.mv rfl) rfl ?_
          refine Ops.r (Run.bin rfl rfl (Bin.add_u8 _ 32 (by omega))) rfl ?_
          rw [show (q[i].toNat + 32 : Nat) = (low q[i]).toNat by rw [low_nat, if_pos hc2]]
          refine Ops.r (Run.indexS i rfl rfl Try.underlying40 Try.sizeOf5 hc1) rfl ?_
          rw [show (⟨g1, 0, none⟩ : Addr).add (i * 1) = ⟨g1, i, none⟩ by unfold Addr.add; rw [Nat.mul_one]; split <;> simp_all]
          refine Ops.st (Acts.storeFro rfl rfl Try.sizeOf5 hF hsz rfl) ?_
          rintro w2 ⟨hF2, hf2, hs2⟩
          refine Ops.nil ?_
          refine thenQ_n ⟨(), (.cons rfl (.cons rfl (.cons rfl (.cons rfl .nil)))), ?_⟩
          exact ⟨hfr.own hf2 (fun x hx => by simp at hx; omega), _, hF2, by rw [u8_set ht hll hc1, low_step hc1]⟩
        · skip
          refine VC.skip ?_
          refine thenQ_n ⟨(), (.cons rfl (.cons rfl (.cons rfl (.cons rfl .nil)))), ?_⟩
          exact ⟨hfr, cs, hF, by rw [ht, low_stay hc1 (UInt8.toNat_inj.1 (by rw [low_nat, if_neg hc2]))]⟩
      · skip
        rintro _ wm ⟨hfr2, cs2, hF2, ht2⟩ Γ hΓ
        refine blockQ_n (thenQ_n (VC.sub _ hΓ ?_))
        refine VC.region ?_
        refine Ops.r (Run.bin rfl rfl (Bin.add_i64 _ 1 (by omega))) rfl ?_
        refine Ops.r (Run.mv rfl) rfl ?_
        refine Ops.nil ?_
        refine thenQ_n ⟨(i + 1), (.cons rfl (.cons rfl (.cons rfl (.cons rfl .nil)))), ?_, ?_⟩
        · skip
          exact ⟨hc1, hfr2, cs2, hF2, ht2⟩
        · skip
          first | omega | (dsimp only; omega)
  · skip
    refine VC.exit ?_
    refine thenQ_x (thenQ_x (blockQ_x ?_))
    refine thenQ_n ?_
    refine VC.sub [(3, _)] (.cons rfl .nil) ?_
    refine VC.seq ?_
    refine VC.region ?_
    refine Ops.r (Run.mv rfl) rfl ?_
    have hR : Rd wr 1 (some ⟨g1, 0, none⟩) q.length (U8 (smallS q)) := by
      have him : i = q.length := by omega
      subst him
      have h := hF.rd (l := smallS q) (by rw [smallS_len, ht]; simp [smallS])
      rwa [smallS_len] at h
    refine Ops.r (Run.strOfT rfl Try.underlying40 Try.underlying5 Try.underlying9 hR) rfl ?_
    refine Ops.r (Run.asg rfl) rfl ?_
    refine Ops.nil ?_
    refine thenQ_n ?_
    refine VC.sub [(2, _)] (.cons rfl .nil) ?_
    refine VC.ret ?_
    refine end1 rfl ?_
    exact ⟨rfl, hfr⟩

set_option maxRecDepth 100000 in
theorem sign_spec (n : Nat) (w : World) : Calls Try.prog 74 #[.int .i32 ((n : Nat) : Int)] w fun e w' => e = .returned (.bool (decide (SignN n))) ∧ w = w' := by
  refine VC.calls (nt := 33) (res := #[.tmp 2]) Try.func74 rfl Try.ntmps74 Try.results74 rfl ?_
  refine VC.seq ?_
  refine VC.region ?_
  refine Ops.r (Run.asg rfl) rfl ?_
  refine Ops.nil ?_
  refine thenQ_n ?_
  refine VC.sub [(0, _)] (.cons rfl .nil) ?_
  refine VC.seq ?_
  refine VC.split1 [] .nil 2 (.bool (decide (SignN n))) ?_ ?_
  · refine VC.region ?_
    refine Ops.r (Run.mv rfl) rfl ?_
    refine Ops.r (Run.bin rfl rfl (Bin.geqN _ 97)) rfl ?_
    by_cases hs4 : 97 ≤ n
    · skip
      refine Ops.r (Run.mv rfl) rfl ?_
      refine Ops.rg rfl (by first | rfl | assumption | exact decide_eq_true (by assumption) | exact decide_eq_false (by assumption) | decide | (simp; done) | (simp; omega) | (simp [*]; done)) (Run.mv rfl) rfl ?_
      refine Ops.rg rfl (by first | rfl | assumption | exact decide_eq_true (by assumption) | exact decide_eq_false (by assumption) | decide | (simp; done) | (simp; omega) | (simp [*]; done)) (Run.bin rfl rfl (Bin.leqN _ 122)) rfl ?_
      by_cases hs7 : n ≤ 122
      · skip
        refine Ops.r (Run.pickT rfl rfl (by first | rfl | assumption | exact decide_eq_true (by assumption) | exact decide_eq_false (by assumption) | decide | (simp; done) | (simp; omega) | (simp [*]; done))) rfl ?_
        refine Ops.r (Run.mv rfl) rfl ?_
        refine Ops.sk rfl (by first | rfl | assumption | exact decide_eq_true (by assumption) | exact decide_eq_false (by assumption) | decide | (simp; done) | (simp; omega) | (simp [*]; done)) rfl ?_
        refine Ops.sk rfl (by first | rfl | assumption | exact decide_eq_true (by assumption) | exact decide_eq_false (by assumption) | decide | (simp; done) | (simp; omega) | (simp [*]; done)) rfl ?_
        refine Ops.sk rfl (by first | rfl | assumption | exact decide_eq_true (by assumption) | exact decide_eq_false (by assumption) | decide | (simp; done) | (simp; omega) | (simp [*]; done)) rfl ?_
        refine Ops.skU rfl rfl ?_
        refine Ops.skU rfl rfl ?_
        refine Ops.sk rfl (by first | rfl | assumption | exact decide_eq_true (by assumption) | exact decide_eq_false (by assumption) | decide | (simp; done) | (simp; omega) | (simp [*]; done)) rfl ?_
        refine Ops.r (Run.pickT rfl rfl (by first | rfl | assumption | exact decide_eq_true (by assumption) | exact decide_eq_false (by assumption) | decide | (simp; done) | (simp; omega) | (simp [*]; done))) rfl ?_
        refine Ops.r (Run.mv rfl) rfl ?_
        refine Ops.sk rfl (by first | rfl | assumption | exact decide_eq_true (by assumption) | exact decide_eq_false (by assumption) | decide | (simp; done) | (simp; omega) | (simp [*]; done)) rfl ?_
        refine Ops.sk rfl (by first | rfl | assumption | exact decide_eq_true (by assumption) | exact decide_eq_false (by assumption) | decide | (simp; done) | (simp; omega) | (simp [*]; done)) rfl ?_
        refine Ops.r (Run.pickT rfl rfl (by first | rfl | assumption | exact decide_eq_true (by assumption) | exact decide_eq_false (by assumption) | decide | (simp; done) | (simp; omega) | (simp [*]; done))) rfl ?_
        refine Ops.r (Run.mv rfl) rfl ?_
        refine Ops.sk rfl (by first | rfl | assumption | exact decide_eq_true (by assumption) | exact decide_eq_false (by assumption) | decide | (simp; done) | (simp; omega) | (simp [*]; done)) rfl ?_
        refine Ops.sk rfl (by first | rfl | assumption | exact decide_eq_true (by assumption) | exact decide_eq_false (by assumption) | decide | (simp; done) | (simp; omega) | (simp [*]; done)) rfl ?_
        refine Ops.r (Run.pickT rfl rfl (by first | rfl | assumption | exact decide_eq_true (by assumption) | exact decide_eq_false (by assumption) | decide | (simp; done) | (simp; omega) | (simp [*]; done))) rfl ?_
        refine Ops.r (Run.mv rfl) rfl ?_
        refine Ops.sk rfl (by first | rfl | assumption | exact decide_eq_true (by assumption) | exact decide_eq_false (by assumption) | decide | (simp; done) | (simp; omega) | (simp [*]; done)) rfl ?_
        refine Ops.sk rfl (by first | rfl | assumption | exact decide_eq_true (by assumption) | exact decide_eq_false (by assumption) | decide | (simp; done) | (simp; omega) | (simp [*]; done)) rfl ?_
        refine Ops.r (Run.pickT rfl rfl (by first | rfl | assumption | exact decide_eq_true (by assumption) | exact decide_eq_false (by assumption) | decide | (simp; done) | (simp; omega) | (simp [*]; done))) rfl ?_
        refine Ops.r (Run.mv rfl) rfl ?_
        refine Ops.sk rfl (by first | rfl | assumption | exact decide_eq_true (by assumption) | exact decide_eq_false (by assumption) | decide | (simp; done) | (simp; omega) | (simp [*]; done)) rfl ?_
        refine Ops.sk rfl (by first | rfl | assumption | exact decide_eq_true (by assumption) | exact decide_eq_false (by assumption) | decide | (simp; done) | (simp; omega) | (simp [*]; done)) rfl ?_
        refine Ops.r (Run.pickT rfl rfl (by first | rfl | assumption | exact decide_eq_true (by assumption) | exact decide_eq_false (by assumption) | decide | (simp; done) | (simp; omega) | (simp [*]; done))) rfl ?_
        refine Ops.r (Run.asg rfl) rfl ?_
        refine Ops.nil ?_
        refine thenQ_n ⟨(.cons (congrArg (fun b => some (Value.bool b)) (Eq.symm (by unfold SignN; grind))) .nil), rfl⟩
      · skip
        refine Ops.r (Run.pickT rfl rfl (by first | rfl | assumption | exact decide_eq_true (by assumption) | exact decide_eq_false (by assumption) | decide | (simp; done) | (simp; omega) | (simp [*]; done))) rfl ?_
        refine Ops.r (Run.mv rfl) rfl ?_
        refine Ops.rg rfl (by first | rfl | assumption | exact decide_eq_true (by assumption) | exact decide_eq_false (by assumption) | decide | (simp; done) | (simp; omega) | (simp [*]; done)) (Run.mv rfl) rfl ?_
        refine Ops.rg rfl (by first | rfl | assumption | exact decide_eq_true (by assumption) | exact decide_eq_false (by assumption) | decide | (simp; done) | (simp; omega) | (simp [*]; done)) (Run.bin rfl rfl (Bin.geqN _ 48)) rfl ?_
        by_cases hs11 : 48 ≤ n
        · skip
          refine Ops.rg rfl (by first | rfl | assumption | exact decide_eq_true (by assumption) | exact decide_eq_false (by assumption) | decide | (simp; done) | (simp; omega) | (simp [*]; done)) (Run.mv rfl) rfl ?_
          refine Ops.rg rfl (by first | rfl | assumption | exact decide_eq_true (by assumption) | exact decide_eq_false (by assumption) | decide | (simp; done) | (simp; omega) | (simp [*]; done)) (Run.mv rfl) rfl ?_
          refine Ops.rg rfl (by first | rfl | assumption | exact decide_eq_true (by assumption) | exact decide_eq_false (by assumption) | decide | (simp; done) | (simp; omega) | (simp [*]; done)) (Run.bin rfl rfl (Bin.leqN _ 57)) rfl ?_
          by_cases hs14 : n ≤ 57
          · skip
            refine Ops.rg rfl (by first | rfl | assumption | exact decide_eq_true (by assumption) | exact decide_eq_false (by assumption) | decide | (simp; done) | (simp; omega) | (simp [*]; done)) (Run.pickT rfl rfl (by first | rfl | assumption | exact decide_eq_true (by assumption) | exact decide_eq_false (by assumption) | decide | (simp; done) | (simp; omega) | (simp [*]; done))) rfl ?_
            refine Ops.r (Run.pickF rfl rfl (by first | rfl | assumption | exact decide_eq_true (by assumption) | exact decide_eq_false (by assumption) | decide | (simp; done) | (simp; omega) | (simp [*]; done))) rfl ?_
            refine Ops.r (Run.mv rfl) rfl ?_
            refine Ops.sk rfl (by first | rfl | assumption | exact decide_eq_true (by assumption) | exact decide_eq_false (by assumption) | decide | (simp; done) | (simp; omega) | (simp [*]; done)) rfl ?_
            refine Ops.sk rfl (by first | rfl | assumption | exact decide_eq_true (by assumption) | exact decide_eq_false (by assumption) | decide | (simp; done) | (simp; omega) | (simp [*]; done)) rfl ?_
            refine Ops.r (Run.pickT rfl rfl (by first | rfl | assumption | exact decide_eq_true (by assumption) | exact decide_eq_false (by assumption) | decide | (simp; done) | (simp; omega) | (simp [*]; done))) rfl ?_
            refine Ops.r (Run.mv rfl) rfl ?_
            refine Ops.sk rfl (by first | rfl | assumption | exact decide_eq_true (by assumption) | exact decide_eq_false (by assumption) | decide | (simp; done) | (simp; omega) | (simp [*]; done)) rfl ?_
            refine Ops.sk rfl (by first | rfl | assumption | exact decide_eq_true (by assumption) | exact decide_eq_false (by assumption) | decide | (simp; done) | (simp; omega) | (simp [*]; done)) rfl ?_
            refine Ops.r (Run.pickT rfl rfl (by first | rfl | assumption | exact decide_eq_true (by assumption) | exact decide_eq_false (by assumption) | decide | (simp; done) | (simp; omega) | (simp [*]; done))) rfl ?_
            refine Ops.r (Run.mv rfl) rfl ?_
            refine Ops.sk rfl (by first | rfl | assumption | exact decide_eq_true (by assumption) | exact decide_eq_false (by assumption) | decide | (simp; done) | (simp; omega) | (simp [*]; done)) rfl ?_
            refine Ops.sk rfl (by first | rfl | assumption | exact decide_eq_true (by assumption) | exact decide_eq_false (by assumption) | decide | (simp; done) | (simp; omega) | (simp [*]; done)) rfl ?_
            refine Ops.r (Run.pickT rfl rfl (by first | rfl | assumption | exact decide_eq_true (by assumption) | exact decide_eq_false (by assumption) | decide | (simp; done) | (simp; omega) | (simp [*]; done))) rfl ?_
            refine Ops.r (Run.mv rfl) rfl ?_
            refine Ops.sk rfl (by first | rfl | assumption | exact decide_eq_true (by assumption) | exact decide_eq_false (by assumption) | decide | (simp; done) | (simp; omega) | (simp [*]; done)) rfl ?_
            refine Ops.sk rfl (by first | rfl | assumption | exact decide_eq_true (by assumption) | exact decide_eq_false (by assumption) | decide | (simp; done) | (simp; omega) | (simp [*]; done)) rfl ?_
            refine Ops.r (Run.pickT rfl rfl (by first | rfl | assumption | exact decide_eq_true (by assumption) | exact decide_eq_false (by assumption) | decide | (simp; done) | (simp; omega) | (simp [*]; done))) rfl ?_
            refine Ops.r (Run.asg rfl) rfl ?_
            refine Ops.nil ?_
            refine thenQ_n ⟨(.cons (congrArg (fun b => some (Value.bool b)) (Eq.symm (by unfold SignN; grind))) .nil), rfl⟩
          · skip
            refine Ops.rg rfl (by first | rfl | assumption | exact decide_eq_true (by assumption) | exact decide_eq_false (by assumption) | decide | (simp; done) | (simp; omega) | (simp [*]; done)) (Run.pickT rfl rfl (by first | rfl | assumption | exact decide_eq_true (by assumption) | exact decide_eq_false (by assumption) | decide | (simp; done) | (simp; omega) | (simp [*]; done))) rfl ?_
            refine Ops.r (Run.pickF rfl rfl (by first | rfl | assumption | exact decide_eq_true (by assumption) | exact decide_eq_false (by assumption) | decide | (simp; done) | (simp; omega) | (simp [*]; done))) rfl ?_
            refine Ops.r (Run.mv rfl) rfl ?_
            refine Ops.rg rfl (by first | rfl | assumption | exact decide_eq_true (by assumption) | exact decide_eq_false (by assumption) | decide | (simp; done) | (simp; omega) | (simp [*]; done)) (Run.mv rfl) rfl ?_
            refine Ops.rg rfl (by first | rfl | assumption | exact decide_eq_true (by assumption) | exact decide_eq_false (by assumption) | decide | (simp; done) | (simp; omega) | (simp [*]; done)) (Run.bin rfl rfl (Bin.eqlN _ 36)) rfl ?_
            by_cases hs19 : n = 36
            · skip
              refine Ops.r (Run.pickF rfl rfl (by first | rfl | assumption | exact decide_eq_true (by assumption) | exact decide_eq_false (by assumption) | decide | (simp; done) | (simp; omega) | (simp [*]; done))) rfl ?_
              refine Ops.r (Run.mv rfl) rfl ?_
              refine Ops.sk rfl (by first | rfl | assumption | exact decide_eq_true (by assumption) | exact decide_eq_false (by assumption) | decide | (simp; done) | (simp; omega) | (simp [*]; done)) rfl ?_
              refine Ops.sk rfl (by first | rfl | assumption | exact decide_eq_true (by assumption) | exact decide_eq_false (by assumption) | decide | (simp; done) | (simp; omega) | (simp [*]; done)) rfl ?_
              refine Ops.r (Run.pickT rfl rfl (by first | rfl | assumption | exact decide_eq_true (by assumption) | exact decide_eq_false (by assumption) | decide | (simp; done) | (simp; omega) | (simp [*]; done))) rfl ?_
              refine Ops.r (Run.mv rfl) rfl ?_
              refine Ops.sk rfl (by first | rfl | assumption | exact decide_eq_true (by assumption) | exact decide_eq_false (by assumption) | decide | (simp; done) | (simp; omega) | (simp [*]; done)) rfl ?_
              refine Ops.sk rfl (by first | rfl | assumption | exact decide_eq_true (by assumption) | exact decide_eq_false (by assumption) | decide | (simp; done) | (simp; omega) | (simp [*]; done)) rfl ?_
              refine Ops.r (Run.pickT rfl rfl (by first | rfl | assumption | exact decide_eq_true (by assumption) | exact decide_eq_false (by assumption) | decide | (simp; done) | (simp; omega) | (simp [*]; done))) rfl ?_
              refine Ops.r (Run.mv rfl) rfl ?_
              refine Ops.sk rfl (by first | rfl | assumption | exact decide_eq_true (by assumption) | exact decide_eq_false (by assumption) | decide | (simp; done) | (simp; omega) | (simp [*]; done)) rfl ?_
              refine Ops.sk rfl (by first | rfl | assumption | exact decide_eq_true (by assumption) | exact decide_eq_false (by assumption) | decide | (simp; done) | (simp; omega) | (simp [*]; done)) rfl ?_
              refine Ops.r (Run.pickT rfl rfl (by first | rfl | assumption | exact decide_eq_true (by assumption) | exact decide_eq_false (by assumption) | decide | (simp; done) | (simp; omega) | (simp [*]; done))) rfl ?_
              refine Ops.r (Run.asg rfl) rfl ?_
              refine Ops.nil ?_
              refine thenQ_n ⟨(.cons (congrArg (fun b => some (Value.bool b)) (Eq.symm (by unfold SignN; grind))) .nil), rfl⟩
            · skip
              refine Ops.r (Run.pickF rfl rfl (by first | rfl | assumption | exact decide_eq_true (by assumption) | exact decide_eq_false (by assumption) | decide | (simp; done) | (simp; omega) | (simp [*]; done))) rfl ?_
              refine Ops.r (Run.mv rfl) rfl ?_
              refine Ops.rg rfl (by first | rfl | assumption | exact decide_eq_true (by assumption) | exact decide_eq_false (by assumption) | decide | (simp; done) | (simp; omega) | (simp [*]; done)) (Run.mv rfl) rfl ?_
              refine Ops.rg rfl (by first | rfl | assumption | exact decide_eq_true (by assumption) | exact decide_eq_false (by assumption) | decide | (simp; done) | (simp; omega) | (simp [*]; done)) (Run.bin rfl rfl (Bin.eqlN _ 45)) rfl ?_
              by_cases hs23 : n = 45
              · skip
                refine Ops.r (Run.pickF rfl rfl (by first | rfl | assumption | exact decide_eq_true (by assumption) | exact decide_eq_false (by assumption) | decide | (simp; done) | (simp; omega) | (simp [*]; done))) rfl ?_
                refine Ops.r (Run.mv rfl) rfl ?_
                refine Ops.sk rfl (by first | rfl | assumption | exact decide_eq_true (by assumption) | exact decide_eq_false (by assumption) | decide | (simp; done) | (simp; omega) | (simp [*]; done)) rfl ?_
                refine Ops.sk rfl (by first | rfl | assumption | exact decide_eq_true (by assumption) | exact decide_eq_false (by assumption) | decide | (simp; done) | (simp; omega) | (simp [*]; done)) rfl ?_
                refine Ops.r (Run.pickT rfl rfl (by first | rfl | assumption | exact decide_eq_true (by assumption) | exact decide_eq_false (by assumption) | decide | (simp; done) | (simp; omega) | (simp [*]; done))) rfl ?_
                refine Ops.r (Run.mv rfl) rfl ?_
                refine Ops.sk rfl (by first | rfl | assumption | exact decide_eq_true (by assumption) | exact decide_eq_false (by assumption) | decide | (simp; done) | (simp; omega) | (simp [*]; done)) rfl ?_
                refine Ops.sk rfl (by first | rfl | assumption | exact decide_eq_true (by assumption) | exact decide_eq_false (by assumption) | decide | (simp; done) | (simp; omega) | (simp [*]; done)) rfl ?_
                refine Ops.r (Run.pickT rfl rfl (by first | rfl | assumption | exact decide_eq_true (by assumption) | exact decide_eq_false (by assumption) | decide | (simp; done) | (simp; omega) | (simp [*]; done))) rfl ?_
                refine Ops.r (Run.asg rfl) rfl ?_
                refine Ops.nil ?_
                refine thenQ_n ⟨(.cons (congrArg (fun b => some (Value.bool b)) (Eq.symm (by unfold SignN; grind))) .nil), rfl⟩
              · skip
                refine Ops.r (Run.pickF rfl rfl (by first | rfl | assumption | exact decide_eq_true (by assumption) | exact decide_eq_false (by assumption) | decide | (simp; done) | (simp; omega) | (simp [*]; done))) rfl ?_
                refine Ops.r (Run.mv rfl) rfl ?_
                refine Ops.rg rfl (by first | rfl | assumption | exact decide_eq_true (by assumption) | exact decide_eq_false (by assumption) | decide | (simp; done) | (simp; omega) | (simp [*]; done)) (Run.mv rfl) rfl ?_
                refine Ops.rg rfl (by first | rfl | assumption | exact decide_eq_true (by assumption) | exact decide_eq_false (by assumption) | decide | (simp; done) | (simp; omega) | (simp [*]; done)) (Run.bin rfl rfl (Bin.eqlN _ 46)) rfl ?_
                by_cases hs27 : n = 46
                · skip
                  refine Ops.r (Run.pickF rfl rfl (by first | rfl | assumption | exact decide_eq_true (by assumption) | exact decide_eq_false (by assumption) | decide | (simp; done) | (simp; omega) | (simp [*]; done))) rfl ?_
                  refine Ops.r (Run.mv rfl) rfl ?_
                  refine Ops.sk rfl (by first | rfl | assumption | exact decide_eq_true (by assumption) | exact decide_eq_false (by assumption) | decide | (simp; done) | (simp; omega) | (simp [*]; done)) rfl ?_
                  refine Ops.sk rfl (by first | rfl | assumption | exact decide_eq_true (by assumption) | exact decide_eq_false (by assumption) | decide | (simp; done) | (simp; omega) | (simp [*]; done)) rfl ?_
                  refine Ops.r (Run.pickT rfl rfl (by first | rfl | assumption | exact decide_eq_true (by assumption) | exact decide_eq_false (by assumption) | decide | (simp; done) | (simp; omega) | (simp [*]; done))) rfl ?_
                  refine Ops.r (Run.asg rfl) rfl ?_
                  refine Ops.nil ?_
                  refine thenQ_n ⟨(.cons (congrArg (fun b => some (Value.bool b)) (Eq.symm (by unfold SignN; grind))) .nil), rfl⟩
                · skip
                  refine Ops.r (Run.pickF rfl rfl (by first | rfl | assumption | exact decide_eq_true (by assumption) | exact decide_eq_false (by assumption) | decide | (simp; done) | (simp; omega) | (simp [*]; done))) rfl ?_
                  refine Ops.r (Run.mv rfl) rfl ?_
                  refine Ops.rg rfl (by first | rfl | assumption | exact decide_eq_true (by assumption) | exact decide_eq_false (by assumption) | decide | (simp; done) | (simp; omega) | (simp [*]; done)) (Run.mv rfl) rfl ?_
                  refine Ops.rg rfl (by first | rfl | assumption | exact decide_eq_true (by assumption) | exact decide_eq_false (by assumption) | decide | (simp; done) | (simp; omega) | (simp [*]; done)) (Run.bin rfl rfl (Bin.eqlN _ 95)) rfl ?_
                  by_cases hs31 : n = 95
                  · skip
                    refine Ops.r (Run.pickF rfl rfl (by first | rfl | assumption | exact decide_eq_true (by assumption) | exact decide_eq_false (by assumption) | decide | (simp; done) | (simp; omega) | (simp [*]; done))) rfl ?_
                    refine Ops.r (Run.asg rfl) rfl ?_
                    refine Ops.nil ?_
                    refine thenQ_n ⟨(.cons (congrArg (fun b => some (Value.bool b)) (Eq.symm (by unfold SignN; grind))) .nil), rfl⟩
                  · skip
                    refine Ops.r (Run.pickF rfl rfl (by first | rfl | assumption | exact decide_eq_true (by assumption) | exact decide_eq_false (by assumption) | decide | (simp; done) | (simp; omega) | (simp [*]; done))) rfl ?_
                    refine Ops.r (Run.asg rfl) rfl ?_
                    refine Ops.nil ?_
                    refine thenQ_n ⟨(.cons (congrArg (fun b => some (Value.bool b)) (Eq.symm (by unfold SignN; grind))) .nil), rfl⟩
        · skip
          refine Ops.rg rfl (by first | rfl | assumption | exact decide_eq_true (by assumption) | exact decide_eq_false (by assumption) | decide | (simp; done) | (simp; omega) | (simp [*]; done)) (Run.mv rfl) rfl ?_
          refine Ops.sk rfl (by first | rfl | assumption | exact decide_eq_true (by assumption) | exact decide_eq_false (by assumption) | decide | (simp; done) | (simp; omega) | (simp [*]; done)) rfl ?_
          refine Ops.sk rfl (by first | rfl | assumption | exact decide_eq_true (by assumption) | exact decide_eq_false (by assumption) | decide | (simp; done) | (simp; omega) | (simp [*]; done)) rfl ?_
          refine Ops.rg rfl (by first | rfl | assumption | exact decide_eq_true (by assumption) | exact decide_eq_false (by assumption) | decide | (simp; done) | (simp; omega) | (simp [*]; done)) (Run.pickF rfl rfl (by first | rfl | assumption | exact decide_eq_true (by assumption) | exact decide_eq_false (by assumption) | decide | (simp; done) | (simp; omega) | (simp [*]; done))) rfl ?_
          refine Ops.r (Run.pickF rfl rfl (by first | rfl | assumption | exact decide_eq_true (by assumption) | exact decide_eq_false (by assumption) | decide | (simp; done) | (simp; omega) | (simp [*]; done))) rfl ?_
          refine Ops.r (Run.mv rfl) rfl ?_
          refine Ops.rg rfl (by first | rfl | assumption | exact decide_eq_true (by assumption) | exact decide_eq_false (by assumption) | decide | (simp; done) | (simp; omega) | (simp [*]; done)) (Run.mv rfl) rfl ?_
          refine Ops.rg rfl (by first | rfl | assumption | exact decide_eq_true (by assumption) | exact decide_eq_false (by assumption) | decide | (simp; done) | (simp; omega) | (simp [*]; done)) (Run.bin rfl rfl (Bin.eqlN _ 36)) rfl ?_
          by_cases hs19 : n = 36
          · skip
            refine Ops.r (Run.pickF rfl rfl (by first | rfl | assumption | exact decide_eq_true (by assumption) | exact decide_eq_false (by assumption) | decide | (simp; done) | (simp; omega) | (simp [*]; done))) rfl ?_
            refine Ops.r (Run.mv rfl) rfl ?_
            refine Ops.sk rfl (by first | rfl | assumption | exact decide_eq_true (by assumption) | exact decide_eq_false (by assumption) | decide | (simp; done) | (simp; omega) | (simp [*]; done)) rfl ?_
            refine Ops.sk rfl (by first | rfl | assumption | exact decide_eq_true (by assumption) | exact decide_eq_false (by assumption) | decide | (simp; done) | (simp; omega) | (simp [*]; done)) rfl ?_
            refine Ops.r (Run.pickT rfl rfl (by first | rfl | assumption | exact decide_eq_true (by assumption) | exact decide_eq_false (by assumption) | decide | (simp; done) | (simp; omega) | (simp [*]; done))) rfl ?_
            refine Ops.r (Run.mv rfl) rfl ?_
            refine Ops.sk rfl (by first | rfl | assumption | exact decide_eq_true (by assumption) | exact decide_eq_false (by assumption) | decide | (simp; done) | (simp; omega) | (simp [*]; done)) rfl ?_
            refine Ops.sk rfl (by first | rfl | assumption | exact decide_eq_true (by assumption) | exact decide_eq_false (by assumption) | decide | (simp; done) | (simp; omega) | (simp [*]; done)) rfl ?_
            refine Ops.r (Run.pickT rfl rfl (by first | rfl | assumption | exact decide_eq_true (by assumption) | exact decide_eq_false (by assumption) | decide | (simp; done) | (simp; omega) | (simp [*]; done))) rfl ?_
            refine Ops.r (Run.mv rfl) rfl ?_
            refine Ops.sk rfl (by first | rfl | assumption | exact decide_eq_true (by assumption) | exact decide_eq_false (by assumption) | decide | (simp; done) | (simp; omega) | (simp [*]; done)) rfl ?_
            refine Ops.sk rfl (by first | rfl | assumption | exact decide_eq_true (by assumption) | exact decide_eq_false (by assumption) | decide | (simp; done) | (simp; omega) | (simp [*]; done)) rfl ?_
            refine Ops.r (Run.pickT rfl rfl (by first | rfl | assumption | exact decide_eq_true (by assumption) | exact decide_eq_false (by assumption) | decide | (simp; done) | (simp; omega) | (simp [*]; done))) rfl ?_
            refine Ops.r (Run.asg rfl) rfl ?_
            refine Ops.nil ?_
            refine thenQ_n ⟨(.cons (congrArg (fun b => some (Value.bool b)) (Eq.symm (by unfold SignN; grind))) .nil), rfl⟩
          · skip
            refine Ops.r (Run.pickF rfl rfl (by first | rfl | assumption | exact decide_eq_true (by assumption) | exact decide_eq_false (by assumption) | decide | (simp; done) | (simp; omega) | (simp [*]; done))) rfl ?_
            refine Ops.r (Run.mv rfl) rfl ?_
            refine Ops.rg rfl (by first | rfl | assumption | exact decide_eq_true (by assumption) | exact decide_eq_false (by assumption) | decide | (simp; done) | (simp; omega) | (simp [*]; done)) (Run.mv rfl) rfl ?_
            refine Ops.rg rfl (by first | rfl | assumption | exact decide_eq_true (by assumption) | exact decide_eq_false (by assumption) | decide | (simp; done) | (simp; omega) | (simp [*]; done)) (Run.bin rfl rfl (Bin.eqlN _ 45)) rfl ?_
            by_cases hs23 : n = 45
            · skip
              refine Ops.r (Run.pickF rfl rfl (by first | rfl | assumption | exact decide_eq_true (by assumption) | exact decide_eq_false (by assumption) | decide | (simp; done) | (simp; omega) | (simp [*]; done))) rfl ?_
              refine Ops.r (Run.mv rfl) rfl ?_
              refine Ops.sk rfl (by first | rfl | assumption | exact decide_eq_true (by assumption) | exact decide_eq_false (by assumption) | decide | (simp; done) | (simp; omega) | (simp [*]; done)) rfl ?_
              refine Ops.sk rfl (by first | rfl | assumption | exact decide_eq_true (by assumption) | exact decide_eq_false (by assumption) | decide | (simp; done) | (simp; omega) | (simp [*]; done)) rfl ?_
              refine Ops.r (Run.pickT rfl rfl (by first | rfl | assumption | exact decide_eq_true (by assumption) | exact decide_eq_false (by assumption) | decide | (simp; done) | (simp; omega) | (simp [*]; done))) rfl ?_
              refine Ops.r (Run.mv rfl) rfl ?_
              refine Ops.sk rfl (by first | rfl | assumption | exact decide_eq_true (by assumption) | exact decide_eq_false (by assumption) | decide | (simp; done) | (simp; omega) | (simp [*]; done)) rfl ?_
              refine Ops.sk rfl (by first | rfl | assumption | exact decide_eq_true (by assumption) | exact decide_eq_false (by assumption) | decide | (simp; done) | (simp; omega) | (simp [*]; done)) rfl ?_
              refine Ops.r (Run.pickT rfl rfl (by first | rfl | assumption | exact decide_eq_true (by assumption) | exact decide_eq_false (by assumption) | decide | (simp; done) | (simp; omega) | (simp [*]; done))) rfl ?_
              refine Ops.r (Run.asg rfl) rfl ?_
              refine Ops.nil ?_
              refine thenQ_n ⟨(.cons (congrArg (fun b => some (Value.bool b)) (Eq.symm (by unfold SignN; grind))) .nil), rfl⟩
            · skip
              refine Ops.r (Run.pickF rfl rfl (by first | rfl | assumption | exact decide_eq_true (by assumption) | exact decide_eq_false (by assumption) | decide | (simp; done) | (simp; omega) | (simp [*]; done))) rfl ?_
              refine Ops.r (Run.mv rfl) rfl ?_
              refine Ops.rg rfl (by first | rfl | assumption | exact decide_eq_true (by assumption) | exact decide_eq_false (by assumption) | decide | (simp; done) | (simp; omega) | (simp [*]; done)) (Run.mv rfl) rfl ?_
              refine Ops.rg rfl (by first | rfl | assumption | exact decide_eq_true (by assumption) | exact decide_eq_false (by assumption) | decide | (simp; done) | (simp; omega) | (simp [*]; done)) (Run.bin rfl rfl (Bin.eqlN _ 46)) rfl ?_
              by_cases hs27 : n = 46
              · skip
                refine Ops.r (Run.pickF rfl rfl (by first | rfl | assumption | exact decide_eq_true (by assumption) | exact decide_eq_false (by assumption) | decide | (simp; done) | (simp; omega) | (simp [*]; done))) rfl ?_
                refine Ops.r (Run.mv rfl) rfl ?_
                refine Ops.sk rfl (by first | rfl | assumption | exact decide_eq_true (by assumption) | exact decide_eq_false (by assumption) | decide | (simp; done) | (simp; omega) | (simp [*]; done)) rfl ?_
                refine Ops.sk rfl (by first | rfl | assumption | exact decide_eq_true (by assumption) | exact decide_eq_false (by assumption) | decide | (simp; done) | (simp; omega) | (simp [*]; done)) rfl ?_
                refine Ops.r (Run.pickT rfl rfl (by first | rfl | assumption | exact decide_eq_true (by assumption) | exact decide_eq_false (by assumption) | decide | (simp; done) | (simp; omega) | (simp [*]; done))) rfl ?_
                refine Ops.r (Run.asg rfl) rfl ?_
                refine Ops.nil ?_
                refine thenQ_n ⟨(.cons (congrArg (fun b => some (Value.bool b)) (Eq.symm (by unfold SignN; grind))) .nil), rfl⟩
              · skip
                refine Ops.r (Run.pickF rfl rfl (by first | rfl | assumption | exact decide_eq_true (by assumption) | exact decide_eq_false (by assumption) | decide | (simp; done) | (simp; omega) | (simp [*]; done))) rfl ?_
                refine Ops.r (Run.mv rfl) rfl ?_
                refine Ops.rg rfl (by first | rfl | assumption | exact decide_eq_true (by assumption) | exact decide_eq_false (by assumption) | decide | (simp; done) | (simp; omega) | (simp [*]; done)) (Run.mv rfl) rfl ?_
                refine Ops.rg rfl (by first | rfl | assumption | exact decide_eq_true (by assumption) | exact decide_eq_false (by assumption) | decide | (simp; done) | (simp; omega) | (simp [*]; done)) (Run.bin rfl rfl (Bin.eqlN _ 95)) rfl ?_
                by_cases hs31 : n = 95
                · skip
                  refine Ops.r (Run.pickF rfl rfl (by first | rfl | assumption | exact decide_eq_true (by assumption) | exact decide_eq_false (by assumption) | decide | (simp; done) | (simp; omega) | (simp [*]; done))) rfl ?_
                  refine Ops.r (Run.asg rfl) rfl ?_
                  refine Ops.nil ?_
                  refine thenQ_n ⟨(.cons (congrArg (fun b => some (Value.bool b)) (Eq.symm (by unfold SignN; grind))) .nil), rfl⟩
                · skip
                  refine Ops.r (Run.pickF rfl rfl (by first | rfl | assumption | exact decide_eq_true (by assumption) | exact decide_eq_false (by assumption) | decide | (simp; done) | (simp; omega) | (simp [*]; done))) rfl ?_
                  refine Ops.r (Run.asg rfl) rfl ?_
                  refine Ops.nil ?_
                  refine thenQ_n ⟨(.cons (congrArg (fun b => some (Value.bool b)) (Eq.symm (by unfold SignN; grind))) .nil), rfl⟩
    · skip
      refine Ops.r (Run.mv rfl) rfl ?_
      refine Ops.sk rfl (by first | rfl | assumption | exact decide_eq_true (by assumption) | exact decide_eq_false (by assumption) | decide | (simp; done) | (simp; omega) | (simp [*]; done)) rfl ?_
      refine Ops.sk rfl (by first | rfl | assumption | exact decide_eq_true (by assumption) | exact decide_eq_false (by assumption) | decide | (simp; done) | (simp; omega) | (simp [*]; done)) rfl ?_
      refine Ops.r (Run.pickF rfl rfl (by first | rfl | assumption | exact decide_eq_true (by assumption) | exact decide_eq_false (by assumption) | decide | (simp; done) | (simp; omega) | (simp [*]; done))) rfl ?_
      refine Ops.r (Run.mv rfl) rfl ?_
      refine Ops.rg rfl (by first | rfl | assumption | exact decide_eq_true (by assumption) | exact decide_eq_false (by assumption) | decide | (simp; done) | (simp; omega) | (simp [*]; done)) (Run.mv rfl) rfl ?_
      refine Ops.rg rfl (by first | rfl | assumption | exact decide_eq_true (by assumption) | exact decide_eq_false (by assumption) | decide | (simp; done) | (simp; omega) | (simp [*]; done)) (Run.bin rfl rfl (Bin.geqN _ 48)) rfl ?_
      by_cases hs11 : 48 ≤ n
      · skip
        refine Ops.rg rfl (by first | rfl | assumption | exact decide_eq_true (by assumption) | exact decide_eq_false (by assumption) | decide | (simp; done) | (simp; omega) | (simp [*]; done)) (Run.mv rfl) rfl ?_
        refine Ops.rg rfl (by first | rfl | assumption | exact decide_eq_true (by assumption) | exact decide_eq_false (by assumption) | decide | (simp; done) | (simp; omega) | (simp [*]; done)) (Run.mv rfl) rfl ?_
        refine Ops.rg rfl (by first | rfl | assumption | exact decide_eq_true (by assumption) | exact decide_eq_false (by assumption) | decide | (simp; done) | (simp; omega) | (simp [*]; done)) (Run.bin rfl rfl (Bin.leqN _ 57)) rfl ?_
        by_cases hs14 : n ≤ 57
        · skip
          refine Ops.rg rfl (by first | rfl | assumption | exact decide_eq_true (by assumption) | exact decide_eq_false (by assumption) | decide | (simp; done) | (simp; omega) | (simp [*]; done)) (Run.pickT rfl rfl (by first | rfl | assumption | exact decide_eq_true (by assumption) | exact decide_eq_false (by assumption) | decide | (simp; done) | (simp; omega) | (simp [*]; done))) rfl ?_
          refine Ops.r (Run.pickF rfl rfl (by first | rfl | assumption | exact decide_eq_true (by assumption) | exact decide_eq_false (by assumption) | decide | (simp; done) | (simp; omega) | (simp [*]; done))) rfl ?_
          refine Ops.r (Run.mv rfl) rfl ?_
          refine Ops.sk rfl (by first | rfl | assumption | exact decide_eq_true (by assumption) | exact decide_eq_false (by assumption) | decide | (simp; done) | (simp; omega) | (simp [*]; done)) rfl ?_
          refine Ops.sk rfl (by first | rfl | assumption | exact decide_eq_true (by assumption) | exact decide_eq_false (by assumption) | decide | (simp; done) | (simp; omega) | (simp [*]; done)) rfl ?_
          refine Ops.r (Run.pickT rfl rfl (by first | rfl | assumption | exact decide_eq_true (by assumption) | exact decide_eq_false (by assumption) | decide | (simp; done) | (simp; omega) | (simp [*]; done))) rfl ?_
          refine Ops.r (Run.mv rfl) rfl ?_
          refine Ops.sk rfl (by first | rfl | assumption | exact decide_eq_true (by assumption) | exact decide_eq_false (by assumption) | decide | (simp; done) | (simp; omega) | (simp [*]; done)) rfl ?_
          refine Ops.sk rfl (by first | rfl | assumption | exact decide_eq_true (by assumption) | exact decide_eq_false (by assumption) | decide | (simp; done) | (simp; omega) | (simp [*]; done)) rfl ?_
          refine Ops.r (Run.pickT rfl rfl (by first | rfl | assumption | exact decide_eq_true (by assumption) | exact decide_eq_false (by assumption) | decide | (simp; done) | (simp; omega) | (simp [*]; done))) rfl ?_
          refine Ops.r (Run.mv rfl) rfl ?_
          refine Ops.sk rfl (by first | rfl | assumption | exact decide_eq_true (by assumption) | exact decide_eq_false (by assumption) | decide | (simp; done) | (simp; omega) | (simp [*]; done)) rfl ?_
          refine Ops.sk rfl (by first | rfl | assumption | exact decide_eq_true (by assumption) | exact decide_eq_false (by assumption) | decide | (simp; done) | (simp; omega) | (simp [*]; done)) rfl ?_
          refine Ops.r (Run.pickT rfl rfl (by first | rfl | assumption | exact decide_eq_true (by assumption) | exact decide_eq_false (by assumption) | decide | (simp; done) | (simp; omega) | (simp [*]; done))) rfl ?_
          refine Ops.r (Run.mv rfl) rfl ?_
          refine Ops.sk rfl (by first | rfl | assumption | exact decide_eq_true (by assumption) | exact decide_eq_false (by assumption) | decide | (simp; done) | (simp; omega) | (simp [*]; done)) rfl ?_
          refine Ops.sk rfl (by first | rfl | assumption | exact decide_eq_true (by assumption) | exact decide_eq_false (by assumption) | decide | (simp; done) | (simp; omega) | (simp [*]; done)) rfl ?_
          refine Ops.r (Run.pickT rfl rfl (by first | rfl | assumption | exact decide_eq_true (by assumption) | exact decide_eq_false (by assumption) | decide | (simp; done) | (simp; omega) | (simp [*]; done))) rfl ?_
          refine Ops.r (Run.asg rfl) rfl ?_
          refine Ops.nil ?_
          refine thenQ_n ⟨(.cons (congrArg (fun b => some (Value.bool b)) (Eq.symm (by unfold SignN; grind))) .nil), rfl⟩
        · skip
          refine Ops.rg rfl (by first | rfl | assumption | exact decide_eq_true (by assumption) | exact decide_eq_false (by assumption) | decide | (simp; done) | (simp; omega) | (simp [*]; done)) (Run.pickT rfl rfl (by first | rfl | assumption | exact decide_eq_true (by assumption) | exact decide_eq_false (by assumption) | decide | (simp; done) | (simp; omega) | (simp [*]; done))) rfl ?_
          refine Ops.r (Run.pickF rfl rfl (by first | rfl | assumption | exact decide_eq_true (by assumption) | exact decide_eq_false (by assumption) | decide | (simp; done) | (simp; omega) | (simp [*]; done))) rfl ?_
          refine Ops.r (Run.mv rfl) rfl ?_
          refine Ops.rg rfl (by first | rfl | assumption | exact decide_eq_true (by assumption) | exact decide_eq_false (by assumption) | decide | (simp; done) | (simp; omega) | (simp [*]; done)) (Run.mv rfl) rfl ?_
          refine Ops.rg rfl (by first | rfl | assumption | exact decide_eq_true (by assumption) | exact decide_eq_false (by assumption) | decide | (simp; done) | (simp; omega) | (simp [*]; done)) (Run.bin rfl rfl (Bin.eqlN _ 36)) rfl ?_
          by_cases hs19 : n = 36
          · skip
            refine Ops.r (Run.pickF rfl rfl (by first | rfl | assumption | exact decide_eq_true (by assumption) | exact decide_eq_false (by assumption) | decide | (simp; done) | (simp; omega) | (simp [*]; done))) rfl ?_
            refine Ops.r (Run.mv rfl) rfl ?_
            refine Ops.sk rfl (by first | rfl | assumption | exact decide_eq_true (by assumption) | exact decide_eq_false (by assumption) | decide | (simp; done) | (simp; omega) | (simp [*]; done)) rfl ?_
            refine Ops.sk rfl (by first | rfl | assumption | exact decide_eq_true (by assumption) | exact decide_eq_false (by assumption) | decide | (simp; done) | (simp; omega) | (simp [*]; done)) rfl ?_
            refine Ops.r (Run.pickT rfl rfl (by first | rfl | assumption | exact decide_eq_true (by assumption) | exact decide_eq_false (by assumption) | decide | (simp; done) | (simp; omega) | (simp [*]; done))) rfl ?_
            refine Ops.r (Run.mv rfl) rfl ?_
            refine Ops.sk rfl (by first | rfl | assumption | exact decide_eq_true (by assumption) | exact decide_eq_false (by assumption) | decide | (simp; done) | (simp; omega) | (simp [*]; done)) rfl ?_
            refine Ops.sk rfl (by first | rfl | assumption | exact decide_eq_true (by assumption) | exact decide_eq_false (by assumption) | decide | (simp; done) | (simp; omega) | (simp [*]; done)) rfl ?_
            refine Ops.r (Run.pickT rfl rfl (by first | rfl | assumption | exact decide_eq_true (by assumption) | exact decide_eq_false (by assumption) | decide | (simp; done) | (simp; omega) | (simp [*]; done))) rfl ?_
            refine Ops.r (Run.mv rfl) rfl ?_
            refine Ops.sk rfl (by first | rfl | assumption | exact decide_eq_true (by assumption) | exact decide_eq_false (by assumption) | decide | (simp; done) | (simp; omega) | (simp [*]; done)) rfl ?_
            refine Ops.sk rfl (by first | rfl | assumption | exact decide_eq_true (by assumption) | exact decide_eq_false (by assumption) | decide | (simp; done) | (simp; omega) | (simp [*]; done)) rfl ?_
            refine Ops.r (Run.pickT rfl rfl (by first | rfl | assumption | exact decide_eq_true (by assumption) | exact decide_eq_false (by assumption) | decide | (simp; done) | (simp; omega) | (simp [*]; done))) rfl ?_
            refine Ops.r (Run.asg rfl) rfl ?_
            refine Ops.nil ?_
            refine thenQ_n ⟨(.cons (congrArg (fun b => some (Value.bool b)) (Eq.symm (by unfold SignN; grind))) .nil), rfl⟩
          · skip
            refine Ops.r (Run.pickF rfl rfl (by first | rfl | assumption | exact decide_eq_true (by assumption) | exact decide_eq_false (by assumption) | decide | (simp; done) | (simp; omega) | (simp [*]; done))) rfl ?_
            refine Ops.r (Run.mv rfl) rfl ?_
            refine Ops.rg rfl (by first | rfl | assumption | exact decide_eq_true (by assumption) | exact decide_eq_false (by assumption) | decide | (simp; done) | (simp; omega) | (simp [*]; done)) (Run.mv rfl) rfl ?_
            refine Ops.rg rfl (by first | rfl | assumption | exact decide_eq_true (by assumption) | exact decide_eq_false (by assumption) | decide | (simp; done) | (simp; omega) | (simp [*]; done)) (Run.bin rfl rfl (Bin.eqlN _ 45)) rfl ?_
            by_cases hs23 : n = 45
            · skip
              refine Ops.r (Run.pickF rfl rfl (by first | rfl | assumption | exact decide_eq_true (by assumption) | exact decide_eq_false (by assumption) | decide | (simp; done) | (simp; omega) | (simp [*]; done))) rfl ?_
              refine Ops.r (Run.mv rfl) rfl ?_
              refine Ops.sk rfl (by first | rfl | assumption | exact decide_eq_true (by assumption) | exact decide_eq_false (by assumption) | decide | (simp; done) | (simp; omega) | (simp [*]; done)) rfl ?_
              refine Ops.sk rfl (by first | rfl | assumption | exact decide_eq_true (by assumption) | exact decide_eq_false (by assumption) | decide | (simp; done) | (simp; omega) | (simp [*]; done)) rfl ?_
              refine Ops.r (Run.pickT rfl rfl (by first | rfl | assumption | exact decide_eq_true (by assumption) | exact decide_eq_false (by assumption) | decide | (simp; done) | (simp; omega) | (simp [*]; done))) rfl ?_
              refine Ops.r (Run.mv rfl) rfl ?_
              refine Ops.sk rfl (by first | rfl | assumption | exact decide_eq_true (by assumption) | exact decide_eq_false (by assumption) | decide | (simp; done) | (simp; omega) | (simp [*]; done)) rfl ?_
              refine Ops.sk rfl (by first | rfl | assumption | exact decide_eq_true (by assumption) | exact decide_eq_false (by assumption) | decide | (simp; done) | (simp; omega) | (simp [*]; done)) rfl ?_
              refine Ops.r (Run.pickT rfl rfl (by first | rfl | assumption | exact decide_eq_true (by assumption) | exact decide_eq_false (by assumption) | decide | (simp; done) | (simp; omega) | (simp [*]; done))) rfl ?_
              refine Ops.r (Run.asg rfl) rfl ?_
              refine Ops.nil ?_
              refine thenQ_n ⟨(.cons (congrArg (fun b => some (Value.bool b)) (Eq.symm (by unfold SignN; grind))) .nil), rfl⟩
            · skip
              refine Ops.r (Run.pickF rfl rfl (by first | rfl | assumption | exact decide_eq_true (by assumption) | exact decide_eq_false (by assumption) | decide | (simp; done) | (simp; omega) | (simp [*]; done))) rfl ?_
              refine Ops.r (Run.mv rfl) rfl ?_
              refine Ops.rg rfl (by first | rfl | assumption | exact decide_eq_true (by assumption) | exact decide_eq_false (by assumption) | decide | (simp; done) | (simp; omega) | (simp [*]; done)) (Run.mv rfl) rfl ?_
              refine Ops.rg rfl (by first | rfl | assumption | exact decide_eq_true (by assumption) | exact decide_eq_false (by assumption) | decide | (simp; done) | (simp; omega) | (simp [*]; done)) (Run.bin rfl rfl (Bin.eqlN _ 46)) rfl ?_
              by_cases hs27 : n = 46
              · skip
                refine Ops.r (Run.pickF rfl rfl (by first | rfl | assumption | exact decide_eq_true (by assumption) | exact decide_eq_false (by assumption) | decide | (simp; done) | (simp; omega) | (simp [*]; done))) rfl ?_
                refine Ops.r (Run.mv rfl) rfl ?_
                refine Ops.sk rfl (by first | rfl | assumption | exact decide_eq_true (by assumption) | exact decide_eq_false (by assumption) | decide | (simp; done) | (simp; omega) | (simp [*]; done)) rfl ?_
                refine Ops.sk rfl (by first | rfl | assumption | exact decide_eq_true (by assumption) | exact decide_eq_false (by assumption) | decide | (simp; done) | (simp; omega) | (simp [*]; done)) rfl ?_
                refine Ops.r (Run.pickT rfl rfl (by first | rfl | assumption | exact decide_eq_true (by assumption) | exact decide_eq_false (by assumption) | decide | (simp; done) | (simp; omega) | (simp [*]; done))) rfl ?_
                refine Ops.r (Run.asg rfl) rfl ?_
                refine Ops.nil ?_
                refine thenQ_n ⟨(.cons (congrArg (fun b => some (Value.bool b)) (Eq.symm (by unfold SignN; grind))) .nil), rfl⟩
              · skip
                refine Ops.r (Run.pickF rfl rfl (by first | rfl | assumption | exact decide_eq_true (by assumption) | exact decide_eq_false (by assumption) | decide | (simp; done) | (simp; omega) | (simp [*]; done))) rfl ?_
                refine Ops.r (Run.mv rfl) rfl ?_
                refine Ops.rg rfl (by first | rfl | assumption | exact decide_eq_true (by assumption) | exact decide_eq_false (by assumption) | decide | (simp; done) | (simp; omega) | (simp [*]; done)) (Run.mv rfl) rfl ?_
                refine Ops.rg rfl (by first | rfl | assumption | exact decide_eq_true (by assumption) | exact decide_eq_false (by assumption) | decide | (simp; done) | (simp; omega) | (simp [*]; done)) (Run.bin rfl rfl (Bin.eqlN _ 95)) rfl ?_
                by_cases hs31 : n = 95
                · skip
                  refine Ops.r (Run.pickF rfl rfl (by first | rfl | assumption | exact decide_eq_true (by assumption) | exact decide_eq_false (by assumption) | decide | (simp; done) | (simp; omega) | (simp [*]; done))) rfl ?_
                  refine Ops.r (Run.asg rfl) rfl ?_
                  refine Ops.nil ?_
                  refine thenQ_n ⟨(.cons (congrArg (fun b => some (Value.bool b)) (Eq.symm (by unfold SignN; grind))) .nil), rfl⟩
                · skip
                  refine Ops.r (Run.pickF rfl rfl (by first | rfl | assumption | exact decide_eq_true (by assumption) | exact decide_eq_false (by assumption) | decide | (simp; done) | (simp; omega) | (simp [*]; done))) rfl ?_
                  refine Ops.r (Run.asg rfl) rfl ?_
                  refine Ops.nil ?_
                  refine thenQ_n ⟨(.cons (congrArg (fun b => some (Value.bool b)) (Eq.symm (by unfold SignN; grind))) .nil), rfl⟩
      · skip
        refine Ops.rg rfl (by first | rfl | assumption | exact decide_eq_true (by assumption) | exact decide_eq_false (by assumption) | decide | (simp; done) | (simp; omega) | (simp [*]; done)) (Run.mv rfl) rfl ?_
        refine Ops.sk rfl (by first | rfl | assumption | exact decide_eq_true (by assumption) | exact decide_eq_false (by assumption) | decide | (simp; done) | (simp; omega) | (simp [*]; done)) rfl ?_
        refine Ops.sk rfl (by first | rfl | assumption | exact decide_eq_true (by assumption) | exact decide_eq_false (by assumption) | decide | (simp; done) | (simp; omega) | (simp [*]; done)) rfl ?_
        refine Ops.rg rfl (by first | rfl | assumption | exact decide_eq_true (by assumption) | exact decide_eq_false (by assumption) | decide | (simp; done) | (simp; omega) | (simp [*]; done)) (Run.pickF rfl rfl (by first | rfl | assumption | exact decide_eq_true (by assumption) | exact decide_eq_false (by assumption) | decide | (simp; done) | (simp; omega) | (simp [*]; done))) rfl ?_
        refine Ops.r (Run.pickF rfl rfl (by first | rfl | assumption | exact decide_eq_true (by assumption) | exact decide_eq_false (by assumption) | decide | (simp; done) | (simp; omega) | (simp [*]; done))) rfl ?_
        refine Ops.r (Run.mv rfl) rfl ?_
        refine Ops.rg rfl (by first | rfl | assumption | exact decide_eq_true (by assumption) | exact decide_eq_false (by assumption) | decide | (simp; done) | (simp; omega) | (simp [*]; done)) (Run.mv rfl) rfl ?_
        refine Ops.rg rfl (by first | rfl | assumption | exact decide_eq_true (by assumption) | exact decide_eq_false (by assumption) | decide | (simp; done) | (simp; omega) | (simp [*]; done)) (Run.bin rfl rfl (Bin.eqlN _ 36)) rfl ?_
        by_cases hs19 : n = 36
        · skip
          refine Ops.r (Run.pickF rfl rfl (by first | rfl | assumption | exact decide_eq_true (by assumption) | exact decide_eq_false (by assumption) | decide | (simp; done) | (simp; omega) | (simp [*]; done))) rfl ?_
          refine Ops.r (Run.mv rfl) rfl ?_
          refine Ops.sk rfl (by first | rfl | assumption | exact decide_eq_true (by assumption) | exact decide_eq_false (by assumption) | decide | (simp; done) | (simp; omega) | (simp [*]; done)) rfl ?_
          refine Ops.sk rfl (by first | rfl | assumption | exact decide_eq_true (by assumption) | exact decide_eq_false (by assumption) | decide | (simp; done) | (simp; omega) | (simp [*]; done)) rfl ?_
          refine Ops.r (Run.pickT rfl rfl (by first | rfl | assumption | exact decide_eq_true (by assumption) | exact decide_eq_false (by assumption) | decide | (simp; done) | (simp; omega) | (simp [*]; done))) rfl ?_
          refine Ops.r (Run.mv rfl) rfl ?_
          refine Ops.sk rfl (by first | rfl | assumption | exact decide_eq_true (by assumption) | exact decide_eq_false (by assumption) | decide | (simp; done) | (simp; omega) | (simp [*]; done)) rfl ?_
          refine Ops.sk rfl (by first | rfl | assumption | exact decide_eq_true (by assumption) | exact decide_eq_false (by assumption) | decide | (simp; done) | (simp; omega) | (simp [*]; done)) rfl ?_
          refine Ops.r (Run.pickT rfl rfl (by first | rfl | assumption | exact decide_eq_true (by assumption) | exact decide_eq_false (by assumption) | decide | (simp; done) | (simp; omega) | (simp [*]; done))) rfl ?_
          refine Ops.r (Run.mv rfl) rfl ?_
          refine Ops.sk rfl (by first | rfl | assumption | exact decide_eq_true (by assumption) | exact decide_eq_false (by assumption) | decide | (simp; done) | (simp; omega) | (simp [*]; done)) rfl ?_
          refine Ops.sk rfl (by first | rfl | assumption | exact decide_eq_true (by assumption) | exact decide_eq_false (by assumption) | decide | (simp; done) | (simp; omega) | (simp [*]; done)) rfl ?_
          refine Ops.r (Run.pickT rfl rfl (by first | rfl | assumption | exact decide_eq_true (by assumption) | exact decide_eq_false (by assumption) | decide | (simp; done) | (simp; omega) | (simp [*]; done))) rfl ?_
          refine Ops.r (Run.asg rfl) rfl ?_
          refine Ops.nil ?_
          refine thenQ_n ⟨(.cons (congrArg (fun b => some (Value.bool b)) (Eq.symm (by unfold SignN; grind))) .nil), rfl⟩
        · skip
          refine Ops.r (Run.pickF rfl rfl (by first | rfl | assumption | exact decide_eq_true (by assumption) | exact decide_eq_false (by assumption) | decide | (simp; done) | (simp; omega) | (simp [*]; done))) rfl ?_
          refine Ops.r (Run.mv rfl) rfl ?_
          refine Ops.rg rfl (by first | rfl | assumption | exact decide_eq_true (by assumption) | exact decide_eq_false (by assumption) | decide | (simp; done) | (simp; omega) | (simp [*]; done)) (Run.mv rfl) rfl ?_
          refine Ops.rg rfl (by first | rfl | assumption | exact decide_eq_true (by assumption) | exact decide_eq_false (by assumption) | decide | (simp; done) | (simp; omega) | (simp [*]; done)) (Run.bin rfl rfl (Bin.eqlN _ 45)) rfl ?_
          by_cases hs23 : n = 45
          · skip
            refine Ops.r (Run.pickF rfl rfl (by first | rfl | assumption | exact decide_eq_true (by assumption) | exact decide_eq_false (by assumption) | decide | (simp; done) | (simp; omega) | (simp [*]; done))) rfl ?_
            refine Ops.r (Run.mv rfl) rfl ?_
            refine Ops.sk rfl (by first | rfl | assumption | exact decide_eq_true (by assumption) | exact decide_eq_false (by assumption) | decide | (simp; done) | (simp; omega) | (simp [*]; done)) rfl ?_
            refine Ops.sk rfl (by first | rfl | assumption | exact decide_eq_true (by assumption) | exact decide_eq_false (by assumption) | decide | (simp; done) | (simp; omega) | (simp [*]; done)) rfl ?_
            refine Ops.r (Run.pickT rfl rfl (by first | rfl | assumption | exact decide_eq_true (by assumption) | exact decide_eq_false (by assumption) | decide | (simp; done) | (simp; omega) | (simp [*]; done))) rfl ?_
            refine Ops.r (Run.mv rfl) rfl ?_
            refine Ops.sk rfl (by first | rfl | assumption | exact decide_eq_true (by assumption) | exact decide_eq_false (by assumption) | decide | (simp; done) | (simp; omega) | (simp [*]; done)) rfl ?_
            refine Ops.sk rfl (by first | rfl | assumption | exact decide_eq_true (by assumption) | exact decide_eq_false (by assumption) | decide | (simp; done) | (simp; omega) | (simp [*]; done)) rfl ?_
            refine Ops.r (Run.pickT rfl rfl (by first | rfl | assumption | exact decide_eq_true (by assumption) | exact decide_eq_false (by assumption) | decide | (simp; done) | (simp; omega) | (simp [*]; done))) rfl ?_
            refine Ops.r (Run.asg rfl) rfl ?_
            refine Ops.nil ?_
            refine thenQ_n ⟨(.cons (congrArg (fun b => some (Value.bool b)) (Eq.symm (by unfold SignN; grind))) .nil), rfl⟩
          · skip
            refine Ops.r (Run.pickF rfl rfl (by first | rfl | assumption | exact decide_eq_true (by assumption) | exact decide_eq_false (by assumption) | decide | (simp; done) | (simp; omega) | (simp [*]; done))) rfl ?_
            refine Ops.r (Run.mv rfl) rfl ?_
            refine Ops.rg rfl (by first | rfl | assumption | exact decide_eq_true (by assumption) | exact decide_eq_false (by assumption) | decide | (simp; done) | (simp; omega) | (simp [*]; done)) (Run.mv rfl) rfl ?_
            refine Ops.rg rfl (by first | rfl | assumption | exact decide_eq_true (by assumption) | exact decide_eq_false (by assumption) | decide | (simp; done) | (simp; omega) | (simp [*]; done)) (Run.bin rfl rfl (Bin.eqlN _ 46)) rfl ?_
            by_cases hs27 : n = 46
            · skip
              refine Ops.r (Run.pickF rfl rfl (by first | rfl | assumption | exact decide_eq_true (by assumption) | exact decide_eq_false (by assumption) | decide | (simp; done) | (simp; omega) | (simp [*]; done))) rfl ?_
              refine Ops.r (Run.mv rfl) rfl ?_
              refine Ops.sk rfl (by first | rfl | assumption | exact decide_eq_true (by assumption) | exact decide_eq_false (by assumption) | decide | (simp; done) | (simp; omega) | (simp [*]; done)) rfl ?_
              refine Ops.sk rfl (by first | rfl | assumption | exact decide_eq_true (by assumption) | exact decide_eq_false (by assumption) | decide | (simp; done) | (simp; omega) | (simp [*]; done)) rfl ?_
              refine Ops.r (Run.pickT rfl rfl (by first | rfl | assumption | exact decide_eq_true (by assumption) | exact decide_eq_false (by assumption) | decide | (simp; done) | (simp; omega) | (simp [*]; done))) rfl ?_
              refine Ops.r (Run.asg rfl) rfl ?_
              refine Ops.nil ?_
              refine thenQ_n ⟨(.cons (congrArg (fun b => some (Value.bool b)) (Eq.symm (by unfold SignN; grind))) .nil), rfl⟩
            · skip
              refine Ops.r (Run.pickF rfl rfl (by first | rfl | assumption | exact decide_eq_true (by assumption) | exact decide_eq_false (by assumption) | decide | (simp; done) | (simp; omega) | (simp [*]; done))) rfl ?_
              refine Ops.r (Run.mv rfl) rfl ?_
              refine Ops.rg rfl (by first | rfl | assumption | exact decide_eq_true (by assumption) | exact decide_eq_false (by assumption) | decide | (simp; done) | (simp; omega) | (simp [*]; done)) (Run.mv rfl) rfl ?_
              refine Ops.rg rfl (by first | rfl | assumption | exact decide_eq_true (by assumption) | exact decide_eq_false (by assumption) | decide | (simp; done) | (simp; omega) | (simp [*]; done)) (Run.bin rfl rfl (Bin.eqlN _ 95)) rfl ?_
              by_cases hs31 : n = 95
              · skip
                refine Ops.r (Run.pickF rfl rfl (by first | rfl | assumption | exact decide_eq_true (by assumption) | exact decide_eq_false (by assumption) | decide | (simp; done) | (simp; omega) | (simp [*]; done))) rfl ?_
                refine Ops.r (Run.asg rfl) rfl ?_
                refine Ops.nil ?_
                refine thenQ_n ⟨(.cons (congrArg (fun b => some (Value.bool b)) (Eq.symm (by unfold SignN; grind))) .nil), rfl⟩
              · skip
                refine Ops.r (Run.pickF rfl rfl (by first | rfl | assumption | exact decide_eq_true (by assumption) | exact decide_eq_false (by assumption) | decide | (simp; done) | (simp; omega) | (simp [*]; done))) rfl ?_
                refine Ops.r (Run.asg rfl) rfl ?_
                refine Ops.nil ?_
                refine thenQ_n ⟨(.cons (congrArg (fun b => some (Value.bool b)) (Eq.symm (by unfold SignN; grind))) .nil), rfl⟩
  · intro Γ hΓ
    refine thenQ_n (VC.sub _ hΓ ?_)
    refine VC.ret ?_
    refine end1 rfl ?_
    exact ⟨rfl, rfl⟩

set_option maxRecDepth 100000 in
theorem toldC_spec (n : Nat) (w : World) : Calls Try.prog 73 #[.int .i32 ((n : Nat) : Int)] w fun e w' => e = .returned (.bool (!decide (SignN n))) ∧ w = w' := by
  refine VC.calls (nt := 6) (res := #[.tmp 2]) Try.func73 rfl Try.ntmps73 Try.results73 rfl ?_
  refine VC.seq ?_
  refine VC.region ?_
  refine Ops.r (Run.asg rfl) rfl ?_
  refine Ops.nil ?_
  refine thenQ_n ?_
  refine VC.sub [(0, _)] (.cons rfl .nil) ?_
  refine VC.seq ?_
  refine VC.region ?_
  refine Ops.r (Run.mv rfl) rfl ?_
  refine Ops.cl (Enters.fn (evs.cons rfl evs.nil) Try.call74) (sign_spec n _) rfl ?_
  rintro e _ ⟨rfl, rfl⟩
  refine ⟨_, rfl, ?_⟩
  refine Ops.r (Run.not rfl) rfl ?_
  refine Ops.r (Run.asg rfl) rfl ?_
  refine Ops.nil ?_
  refine thenQ_n ?_
  refine VC.sub [(2, _)] (.cons rfl .nil) ?_
  refine VC.ret ?_
  refine end1 rfl ?_
  exact ⟨rfl, rfl⟩

theorem decode_low (s : ByteArray) (i : Nat) (h : (s.get! i).toNat < 128) : Utf8.decode s i = ((s.get! i).toNat, 1) := by
  rw [Lib.decode_at]
  unfold Lib.decodeN
  rw [if_pos h]
theorem decode_high (s : ByteArray) (i : Nat) (h : ¬ (s.get! i).toNat < 128) : 128 ≤ (Utf8.decode s i).1 := by
  rw [Lib.decode_at]
  unfold Lib.decodeN
  rw [if_neg h]
  repeat' split
  all_goals (dsimp only; omega)
theorem idx_sign (s : Tx) : ∀ f pos, s.length ≤ pos + f → pos ≤ s.length → (0 ≤ Lib.idxFuncFrom (fun n => !decide (SignN n)) true ⟨s.toArray⟩ f pos ↔ ∃ c ∈ s.drop pos, ¬ SignN c.toNat)
  | 0, pos, h1, h2 => by
    have : s.drop pos = [] := List.drop_eq_nil_of_le (by omega)
    rw [this]
    simp [Lib.idxFuncFrom]
  | f + 1, pos, h1, h2 => by
    unfold Lib.idxFuncFrom
    have hsz : (⟨s.toArray⟩ : ByteArray).size = s.length := rfl
    rw [hsz]
    by_cases hp : pos < s.length
    · rw [if_pos hp, List.drop_eq_getElem_cons hp]
      have hget : (⟨s.toArray⟩ : ByteArray).get! pos = s[pos] := by
        show s.toArray[pos]! = _
        rw [getElem!_pos _ pos (by simpa using hp)]
        simp
      by_cases hl : s[pos].toNat < 128
      · rw [decode_low _ _ (by rw [hget]; exact hl), hget]
        dsimp only
        by_cases hs : SignN s[pos].toNat
        · rw [if_neg (by simp [hs]), idx_sign s f (pos + 1) (by omega) (by omega)]
          simp only [List.mem_cons, exists_eq_or_imp, hs, not_true, false_or]
        · rw [if_pos (by simp [hs])]
          exact iff_of_true (by omega) ⟨_, List.mem_cons_self, hs⟩
      · have hd := decode_high ⟨s.toArray⟩ pos (by rw [hget]; exact hl)
        rw [if_pos (by simp only [Bool.not_eq_true', decide_eq_false_iff_not]; intro h; have := h.lt; omega)]
        have hns : ¬ SignN s[pos].toNat := fun h => hl h.lt
        exact iff_of_true (by omega) ⟨_, List.mem_cons_self, hns⟩
    · rw [if_neg hp]
      have : s.drop pos = [] := List.drop_eq_nil_of_le (by omega)
      rw [this]
      simp
theorem nosign_spec (s : Tx) (w : World) : Calls Try.prog 72 #[encStr s, .func (.func 73) #[] #[]] w fun e w' => e = .returned (.bool (decide (∃ c ∈ s, ¬ SignN c.toNat))) ∧ Frm [] w w' := by
  refine (Try.strings_ContainsFunc_runes 73 #[] Try.call73 (fun n => !decide (SignN n)) ⟨s.toArray⟩ w ?_).mono fun e w' ⟨he, hb⟩ => ⟨?_, Frm.of_below hb⟩
  · intro W x _ _
    exact (toldC_spec x W).mono fun e w' ⟨he, hw⟩ => ⟨he, 0, by rw [← hw]; rfl⟩
  · rw [he]
    congr 2
    rw [decide_eq_decide]
    exact idx_sign s s.length 0 (by omega) (by omega)

set_option maxRecDepth 100000 in
theorem five_spec (w : World) : Calls Try.prog 70 #[] w fun e w' => e = .returned (.agg (SB fiveL).toArray) ∧ Frm [] w w' := by
  refine VC.calls (nt := 2) (res := #[.cell 0 104]) Try.func70 rfl Try.ntmps70 Try.results70 rfl ?_
  refine VC.seq ?_
  refine VC.region ?_
  refine Ops.m (Does.alloc zero104) rfl ?_
  rintro _ w1 ⟨rfl, hF1⟩
  have hb1 := hF1.blk
  generalize hg0 : w.heap.size = g0 at *
  refine Ops.nil ?_
  refine thenQ_n ?_
  refine VC.seq ?_
  refine VC.region ?_
  refine Ops.r (Run.buildA (evs.cons rfl (evs.cons rfl (evs.cons rfl (evs.cons rfl (evs.cons rfl evs.nil))))) zero104 Try.underlying104 Try.sizeOf9 (cells := (SB fiveL).toArray) (by kernel_rfl)) rfl ?_
  refine Ops.st (Acts.storeA rfl rfl Try.sizeOf104 hb1 rfl (SB_one fiveL)) ?_
  rintro w5 ⟨hb5, hf5, hs5⟩
  refine Ops.nil ?_
  refine thenQ_n ?_
  refine VC.sub [(0, _)] (.cons rfl .nil) ?_
  refine VC.ret ?_
  refine endR ?_
  refine res_cellB rfl Try.isAgg104 Try.sizeOf104 (hb5) rfl ?_
  refine res_nil ?_
  exact ⟨rfl, hF1.frm.own hf5 (fun x hx => by simp at hx; omega)⟩

/-- A flag as it is told, and whether it is none. -/
def toldV (s : Tx) : Tx × Nat := match toldF s with
  | some t => (t, 0)
  | none => ([], 18)
theorem find_at {q : Tx} {i : Nat} (hi : i < fiveL.length) (hn : ∀ f ∈ fiveL.take i, smallS f ≠ smallS q) (h : smallS (fiveL[i]) = smallS q) : fiveL.find? (fun f => decide (smallS f = smallS q)) = some fiveL[i] := by
  rw [List.find?_eq_some_iff_append]
  refine ⟨by simpa using h, fiveL.take i, fiveL.drop (i + 1), ?_, fun a ha => by simpa using hn a ha⟩
  rw [← List.drop_eq_getElem_cons hi, List.take_append_drop]

set_option maxRecDepth 100000 in
theorem told_spec (q : Tx) (w : World) (hq : q.length ≤ 1000000) : Calls Try.prog 54 #[encStr q] w fun e w' => e = .returned (.tuple #[encStr (toldV q).1, .int .i64 (((toldV q).2 : Nat) : Int)]) ∧ Frm [] w w' := by
  refine VC.calls (nt := 34) (res := #[.tmp 2, .tmp 3]) Try.func54 rfl Try.ntmps54 Try.results54 rfl ?_
  refine VC.seq ?_
  refine VC.region ?_
  refine Ops.r (Run.asg rfl) rfl ?_
  refine Ops.r (v := .int .i64 ((0 : Nat) : Int)) (Run.asg rfl) rfl ?_
  refine Ops.nil ?_
  refine thenQ_n ?_
  refine VC.sub [(0, _)] (.cons rfl .nil) ?_
  refine VC.seq ?_
  refine VC.seq ?_
  refine VC.region ?_
  refine Ops.r (Run.mv rfl) rfl ?_
  refine Ops.cl (Enters.fn (evs.cons rfl (evs.cons rfl evs.nil)) Try.call69) (Try.strings_HasPrefix ⟨q.toArray⟩ ⟨#[92]⟩ _) rfl ?_
  rintro e w0 ⟨rfl, hw0⟩
  obtain rfl : w = w0 := hw0.symm
  refine ⟨.bool (([92] : Tx).isPrefixOf q), rfl, ?_⟩
  refine Ops.nil ?_
  refine thenQ_n ?_
  refine VC.sub [(0, _), (8, _)] (.cons rfl (.cons rfl .nil)) ?_
  refine VC.condB rfl (fun hc1 => ?_) (fun hc1 => ?_)
  · skip
    refine VC.seq ?_
    refine VC.seq ?_
    refine VC.region ?_
    refine Ops.cl (Enters.fn evs.nil Try.call70) (five_spec _) rfl ?_
    rintro e w1 ⟨rfl, hf1⟩
    refine ⟨_, rfl, ?_⟩
    refine Ops.r (v := .int .i64 ((0 : Nat) : Int)) (Run.mv rfl) rfl ?_
    refine Ops.nil ?_
    refine thenQ_n ?_
    refine VC.sub [(0, _), (9, _), (10, _)] (.cons rfl (.cons rfl (.cons rfl .nil))) ?_
    refine VC.block ?_
    refine VC.loop (σ := Nat) (fun s => [(0, encStr q), (9, .agg (SB fiveL).toArray), (10, .int .i64 ((s : Nat) : Int))]) (fun s wr => s ≤ 5 ∧ Frm [] w wr ∧ ∀ f ∈ fiveL.take s, smallS f ≠ smallS q) (fun s => 5 - s) 0 (.cons rfl (.cons rfl (.cons rfl .nil))) ⟨by omega, hf1, by simp⟩ ?_
    rintro i wr ⟨hi, hfr, hn⟩
    refine VC.seq ?_
    refine VC.region ?_
    refine Ops.r (Run.bin rfl rfl (Bin.lssN _ 5)) rfl ?_
    refine Ops.nil ?_
    refine thenQ_n ?_
    refine VC.seq ?_
    refine VC.condD rfl (fun hc2 => ?_) (fun hc2 => ?_)
    · skip
      have hi5 : i < fiveL.length := hc2
      refine VC.skip ?_
      refine thenQ_n ?_
      refine VC.sub [(0, _), (9, _), (10, _)] (.cons rfl (.cons rfl (.cons rfl .nil))) ?_
      refine VC.seq ?_
      refine VC.block ?_
      refine VC.seq ?_
      refine VC.region ?_
      refine Ops.r (Run.indexArr1 (v := encStr fiveL[i]) i rfl rfl Try.underlying104 Try.isAgg9 Try.sizeOf9 rfl (by simp [SB, hi5])) rfl ?_
      refine Ops.r (Run.asg rfl) rfl ?_
      refine Ops.nil ?_
      refine thenQ_n ?_
      refine VC.sub [(0, _), (5, _), (9, _), (10, _)] (.cons rfl (.cons rfl (.cons rfl (.cons rfl .nil)))) ?_
      refine VC.seq ?_
      refine VC.region ?_
      refine Ops.r (Run.mv rfl) rfl ?_
      refine Ops.cl (Enters.fn (evs.cons rfl evs.nil) Try.call71) (small_spec fiveL[i] _ (by have := toldF_len (toldF_five _ (List.getElem_mem hi5)); omega)) rfl ?_
      rintro e w2 ⟨rfl, hf2⟩
      refine ⟨_, rfl, ?_⟩
      refine Ops.r (Run.mv rfl) rfl ?_
      refine Ops.cl (Enters.fn (evs.cons rfl evs.nil) Try.call71) (small_spec q _ hq) rfl ?_
      rintro e w3 ⟨rfl, hf3⟩
      refine ⟨_, rfl, ?_⟩
      have hfr3 := (hfr.trans hf2 (by simp)).trans hf3 (by simp)
      refine Ops.r (Run.eqlT rfl rfl) rfl ?_
      refine Ops.nil ?_
      refine thenQ_n ?_
      refine VC.sub [(0, _), (5, _), (9, _), (10, _), (17, _)] (.cons rfl (.cons rfl (.cons rfl (.cons rfl (.cons rfl .nil))))) ?_
      refine VC.condD rfl (fun hc3 => ?_) (fun hc3 => ?_)
      · skip
        refine VC.seq ?_
        refine VC.region ?_
        refine Ops.r (Run.mv rfl) rfl ?_
        refine Ops.r (Run.asg rfl) rfl ?_
        refine Ops.r (v := .int .i64 ((0 : Nat) : Int)) (Run.asg rfl) rfl ?_
        refine Ops.nil ?_
        refine thenQ_n ?_
        refine VC.sub [(2, _), (3, _)] (.cons rfl (.cons rfl .nil)) ?_
        refine VC.ret ?_
        refine blockQ_r (thenQ_r (thenQ_r (blockQ_r (thenQ_r (thenQ_r (end2 rfl rfl ?_))))))
        have e : toldV q = (fiveL[i], 0) := by
          unfold toldV toldF
          rw [if_pos hc1, find_at hi5 hn hc3]
        rw [e]
        exact ⟨rfl, hfr3⟩
      · skip
        refine VC.skip ?_
        refine blockQ_n (thenQ_n ?_)
        refine VC.sub [(0, _), (9, _), (10, _)] (.cons rfl (.cons rfl (.cons rfl .nil))) ?_
        refine VC.region ?_
        refine Ops.r (Run.bin rfl rfl (Bin.add_i64 _ 1 (by omega))) rfl ?_
        refine Ops.r (Run.mv rfl) rfl ?_
        refine Ops.nil ?_
        refine thenQ_n ⟨(i + 1), (.cons rfl (.cons rfl (.cons rfl .nil))), ?_, ?_⟩
        · skip
          refine ⟨hc2, hfr3, fun f hf => ?_⟩
          have e : fiveL.take (i + 1) = fiveL.take i ++ [fiveL[i]] := by rw [List.take_add_one, List.getElem?_eq_getElem hi5]; rfl
          rw [e] at hf
          rcases List.mem_append.1 hf with h | h
          · exact hn f h
          · simp only [List.mem_singleton] at h
            rw [h]; exact hc3
        · skip
          first | omega | (dsimp only; omega)
    · skip
      refine VC.exit ?_
      refine thenQ_x (thenQ_x (blockQ_x ?_))
      refine thenQ_n ?_
      refine VC.sub [] .nil ?_
      refine VC.seq ?_
      refine VC.region ?_
      refine Ops.r (Run.asg rfl) rfl ?_
      refine Ops.r (v := .int .i64 ((18 : Nat) : Int)) (Run.asg rfl) rfl ?_
      refine Ops.nil ?_
      refine thenQ_n ?_
      refine VC.ret ?_
      refine thenQ_r (end2 rfl rfl ?_)
      have e : toldV q = ([], 18) := by
        have hi : i = 5 := by omega
        subst hi
        unfold toldV toldF
        rw [if_pos hc1, List.find?_eq_none.2 (fun f hf => by simpa using hn f hf)]
      rw [e]
      exact ⟨rfl, hfr⟩
  · skip
    refine VC.skip ?_
    refine thenQ_n ?_
    refine VC.sub [(0, _)] (.cons rfl .nil) ?_
    refine VC.seq ?_
    refine VC.region ?_
    refine Ops.r (Run.mv rfl) rfl ?_
    refine Ops.cl (Enters.fn (evs.cons rfl evs.nil) Try.call71) (small_spec q _ hq) rfl ?_
    rintro e w3 ⟨rfl, hf3⟩
    refine ⟨_, rfl, ?_⟩
    have hpf : ¬ ([92] : Tx).isPrefixOf q = true := by rw [hc1]; simp
    refine Ops.r (Run.asg rfl) rfl ?_
    refine Ops.nil ?_
    refine thenQ_n ?_
    refine VC.sub [(6, _)] (.cons rfl .nil) ?_
    refine VC.seq ?_
    refine VC.seq ?_
    refine VC.splitR [(6, encStr (smallS q))] (Frm [] w) 32 (.bool (decide (smallS q = [] ∨ 20 < (smallS q).length ∨ ∃ c ∈ smallS q, ¬ SignN c.toNat))) ?_ ?_
    · refine VC.region ?_
      refine Ops.r (Run.mv rfl) rfl ?_
      refine Ops.r (Run.eqlT rfl rfl) rfl ?_
      by_cases hs23 : smallS q = []
      · skip
        refine Ops.r (Run.mv rfl) rfl ?_
        refine Ops.sk rfl (by first | rfl | assumption | exact decide_eq_true (by assumption) | exact decide_eq_false (by assumption) | decide | (simp; done) | (simp; omega) | (simp [*]; done)) rfl ?_
        refine Ops.sk rfl (by first | rfl | assumption | exact decide_eq_true (by assumption) | exact decide_eq_false (by assumption) | decide | (simp; done) | (simp; omega) | (simp [*]; done)) rfl ?_
        refine Ops.sk rfl (by first | rfl | assumption | exact decide_eq_true (by assumption) | exact decide_eq_false (by assumption) | decide | (simp; done) | (simp; omega) | (simp [*]; done)) rfl ?_
        refine Ops.r (Run.pickT rfl rfl (by first | rfl | assumption | exact decide_eq_true (by assumption) | exact decide_eq_false (by assumption) | decide | (simp; done) | (simp; omega) | (simp [*]; done))) rfl ?_
        refine Ops.r (Run.mv rfl) rfl ?_
        refine Ops.sk rfl (by first | rfl | assumption | exact decide_eq_true (by assumption) | exact decide_eq_false (by assumption) | decide | (simp; done) | (simp; omega) | (simp [*]; done)) rfl ?_
        refine Ops.sk rfl (by first | rfl | assumption | exact decide_eq_true (by assumption) | exact decide_eq_false (by assumption) | decide | (simp; done) | (simp; omega) | (simp [*]; done)) rfl ?_
        refine Ops.r (Run.pickT rfl rfl (by first | rfl | assumption | exact decide_eq_true (by assumption) | exact decide_eq_false (by assumption) | decide | (simp; done) | (simp; omega) | (simp [*]; done))) rfl ?_
        refine Ops.nil ?_
        refine thenQ_n ⟨(.cons (congrArg (fun b => some (Value.bool b)) (Eq.symm (by simp [*]))) (.cons rfl .nil)), (by first | exact hf3.trans hf4 (by simp) | exact hf3)⟩
      · skip
        refine Ops.r (Run.mv rfl) rfl ?_
        refine Ops.rg rfl (by first | rfl | assumption | exact decide_eq_true (by assumption) | exact decide_eq_false (by assumption) | decide | (simp; done) | (simp; omega) | (simp [*]; done)) (Run.mv rfl) rfl ?_
        refine Ops.rg rfl (by first | rfl | assumption | exact decide_eq_true (by assumption) | exact decide_eq_false (by assumption) | decide | (simp; done) | (simp; omega) | (simp [*]; done)) (Run.lenT rfl Try.underlying9) rfl ?_
        refine Ops.rg rfl (by first | rfl | assumption | exact decide_eq_true (by assumption) | exact decide_eq_false (by assumption) | decide | (simp; done) | (simp; omega) | (simp [*]; done)) (Run.bin rfl rfl (Bin.gtrN _ 20)) rfl ?_
        by_cases hs27 : 20 < (smallS q).length
        · skip
          refine Ops.r (Run.pickF rfl rfl (by first | rfl | assumption | exact decide_eq_true (by assumption) | exact decide_eq_false (by assumption) | decide | (simp; done) | (simp; omega) | (simp [*]; done))) rfl ?_
          refine Ops.r (Run.mv rfl) rfl ?_
          refine Ops.sk rfl (by first | rfl | assumption | exact decide_eq_true (by assumption) | exact decide_eq_false (by assumption) | decide | (simp; done) | (simp; omega) | (simp [*]; done)) rfl ?_
          refine Ops.sk rfl (by first | rfl | assumption | exact decide_eq_true (by assumption) | exact decide_eq_false (by assumption) | decide | (simp; done) | (simp; omega) | (simp [*]; done)) rfl ?_
          refine Ops.r (Run.pickT rfl rfl (by first | rfl | assumption | exact decide_eq_true (by assumption) | exact decide_eq_false (by assumption) | decide | (simp; done) | (simp; omega) | (simp [*]; done))) rfl ?_
          refine Ops.nil ?_
          refine thenQ_n ⟨(.cons (congrArg (fun b => some (Value.bool b)) (Eq.symm (by simp [*]))) (.cons rfl .nil)), (by first | exact hf3.trans hf4 (by simp) | exact hf3)⟩
        · skip
          refine Ops.r (Run.pickF rfl rfl (by first | rfl | assumption | exact decide_eq_true (by assumption) | exact decide_eq_false (by assumption) | decide | (simp; done) | (simp; omega) | (simp [*]; done))) rfl ?_
          refine Ops.r (Run.mv rfl) rfl ?_
          refine Ops.rg rfl (by first | rfl | assumption | exact decide_eq_true (by assumption) | exact decide_eq_false (by assumption) | decide | (simp; done) | (simp; omega) | (simp [*]; done)) (Run.mv rfl) rfl ?_
          refine Ops.clg rfl (by first | rfl | assumption | exact decide_eq_true (by assumption) | exact decide_eq_false (by assumption) | decide | (simp; done) | (simp; omega) | (simp [*]; done)) (Enters.fn (evs.cons rfl (evs.cons rfl evs.nil)) Try.call72) (nosign_spec (smallS q) _) rfl ?_
          rintro e w4 ⟨rfl, hf4⟩
          refine ⟨_, rfl, ?_⟩
          by_cases hs31 : ∃ c ∈ smallS q, ¬ SignN c.toNat
          · skip
            refine Ops.r (Run.pickF rfl rfl (by first | rfl | assumption | exact decide_eq_true (by assumption) | exact decide_eq_false (by assumption) | decide | (simp; done) | (simp; omega) | (simp [*]; done))) rfl ?_
            refine Ops.nil ?_
            refine thenQ_n ⟨(.cons (congrArg (fun b => some (Value.bool b)) (Eq.symm (by simp [*]))) (.cons rfl .nil)), (by first | exact hf3.trans hf4 (by simp) | exact hf3)⟩
          · skip
            refine Ops.r (Run.pickF rfl rfl (by first | rfl | assumption | exact decide_eq_true (by assumption) | exact decide_eq_false (by assumption) | decide | (simp; done) | (simp; omega) | (simp [*]; done))) rfl ?_
            refine Ops.nil ?_
            refine thenQ_n ⟨(.cons (congrArg (fun b => some (Value.bool b)) (Eq.symm (by simp [*]))) (.cons rfl .nil)), (by first | exact hf3.trans hf4 (by simp) | exact hf3)⟩
    · intro Γ wR hΓ hR
      refine thenQ_n (VC.sub _ hΓ ?_)
      refine VC.condD rfl (fun hc4 => ?_) (fun hc4 => ?_)
      · skip
        refine VC.seq ?_
        refine VC.region ?_
        refine Ops.r (Run.asg rfl) rfl ?_
        refine Ops.r (v := .int .i64 ((18 : Nat) : Int)) (Run.asg rfl) rfl ?_
        refine Ops.nil ?_
        refine thenQ_n ?_
        refine VC.sub [(2, _), (3, _)] (.cons rfl (.cons rfl .nil)) ?_
        refine VC.ret ?_
        refine thenQ_r (end2 rfl rfl ?_)
        have e : toldV q = ([], 18) := by
          unfold toldV toldF
          rw [if_neg hpf, if_pos (by rw [smallS_len] at hc4; exact hc4)]
        rw [e]
        exact ⟨rfl, hR⟩
      · skip
        refine VC.skip ?_
        refine thenQ_n ?_
        refine VC.sub [(6, _)] (.cons rfl .nil) ?_
        refine VC.seq ?_
        refine VC.region ?_
        refine Ops.r (Run.mv rfl) rfl ?_
        refine Ops.r (Run.asg rfl) rfl ?_
        refine Ops.r (v := .int .i64 ((0 : Nat) : Int)) (Run.asg rfl) rfl ?_
        refine Ops.nil ?_
        refine thenQ_n ?_
        refine VC.sub [(2, _), (3, _)] (.cons rfl (.cons rfl .nil)) ?_
        refine VC.ret ?_
        refine end2 rfl rfl ?_
        have e : toldV q = (smallS q, 0) := by
          unfold toldV toldF
          rw [if_neg hpf, if_neg (by rw [smallS_len] at hc4; exact hc4)]
        rw [e]
        exact ⟨rfl, hR⟩

end Go.Proofs.Ytmfglifjnoilnaa

/-
  The walks of flag: sets, and what is done with them.
-/
namespace Go.Proofs.Ytmfglifjnoilnaa
open Go.RowKit Go.Sort

theorem told_cases (s : Tx) : (∃ t, toldF s = some t ∧ toldV s = (t, 0)) ∨ (toldF s = none ∧ toldV s = ([], 18)) := by
  unfold toldV
  cases toldF s with
  | none => exact .inr ⟨rfl, rfl⟩
  | some t => exact .inl ⟨t, rfl, rfl⟩
/-- What comes back: a set, or an error. -/
def IsN (w0 w' : World) (e : Ending) (F : Except Nat (List Tx)) (B : Option Addr) (d : Nat) (r : List Tx) (k : Nat) : Prop :=
  e = .returned (.tuple #[.slice B r.length d, .int .i64 ((k : Nat) : Int)]) ∧ Own w' 9 1 B r.length d (SB r) ∧ (∀ x ∈ ob B, w0.heap.size ≤ x) ∧ ((k = 0 ∧ F = .ok r) ∨ (k ≠ 0 ∧ r = [] ∧ F = .error k))
theorem take_snoc {α : Type} {l : List α} {i : Nat} (h : i < l.length) : l.take (i + 1) = l.take i ++ [l[i]] := by rw [List.take_add_one, List.getElem?_eq_getElem h]; rfl
theorem hrd1 {w w' : World} {t : TypeId} {q : Tx} (h : Fresh w w' t #[encStr q]) : Rd w' 1 (some ⟨w.heap.size, 0, none⟩) 1 (SB [q]) := Rd.of_blk (n := 1) (size := 1) h.blk rfl

set_option maxRecDepth 100000 in
theorem fnorm_spec (A : Option Addr) (c0 : Nat) (l : List Tx) (w : World) (hn : l.length ≤ 1000000) (hq : ∀ q ∈ l, q.length ≤ 1000000) (hr : Rd w 1 A l.length (SB l)) :
    Calls Try.prog 58 #[.slice A l.length c0] w fun e w' => Frm [] w w' ∧ ∃ B d r k, IsN w w' e (normF l) B d r k := by
  refine VC.calls (nt := 36) (res := #[.tmp 2, .tmp 3]) Try.func58 rfl Try.ntmps58 Try.results58 rfl ?_
  refine VC.seq ?_
  refine VC.region ?_
  refine Ops.r (Run.asg rfl) rfl ?_
  refine Ops.r (v := .int .i64 ((0 : Nat) : Int)) (Run.asg rfl) rfl ?_
  refine Ops.nil ?_
  refine thenQ_n ?_
  refine VC.sub [(0, _)] (.cons rfl .nil) ?_
  refine VC.seq ?_
  refine VC.region ?_
  refine Ops.r (Run.asg rfl) rfl ?_
  refine Ops.nil ?_
  refine thenQ_n ?_
  refine VC.seq ?_
  refine VC.seq ?_
  refine VC.region ?_
  refine Ops.r (Run.mv rfl) rfl ?_
  refine Ops.r (Run.lenS rfl Try.underlying43) rfl ?_
  refine Ops.r (v := .int .i64 ((0 : Nat) : Int)) (Run.mv rfl) rfl ?_
  refine Ops.nil ?_
  refine thenQ_n ?_
  refine VC.sub [(4, _), (9, _), (10, _), (11, _)] (.cons rfl (.cons rfl (.cons rfl (.cons rfl .nil)))) ?_
  refine VC.block ?_
  refine VC.loop (σ := Nat × Option Addr × Nat × List Tx) (fun s => [(4, .slice s.2.1 s.2.2.2.length s.2.2.1), (9, .slice A l.length c0), (10, .int .i64 ((l.length : Nat) : Int)), (11, .int .i64 ((s.1 : Nat) : Int))]) (fun s wr => s.1 ≤ l.length ∧ Own wr 9 1 s.2.1 s.2.2.2.length s.2.2.1 (SB s.2.2.2) ∧ (∀ x ∈ ob s.2.1, w.heap.size ≤ x) ∧ Frm [] w wr ∧ toldL (l.take s.1) = some s.2.2.2) (fun s => l.length - s.1) (0, none, 0, []) (.cons rfl (.cons rfl (.cons rfl (.cons rfl .nil)))) ⟨by omega, Own.nil _ _ _, by simp [ob], Frm.refl _ _, rfl⟩ ?_
  rintro ⟨i, B, d, ts⟩ wr ⟨hi, hown, hge, hfr, htl⟩
  dsimp only at hi hown hge htl ⊢
  have htsl : ts.length = i := by rw [toldL_len htl]; simp; omega
  refine VC.seq ?_
  refine VC.region ?_
  refine Ops.r (Run.bin rfl rfl (Bin.lssN _ _)) rfl ?_
  refine Ops.nil ?_
  refine thenQ_n ?_
  refine VC.seq ?_
  refine VC.condD rfl (fun hc1 => ?_) (fun hc1 => ?_)
  · skip
    obtain ⟨ad, rfl, hcell⟩ := SB_at (hr.frm hfr (by simp)) hc1
    refine VC.skip ?_
    refine thenQ_n ?_
    refine VC.sub [(4, _), (9, _), (10, _), (11, _)] (.cons rfl (.cons rfl (.cons rfl (.cons rfl .nil)))) ?_
    refine VC.seq ?_
    refine VC.block ?_
    refine VC.seq ?_
    refine VC.region ?_
    refine Ops.r (Run.index1 i rfl rfl Try.underlying43 Try.sizeOf9 hc1) rfl ?_
    refine Ops.r (Run.load rfl Try.isAgg9 hcell) rfl ?_
    refine Ops.r (Run.asg rfl) rfl ?_
    refine Ops.nil ?_
    refine thenQ_n ?_
    refine VC.sub [(4, _), (6, _), (9, _), (10, _), (11, _)] (.cons rfl (.cons rfl (.cons rfl (.cons rfl (.cons rfl .nil))))) ?_
    refine VC.seq ?_
    refine VC.region ?_
    refine Ops.r (Run.mv rfl) rfl ?_
    refine Ops.cl (Enters.fn (evs.cons rfl evs.nil) Try.call54) (told_spec l[i] _ (hq _ (List.getElem_mem hc1))) rfl ?_
    rintro e w1 ⟨rfl, hf1⟩
    refine ⟨_, rfl, ?_⟩
    have hfr1 := hfr.trans hf1 (by simp)
    have hown1 := hown.frm hf1 (by simp)
    have htc := told_cases l[i]
    generalize hq0 : l[i] = q at *
    refine Ops.r (Run.mv rfl) rfl ?_
    refine Ops.r (Run.extract rfl rfl) rfl ?_
    refine Ops.r (Run.extract rfl rfl) rfl ?_
    refine Ops.r (Run.asg rfl) rfl ?_
    refine Ops.r (Run.asg rfl) rfl ?_
    refine Ops.nil ?_
    refine thenQ_n ?_
    refine VC.sub [(4, _), (7, _), (8, _), (9, _), (10, _), (11, _)] (.cons rfl (.cons rfl (.cons rfl (.cons rfl (.cons rfl (.cons rfl .nil)))))) ?_
    refine VC.seq ?_
    refine VC.seq ?_
    refine VC.region ?_
    refine Ops.r (Run.mv rfl) rfl ?_
    refine Ops.r (Run.bin rfl rfl (Bin.neqN _ 0)) rfl ?_
    refine Ops.nil ?_
    refine thenQ_n ?_
    refine VC.sub [(4, _), (7, _), (8, _), (9, _), (10, _), (11, _), (21, _)] (.cons rfl (.cons rfl (.cons rfl (.cons rfl (.cons rfl (.cons rfl (.cons rfl .nil))))))) ?_
    refine VC.condD rfl (fun hc2 => ?_) (fun hc2 => ?_)
    · skip
      have ht0 : toldF q = none ∧ toldV q = ([], 18) := by
        rcases htc with ⟨t, _, h⟩ | h
        · rw [h] at hc2; exact absurd rfl hc2
        · exact h
      have hnf : normF l = .error 18 := by
        unfold normF
        rw [toldL_none (hq0 ▸ List.getElem_mem hc1) ht0.1]
      refine VC.seq ?_
      refine VC.region ?_
      refine Ops.r (Run.mv rfl) rfl ?_
      refine Ops.r (Run.asg rfl) rfl ?_
      refine Ops.r (Run.asg rfl) rfl ?_
      refine Ops.nil ?_
      refine thenQ_n ?_
      refine VC.sub [(2, _), (3, _)] (.cons rfl (.cons rfl .nil)) ?_
      refine VC.ret ?_
      refine thenQ_r (blockQ_r (thenQ_r (thenQ_r (blockQ_r (thenQ_r (end2 rfl rfl ?_))))))
      rw [ht0.2]
      exact ⟨hfr1, none, 0, [], 18, rfl, Own.nil _ _ _, by simp [ob], .inr ⟨by decide, rfl, hnf⟩⟩
    · skip
      obtain ⟨t, ht0, hv0⟩ : ∃ t, toldF q = some t ∧ toldV q = (t, 0) := by
        rcases htc with h | ⟨_, h⟩
        · exact h
        · rw [h] at hc2; exact absurd (by decide) hc2
      rw [hv0]
      refine VC.skip ?_
      refine thenQ_n ?_
      refine VC.sub [(4, _), (7, _), (9, _), (10, _), (11, _)] (.cons rfl (.cons rfl (.cons rfl (.cons rfl (.cons rfl .nil))))) ?_
      refine VC.region ?_
      refine Ops.r (Run.mv rfl) rfl ?_
      refine Ops.r (Run.mv rfl) rfl ?_
      refine Ops.m (Does.buildS1 rfl Try.underlying43 Try.sizeOf9 zero9 (by decide) (by decide) rfl rfl) rfl ?_
      rintro _ w2 ⟨rfl, hF2⟩
      have hfr2 := hfr1.trans hF2.frm (by simp)
      refine Ops.m (Does.app rfl rfl Try.underlying43 (info9) rfl (by decide) (hown1.frm hF2.frm (by simp)) (hrd1 hF2) (SB_one _) (by omega) (by omega)) rfl ?_
      rintro _ w3 ⟨A3, c3, rfl, hown3, hfr3, hob3⟩
      rw [← SB_append] at hown3
      have hge3 := up_app hge hob3 hfr2.size
      have hfr3' := hfr2.own hfr3 hge
      refine Ops.r (Run.asg rfl) rfl ?_
      refine Ops.nil ?_
      refine blockQ_n (thenQ_n ?_)
      refine VC.sub [(4, _), (9, _), (10, _), (11, _)] (.cons rfl (.cons rfl (.cons rfl (.cons rfl .nil)))) ?_
      refine VC.region ?_
      refine Ops.r (Run.bin rfl rfl (Bin.add_i64 _ 1 (by omega))) rfl ?_
      refine Ops.r (Run.mv rfl) rfl ?_
      refine Ops.nil ?_
      refine thenQ_n ⟨(i + 1, A3, c3, ts ++ [t]), (.cons (by rw [List.length_append]; rfl) (.cons rfl (.cons rfl (.cons rfl .nil)))), ?_, ?_⟩
      · skip
        exact ⟨hc1, by simpa using hown3, hge3, hfr3', by rw [take_snoc hc1, toldL_snoc, htl, hq0, ht0]⟩
      · skip
        first | omega | (dsimp only; omega)
  · skip
    refine VC.exit ?_
    refine thenQ_x (thenQ_x (blockQ_x ?_))
    refine thenQ_n ?_
    refine VC.sub [(4, _)] (.cons rfl .nil) ?_
    refine VC.seq ?_
    refine VC.region ?_
    refine Ops.r (Run.mv rfl) rfl ?_
    refine Ops.cl (Enters.fn (evs.cons rfl evs.nil) Try.call77) (sort_spec B d ts _ hown (by omega)) rfl ?_
    rintro e w2 ⟨rfl, hown2, hf2⟩
    refine ⟨_, rfl, ?_⟩
    have hfr2 := hfr.own hf2 hge
    have him : i = l.length := by omega
    subst him
    rw [List.take_length] at htl
    rw [← srt_len ts] at hown2
    refine Ops.nil ?_
    refine thenQ_n ?_
    refine VC.sub [(4, _)] (.cons rfl .nil) ?_
    refine VC.seq ?_
    refine VC.seq ?_
    refine VC.region ?_
    refine Ops.r (Run.mv rfl) rfl ?_
    refine Ops.cl (Enters.fn (evs.cons rfl evs.nil) Try.call78) ((show Calls _ _ #[.slice B ts.length d] _ _ from srt_len ts ▸ compact_spec B d (srt ts) _ hown2 (by rw [srt_len]; omega))) rfl ?_
    rintro e w3 ⟨rfl, hown3, hf3⟩
    refine ⟨_, rfl, ?_⟩
    have hfr3 := hfr2.own hf3 hge
    refine Ops.r (Run.asg rfl) rfl ?_
    refine Ops.nil ?_
    refine thenQ_n ?_
    refine VC.sub [(4, _)] (.cons rfl .nil) ?_
    refine VC.seq ?_
    refine VC.region ?_
    refine Ops.r (Run.mv rfl) rfl ?_
    refine Ops.r (Run.lenS rfl Try.underlying43) rfl ?_
    refine Ops.r (Run.bin rfl rfl (Bin.gtrN _ 16)) rfl ?_
    refine Ops.nil ?_
    refine thenQ_n ?_
    refine VC.sub [(4, _), (34, _)] (.cons rfl (.cons rfl .nil)) ?_
    refine VC.condD rfl (fun hc3 => ?_) (fun hc3 => ?_)
    · skip
      refine VC.seq ?_
      refine VC.region ?_
      refine Ops.r (Run.asg rfl) rfl ?_
      refine Ops.r (v := .int .i64 ((5 : Nat) : Int)) (Run.asg rfl) rfl ?_
      refine Ops.nil ?_
      refine thenQ_n ?_
      refine VC.sub [(2, _), (3, _)] (.cons rfl (.cons rfl .nil)) ?_
      refine VC.ret ?_
      refine thenQ_r (end2 rfl rfl ?_)
      exact ⟨hfr3, none, 0, [], 5, rfl, Own.nil _ _ _, by simp [ob], .inr ⟨by decide, rfl, by unfold normF; rw [htl]; exact if_pos hc3⟩⟩
    · skip
      refine VC.skip ?_
      refine thenQ_n ?_
      refine VC.sub [(4, _)] (.cons rfl .nil) ?_
      refine VC.seq ?_
      refine VC.region ?_
      refine Ops.r (Run.mv rfl) rfl ?_
      refine Ops.r (Run.asg rfl) rfl ?_
      refine Ops.r (v := .int .i64 ((0 : Nat) : Int)) (Run.asg rfl) rfl ?_
      refine Ops.nil ?_
      refine thenQ_n ?_
      refine VC.sub [(2, _), (3, _)] (.cons rfl (.cons rfl .nil)) ?_
      refine VC.ret ?_
      refine end2 rfl rfl ?_
      exact ⟨hfr3, B, d, nub ts, 0, rfl, hown3, hge, .inl ⟨rfl, by unfold normF; rw [htl]; exact if_neg hc3⟩⟩

set_option maxRecDepth 100000 in
theorem fcheck_spec (A : Option Addr) (c0 : Nat) (l : List Tx) (w : World) (hn : l.length ≤ 1000000) (hq : ∀ q ∈ l, q.length ≤ 1000000) (hr : Rd w 1 A l.length (SB l)) :
    Calls Try.prog 52 #[.slice A l.length c0] w fun e w' => e = .returned (.bool (decide (checkF l))) ∧ Frm [] w w' := by
  refine VC.calls (nt := 17) (res := #[.tmp 2]) Try.func52 rfl Try.ntmps52 Try.results52 rfl ?_
  refine VC.seq ?_
  refine VC.region ?_
  refine Ops.r (Run.asg rfl) rfl ?_
  refine Ops.nil ?_
  refine thenQ_n ?_
  refine VC.sub [(0, _)] (.cons rfl .nil) ?_
  refine VC.seq ?_
  refine VC.region ?_
  refine Ops.r (Run.mv rfl) rfl ?_
  refine Ops.cl (Enters.fn (evs.cons rfl evs.nil) Try.call58) (fnorm_spec A c0 l _ hn hq hr) rfl ?_
  rintro e w1 ⟨hf1, B, d, r, k, rfl, ho1, hge1, hN⟩
  refine ⟨_, rfl, ?_⟩
  have hr1 := hr.frm hf1 (by simp)
  have hck : checkF l ↔ (k = 0 ∧ r = l) := by
    unfold checkF
    rcases hN with ⟨h1, h2⟩ | ⟨h1, _, h2⟩
    · rw [h2]; simp [h1]
    · rw [h2]; simp [h1]
  have hrl : r.length ≤ 1000000 := by
    rcases hN with ⟨h1, h2⟩ | ⟨h1, h2, _⟩
    · have := (checkF_facts (normF_check h2)).2.1; omega
    · subst h2; simp
  refine Ops.r (Run.mv rfl) rfl ?_
  refine Ops.r (Run.extract rfl rfl) rfl ?_
  refine Ops.r (Run.extract rfl rfl) rfl ?_
  refine Ops.r (Run.asg rfl) rfl ?_
  refine Ops.r (Run.asg rfl) rfl ?_
  refine Ops.nil ?_
  refine thenQ_n ?_
  refine VC.sub [(0, _), (3, _), (4, _)] (.cons rfl (.cons rfl (.cons rfl .nil))) ?_
  refine VC.seq ?_
  refine VC.splitR [] (Frm [] w) 2 (.bool (decide (checkF l))) ?_ ?_
  · refine VC.region ?_
    refine Ops.r (Run.mv rfl) rfl ?_
    refine Ops.r (Run.bin rfl rfl (Bin.eqlN _ 0)) rfl ?_
    by_cases hs11 : k = 0
    · skip
      refine Ops.r (Run.mv rfl) rfl ?_
      refine Ops.rg rfl (by first | rfl | assumption | exact decide_eq_true (by assumption) | exact decide_eq_false (by assumption) | decide | (simp; done) | (simp; omega) | (simp [*]; done)) (Run.mv rfl) rfl ?_
      refine Ops.rg rfl (by first | rfl | assumption | exact decide_eq_true (by assumption) | exact decide_eq_false (by assumption) | decide | (simp; done) | (simp; omega) | (simp [*]; done)) (Run.mv rfl) rfl ?_
      refine Ops.clg rfl (by first | rfl | assumption | exact decide_eq_true (by assumption) | exact decide_eq_false (by assumption) | decide | (simp; done) | (simp; omega) | (simp [*]; done)) (Enters.fn (evs.cons rfl (evs.cons rfl evs.nil)) Try.call42) (equal_spec B A d c0 r l _ ho1.rd hr1 (by omega) (by omega)) rfl ?_
      rintro e w2 ⟨rfl, hd2⟩
      refine ⟨_, rfl, ?_⟩
      by_cases hs15 : r = l
      · skip
        refine Ops.r (Run.pickT rfl rfl (by first | rfl | assumption | exact decide_eq_true (by assumption) | exact decide_eq_false (by assumption) | decide | (simp; done) | (simp; omega) | (simp [*]; done))) rfl ?_
        refine Ops.r (Run.asg rfl) rfl ?_
        refine Ops.nil ?_
        refine thenQ_n ⟨(.cons (congrArg (fun b => some (Value.bool b)) (Eq.symm (by simp [hck, *]))) .nil), (by first | exact hf1.drawn hd2 | exact hf1)⟩
      · skip
        refine Ops.r (Run.pickT rfl rfl (by first | rfl | assumption | exact decide_eq_true (by assumption) | exact decide_eq_false (by assumption) | decide | (simp; done) | (simp; omega) | (simp [*]; done))) rfl ?_
        refine Ops.r (Run.asg rfl) rfl ?_
        refine Ops.nil ?_
        refine thenQ_n ⟨(.cons (congrArg (fun b => some (Value.bool b)) (Eq.symm (by simp [hck, *]))) .nil), (by first | exact hf1.drawn hd2 | exact hf1)⟩
    · skip
      refine Ops.r (Run.mv rfl) rfl ?_
      refine Ops.sk rfl (by first | rfl | assumption | exact decide_eq_true (by assumption) | exact decide_eq_false (by assumption) | decide | (simp; done) | (simp; omega) | (simp [*]; done)) rfl ?_
      refine Ops.sk rfl (by first | rfl | assumption | exact decide_eq_true (by assumption) | exact decide_eq_false (by assumption) | decide | (simp; done) | (simp; omega) | (simp [*]; done)) rfl ?_
      refine Ops.sk rfl (by first | rfl | assumption | exact decide_eq_true (by assumption) | exact decide_eq_false (by assumption) | decide | (simp; done) | (simp; omega) | (simp [*]; done)) rfl ?_
      refine Ops.r (Run.pickF rfl rfl (by first | rfl | assumption | exact decide_eq_true (by assumption) | exact decide_eq_false (by assumption) | decide | (simp; done) | (simp; omega) | (simp [*]; done))) rfl ?_
      refine Ops.r (Run.asg rfl) rfl ?_
      refine Ops.nil ?_
      refine thenQ_n ⟨(.cons (congrArg (fun b => some (Value.bool b)) (Eq.symm (by simp [hck, *]))) .nil), (by first | exact hf1.drawn hd2 | exact hf1)⟩
  · intro Γ wR hΓ hR
    refine thenQ_n (VC.sub _ hΓ ?_)
    refine VC.ret ?_
    refine end1 rfl ?_
    exact ⟨rfl, hR⟩

/-- Is a flag in a set? -/
def hasF (l : List Tx) (q : Tx) : Prop := ∃ t, toldF q = some t ∧ t ∈ l
theorem hasF_iff (l : List Tx) (q : Tx) : hasF l q ↔ (toldV q).2 = 0 ∧ (toldV q).1 ∈ l := by
  unfold hasF
  rcases told_cases q with ⟨t, h1, h2⟩ | ⟨h1, h2⟩ <;> rw [h1, h2] <;> simp
instance (l : List Tx) (q : Tx) : Decidable (hasF l q) := decidable_of_iff _ (hasF_iff l q).symm

set_option maxRecDepth 100000 in
theorem fhas_spec (A : Option Addr) (c0 : Nat) (l : List Tx) (q : Tx) (w : World) (hn : l.length ≤ 1000000) (hq : q.length ≤ 1000000) (hr : Rd w 1 A l.length (SB l)) :
    Calls Try.prog 45 #[.slice A l.length c0, encStr q] w fun e w' => e = .returned (.bool (decide (hasF l q))) ∧ Frm [] w w' := by
  refine VC.calls (nt := 19) (res := #[.tmp 4]) Try.func45 rfl Try.ntmps45 Try.results45 rfl ?_
  refine VC.seq ?_
  refine VC.region ?_
  refine Ops.r (Run.asg rfl) rfl ?_
  refine Ops.nil ?_
  refine thenQ_n ?_
  refine VC.sub [(0, _), (1, _)] (.cons rfl (.cons rfl .nil)) ?_
  refine VC.seq ?_
  refine VC.region ?_
  refine Ops.r (Run.mv rfl) rfl ?_
  refine Ops.cl (Enters.fn (evs.cons rfl evs.nil) Try.call54) (told_spec q _ hq) rfl ?_
  rintro e w1 ⟨rfl, hf1⟩
  refine ⟨_, rfl, ?_⟩
  have hr1 := hr.frm hf1 (by simp)
  have hit := hasF_iff l q
  refine Ops.r (Run.mv rfl) rfl ?_
  refine Ops.r (Run.extract rfl rfl) rfl ?_
  refine Ops.r (Run.extract rfl rfl) rfl ?_
  refine Ops.r (Run.asg rfl) rfl ?_
  refine Ops.r (Run.asg rfl) rfl ?_
  refine Ops.nil ?_
  refine thenQ_n ?_
  refine VC.sub [(0, _), (5, _), (6, _)] (.cons rfl (.cons rfl (.cons rfl .nil))) ?_
  refine VC.seq ?_
  refine VC.splitR [] (Frm [] w) 4 (.bool (decide (hasF l q))) ?_ ?_
  · refine VC.region ?_
    refine Ops.r (Run.mv rfl) rfl ?_
    refine Ops.r (Run.bin rfl rfl (Bin.eqlN _ 0)) rfl ?_
    by_cases hs13 : (toldV q).2 = 0
    · skip
      refine Ops.r (Run.mv rfl) rfl ?_
      refine Ops.rg rfl (by first | rfl | assumption | exact decide_eq_true (by assumption) | exact decide_eq_false (by assumption) | decide | (simp; done) | (simp; omega) | (simp [*]; done)) (Run.mv rfl) rfl ?_
      refine Ops.rg rfl (by first | rfl | assumption | exact decide_eq_true (by assumption) | exact decide_eq_false (by assumption) | decide | (simp; done) | (simp; omega) | (simp [*]; done)) (Run.mv rfl) rfl ?_
      refine Ops.clg rfl (by first | rfl | assumption | exact decide_eq_true (by assumption) | exact decide_eq_false (by assumption) | decide | (simp; done) | (simp; omega) | (simp [*]; done)) (Enters.fn (evs.cons rfl (evs.cons rfl evs.nil)) Try.call57) (contains_spec A c0 l (toldV q).1 _ hr1 (by omega)) rfl ?_
      rintro e _ ⟨rfl, rfl⟩
      refine ⟨_, rfl, ?_⟩
      by_cases hs17 : (toldV q).1 ∈ l
      · skip
        refine Ops.r (Run.pickT rfl rfl (by first | rfl | assumption | exact decide_eq_true (by assumption) | exact decide_eq_false (by assumption) | decide | (simp; done) | (simp; omega) | (simp [*]; done))) rfl ?_
        refine Ops.r (Run.asg rfl) rfl ?_
        refine Ops.nil ?_
        refine thenQ_n ⟨(.cons (congrArg (fun b => some (Value.bool b)) (Eq.symm (by simp [hit, *]))) .nil), (hf1)⟩
      · skip
        refine Ops.r (Run.pickT rfl rfl (by first | rfl | assumption | exact decide_eq_true (by assumption) | exact decide_eq_false (by assumption) | decide | (simp; done) | (simp; omega) | (simp [*]; done))) rfl ?_
        refine Ops.r (Run.asg rfl) rfl ?_
        refine Ops.nil ?_
        refine thenQ_n ⟨(.cons (congrArg (fun b => some (Value.bool b)) (Eq.symm (by simp [hit, *]))) .nil), (hf1)⟩
    · skip
      refine Ops.r (Run.mv rfl) rfl ?_
      refine Ops.sk rfl (by first | rfl | assumption | exact decide_eq_true (by assumption) | exact decide_eq_false (by assumption) | decide | (simp; done) | (simp; omega) | (simp [*]; done)) rfl ?_
      refine Ops.sk rfl (by first | rfl | assumption | exact decide_eq_true (by assumption) | exact decide_eq_false (by assumption) | decide | (simp; done) | (simp; omega) | (simp [*]; done)) rfl ?_
      refine Ops.sk rfl (by first | rfl | assumption | exact decide_eq_true (by assumption) | exact decide_eq_false (by assumption) | decide | (simp; done) | (simp; omega) | (simp [*]; done)) rfl ?_
      refine Ops.r (Run.pickF rfl rfl (by first | rfl | assumption | exact decide_eq_true (by assumption) | exact decide_eq_false (by assumption) | decide | (simp; done) | (simp; omega) | (simp [*]; done))) rfl ?_
      refine Ops.r (Run.asg rfl) rfl ?_
      refine Ops.nil ?_
      refine thenQ_n ⟨(.cons (congrArg (fun b => some (Value.bool b)) (Eq.symm (by simp [hit, *]))) .nil), (hf1)⟩
  · intro Γ wR hΓ hR
    refine thenQ_n (VC.sub _ hΓ ?_)
    refine VC.ret ?_
    refine end1 rfl ?_
    exact ⟨rfl, hR⟩

set_option maxRecDepth 100000 in
theorem changeC_spec (g c : Nat) (A : Option Addr) (ts : List Tx) (q : Tx) (w : World) (hn : ts.length ≤ 1000000) (hb : Blk w g 43 #[.slice A ts.length c]) (hr : Rd w 1 A ts.length (SB ts)) :
    Calls Try.prog 56 #[encStr q, .pointer (some ⟨g, 0, none⟩)] w fun e w' => e = .returned (.bool (decide (q ∈ ts))) ∧ w = w' := by
  refine VC.calls (nt := 7) (res := #[.tmp 3]) Try.func56 rfl Try.ntmps56 Try.results56 rfl ?_
  refine VC.seq ?_
  refine VC.region ?_
  refine Ops.r (Run.asg rfl) rfl ?_
  refine Ops.nil ?_
  refine thenQ_n ?_
  refine VC.sub [(0, _), (1, _)] (.cons rfl (.cons rfl .nil)) ?_
  refine VC.seq ?_
  refine VC.region ?_
  refine Ops.r (Run.load rfl Try.isAgg43 (hb.cell 0)) rfl ?_
  refine Ops.r (Run.mv rfl) rfl ?_
  refine Ops.cl (Enters.fn (evs.cons rfl (evs.cons rfl evs.nil)) Try.call57) (contains_spec A c ts q _ hr (by omega)) rfl ?_
  rintro e _ ⟨rfl, rfl⟩
  refine ⟨_, rfl, ?_⟩
  refine Ops.r (Run.asg rfl) rfl ?_
  refine Ops.nil ?_
  refine thenQ_n ?_
  refine VC.sub [(3, _)] (.cons rfl .nil) ?_
  refine VC.ret ?_
  refine end1 rfl ?_
  exact ⟨rfl, rfl⟩

end Go.Proofs.Ytmfglifjnoilnaa

/-
  The walk of flag: a set with others, or without.
-/
namespace Go.Proofs.Ytmfglifjnoilnaa
open Go.RowKit Go.Sort

theorem one_enc : OneCell encStr := fun _ => rfl
/-- Thinned out. -/
theorem deletef_spec (g gt c d : Nat) (A : Option Addr) (ts zs : List Tx) (w : World) (hn : ts.length ≤ 1000000) (hz : zs.length ≤ 1000000) (hb : Blk w gt 43 #[.slice A ts.length c]) (hr : Rd w 1 A ts.length (SB ts))
    (ho : Own w 9 1 (some ⟨g, 0, none⟩) zs.length d (SB zs)) (hg : g ≠ gt) (hgA : ∀ x ∈ ob A, x ≠ g) :
    Calls Try.prog 55 #[.slice (some ⟨g, 0, none⟩) zs.length d, .func (.func 56) #[] #[.pointer (some ⟨gt, 0, none⟩)]] w fun e w' =>
      e = .returned (.slice (some ⟨g, 0, none⟩) (zs.filter (fun x => !decide (x ∈ ts))).length d) ∧ Own w' 9 1 (some ⟨g, 0, none⟩) (zs.filter (fun x => !decide (x ∈ ts))).length d (SB (zs.filter (fun x => !decide (x ∈ ts)))) ∧ Frm [g] w w' := by
  obtain ⟨h1, h2⟩ := ho.holds
  have gives : ∀ W x, Frm [g] w W → FnGives Try.prog 56 #[.pointer (some ⟨gt, 0, none⟩)] #[encStr x] (.bool (decide (x ∈ ts))) W := by
    intro W x hf
    exact (changeC_spec gt c A ts x W hn (hb.frm hf (by simp; exact hg.symm)) (hr.frm hf (fun _ y hy => by simp; exact hgA y hy))).mono fun e w' ⟨he, hw⟩ => ⟨he, 0, by rw [← hw]; rfl⟩
  refine (Try.slices_DeleteFunc encStr one_enc (fun x => decide (x ∈ ts)) 56 #[.pointer (some ⟨gt, 0, none⟩)] Try.call56 [] zero9 g 0 d zs.toArray w ?_ ?_ h1 (by simp; omega) (by simpa using ho.le)).mono fun e w' ⟨he, m, hw⟩ => ?_
  · intro W x hbl
    exact gives W x ((Frm.of_below hbl).mono (by simp))
  · intro m os dk x hdk
    refine gives _ x ?_
    have := Frm.grown (grownBy_sorted (w := w) (g := g) (n := m) (os := os) dk)
    simpa [sortWorld] using this
  · have hle : (zs.filter (fun x => !decide (x ∈ ts))).length ≤ zs.length := List.length_filter_le _ _
    obtain ⟨h3, h4⟩ := ho.put (m := m) (os := #[]) (ts := zs.filter (fun x => !decide (x ∈ ts)) ++ List.replicate (zs.length - (zs.filter (fun x => !decide (x ∈ ts))).length) []) (by rw [List.length_append, List.length_replicate]; omega)
    have hgw : grow (putRow encStr (Sort.ahead w m) g 0 (zs.filter (fun x => !decide (x ∈ ts)) ++ List.replicate (zs.length - (zs.filter (fun x => !decide (x ∈ ts))).length) []).toArray) #[] = w' := by rw [hw, grow_nil]; rfl
    rw [hgw] at h3 h4
    refine ⟨he, ?_, h4⟩
    have h5 := h3.short (k := (zs.filter (fun x => !decide (x ∈ ts))).length) hle
    rw [SB_append, Nat.mul_one, List.take_append_of_le_length (by rw [SB_len]; exact Nat.le_refl _), List.take_of_length_le (by rw [SB_len]; exact Nat.le_refl _)] at h5
    exact h5

set_option maxRecDepth 100000 in
theorem deletef_none (A : Option Addr) (d : Nat) (f : Value) (w : World) : Calls Try.prog 55 #[.slice A 0 d, f] w fun e w' => e = .returned (.slice A 0 d) ∧ w = w' := by
  refine VC.calls (nt := 42) (res := #[.tmp 4]) Try.func55 rfl Try.ntmps55 Try.results55 rfl ?_
  refine VC.seq ?_
  refine VC.region ?_
  refine Ops.r (Run.asg rfl) rfl ?_
  refine Ops.nil ?_
  refine thenQ_n ?_
  refine VC.sub [(0, _), (1, _)] (.cons rfl (.cons rfl .nil)) ?_
  refine VC.seq ?_
  refine VC.region ?_
  refine Ops.r (Run.mv rfl) rfl ?_
  refine Ops.r (Run.mv rfl) rfl ?_
  refine Ops.cl (Enters.fn (evs.cons rfl (evs.cons rfl evs.nil)) Try.call75) (Try.slices_IndexFunc_empty (α := Tx) A d f w) rfl ?_
  rintro e w0 ⟨rfl, hw0⟩
  obtain rfl : w = w0 := hw0.symm
  refine ⟨_, rfl, ?_⟩
  refine Ops.r (Run.asg rfl) rfl ?_
  refine Ops.nil ?_
  refine thenQ_n ?_
  refine VC.sub [(0, _), (1, _), (5, _)] (.cons rfl (.cons rfl (.cons rfl .nil))) ?_
  refine VC.seq ?_
  refine VC.seq ?_
  refine VC.region ?_
  refine Ops.r (Run.mv rfl) rfl ?_
  refine Ops.r (Run.bin rfl rfl (Bin.eql _ (-1))) rfl ?_
  refine Ops.nil ?_
  refine thenQ_n ?_
  refine VC.sub [(0, _), (1, _), (5, _), (12, _)] (.cons rfl (.cons rfl (.cons rfl (.cons rfl .nil)))) ?_
  refine VC.condT rfl (rfl) ?_
  refine VC.seq ?_
  refine VC.region ?_
  refine Ops.r (Run.mv rfl) rfl ?_
  refine Ops.r (Run.asg rfl) rfl ?_
  refine Ops.nil ?_
  refine thenQ_n ?_
  refine VC.sub [(4, _)] (.cons rfl .nil) ?_
  refine VC.ret ?_
  refine thenQ_r (end1 rfl ?_)
  exact ⟨rfl, rfl⟩

theorem filter_len {l ts : List Tx} : (l.filter (fun x => !decide (x ∈ ts))).length ≤ l.length := List.length_filter_le _ _
/-- What is told behind the kinds of change. -/
def allF (op : Int) (l ts : List Tx) : List Tx := if op = 1 then ts ++ l else if op = 2 then l.filter (fun x => !decide (x ∈ ts)) else ts
theorem allF_facts {op : Int} {l ts : List Tx} (hl : l.length ≤ 16 ∧ ∀ s ∈ l, toldF s = some s) (ht : ts.length ≤ 1000000) (htt : ∀ t ∈ ts, toldF t = some t) : (allF op l ts).length ≤ ts.length + 16 ∧ ∀ q ∈ allF op l ts, q.length ≤ 20 := by
  have key : ∀ q : Tx, toldF q = some q → q.length ≤ 20 := fun q h => (toldF_len h).2
  unfold allF
  split
  · refine ⟨by rw [List.length_append]; omega, fun q hq => ?_⟩
    rcases List.mem_append.1 hq with h | h
    · exact key q (htt q h)
    · exact key q (hl.2 q h)
  split
  · refine ⟨by have := filter_len (l := l) (ts := ts); omega, fun q hq => key q (hl.2 q (List.mem_filter.1 hq).1)⟩
  · exact ⟨by omega, fun q hq => key q (htt q hq)⟩

theorem delD_spec {g8 d dd : Nat} {C D : Option Addr} {ts l : List Tx} {w0 w : World} (hb : Blk w g8 43 #[.slice C ts.length d]) (ho : Own w 9 1 C ts.length d (SB ts)) (hD : Own w 9 1 D l.length dd (SB l)) (h1 : ts.length ≤ 1000000) (h2 : l.length ≤ 1000000)
    (hC : ∀ x ∈ ob C, x < w0.heap.size) (hg : g8 < w0.heap.size) (hDg : ∀ x ∈ ob D, w0.heap.size ≤ x) :
    Calls Try.prog 55 #[.slice D l.length dd, .func (.func 56) #[] #[.pointer (some ⟨g8, 0, none⟩)]] w fun e w' =>
      e = .returned (.slice D (l.filter (fun x => !decide (x ∈ ts))).length dd) ∧ Own w' 9 1 D (l.filter (fun x => !decide (x ∈ ts))).length dd (SB (l.filter (fun x => !decide (x ∈ ts)))) ∧ Frm (ob D) w w' := by
  rcases hD.cases with ⟨rfl, h3, h4, h5⟩ | ⟨g, cur, rfl, _⟩
  · have : l = [] := List.eq_nil_of_length_eq_zero h3
    subst this
    exact (deletef_none none dd _ w).mono fun e w' ⟨he, hw⟩ => by subst hw; exact ⟨he, hD, Frm.refl _ _⟩
  · have hgg := hDg g (by simp [ob])
    exact deletef_spec g g8 d dd C ts l w h1 h2 hb ho.rd hD (by omega) (fun x hx => by have := hC x hx; omega)

set_option maxRecDepth 100000 in
theorem fchange_spec (A : Option Addr) (c0 : Nat) (l : List Tx) (op : Int) (B : Option Addr) (d0 : Nat) (more : List Tx) (w : World) (hn : l.length ≤ 1000000) (hq : ∀ q ∈ l, q.length ≤ 1000000) (hr : Rd w 1 A l.length (SB l))
    (hn2 : more.length ≤ 900000) (hq2 : ∀ q ∈ more, q.length ≤ 1000000) (hr2 : Rd w 1 B more.length (SB more)) :
    Calls Try.prog 38 #[.slice A l.length c0, .int .i64 op, .slice B more.length d0] w fun e w' => Frm [] w w' ∧ ∃ C d r k, IsN w w' e (changeF l op more) C d r k := by
  refine VC.calls (nt := 59) (res := #[.tmp 6, .tmp 7]) Try.func38 rfl Try.ntmps38 Try.results38 rfl ?_
  refine VC.seq ?_
  refine VC.region ?_
  refine Ops.r (Run.asg rfl) rfl ?_
  refine Ops.r (v := .int .i64 ((0 : Nat) : Int)) (Run.asg rfl) rfl ?_
  refine Ops.nil ?_
  refine thenQ_n ?_
  refine VC.sub [(0, _), (1, _), (2, _)] (.cons rfl (.cons rfl (.cons rfl .nil))) ?_
  refine VC.seq ?_
  refine VC.seq ?_
  refine VC.splitR [(0, .slice A l.length c0), (1, .int .i64 op), (2, .slice B more.length d0)] (Frm [] w) 23 (.bool (decide (¬ checkF l ∨ op < 0 ∨ 2 < op))) ?_ ?_
  · refine VC.region ?_
    refine Ops.r (Run.mv rfl) rfl ?_
    refine Ops.cl (Enters.fn (evs.cons rfl evs.nil) Try.call52) (fcheck_spec A c0 l _ hn hq hr) rfl ?_
    rintro e w1 ⟨rfl, hf1⟩
    refine ⟨_, rfl, ?_⟩
    by_cases hs14 : checkF l
    · skip
      refine Ops.r (Run.not rfl) rfl ?_
      refine Ops.r (Run.mv rfl) rfl ?_
      refine Ops.rg rfl (by first | rfl | assumption | exact decide_eq_true (by assumption) | exact decide_eq_false (by assumption) | decide | (simp; done) | (simp; omega) | (simp [*]; done)) (Run.mv rfl) rfl ?_
      refine Ops.rg rfl (by first | rfl | assumption | exact decide_eq_true (by assumption) | exact decide_eq_false (by assumption) | decide | (simp; done) | (simp; omega) | (simp [*]; done)) (Run.bin rfl rfl (Bin.lss _ 0)) rfl ?_
      by_cases hs18 : op < 0
      · skip
        refine Ops.r (Run.pickF rfl rfl (by first | rfl | assumption | exact decide_eq_true (by assumption) | exact decide_eq_false (by assumption) | decide | (simp; done) | (simp; omega) | (simp [*]; done))) rfl ?_
        refine Ops.r (Run.mv rfl) rfl ?_
        refine Ops.sk rfl (by first | rfl | assumption | exact decide_eq_true (by assumption) | exact decide_eq_false (by assumption) | decide | (simp; done) | (simp; omega) | (simp [*]; done)) rfl ?_
        refine Ops.sk rfl (by first | rfl | assumption | exact decide_eq_true (by assumption) | exact decide_eq_false (by assumption) | decide | (simp; done) | (simp; omega) | (simp [*]; done)) rfl ?_
        refine Ops.r (Run.pickT rfl rfl (by first | rfl | assumption | exact decide_eq_true (by assumption) | exact decide_eq_false (by assumption) | decide | (simp; done) | (simp; omega) | (simp [*]; done))) rfl ?_
        refine Ops.nil ?_
        refine thenQ_n ⟨(.cons (congrArg (fun b => some (Value.bool b)) (Eq.symm (by simp [*]))) (.cons rfl (.cons rfl (.cons rfl .nil)))), (hf1)⟩
      · skip
        refine Ops.r (Run.pickF rfl rfl (by first | rfl | assumption | exact decide_eq_true (by assumption) | exact decide_eq_false (by assumption) | decide | (simp; done) | (simp; omega) | (simp [*]; done))) rfl ?_
        refine Ops.r (Run.mv rfl) rfl ?_
        refine Ops.rg rfl (by first | rfl | assumption | exact decide_eq_true (by assumption) | exact decide_eq_false (by assumption) | decide | (simp; done) | (simp; omega) | (simp [*]; done)) (Run.mv rfl) rfl ?_
        refine Ops.rg rfl (by first | rfl | assumption | exact decide_eq_true (by assumption) | exact decide_eq_false (by assumption) | decide | (simp; done) | (simp; omega) | (simp [*]; done)) (Run.bin rfl rfl (Bin.gtr _ 2)) rfl ?_
        by_cases hs22 : 2 < op
        · skip
          refine Ops.r (Run.pickF rfl rfl (by first | rfl | assumption | exact decide_eq_true (by assumption) | exact decide_eq_false (by assumption) | decide | (simp; done) | (simp; omega) | (simp [*]; done))) rfl ?_
          refine Ops.nil ?_
          refine thenQ_n ⟨(.cons (congrArg (fun b => some (Value.bool b)) (Eq.symm (by simp [*]))) (.cons rfl (.cons rfl (.cons rfl .nil)))), (hf1)⟩
        · skip
          refine Ops.r (Run.pickF rfl rfl (by first | rfl | assumption | exact decide_eq_true (by assumption) | exact decide_eq_false (by assumption) | decide | (simp; done) | (simp; omega) | (simp [*]; done))) rfl ?_
          refine Ops.nil ?_
          refine thenQ_n ⟨(.cons (congrArg (fun b => some (Value.bool b)) (Eq.symm (by simp [*]))) (.cons rfl (.cons rfl (.cons rfl .nil)))), (hf1)⟩
    · skip
      refine Ops.r (Run.not rfl) rfl ?_
      refine Ops.r (Run.mv rfl) rfl ?_
      refine Ops.sk rfl (by first | rfl | assumption | exact decide_eq_true (by assumption) | exact decide_eq_false (by assumption) | decide | (simp; done) | (simp; omega) | (simp [*]; done)) rfl ?_
      refine Ops.sk rfl (by first | rfl | assumption | exact decide_eq_true (by assumption) | exact decide_eq_false (by assumption) | decide | (simp; done) | (simp; omega) | (simp [*]; done)) rfl ?_
      refine Ops.r (Run.pickT rfl rfl (by first | rfl | assumption | exact decide_eq_true (by assumption) | exact decide_eq_false (by assumption) | decide | (simp; done) | (simp; omega) | (simp [*]; done))) rfl ?_
      refine Ops.r (Run.mv rfl) rfl ?_
      refine Ops.sk rfl (by first | rfl | assumption | exact decide_eq_true (by assumption) | exact decide_eq_false (by assumption) | decide | (simp; done) | (simp; omega) | (simp [*]; done)) rfl ?_
      refine Ops.sk rfl (by first | rfl | assumption | exact decide_eq_true (by assumption) | exact decide_eq_false (by assumption) | decide | (simp; done) | (simp; omega) | (simp [*]; done)) rfl ?_
      refine Ops.r (Run.pickT rfl rfl (by first | rfl | assumption | exact decide_eq_true (by assumption) | exact decide_eq_false (by assumption) | decide | (simp; done) | (simp; omega) | (simp [*]; done))) rfl ?_
      refine Ops.nil ?_
      refine thenQ_n ⟨(.cons (congrArg (fun b => some (Value.bool b)) (Eq.symm (by simp [*]))) (.cons rfl (.cons rfl (.cons rfl .nil)))), (hf1)⟩
  · intro Γ w2 hΓ hf2
    refine thenQ_n (VC.sub _ hΓ ?_)
    refine VC.condD rfl (fun hc1 => ?_) (fun hc1 => ?_)
    · skip
      refine VC.seq ?_
      refine VC.region ?_
      refine Ops.r (Run.asg rfl) rfl ?_
      refine Ops.r (v := .int .i64 ((1 : Nat) : Int)) (Run.asg rfl) rfl ?_
      refine Ops.nil ?_
      refine thenQ_n ?_
      refine VC.sub [(6, _), (7, _)] (.cons rfl (.cons rfl .nil)) ?_
      refine VC.ret ?_
      refine thenQ_r (end2 rfl rfl ?_)
      exact ⟨hf2, none, 0, [], 1, rfl, Own.nil _ _ _, by simp [ob], .inr ⟨by decide, rfl, if_pos hc1⟩⟩
    · skip
      have hcl : checkF l := Classical.not_not.1 fun h => hc1 (.inl h)
      have hop1 : ¬ op < 0 := fun h => hc1 (.inr (.inl h))
      have hop2 : ¬ 2 < op := fun h => hc1 (.inr (.inr h))
      have hlf := checkF_facts hcl
      have hcf : changeF l op more = match toldL more with
          | none => .error 18
          | some ts => normF (allF op l ts) := if_neg hc1
      refine VC.skip ?_
      refine thenQ_n ?_
      refine VC.sub [(0, _), (1, _), (2, _)] (.cons rfl (.cons rfl (.cons rfl .nil))) ?_
      refine VC.seq ?_
      refine VC.region ?_
      refine Ops.m (Does.alloc zero43) rfl ?_
      rintro _ w3 ⟨rfl, hF3⟩
      have hb3 := hF3.blk
      have hfr3 := hf2.trans hF3.frm (by simp)
      have hge8 : w.heap.size ≤ w2.heap.size := hf2.size
      generalize hg8 : w2.heap.size = g8 at *
      refine Ops.nil ?_
      refine thenQ_n ?_
      refine VC.seq ?_
      refine VC.seq ?_
      refine VC.region ?_
      refine Ops.r (Run.mv rfl) rfl ?_
      refine Ops.r (Run.lenS rfl Try.underlying43) rfl ?_
      refine Ops.r (v := .int .i64 ((0 : Nat) : Int)) (Run.mv rfl) rfl ?_
      refine Ops.nil ?_
      refine thenQ_n ?_
      refine VC.sub [(0, _), (1, _), (8, _), (24, _), (25, _), (26, _)] (.cons rfl (.cons rfl (.cons rfl (.cons rfl (.cons rfl (.cons rfl .nil)))))) ?_
      refine VC.block ?_
      refine VC.loop (σ := Nat × Option Addr × Nat × List Tx) (fun s => [(0, .slice A l.length c0), (1, .int .i64 op), (8, .pointer (some ⟨g8, 0, none⟩)), (24, .slice B more.length d0), (25, .int .i64 ((more.length : Nat) : Int)), (26, .int .i64 ((s.1 : Nat) : Int))]) (fun s wr => s.1 ≤ more.length ∧ Blk wr g8 43 #[.slice s.2.1 s.2.2.2.length s.2.2.1] ∧ Own wr 9 1 s.2.1 s.2.2.2.length s.2.2.1 (SB s.2.2.2) ∧ (∀ x ∈ ob s.2.1, w.heap.size ≤ x) ∧ Frm [] w wr ∧ toldL (more.take s.1) = some s.2.2.2) (fun s => more.length - s.1) (0, none, 0, []) (.cons rfl (.cons rfl (.cons rfl (.cons rfl (.cons rfl (.cons rfl .nil)))))) ⟨by omega, hb3, Own.nil _ _ _, by simp [ob], hfr3, rfl⟩ ?_
      rintro ⟨i, C, d, ts⟩ wr ⟨hi, hb, hown, hge, hfr, htl⟩
      dsimp only at hi hb hown hge htl ⊢
      have htsl : ts.length = i := by rw [toldL_len htl]; simp; omega
      refine VC.seq ?_
      refine VC.region ?_
      refine Ops.r (Run.bin rfl rfl (Bin.lssN _ _)) rfl ?_
      refine Ops.nil ?_
      refine thenQ_n ?_
      refine VC.seq ?_
      refine VC.condD rfl (fun hc2 => ?_) (fun hc2 => ?_)
      · skip
        obtain ⟨ad, rfl, hcell⟩ := SB_at (hr2.frm hfr (by simp)) hc2
        refine VC.skip ?_
        refine thenQ_n ?_
        refine VC.sub [(0, _), (1, _), (8, _), (24, _), (25, _), (26, _)] (.cons rfl (.cons rfl (.cons rfl (.cons rfl (.cons rfl (.cons rfl .nil)))))) ?_
        refine VC.seq ?_
        refine VC.block ?_
        refine VC.seq ?_
        refine VC.region ?_
        refine Ops.r (Run.index1 i rfl rfl Try.underlying43 Try.sizeOf9 hc2) rfl ?_
        refine Ops.r (Run.load rfl Try.isAgg9 hcell) rfl ?_
        refine Ops.r (Run.asg rfl) rfl ?_
        refine Ops.nil ?_
        refine thenQ_n ?_
        refine VC.sub [(0, _), (1, _), (8, _), (10, _), (24, _), (25, _), (26, _)] (.cons rfl (.cons rfl (.cons rfl (.cons rfl (.cons rfl (.cons rfl (.cons rfl .nil))))))) ?_
        refine VC.seq ?_
        refine VC.region ?_
        refine Ops.r (Run.mv rfl) rfl ?_
        refine Ops.cl (Enters.fn (evs.cons rfl evs.nil) Try.call54) (told_spec more[i] _ (hq2 _ (List.getElem_mem hc2))) rfl ?_
        rintro e w4 ⟨rfl, hf4⟩
        refine ⟨_, rfl, ?_⟩
        have hfr4 := hfr.trans hf4 (by simp)
        have hown4 := hown.frm hf4 (by simp)
        have hb4 := hb.frm hf4 (by simp)
        have htc := told_cases more[i]
        generalize hq0 : more[i] = q at *
        refine Ops.r (Run.mv rfl) rfl ?_
        refine Ops.r (Run.extract rfl rfl) rfl ?_
        refine Ops.r (Run.extract rfl rfl) rfl ?_
        refine Ops.r (Run.asg rfl) rfl ?_
        refine Ops.r (Run.asg rfl) rfl ?_
        refine Ops.nil ?_
        refine thenQ_n ?_
        refine VC.sub [(0, _), (1, _), (8, _), (11, _), (12, _), (24, _), (25, _), (26, _)] (.cons rfl (.cons rfl (.cons rfl (.cons rfl (.cons rfl (.cons rfl (.cons rfl (.cons rfl .nil)))))))) ?_
        refine VC.seq ?_
        refine VC.seq ?_
        refine VC.region ?_
        refine Ops.r (Run.mv rfl) rfl ?_
        refine Ops.r (Run.bin rfl rfl (Bin.neqN _ 0)) rfl ?_
        refine Ops.nil ?_
        refine thenQ_n ?_
        refine VC.sub [(0, _), (1, _), (8, _), (11, _), (12, _), (24, _), (25, _), (26, _), (36, _)] (.cons rfl (.cons rfl (.cons rfl (.cons rfl (.cons rfl (.cons rfl (.cons rfl (.cons rfl (.cons rfl .nil))))))))) ?_
        refine VC.condD rfl (fun hc3 => ?_) (fun hc3 => ?_)
        · skip
          have ht0 : toldF q = none ∧ toldV q = ([], 18) := by
            rcases htc with ⟨t, _, h⟩ | h
            · rw [h] at hc3; exact absurd rfl hc3
            · exact h
          have hnf : changeF l op more = .error 18 := by
            rw [hcf, toldL_none (hq0 ▸ List.getElem_mem hc2) ht0.1]
          refine VC.seq ?_
          refine VC.region ?_
          refine Ops.r (Run.mv rfl) rfl ?_
          refine Ops.r (Run.asg rfl) rfl ?_
          refine Ops.r (Run.asg rfl) rfl ?_
          refine Ops.nil ?_
          refine thenQ_n ?_
          refine VC.sub [(6, _), (7, _)] (.cons rfl (.cons rfl .nil)) ?_
          refine VC.ret ?_
          refine thenQ_r (blockQ_r (thenQ_r (thenQ_r (blockQ_r (thenQ_r (end2 rfl rfl ?_))))))
          rw [ht0.2]
          exact ⟨hfr4, none, 0, [], 18, rfl, Own.nil _ _ _, by simp [ob], .inr ⟨by decide, rfl, hnf⟩⟩
        · skip
          obtain ⟨t, ht0, hv0⟩ : ∃ t, toldF q = some t ∧ toldV q = (t, 0) := by
            rcases htc with h | ⟨_, h⟩
            · exact h
            · rw [h] at hc3; exact absurd (by decide) hc3
          rw [hv0]
          refine VC.skip ?_
          refine thenQ_n ?_
          refine VC.sub [(0, _), (1, _), (8, _), (11, _), (24, _), (25, _), (26, _)] (.cons rfl (.cons rfl (.cons rfl (.cons rfl (.cons rfl (.cons rfl (.cons rfl .nil))))))) ?_
          refine VC.region ?_
          refine Ops.r (Run.load rfl Try.isAgg43 (hb4.cell 0)) rfl ?_
          refine Ops.r (Run.mv rfl) rfl ?_
          refine Ops.m (Does.buildS1 rfl Try.underlying43 Try.sizeOf9 zero9 (by decide) (by decide) rfl rfl) rfl ?_
          rintro _ w5 ⟨rfl, hF5⟩
          have hfr5 := hfr4.trans hF5.frm (by simp)
          have hown5 := hown4.frm hF5.frm (by simp)
          have hb5 := hb4.frm hF5.frm (by simp)
          refine Ops.m (Does.app rfl rfl Try.underlying43 (info9) rfl (by decide) hown5 (hrd1 hF5) (SB_one _) (by omega) (by omega)) rfl ?_
          rintro _ w6 ⟨A6, c6, rfl, hown6, hfr6, hob6⟩
          rw [← SB_append] at hown6
          have hb6 := hb5.frm hfr6 (hown5.ne_blk hb5 (by decide))
          have hge6 := up_app hge hob6 hfr5.size
          have hfr6' := hfr5.own hfr6 hge
          refine Ops.st (Acts.store rfl rfl Try.sizeOf43 hb6 rfl rfl) ?_
          rintro w7 ⟨hb7, hfr7, hs7⟩
          have hown7 := hown6.frm hfr7 (fun x hx => by simp; rintro rfl; exact hown6.ne_blk hb6 (by decide) hx)
          have hfr7' := hfr6'.own hfr7 (fun x hx => by simp at hx; omega)
          refine Ops.nil ?_
          refine blockQ_n (thenQ_n ?_)
          refine VC.sub [(0, _), (1, _), (8, _), (24, _), (25, _), (26, _)] (.cons rfl (.cons rfl (.cons rfl (.cons rfl (.cons rfl (.cons rfl .nil)))))) ?_
          refine VC.region ?_
          refine Ops.r (Run.bin rfl rfl (Bin.add_i64 _ 1 (by omega))) rfl ?_
          refine Ops.r (Run.mv rfl) rfl ?_
          refine Ops.nil ?_
          refine thenQ_n ⟨(i + 1, A6, c6, ts ++ [t]), (.cons rfl (.cons rfl (.cons rfl (.cons rfl (.cons rfl (.cons rfl .nil)))))), ?_, ?_⟩
          · skip
            exact ⟨hc2, by simpa using hb7, by simpa using hown7, hge6, hfr7', by rw [take_snoc hc2, toldL_snoc, htl, hq0, ht0]⟩
          · skip
            first | omega | (dsimp only; omega)
      · skip
        refine VC.exit ?_
        refine thenQ_x (thenQ_x (blockQ_x ?_))
        refine thenQ_n ?_
        refine VC.sub [(0, _), (1, _), (8, _)] (.cons rfl (.cons rfl (.cons rfl .nil))) ?_
        refine VC.seq ?_
        refine VC.seq ?_
        refine VC.region ?_
        refine Ops.r (Run.mv rfl) rfl ?_
        have him : i = more.length := by omega
        subst him
        rw [List.take_length] at htl
        have hcf2 : changeF l op more = normF (allF op l ts) := by rw [hcf, htl]
        have haf := allF_facts (op := op) ⟨hlf.2.1, hlf.2.2.2⟩ (by omega) (toldL_told htl)
        refine Ops.nil ?_
        refine thenQ_n ?_
        refine VC.sub [(0, _), (8, _), (43, _)] (.cons rfl (.cons rfl (.cons rfl .nil))) ?_
        refine VC.block ?_
        refine VC.seq ?_
        refine VC.region ?_
        refine Ops.r (Run.bin rfl rfl (Bin.eql _ 1)) rfl ?_
        refine Ops.r (Run.asg rfl) rfl ?_
        refine Ops.nil ?_
        refine thenQ_n ?_
        refine VC.sub [(0, _), (8, _), (43, _), (44, _)] (.cons rfl (.cons rfl (.cons rfl (.cons rfl .nil)))) ?_
        refine VC.meet (σ := Unit) (fun s => [(8, .pointer (some ⟨g8, 0, none⟩))]) (fun s wm => Frm [] w wm ∧ ∃ C2 d2, Blk wm g8 43 #[.slice C2 (allF op l ts).length d2] ∧ Rd wm 1 C2 (allF op l ts).length (SB (allF op l ts))) ?_ ?_
        · skip
          refine VC.condD rfl (fun hc4 => ?_) (fun hc4 => ?_)
          · skip
            refine VC.region ?_
            refine Ops.r (Run.load rfl Try.isAgg43 (hb.cell 0)) rfl ?_
            refine Ops.r (Run.mv rfl) rfl ?_
            refine Ops.m (Does.app rfl rfl Try.underlying43 (info9) rfl (by decide) hown (hr.frm hfr (by simp)) (SB_one _) (by omega) (by omega)) rfl ?_
            rintro _ w6 ⟨A6, c6, rfl, hown6, hfr6, hob6⟩
            rw [← SB_append] at hown6
            have hb6 := hb.frm hfr6 (hown.ne_blk hb (by decide))
            have hfr6' := hfr.own hfr6 hge
            refine Ops.st (Acts.store rfl rfl Try.sizeOf43 hb6 rfl rfl) ?_
            rintro w7 ⟨hb7, hfr7, hs7⟩
            have hown7 := hown6.frm hfr7 (fun x hx => by simp; rintro rfl; exact hown6.ne_blk hb6 (by decide) hx)
            have hfr7' := hfr6'.own hfr7 (fun x hx => by simp at hx; omega)
            refine Ops.nil ?_
            refine thenQ_n ⟨(), (.cons rfl .nil), ?_⟩
            refine ⟨hfr7', A6, c6, ?_, ?_⟩
            · rw [show allF op l ts = ts ++ l from if_pos hc4, List.length_append]; simpa using hb7
            · rw [show allF op l ts = ts ++ l from if_pos hc4, List.length_append]; exact hown7.rd
          · skip
            refine VC.seq ?_
            refine VC.region ?_
            refine Ops.r (Run.bin rfl rfl (Bin.eql _ 2)) rfl ?_
            refine Ops.r (Run.asg rfl) rfl ?_
            refine Ops.nil ?_
            refine thenQ_n ?_
            refine VC.sub [(0, _), (8, _), (49, _)] (.cons rfl (.cons rfl (.cons rfl .nil))) ?_
            refine VC.condD rfl (fun hc5 => ?_) (fun hc5 => ?_)
            · skip
              refine VC.region ?_
              refine Ops.r (Run.mv rfl) rfl ?_
              refine Ops.cl (Enters.fn (evs.cons rfl evs.nil) Try.call53) (clone_spec A c0 l _ (hr.frm hfr (by simp)) (by omega)) rfl ?_
              rintro e w6 ⟨D, dd, rfl, hownD, hgeD, hf6⟩
              refine ⟨_, rfl, ?_⟩
              have hb6 := hb.frm hf6 (by simp)
              have hown6 := hown.frm hf6 (by simp)
              have hfr6 := hfr.trans hf6 (by simp)
              refine Ops.r (Run.mkFunc evs.nil (evs.cons rfl evs.nil)) rfl ?_
              refine Ops.cl (Enters.fn (evs.cons rfl (evs.cons rfl evs.nil)) Try.call55) (delD_spec hb6 hown6 hownD (by omega) (by omega) (fun x hx => hown.lt x hx) hb.lt hgeD) rfl ?_
              rintro e w7 ⟨rfl, hown7, hfr7⟩
              refine ⟨_, rfl, ?_⟩
              have hgeD' : ∀ x ∈ ob D, w.heap.size ≤ x := fun x hx => Nat.le_trans hfr.size (hgeD x hx)
              have hb7 := hb6.frm hfr7 (hownD.ne_blk hb6 (by decide))
              have hfr7' := hfr6.own hfr7 hgeD'
              refine Ops.st (Acts.store rfl rfl Try.sizeOf43 hb7 rfl rfl) ?_
              rintro w8 ⟨hb8, hfr8, hs8⟩
              have hown8 := hown7.frm hfr8 (fun x hx => by simp; rintro rfl; exact hown7.ne_blk hb7 (by decide) hx)
              have hfr8' := hfr7'.own hfr8 (fun x hx => by simp at hx; omega)
              refine Ops.nil ?_
              refine thenQ_n ⟨(), (.cons rfl .nil), ?_⟩
              have e : allF op l ts = l.filter (fun x => !decide (x ∈ ts)) := by unfold allF; rw [if_neg hc4, if_pos hc5]
              rw [e]
              exact ⟨hfr8', D, dd, by simpa using hb8, hown8.rd⟩
            · skip
              refine VC.skip ?_
              refine thenQ_n ⟨(), (.cons rfl .nil), ?_⟩
              have e : allF op l ts = ts := by unfold allF; rw [if_neg hc4, if_neg hc5]
              rw [e]
              exact ⟨hfr, C, d, hb, hown.rd⟩
        · skip
          rintro _ wm ⟨hfrm, C2, d2, hbm, hrm⟩ Γ hΓ
          refine blockQ_n (thenQ_n (VC.sub _ hΓ ?_))
          refine VC.seq ?_
          refine VC.region ?_
          refine Ops.r (Run.load rfl Try.isAgg43 (hbm.cell 0)) rfl ?_
          refine Ops.cl (Enters.fn (evs.cons rfl evs.nil) Try.call58) (fnorm_spec C2 d2 (allF op l ts) _ (by omega) (fun q hq => by have := haf.2 q hq; omega) hrm) rfl ?_
          rintro e w9 ⟨hf9, D9, d9, r9, k9, rfl, ho9, hge9, hN9⟩
          refine ⟨_, rfl, ?_⟩
          have hfr9 := hfrm.trans hf9 (by simp)
          refine Ops.r (Run.extract rfl rfl) rfl ?_
          refine Ops.r (Run.extract rfl rfl) rfl ?_
          refine Ops.r (Run.asg rfl) rfl ?_
          refine Ops.r (Run.asg rfl) rfl ?_
          refine Ops.nil ?_
          refine thenQ_n ?_
          refine VC.sub [(6, _), (7, _)] (.cons rfl (.cons rfl .nil)) ?_
          refine VC.ret ?_
          refine end2 rfl rfl ?_
          exact ⟨hfr9, D9, d9, r9, k9, rfl, ho9, fun x hx => Nat.le_trans hfrm.size (hge9 x hx), by rw [hcf2]; exact hN9⟩

end Go.Proofs.Ytmfglifjnoilnaa

