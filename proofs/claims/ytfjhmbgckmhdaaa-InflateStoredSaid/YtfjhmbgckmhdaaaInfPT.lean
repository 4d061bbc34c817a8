/-
  Inflating the first octets of some, or by a lesser bound: it comes to the same, or it is too short, or above the bound.
-/
import Derived.Test.YtfjhmbgckmhdaaaInfJ
namespace Go.Proofs.Ytfjhmbgckmhdaaa
open Go.RowKit

/-- X, of the first bits L' of L and by the lesser bound m' of m, is Y, or it is refused where Y goes beyond. -/
structure Sm {α : Type} (L' L : List Bool) (m' m : Nat) (pos len : α → Nat) (p o : Nat) (X Y : Except Nat α) : Prop where
  low : ∀ x, Y = .ok x → p ≤ pos x ∧ pos x ≤ L.length ∧ o ≤ len x
  sim : p ≤ L'.length → (X = Y ∧ ∀ x, Y = .ok x → pos x ≤ L'.length) ∨ (L' ≠ L ∧ X = .error 2 ∧ ∀ x, Y = .ok x → L'.length < pos x) ∨ (m' ≠ m ∧ X = .error 13 ∧ ∀ x, Y = .ok x → m' < len x)
section
variable {α β : Type} {L' L : List Bool} {m' m : Nat}
theorem Sm.err (k : Nat) (pos len : α → Nat) (p o : Nat) : Sm L' L m' m pos len p o (.error k) (.error k) := ⟨(by intro x h; cases h), fun _ => .inl ⟨rfl, by intro x h; cases h⟩⟩
theorem Sm.okk {pos len : α → Nat} {p o : Nat} {x : α} (h1 : p = pos x) (h2 : pos x ≤ L.length) (h3 : o ≤ len x) : Sm L' L m' m pos len p o (.ok x) (.ok x) :=
  ⟨fun y h => by injection h with h; subst h; exact ⟨by omega, h2, h3⟩, fun hp => .inl ⟨rfl, fun y h => by injection h with h; subst h; omega⟩⟩
theorem Sm.bind {pos len : α → Nat} {pos2 len2 : β → Nat} {p o : Nat} {X Y : Except Nat α} {f g : α → Except Nat β} (h : Sm L' L m' m pos len p o X Y)
    (hf : ∀ x, Y = .ok x → p ≤ pos x → pos x ≤ L.length → o ≤ len x → Sm L' L m' m pos2 len2 (pos x) (len x) (f x) (g x)) : Sm L' L m' m pos2 len2 p o (bnd X f) (bnd Y g) := by
  refine ⟨?_, fun hp => ?_⟩
  · intro y hy
    cases hY : Y with
    | error k => rw [hY] at hy; cases hy
    | ok x =>
      rw [hY, bnd_k] at hy
      obtain ⟨h1, h2, h3⟩ := h.low x hY
      obtain ⟨h4, h5, h6⟩ := (hf x hY h1 h2 h3).low y hy
      exact ⟨by omega, h5, by omega⟩
  · rcases h.sim hp with ⟨h1, h0⟩ | ⟨h1, h2, h3⟩ | ⟨h1, h2, h3⟩
    · subst h1
      cases hY : X with
      | error k => exact .inl ⟨rfl, by intro x h; cases h⟩
      | ok x =>
        obtain ⟨h1, h2, h3⟩ := h.low x hY
        exact (hf x hY h1 h2 h3).sim (h0 x hY)
    · subst h2
      refine .inr (.inl ⟨h1, rfl, fun y hy => ?_⟩)
      cases hY : Y with
      | error k => rw [hY] at hy; cases hy
      | ok x =>
        rw [hY, bnd_k] at hy
        obtain ⟨h4, h5, h6⟩ := h.low x hY
        have := (hf x hY h4 h5 h6).low y hy
        have := h3 x hY
        omega
    · subst h2
      refine .inr (.inr ⟨h1, rfl, fun y hy => ?_⟩)
      cases hY : Y with
      | error k => rw [hY] at hy; cases hy
      | ok x =>
        rw [hY, bnd_k] at hy
        obtain ⟨h4, h5, h6⟩ := h.low x hY
        have := (hf x hY h4 h5 h6).low y hy
        have := h3 x hY
        omega
end

section
variable {L' L : List Bool} {m' m : Nat}
theorem pre_ne {i : Nat} (h : L'.length < i) (h2 : i ≤ L.length) : L' ≠ L := fun e => by rw [e] at h; omega
theorem copyF_len' : ∀ n d (out : List Nat), (copyF n d out).length = out.length + n := by
  intro n
  induction n with
  | zero => intro d out; rfl
  | succ n ih => intro d out; unfold copyF; rw [ih]; simp; omega
/-- A bound that is passed by what would come out. -/
theorem Sm.bound {α : Type} {pos len : α → Nat} {p o a : Nat} {x : α} (hm : m' ≤ m) (h1 : p = pos x) (h2 : pos x ≤ L.length) (h3 : o ≤ len x) (h4 : len x = a) :
    Sm L' L m' m pos len p o (if m' < a then .error 13 else .ok x) (if m < a then .error 13 else .ok x) := by
  subst h4
  by_cases h : m' < len x
  · rw [if_pos h]
    by_cases h5 : m < len x
    · rw [if_pos h5]; exact .err ..
    · rw [if_neg h5]
      refine ⟨fun y hy => by injection hy with hy; subst hy; exact ⟨by omega, h2, h3⟩, fun _ => .inr (.inr ⟨by omega, rfl, fun y hy => by injection hy with hy; subst hy; exact h⟩)⟩
  · rw [if_neg h, if_neg (by omega)]; exact .okk h1 h2 h3
end
section
variable {L' L : List Bool} {m' m : Nat} (hL : L' <+: L)
include hL
theorem pre_get {i : Nat} (h : i < L'.length) : L'[i]? = L[i]? := by
  obtain ⟨M, rfl⟩ := hL
  rw [List.getElem?_append_left h]
theorem takeF_sm (n p o : Nat) : Sm L' L m' m (·.2) (fun _ => o) p o (takeF L' n p) (takeF L n p) := by
  refine ⟨fun x h => ?_, ?_⟩
  · obtain ⟨h1, h2, _, _⟩ := takeF_ok h
    exact ⟨by omega, by omega, Nat.le_refl _⟩
  · intro hp
    have hle := hL.length_le
    unfold takeF
    by_cases h : p + n ≤ L'.length
    · rw [if_pos h, if_pos (by omega)]
      obtain ⟨M, rfl⟩ := hL
      rw [List.drop_append_of_le_length (by omega), List.take_append_of_le_length (by simp; omega)]
      exact .inl ⟨rfl, fun x hx => by injection hx with hx; subst hx; exact h⟩
    · rw [if_neg h]
      by_cases h2 : p + n ≤ L.length
      · rw [if_pos h2]
        refine .inr (.inl ⟨pre_ne (i := p + n) (by omega) h2, rfl, fun x hx => ?_⟩)
        injection hx with hx
        subst hx
        show L'.length < p + n
        omega
      · rw [if_neg h2]; exact .inl ⟨rfl, by intro x h; cases h⟩
theorem tk_sm (l : List Int) : ∀ k n v p, p ≤ L'.length → tk l L' k n v p = tk l L k n v p ∨ ((tk l L' k n v p).2.2 = 2 ∧ L' ≠ L ∧ ((tk l L k n v p).2.2 = 0 → L'.length < (tk l L k n v p).2.1))
  | 0, n, v, p, _ => .inl rfl
  | k + 1, n, v, p, hp => by
    unfold tk
    by_cases h : p < L'.length
    · rw [pre_get hL h]
      cases hb : L[p]? with
      | none => exact .inl rfl
      | some b =>
        dsimp only
        cases hh : hit l n (2 * v + b.toNat) with
        | some i => exact .inl rfl
        | none => exact tk_sm l k (n + 1) _ (p + 1) (by omega)
    · rw [List.getElem?_eq_none (by omega)]
      cases hb : L[p]? with
      | none => exact .inl rfl
      | some b =>
        have hpl : p < L.length := (List.getElem?_eq_some_iff.1 hb).1
        refine .inr ⟨rfl, pre_ne (i := p + 1) (by omega) (by omega), ?_⟩
        dsimp only
        cases hh : hit l n (2 * v + b.toNat) with
        | some i => intro _; show L'.length < p + 1; omega
        | none =>
          dsimp only
          intro _
          have key : ∀ k n v q, q ≤ (tk l L k n v q).2.1 := by
            intro k
            induction k with
            | zero => intro n v q; exact Nat.le_refl _
            | succ k ih =>
              intro n v q
              unfold tk
              cases L[q]? with
              | none => exact Nat.le_refl _
              | some b =>
                dsimp only
                cases hit l n (2 * v + b.toNat) with
                | some i => exact Nat.le_succ _
                | none => dsimp only; have := ih (n + 1) (2 * v + b.toNat) (q + 1); omega
          have := key k (n + 1) (2 * v + b.toNat) (p + 1)
          omega
theorem symF_sm (l : List Int) (p o : Nat) (hm : mostC l ≤ 15) (hp : p ≤ L.length) : Sm L' L m' m (·.2) (fun _ => o) p o (symF L' l p) (symF L l p) := by
  refine ⟨fun x h => ?_, ?_⟩
  · obtain ⟨s, q⟩ := x
    obtain ⟨h1, h2, _⟩ := symF_ok hm hp h
    exact ⟨by show p ≤ q; omega, h2, Nat.le_refl _⟩
  · intro hpl
    rcases tk_sm hL l (mostC l) 1 0 p hpl with h | ⟨h, hne, h2⟩
    · have e : symF L' l p = symF L l p := by unfold symF; rw [h]
      exact .inl ⟨e, fun x hx => (symF_ok hm hpl (e.trans hx)).2.1⟩
    · unfold symF
      rw [if_neg (by omega), h]
      refine .inr (.inl ⟨hne, rfl, fun x hx => ?_⟩)
      split at hx
      · rename_i h0
        injection hx with hx
        subst hx
        exact h2 h0
      · cases hx
theorem tokenF_sm (a b : List Int) (p : Nat) (out : List Nat) (hm : m' ≤ m) (ha : mostC a ≤ 15) (hb : mostC b ≤ 15) (hp : p ≤ L.length) :
    Sm L' L m' m (·.2.1) (·.2.2.length) p out.length (tokenF L' a b m' p out) (tokenF L a b m p out) := by
  unfold tokenF
  refine (symF_sm hL a p out.length ha hp).bind fun x hx h1 h2 _ => ?_
  split
  · have e : ∀ n : Nat, (if out.length < n then (.ok (true, x.2, out ++ [x.1]) : Except Nat (Bool × Nat × List Nat)) else .error 13) = if n < out.length + 1 then .error 13 else .ok (true, x.2, out ++ [x.1]) := by
      intro n
      by_cases h : out.length < n
      · rw [if_pos h, if_neg (by omega)]
      · rw [if_neg h, if_pos (by omega)]
    rw [e, e]
    exact Sm.bound hm rfl h2 (by simp) (by simp)
  split
  · exact .okk rfl h2 (Nat.le_refl _)
  split
  · exact .err ..
  refine (takeF_sm hL _ _ out.length).bind fun v hv h3 h4 _ => ?_
  refine (symF_sm hL b _ out.length hb h4).bind fun y hy h5 h6 _ => ?_
  split
  · exact .err ..
  refine (takeF_sm hL _ _ out.length).bind fun u hu h7 h8 _ => ?_
  split
  · exact .err ..
  exact Sm.bound hm rfl h8 (by rw [copyF_len']; omega) (by rw [copyF_len'])
omit hL in
theorem tokensF_low {L : List Bool} {m : Nat} (a b : List Int) (ha : mostC a ≤ 15) (hb : mostC b ≤ 15) : ∀ f p out x, p ≤ L.length → tokensF L a b m f p out = .ok x → p ≤ x.1 ∧ x.1 ≤ L.length ∧ out.length ≤ x.2.length
  | 0, _, _, _, _, h => by cases h
  | f + 1, p, out, x, hp, h => by
    unfold tokensF at h
    rcases hT : tokenF L a b m p out with k | y
    · rw [hT] at h; cases h
    rw [hT, bnd_k] at h
    obtain ⟨h1, h2, h3⟩ := (tokenF_sm (L' := L) (List.prefix_rfl) a b p out (Nat.le_refl m) ha hb hp).low y hT
    split at h
    · obtain ⟨h4, h5, h6⟩ := tokensF_low a b ha hb f _ _ x h2 h
      exact ⟨by omega, h5, by omega⟩
    · simp only [Except.ok.injEq] at h
      rw [← h]
      exact ⟨h1, h2, h3⟩
theorem tokensF_sm (a b : List Int) (hm : m' ≤ m) (ha : mostC a ≤ 15) (hb : mostC b ≤ 15) : ∀ f' f p out, p ≤ L.length → L'.length < p + f' → L.length < p + f →
    Sm L' L m' m (·.1) (·.2.length) p out.length (tokensF L' a b m' f' p out) (tokensF L a b m f p out)
  | f', 0, p, out, hp, h1, h2 => by omega
  | 0, f + 1, p, out, hp, h1, h2 => by
    refine ⟨fun x hx => ?_, fun h3 => by omega⟩
    exact tokensF_low a b ha hb (f + 1) p out x hp hx
  | f' + 1, f + 1, p, out, hp, h1, h2 => by
    unfold tokensF
    refine (tokenF_sm hL a b p out hm ha hb hp).bind fun x hx h3 h4 h5 => ?_
    have h6 := (tokenF_lt ha hb hp hx).1
    split
    · exact tokensF_sm a b hm ha hb f' f _ _ h4 (by omega) (by omega)
    · exact .okk rfl h4 (Nat.le_refl _)
theorem moreF_sm (l : List Int) (p o : Nat) (all : List Int) (most : Nat) (hl : mostC l ≤ 15) (hp : p ≤ L.length) :
    Sm L' L m' m (·.1) (fun _ => o) p o (moreF L' l p all most) (moreF L l p all most) := by
  unfold moreF
  refine (symF_sm hL l p o hl hp).bind fun x hx h1 h2 _ => ?_
  refine Sm.bind (pos := (·.1)) (len := fun _ => o) ?_ fun y hy h3 h4 _ => ?_
  · split
    · split
      · exact .err ..
      · exact (takeF_sm hL _ _ o).bind fun v hv h3 h4 _ => .okk rfl h4 (Nat.le_refl _)
    split
    · exact (takeF_sm hL _ _ o).bind fun v hv h3 h4 _ => .okk rfl h4 (Nat.le_refl _)
    split
    · exact (takeF_sm hL _ _ o).bind fun v hv h3 h4 _ => .okk rfl h4 (Nat.le_refl _)
    · exact .okk rfl h2 (Nat.le_refl _)
  · split
    · exact .err ..
    · exact .okk rfl h4 (Nat.le_refl _)
theorem moresF_sm (l : List Int) (o : Nat) (most : Nat) (hl : mostC l ≤ 15) : ∀ f' f p all, p ≤ L.length → L'.length < p + f' → L.length < p + f →
    Sm L' L m' m (·.1) (fun _ => o) p o (moresF L' l most f' p all) (moresF L l most f p all)
  | f', 0, p, all, hp, h1, h2 => by omega
  | 0, f + 1, p, all, hp, h1, h2 => by
    refine ⟨fun x hx => ?_, fun h3 => by omega⟩
    have := moresF_le hl (f + 1) p all x hp hx
    exact ⟨this.1, this.2, Nat.le_refl _⟩
  | f' + 1, f + 1, p, all, hp, h1, h2 => by
    unfold moresF
    split
    · refine (moreF_sm hL l p o all most hl hp).bind fun x hx h3 h4 _ => ?_
      have h6 := (moreF_ok hl hp hx).1
      exact moresF_sm l o most hl f' f _ _ h4 (by omega) (by omega)
    · exact .okk rfl hp (Nat.le_refl _)
theorem thirdF_sm (o : Nat) : ∀ r p l, p ≤ L.length → Sm L' L m' m (·.1) (fun _ => o) p o (thirdF L' r p l) (thirdF L r p l)
  | [], p, l, hp => .okk rfl hp (Nat.le_refl _)
  | s :: r, p, l, hp => by
    unfold thirdF
    exact (takeF_sm hL _ _ o).bind fun v hv h3 h4 _ => thirdF_sm o r _ _ h4
theorem dynF_sm (p o : Nat) : Sm L' L m' m (·.1) (fun _ => o) p o (dynF L' p) (dynF L p) := by
  unfold dynF
  refine (takeF_sm hL _ _ o).bind fun x hx h1 h2 _ => ?_
  refine (takeF_sm hL _ _ o).bind fun y hy h3 h4 _ => ?_
  refine (takeF_sm hL _ _ o).bind fun z hz h5 h6 _ => ?_
  split
  · exact .err ..
  refine (thirdF_sm hL o _ _ _ h6).bind fun t ht h7 h8 _ => ?_
  unfold dynG
  split
  · exact .err ..
  rename_i hn
  refine (moresF_sm hL t.2 o _ (newE_good (by simpa using hn)).2 _ _ _ _ h8 (by omega) (by omega)).bind fun u hu h9 h10 _ => ?_
  unfold dynH
  split
  · exact .err ..
  split
  · exact .err ..
  split
  · exact .err ..
  exact .okk rfl h10 (Nat.le_refl _)
end

theorem ofB_pre {a b : List Nat} (h : a <+: b) : ofB a <+: ofB b := by
  obtain ⟨c, rfl⟩ := h
  rw [ofB_append]
  exact List.prefix_append ..
section
variable {bs' bs : List Nat} {m' m : Nat} (hb : bs' <+: bs) (hm : m' ≤ m)
include hb hm
theorem storedF_sm (p : Nat) (out : List Nat) : Sm (ofB bs') (ofB bs) m' m (·.1) (·.2.length) p out.length (storedF bs' m' p out) (storedF bs m p out) := by
  have hL := ofB_pre hb
  unfold storedF
  have hp0 : p ≤ (p + 7) / 8 * 8 := by omega
  have hT : Sm (ofB bs') (ofB bs) m' m (·.2) (fun _ => out.length) p out.length (takeF (ofB bs') 16 ((p + 7) / 8 * 8)) (takeF (ofB bs) 16 ((p + 7) / 8 * 8)) := by
    have h := takeF_sm (m' := m') (m := m) hL 16 ((p + 7) / 8 * 8) out.length
    refine ⟨fun x hx => ?_, fun hp => ?_⟩
    · have := h.low x hx
      exact ⟨by omega, this.2⟩
    · have h1 := ofB_len bs'
      exact h.sim (by omega)
  refine hT.bind fun x hx h1 h2 _ => ?_
  refine (takeF_sm hL _ _ out.length).bind fun y hy h3 h4 _ => ?_
  split
  · exact .err ..
  obtain ⟨M, rfl⟩ := hb
  have e1 := ofB_len bs'
  have e2 := ofB_len (bs' ++ M)
  have e3 : (bs' ++ M).length = bs'.length + M.length := List.length_append
  have h8 : y.2 % 8 = 0 := by
    obtain ⟨h5, _⟩ := takeF_ok hx
    obtain ⟨h6, _⟩ := takeF_ok hy
    omega
  have hlow : ∀ z, (if (8 * (bs' ++ M).length - y.2) / 8 < x.1 then (.error 2 : Except Nat (Nat × List Nat)) else if m < out.length + x.1 then .error 13 else .ok (y.2 + 8 * x.1, out ++ ((bs' ++ M).drop (y.2 / 8)).take x.1)) = .ok z → y.2 + 8 * x.1 = z.1 ∧ z.1 ≤ (ofB (bs' ++ M)).length ∧ z.2.length = out.length + x.1 := by
    intro z hz
    split at hz
    · cases hz
    split at hz
    · cases hz
    injection hz with hz
    subst hz
    exact ⟨rfl, by show y.2 + 8 * x.1 ≤ _; omega, by simp; omega⟩
  refine ⟨fun z hz => ?_, fun hp => ?_⟩
  · obtain ⟨h5, h6, h7⟩ := hlow z hz
    exact ⟨by omega, h6, by omega⟩
  · by_cases h5 : (8 * bs'.length - y.2) / 8 < x.1
    · rw [if_pos h5]
      by_cases h6 : M = []
      · subst h6
        simp only [List.append_nil]
        rw [if_pos h5]
        exact .inl ⟨rfl, by intro x h; cases h⟩
      · refine .inr (.inl ⟨fun e => ?_, rfl, fun z hz => ?_⟩)
        · have := congrArg List.length e
          rw [e1, e2] at this
          have : M.length ≠ 0 := by simpa using h6
          omega
        · have := hlow z hz
          omega
    · rw [if_neg h5, if_neg (show ¬ (8 * (bs' ++ M).length - y.2) / 8 < x.1 by omega)]
      have e4 : ((bs' ++ M).drop (y.2 / 8)).take x.1 = (bs'.drop (y.2 / 8)).take x.1 := by
        rw [List.drop_append_of_le_length (by omega), List.take_append_of_le_length (by simp; omega)]
      by_cases h6 : m' < out.length + x.1
      · rw [if_pos h6]
        by_cases h7 : m' = m
        · subst h7
          rw [if_pos h6]
          exact .inl ⟨rfl, by intro x h; cases h⟩
        · refine .inr (.inr ⟨h7, rfl, fun z hz => ?_⟩)
          split at hz
          · cases hz
          · injection hz with hz
            subst hz
            simp only [List.length_append, List.length_take, List.length_drop]
            omega
      · rw [if_neg h6, e4]
        by_cases h7 : m < out.length + x.1
        · omega
        · rw [if_neg h7]
          exact .inl ⟨rfl, fun z hz => by injection hz with hz; subst hz; show y.2 + 8 * x.1 ≤ _; omega⟩
theorem blockF_sm (p : Nat) (out : List Nat) : Sm (ofB bs') (ofB bs) m' m (·.2.1) (·.2.2.length) p out.length (blockF bs' m' p out) (blockF bs m p out) := by
  have hL := ofB_pre hb
  have e1 := ofB_len bs'
  have e2 := ofB_len bs
  unfold blockF
  refine (takeF_sm hL _ _ out.length).bind fun x hx h1 h2 _ => ?_
  refine (takeF_sm hL _ _ out.length).bind fun k hk h3 h4 _ => ?_
  split
  · exact .err ..
  refine Sm.bind (pos := (·.1)) (len := (·.2.length)) ?_ fun r hr h5 h6 h7 => .okk rfl h6 (Nat.le_refl _)
  split
  · exact storedF_sm hb hm _ _
  split
  · obtain ⟨_, _, h5, h6⟩ := fixed_good
    exact tokensF_sm hL _ _ hm (by omega) (by omega) _ _ _ _ h4 (by omega) (by omega)
  · refine (dynF_sm hL _ out.length).bind fun c hc h5 h6 _ => ?_
    obtain ⟨_, _, h7, h8⟩ := dynF_le h4 hc
    exact tokensF_sm hL _ _ hm (newE_good h7).2 (newE_good h8).2 _ _ _ _ h6 (by omega) (by omega)
theorem blocksF_sm : ∀ f' f p out, p ≤ 8 * bs.length → 8 * bs'.length < p + f' → 8 * bs.length < p + f →
    Sm (ofB bs') (ofB bs) m' m (·.1) (·.2.length) p out.length (blocksF bs' m' f' p out) (blocksF bs m f p out)
  | f', 0, p, out, hp, h1, h2 => by omega
  | 0, f + 1, p, out, hp, h1, h2 => by
    have e1 := ofB_len bs'
    refine ⟨fun x hx => ?_, fun h3 => by omega⟩
    have key : ∀ f p out x, p ≤ 8 * bs.length → blocksF bs m f p out = .ok x → p ≤ x.1 ∧ x.1 ≤ (ofB bs).length ∧ out.length ≤ x.2.length := by
      clear h1 h2 hx
      intro f
      induction f with
      | zero => intro p out x hp h; cases h
      | succ f ih =>
        intro p out x hp h
        unfold blocksF at h
        rcases hT : blockF bs m p out with k | y
        · rw [hT] at h; cases h
        rw [hT, bnd_k] at h
        obtain ⟨h1, h2, h3⟩ := (blockF_sm (m' := m') hb hm p out).low y hT
        split at h
        · have e2 := ofB_len bs
          obtain ⟨h4, h5, h6⟩ := ih _ _ x (by omega) h
          exact ⟨by omega, h5, by omega⟩
        · simp only [Except.ok.injEq] at h
          rw [← h]
          exact ⟨h1, h2, h3⟩
    exact key _ _ _ _ hp hx
  | f' + 1, f + 1, p, out, hp, h1, h2 => by
    have e2 := ofB_len bs
    unfold blocksF
    refine (blockF_sm hb hm p out).bind fun x hx h3 h4 h5 => ?_
    have h6 := blockF_lt hx
    split
    · exact blocksF_sm f' f _ _ (by omega) (by omega) (by omega)
    · exact .okk rfl h4 (Nat.le_refl _)
/-- Of the first octets, by the lesser bound: the same, or too short, or above the bound. -/
theorem inflF_pre : inflF bs' (m' : Int) = inflF bs (m : Int)
    ∨ (bs' ≠ bs ∧ inflF bs' (m' : Int) = .error 2 ∧ ∀ x, inflF bs (m : Int) = .ok x → bs'.length < x.2)
    ∨ (m' ≠ m ∧ inflF bs' (m' : Int) = .error 13 ∧ ∀ x, inflF bs (m : Int) = .ok x → m' < x.1.length) := by
  have h := blocksF_sm hb hm (8 * bs'.length + 1) (8 * bs.length + 1) 0 [] (by omega) (by omega) (by omega)
  unfold inflF
  rw [if_neg (by omega), if_neg (by omega)]
  simp only [Int.toNat_natCast]
  have e1 := ofB_len bs'
  rcases h.sim (Nat.zero_le _) with ⟨h1, _⟩ | ⟨h1, h2, h3⟩ | ⟨h1, h2, h3⟩
  · rw [h1]; exact .inl rfl
  · rw [h2]
    refine .inr (.inl ⟨fun e => h1 (by rw [e]), rfl, fun x hx => ?_⟩)
    cases hY : blocksF bs m (8 * bs.length + 1) 0 [] with
    | error k => rw [hY] at hx; cases hx
    | ok y =>
      rw [hY, bnd_k] at hx
      injection hx with hx
      subst hx
      have := h3 y hY
      show bs'.length < (y.1 + 7) / 8
      omega
  · rw [h2]
    refine .inr (.inr ⟨h1, rfl, fun x hx => ?_⟩)
    cases hY : blocksF bs m (8 * bs.length + 1) 0 [] with
    | error k => rw [hY] at hx; cases hx
    | ok y =>
      rw [hY, bnd_k] at hx
      injection hx with hx
      subst hx
      exact h3 y hY
end
theorem inflF_cut {bs : List Nat} {m m' k n : Nat} {x : List Nat} (h : inflF bs (m : Int) = .ok (x, n)) (hm : m' ≤ m) (hl : x.length ≤ m') (hn : n ≤ (bs.take k).length) : inflF (bs.take k) (m' : Int) = .ok (x, n) := by
  rcases inflF_pre (List.take_prefix k bs) hm with h1 | ⟨_, _, h1⟩ | ⟨_, _, h1⟩
  · rw [h1, h]
  · have := h1 _ h; dsimp only at this; omega
  · have := h1 _ h; dsimp only at this; omega
theorem inflF_ext {bs c : List Nat} {m : Nat} {x : List Nat × Nat} (h : inflF bs (m : Int) = .ok x) : inflF (bs ++ c) (m : Int) = .ok x := by
  rcases inflF_pre (List.prefix_append bs c) (Nat.le_refl m) with h1 | ⟨_, h1, _⟩ | ⟨_, h1, _⟩
  · rw [← h1, h]
  · rw [h] at h1; cases h1
  · rw [h] at h1; cases h1
theorem inflF_up {bs : List Nat} {m m' : Nat} (hm : m ≤ m') : inflF bs (m : Int) = inflF bs (m' : Int) ∨ inflF bs (m : Int) = .error 13 := by
  rcases inflF_pre (List.prefix_refl bs) hm with h1 | ⟨h1, _⟩ | ⟨_, h1, _⟩
  · exact .inl h1
  · exact absurd rfl h1
  · exact .inr h1
theorem inflF_few {bs : List Nat} {m k : Nat} : inflF (bs.take k) (m : Int) = inflF bs (m : Int) ∨ (inflF (bs.take k) (m : Int) = .error 2 ∧ ∀ x, inflF bs (m : Int) = .ok x → (bs.take k).length < x.2) := by
  rcases inflF_pre (List.take_prefix k bs) (Nat.le_refl m) with h1 | ⟨_, h1, h2⟩ | ⟨h1, _⟩
  · exact .inl h1
  · exact .inr ⟨h1, h2⟩
  · exact absurd rfl h1
/-- No error is nought. -/
structure NZ {α : Type} (X : Except Nat α) : Prop where
  ne : X ≠ .error 0
theorem NZ.bnd {α β : Type} {X : Except Nat α} {f : α → Except Nat β} (h : NZ X) (hf : ∀ x, NZ (f x)) : NZ (bnd X f) := by
  cases X with
  | error k => exact ⟨fun e => h.ne (by injection e with e; rw [e])⟩
  | ok x => exact hf x
theorem NZ.ok {α : Type} (x : α) : NZ (.ok x : Except Nat α) := ⟨by intro h; cases h⟩
theorem NZ.er {α : Type} (k : Nat) : NZ (.error (k + 1) : Except Nat α) := ⟨by intro h; injection h with h; cases h⟩
theorem takeF_nz (L : List Bool) (n p : Nat) : NZ (takeF L n p) := by
  unfold takeF; split
  · exact .ok _
  · exact .er 1
theorem symF_nz (L : List Bool) (l : List Int) (p : Nat) : NZ (symF L l p) := by
  unfold symF; split
  · exact .ok _
  · rename_i h; exact ⟨fun e => by injection e with e; exact h e⟩
theorem tokenF_nz (L : List Bool) (a b : List Int) (most p : Nat) (out : List Nat) : NZ (tokenF L a b most p out) := by
  unfold tokenF
  refine (symF_nz ..).bnd fun x => ?_
  split
  · split
    · exact .ok _
    · exact .er 12
  split
  · exact .ok _
  split
  · exact .er 10
  refine (takeF_nz ..).bnd fun v => (symF_nz ..).bnd fun y => ?_
  split
  · exact .er 10
  refine (takeF_nz ..).bnd fun u => ?_
  split
  · exact .er 11
  split
  · exact .er 12
  · exact .ok _
theorem tokensF_nz (L : List Bool) (a b : List Int) (most : Nat) : ∀ f p out, NZ (tokensF L a b most f p out)
  | 0, _, _ => .er 98
  | f + 1, p, out => by
    unfold tokensF
    refine (tokenF_nz ..).bnd fun x => ?_
    split
    · exact tokensF_nz L a b most f _ _
    · exact .ok _
theorem moreF_nz (L : List Bool) (l : List Int) (p : Nat) (all : List Int) (most : Nat) : NZ (moreF L l p all most) := by
  unfold moreF
  refine (symF_nz ..).bnd fun x => NZ.bnd ?_ fun y => ?_
  · split
    · split
      · exact .er 10
      · exact (takeF_nz ..).bnd fun v => .ok _
    split
    · exact (takeF_nz ..).bnd fun v => .ok _
    split
    · exact (takeF_nz ..).bnd fun v => .ok _
    · exact .ok _
  · split
    · exact .er 10
    · exact .ok _
theorem moresF_nz (L : List Bool) (l : List Int) (most : Nat) : ∀ f p all, NZ (moresF L l most f p all)
  | 0, _, _ => .er 98
  | f + 1, p, all => by
    unfold moresF
    split
    · exact (moreF_nz ..).bnd fun x => moresF_nz L l most f _ _
    · exact .ok _
theorem thirdF_nz (L : List Bool) : ∀ r p l, NZ (thirdF L r p l)
  | [], _, _ => .ok _
  | s :: r, p, l => by
    unfold thirdF
    exact (takeF_nz ..).bnd fun v => thirdF_nz L r _ _
theorem dynF_nz (L : List Bool) (p : Nat) : NZ (dynF L p) := by
  unfold dynF
  refine (takeF_nz ..).bnd fun x => (takeF_nz ..).bnd fun y => (takeF_nz ..).bnd fun z => ?_
  split
  · exact .er 2
  refine (thirdF_nz ..).bnd fun t => ?_
  unfold dynG
  split
  · exact .er 10
  refine (moresF_nz ..).bnd fun u => ?_
  unfold dynH
  split
  · exact .er 10
  split
  · exact .er 10
  split
  · exact .er 10
  exact .ok _
theorem storedF_nz (bs : List Nat) (most p : Nat) (out : List Nat) : NZ (storedF bs most p out) := by
  unfold storedF
  refine (takeF_nz ..).bnd fun x => (takeF_nz ..).bnd fun y => ?_
  split
  · exact .er 2
  split
  · exact .er 1
  split
  · exact .er 12
  exact .ok _
theorem blockF_nz (bs : List Nat) (most p : Nat) (out : List Nat) : NZ (blockF bs most p out) := by
  unfold blockF
  refine (takeF_nz ..).bnd fun x => (takeF_nz ..).bnd fun k => ?_
  split
  · exact .er 2
  refine NZ.bnd ?_ fun r => .ok _
  split
  · exact storedF_nz ..
  split
  · exact tokensF_nz ..
  · exact (dynF_nz ..).bnd fun c => tokensF_nz ..
theorem blocksF_nz (bs : List Nat) (most : Nat) : ∀ f p out, NZ (blocksF bs most f p out)
  | 0, _, _ => .er 98
  | f + 1, p, out => by
    unfold blocksF
    refine (blockF_nz ..).bnd fun x => ?_
    split
    · exact blocksF_nz bs most f _ _
    · exact .ok _
theorem inflF_nz (bs : List Nat) (most : Int) : NZ (inflF bs most) := by
  unfold inflF
  split
  · exact .er 0
  · exact (blocksF_nz ..).bnd fun x => .ok _
end Go.Proofs.Ytfjhmbgckmhdaaa
