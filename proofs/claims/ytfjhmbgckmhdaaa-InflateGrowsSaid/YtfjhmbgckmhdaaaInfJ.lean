/-
  How far is read: always onward.
-/
import Derived.Test.YtfjhmbgckmhdaaaInfB
namespace Go.Proofs.Ytfjhmbgckmhdaaa
open Go.RowKit

theorem tokensF_le {L : List Bool} {a b : List Int} {most : Nat} (hm : mostC a ≤ 15) (hm2 : mostC b ≤ 15) : ∀ f p out x, p ≤ L.length → tokensF L a b most f p out = .ok x → p ≤ x.1 ∧ x.1 ≤ L.length
  | 0, _, _, _, _, h => by cases h
  | f + 1, p, out, x, hp, h => by
    unfold tokensF at h
    rcases hT : tokenF L a b most p out with k | y
    · rw [hT] at h; cases h
    rw [hT, bnd_k] at h
    obtain ⟨h1, h2⟩ := tokenF_lt hm hm2 hp hT
    split at h
    · obtain ⟨h3, h4⟩ := tokensF_le hm hm2 f _ _ x h2 h
      exact ⟨by omega, h4⟩
    · simp only [Except.ok.injEq] at h
      rw [← h]
      exact ⟨by omega, h2⟩
theorem thirdF_le {L : List Bool} : ∀ r p l x, p ≤ L.length → thirdF L r p l = .ok x → p ≤ x.1 ∧ x.1 ≤ L.length
  | [], p, l, x, hp, h => by simp only [thirdF, Except.ok.injEq] at h; rw [← h]; exact ⟨Nat.le_refl _, hp⟩
  | s :: r, p, l, x, hp, h => by
    unfold thirdF at h
    rcases hT : takeF L 3 p with k | ⟨v, q⟩
    · rw [hT] at h; cases h
    rw [hT, bnd_k] at h
    obtain ⟨h1, h2, _, _⟩ := takeF_ok hT
    obtain ⟨h3, h4⟩ := thirdF_le r q _ x (by omega) h
    exact ⟨by omega, h4⟩
theorem moresF_le {L : List Bool} {l : List Int} {most : Nat} (hm : mostC l ≤ 15) : ∀ f p all x, p ≤ L.length → moresF L l most f p all = .ok x → p ≤ x.1 ∧ x.1 ≤ L.length
  | 0, _, _, _, _, h => by cases h
  | f + 1, p, all, x, hp, h => by
    unfold moresF at h
    split at h
    · rcases hT : moreF L l p all most with k | ⟨q, all2⟩
      · rw [hT] at h; cases h
      rw [hT, bnd_k] at h
      obtain ⟨h1, h2, _, _⟩ := moreF_ok hm hp hT
      obtain ⟨h3, h4⟩ := moresF_le hm f q _ x h2 h
      exact ⟨by omega, h4⟩
    · simp only [Except.ok.injEq] at h
      rw [← h]
      exact ⟨Nat.le_refl _, hp⟩
theorem dynF_le {L : List Bool} {p : Nat} {x : Nat × List Int × List Int} (hp : p ≤ L.length) (h : dynF L p = .ok x) : p ≤ x.1 ∧ x.1 ≤ L.length ∧ newE x.2.1 = 0 ∧ newE x.2.2 = 0 := by
  unfold dynF at h
  rcases hT : takeF L 5 p with k | ⟨v, q⟩
  · rw [hT] at h; cases h
  rw [hT, bnd_k] at h
  obtain ⟨h1, h2, _, _⟩ := takeF_ok hT
  dsimp only at h
  rcases hT2 : takeF L 5 q with k | ⟨v2, q2⟩
  · rw [hT2] at h; cases h
  rw [hT2, bnd_k] at h
  obtain ⟨h3, h4, _, _⟩ := takeF_ok hT2
  dsimp only at h
  rcases hT3 : takeF L 4 q2 with k | ⟨v3, q3⟩
  · rw [hT3] at h; cases h
  rw [hT3, bnd_k] at h
  obtain ⟨h5, h6, _, _⟩ := takeF_ok hT3
  dsimp only at h
  split at h
  · cases h
  rcases hT4 : thirdF L (orderT.take (4 + v3)) q3 (List.replicate 19 0) with k | t
  · rw [hT4] at h; cases h
  rw [hT4, bnd_k] at h
  obtain ⟨h7, h8⟩ := thirdF_le _ _ _ _ (by omega) hT4
  unfold dynG at h
  split at h
  · cases h
  rename_i hn
  rcases hT5 : moresF L t.2 (257 + v + (1 + v2)) (L.length + 1) t.1 [] with k | u
  · rw [hT5] at h; cases h
  rw [hT5, bnd_k] at h
  obtain ⟨h9, h10⟩ := moresF_le (newE_good (by simpa using hn)).2 _ _ _ _ h8 hT5
  unfold dynH at h
  split at h
  · cases h
  split at h
  · cases h
  split at h
  · cases h
  rename_i hn1 hn2
  simp only [Except.ok.injEq] at h
  rw [← h]
  exact ⟨by dsimp only; omega, h10, by simpa using hn1, by simpa using hn2⟩
theorem blockF_lt {bs : List Nat} {most p : Nat} {out : List Nat} {x : Bool × Nat × List Nat} (h : blockF bs most p out = .ok x) : p < x.2.1 := by
  unfold blockF at h
  rcases hT : takeF (ofB bs) 1 p with k | ⟨v, q⟩
  · rw [hT] at h; cases h
  rw [hT, bnd_k] at h
  obtain ⟨h1, h2, _, _⟩ := takeF_ok hT
  dsimp only at h
  rcases hT2 : takeF (ofB bs) 2 q with k | ⟨v2, q2⟩
  · rw [hT2] at h; cases h
  rw [hT2, bnd_k] at h
  obtain ⟨h3, h4, _, _⟩ := takeF_ok hT2
  dsimp only at h
  split at h
  · cases h
  have key : ∀ E : Except Nat (Nat × List Nat), (∀ r, E = .ok r → q2 ≤ r.1) → (bnd E fun r => (.ok (decide (v = 0), r) : Except Nat (Bool × Nat × List Nat))) = .ok x → p < x.2.1 := by
    intro E hE h
    cases E with
    | error k => cases h
    | ok r =>
      rw [bnd_k] at h
      simp only [Except.ok.injEq] at h
      have := hE r rfl
      rw [← h]
      dsimp only
      omega
  refine key _ ?_ h
  intro r hr
  split at hr
  · exact Nat.le_of_lt (storedF_le hr)
  split at hr
  · obtain ⟨_, _, h5, h6⟩ := fixed_good
    exact (tokensF_le (by omega) (by omega) _ _ _ _ (by omega) hr).1
  · rcases hT3 : dynF (ofB bs) q2 with k | c
    · rw [hT3] at hr; cases hr
    rw [hT3, bnd_k] at hr
    obtain ⟨h5, h6, h7, h8⟩ := dynF_le (by omega) hT3
    have := (tokensF_le (newE_good h7).2 (newE_good h8).2 _ _ _ _ h6 hr).1
    omega

end Go.Proofs.Ytfjhmbgckmhdaaa
