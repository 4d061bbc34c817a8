/-
  The document's inflating: tokens.
-/
import Derived.Test.YtfjhmbgckmhdaaaInfX
import Derived.Test.YtfjhmbgckmhdaaaInfK
namespace Go.Proofs.Ytfjhmbgckmhdaaa
open Go.RowKit

/-- What is wrong so far, or what is still to be done. -/
def Stg {α : Type} (F : Except Nat α) (e : Nat) (G : Except Nat α) : Prop := (e ≠ 0 ∧ F = .error e) ∨ (e = 0 ∧ F = G)
theorem Stg.left {α : Type} {F G G' : Except Nat α} {e : Nat} (h : Stg F e G) (he : e ≠ 0) : Stg F e G' := h.elim .inl (fun h => absurd h.1 he)
theorem Stg.right {α : Type} {F G : Except Nat α} (h : Stg F 0 G) : F = G := h.elim (fun h => absurd rfl h.1) (·.2)
theorem Stg.mk0 {α : Type} {F G : Except Nat α} (h : F = G) : Stg F 0 G := .inr ⟨rfl, h⟩
theorem Stg.num {α : Type} {F : Except Nat α} {L : List Bool} {n p e v p' e' : Nat} {f : Nat × Nat → Except Nat α} (h : Stg F e (bnd (takeF L n p) f)) (hN : NumR L n p e v p' e') : Stg F e' (f (v, p')) := by
  rcases hN with ⟨h1, rfl, rfl, rfl⟩ | ⟨rfl, h1, rfl⟩ | ⟨rfl, h1, _, _, rfl⟩
  · exact h.left h1
  · have := h.right; rw [h1, bnd_k] at this; exact .mk0 this
  · have := h.right; rw [h1, bnd_e] at this; exact .inl ⟨by decide, this⟩
theorem Stg.sym {α : Type} {F : Except Nat α} {L : List Bool} {l : List Int} {p e v p' e' : Nat} {f : Nat × Nat → Except Nat α} (h : Stg F e (bnd (symF L l p) f)) (hN : SymR L l p e v p' e') : Stg F e' (f (v, p')) := by
  rcases hN with ⟨h1, rfl, rfl, rfl⟩ | ⟨rfl, h1, rfl⟩ | ⟨rfl, h0, h1⟩
  · exact h.left h1
  · have := h.right; rw [h1, bnd_k] at this; exact .mk0 this
  · have := h.right; rw [h1, bnd_e] at this; exact .inl ⟨h0, this⟩
/-- A condition under which one gives up with k. -/
theorem Stg.fail {α : Type} {F G : Except Nat α} {e k : Nat} {c : Prop} [Decidable c] (h : Stg F e (if c then .error k else G)) (hk : k ≠ 0) : Stg F (if e = 0 ∧ c then k else e) G := by
  by_cases he : e = 0
  · subst he
    by_cases hc : c
    · rw [if_pos ⟨rfl, hc⟩]; have := h.right; rw [if_pos hc] at this; exact .inl ⟨hk, this⟩
    · rw [if_neg (fun h => hc h.2)]; have := h.right; rw [if_neg hc] at this; exact .mk0 this
  · rw [if_neg (fun h => he h.1)]; exact h.left he
theorem Stg.res {α : Type} {F : Except Nat α} {G : Except Nat (Nat × List Nat)} {K : Nat × List Nat → Except Nat α} {p' e' : Nat} {out' : List Nat} (h : Stg F 0 (bnd G K)) (hR : ResR G p' out' e') : Stg F e' (K (p', out')) := by
  have h := h.right
  cases G with
  | error k => obtain ⟨rfl, hk⟩ := hR; exact .inl ⟨hk, h⟩
  | ok x => obtain ⟨rfl, rfl, rfl⟩ := hR; exact .mk0 h
theorem bnd_assoc {α β γ : Type} (x : Except Nat α) (f : α → Except Nat β) (g : β → Except Nat γ) : bnd (bnd x f) g = bnd x fun y => bnd (f y) g := by cases x <;> rfl
theorem bnd_if {α β : Type} {c : Prop} [Decidable c] (x y : Except Nat α) (f : α → Except Nat β) : bnd (if c then x else y) f = if c then bnd x f else bnd y f := by split <;> rfl
theorem copyF_snoc : ∀ (n d : Nat) (out : List Nat), copyF (n + 1) d out = copyF n d out ++ [(copyF n d out).getD ((copyF n d out).length - d) 0]
  | 0, _, _ => rfl
  | n + 1, d, out => by rw [copyF, copyF_snoc n d]; rfl
theorem copyF_take : ∀ (n d : Nat) (out : List Nat), copyF n d out = out ++ (copyF n d out).drop out.length
  | 0, _, out => by simp [copyF]
  | n + 1, d, out => by
    rw [copyF_snoc]
    have ih := copyF_take n d out
    have hl := copyF_len n d out
    rw [List.drop_append_of_le_length (by omega), ← List.append_assoc, ← ih]
theorem blk_add (a : Addr) (n : Nat) : (a.add n).block = a.block := by unfold Addr.add; split <;> rfl
theorem longL_at : ∀ k, k < 29 → longL.getD k 0 = (longT.getD k (0, 0)).1 := by decide
theorem wayL_at : ∀ k, k < 30 → wayL.getD k 0 = (wayT.getD k (0, 0)).1 := by decide
theorem ni_at {w : World} {A : Option Addr} {l : List Nat} {k n : Nat} (h : Rd w 1 A n (NI l)) (hl : l.length = n) (hk : k < n) : ∃ ad, A = some ad ∧ w.cell? (ad.add k) = some (.int .i64 ((l.getD k 0 : Nat) : Int)) := by
  subst hl
  obtain ⟨ad, hA, hc⟩ := NI_at h hk
  refine ⟨ad, hA, ?_⟩
  rw [hc]
  simp [List.getD, List.getElem?_eq_getElem hk]
theorem Frm.cell' {w v : World} {S : List Nat} (h : Frm S w v) {a : Addr} {x : Value} (hc : w.cell? a = some x) (hS : a.block ∉ S) : v.cell? a = some x := h.cell hc hS
/-- The end of a copy. -/
def tokD (most : Nat) (out : List Nat) (n d0 : Nat) (u : Nat × Nat) : Except Nat (Bool × Nat × List Nat) :=
  if out.length < d0 + u.1 then .error 12 else if most < out.length + n then .error 13 else .ok (true, u.2, copyF n (d0 + u.1) out)
/-- A copy, given the way's symbol. -/
def tokW (L : List Bool) (most : Nat) (out : List Nat) (n : Nat) (y : Nat × Nat) : Except Nat (Bool × Nat × List Nat) :=
  if 30 ≤ y.1 then .error 11 else bnd (takeF L (wayT.getD y.1 (0, 0)).2 y.2) (tokD most out n (wayT.getD y.1 (0, 0)).1)
/-- A token, given its symbol. -/
def tokR (L : List Bool) (b : List Int) (most : Nat) (out : List Nat) (x : Nat × Nat) : Except Nat (Bool × Nat × List Nat) :=
  if x.1 < 256 then (if out.length < most then .ok (true, x.2, out ++ [x.1]) else .error 13)
  else if x.1 = 256 then .ok (false, x.2, out)
  else if 285 < x.1 then .error 11
  else bnd (takeF L (longT.getD (x.1 - 257) (0, 0)).2 x.2) fun v => bnd (symF L b v.2) (tokW L most out ((longT.getD (x.1 - 257) (0, 0)).1 + v.1))
theorem tokenF_R (L : List Bool) (a b : List Int) (most p : Nat) (out : List Nat) : tokenF L a b most p out = bnd (symF L a p) (tokR L b most out) := rfl
/-- What follows a token. -/
def tokK {α : Type} (L : List Bool) (a b : List Int) (most f : Nat) (K : Nat × List Nat → Except Nat α) (x : Bool × Nat × List Nat) : Except Nat α := bnd (if x.1 then tokensF L a b most f x.2.1 x.2.2 else .ok x.2) K
theorem tokens_step {α : Type} (L : List Bool) (a b : List Int) (most f p : Nat) (out : List Nat) (K : Nat × List Nat → Except Nat α) : bnd (tokensF L a b most (f + 1) p out) K = bnd (symF L a p) fun x => bnd (tokR L b most out x) (tokK L a b most f K) := by
  show bnd (bnd (tokenF L a b most p out) _) K = _
  rw [bnd_assoc, tokenF_R, bnd_assoc]
  rfl
section
variable {α : Type} {F : Except Nat α} {K : Nat × List Nat → Except Nat α} {L : List Bool} {a b : List Int} {most f : Nat} {o : List Nat}
theorem Stg.lit {s p e' : Nat} {o' : List Nat} (h : Stg F 0 (bnd (tokR L b most o (s, p)) (tokK L a b most f K))) (hs : s < 256) (hp : (0 ≠ 0 ∧ e' = 0) ∨ (0 = 0 ∧ most < o.length + [s].length ∧ e' = 13) ∨ (0 = 0 ∧ ¬ most < o.length + [s].length ∧ e' = 0 ∧ o' = o ++ [s])) : Stg F e' (bnd (tokensF L a b most f p o') K) := by
  have h := h.right
  unfold tokR at h
  rw [if_pos hs] at h
  rcases hp with ⟨h0, _⟩ | ⟨_, hm, rfl⟩ | ⟨_, hm, rfl, rfl⟩
  · exact absurd rfl h0
  · rw [if_neg (by simp at hm ⊢; omega)] at h
    exact .inl ⟨by decide, h⟩
  · rw [if_pos (by simp at hm ⊢; omega)] at h
    exact .mk0 h
theorem Stg.fin {s p : Nat} (h : Stg F 0 (bnd (tokR L b most o (s, p)) (tokK L a b most f K))) (hs : s = 256) : Stg F 0 (K (p, o)) := by
  subst hs
  have h := h.right
  unfold tokR at h
  rw [if_neg (show ¬ 256 < 256 by decide), if_pos rfl] at h
  exact .mk0 h
theorem Stg.far {s p : Nat} (h : Stg F 0 (bnd (tokR L b most o (s, p)) (tokK L a b most f K))) (h1 : ¬ s < 256) (h2 : s ≠ 256) (h3 : 285 < s) : F = .error 11 := by
  have h := h.right
  unfold tokR at h
  rw [if_neg h1, if_neg h2, if_pos h3] at h
  exact h
theorem Stg.len {s p : Nat} (h : Stg F 0 (bnd (tokR L b most o (s, p)) (tokK L a b most f K))) (h1 : ¬ s < 256) (h2 : s ≠ 256) (h3 : ¬ 285 < s) :
    Stg F 0 (bnd (takeF L (longT.getD (s - 257) (0, 0)).2 p) fun v => bnd (symF L b v.2) fun y => bnd (tokW L most o ((longT.getD (s - 257) (0, 0)).1 + v.1) y) (tokK L a b most f K)) := by
  have h := h.right
  unfold tokR at h
  rw [if_neg h1, if_neg h2, if_neg h3, bnd_assoc] at h
  refine .mk0 (h.trans ?_)
  congr 1
  funext v
  rw [bnd_assoc]
theorem Stg.way {e n : Nat} {y : Nat × Nat} (h : Stg F e (bnd (tokW L most o n y) (tokK L a b most f K))) : Stg F (if e = 0 ∧ 30 ≤ y.1 then 11 else e) (bnd (takeF L (wayT.getD y.1 (0, 0)).2 y.2) fun u => bnd (tokD most o n (wayT.getD y.1 (0, 0)).1 u) (tokK L a b most f K)) := by
  unfold tokW at h
  rw [bnd_if, bnd_assoc] at h
  exact h.fail (by decide)
theorem Stg.back {e n d0 : Nat} {u : Nat × Nat} (h : Stg F e (bnd (tokD most o n d0 u) (tokK L a b most f K))) : Stg F (if e = 0 ∧ o.length < d0 + u.1 then 12 else e) (bnd (if most < o.length + n then .error 13 else .ok (true, u.2, copyF n (d0 + u.1) o)) (tokK L a b most f K)) := by
  unfold tokD at h
  rw [bnd_if] at h
  exact h.fail (by decide)
theorem Stg.come {n d p e' : Nat} {o' : List Nat} (h : Stg F 0 (bnd (if most < o.length + n then .error 13 else .ok (true, p, copyF n d o)) (tokK L a b most f K))) (hp : (0 ≠ 0 ∧ e' = 0) ∨ (0 = 0 ∧ most < o.length + ((copyF n d o).drop o.length).length ∧ e' = 13) ∨ (0 = 0 ∧ ¬ most < o.length + ((copyF n d o).drop o.length).length ∧ e' = 0 ∧ o' = o ++ (copyF n d o).drop o.length)) : Stg F e' (bnd (tokensF L a b most f p o') K) := by
  have h := h.right
  rw [List.length_drop, copyF_len, Nat.add_sub_cancel_left, ← copyF_take] at hp
  rcases hp with ⟨h0, _⟩ | ⟨_, hm, rfl⟩ | ⟨_, hm, rfl, rfl⟩
  · exact absurd rfl h0
  · rw [if_pos hm] at h
    exact .inl ⟨by decide, h⟩
  · rw [if_neg hm] at h
    exact .mk0 h
end
theorem longL_len : longL.length = 29 := rfl
theorem wayL_len : wayL.length = 30 := rfl
theorem copyF_lt : ∀ (n d : Nat) (out : List Nat), (∀ x ∈ out, x < 256) → ∀ x ∈ copyF n d out, x < 256
  | 0, _, _, h => h
  | n + 1, d, out, h => by
    rw [copyF]
    refine copyF_lt n d _ fun x hx => ?_
    rcases List.mem_append.1 hx with hx | hx
    · exact h x hx
    · rw [List.mem_singleton] at hx
      subst hx
      by_cases h2 : out.length - d < out.length
      · simp only [List.getD, List.getElem?_eq_getElem h2, Option.getD_some]
        exact h _ (List.getElem_mem _)
      · simp [List.getD, List.getElem?_eq_none (Nat.le_of_not_lt h2)]

set_option maxRecDepth 100000 in
theorem rtokens_spec {α : Type} (F : Except Nat α) (K : Nat × List Nat → Except Nat α) (gx : Nat) (Ab Ba Bb : Option Addr) (cb ca0 cb0 na nb f : Nat) (a b : List Int) (L : List Bool) (p : Nat) (A : Option Addr) (c : Nat) (out : List Nat) (most e : Nat) (w : World) (hab : e = 0 → (a.length = na ∧ newE a = 0 ∧ Rd w 1 Ba na (IB a)) ∧ b.length = nb ∧ newE b = 0 ∧ Rd w 1 Bb nb (IB b))
    (hda : e = 0 → ∀ x ∈ ob Ba ++ ob Bb, x ∉ gx :: ob A) (hF : Stg F e (bnd (tokensF L a b most f p out) K)) (hfp : L.length < f + p) (hX : IsY w gx Ab cb L p A c out most e) :
    Calls Try.prog 30 #[.pointer (some ⟨gx, 0, none⟩), .slice Ba na ca0, .slice Bb nb cb0] w fun r w' => ∃ p' A' c' out' e', r = .returned (.tuple #[]) ∧ IsY w' gx Ab cb L p' A' c' out' most e' ∧ Frm (gx :: ob A) w w' ∧ (∀ y ∈ ob A', y ∈ ob A ∨ w.heap.size ≤ y) ∧ Stg F e' (K (p', out')) := by
  refine VC.calls (nt := 148) (res := #[]) Try.func30 rfl Try.ntmps30 Try.results30 rfl ?_
  refine VC.block ?_
  refine VC.loop (σ := Nat × Nat × Option Addr × Nat × List Nat × Nat) (fun s => [(0, .pointer (some ⟨gx, 0, none⟩)), (1, .slice Ba na ca0), (2, .slice Bb nb cb0)]) (fun s wr => (s.2.2.2.2.2 = 0 → e = 0) ∧ IsY wr gx Ab cb L s.2.1 s.2.2.1 s.2.2.2.1 s.2.2.2.2.1 most s.2.2.2.2.2 ∧ Frm (gx :: ob A) w wr ∧ (∀ y ∈ ob s.2.2.1, y ∈ ob A ∨ w.heap.size ≤ y) ∧ Stg F s.2.2.2.2.2 (bnd (tokensF L a b most s.1 s.2.1 s.2.2.2.2.1) K) ∧ (s.2.2.2.2.2 = 0 → L.length < s.1 + s.2.1)) (fun s => if s.2.2.2.2.2 = 0 then L.length + 2 - s.2.1 else 0) (f, p, A, c, out, e) (.cons rfl (.cons rfl (.cons rfl .nil))) ⟨fun h => h, hX, Frm.refl _ _, fun y hy => .inl hy, hF, fun _ => hfp⟩ ?_
  clear hX hF hfp
  rintro ⟨f, q, A2, c2, o, e0⟩ wr ⟨he0, hX, hfr, hu, hF, hfp⟩
  dsimp only at he0 hX hfr hu hF hfp ⊢
  have hsr := hfr.size
  refine VC.seq ?_
  refine VC.seq ?_
  refine VC.region ?_
  refine Ops.r (Run.mv rfl) rfl ?_
  refine Ops.r (Run.nilck rfl) rfl ?_
  refine Ops.r (Run.fieldAddr rfl Try.underlying56 rfl Try.sizeOf3 (by decide)) rfl ?_
  refine Ops.r (Run.load rfl Try.isAgg3 (hX.1.cell 4)) rfl ?_
  refine Ops.r (Run.bin rfl rfl (Bin.eqlN _ 0)) rfl ?_
  refine Ops.nil ?_
  refine thenQ_n ?_
  refine VC.sub [(0, _), (1, _), (2, _), (17, _)] (.cons rfl (.cons rfl (.cons rfl (.cons rfl .nil)))) ?_
  refine VC.condD rfl (fun hc1 => ?_) (fun hc1 => ?_)
  · skip
    subst hc1
    have he := he0 rfl
    have hfp := hfp rfl
    obtain ⟨⟨hal, hae, hra⟩, hbl, hbe, hrb⟩ := hab he
    have hdis := hda he
    have hra1 := hra.frm hfr (fun _ x hx => hdis x (by simp [hx]))
    have hpq := hX.2.2.2.1
    have hLl := hX.2.2.2.2.1
    have hol := hX.2.2.2.2.2.1
    obtain ⟨f, rfl⟩ : ∃ f', f = f' + 1 := ⟨f - 1, by omega⟩
    rw [tokens_step] at hF
    refine VC.skip ?_
    refine thenQ_n ?_
    refine VC.sub [(0, _), (1, _), (2, _)] (.cons rfl (.cons rfl (.cons rfl .nil))) ?_
    refine VC.block ?_
    refine VC.seq ?_
    refine VC.region ?_
    refine Ops.r (Run.mv rfl) rfl ?_
    refine Ops.r (Run.mv rfl) rfl ?_
    refine Ops.cl (Enters.fn (evs.cons rfl (evs.cons rfl evs.nil)) Try.call43) (rsym_spec gx Ab Ba cb ca0 na a L q A2 c2 o most 0 _ (fun _ => ⟨hal, hae, hra1⟩) hX) rfl ?_
    rintro r w1 ⟨s1, p1, e1, rfl, hX1, hf1, hpp1, hS1⟩
    refine ⟨_, rfl, ?_⟩
    have hF1 := hF.sym hS1
    try dsimp only at hF1
    have hfr1 : Frm (gx :: ob A) w w1 := hfr.trans hf1 (fun x hx => .inl (by simp at hx; simp [hx]))
    have hs1 := hfr1.size
    refine Ops.r (Run.asg rfl) rfl ?_
    refine Ops.nil ?_
    refine thenQ_n ?_
    refine VC.sub [(0, _), (1, _), (2, _), (6, _)] (.cons rfl (.cons rfl (.cons rfl (.cons rfl .nil)))) ?_
    refine VC.seq ?_
    refine VC.seq ?_
    refine VC.split1 [(0, _), (1, _), (2, _), (6, _)] (.cons rfl (.cons rfl (.cons rfl (.cons rfl .nil)))) 29 (.bool (decide (e1 ≠ 0 ∨ s1 = 256))) ?_ ?_
    · refine VC.region ?_
      refine Ops.r (Run.mv rfl) rfl ?_
      refine Ops.r (Run.nilck rfl) rfl ?_
      refine Ops.r (Run.fieldAddr rfl Try.underlying56 rfl Try.sizeOf3 (by decide)) rfl ?_
      refine Ops.r (Run.load rfl Try.isAgg3 (hX1.1.cell 4)) rfl ?_
      refine Ops.r (Run.bin rfl rfl (Bin.neqN _ 0)) rfl ?_
      by_cases hs25 : e1 ≠ 0
      · skip
        refine Ops.r (Run.mv rfl) rfl ?_
        refine Ops.sk rfl (by first | rfl | assumption | exact decide_eq_true (by assumption) | exact decide_eq_false (by assumption) | decide | (simp; done) | (simp; omega) | (simp [*]; done)) rfl ?_
        refine Ops.sk rfl (by first | rfl | assumption | exact decide_eq_true (by assumption) | exact decide_eq_false (by assumption) | decide | (simp; done) | (simp; omega) | (simp [*]; done)) rfl ?_
        refine Ops.r (Run.pickT rfl rfl (by first | rfl | assumption | exact decide_eq_true (by assumption) | exact decide_eq_false (by assumption) | decide | (simp; done) | (simp; omega) | (simp [*]; done))) rfl ?_
        refine Ops.nil ?_
        refine thenQ_n ⟨(.cons (congrArg (fun b => some (Value.bool b)) (by grind)) (.cons rfl (.cons rfl (.cons rfl (.cons rfl .nil))))), rfl⟩
      · skip
        refine Ops.r (Run.mv rfl) rfl ?_
        refine Ops.rg rfl (by first | rfl | assumption | exact decide_eq_true (by assumption) | exact decide_eq_false (by assumption) | decide | (simp; done) | (simp; omega) | (simp [*]; done)) (Run.mv rfl) rfl ?_
        refine Ops.rg rfl (by first | rfl | assumption | exact decide_eq_true (by assumption) | exact decide_eq_false (by assumption) | decide | (simp; done) | (simp; omega) | (simp [*]; done)) (Run.bin rfl rfl (Bin.eqlN _ 256)) rfl ?_
        by_cases hs28 : s1 = 256
        · skip
          refine Ops.r (Run.pickF rfl rfl (by first | rfl | assumption | exact decide_eq_true (by assumption) | exact decide_eq_false (by assumption) | decide | (simp; done) | (simp; omega) | (simp [*]; done))) rfl ?_
          refine Ops.nil ?_
          refine thenQ_n ⟨(.cons (congrArg (fun b => some (Value.bool b)) (by grind)) (.cons rfl (.cons rfl (.cons rfl (.cons rfl .nil))))), rfl⟩
        · skip
          refine Ops.r (Run.pickF rfl rfl (by first | rfl | assumption | exact decide_eq_true (by assumption) | exact decide_eq_false (by assumption) | decide | (simp; done) | (simp; omega) | (simp [*]; done))) rfl ?_
          refine Ops.nil ?_
          refine thenQ_n ⟨(.cons (congrArg (fun b => some (Value.bool b)) (by grind)) (.cons rfl (.cons rfl (.cons rfl (.cons rfl .nil))))), rfl⟩
    · intro Γ hΓ
      refine thenQ_n (VC.sub _ hΓ ?_)
      refine VC.condD rfl (fun hc2 => ?_) (fun hc2 => ?_)
      · skip
        refine VC.ret ?_
        refine thenQ_r (blockQ_r (thenQ_r (blockQ_r (end0 ?_))))
        rcases hc2 with h | h
        · exact ⟨p1, A2, c2, o, e1, rfl, hX1, hfr1, hu, hF1.left h⟩
        · by_cases he1 : e1 = 0
          · subst he1
            exact ⟨p1, A2, c2, o, 0, rfl, hX1, hfr1, hu, hF1.fin h⟩
          · exact ⟨p1, A2, c2, o, e1, rfl, hX1, hfr1, hu, hF1.left he1⟩
      · skip
        obtain ⟨he1, hs256⟩ : e1 = 0 ∧ s1 ≠ 256 := ⟨Classical.not_not.1 fun h => hc2 (.inl h), fun h => hc2 (.inr h)⟩
        subst he1
        obtain ⟨hq1, hp1, _⟩ : q < p1 ∧ p1 ≤ L.length ∧ s1 < a.length := by
          rcases hS1 with ⟨h, _⟩ | ⟨_, h, _⟩ | ⟨_, h, _⟩
          · exact absurd rfl h
          · exact symF_ok (newE_good hae).2 hpq h
          · exact absurd rfl h
        refine VC.skip ?_
        refine thenQ_n ?_
        refine VC.sub [(0, _), (1, _), (2, _), (6, _)] (.cons rfl (.cons rfl (.cons rfl (.cons rfl .nil)))) ?_
        refine VC.seq ?_
        refine VC.seq ?_
        refine VC.region ?_
        refine Ops.r (Run.mv rfl) rfl ?_
        refine Ops.r (Run.bin rfl rfl (Bin.lssN _ 256)) rfl ?_
        refine Ops.nil ?_
        refine thenQ_n ?_
        refine VC.sub [(0, _), (1, _), (2, _), (6, _), (31, _)] (.cons rfl (.cons rfl (.cons rfl (.cons rfl (.cons rfl .nil))))) ?_
        refine VC.condD rfl (fun hc3 => ?_) (fun hc3 => ?_)
        · skip
          refine VC.seq ?_
          refine VC.region ?_
          refine Ops.r (Run.mv rfl) rfl ?_
          refine Ops.r (Run.mv rfl) rfl ?_
          refine Ops.r (Run.conv8 _ rfl Try.underlying3 Try.underlying5) rfl ?_
          refine Ops.m (Does.buildS1 rfl Try.underlying22 Try.sizeOf5 zero5 (by decide) (by decide) rfl rfl) rfl ?_
          rintro _ w2 ⟨rfl, hF2⟩
          have hm : ((s1 % 256 : Nat) : Int) = ((s1 : Nat) : Int) := by rw [Nat.mod_eq_of_lt hc3]
          have hrd2 : Rd w2 1 (some ⟨w1.heap.size, 0, none⟩) 1 (NB [s1]) := by
            have h5 : Rd w2 1 (some ⟨w1.heap.size, 0, none⟩) 1 [.int .u8 ((s1 % 256 : Nat) : Int)] := Rd.of_blk (n := 1) (size := 1) hF2.blk rfl
            rw [hm] at h5
            exact h5
          have hX2 := hX1.frm0 hF2.frm
          have hs2 := hF2.frm.size
          refine Ops.cl (Enters.fn (evs.cons rfl (evs.cons rfl evs.nil)) Try.call42) (rput_spec gx Ab _ cb _ 1 [s1] L p1 A2 c2 o most 0 _ rfl (by omega) (fun x hx => by rw [List.mem_singleton] at hx; omega) hrd2 hX2) rfl ?_
          rintro r w3 ⟨A3, c3, o3, e3, rfl, hX3, hf3, hu3, hput⟩
          refine ⟨_, rfl, ?_⟩
          have hF3 := hF1.lit hc3 hput
          have hfr3 : Frm (gx :: ob A) w w3 := (hfr1.trans hF2.frm (by simp)).trans hf3 (fun x hx => by
            rcases List.mem_cons.1 hx with rfl | hx
            · exact .inl (by simp)
            · rcases hu x hx with h6 | h6
              · exact .inl (by simp [h6])
              · exact .inr h6)
          refine Ops.nil ?_
          refine thenQ_n ?_
          refine VC.sub [(0, _), (1, _), (2, _)] (.cons rfl (.cons rfl (.cons rfl .nil))) ?_
          refine VC.exit ?_
          refine thenQ_x (blockQ_x ?_)
          refine thenQ_n ⟨(f, p1, A3, c3, o3, e3), (.cons rfl (.cons rfl (.cons rfl .nil))), ?_, ?_⟩
          · skip
            exact ⟨fun _ => he, hX3, hfr3, fun y hy => (hu3 y hy).elim (hu y) (fun h => .inr (by omega)), hF3, fun _ => by dsimp only; omega⟩
          · skip
            dsimp only; rw [if_pos rfl]; split <;> omega
        · skip
          refine VC.skip ?_
          refine thenQ_n ?_
          refine VC.sub [(0, _), (1, _), (2, _), (6, _)] (.cons rfl (.cons rfl (.cons rfl (.cons rfl .nil)))) ?_
          refine VC.seq ?_
          refine VC.seq ?_
          refine VC.region ?_
          refine Ops.r (Run.mv rfl) rfl ?_
          refine Ops.r (Run.bin rfl rfl (Bin.gtrN _ 285)) rfl ?_
          refine Ops.nil ?_
          refine thenQ_n ?_
          refine VC.sub [(0, _), (1, _), (2, _), (6, _), (38, _)] (.cons rfl (.cons rfl (.cons rfl (.cons rfl (.cons rfl .nil))))) ?_
          refine VC.condD rfl (fun hc4 => ?_) (fun hc4 => ?_)
          · skip
            refine VC.seq ?_
            refine VC.region ?_
            refine Ops.r (Run.mv rfl) rfl ?_
            refine Ops.cl (Enters.fn (evs.cons rfl (evs.cons rfl evs.nil)) Try.call28) (rfail_spec gx Ab cb L p1 A2 c2 o most 0 11 _ hX1) rfl ?_
            rintro r w2 ⟨rfl, hX2, hf2⟩
            refine ⟨_, rfl, ?_⟩
            rw [if_pos rfl] at hX2
            have hF2 := hF1.far hc3 hs256 hc4
            refine Ops.nil ?_
            refine thenQ_n ?_
            refine VC.sub [] .nil ?_
            refine VC.ret ?_
            refine thenQ_r (blockQ_r (thenQ_r (blockQ_r (end0 ?_))))
            exact ⟨p1, A2, c2, o, 11, rfl, hX2, hfr1.trans hf2 (fun x hx => .inl (by simp at hx; simp [hx])), hu, .inl ⟨by decide, hF2⟩⟩
          · skip
            have hF2 := hF1.len hc3 hs256 hc4
            have hX1d := hX1.frm0 (Drawn.drew w1).frm
            have hfr1d := hfr1.drawn (Drawn.drew w1)
            obtain ⟨hlb, hll⟩ := long_b (s1 - 257) (by omega)
            have hla := longL_at (s1 - 257) (by omega)
            generalize hlg : longT.getD (s1 - 257) (0, 0) = lg at *
            refine VC.skip ?_
            refine thenQ_n ?_
            refine VC.sub [(0, _), (1, _), (2, _), (6, _)] (.cons rfl (.cons rfl (.cons rfl (.cons rfl .nil)))) ?_
            refine VC.seq ?_
            refine VC.held (fun _ => True) (by kernel_rfl) ?_
            have hS : (fun _ : World => True) w1.drew := trivial
            refine HOps.take 1 rfl (by kernel_rfl) (by kernel_rfl) (by kernel_rfl) hS (fun w0 hw0 => Run.mv rfl) trivial rfl rfl ?_
            refine HOps.take 2 rfl (by kernel_rfl) (by kernel_rfl) (by kernel_rfl) hS (fun w0 hw0 => Run.bin rfl rfl (Bin.sub_i64 _ 257 (by omega) (by omega))) trivial rfl rfl ?_
            refine HOps.take 5 rfl (by kernel_rfl) (by kernel_rfl) (by kernel_rfl) hS (fun w0 hw0 => Run.mv rfl) trivial rfl rfl ?_
            refine HOps.take 6 rfl (by kernel_rfl) (by kernel_rfl) (by kernel_rfl) hS (fun w0 hw0 => Run.mv rfl) trivial rfl rfl ?_
            refine HOps.take 7 rfl (by kernel_rfl) (by kernel_rfl) (by kernel_rfl) hS (fun w0 hw0 => Run.bin rfl rfl (Bin.sub_i64 _ 257 (by omega) (by omega))) trivial rfl rfl ?_
            refine HOps.cl 0 rfl (by kernel_rfl) (Enters.fn evs.nil Try.call19) (rlengths_spec _) trivial rfl rfl ?_
            rintro r w2 ⟨At, ct, rfl, hO2, hf2, hut⟩
            obtain ⟨adt, rfl, hct⟩ := ni_at hO2.rd longL_len (k := s1 - 257) (by omega)
            have hX2 := hX1d.frm0 hf2
            have hadt : adt.block ∉ [gx] := fun h => by
              rw [List.mem_singleton] at h
              have h2 := hut adt.block (by simp [ob])
              have h3 := hX1d.lt.1
              omega
            refine ⟨_, rfl, trivial, ?_⟩
            refine HOps.more (fun v => v.cell? (adt.add (s1 - 257)) = some (.int .i64 ((longL.getD (s1 - 257) 0 : Nat) : Int))) (fun _ _ => trivial) ?_
            have hS : (fun v => v.cell? (adt.add (s1 - 257)) = some (.int .i64 ((longL.getD (s1 - 257) 0 : Nat) : Int))) w2 := hct
            refine HOps.take 3 rfl (by kernel_rfl) (by kernel_rfl) (by kernel_rfl) hS (fun w0 hw0 => Run.index1 _ rfl rfl Try.underlying37 Try.sizeOf3 (by omega)) trivial rfl rfl ?_
            refine HOps.take 4 rfl (by kernel_rfl) (by kernel_rfl) (by kernel_rfl) hS (fun w0 hw0 => Run.load rfl Try.isAgg3 hw0) trivial rfl rfl ?_
            refine HOps.cl 8 rfl (by kernel_rfl) (Enters.fn (evs.cons rfl evs.nil) Try.call18) (rlongBits_spec (s1 - 257) _ (by omega)) trivial rfl rfl ?_
            rintro r _ ⟨rfl, rfl⟩
            refine ⟨_, rfl, hS, ?_⟩
            rw [hlg]
            refine HOps.cl 9 rfl (by kernel_rfl) (Enters.fn (evs.cons rfl (evs.cons rfl evs.nil)) Try.call27) (rnum_spec gx Ab cb L p1 A2 c2 o most 0 lg.2 _ (by omega) hX2) trivial rfl rfl ?_
            rintro r w3 ⟨v3, p3, e3, rfl, hX3, hf3, hN3⟩
            have hS : (fun v => v.cell? (adt.add (s1 - 257)) = some (.int .i64 ((longL.getD (s1 - 257) 0 : Nat) : Int))) w3 := hf3.cell hct (by rw [blk_add]; exact hadt)
            refine ⟨_, rfl, hS, ?_⟩
            have hF3 := hF2.num hN3
            try dsimp only at hF3
            obtain ⟨hv3, hp3⟩ := hN3.lt
            have hv32 : 2 ^ lg.2 ≤ 2 ^ 5 := Nat.pow_le_pow_right (by omega) hlb
            have hfr3 : Frm (gx :: ob A) w w3 := (hfr1d.trans hf2 (by simp)).trans hf3 (fun x hx => .inl (by simp at hx; simp [hx]))
            have hrb3 := hrb.frm hfr3 (fun _ x hx => hdis x (by simp [hx]))
            refine HOps.take 10 rfl (by kernel_rfl) (by kernel_rfl) (by kernel_rfl) hS (fun w0 hw0 => Run.bin rfl rfl (Bin.add_i64 _ _ (by omega))) trivial rfl rfl ?_
            rw [hla] at hS ⊢
            refine HOps.take 11 rfl (by kernel_rfl) (by kernel_rfl) (by kernel_rfl) hS (fun w0 hw0 => Run.asg rfl) trivial rfl rfl ?_
            refine HOps.done (by kernel_rfl) ?_
            refine thenQ_n ?_
            refine VC.sub [(0, _), (1, _), (2, _), (7, _)] (.cons rfl (.cons rfl (.cons rfl (.cons rfl .nil)))) ?_
            refine VC.seq ?_
            refine VC.region ?_
            refine Ops.r (Run.mv rfl) rfl ?_
            refine Ops.r (Run.mv rfl) rfl ?_
            refine Ops.cl (Enters.fn (evs.cons rfl (evs.cons rfl evs.nil)) Try.call43) (rsym_spec gx Ab Bb cb cb0 nb b L p3 A2 c2 o most e3 _ (fun _ => ⟨hbl, hbe, hrb3⟩) hX3) rfl ?_
            rintro r w4 ⟨s2, p4, e4, rfl, hX4, hf4, hpp4, hS4⟩
            refine ⟨_, rfl, ?_⟩
            have hF4 := hF3.sym hS4
            try dsimp only at hF4
            have hfr4 : Frm (gx :: ob A) w w4 := hfr3.trans hf4 (fun x hx => .inl (by simp at hx; simp [hx]))
            refine Ops.r (Run.asg rfl) rfl ?_
            refine Ops.nil ?_
            refine thenQ_n ?_
            refine VC.sub [(0, _), (1, _), (2, _), (7, _), (8, _)] (.cons rfl (.cons rfl (.cons rfl (.cons rfl (.cons rfl .nil))))) ?_
            refine VC.seq ?_
            refine VC.seq ?_
            refine VC.split1 [(0, _), (1, _), (2, _), (7, _), (8, _)] (.cons rfl (.cons rfl (.cons rfl (.cons rfl (.cons rfl .nil))))) 63 (.bool (decide (e4 = 0 ∧ 29 < s2))) ?_ ?_
            · refine VC.region ?_
              refine Ops.r (Run.mv rfl) rfl ?_
              refine Ops.r (Run.nilck rfl) rfl ?_
              refine Ops.r (Run.fieldAddr rfl Try.underlying56 rfl Try.sizeOf3 (by decide)) rfl ?_
              refine Ops.r (Run.load rfl Try.isAgg3 (hX4.1.cell 4)) rfl ?_
              refine Ops.r (Run.bin rfl rfl (Bin.eqlN _ 0)) rfl ?_
              by_cases hs59 : e4 = 0
              · skip
                refine Ops.r (Run.mv rfl) rfl ?_
                refine Ops.rg rfl (by first | rfl | assumption | exact decide_eq_true (by assumption) | exact decide_eq_false (by assumption) | decide | (simp; done) | (simp; omega) | (simp [*]; done)) (Run.mv rfl) rfl ?_
                refine Ops.rg rfl (by first | rfl | assumption | exact decide_eq_true (by assumption) | exact decide_eq_false (by assumption) | decide | (simp; done) | (simp; omega) | (simp [*]; done)) (Run.bin rfl rfl (Bin.gtrN _ 29)) rfl ?_
                by_cases hs62 : 29 < s2
                · skip
                  refine Ops.r (Run.pickT rfl rfl (by first | rfl | assumption | exact decide_eq_true (by assumption) | exact decide_eq_false (by assumption) | decide | (simp; done) | (simp; omega) | (simp [*]; done))) rfl ?_
                  refine Ops.nil ?_
                  refine thenQ_n ⟨(.cons (congrArg (fun b => some (Value.bool b)) (by grind)) (.cons rfl (.cons rfl (.cons rfl (.cons rfl (.cons rfl .nil)))))), rfl⟩
                · skip
                  refine Ops.r (Run.pickT rfl rfl (by first | rfl | assumption | exact decide_eq_true (by assumption) | exact decide_eq_false (by assumption) | decide | (simp; done) | (simp; omega) | (simp [*]; done))) rfl ?_
                  refine Ops.nil ?_
                  refine thenQ_n ⟨(.cons (congrArg (fun b => some (Value.bool b)) (by grind)) (.cons rfl (.cons rfl (.cons rfl (.cons rfl (.cons rfl .nil)))))), rfl⟩
              · skip
                refine Ops.r (Run.mv rfl) rfl ?_
                refine Ops.sk rfl (by first | rfl | assumption | exact decide_eq_true (by assumption) | exact decide_eq_false (by assumption) | decide | (simp; done) | (simp; omega) | (simp [*]; done)) rfl ?_
                refine Ops.sk rfl (by first | rfl | assumption | exact decide_eq_true (by assumption) | exact decide_eq_false (by assumption) | decide | (simp; done) | (simp; omega) | (simp [*]; done)) rfl ?_
                refine Ops.r (Run.pickF rfl rfl (by first | rfl | assumption | exact decide_eq_true (by assumption) | exact decide_eq_false (by assumption) | decide | (simp; done) | (simp; omega) | (simp [*]; done))) rfl ?_
                refine Ops.nil ?_
                refine thenQ_n ⟨(.cons (congrArg (fun b => some (Value.bool b)) (by grind)) (.cons rfl (.cons rfl (.cons rfl (.cons rfl (.cons rfl .nil)))))), rfl⟩
            · intro Γ hΓ
              refine thenQ_n (VC.sub _ hΓ ?_)
              refine VC.meet (σ := Nat) (fun s => [(0, .pointer (some ⟨gx, 0, none⟩)), (1, .slice Ba na ca0), (2, .slice Bb nb cb0), (7, .int .i64 ((lg.1 + v3 : Nat) : Int)), (8, .int .i64 ((s2 : Nat) : Int))]) (fun s wr => IsY wr gx Ab cb L p4 A2 c2 o most s ∧ Frm (gx :: ob A) w wr ∧ s = if e4 = 0 ∧ 30 ≤ s2 then 11 else e4) ?_ ?_
              · skip
                refine VC.condD rfl (fun hc5 => ?_) (fun hc5 => ?_)
                · skip
                  refine VC.region ?_
                  refine Ops.r (Run.mv rfl) rfl ?_
                  refine Ops.cl (Enters.fn (evs.cons rfl (evs.cons rfl evs.nil)) Try.call28) (rfail_spec gx Ab cb L p4 A2 c2 o most e4 11 _ hX4) rfl ?_
                  rintro r w5 ⟨rfl, hX5, hf5⟩
                  refine ⟨_, rfl, ?_⟩
                  rw [if_pos hc5.1] at hX5
                  refine Ops.nil ?_
                  refine thenQ_n ⟨11, (.cons rfl (.cons rfl (.cons rfl (.cons rfl (.cons rfl .nil))))), ?_⟩
                  exact ⟨hX5, hfr4.trans hf5 (fun x hx => .inl (by simp at hx; simp [hx])), by rw [if_pos ⟨hc5.1, hc5.2⟩]⟩
                · skip
                  refine VC.skip ?_
                  refine thenQ_n ⟨e4, (.cons rfl (.cons rfl (.cons rfl (.cons rfl (.cons rfl .nil))))), ?_⟩
                  exact ⟨hX4, hfr4, by rw [if_neg (fun h => hc5 ⟨h.1, h.2⟩)]⟩
              · skip
                rintro e5 w5 ⟨hX5, hfr5, he5⟩ Γ hΓ
                have hF5 := hF4.way
                try dsimp only at hF5
                rw [← he5] at hF5
                refine thenQ_n (VC.sub _ hΓ ?_)
                refine VC.seq ?_
                refine VC.seq ?_
                refine VC.region ?_
                refine Ops.r (Run.mv rfl) rfl ?_
                refine Ops.r (Run.nilck rfl) rfl ?_
                refine Ops.r (Run.fieldAddr rfl Try.underlying56 rfl Try.sizeOf3 (by decide)) rfl ?_
                refine Ops.r (Run.load rfl Try.isAgg3 (hX5.1.cell 4)) rfl ?_
                refine Ops.r (Run.bin rfl rfl (Bin.neqN _ 0)) rfl ?_
                refine Ops.nil ?_
                refine thenQ_n ?_
                refine VC.sub [(0, _), (1, _), (2, _), (7, _), (8, _), (70, _)] (.cons rfl (.cons rfl (.cons rfl (.cons rfl (.cons rfl (.cons rfl .nil)))))) ?_
                refine VC.condD rfl (fun hc6 => ?_) (fun hc6 => ?_)
                · skip
                  refine VC.ret ?_
                  refine thenQ_r (blockQ_r (thenQ_r (blockQ_r (end0 ?_))))
                  exact ⟨p4, A2, c2, o, e5, rfl, hX5, hfr5, hu, hF5.left hc6⟩
                · skip
                  have he50 : e5 = 0 := by simpa using hc6
                  have hs30 : s2 < 30 := by
                    by_cases h : e4 = 0 ∧ 30 ≤ s2
                    · rw [if_pos h] at he5; omega
                    · rw [if_neg h] at he5; omega
                  clear he5
                  subst he50
                  have hX5d := hX5.frm0 (Drawn.drew w5).frm
                  have hfr5d := hfr5.drawn (Drawn.drew w5)
                  obtain ⟨hwb, hw1, hwl⟩ := way_b s2 hs30
                  have hwa := wayL_at s2 hs30
                  generalize hwg : wayT.getD s2 (0, 0) = wg at *
                  refine VC.skip ?_
                  refine thenQ_n ?_
                  refine VC.sub [(0, _), (1, _), (2, _), (7, _), (8, _)] (.cons rfl (.cons rfl (.cons rfl (.cons rfl (.cons rfl .nil))))) ?_
                  refine VC.seq ?_
                  refine VC.held (fun _ => True) (by kernel_rfl) ?_
                  have hS : (fun _ : World => True) w5.drew := trivial
                  refine HOps.take 1 rfl (by kernel_rfl) (by kernel_rfl) (by kernel_rfl) hS (fun w0 hw0 => Run.mv rfl) trivial rfl rfl ?_
                  refine HOps.take 4 rfl (by kernel_rfl) (by kernel_rfl) (by kernel_rfl) hS (fun w0 hw0 => Run.mv rfl) trivial rfl rfl ?_
                  refine HOps.take 5 rfl (by kernel_rfl) (by kernel_rfl) (by kernel_rfl) hS (fun w0 hw0 => Run.mv rfl) trivial rfl rfl ?_
                  refine HOps.cl 0 rfl (by kernel_rfl) (Enters.fn evs.nil Try.call21) (rways_spec _) trivial rfl rfl ?_
                  rintro r w6 ⟨At, ct, rfl, hO6, hf6, hut⟩
                  obtain ⟨adt, rfl, hct⟩ := ni_at hO6.rd wayL_len (k := s2) (by omega)
                  have hX6 := hX5d.frm0 hf6
                  have hadt : adt.block ∉ [gx] := fun h => by
                    rw [List.mem_singleton] at h
                    have h2 := hut adt.block (by simp [ob])
                    have h3 := hX5d.lt.1
                    omega
                  refine ⟨_, rfl, trivial, ?_⟩
                  refine HOps.more (fun v => v.cell? (adt.add s2) = some (.int .i64 ((wayL.getD s2 0 : Nat) : Int))) (fun _ _ => trivial) ?_
                  have hS : (fun v => v.cell? (adt.add s2) = some (.int .i64 ((wayL.getD s2 0 : Nat) : Int))) w6 := hct
                  refine HOps.take 2 rfl (by kernel_rfl) (by kernel_rfl) (by kernel_rfl) hS (fun w0 hw0 => Run.index1 _ rfl rfl Try.underlying37 Try.sizeOf3 (by omega)) trivial rfl rfl ?_
                  refine HOps.take 3 rfl (by kernel_rfl) (by kernel_rfl) (by kernel_rfl) hS (fun w0 hw0 => Run.load rfl Try.isAgg3 hw0) trivial rfl rfl ?_
                  refine HOps.cl 6 rfl (by kernel_rfl) (Enters.fn (evs.cons rfl evs.nil) Try.call20) (rwayBits_spec s2 _ (by omega)) trivial rfl rfl ?_
                  rintro r _ ⟨rfl, rfl⟩
                  refine ⟨_, rfl, hS, ?_⟩
                  rw [hwg]
                  refine HOps.cl 7 rfl (by kernel_rfl) (Enters.fn (evs.cons rfl (evs.cons rfl evs.nil)) Try.call27) (rnum_spec gx Ab cb L p4 A2 c2 o most 0 wg.2 _ (by omega) hX6) trivial rfl rfl ?_
                  rintro r w7 ⟨v7, p7, e7, rfl, hX7, hf7, hN7⟩
                  have hS : (fun v => v.cell? (adt.add s2) = some (.int .i64 ((wayL.getD s2 0 : Nat) : Int))) w7 := hf7.cell hct (by rw [blk_add]; exact hadt)
                  refine ⟨_, rfl, hS, ?_⟩
                  have hF7 := hF5.num hN7
                  try dsimp only at hF7
                  obtain ⟨hv7, hp7⟩ := hN7.lt
                  have hv72 : 2 ^ wg.2 ≤ 2 ^ 13 := Nat.pow_le_pow_right (by omega) hwb
                  have hfr7 : Frm (gx :: ob A) w w7 := (hfr5d.trans hf6 (by simp)).trans hf7 (fun x hx => .inl (by simp at hx; simp [hx]))
                  refine HOps.take 8 rfl (by kernel_rfl) (by kernel_rfl) (by kernel_rfl) hS (fun w0 hw0 => Run.bin rfl rfl (Bin.add_i64 _ _ (by omega))) trivial rfl rfl ?_
                  rw [hwa] at hS ⊢
                  refine HOps.take 9 rfl (by kernel_rfl) (by kernel_rfl) (by kernel_rfl) hS (fun w0 hw0 => Run.asg rfl) trivial rfl rfl ?_
                  refine HOps.done (by kernel_rfl) ?_
                  refine thenQ_n ?_
                  refine VC.sub [(0, _), (1, _), (2, _), (7, _), (9, _)] (.cons rfl (.cons rfl (.cons rfl (.cons rfl (.cons rfl .nil))))) ?_
                  refine VC.seq ?_
                  refine VC.seq ?_
                  refine VC.split1 [(0, _), (1, _), (2, _), (7, _), (9, _)] (.cons rfl (.cons rfl (.cons rfl (.cons rfl (.cons rfl .nil))))) 93 (.bool (decide (e7 = 0 ∧ o.length < wg.1 + v7))) ?_ ?_
                  · refine VC.region ?_
                    refine Ops.r (Run.mv rfl) rfl ?_
                    refine Ops.r (Run.nilck rfl) rfl ?_
                    refine Ops.r (Run.fieldAddr rfl Try.underlying56 rfl Try.sizeOf3 (by decide)) rfl ?_
                    refine Ops.r (Run.load rfl Try.isAgg3 (hX7.1.cell 4)) rfl ?_
                    refine Ops.r (Run.bin rfl rfl (Bin.eqlN _ 0)) rfl ?_
                    by_cases hs84 : e7 = 0
                    · skip
                      refine Ops.r (Run.mv rfl) rfl ?_
                      refine Ops.rg rfl (by first | rfl | assumption | exact decide_eq_true (by assumption) | exact decide_eq_false (by assumption) | decide | (simp; done) | (simp; omega) | (simp [*]; done)) (Run.mv rfl) rfl ?_
                      refine Ops.rg rfl (by first | rfl | assumption | exact decide_eq_true (by assumption) | exact decide_eq_false (by assumption) | decide | (simp; done) | (simp; omega) | (simp [*]; done)) (Run.mv rfl) rfl ?_
                      refine Ops.rg rfl (by first | rfl | assumption | exact decide_eq_true (by assumption) | exact decide_eq_false (by assumption) | decide | (simp; done) | (simp; omega) | (simp [*]; done)) (Run.nilck rfl) rfl ?_
                      refine Ops.rg rfl (by first | rfl | assumption | exact decide_eq_true (by assumption) | exact decide_eq_false (by assumption) | decide | (simp; done) | (simp; omega) | (simp [*]; done)) (Run.fieldAddr rfl Try.underlying56 rfl Try.sizeOf22 (by decide)) rfl ?_
                      refine Ops.rg rfl (by first | rfl | assumption | exact decide_eq_true (by assumption) | exact decide_eq_false (by assumption) | decide | (simp; done) | (simp; omega) | (simp [*]; done)) (Run.load rfl Try.isAgg22 (hX7.1.cell 2)) rfl ?_
                      refine Ops.rg rfl (by first | rfl | assumption | exact decide_eq_true (by assumption) | exact decide_eq_false (by assumption) | decide | (simp; done) | (simp; omega) | (simp [*]; done)) (Run.lenS rfl Try.underlying22) rfl ?_
                      refine Ops.rg rfl (by first | rfl | assumption | exact decide_eq_true (by assumption) | exact decide_eq_false (by assumption) | decide | (simp; done) | (simp; omega) | (simp [*]; done)) (Run.bin rfl rfl (Bin.gtrN _ _)) rfl ?_
                      by_cases hs92 : o.length < wg.1 + v7
                      · skip
                        refine Ops.r (Run.pickT rfl rfl (by first | rfl | assumption | exact decide_eq_true (by assumption) | exact decide_eq_false (by assumption) | decide | (simp; done) | (simp; omega) | (simp [*]; done))) rfl ?_
                        refine Ops.nil ?_
                        refine thenQ_n ⟨(.cons (congrArg (fun b => some (Value.bool b)) (by grind)) (.cons rfl (.cons rfl (.cons rfl (.cons rfl (.cons rfl .nil)))))), rfl⟩
                      · skip
                        refine Ops.r (Run.pickT rfl rfl (by first | rfl | assumption | exact decide_eq_true (by assumption) | exact decide_eq_false (by assumption) | decide | (simp; done) | (simp; omega) | (simp [*]; done))) rfl ?_
                        refine Ops.nil ?_
                        refine thenQ_n ⟨(.cons (congrArg (fun b => some (Value.bool b)) (by grind)) (.cons rfl (.cons rfl (.cons rfl (.cons rfl (.cons rfl .nil)))))), rfl⟩
                    · skip
                      refine Ops.r (Run.mv rfl) rfl ?_
                      refine Ops.sk rfl (by first | rfl | assumption | exact decide_eq_true (by assumption) | exact decide_eq_false (by assumption) | decide | (simp; done) | (simp; omega) | (simp [*]; done)) rfl ?_
                      refine Ops.sk rfl (by first | rfl | assumption | exact decide_eq_true (by assumption) | exact decide_eq_false (by assumption) | decide | (simp; done) | (simp; omega) | (simp [*]; done)) rfl ?_
                      refine Ops.sk rfl (by first | rfl | assumption | exact decide_eq_true (by assumption) | exact decide_eq_false (by assumption) | decide | (simp; done) | (simp; omega) | (simp [*]; done)) rfl ?_
                      refine Ops.sk rfl (by first | rfl | assumption | exact decide_eq_true (by assumption) | exact decide_eq_false (by assumption) | decide | (simp; done) | (simp; omega) | (simp [*]; done)) rfl ?_
                      refine Ops.sk rfl (by first | rfl | assumption | exact decide_eq_true (by assumption) | exact decide_eq_false (by assumption) | decide | (simp; done) | (simp; omega) | (simp [*]; done)) rfl ?_
                      refine Ops.sk rfl (by first | rfl | assumption | exact decide_eq_true (by assumption) | exact decide_eq_false (by assumption) | decide | (simp; done) | (simp; omega) | (simp [*]; done)) rfl ?_
                      refine Ops.sk rfl (by first | rfl | assumption | exact decide_eq_true (by assumption) | exact decide_eq_false (by assumption) | decide | (simp; done) | (simp; omega) | (simp [*]; done)) rfl ?_
                      refine Ops.r (Run.pickF rfl rfl (by first | rfl | assumption | exact decide_eq_true (by assumption) | exact decide_eq_false (by assumption) | decide | (simp; done) | (simp; omega) | (simp [*]; done))) rfl ?_
                      refine Ops.nil ?_
                      refine thenQ_n ⟨(.cons (congrArg (fun b => some (Value.bool b)) (by grind)) (.cons rfl (.cons rfl (.cons rfl (.cons rfl (.cons rfl .nil)))))), rfl⟩
                  · intro Γ hΓ
                    refine thenQ_n (VC.sub _ hΓ ?_)
                    refine VC.meet (σ := Nat) (fun s => [(0, .pointer (some ⟨gx, 0, none⟩)), (1, .slice Ba na ca0), (2, .slice Bb nb cb0), (7, .int .i64 ((lg.1 + v3 : Nat) : Int)), (9, .int .i64 ((wg.1 + v7 : Nat) : Int))]) (fun s wr => IsY wr gx Ab cb L p7 A2 c2 o most s ∧ Frm (gx :: ob A) w wr ∧ s = if e7 = 0 ∧ o.length < wg.1 + v7 then 12 else e7) ?_ ?_
                    · skip
                      refine VC.condD rfl (fun hc7 => ?_) (fun hc7 => ?_)
                      · skip
                        refine VC.region ?_
                        refine Ops.r (Run.mv rfl) rfl ?_
                        refine Ops.cl (Enters.fn (evs.cons rfl (evs.cons rfl evs.nil)) Try.call28) (rfail_spec gx Ab cb L p7 A2 c2 o most e7 12 _ hX7) rfl ?_
                        rintro r w8 ⟨rfl, hX8, hf8⟩
                        refine ⟨_, rfl, ?_⟩
                        rw [if_pos hc7.1] at hX8
                        refine Ops.nil ?_
                        refine thenQ_n ⟨12, (.cons rfl (.cons rfl (.cons rfl (.cons rfl (.cons rfl .nil))))), ?_⟩
                        exact ⟨hX8, hfr7.trans hf8 (fun x hx => .inl (by simp at hx; simp [hx])), by rw [if_pos hc7]⟩
                      · skip
                        refine VC.skip ?_
                        refine thenQ_n ⟨e7, (.cons rfl (.cons rfl (.cons rfl (.cons rfl (.cons rfl .nil))))), ?_⟩
                        exact ⟨hX7, hfr7, by rw [if_neg hc7]⟩
                    · skip
                      rintro e8 w8 ⟨hX8, hfr8, he8⟩ Γ hΓ
                      have hF8 := hF7.back
                      try dsimp only at hF8
                      rw [← he8] at hF8
                      refine thenQ_n (VC.sub _ hΓ ?_)
                      refine VC.seq ?_
                      refine VC.seq ?_
                      refine VC.region ?_
                      refine Ops.r (Run.mv rfl) rfl ?_
                      refine Ops.r (Run.nilck rfl) rfl ?_
                      refine Ops.r (Run.fieldAddr rfl Try.underlying56 rfl Try.sizeOf3 (by decide)) rfl ?_
                      refine Ops.r (Run.load rfl Try.isAgg3 (hX8.1.cell 4)) rfl ?_
                      refine Ops.r (Run.bin rfl rfl (Bin.neqN _ 0)) rfl ?_
                      refine Ops.nil ?_
                      refine thenQ_n ?_
                      refine VC.sub [(0, _), (1, _), (2, _), (7, _), (9, _), (100, _)] (.cons rfl (.cons rfl (.cons rfl (.cons rfl (.cons rfl (.cons rfl .nil)))))) ?_
                      refine VC.condD rfl (fun hc8 => ?_) (fun hc8 => ?_)
                      · skip
                        refine VC.ret ?_
                        refine thenQ_r (blockQ_r (thenQ_r (blockQ_r (end0 ?_))))
                        exact ⟨p7, A2, c2, o, e8, rfl, hX8, hfr8, hu, hF8.left hc8⟩
                      · skip
                        have he80 : e8 = 0 := by simpa using hc8
                        have hdo : wg.1 + v7 ≤ o.length := by
                          by_cases h : e7 = 0 ∧ o.length < wg.1 + v7
                          · rw [if_pos h] at he8; omega
                          · rw [if_neg h] at he8; exact Nat.le_of_not_lt (fun h2 => h ⟨by omega, h2⟩)
                        clear he8
                        subst he80
                        have hd1 : 1 ≤ wg.1 + v7 := by omega
                        have hn300 : lg.1 + v3 ≤ 300 := by omega
                        generalize hdd : wg.1 + v7 = d at *
                        generalize hnn : lg.1 + v3 = n at *
                        have hZl0 := copyF_len
                        refine VC.skip ?_
                        refine thenQ_n ?_
                        refine VC.sub [(0, _), (1, _), (2, _), (7, _), (9, _)] (.cons rfl (.cons rfl (.cons rfl (.cons rfl (.cons rfl .nil))))) ?_
                        refine VC.seq ?_
                        refine VC.region ?_
                        refine Ops.r (Run.asg rfl) rfl ?_
                        refine Ops.nil ?_
                        refine thenQ_n ?_
                        refine VC.seq ?_
                        refine VC.seq ?_
                        refine VC.region ?_
                        refine Ops.r (v := .int .i64 ((0 : Nat) : Int)) (Run.asg rfl) rfl ?_
                        refine Ops.nil ?_
                        refine thenQ_n ?_
                        refine VC.block ?_
                        refine VC.loop (σ := Nat × Option Addr × Nat) (fun s => [(0, .pointer (some ⟨gx, 0, none⟩)), (1, .slice Ba na ca0), (2, .slice Bb nb cb0), (7, .int .i64 ((n : Nat) : Int)), (9, .int .i64 ((d : Nat) : Int)), (10, .slice s.2.1 s.1 s.2.2), (11, .int .i64 ((s.1 : Nat) : Int))]) (fun s wr => s.1 ≤ n ∧ IsY wr gx Ab cb L p7 A2 c2 o most 0 ∧ Own wr 5 1 s.2.1 s.1 s.2.2 (NB ((copyF s.1 d o).drop o.length)) ∧ Frm (gx :: ob A) w wr ∧ ∀ y ∈ ob s.2.1, y ∉ ob A2 ∧ w.heap.size ≤ y) (fun s => n - s.1) (0, none, 0) (.cons rfl (.cons rfl (.cons rfl (.cons rfl (.cons rfl (.cons rfl (.cons rfl .nil))))))) ⟨by omega, hX8, by simp only [copyF, List.drop_length]; exact Own.nil _ _ _, hfr8, by simp [ob]⟩ ?_
                        rintro ⟨i, Bc, cc⟩ wl ⟨hi, hXl, hcm, hfrl, hun⟩
                        dsimp only at hi hXl hcm hfrl hun ⊢
                        have hsl := hfrl.size
                        have hZl := hZl0 i d o
                        have hZt := copyF_take i d o
                        have hZlt := copyF_lt i d o hXl.2.2.2.2.2.2.2
                        have hcl : ((copyF i d o).drop o.length).length = i := by rw [List.length_drop, hZl]; omega
                        refine VC.seq ?_
                        refine VC.seq ?_
                        refine VC.region ?_
                        refine Ops.r (Run.mv rfl) rfl ?_
                        refine Ops.r (Run.mv rfl) rfl ?_
                        refine Ops.r (Run.bin rfl rfl (Bin.lssN _ _)) rfl ?_
                        refine Ops.nil ?_
                        refine thenQ_n ?_
                        refine VC.sub [(0, _), (1, _), (2, _), (7, _), (9, _), (10, _), (11, _), (103, _)] (.cons rfl (.cons rfl (.cons rfl (.cons rfl (.cons rfl (.cons rfl (.cons rfl (.cons rfl .nil)))))))) ?_
                        refine VC.condD rfl (fun hc9 => ?_) (fun hc9 => ?_)
                        · skip
                          refine VC.skip ?_
                          refine thenQ_n ?_
                          refine VC.sub [(0, _), (1, _), (2, _), (7, _), (9, _), (10, _), (11, _)] (.cons rfl (.cons rfl (.cons rfl (.cons rfl (.cons rfl (.cons rfl (.cons rfl .nil))))))) ?_
                          refine VC.seq ?_
                          refine VC.block ?_
                          refine VC.seq ?_
                          refine VC.region ?_
                          refine Ops.r (Run.mv rfl) rfl ?_
                          refine Ops.r (Run.nilck rfl) rfl ?_
                          refine Ops.r (Run.fieldAddr rfl Try.underlying56 rfl Try.sizeOf22 (by decide)) rfl ?_
                          refine Ops.r (Run.load rfl Try.isAgg22 (hXl.1.cell 2)) rfl ?_
                          refine Ops.r (Run.lenS rfl Try.underlying22) rfl ?_
                          refine Ops.r (Run.mv rfl) rfl ?_
                          refine Ops.r (Run.bin rfl rfl (Bin.sub_i64 _ _ (by omega) (by omega))) rfl ?_
                          refine Ops.r (Run.mv rfl) rfl ?_
                          refine Ops.r (Run.bin rfl rfl (Bin.add_i64 _ _ (by omega))) rfl ?_
                          refine Ops.r (Run.asg rfl) rfl ?_
                          refine Ops.nil ?_
                          refine thenQ_n ?_
                          refine VC.sub [(0, _), (1, _), (2, _), (7, _), (9, _), (10, _), (11, _), (12, _)] (.cons rfl (.cons rfl (.cons rfl (.cons rfl (.cons rfl (.cons rfl (.cons rfl (.cons rfl .nil)))))))) ?_
                          refine VC.seq ?_
                          refine VC.region ?_
                          refine Ops.r (Run.mv rfl) rfl ?_
                          refine Ops.r (Run.mv rfl) rfl ?_
                          refine Ops.r (Run.nilck rfl) rfl ?_
                          refine Ops.r (Run.fieldAddr rfl Try.underlying56 rfl Try.sizeOf22 (by decide)) rfl ?_
                          refine Ops.r (Run.load rfl Try.isAgg22 (hXl.1.cell 2)) rfl ?_
                          refine Ops.r (Run.lenS rfl Try.underlying22) rfl ?_
                          refine Ops.r (Run.bin rfl rfl (Bin.lssN _ _)) rfl ?_
                          refine Ops.nil ?_
                          refine thenQ_n ?_
                          refine VC.sub [(0, _), (1, _), (2, _), (7, _), (9, _), (10, _), (11, _), (12, _), (121, _)] (.cons rfl (.cons rfl (.cons rfl (.cons rfl (.cons rfl (.cons rfl (.cons rfl (.cons rfl (.cons rfl .nil))))))))) ?_
                          refine VC.condD rfl (fun hc10 => ?_) (fun hc10 => ?_)
                          · skip
                            obtain ⟨adk, hAk, hck⟩ := nb_at hXl.2.2.1.rd (k := o.length - d + i) hc10
                            subst hAk
                            obtain ⟨x0, hx0⟩ : ∃ x, (copyF i d o).getD (o.length - d + i) 0 = x := ⟨_, rfl⟩
                            have hx1 : o.getD (o.length - d + i) 0 = x0 := by
                              rw [← hx0, hZt]
                              simp [List.getD, List.getElem?_append_left hc10]
                            rw [hx1] at hck
                            refine VC.region ?_
                            refine Ops.r (Run.mv rfl) rfl ?_
                            refine Ops.r (Run.mv rfl) rfl ?_
                            refine Ops.r (Run.nilck rfl) rfl ?_
                            refine Ops.r (Run.fieldAddr rfl Try.underlying56 rfl Try.sizeOf22 (by decide)) rfl ?_
                            refine Ops.r (Run.load rfl Try.isAgg22 (hXl.1.cell 2)) rfl ?_
                            refine Ops.r (Run.mv rfl) rfl ?_
                            refine Ops.r (Run.index1 _ rfl rfl Try.underlying22 Try.sizeOf5 (by omega)) rfl ?_
                            refine Ops.r (Run.load rfl Try.isAgg5 hck) rfl ?_
                            refine Ops.m (Does.buildS1 rfl Try.underlying22 Try.sizeOf5 zero5 (by decide) (by decide) rfl rfl) rfl ?_
                            rintro _ w10 ⟨rfl, hF10⟩
                            have hrd10 : Rd w10 1 (some ⟨_, 0, none⟩) 1 (NB [x0]) := Rd.of_blk (n := 1) (size := 1) hF10.blk rfl
                            have hX10 := hXl.frm0 hF10.frm
                            have hcm10 := hcm.frm hF10.frm (by simp)
                            have hs10 := hF10.frm.size
                            refine Ops.m (Does.app rfl rfl Try.underlying22 (info5) rfl (by decide) hcm10 hrd10 (NB_one _) (by omega) (by omega)) rfl ?_
                            rintro _ w11 ⟨B11, c11, rfl, ho11, hf11, hob11⟩
                            have hdj : ∀ x ∈ gx :: (ob Ab ++ ob (some adk)), x ∉ ob Bc := fun x hx h => by
                              rcases List.mem_cons.1 hx with h2 | hx
                              · exact hcm10.ne_blk hX10.1 (by decide) (h2 ▸ h)
                              rcases List.mem_append.1 hx with hx | hx
                              · exact hX10.2.1.ne_own hcm10 (by decide) x hx h
                              · exact (hun x h).1 hx
                            have hX11 := hX10.frm hf11 hdj
                            have hfr11 : Frm (gx :: ob A) w w11 := (hfrl.trans hF10.frm (by simp)).trans hf11 (fun x hx => .inr (hun x hx).2)
                            have hun11 : ∀ y ∈ ob B11, y ∉ ob (some adk) ∧ w.heap.size ≤ y := fun y hy => by
                              rcases hob11 with h | h
                              · exact hun y (h ▸ hy)
                              · rw [h, List.mem_singleton] at hy
                                have h3 := hX10.lt.2.2
                                exact ⟨fun h2 => by have := h3 y h2; omega, by omega⟩
                            refine Ops.r (Run.asg rfl) rfl ?_
                            refine Ops.nil ?_
                            refine blockQ_n (thenQ_n ?_)
                            refine VC.sub [(0, _), (1, _), (2, _), (7, _), (9, _), (10, _), (11, _)] (.cons rfl (.cons rfl (.cons rfl (.cons rfl (.cons rfl (.cons rfl (.cons rfl .nil))))))) ?_
                            refine VC.region ?_
                            refine Ops.r (Run.mv rfl) rfl ?_
                            refine Ops.r (Run.bin rfl rfl (Bin.add_i64 _ 1 (by omega))) rfl ?_
                            refine Ops.r (Run.asg rfl) rfl ?_
                            refine Ops.nil ?_
                            refine thenQ_n ⟨(i + 1, B11, c11), (.cons rfl (.cons rfl (.cons rfl (.cons rfl (.cons rfl (.cons rfl (.cons rfl .nil))))))), ?_, ?_⟩
                            · skip
                              refine ⟨hc9, hX11, ?_, hfr11, hun11⟩
                              dsimp only
                              rw [copyF_snoc, List.drop_append_of_le_length (by rw [hZl]; omega), hZl, show o.length + i - d = o.length - d + i by omega, hx0, NB_app]
                              exact ho11
                            · skip
                              dsimp only; omega
                          · skip
                            have hcr : Rd wl 1 Bc ((copyF i d o).drop o.length).length (NB ((copyF i d o).drop o.length)) := by rw [hcl]; exact hcm.rd
                            obtain ⟨adk, hAk, hck⟩ := nb_at hcr (k := o.length - d + i - o.length) (by omega)
                            subst hAk
                            obtain ⟨x0, hx0⟩ : ∃ x, (copyF i d o).getD (o.length - d + i) 0 = x := ⟨_, rfl⟩
                            have hx1 : ((copyF i d o).drop o.length).getD (o.length - d + i - o.length) 0 = x0 := by
                              rw [← hx0]
                              simp only [List.getD, List.getElem?_drop]
                              rw [show o.length + (o.length - d + i - o.length) = o.length - d + i by omega]
                            rw [hx1] at hck
                            refine VC.region ?_
                            refine Ops.r (Run.mv rfl) rfl ?_
                            refine Ops.r (Run.mv rfl) rfl ?_
                            refine Ops.r (Run.mv rfl) rfl ?_
                            refine Ops.r (Run.mv rfl) rfl ?_
                            refine Ops.r (Run.nilck rfl) rfl ?_
                            refine Ops.r (Run.fieldAddr rfl Try.underlying56 rfl Try.sizeOf22 (by decide)) rfl ?_
                            refine Ops.r (Run.load rfl Try.isAgg22 (hXl.1.cell 2)) rfl ?_
                            refine Ops.r (Run.lenS rfl Try.underlying22) rfl ?_
                            refine Ops.r (Run.bin rfl rfl (Bin.sub_i64 _ _ (by omega) (by omega))) rfl ?_
                            refine Ops.r (Run.index1 _ rfl rfl Try.underlying22 Try.sizeOf5 (by omega)) rfl ?_
                            refine Ops.r (Run.load rfl Try.isAgg5 hck) rfl ?_
                            refine Ops.m (Does.buildS1 rfl Try.underlying22 Try.sizeOf5 zero5 (by decide) (by decide) rfl rfl) rfl ?_
                            rintro _ w10 ⟨rfl, hF10⟩
                            have hrd10 : Rd w10 1 (some ⟨_, 0, none⟩) 1 (NB [x0]) := Rd.of_blk (n := 1) (size := 1) hF10.blk rfl
                            have hX10 := hXl.frm0 hF10.frm
                            have hcm10 := hcm.frm hF10.frm (by simp)
                            have hs10 := hF10.frm.size
                            refine Ops.m (Does.app rfl rfl Try.underlying22 (info5) rfl (by decide) hcm10 hrd10 (NB_one _) (by omega) (by omega)) rfl ?_
                            rintro _ w11 ⟨B11, c11, rfl, ho11, hf11, hob11⟩
                            have hdj : ∀ x ∈ gx :: (ob Ab ++ ob A2), x ∉ ob (some adk) := fun x hx h => by
                              rcases List.mem_cons.1 hx with h2 | hx
                              · exact hcm10.ne_blk hX10.1 (by decide) (h2 ▸ h)
                              rcases List.mem_append.1 hx with hx | hx
                              · exact hX10.2.1.ne_own hcm10 (by decide) x hx h
                              · exact (hun x h).1 hx
                            have hX11 := hX10.frm hf11 hdj
                            have hfr11 : Frm (gx :: ob A) w w11 := (hfrl.trans hF10.frm (by simp)).trans hf11 (fun x hx => .inr (hun x hx).2)
                            have hun11 : ∀ y ∈ ob B11, y ∉ ob A2 ∧ w.heap.size ≤ y := fun y hy => by
                              rcases hob11 with h | h
                              · exact hun y (h ▸ hy)
                              · rw [h, List.mem_singleton] at hy
                                have h3 := hX10.lt.2.2
                                exact ⟨fun h2 => by have := h3 y h2; omega, by omega⟩
                            refine Ops.r (Run.asg rfl) rfl ?_
                            refine Ops.nil ?_
                            refine blockQ_n (thenQ_n ?_)
                            refine VC.sub [(0, _), (1, _), (2, _), (7, _), (9, _), (10, _), (11, _)] (.cons rfl (.cons rfl (.cons rfl (.cons rfl (.cons rfl (.cons rfl (.cons rfl .nil))))))) ?_
                            refine VC.region ?_
                            refine Ops.r (Run.mv rfl) rfl ?_
                            refine Ops.r (Run.bin rfl rfl (Bin.add_i64 _ 1 (by omega))) rfl ?_
                            refine Ops.r (Run.asg rfl) rfl ?_
                            refine Ops.nil ?_
                            refine thenQ_n ⟨(i + 1, B11, c11), (.cons rfl (.cons rfl (.cons rfl (.cons rfl (.cons rfl (.cons rfl (.cons rfl .nil))))))), ?_, ?_⟩
                            · skip
                              refine ⟨hc9, hX11, ?_, hfr11, hun11⟩
                              dsimp only
                              rw [copyF_snoc, List.drop_append_of_le_length (by rw [hZl]; omega), hZl, show o.length + i - d = o.length - d + i by omega, hx0, NB_app]
                              exact ho11
                            · skip
                              dsimp only; omega
                        · skip
                          have hin : n = i := by omega
                          subst hin
                          refine VC.exit ?_
                          refine thenQ_x (thenQ_x (blockQ_x ?_))
                          refine thenQ_n ?_
                          refine VC.sub [(0, _), (1, _), (2, _), (10, _)] (.cons rfl (.cons rfl (.cons rfl (.cons rfl .nil)))) ?_
                          refine VC.region ?_
                          refine Ops.r (Run.mv rfl) rfl ?_
                          refine Ops.r (Run.mv rfl) rfl ?_
                          refine Ops.cl (Enters.fn (evs.cons rfl (evs.cons rfl evs.nil)) Try.call42) (rput_spec gx Ab Bc cb cc n ((copyF n d o).drop o.length) L p7 A2 c2 o most 0 _ hcl (by omega) (fun x hx => hZlt x (List.mem_of_mem_drop hx)) hcm.rd hXl) rfl ?_
                          rintro r w9 ⟨A9, c9, o9, e9, rfl, hX9, hf9, hu9, hput⟩
                          refine ⟨_, rfl, ?_⟩
                          have hF9 := hF8.come hput
                          have hfr9 : Frm (gx :: ob A) w w9 := hfrl.trans hf9 (fun x hx => by
                            rcases List.mem_cons.1 hx with rfl | hx
                            · exact .inl (by simp)
                            · rcases hu x hx with h6 | h6
                              · exact .inl (by simp [h6])
                              · exact .inr h6)
                          refine Ops.nil ?_
                          refine blockQ_n (thenQ_n ⟨(f, p7, A9, c9, o9, e9), (.cons rfl (.cons rfl (.cons rfl .nil))), ?_, ?_⟩)
                          · skip
                            exact ⟨fun _ => he, hX9, hfr9, fun y hy => (hu9 y hy).elim (hu y) (fun h => .inr (by omega)), hF9, fun _ => by dsimp only; omega⟩
                          · skip
                            dsimp only; rw [if_pos rfl]; split <;> omega
  · skip
    have hF9 := hF.left (G' := K (q, o)) hc1
    refine VC.exit ?_
    refine thenQ_x (thenQ_x (blockQ_x ?_))
    refine end0n ?_
    exact ⟨q, A2, c2, o, e0, rfl, hX, hfr, hu, hF9⟩

end Go.Proofs.Ytfjhmbgckmhdaaa
