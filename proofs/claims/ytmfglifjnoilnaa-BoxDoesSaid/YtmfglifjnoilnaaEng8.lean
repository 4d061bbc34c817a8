/-
  A call and something made, of which either may come first.
-/
import Derived.Test.YtmfglifjnoilnaaEng7
namespace Go.Proofs.Ytmfglifjnoilnaa
open Go.RowKit
theorem Frm.cell {w v : World} {S : List Nat} (h : Frm S w v) {a : Addr} {x : Value} (hc : w.cell? a = some x) (hS : a.block ∉ S) : v.cell? a = some x := by
  rw [World.cell?_of_block (w := w) (a := a) (h.block _ (World.block_lt_of_cell? w _ hc) hS)]
  exact hc
theorem Does.mono {P : Program} {o : Oper} {Γ : Env} {w : World} {R R' : Value → World → Prop} (h : Does P o Γ w R) (hr : ∀ v w', R v w' → R' v w') : Does P o Γ w R' := fun ρ hρ =>
  let ⟨v, w', h1, h2⟩ := h ρ hρ; ⟨v, w', h1, hr v w' h2⟩
section
variable {P : Program} {n : NF} {Γ : Env} {Pn : List PanicEntry → World → Prop} {w : World} {K : Env → World → Prop} {ops : Array Oper} {S : World → Prop} {L fuel : Nat} {listed : Array Bool}
/-- A call (i) and something made (j): what holds behind both, whichever came first, is Φ. -/
theorem HOps.cm {f : FuncId} {args : Array Value} {R : Ending → World → Prop} {M : Value → World → Prop} (Φ : Value → Value → World → Prop) {d e : Nat} (i j : Nat) {oi oj : Oper} (hi : ops[i]? = some oi) (hj : ops[j]? = some oj) {l2 : List Nat} (hr : Region.ready .any ops listed = l2) (hl2 : ∀ x ∈ l2, x = i ∨ x = j) (hl0 : l2 ≠ [])
    (hri : Region.ready .any ops (listed.setIfInBounds i true) = [j]) (hrj : Region.ready .any ops (listed.setIfInBounds j true) = [i])
    (hl : (listed.setIfInBounds j true).setIfInBounds i true = (listed.setIfInBounds i true).setIfInBounds j true) (hgi : oi.guard = none) (hgj : oj.guard = none) (hd : oi.dst = some d) (he : oj.dst = some e) (hdn : Nat.blt d n.n = true) (hen : Nat.blt e n.n = true) (hne : Nat.beq d e = false)
    (he1 : Enters P oi Γ w f args) (hc1 : Calls P f args w R)
    (h1 : ∀ x w1, R x w1 → ∃ u, x = .returned u ∧ S w1 ∧ Does P oj ((d, u) :: Γ) w1 fun v w2 => S w2 ∧ Φ u v w2)
    (h2 : Does P oj Γ w M) (h3 : ∀ v w1, M v w1 → S w1 ∧ Enters P oi ((e, v) :: Γ) w1 f args ∧ Calls P f args w1 fun x w2 => ∃ u, x = .returned u ∧ S w2 ∧ Φ u v w2)
    (k : ∀ u v w', Φ u v w' → HOps P n ops S Pn L fuel ((listed.setIfInBounds i true).setIfInBounds j true) ((e, v) :: (d, u) :: Γ) w' K) : HOps P n ops S Pn L (fuel + 1 + 1) listed Γ w K := by
  intro a hs
  refine wpAnyE_all hr hl0 ?_
  intro x hx
  rcases hl2 x hx with rfl | rfl
  · unfold wpOp
    simp only [hi]
    rw [if_pos (by unfold Region.wanted; rw [hgi])]
    left
    unfold Oper.wp
    rw [he1 _ hs.fits, Oper.upon_enter, hd]
    refine hc1.mono ?_
    intro x w1 hR
    obtain ⟨u, rfl, hS, hD⟩ := h1 x w1 hR
    exact ⟨hS, (HOps.m (S := S) j hj hri hD (by rw [hgj]; trivial) he hen (fun v w' hR => ⟨hR.1, k u v w' hR.2⟩)) _ (hs.put hdn u)⟩
  · unfold wpOp
    simp only [hj]
    rw [if_pos (by unfold Region.wanted; rw [hgj])]
    left
    obtain ⟨v, w', hrun, hR⟩ := h2 _ hs.fits
    unfold Oper.wp
    rw [hrun, Oper.upon_value, he]
    obtain ⟨hS', hE, hC⟩ := h3 v w' hR
    refine ⟨hS', (HOps.cl (S := S) i hi hrj hE hC (by rw [hgi]; trivial) hd hdn (fun x w2 hx2 => ?_)) _ (hs.put hen v)⟩
    obtain ⟨u, rfl, hS2, hΦ⟩ := hx2
    refine ⟨u, rfl, hS2, ?_⟩
    rw [hl]
    intro a' hs'
    exact k u v w2 hΦ a' (Sat.swap hne hs')
end
end Go.Proofs.Ytmfglifjnoilnaa
