/-
  Regions that draw their order, with calls and writes in them: what only reads is taken first, under a condition S on the worlds that every other operation keeps.
-/
import Derived.Test.YtebaojedpnnliaaEng4
import Derived.OrdersHeld
namespace Go.Proofs.Ytebaojedpnnliaa
open Go.RowKit

def liftN (n : Nat) (K : Env → World → Prop) (e : Exit) (a : Act) (w : World) : Prop := match e with
  | .normal => ∃ Γ, Sat n Γ a ∧ K Γ w
  | _ => False

def HOps (P : Program) (n : Nat) (ops : Array Oper) (S : World → Prop) (fuel : Nat) (listed : Array Bool) (Γ : Env) (w : World) (K : Env → World → Prop) : Prop :=
  ∀ a, Sat n Γ a → wpAnyH P .any ops (liftN n K) S fuel listed a w

section
variable {P : Program} {n : Nat} {Γ Γ' : Env} {w : World} {Q : Exit → Env → World → Prop} {K : Env → World → Prop} {ops : Array Oper} {S S' : World → Prop} {fuel : Nat} {listed : Array Bool}

theorem Up.g {j : Nat} {b c : Bool} (hy : yi ops Γ j = some (.bool b)) (hb : b = c) : Up ops Γ (some (j, c)) := by subst hb; exact hy
theorem VC.held {id : Nat} {l : List Oper} (S : World → Prop) (hm : P.follows .mixedOrders = true)
    (h : HOps P n l.toArray S l.toArray.size (Array.replicate l.toArray.size false) Γ w.drew (fun Γ' w' => Q .normal Γ' w')) : VC P n (.region id l.toArray true) Γ w Q := by
  intro a hs
  refine Go.Code.wp_mono (Q := liftN n (fun Γ' w' => Q .normal Γ' w')) ?_ (wp_region_held hm (h a hs))
  intro e a w hq
  cases e with
  | normal => exact hq
  | _ => exact hq.elim

theorem wpAnyH_mono {QQ : Exit → Act → World → Prop} (hS : ∀ w, S' w → S w) : ∀ (fuel : Nat) (listed : Array Bool) (a : Act) (w : World), wpAnyH P .any ops QQ S' fuel listed a w → wpAnyH P .any ops QQ S fuel listed a w
  | 0, _, _, _, h => h
  | fuel + 1, _, _, _, h => ⟨h.1, fun i hi => wpOp_mono (fun a' w' h' => ⟨hS _ h'.1, wpAnyH_mono hS fuel _ a' w' h'.2⟩) (h.2 i hi)⟩

/-- From here on more is kept. -/
theorem HOps.more (S' : World → Prop) (hS : ∀ w, S' w → S w) (h : HOps P n ops S' fuel listed Γ w K) : HOps P n ops S fuel listed Γ w K := fun a hs => wpAnyH_mono hS _ _ _ _ (h a hs)

theorem HOps.done (hr : Region.ready .any ops listed = []) (h : K Γ w) : HOps P n ops S fuel listed Γ w K := fun _ hs => wpAnyH_done hr ⟨Γ, hs, h⟩ fuel

theorem HOps.take {v : Value} {d : Nat} (i : Nat) {oi : Oper} (hi : ops[i]? = some oi) (hsel : Region.noSelect ops = true) (hf : Region.free .any ops listed i = true) (hr : (Region.ready .any ops listed).contains i = true)
    (hS : S w) (h : ∀ w', S w' → Run P oi Γ w' v) (hup : Up ops Γ oi.guard) (hd : oi.dst = some d) (hn : Nat.blt d n = true)
    (k : HOps P n ops S fuel (listed.setIfInBounds i true) ((d, v) :: Γ) w K) : HOps P n ops S (fuel + 1) listed Γ w K := by
  intro a hs
  refine wpAnyH_take hi hsel hf hr (fun _ _ _ h => h.elim) (.inl ⟨hup.wanted hs, fun w' hw' => h w' hw' _ hs.fits⟩) hS ?_
  rw [hd]
  exact k _ (hs.put hn v)
theorem HOps.skip {d : Nat} (i : Nat) {oi : Oper} {j : Nat} {b c : Bool} (hi : ops[i]? = some oi) (hsel : Region.noSelect ops = true) (hf : Region.free .any ops listed i = true) (hr : (Region.ready .any ops listed).contains i = true)
    (hS : S w) (hg : oi.guard = some (j, c)) (hy : yi ops Γ j = some (.bool b)) (hbc : b = !c) (hd : oi.dst = some d) (hn : Nat.blt d n = true)
    (k : HOps P n ops S fuel (listed.setIfInBounds i true) ((d, undef) :: Γ) w K) : HOps P n ops S (fuel + 1) listed Γ w K := by
  intro a hs
  refine wpAnyH_take (v := undef) hi hsel hf hr (fun _ _ _ h => h.elim) (.inr ⟨?_, rfl⟩) hS ?_
  · unfold Region.wanted
    rw [hg]
    simp only
    rw [yi_spec hs hy, hbc]
    cases c <;> rfl
  · rw [hd]
    exact k _ (hs.put hn undef)
/-- The one operation that may come up. -/
theorem HOps.of_wp (i : Nat) {oi : Oper} (hi : ops[i]? = some oi) (hr : Region.ready .any ops listed = [i]) (hup : Up ops Γ oi.guard)
    (h : ∀ a, Sat n Γ a → oi.wp P a w (fun a' w' => S w' ∧ wpAnyH P .any ops (liftN n K) S fuel (listed.setIfInBounds i true) a' w') (liftN n K)) : HOps P n ops S (fuel + 1) listed Γ w K := by
  intro a hs
  refine wpAnyH_all hr (by simp) ?_
  intro j hj
  simp only [List.mem_singleton] at hj
  subst hj
  unfold wpOp
  simp only [hi]
  rw [if_pos (hup.wanted hs)]
  exact .inl (h a hs)
theorem HOps.m {R : Value → World → Prop} {d : Nat} (i : Nat) {oi : Oper} (hi : ops[i]? = some oi) (hr : Region.ready .any ops listed = [i]) (h : Does P oi Γ w R) (hup : Up ops Γ oi.guard) (hd : oi.dst = some d) (hn : Nat.blt d n = true)
    (k : ∀ v w', R v w' → S w' ∧ HOps P n ops S fuel (listed.setIfInBounds i true) ((d, v) :: Γ) w' K) : HOps P n ops S (fuel + 1) listed Γ w K :=
  HOps.of_wp i hi hr hup fun a hs => by
    obtain ⟨v, w', hrun, hR⟩ := h _ hs.fits
    unfold Oper.wp
    rw [hrun, Oper.upon_value, hd]
    exact ⟨(k v w' hR).1, (k v w' hR).2 _ (hs.put hn v)⟩
theorem HOps.st {R : World → Prop} (i : Nat) {oi : Oper} (hi : ops[i]? = some oi) (hr : Region.ready .any ops listed = [i]) (h : Acts P oi Γ w R) (hup : Up ops Γ oi.guard) (hd : oi.dst = none)
    (k : ∀ w', R w' → S w' ∧ HOps P n ops S fuel (listed.setIfInBounds i true) Γ w' K) : HOps P n ops S (fuel + 1) listed Γ w K :=
  HOps.of_wp i hi hr hup fun a hs => by
    obtain ⟨w', hrun, hR⟩ := h _ hs.fits
    unfold Oper.wp
    rw [hrun, Oper.upon_skip, hd]
    exact ⟨(k w' hR).1, (k w' hR).2 _ hs⟩
theorem HOps.cl {f : FuncId} {args : Array Value} {R : Ending → World → Prop} {d : Nat} (i : Nat) {oi : Oper} (hi : ops[i]? = some oi) (hr : Region.ready .any ops listed = [i]) (he : Enters P oi Γ w f args) (hc : Calls P f args w R) (hup : Up ops Γ oi.guard) (hd : oi.dst = some d) (hn : Nat.blt d n = true)
    (k : ∀ e w', R e w' → ∃ v, e = .returned v ∧ S w' ∧ HOps P n ops S fuel (listed.setIfInBounds i true) ((d, v) :: Γ) w' K) : HOps P n ops S (fuel + 1) listed Γ w K :=
  HOps.of_wp i hi hr hup fun a hs => by
    unfold Oper.wp
    rw [he _ hs.fits, Oper.upon_enter, hd]
    refine hc.mono ?_
    intro e w' hR
    obtain ⟨v, rfl, h1, h2⟩ := k e w' hR
    exact ⟨h1, h2 _ (hs.put hn v)⟩
end
end Go.Proofs.Ytebaojedpnnliaa
