/-
  Regions that draw their order, with calls and writes in them: what only reads is taken first, under a condition S on the worlds that every other operation keeps.
-/
import Derived.Test.YtmfglifjnoilnaaEng4
import Derived.OrdersHeld
namespace Go.Proofs.Ytmfglifjnoilnaa
open Go.RowKit

/-- Number i is not the last one, which waits for it. -/
def lastOk (ops : Array Oper) (L i : Nat) : Bool := match ops[L]? with
  | none => true
  | some o => !Nat.beq i L && o.after.any fun e => Region.binds .any e && Nat.beq e.on i
/-- Whatever order is picked, and S holds behind every operation but number L. -/
def wpAnyE (P : Program) (ops : Array Oper) (Q : Exit → Act → World → Prop) (S : World → Prop) (L : Nat) : Nat → Array Bool → Act → World → Prop
  | 0, listed, a, w => Region.ready .any ops listed = [] ∧ Q .normal a w
  | f + 1, listed, a, w => (Region.ready .any ops listed = [] → Q .normal a w) ∧
    ∀ i ∈ Region.ready .any ops listed, wpOp P ops Q i (fun a' w' => (i ≠ L → S w') ∧ wpAnyE P ops Q S L f (listed.setIfInBounds i true) a' w') a w
section
variable {P : Program} {ops : Array Oper} {Q : Exit → Act → World → Prop} {S : World → Prop} {L : Nat}
theorem wpAnyE_any : ∀ (f : Nat) (listed : Array Bool) (a : Act) (w : World), wpAnyE P ops Q S L f listed a w → wpAny P .any ops Q f listed a w
  | 0, _, _, _, h => h
  | f + 1, _, _, _, h => ⟨h.1, fun i hi => wpOp_mono (fun a' w' h' => wpAnyE_any f _ a' w' h'.2) (h.2 i hi)⟩
theorem wpAnyE_first {i : Nat} {oi : Oper} {v : Value} (hi : ops[i]? = some oi) (hL : lastOk ops L i = true) (hsel : ∀ (j : Nat) (o : Oper) cs b, ops[j]? = some o → o.op ≠ .select cs b) (hQ : ∀ c a w, Q (.panic c) (a.put oi.dst v) w → Q (.panic c) a w) :
    ∀ (f : Nat) (listed : Array Bool) (a : Act) (w : World), (∀ j oj, ops[j]? = some oj → j ≠ i → listed.getD j true = false → (∀ e ∈ oj.after, Region.binds .any e = true → e.on ≠ i) → oi.apart ops oj = true) →
      i ∈ Region.ready .any ops listed → YieldsIf P ops S oi v a → S w → wpAnyE P ops Q S L f (listed.setIfInBounds i true) (a.put oi.dst v) w → wpAnyE P ops Q S L (f + 1) listed a w
  | f, listed, a, w, hfree, hr, hy, hS, H => by
    refine ⟨fun h => absurd hr (by rw [h]; simp), fun j hj => ?_⟩
    by_cases hji : j = i
    · subst hji
      exact hy.wpOp hi hS ⟨fun _ => hS, H⟩
    have hj2 := ready_mono hj hji
    cases f with
    | zero => exact absurd hj2 (by rw [H.1]; simp)
    | succ f =>
      obtain ⟨hjun, oj, hoj, hall⟩ := mem_ready.1 hj
      have hiun := (mem_ready.1 hr).1
      have hnot : ∀ e ∈ oj.after, Region.binds .any e = true → e.on ≠ i := fun e he hb heq => by
        have h1 := hall e he hb
        rw [heq] at h1
        by_cases h' : i < listed.size
        · simp [h'] at hiun h1
          rw [hiun] at h1
          cases h1
        · simp [Array.getElem?_eq_none (Nat.le_of_not_lt h')] at h1
      have hjL : j ≠ L := fun h => by
        subst h
        unfold lastOk at hL
        rw [hoj] at hL
        simp only [Bool.and_eq_true, Array.any_eq_true'] at hL
        obtain ⟨_, e, he, hb, hon⟩ := hL
        exact hnot e he hb (Nat.eq_of_beq_eq_true hon)
      refine wpOp_mono (fun a' w' h3 => ?_) (wpOp_putIf hoj (hfree j oj hoj hji hjun hnot) (fun cs b => hsel i oi cs b hi) (fun cs b => hsel j oj cs b hoj) hQ hy (H.2 j hj2))
      refine ⟨h3.2.1, wpAnyE_first hi hL hsel hQ f _ a' w' (fun k ok hk hki hun hno => hfree k ok hk hki ?_ hno) (ready_mono hr (Ne.symm hji)) h3.1 (h3.2.1 hjL) ?_⟩
      · by_cases hjk : j = k
        · subst hjk; exact hjun
        · rwa [getD_set_ne true hjk] at hun
      · rw [Array.setIfInBounds_comm _ _ hji]
        exact h3.2.2
theorem wpAnyE_take {i : Nat} {oi : Oper} {v : Value} {f : Nat} {listed : Array Bool} {a : Act} {w : World} (hi : ops[i]? = some oi) (hs : (Region.noSelect ops && lastOk ops L i) = true) (hf : Region.free .any ops listed i = true) (hr : (Region.ready .any ops listed).contains i = true)
    (hQ : ∀ c a w, Q (.panic c) (a.put oi.dst v) w → Q (.panic c) a w) (hy : YieldsIf P ops S oi v a) (hS : S w) (h : wpAnyE P ops Q S L f (listed.setIfInBounds i true) (a.put oi.dst v) w) : wpAnyE P ops Q S L (f + 1) listed a w :=
  wpAnyE_first hi (Bool.and_eq_true _ _ ▸ hs).2 (Region.noSelect_spec (Bool.and_eq_true _ _ ▸ hs).1) hQ f listed a w (Region.free_spec hi hf) (by simpa using hr) hy hS h
theorem wpAnyE_all {rs : List Nat} {f : Nat} {listed : Array Bool} {a : Act} {w : World} (hr : Region.ready .any ops listed = rs) (hne : rs ≠ [])
    (h : ∀ i ∈ rs, wpOp P ops Q i (fun a' w' => S w' ∧ wpAnyE P ops Q S L f (listed.setIfInBounds i true) a' w') a w) : wpAnyE P ops Q S L (f + 1) listed a w :=
  ⟨fun h0 => absurd (hr ▸ h0) hne, hr ▸ fun i hi => wpOp_mono (fun _ _ h => ⟨fun _ => h.1, h.2⟩) (h i hi)⟩
theorem wpAnyE_last {f : Nat} {listed : Array Bool} {a : Act} {w : World} (hr : Region.ready .any ops listed = [L]) (h : wpOp P ops Q L (fun a' w' => wpAnyE P ops Q S L f (listed.setIfInBounds L true) a' w') a w) : wpAnyE P ops Q S L (f + 1) listed a w := by
  refine ⟨fun h0 => (by rw [hr] at h0; cases h0), fun i hi => ?_⟩
  rw [hr] at hi
  simp only [List.mem_singleton] at hi
  subst hi
  exact wpOp_mono (fun _ _ h => ⟨fun h0 => absurd rfl h0, h⟩) h
theorem wpAnyE_done {listed : Array Bool} {a : Act} {w : World} (hr : Region.ready .any ops listed = []) (h : Q .normal a w) : ∀ f, wpAnyE P ops Q S L f listed a w
  | 0 => ⟨hr, h⟩
  | _ + 1 => ⟨fun _ => h, by rw [hr]; simp⟩
theorem wp_region_E {id : Nat} {a : Act} {w : World} (hm : P.follows .mixedOrders = true) (h : wpAnyE P ops Q S L ops.size (Array.replicate ops.size false) a w.drew) : (Code.region id ops true).wp P Q a w :=
  wp_region_any hm (wpAnyE_any _ _ _ _ h)
end

def liftN (n : NF) (K : Env → World → Prop) (Pn : List PanicEntry → World → Prop) (e : Exit) (a : Act) (w : World) : Prop := match e with
  | .normal => ∃ Γ, Sat n Γ a ∧ K Γ w
  | .panic ch => (a.tmps.size = n.n ∧ a.defers = n.D) ∧ Pn ch w
  | _ => False

def HOps (P : Program) (n : NF) (ops : Array Oper) (S : World → Prop) (Pn : List PanicEntry → World → Prop) (L fuel : Nat) (listed : Array Bool) (Γ : Env) (w : World) (K : Env → World → Prop) : Prop :=
  ∀ a, Sat n Γ a → wpAnyE P ops (liftN n K Pn) S L fuel listed a w
theorem liftN_put {n : NF} {K : Env → World → Prop} {Pn : List PanicEntry → World → Prop} {d : Option Tmp} {v : Value} : ∀ (c : List PanicEntry) (a : Act) (w : World), liftN n K Pn (.panic c) (a.put d v) w → liftN n K Pn (.panic c) a w := by
  intro c a w h
  cases d with
  | none => exact h
  | some d => exact ⟨⟨by have := h.1.1; simpa [Act.put] using this, h.1.2⟩, h.2⟩

section
variable {P : Program} {n : NF} {Γ Γ' : Env} {w : World} {Q : Exit → Env → World → Prop} {Pn : List PanicEntry → World → Prop} {K : Env → World → Prop} {ops : Array Oper} {S S' : World → Prop} {L fuel : Nat} {listed : Array Bool}

theorem Up.g {j : Nat} {b c : Bool} (hy : yi ops Γ j = some (.bool b)) (hb : b = c) : Up ops Γ (some (j, c)) := by subst hb; exact hy
theorem VC.heldL {id : Nat} {l : List Oper} (L : Nat) (S : World → Prop) (hm : P.follows .mixedOrders = true)
    (h : HOps P n l.toArray S (fun ch w' => Q (.panic ch) [] w') L l.toArray.size (Array.replicate l.toArray.size false) Γ w.drew (fun Γ' w' => Q .normal Γ' w')) (hnd : n.ro = none ∨ noDefer l.toArray = true := by first | exact .inl rfl | exact .inr (by kernel_rfl)) : VC P n (.region id l.toArray true) Γ w Q := by
  intro a hs m
  refine wpIn_mono (Q := liftN n (fun Γ' w' => Q .normal Γ' w') (fun ch w' => Q (.panic ch) [] w')) (wpIn_region_any hm (wpAny_in hnd (fun ⟨_, _, h⟩ => h) _ _ _ _ (wpAnyE_any _ _ _ _ (h a hs)))) ?_
  intro e a w hq
  cases e with
  | normal => exact hq
  | panic ch => exact ⟨[], ⟨hq.1.1, hq.1.2, fun t v h => by simp [get?] at h⟩, hq.2⟩
  | _ => exact hq.elim
theorem VC.held {id : Nat} {l : List Oper} (S : World → Prop) (hm : P.follows .mixedOrders = true)
    (h : HOps P n l.toArray S (fun ch w' => Q (.panic ch) [] w') l.toArray.size l.toArray.size (Array.replicate l.toArray.size false) Γ w.drew (fun Γ' w' => Q .normal Γ' w')) (hnd : n.ro = none ∨ noDefer l.toArray = true := by first | exact .inl rfl | exact .inr (by kernel_rfl)) : VC P n (.region id l.toArray true) Γ w Q := VC.heldL _ S hm h hnd

theorem wpAnyE_mono {QQ : Exit → Act → World → Prop} (hS : ∀ w, S' w → S w) : ∀ (fuel : Nat) (listed : Array Bool) (a : Act) (w : World), wpAnyE P ops QQ S' L fuel listed a w → wpAnyE P ops QQ S L fuel listed a w
  | 0, _, _, _, h => h
  | fuel + 1, _, _, _, h => ⟨h.1, fun i hi => wpOp_mono (fun a' w' h' => ⟨fun hi => hS _ (h'.1 hi), wpAnyE_mono hS fuel _ a' w' h'.2⟩) (h.2 i hi)⟩

/-- From here on more is kept. -/
theorem HOps.more (S' : World → Prop) (hS : ∀ w, S' w → S w) (h : HOps P n ops S' Pn L fuel listed Γ w K) : HOps P n ops S Pn L fuel listed Γ w K := fun a hs => wpAnyE_mono hS _ _ _ _ (h a hs)

theorem HOps.done (hr : Region.ready .any ops listed = []) (h : K Γ w) : HOps P n ops S Pn L fuel listed Γ w K := fun _ hs => wpAnyE_done hr ⟨Γ, hs, h⟩ fuel

theorem HOps.take {v : Value} {d : Nat} (i : Nat) {oi : Oper} (hi : ops[i]? = some oi) (hsel : (Region.noSelect ops && lastOk ops L i) = true) (hf : Region.free .any ops listed i = true) (hr : (Region.ready .any ops listed).contains i = true)
    (hS : S w) (h : ∀ w', S w' → Run P oi Γ w' v) (hup : Up ops Γ oi.guard) (hd : oi.dst = some d) (hn : Nat.blt d n.n = true)
    (k : HOps P n ops S Pn L fuel (listed.setIfInBounds i true) ((d, v) :: Γ) w K) : HOps P n ops S Pn L (fuel + 1) listed Γ w K := by
  intro a hs
  refine wpAnyE_take hi hsel hf hr liftN_put (.inl ⟨hup.wanted hs, fun w' hw' => h w' hw' _ hs.fits⟩) hS ?_
  rw [hd]
  exact k _ (hs.put hn v)
theorem HOps.skip {d : Nat} (i : Nat) {oi : Oper} {j : Nat} {b c : Bool} (hi : ops[i]? = some oi) (hsel : (Region.noSelect ops && lastOk ops L i) = true) (hf : Region.free .any ops listed i = true) (hr : (Region.ready .any ops listed).contains i = true)
    (hS : S w) (hg : oi.guard = some (j, c)) (hy : yi ops Γ j = some (.bool b)) (hbc : b = !c) (hd : oi.dst = some d) (hn : Nat.blt d n.n = true)
    (k : HOps P n ops S Pn L fuel (listed.setIfInBounds i true) ((d, undef) :: Γ) w K) : HOps P n ops S Pn L (fuel + 1) listed Γ w K := by
  intro a hs
  refine wpAnyE_take (v := undef) hi hsel hf hr liftN_put (.inr ⟨?_, rfl⟩) hS ?_
  · unfold Region.wanted
    rw [hg]
    simp only
    rw [yi_spec hs hy, hbc]
    cases c <;> rfl
  · rw [hd]
    exact k _ (hs.put hn undef)
/-- The one operation that may come up. -/
theorem HOps.of_wp (i : Nat) {oi : Oper} (hi : ops[i]? = some oi) (hr : Region.ready .any ops listed = [i]) (hup : Up ops Γ oi.guard)
    (h : ∀ a, Sat n Γ a → oi.wp P a w (fun a' w' => S w' ∧ wpAnyE P ops (liftN n K Pn) S L fuel (listed.setIfInBounds i true) a' w') (liftN n K Pn)) : HOps P n ops S Pn L (fuel + 1) listed Γ w K := by
  intro a hs
  refine wpAnyE_all hr (by simp) ?_
  intro j hj
  simp only [List.mem_singleton] at hj
  subst hj
  unfold wpOp
  simp only [hi]
  rw [if_pos (hup.wanted hs)]
  exact .inl (h a hs)
theorem HOps.m {R : Value → World → Prop} {d : Nat} (i : Nat) {oi : Oper} (hi : ops[i]? = some oi) (hr : Region.ready .any ops listed = [i]) (h : Does P oi Γ w R) (hup : Up ops Γ oi.guard) (hd : oi.dst = some d) (hn : Nat.blt d n.n = true)
    (k : ∀ v w', R v w' → S w' ∧ HOps P n ops S Pn L fuel (listed.setIfInBounds i true) ((d, v) :: Γ) w' K) : HOps P n ops S Pn L (fuel + 1) listed Γ w K :=
  HOps.of_wp i hi hr hup fun a hs => by
    obtain ⟨v, w', hrun, hR⟩ := h _ hs.fits
    unfold Oper.wp
    rw [hrun, Oper.upon_value, hd]
    exact ⟨(k v w' hR).1, (k v w' hR).2 _ (hs.put hn v)⟩
theorem HOps.st {R : World → Prop} (i : Nat) {oi : Oper} (hi : ops[i]? = some oi) (hr : Region.ready .any ops listed = [i]) (h : Acts P oi Γ w R) (hup : Up ops Γ oi.guard) (hd : oi.dst = none)
    (k : ∀ w', R w' → S w' ∧ HOps P n ops S Pn L fuel (listed.setIfInBounds i true) Γ w' K) : HOps P n ops S Pn L (fuel + 1) listed Γ w K :=
  HOps.of_wp i hi hr hup fun a hs => by
    obtain ⟨w', hrun, hR⟩ := h _ hs.fits
    unfold Oper.wp
    rw [hrun, Oper.upon_skip, hd]
    exact ⟨(k w' hR).1, (k w' hR).2 _ hs⟩
theorem HOps.stL {R : World → Prop} {oi : Oper} (hi : ops[L]? = some oi) (hr : Region.ready .any ops listed = [L]) (h : Acts P oi Γ w R) (hup : Up ops Γ oi.guard) (hd : oi.dst = none)
    (k : ∀ w', R w' → HOps P n ops S Pn L fuel (listed.setIfInBounds L true) Γ w' K) : HOps P n ops S Pn L (fuel + 1) listed Γ w K := by
  intro a hs
  refine wpAnyE_last hr ?_
  unfold wpOp
  simp only [hi]
  rw [if_pos (hup.wanted hs)]
  left
  obtain ⟨w', hrun, hR⟩ := h _ hs.fits
  unfold Oper.wp
  rw [hrun, Oper.upon_skip, hd]
  exact (k w' hR) _ hs
theorem HOps.cl {f : FuncId} {args : Array Value} {R : Ending → World → Prop} {d : Nat} (i : Nat) {oi : Oper} (hi : ops[i]? = some oi) (hr : Region.ready .any ops listed = [i]) (he : Enters P oi Γ w f args) (hc : Calls P f args w R) (hup : Up ops Γ oi.guard) (hd : oi.dst = some d) (hn : Nat.blt d n.n = true)
    (k : ∀ e w', R e w' → ∃ v, e = .returned v ∧ S w' ∧ HOps P n ops S Pn L fuel (listed.setIfInBounds i true) ((d, v) :: Γ) w' K) : HOps P n ops S Pn L (fuel + 1) listed Γ w K :=
  HOps.of_wp i hi hr hup fun a hs => by
    unfold Oper.wp
    rw [he _ hs.fits, Oper.upon_enter, hd]
    refine hc.mono ?_
    intro e w' hR
    obtain ⟨v, rfl, h1, h2⟩ := k e w' hR
    exact ⟨h1, h2 _ (hs.put hn v)⟩
end
end Go.Proofs.Ytmfglifjnoilnaa
