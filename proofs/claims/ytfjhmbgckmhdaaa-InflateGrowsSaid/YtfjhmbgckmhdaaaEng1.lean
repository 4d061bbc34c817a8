/-
  The core of a small weakest-precondition calculus over environments that are association lists: what a piece of code does is asked of every frame that holds the listed bindings. Proved sound over the library's own 'Code.wp'. No program in sight.
-/
import Derived.WalkKit
import Derived.StillTail
import Derived.Deep.Quiet
import Derived.Deep.LoopGhost
import Derived.Deep.AppendLies
import Derived.Maps.AppendAt
namespace Go.Proofs.Ytfjhmbgckmhdaaa
open Go.RowKit

abbrev Env := List (Nat × Value)

def get? : Env → Nat → Option Value
  | [], _ => none
  | (k, v) :: r, t => bif Nat.beq k t then some v else get? r t

def ev? (Γ : Env) : Operand → Option Value
  | .tmp t => get? Γ t
  | .const v => some v
  | .global g => some (.pointer (some ⟨g, 0, none⟩))
  | .func f => some (.func (.func f) #[] #[])

def Fits (ρ : Operand → Value) (Γ : Env) : Prop := ∀ x v, ev? Γ x = some v → ρ x = v

/-- How many slots a frame has, and what is deferred. -/
structure NF where
  n : Nat
  D : List Deferred

structure Sat (n : NF) (Γ : Env) (a : Act) : Prop where
  size : a.tmps.size = n.n
  defers : a.defers = n.D
  at_ : ∀ t v, get? Γ t = some v → a.tmps.getD t undef = v

/-- Every binding of the second list is in the first. -/
def Sub (Γ : Env) : Env → Prop
  | [] => True
  | (k, v) :: r => get? Γ k = some v ∧ Sub Γ r

section
variable {n : NF} {Γ Γ' : Env} {a : Act}

theorem Sat.fits (h : Sat n Γ a) : Fits a.eval Γ := by
  intro x v hx
  cases x with
  | tmp t => exact h.at_ t v hx
  | const u => simp only [ev?, Option.some.injEq] at hx; subst hx; rfl
  | global g => simp only [ev?, Option.some.injEq] at hx; subst hx; rfl
  | func f => simp only [ev?, Option.some.injEq] at hx; subst hx; rfl

theorem Sat.put (h : Sat n Γ a) {d : Nat} (hd : Nat.blt d n.n = true) (v : Value) : Sat n ((d, v) :: Γ) (a.put (some d) v) := by
  refine ⟨by simpa [Act.put] using h.size, by simpa [Act.put] using h.defers, ?_⟩
  intro t u ht
  have hd' : d < n.n := by simpa [Nat.blt_eq] using hd
  have hs := h.size
  by_cases e : d = t
  · subst e
    simp only [get?, Nat.beq_refl, cond_true, Option.some.injEq] at ht
    subst ht
    simp [Act.put, Array.getD, hs, hd']
  · have e' : Nat.beq d t = false := by
      cases hb : Nat.beq d t with
      | false => rfl
      | true => exact absurd (Nat.eq_of_beq_eq_true hb) e
    simp only [get?, e', cond_false] at ht
    have := h.at_ t u ht
    simp only [Act.put, Array.getD_eq_getD_getElem?] at this ⊢
    rw [Array.getElem?_setIfInBounds]
    rw [if_neg e]
    exact this

theorem Sub.get (h : Sub Γ Γ') : ∀ t v, get? Γ' t = some v → get? Γ t = some v := by
  induction Γ' with
  | nil => intro t v ht; simp [get?] at ht
  | cons p r ih =>
    obtain ⟨k, u⟩ := p
    intro t v ht
    simp only [get?] at ht
    cases hb : Nat.beq k t with
    | true =>
      rw [hb] at ht
      simp only [cond_true, Option.some.injEq] at ht
      subst ht
      have := Nat.eq_of_beq_eq_true hb
      subst this
      exact h.1
    | false =>
      rw [hb] at ht
      exact ih h.2 t v ht

theorem Sat.sub (h : Sat n Γ a) (hs : Sub Γ Γ') : Sat n Γ' a := ⟨h.size, h.defers, fun t v ht => h.at_ t v (hs.get t v ht)⟩
end

def lift (n : NF) (Q : Exit → Env → World → Prop) (e : Exit) (a : Act) (w : World) : Prop := ∃ Γ, Sat n Γ a ∧ Q e Γ w

def VC (P : Program) (n : NF) (c : Code) (Γ : Env) (w : World) (Q : Exit → Env → World → Prop) : Prop := ∀ a, Sat n Γ a → c.wp P (lift n Q) a w

def Ops (P : Program) (n : NF) (ops : Array Oper) (l : List Oper) (Γ : Env) (w : World) (Q : Exit → Env → World → Prop) : Prop :=
  ∀ a, Sat n Γ a → wpList P ops (lift n Q) l a w

def thenQ (K : Env → World → Prop) (Q : Exit → Env → World → Prop) : Exit → Env → World → Prop
  | .normal, Γ, w => K Γ w
  | e, Γ, w => Q e Γ w

def blockQ (id : Nat) (Q : Exit → Env → World → Prop) : Exit → Env → World → Prop
  | .exit i, Γ, w => if i = id then Q .normal Γ w else Q (.exit i) Γ w
  | e, Γ, w => Q e Γ w

section
variable {P : Program} {n : NF} {Γ Γ' : Env} {w : World} {Q Q' : Exit → Env → World → Prop}

theorem lift_mono (h : ∀ e Γ w, Q e Γ w → Q' e Γ w) (e : Exit) (a : Act) (w : World) (hq : lift n Q e a w) : lift n Q' e a w :=
  let ⟨Γ, hs, q⟩ := hq; ⟨Γ, hs, h _ _ _ q⟩

theorem VC.mono {c : Code} (h : VC P n c Γ w Q) (hq : ∀ e Γ w, Q e Γ w → Q' e Γ w) : VC P n c Γ w Q' :=
  fun a hs => wp_mono (h a hs) (lift_mono hq)

theorem VC.sub {c : Code} (Γ' : Env) (hs : Sub Γ Γ') (h : VC P n c Γ' w Q) : VC P n c Γ w Q := fun a ha => h a (ha.sub hs)

theorem VC.seq {x y : Code} (h : VC P n x Γ w (thenQ (fun Γ' w' => VC P n y Γ' w' Q) Q)) : VC P n (.seq x y) Γ w Q := by
  intro a hs
  refine wp_seq (wp_mono (h a hs) ?_)
  intro e a' w' hq
  obtain ⟨Γ', hs', q⟩ := hq
  cases e with
  | normal => exact q a' hs'
  | exit id => exact ⟨Γ', hs', q⟩
  | goto l => exact ⟨Γ', hs', q⟩
  | ret => exact ⟨Γ', hs', q⟩
  | panic c => exact ⟨Γ', hs', q⟩
  | outgrown => exact ⟨Γ', hs', q⟩

theorem VC.skip (h : Q .normal Γ w) : VC P n .skip Γ w Q := fun _ hs => wp_skip ⟨Γ, hs, h⟩
theorem VC.ret (h : Q .ret Γ w) : VC P n .ret Γ w Q := fun _ hs => wp_ret ⟨Γ, hs, h⟩
theorem VC.exit {id : Nat} (h : Q (.exit id) Γ w) : VC P n (.exit id) Γ w Q := fun _ hs => wp_exit ⟨Γ, hs, h⟩

theorem VC.condB {c : Operand} {x y : Code} {b : Bool} (hc : ev? Γ c = some (.bool b)) (ht : b = true → VC P n x Γ w Q) (hf : b = false → VC P n y Γ w Q) :
    VC P n (.cond c x y) Γ w Q := by
  intro a hs
  have e := hs.fits _ _ hc
  exact wp_cond_split e (fun h => ht h a hs) (fun h => hf h a hs)
theorem VC.condT {c : Operand} {x y : Code} {b : Bool} (hc : ev? Γ c = some (.bool b)) (hb : b = true) (h : VC P n x Γ w Q) : VC P n (.cond c x y) Γ w Q :=
  VC.condB hc (fun _ => h) (fun e => by rw [hb] at e; cases e)
theorem VC.condF {c : Operand} {x y : Code} {b : Bool} (hc : ev? Γ c = some (.bool b)) (hb : b = false) (h : VC P n y Γ w Q) : VC P n (.cond c x y) Γ w Q :=
  VC.condB hc (fun e => by rw [hb] at e; cases e) (fun _ => h)
theorem VC.condD {c : Operand} {x y : Code} {p : Prop} [Decidable p] (hc : ev? Γ c = some (.bool (decide p))) (ht : p → VC P n x Γ w Q) (hf : ¬ p → VC P n y Γ w Q) :
    VC P n (.cond c x y) Γ w Q :=
  VC.condB hc (fun e => ht (of_decide_eq_true e)) (fun e => hf (of_decide_eq_false e))

theorem VC.block {id : Nat} {c : Code} (h : VC P n c Γ w (blockQ id Q)) : VC P n (.block id c) Γ w Q := by
  intro a hs
  refine wp_block (wp_mono (h a hs) ?_)
  intro e a' w' hq
  obtain ⟨Γ', hs', q⟩ := hq
  cases e with
  | normal => exact ⟨Γ', hs', q⟩
  | exit i =>
    simp only [blockQ] at q
    by_cases hi : i = id
    · rw [if_pos hi] at q; simp only [Exit.inBlock, hi, if_true]; exact ⟨Γ', hs', q⟩
    · rw [if_neg hi] at q; simp only [Exit.inBlock, hi, if_false]; exact ⟨Γ', hs', q⟩
  | goto l => exact ⟨Γ', hs', q⟩
  | ret => exact ⟨Γ', hs', q⟩
  | panic c => exact ⟨Γ', hs', q⟩
  | outgrown => exact ⟨Γ', hs', q⟩

/-- The code is met up to what holds behind it: 'R' at its ordinary end. -/
theorem VC.cut {c : Code} (R : Env → World → Prop) (h : VC P n c Γ w (thenQ R Q)) (k : ∀ Γ' w', R Γ' w' → Q .normal Γ' w') : VC P n c Γ w Q :=
  h.mono fun e Γ' w' q => by cases e <;> first | exact k _ _ q | exact q

/-- A loop: a ghost state, what is bound and what holds at each round's head, a measure. -/
theorem VC.loop {σ : Type} {c : Code} (env : σ → Env) (inv : σ → World → Prop) (μ : σ → Nat) (s0 : σ) (hs0 : Sub Γ (env s0)) (h0 : inv s0 w)
    (round : ∀ s w, inv s w → VC P n c (env s) w (thenQ (fun Γ' w' => ∃ s', Sub Γ' (env s') ∧ inv s' w' ∧ μ s' < μ s) Q)) : VC P n (.loop c) Γ w Q := by
  intro a hs
  refine wp_loop_ghost (fun m a w => ∃ s, μ s = m ∧ Sat n (env s) a ∧ inv s w) (μ s0) ⟨s0, rfl, hs.sub hs0, h0⟩ ?_
  rintro m a w ⟨s, rfl, hsa, hi⟩
  refine wp_mono (round s w hi a hsa) ?_
  intro e a' w' hq
  obtain ⟨Γ', hs', q⟩ := hq
  cases e with
  | normal =>
    obtain ⟨s', hsub, hinv, hlt⟩ := q
    exact ⟨μ s', hlt, s', rfl, hs'.sub hsub, hinv⟩
  | exit id => exact ⟨Γ', hs', q⟩
  | goto l => exact ⟨Γ', hs', q⟩
  | ret => exact ⟨Γ', hs', q⟩
  | panic c => exact ⟨Γ', hs', q⟩
  | outgrown => exact ⟨Γ', hs', q⟩

/-! ### regions -/
theorem VC.region {id : Nat} {l : List Oper} (h : Ops P n l.toArray l Γ w Q) : VC P n (.region id l.toArray false) Γ w Q := fun a hs => wp_region_lit (h a hs)
theorem Ops.nil {ops : Array Oper} (h : Q .normal Γ w) : Ops P n ops [] Γ w Q := fun _ hs => wpList_nil ⟨Γ, hs, h⟩

/-- A value, the world as it was. -/
def Run (P : Program) (o : Oper) (Γ : Env) (w : World) (v : Value) : Prop := ∀ ρ, Fits ρ Γ → (execOp ρ o).run P w = .ok (.value v) w
/-- A value, and another world. -/
def Does (P : Program) (o : Oper) (Γ : Env) (w : World) (R : Value → World → Prop) : Prop := ∀ ρ, Fits ρ Γ → ∃ v w', (execOp ρ o).run P w = .ok (.value v) w' ∧ R v w'
/-- No value, and another world. -/
def Acts (P : Program) (o : Oper) (Γ : Env) (w : World) (R : World → Prop) : Prop := ∀ ρ, Fits ρ Γ → ∃ w', (execOp ρ o).run P w = .ok .skip w' ∧ R w'
/-- A call of a function of the program. -/
def Enters (P : Program) (o : Oper) (Γ : Env) (w : World) (f : FuncId) (args : Array Value) : Prop := ∀ ρ, Fits ρ Γ → (execOp ρ o).run P w = .ok (.enter f args) w
/-- It panics. -/
def Falls (P : Program) (o : Oper) (Γ : Env) (w : World) (v : Value) : Prop := ∀ ρ, Fits ρ Γ → (execOp ρ o).run P w = .halt (.panic v) w

def yi (ops : Array Oper) (Γ : Env) (j : Nat) : Option Value := ((ops[j]?).bind (·.dst)).bind (get? Γ)

theorem yi_spec {ops : Array Oper} {j : Nat} {b : Bool} {a : Act} (hs : Sat n Γ a) (h : yi ops Γ j = some (.bool b)) : yielded ops a.tmps j = some b := by
  unfold yi at h
  unfold yielded
  cases hd : (ops[j]?).bind (·.dst) with
  | none => rw [hd] at h; simp at h
  | some t =>
    rw [hd] at h
    simp only [Option.bind_some] at h ⊢
    have := hs.at_ t _ h
    rw [Array.getD_eq_getD_getElem?] at this
    cases hg : a.tmps[t]? with
    | none => rw [hg] at this; simp [undef] at this
    | some u => rw [hg] at this; simp only [Option.getD_some] at this; subst this; rfl

/-- The operation comes up: it has no guard, or its guard says so. -/
def Up (ops : Array Oper) (Γ : Env) (g : Option (Nat × Bool)) : Prop :=
  match g with
  | none => True
  | some (j, b) => yi ops Γ j = some (.bool b)

theorem Up.none_ {ops : Array Oper} : Up ops Γ none := trivial
theorem Up.wanted {ops : Array Oper} {o : Oper} {a : Act} (hs : Sat n Γ a) (h : Up ops Γ o.guard) : Region.wanted o (yielded ops a.tmps) = true := by
  unfold Region.wanted
  unfold Up at h
  split
  · rfl
  · rename_i j b hg
    rw [hg] at h
    simp only at h
    rw [yi_spec hs h]
    simp

section
variable {ops : Array Oper} {rest : List Oper} {o : Oper}
theorem Ops.of_wp (hup : Up ops Γ o.guard) (h : ∀ a, Sat n Γ a → o.wp P a w (wpList P ops (lift n Q) rest) (lift n Q)) : Ops P n ops (o :: rest) Γ w Q := by
  intro a hs
  unfold wpList
  rw [if_pos (hup.wanted hs)]
  exact .inl (h a hs)

theorem Ops.run {v : Value} (h : Run P o Γ w v) {d : Nat} (hup : Up ops Γ o.guard) (hd : o.dst = some d) (hn : Nat.blt d n.n = true)
    (k : Ops P n ops rest ((d, v) :: Γ) w Q) : Ops P n ops (o :: rest) Γ w Q :=
  Ops.of_wp hup fun a hs => by
    unfold Oper.wp
    rw [h _ hs.fits, Oper.upon_value, hd]
    exact k _ (hs.put hn v)

theorem Ops.does {R : Value → World → Prop} (h : Does P o Γ w R) {d : Nat} (hup : Up ops Γ o.guard) (hd : o.dst = some d) (hn : Nat.blt d n.n = true)
    (k : ∀ v w', R v w' → Ops P n ops rest ((d, v) :: Γ) w' Q) : Ops P n ops (o :: rest) Γ w Q :=
  Ops.of_wp hup fun a hs => by
    obtain ⟨v, w', hr, hR⟩ := h _ hs.fits
    unfold Oper.wp
    rw [hr, Oper.upon_value, hd]
    exact k v w' hR _ (hs.put hn v)

theorem Ops.acts {R : World → Prop} (h : Acts P o Γ w R) (hup : Up ops Γ o.guard) (hd : o.dst = none)
    (k : ∀ w', R w' → Ops P n ops rest Γ w' Q) : Ops P n ops (o :: rest) Γ w Q :=
  Ops.of_wp hup fun a hs => by
    obtain ⟨w', hr, hR⟩ := h _ hs.fits
    unfold Oper.wp
    rw [hr, Oper.upon_skip, hd]
    exact k w' hR _ hs

theorem Ops.skip {j : Nat} {b c : Bool} (hg : o.guard = some (j, c)) (hy : yi ops Γ j = some (.bool b)) (hbc : b = !c) {d : Nat} (hd : o.dst = some d) (hn : Nat.blt d n.n = true)
    (k : Ops P n ops rest ((d, undef) :: Γ) w Q) : Ops P n ops (o :: rest) Γ w Q := by
  intro a hs
  unfold wpList
  have hw : Region.wanted o (yielded ops a.tmps) = false := by
    unfold Region.wanted
    rw [hg]
    simp only
    rw [yi_spec hs hy, hbc]
    cases c <;> rfl
  rw [hw, hd]
  simp only [Bool.false_eq_true, if_false]
  exact k _ (hs.put hn undef)

theorem Ops.call {f : FuncId} {args : Array Value} {R : Ending → World → Prop} (he : Enters P o Γ w f args) (hc : Calls P f args w R) {d : Nat} (hup : Up ops Γ o.guard) (hd : o.dst = some d) (hn : Nat.blt d n.n = true)
    (k : ∀ e w', R e w' → ∃ v, e = .returned v ∧ Ops P n ops rest ((d, v) :: Γ) w' Q) : Ops P n ops (o :: rest) Γ w Q :=
  Ops.of_wp hup fun a hs => by
    unfold Oper.wp
    rw [he _ hs.fits, Oper.upon_enter, hd]
    refine hc.mono ?_
    intro e w' hR
    obtain ⟨v, rfl, hk⟩ := k e w' hR
    exact hk _ (hs.put hn v)

/-- A call that returns or panics. -/
theorem Ops.callP {f : FuncId} {args : Array Value} {R : Ending → World → Prop} (he : Enters P o Γ w f args) (hc : Calls P f args w R) {d : Nat} (hup : Up ops Γ o.guard) (hd : o.dst = some d) (hn : Nat.blt d n.n = true)
    (k : ∀ e w', R e w' → (∃ v, e = .returned v ∧ Ops P n ops rest ((d, v) :: Γ) w' Q) ∨ (∃ ch, e = .panicked ch ∧ Q (.panic ch) Γ w')) : Ops P n ops (o :: rest) Γ w Q :=
  Ops.of_wp hup fun a hs => by
    unfold Oper.wp
    rw [he _ hs.fits, Oper.upon_enter, hd]
    refine hc.mono ?_
    intro e w' hR
    rcases k e w' hR with ⟨v, rfl, hk⟩ | ⟨ch, rfl, hk⟩
    · exact hk _ (hs.put hn v)
    · exact ⟨Γ, hs, hk⟩

theorem Ops.falls {v : Value} (h : Falls P o Γ w v) (hup : Up ops Γ o.guard) (k : Q (.panic [{ v, recovered := false }]) Γ w) : Ops P n ops (o :: rest) Γ w Q :=
  Ops.of_wp hup fun a hs => by
    unfold Oper.wp
    rw [h _ hs.fits, Oper.upon_panic]
    exact ⟨Γ, hs, k⟩

theorem Ops.sub (Γ' : Env) (hs : Sub Γ Γ') {l : List Oper} (h : Ops P n ops l Γ' w Q) : Ops P n ops l Γ w Q := fun a ha => h a (ha.sub hs)
end

/-! ### regions that draw their order -/
/-- The world behind some draws. -/
def Drawn (w w' : World) : Prop := ∃ m, w' = w.drewN m

def QOps (P : Program) (n : NF) (ops : Array Oper) (l : List Oper) (Γ : Env) (w : World) (K : Env → Prop) : Prop :=
  ∀ a, Sat n Γ a → wpQuiet P ops (Drawn w) (fun a' => ∃ Γ', Sat n Γ' a' ∧ K Γ') l a

section
variable {ops : Array Oper} {rest : List Oper} {o : Oper} {K : Env → Prop}
theorem QOps.nil (h : K Γ) : QOps P n ops [] Γ w K := fun _ hs => wpQuiet_nil ⟨Γ, hs, h⟩
theorem QOps.of_quiet (hup : Up ops Γ o.guard) (h : ∀ a, Sat n Γ a → o.quiet P a (Drawn w) (wpQuiet P ops (Drawn w) (fun a' => ∃ Γ', Sat n Γ' a' ∧ K Γ') rest)) : QOps P n ops (o :: rest) Γ w K := by
  intro a hs
  unfold wpQuiet
  rw [if_pos (hup.wanted hs)]
  exact h a hs
theorem QOps.run {v : Value} (h : ∀ w', Drawn w w' → Run P o Γ w' v) {d : Nat} (hup : Up ops Γ o.guard) (hd : o.dst = some d) (hn : Nat.blt d n.n = true)
    (k : QOps P n ops rest ((d, v) :: Γ) w K) : QOps P n ops (o :: rest) Γ w K :=
  QOps.of_quiet hup fun a hs => ⟨v, fun w' hw' => by
    unfold Oper.quietAt
    rw [h w' hw' _ hs.fits]
    exact ⟨rfl, rfl⟩, by rw [hd]; exact k _ (hs.put hn v)⟩
theorem QOps.call {v : Value} {f : FuncId} {args : Array Value} (he : ∀ w', Drawn w w' → Enters P o Γ w' f args) (hc : ∀ w', Drawn w w' → Calls P f args w' (fun e w'' => e = .returned v ∧ Drawn w' w''))
    {d : Nat} (hup : Up ops Γ o.guard) (hd : o.dst = some d) (hn : Nat.blt d n.n = true)
    (k : QOps P n ops rest ((d, v) :: Γ) w K) : QOps P n ops (o :: rest) Γ w K :=
  QOps.of_quiet hup fun a hs => ⟨v, fun w' hw' => by
    unfold Oper.quietAt
    rw [he w' hw' _ hs.fits]
    refine ⟨rfl, (hc w' hw').mono ?_⟩
    rintro e w'' ⟨he, m, rfl⟩
    obtain ⟨m', rfl⟩ := hw'
    exact ⟨he, m' + m, by simp⟩, by rw [hd]; exact k _ (hs.put hn v)⟩
theorem QOps.skip {j : Nat} {b c : Bool} (hg : o.guard = some (j, c)) (hy : yi ops Γ j = some (.bool b)) (hbc : b = !c) {d : Nat} (hd : o.dst = some d) (hn : Nat.blt d n.n = true)
    (k : QOps P n ops rest ((d, undef) :: Γ) w K) : QOps P n ops (o :: rest) Γ w K := by
  intro a hs
  unfold wpQuiet
  have hw : Region.wanted o (yielded ops a.tmps) = false := by
    unfold Region.wanted
    rw [hg]
    simp only
    rw [yi_spec hs hy, hbc]
    cases c <;> rfl
  rw [hw, hd]
  simp only [Bool.false_eq_true, if_false]
  exact k _ (hs.put hn undef)
end

theorem wpQuiet_mono {ops : Array Oper} {C : World → Prop} {K K' : Act → Prop} (h : ∀ a, K a → K' a) : ∀ (l : List Oper) (a : Act), wpQuiet P ops C K l a → wpQuiet P ops C K' l a
  | [], a, hq => h a hq
  | o :: l, a, hq => by
    unfold wpQuiet at hq ⊢
    split
    · rename_i hw; rw [if_pos hw] at hq; exact Oper.quiet_mono (fun a => wpQuiet_mono h l a) hq
    · rename_i hw; rw [if_neg hw] at hq; exact wpQuiet_mono h l _ hq

/-- A region whose operations only read (calls may draw). -/
theorem VC.quiet {id : Nat} {l : List Oper} (hm : P.follows .mixedOrders = true) (hB : Region.lexB .any l.toArray = true)
    (h : QOps P n l.toArray l Γ w (fun Γ' => ∀ w', Drawn w w' → Q .normal Γ' w')) : VC P n (.region id l.toArray true) Γ w Q := by
  intro a hs
  refine wp_region_quiet (C := Drawn w) hm hB ⟨1, rfl⟩ ?_
  have := wpQuiet_mono (K' := fun a' => ∀ w', Drawn w w' → lift n Q .normal a' w') (fun a' hq w' hw' => ?_) l a (h a hs)
  · simpa using this
  · obtain ⟨Γ', hs', hk⟩ := hq
    exact ⟨Γ', hs', hk w' hw'⟩

/-- The head of a region: the world stays. -/
def SOps (P : Program) (n : NF) (ops : Array Oper) (l : List Oper) (Γ : Env) (w : World) (K : Env → Prop) : Prop :=
  ∀ a, Sat n Γ a → wpStill P ops w (fun a' => ∃ Γ', Sat n Γ' a' ∧ K Γ') l a

section
variable {ops : Array Oper} {rest : List Oper} {o : Oper} {K : Env → Prop}
theorem wpStill_mono {K K' : Act → Prop} (h : ∀ a, K a → K' a) : ∀ (l : List Oper) (a : Act), wpStill P ops w K l a → wpStill P ops w K' l a
  | [], a, hq => h a hq
  | o :: l, a, hq => by
    unfold wpStill at hq ⊢
    split
    · rename_i hw; rw [if_pos hw] at hq; exact Oper.still_mono (fun a => wpStill_mono h l a) hq
    · rename_i hw; rw [if_neg hw] at hq; exact wpStill_mono h l _ hq
theorem SOps.nil (h : K Γ) : SOps P n ops [] Γ w K := fun _ hs => wpStill_nil ⟨Γ, hs, h⟩
theorem SOps.of_still (hup : Up ops Γ o.guard) (h : ∀ a, Sat n Γ a → o.still P a w (wpStill P ops w (fun a' => ∃ Γ', Sat n Γ' a' ∧ K Γ') rest)) : SOps P n ops (o :: rest) Γ w K := by
  intro a hs
  unfold wpStill
  rw [if_pos (hup.wanted hs)]
  exact h a hs
theorem SOps.run {v : Value} (h : Run P o Γ w v) {d : Nat} (hup : Up ops Γ o.guard) (hd : o.dst = some d) (hn : Nat.blt d n.n = true)
    (k : SOps P n ops rest ((d, v) :: Γ) w K) : SOps P n ops (o :: rest) Γ w K :=
  SOps.of_still hup fun a hs => by
    unfold Oper.still
    rw [h _ hs.fits, Oper.stillUpon_value, hd]
    exact k _ (hs.put hn v)
theorem SOps.call {v : Value} {f : FuncId} {args : Array Value} (he : Enters P o Γ w f args) (hc0 : Calls P f args w (fun e w' => e = .returned v ∧ w = w')) {d : Nat} (hup : Up ops Γ o.guard) (hd : o.dst = some d) (hn : Nat.blt d n.n = true)
    (k : SOps P n ops rest ((d, v) :: Γ) w K) : SOps P n ops (o :: rest) Γ w K :=
  SOps.of_still hup fun a hs => by
    unfold Oper.still
    rw [he _ hs.fits]
    exact ⟨rfl, v, hc0.mono fun _ _ ⟨h1, h2⟩ => ⟨h1, h2.symm⟩, by rw [hd]; exact k _ (hs.put hn v)⟩
end

/-- A region that draws, whose first N operations leave the world alone, and whose other ones come in their order. -/
theorem VC.tail {id : Nat} {l : List Oper} (N : Nat) (hm : P.follows .mixedOrders = true) (hB : Region.lexTailB .any l.toArray N = true)
    (h : SOps P n l.toArray (l.take N) Γ w.drew (fun Γ' => Ops P n l.toArray (l.drop N) Γ' w.drew Q)) : VC P n (.region id l.toArray true) Γ w Q := by
  intro a hs
  refine wp_region_still_tail N hm hB (wpStill_mono (fun a' hq => ?_) _ a (h a hs))
  obtain ⟨Γ', hs', hk⟩ := hq
  exact hk a' hs'

/-- The whole of a region that draws leaves the world alone but for the draw. -/
theorem VC.still {id : Nat} {l : List Oper} (hm : P.follows .mixedOrders = true) (hB : Region.lexB .any l.toArray = true)
    (h : SOps P n l.toArray l Γ w.drew (fun Γ' => Q .normal Γ' w.drew)) : VC P n (.region id l.toArray true) Γ w Q := by
  intro a hs
  refine wp_region_still_lit hm hB (wpStill_mono (fun a' hq => ?_) _ a (h a hs))
  obtain ⟨Γ', hs', hk⟩ := hq
  exact ⟨Γ', hs', hk⟩

/-! ### functions -/
def resG (tmps : Array Value) : ResultVar → Sem Value
  | .tmp t => pure (tmps.getD t undef)
  | .cell a t => do loadVar t (← asAddr (tmps.getD a undef))
def retV : List Value → Value
  | [v] => v
  | l => .tuple l.toArray
theorem results_eq (fn : Func) (tmps : Array Value) : results fn tmps = (do let vs ← fn.results.mapM (resG tmps); pure (if h : vs.size = 1 then vs[0] else .tuple vs)) := by
  unfold results
  congr 1
/-- What is returned, from what stands in the slots. -/
def resQ (P : Program) : List ResultVar → Env → World → (List Value → Prop) → Prop
  | [], _, _, K => K []
  | .tmp t :: r, Γ, w, K => ∃ v, get? Γ t = some v ∧ resQ P r Γ w fun vs => K (v :: vs)
  | .cell t T :: r, Γ, w, K => ∃ a v, get? Γ t = some (.pointer (some a)) ∧ (loadVar T a).run P w = .ok v w ∧ resQ P r Γ w fun vs => K (v :: vs)
theorem resQ_run {P : Program} {n : NF} {Γ : Env} {a : Act} {w : World} (hs : Sat n Γ a) : ∀ (l : List ResultVar) (K : List Value → Prop), resQ P l Γ w K → ∃ vs, (l.mapM (resG a.tmps)).run P w = .ok vs w ∧ K vs
  | [], K, h => ⟨[], by simp, h⟩
  | .tmp t :: r, K, h => by
    obtain ⟨v, h1, h2⟩ := h
    obtain ⟨vs, h3, h4⟩ := resQ_run hs r _ h2
    have h5 := hs.at_ t v h1
    refine ⟨v :: vs, ?_, h4⟩
    rw [List.mapM_cons]
    simp [resG, h3]
    simpa using h5
  | .cell t T :: r, K, h => by
    obtain ⟨p, v, h1, h2, h3⟩ := h
    obtain ⟨vs, h4, h5⟩ := resQ_run hs r _ h3
    have h6 := hs.at_ t _ h1
    refine ⟨v :: vs, ?_, h5⟩
    have h7 : (asAddr (.pointer (some p))).run P w = .ok p w := rfl
    rw [List.mapM_cons]
    simp [resG, h4, h6, h2, h7]
theorem resQ_results {P : Program} {n : NF} {Γ : Env} {a : Act} {w : World} (hs : Sat n Γ a) {fn : Func} {res : Array ResultVar} (hr : fn.results = res) {K : List Value → Prop} (h : resQ P res.toList Γ w K) : ∃ vs, (results fn a.tmps).run P w = .ok (retV vs) w ∧ K vs := by
  obtain ⟨vs, h1, h2⟩ := resQ_run hs _ K h
  refine ⟨vs, ?_, h2⟩
  rw [results_eq, hr, Array.mapM_eq_mapM_toList]
  simp [h1]
  match vs with
  | [] => rfl
  | [v] => rfl
  | v :: u :: r => simp [retV]
def endQ (P : Program) (res : Array ResultVar) (R : Ending → World → Prop) : Exit → Env → World → Prop
  | .normal, Γ, w | .ret, Γ, w => resQ P res.toList Γ w fun vs => R (.returned (retV vs)) w
  | .panic ch, _, w => R (.panicked ch) w
  | _, _, _ => False

def argEnv : Nat → List Value → Env
  | _, [] => []
  | k, v :: r => (k, v) :: argEnv (k + 1) r

theorem argEnv_get (l : List Value) : ∀ (k t : Nat) (v : Value), get? (argEnv k l) t = some v → k ≤ t ∧ l[t - k]? = some v := by
  induction l with
  | nil => intro k t v h; simp [argEnv, get?] at h
  | cons u r ih =>
    intro k t v h
    simp only [argEnv, get?] at h
    cases hb : Nat.beq k t with
    | true =>
      rw [hb] at h
      simp only [cond_true, Option.some.injEq] at h
      have := Nat.eq_of_beq_eq_true hb
      subst this
      subst h
      simp
    | false =>
      rw [hb] at h
      obtain ⟨h1, h2⟩ := ih (k + 1) t v h
      refine ⟨by omega, ?_⟩
      have e : t - k = (t - (k + 1)) + 1 := by omega
      rw [e, List.getElem?_cons_succ]
      exact h2

theorem VC.calls {f : FuncId} {fn : Func} {c : Code} {args : List Value} {w : World} {R : Ending → World → Prop} {nt : Nat} {res : Array ResultVar}
    (hf : P.funcs[f]? = some fn) (hb : fn.body = some c) (hn : fn.ntmps = nt) (hr : fn.results = res) (hl0 : Nat.ble args.length nt = true)
    (h : VC P ⟨nt, []⟩ c (argEnv 0 args) w (endQ P res R)) : Calls P f args.toArray w R := by
  have hl : args.length ≤ nt := Nat.le_of_ble_eq_true hl0
  refine calls_of_wp hf hb ?_
  refine wp_mono (h _ ?_) ?_
  · refine ⟨?_, rfl, ?_⟩
    · simp only [Array.size_append, List.size_toArray, Array.size_replicate, hn]
      omega
    · intro t v ht
      obtain ⟨_, h2⟩ := argEnv_get args 0 t v ht
      simp only [Nat.sub_zero] at h2
      have hlt : t < args.length := (List.getElem?_eq_some_iff.1 h2).1
      rw [Array.getD_eq_getD_getElem?, Array.getElem?_append_left (by simpa using hlt)]
      simp [h2]
  · intro e a w hq
    obtain ⟨Γ, hs, q⟩ := hq
    have key : ∀ (Γ : Env), Sat ⟨nt, []⟩ Γ a → endQ P res R .ret Γ w → ∃ v, (results fn a.tmps).run P w = .ok v w ∧ R (.returned v) w := by
      intro Γ hs q
      simp only [endQ] at q
      obtain ⟨vs, h1, h2⟩ := resQ_results hs hr q
      exact ⟨_, h1, h2⟩
    cases e with
    | normal => obtain ⟨v, h1, h2⟩ := key Γ hs q; exact ⟨hs.defers, v, h1, h2⟩
    | ret => obtain ⟨v, h1, h2⟩ := key Γ hs q; exact ⟨hs.defers, v, h1, h2⟩
    | panic ch => exact ⟨hs.defers, q⟩
    | exit id => exact q.elim
    | goto l => exact q.elim
    | outgrown => exact q.elim
end
end Go.Proofs.Ytfjhmbgckmhdaaa
