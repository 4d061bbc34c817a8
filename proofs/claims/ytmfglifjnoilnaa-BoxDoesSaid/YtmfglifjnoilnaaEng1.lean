/-
  The core of a small weakest-precondition calculus over environments that are association lists: what a piece of code does is asked of every frame that holds the listed bindings. Proved sound over the library's own 'Code.wpIn', in a plain frame or in a round of a range over a function. No program in sight.
-/
import Derived.WalkKit
import Derived.StillTail
import Derived.Deep.Quiet
import Derived.Deep.LoopGhost
import Derived.Deep.AppendLies
import Derived.Maps.AppendAt
import Derived.RangeFuncCalls
import Derived.TacticsIn
import Derived.OrdersIn
import Derived.Sort.LoopGhostIn
namespace Go.Proofs.Ytmfglifjnoilnaa
open Go.RowKit

abbrev Env := List (Nat × Value)

def get? : Env → Nat → Option Value
  | [], _ => none
  | (k, v) :: r, t => bif Nat.beq k t then some v else get? r t

def ev? (Γ : Env) : Operand → Option Value
  | .tmp t => get? Γ t
  | .const v => some v
  | .global g => some (.pointer (some ⟨g, 0, none⟩))
  | .func f => some (.func (.func f) #[] #[])

def Fits (ρ : Operand → Value) (Γ : Env) : Prop := ∀ x v, ev? Γ x = some v → ρ x = v

/-- How many slots a frame has, what is deferred, and the loop whose round it runs. -/
structure NF where
  n : Nat
  D : List Deferred
  ro : Option Nat

structure Sat (n : NF) (Γ : Env) (a : Act) : Prop where
  size : a.tmps.size = n.n
  defers : a.defers = n.D
  at_ : ∀ t v, get? Γ t = some v → a.tmps.getD t undef = v

/-- Every binding of the second list is in the first. -/
def Sub (Γ : Env) : Env → Prop
  | [] => True
  | (k, v) :: r => get? Γ k = some v ∧ Sub Γ r

section
variable {n : NF} {Γ Γ' : Env} {a : Act}

theorem Sat.fits (h : Sat n Γ a) : Fits a.eval Γ := by
  intro x v hx
  cases x with
  | tmp t => exact h.at_ t v hx
  | const u => simp only [ev?, Option.some.injEq] at hx; subst hx; rfl
  | global g => simp only [ev?, Option.some.injEq] at hx; subst hx; rfl
  | func f => simp only [ev?, Option.some.injEq] at hx; subst hx; rfl

theorem Sat.put (h : Sat n Γ a) {d : Nat} (hd : Nat.blt d n.n = true) (v : Value) : Sat n ((d, v) :: Γ) (a.put (some d) v) := by
  refine ⟨by simpa [Act.put] using h.size, by simpa [Act.put] using h.defers, ?_⟩
  intro t u ht
  have hd' : d < n.n := by simpa [Nat.blt_eq] using hd
  have hs := h.size
  by_cases e : d = t
  · subst e
    simp only [get?, Nat.beq_refl, cond_true, Option.some.injEq] at ht
    subst ht
    simp [Act.put, Array.getD, hs, hd']
  · have e' : Nat.beq d t = false := by
      cases hb : Nat.beq d t with
      | false => rfl
      | true => exact absurd (Nat.eq_of_beq_eq_true hb) e
    simp only [get?, e', cond_false] at ht
    have := h.at_ t u ht
    simp only [Act.put, Array.getD_eq_getD_getElem?] at this ⊢
    rw [Array.getElem?_setIfInBounds]
    rw [if_neg e]
    exact this

theorem Sub.get (h : Sub Γ Γ') : ∀ t v, get? Γ' t = some v → get? Γ t = some v := by
  induction Γ' with
  | nil => intro t v ht; simp [get?] at ht
  | cons p r ih =>
    obtain ⟨k, u⟩ := p
    intro t v ht
    simp only [get?] at ht
    cases hb : Nat.beq k t with
    | true =>
      rw [hb] at ht
      simp only [cond_true, Option.some.injEq] at ht
      subst ht
      have := Nat.eq_of_beq_eq_true hb
      subst this
      exact h.1
    | false =>
      rw [hb] at ht
      exact ih h.2 t v ht

theorem Sat.sub (h : Sat n Γ a) (hs : Sub Γ Γ') : Sat n Γ' a := ⟨h.size, h.defers, fun t v ht => h.at_ t v (hs.get t v ht)⟩
end

def lift (n : NF) (Q : Exit → Env → World → Prop) (e : Exit) (a : Act) (w : World) : Prop := ∃ Γ, Sat n Γ a ∧ Q e Γ w

/-- No fence, in a round or not. -/
def wd (ro : Option Nat) : Fence := { Fence.wide with round := ro }
theorem wd_none : wd none = Fence.wide := rfl
theorem callsIn_wd {ro : Option Nat} {m : Nat} {P : Program} {f : FuncId} {args : Array Value} {w : World} {R : Ending → World → Prop} : CallsIn (wd ro) m P f args w R ↔ Calls P f args w R :=
  (Iff.rfl : CallsIn (wd ro) m P f args w R ↔ CallsIn Fence.wide m P f args w R).trans callsIn_wide
theorem about_wd {ro : Option Nat} {P : Program} {o : Oper} {w : World} {ρ : Operand → Value} : ∀ f, o.about P w ρ = some f → (wd ro).fn f := fun _ _ => trivial
theorem semAt_run {ro : Option Nat} {P : Program} {o : Oper} {ρ : Operand → Value} {w w' : World} {r : Next} (h : (execOp ρ o).run P w = .ok r w') (hr : ∀ d, r ≠ .defer d) : (o.semAt ro ρ).run P w = .ok r w' := by
  cases ho : o.op with
  | defer c =>
    exfalso
    simp only [execOp, ho, Sem.run_bind] at h
    cases hx : (resolve ρ c o.type).run P w with
    | ok d w1 =>
      rw [hx] at h
      simp at h
      exact hr d h.1.symm
    | halt x w1 => rw [hx] at h; simp at h
  | _ => rw [Oper.semAt_eq]; exact h; intro c; rw [ho]; simp
theorem semAt_panic {ro : Option Nat} {P : Program} {o : Oper} {ρ : Operand → Value} {w w' : World} {v : Value} (h : (execOp ρ o).run P w = .halt (.panic v) w') : (o.semAt ro ρ).run P w = .halt (.panic v) w' := by
  cases ho : o.op with
  | defer c =>
    cases ro with
    | none => exact h
    | some l =>
      simp only [execOp, ho, Sem.run_bind] at h
      simp only [Oper.semAt, ho, Sem.run_bind]
      cases hx : (resolve ρ c o.type).run P w with
      | ok d w1 => rw [hx] at h; simp at h
      | halt x w1 => rw [hx] at h; simpa using h
  | _ => rw [Oper.semAt_eq]; exact h; intro c; rw [ho]; simp

def VC (P : Program) (n : NF) (c : Code) (Γ : Env) (w : World) (Q : Exit → Env → World → Prop) : Prop := ∀ a, Sat n Γ a → ∀ m, c.wpIn (wd n.ro) m P (lift n Q) a w

def Ops (P : Program) (n : NF) (ops : Array Oper) (l : List Oper) (Γ : Env) (w : World) (Q : Exit → Env → World → Prop) : Prop :=
  ∀ a, Sat n Γ a → ∀ m, wpListIn (wd n.ro) m P ops (lift n Q) l a w

def thenQ (K : Env → World → Prop) (Q : Exit → Env → World → Prop) : Exit → Env → World → Prop
  | .normal, Γ, w => K Γ w
  | e, Γ, w => Q e Γ w

def blockQ (id : Nat) (Q : Exit → Env → World → Prop) : Exit → Env → World → Prop
  | .exit i, Γ, w => if i = id then Q .normal Γ w else Q (.exit i) Γ w
  | e, Γ, w => Q e Γ w

section
variable {P : Program} {n : NF} {Γ Γ' : Env} {w : World} {Q Q' : Exit → Env → World → Prop}

theorem lift_mono (h : ∀ e Γ w, Q e Γ w → Q' e Γ w) (e : Exit) (a : Act) (w : World) (hq : lift n Q e a w) : lift n Q' e a w :=
  let ⟨Γ, hs, q⟩ := hq; ⟨Γ, hs, h _ _ _ q⟩

theorem VC.mono {c : Code} (h : VC P n c Γ w Q) (hq : ∀ e Γ w, Q e Γ w → Q' e Γ w) : VC P n c Γ w Q' :=
  fun a hs m => wpIn_mono (h a hs m) (lift_mono hq)

theorem VC.sub {c : Code} (Γ' : Env) (hs : Sub Γ Γ') (h : VC P n c Γ' w Q) : VC P n c Γ w Q := fun a ha => h a (ha.sub hs)

theorem VC.seq {x y : Code} (h : VC P n x Γ w (thenQ (fun Γ' w' => VC P n y Γ' w' Q) Q)) : VC P n (.seq x y) Γ w Q := by
  intro a hs m
  refine wpIn_seq (wpIn_mono (h a hs m) ?_)
  intro e a' w' hq
  obtain ⟨Γ', hs', q⟩ := hq
  cases e with
  | normal => exact q a' hs' m
  | exit id => exact ⟨Γ', hs', q⟩
  | goto l => exact ⟨Γ', hs', q⟩
  | ret => exact ⟨Γ', hs', q⟩
  | panic c => exact ⟨Γ', hs', q⟩
  | outgrown => exact ⟨Γ', hs', q⟩

theorem VC.skip (h : Q .normal Γ w) : VC P n .skip Γ w Q := fun _ hs _ => wpIn_skip ⟨Γ, hs, h⟩
theorem VC.ret (h : Q .ret Γ w) : VC P n .ret Γ w Q := fun _ hs _ => wpIn_ret ⟨Γ, hs, h⟩
theorem VC.exit {id : Nat} (h : Q (.exit id) Γ w) : VC P n (.exit id) Γ w Q := fun _ hs _ => wpIn_exit ⟨Γ, hs, h⟩

theorem VC.condB {c : Operand} {x y : Code} {b : Bool} (hc : ev? Γ c = some (.bool b)) (ht : b = true → VC P n x Γ w Q) (hf : b = false → VC P n y Γ w Q) :
    VC P n (.cond c x y) Γ w Q := by
  intro a hs m
  have e := hs.fits _ _ hc
  exact wpIn_cond_split e (fun h => ht h a hs m) (fun h => hf h a hs m)
theorem VC.condT {c : Operand} {x y : Code} {b : Bool} (hc : ev? Γ c = some (.bool b)) (hb : b = true) (h : VC P n x Γ w Q) : VC P n (.cond c x y) Γ w Q :=
  VC.condB hc (fun _ => h) (fun e => by rw [hb] at e; cases e)
theorem VC.condF {c : Operand} {x y : Code} {b : Bool} (hc : ev? Γ c = some (.bool b)) (hb : b = false) (h : VC P n y Γ w Q) : VC P n (.cond c x y) Γ w Q :=
  VC.condB hc (fun e => by rw [hb] at e; cases e) (fun _ => h)
theorem VC.condD {c : Operand} {x y : Code} {p : Prop} [Decidable p] (hc : ev? Γ c = some (.bool (decide p))) (ht : p → VC P n x Γ w Q) (hf : ¬ p → VC P n y Γ w Q) :
    VC P n (.cond c x y) Γ w Q :=
  VC.condB hc (fun e => ht (of_decide_eq_true e)) (fun e => hf (of_decide_eq_false e))

theorem VC.block {id : Nat} {c : Code} (h : VC P n c Γ w (blockQ id Q)) : VC P n (.block id c) Γ w Q := by
  intro a hs m
  refine wpIn_block (wpIn_mono (h a hs m) ?_)
  intro e a' w' hq
  obtain ⟨Γ', hs', q⟩ := hq
  cases e with
  | normal => exact ⟨Γ', hs', q⟩
  | exit i =>
    simp only [blockQ] at q
    by_cases hi : i = id
    · rw [if_pos hi] at q; simp only [Exit.inBlock, hi, if_true]; exact ⟨Γ', hs', q⟩
    · rw [if_neg hi] at q; simp only [Exit.inBlock, hi, if_false]; exact ⟨Γ', hs', q⟩
  | goto l => exact ⟨Γ', hs', q⟩
  | ret => exact ⟨Γ', hs', q⟩
  | panic c => exact ⟨Γ', hs', q⟩
  | outgrown => exact ⟨Γ', hs', q⟩

/-- The code is met up to what holds behind it: 'R' at its ordinary end. -/
theorem VC.cut {c : Code} (R : Env → World → Prop) (h : VC P n c Γ w (thenQ R Q)) (k : ∀ Γ' w', R Γ' w' → Q .normal Γ' w') : VC P n c Γ w Q :=
  h.mono fun e Γ' w' q => by cases e <;> first | exact k _ _ q | exact q

/-- A loop: a ghost state, what is bound and what holds at each round's head, a measure. -/
theorem VC.loop {σ : Type} {c : Code} (env : σ → Env) (inv : σ → World → Prop) (μ : σ → Nat) (s0 : σ) (hs0 : Sub Γ (env s0)) (h0 : inv s0 w)
    (round : ∀ s w, inv s w → VC P n c (env s) w (thenQ (fun Γ' w' => ∃ s', Sub Γ' (env s') ∧ inv s' w' ∧ μ s' < μ s) Q)) : VC P n (.loop c) Γ w Q := by
  intro a hs m0
  refine wpIn_loop_ghost (fun m a w => ∃ s, μ s = m ∧ Sat n (env s) a ∧ inv s w) (μ s0) ⟨s0, rfl, hs.sub hs0, h0⟩ ?_
  rintro m a w ⟨s, rfl, hsa, hi⟩
  refine wpIn_mono (round s w hi a hsa m0) ?_
  intro e a' w' hq
  obtain ⟨Γ', hs', q⟩ := hq
  cases e with
  | normal =>
    obtain ⟨s', hsub, hinv, hlt⟩ := q
    exact ⟨μ s', hlt, s', rfl, hs'.sub hsub, hinv⟩
  | exit id => exact ⟨Γ', hs', q⟩
  | goto l => exact ⟨Γ', hs', q⟩
  | ret => exact ⟨Γ', hs', q⟩
  | panic c => exact ⟨Γ', hs', q⟩
  | outgrown => exact ⟨Γ', hs', q⟩

/-! ### regions -/
theorem VC.region {id : Nat} {l : List Oper} (h : Ops P n l.toArray l Γ w Q) : VC P n (.region id l.toArray false) Γ w Q := fun a hs m => wpIn_region_lit (h a hs m)
theorem Ops.nil {ops : Array Oper} (h : Q .normal Γ w) : Ops P n ops [] Γ w Q := fun _ hs _ => wpListIn_nil ⟨Γ, hs, h⟩

/-- A value, the world as it was. -/
def Run (P : Program) (o : Oper) (Γ : Env) (w : World) (v : Value) : Prop := ∀ ρ, Fits ρ Γ → (execOp ρ o).run P w = .ok (.value v) w
/-- A value, and another world. -/
def Does (P : Program) (o : Oper) (Γ : Env) (w : World) (R : Value → World → Prop) : Prop := ∀ ρ, Fits ρ Γ → ∃ v w', (execOp ρ o).run P w = .ok (.value v) w' ∧ R v w'
/-- No value, and another world. -/
def Acts (P : Program) (o : Oper) (Γ : Env) (w : World) (R : World → Prop) : Prop := ∀ ρ, Fits ρ Γ → ∃ w', (execOp ρ o).run P w = .ok .skip w' ∧ R w'
/-- A call of a function of the program. -/
def Enters (P : Program) (o : Oper) (Γ : Env) (w : World) (f : FuncId) (args : Array Value) : Prop := ∀ ρ, Fits ρ Γ → (execOp ρ o).run P w = .ok (.enter f args) w
/-- It panics. -/
def Falls (P : Program) (o : Oper) (Γ : Env) (w : World) (v : Value) : Prop := ∀ ρ, Fits ρ Γ → (execOp ρ o).run P w = .halt (.panic v) w

def yi (ops : Array Oper) (Γ : Env) (j : Nat) : Option Value := ((ops[j]?).bind (·.dst)).bind (get? Γ)

theorem yi_spec {ops : Array Oper} {j : Nat} {b : Bool} {a : Act} (hs : Sat n Γ a) (h : yi ops Γ j = some (.bool b)) : yielded ops a.tmps j = some b := by
  unfold yi at h
  unfold yielded
  cases hd : (ops[j]?).bind (·.dst) with
  | none => rw [hd] at h; simp at h
  | some t =>
    rw [hd] at h
    simp only [Option.bind_some] at h ⊢
    have := hs.at_ t _ h
    rw [Array.getD_eq_getD_getElem?] at this
    cases hg : a.tmps[t]? with
    | none => rw [hg] at this; simp [undef] at this
    | some u => rw [hg] at this; simp only [Option.getD_some] at this; subst this; rfl

/-- The operation comes up: it has no guard, or its guard says so. -/
def Up (ops : Array Oper) (Γ : Env) (g : Option (Nat × Bool)) : Prop :=
  match g with
  | none => True
  | some (j, b) => yi ops Γ j = some (.bool b)

theorem Up.none_ {ops : Array Oper} : Up ops Γ none := trivial
theorem Up.wanted {ops : Array Oper} {o : Oper} {a : Act} (hs : Sat n Γ a) (h : Up ops Γ o.guard) : Region.wanted o (yielded ops a.tmps) = true := by
  unfold Region.wanted
  unfold Up at h
  split
  · rfl
  · rename_i j b hg
    rw [hg] at h
    simp only at h
    rw [yi_spec hs h]
    simp

section
variable {ops : Array Oper} {rest : List Oper} {o : Oper}
theorem Ops.of_wp (hup : Up ops Γ o.guard) (h : ∀ a, Sat n Γ a → ∀ m, o.wpIn (wd n.ro) m P a w (wpListIn (wd n.ro) m P ops (lift n Q) rest) (lift n Q)) : Ops P n ops (o :: rest) Γ w Q := by
  intro a hs m
  unfold wpListIn
  rw [if_pos (hup.wanted hs)]
  exact h a hs m

theorem Ops.run {v : Value} (h : Run P o Γ w v) {d : Nat} (hup : Up ops Γ o.guard) (hd : o.dst = some d) (hn : Nat.blt d n.n = true)
    (k : Ops P n ops rest ((d, v) :: Γ) w Q) : Ops P n ops (o :: rest) Γ w Q :=
  Ops.of_wp hup fun a hs m => by
    refine ⟨about_wd, ?_⟩
    rw [semAt_run (h _ hs.fits) (by simp), Oper.uponIn_value, hd]
    exact k _ (hs.put hn v) m

theorem Ops.does {R : Value → World → Prop} (h : Does P o Γ w R) {d : Nat} (hup : Up ops Γ o.guard) (hd : o.dst = some d) (hn : Nat.blt d n.n = true)
    (k : ∀ v w', R v w' → Ops P n ops rest ((d, v) :: Γ) w' Q) : Ops P n ops (o :: rest) Γ w Q :=
  Ops.of_wp hup fun a hs m => by
    obtain ⟨v, w', hr, hR⟩ := h _ hs.fits
    refine ⟨about_wd, ?_⟩
    rw [semAt_run hr (by simp), Oper.uponIn_value, hd]
    exact k v w' hR _ (hs.put hn v) m

theorem Ops.acts {R : World → Prop} (h : Acts P o Γ w R) (hup : Up ops Γ o.guard) (hd : o.dst = none)
    (k : ∀ w', R w' → Ops P n ops rest Γ w' Q) : Ops P n ops (o :: rest) Γ w Q :=
  Ops.of_wp hup fun a hs m => by
    obtain ⟨w', hr, hR⟩ := h _ hs.fits
    refine ⟨about_wd, ?_⟩
    rw [semAt_run hr (by simp), Oper.uponIn_skip, hd]
    exact k w' hR _ hs m

theorem Ops.skip {j : Nat} {b c : Bool} (hg : o.guard = some (j, c)) (hy : yi ops Γ j = some (.bool b)) (hbc : b = !c) {d : Nat} (hd : o.dst = some d) (hn : Nat.blt d n.n = true)
    (k : Ops P n ops rest ((d, undef) :: Γ) w Q) : Ops P n ops (o :: rest) Γ w Q := by
  intro a hs m
  unfold wpListIn
  have hw : Region.wanted o (yielded ops a.tmps) = false := by
    unfold Region.wanted
    rw [hg]
    simp only
    rw [yi_spec hs hy, hbc]
    cases c <;> rfl
  rw [hw, hd]
  simp only [Bool.false_eq_true, if_false]
  exact ⟨about_wd, k _ (hs.put hn undef) m⟩

theorem Ops.call {f : FuncId} {args : Array Value} {R : Ending → World → Prop} (he : Enters P o Γ w f args) (hc : Calls P f args w R) {d : Nat} (hup : Up ops Γ o.guard) (hd : o.dst = some d) (hn : Nat.blt d n.n = true)
    (k : ∀ e w', R e w' → ∃ v, e = .returned v ∧ Ops P n ops rest ((d, v) :: Γ) w' Q) : Ops P n ops (o :: rest) Γ w Q :=
  Ops.of_wp hup fun a hs m => by
    refine ⟨about_wd, ?_⟩
    rw [semAt_run (he _ hs.fits) (by simp), Oper.uponIn_enter, hd]
    refine ⟨fun h => by simp [wd, Fence.wide] at h, callsIn_wd.2 (hc.mono ?_)⟩
    intro e w' hR
    obtain ⟨v, rfl, hk⟩ := k e w' hR
    exact hk _ (hs.put hn v) m

/-- A call that returns or panics. -/
theorem Ops.callP {f : FuncId} {args : Array Value} {R : Ending → World → Prop} (he : Enters P o Γ w f args) (hc : Calls P f args w R) {d : Nat} (hup : Up ops Γ o.guard) (hd : o.dst = some d) (hn : Nat.blt d n.n = true)
    (k : ∀ e w', R e w' → (∃ v, e = .returned v ∧ Ops P n ops rest ((d, v) :: Γ) w' Q) ∨ (∃ ch, e = .panicked ch ∧ Q (.panic ch) Γ w')) : Ops P n ops (o :: rest) Γ w Q :=
  Ops.of_wp hup fun a hs m => by
    refine ⟨about_wd, ?_⟩
    rw [semAt_run (he _ hs.fits) (by simp), Oper.uponIn_enter, hd]
    refine ⟨fun h => by simp [wd, Fence.wide] at h, callsIn_wd.2 (hc.mono ?_)⟩
    intro e w' hR
    rcases k e w' hR with ⟨v, rfl, hk⟩ | ⟨ch, rfl, hk⟩
    · exact hk _ (hs.put hn v) m
    · exact ⟨Γ, hs, hk⟩

theorem Ops.falls {v : Value} (h : Falls P o Γ w v) (hup : Up ops Γ o.guard) (k : Q (.panic [{ v, recovered := false }]) Γ w) : Ops P n ops (o :: rest) Γ w Q :=
  Ops.of_wp hup fun a hs m => by
    refine ⟨about_wd, ?_⟩
    rw [semAt_panic (h _ hs.fits), Oper.uponIn_panic]
    exact ⟨Γ, hs, k⟩

theorem Ops.sub (Γ' : Env) (hs : Sub Γ Γ') {l : List Oper} (h : Ops P n ops l Γ' w Q) : Ops P n ops l Γ w Q := fun a ha => h a (ha.sub hs)
end

/-! ### from the plain words to the fenced ones -/
/-- No operation defers. -/
def noDefer (ops : Array Oper) : Bool := ops.all fun o => match o.op with | .defer _ => false | _ => true
theorem noDefer_at {ops : Array Oper} (h : noDefer ops = true) {i : Nat} {o : Oper} (hi : ops[i]? = some o) : ∀ c, o.op ≠ .defer c := by
  intro c hc
  unfold noDefer at h
  rw [Array.all_eq_true'] at h
  obtain ⟨hlt, rfl⟩ := Array.getElem?_eq_some_iff.1 hi
  have := h ops[i] (Array.getElem_mem hlt)
  rw [hc] at this
  cases this
theorem rowsIn_wd {ro : Option Nat} {m : Nat} {row : String} {args : Array Value} {R : Value → World → Prop} (h : Rows P row args w R) : RowsIn (wd ro) m P row args w R := fun c cs _ =>
  let ⟨v, w', r, s⟩ := h c cs; ⟨v, w', r, stepsIn_wide.2 s⟩
theorem Oper.wp_in {ro : Option Nat} {m : Nat} {o : Oper} {a : Act} {K K' : Act → World → Prop} {QQ : Exit → Act → World → Prop} (hnd : ro = none ∨ ∀ c, o.op ≠ .defer c) (hK : ∀ a w, K a w → K' a w) (h : o.wp P a w K QQ) : o.wpIn (wd ro) m P a w K' QQ := by
  refine ⟨about_wd, ?_⟩
  have e : o.semAt (wd ro).round a.eval = execOp a.eval o := by
    rcases hnd with h | h
    · subst h; rfl
    · exact Oper.semAt_eq _ _ _ h
  rw [e]
  unfold Oper.wp at h
  cases hr : (execOp a.eval o).run P w with
  | ok r w' =>
    rw [hr] at h
    cases r with
    | value v => exact hK _ _ h
    | skip => exact hK _ _ h
    | defer d => exact hK _ _ h
    | enter f args =>
      rw [Oper.uponIn_enter]
      rw [Oper.upon_enter] at h
      refine ⟨fun h => by simp [wd, Fence.wide] at h, callsIn_wd.2 (h.mono ?_)⟩
      intro e w' he
      cases e with
      | returned v => exact hK _ _ he
      | panicked c => exact he
      | outgrown => exact he
    | row row args =>
      rw [Oper.uponIn_row]
      rw [Oper.upon_row] at h
      exact ⟨fun h => by simp [wd, Fence.wide] at h, rowsIn_wd (h.mono fun v w' he => hK _ _ he)⟩
    | _ => exact h.elim
  | halt x w' =>
    rw [hr] at h
    cases x with
    | panic v => exact h
    | _ => exact h.elim
theorem wpOp_in {ro : Option Nat} {m : Nat} {ops : Array Oper} {i : Nat} {a : Act} {K K' : Act → World → Prop} {QQ : Exit → Act → World → Prop} (hnd : ro = none ∨ noDefer ops = true) (hL : ¬ LetsOut QQ) (hK : ∀ a w, K a w → K' a w) (h : wpOp P ops QQ i K a w) : wpOpIn (wd ro) m P ops QQ i K' a w := by
  unfold wpOp at h
  unfold wpOpIn
  cases ho : ops[i]? with
  | none => rw [ho] at h; exact hK _ _ h
  | some o =>
    rw [ho] at h
    dsimp only at h ⊢
    split
    · rename_i hw
      rw [if_pos hw] at h
      rcases h with h | ⟨_, h⟩
      · exact Oper.wp_in (hnd.imp id fun h => noDefer_at h ho) hK h
      · exact absurd h hL
    · rename_i hw
      rw [if_neg hw] at h
      exact ⟨about_wd, hK _ _ h⟩
theorem wpAny_in {ro : Option Nat} {m : Nat} {ops : Array Oper} {QQ : Exit → Act → World → Prop} (hnd : ro = none ∨ noDefer ops = true) (hL : ¬ LetsOut QQ) : ∀ (f : Nat) (listed : Array Bool) (a : Act) (w : World), wpAny P .any ops QQ f listed a w → wpAnyIn (wd ro) m P .any ops QQ f listed a w
  | 0, _, _, _, h => h
  | f + 1, listed, a, w, h => ⟨h.1, fun i hi => wpOp_in hnd hL (fun a w h => wpAny_in hnd hL f _ a w h) (h.2 i hi)⟩
/-- What comes in its order, behind what may come in any. -/
theorem wpAnyIn_of_seq {ro : Option Nat} {m : Nat} {ops : Array Oper} {QQ : Exit → Act → World → Prop} : ∀ (l : List Oper) (k : Nat) (listed : Array Bool) (a : Act) (w : World), (∀ j, l[j]? = ops[k + j]?) →
    Region.seqB .any ops l.length k listed = true → wpListIn (wd ro) m P ops QQ l a w → wpAnyIn (wd ro) m P .any ops QQ l.length listed a w
  | [], _, _, _, _, _, hB, h => ⟨by simpa [Region.seqB] using hB, h⟩
  | o :: l, k, listed, a, w, hl, hB, h => by
    have h0 : ops[k]? = some o := by simpa using (hl 0).symm
    simp only [List.length_cons, Region.seqB, Bool.and_eq_true, decide_eq_true_eq] at hB
    refine ⟨fun h1 => (by rw [hB.1] at h1; cases h1), fun i hi => ?_⟩
    rw [hB.1] at hi
    have hik : i = k := by simpa using hi
    subst hik
    have hw : wpOpIn (wd ro) m P ops QQ i (wpListIn (wd ro) m P ops QQ l) a w := by unfold wpOpIn; simp only [h0]; exact h
    exact wpOpIn_mono (fun a' w' h' => wpAnyIn_of_seq l (i + 1) _ a' w' (fun j => by have := hl (j + 1); simpa [Nat.add_assoc, Nat.add_comm 1 j] using this) hB.2 h') hw
theorem LetsOut.mono {Q Q' : Exit → Act → World → Prop} (h : ∀ e a w, Q e a w → Q' e a w) (hl : LetsOut Q) : LetsOut Q' := let ⟨a, w, q⟩ := hl; ⟨a, w, h _ _ _ q⟩
theorem wpOpIn_weak {F : Fence} {m : Nat} {ops : Array Oper} {Q Q' : Exit → Act → World → Prop} {i : Nat} {K : Act → World → Prop} {a : Act} {w : World} (h : ∀ e a w, Q e a w → Q' e a w) (hh : wpOpIn F m P ops Q i K a w) : wpOpIn F m P ops Q' i K a w := by
  unfold wpOpIn at *
  split
  · simpa [*] using hh
  · rename_i o ho
    simp only [ho] at hh
    split
    · rename_i hw
      simp only [hw, if_true] at hh
      unfold Oper.wpIn at *
      refine ⟨hh.1, ?_⟩
      have hh := hh.2
      generalize (o.semAt F.round a.eval).run P w = r at *
      cases r with
      | ok x w' =>
        cases x <;> simp only [Oper.uponIn] at hh ⊢ <;>
          first
            | exact hh
            | exact ⟨hh.1, CallsIn.mono hh.2 (fun e w'' he => by cases e <;> first | exact he | exact h _ _ _ he | exact LetsOut.mono h he)⟩
            | exact ⟨hh.1, RoundIn.mono hh.2 (fun e w'' he => by cases e <;> first | exact he | exact h _ _ _ he | exact LetsOut.mono h he)⟩
      | halt x w' => cases x <;> simp only [Oper.uponIn] at hh ⊢ <;> first | exact hh | exact h _ _ _ hh
    · rename_i hw; simp only [hw] at hh; exact hh
theorem wpAnyIn_of_head {ro : Option Nat} {m : Nat} {ops : Array Oper} {QQ : Exit → Act → World → Prop} {n g : Nat} {L : Array Bool → Act → Prop} (hnd : ro = none ∨ noDefer ops = true) (hL : ∀ listed a, L listed a → wpAnyIn (wd ro) m P .any ops QQ g listed a w) :
    ∀ (f : Nat) (listed : Array Bool) (a : Act), wpAnyL P .any ops w n L f listed a → wpAnyIn (wd ro) m P .any ops QQ (f + g) listed a w
  | 0, listed, a, h => by rw [Nat.zero_add]; exact hL _ _ h
  | f + 1, listed, a, h => by
    rw [show f + 1 + g = (f + g) + 1 by omega]
    refine ⟨fun h0 => absurd h0 h.1, fun i hi => ?_⟩
    have h2 := wpOp_of_stOp (Q' := fun _ _ _ => False) (K' := fun a' w' => w' = w ∧ wpAnyL P .any ops w n L f (listed.setIfInBounds i true) a') (fun a' h' => ⟨rfl, h'⟩) (h.2 i hi).2
    have h3 := wpOp_in (ro := ro) (m := m) (K' := fun a' w' => wpAnyIn (wd ro) m P .any ops QQ (f + g) (listed.setIfInBounds i true) a' w') hnd (fun ⟨_, _, h⟩ => h) (fun a' w' h' => by rw [h'.1]; exact wpAnyIn_of_head hnd hL f _ a' h'.2) h2
    exact wpOpIn_weak (fun e a w h => h.elim) h3
/-! ### regions that draw their order -/
/-- The world behind some draws. -/
def Drawn (w w' : World) : Prop := ∃ m, w' = w.drewN m

def QOps (P : Program) (n : NF) (ops : Array Oper) (l : List Oper) (Γ : Env) (w : World) (K : Env → Prop) : Prop :=
  ∀ a, Sat n Γ a → wpQuiet P ops (Drawn w) (fun a' => ∃ Γ', Sat n Γ' a' ∧ K Γ') l a

section
variable {ops : Array Oper} {rest : List Oper} {o : Oper} {K : Env → Prop}
theorem QOps.nil (h : K Γ) : QOps P n ops [] Γ w K := fun _ hs => wpQuiet_nil ⟨Γ, hs, h⟩
theorem QOps.of_quiet (hup : Up ops Γ o.guard) (h : ∀ a, Sat n Γ a → o.quiet P a (Drawn w) (wpQuiet P ops (Drawn w) (fun a' => ∃ Γ', Sat n Γ' a' ∧ K Γ') rest)) : QOps P n ops (o :: rest) Γ w K := by
  intro a hs
  unfold wpQuiet
  rw [if_pos (hup.wanted hs)]
  exact h a hs
theorem QOps.run {v : Value} (h : ∀ w', Drawn w w' → Run P o Γ w' v) {d : Nat} (hup : Up ops Γ o.guard) (hd : o.dst = some d) (hn : Nat.blt d n.n = true)
    (k : QOps P n ops rest ((d, v) :: Γ) w K) : QOps P n ops (o :: rest) Γ w K :=
  QOps.of_quiet hup fun a hs => ⟨v, fun w' hw' => by
    unfold Oper.quietAt
    rw [h w' hw' _ hs.fits]
    exact ⟨rfl, rfl⟩, by rw [hd]; exact k _ (hs.put hn v)⟩
theorem QOps.call {v : Value} {f : FuncId} {args : Array Value} (he : ∀ w', Drawn w w' → Enters P o Γ w' f args) (hc : ∀ w', Drawn w w' → Calls P f args w' (fun e w'' => e = .returned v ∧ Drawn w' w''))
    {d : Nat} (hup : Up ops Γ o.guard) (hd : o.dst = some d) (hn : Nat.blt d n.n = true)
    (k : QOps P n ops rest ((d, v) :: Γ) w K) : QOps P n ops (o :: rest) Γ w K :=
  QOps.of_quiet hup fun a hs => ⟨v, fun w' hw' => by
    unfold Oper.quietAt
    rw [he w' hw' _ hs.fits]
    refine ⟨rfl, (hc w' hw').mono ?_⟩
    rintro e w'' ⟨he, m, rfl⟩
    obtain ⟨m', rfl⟩ := hw'
    exact ⟨he, m' + m, by simp⟩, by rw [hd]; exact k _ (hs.put hn v)⟩
theorem QOps.skip {j : Nat} {b c : Bool} (hg : o.guard = some (j, c)) (hy : yi ops Γ j = some (.bool b)) (hbc : b = !c) {d : Nat} (hd : o.dst = some d) (hn : Nat.blt d n.n = true)
    (k : QOps P n ops rest ((d, undef) :: Γ) w K) : QOps P n ops (o :: rest) Γ w K := by
  intro a hs
  unfold wpQuiet
  have hw : Region.wanted o (yielded ops a.tmps) = false := by
    unfold Region.wanted
    rw [hg]
    simp only
    rw [yi_spec hs hy, hbc]
    cases c <;> rfl
  rw [hw, hd]
  simp only [Bool.false_eq_true, if_false]
  exact k _ (hs.put hn undef)
end

theorem wpQuiet_mono {ops : Array Oper} {C : World → Prop} {K K' : Act → Prop} (h : ∀ a, K a → K' a) : ∀ (l : List Oper) (a : Act), wpQuiet P ops C K l a → wpQuiet P ops C K' l a
  | [], a, hq => h a hq
  | o :: l, a, hq => by
    unfold wpQuiet at hq ⊢
    split
    · rename_i hw; rw [if_pos hw] at hq; exact Oper.quiet_mono (fun a => wpQuiet_mono h l a) hq
    · rename_i hw; rw [if_neg hw] at hq; exact wpQuiet_mono h l _ hq

/-- A region whose operations only read (calls may draw). -/
theorem VC.quiet {id : Nat} {l : List Oper} (hm : P.follows .mixedOrders = true) (hB : Region.lexB .any l.toArray = true)
    (h : QOps P n l.toArray l Γ w (fun Γ' => ∀ w', Drawn w w' → Q .normal Γ' w')) (hnd : n.ro = none ∨ noDefer l.toArray = true := by first | exact .inl rfl | exact .inr (by kernel_rfl)) : VC P n (.region id l.toArray true) Γ w Q := by
  intro a hs m
  simp only [Region.lexB, Bool.and_eq_true] at hB
  refine wpIn_mono (Q := fun e a w => e = .normal ∧ lift n Q .normal a w) (wpIn_region_any hm (wpAny_in (QQ := fun e a w => e = .normal ∧ lift n Q .normal a w) hnd (fun ⟨_, _, h⟩ => by cases h.1) _ _ _ _
    (wpAny_of_quiet (C := Drawn w) (Q := fun a' => ∀ w', Drawn w w' → lift n Q .normal a' w') (fun _ w' hw' h => ⟨rfl, h w' hw'⟩) _ _ _ _ ⟨1, rfl⟩ ?_))) (fun e a w h => by rw [h.1]; exact h.2)
  have h1 := wpQuiet_mono (K' := fun a' => ∀ w', Drawn w w' → lift n Q .normal a' w') (fun a' ⟨Γ', hs', hk⟩ w' hw' => ⟨Γ', hs', hk w' hw'⟩) l a (h a hs)
  have := wpAnyQ_lex (C := Drawn w) (md := .any) hB.1 l.toArray.toList 0 (Array.replicate l.toArray.size false) a (by simp) (by simpa using hB.2) (by simpa using h1)
  simpa using this

/-- The head of a region: the world stays. -/
def SOps (P : Program) (n : NF) (ops : Array Oper) (l : List Oper) (Γ : Env) (w : World) (K : Env → Prop) : Prop :=
  ∀ a, Sat n Γ a → wpStill P ops w (fun a' => ∃ Γ', Sat n Γ' a' ∧ K Γ') l a

section
variable {ops : Array Oper} {rest : List Oper} {o : Oper} {K : Env → Prop}
theorem wpStill_mono {K K' : Act → Prop} (h : ∀ a, K a → K' a) : ∀ (l : List Oper) (a : Act), wpStill P ops w K l a → wpStill P ops w K' l a
  | [], a, hq => h a hq
  | o :: l, a, hq => by
    unfold wpStill at hq ⊢
    split
    · rename_i hw; rw [if_pos hw] at hq; exact Oper.still_mono (fun a => wpStill_mono h l a) hq
    · rename_i hw; rw [if_neg hw] at hq; exact wpStill_mono h l _ hq
theorem SOps.nil (h : K Γ) : SOps P n ops [] Γ w K := fun _ hs => wpStill_nil ⟨Γ, hs, h⟩
theorem SOps.of_still (hup : Up ops Γ o.guard) (h : ∀ a, Sat n Γ a → o.still P a w (wpStill P ops w (fun a' => ∃ Γ', Sat n Γ' a' ∧ K Γ') rest)) : SOps P n ops (o :: rest) Γ w K := by
  intro a hs
  unfold wpStill
  rw [if_pos (hup.wanted hs)]
  exact h a hs
theorem SOps.run {v : Value} (h : Run P o Γ w v) {d : Nat} (hup : Up ops Γ o.guard) (hd : o.dst = some d) (hn : Nat.blt d n.n = true)
    (k : SOps P n ops rest ((d, v) :: Γ) w K) : SOps P n ops (o :: rest) Γ w K :=
  SOps.of_still hup fun a hs => by
    unfold Oper.still
    rw [h _ hs.fits, Oper.stillUpon_value, hd]
    exact k _ (hs.put hn v)
theorem SOps.call {v : Value} {f : FuncId} {args : Array Value} (he : Enters P o Γ w f args) (hc0 : Calls P f args w (fun e w' => e = .returned v ∧ w = w')) {d : Nat} (hup : Up ops Γ o.guard) (hd : o.dst = some d) (hn : Nat.blt d n.n = true)
    (k : SOps P n ops rest ((d, v) :: Γ) w K) : SOps P n ops (o :: rest) Γ w K :=
  SOps.of_still hup fun a hs => by
    unfold Oper.still
    rw [he _ hs.fits]
    exact ⟨rfl, v, hc0.mono fun _ _ ⟨h1, h2⟩ => ⟨h1, h2.symm⟩, by rw [hd]; exact k _ (hs.put hn v)⟩
end

/-- A region that draws, whose first N operations leave the world alone, and whose other ones come in their order. -/
theorem VC.tail {id : Nat} {l : List Oper} (N : Nat) (hm : P.follows .mixedOrders = true) (hB : Region.lexTailB .any l.toArray N = true)
    (h : SOps P n l.toArray (l.take N) Γ w.drew (fun Γ' => Ops P n l.toArray (l.drop N) Γ' w.drew Q)) (hnd : n.ro = none ∨ noDefer l.toArray = true := by first | exact .inl rfl | exact .inr (by kernel_rfl)) : VC P n (.region id l.toArray true) Γ w Q := by
  intro a hs m
  have h1 := wpStill_mono (K' := fun a' => wpListIn (wd n.ro) m P l.toArray (lift n Q) (l.drop N) a' w.drew) (fun a' ⟨Γ', hs', hk⟩ => hk a' hs' m) _ a (h a hs)
  simp only [Region.lexTailB, Bool.and_eq_true, decide_eq_true_eq] at hB
  obtain ⟨⟨⟨⟨hsel, hn⟩, hsk⟩, hc⟩, hlex⟩ := hB
  have htl : (l.take N).length = N := by simp; simp at hn; omega
  have hdl : (l.drop N).length = l.toArray.size - N := by simp
  have inv0 : HeadInv .any l.toArray N (Array.replicate l.toArray.size false) :=
    ⟨by simp, fun j oj _ hl => (by rw [getD_replicate_false] at hl; cases hl), fun t _ ht => getD_in (by simpa using ht) (getD_replicate_false _ _)⟩
  have H := wpAnyL_lex (md := .any) (g := l.toArray.size - N) hsel hsk hc hn (l.take N) 0 _ a (fun j hj => by
    have hj' : j < N := by rw [htl] at hj; exact hj
    simp [hj']) (by simpa using htl) inv0 (by rw [htl]; exact hlex) h1
  refine wpIn_region_any hm ?_
  have := wpAnyIn_of_head (QQ := lift n Q) (g := l.toArray.size - N) hnd (fun listed a' hL => by
    have := wpAnyIn_of_seq (QQ := lift n Q) (l.drop N) N listed a' w.drew (fun j => by simp [List.getElem?_drop]) (by rw [hdl]; exact hL.1) hL.2
    rwa [hdl] at this) _ _ _ H
  rw [htl, show N + (l.toArray.size - N) = l.toArray.size by simp at hn ⊢; omega] at this
  exact this

/-- The whole of a region that draws leaves the world alone but for the draw. -/
theorem VC.still {id : Nat} {l : List Oper} (hm : P.follows .mixedOrders = true) (hB : Region.lexB .any l.toArray = true)
    (h : SOps P n l.toArray l Γ w.drew (fun Γ' => Q .normal Γ' w.drew)) (hnd : n.ro = none ∨ noDefer l.toArray = true := by first | exact .inl rfl | exact .inr (by kernel_rfl)) : VC P n (.region id l.toArray true) Γ w Q := by
  intro a hs m
  have h1 := wpStill_mono (K' := fun a' => lift n Q .normal a' w.drew) (fun a' ⟨Γ', hs', hk⟩ => ⟨Γ', hs', hk⟩) _ a (h a hs)
  simp only [Region.lexB, Bool.and_eq_true] at hB
  refine wpIn_mono (Q := fun e a w => e = .normal ∧ lift n Q .normal a w) (wpIn_region_any hm (wpAny_in (QQ := fun e a w => e = .normal ∧ lift n Q .normal a w) hnd (fun ⟨_, _, h⟩ => by cases h.1) _ _ _ _
    (wpAny_of_still (w := w.drew) (Q := fun a' => lift n Q .normal a' w.drew) (fun _ h => ⟨rfl, h⟩) _ _ _ ?_))) (fun e a w h => by rw [h.1]; exact h.2)
  have := wpAnyS_lex (md := .any) hB.1 l.toArray.toList 0 (Array.replicate l.toArray.size false) a (by simp) (by simpa using hB.2) (by simpa using h1)
  simpa using this

/-! ### functions -/
def resG (tmps : Array Value) : ResultVar → Sem Value
  | .tmp t => pure (tmps.getD t undef)
  | .cell a t => do loadVar t (← asAddr (tmps.getD a undef))
def retV : List Value → Value
  | [v] => v
  | l => .tuple l.toArray
theorem results_eq (fn : Func) (tmps : Array Value) : results fn tmps = (do let vs ← fn.results.mapM (resG tmps); pure (if h : vs.size = 1 then vs[0] else .tuple vs)) := by
  unfold results
  congr 1
/-- What is returned, from what stands in the slots. -/
def resQ (P : Program) : List ResultVar → Env → World → (List Value → Prop) → Prop
  | [], _, _, K => K []
  | .tmp t :: r, Γ, w, K => ∃ v, get? Γ t = some v ∧ resQ P r Γ w fun vs => K (v :: vs)
  | .cell t T :: r, Γ, w, K => ∃ a v, get? Γ t = some (.pointer (some a)) ∧ (loadVar T a).run P w = .ok v w ∧ resQ P r Γ w fun vs => K (v :: vs)
theorem resQ_run {P : Program} {n : NF} {Γ : Env} {a : Act} {w : World} (hs : Sat n Γ a) : ∀ (l : List ResultVar) (K : List Value → Prop), resQ P l Γ w K → ∃ vs, (l.mapM (resG a.tmps)).run P w = .ok vs w ∧ K vs
  | [], K, h => ⟨[], by simp, h⟩
  | .tmp t :: r, K, h => by
    obtain ⟨v, h1, h2⟩ := h
    obtain ⟨vs, h3, h4⟩ := resQ_run hs r _ h2
    have h5 := hs.at_ t v h1
    refine ⟨v :: vs, ?_, h4⟩
    rw [List.mapM_cons]
    simp [resG, h3]
    simpa using h5
  | .cell t T :: r, K, h => by
    obtain ⟨p, v, h1, h2, h3⟩ := h
    obtain ⟨vs, h4, h5⟩ := resQ_run hs r _ h3
    have h6 := hs.at_ t _ h1
    refine ⟨v :: vs, ?_, h5⟩
    have h7 : (asAddr (.pointer (some p))).run P w = .ok p w := rfl
    rw [List.mapM_cons]
    simp [resG, h4, h6, h2, h7]
theorem resQ_results {P : Program} {n : NF} {Γ : Env} {a : Act} {w : World} (hs : Sat n Γ a) {fn : Func} {res : Array ResultVar} (hr : fn.results = res) {K : List Value → Prop} (h : resQ P res.toList Γ w K) : ∃ vs, (results fn a.tmps).run P w = .ok (retV vs) w ∧ K vs := by
  obtain ⟨vs, h1, h2⟩ := resQ_run hs _ K h
  refine ⟨vs, ?_, h2⟩
  rw [results_eq, hr, Array.mapM_eq_mapM_toList]
  simp [h1]
  match vs with
  | [] => rfl
  | [v] => rfl
  | v :: u :: r => simp [retV]
def endQ (P : Program) (res : Array ResultVar) (R : Ending → World → Prop) : Exit → Env → World → Prop
  | .normal, Γ, w | .ret, Γ, w => resQ P res.toList Γ w fun vs => R (.returned (retV vs)) w
  | .panic ch, _, w => R (.panicked ch) w
  | _, _, _ => False

def argEnv : Nat → List Value → Env
  | _, [] => []
  | k, v :: r => (k, v) :: argEnv (k + 1) r

theorem argEnv_get (l : List Value) : ∀ (k t : Nat) (v : Value), get? (argEnv k l) t = some v → k ≤ t ∧ l[t - k]? = some v := by
  induction l with
  | nil => intro k t v h; simp [argEnv, get?] at h
  | cons u r ih =>
    intro k t v h
    simp only [argEnv, get?] at h
    cases hb : Nat.beq k t with
    | true =>
      rw [hb] at h
      simp only [cond_true, Option.some.injEq] at h
      have := Nat.eq_of_beq_eq_true hb
      subst this
      subst h
      simp
    | false =>
      rw [hb] at h
      obtain ⟨h1, h2⟩ := ih (k + 1) t v h
      refine ⟨by omega, ?_⟩
      have e : t - k = (t - (k + 1)) + 1 := by omega
      rw [e, List.getElem?_cons_succ]
      exact h2

theorem VC.calls {f : FuncId} {fn : Func} {c : Code} {args : List Value} {w : World} {R : Ending → World → Prop} {nt : Nat} {res : Array ResultVar}
    (hf : P.funcs[f]? = some fn) (hb : fn.body = some c) (hn : fn.ntmps = nt) (hr : fn.results = res) (hl0 : Nat.ble args.length nt = true)
    (h : VC P ⟨nt, [], none⟩ c (argEnv 0 args) w (endQ P res R)) : Calls P f args.toArray w R := by
  have hl : args.length ≤ nt := Nat.le_of_ble_eq_true hl0
  refine calls_of_wp hf hb ?_
  refine wpIn_wide.1 (wpIn_mono (h _ ?_ 0) ?_)
  · refine ⟨?_, rfl, ?_⟩
    · simp only [Array.size_append, List.size_toArray, Array.size_replicate, hn]
      omega
    · intro t v ht
      obtain ⟨_, h2⟩ := argEnv_get args 0 t v ht
      simp only [Nat.sub_zero] at h2
      have hlt : t < args.length := (List.getElem?_eq_some_iff.1 h2).1
      rw [Array.getD_eq_getD_getElem?, Array.getElem?_append_left (by simpa using hlt)]
      simp [h2]
  · intro e a w hq
    obtain ⟨Γ, hs, q⟩ := hq
    have key : ∀ (Γ : Env), Sat ⟨nt, [], none⟩ Γ a → endQ P res R .ret Γ w → ∃ v, (results fn a.tmps).run P w = .ok v w ∧ R (.returned v) w := by
      intro Γ hs q
      simp only [endQ] at q
      obtain ⟨vs, h1, h2⟩ := resQ_results hs hr q
      exact ⟨_, h1, h2⟩
    cases e with
    | normal => obtain ⟨v, h1, h2⟩ := key Γ hs q; exact ⟨hs.defers, v, h1, h2⟩
    | ret => obtain ⟨v, h1, h2⟩ := key Γ hs q; exact ⟨hs.defers, v, h1, h2⟩
    | panic ch => exact ⟨hs.defers, q⟩
    | exit id => exact q.elim
    | goto l => exact q.elim
    | outgrown => exact q.elim
end
end Go.Proofs.Ytmfglifjnoilnaa
