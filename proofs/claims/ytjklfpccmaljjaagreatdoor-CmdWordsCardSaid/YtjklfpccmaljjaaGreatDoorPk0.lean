/-
  Lemmas on the way, joined: EngA, Ty, EngB, Eng18, Eng20, Eng26, EngC, CmdA.
-/
import Derived.WalkKit
import Derived.StillTail
import Derived.Deep.Quiet
import Derived.Deep.LoopGhost
import Derived.Deep.AppendLies
import Derived.Maps.AppendAt
import Derived.RangeFuncCalls
import Derived.TacticsIn
import Derived.OrdersIn
import Derived.Sort.LoopGhostIn
import Derived.Laws.OwnMore
import Derived.Laws.Tables
import Derived.Laws.BytesString
import Derived.OrdersHeld
import Derived.ProofKit
import Derived.Deep.Slices
import Derived.Deep.Fields
import Derived.OpenShut
import Derived.ChangeSame
import Derived.ShutString
import Derived.ChangeOld
import Derived.Laws.CopyRow
import Derived.Test.YtjklfpccmaljjaaGreatDoorRows
import Derived.KernelRfl
import Derived.Recover
import Derived.Deep.Strs
import Derived.Laws.IdiomStrings
import Derived.Sort.Walk0
import Derived.Sort.EncStr
import Derived.Maps.Keyed
import Derived.DeepKeys4
import Derived.Carry
import Derived.RangeFuncLeaves
import Derived.RangeFuncSeq
import Derived.RangeFuncOwn
import Derived.Sort.OwnSorted
set_option maxRecDepth 100000
set_option linter.unusedVariables false
set_option linter.unusedSimpArgs false
set_option maxHeartbeats 8000000
namespace Go.Proofs.YtjklfpccmaljjaaGreatDoor
theorem au {p : Prop} (h : p := by first | rfl | assumption | exact decide_eq_true (by assumption) | exact decide_eq_false (by assumption) | decide | (simp; done) | (simp; omega) | (simp [*]; done)) : p := h
theorem jo {p : Prop} (h : p := by omega) : p := h
theorem jp {p : Prop} (h : p := by simp) : p := h
theorem jd {p : Prop} (h : p := by decide) : p := h
section
open Go.RowKit
abbrev Env := List (Nat × Value)
def get? : Env → Nat → Option Value
 | [], _ => none
 | (k, v) :: r, t => bif Nat.beq k t then some v else get? r t
def ev? (Γ : Env) : Operand → Option Value
 | .tmp t => get? Γ t
 | .const v => some v
 | .global g => some (.pointer (some ⟨g, 0, none⟩))
 | .func f => some (.func (.func f) #[] #[])
def fL (ρ : Operand → Value) (Γ : Env) : Prop := ∀ x v, ev? Γ x = some v → ρ x = v
structure NF where
 n : Nat
 D : List Deferred
 ro : Option Nat
structure Sat (n : NF) (Γ : Env) (a : Act) : Prop where
 size : a.tmps.size = n.n
 defers : a.defers = n.D
 at_ : ∀ t v, get? Γ t = some v → a.tmps.getD t undef = v
def Sub (Γ : Env) : Env → Prop
 | [] => True
 | (k, v) :: r => get? Γ k = some v ∧ Sub Γ r
section
variable {n : NF} {Γ Γ' : Env} {a : Act}
theorem Sat.fits (h : Sat n Γ a) : fL a.eval Γ := by
 intro x v hx
 cases x with
 | tmp t => exact h.at_ t v hx
 | const u => simp only [ev?, Option.some.injEq] at hx; subst hx; rfl
 | global g => simp only [ev?, Option.some.injEq] at hx; subst hx; rfl
 | func f => simp only [ev?, Option.some.injEq] at hx; subst hx; rfl
theorem Sat.put (h : Sat n Γ a) {d : Nat} (hd : Nat.blt d n.n = true) (v : Value) : Sat n ((d, v) :: Γ) (a.put (some d) v) := by
 refine ⟨by simpa [Act.put] using h.size, by simpa [Act.put] using h.defers, ?_⟩
 intro t u ht
 have hd' : d < n.n := by simpa [Nat.blt_eq] using hd
 have hs := h.size
 by_cases e : d = t
 ·
  subst e
  simp only [get?, Nat.beq_refl, cond_true, Option.some.injEq] at ht
  subst ht
  simp [Act.put, Array.getD, hs, hd']
 have e' : Nat.beq d t = false := by
  cases hb : Nat.beq d t with
  | false => rfl
  | true => exact absurd (Nat.eq_of_beq_eq_true hb) e
 simp only [get?, e', cond_false] at ht
 have := h.at_ t u ht
 simp only [Act.put, Array.getD_eq_getD_getElem?] at this ⊢
 rw [Array.getElem?_setIfInBounds]
 rw [if_neg e]
 exact this
theorem Sub.get (h : Sub Γ Γ') : ∀ t v, get? Γ' t = some v → get? Γ t = some v := by
 induction Γ' with
 | nil => intro t v ht; simp [get?] at ht
 | cons p r ih =>
  obtain ⟨k, u⟩ := p
  intro t v ht
  simp only [get?] at ht
  cases hb : Nat.beq k t with
  | true =>
   rw [hb] at ht
   simp only [cond_true, Option.some.injEq] at ht
   subst ht
   have := Nat.eq_of_beq_eq_true hb
   subst this
   exact h.1
  | false =>
   rw [hb] at ht
   exact ih h.2 t v ht
theorem Sat.sub (h : Sat n Γ a) (hs : Sub Γ Γ') : Sat n Γ' a := ⟨h.size, h.defers, fun t v ht => h.at_ t v (hs.get t v ht)⟩
end
def dC (n : NF) (Q : Exit → Env → World → Prop) (e : Exit) (a : Act) (w : World) : Prop := ∃ Γ, Sat n Γ a ∧ Q e Γ w
def wd (ro : Option Nat) : Fence := { Fence.wide with round := ro }
theorem eH {ro : Option Nat} {m : Nat} {P : Program} {f : FuncId} {args : Array Value} {w : World} {R : Ending → World → Prop} : CallsIn (wd ro) m P f args w R ↔ Calls P f args w R :=
 (Iff.rfl : CallsIn (wd ro) m P f args w R ↔ CallsIn Fence.wide m P f args w R).trans callsIn_wide
theorem bE {ro : Option Nat} {P : Program} {o : Oper} {w : World} {ρ : Operand → Value} : ∀ f, o.about P w ρ = some f → (wd ro).fn f := fun _ _ => trivial
theorem dH {ro : Option Nat} {P : Program} {o : Oper} {ρ : Operand → Value} {w w' : World} {r : Next} (h : (execOp ρ o).run P w = .ok r w') (hr : ∀ d, r ≠ .defer d) : (o.semAt ro ρ).run P w = .ok r w' := by
 cases ho : o.op with
 | defer c =>
  exfalso
  simp only [execOp, ho, Sem.run_bind] at h
  cases hx : (resolve ρ c o.type).run P w with
  | ok d w1 =>
   rw [hx] at h
   simp at h
   exact hr d h.1.symm
  | halt x w1 => rw [hx] at h; simp at h
 | _ => rw [Oper.semAt_eq]; exact h; intro c; rw [ho]; simp
theorem mT {ro : Option Nat} {P : Program} {o : Oper} {ρ : Operand → Value} {w w' : World} {v : Value} (h : (execOp ρ o).run P w = .halt (.panic v) w') : (o.semAt ro ρ).run P w = .halt (.panic v) w' := by
 cases ho : o.op with
 | defer c =>
  cases ro with
  | none => exact h
  | some l =>
   simp only [execOp, ho, Sem.run_bind] at h
   simp only [Oper.semAt, ho, Sem.run_bind]
   cases hx : (resolve ρ c o.type).run P w with
   | ok d w1 => rw [hx] at h; simp at h
   | halt x w1 => rw [hx] at h; simpa using h
 | _ => rw [Oper.semAt_eq]; exact h; intro c; rw [ho]; simp
def VC (P : Program) (n : NF) (c : Code) (Γ : Env) (w : World) (Q : Exit → Env → World → Prop) : Prop := ∀ a, Sat n Γ a → ∀ m, c.wpIn (wd n.ro) m P (dC n Q) a w
def Ops (P : Program) (n : NF) (ops : Array Oper) (l : List Oper) (Γ : Env) (w : World) (Q : Exit → Env → World → Prop) : Prop :=
 ∀ a, Sat n Γ a → ∀ m, wpListIn (wd n.ro) m P ops (dC n Q) l a w
def dZ (K : Env → World → Prop) (Q : Exit → Env → World → Prop) : Exit → Env → World → Prop
 | .normal, Γ, w => K Γ w
 | e, Γ, w => Q e Γ w
def dX (id : Nat) (Q : Exit → Env → World → Prop) : Exit → Env → World → Prop
 | .exit i, Γ, w => if i = id then Q .normal Γ w else Q (.exit i) Γ w
 | e, Γ, w => Q e Γ w
section
variable {P : Program} {n : NF} {Γ Γ' : Env} {w : World} {Q Q' : Exit → Env → World → Prop}
theorem pX (h : ∀ e Γ w, Q e Γ w → Q' e Γ w) (e : Exit) (a : Act) (w : World) (hq : dC n Q e a w) : dC n Q' e a w :=
 let ⟨Γ, hs, q⟩ := hq; ⟨Γ, hs, h _ _ _ q⟩
theorem VC.mono {c : Code} (h : VC P n c Γ w Q) (hq : ∀ e Γ w, Q e Γ w → Q' e Γ w) : VC P n c Γ w Q' :=
 fun a hs m => wpIn_mono (h a hs m) (pX hq)
theorem VC.sub {c : Code} (Γ' : Env) (hs : Sub Γ Γ') (h : VC P n c Γ' w Q) : VC P n c Γ w Q := fun a ha => h a (ha.sub hs)
theorem VC.seq {x y : Code} (h : VC P n x Γ w (dZ (fun Γ' w' => VC P n y Γ' w' Q) Q)) : VC P n (.seq x y) Γ w Q := by
 intro a hs m
 refine wpIn_seq (wpIn_mono (h a hs m) ?_)
 intro e a' w' hq
 obtain ⟨Γ', hs', q⟩ := hq
 cases e with
 | normal => exact q a' hs' m
 | exit id => exact ⟨Γ', hs', q⟩
 | goto l => exact ⟨Γ', hs', q⟩
 | ret => exact ⟨Γ', hs', q⟩
 | panic c => exact ⟨Γ', hs', q⟩
 | outgrown => exact ⟨Γ', hs', q⟩
theorem VC.skip (h : Q .normal Γ w) : VC P n .skip Γ w Q := fun _ hs _ => wpIn_skip ⟨Γ, hs, h⟩
theorem VC.ret (h : Q .ret Γ w) : VC P n .ret Γ w Q := fun _ hs _ => wpIn_ret ⟨Γ, hs, h⟩
theorem VC.exit {id : Nat} (h : Q (.exit id) Γ w) : VC P n (.exit id) Γ w Q := fun _ hs _ => wpIn_exit ⟨Γ, hs, h⟩
theorem VC.condB {c : Operand} {x y : Code} {b : Bool} (hc : ev? Γ c = some (.bool b)) (ht : b = true → VC P n x Γ w Q) (hf : b = false → VC P n y Γ w Q) :
  VC P n (.cond c x y) Γ w Q := by
 intro a hs m
 have e := hs.fits _ _ hc
 exact wpIn_cond_split e (fun h => ht h a hs m) (fun h => hf h a hs m)
theorem VC.condT {c : Operand} {x y : Code} {b : Bool} (hc : ev? Γ c = some (.bool b)) (hb : b = true) (h : VC P n x Γ w Q) : VC P n (.cond c x y) Γ w Q :=
 VC.condB hc (fun _ => h) (fun e => by rw [hb] at e; cases e)
theorem VC.condF {c : Operand} {x y : Code} {b : Bool} (hc : ev? Γ c = some (.bool b)) (hb : b = false) (h : VC P n y Γ w Q) : VC P n (.cond c x y) Γ w Q :=
 VC.condB hc (fun e => by rw [hb] at e; cases e) (fun _ => h)
theorem VC.condD {c : Operand} {x y : Code} {p : Prop} [Decidable p] (hc : ev? Γ c = some (.bool (decide p))) (ht : p → VC P n x Γ w Q) (hf : ¬ p → VC P n y Γ w Q) :
  VC P n (.cond c x y) Γ w Q :=
 VC.condB hc (fun e => ht (of_decide_eq_true e)) (fun e => hf (of_decide_eq_false e))
theorem VC.block {id : Nat} {c : Code} (h : VC P n c Γ w (dX id Q)) : VC P n (.block id c) Γ w Q := by
 intro a hs m
 refine wpIn_block (wpIn_mono (h a hs m) ?_)
 intro e a' w' hq
 obtain ⟨Γ', hs', q⟩ := hq
 cases e with
 | normal => exact ⟨Γ', hs', q⟩
 | exit i =>
  simp only [dX] at q
  by_cases hi : i = id
  · rw [if_pos hi] at q; simp only [Exit.inBlock, hi, if_true]; exact ⟨Γ', hs', q⟩
  rw [if_neg hi] at q; simp only [Exit.inBlock, hi, if_false]; exact ⟨Γ', hs', q⟩
 | goto l => exact ⟨Γ', hs', q⟩
 | ret => exact ⟨Γ', hs', q⟩
 | panic c => exact ⟨Γ', hs', q⟩
 | outgrown => exact ⟨Γ', hs', q⟩
theorem VC.loop {σ : Type} {c : Code} (env : σ → Env) (inv : σ → World → Prop) (μ : σ → Nat) (s0 : σ) (hs0 : Sub Γ (env s0)) (h0 : inv s0 w)
  (round : ∀ s w, inv s w → VC P n c (env s) w (dZ (fun Γ' w' => ∃ s', Sub Γ' (env s') ∧ inv s' w' ∧ μ s' < μ s) Q)) : VC P n (.loop c) Γ w Q := by
 intro a hs m0
 refine wpIn_loop_ghost (fun m a w => ∃ s, μ s = m ∧ Sat n (env s) a ∧ inv s w) (μ s0) ⟨s0, rfl, hs.sub hs0, h0⟩ ?_
 rintro m a w ⟨s, rfl, hsa, hi⟩
 refine wpIn_mono (round s w hi a hsa m0) ?_
 intro e a' w' hq
 obtain ⟨Γ', hs', q⟩ := hq
 cases e with
 | normal =>
  obtain ⟨s', hsub, hinv, hlt⟩ := q
  exact ⟨μ s', hlt, s', rfl, hs'.sub hsub, hinv⟩
 | exit id => exact ⟨Γ', hs', q⟩
 | goto l => exact ⟨Γ', hs', q⟩
 | ret => exact ⟨Γ', hs', q⟩
 | panic c => exact ⟨Γ', hs', q⟩
 | outgrown => exact ⟨Γ', hs', q⟩
theorem VC.region {id : Nat} {l : List Oper} (h : Ops P n l.toArray l Γ w Q) : VC P n (.region id l.toArray false) Γ w Q := fun a hs m => wpIn_region_lit (h a hs m)
theorem Ops.nil {ops : Array Oper} (h : Q .normal Γ w) : Ops P n ops [] Γ w Q := fun _ hs _ => wpListIn_nil ⟨Γ, hs, h⟩
def Run (P : Program) (o : Oper) (Γ : Env) (w : World) (v : Value) : Prop := ∀ ρ, fL ρ Γ → (execOp ρ o).run P w = .ok (.value v) w
def qV (P : Program) (o : Oper) (Γ : Env) (w : World) (R : Value → World → Prop) : Prop := ∀ ρ, fL ρ Γ → ∃ v w', (execOp ρ o).run P w = .ok (.value v) w' ∧ R v w'
def qQ (P : Program) (o : Oper) (Γ : Env) (w : World) (R : World → Prop) : Prop := ∀ ρ, fL ρ Γ → ∃ w', (execOp ρ o).run P w = .ok .skip w' ∧ R w'
def qI (P : Program) (o : Oper) (Γ : Env) (w : World) (f : FuncId) (args : Array Value) : Prop := ∀ ρ, fL ρ Γ → (execOp ρ o).run P w = .ok (.enter f args) w
def lS (P : Program) (o : Oper) (Γ : Env) (w : World) (v : Value) : Prop := ∀ ρ, fL ρ Γ → (execOp ρ o).run P w = .halt (.panic v) w
def yi (ops : Array Oper) (Γ : Env) (j : Nat) : Option Value := ((ops[j]?).bind (·.dst)).bind (get? Γ)
theorem kP {ops : Array Oper} {j : Nat} {b : Bool} {a : Act} (hs : Sat n Γ a) (h : yi ops Γ j = some (.bool b)) : yielded ops a.tmps j = some b := by
 unfold yi at h
 unfold yielded
 cases hd : (ops[j]?).bind (·.dst) with
 | none => rw [hd] at h; simp at h
 | some t =>
  rw [hd] at h
  simp only [Option.bind_some] at h ⊢
  have := hs.at_ t _ h
  rw [Array.getD_eq_getD_getElem?] at this
  cases hg : a.tmps[t]? with
  | none => rw [hg] at this; simp [undef] at this
  | some u => rw [hg] at this; simp only [Option.getD_some] at this; subst this; rfl
def Up (ops : Array Oper) (Γ : Env) (g : Option (Nat × Bool)) : Prop :=
 match g with
 | none => True
 | some (j, b) => yi ops Γ j = some (.bool b)
theorem Up.wanted {ops : Array Oper} {o : Oper} {a : Act} (hs : Sat n Γ a) (h : Up ops Γ o.guard) : Region.wanted o (yielded ops a.tmps) = true := by
 unfold Region.wanted
 unfold Up at h
 split
 · rfl
 rename_i j b hg
 rw [hg] at h
 simp only at h
 rw [kP hs h]
 simp
section
variable {ops : Array Oper} {rest : List Oper} {o : Oper}
theorem Ops.of_wp (hup : Up ops Γ o.guard) (h : ∀ a, Sat n Γ a → ∀ m, o.wpIn (wd n.ro) m P a w (wpListIn (wd n.ro) m P ops (dC n Q) rest) (dC n Q)) : Ops P n ops (o :: rest) Γ w Q := by
 intro a hs m
 unfold wpListIn
 rw [if_pos (hup.wanted hs)]
 exact h a hs m
theorem Ops.run {v : Value} (h : Run P o Γ w v) {d : Nat} (hup : Up ops Γ o.guard) (hd : o.dst = some d) (hn : Nat.blt d n.n = true)
  (k : Ops P n ops rest ((d, v) :: Γ) w Q) : Ops P n ops (o :: rest) Γ w Q :=
 Ops.of_wp hup fun a hs m => by
  refine ⟨bE, ?_⟩
  rw [dH (h _ hs.fits) jp, Oper.uponIn_value, hd]
  exact k _ (hs.put hn v) m
theorem Ops.does {R : Value → World → Prop} (h : qV P o Γ w R) {d : Nat} (hup : Up ops Γ o.guard) (hd : o.dst = some d) (hn : Nat.blt d n.n = true)
  (k : ∀ v w', R v w' → Ops P n ops rest ((d, v) :: Γ) w' Q) : Ops P n ops (o :: rest) Γ w Q :=
 Ops.of_wp hup fun a hs m => by
  obtain ⟨v, w', hr, hR⟩ := h _ hs.fits
  refine ⟨bE, ?_⟩
  rw [dH hr jp, Oper.uponIn_value, hd]
  exact k v w' hR _ (hs.put hn v) m
theorem Ops.acts {R : World → Prop} (h : qQ P o Γ w R) (hup : Up ops Γ o.guard) (hd : o.dst = none)
  (k : ∀ w', R w' → Ops P n ops rest Γ w' Q) : Ops P n ops (o :: rest) Γ w Q :=
 Ops.of_wp hup fun a hs m => by
  obtain ⟨w', hr, hR⟩ := h _ hs.fits
  refine ⟨bE, ?_⟩
  rw [dH hr jp, Oper.uponIn_skip, hd]
  exact k w' hR _ hs m
theorem Ops.skip {j : Nat} {b c : Bool} (hg : o.guard = some (j, c)) (hy : yi ops Γ j = some (.bool b)) (hbc : b = ! c) {d : Nat} (hd : o.dst = some d) (hn : Nat.blt d n.n = true)
  (k : Ops P n ops rest ((d, undef) :: Γ) w Q) : Ops P n ops (o :: rest) Γ w Q := by
 intro a hs m
 unfold wpListIn
 have hw : Region.wanted o (yielded ops a.tmps) = false := by
  unfold Region.wanted
  rw [hg]
  simp only
  rw [kP hs hy, hbc]
  cases c <;> rfl
 rw [hw, hd]
 simp only [Bool.false_eq_true, if_false]
 exact ⟨bE, k _ (hs.put hn undef) m⟩
theorem Ops.call {f : FuncId} {args : Array Value} {R : Ending → World → Prop} (he : qI P o Γ w f args) (hc : Calls P f args w R) {d : Nat} (hup : Up ops Γ o.guard) (hd : o.dst = some d) (hn : Nat.blt d n.n = true)
  (k : ∀ e w', R e w' → ∃ v, e = .returned v ∧ Ops P n ops rest ((d, v) :: Γ) w' Q) : Ops P n ops (o :: rest) Γ w Q :=
 Ops.of_wp hup fun a hs m => by
  refine ⟨bE, ?_⟩
  rw [dH (he _ hs.fits) jp, Oper.uponIn_enter, hd]
  refine ⟨fun h => by simp [wd, Fence.wide] at h, eH.2 (hc.mono ?_)⟩
  intro e w' hR
  obtain ⟨v, rfl, hk⟩ := k e w' hR
  exact hk _ (hs.put hn v) m
theorem Ops.callP {f : FuncId} {args : Array Value} {R : Ending → World → Prop} (he : qI P o Γ w f args) (hc : Calls P f args w R) {d : Nat} (hup : Up ops Γ o.guard) (hd : o.dst = some d) (hn : Nat.blt d n.n = true)
  (k : ∀ e w', R e w' → (∃ v, e = .returned v ∧ Ops P n ops rest ((d, v) :: Γ) w' Q) ∨ (∃ ch, e = .panicked ch ∧ Q (.panic ch) Γ w')) : Ops P n ops (o :: rest) Γ w Q :=
 Ops.of_wp hup fun a hs m => by
  refine ⟨bE, ?_⟩
  rw [dH (he _ hs.fits) jp, Oper.uponIn_enter, hd]
  refine ⟨fun h => by simp [wd, Fence.wide] at h, eH.2 (hc.mono ?_)⟩
  intro e w' hR
  rcases k e w' hR with ⟨v, rfl, hk⟩ | ⟨ch, rfl, hk⟩
  · exact hk _ (hs.put hn v) m
  exact ⟨Γ, hs, hk⟩
theorem Ops.falls {v : Value} (h : lS P o Γ w v) (hup : Up ops Γ o.guard) (k : Q (.panic [{ v, recovered := false }]) Γ w) : Ops P n ops (o :: rest) Γ w Q :=
 Ops.of_wp hup fun a hs m => by
  refine ⟨bE, ?_⟩
  rw [mT (h _ hs.fits), Oper.uponIn_panic]
  exact ⟨Γ, hs, k⟩
end
def cV (ops : Array Oper) : Bool := ops.all fun o => match o.op with | .defer _ => false | _ => true
theorem nC {ops : Array Oper} (h : cV ops = true) {i : Nat} {o : Oper} (hi : ops[i]? = some o) : ∀ c, o.op ≠ .defer c := by
 intro c hc
 unfold cV at h
 rw [Array.all_eq_true'] at h
 obtain ⟨hlt, rfl⟩ := Array.getElem?_eq_some_iff.1 hi
 have := h ops[i] (Array.getElem_mem hlt)
 rw [hc] at this
 cases this
theorem pZ {ro : Option Nat} {m : Nat} {row : String} {args : Array Value} {R : Value → World → Prop} (h : Rows P row args w R) : RowsIn (wd ro) m P row args w R := fun c cs _ =>
 let ⟨v, w', r, s⟩ := h c cs; ⟨v, w', r, stepsIn_wide.2 s⟩
theorem Oper.wp_in {ro : Option Nat} {m : Nat} {o : Oper} {a : Act} {K K' : Act → World → Prop} {QQ : Exit → Act → World → Prop} (hnd : ro = none ∨ ∀ c, o.op ≠ .defer c) (hK : ∀ a w, K a w → K' a w) (h : o.wp P a w K QQ) : o.wpIn (wd ro) m P a w K' QQ := by
 refine ⟨bE, ?_⟩
 have e : o.semAt (wd ro).round a.eval = execOp a.eval o := by
  rcases hnd with h | h
  · subst h; rfl
  exact Oper.semAt_eq _ _ _ h
 rw [e]
 unfold Oper.wp at h
 cases hr : (execOp a.eval o).run P w with
 | ok r w' =>
  rw [hr] at h
  cases r with
  | value v => exact hK _ _ h
  | skip => exact hK _ _ h
  | defer d => exact hK _ _ h
  | enter f args =>
   rw [Oper.uponIn_enter]
   rw [Oper.upon_enter] at h
   refine ⟨fun h => by simp [wd, Fence.wide] at h, eH.2 (h.mono ?_)⟩
   intro e w' he
   cases e with
   | returned v => exact hK _ _ he
   | panicked c => exact he
   | outgrown => exact he
  | row row args =>
   rw [Oper.uponIn_row]
   rw [Oper.upon_row] at h
   exact ⟨fun h => by simp [wd, Fence.wide] at h, pZ (h.mono fun v w' he => hK _ _ he)⟩
  | _ => exact h.elim
 | halt x w' =>
  rw [hr] at h
  cases x with
  | panic v => exact h
  | _ => exact h.elim
theorem nK {ro : Option Nat} {m : Nat} {ops : Array Oper} {i : Nat} {a : Act} {K K' : Act → World → Prop} {QQ : Exit → Act → World → Prop} (hnd : ro = none ∨ cV ops = true) (hL : ¬ LetsOut QQ) (hK : ∀ a w, K a w → K' a w) (h : wpOp P ops QQ i K a w) : wpOpIn (wd ro) m P ops QQ i K' a w := by
 unfold wpOp at h
 unfold wpOpIn
 cases ho : ops[i]? with
 | none => rw [ho] at h; exact hK _ _ h
 | some o =>
  rw [ho] at h
  dsimp only at h ⊢
  split
  ·
   rename_i hw
   rw [if_pos hw] at h
   rcases h with h | ⟨_, h⟩
   · exact Oper.wp_in (hnd.imp id fun h => nC h ho) hK h
   exact absurd h hL
  rename_i hw
  rw [if_neg hw] at h
  exact ⟨bE, hK _ _ h⟩
theorem fV {ro : Option Nat} {m : Nat} {ops : Array Oper} {QQ : Exit → Act → World → Prop} (hnd : ro = none ∨ cV ops = true) (hL : ¬ LetsOut QQ) : ∀ (f : Nat) (listed : Array Bool) (a : Act) (w : World), wpAny P .any ops QQ f listed a w → wpAnyIn (wd ro) m P .any ops QQ f listed a w
 | 0, _, _, _, h => h
 | f + 1, listed, a, w, h => ⟨h.1, fun i hi => nK hnd hL (fun a w h => fV hnd hL f _ a w h) (h.2 i hi)⟩
theorem fJ {ro : Option Nat} {m : Nat} {ops : Array Oper} {QQ : Exit → Act → World → Prop} : ∀ (l : List Oper) (k : Nat) (listed : Array Bool) (a : Act) (w : World), (∀ j, l[j]? = ops[k + j]?) →
  Region.seqB .any ops l.length k listed = true → wpListIn (wd ro) m P ops QQ l a w → wpAnyIn (wd ro) m P .any ops QQ l.length listed a w
 | [], _, _, _, _, _, hB, h => ⟨by simpa [Region.seqB] using hB, h⟩
 | o :: l, k, listed, a, w, hl, hB, h => by
  have h0 : ops[k]? = some o := by simpa using (hl 0).symm
  simp only [List.length_cons, Region.seqB, Bool.and_eq_true, decide_eq_true_eq] at hB
  refine ⟨fun h1 => (by rw [hB.1] at h1; cases h1), fun i hi => ?_⟩
  rw [hB.1] at hi
  have hik : i = k := by simpa using hi
  subst hik
  have hw : wpOpIn (wd ro) m P ops QQ i (wpListIn (wd ro) m P ops QQ l) a w := by unfold wpOpIn; simp only [h0]; exact h
  exact wpOpIn_mono (fun a' w' h' => fJ l (i + 1) _ a' w' (fun j => by have := hl (j + 1); simpa [Nat.add_assoc, Nat.add_comm 1 j] using this) hB.2 h') hw
theorem LetsOut.mono {Q Q' : Exit → Act → World → Prop} (h : ∀ e a w, Q e a w → Q' e a w) (hl : LetsOut Q) : LetsOut Q' := let ⟨a, w, q⟩ := hl; ⟨a, w, h _ _ _ q⟩
theorem mU {F : Fence} {m : Nat} {ops : Array Oper} {Q Q' : Exit → Act → World → Prop} {i : Nat} {K : Act → World → Prop} {a : Act} {w : World} (h : ∀ e a w, Q e a w → Q' e a w) (hh : wpOpIn F m P ops Q i K a w) : wpOpIn F m P ops Q' i K a w := by
 unfold wpOpIn at *
 split
 · simpa [*] using hh
 rename_i o ho
 simp only [ho] at hh
 split
 ·
  rename_i hw
  simp only [hw, if_true] at hh
  unfold Oper.wpIn at *
  refine ⟨hh.1, ?_⟩
  have hh := hh.2
  generalize (o.semAt F.round a.eval).run P w = r at *
  cases r with
  | ok x w' =>
   cases x <;> simp only [Oper.uponIn] at hh ⊢ <;>
    first
     | exact hh
     | exact ⟨hh.1, CallsIn.mono hh.2 (fun e w'' he => by cases e <;> first | exact he | exact h _ _ _ he | exact LetsOut.mono h he)⟩
     | exact ⟨hh.1, RoundIn.mono hh.2 (fun e w'' he => by cases e <;> first | exact he | exact h _ _ _ he | exact LetsOut.mono h he)⟩
  | halt x w' => cases x <;> simp only [Oper.uponIn] at hh ⊢ <;> first | exact hh | exact h _ _ _ hh
 rename_i hw; simp only [hw] at hh; exact hh
theorem eE {ro : Option Nat} {m : Nat} {ops : Array Oper} {QQ : Exit → Act → World → Prop} {n g : Nat} {L : Array Bool → Act → Prop} (hnd : ro = none ∨ cV ops = true) (hL : ∀ listed a, L listed a → wpAnyIn (wd ro) m P .any ops QQ g listed a w) :
  ∀ (f : Nat) (listed : Array Bool) (a : Act), wpAnyL P .any ops w n L f listed a → wpAnyIn (wd ro) m P .any ops QQ (f + g) listed a w
 | 0, listed, a, h => by rw [Nat.zero_add]; exact hL _ _ h
 | f + 1, listed, a, h => by
  rw [show f + 1 + g = (f + g) + 1 by omega]
  refine ⟨fun h0 => absurd h0 h.1, fun i hi => ?_⟩
  have h2 := wpOp_of_stOp (Q' := fun _ _ _ => False) (K' := fun a' w' => w' = w ∧ wpAnyL P .any ops w n L f (listed.setIfInBounds i true) a') (fun a' h' => ⟨rfl, h'⟩) (h.2 i hi).2
  have h3 := nK (ro := ro) (m := m) (K' := fun a' w' => wpAnyIn (wd ro) m P .any ops QQ (f + g) (listed.setIfInBounds i true) a' w') hnd (fun ⟨_, _, h⟩ => h) (fun a' w' h' => by rw [h'.1]; exact eE hnd hL f _ a' h'.2) h2
  exact mU (fun e a w h => h.elim) h3
def qL (w w' : World) : Prop := ∃ m, w' = w.drewN m
section
variable {ops : Array Oper} {rest : List Oper} {o : Oper} {K : Env → Prop}
end
def qF (P : Program) (n : NF) (ops : Array Oper) (l : List Oper) (Γ : Env) (w : World) (K : Env → Prop) : Prop :=
 ∀ a, Sat n Γ a → wpStill P ops w (fun a' => ∃ Γ', Sat n Γ' a' ∧ K Γ') l a
section
variable {ops : Array Oper} {rest : List Oper} {o : Oper} {K : Env → Prop}
theorem dR {K K' : Act → Prop} (h : ∀ a, K a → K' a) : ∀ (l : List Oper) (a : Act), wpStill P ops w K l a → wpStill P ops w K' l a
 | [], a, hq => h a hq
 | o :: l, a, hq => by
  unfold wpStill at hq ⊢
  split
  · rename_i hw; rw [if_pos hw] at hq; exact Oper.still_mono (fun a => dR h l a) hq
  rename_i hw; rw [if_neg hw] at hq; exact dR h l _ hq
theorem qF.nil (h : K Γ) : qF P n ops [] Γ w K := fun _ hs => wpStill_nil ⟨Γ, hs, h⟩
theorem qF.of_still (hup : Up ops Γ o.guard) (h : ∀ a, Sat n Γ a → o.still P a w (wpStill P ops w (fun a' => ∃ Γ', Sat n Γ' a' ∧ K Γ') rest)) : qF P n ops (o :: rest) Γ w K := by
 intro a hs
 unfold wpStill
 rw [if_pos (hup.wanted hs)]
 exact h a hs
theorem qF.run {v : Value} (h : Run P o Γ w v) {d : Nat} (hup : Up ops Γ o.guard) (hd : o.dst = some d) (hn : Nat.blt d n.n = true)
  (k : qF P n ops rest ((d, v) :: Γ) w K) : qF P n ops (o :: rest) Γ w K :=
 qF.of_still hup fun a hs => by
  unfold Oper.still
  rw [h _ hs.fits, Oper.stillUpon_value, hd]
  exact k _ (hs.put hn v)
end
theorem VC.tail {id : Nat} {l : List Oper} (N : Nat) (hm : P.follows .mixedOrders = true) (hB : Region.lexTailB .any l.toArray N = true)
  (h : qF P n l.toArray (l.take N) Γ w.drew (fun Γ' => Ops P n l.toArray (l.drop N) Γ' w.drew Q)) (hnd : n.ro = none ∨ cV l.toArray = true := by first | exact .inl rfl | exact .inr (by kernel_rfl)) : VC P n (.region id l.toArray true) Γ w Q := by
 intro a hs m
 have h1 := dR (K' := fun a' => wpListIn (wd n.ro) m P l.toArray (dC n Q) (l.drop N) a' w.drew) (fun a' ⟨Γ', hs', hk⟩ => hk a' hs' m) _ a (h a hs)
 simp only [Region.lexTailB, Bool.and_eq_true, decide_eq_true_eq] at hB
 obtain ⟨⟨⟨⟨hsel, hn⟩, hsk⟩, hc⟩, hlex⟩ := hB
 have htl : (l.take N).length = N := by simp; simp at hn; omega
 have hdl : (l.drop N).length = l.toArray.size - N := jp
 have inv0 : HeadInv .any l.toArray N (Array.replicate l.toArray.size false) :=
  ⟨jp, fun j oj _ hl => (by rw [getD_replicate_false] at hl; cases hl), fun t _ ht => getD_in (by simpa using ht) (getD_replicate_false _ _)⟩
 have H := wpAnyL_lex (md := .any) (g := l.toArray.size - N) hsel hsk hc hn (l.take N) 0 _ a (fun j hj => by
  have hj' : j < N := by rw [htl] at hj; exact hj
  simp [hj']) (by simpa using htl) inv0 (by rw [htl]; exact hlex) h1
 refine wpIn_region_any hm ?_
 have := eE (QQ := dC n Q) (g := l.toArray.size - N) hnd (fun listed a' hL => by
  have := fJ (QQ := dC n Q) (l.drop N) N listed a' w.drew (fun j => by simp [List.getElem?_drop]) (by rw [hdl]; exact hL.1) hL.2
  rwa [hdl] at this) _ _ _ H
 rw [htl, show N + (l.toArray.size - N) = l.toArray.size by simp at hn ⊢; omega] at this
 exact this
theorem VC.still {id : Nat} {l : List Oper} (hm : P.follows .mixedOrders = true) (hB : Region.lexB .any l.toArray = true)
  (h : qF P n l.toArray l Γ w.drew (fun Γ' => Q .normal Γ' w.drew)) (hnd : n.ro = none ∨ cV l.toArray = true := by first | exact .inl rfl | exact .inr (by kernel_rfl)) : VC P n (.region id l.toArray true) Γ w Q := by
 intro a hs m
 have h1 := dR (K' := fun a' => dC n Q .normal a' w.drew) (fun a' ⟨Γ', hs', hk⟩ => ⟨Γ', hs', hk⟩) _ a (h a hs)
 simp only [Region.lexB, Bool.and_eq_true] at hB
 refine wpIn_mono (Q := fun e a w => e = .normal ∧ dC n Q .normal a w) (wpIn_region_any hm (fV (QQ := fun e a w => e = .normal ∧ dC n Q .normal a w) hnd (fun ⟨_, _, h⟩ => by cases h.1) _ _ _ _
  (wpAny_of_still (w := w.drew) (Q := fun a' => dC n Q .normal a' w.drew) (fun _ h => ⟨rfl, h⟩) _ _ _ ?_))) (fun e a w h => by rw [h.1]; exact h.2)
 have := wpAnyS_lex (md := .any) hB.1 l.toArray.toList 0 (Array.replicate l.toArray.size false) a jp (by simpa using hB.2) (by simpa using h1)
 simpa using this
def nD (tmps : Array Value) : ResultVar → Sem Value
 | .tmp t => pure (tmps.getD t undef)
 | .cell a t => do loadVar t (← asAddr (tmps.getD a undef))
def nE : List Value → Value
 | [v] => v
 | l => .tuple l.toArray
theorem nF (fn : Func) (tmps : Array Value) : results fn tmps = (do let vs ← fn.results.mapM (nD tmps); pure (if h : vs.size = 1 then vs[0] else .tuple vs)) := by
 unfold results
 congr 1
def dJ (P : Program) : List ResultVar → Env → World → (List Value → Prop) → Prop
 | [], _, _, K => K []
 | .tmp t :: r, Γ, w, K => ∃ v, get? Γ t = some v ∧ dJ P r Γ w fun vs => K (v :: vs)
 | .cell t T :: r, Γ, w, K => ∃ a v, get? Γ t = some (.pointer (some a)) ∧ (loadVar T a).run P w = .ok v w ∧ dJ P r Γ w fun vs => K (v :: vs)
theorem gS {P : Program} {n : NF} {Γ : Env} {a : Act} {w : World} (hs : Sat n Γ a) : ∀ (l : List ResultVar) (K : List Value → Prop), dJ P l Γ w K → ∃ vs, (l.mapM (nD a.tmps)).run P w = .ok vs w ∧ K vs
 | [], K, h => ⟨[], jp, h⟩
 | .tmp t :: r, K, h => by
  obtain ⟨v, h1, h2⟩ := h
  obtain ⟨vs, h3, h4⟩ := gS hs r _ h2
  have h5 := hs.at_ t v h1
  refine ⟨v :: vs, ?_, h4⟩
  rw [List.mapM_cons]
  simp [nD, h3]
  simpa using h5
 | .cell t T :: r, K, h => by
  obtain ⟨p, v, h1, h2, h3⟩ := h
  obtain ⟨vs, h4, h5⟩ := gS hs r _ h3
  have h6 := hs.at_ t _ h1
  refine ⟨v :: vs, ?_, h5⟩
  have h7 : (asAddr (.pointer (some p))).run P w = .ok p w := rfl
  rw [List.mapM_cons]
  simp [nD, h4, h6, h2, h7]
theorem cQ {P : Program} {n : NF} {Γ : Env} {a : Act} {w : World} (hs : Sat n Γ a) {fn : Func} {res : Array ResultVar} (hr : fn.results = res) {K : List Value → Prop} (h : dJ P res.toList Γ w K) : ∃ vs, (results fn a.tmps).run P w = .ok (nE vs) w ∧ K vs := by
 obtain ⟨vs, h1, h2⟩ := gS hs _ K h
 refine ⟨vs, ?_, h2⟩
 rw [nF, hr, Array.mapM_eq_mapM_toList]
 simp [h1]
 match vs with
 | [] => rfl
 | [v] => rfl
 | v :: u :: r => simp [nE]
def cX (P : Program) (res : Array ResultVar) (R : Ending → World → Prop) : Exit → Env → World → Prop
 | .normal, Γ, w | .ret, Γ, w => dJ P res.toList Γ w fun vs => R (.returned (nE vs)) w
 | .panic ch, _, w => R (.panicked ch) w
 | _, _, _ => False
def argEnv : Nat → List Value → Env
 | _, [] => []
 | k, v :: r => (k, v) :: argEnv (k + 1) r
theorem eM (l : List Value) : ∀ (k t : Nat) (v : Value), get? (argEnv k l) t = some v → k ≤ t ∧ l[t - k]? = some v := by
 induction l with
 | nil => intro k t v h; simp [argEnv, get?] at h
 | cons u r ih =>
  intro k t v h
  simp only [argEnv, get?] at h
  cases hb : Nat.beq k t with
  | true =>
   rw [hb] at h
   simp only [cond_true, Option.some.injEq] at h
   have := Nat.eq_of_beq_eq_true hb
   subst this
   subst h
   simp
  | false =>
   rw [hb] at h
   obtain ⟨h1, h2⟩ := ih (k + 1) t v h
   refine ⟨jo, ?_⟩
   have e : t - k = (t - (k + 1)) + 1 := jo
   rw [e, List.getElem?_cons_succ]
   exact h2
theorem VC.calls {f : FuncId} {fn : Func} {c : Code} {args : List Value} {w : World} {R : Ending → World → Prop} {nt : Nat} {res : Array ResultVar}
  (hf : P.funcs[f]? = some fn) (hb : fn.body = some c) (hn : fn.ntmps = nt) (hr : fn.results = res) (hl0 : Nat.ble args.length nt = true)
  (h : VC P ⟨nt, [], none⟩ c (argEnv 0 args) w (cX P res R)) : Calls P f args.toArray w R := by
 have hl : args.length ≤ nt := Nat.le_of_ble_eq_true hl0
 refine calls_of_wp hf hb ?_
 refine wpIn_wide.1 (wpIn_mono (h _ ?_ 0) ?_)
 ·
  refine ⟨?_, rfl, ?_⟩
  ·
   simp only [Array.size_append, List.size_toArray, Array.size_replicate, hn]
   omega
  intro t v ht
  obtain ⟨_, h2⟩ := eM args 0 t v ht
  simp only [Nat.sub_zero] at h2
  have hlt : t < args.length := (List.getElem?_eq_some_iff.1 h2).1
  rw [Array.getD_eq_getD_getElem?, Array.getElem?_append_left (by simpa using hlt)]
  simp [h2]
 intro e a w hq
 obtain ⟨Γ, hs, q⟩ := hq
 have key : ∀ (Γ : Env), Sat ⟨nt, [], none⟩ Γ a → cX P res R .ret Γ w → ∃ v, (results fn a.tmps).run P w = .ok v w ∧ R (.returned v) w := by
  intro Γ hs q
  simp only [cX] at q
  obtain ⟨vs, h1, h2⟩ := cQ hs hr q
  exact ⟨_, h1, h2⟩
 cases e with
 | normal => obtain ⟨v, h1, h2⟩ := key Γ hs q; exact ⟨hs.defers, v, h1, h2⟩
 | ret => obtain ⟨v, h1, h2⟩ := key Γ hs q; exact ⟨hs.defers, v, h1, h2⟩
 | panic ch => exact ⟨hs.defers, q⟩
 | exit id => exact q.elim
 | goto l => exact q.elim
 | outgrown => exact q.elim
end
def Bin (op : BinOp) (k : IntKind) (x : Int) (k' : IntKind) (y : Int) (v : Value) : Prop := ∀ (P : Program) (T : TypeId) (w : World), (binOp op T (.int k x) (.int k' y)).run P w = .ok v w
def bmax (k : IntKind) : Nat := match k with | .i8 => 127 | .i16 => 32767 | .i32 => 2147483647 | .i64 => 9223372036854775807 | .u8 => 255 | .u16 => 65535 | .u32 => 4294967295 | .u64 => 18446744073709551615
def nA (k : IntKind) : Int := match k with | .i8 => -128 | .i16 => -32768 | .i32 => -2147483648 | .i64 => -9223372036854775808 | _ => 0
theorem lC (k : IntKind) (x : Int) (h1 : nA k ≤ x) (h2 : x ≤ (bmax k : Int)) : k.wrap x = x := by
 cases k <;> simp only [nA, bmax] at h1 h2
 · exact IntWalk.i8_in _ ⟨h1, jo⟩
 · exact IntWalk.i16_in _ ⟨h1, jo⟩
 · exact IntWalk.i32_in _ ⟨h1, jo⟩
 · exact IntWalk.i64_in _ ⟨h1, jo⟩
 · exact IntWalk.u8_in _ ⟨h1, jo⟩
 · exact IntWalk.u16_in _ ⟨h1, jo⟩
 · exact IntWalk.u32_in _ ⟨h1, jo⟩
 exact IntWalk.u64_in _ ⟨h1, jo⟩
theorem fW (k : IntKind) (x : Nat) (h : x ≤ bmax k) : k.wrap (x : Int) = x := lC k x (by cases k <;> simp only [nA] <;> omega) (by exact_mod_cast h)
section
variable {k : IntKind}
theorem Bin.add (x y : Int) (h1 : nA k ≤ x + y) (h2 : x + y ≤ (bmax k : Int)) : Bin .add k x k y (.int k (x + y)) := fun P T w => by simp [binOp, Op.intArith, lC k _ h1 h2]
theorem Bin.lss (x y : Int) : Bin .lss k x k y (.bool (decide (x < y))) := fun P T w => by simp [binOp, Op.intCmp]
theorem Bin.gtr (x y : Int) : Bin .gtr k x k y (.bool (decide (y < x))) := fun P T w => by simp [binOp, Op.intCmp]
theorem Bin.geq (x y : Int) : Bin .geq k x k y (.bool (decide (y ≤ x))) := fun P T w => by simp [binOp, Op.intCmp]
theorem Bin.eql (x y : Int) : Bin .eql k x k y (.bool (decide (x = y))) := fun P T w => by simp [binOp, Op.intCmp]; rfl
theorem Bin.neq (x y : Int) : Bin .neq k x k y (.bool (decide (x ≠ y))) := fun P T w => by
 simp only [binOp, Op.intCmp, ne_eq, not_true_eq_false, if_false]
 show Result.ok (Value.bool (x != y)) w = _
 congr 2
 rw [Bool.eq_iff_iff]; simp
theorem Bin.addN (x y : Nat) (h : x + y ≤ bmax k) : Bin .add k x k y (.int k ((x + y : Nat) : Int)) := fun P T w => by
 have e : ((x : Int) + (y : Int)) = ((x + y : Nat) : Int) := rfl
 simp only [binOp, Op.intArith, ne_eq, not_true_eq_false, if_false, e, fW k _ h]; rfl
theorem Bin.subN (x y : Nat) (hy : y ≤ x) (h : x - y ≤ bmax k) : Bin .sub k x k y (.int k ((x - y : Nat) : Int)) := fun P T w => by
 have e : ((x : Int) - (y : Int)) = ((x - y : Nat) : Int) := (Int.ofNat_sub hy).symm
 simp only [binOp, Op.intArith, ne_eq, not_true_eq_false, if_false, e, fW k _ h]; rfl
theorem Bin.mulN (x y : Nat) (h : x * y ≤ bmax k) : Bin .mul k x k y (.int k ((x * y : Nat) : Int)) := fun P T w => by
 have e : ((x : Int) * (y : Int)) = ((x * y : Nat) : Int) := rfl
 simp only [binOp, Op.intArith, ne_eq, not_true_eq_false, if_false, e, fW k _ h]; rfl
theorem Bin.lssN (x y : Nat) : Bin .lss k x k y (.bool (decide (x < y))) := fun P T w => by simp [binOp, Op.intCmp]
theorem Bin.leqN (x y : Nat) : Bin .leq k x k y (.bool (decide (x ≤ y))) := fun P T w => by simp [binOp, Op.intCmp]
theorem Bin.gtrN (x y : Nat) : Bin .gtr k x k y (.bool (decide (y < x))) := fun P T w => by simp [binOp, Op.intCmp]
theorem Bin.geqN (x y : Nat) : Bin .geq k x k y (.bool (decide (y ≤ x))) := fun P T w => by simp [binOp, Op.intCmp]
theorem Bin.eqlN (x y : Nat) : Bin .eql k x k y (.bool (decide (x = y))) := fun P T w => by
 have := Bin.eql (k := k) x y P T w
 simpa [Int.natCast_inj] using this
theorem Bin.neqN (x y : Nat) : Bin .neq k x k y (.bool (decide (x ≠ y))) := fun P T w => by
 have := Bin.neq (k := k) x y P T w
 simpa [Int.natCast_inj] using this
end
section
variable {P : Program} {Γ : Env} {w : World} {dst : Option Tmp} {T : TypeId} {pos : String} {after : Array Edge} {g : Option (Nat × Bool)}
theorem Run.mv {x : Operand} {v : Value} (h : ev? Γ x = some v) : Run P ⟨dst, .move x, T, pos, after, g⟩ Γ w v := fun ρ hρ => by
 simp [execOp, hρ _ _ h]
theorem Run.asg {x : Operand} {v : Value} (h : ev? Γ x = some v) : Run P ⟨dst, .assign x, T, pos, after, g⟩ Γ w v := fun ρ hρ => by
 simp [execOp, hρ _ _ h]
theorem Run.pickT {c x y : Operand} {b : Bool} {u : Value} (hc : ev? Γ c = some (.bool b)) (hx : ev? Γ x = some u) (hb : b = true) :
  Run P ⟨dst, .pick c x y, T, pos, after, g⟩ Γ w u := fun ρ hρ => by
 simp [execOp, hρ _ _ hc, hρ _ _ hx, asBool, hb]
theorem Run.pickF {c x y : Operand} {b : Bool} {v : Value} (hc : ev? Γ c = some (.bool b)) (hy : ev? Γ y = some v) (hb : b = false) :
  Run P ⟨dst, .pick c x y, T, pos, after, g⟩ Γ w v := fun ρ hρ => by
 simp [execOp, hρ _ _ hc, hρ _ _ hy, asBool, hb]
theorem Run.bin {op : BinOp} {xT yT : TypeId} {x y : Operand} {k k' : IntKind} {a b : Int} {v : Value} (hx : ev? Γ x = some (.int k a)) (hy : ev? Γ y = some (.int k' b)) (hb : Bin op k a k' b v) :
  Run P ⟨dst, .binOp op xT x y yT, T, pos, after, g⟩ Γ w v := fun ρ hρ => by
 have h0 : (eqGuard op xT x y (.int k a) (.int k' b)).run P w = .ok () w := by
  unfold eqGuard
  split <;> rfl
 have h1 := hb P xT w
 simp only [execOp, hρ _ _ hx, hρ _ _ hy, Sem.run_bind, h0, Result.andThen_ok, h1, Sem.run_pure]
theorem Run.not {xT : TypeId} {x : Operand} {b : Bool} (hx : ev? Γ x = some (.bool b)) : Run P ⟨dst, .unOp .not xT x, T, pos, after, g⟩ Γ w (.bool (! b)) := fun ρ hρ => by
 simp [execOp, hρ _ _ hx, Op.unary]
theorem Run.nilck {x : Operand} {a : Addr} (hx : ev? Γ x = some (.pointer (some a))) : Run P ⟨dst, .nilCheck x, T, pos, after, g⟩ Γ w (.pointer (some a)) := fun ρ hρ => by
 simp [execOp, hρ _ _ hx]
theorem Run.conv {src dstT : TypeId} {x : Operand} {k k' : IntKind} {a : Int} {d : TypeDesc} (hx : ev? Γ x = some (.int k a)) (hs : P.underlying src = some d) (hd : P.underlying dstT = some (.int k')) (r : Int) (hr : k'.wrap a = r) :
  Run P ⟨dst, .convert src dstT x, T, pos, after, g⟩ Γ w (.int k' r) := fun ρ hρ => by
 simp [execOp, hρ _ _ hx, convert, run_underlying hs, run_underlying hd, Conv.intToInt, hr]
theorem Run.convN {src dstT : TypeId} {x : Operand} {k k' : IntKind} {d : TypeDesc} (a : Nat) (hx : ev? Γ x = some (.int k a)) (hs : P.underlying src = some d) (hd : P.underlying dstT = some (.int k')) (hr : a ≤ bmax k') :
  Run P ⟨dst, .convert src dstT x, T, pos, after, g⟩ Γ w (.int k' a) := Run.conv hx hs hd _ (fW k' a hr)
theorem Run.fieldAddr {s : TypeId} {x : Operand} {f : Nat} {a : Addr} {fs : Array Field} {fd : Field} {sz : Nat} (hx : ev? Γ x = some (.pointer (some a))) (hs : P.underlying s = some (.struct fs)) (hf : fs[f]? = some fd)
  (hz : ∀ w, (sizeOf fd.type).run P w = .ok sz w) (hz0 : sz ≠ 0) : Run P ⟨dst, .fieldAddr s x f, T, pos, after, g⟩ Γ w (.pointer (some (a.add fd.offset))) := fun ρ hρ => by
 simp [execOp, hρ _ _ hx, Instr.fieldAt, run_underlying hs, hf, Instr.sureAddr, fieldPlace, hz, hz0]
theorem Run.indexS {t : TypeId} {x i : Operand} {a : Addr} {len cap : Nat} {k : IntKind} {e : TypeId} {sz : Nat} (j : Nat) (hx : ev? Γ x = some (.slice (some a) len cap)) (hi : ev? Γ i = some (.int k j)) (ht : P.underlying t = some (.slice e))
  (hz : ∀ w, (sizeOf e).run P w = .ok sz w) (hj : j < len) : Run P ⟨dst, .indexAddr t x i, T, pos, after, g⟩ Γ w (.pointer (some (a.add (j * sz)))) := fun ρ hρ => by
 have h1 : (j : Int) < (len : Int) := jo
 simp [execOp, hρ _ _ hx, hρ _ _ hi, Instr.indexAt, asIntOf, run_underlying ht, hz, hj]
theorem Run.index1 {t : TypeId} {x i : Operand} {a : Addr} {len cap : Nat} {k : IntKind} {e : TypeId} (j : Nat) (hx : ev? Γ x = some (.slice (some a) len cap)) (hi : ev? Γ i = some (.int k j)) (ht : P.underlying t = some (.slice e))
  (hz : ∀ w, (sizeOf e).run P w = .ok 1 w) (hj : j < len) : Run P ⟨dst, .indexAddr t x i, T, pos, after, g⟩ Γ w (.pointer (some (a.add j))) := by
 have := Run.indexS (P := P) (Γ := Γ) (w := w) (dst := dst) (T := T) (pos := pos) (after := after) (g := g) j hx hi ht hz hj
 rwa [Nat.mul_one] at this
theorem Run.load {t : TypeId} {x : Operand} {a : Addr} {v : Value} (hx : ev? Γ x = some (.pointer (some a))) (ht : ∀ w, (isAgg t).run P w = .ok false w) (hc : w.cell? a = some v) :
  Run P ⟨dst, .load t x, T, pos, after, g⟩ Γ w v := fun ρ hρ => by
 simp [execOp, hρ _ _ hx, Instr.loadAt, Instr.sureAddr, loadVar, ht, hc]
theorem Run.loadA {t : TypeId} {x : Operand} {a : Addr} {cs : List Value} {sz : Nat} (hx : ev? Γ x = some (.pointer (some a))) (ht : ∀ w, (isAgg t).run P w = .ok true w) (hz : ∀ w, (sizeOf t).run P w = .ok sz w)
  (hc : ∀ j v, cs[j]? = some v → w.cell? (a.add j) = some v) (hl : cs.length = sz) : Run P ⟨dst, .load t x, T, pos, after, g⟩ Γ w (.agg cs.toArray) := fun ρ hρ => by
 subst hl
 simp [execOp, hρ _ _ hx, Instr.loadAt, Instr.sureAddr, loadVar, ht, hz, run_loadCells_list w a cs hc]
theorem Run.lenS {t : TypeId} {x : Operand} {a : Option Addr} {len cap : Nat} {e : TypeId} (hx : ev? Γ x = some (.slice a len cap)) (ht : P.underlying t = some (.slice e)) :
  Run P ⟨dst, .call ⟨.builtin .len, #[x], #[t]⟩, T, pos, after, g⟩ Γ w (.int .i64 len) := fun ρ hρ => by
 simp [execOp, resolve, invoke, builtin, Builtin.len_, hρ _ _ hx, run_underlying ht, goInt]
theorem Run.lenStr {t : TypeId} {x : Operand} {s : ByteArray} (hx : ev? Γ x = some (.string s)) (ht : P.underlying t = some .string) :
  Run P ⟨dst, .call ⟨.builtin .len, #[x], #[t]⟩, T, pos, after, g⟩ Γ w (.int .i64 s.size) := fun ρ hρ => by
 simp [execOp, resolve, invoke, builtin, Builtin.len_, hρ _ _ hx, run_underlying ht, goInt]
theorem Run.extract {x : Operand} {ix : Nat} {vs : Array Value} {v : Value} (hx : ev? Γ x = some (.tuple vs)) (hv : vs[ix]? = some v) : Run P ⟨dst, .extract x ix, T, pos, after, g⟩ Γ w v := fun ρ hρ => by
 simp [execOp, hρ _ _ hx, Instr.extract, hv]
theorem Run.neqB {t yT : TypeId} {x y : Operand} {a b : Bool} (hx : ev? Γ x = some (.bool a)) (hy : ev? Γ y = some (.bool b)) (ht : P.underlying t = some .bool) :
  Run P ⟨dst, .binOp .neq t x y yT, T, pos, after, g⟩ Γ w (.bool (a != b)) := fun ρ hρ => by
 have h0 : ∀ d : Nat, (Op.equalIn (d + 1) t (.bool a) (.bool b)).run P w = .ok (a == b) w := fun d => by simp [Op.equalIn, run_underlying ht]
 have h1 : (Op.equal t (.bool a) (.bool b)).run P w = .ok (a == b) w := h0 9999
 simp [execOp, hρ _ _ hx, hρ _ _ hy, eqGuard, binOp, h1, bne]
theorem Run.eqlStr {t yT : TypeId} {x y : Operand} {a b : ByteArray} (hx : ev? Γ x = some (.string a)) (hy : ev? Γ y = some (.string b)) :
  Run P ⟨dst, .binOp .eql t x y yT, T, pos, after, g⟩ Γ w (.bool (decide (a.data.toList = b.data.toList))) := fun ρ hρ => by
 have e : (a.data.toList == b.data.toList) = decide (a.data.toList = b.data.toList) := by rw [Bool.eq_iff_iff]; simp
 simp [execOp, hρ _ _ hx, hρ _ _ hy, eqGuard, binOp, Op.stringOp, ByteArray.toList_eq, e]
theorem Run.neqStr {t yT : TypeId} {x y : Operand} {a b : ByteArray} (hx : ev? Γ x = some (.string a)) (hy : ev? Γ y = some (.string b)) :
  Run P ⟨dst, .binOp .neq t x y yT, T, pos, after, g⟩ Γ w (.bool (decide (a.data.toList ≠ b.data.toList))) := fun ρ hρ => by
 have e : (a.data.toList == b.data.toList) = decide (a.data.toList = b.data.toList) := by rw [Bool.eq_iff_iff]; simp
 simp [execOp, hρ _ _ hx, hρ _ _ hy, eqGuard, binOp, Op.stringOp, ByteArray.toList_eq, e]
theorem Run.addStr {t yT : TypeId} {x y : Operand} {a b : ByteArray} (hx : ev? Γ x = some (.string a)) (hy : ev? Γ y = some (.string b)) (hs : a.size + b.size ≤ 9223372036854775807) :
  Run P ⟨dst, .binOp .add t x y yT, T, pos, after, g⟩ Γ w (.string (a ++ b)) := fun ρ hρ => by
 have h := run_string_add_sum (P := P) w a b hs
 simp [execOp, hρ _ _ hx, hρ _ _ hy, eqGuard, binOp, h]
theorem Run.indexStr {t : TypeId} {x i : Operand} {s : ByteArray} {k : IntKind} (j : Nat) (b : UInt8) (hx : ev? Γ x = some (.string s)) (hi : ev? Γ i = some (.int k j)) (ht : P.underlying t = some .string) (hj : s.data.toList[j]? = some b) :
  Run P ⟨dst, .index t x i, T, pos, after, g⟩ Γ w (.int .u8 b.toNat) := fun ρ hρ => by
 have hlt : j < s.size := by have := (List.getElem?_eq_some_iff.1 hj).1; simpa using this
 have e : s[j]? = some b := by
  rw [ByteArray.getElem?_lt' s j hlt]
  have := (List.getElem?_eq_some_iff.1 hj).2
  rw [← this]; rfl
 simp [execOp, hρ _ _ hx, hρ _ _ hi, Instr.index, asIntOf, run_underlying ht, e]
end
def evB (Γ : Env) (o : Option Operand) (d r : Nat) : Prop := match o with | none => r = d | some x => ∃ k, ev? Γ x = some (.int k (r : Int))
theorem evB.none_ {Γ : Env} {d : Nat} : evB Γ none d d := rfl
theorem evB.some_ {Γ : Env} {d r : Nat} {x : Operand} {k : IntKind} (h : ev? Γ x = some (.int k (r : Int))) : evB Γ (some x) d r := ⟨k, h⟩
def cutA (a : Option Addr) (cap l sz : Nat) : Option Addr := if cap = l then a else a.map (·.add (l * sz))
section
variable {P : Program} {Γ : Env} {w : World} {dst : Option Tmp} {T : TypeId} {pos : String} {after : Array Edge} {g : Option (Nat × Bool)}
theorem gO {ρ : Operand → Value} (hρ : fL ρ Γ) (len cap l h : Nat) (lo hi : Option Operand) (hlo : evB Γ lo 0 l) (hhi : evB Γ hi len h) (h1 : l ≤ h) (h2 : h ≤ cap) (isS : Bool) :
  (Instr.sliceBounds isS len cap (lo.map ρ) (hi.map ρ) none).run P w = .ok (l, h, cap) w := by
 have hb : ∀ (k : IntKind) (r y : Nat) (code : BoundsCode), r ≤ y → (Instr.sliceBound (.int k (r : Int)) y code).run P w = .ok r w := by
  intro k r y code hry
  have := run_sliceBound (P := P) w k (r : Int) y code jo jo
  simpa using this
 unfold Instr.sliceBounds
 cases lo with
 | none =>
  cases hi with
  | none => simp only [evB] at hlo hhi; subst hlo hhi; simp
  | some y => simp only [evB] at hlo; obtain ⟨k, hy⟩ := hhi; subst hlo; simp [hρ _ _ hy, hb _ _ _ _ h2]
 | some x =>
  obtain ⟨k, hx⟩ := hlo
  cases hi with
  | none => simp only [evB] at hhi; subst hhi; simp [hρ _ _ hx, hb _ _ _ _ h1]
  | some y => obtain ⟨k', hy⟩ := hhi; simp [hρ _ _ hx, hρ _ _ hy, hb _ _ _ _ h1, hb _ _ _ _ h2]
theorem Run.sliceS {t e : TypeId} {x : Operand} {a : Option Addr} {len cap sz : Nat} {lo hi : Option Operand} (l h : Nat) (hx : ev? Γ x = some (.slice a len cap)) (ht : P.underlying t = some (.slice e)) (hz : ∀ w, (sizeOf e).run P w = .ok sz w)
  (hlo : evB Γ lo 0 l) (hhi : evB Γ hi len h) (h1 : l ≤ h) (h2 : h ≤ cap) :
  Run P ⟨dst, .slice t x lo hi none, T, pos, after, g⟩ Γ w (.slice (cutA a cap l sz) (h - l) (cap - l)) := fun ρ hρ => by
 have hb := gO (P := P) (w := w) hρ len cap l h lo hi hlo hhi h1 h2 true
 simp only [execOp, Instr.sliceAt, Instr.slice, Sem.run_bind, run_underlying ht, Result.andThen_ok, hρ _ _ hx, Option.map_none, hb, hz, Sem.run_pure]
 rfl
theorem Run.sliceStr {t : TypeId} {x : Operand} {s : ByteArray} {lo hi : Option Operand} (l h : Nat) (hx : ev? Γ x = some (.string s)) (ht : P.underlying t = some .string)
  (hlo : evB Γ lo 0 l) (hhi : evB Γ hi s.size h) (h1 : l ≤ h) (h2 : h ≤ s.size) :
  Run P ⟨dst, .slice t x lo hi none, T, pos, after, g⟩ Γ w (.string (s.extract l h)) := fun ρ hρ => by
 have hb := gO (P := P) (w := w) hρ s.size s.size l h lo hi hlo hhi h1 h2 false
 simp [execOp, Instr.sliceAt, Instr.slice, run_underlying ht, hρ _ _ hx, hb]
end
section
variable {P : Program} {Γ : Env} {w : World} {dst : Option Tmp} {T : TypeId} {pos : String} {after : Array Edge} {g : Option (Nat × Bool)}
def evs (Γ : Env) : List Operand → List Value → Prop
 | [], vs => vs = []
 | x :: r, vs => ∃ v us, ev? Γ x = some v ∧ evs Γ r us ∧ vs = v :: us
theorem evs.nil {Γ : Env} : evs Γ [] [] := rfl
theorem evs.cons {Γ : Env} {x : Operand} {r : List Operand} {v : Value} {us : List Value} (h : ev? Γ x = some v) (hr : evs Γ r us) : evs Γ (x :: r) (v :: us) := ⟨v, us, h, hr, rfl⟩
theorem cC {ρ : Operand → Value} (hρ : fL ρ Γ) : ∀ (xs : List Operand) (vs : List Value), evs Γ xs vs → xs.map ρ = vs
 | [], vs, h => by simp only [evs] at h; subst h; rfl
 | x :: r, vs, h => by
  obtain ⟨v, us, h1, h2, rfl⟩ := h
  rw [List.map_cons, hρ _ _ h1, cC hρ r us h2]
theorem qI.fn {f : FuncId} {xs : List Operand} {vs : List Value} {ts : Array TypeId} (hv : evs Γ xs vs) (hf : ∀ args w, (callFunc f args).run P w = .ok (.enter f args) w) :
  qI P ⟨dst, .call ⟨.value (.func f), xs.toArray, ts⟩, T, pos, after, g⟩ Γ w f vs.toArray := fun ρ hρ => by
 have e := cC hρ xs vs hv
 have e2 : ρ (.func f) = .func (.func f) #[] #[] := hρ _ _ rfl
 have e3 : ρ (.func f) = .func (.func f) #[] #[] := e2
 simp [execOp, resolve, e2, Deferred.ofValue, invoke, e, hf]
end
structure Frm (S : List Nat) (w w' : World) : Prop where
 os : w'.os = w.os
 tape : w'.tape = w.tape
 output : w'.output = w.output
 size : w.heap.size ≤ w'.heap.size
 block : ∀ k, k < w.heap.size → k ∉ S → w'.heap[k]? = w.heap[k]?
def Blk (w : World) (g : Nat) (t : TypeId) (cs : Array Value) : Prop := w.heap[g]? = some (.cells cs t (0, 0))
def ob : Option Addr → List Nat
 | none => []
 | some a => [a.block]
def Rd (w : World) (size : Nat) (A : Option Addr) (n : Nat) (xs : List Value) : Prop :=
 xs.length = n * size ∧ (0 < n → ∃ ad, A = some ad ∧ ad.block < w.heap.size ∧ ∀ j u, xs[j]? = some u → w.cell? (ad.add j) = some u)
def Own (w : World) (e size : Nat) (A : Option Addr) (n c : Nat) (xs : List Value) : Prop := w.ownsRow 0 e size (.slice A n c) n xs
section
variable {S T : List Nat} {w w' w'' a b c : World} {g : Nat} {t : TypeId} {cs : Array Value}
theorem Frm.refl (S : List Nat) (w : World) : Frm S w w := ⟨rfl, rfl, rfl, Nat.le_refl _, fun _ _ _ => rfl⟩
theorem Frm.trans (h : Frm S a b) (k : Frm T b c) (hT : ∀ x ∈ T, x ∈ S ∨ a.heap.size ≤ x) : Frm S a c :=
 ⟨k.os.trans h.os, k.tape.trans h.tape, k.output.trans h.output, Nat.le_trans h.size k.size, fun i hi hS =>
  (k.block i (Nat.lt_of_lt_of_le hi h.size) (fun hx => by rcases hT i hx with h1 | h1; exact hS h1; omega)).trans (h.block i hi hS)⟩
theorem Frm.mono (h : Frm S w w') (hS : ∀ x ∈ S, x ∈ T ∨ w.heap.size ≤ x) : Frm T w w' :=
 ⟨h.os, h.tape, h.output, h.size, fun i hi hT => h.block i hi (fun hx => by rcases hS i hx with h1 | h1; exact hT h1; omega)⟩
theorem Frm.of_below (h : Below w.heap.size w w') : Frm [] w w' := ⟨h.os, h.tape, h.output, h.size, fun i hi _ => h.block i hi⟩
theorem Frm.below (h : Frm [] w w') : Below w.heap.size w w' := ⟨h.os, h.tape, h.output, h.size, fun i hi => h.block i hi jp⟩
theorem Frm.drew (h : Frm S w w') : Frm S w w'.drew := ⟨h.os, h.tape, h.output, h.size, h.block⟩
theorem Frm.drewN (h : Frm S w w') (n : Nat) : Frm S w (w'.drewN n) := ⟨h.os, h.tape, h.output, h.size, h.block⟩
theorem Frm.drawn (h : Frm S w w') (hd : qL w' w'') : Frm S w w'' := by obtain ⟨m, rfl⟩ := hd; exact h.drewN m
theorem Frm.alloc (h : Frm S a w) (o : Obj) : Frm S a (w.alloc o) :=
 h.trans (T := []) ⟨rfl, rfl, rfl, jp, fun k hk _ => Below.heap_alloc _ _ _ hk⟩ jp
theorem Frm.set1 (w : World) (p : Addr) (u : Value) : Frm [p.block] w (w.setCell p u) :=
 ⟨rfl, rfl, rfl, jp, fun k _ hS => Below.heap_setCell _ _ _ _ (by simpa using hS)⟩
theorem Frm.grown {row : Option Nat} (h : w.grownBy w' row) : Frm row.toList w w' :=
 ⟨h.os, h.tape, h.output, h.size, fun k hk hS => h.block k hk (fun e => hS (by rw [← e]; simp))⟩
theorem Frm.own (h : Frm [] w a) (k : Frm S a b) (hS : ∀ x ∈ S, w.heap.size ≤ x) : Frm [] w b := h.trans k (fun x hx => .inr (hS x hx))
theorem lD {B s : Nat} {A A' : Option Addr} (hA : ∀ x ∈ ob A, B ≤ x) (h : ob A' = ob A ∨ ob A' = [s]) (hs : B ≤ s) : ∀ x ∈ ob A', B ≤ x := fun x hx => by
 rcases h with h1 | h1 <;> rw [h1] at hx
 · exact hA x hx
 simp at hx; omega
theorem qL.frm (h : qL w w') : Frm [] w w' := (Frm.refl [] w).drawn h
theorem qL.drew (w : World) : qL w w.drew := ⟨1, rfl⟩
theorem Blk.lt (h : Blk w g t cs) : g < w.heap.size := by
 rcases Nat.lt_or_ge g w.heap.size with hlt | hge
 · exact hlt
 unfold Blk at h; rw [Array.getElem?_eq_none hge] at h; cases h
theorem Blk.cell (h : Blk w g t cs) (i : Nat) : w.cell? ⟨g, i, none⟩ = cs[i]? := by
 unfold Blk at h
 simp [World.cell?, h]
theorem Blk.frozen (h : Blk w g t cs) (i : Nat) : w.frozen? ⟨g, i, none⟩ = false := by
 unfold Blk at h
 simp [World.frozen?, h]
theorem Blk.new (w : World) (t : TypeId) (cs : Array Value) : Blk (w.alloc (.cells cs t)) w.heap.size t cs := heap_alloc_new w _
theorem Blk.cells (h : Blk w g t cs) : ∀ (j : Nat) (v : Value), cs.toList[j]? = some v → w.cell? ((⟨g, 0, none⟩ : Addr).add j) = some v := by
 intro j v hv
 have e : (⟨g, 0, none⟩ : Addr).add j = ⟨g, j, none⟩ := by
  unfold Addr.add; split
  · rename_i h0; subst h0; rfl
  simp
 rw [e, h.cell]
 simpa using hv
theorem Blk.frm (h : Blk w g t cs) (k : Frm S w w') (hg : g ∉ S) : Blk w' g t cs := (k.block g h.lt hg).trans h
theorem Blk.drawn (h : Blk w g t cs) (k : qL w w') : Blk w' g t cs := h.frm k.frm jp
theorem Blk.set (h : Blk w g t cs) (i : Nat) (u : Value) : Blk (w.setCell ⟨g, i, none⟩ u) g t (cs.setIfInBounds i u) := by
 unfold Blk at h ⊢
 simp [World.setCell, Array.getElem?_modify, h]
theorem Blk.ne {g' : Nat} {t' : TypeId} {cs' : Array Value} (h : Blk w g t cs) (h' : Blk w g' t' cs') (hne : t ≠ t') : g ≠ g' := by
 rintro rfl
 unfold Blk at h h'
 rw [h] at h'
 injection h' with h'
 injection h' with _ ht
 exact hne ht
theorem pJ (x : Addr) (n : Nat) : (x.add n).block = x.block := by unfold Addr.add; split <;> rfl
theorem tG (x : Addr) (i j : Nat) : (x.add i).add j = x.add (i + j) := by
 unfold Addr.add
 by_cases hi : i = 0 <;> by_cases hj : j = 0 <;> simp [hi, hj, Nat.add_assoc]
theorem kI (x : Addr) : x.add 0 = x := by simp [Addr.add]
theorem pK (g i : Nat) : (⟨g, 0, none⟩ : Addr).add i = ⟨g, i, none⟩ := by
 unfold Addr.add; split
 · rename_i h; subst h; rfl
 simp
section
variable {size n m e cap : Nat} {A : Option Addr} {xs : List Value}
theorem Rd.nil (w : World) (size : Nat) (A : Option Addr) : Rd w size A 0 [] := ⟨jp, fun h => absurd h jo⟩
theorem Rd.lt (h : Rd w size A n xs) (hn : 0 < n) : ∀ x ∈ ob A, x < w.heap.size := by
 obtain ⟨ad, rfl, hb, _⟩ := h.2 hn
 simpa [ob] using hb
theorem Rd.at1 {k : Nat} (h : Rd w 1 A n xs) (hk : k < n) : ∃ ad u, A = some ad ∧ xs[k]? = some u ∧ w.cell? (ad.add k) = some u := by
 obtain ⟨ad, e, hb, hc⟩ := h.2 jo
 have hl : k < xs.length := by have := h.1; omega
 exact ⟨ad, xs[k], e, List.getElem?_eq_getElem hl, hc k _ (List.getElem?_eq_getElem hl)⟩
theorem Rd.frm (h : Rd w size A n xs) (k : Frm S w w') (hS : 0 < n → ∀ x ∈ ob A, x ∉ S) : Rd w' size A n xs :=
 ⟨h.1, fun hn => by
  obtain ⟨ad, e, hb, hc⟩ := h.2 hn
  subst e
  refine ⟨ad, rfl, Nat.lt_of_lt_of_le hb k.size, fun j u hu => ?_⟩
  rw [World.cell?_of_block (w := w) (a := ad.add j) (by rw [pJ]; exact k.block _ hb (hS hn _ (by simp [ob])))]
  exact hc j u hu⟩
theorem Rd.elem {k : Nat} (h : Rd w size A n xs) (hk : k < n) : ∃ ad, A = some ad ∧ ∀ j v, ((xs.drop (k * size)).take size)[j]? = some v → w.cell? ((ad.add (k * size)).add j) = some v := by
 obtain ⟨ad, e, _, hc⟩ := h.2 jo
 refine ⟨ad, e, fun j v hv => ?_⟩
 have hj : j < size := by
  have := (List.getElem?_eq_some_iff.1 hv).1
  rw [List.length_take] at this
  omega
 rw [tG]
 refine hc _ _ ?_
 rw [List.getElem?_take_of_lt hj, List.getElem?_drop] at hv
 exact hv
theorem Rd.of_blk (h : Blk w g t cs) (hs : cs.size = n * size) : Rd w size (some ⟨g, 0, none⟩) n cs.toList :=
 ⟨by simpa using hs, fun _ => ⟨_, rfl, h.lt, fun j u hu => by rw [pK, h.cell]; simpa using hu⟩⟩
theorem Own.nil (w : World) (e size : Nat) : Own w e size none 0 0 [] := World.ownsRow_nil w 0 e size
theorem Own.cases (h : Own w e size A n cap xs) : (A = none ∧ n = 0 ∧ cap = 0 ∧ xs = []) ∨ ∃ g cur, A = some ⟨g, 0, none⟩ ∧ Blk w g e cur ∧ n ≤ cap ∧ cap ≤ maxLen ∧ cur.size = cap * size ∧ cur.toList.take (n * size) = xs := by
 obtain ⟨h1, h2⟩ := h
 rcases h2 with ⟨h3, h4⟩ | ⟨g, c, cur, hv, _, hh, hn, hc, hs, ht⟩
 ·
  injection h3 with e1 e2 e3
  subst e1 e2 e3
  exact .inl ⟨rfl, rfl, rfl, List.eq_nil_of_length_eq_zero (by simpa using h1)⟩
 injection hv with e1 e2 e3
 subst e1 e3
 exact .inr ⟨g, cur, rfl, hh, hn, hc, hs, ht⟩
theorem Own.le (h : Own w e size A n cap xs) : n ≤ cap := by
 rcases h.cases with ⟨_, rfl, rfl, _⟩ | ⟨g, cur, _, _, hn, _⟩
 · exact Nat.le_refl _
 exact hn
theorem Own.lt (h : Own w e size A n cap xs) : ∀ x ∈ ob A, x < w.heap.size := by
 rcases h.cases with ⟨rfl, _⟩ | ⟨g, cur, rfl, hb, _⟩
 · simp [ob]
 simpa [ob] using hb.lt
theorem Own.rd (h : Own w e size A n cap xs) : Rd w size A n xs := by
 refine ⟨h.1, fun hn => ?_⟩
 rcases h.cases with ⟨rfl, rfl, _⟩ | ⟨g, cur, rfl, hb, hnc, _, hs, ht⟩
 · omega
 refine ⟨_, rfl, hb.lt, fun j u hu => ?_⟩
 rw [pK, hb.cell]
 rw [← ht] at hu
 by_cases hj : j < n * size
 · rw [List.getElem?_take_of_lt hj] at hu; simpa using hu
 rw [List.getElem?_eq_none (by rw [List.length_take]; omega)] at hu; cases hu
theorem Own.frm (h : Own w e size A n cap xs) (k : Frm S w w') (hS : ∀ x ∈ ob A, x ∉ S) : Own w' e size A n cap xs := by
 refine ⟨h.1, ?_⟩
 rcases h.cases with ⟨rfl, rfl, rfl, _⟩ | ⟨g, cur, rfl, hb, hn, hc, hs, ht⟩
 · exact .inl ⟨rfl, rfl⟩
 exact .inr ⟨g, cap, cur, rfl, Nat.zero_le _, hb.frm k (hS g (by simp [ob])), hn, hc, hs, ht⟩
theorem Own.of_blk (h : Blk w g e cs) (hs : cs.size = n * size) (hm : n ≤ maxLen) : Own w e size (some ⟨g, 0, none⟩) n n cs.toList :=
 ⟨by simpa using hs, .inr ⟨g, n, cs, rfl, Nat.zero_le _, h, Nat.le_refl _, hm, hs, List.take_of_length_le (by simp [hs])⟩⟩
theorem Own.ne_blk (h : Own w e size A n cap xs) (hg : Blk w g t cs) (hne : e ≠ t) : g ∉ ob A := by
 rcases h.cases with ⟨rfl, _⟩ | ⟨g', cur, rfl, hb, _⟩
 · simp [ob]
 simp only [ob, List.mem_singleton]
 exact fun e => hb.ne hg hne e.symm
theorem Own.ne_own {e' size' n' cap' : Nat} {A' : Option Addr} {xs' : List Value} (h : Own w e size A n cap xs) (h' : Own w e' size' A' n' cap' xs') (hne : e ≠ e') : ∀ x ∈ ob A, x ∉ ob A' := by
 rcases h.cases with ⟨rfl, _⟩ | ⟨g, cur, rfl, hb, _⟩
 · simp [ob]
 intro x hx
 simp only [ob, List.mem_singleton] at hx
 subst hx
 exact h'.ne_blk hb (Ne.symm hne)
end
end
structure Fresh (w w' : World) (t : TypeId) (cs : Array Value) : Prop where
 blk : Blk w' w.heap.size t cs
 frm : Frm [] w w'
 size : w'.heap.size = w.heap.size + 1
theorem Fresh.mk' (w : World) (t : TypeId) (cs : Array Value) : Fresh w (w.alloc (.cells cs t)) t cs := ⟨Blk.new w t cs, (Frm.refl _ _).alloc _, jp⟩
section
variable {P : Program} {Γ : Env} {w : World} {dst : Option Tmp} {T : TypeId} {pos : String} {after : Array Edge} {g : Option (Nat × Bool)}
theorem qV.box {e : TypeId} {x : Operand} {v : Value} (hx : ev? Γ x = some v) :
  qV P ⟨dst, .box e x, T, pos, after, g⟩ Γ w (fun r w' => r = .pointer (some ⟨w.heap.size, 0, none⟩) ∧ Fresh w w' e v.cells) := fun ρ hρ =>
 ⟨_, w.alloc (.cells v.cells e), by simp [execOp, hρ _ _ hx, Instr.box, newVar, newRow], rfl, Fresh.mk' _ _ _⟩
theorem qV.alloc {e : TypeId} {z : Value} (hz : ∀ w, (zeroValue e).run P w = .ok z w) :
  qV P ⟨dst, .alloc e, T, pos, after, g⟩ Γ w (fun r w' => r = .pointer (some ⟨w.heap.size, 0, none⟩) ∧ Fresh w w' e z.cells) := fun ρ _ =>
 ⟨_, w.alloc (.cells z.cells e), by simp [execOp, Instr.alloc, hz, newVar, newRow], rfl, Fresh.mk' _ _ _⟩
theorem Run.build {t : TypeId} {parts : List (Nat × Operand)} {vs : List Value} {z cells : Array Value} {fs : Array Field} {pl : Array (Nat × Nat)} (hv : evs Γ (parts.map (·.2)) vs) (hz : ∀ w, (zeroValue t).run P w = .ok (.agg z) w)
  (hu : P.underlying t = some (.struct fs)) (hpl : ∀ w, (fs.mapM fun f => do pure (f.offset, ← sizeOf f.type) : Sem (Array (Nat × Nat))).run P w = .ok pl w) (hf : Instr.fill (pl[·]?) z ((parts.map (·.1)).zip vs) = some cells) :
  Run P ⟨dst, .build t parts.toArray, T, pos, after, g⟩ Γ w (.agg cells) := fun ρ hρ => by
 have e1 := cC hρ _ _ hv
 have e2 : parts.map (fun p => (p.1, ρ p.2)) = (parts.map (·.1)).zip vs := by
  rw [← e1, List.map_map, List.zip_map']
  rfl
 simp only [execOp, Instr.build, Sem.run_bind, hz, Result.andThen_ok, Value.cells, run_underlying hu, hpl, List.map_toArray, e2, hf, Sem.run_pure]
theorem qV.buildS1 {t e : TypeId} {size : Nat} {x : Operand} {z v : Value} (hx : ev? Γ x = some v) (ht : P.underlying t = some (.slice e)) (hz : ∀ w, (sizeOf e).run P w = .ok size w)
  (hzv : ∀ w, (zeroValue e).run P w = .ok z w) (hs0 : 0 < size) (hs1 : size ≤ 16777216) (hv : v.cells.size = size) (hzs : z.cells.size = size) :
  qV P ⟨dst, .buildSlice t 1 #[(0, x)], T, pos, after, g⟩ Γ w (fun r w' => r = .slice (some ⟨w.heap.size, 0, none⟩) 1 1 ∧ Fresh w w' e v.cells) := fun ρ hρ => by
 have hn' : ¬ (1 * size > 2 ^ 24) := jo
 have hn0 : ¬ (1 * size = 0) := jo
 have key : ∀ (l : List Value) (acc : Array Value) (k : Nat), k + l.length = acc.size → (l.zipIdx k).foldl (fun (cs : Array Value) (p : Value × Nat) => cs.setIfInBounds p.2 p.1) acc = (acc.toList.take k ++ l).toArray := by
  intro l
  induction l with
  | nil => intro acc k hk; simp at hk ⊢; rw [List.take_of_length_le (by simp [hk])]
  | cons u r ih =>
   intro acc k hk
   simp only [List.length_cons] at hk
   rw [List.zipIdx_cons, List.foldl_cons, ih _ _ (by simp; omega)]
   have e1 : (acc.setIfInBounds k u).toList.take (k + 1) = acc.toList.take k ++ [u] := by
    rw [Array.toList_setIfInBounds]
    apply List.ext_getElem?
    intro j
    rcases Nat.lt_trichotomy j k with hj | hj | hj
    · rw [List.getElem?_take_of_lt jo, List.getElem?_set_ne jo, List.getElem?_append_left (by simp; omega), List.getElem?_take_of_lt hj]
    ·
     subst hj
     rw [List.getElem?_take_of_lt jo, List.getElem?_set_self (by simp; omega), List.getElem?_append_right (by simp; omega)]
     have : j - (acc.toList.take j).length = 0 := by simp; omega
     rw [this]
     rfl
    rw [List.getElem?_eq_none (by simp; omega), List.getElem?_eq_none (by simp; omega)]
   rw [e1]
   simp
 refine ⟨_, w.alloc (.cells v.cells e), ?_, rfl, Fresh.mk' _ _ _⟩
 have hc1 : ¬ (v.cells.size ≠ size) := by simp [hv]
 have hcs : ((Array.range (1 * size)).map (z.cells[· % z.cells.size]!)).size = size := jp
 have hfill : Instr.fill (fun i => some (i * size, size)) ((Array.range (1 * size)).map (z.cells[· % z.cells.size]!)) [(0, v)] = some v.cells := by
  unfold Instr.fill
  simp only [Nat.zero_mul, hv, hcs, Nat.zero_add]
  have := key v.cells.toList ((Array.range (1 * size)).map (z.cells[· % z.cells.size]!)) 0 (by simp [hv])
  simp only [List.take_zero, List.nil_append, Array.toArray_toList] at this
  rw [← Array.foldl_toList, Array.toList_zipIdx, this]
  simp [Instr.fill]
 simp only [execOp, Instr.buildSlice, Sem.run_bind, run_underlying ht, Result.andThen_ok, hz, Sem.run_ite, hn', hn0, if_false, hzv, Sem.run_pure, List.map_toArray, List.map_cons, List.map_nil, hρ _ _ hx, hfill, newRow, run_newObj]
 rfl
theorem qQ.store {t e : TypeId} {x y : Operand} {gb i : Nat} {cs : Array Value} {v : Value} (hx : ev? Γ x = some (.pointer (some ⟨gb, i, none⟩))) (hy : ev? Γ y = some v)
  (hz : ∀ w, (sizeOf t).run P w = .ok 1 w) (hb : Blk w gb e cs) (hi0 : Nat.blt i cs.size = true) (h1 : v.oneCell' = true) :
  qQ P ⟨dst, .store t x y, T, pos, after, g⟩ Γ w (fun w' => Blk w' gb e (cs.setIfInBounds i v) ∧ Frm [gb] w w' ∧ w'.heap.size = w.heap.size) := fun ρ hρ => by
 have hi : i < cs.size := by simpa [Nat.blt_eq] using hi0
 have hcells : v.cells = #[v] := by cases v <;> first | rfl | cases h1
 have hc := hb.cell i
 rw [Array.getElem?_eq_getElem hi] at hc
 refine ⟨w.setCell ⟨gb, i, none⟩ v, ?_, hb.set i v, Frm.set1 w ⟨gb, i, none⟩ v, jp⟩
 simp [execOp, hρ _ _ hx, hρ _ _ hy, Instr.storeAt, Instr.sureAddr, storeVar, hcells, hz, storeCells, run_store P _ _ _ _ h1, kI, hc, hb.frozen i]
theorem qQ.storeA {t e : TypeId} {x y : Operand} {gb : Nat} {cs vs : Array Value} (hx : ev? Γ x = some (.pointer (some ⟨gb, 0, none⟩))) (hy : ev? Γ y = some (.agg vs))
  (hz : ∀ w, (sizeOf t).run P w = .ok vs.size w) (hb : Blk w gb e cs) (hs : vs.size = cs.size) (h1 : ∀ v ∈ vs.toList, v.oneCell' = true) :
  qQ P ⟨dst, .store t x y, T, pos, after, g⟩ Γ w (fun w' => Blk w' gb e vs ∧ Frm [gb] w w' ∧ w'.heap.size = w.heap.size) := fun ρ hρ => by
 have hr := run_storeCells_from (P := P) gb e vs.toList 0 cs w hb (by simp [hs]) h1
 refine ⟨w.setRow gb (cs.toList.take 0 ++ vs.toList).toArray, ?_, ?_, ?_, ?_⟩
 · simp only [execOp, Instr.storeAt, Instr.sureAddr, storeVar, hρ _ _ hx, hρ _ _ hy, Value.cells, Sem.run_bind, Sem.run_pure, Result.andThen_ok, hz, ne_eq, not_true_eq_false, if_false, Sem.run_ite, hr]
 ·
  have := setRow_heap w gb cs (cs.toList.take 0 ++ vs.toList).toArray e (0, 0) hb
  simpa [Blk] using this
 · exact ⟨rfl, rfl, rfl, by simp [World.setRow], fun k _ hS => setRow_other w gb k _ (by simpa using hS)⟩
 simp [World.setRow]
theorem qV.app {t e : TypeId} {x y : Operand} {z : Value} {size bytes n m cap c2 : Nat} {A B : Option Addr} {xs news : List Value} (hx : ev? Γ x = some (.slice A n cap)) (hy : ev? Γ y = some (.slice B m c2))
  (ht : P.underlying t = some (.slice e)) (hi : (P.info? e).map (fun i => (i.zero, i.size, i.bytes)) = some (some z, size, bytes)) (hzs : z.cells.size = size) (hsz : 0 < size)
  (ho : Own w e size A n cap xs) (hr : Rd w size B m news) (h1 : ∀ u ∈ news, u.oneCell' = true) (h63 : n + m ≤ 9223372036854775807) (hb : (n + m) * bytes ≤ 140737488355328) :
  qV P ⟨dst, .call ⟨.builtin .append, #[x, y], #[t, t]⟩, T, pos, after, g⟩ Γ w
   (fun r w' => ∃ A' c', r = .slice A' (n + m) c' ∧ Own w' e size A' (n + m) c' (xs ++ news) ∧ Frm (ob A) w w' ∧ (ob A' = ob A ∨ ob A' = [w.heap.size])) := fun ρ hρ => by
 obtain ⟨i0, hi0, hz0, hz1, hz2⟩ := info_parts hi
 have ho' := ho
 have ex : (execOp ρ ⟨dst, .call ⟨.builtin .append, #[x, y], #[t, t]⟩, T, pos, after, g⟩).run P w = ((Builtin.append_ #[t, t] T #[.slice A n cap, .slice B m c2]).run P w).andThen fun a w => .ok (.value a) w := by
  simp [execOp, resolve, invoke, builtin, hρ _ _ hx, hρ _ _ hy]
 rcases Nat.eq_zero_or_pos m with hm | hm
 ·
  subst hm
  have hn0 : news = [] := List.eq_nil_of_length_eq_zero (by simpa using hr.1)
  subst hn0
  refine ⟨.slice A n cap, w, ?_, A, cap, rfl, by simpa using ho, Frm.refl _ _, .inl rfl⟩
  rw [ex]
  have hnc := ho.le
  have hz3 : ∀ w, (sizeOf e).run P w = .ok size w := fun w => by simp [sizeOf, typeInfo, hi0, hz1]
  cases A <;> cases B <;> simp [Builtin.append_, run_underlying ht, hz3, Builtin.lenOf, Builtin.firstCells, hnc, storeCells, loadCells, loadCellsFrom]
 obtain ⟨ad, rfl, hlt, hcell⟩ := hr.2 hm
 obtain ⟨v', w', hrun, hown, hgr, _, hob⟩ := run_append_own_at (P := P) w 0 t T e i0 z size bytes ht hi0 hz0 hz1 hz2 hzs hsz _ n xs ho ad m c2 news hr.1 hcell h1 h63 hb (Nat.zero_le _)
 have hform : ∃ A' c', v' = .slice A' (n + m) c' := by
  rcases hown.2 with ⟨rfl, h0⟩ | ⟨g', cap', cur', rfl, _⟩
  · omega
  exact ⟨_, _, rfl⟩
 obtain ⟨A', c', rfl⟩ := hform
 have hblk : ∀ (X : Option Addr) (p q : Nat), (Value.slice X p q).ownBlock.toList = ob X := by intro X p q; cases X <;> rfl
 refine ⟨_, w', by rw [ex, hrun]; rfl, A', c', rfl, hown, ?_, ?_⟩
 ·
  have := Frm.grown hgr
  rwa [hblk] at this
 rcases hob with h | h
 · left; rw [← hblk A' (n + m) c', h, hblk]
 right; rw [← hblk A' (n + m) c', h]; rfl
def U8 (l : List UInt8) : List Value := l.map fun b => .int .u8 (b.toNat : Int)
theorem Run.strOf {src dstT e : TypeId} {x : Operand} {A : Option Addr} {n c : Nat} {l : List UInt8} (hx : ev? Γ x = some (.slice A n c)) (hs : P.underlying src = some (.slice e)) (he : P.underlying e = some (.int .u8)) (hd : P.underlying dstT = some .string)
  (hr : Rd w 1 A n (U8 l)) : Run P ⟨dst, .convert src dstT x, T, pos, after, g⟩ Γ w (.string ⟨l.toArray⟩) := fun ρ hρ => by
 have hl : l.length = n := by have := hr.1; simpa [U8] using this
 have h1 := run_convert_bytes_string (P := P) w src dstT e A n c hs he hd
 have h2 : (Conv.bytesToString (.slice A n c)).run P w = .ok (.string ⟨l.toArray⟩) w := by
  cases A with
  | none =>
   have h0 : n = 0 := by
    rcases Nat.eq_zero_or_pos n with h | h
    · exact h
    obtain ⟨_, h', _⟩ := hr.2 h; cases h'
   subst h0
   have : l = [] := List.eq_nil_of_length_eq_zero hl
   subst this
   rfl
  | some a =>
   have hcell : ∀ j v, (U8 l)[j]? = some v → w.cell? (a.add j) = some v := by
    intro j v hv
    rcases Nat.eq_zero_or_pos n with h | h
    ·
     have : l = [] := List.eq_nil_of_length_eq_zero jo
     subst this
     simp [U8] at hv
    obtain ⟨ad, h', _, hc⟩ := hr.2 h
    injection h' with h'
    subst h'
    exact hc j v hv
   have hload := run_loadCells_list (P := P) w a (U8 l) hcell
   have hul : (U8 l).length = n := by simpa [U8] using hl
   rw [hul] at hload
   have := run_bytesToString (P := P) w a n c (l.map fun b => (b.toNat : Int)) (by rw [hload, List.map_map]; rfl)
   rw [this]
   congr 2
   have key : ∀ (l : List UInt8) (s : ByteArray), (l.map fun b => (b.toNat : Int)).foldl (fun r n => r.push (UInt8.ofNat n.toNat)) s = ⟨s.data ++ l.toArray⟩ := by
    intro l
    induction l with
    | nil => intro s; simp
    | cons b r ih =>
     intro s
     rw [List.map_cons, List.foldl_cons, ih]
     congr 1
     simp [ByteArray.push]
   rw [key]
   simp [ByteArray.empty, ByteArray.emptyWithCapacity]
   rfl
 simp [execOp, hρ _ _ hx, h1, h2]
end
section
variable {P : Program} {n : NF} {Γ Γ' : Env} {w : World} {Q : Exit → Env → World → Prop} {K : Env → World → Prop} {i id : Nat}
theorem qZ (h : Q .ret Γ w) : dZ K Q .ret Γ w := h
theorem qK (h : Q (.exit i) Γ w) : dZ K Q (.exit i) Γ w := h
theorem qB {ch : List PanicEntry} (h : Q (.panic ch) Γ w) : dZ K Q (.panic ch) Γ w := h
theorem qW (h : Q .normal Γ w) : dX id Q .normal Γ w := h
theorem qR (h : Q .ret Γ w) : dX id Q .ret Γ w := h
theorem eT {ch : List PanicEntry} (h : Q (.panic ch) Γ w) : dX id Q (.panic ch) Γ w := h
theorem qH (h : Q .normal Γ w) : dX id Q (.exit id) Γ w := by simp only [dX, if_true]; exact h
theorem eU (hne : Nat.beq i id = false) (h : Q (.exit i) Γ w) : dX id Q (.exit i) Γ w := by
 have : i ≠ id := fun e => by subst e; rw [Nat.beq_refl] at hne; cases hne
 simp only [dX, this, if_false]; exact h
theorem Sub.nil : Sub Γ [] := trivial
theorem Sub.cons {k : Nat} {v : Value} {r : Env} (h : get? Γ k = some v) (hr : Sub Γ r) : Sub Γ ((k, v) :: r) := ⟨h, hr⟩
section
variable {R : Ending → World → Prop}
theorem bQ {res : Array ResultVar} {ch : List PanicEntry} (h : R (.panicked ch) w) : cX P res R (.panic ch) Γ w := h
theorem rC (h : R (.returned (.tuple #[])) w) : cX P #[] R .ret Γ w := h
theorem dS (h : R (.returned (.tuple #[])) w) : cX P #[] R .normal Γ w := h
theorem qN {t : Tmp} {v : Value} (h1 : get? Γ t = some v) (h : R (.returned v) w) : cX P #[.tmp t] R .ret Γ w := ⟨v, h1, h⟩
theorem end2 {t u : Tmp} {v x : Value} (h1 : get? Γ t = some v) (h2 : get? Γ u = some x) (h : R (.returned (.tuple #[v, x])) w) : cX P #[.tmp t, .tmp u] R .ret Γ w := ⟨v, h1, x, h2, h⟩
theorem rD {t u s : Tmp} {v x y : Value} (h1 : get? Γ t = some v) (h2 : get? Γ u = some x) (h3 : get? Γ s = some y) (h : R (.returned (.tuple #[v, x, y])) w) : cX P #[.tmp t, .tmp u, .tmp s] R .ret Γ w := ⟨v, h1, x, h2, y, h3, h⟩
theorem bA {res : Array ResultVar} (h : dJ P res.toList Γ w fun vs => R (.returned (nE vs)) w) : cX P res R .ret Γ w := h
theorem bK {K : List Value → Prop} (h : K []) : dJ P [] Γ w K := h
theorem bT {t : Tmp} {r : List ResultVar} {v : Value} {K : List Value → Prop} (h1 : get? Γ t = some v) (h : dJ P r Γ w fun vs => K (v :: vs)) : dJ P (.tmp t :: r) Γ w K := ⟨v, h1, h⟩
theorem dK {t : Tmp} {T : TypeId} {r : List ResultVar} {a : Addr} {v : Value} {K : List Value → Prop} (h1 : get? Γ t = some (.pointer (some a))) (ht : ∀ w, (isAgg T).run P w = .ok false w) (hc : w.cell? a = some v)
  (h : dJ P r Γ w fun vs => K (v :: vs)) : dJ P (.cell t T :: r) Γ w K := ⟨a, v, h1, by simp [loadVar, ht, hc], h⟩
theorem qO {t : Tmp} {T : TypeId} {r : List ResultVar} {a : Addr} {cs : List Value} {sz : Nat} {K : List Value → Prop} (h1 : get? Γ t = some (.pointer (some a))) (ht : ∀ w, (isAgg T).run P w = .ok true w) (hz : ∀ w, (sizeOf T).run P w = .ok sz w)
  (hc : ∀ j v, cs[j]? = some v → w.cell? (a.add j) = some v) (hl : cs.length = sz) (h : dJ P r Γ w fun vs => K (.agg cs.toArray :: vs)) : dJ P (.cell t T :: r) Γ w K := by
 subst hl
 exact ⟨a, _, h1, by simp [loadVar, ht, hz, run_loadCells_list w a cs hc], h⟩
end
section
variable {ops : Array Oper} {rest : List Oper} {d : Nat} {op : Op} {T : TypeId} {pos : String} {after : Array Edge} {g : Option (Nat × Bool)}
theorem Ops.r {v : Value} (h : Run P ⟨some d, op, T, pos, after, none⟩ Γ w v) (hn : Nat.blt d n.n = true) (k : Ops P n ops rest ((d, v) :: Γ) w Q) : Ops P n ops (⟨some d, op, T, pos, after, none⟩ :: rest) Γ w Q :=
 Ops.run h trivial rfl hn k
theorem Ops.rg {v : Value} {j : Nat} {b c : Bool} (hy : yi ops Γ j = some (.bool b)) (hb : b = c) (h : Run P ⟨some d, op, T, pos, after, some (j, c)⟩ Γ w v) (hn : Nat.blt d n.n = true) (k : Ops P n ops rest ((d, v) :: Γ) w Q) : Ops P n ops (⟨some d, op, T, pos, after, some (j, c)⟩ :: rest) Γ w Q :=
 Ops.run h (by subst hb; exact hy) rfl hn k
theorem Ops.sk {j : Nat} {b c : Bool} (hy : yi ops Γ j = some (.bool b)) (hb : b = ! c) (hn : Nat.blt d n.n = true) (k : Ops P n ops rest ((d, undef) :: Γ) w Q) : Ops P n ops (⟨some d, op, T, pos, after, some (j, c)⟩ :: rest) Γ w Q :=
 Ops.skip rfl hy hb rfl hn k
theorem Ops.m {R : Value → World → Prop} (h : qV P ⟨some d, op, T, pos, after, none⟩ Γ w R) (hn : Nat.blt d n.n = true) (k : ∀ v w', R v w' → Ops P n ops rest ((d, v) :: Γ) w' Q) : Ops P n ops (⟨some d, op, T, pos, after, none⟩ :: rest) Γ w Q :=
 Ops.does h trivial rfl hn k
theorem Ops.st {R : World → Prop} (h : qQ P ⟨none, op, T, pos, after, none⟩ Γ w R) (k : ∀ w', R w' → Ops P n ops rest Γ w' Q) : Ops P n ops (⟨none, op, T, pos, after, none⟩ :: rest) Γ w Q :=
 Ops.acts h trivial rfl k
theorem Ops.cl {f : FuncId} {args : Array Value} {R : Ending → World → Prop} (he : qI P ⟨some d, op, T, pos, after, none⟩ Γ w f args) (hc : Calls P f args w R) (hn : Nat.blt d n.n = true)
  (k : ∀ e w', R e w' → ∃ v, e = .returned v ∧ Ops P n ops rest ((d, v) :: Γ) w' Q) : Ops P n ops (⟨some d, op, T, pos, after, none⟩ :: rest) Γ w Q :=
 Ops.call he hc trivial rfl hn k
theorem Ops.clg {f : FuncId} {args : Array Value} {R : Ending → World → Prop} {j : Nat} {b c : Bool} (hy : yi ops Γ j = some (.bool b)) (hb : b = c) (he : qI P ⟨some d, op, T, pos, after, some (j, c)⟩ Γ w f args) (hc : Calls P f args w R) (hn : Nat.blt d n.n = true)
  (k : ∀ e w', R e w' → ∃ v, e = .returned v ∧ Ops P n ops rest ((d, v) :: Γ) w' Q) : Ops P n ops (⟨some d, op, T, pos, after, some (j, c)⟩ :: rest) Γ w Q :=
 Ops.call he hc (by subst hb; exact hy) rfl hn k
variable {KE : Env → Prop}
theorem qF.r {v : Value} (h : Run P ⟨some d, op, T, pos, after, none⟩ Γ w v) (hn : Nat.blt d n.n = true) (k : qF P n ops rest ((d, v) :: Γ) w KE) : qF P n ops (⟨some d, op, T, pos, after, none⟩ :: rest) Γ w KE :=
 qF.run h trivial rfl hn k
theorem qF.rg {v : Value} {j : Nat} {b c : Bool} (hy : yi ops Γ j = some (.bool b)) (hb : b = c) (h : Run P ⟨some d, op, T, pos, after, some (j, c)⟩ Γ w v) (hn : Nat.blt d n.n = true) (k : qF P n ops rest ((d, v) :: Γ) w KE) : qF P n ops (⟨some d, op, T, pos, after, some (j, c)⟩ :: rest) Γ w KE :=
 qF.run h (by subst hb; exact hy) rfl hn k
theorem qF.sk {j : Nat} {b c : Bool} (hy : yi ops Γ j = some (.bool b)) (hb : b = ! c) (hn : Nat.blt d n.n = true) (k : qF P n ops rest ((d, undef) :: Γ) w KE) : qF P n ops (⟨some d, op, T, pos, after, some (j, c)⟩ :: rest) Γ w KE := by
 intro a hs
 unfold wpStill
 have hw : Region.wanted (⟨some d, op, T, pos, after, some (j, c)⟩ : Oper) (yielded ops a.tmps) = false := by
  unfold Region.wanted
  simp only
  rw [kP hs hy, hb]
  cases c <;> rfl
 rw [if_neg (by rw [hw]; simp)]
 exact k _ (hs.put hn undef)
end
theorem VC.meet {σ : Type} {c : Code} (env : σ → Env) (inv : σ → World → Prop) (h : VC P n c Γ w (dZ (fun Γ' w' => ∃ s, Sub Γ' (env s) ∧ inv s w') Q)) (k : ∀ s w', inv s w' → ∀ Γ', Sub Γ' (env s) → Q .normal Γ' w') : VC P n c Γ w Q := by
 refine h.mono fun e Γ' w' q => ?_
 cases e with
 | normal => obtain ⟨s, hs, hi⟩ := q; exact k s w' hi Γ' hs
 | exit i => exact q
 | goto l => exact q
 | ret => exact q
 | panic c => exact q
 | outgrown => exact q
theorem VC.split1 {c : Code} (Γk : Env) (hk : Sub Γ Γk) (t : Nat) (v : Value) (h : VC P n c Γ w (dZ (fun Γ1 w1 => Sub Γ1 ((t, v) :: Γk) ∧ w1 = w) Q)) (k : ∀ Γ1, Sub Γ1 ((t, v) :: Γk) → Q .normal Γ1 w) : VC P n c Γ w Q := by
 have _ := hk
 refine h.mono fun e Γ' w' q => ?_
 cases e with
 | normal => obtain ⟨hs, rfl⟩ := q; exact k Γ' hs
 | exit i => exact q
 | goto l => exact q
 | ret => exact q
 | panic c => exact q
 | outgrown => exact q
theorem tQ {p q : Prop} [Decidable p] [Decidable q] (h : p) : decide (p ∧ q) = decide q := by simp [h]
theorem tX {p q : Prop} [Decidable p] [Decidable q] (h : ¬ p) : decide (p ∧ q) = false := by simp [h]
theorem Bin.add_i64 (x y : Nat) (h : x + y ≤ 9223372036854775807) : Bin .add .i64 x .i64 y (.int .i64 ((x + y : Nat) : Int)) := Bin.addN x y h
theorem Bin.sub_i64 (x y : Nat) (hy : y ≤ x) (h : x ≤ 9223372036854775807) : Bin .sub .i64 x .i64 y (.int .i64 ((x - y : Nat) : Int)) := Bin.subN x y hy (by simp only [bmax]; omega)
theorem Bin.mul_i64 (x y : Nat) (h : x * y ≤ 9223372036854775807) : Bin .mul .i64 x .i64 y (.int .i64 ((x * y : Nat) : Int)) := Bin.mulN x y h
theorem Bin.sub_u8 (x y : Nat) (hy : y ≤ x) (h : x ≤ 255) : Bin .sub .u8 x .u8 y (.int .u8 ((x - y : Nat) : Int)) := Bin.subN x y hy (by simp only [bmax]; omega)
theorem Bin.addZ (x y : Int) (h1 : -9223372036854775808 ≤ x + y) (h2 : x + y ≤ 9223372036854775807) : Bin .add .i64 x .i64 y (.int .i64 (x + y)) := Bin.add x y h1 h2
end
def eB (ops : Array Oper) (L i : Nat) : Bool := match ops[L]? with
 | none => true
 | some o => ! Nat.beq i L && o.after.any fun e => Region.binds .any e && Nat.beq e.on i
def bR (P : Program) (ops : Array Oper) (Q : Exit → Act → World → Prop) (S : World → Prop) (L : Nat) : Nat → Array Bool → Act → World → Prop
 | 0, listed, a, w => Region.ready .any ops listed = [] ∧ Q .normal a w
 | f + 1, listed, a, w => (Region.ready .any ops listed = [] → Q .normal a w) ∧
  ∀ i ∈ Region.ready .any ops listed, wpOp P ops Q i (fun a' w' => (i ≠ L → S w') ∧ bR P ops Q S L f (listed.setIfInBounds i true) a' w') a w
section
variable {P : Program} {ops : Array Oper} {Q : Exit → Act → World → Prop} {S : World → Prop} {L : Nat}
theorem fY : ∀ (f : Nat) (listed : Array Bool) (a : Act) (w : World), bR P ops Q S L f listed a w → wpAny P .any ops Q f listed a w
 | 0, _, _, _, h => h
 | f + 1, _, _, _, h => ⟨h.1, fun i hi => wpOp_mono (fun a' w' h' => fY f _ a' w' h'.2) (h.2 i hi)⟩
theorem fO {i : Nat} {oi : Oper} {v : Value} (hi : ops[i]? = some oi) (hL : eB ops L i = true) (hsel : ∀ (j : Nat) (o : Oper) cs b, ops[j]? = some o → o.op ≠ .select cs b) (hQ : ∀ c a w, Q (.panic c) (a.put oi.dst v) w → Q (.panic c) a w) :
  ∀ (f : Nat) (listed : Array Bool) (a : Act) (w : World), (∀ j oj, ops[j]? = some oj → j ≠ i → listed.getD j true = false → (∀ e ∈ oj.after, Region.binds .any e = true → e.on ≠ i) → oi.apart ops oj = true) →
   i ∈ Region.ready .any ops listed → YieldsIf P ops S oi v a → S w → bR P ops Q S L f (listed.setIfInBounds i true) (a.put oi.dst v) w → bR P ops Q S L (f + 1) listed a w
 | f, listed, a, w, hfree, hr, hy, hS, H => by
  refine ⟨fun h => absurd hr (by rw [h]; simp), fun j hj => ?_⟩
  by_cases hji : j = i
  ·
   subst hji
   exact hy.wpOp hi hS ⟨fun _ => hS, H⟩
  have hj2 := ready_mono hj hji
  cases f with
  | zero => exact absurd hj2 (by rw [H.1]; simp)
  | succ f =>
   obtain ⟨hjun, oj, hoj, hall⟩ := mem_ready.1 hj
   have hiun := (mem_ready.1 hr).1
   have hnot : ∀ e ∈ oj.after, Region.binds .any e = true → e.on ≠ i := fun e he hb heq => by
    have h1 := hall e he hb
    rw [heq] at h1
    by_cases h' : i < listed.size
    ·
     simp [h'] at hiun h1
     rw [hiun] at h1
     cases h1
    simp [Array.getElem?_eq_none (Nat.le_of_not_lt h')] at h1
   have hjL : j ≠ L := fun h => by
    subst h
    unfold eB at hL
    rw [hoj] at hL
    simp only [Bool.and_eq_true, Array.any_eq_true'] at hL
    obtain ⟨_, e, he, hb, hon⟩ := hL
    exact hnot e he hb (Nat.eq_of_beq_eq_true hon)
   refine wpOp_mono (fun a' w' h3 => ?_) (wpOp_putIf hoj (hfree j oj hoj hji hjun hnot) (fun cs b => hsel i oi cs b hi) (fun cs b => hsel j oj cs b hoj) hQ hy (H.2 j hj2))
   refine ⟨h3.2.1, fO hi hL hsel hQ f _ a' w' (fun k ok hk hki hun hno => hfree k ok hk hki ?_ hno) (ready_mono hr (Ne.symm hji)) h3.1 (h3.2.1 hjL) ?_⟩
   ·
    by_cases hjk : j = k
    · subst hjk; exact hjun
    rwa [getD_set_ne true hjk] at hun
   rw [Array.setIfInBounds_comm _ _ hji]
   exact h3.2.2
theorem gR {i : Nat} {oi : Oper} {v : Value} {f : Nat} {listed : Array Bool} {a : Act} {w : World} (hi : ops[i]? = some oi) (hs : (Region.noSelect ops && eB ops L i) = true) (hf : Region.free .any ops listed i = true) (hr : (Region.ready .any ops listed).contains i = true)
  (hQ : ∀ c a w, Q (.panic c) (a.put oi.dst v) w → Q (.panic c) a w) (hy : YieldsIf P ops S oi v a) (hS : S w) (h : bR P ops Q S L f (listed.setIfInBounds i true) (a.put oi.dst v) w) : bR P ops Q S L (f + 1) listed a w :=
 fO hi (Bool.and_eq_true _ _ ▸ hs).2 (Region.noSelect_spec (Bool.and_eq_true _ _ ▸ hs).1) hQ f listed a w (Region.free_spec hi hf) (by simpa using hr) hy hS h
theorem hZ {rs : List Nat} {f : Nat} {listed : Array Bool} {a : Act} {w : World} (hr : Region.ready .any ops listed = rs) (hne : rs ≠ [])
  (h : ∀ i ∈ rs, wpOp P ops Q i (fun a' w' => S w' ∧ bR P ops Q S L f (listed.setIfInBounds i true) a' w') a w) : bR P ops Q S L (f + 1) listed a w :=
 ⟨fun h0 => absurd (hr ▸ h0) hne, hr ▸ fun i hi => wpOp_mono (fun _ _ h => ⟨fun _ => h.1, h.2⟩) (h i hi)⟩
theorem mB {f : Nat} {listed : Array Bool} {a : Act} {w : World} (hr : Region.ready .any ops listed = [L]) (h : wpOp P ops Q L (fun a' w' => bR P ops Q S L f (listed.setIfInBounds L true) a' w') a w) : bR P ops Q S L (f + 1) listed a w := by
 refine ⟨fun h0 => (by rw [hr] at h0; cases h0), fun i hi => ?_⟩
 rw [hr] at hi
 simp only [List.mem_singleton] at hi
 subst hi
 exact wpOp_mono (fun _ _ h => ⟨fun h0 => absurd rfl h0, h⟩) h
theorem mC {listed : Array Bool} {a : Act} {w : World} (hr : Region.ready .any ops listed = []) (h : Q .normal a w) : ∀ f, bR P ops Q S L f listed a w
 | 0 => ⟨hr, h⟩
 | _ + 1 => ⟨fun _ => h, by rw [hr]; simp⟩
end
def eQ (n : NF) (K : Env → World → Prop) (Pn : List PanicEntry → World → Prop) (e : Exit) (a : Act) (w : World) : Prop := match e with
 | .normal => ∃ Γ, Sat n Γ a ∧ K Γ w
 | .panic ch => (a.tmps.size = n.n ∧ a.defers = n.D) ∧ Pn ch w
 | _ => False
def qJ (P : Program) (n : NF) (ops : Array Oper) (S : World → Prop) (Pn : List PanicEntry → World → Prop) (L fuel : Nat) (listed : Array Bool) (Γ : Env) (w : World) (K : Env → World → Prop) : Prop :=
 ∀ a, Sat n Γ a → bR P ops (eQ n K Pn) S L fuel listed a w
theorem kL {n : NF} {K : Env → World → Prop} {Pn : List PanicEntry → World → Prop} {d : Option Tmp} {v : Value} : ∀ (c : List PanicEntry) (a : Act) (w : World), eQ n K Pn (.panic c) (a.put d v) w → eQ n K Pn (.panic c) a w := by
 intro c a w h
 cases d with
 | none => exact h
 | some d => exact ⟨⟨by have := h.1.1; simpa [Act.put] using this, h.1.2⟩, h.2⟩
section
variable {P : Program} {n : NF} {Γ Γ' : Env} {w : World} {Q : Exit → Env → World → Prop} {Pn : List PanicEntry → World → Prop} {K : Env → World → Prop} {ops : Array Oper} {S S' : World → Prop} {L fuel : Nat} {listed : Array Bool}
theorem VC.heldL {id : Nat} {l : List Oper} (L : Nat) (S : World → Prop) (hm : P.follows .mixedOrders = true)
  (h : qJ P n l.toArray S (fun ch w' => Q (.panic ch) [] w') L l.toArray.size (Array.replicate l.toArray.size false) Γ w.drew (fun Γ' w' => Q .normal Γ' w')) (hnd : n.ro = none ∨ cV l.toArray = true := by first | exact .inl rfl | exact .inr (by kernel_rfl)) : VC P n (.region id l.toArray true) Γ w Q := by
 intro a hs m
 refine wpIn_mono (Q := eQ n (fun Γ' w' => Q .normal Γ' w') (fun ch w' => Q (.panic ch) [] w')) (wpIn_region_any hm (fV hnd (fun ⟨_, _, h⟩ => h) _ _ _ _ (fY _ _ _ _ (h a hs)))) ?_
 intro e a w hq
 cases e with
 | normal => exact hq
 | panic ch => exact ⟨[], ⟨hq.1.1, hq.1.2, fun t v h => by simp [get?] at h⟩, hq.2⟩
 | _ => exact hq.elim
theorem VC.held {id : Nat} {l : List Oper} (S : World → Prop) (hm : P.follows .mixedOrders = true)
  (h : qJ P n l.toArray S (fun ch w' => Q (.panic ch) [] w') l.toArray.size l.toArray.size (Array.replicate l.toArray.size false) Γ w.drew (fun Γ' w' => Q .normal Γ' w')) (hnd : n.ro = none ∨ cV l.toArray = true := by first | exact .inl rfl | exact .inr (by kernel_rfl)) : VC P n (.region id l.toArray true) Γ w Q := VC.heldL _ S hm h hnd
theorem qJ.done (hr : Region.ready .any ops listed = []) (h : K Γ w) : qJ P n ops S Pn L fuel listed Γ w K := fun _ hs => mC hr ⟨Γ, hs, h⟩ fuel
theorem qJ.take {v : Value} {d : Nat} (i : Nat) {oi : Oper} (hi : ops[i]? = some oi) (hsel : (Region.noSelect ops && eB ops L i) = true) (hf : Region.free .any ops listed i = true) (hr : (Region.ready .any ops listed).contains i = true)
  (hS : S w) (h : ∀ w', S w' → Run P oi Γ w' v) (hup : Up ops Γ oi.guard) (hd : oi.dst = some d) (hn : Nat.blt d n.n = true)
  (k : qJ P n ops S Pn L fuel (listed.setIfInBounds i true) ((d, v) :: Γ) w K) : qJ P n ops S Pn L (fuel + 1) listed Γ w K := by
 intro a hs
 refine gR hi hsel hf hr kL (.inl ⟨hup.wanted hs, fun w' hw' => h w' hw' _ hs.fits⟩) hS ?_
 rw [hd]
 exact k _ (hs.put hn v)
theorem qJ.of_wp (i : Nat) {oi : Oper} (hi : ops[i]? = some oi) (hr : Region.ready .any ops listed = [i]) (hup : Up ops Γ oi.guard)
  (h : ∀ a, Sat n Γ a → oi.wp P a w (fun a' w' => S w' ∧ bR P ops (eQ n K Pn) S L fuel (listed.setIfInBounds i true) a' w') (eQ n K Pn)) : qJ P n ops S Pn L (fuel + 1) listed Γ w K := by
 intro a hs
 refine hZ hr jp ?_
 intro j hj
 simp only [List.mem_singleton] at hj
 subst hj
 unfold wpOp
 simp only [hi]
 rw [if_pos (hup.wanted hs)]
 exact .inl (h a hs)
theorem qJ.m {R : Value → World → Prop} {d : Nat} (i : Nat) {oi : Oper} (hi : ops[i]? = some oi) (hr : Region.ready .any ops listed = [i]) (h : qV P oi Γ w R) (hup : Up ops Γ oi.guard) (hd : oi.dst = some d) (hn : Nat.blt d n.n = true)
  (k : ∀ v w', R v w' → S w' ∧ qJ P n ops S Pn L fuel (listed.setIfInBounds i true) ((d, v) :: Γ) w' K) : qJ P n ops S Pn L (fuel + 1) listed Γ w K :=
 qJ.of_wp i hi hr hup fun a hs => by
  obtain ⟨v, w', hrun, hR⟩ := h _ hs.fits
  unfold Oper.wp
  rw [hrun, Oper.upon_value, hd]
  exact ⟨(k v w' hR).1, (k v w' hR).2 _ (hs.put hn v)⟩
theorem qJ.st {R : World → Prop} (i : Nat) {oi : Oper} (hi : ops[i]? = some oi) (hr : Region.ready .any ops listed = [i]) (h : qQ P oi Γ w R) (hup : Up ops Γ oi.guard) (hd : oi.dst = none)
  (k : ∀ w', R w' → S w' ∧ qJ P n ops S Pn L fuel (listed.setIfInBounds i true) Γ w' K) : qJ P n ops S Pn L (fuel + 1) listed Γ w K :=
 qJ.of_wp i hi hr hup fun a hs => by
  obtain ⟨w', hrun, hR⟩ := h _ hs.fits
  unfold Oper.wp
  rw [hrun, Oper.upon_skip, hd]
  exact ⟨(k w' hR).1, (k w' hR).2 _ hs⟩
theorem qJ.stL {R : World → Prop} {oi : Oper} (hi : ops[L]? = some oi) (hr : Region.ready .any ops listed = [L]) (h : qQ P oi Γ w R) (hup : Up ops Γ oi.guard) (hd : oi.dst = none)
  (k : ∀ w', R w' → qJ P n ops S Pn L fuel (listed.setIfInBounds L true) Γ w' K) : qJ P n ops S Pn L (fuel + 1) listed Γ w K := by
 intro a hs
 refine mB hr ?_
 unfold wpOp
 simp only [hi]
 rw [if_pos (hup.wanted hs)]
 left
 obtain ⟨w', hrun, hR⟩ := h _ hs.fits
 unfold Oper.wp
 rw [hrun, Oper.upon_skip, hd]
 exact (k w' hR) _ hs
theorem qJ.cl {f : FuncId} {args : Array Value} {R : Ending → World → Prop} {d : Nat} (i : Nat) {oi : Oper} (hi : ops[i]? = some oi) (hr : Region.ready .any ops listed = [i]) (he : qI P oi Γ w f args) (hc : Calls P f args w R) (hup : Up ops Γ oi.guard) (hd : oi.dst = some d) (hn : Nat.blt d n.n = true)
  (k : ∀ e w', R e w' → ∃ v, e = .returned v ∧ S w' ∧ qJ P n ops S Pn L fuel (listed.setIfInBounds i true) ((d, v) :: Γ) w' K) : qJ P n ops S Pn L (fuel + 1) listed Γ w K :=
 qJ.of_wp i hi hr hup fun a hs => by
  unfold Oper.wp
  rw [he _ hs.fits, Oper.upon_enter, hd]
  refine hc.mono ?_
  intro e w' hR
  obtain ⟨v, rfl, h1, h2⟩ := k e w' hR
  exact ⟨h1, h2 _ (hs.put hn v)⟩
end
end
section
open Go.RowKit Go.ChangeShapes Go.WideShapes Go.Deep
def IB (xs : List Int) : List Value := xs.map (Value.int .i64)
theorem tA (l : List Int) : ∀ u ∈ IB l, u.oneCell' = true := by
 intro u hu
 obtain ⟨b, _, rfl⟩ := List.mem_map.1 hu
 rfl
theorem fG {α : Type} (f : α → List Value) (sz : Nat) (hf : ∀ a, (f a).length = sz) (l : List α) (k : Nat) (h : k < l.length) : ((l.flatMap f).drop (k * sz)).take sz = f l[k] := by
 induction l generalizing k with
 | nil => simp at h
 | cons a r ih =>
  rw [List.flatMap_cons]
  cases k with
  | zero => rw [Nat.zero_mul, List.drop_zero, List.take_append_of_le_length (by rw [hf]; exact Nat.le_refl _), List.take_of_length_le (by rw [hf]; exact Nat.le_refl _)]; rfl
  | succ k =>
   have e : (k + 1) * sz = (f a).length + k * sz := by rw [hf, Nat.succ_mul]; omega
   rw [e, List.drop_append, List.drop_eq_nil_of_le jo, List.nil_append, Nat.add_sub_cancel_left, ih k (by simpa using h)]
   rfl
section
variable {H : Type} {enc : TypeId × Value → H} {P : Program} {w : World} {base : Nat} {spare : Nat → Bool} {held : Bool}
end
end
section
open Go.RowKit
section
variable {P : Program} {n : NF} {Γ : Env} {w : World} {Q : Exit → Env → World → Prop} {K : Env → World → Prop} {KE : Env → Prop} {ops : Array Oper} {rest : List Oper} {d : Nat} {op : Op} {T : TypeId} {pos : String} {after : Array Edge}
theorem rE {j : Nat} {a : Act} (hs : Sat n Γ a) (h : yi ops Γ j = some undef) : yielded ops a.tmps j = none := by
 unfold yi at h
 unfold yielded
 cases hd : (ops[j]?).bind (·.dst) with
 | none => rfl
 | some t =>
  rw [hd] at h
  simp only [Option.bind_some] at h ⊢
  have := hs.at_ t _ h
  rw [Array.getD_eq_getD_getElem?] at this
  cases hg : a.tmps[t]? with
  | none => rfl
  | some u => rw [hg] at this; simp only [Option.getD_some] at this; subst this; rfl
theorem lE {j : Nat} {c : Bool} {o : Oper} {a : Act} (hs : Sat n Γ a) (hg : o.guard = some (j, c)) (h : yi ops Γ j = some undef) : Region.wanted o (yielded ops a.tmps) = false := by
 unfold Region.wanted
 rw [hg]
 simp only
 rw [rE hs h]
 rfl
theorem Ops.skU {j : Nat} {c : Bool} (hy : yi ops Γ j = some undef) (hn : Nat.blt d n.n = true) (k : Ops P n ops rest ((d, undef) :: Γ) w Q) : Ops P n ops (⟨some d, op, T, pos, after, some (j, c)⟩ :: rest) Γ w Q := by
 intro a hs m
 unfold wpListIn
 rw [lE hs rfl hy]
 simp only [Bool.false_eq_true, if_false]
 exact ⟨bE, k _ (hs.put hn undef) m⟩
end
section
variable {P : Program} {Γ : Env} {w : World} {dst : Option Tmp} {T : TypeId} {pos : String} {after : Array Edge} {g : Option (Nat × Bool)}
theorem Run.indexA {t : TypeId} {x i : Operand} {a : Addr} {n : Nat} {k : IntKind} {e : TypeId} {sz : Nat} (j : Nat) (hx : ev? Γ x = some (.pointer (some a))) (hi : ev? Γ i = some (.int k j)) (ht : P.underlying t = some (.array n e))
  (hz : ∀ w, (sizeOf e).run P w = .ok sz w) (hj : j < n) : Run P ⟨dst, .indexAddr t x i, T, pos, after, g⟩ Γ w (.pointer (some (a.add (j * sz)))) := fun ρ hρ => by
 have h1 : (j : Int) < (n : Int) := jo
 simp [execOp, hρ _ _ hx, hρ _ _ hi, Instr.indexAt, asIntOf, run_underlying ht, hz, hj, Instr.sureAddr]
theorem Run.indexA1 {t : TypeId} {x i : Operand} {gb o n : Nat} {k : IntKind} {e : TypeId} (j : Nat) (hx : ev? Γ x = some (.pointer (some ⟨gb, o, none⟩))) (hi : ev? Γ i = some (.int k j)) (ht : P.underlying t = some (.array n e))
  (hz : ∀ w, (sizeOf e).run P w = .ok 1 w) (hj : j < n) : Run P ⟨dst, .indexAddr t x i, T, pos, after, g⟩ Γ w (.pointer (some ⟨gb, o + j, none⟩)) := by
 have := Run.indexA (P := P) (Γ := Γ) (w := w) (dst := dst) (T := T) (pos := pos) (after := after) (g := g) j hx hi ht hz hj
 have e : (⟨gb, o, none⟩ : Addr).add (j * 1) = ⟨gb, o + j, none⟩ := by unfold Addr.add; split <;> simp_all
 rwa [e] at this
theorem Run.loadB {t e : TypeId} {x : Operand} {gb sz : Nat} {cs : Array Value} (hx : ev? Γ x = some (.pointer (some ⟨gb, 0, none⟩))) (ht : ∀ w, (isAgg t).run P w = .ok true w) (hz : ∀ w, (sizeOf t).run P w = .ok sz w)
  (hb : Blk w gb e cs) (hl : cs.size = sz) : Run P ⟨dst, .load t x, T, pos, after, g⟩ Γ w (.agg cs) := by
 have := Run.loadA (P := P) (Γ := Γ) (w := w) (dst := dst) (T := T) (pos := pos) (after := after) (g := g) hx ht hz hb.cells (by simpa using hl)
 simpa using this
theorem pV {t : Tmp} {T : TypeId} {r : List ResultVar} {e : TypeId} {gb sz : Nat} {cs : Array Value} {K : List Value → Prop} (h1 : get? Γ t = some (.pointer (some ⟨gb, 0, none⟩))) (ht : ∀ w, (isAgg T).run P w = .ok true w) (hz : ∀ w, (sizeOf T).run P w = .ok sz w)
  (hb : Blk w gb e cs) (hl : cs.size = sz) (h : dJ P r Γ w fun vs => K (.agg cs :: vs)) : dJ P (.cell t T :: r) Γ w K :=
 qO (cs := cs.toList) h1 ht hz hb.cells (by simpa using hl) (by simpa using h)
theorem qV.buildN {t e : TypeId} {size n : Nat} {parts : List (Nat × Operand)} {vs : List Value} {z : Value} {cells : Array Value} (hv : evs Γ (parts.map (·.2)) vs) (ht : P.underlying t = some (.slice e)) (hz : ∀ w, (sizeOf e).run P w = .ok size w)
  (hzv : ∀ w, (zeroValue e).run P w = .ok z w) (hn : Nat.beq (n * size) 0 = false) (hb : Nat.ble (n * size) 16777216 = true)
  (hf : Instr.fill (fun i => some (i * size, size)) ((Array.range (n * size)).map (z.cells[· % z.cells.size]!)) ((parts.map (·.1)).zip vs) = some cells) :
  qV P ⟨dst, .buildSlice t n parts.toArray, T, pos, after, g⟩ Γ w (fun r w' => r = .slice (some ⟨w.heap.size, 0, none⟩) n n ∧ Fresh w w' e cells) := fun ρ hρ => by
 have e1 := cC hρ _ _ hv
 have e2 : parts.map (fun p => (p.1, ρ p.2)) = (parts.map (·.1)).zip vs := by
  rw [← e1, List.map_map, List.zip_map']
  rfl
 have h1 : ¬ (n * size > 2 ^ 24) := by have := Nat.le_of_ble_eq_true hb; omega
 have h2 : ¬ (n * size = 0) := Nat.ne_of_beq_eq_false hn
 refine ⟨_, w.alloc (.cells cells e), ?_, rfl, Fresh.mk' _ _ _⟩
 simp only [execOp, Instr.buildSlice, Sem.run_bind, run_underlying ht, Result.andThen_ok, hz, Sem.run_ite, h1, h2, if_false, hzv, Sem.run_pure, List.map_toArray, e2, hf, newRow, run_newObj]
 rfl
theorem gH {d : Nat} {xs ys : Array Value} {f : Field} {fs : List Field} {k k' : IntKind} {a b : Int} {r : Bool} (hn : f.name ≠ "_") (ht : ∀ w, (isAgg f.type).run P w = .ok false w) (hu : P.underlying f.type = some (.int k'))
  (hx : xs[f.offset]? = some (.int k a)) (hy : ys[f.offset]? = some (.int k b)) (h : (Op.eqFields (d + 1) xs ys fs).run P w = .ok r w) : (Op.eqFields (d + 1) xs ys (f :: fs)).run P w = .ok (decide (a = b) && r) w := by
 have e1 : (a == b) = decide (a = b) := by rw [Bool.eq_iff_iff]; simp
 simp only [Op.eqFields, if_pos hn, Sem.run_bind, part, ht, Result.andThen_ok, Bool.false_eq_true, if_false, hx, hy, Sem.run_pure, run_equalIn_int w d f.type k k' a b hu, Sem.run_ite]
 by_cases hab : a = b
 · simp [hab, h]
 simp [hab, e1]
theorem nV {d : Nat} {xs ys : Array Value} : (Op.eqFields d xs ys []).run P w = .ok true w := rfl
theorem Run.neqAgg {t yT : TypeId} {x y : Operand} {xs ys : Array Value} {b : Bool} (hx : ev? Γ x = some (.agg xs)) (hy : ev? Γ y = some (.agg ys)) (hm : P.eqGuardType P.depth t = false) (ht : P.underlying t = some (.struct (P.fieldsOf t))) (hp : P.stoodInHeld t = false)
  (h : (Op.eqFields 9999 xs ys (P.fieldsOf t).toList).run P w = .ok b w) : Run P ⟨dst, .binOp .neq t x y yT, T, pos, after, g⟩ Γ w (.bool (! b)) := fun ρ hρ => by
 have h1 := run_equalIn_agg (P := P) w 9999 t xs ys ht hp
 simp [execOp, hρ _ _ hx, hρ _ _ hy, run_eqGuard_agg w .neq t x y xs ys hm, run_neq_struct, h1, h]
end
section
variable {P : Program} {Γ : Env} {w : World} {dst : Option Tmp} {T : TypeId} {pos : String} {after : Array Edge} {g : Option (Nat × Bool)}
def fH : TypeDesc → Bool
 | .interface _ => false
 | _ => true
theorem Run.mkIface {xT : TypeId} {x : Operand} {v : Value} {d : TypeDesc} (hx : ev? Γ x = some v) (hu : P.underlying xT = some d) (hd : fH d = true) :
  Run P ⟨dst, .makeInterface xT x, T, pos, after, g⟩ Γ w (.iface xT v) := fun ρ hρ => by
 have e : (Instr.makeInterface xT v).run P w = .ok (.iface xT v) w := by
  unfold Instr.makeInterface
  simp only [Sem.run_bind, run_underlying hu, Result.andThen_ok]
  cases d <;> first | rfl | cases hd
 simp [execOp, hρ _ _ hx, e]
theorem Run.mkFunc {f : FuncId} {xs ys : List Operand} {vs us : List Value} (hx : evs Γ xs vs) (hy : evs Γ ys us) :
  Run P ⟨dst, .makeFunc (.func f) xs.toArray ys.toArray, T, pos, after, g⟩ Γ w (.func (.func f) vs.toArray us.toArray) := fun ρ hρ => by
 have e1 := cC hρ xs vs hx
 have e2 := cC hρ ys us hy
 simp [execOp, Instr.makeFunc, e1, e2]
theorem qI.dyn {c : Operand} {f : FuncId} {fs us : List Value} {xs : List Operand} {vs : List Value} {ts : Array TypeId} (hc : ev? Γ c = some (.func (.func f) fs.toArray us.toArray)) (hv : evs Γ xs vs) (hf : ∀ args w, (callFunc f args).run P w = .ok (.enter f args) w) :
  qI P ⟨dst, .call ⟨.value c, xs.toArray, ts⟩, T, pos, after, g⟩ Γ w f (fs ++ vs ++ us).toArray := fun ρ hρ => by
 have e := cC hρ xs vs hv
 have e2 : ρ c = .func (.func f) fs.toArray us.toArray := hρ _ _ hc
 simp [execOp, resolve, e2, Deferred.ofValue, invoke, e, hf]
end
section
variable {P : Program} {n : NF} {Γ : Env} {Pn : List PanicEntry → World → Prop} {w : World} {K : Env → World → Prop} {ops : Array Oper} {S : World → Prop} {L fuel : Nat} {listed : Array Bool}
theorem qJ.r1 {v : Value} {d : Nat} (i : Nat) {oi : Oper} (hi : ops[i]? = some oi) (hr : Region.ready .any ops listed = [i]) (hS : S w) (h : Run P oi Γ w v) (hup : Up ops Γ oi.guard) (hd : oi.dst = some d) (hn : Nat.blt d n.n = true)
  (k : qJ P n ops S Pn L fuel (listed.setIfInBounds i true) ((d, v) :: Γ) w K) : qJ P n ops S Pn L (fuel + 1) listed Γ w K :=
 qJ.of_wp i hi hr hup fun a hs => by
  unfold Oper.wp
  rw [h _ hs.fits, Oper.upon_value, hd]
  exact ⟨hS, k _ (hs.put hn v)⟩
end
section
variable {P : Program} {n : NF} {Γ : Env} {Pn : List PanicEntry → World → Prop} {w : World} {Q : Exit → Env → World → Prop}
theorem VC.splitR {c : Code} (Γk : Env) (R : World → Prop) (t : Nat) (v : Value) (h : VC P n c Γ w (dZ (fun Γ1 w1 => Sub Γ1 ((t, v) :: Γk) ∧ R w1) Q)) (k : ∀ Γ1 w1, Sub Γ1 ((t, v) :: Γk) → R w1 → Q .normal Γ1 w1) : VC P n c Γ w Q :=
 h.mono fun e Γ' w' q => by
  cases e with
  | normal => exact k Γ' w' q.1 q.2
  | exit i => exact q
  | goto l => exact q
  | ret => exact q
  | panic c => exact q
  | outgrown => exact q
end
section
variable {P : Program} {n : NF} {Γ : Env} {Pn : List PanicEntry → World → Prop} {w : World} {K : Env → World → Prop} {ops : Array Oper} {S : World → Prop} {L fuel : Nat} {listed : Array Bool}
end
theorem jK {p : Prop} (h : p := by kernel_rfl) : p := h
theorem jC {a b : Bool} (h : a = b) : some (Value.bool a) = some (Value.bool b) := congrArg (fun b => some (Value.bool b)) h
theorem js1 {Γ : Env} {k0 : Nat} {v0 : Value} (h0 : get? Γ k0 = some v0) : Sub Γ [(k0, v0)] := (.cons h0 .nil)
theorem js2 {Γ : Env} {k0 k1 : Nat} {v0 v1 : Value} (h0 : get? Γ k0 = some v0) (h1 : get? Γ k1 = some v1) : Sub Γ [(k0, v0), (k1, v1)] := (.cons h0 (.cons h1 .nil))
theorem js3 {Γ : Env} {k0 k1 k2 : Nat} {v0 v1 v2 : Value} (h0 : get? Γ k0 = some v0) (h1 : get? Γ k1 = some v1) (h2 : get? Γ k2 = some v2) : Sub Γ [(k0, v0), (k1, v1), (k2, v2)] := (.cons h0 (.cons h1 (.cons h2 .nil)))
theorem js4 {Γ : Env} {k0 k1 k2 k3 : Nat} {v0 v1 v2 v3 : Value} (h0 : get? Γ k0 = some v0) (h1 : get? Γ k1 = some v1) (h2 : get? Γ k2 = some v2) (h3 : get? Γ k3 = some v3) : Sub Γ [(k0, v0), (k1, v1), (k2, v2), (k3, v3)] := (.cons h0 (.cons h1 (.cons h2 (.cons h3 .nil))))
theorem js5 {Γ : Env} {k0 k1 k2 k3 k4 : Nat} {v0 v1 v2 v3 v4 : Value} (h0 : get? Γ k0 = some v0) (h1 : get? Γ k1 = some v1) (h2 : get? Γ k2 = some v2) (h3 : get? Γ k3 = some v3) (h4 : get? Γ k4 = some v4) : Sub Γ [(k0, v0), (k1, v1), (k2, v2), (k3, v3), (k4, v4)] := (.cons h0 (.cons h1 (.cons h2 (.cons h3 (.cons h4 .nil)))))
theorem js6 {Γ : Env} {k0 k1 k2 k3 k4 k5 : Nat} {v0 v1 v2 v3 v4 v5 : Value} (h0 : get? Γ k0 = some v0) (h1 : get? Γ k1 = some v1) (h2 : get? Γ k2 = some v2) (h3 : get? Γ k3 = some v3) (h4 : get? Γ k4 = some v4) (h5 : get? Γ k5 = some v5) : Sub Γ [(k0, v0), (k1, v1), (k2, v2), (k3, v3), (k4, v4), (k5, v5)] := (.cons h0 (.cons h1 (.cons h2 (.cons h3 (.cons h4 (.cons h5 .nil))))))
theorem js7 {Γ : Env} {k0 k1 k2 k3 k4 k5 k6 : Nat} {v0 v1 v2 v3 v4 v5 v6 : Value} (h0 : get? Γ k0 = some v0) (h1 : get? Γ k1 = some v1) (h2 : get? Γ k2 = some v2) (h3 : get? Γ k3 = some v3) (h4 : get? Γ k4 = some v4) (h5 : get? Γ k5 = some v5) (h6 : get? Γ k6 = some v6) : Sub Γ [(k0, v0), (k1, v1), (k2, v2), (k3, v3), (k4, v4), (k5, v5), (k6, v6)] := (.cons h0 (.cons h1 (.cons h2 (.cons h3 (.cons h4 (.cons h5 (.cons h6 .nil)))))))
theorem js8 {Γ : Env} {k0 k1 k2 k3 k4 k5 k6 k7 : Nat} {v0 v1 v2 v3 v4 v5 v6 v7 : Value} (h0 : get? Γ k0 = some v0) (h1 : get? Γ k1 = some v1) (h2 : get? Γ k2 = some v2) (h3 : get? Γ k3 = some v3) (h4 : get? Γ k4 = some v4) (h5 : get? Γ k5 = some v5) (h6 : get? Γ k6 = some v6) (h7 : get? Γ k7 = some v7) : Sub Γ [(k0, v0), (k1, v1), (k2, v2), (k3, v3), (k4, v4), (k5, v5), (k6, v6), (k7, v7)] := (.cons h0 (.cons h1 (.cons h2 (.cons h3 (.cons h4 (.cons h5 (.cons h6 (.cons h7 .nil))))))))
theorem js9 {Γ : Env} {k0 k1 k2 k3 k4 k5 k6 k7 k8 : Nat} {v0 v1 v2 v3 v4 v5 v6 v7 v8 : Value} (h0 : get? Γ k0 = some v0) (h1 : get? Γ k1 = some v1) (h2 : get? Γ k2 = some v2) (h3 : get? Γ k3 = some v3) (h4 : get? Γ k4 = some v4) (h5 : get? Γ k5 = some v5) (h6 : get? Γ k6 = some v6) (h7 : get? Γ k7 = some v7) (h8 : get? Γ k8 = some v8) : Sub Γ [(k0, v0), (k1, v1), (k2, v2), (k3, v3), (k4, v4), (k5, v5), (k6, v6), (k7, v7), (k8, v8)] := (.cons h0 (.cons h1 (.cons h2 (.cons h3 (.cons h4 (.cons h5 (.cons h6 (.cons h7 (.cons h8 .nil)))))))))
theorem js10 {Γ : Env} {k0 k1 k2 k3 k4 k5 k6 k7 k8 k9 : Nat} {v0 v1 v2 v3 v4 v5 v6 v7 v8 v9 : Value} (h0 : get? Γ k0 = some v0) (h1 : get? Γ k1 = some v1) (h2 : get? Γ k2 = some v2) (h3 : get? Γ k3 = some v3) (h4 : get? Γ k4 = some v4) (h5 : get? Γ k5 = some v5) (h6 : get? Γ k6 = some v6) (h7 : get? Γ k7 = some v7) (h8 : get? Γ k8 = some v8) (h9 : get? Γ k9 = some v9) : Sub Γ [(k0, v0), (k1, v1), (k2, v2), (k3, v3), (k4, v4), (k5, v5), (k6, v6), (k7, v7), (k8, v8), (k9, v9)] := (.cons h0 (.cons h1 (.cons h2 (.cons h3 (.cons h4 (.cons h5 (.cons h6 (.cons h7 (.cons h8 (.cons h9 .nil))))))))))
theorem js11 {Γ : Env} {k0 k1 k2 k3 k4 k5 k6 k7 k8 k9 k10 : Nat} {v0 v1 v2 v3 v4 v5 v6 v7 v8 v9 v10 : Value} (h0 : get? Γ k0 = some v0) (h1 : get? Γ k1 = some v1) (h2 : get? Γ k2 = some v2) (h3 : get? Γ k3 = some v3) (h4 : get? Γ k4 = some v4) (h5 : get? Γ k5 = some v5) (h6 : get? Γ k6 = some v6) (h7 : get? Γ k7 = some v7) (h8 : get? Γ k8 = some v8) (h9 : get? Γ k9 = some v9) (h10 : get? Γ k10 = some v10) : Sub Γ [(k0, v0), (k1, v1), (k2, v2), (k3, v3), (k4, v4), (k5, v5), (k6, v6), (k7, v7), (k8, v8), (k9, v9), (k10, v10)] := (.cons h0 (.cons h1 (.cons h2 (.cons h3 (.cons h4 (.cons h5 (.cons h6 (.cons h7 (.cons h8 (.cons h9 (.cons h10 .nil)))))))))))
theorem js12 {Γ : Env} {k0 k1 k2 k3 k4 k5 k6 k7 k8 k9 k10 k11 : Nat} {v0 v1 v2 v3 v4 v5 v6 v7 v8 v9 v10 v11 : Value} (h0 : get? Γ k0 = some v0) (h1 : get? Γ k1 = some v1) (h2 : get? Γ k2 = some v2) (h3 : get? Γ k3 = some v3) (h4 : get? Γ k4 = some v4) (h5 : get? Γ k5 = some v5) (h6 : get? Γ k6 = some v6) (h7 : get? Γ k7 = some v7) (h8 : get? Γ k8 = some v8) (h9 : get? Γ k9 = some v9) (h10 : get? Γ k10 = some v10) (h11 : get? Γ k11 = some v11) : Sub Γ [(k0, v0), (k1, v1), (k2, v2), (k3, v3), (k4, v4), (k5, v5), (k6, v6), (k7, v7), (k8, v8), (k9, v9), (k10, v10), (k11, v11)] := (.cons h0 (.cons h1 (.cons h2 (.cons h3 (.cons h4 (.cons h5 (.cons h6 (.cons h7 (.cons h8 (.cons h9 (.cons h10 (.cons h11 .nil))))))))))))
theorem js13 {Γ : Env} {k0 k1 k2 k3 k4 k5 k6 k7 k8 k9 k10 k11 k12 : Nat} {v0 v1 v2 v3 v4 v5 v6 v7 v8 v9 v10 v11 v12 : Value} (h0 : get? Γ k0 = some v0) (h1 : get? Γ k1 = some v1) (h2 : get? Γ k2 = some v2) (h3 : get? Γ k3 = some v3) (h4 : get? Γ k4 = some v4) (h5 : get? Γ k5 = some v5) (h6 : get? Γ k6 = some v6) (h7 : get? Γ k7 = some v7) (h8 : get? Γ k8 = some v8) (h9 : get? Γ k9 = some v9) (h10 : get? Γ k10 = some v10) (h11 : get? Γ k11 = some v11) (h12 : get? Γ k12 = some v12) : Sub Γ [(k0, v0), (k1, v1), (k2, v2), (k3, v3), (k4, v4), (k5, v5), (k6, v6), (k7, v7), (k8, v8), (k9, v9), (k10, v10), (k11, v11), (k12, v12)] := (.cons h0 (.cons h1 (.cons h2 (.cons h3 (.cons h4 (.cons h5 (.cons h6 (.cons h7 (.cons h8 (.cons h9 (.cons h10 (.cons h11 (.cons h12 .nil)))))))))))))
theorem js14 {Γ : Env} {k0 k1 k2 k3 k4 k5 k6 k7 k8 k9 k10 k11 k12 k13 : Nat} {v0 v1 v2 v3 v4 v5 v6 v7 v8 v9 v10 v11 v12 v13 : Value} (h0 : get? Γ k0 = some v0) (h1 : get? Γ k1 = some v1) (h2 : get? Γ k2 = some v2) (h3 : get? Γ k3 = some v3) (h4 : get? Γ k4 = some v4) (h5 : get? Γ k5 = some v5) (h6 : get? Γ k6 = some v6) (h7 : get? Γ k7 = some v7) (h8 : get? Γ k8 = some v8) (h9 : get? Γ k9 = some v9) (h10 : get? Γ k10 = some v10) (h11 : get? Γ k11 = some v11) (h12 : get? Γ k12 = some v12) (h13 : get? Γ k13 = some v13) : Sub Γ [(k0, v0), (k1, v1), (k2, v2), (k3, v3), (k4, v4), (k5, v5), (k6, v6), (k7, v7), (k8, v8), (k9, v9), (k10, v10), (k11, v11), (k12, v12), (k13, v13)] := (.cons h0 (.cons h1 (.cons h2 (.cons h3 (.cons h4 (.cons h5 (.cons h6 (.cons h7 (.cons h8 (.cons h9 (.cons h10 (.cons h11 (.cons h12 (.cons h13 .nil))))))))))))))
theorem js15 {Γ : Env} {k0 k1 k2 k3 k4 k5 k6 k7 k8 k9 k10 k11 k12 k13 k14 : Nat} {v0 v1 v2 v3 v4 v5 v6 v7 v8 v9 v10 v11 v12 v13 v14 : Value} (h0 : get? Γ k0 = some v0) (h1 : get? Γ k1 = some v1) (h2 : get? Γ k2 = some v2) (h3 : get? Γ k3 = some v3) (h4 : get? Γ k4 = some v4) (h5 : get? Γ k5 = some v5) (h6 : get? Γ k6 = some v6) (h7 : get? Γ k7 = some v7) (h8 : get? Γ k8 = some v8) (h9 : get? Γ k9 = some v9) (h10 : get? Γ k10 = some v10) (h11 : get? Γ k11 = some v11) (h12 : get? Γ k12 = some v12) (h13 : get? Γ k13 = some v13) (h14 : get? Γ k14 = some v14) : Sub Γ [(k0, v0), (k1, v1), (k2, v2), (k3, v3), (k4, v4), (k5, v5), (k6, v6), (k7, v7), (k8, v8), (k9, v9), (k10, v10), (k11, v11), (k12, v12), (k13, v13), (k14, v14)] := (.cons h0 (.cons h1 (.cons h2 (.cons h3 (.cons h4 (.cons h5 (.cons h6 (.cons h7 (.cons h8 (.cons h9 (.cons h10 (.cons h11 (.cons h12 (.cons h13 (.cons h14 .nil)))))))))))))))
theorem js16 {Γ : Env} {k0 k1 k2 k3 k4 k5 k6 k7 k8 k9 k10 k11 k12 k13 k14 k15 : Nat} {v0 v1 v2 v3 v4 v5 v6 v7 v8 v9 v10 v11 v12 v13 v14 v15 : Value} (h0 : get? Γ k0 = some v0) (h1 : get? Γ k1 = some v1) (h2 : get? Γ k2 = some v2) (h3 : get? Γ k3 = some v3) (h4 : get? Γ k4 = some v4) (h5 : get? Γ k5 = some v5) (h6 : get? Γ k6 = some v6) (h7 : get? Γ k7 = some v7) (h8 : get? Γ k8 = some v8) (h9 : get? Γ k9 = some v9) (h10 : get? Γ k10 = some v10) (h11 : get? Γ k11 = some v11) (h12 : get? Γ k12 = some v12) (h13 : get? Γ k13 = some v13) (h14 : get? Γ k14 = some v14) (h15 : get? Γ k15 = some v15) : Sub Γ [(k0, v0), (k1, v1), (k2, v2), (k3, v3), (k4, v4), (k5, v5), (k6, v6), (k7, v7), (k8, v8), (k9, v9), (k10, v10), (k11, v11), (k12, v12), (k13, v13), (k14, v14), (k15, v15)] := (.cons h0 (.cons h1 (.cons h2 (.cons h3 (.cons h4 (.cons h5 (.cons h6 (.cons h7 (.cons h8 (.cons h9 (.cons h10 (.cons h11 (.cons h12 (.cons h13 (.cons h14 (.cons h15 .nil))))))))))))))))
section
variable {P : Program} {n : NF} {Γ : Env} {w : World} {Q : Exit → Env → World → Prop} {ops : Array Oper} {rest : List Oper} {d : Nat} {T : TypeId} {pos : String} {after : Array Edge}
theorem jM {x : Operand} {v : Value} (k : Ops P n ops rest ((d, v) :: Γ) w Q) (hx : ev? Γ x = some v := by exact rfl) (hn : Nat.blt d n.n = true := by exact rfl) : Ops P n ops (⟨some d, .move x, T, pos, after, none⟩ :: rest) Γ w Q := Ops.r (Run.mv hx) hn k
theorem jA {x : Operand} {v : Value} (k : Ops P n ops rest ((d, v) :: Γ) w Q) (hx : ev? Γ x = some v := by exact rfl) (hn : Nat.blt d n.n = true := by exact rfl) : Ops P n ops (⟨some d, .assign x, T, pos, after, none⟩ :: rest) Γ w Q := Ops.r (Run.asg hx) hn k
theorem jU {op : Op} {j : Nat} {b c : Bool} (k : Ops P n ops rest ((d, undef) :: Γ) w Q) (hy : yi ops Γ j = some (.bool b) := by exact rfl) (hb : b = !c := by exact au) (hn : Nat.blt d n.n = true := by exact rfl) : Ops P n ops (⟨some d, op, T, pos, after, some (j, c)⟩ :: rest) Γ w Q := Ops.sk hy hb hn k
theorem jG {x : Operand} {v : Value} {j : Nat} {b c : Bool} (k : Ops P n ops rest ((d, v) :: Γ) w Q) (hy : yi ops Γ j = some (.bool b) := by exact rfl) (hb : b = c := by exact au) (hx : ev? Γ x = some v := by exact rfl) (hn : Nat.blt d n.n = true := by exact rfl) : Ops P n ops (⟨some d, .move x, T, pos, after, some (j, c)⟩ :: rest) Γ w Q := Ops.rg hy hb (Run.mv hx) hn k
theorem jv1 (k0 : Nat) {v0 : Value} {c : Code} (h : VC P n c [(k0, v0)] w Q) (h0 : get? Γ k0 = some v0 := by exact rfl) : VC P n c Γ w Q := VC.sub _ (js1 h0) h
theorem jv2 (k0 k1 : Nat) {v0 v1 : Value} {c : Code} (h : VC P n c [(k0, v0), (k1, v1)] w Q) (h0 : get? Γ k0 = some v0 := by exact rfl) (h1 : get? Γ k1 = some v1 := by exact rfl) : VC P n c Γ w Q := VC.sub _ (js2 h0 h1) h
theorem jv3 (k0 k1 k2 : Nat) {v0 v1 v2 : Value} {c : Code} (h : VC P n c [(k0, v0), (k1, v1), (k2, v2)] w Q) (h0 : get? Γ k0 = some v0 := by exact rfl) (h1 : get? Γ k1 = some v1 := by exact rfl) (h2 : get? Γ k2 = some v2 := by exact rfl) : VC P n c Γ w Q := VC.sub _ (js3 h0 h1 h2) h
theorem jv4 (k0 k1 k2 k3 : Nat) {v0 v1 v2 v3 : Value} {c : Code} (h : VC P n c [(k0, v0), (k1, v1), (k2, v2), (k3, v3)] w Q) (h0 : get? Γ k0 = some v0 := by exact rfl) (h1 : get? Γ k1 = some v1 := by exact rfl) (h2 : get? Γ k2 = some v2 := by exact rfl) (h3 : get? Γ k3 = some v3 := by exact rfl) : VC P n c Γ w Q := VC.sub _ (js4 h0 h1 h2 h3) h
theorem jv5 (k0 k1 k2 k3 k4 : Nat) {v0 v1 v2 v3 v4 : Value} {c : Code} (h : VC P n c [(k0, v0), (k1, v1), (k2, v2), (k3, v3), (k4, v4)] w Q) (h0 : get? Γ k0 = some v0 := by exact rfl) (h1 : get? Γ k1 = some v1 := by exact rfl) (h2 : get? Γ k2 = some v2 := by exact rfl) (h3 : get? Γ k3 = some v3 := by exact rfl) (h4 : get? Γ k4 = some v4 := by exact rfl) : VC P n c Γ w Q := VC.sub _ (js5 h0 h1 h2 h3 h4) h
theorem jv6 (k0 k1 k2 k3 k4 k5 : Nat) {v0 v1 v2 v3 v4 v5 : Value} {c : Code} (h : VC P n c [(k0, v0), (k1, v1), (k2, v2), (k3, v3), (k4, v4), (k5, v5)] w Q) (h0 : get? Γ k0 = some v0 := by exact rfl) (h1 : get? Γ k1 = some v1 := by exact rfl) (h2 : get? Γ k2 = some v2 := by exact rfl) (h3 : get? Γ k3 = some v3 := by exact rfl) (h4 : get? Γ k4 = some v4 := by exact rfl) (h5 : get? Γ k5 = some v5 := by exact rfl) : VC P n c Γ w Q := VC.sub _ (js6 h0 h1 h2 h3 h4 h5) h
theorem jv7 (k0 k1 k2 k3 k4 k5 k6 : Nat) {v0 v1 v2 v3 v4 v5 v6 : Value} {c : Code} (h : VC P n c [(k0, v0), (k1, v1), (k2, v2), (k3, v3), (k4, v4), (k5, v5), (k6, v6)] w Q) (h0 : get? Γ k0 = some v0 := by exact rfl) (h1 : get? Γ k1 = some v1 := by exact rfl) (h2 : get? Γ k2 = some v2 := by exact rfl) (h3 : get? Γ k3 = some v3 := by exact rfl) (h4 : get? Γ k4 = some v4 := by exact rfl) (h5 : get? Γ k5 = some v5 := by exact rfl) (h6 : get? Γ k6 = some v6 := by exact rfl) : VC P n c Γ w Q := VC.sub _ (js7 h0 h1 h2 h3 h4 h5 h6) h
theorem jv8 (k0 k1 k2 k3 k4 k5 k6 k7 : Nat) {v0 v1 v2 v3 v4 v5 v6 v7 : Value} {c : Code} (h : VC P n c [(k0, v0), (k1, v1), (k2, v2), (k3, v3), (k4, v4), (k5, v5), (k6, v6), (k7, v7)] w Q) (h0 : get? Γ k0 = some v0 := by exact rfl) (h1 : get? Γ k1 = some v1 := by exact rfl) (h2 : get? Γ k2 = some v2 := by exact rfl) (h3 : get? Γ k3 = some v3 := by exact rfl) (h4 : get? Γ k4 = some v4 := by exact rfl) (h5 : get? Γ k5 = some v5 := by exact rfl) (h6 : get? Γ k6 = some v6 := by exact rfl) (h7 : get? Γ k7 = some v7 := by exact rfl) : VC P n c Γ w Q := VC.sub _ (js8 h0 h1 h2 h3 h4 h5 h6 h7) h
theorem jv9 (k0 k1 k2 k3 k4 k5 k6 k7 k8 : Nat) {v0 v1 v2 v3 v4 v5 v6 v7 v8 : Value} {c : Code} (h : VC P n c [(k0, v0), (k1, v1), (k2, v2), (k3, v3), (k4, v4), (k5, v5), (k6, v6), (k7, v7), (k8, v8)] w Q) (h0 : get? Γ k0 = some v0 := by exact rfl) (h1 : get? Γ k1 = some v1 := by exact rfl) (h2 : get? Γ k2 = some v2 := by exact rfl) (h3 : get? Γ k3 = some v3 := by exact rfl) (h4 : get? Γ k4 = some v4 := by exact rfl) (h5 : get? Γ k5 = some v5 := by exact rfl) (h6 : get? Γ k6 = some v6 := by exact rfl) (h7 : get? Γ k7 = some v7 := by exact rfl) (h8 : get? Γ k8 = some v8 := by exact rfl) : VC P n c Γ w Q := VC.sub _ (js9 h0 h1 h2 h3 h4 h5 h6 h7 h8) h
theorem jv10 (k0 k1 k2 k3 k4 k5 k6 k7 k8 k9 : Nat) {v0 v1 v2 v3 v4 v5 v6 v7 v8 v9 : Value} {c : Code} (h : VC P n c [(k0, v0), (k1, v1), (k2, v2), (k3, v3), (k4, v4), (k5, v5), (k6, v6), (k7, v7), (k8, v8), (k9, v9)] w Q) (h0 : get? Γ k0 = some v0 := by exact rfl) (h1 : get? Γ k1 = some v1 := by exact rfl) (h2 : get? Γ k2 = some v2 := by exact rfl) (h3 : get? Γ k3 = some v3 := by exact rfl) (h4 : get? Γ k4 = some v4 := by exact rfl) (h5 : get? Γ k5 = some v5 := by exact rfl) (h6 : get? Γ k6 = some v6 := by exact rfl) (h7 : get? Γ k7 = some v7 := by exact rfl) (h8 : get? Γ k8 = some v8 := by exact rfl) (h9 : get? Γ k9 = some v9 := by exact rfl) : VC P n c Γ w Q := VC.sub _ (js10 h0 h1 h2 h3 h4 h5 h6 h7 h8 h9) h
theorem jv11 (k0 k1 k2 k3 k4 k5 k6 k7 k8 k9 k10 : Nat) {v0 v1 v2 v3 v4 v5 v6 v7 v8 v9 v10 : Value} {c : Code} (h : VC P n c [(k0, v0), (k1, v1), (k2, v2), (k3, v3), (k4, v4), (k5, v5), (k6, v6), (k7, v7), (k8, v8), (k9, v9), (k10, v10)] w Q) (h0 : get? Γ k0 = some v0 := by exact rfl) (h1 : get? Γ k1 = some v1 := by exact rfl) (h2 : get? Γ k2 = some v2 := by exact rfl) (h3 : get? Γ k3 = some v3 := by exact rfl) (h4 : get? Γ k4 = some v4 := by exact rfl) (h5 : get? Γ k5 = some v5 := by exact rfl) (h6 : get? Γ k6 = some v6 := by exact rfl) (h7 : get? Γ k7 = some v7 := by exact rfl) (h8 : get? Γ k8 = some v8 := by exact rfl) (h9 : get? Γ k9 = some v9 := by exact rfl) (h10 : get? Γ k10 = some v10 := by exact rfl) : VC P n c Γ w Q := VC.sub _ (js11 h0 h1 h2 h3 h4 h5 h6 h7 h8 h9 h10) h
theorem jv12 (k0 k1 k2 k3 k4 k5 k6 k7 k8 k9 k10 k11 : Nat) {v0 v1 v2 v3 v4 v5 v6 v7 v8 v9 v10 v11 : Value} {c : Code} (h : VC P n c [(k0, v0), (k1, v1), (k2, v2), (k3, v3), (k4, v4), (k5, v5), (k6, v6), (k7, v7), (k8, v8), (k9, v9), (k10, v10), (k11, v11)] w Q) (h0 : get? Γ k0 = some v0 := by exact rfl) (h1 : get? Γ k1 = some v1 := by exact rfl) (h2 : get? Γ k2 = some v2 := by exact rfl) (h3 : get? Γ k3 = some v3 := by exact rfl) (h4 : get? Γ k4 = some v4 := by exact rfl) (h5 : get? Γ k5 = some v5 := by exact rfl) (h6 : get? Γ k6 = some v6 := by exact rfl) (h7 : get? Γ k7 = some v7 := by exact rfl) (h8 : get? Γ k8 = some v8 := by exact rfl) (h9 : get? Γ k9 = some v9 := by exact rfl) (h10 : get? Γ k10 = some v10 := by exact rfl) (h11 : get? Γ k11 = some v11 := by exact rfl) : VC P n c Γ w Q := VC.sub _ (js12 h0 h1 h2 h3 h4 h5 h6 h7 h8 h9 h10 h11) h
theorem jv13 (k0 k1 k2 k3 k4 k5 k6 k7 k8 k9 k10 k11 k12 : Nat) {v0 v1 v2 v3 v4 v5 v6 v7 v8 v9 v10 v11 v12 : Value} {c : Code} (h : VC P n c [(k0, v0), (k1, v1), (k2, v2), (k3, v3), (k4, v4), (k5, v5), (k6, v6), (k7, v7), (k8, v8), (k9, v9), (k10, v10), (k11, v11), (k12, v12)] w Q) (h0 : get? Γ k0 = some v0 := by exact rfl) (h1 : get? Γ k1 = some v1 := by exact rfl) (h2 : get? Γ k2 = some v2 := by exact rfl) (h3 : get? Γ k3 = some v3 := by exact rfl) (h4 : get? Γ k4 = some v4 := by exact rfl) (h5 : get? Γ k5 = some v5 := by exact rfl) (h6 : get? Γ k6 = some v6 := by exact rfl) (h7 : get? Γ k7 = some v7 := by exact rfl) (h8 : get? Γ k8 = some v8 := by exact rfl) (h9 : get? Γ k9 = some v9 := by exact rfl) (h10 : get? Γ k10 = some v10 := by exact rfl) (h11 : get? Γ k11 = some v11 := by exact rfl) (h12 : get? Γ k12 = some v12 := by exact rfl) : VC P n c Γ w Q := VC.sub _ (js13 h0 h1 h2 h3 h4 h5 h6 h7 h8 h9 h10 h11 h12) h
theorem jv14 (k0 k1 k2 k3 k4 k5 k6 k7 k8 k9 k10 k11 k12 k13 : Nat) {v0 v1 v2 v3 v4 v5 v6 v7 v8 v9 v10 v11 v12 v13 : Value} {c : Code} (h : VC P n c [(k0, v0), (k1, v1), (k2, v2), (k3, v3), (k4, v4), (k5, v5), (k6, v6), (k7, v7), (k8, v8), (k9, v9), (k10, v10), (k11, v11), (k12, v12), (k13, v13)] w Q) (h0 : get? Γ k0 = some v0 := by exact rfl) (h1 : get? Γ k1 = some v1 := by exact rfl) (h2 : get? Γ k2 = some v2 := by exact rfl) (h3 : get? Γ k3 = some v3 := by exact rfl) (h4 : get? Γ k4 = some v4 := by exact rfl) (h5 : get? Γ k5 = some v5 := by exact rfl) (h6 : get? Γ k6 = some v6 := by exact rfl) (h7 : get? Γ k7 = some v7 := by exact rfl) (h8 : get? Γ k8 = some v8 := by exact rfl) (h9 : get? Γ k9 = some v9 := by exact rfl) (h10 : get? Γ k10 = some v10 := by exact rfl) (h11 : get? Γ k11 = some v11 := by exact rfl) (h12 : get? Γ k12 = some v12 := by exact rfl) (h13 : get? Γ k13 = some v13 := by exact rfl) : VC P n c Γ w Q := VC.sub _ (js14 h0 h1 h2 h3 h4 h5 h6 h7 h8 h9 h10 h11 h12 h13) h
theorem jv15 (k0 k1 k2 k3 k4 k5 k6 k7 k8 k9 k10 k11 k12 k13 k14 : Nat) {v0 v1 v2 v3 v4 v5 v6 v7 v8 v9 v10 v11 v12 v13 v14 : Value} {c : Code} (h : VC P n c [(k0, v0), (k1, v1), (k2, v2), (k3, v3), (k4, v4), (k5, v5), (k6, v6), (k7, v7), (k8, v8), (k9, v9), (k10, v10), (k11, v11), (k12, v12), (k13, v13), (k14, v14)] w Q) (h0 : get? Γ k0 = some v0 := by exact rfl) (h1 : get? Γ k1 = some v1 := by exact rfl) (h2 : get? Γ k2 = some v2 := by exact rfl) (h3 : get? Γ k3 = some v3 := by exact rfl) (h4 : get? Γ k4 = some v4 := by exact rfl) (h5 : get? Γ k5 = some v5 := by exact rfl) (h6 : get? Γ k6 = some v6 := by exact rfl) (h7 : get? Γ k7 = some v7 := by exact rfl) (h8 : get? Γ k8 = some v8 := by exact rfl) (h9 : get? Γ k9 = some v9 := by exact rfl) (h10 : get? Γ k10 = some v10 := by exact rfl) (h11 : get? Γ k11 = some v11 := by exact rfl) (h12 : get? Γ k12 = some v12 := by exact rfl) (h13 : get? Γ k13 = some v13 := by exact rfl) (h14 : get? Γ k14 = some v14 := by exact rfl) : VC P n c Γ w Q := VC.sub _ (js15 h0 h1 h2 h3 h4 h5 h6 h7 h8 h9 h10 h11 h12 h13 h14) h
theorem jv16 (k0 k1 k2 k3 k4 k5 k6 k7 k8 k9 k10 k11 k12 k13 k14 k15 : Nat) {v0 v1 v2 v3 v4 v5 v6 v7 v8 v9 v10 v11 v12 v13 v14 v15 : Value} {c : Code} (h : VC P n c [(k0, v0), (k1, v1), (k2, v2), (k3, v3), (k4, v4), (k5, v5), (k6, v6), (k7, v7), (k8, v8), (k9, v9), (k10, v10), (k11, v11), (k12, v12), (k13, v13), (k14, v14), (k15, v15)] w Q) (h0 : get? Γ k0 = some v0 := by exact rfl) (h1 : get? Γ k1 = some v1 := by exact rfl) (h2 : get? Γ k2 = some v2 := by exact rfl) (h3 : get? Γ k3 = some v3 := by exact rfl) (h4 : get? Γ k4 = some v4 := by exact rfl) (h5 : get? Γ k5 = some v5 := by exact rfl) (h6 : get? Γ k6 = some v6 := by exact rfl) (h7 : get? Γ k7 = some v7 := by exact rfl) (h8 : get? Γ k8 = some v8 := by exact rfl) (h9 : get? Γ k9 = some v9 := by exact rfl) (h10 : get? Γ k10 = some v10 := by exact rfl) (h11 : get? Γ k11 = some v11 := by exact rfl) (h12 : get? Γ k12 = some v12 := by exact rfl) (h13 : get? Γ k13 = some v13 := by exact rfl) (h14 : get? Γ k14 = some v14 := by exact rfl) (h15 : get? Γ k15 = some v15 := by exact rfl) : VC P n c Γ w Q := VC.sub _ (js16 h0 h1 h2 h3 h4 h5 h6 h7 h8 h9 h10 h11 h12 h13 h14 h15) h
theorem je {op : Op} {v : Value} (h : Run P ⟨some d, op, T, pos, after, none⟩ Γ w v) (k : Ops P n ops rest ((d, v) :: Γ) w Q) (hn : Nat.blt d n.n = true := by exact rfl) : Ops P n ops (⟨some d, op, T, pos, after, none⟩ :: rest) Γ w Q := Ops.r h hn k
theorem jb {bo : BinOp} {xT yT : TypeId} {x y : Operand} {k k1 : IntKind} {a b : Int} {v : Value} (hx : ev? Γ x = some (.int k a)) (hy : ev? Γ y = some (.int k1 b)) (hb : Bin bo k a k1 b v) (kk : Ops P n ops rest ((d, v) :: Γ) w Q) (hn : Nat.blt d n.n = true := by exact rfl) : Ops P n ops (⟨some d, .binOp bo xT x y yT, T, pos, after, none⟩ :: rest) Γ w Q := Ops.r (Run.bin hx hy hb) hn kk
theorem jl {t : TypeId} {x : Operand} {a : Addr} {v : Value} (hx : ev? Γ x = some (.pointer (some a))) (ht : ∀ w, (isAgg t).run P w = .ok false w) (hc : w.cell? a = some v) (kk : Ops P n ops rest ((d, v) :: Γ) w Q) (hn : Nat.blt d n.n = true := by exact rfl) : Ops P n ops (⟨some d, .load t x, T, pos, after, none⟩ :: rest) Γ w Q := Ops.r (Run.load hx ht hc) hn kk
theorem jf {s : TypeId} {x : Operand} {f : Nat} {a : Addr} {fs : Array Field} {fd : Field} {sz : Nat} (hx : ev? Γ x = some (.pointer (some a))) (hs : P.underlying s = some (.struct fs)) (hf : fs[f]? = some fd) (hz : ∀ w, (sizeOf fd.type).run P w = .ok sz w) (kk : Ops P n ops rest ((d, .pointer (some (a.add fd.offset))) :: Γ) w Q) (hz0 : sz ≠ 0 := by decide) (hn : Nat.blt d n.n = true := by exact rfl) : Ops P n ops (⟨some d, .fieldAddr s x f, T, pos, after, none⟩ :: rest) Γ w Q := Ops.r (Run.fieldAddr hx hs hf hz hz0) hn kk
theorem jz (m : Nat) {x : Operand} (kk : Ops P n ops rest ((d, .int .i64 ((m : Nat) : Int)) :: Γ) w Q) (hx : ev? Γ x = some (.int .i64 ((m : Nat) : Int)) := by exact rfl) (hn : Nat.blt d n.n = true := by exact rfl) : Ops P n ops (⟨some d, .assign x, T, pos, after, none⟩ :: rest) Γ w Q := Ops.r (Run.asg hx) hn kk
theorem jm {x : Operand} {v : Value} (hx : ev? Γ x = some v) (k : Ops P n ops rest ((d, v) :: Γ) w Q) (hn : Nat.blt d n.n = true := by exact rfl) : Ops P n ops (⟨some d, .move x, T, pos, after, none⟩ :: rest) Γ w Q := Ops.r (Run.mv hx) hn k
theorem ja {x : Operand} {v : Value} (hx : ev? Γ x = some v) (k : Ops P n ops rest ((d, v) :: Γ) w Q) (hn : Nat.blt d n.n = true := by exact rfl) : Ops P n ops (⟨some d, .assign x, T, pos, after, none⟩ :: rest) Γ w Q := Ops.r (Run.asg hx) hn k
theorem jS {x y : Code} (h : VC P n x Γ w (dZ (fun Γ' w' => VC P n y Γ' w' Q) Q)) : VC P n (.seq x y) Γ w Q := VC.seq h
theorem jR {id : Nat} {l : List Oper} (h : Ops P n l.toArray l Γ w Q) : VC P n (.region id l.toArray false) Γ w Q := VC.region h
theorem jB {id : Nat} {c : Code} (h : VC P n c Γ w (dX id Q)) : VC P n (.block id c) Γ w Q := VC.block h
theorem jQ (h : Q .normal Γ w) : VC P n .skip Γ w Q := VC.skip h
theorem jT (h : Q .ret Γ w) : VC P n .ret Γ w Q := VC.ret h
theorem jX {id : Nat} (h : Q (.exit id) Γ w) : VC P n (.exit id) Γ w Q := VC.exit h
theorem jO (h : Q .normal Γ w) : Ops P n ops [] Γ w Q := Ops.nil h
theorem jN {K : Env → World → Prop} (h : K Γ w) : dZ K Q .normal Γ w := h
end
theorem jH {P : Program} {n : NF} {ops : Array Oper} {S : World → Prop} {Pn : List PanicEntry → World → Prop} {L fuel : Nat} {listed : Array Bool} {Γ : Env} {w : World} {K : Env → World → Prop} {v : Value} {d : Nat} (i : Nat) {oi : Oper} (hi : ops[i]? = some oi) (hS : S w) (h : ∀ w', S w' → Run P oi Γ w' v) (k : qJ P n ops S Pn L fuel (listed.setIfInBounds i true) ((d, v) :: Γ) w K) (hsel : (Region.noSelect ops && eB ops L i) = true := by kernel_rfl) (hf : Region.free .any ops listed i = true := by kernel_rfl) (hr : (Region.ready .any ops listed).contains i = true := by kernel_rfl) (hup : Up ops Γ oi.guard := by exact trivial) (hd : oi.dst = some d := by exact rfl) (hn : Nat.blt d n.n = true := by exact rfl) : qJ P n ops S Pn L (fuel + 1) listed Γ w K := qJ.take i hi hsel hf hr hS h hup hd hn k
theorem jh {P : Program} {n : NF} {ops : Array Oper} {S : World → Prop} {Pn : List PanicEntry → World → Prop} {L fuel : Nat} {listed : Array Bool} {Γ : Env} {w : World} {K : Env → World → Prop} {v : Value} {d : Nat} {x : Operand} {T : TypeId} {pos : String} {after : Array Edge} (i : Nat) (hS : S w) (k : qJ P n ops S Pn L fuel (listed.setIfInBounds i true) ((d, v) :: Γ) w K) (hi : ops[i]? = some ⟨some d, .move x, T, pos, after, none⟩ := by exact rfl) (hx : ev? Γ x = some v := by exact rfl) (hsel : (Region.noSelect ops && eB ops L i) = true := by kernel_rfl) (hf : Region.free .any ops listed i = true := by kernel_rfl) (hr : (Region.ready .any ops listed).contains i = true := by kernel_rfl) (hn : Nat.blt d n.n = true := by exact rfl) : qJ P n ops S Pn L (fuel + 1) listed Γ w K := qJ.take i hi hsel hf hr hS (fun _ _ => Run.mv hx) trivial rfl hn k
section
variable {P : Program} {Γ : Env} {w : World} {dst : Option Tmp} {T : TypeId} {pos : String} {after : Array Edge} {g : Option (Nat × Bool)} {f : FuncId} {ts : Array TypeId}
theorem jE0 (hf : ∀ args w, (callFunc f args).run P w = .ok (.enter f args) w)  : qI P ⟨dst, .call ⟨.value (.func f), #[], ts⟩, T, pos, after, g⟩ Γ w f #[] := qI.fn evs.nil hf
theorem jE1 {x0 : Operand} {v0 : Value} (hf : ∀ args w, (callFunc f args).run P w = .ok (.enter f args) w) (h0 : ev? Γ x0 = some v0 := by exact rfl) : qI P ⟨dst, .call ⟨.value (.func f), #[x0], ts⟩, T, pos, after, g⟩ Γ w f #[v0] := qI.fn (evs.cons h0 evs.nil) hf
theorem jE2 {x0 x1 : Operand} {v0 v1 : Value} (hf : ∀ args w, (callFunc f args).run P w = .ok (.enter f args) w) (h0 : ev? Γ x0 = some v0 := by exact rfl) (h1 : ev? Γ x1 = some v1 := by exact rfl) : qI P ⟨dst, .call ⟨.value (.func f), #[x0, x1], ts⟩, T, pos, after, g⟩ Γ w f #[v0, v1] := qI.fn (evs.cons h0 (evs.cons h1 evs.nil)) hf
theorem jE3 {x0 x1 x2 : Operand} {v0 v1 v2 : Value} (hf : ∀ args w, (callFunc f args).run P w = .ok (.enter f args) w) (h0 : ev? Γ x0 = some v0 := by exact rfl) (h1 : ev? Γ x1 = some v1 := by exact rfl) (h2 : ev? Γ x2 = some v2 := by exact rfl) : qI P ⟨dst, .call ⟨.value (.func f), #[x0, x1, x2], ts⟩, T, pos, after, g⟩ Γ w f #[v0, v1, v2] := qI.fn (evs.cons h0 (evs.cons h1 (evs.cons h2 evs.nil))) hf
theorem jE4 {x0 x1 x2 x3 : Operand} {v0 v1 v2 v3 : Value} (hf : ∀ args w, (callFunc f args).run P w = .ok (.enter f args) w) (h0 : ev? Γ x0 = some v0 := by exact rfl) (h1 : ev? Γ x1 = some v1 := by exact rfl) (h2 : ev? Γ x2 = some v2 := by exact rfl) (h3 : ev? Γ x3 = some v3 := by exact rfl) : qI P ⟨dst, .call ⟨.value (.func f), #[x0, x1, x2, x3], ts⟩, T, pos, after, g⟩ Γ w f #[v0, v1, v2, v3] := qI.fn (evs.cons h0 (evs.cons h1 (evs.cons h2 (evs.cons h3 evs.nil)))) hf
end
section
variable {P : Program} {n : NF} {Γ : Env} {w : World} {Q : Exit → Env → World → Prop} {K : Env → World → Prop} {ops : Array Oper} {rest : List Oper} {d : Nat} {T : TypeId} {pos : String} {after : Array Edge}
theorem jk {op : Op} {v : Value} {j : Nat} {b c : Bool} (h : Run P ⟨some d, op, T, pos, after, some (j, c)⟩ Γ w v) (k : Ops P n ops rest ((d, v) :: Γ) w Q) (hy : yi ops Γ j = some (.bool b) := by exact rfl) (hb : b = c := by exact au) (hn : Nat.blt d n.n = true := by exact rfl) : Ops P n ops (⟨some d, op, T, pos, after, some (j, c)⟩ :: rest) Γ w Q := Ops.rg hy hb h hn k
theorem jx (i : IntKind) (m : Nat) {x : Operand} (kk : Ops P n ops rest ((d, .int i ((m : Nat) : Int)) :: Γ) w Q) (hx : ev? Γ x = some (.int i ((m : Nat) : Int)) := by exact rfl) (hn : Nat.blt d n.n = true := by exact rfl) : Ops P n ops (⟨some d, .move x, T, pos, after, none⟩ :: rest) Γ w Q := Ops.r (Run.mv hx) hn kk
theorem jD {c : Operand} {x y : Code} {p : Prop} [Decidable p] (hc : ev? Γ c = some (.bool (decide p))) (ht : p → VC P n x Γ w Q) (hf : ¬ p → VC P n y Γ w Q) : VC P n (.cond c x y) Γ w Q := VC.condD hc ht hf
end
section
variable {P : Program} {n : NF} {Γ : Env} {w : World} {Q : Exit → Env → World → Prop} {ops : Array Oper} {rest : List Oper} {d : Nat} {T : TypeId} {pos : String} {after : Array Edge}
abbrev jI0 (g : Nat) : Value := .pointer (some ⟨g, 0, none⟩)
abbrev jI1 (n : Nat) : Value := .int .i64 ((n : Nat) : Int)
abbrev jI2 (n : Nat) : Value := .int .u64 ((n : Nat) : Int)
theorem jdf {p : Prop} [Decidable p] (h : ¬ p := by omega) : decide p = false := decide_eq_false h
theorem jdp {p : Prop} [Decidable p] (h : ¬ p := by simp) : decide p = false := decide_eq_false h
theorem jV {f : FuncId} {fn : Func} {c : Code} {args : List Value} {R : Ending → World → Prop} {nt : Nat} {res : Array ResultVar} (hf : P.funcs[f]? = some fn) (hn : fn.ntmps = nt) (hr : fn.results = res) (h : VC P ⟨nt, [], none⟩ c (argEnv 0 args) w (cX P res R)) (hb : fn.body = some c := by exact rfl) (hl0 : Nat.ble args.length nt = true := by exact rfl) : Calls P f args.toArray w R := VC.calls hf hb hn hr hl0 h
theorem jc {op : Op} {f : FuncId} {args : Array Value} {R : Ending → World → Prop} (he : qI P ⟨some d, op, T, pos, after, none⟩ Γ w f args) (hc : Calls P f args w R) (k : ∀ e w', R e w' → ∃ v, e = .returned v ∧ Ops P n ops rest ((d, v) :: Γ) w' Q) (hn : Nat.blt d n.n = true := by exact rfl) : Ops P n ops (⟨some d, op, T, pos, after, none⟩ :: rest) Γ w Q := Ops.cl he hc hn k
theorem jc0 {op : Op} {f : FuncId} {args : Array Value} {v : Value} (he : qI P ⟨some d, op, T, pos, after, none⟩ Γ w f args) (hc : Calls P f args w fun e w' => e = .returned v ∧ w = w') (k : Ops P n ops rest ((d, v) :: Γ) w Q) (hn : Nat.blt d n.n = true := by exact rfl) : Ops P n ops (⟨some d, op, T, pos, after, none⟩ :: rest) Γ w Q := Ops.cl he hc hn (by rintro e _ ⟨rfl, rfl⟩; exact ⟨_, rfl, k⟩)
theorem jY {x : Operand} {ix : Nat} {vs : Array Value} {v : Value} (hx : ev? Γ x = some (.tuple vs)) (hv : vs[ix]? = some v) (k : Ops P n ops rest ((d, v) :: Γ) w Q) (hn : Nat.blt d n.n = true := by exact rfl) : Ops P n ops (⟨some d, .extract x ix, T, pos, after, none⟩ :: rest) Γ w Q := Ops.r (Run.extract hx hv) hn k
theorem jZ {x : Operand} {a : Addr} (hx : ev? Γ x = some (.pointer (some a))) (k : Ops P n ops rest ((d, .pointer (some a)) :: Γ) w Q) (hn : Nat.blt d n.n = true := by exact rfl) : Ops P n ops (⟨some d, .nilCheck x, T, pos, after, none⟩ :: rest) Γ w Q := Ops.r (Run.nilck hx) hn k
theorem jL {t : TypeId} {x : Operand} {a : Option Addr} {len cap : Nat} {e : TypeId} (hx : ev? Γ x = some (.slice a len cap)) (ht : P.underlying t = some (.slice e)) (k : Ops P n ops rest ((d, .int .i64 len) :: Γ) w Q) (hn : Nat.blt d n.n = true := by exact rfl) : Ops P n ops (⟨some d, .call ⟨.builtin .len, #[x], #[t]⟩, T, pos, after, none⟩ :: rest) Γ w Q := Ops.r (Run.lenS hx ht) hn k
theorem jF {c x y : Operand} {b : Bool} {v : Value} (hc : ev? Γ c = some (.bool b)) (hy : ev? Γ y = some v) (hb : b = false) (k : Ops P n ops rest ((d, v) :: Γ) w Q) (hn : Nat.blt d n.n = true := by exact rfl) : Ops P n ops (⟨some d, .pick c x y, T, pos, after, none⟩ :: rest) Γ w Q := Ops.r (Run.pickF hc hy hb) hn k
theorem jW {c x y : Operand} {b : Bool} {u : Value} (hc : ev? Γ c = some (.bool b)) (hx : ev? Γ x = some u) (hb : b = true) (k : Ops P n ops rest ((d, u) :: Γ) w Q) (hn : Nat.blt d n.n = true := by exact rfl) : Ops P n ops (⟨some d, .pick c x y, T, pos, after, none⟩ :: rest) Γ w Q := Ops.r (Run.pickT hc hx hb) hn k
end
theorem jq {p : Prop} (h : p := by first | omega | (dsimp only; omega)) : p := h
section
variable {P : Program} {n : NF} {Γ : Env} {w : World} {KE : Env → Prop} {ops : Array Oper} {rest : List Oper} {d : Nat} {T : TypeId} {pos : String} {after : Array Edge}
theorem qE {op : Op} {v : Value} (h : Run P ⟨some d, op, T, pos, after, none⟩ Γ w v) (k : qF P n ops rest ((d, v) :: Γ) w KE) (hn : Nat.blt d n.n = true := by exact rfl) : qF P n ops (⟨some d, op, T, pos, after, none⟩ :: rest) Γ w KE := qF.r h hn k
theorem qG {op : Op} {v : Value} {j : Nat} {b c : Bool} (h : Run P ⟨some d, op, T, pos, after, some (j, c)⟩ Γ w v) (k : qF P n ops rest ((d, v) :: Γ) w KE) (hy : yi ops Γ j = some (.bool b) := by exact rfl) (hb : b = c := by exact au) (hn : Nat.blt d n.n = true := by exact rfl) : qF P n ops (⟨some d, op, T, pos, after, some (j, c)⟩ :: rest) Γ w KE := qF.rg hy hb h hn k
theorem qU {op : Op} {j : Nat} {b c : Bool} (k : qF P n ops rest ((d, undef) :: Γ) w KE) (hy : yi ops Γ j = some (.bool b) := by exact rfl) (hb : b = !c := by exact au) (hn : Nat.blt d n.n = true := by exact rfl) : qF P n ops (⟨some d, op, T, pos, after, some (j, c)⟩ :: rest) Γ w KE := qF.sk hy hb hn k
theorem qM {x : Operand} {v : Value} (k : qF P n ops rest ((d, v) :: Γ) w KE) (hx : ev? Γ x = some v := by exact rfl) (hn : Nat.blt d n.n = true := by exact rfl) : qF P n ops (⟨some d, .move x, T, pos, after, none⟩ :: rest) Γ w KE := qF.r (Run.mv hx) hn k
theorem qA {x : Operand} {v : Value} (k : qF P n ops rest ((d, v) :: Γ) w KE) (hx : ev? Γ x = some v := by exact rfl) (hn : Nat.blt d n.n = true := by exact rfl) : qF P n ops (⟨some d, .assign x, T, pos, after, none⟩ :: rest) Γ w KE := qF.r (Run.asg hx) hn k
theorem qX (i : IntKind) (m : Nat) {x : Operand} (k : qF P n ops rest ((d, .int i ((m : Nat) : Int)) :: Γ) w KE) (hx : ev? Γ x = some (.int i ((m : Nat) : Int)) := by exact rfl) (hn : Nat.blt d n.n = true := by exact rfl) : qF P n ops (⟨some d, .move x, T, pos, after, none⟩ :: rest) Γ w KE := qF.r (Run.mv hx) hn k
theorem qY (i : IntKind) (m : Nat) {x : Operand} (k : qF P n ops rest ((d, .int i ((m : Nat) : Int)) :: Γ) w KE) (hx : ev? Γ x = some (.int i ((m : Nat) : Int)) := by exact rfl) (hn : Nat.blt d n.n = true := by exact rfl) : qF P n ops (⟨some d, .assign x, T, pos, after, none⟩ :: rest) Γ w KE := qF.r (Run.asg hx) hn k
end
abbrev zc := @List.getElem?_eq_getElem
abbrev zf := @List.mem_singleton
abbrev zs := @List.mem_cons
abbrev zq := @Nat.eq_of_beq_eq_true
abbrev zaf := @List.map_cons
abbrev zaj := @Nat.le_refl
abbrev zw := @List.not_mem_nil
abbrev zak := @Nat.le_trans
abbrev zr := @List.getD_eq_getElem?_getD
abbrev zba := @Nat.zero_le
abbrev zaa := @List.take_of_length_le
abbrev zap := @List.getElem_mem
abbrev zz := @Array.getD_eq_getD_getElem?
abbrev zar := @Bool.eq_false_iff
abbrev zaw := @List.length_map
abbrev zax := @List.length_take
abbrev zay := @List.take_length
abbrev zah := @Array.getElem?_setIfInBounds
abbrev zbi := @Option.bind_some
abbrev zbj := @Bool.and_eq_true
abbrev zbc := @List.take_add_one
abbrev zaz := @List.length_append
abbrev zbk := @List.length_drop
abbrev zbt := @List.length_cons
abbrev zch := @Nat.add_assoc
abbrev zcy := @Nat.mul_one
abbrev zat := @List.getElem?_take_of_lt
abbrev zai := @List.eq_nil_of_length_eq_zero
abbrev zbn := @Nat.le_of_ble_eq_true
abbrev zdb := @List.map_map
abbrev zcl := @List.nodup_cons
abbrev zbq := @List.mem_of_getElem?
abbrev zcm := @Nat.min_eq_left
abbrev zco := @List.size_toArray
abbrev zda := @List.nil_append
abbrev zbu := @List.drop_eq_nil_of_le
abbrev zdn := @Nat.mul_le_mul
abbrev zde := @Bool.false_eq_true
abbrev zdo := @Array.size_append
abbrev zcw := @Array.size_replicate
abbrev zby := @Array.getElem?_append_left
abbrev zcn := @Array.getElem?_eq_none
abbrev zct := @List.getElem?_eq_none
abbrev zbz := @List.getElem?_append_right
abbrev zcb := @List.drop_eq_getElem_cons
abbrev zcz := @Nat.add_sub_cancel'
abbrev zcu := @Array.getElem?_toList
abbrev zcx := @Array.toList_setIfInBounds
end
section
open Go.Proofs
theorem eF (w : World) : (zeroValue 3).run Tryz.prog w = .ok (.int .i64 0) w := by
 simp only [zeroValue, Sem.run_bind, Tryz.typeInfo3, Result.andThen_ok]; rfl
theorem tZ : (Tryz.prog.info? 3).map (fun i => (i.zero, i.size, i.bytes)) = some (some (.int .i64 0), 1, 8) := by kernel_rfl
theorem nI (w : World) : (zeroValue 9).run Tryz.prog w = .ok (.string ⟨#[]⟩) w := by
 simp only [zeroValue, Sem.run_bind, Tryz.typeInfo9, Result.andThen_ok]; rfl
theorem tJ : (Tryz.prog.info? 9).map (fun i => (i.zero, i.size, i.bytes)) = some (some (.string ⟨#[]⟩), 1, 16) := by kernel_rfl
theorem pW (w : World) : (zeroValue 26).run Tryz.prog w = .ok (.slice none 0 0) w := by
 simp only [zeroValue, Sem.run_bind, Tryz.typeInfo26, Result.andThen_ok]; rfl
theorem cR (w : World) : (zeroValue 34).run Tryz.prog w = .ok (.agg #[.string ⟨#[]⟩, .string ⟨#[]⟩, .bool false, .string ⟨#[]⟩, .string ⟨#[]⟩, .slice none 0 0, .int .i64 0, .bool false, .slice none 0 0, .slice none 0 0, .int .i64 0, .string ⟨#[]⟩, .string ⟨#[]⟩, .int .i64 0, .slice none 0 0, .slice none 0 0, .int .i64 0, .int .i64 0, .bool false, .slice none 0 0]) w := by
 simp only [zeroValue, Sem.run_bind, Tryz.typeInfo34, Result.andThen_ok]; rfl
theorem pY (w : World) : (zeroValue 35).run Tryz.prog w = .ok (.int .i64 0) w := by
 simp only [zeroValue, Sem.run_bind, Tryz.typeInfo35, Result.andThen_ok]; rfl
theorem bY (w : World) : (zeroValue 41).run Tryz.prog w = .ok (.agg #[.int .i64 0, .string ⟨#[]⟩]) w := by
 simp only [zeroValue, Sem.run_bind, Tryz.typeInfo41, Result.andThen_ok]; rfl
theorem tI : (Tryz.prog.info? 41).map (fun i => (i.zero, i.size, i.bytes)) = some (some (.agg #[.int .i64 0, .string ⟨#[]⟩]), 2, 24) := by kernel_rfl
theorem eK (w : World) : (zeroValue 47).run Tryz.prog w = .ok (.agg #[.slice none 0 0, .string ⟨#[]⟩, .slice none 0 0]) w := by
 simp only [zeroValue, Sem.run_bind, Tryz.typeInfo47, Result.andThen_ok]; rfl
theorem cS (w : World) : (zeroValue 54).run Tryz.prog w = .ok (.agg #[.int .i64 0, .string ⟨#[]⟩, .slice none 0 0, .string ⟨#[]⟩, .slice none 0 0, .bool false, .bool false, .int .i64 0, .int .i64 0]) w := by
 simp only [zeroValue, Sem.run_bind, Tryz.typeInfo54, Result.andThen_ok]; rfl
theorem tL : (Tryz.prog.info? 54).map (fun i => (i.zero, i.size, i.bytes)) = some (some (.agg #[.int .i64 0, .string ⟨#[]⟩, .slice none 0 0, .string ⟨#[]⟩, .slice none 0 0, .bool false, .bool false, .int .i64 0, .int .i64 0]), 9, 112) := by kernel_rfl
theorem tO (w : World) : (zeroValue 64).run Tryz.prog w = .ok (.agg #[.slice none 0 0, .int .i64 0, .pointer none]) w := by
 simp only [zeroValue, Sem.run_bind, Tryz.typeInfo64, Result.andThen_ok]; rfl
theorem pG (w : World) : (zeroValue 82).run Tryz.prog w = .ok (.agg #[.bool false, .string ⟨#[]⟩]) w := by
 simp only [zeroValue, Sem.run_bind, Tryz.typeInfo82, Result.andThen_ok]; rfl
theorem pH (w : World) : (zeroValue 86).run Tryz.prog w = .ok (.agg #[.string ⟨#[]⟩, .string ⟨#[]⟩, .string ⟨#[]⟩, .string ⟨#[]⟩, .string ⟨#[]⟩, .string ⟨#[]⟩]) w := by
 simp only [zeroValue, Sem.run_bind, Tryz.typeInfo86, Result.andThen_ok]; rfl
theorem uQ (w : World) : (zeroValue 87).run Tryz.prog w = .ok (.agg #[.string ⟨#[]⟩, .string ⟨#[]⟩, .string ⟨#[]⟩, .string ⟨#[]⟩]) w := by
 simp only [zeroValue, Sem.run_bind, Tryz.typeInfo87, Result.andThen_ok]; rfl
theorem pM (w : World) : (zeroValue 89).run Tryz.prog w = .ok (.agg #[]) w := by
 simp only [zeroValue, Sem.run_bind, Tryz.typeInfo89, Result.andThen_ok]; rfl
theorem lF (w : World) : (zeroValue 96).run Tryz.prog w = .ok (.agg #[.int .i64 0, .int .i64 0]) w := by
 simp only [zeroValue, Sem.run_bind, Tryz.typeInfo96, Result.andThen_ok]; rfl
theorem uX : (Tryz.prog.info? 96).map (fun i => (i.zero, i.size, i.bytes)) = some (some (.agg #[.int .i64 0, .int .i64 0]), 2, 16) := by kernel_rfl
theorem nW (w : World) : (zeroValue 204).run Tryz.prog w = .ok (.agg #[.bool false, .bool false, .bool false, .bool false, .bool false, .bool false, .bool false, .bool false, .bool false, .bool false, .bool false, .bool false, .bool false, .bool false, .bool false, .bool false, .bool false, .bool false, .bool false, .bool false, .bool false, .bool false, .bool false, .bool false, .bool false, .bool false, .bool false, .bool false, .bool false, .bool false, .bool false, .bool false, .bool false, .bool false, .bool false, .bool false, .bool false, .bool false, .bool false, .bool false, .bool false, .bool false, .bool false, .bool false, .bool false, .bool false, .bool false, .bool false, .bool false, .bool false, .bool false, .bool false, .bool false, .bool false, .bool false, .bool false, .bool false, .bool false, .bool false, .bool false, .bool false, .bool false, .bool false, .bool false, .bool false, .bool false, .bool false, .bool false, .bool false, .bool false, .bool false, .bool false, .bool false, .bool false, .bool false, .bool false, .bool false, .bool false, .bool false, .bool false, .bool false, .bool false, .bool false, .bool false, .bool false, .bool false, .bool false, .bool false, .bool false, .bool false, .bool false, .bool false, .bool false, .bool false, .bool false, .bool false, .bool false, .bool false, .bool false, .bool false, .bool false, .bool false, .bool false, .bool false, .bool false, .bool false, .bool false, .bool false, .bool false, .bool false, .bool false, .bool false, .bool false, .bool false, .bool false, .bool false, .bool false, .bool false, .bool false, .bool false, .bool false, .bool false, .bool false, .bool false, .bool false, .bool false, .bool false, .bool false, .bool false, .bool false, .bool false, .bool false, .bool false, .bool false, .bool false, .bool false, .bool false, .bool false, .bool false, .bool false, .bool false, .bool false, .bool false, .bool false, .bool false, .bool false, .bool false, .bool false, .bool false, .bool false, .bool false, .bool false, .bool false, .bool false, .bool false, .bool false, .bool false, .bool false, .bool false, .bool false, .bool false, .bool false, .bool false, .bool false, .bool false, .bool false, .bool false, .bool false, .bool false, .bool false, .bool false, .bool false, .bool false, .bool false, .bool false, .bool false, .bool false, .bool false, .bool false, .bool false, .bool false, .bool false, .bool false, .bool false, .bool false, .bool false, .bool false, .bool false, .bool false, .bool false, .bool false, .bool false, .bool false, .bool false, .bool false, .bool false, .bool false, .bool false, .bool false, .bool false, .bool false, .bool false, .bool false, .bool false, .bool false, .bool false, .bool false, .bool false, .bool false, .bool false, .bool false, .bool false, .bool false, .bool false, .bool false, .bool false, .bool false, .bool false, .bool false, .bool false, .bool false, .bool false, .bool false, .bool false, .bool false, .bool false, .bool false, .bool false, .bool false, .bool false, .bool false, .bool false, .bool false, .bool false, .bool false, .bool false, .bool false, .bool false, .bool false, .bool false, .bool false, .bool false, .bool false, .bool false, .bool false, .bool false, .bool false, .bool false, .bool false, .bool false, .bool false, .bool false, .bool false, .bool false, .bool false, .bool false]) w := by
 simp only [zeroValue, Sem.run_bind, Tryz.typeInfo204, Result.andThen_ok]; rfl
theorem cT : ∃ fs, Tryz.prog.underlying 34 = some (.struct fs) ∧ ∀ w, (fs.mapM fun f => do pure (f.offset, ← sizeOf f.type) : Sem (Array (Nat × Nat))).run Tryz.prog w = .ok #[(0, 1), (1, 1), (2, 1), (3, 1), (4, 1), (5, 1), (6, 1), (7, 1), (8, 1), (9, 1), (10, 6), (16, 2), (18, 1), (19, 1)] w :=
 ⟨_, Tryz.underlying34, fun w => by simp [Tryz.sizeOf25, Tryz.sizeOf26, Tryz.sizeOf27, Tryz.sizeOf3, Tryz.sizeOf30, Tryz.sizeOf32, Tryz.sizeOf4, Tryz.sizeOf9]⟩
theorem qT : ∃ fs, Tryz.prog.underlying 41 = some (.struct fs) ∧ ∀ w, (fs.mapM fun f => do pure (f.offset, ← sizeOf f.type) : Sem (Array (Nat × Nat))).run Tryz.prog w = .ok #[(0, 1), (1, 1)] w :=
 ⟨_, Tryz.underlying41, fun w => by simp [Tryz.sizeOf3, Tryz.sizeOf9]⟩
theorem bI : ∃ fs, Tryz.prog.underlying 47 = some (.struct fs) ∧ ∀ w, (fs.mapM fun f => do pure (f.offset, ← sizeOf f.type) : Sem (Array (Nat × Nat))).run Tryz.prog w = .ok #[(0, 1), (1, 1), (2, 1)] w :=
 ⟨_, Tryz.underlying47, fun w => by simp [Tryz.sizeOf25, Tryz.sizeOf45, Tryz.sizeOf9]⟩
theorem dD : ∃ fs, Tryz.prog.underlying 54 = some (.struct fs) ∧ ∀ w, (fs.mapM fun f => do pure (f.offset, ← sizeOf f.type) : Sem (Array (Nat × Nat))).run Tryz.prog w = .ok #[(0, 1), (1, 1), (2, 3), (5, 1), (6, 1), (7, 1), (8, 1)] w :=
 ⟨_, Tryz.underlying54, fun w => by simp [Tryz.sizeOf3, Tryz.sizeOf4, Tryz.sizeOf47, Tryz.sizeOf9]⟩
theorem lA : ∃ fs, Tryz.prog.underlying 64 = some (.struct fs) ∧ ∀ w, (fs.mapM fun f => do pure (f.offset, ← sizeOf f.type) : Sem (Array (Nat × Nat))).run Tryz.prog w = .ok #[(0, 1), (1, 1), (2, 1)] w :=
 ⟨_, Tryz.underlying64, fun w => by simp [Tryz.sizeOf23, Tryz.sizeOf3, Tryz.sizeOf62]⟩
theorem lI : ∃ fs, Tryz.prog.underlying 82 = some (.struct fs) ∧ ∀ w, (fs.mapM fun f => do pure (f.offset, ← sizeOf f.type) : Sem (Array (Nat × Nat))).run Tryz.prog w = .ok #[(0, 1), (1, 1)] w :=
 ⟨_, Tryz.underlying82, fun w => by simp [Tryz.sizeOf4, Tryz.sizeOf9]⟩
theorem fM : ∃ fs, Tryz.prog.underlying 89 = some (.struct fs) ∧ ∀ w, (fs.mapM fun f => do pure (f.offset, ← sizeOf f.type) : Sem (Array (Nat × Nat))).run Tryz.prog w = .ok #[] w :=
 ⟨_, Tryz.underlying89, fun w => by simp []⟩
theorem lL : ∃ fs, Tryz.prog.underlying 96 = some (.struct fs) ∧ ∀ w, (fs.mapM fun f => do pure (f.offset, ← sizeOf f.type) : Sem (Array (Nat × Nat))).run Tryz.prog w = .ok #[(0, 1), (1, 1)] w :=
 ⟨_, Tryz.underlying96, fun w => by simp [Tryz.sizeOf3]⟩
theorem rF : ∃ f0 f1, (Tryz.prog.fieldsOf 32).toList = [f0, f1] ∧ (f0.name = "Sec" ∧ f0.type = 2 ∧ f0.offset = 0) ∧ (f1.name = "Zone" ∧ f1.type = 3 ∧ f1.offset = 1) := by
 unfold Program.fieldsOf
 rw [Tryz.underlying32]
 exact ⟨_, _, rfl, ⟨rfl, rfl, rfl⟩, ⟨rfl, rfl, rfl⟩⟩
theorem rA : ∃ f0 f1, (Tryz.prog.fieldsOf 96).toList = [f0, f1] ∧ (f0.name = "From" ∧ f0.type = 3 ∧ f0.offset = 0) ∧ (f1.name = "To" ∧ f1.type = 3 ∧ f1.offset = 1) := by
 unfold Program.fieldsOf
 rw [Tryz.underlying96]
 exact ⟨_, _, rfl, ⟨rfl, rfl, rfl⟩, ⟨rfl, rfl, rfl⟩⟩
abbrev zb := @Tryz.sizeOf9
abbrev zd := @Tryz.sizeOf3
abbrev za := @Tryz.underlying9
abbrev zh := @Tryz.isAgg9
abbrev ze := @Tryz.underlying34
abbrev zj := @Tryz.isAgg3
abbrev zk := @Tryz.sizeOf4
abbrev zg := @Tryz.underlying54
abbrev zi := @Tryz.underlying47
abbrev zn := @Tryz.sizeOf47
abbrev zp := @Tryz.sizeOf41
abbrev zl := @Tryz.underlying25
abbrev zu := @Tryz.isAgg4
abbrev zm := @Tryz.underlying45
abbrev zo := @Tryz.underlying64
abbrev zv := @Tryz.sizeOf54
abbrev zab := @Tryz.sizeOf25
abbrev zt := @Tryz.underlying68
abbrev zx := @Tryz.underlying4
abbrev zy := @Tryz.underlying23
abbrev zac := @Tryz.underlying3
abbrev zal := @Tryz.isAgg25
abbrev zad := @Tryz.underlying44
abbrev zan := @Tryz.sizeOf5
abbrev zao := @Tryz.isAgg47
abbrev zae := @Tryz.underlying30
abbrev zag := @Tryz.underlying5
abbrev zam := @Tryz.sizeOf34
abbrev zas := @Tryz.sizeOf45
abbrev zau := @Tryz.sizeOf62
abbrev zbe := @Tryz.call20
abbrev zbb := @Tryz.sizeOf27
abbrev zbo := @Tryz.isAgg5
abbrev zbf := @Tryz.isAgg62
abbrev zbg := @Tryz.isAgg41
abbrev zbh := @Tryz.sizeOf26
abbrev zaq := @Tryz.underlying41
abbrev zbp := @Tryz.isAgg45
abbrev zbs := @Tryz.sizeOf30
abbrev zbv := @Tryz.isAgg23
abbrev zbw := @Tryz.isAgg26
abbrev zbx := @Tryz.isAgg54
abbrev zav := @Tryz.underlying27
abbrev zbd := @Tryz.underlying26
abbrev zce := @Tryz.isAgg61
abbrev zcf := @Tryz.isAgg27
abbrev zbr := @Tryz.underlying20
abbrev zbl := @Tryz.underlying197
abbrev zci := @Tryz.isAgg197
abbrev zcc := @Tryz.sizeOf197
abbrev zbm := @Tryz.underlying195
abbrev zcj := @Tryz.isAgg195
abbrev zcd := @Tryz.sizeOf195
abbrev zck := @Tryz.sizeOf96
abbrev zcg := @Tryz.underlying0
abbrev zdc := @Tryz.sizeOf0
abbrev zdd := @Tryz.call146
abbrev zcs := @Tryz.results10
abbrev zca := @Tryz.underlying83
abbrev zcp := @Tryz.underlying82
abbrev zcq := @Tryz.underlying96
abbrev zcv := @Tryz.underlying2
abbrev zcr := @Tryz.underlying28
abbrev zdp := @Tryz.underlying86
abbrev zdf := @Tryz.underlying106
abbrev zdg := @Tryz.underlying164
abbrev zdh := @Tryz.underlying163
abbrev zdi := @Tryz.underlying167
abbrev zdj := @Tryz.underlying194
abbrev zdk := @Tryz.underlying196
abbrev zdl := @Tryz.underlying225
abbrev zdm := @Tryz.underlying226
abbrev zdq := @Tryz.underlying58
end
section
open Go.RowKit
section
variable {P : Program} {Γ : Env} {w : World} {dst : Option Tmp} {T : TypeId} {pos : String} {after : Array Edge} {g : Option (Nat × Bool)}
theorem lS.pn {x : Operand} {t : TypeId} {v : Value} (hx : ev? Γ x = some (.iface t v)) : lS P ⟨dst, .panic x, T, pos, after, g⟩ Γ w (.iface t v) := fun ρ hρ => by
 simp [execOp, hρ _ _ hx, Instr.panic, goPanic]
theorem Run.buildA {t e : TypeId} {n size : Nat} {parts : List (Nat × Operand)} {vs : List Value} {z cells : Array Value} (hv : evs Γ (parts.map (·.2)) vs) (hz : ∀ w, (zeroValue t).run P w = .ok (.agg z) w)
  (hu : P.underlying t = some (.array n e)) (hsz : ∀ w, (sizeOf e).run P w = .ok size w) (hf : Instr.fill (fun i => some (i * size, size)) z ((parts.map (·.1)).zip vs) = some cells) :
  Run P ⟨dst, .build t parts.toArray, T, pos, after, g⟩ Γ w (.agg cells) := fun ρ hρ => by
 have e1 := cC hρ _ _ hv
 have e2 : parts.map (fun p => (p.1, ρ p.2)) = (parts.map (·.1)).zip vs := by
  rw [← e1, zdb, List.zip_map']
  rfl
 simp only [execOp, Instr.build, Sem.run_bind, hz, Result.andThen_ok, Value.cells, run_underlying hu, hsz, List.map_toArray, e2, hf, Sem.run_pure]
theorem Run.neqNilI {t yT : TypeId} {x y : Operand} {u : TypeId} {v : Value} {d : TypeDesc} (hx : ev? Γ x = some (.iface u v)) (hy : ev? Γ y = some .nilIface) (ht : P.underlying t = some d) (hd : fH d = false) :
  Run P ⟨dst, .binOp .neq t x y yT, T, pos, after, g⟩ Γ w (.bool true) := fun ρ hρ => by
 have h0 : ∀ k : Nat, (Op.equalIn (k + 1) t (.iface u v) .nilIface).run P w = .ok false w := fun k => by
  cases d <;> first | (cases hd; done) | simp [Op.equalIn, run_underlying ht]
 have h1 : (Op.equal t (.iface u v) .nilIface).run P w = .ok false w := h0 9999
 simp [execOp, hρ _ _ hx, hρ _ _ hy, eqGuard, binOp, h1]
end
section
variable {P : Program} {n : NF} {Γ : Env} {w : World} {Q : Exit → Env → World → Prop} {K : Env → World → Prop} {Pn : List PanicEntry → World → Prop} {ops : Array Oper} {rest : List Oper} {S : World → Prop} {L fuel : Nat} {listed : Array Bool} {d : Nat} {op : Op} {T : TypeId} {pos : String} {after : Array Edge}
theorem Ops.clp {f : FuncId} {args : Array Value} {R : Ending → World → Prop} (he : qI P ⟨some d, op, T, pos, after, none⟩ Γ w f args) (hc : Calls P f args w R) (hn : Nat.blt d n.n = true)
  (k : ∀ e w', R e w' → (∃ v, e = .returned v ∧ Ops P n ops rest ((d, v) :: Γ) w' Q) ∨ (∃ ch, e = .panicked ch ∧ Q (.panic ch) Γ w')) : Ops P n ops (⟨some d, op, T, pos, after, none⟩ :: rest) Γ w Q :=
 Ops.callP he hc trivial rfl hn k
theorem Ops.pn {x : Operand} {t : TypeId} {v : Value} {dd : Option Tmp} (hx : ev? Γ x = some (.iface t v)) (k : Q (.panic [{ v := .iface t v, recovered := false }]) Γ w) : Ops P n ops (⟨dd, .panic x, T, pos, after, none⟩ :: rest) Γ w Q :=
 Ops.falls (lS.pn hx) trivial k
theorem qJ.clp {f : FuncId} {args : Array Value} {R : Ending → World → Prop} {d : Nat} (i : Nat) {oi : Oper} (hi : ops[i]? = some oi) (hr : Region.ready .any ops listed = [i]) (he : qI P oi Γ w f args) (hc : Calls P f args w R) (hup : Up ops Γ oi.guard) (hd : oi.dst = some d) (hn : Nat.blt d n.n = true)
  (k : ∀ e w', R e w' → (∃ v, e = .returned v ∧ S w' ∧ qJ P n ops S Pn L fuel (listed.setIfInBounds i true) ((d, v) :: Γ) w' K) ∨ (∃ ch, e = .panicked ch ∧ Pn ch w')) : qJ P n ops S Pn L (fuel + 1) listed Γ w K :=
 qJ.of_wp i hi hr hup fun a hs => by
  unfold Oper.wp
  rw [he _ hs.fits, Oper.upon_enter, hd]
  refine hc.mono ?_
  intro e w' hR
  rcases k e w' hR with ⟨v, rfl, h1, h2⟩ | ⟨ch, rfl, h1⟩
  · exact ⟨h1, h2 _ (hs.put hn v)⟩
  exact ⟨⟨hs.size, hs.defers⟩, h1⟩
end
section
variable {P : Program} {n : NF} {Γ : Env} {w : World} {K : Env → World → Prop} {Pn : List PanicEntry → World → Prop} {ops : Array Oper} {S : World → Prop} {L fuel : Nat} {listed : Array Bool}
end
section
variable {P : Program} {n : Nat} {D : List Deferred} {Γ : Env} {w : World} {Q : Exit → Env → World → Prop}
end
def LW (P : Program) (n : NF) (c : Code) (Γ : Env) (w : World) (QQ : Exit → Act → World → Prop) : Prop := n.ro = none → ∀ a, Sat n Γ a → c.wp P QQ a w
def upL (n : NF) (QQ : Exit → Act → World → Prop) : Exit → Env → World → Prop := fun e Γ w => ∀ a, Sat n Γ a → QQ e a w
section
variable {P : Program} {n : NF} {Γ : Env} {w : World} {QQ : Exit → Act → World → Prop} {c x y : Code} {R : Ending → World → Prop} {fn : Func} {res : Array ResultVar}
theorem LW.vc (h : VC P n c Γ w (upL n QQ)) : LW P n c Γ w QQ := fun hro a hs => by
 have h1 := h a hs 0
 rw [hro] at h1
 exact wp_mono (wpIn_wide.1 h1) (fun _ _ _ ⟨_, hs', q⟩ => q _ hs')
theorem LW.seq (h : VC P n x Γ w (dZ (fun Γ' w' => LW P n y Γ' w' QQ) (upL n QQ))) : LW P n (.seq x y) Γ w QQ := by
 intro hro a hs
 have h1 := h a hs 0
 rw [hro] at h1
 refine wp_seq (wp_mono (wpIn_wide.1 h1) ?_)
 intro e a' w' hq
 obtain ⟨Γ', hs', q⟩ := hq
 cases e with
 | normal => exact q hro a' hs'
 | exit id => exact q a' hs'
 | goto l => exact q a' hs'
 | ret => exact q a' hs'
 | panic ch => exact q a' hs'
 | outgrown => exact q a' hs'
theorem LW.dfr {m : Nat} {D : List Deferred} {id : Nat} {om od : Oper} {t : Nat} {o : Operand} {f : FuncId} {us : List Value} {ts : Array TypeId} (h : Run P om Γ w (.func (.func f) #[] us.toArray)) (hgm : om.guard = none) (hdm : om.dst = some t) (htn : Nat.blt t m = true)
  (ho : od.op = .defer ⟨.value o, #[], ts⟩) (hg : od.guard = none) (hd : od.dst = none) (hc : ev? ((t, .func (.func f) #[] us.toArray) :: Γ) o = some (.func (.func f) #[] us.toArray))
  (k : LW P ⟨m, { target := .fn (.func f) us.toArray, args := #[] } :: D, none⟩ y ((t, .func (.func f) #[] us.toArray) :: Γ) w QQ) : LW P ⟨m, D, none⟩ (.seq (.region id #[om, od] false) y) Γ w QQ := by
 intro _ a hs
 refine wp_seq (wp_region_lit ?_)
 unfold wpList
 rw [if_pos (by unfold Region.wanted; rw [hgm])]
 left
 unfold Oper.wp
 rw [h _ hs.fits, Oper.upon_value, hdm]
 have hs1 := hs.put htn (.func (.func f) #[] us.toArray)
 unfold wpList
 rw [if_pos (by unfold Region.wanted; rw [hg])]
 left
 unfold Oper.wp
 have e2 := hs1.fits _ _ hc
 have hr : (execOp (a.put (some t) (.func (.func f) #[] us.toArray)).eval od).run P w = .ok (.defer { target := .fn (.func f) us.toArray, args := #[] }) w := by
  simp [execOp, ho, resolve, e2, Deferred.ofValue]
 rw [hr, Oper.upon_defer, hd]
 refine wpList_nil (k rfl _ ⟨hs1.size, ?_, hs1.at_⟩)
 show _ :: (a.put (some t) _).defers = _
 rw [hs1.defers]
theorem hH {f : FuncId} {us : List Value} (hi : ∀ args w, (callFunc f args).run P w = .ok (.enter f args) w) (w : World) : (invoke (.fn (.func f) us.toArray) #[]).run P w = .ok (.enter f us.toArray) w := by
 simp [invoke, hi]
theorem rI {m : Nat} (hr : fn.results = res) (h : cX P res R .ret Γ w) : upL ⟨m, [], none⟩ (bodyPostD P fn R) .ret Γ w := fun a hs => by
 obtain ⟨vs, h1, h2⟩ := cQ hs hr h
 show Leaves P fn a.tmps R a.defers .returning w
 rw [hs.defers]
 exact ⟨_, h1, h2⟩
theorem rL {m : Nat} {f : FuncId} {us : List Value} (hr : fn.results = res) (hi : ∀ args w, (callFunc f args).run P w = .ok (.enter f args) w)
  (hc : CallsD P f us.toArray .returning w fun e u w' => (∃ v, e = .returned v) ∧ settle u = .returning ∧ cX P res R .ret Γ w') : upL ⟨m, [{ target := .fn (.func f) us.toArray, args := #[] }], none⟩ (bodyPostD P fn R) .ret Γ w := fun a hs => by
 show Leaves P fn a.tmps R a.defers .returning w
 rw [hs.defers]
 refine leaves_cons jp (hH hi w) (hc.mono ?_)
 rintro e u w' ⟨⟨v, rfl⟩, hu, h⟩
 obtain ⟨vs, h1, h2⟩ := cQ hs hr h
 dsimp only
 rw [hu]
 exact ⟨_, h1, h2⟩
theorem fN {m : Nat} {f : FuncId} {us : List Value} {ch : List PanicEntry} (hr : fn.results = res) (hi : ∀ args w, (callFunc f args).run P w = .ok (.enter f args) w)
  (hc : CallsD P f us.toArray (.panicking ch) w fun e u w' => (∃ v, e = .returned v) ∧ settle u = .returning ∧ cX P res R .ret Γ w') : upL ⟨m, [{ target := .fn (.func f) us.toArray, args := #[] }], none⟩ (bodyPostD P fn R) (.panic ch) Γ w := fun a hs => by
 show Leaves P fn a.tmps R a.defers (.panicking ch) w
 rw [hs.defers]
 refine leaves_cons jp (hH hi w) (hc.mono ?_)
 rintro e u w' ⟨⟨v, rfl⟩, hu, h⟩
 obtain ⟨vs, h1, h2⟩ := cQ hs hr h
 dsimp only
 rw [hu]
 exact ⟨_, h1, h2⟩
theorem LW.calls {f : FuncId} {args : List Value} {nt : Nat} (hf : P.funcs[f]? = some fn) (hb : fn.body = some c) (hn : fn.ntmps = nt) (hl0 : Nat.ble args.length nt = true)
  (h : LW P ⟨nt, [], none⟩ c (argEnv 0 args) w (bodyPostD P fn R)) : Calls P f args.toArray w R := by
 have hl : args.length ≤ nt := zbn hl0
 refine calls_of_wp_defers hf hb (h rfl _ ?_)
 refine ⟨?_, rfl, ?_⟩
 ·
  simp only [zdo, zco, zcw, hn]
  omega
 intro t v ht
 obtain ⟨_, h2⟩ := eM args 0 t v ht
 simp only [Nat.sub_zero] at h2
 have hlt : t < args.length := (List.getElem?_eq_some_iff.1 h2).1
 rw [zz, zby (by simpa using hlt)]
 simp [h2]
end
section
variable {P : Program} {Γ : Env} {w : World} {rest : Code} {R : Ending → FrameMode → World → Prop} {fn : Func} {res : Array ResultVar}
theorem VC.recovered {f : FuncId} {args : List Value} {nt id : Nat} {o4 o3 : Oper} {d e : Nat} {u u' : FrameMode} {v : Value} (hf : P.funcs[f]? = some fn) (hb : fn.body = some (.seq (.region id #[o4, o3] false) rest)) (hn : fn.ntmps = nt) (hr : fn.results = res) (hl0 : Nat.ble args.length nt = true)
  (hu : (∃ older, u = .panicking ({ v, recovered := false } :: older) ∧ u' = .panicking ({ v, recovered := true } :: older)) ∨ (u = .returning ∧ u' = u ∧ v = .nilIface))
  (h4 : o4.op = .call ⟨.builtin .recover, #[], #[]⟩) (hg4 : o4.guard = none) (hd4 : o4.dst = some d) (h3 : o3.op = .assign (.tmp d)) (hg3 : o3.guard = none) (hd3 : o3.dst = some e) (hdn : Nat.blt d nt = true) (hen : Nat.blt e nt = true)
  (k : VC P ⟨nt, [], none⟩ rest ((e, v) :: (d, v) :: argEnv 0 args) w (cX P res (fun x w' => R x u' w'))) : CallsD P f args.toArray u w R := by
 have hl : args.length ≤ nt := zbn hl0
 refine callsD_of_wpS hf hb fun c₀ cs hmode => wpS_seq (wpS_region ?_)
 have hs0 : Sat ⟨nt, [], none⟩ (argEnv 0 args) { tmps := args.toArray ++ Array.replicate (fn.ntmps - args.toArray.size) undef, defers := [] } := by
  refine ⟨?_, rfl, ?_⟩
  ·
   simp only [zdo, zco, zcw, hn]
   omega
  intro t v ht
  obtain ⟨_, h2⟩ := eM args 0 t v ht
  simp only [Nat.sub_zero] at h2
  have hlt : t < args.length := (List.getElem?_eq_some_iff.1 h2).1
  rw [zz, zby (by simpa using hlt)]
  simp [h2]
 generalize ({ tmps := args.toArray ++ Array.replicate (fn.ntmps - args.toArray.size) undef, defers := [] } : Act) = a0 at hs0
 have e0 : (execOp a0.eval o4).run P w = .ok .recover w := by
  simp [execOp, h4, resolve, invoke, builtin]
 have fin : ∀ cs', cs' = { c₀ with mode := u' } :: cs → wpOpsS P #[o4, o3] (Exit.thenS (rest.wpS P (bodyPostS P fn c₀ cs R)) (bodyPostS P fn c₀ cs R)) [1] (a0.put o4.dst v) cs' w := by
  rintro cs' rfl
  have hs1 := hs0.put hdn v
  rw [hd4]
  have e1 : (execOp (a0.put (some d) v).eval o3).run P w = .ok (.value v) w := by
   have h5 : (a0.put (some d) v).eval (.tmp d) = v := hs1.fits (.tmp d) v (by simp [ev?, get?])
   simp [execOp, h3, h5]
  have hs2 := hs1.put hen v
  simp only [wpOpsS, show (#[o4, o3] : Array Oper)[1]? = some o3 from rfl]
  rw [if_pos (by unfold Region.wanted; rw [hg3]), e1]
  simp only [Oper.upon_value, hd3]
  refine wpS_of_wp (wp_mono (wpIn_wide.1 (k _ hs2 0)) ?_)
  rintro x a' w' ⟨Γ', hs', q⟩
  have key : cX P res (fun x w' => R x u' w') .ret Γ' w' → ∃ v, (results fn a'.tmps).run P w' = .ok v w' ∧ R (.returned v) u' w' := by
   intro q
   obtain ⟨vs, h1, h2⟩ := cQ hs' hr q
   exact ⟨_, h1, h2⟩
  cases x with
  | normal => obtain ⟨v, h1, h2⟩ := key q; exact ⟨hs'.defers, _, rfl, v, h1, h2⟩
  | ret => obtain ⟨v, h1, h2⟩ := key q; exact ⟨hs'.defers, _, rfl, v, h1, h2⟩
  | panic ch => exact ⟨hs'.defers, _, rfl, q⟩
  | exit id => exact q.elim
  | goto l => exact q.elim
  | outgrown => exact q.elim
 show wpOpsS P #[o4, o3] _ [0, 1] a0 (c₀ :: cs) w
 rw [wpOpsS]
 simp only [show (#[o4, o3] : Array Oper)[0]? = some o4 from rfl]
 rw [if_pos (by unfold Region.wanted; rw [hg4]), e0]
 dsimp only
 rcases hu with ⟨older, rfl, rfl⟩ | ⟨rfl, rfl, rfl⟩
 ·
  have : recoverD (c₀ :: cs) = some (v, { c₀ with mode := .panicking ({ v, recovered := true } :: older) } :: cs) := by simp [recoverD, hmode]
  rw [this]
  exact fin _ rfl
 have : recoverD (c₀ :: cs) = none := by simp [recoverD, hmode]
 rw [this]
 exact fin _ (by rw [← hmode])
end
section
variable {P : Program} {Γ : Env} {w : World} {dst : Option Tmp} {T : TypeId} {pos : String} {after : Array Edge} {g : Option (Nat × Bool)}
theorem Run.neqNil2 {t yT : TypeId} {x : Operand} {d : TypeDesc} (hx : ev? Γ x = some .nilIface) (ht : P.underlying t = some d) (hd : fH d = false) :
  Run P ⟨dst, .binOp .neq t x (.const .nilIface) yT, T, pos, after, g⟩ Γ w (.bool false) := fun ρ hρ => by
 have h0 : ∀ k : Nat, (Op.equalIn (k + 1) t .nilIface .nilIface).run P w = .ok true w := fun k => by
  cases d <;> first | (cases hd; done) | simp [Op.equalIn, run_underlying ht]
 have h1 : (Op.equal t .nilIface .nilIface).run P w = .ok true w := h0 9999
 have hy : ρ (.const .nilIface) = .nilIface := hρ _ _ rfl
 simp [execOp, hρ _ _ hx, hy, eqGuard, binOp, h1]
end
section
variable {P : Program} {n : NF} {Γ : Env} {w : World} {K : Env → World → Prop} {Pn : List PanicEntry → World → Prop} {ops : Array Oper} {S : World → Prop} {L fuel : Nat} {listed : Array Bool} {i : Nat} {oi : Oper} {d : Nat}
end
end
section
open Go.RowKit Go.ChangeShapes Go.WideShapes Go.Deep
section
variable {H : Type} {enc : TypeId × Value → H} {P : Program} {w : World} {base : Nat} {spare : Nat → Bool} {held : Bool}
end
end
section
open Go.RowKit
def Fro (w : World) (g : Nat) (e : TypeId) (cs : Array Value) : Prop := w.heap[g]? = some (.cells cs e (cs.size, cs.size + 1))
section
variable {S : List Nat} {w w' : World} {g : Nat} {e : TypeId} {cs : Array Value}
theorem Fro.lt (h : Fro w g e cs) : g < w.heap.size := (Array.getElem?_eq_some_iff.1 h).1
theorem Fro.cell (h : Fro w g e cs) (i : Nat) : w.cell? ⟨g, i, none⟩ = cs[i]? := by
 unfold Fro at h
 simp [World.cell?, h]
theorem Fro.frozen (h : Fro w g e cs) {i : Nat} (hi : i < cs.size) : w.frozen? ⟨g, i, none⟩ = false := by
 unfold Fro at h
 simp [World.frozen?, h]
 omega
theorem Fro.set (h : Fro w g e cs) (i : Nat) (u : Value) : Fro (w.setCell ⟨g, i, none⟩ u) g e (cs.setIfInBounds i u) := by
 unfold Fro at *
 have hlt := (Array.getElem?_eq_some_iff.1 h).1
 have hb := (Array.getElem?_eq_some_iff.1 h).2
 simp [World.setCell, Array.getElem?_modify, h]
theorem Fro.rd (h : Fro w g e cs) {l : List UInt8} (hl : cs.toList.take l.length = U8 l) : Rd w 1 (some ⟨g, 0, none⟩) l.length (U8 l) := by
 refine ⟨by simp [U8], fun hn => ⟨_, rfl, h.lt, fun j u hu => ?_⟩⟩
 have e1 : (⟨g, 0, none⟩ : Addr).add j = ⟨g, j, none⟩ := by unfold Addr.add; split <;> simp_all
 rw [e1, h.cell]
 have hj : j < l.length := by have := (List.getElem?_eq_some_iff.1 hu).1; simpa [U8] using this
 rw [← hl, zat hj] at hu
 simpa using hu
end
section
variable {P : Program} {n : NF} {Γ : Env} {w : World} {dst : Option Tmp} {T : TypeId} {pos : String} {after : Array Edge} {g : Option (Nat × Bool)}
theorem qV.bytesOf {src dstT e : TypeId} {x : Operand} {s : ByteArray} (hx : ev? Γ x = some (.string s)) (hs : P.underlying src = some .string) (hd : P.underlying dstT = some (.slice e)) (he : P.underlying e = some (.int .u8)) :
  qV P ⟨dst, .convert src dstT x, T, pos, after, g⟩ Γ w (fun r w' => ∃ c cs, r = .slice (some ⟨w.heap.size, 0, none⟩) s.data.toList.length c ∧ Fro w' w.heap.size e cs ∧ cs.toList.take s.data.toList.length = U8 s.data.toList ∧ Frm [] w w') := fun ρ hρ => by
 have h := run_bytes_of_string (P := P) w src dstT e s hs hd he
 have hsz : s.data.toList.length = s.size := rfl
 refine ⟨.slice (some ⟨w.heap.size, 0, none⟩) s.size (grownCap w s.size 0 e), w.drew.alloc (.cells (bytesRow s (grownCap w s.size 0 e)) e ((bytesRow s (grownCap w s.size 0 e)).size, (bytesRow s (grownCap w s.size 0 e)).size + 1)), ?_,
  grownCap w s.size 0 e, bytesRow s (grownCap w s.size 0 e), by rw [hsz], ?_, ?_, ?_⟩
 ·
  simp only [execOp, hρ _ _ hx, Sem.run_bind, h, Result.andThen_ok]
  rfl
 ·
  unfold Fro
  show (w.heap.push _)[w.heap.size]? = _
  simp
 ·
  unfold bytesRow U8
  simp
 exact ((Frm.refl [] w).drew).alloc _
theorem qQ.storeFro {t e : TypeId} {x y : Operand} {gb i : Nat} {cs : Array Value} {v : Value} (hx : ev? Γ x = some (.pointer (some ⟨gb, i, none⟩))) (hy : ev? Γ y = some v)
  (hz : ∀ w, (sizeOf t).run P w = .ok 1 w) (hb : Fro w gb e cs) (hi : i < cs.size) (h1 : v.oneCell' = true) :
  qQ P ⟨dst, .store t x y, T, pos, after, g⟩ Γ w (fun w' => Fro w' gb e (cs.setIfInBounds i v) ∧ Frm [gb] w w' ∧ w'.heap.size = w.heap.size) := fun ρ hρ => by
 have hcells : v.cells = #[v] := by cases v <;> first | rfl | cases h1
 have hc := hb.cell i
 rw [Array.getElem?_eq_getElem hi] at hc
 refine ⟨w.setCell ⟨gb, i, none⟩ v, ?_, hb.set i v, Frm.set1 w ⟨gb, i, none⟩ v, jp⟩
 simp [execOp, hρ _ _ hx, hρ _ _ hy, Instr.storeAt, Instr.sureAddr, storeVar, hcells, hz, storeCells, run_store P _ _ _ _ h1, kI, hc, hb.frozen hi]
theorem qV.bytesOfT {src dstT e : TypeId} {x : Operand} {s : List UInt8} (hx : ev? Γ x = some (encStr s)) (hs : P.underlying src = some .string) (hd : P.underlying dstT = some (.slice e)) (he : P.underlying e = some (.int .u8)) :
  qV P ⟨dst, .convert src dstT x, T, pos, after, g⟩ Γ w (fun r w' => ∃ c cs, r = .slice (some ⟨w.heap.size, 0, none⟩) s.length c ∧ Fro w' w.heap.size e cs ∧ cs.toList.take s.length = U8 s ∧ Frm [] w w') := qV.bytesOf hx hs hd he
theorem Run.lenT {t : TypeId} {x : Operand} {s : List UInt8} (hx : ev? Γ x = some (encStr s)) (ht : P.underlying t = some .string) :
  Run P ⟨dst, .call ⟨.builtin .len, #[x], #[t]⟩, T, pos, after, g⟩ Γ w (jI1 s.length) := Run.lenStr hx ht
theorem Run.eqlT {t yT : TypeId} {x y : Operand} {a b : List UInt8} (hx : ev? Γ x = some (encStr a)) (hy : ev? Γ y = some (encStr b)) : Run P ⟨dst, .binOp .eql t x y yT, T, pos, after, g⟩ Γ w (.bool (decide (a = b))) := Run.eqlStr hx hy
theorem Run.neqT {t yT : TypeId} {x y : Operand} {a b : List UInt8} (hx : ev? Γ x = some (encStr a)) (hy : ev? Γ y = some (encStr b)) : Run P ⟨dst, .binOp .neq t x y yT, T, pos, after, g⟩ Γ w (.bool (decide (a ≠ b))) := Run.neqStr hx hy
theorem Run.addT {t yT : TypeId} {x y : Operand} {a b : List UInt8} (hx : ev? Γ x = some (encStr a)) (hy : ev? Γ y = some (encStr b)) (hs : a.length + b.length ≤ 9223372036854775807) :
  Run P ⟨dst, .binOp .add t x y yT, T, pos, after, g⟩ Γ w (encStr (a ++ b)) := by
 have h := Run.addStr (P := P) (w := w) (T := T) (dst := dst) (pos := pos) (after := after) (g := g) (t := t) (yT := yT) hx hy hs
 have e : (⟨a.toArray⟩ : ByteArray) ++ ⟨b.toArray⟩ = ⟨(a ++ b).toArray⟩ := by
  apply ByteArray.ext
  rw [ByteArray.data_append]
  simp
 rw [e] at h
 exact h
theorem Run.indexT {t : TypeId} {x i : Operand} {s : List UInt8} {k : IntKind} (j : Nat) {b : UInt8} (hx : ev? Γ x = some (encStr s)) (hi : ev? Γ i = some (.int k j)) (ht : P.underlying t = some .string) (hj : s[j]? = some b) :
  Run P ⟨dst, .index t x i, T, pos, after, g⟩ Γ w (.int .u8 ((b.toNat : Nat) : Int)) := Run.indexStr j b hx hi ht hj
theorem Run.sliceT {t : TypeId} {x : Operand} {s : List UInt8} {lo hi : Option Operand} (l h : Nat) (hx : ev? Γ x = some (encStr s)) (ht : P.underlying t = some .string)
  (hlo : evB Γ lo 0 l) (hhi : evB Γ hi s.length h) (h1 : l ≤ h) (h2 : h ≤ s.length) :
  Run P ⟨dst, .slice t x lo hi none, T, pos, after, g⟩ Γ w (encStr ((s.drop l).take (h - l))) := by
 have h3 := Run.sliceStr (P := P) (w := w) (T := T) (dst := dst) (pos := pos) (after := after) (g := g) (t := t) l h hx ht hlo hhi h1 h2
 have e : (⟨s.toArray⟩ : ByteArray).extract l h = ⟨((s.drop l).take (h - l)).toArray⟩ := by
  apply ByteArray.ext
  simp [ByteArray.data_extract]
 rw [e] at h3
 exact h3
theorem Run.strOfT {src dstT e : TypeId} {x : Operand} {A : Option Addr} {n c : Nat} {l : List UInt8} (hx : ev? Γ x = some (.slice A n c)) (hs : P.underlying src = some (.slice e)) (he : P.underlying e = some (.int .u8)) (hd : P.underlying dstT = some .string)
  (hr : Rd w 1 A n (U8 l)) : Run P ⟨dst, .convert src dstT x, T, pos, after, g⟩ Γ w (encStr l) := Run.strOf hx hs he hd hr
theorem Run.indexArr1 {t e : TypeId} {x i : Operand} {n : Nat} {k : IntKind} {cs : Array Value} {v : Value} (j : Nat) (hx : ev? Γ x = some (.agg cs)) (hi : ev? Γ i = some (.int k j)) (ht : P.underlying t = some (.array n e))
  (ha : ∀ w, (isAgg e).run P w = .ok false w) (hz : ∀ w, (sizeOf e).run P w = .ok 1 w) (hl : cs.size = n) (hj : cs[j]? = some v) : Run P ⟨dst, .index t x i, T, pos, after, g⟩ Γ w v := fun ρ hρ => by
 have hlt := (Array.getElem?_eq_some_iff.1 hj).1
 have h4 : j < n := jo
 simp [execOp, hρ _ _ hx, hρ _ _ hi, Instr.index, asIntOf, run_underlying ht, h4, part, ha, hz, hj]
end
section
variable {P : Program} {n : NF} {Γ : Env} {w : World} {Q : Exit → Env → World → Prop} {ops : Array Oper} {rest : List Oper} {op : Op} {T : TypeId} {pos : String} {after : Array Edge} {g : Option (Nat × Bool)} {dst : Option Tmp}
end
structure PT where
 i : Nat
 d : Nat
 dep : List Nat
 pure : Bool
 Φ : (Nat → Value) → Value → Nat → Nat → World → Prop
def fP (P : Program) (ops : Array Oper) (n : NF) (t : PT) (ρ : Nat → Value) (Γ : Env) (W : World) : Prop :=
 ∃ oi, ops[t.i]? = some oi ∧ oi.dst = some t.d ∧ Nat.blt t.d n.n = true ∧ oi.guard = none ∧
  ((∃ f args R, qI P oi Γ W f args ∧ Calls P f args W R ∧ ∀ e W', R e W' → ∃ v, e = .returned v ∧ Frm [] W W' ∧ t.Φ ρ v W.heap.size W'.heap.size W') ∨
   (∃ R, qV P oi Γ W R ∧ ∀ v W', R v W' → Frm [] W W' ∧ t.Φ ρ v W.heap.size W'.heap.size W')) ∧
  (t.pure = true → ∃ v, (∀ W', Run P oi Γ W' v) ∧ t.Φ ρ v W.heap.size W.heap.size W)
def gT (ops : Array Oper) (L : Nat) (target : Array Bool) : Nat → Array Bool → List (Nat × Nat × List Nat × Bool) → Bool
 | 0, listed, rest => rest.isEmpty && (listed.toList == target.toList)
 | k + 1, listed, rest => match rest.find? (fun t => t.2.2.2 && (Region.ready .any ops listed).contains t.1 && Region.free .any ops listed t.1 && (Region.noSelect ops && eB ops L t.1) && !(rest.any fun u => t.2.2.1.any fun x => Nat.beq x u.2.1)) with
  | some t => gT ops L target k (listed.setIfInBounds t.1 true) (rest.filter fun u => ! Nat.beq u.1 t.1)
  | none => ! rest.isEmpty && !(Region.ready .any ops listed).isEmpty && (Region.ready .any ops listed).all fun i =>
   rest.any (fun t => Nat.beq t.1 i && !(rest.any fun u => t.2.2.1.any fun x => Nat.beq x u.2.1)) && gT ops L target k (listed.setIfInBounds i true) (rest.filter fun t => ! Nat.beq t.1 i)
structure PD where
 t : PT
 v : Value
 lo : Nat
 hi : Nat
abbrev PT.key (t : PT) : Nat × Nat × List Nat × Bool := (t.i, t.d, t.dep, t.pure)
def gQ (done : List PD) (x : Nat) : Value × Nat × Nat := match done.find? (fun y => Nat.beq y.t.d x) with | some y => (y.v, y.lo, y.hi) | none => (undef, 0, 0)
abbrev kR (done : List PD) (x : Nat) : Value := (gQ done x).1
abbrev denv (done : List PD) (Γ : Env) : Env := done.map (fun x => (x.t.d, x.v)) ++ Γ
theorem hU (A Γ : Env) (x : Nat) : get? (A ++ Γ) x = match get? A x with | some v => some v | none => get? Γ x := by
 induction A with
 | nil => rfl
 | cons a r ih =>
  obtain ⟨k, v⟩ := a
  simp only [List.cons_append, get?]
  cases Nat.beq k x with
  | true => rfl
  | false => exact ih
theorem lO {done : List PD} {x : PD} (hn : (done.map fun y => y.t.d).Nodup) (hx : x ∈ done) : get? (done.map fun y => (y.t.d, y.v)) x.t.d = some x.v := by
 induction done with
 | nil => cases hx
 | cons a r ih =>
  simp only [zaf, zcl] at hn
  simp only [zaf, get?]
  rcases zs.1 hx with rfl | h
  · simp
  have hne : a.t.d ≠ x.t.d := fun e => hn.1 (by rw [e]; exact List.mem_map.2 ⟨x, h, rfl⟩)
  have : Nat.beq a.t.d x.t.d = false := by
   rw [zar]; intro hb; exact hne (zq hb)
  rw [this]
  exact ih hn.2 h
theorem kO {done : List PD} {x : PD} (hn : (done.map fun y => y.t.d).Nodup) (hx : x ∈ done) : gQ done x.t.d = (x.v, x.lo, x.hi) := by
 have hf : done.find? (fun y => Nat.beq y.t.d x.t.d) = some x := by
  induction done with
  | nil => cases hx
  | cons b r ih =>
   simp only [zaf, zcl] at hn
   rcases zs.1 hx with rfl | h
   · simp [List.find?_cons]
   have hne : b.t.d ≠ x.t.d := fun e => hn.1 (by rw [e]; exact List.mem_map.2 ⟨x, h, rfl⟩)
   have hbq : Nat.beq b.t.d x.t.d = false := by rw [zar]; intro hb; exact hne (zq hb)
   rw [List.find?_cons, hbq]
   exact ih hn.2 h
 unfold gQ
 rw [hf]
theorem pN {done : List PD} {y : PD} {x : Nat} (h : y.t.d ≠ x) : gQ (y :: done) x = gQ done x := by
 unfold gQ
 have : Nat.beq y.t.d x = false := by rw [zar]; intro hb; exact h (zq hb)
 rw [List.find?_cons, this]
theorem jJ {done : List PD} {x : Nat} (hx : ∀ y ∈ done, y.t.d ≠ x) : get? (done.map fun y => (y.t.d, y.v)) x = none := by
 induction done with
 | nil => rfl
 | cons a r ih =>
  simp only [zaf, get?]
  have : Nat.beq a.t.d x = false := by
   rw [zar]; intro hb; exact hx a jp (zq hb)
  rw [this]
  exact ih fun y hy => hx y (by simp [hy])
theorem eA {f : PT → Nat} {u t : PT} : ∀ l : List PT, (l.map f).Nodup → u ∈ l → t ∈ l → f u = f t → u = t
 | [], _, h, _, _ => by cases h
 | b :: r, hn, h1, h2, e => by
  simp only [zaf, zcl] at hn
  rcases zs.1 h1 with h3 | h3
  ·
   rcases zs.1 h2 with h4 | h4
   · rw [h3, h4]
   exact absurd (List.mem_map.2 ⟨t, h4, by rw [← e, h3]⟩) hn.1
  rcases zs.1 h2 with h4 | h4
  · exact absurd (List.mem_map.2 ⟨u, h3, by rw [e, h4]⟩) hn.1
  exact eA r hn.2 h3 h4 e
section
variable {P : Program} {n : NF} {Γ : Env} {w : World} {K : Env → World → Prop} {Pn : List PanicEntry → World → Prop} {ops : Array Oper} {S : World → Prop} {L : Nat} {target : Array Bool}
def PAll (ts : List PT) (w : World) (g : Nat → Value × Nat × Nat) (W : World) : Prop :=
 (∀ t ∈ ts, t.Φ (fun x => (g x).1) (g t.d).1 (g t.d).2.1 (g t.d).2.2 W ∧ w.heap.size ≤ (g t.d).2.1 ∧ (g t.d).2.1 ≤ (g t.d).2.2 ∧ (g t.d).2.2 ≤ W.heap.size) ∧
  ∀ t ∈ ts, ∀ u ∈ ts, t.d ≠ u.d → (g t.d).2.2 ≤ (g u.d).2.1 ∨ (g u.d).2.2 ≤ (g t.d).2.1
theorem nY (ts : List PT) (hnd : (ts.map PT.d).Nodup) (hndi : (ts.map PT.i).Nodup) (h0 : ∀ t ∈ ts, get? Γ t.d = none) (fuel : Nat)
  (hst : ∀ t ∈ ts, ∀ ρ v lo hi W W', Frm [] W W' → t.Φ ρ v lo hi W → t.Φ ρ v lo hi W')
  (hcg : ∀ t ∈ ts, ∀ ρ ρ' v lo hi W, (∀ x ∈ t.dep, ρ x = ρ' x) → t.Φ ρ v lo hi W → t.Φ ρ' v lo hi W)
  (hok : ∀ t ∈ ts, ∀ W (g : Nat → Value × Nat × Nat), Frm [] w W → (∀ u ∈ ts, u.d ∈ t.dep → u.Φ (fun x => (g x).1) (g u.d).1 (g u.d).2.1 (g u.d).2.2 W) → (∀ x ∈ t.dep, ∃ u ∈ ts, u.d = x) → fP P ops n t (fun x => (g x).1) (t.dep.map (fun x => (x, (g x).1)) ++ Γ) W)
  (hdep : ∀ t ∈ ts, ∀ x ∈ t.dep, ∃ u ∈ ts, u.d = x)
  (hS : ∀ W, Frm [] w W → S W)
  (k : ∀ g W, Frm [] w W → PAll ts w g W → qJ P n ops S Pn L fuel target (ts.map (fun t => (t.d, (g t.d).1)) ++ Γ) W K) :
  ∀ (m : Nat) (done : List PD) (rest : List PT) (listed : Array Bool) (W : World) (a : Act), gT ops L target m listed (rest.map PT.key) = true → m = rest.length → (∀ t, t ∈ ts ↔ t ∈ done.map PD.t ∨ t ∈ rest) → (done.map fun x => x.t.d).Nodup → (rest.map PT.i).Nodup → (∀ t ∈ rest, ∀ x ∈ done, x.t.d ≠ t.d) →
   (∀ x ∈ done, ∀ z ∈ x.t.dep, ∃ y ∈ done, y.t.d = z) → (∀ x ∈ done, x.t.Φ (kR done) x.v x.lo x.hi W ∧ w.heap.size ≤ x.lo ∧ x.lo ≤ x.hi ∧ x.hi ≤ W.heap.size) → done.Pairwise (fun x y => y.hi ≤ x.lo) → Frm [] w W → Sat n (denv done Γ) a →
   bR P ops (eQ n K Pn) S L (fuel + m) listed a W
 | 0, done, rest, listed, W, a, hb, hm, hts, hdn, _, _, _, hph, hpw, hfr, hs => by
  have hr : rest = [] := zai hm.symm
  subst hr
  simp only [gT, List.map_nil, List.isEmpty_nil, Bool.true_and, beq_iff_eq] at hb
  have hl : listed = target := Array.toList_inj.1 hb
  subst hl
  let g : Nat → Value × Nat × Nat := gQ done
  have hg : ∀ x ∈ done, g x.t.d = (x.v, x.lo, x.hi) := fun x hx => kO hdn hx
  have hin : ∀ t ∈ ts, ∃ x ∈ done, x.t = t := by
   intro t ht
   rcases (hts t).1 ht with h | h
   · obtain ⟨x, hx, rfl⟩ := List.mem_map.1 h; exact ⟨x, hx, rfl⟩
   simp at h
  refine k g W hfr ⟨?_, ?_⟩ a ?_
  ·
   intro t ht
   obtain ⟨x, hx, rfl⟩ := hin t ht
   rw [hg x hx]
   exact hph x hx
  ·
   intro t ht u hu hne
   obtain ⟨x, hx, rfl⟩ := hin t ht
   obtain ⟨y, hy, rfl⟩ := hin u hu
   rw [hg x hx, hg y hy]
   have key : ∀ l : List PD, l.Pairwise (fun x y => y.hi ≤ x.lo) → x ∈ l → y ∈ l → x.hi ≤ y.lo ∨ y.hi ≤ x.lo := by
    intro l
    induction l with
    | nil => intro _ h; cases h
    | cons b r ih =>
     intro hp hxb hyb
     obtain ⟨hp1, hp2⟩ := List.pairwise_cons.1 hp
     rcases zs.1 hxb with rfl | hxr
     ·
      rcases zs.1 hyb with rfl | hyr
      · exact absurd rfl hne
      exact .inr (hp1 y hyr)
     rcases zs.1 hyb with rfl | hyr
     · exact .inl (hp1 x hxr)
     exact ih hp2 hxr hyr
   exact key done hpw hx hy
  refine ⟨hs.size, hs.defers, fun x v hv => hs.at_ x v ?_⟩
  rw [hU] at hv ⊢
  by_cases hx : ∃ y ∈ done, y.t.d = x
  ·
   obtain ⟨y, hy, rfl⟩ := hx
   have hyt : y.t ∈ ts := (hts y.t).2 (.inl (List.mem_map.2 ⟨y, hy, rfl⟩))
   have h1 : get? (ts.map fun t => (t.d, (g t.d).1)) y.t.d = some (g y.t.d).1 := by
    clear hv hs k hok hst hcg hts hin h0 hdep hndi
    induction ts with
    | nil => cases hyt
    | cons b r ih =>
     simp only [zaf, get?]
     cases hq : Nat.beq b.d y.t.d with
     | true => rw [zq hq]; rfl
     | false =>
      rcases zs.1 hyt with h | h
      · rw [← h] at hq; simp at hq
      simp only [zaf, zcl] at hnd
      exact ih hnd.2 h
   rw [h1] at hv
   rw [lO hdn hy]
   rw [hg y hy] at hv
   exact hv
  have hno : ∀ y ∈ done, y.t.d ≠ x := fun y hy e => hx ⟨y, hy, e⟩
  rw [jJ hno]
  have h1 : get? (ts.map fun t => (t.d, (g t.d).1)) x = none := by
   have hno2 : ∀ t ∈ ts, t.d ≠ x := fun t ht e => by
    obtain ⟨y, hy, rfl⟩ := hin t ht
    exact hno y hy e
   clear hv hs k hok hst hcg hts hin hx hno h0 hdep hndi hnd
   induction ts with
   | nil => rfl
   | cons b r ih =>
    simp only [zaf, get?]
    have hq : Nat.beq b.d x = false := by rw [zar]; intro hb; exact hno2 b jp (zq hb)
    rw [hq]
    exact ih fun t ht => hno2 t (by simp [ht])
  rw [h1] at hv
  exact hv
 | m + 1, done, rest, listed, W, a, hb, hm, hts, hdn, hri, hdr, hdc, hph, hpw, hfr, hs => by
  have one : ∀ t ∈ rest, (!((rest.map PT.key).any fun u => t.dep.any fun x => Nat.beq x u.2.1)) = true → gT ops L target m (listed.setIfInBounds t.i true) ((rest.map PT.key).filter fun u => ! Nat.beq u.1 t.i) = true →
    ∃ ρ Γ', fP P ops n t ρ Γ' W ∧ Sat n Γ' a ∧ ∀ v W', Frm [] W W' → t.Φ ρ v W.heap.size W'.heap.size W' → S W' ∧ bR P ops (eQ n K Pn) S L (fuel + m) (listed.setIfInBounds t.i true) (a.put (some t.d) v) W' := by
   intro t ht hq2 hnext
   have htts : t ∈ ts := (hts t).2 (.inr ht)
   have hdd : ∀ x ∈ t.dep, ∃ y ∈ done, y.t.d = x := by
    intro x hx
    obtain ⟨u, hu, rfl⟩ := hdep t htts x hx
    rcases (hts u).1 hu with h | h
    · obtain ⟨y, hy, rfl⟩ := List.mem_map.1 h; exact ⟨y, hy, rfl⟩
    exfalso
    simp only [Bool.not_eq_true', zar, ne_eq, List.any_eq_true, not_exists, not_and] at hq2
    exact hq2 u.key (List.mem_map.2 ⟨u, h, rfl⟩) u.d hx (Nat.beq_refl u.d)
   let g : Nat → Value × Nat × Nat := gQ done
   have hg : ∀ x ∈ done, g x.t.d = (x.v, x.lo, x.hi) := fun x hx => kO hdn hx
   have hstep := hok t htts W g hfr (fun u hu hud => by
    obtain ⟨y, hy, hyd⟩ := hdd u.d hud
    have huy : u = y.t := by
     have hyt : y.t ∈ ts := (hts y.t).2 (.inl (List.mem_map.2 ⟨y, hy, rfl⟩))
     exact eA ts hnd hu hyt hyd.symm
    rw [huy, hg y hy]
    exact (hph y hy).1) (hdep t htts)
   have hsub : Sat n (t.dep.map (fun x => (x, (g x).1)) ++ Γ) a := by
    refine ⟨hs.size, hs.defers, fun x v hv => hs.at_ x v ?_⟩
    rw [hU] at hv ⊢
    by_cases hx : ∃ y ∈ done, y.t.d = x
    ·
     obtain ⟨y, hy, rfl⟩ := hx
     rw [lO hdn hy]
     have hyt : y.t ∈ ts := (hts y.t).2 (.inl (List.mem_map.2 ⟨y, hy, rfl⟩))
     have key : ∀ l : List Nat, get? (l.map fun x => (x, (g x).1)) y.t.d = some y.v ∨ get? (l.map fun x => (x, (g x).1)) y.t.d = none := by
      intro l
      induction l with
      | nil => exact .inr rfl
      | cons b r ih =>
       simp only [zaf, get?]
       cases hq : Nat.beq b y.t.d with
       | true => rw [zq hq, hg y hy]; exact .inl rfl
       | false => exact ih
     rcases key t.dep with h1 | h1
     · rw [h1] at hv; exact hv
     rw [h1] at hv
     exact absurd hv (by rw [h0 _ hyt]; simp)
    have hno : ∀ y ∈ done, y.t.d ≠ x := fun y hy e => hx ⟨y, hy, e⟩
    rw [jJ hno]
    have h1 : get? (t.dep.map fun x => (x, (g x).1)) x = none := by
     have key : ∀ l : List Nat, (∀ z ∈ l, z ≠ x) → get? (l.map fun x => (x, (g x).1)) x = none := by
      intro l hl
      induction l with
      | nil => rfl
      | cons b r ih =>
       simp only [zaf, get?]
       have hq : Nat.beq b x = false := by rw [zar]; intro hb; exact hl b jp (zq hb)
       rw [hq]
       exact ih fun z hz => hl z (by simp [hz])
     exact key t.dep fun z hz e => by
      obtain ⟨y, hy, hyd⟩ := hdd z hz
      exact hno y hy (hyd.trans e)
    rw [h1] at hv
    exact hv
   have hmr : m = (rest.filter fun u => ! Nat.beq u.i t.i).length := by
    have key : ∀ l : List PT, (l.map PT.i).Nodup → t ∈ l → l.length = (l.filter fun u => ! Nat.beq u.i t.i).length + 1 := by
     intro l
     induction l with
     | nil => intro _ h; cases h
     | cons b r ih =>
      intro hn h1
      simp only [zaf, zcl] at hn
      rcases zs.1 h1 with rfl | h1
      ·
       have e : (r.filter fun u => ! Nat.beq u.i t.i) = r := by
        refine List.filter_eq_self.2 fun u hu => ?_
        have : Nat.beq u.i t.i = false := by
         rw [zar]; intro hb
         exact hn.1 (List.mem_map.2 ⟨u, hu, zq hb⟩)
        rw [this]; rfl
       rw [List.filter_cons]
       simp only [Nat.beq_refl, Bool.not_true, zde, if_false, e, zbt]
      have hb : Nat.beq b.i t.i = false := by
       rw [zar]; intro hb
       exact hn.1 (List.mem_map.2 ⟨t, h1, (zq hb).symm⟩)
      rw [List.filter_cons, hb]
      simp only [Bool.not_false, if_true, zbt, ih hn.2 h1]
    have := key rest hri ht
    omega
   have hfm : (rest.map PT.key).filter (fun u => ! Nat.beq u.1 t.i) = (rest.filter fun u => ! Nat.beq u.i t.i).map PT.key := by
    rw [List.filter_map]; rfl
   have again : ∀ v W', Frm [] W W' → t.Φ (kR done) v W.heap.size W'.heap.size W' → S W' ∧ bR P ops (eQ n K Pn) S L (fuel + m) (listed.setIfInBounds t.i true) (a.put (some t.d) v) W' := by
    intro v W' hf hΦ
    have hfr' := hfr.trans hf jp
    refine ⟨hS W' hfr', ?_⟩
    have hnot : t.d ∉ done.map fun x => x.t.d := fun h => by
     obtain ⟨y, hy, hyd⟩ := List.mem_map.1 h
     exact hdr t ht y hy hyd
    obtain ⟨_, _, _, hdn', _, _, _⟩ := hstep
    refine nY ts hnd hndi h0 fuel hst hcg hok hdep hS k m (⟨t, v, W.heap.size, W'.heap.size⟩ :: done) (rest.filter fun u => ! Nat.beq u.i t.i) _ W' _ (by rw [← hfm]; exact hnext) hmr ?_ ?_ ?_ ?_ ?_ ?_ ?_ hfr' (hs.put hdn' v)
    ·
     intro u
     rw [hts u]
     simp only [zaf, zs, List.mem_filter]
     constructor
     ·
      rintro (h | h)
      · exact .inl (.inr h)
      by_cases hut : u.i = t.i
      ·
       left; left
       exact eA rest hri h ht hut
      right
      refine ⟨h, ?_⟩
      have : Nat.beq u.i t.i = false := by rw [zar]; intro hb; exact hut (zq hb)
      rw [this]; rfl
     rintro ((rfl | h) | h)
     · exact .inr ht
     · exact .inl h
     exact .inr h.1
    ·
     simp only [zaf, zcl]
     exact ⟨hnot, hdn⟩
    · exact hri.sublist (List.Sublist.map _ List.filter_sublist)
    ·
     intro u hu x hx
     obtain ⟨hu1, hu2⟩ := List.mem_filter.1 hu
     rcases zs.1 hx with rfl | hx
     ·
      intro e
      have hut : u ∈ ts := (hts u).2 (.inr hu1)
      have := eA ts hnd hut htts e.symm
      subst this
      simp at hu2
     exact hdr u hu1 x hx
    ·
     intro x hx z hz
     rcases zs.1 hx with rfl | hx
     ·
      obtain ⟨y, hy, hyz⟩ := hdd z hz
      exact ⟨y, List.mem_cons_of_mem _ hy, hyz⟩
     obtain ⟨y, hy, hyz⟩ := hdc x hx z hz
     exact ⟨y, List.mem_cons_of_mem _ hy, hyz⟩
    ·
     have hsame : ∀ z, (∃ y ∈ done, y.t.d = z) → kR done z = kR (⟨t, v, W.heap.size, W'.heap.size⟩ :: done) z := fun z ⟨y, hy, hyz⟩ => by
      unfold kR
      rw [pN]
      intro e
      exact hnot (List.mem_map.2 ⟨y, hy, hyz.trans e.symm⟩)
     intro x hx
     rcases zs.1 hx with rfl | hx
     · exact ⟨hcg t htts _ _ _ _ _ _ (fun z hz => hsame z (hdd z hz)) hΦ, hfr.size, hf.size, zaj _⟩
     obtain ⟨h1, h2, h3, h4⟩ := hph x hx
     have hxt : x.t ∈ ts := (hts x.t).2 (.inl (List.mem_map.2 ⟨x, hx, rfl⟩))
     exact ⟨hcg x.t hxt _ _ _ _ _ _ (fun z hz => hsame z (hdc x hx z hz)) (hst x.t hxt _ _ _ _ _ _ hf h1), h2, h3, zak h4 hf.size⟩
    refine List.pairwise_cons.2 ⟨fun y hy => ?_, hpw⟩
    exact (hph y hy).2.2.2
   exact ⟨kR done, _, hstep, hsub, again⟩
  have all : ∀ (oi : Oper) (t : PT), True := fun _ _ => trivial
  clear all
  unfold gT at hb
  split at hb
  ·
   rename_i t0 hfind
   have hmem := List.mem_of_find?_eq_some hfind
   have hp := List.find?_some hfind
   simp only [zbj] at hp
   obtain ⟨⟨⟨⟨hpu, hrd⟩, hfree⟩, hsel⟩, hdp⟩ := hp
   obtain ⟨t, ht, rfl⟩ := List.mem_map.1 hmem
   obtain ⟨ρ, Γ', ⟨oi, hoi, hdst, hdn', hgd, _, hpure⟩, hsub, again⟩ := one t ht hdp hb
   obtain ⟨v, hrun, hΦ⟩ := hpure hpu
   obtain ⟨_, hk⟩ := again v W (Frm.refl _ _) hΦ
   refine gR (f := fuel + m) hoi (by simpa using hsel) hfree hrd kL (.inl ⟨by unfold Region.wanted; rw [hgd], fun w' _ => hrun w' _ hsub.fits⟩) (hS W hfr) ?_
   rw [hdst]
   exact hk
  simp only [zbj, Bool.not_eq_true', List.all_eq_true, List.any_eq_true] at hb
  obtain ⟨⟨_, hne⟩, hall⟩ := hb
  refine hZ (rs := Region.ready .any ops listed) rfl (by intro e; rw [e] at hne; simp at hne) ?_
  intro i hi
  obtain ⟨⟨t0, ht0, hq⟩, hnext⟩ := hall i hi
  obtain ⟨t, ht, rfl⟩ := List.mem_map.1 ht0
  obtain ⟨hq1, hq2⟩ := hq
  have hti : t.i = i := zq hq1
  subst hti
  obtain ⟨ρ, Γ', ⟨oi, hoi, hdst, hdn', hgd, hstep, _⟩, hsub, again⟩ := one t ht (by rw [Bool.not_eq_true']; exact hq2) hnext
  unfold wpOp
  simp only [hoi]
  rw [if_pos (by unfold Region.wanted; rw [hgd])]
  left
  unfold Oper.wp
  rcases hstep with ⟨f, args, R, he, hc, hR⟩ | ⟨R, hD, hR⟩
  ·
   rw [he _ hsub.fits, Oper.upon_enter, hdst]
   refine hc.mono ?_
   intro e W' hR'
   obtain ⟨v, rfl, hf, hΦ⟩ := hR e W' hR'
   exact again v W' hf hΦ
  obtain ⟨v, W', hrun, hR'⟩ := hD _ hsub.fits
  rw [hrun, Oper.upon_value, hdst]
  obtain ⟨hf, hΦ⟩ := hR v W' hR'
  exact again v W' hf hΦ
theorem qJ.par (ts : List PT) (m : Nat) {fuel : Nat} {listed : Array Bool} (hm : ts.length = m) (hb : gT ops L target m listed (ts.map PT.key) = true) (hnd : (ts.map PT.d).Nodup) (hndi : (ts.map PT.i).Nodup) (h0 : ∀ t ∈ ts, get? Γ t.d = none)
  (hdep : ∀ t ∈ ts, ∀ x ∈ t.dep, ∃ u ∈ ts, u.d = x)
  (hS : ∀ W, Frm [] w W → S W)
  (hst : ∀ t ∈ ts, ∀ ρ v lo hi W W', Frm [] W W' → t.Φ ρ v lo hi W → t.Φ ρ v lo hi W')
  (hcg : ∀ t ∈ ts, ∀ ρ ρ' v lo hi W, (∀ x ∈ t.dep, ρ x = ρ' x) → t.Φ ρ v lo hi W → t.Φ ρ' v lo hi W)
  (hok : ∀ t ∈ ts, ∀ W (g : Nat → Value × Nat × Nat), Frm [] w W → (∀ u ∈ ts, u.d ∈ t.dep → u.Φ (fun x => (g x).1) (g u.d).1 (g u.d).2.1 (g u.d).2.2 W) → (∀ x ∈ t.dep, ∃ u ∈ ts, u.d = x) → fP P ops n t (fun x => (g x).1) (t.dep.map (fun x => (x, (g x).1)) ++ Γ) W)
  (k : ∀ g W, Frm [] w W → PAll ts w g W → qJ P n ops S Pn L fuel target (ts.map (fun t => (t.d, (g t.d).1)) ++ Γ) W K) : qJ P n ops S Pn L (fuel + m) listed Γ w K := by
 intro a hs
 exact nY ts hnd hndi h0 fuel hst hcg hok hdep hS k m [] ts listed w a hb hm.symm jp jp hndi jp jp jp List.Pairwise.nil (Frm.refl _ _) hs
theorem fP.m {t : PT} {ρ : Nat → Value} {W : World} {R : Value → World → Prop} {oi : Oper} (hp : t.pure = false) (hi : ops[t.i]? = some oi) (hd : oi.dst = some t.d) (hn : Nat.blt t.d n.n = true) (hg : oi.guard = none) (hD : qV P oi Γ W R)
  (h : ∀ v W', R v W' → Frm [] W W' ∧ t.Φ ρ v W.heap.size W'.heap.size W') : fP P ops n t ρ Γ W := ⟨oi, hi, hd, hn, hg, .inr ⟨R, hD, h⟩, fun h' => by rw [hp] at h'; cases h'⟩
abbrev PT.made (i d : Nat) (T : TypeId) (cs : Array Value) : PT := ⟨i, d, [], false, fun _ v lo hi W => (v = jI0 lo ∧ lo < hi) ∧ Blk W lo T cs⟩
theorem PT.made_st {i d : Nat} {T : TypeId} {cs : Array Value} : ∀ ρ v lo hi W W', Frm [] W W' → (PT.made i d T cs).Φ ρ v lo hi W → (PT.made i d T cs).Φ ρ v lo hi W' :=
 fun _ _ _ _ _ _ hf h => ⟨h.1, h.2.frm hf jp⟩
theorem PT.made_ok {i d : Nat} {T e : TypeId} {z : Value} {ρ : Nat → Value} {W : World} {pos : String} {after : Array Edge} (hi : ops[i]? = some ⟨some d, .alloc T, e, pos, after, none⟩) (hn : Nat.blt d n.n = true) (hz : ∀ w, (zeroValue T).run P w = .ok z w) : fP P ops n (PT.made i d T z.cells) ρ Γ W :=
 fP.m rfl hi rfl hn rfl (qV.alloc hz) fun _ _ h => ⟨h.2.frm, ⟨h.1, by rw [h.2.size]; omega⟩, h.2.blk⟩
end
end
section
open Go.RowKit
open Go.Maps (Keyed)
def MpF (P : Program) (k : TypeId) {κ : Type} (enc : κ → Value) (w : World) (g : Nat) (M : κ → Option Value) : Prop :=
 ∃ (es : List MapEntry) (clock : Nat), w.heap[g]? = some (.map es.toArray clock) ∧ (∀ e ∈ es, (∃ l, keyOf P k e.key = some l) ∧ e.born < clock) ∧ es.Pairwise (fun a b => a.born ≠ b.born ∧ a.key ≠ b.key) ∧ ∀ x v, M x = some v ↔ ∃ e ∈ es, e.key = enc x ∧ e.val = v
section
variable {P : Program} {k : TypeId} {κ : Type} {enc : κ → Value} {w w' : World} {g : Nat} {M : κ → Option Value} {S : List Nat}
theorem MpF.lt (h : MpF P k enc w g M) : g < w.heap.size := by
 obtain ⟨es, clock, h1, _⟩ := h
 exact (Array.getElem?_eq_some_iff.1 h1).1
theorem MpF.new : MpF P k enc (w.alloc (.map #[] 0)) w.heap.size (fun _ : κ => none) := by
 refine ⟨[], 0, (MapKept.heap_alloc w _).1, jp, List.Pairwise.nil, fun x v => ?_⟩
 simp
theorem gX (w : World) (g : Nat) (o : Obj) : Frm [g] w (ChangeMaps.setBlock w g o) :=
 ⟨rfl, rfl, rfl, by simp [ChangeMaps.setBlock], fun i _ hi => by
  unfold ChangeMaps.setBlock
  simp only [zah]
  rw [if_neg (fun e => hi (by rw [e]; simp))]⟩
end
section
variable {P : Program} {k : TypeId} {κ : Type} {enc : κ → Value} {w : World} {g : Nat} {M : κ → Option Value} {Γ : Env} {dst : Option Tmp} {T : TypeId} {pos : String} {after : Array Edge} {gd : Option (Nat × Bool)}
theorem qV.makeMap {t : TypeId} : qV P ⟨dst, .makeMap t none, T, pos, after, gd⟩ Γ w (fun r w' => r = .map (some w.heap.size) ∧ MpF P k enc w' w.heap.size (fun _ : κ => none) ∧ Frm [] w w' ∧ w'.heap.size = w.heap.size + 1) := fun ρ _ =>
 ⟨_, w.alloc (.map #[] 0), by simp [execOp, run_makeMap], rfl, MpF.new, (Frm.refl [] w).alloc _, jp⟩
end
end
section
open Go.RowKit
open Go.Maps (Keyed)
section
variable {P : Program} {k : TypeId} {κ : Type} {enc : κ → Value} {w w' : World} {g : Nat} {M : κ → Option Value} {S : List Nat}
theorem nG [DecidableEq κ] {t e : TypeId} {x : κ} {kl : Lit} {v : Value} (h : MpF P k enc w g M) (K : Keyed P k) (henc : ∀ a b, enc a = enc b → a = b) (ht : P.underlying t = some (.map k e)) (hkey : keyOf P k (enc x) = some kl) :
  ∃ w' : World, (Instr.mapUpdate t (.map (some g)) (enc x) v).run P w = .ok () w' ∧ MpF P k enc w' g (fun y => if y = x then some v else M y) ∧ Frm [g] w w' ∧ w'.heap.size = w.heap.size := by
 have hlt := h.lt
 obtain ⟨es, clock, hb, h2, h3, h4⟩ := h
 rcases K.find w hkey es (fun e he => (h2 e he).1) with ⟨h5, h6⟩ | ⟨j, e0, h5, h6, h7⟩
 ·
  refine ⟨ChangeMaps.setBlock w g (.map (es ++ [(⟨enc x, v, clock⟩ : MapEntry)]).toArray (clock + 1)), ?_, ⟨es ++ [(⟨enc x, v, clock⟩ : MapEntry)], clock + 1, ?_, ?_, ?_, ?_⟩, gX w g _, by simp [ChangeMaps.setBlock]⟩
  · simp [Instr.mapUpdate, run_underlying ht, MapKept.run_getObj_map hb, K.check w _ hkey, h5, MapKept.run_setObj_map _ hb, Result.andThen, ChangeMaps.setBlock]
  · simp [ChangeMaps.setBlock, hlt]
  ·
   intro e1 he1
   rcases List.mem_append.1 he1 with he1 | he1
   · exact ⟨(h2 e1 he1).1, by have := (h2 e1 he1).2; omega⟩
   rw [zf] at he1
   subst he1
   exact ⟨⟨kl, hkey⟩, Nat.lt_succ_self _⟩
  ·
   refine List.pairwise_append.2 ⟨h3, jp, fun a ha b hb2 => ?_⟩
   rw [zf] at hb2
   subst hb2
   exact ⟨by have := (h2 a ha).2; dsimp only; omega, h6 a ha⟩
  intro y u
  dsimp only
  by_cases hy : y = x
  ·
   subst hy
   rw [if_pos rfl]
   constructor
   ·
    intro hv
    simp only [Option.some.injEq] at hv
    exact ⟨⟨enc y, v, clock⟩, jp, rfl, hv⟩
   rintro ⟨e1, he1, he2, he3⟩
   rcases List.mem_append.1 he1 with he1 | he1
   · exact absurd he2 (h6 e1 he1)
   rw [zf] at he1
   subst he1
   simpa using he3
  rw [if_neg hy]
  constructor
  ·
   intro hv
   obtain ⟨e1, he1, he2⟩ := (h4 y u).1 hv
   exact ⟨e1, by simp [he1], he2⟩
  rintro ⟨e1, he1, he2, he3⟩
  rcases List.mem_append.1 he1 with he1 | he1
  · exact (h4 y u).2 ⟨e1, he1, he2, he3⟩
  rw [zf] at he1
  subst he1
  exact absurd (henc _ _ he2).symm hy
 have hkey0 : ({ e0 with key := enc x, val := v } : MapEntry) = { e0 with val := v } := by rw [← h7]
 have hmod : es.modify j (fun e => { e with key := enc x, val := v }) = es.set j { e0 with val := v } := by
  rw [ChangeMaps.modify_eq_set _ _ _ _ h6, hkey0]
 have hjl := (List.getElem?_eq_some_iff.1 h6).1
 have ej : es[j] = e0 := by rw [zc hjl] at h6; exact Option.some.inj h6
 have he0 : e0 ∈ es := zbq h6
 have who : ∀ e1 ∈ es.set j { e0 with val := v }, e1 = { e0 with val := v } ∨ (e1 ∈ es ∧ e1.key ≠ e0.key ∧ e1.born ≠ e0.born) := by
  intro e1 he1
  obtain ⟨i, hi, ex⟩ := List.getElem_of_mem he1
  rw [List.getElem_set] at ex
  split at ex
  · exact .inl ex.symm
  rename_i hne
  have hi' : i < es.length := by simpa using hi
  refine .inr ⟨ex ▸ zap hi', ?_⟩
  rcases Nat.lt_or_gt_of_ne hne with h5 | h5
  ·
   have := List.pairwise_iff_getElem.1 h3 j i hjl hi' h5
   rw [ej, ex] at this
   exact ⟨this.2.symm, this.1.symm⟩
  have := List.pairwise_iff_getElem.1 h3 i j hi' hjl h5
  rw [ej, ex] at this
  exact ⟨this.2, this.1⟩
 have back : ∀ e1 ∈ es, e1.key ≠ e0.key → e1 ∈ es.set j { e0 with val := v } := by
  intro e1 he1 hne
  obtain ⟨i, hi, ex⟩ := List.getElem_of_mem he1
  have hij : j ≠ i := by
   rintro rfl
   rw [zc hi, ex] at h6
   exact hne (by rw [Option.some.inj h6])
  have : (es.set j { e0 with val := v })[i]? = some e1 := by rw [List.getElem?_set_ne hij, zc hi, ex]
  exact zbq this
 have hmem : ({ e0 with val := v } : MapEntry) ∈ es.set j { e0 with val := v } := by
  have : (es.set j { e0 with val := v })[j]? = some { e0 with val := v } := by rw [List.getElem?_set_self hjl]
  exact zbq this
 have hstay := K.stays w hkey
 refine ⟨ChangeMaps.setBlock w g (.map (es.set j { e0 with val := v }).toArray clock), ?_, ⟨es.set j { e0 with val := v }, clock, by simp [ChangeMaps.setBlock, hlt], ?_, ?_, ?_⟩, gX w g _, by simp [ChangeMaps.setBlock]⟩
 · simp [Instr.mapUpdate, run_underlying ht, MapKept.run_getObj_map hb, K.check w _ hkey, h5, h6, h7, hstay, MapKept.run_setObj_map _ hb, Result.andThen, ChangeMaps.setBlock, hmod]
 ·
  intro e1 he1
  rcases who e1 he1 with rfl | ⟨h5, _⟩
  · exact h2 e0 he0
  exact h2 e1 h5
 ·
  rw [List.pairwise_iff_getElem]
  intro a b ha hb2 hab
  have ha' : a < es.length := by simpa using ha
  have hb' : b < es.length := by simpa using hb2
  have h5 := List.pairwise_iff_getElem.1 h3 a b ha' hb' hab
  rw [List.getElem_set, List.getElem_set]
  by_cases h6 : j = a
  ·
   subst h6
   rw [if_pos rfl, if_neg jo]
   rw [ej] at h5
   exact h5
  rw [if_neg h6]
  by_cases h7 : j = b
  ·
   subst h7
   rw [if_pos rfl]
   rw [ej] at h5
   exact h5
  rw [if_neg h7]
  exact h5
 intro y u
 dsimp only
 by_cases hy : y = x
 ·
  subst hy
  rw [if_pos rfl]
  constructor
  ·
   intro hu
   exact ⟨_, hmem, h7, by simpa using hu⟩
  rintro ⟨e1, he1, he2, he3⟩
  rcases who e1 he1 with rfl | ⟨_, h6, _⟩
  · simpa using he3
  exact absurd (he2.trans h7.symm) h6
 rw [if_neg hy]
 constructor
 ·
  intro hu
  obtain ⟨e1, he1, he2, he3⟩ := (h4 y u).1 hu
  exact ⟨e1, back e1 he1 (fun e => hy (henc _ _ (by rw [← he2, ← h7, e]))), he2, he3⟩
 rintro ⟨e1, he1, he2, he3⟩
 rcases who e1 he1 with rfl | ⟨h5, _, _⟩
 · exact absurd (henc _ _ (h7.symm.trans he2)).symm hy
 exact (h4 y u).2 ⟨e1, h5, he2, he3⟩
end
section
variable {P : Program} {k : TypeId} {κ : Type} {enc : κ → Value} {w : World} {g : Nat} {M : κ → Option Value} {Γ : Env} {dst : Option Tmp} {T : TypeId} {pos : String} {after : Array Edge} {gd : Option (Nat × Bool)}
theorem qQ.mapUpd [DecidableEq κ] {t e : TypeId} {a b c : Operand} {x : κ} {kl : Lit} {v : Value} (ha : ev? Γ a = some (.map (some g))) (hb : ev? Γ b = some (enc x)) (hc : ev? Γ c = some v) (h : MpF P k enc w g M) (K : Keyed P k) (henc : ∀ a b, enc a = enc b → a = b) (ht : P.underlying t = some (.map k e)) (hkey : keyOf P k (enc x) = some kl) :
  qQ P ⟨dst, .mapUpdate t a b c, T, pos, after, gd⟩ Γ w (fun w' => MpF P k enc w' g (fun y => if y = x then some v else M y) ∧ Frm [g] w w' ∧ w'.heap.size = w.heap.size) := fun ρ hρ => by
 obtain ⟨w', h1, h2⟩ := nG (t := t) (v := v) h K henc ht hkey
 exact ⟨w', by simp [execOp, hρ _ _ ha, hρ _ _ hb, hρ _ _ hc, h1], h2⟩
end
end
section
open Go.RowKit
open Go.Maps (Keyed)
section
variable {P : Program} {k : TypeId} {κ : Type} {enc : κ → Value} {w : World} {g : Nat} {M : κ → Option Value} {Γ : Env} {dst : Option Tmp} {T : TypeId} {pos : String} {after : Array Edge} {gd : Option (Nat × Bool)}
theorem qQ.mapIns [DecidableEq κ] {t e : TypeId} {a b c : Operand} {x : κ} {kl : Lit} {v : Value} (ha : ev? Γ a = some (.map (some g))) (hb : ev? Γ b = some (enc x)) (hc : ev? Γ c = some v) (h : MpF P k enc w g M) (K : Keyed P k) (henc : ∀ a b, enc a = enc b → a = b) (ht : P.underlying t = some (.map k e)) (hkey : keyOf P k (enc x) = some kl) :
  qQ P ⟨dst, .insert t a b c, T, pos, after, gd⟩ Γ w (fun w' => MpF P k enc w' g (fun y => if y = x then some v else M y) ∧ Frm [g] w w' ∧ w'.heap.size = w.heap.size) := fun ρ hρ => by
 obtain ⟨w', h1, h2⟩ := nG (t := t) (v := v) h K henc ht hkey
 exact ⟨w', by simp [execOp, hρ _ _ ha, hρ _ _ hb, hρ _ _ hc, h1], h2⟩
end
theorem MpF.upd_congr {P : Program} {k : TypeId} {κ : Type} {enc : κ → Value} {w : World} {g : Nat} {M M' : κ → Option Value} (h : MpF P k enc w g M) (e : ∀ y, M y = M' y) : MpF P k enc w g M' := by
 have : M = M' := funext e
 rwa [← this]
end
section
open Go.RowKit
def jP (ds : List Nat) : List Deferred := ds.map fun d => { target := .collected d, args := #[] }
abbrev DQ := Exit → List Nat → Env → World → Prop
def nL (m : Nat) (Q : DQ) (e : Exit) (a : Act) (w : World) : Prop := ∃ ds Γ, Sat ⟨m, jP ds, none⟩ Γ a ∧ Q e ds Γ w
def DV (P : Program) (m : Nat) (c : Code) (ds : List Nat) (Γ : Env) (w : World) (Q : DQ) : Prop := ∀ a, Sat ⟨m, jP ds, none⟩ Γ a → ∀ k, c.wpIn (wd none) k P (nL m Q) a w
def nO (K : List Nat → Env → World → Prop) (Q : DQ) : DQ
 | .normal, ds, Γ, w => K ds Γ w
 | e, ds, Γ, w => Q e ds Γ w
def jE (id : Nat) (Q : DQ) : DQ
 | .exit i, ds, Γ, w => if i = id then Q .normal ds Γ w else Q (.exit i) ds Γ w
 | e, ds, Γ, w => Q e ds Γ w
section
variable {P : Program} {m : Nat} {ds : List Nat} {Γ : Env} {w : World} {Q : DQ} {K : List Nat → Env → World → Prop} {i id : Nat}
theorem fK (h : K ds Γ w) : nO K Q .normal ds Γ w := h
theorem tH (h : Q .ret ds Γ w) : nO K Q .ret ds Γ w := h
theorem rO (h : Q .normal ds Γ w) : jE id Q .normal ds Γ w := h
theorem sQ (h : Q .ret ds Γ w) : jE id Q .ret ds Γ w := h
theorem DV.vc {c : Code} (h : VC P ⟨m, jP ds, none⟩ c Γ w (fun e Γ' w' => Q e ds Γ' w')) : DV P m c ds Γ w Q := fun a hs k =>
 wpIn_mono (h a hs k) fun _ _ _ ⟨Γ', hs', q⟩ => ⟨ds, Γ', hs', q⟩
theorem DV.sub {c : Code} (Γ' : Env) (hs : Sub Γ Γ') (h : DV P m c ds Γ' w Q) : DV P m c ds Γ w Q := fun a ha => h a (ha.sub hs)
theorem DV.seq {x y : Code} (h : DV P m x ds Γ w (nO (fun ds' Γ' w' => DV P m y ds' Γ' w' Q) Q)) : DV P m (.seq x y) ds Γ w Q := by
 intro a hs k
 refine wpIn_seq (wpIn_mono (h a hs k) ?_)
 intro e a' w' hq
 obtain ⟨ds', Γ', hs', q⟩ := hq
 cases e with
 | normal => exact q a' hs' k
 | exit id => exact ⟨ds', Γ', hs', q⟩
 | goto l => exact ⟨ds', Γ', hs', q⟩
 | ret => exact ⟨ds', Γ', hs', q⟩
 | panic c => exact ⟨ds', Γ', hs', q⟩
 | outgrown => exact ⟨ds', Γ', hs', q⟩
theorem DV.block {c : Code} (h : DV P m c ds Γ w (jE id Q)) : DV P m (.block id c) ds Γ w Q := by
 intro a hs k
 refine wpIn_block (wpIn_mono (h a hs k) ?_)
 intro e a' w' hq
 obtain ⟨ds', Γ', hs', q⟩ := hq
 cases e with
 | normal => exact ⟨ds', Γ', hs', q⟩
 | exit i =>
  simp only [jE] at q
  by_cases hi : i = id
  · rw [if_pos hi] at q; simp only [Exit.inBlock, hi, if_true]; exact ⟨ds', Γ', hs', q⟩
  rw [if_neg hi] at q; simp only [Exit.inBlock, hi, if_false]; exact ⟨ds', Γ', hs', q⟩
 | goto l => exact ⟨ds', Γ', hs', q⟩
 | ret => exact ⟨ds', Γ', hs', q⟩
 | panic c => exact ⟨ds', Γ', hs', q⟩
 | outgrown => exact ⟨ds', Γ', hs', q⟩
end
abbrev bF (w : World) (d : Nat) : Prop := w.heap[d]? = some (.deferred (some []))
theorem bF.frm {w w' : World} {S : List Nat} {d : Nat} (h : bF w d) (k : Frm S w w') (hd : d ∉ S) : bF w' d := (k.block d (Array.getElem?_eq_some_iff.1 h).1 hd).trans h
theorem bF.ne_blk {w : World} {d g : Nat} {t : TypeId} {cs : Array Value} (h : bF w d) (hb : Blk w g t cs) : d ≠ g := by
 rintro rfl
 unfold Blk at hb
 rw [h] at hb
 cases hb
theorem bF.ne_own {w : World} {d e size n c : Nat} {A : Option Addr} {xs : List Value} (h : bF w d) (ho : Own w e size A n c xs) : d ∉ ob A := by
 rcases ho.cases with ⟨rfl, _⟩ | ⟨g, cur, rfl, hb, _⟩
 · simp [ob]
 simp only [ob, zf]
 exact h.ne_blk hb
theorem Frm.putObj (w : World) (l : Nat) (o : Obj) : Frm [l] w (w.putObj l o) :=
 ⟨rfl, rfl, rfl, by simp [World.putObj], fun k _ hk => World.putObj_heap_other (fun e => hk (by simp [e]))⟩
def endD (P : Program) (res : Array ResultVar) (R : Ending → World → Prop) : DQ
 | .normal, ds, Γ, w | .ret, ds, Γ, w => ds.Nodup ∧ (∀ d ∈ ds, bF w d) ∧ ∀ w', Frm ds w w' → cX P res R .ret Γ w'
 | _, _, _, _ => False
section
variable {P : Program} {m : Nat} {ds : List Nat} {Γ : Env} {w : World} {res : Array ResultVar} {R : Ending → World → Prop}
theorem pP (h1 : ds.Nodup) (h2 : ∀ d ∈ ds, bF w d) (h : ∀ w', Frm ds w w' → cX P res R .ret Γ w') : endD P res R .ret ds Γ w := ⟨h1, h2, h⟩
theorem gZ {fn : Func} {tmps : Array Value} {k : Nat} {F : Fence} : ∀ (ds : List Nat) (w : World), ds.Nodup → (∀ d ∈ ds, bF w d) →
  (∀ w', Frm ds w w' → ∃ v, (results fn tmps).run P w' = .ok v w' ∧ R (.returned v) w') → LeavesInM F k P fn tmps R (jP ds) .returning w
 | [], w, _, _, h => by
  obtain ⟨v, h1, h2⟩ := h w (Frm.refl _ _)
  exact ⟨v, h1, h2⟩
 | d :: ds, w, hn, hm, h => by
  obtain ⟨hn1, hn2⟩ := zcl.1 hn
  refine ⟨jp, .inl ⟨d, w.putObj d (.deferred none), rfl, run_takeDeferred (hm d jp), ?_⟩⟩
  have hf := Frm.putObj w d (.deferred none)
  refine gZ ds _ hn2 (fun x hx => ?_) (fun w' hw' => h w' ?_)
  · exact (hm x (by simp [hx])).frm hf (by simp; rintro rfl; exact hn1 hx)
  exact (hf.mono (T := d :: ds) jp).trans hw' (fun x hx => .inl (by simp [hx]))
theorem DV.calls {f : FuncId} {fn : Func} {c : Code} {args : List Value} {nt : Nat} (hf : P.funcs[f]? = some fn) (hb : fn.body = some c) (hn : fn.ntmps = nt) (hr : fn.results = res) (hl0 : Nat.ble args.length nt = true)
  (h : DV P nt c [] (argEnv 0 args) w (endD P res R)) : Calls P f args.toArray w R := by
 have hl : args.length ≤ nt := zbn hl0
 refine callsIn_wide.1 (callsIn_of_wp_marks (F := Fence.wide) (n := 0) hf hb trivial ?_)
 refine wpIn_mono (h _ ?_ 0) ?_
 ·
  refine ⟨?_, rfl, ?_⟩
  ·
   simp only [zdo, zco, zcw, hn]
   omega
  intro t v ht
  obtain ⟨_, h2⟩ := eM args 0 t v ht
  simp only [Nat.sub_zero] at h2
  have hlt : t < args.length := (List.getElem?_eq_some_iff.1 h2).1
  rw [zz, zby (by simpa using hlt)]
  simp [h2]
 rintro e a w' ⟨ds, Γ, hs, hq⟩
 have key : ds.Nodup ∧ (∀ d ∈ ds, bF w' d) ∧ (∀ w'', Frm ds w' w'' → cX P res R .ret Γ w'') → LeavesInM Fence.wide 0 P fn a.tmps R a.defers .returning w' := by
  rintro ⟨h1, h2, h3⟩
  rw [hs.defers]
  refine gZ ds w' h1 h2 (fun w'' hw'' => ?_)
  obtain ⟨vs, h4, h5⟩ := cQ hs hr (h3 w'' hw'')
  exact ⟨_, h4, h5⟩
 cases e with
 | normal => exact key hq
 | ret => exact key hq
 | _ => exact hq.elim
end
def gU (P : Program) (l : Nat) (args : Array Value) (W : World) (R : Ending → World → Prop) : Prop := ∀ k, YieldAt (wd none) k P l args W R
def Off (Bt : List Nat) (W W' : World) : Prop := ∃ C, Frm C W W' ∧ ∀ b ∈ Bt, b ∉ C
theorem Off.blk {Bt : List Nat} {W W' : World} {g : Nat} {t : TypeId} {cs : Array Value} (h : Off Bt W W') (hb : Blk W g t cs) (hg : g ∈ Bt) : Blk W' g t cs := by
 obtain ⟨C, hf, hC⟩ := h
 exact hb.frm hf (hC g hg)
def Iter {α : Type} (P : Program) (gf : FuncId) (lb : Array Value) (encs : α → Array Value) (B Bt : List Nat) (Kp : World → Prop) (xs : List α) : Prop :=
 ∀ (l : Nat) (J Jx : List α → World → Prop) (W : World),
  (∀ pre W W', J pre W → Frm B W W' → J pre W') → (∀ pre W W', Jx pre W → Frm B W W' → Jx pre W') → Kp W →
  (∀ pre x W1, J pre W1 → (pre ++ [x]) <+: xs → gU P l (encs x) W1 fun e W' => Off Bt W1 W' ∧ ((e = .returned (.bool true) ∧ J (pre ++ [x]) W') ∨ (e = .returned (.bool false) ∧ Jx (pre ++ [x]) W'))) →
  J [] W → Calls P gf (#[.func (.yield l) #[] #[]] ++ lb) W fun e W' => (∃ v, e = .returned v) ∧ (J xs W' ∨ ∃ pre, Jx pre W')
theorem Ops.yield {P : Program} {n : NF} {Γ : Env} {w : World} {Q : Exit → Env → World → Prop} {ops : Array Oper} {rest : List Oper} {dst : Option Tmp} {T : TypeId} {pos : String} {after : Array Edge} {l : Nat} {c : Operand} {xs : List Operand} {vs : List Value} {ts : Array TypeId} {R : Ending → World → Prop}
  (hro : n.ro = none) (hc : ev? Γ c = some (.func (.yield l) #[] #[])) (hv : evs Γ xs vs) (hy : gU P l vs.toArray w R) {d : Nat} (hd : dst = some d) (hn : Nat.blt d n.n = true)
  (k : ∀ e w', R e w' → ∃ v, e = .returned v ∧ Ops P n ops rest ((d, v) :: Γ) w' Q) : Ops P n ops (⟨dst, .call ⟨.value c, xs.toArray, ts⟩, T, pos, after, none⟩ :: rest) Γ w Q :=
 Ops.of_wp trivial fun a hs m => by
  rw [hro]
  refine ⟨bE, ?_⟩
  obtain ⟨fn, tmps, assign, body, h1, h2⟩ := hy (m - 1)
  have e1 := cC hs.fits xs vs hv
  have e2 : a.eval c = .func (.yield l) #[] #[] := hs.fits _ _ hc
  have hrun : (execOp a.eval ⟨dst, .call ⟨.value c, xs.toArray, ts⟩, T, pos, after, none⟩).run P w = .ok (.round l fn tmps assign body) w := by
   simp [execOp, resolve, e2, Deferred.ofValue, invoke, callFunc, e1, h1]
  rw [dH hrun jp, Oper.uponIn_round, hd]
  refine ⟨fun h => by simp [wd, Fence.wide] at h, h2.mono ?_⟩
  intro e w' hR
  obtain ⟨v, rfl, hk⟩ := k e w' hR
  have := hk _ (hs.put hn v) m
  rw [hro] at this
  exact this
theorem KeepsOthers.of_frm {S : List Nat} {W W' : World} (h : Frm S W W') (hS : ∀ b ∈ S, ∀ o, W.heap[b]? = some o → o.isCells = true) : KeepsOthers W W' :=
 ⟨h.size, fun k o hk ho => (h.block k (Array.getElem?_eq_some_iff.1 hk).1 (fun hx => by have := hS k hx o hk; rw [ho] at this; cases this)).trans hk⟩
def eI (Bt : List Nat) (W W' : World) : Prop := ∃ C, Frm C W W' ∧ ∀ b ∈ C, b ∉ Bt ∧ ∀ o, W.heap[b]? = some o → o.isCells = true
theorem eI.off {Bt : List Nat} {W W' : World} (h : eI Bt W W') : Off Bt W W' := by
 obtain ⟨C, hf, hC⟩ := h
 exact ⟨C, hf, fun b hb hx => (hC b hx).1 hb⟩
theorem eI.others {Bt : List Nat} {W W' : World} (h : eI Bt W W') : KeepsOthers W W' := by
 obtain ⟨C, hf, hC⟩ := h
 exact KeepsOthers.of_frm hf fun b hb o ho => (hC b hb).2 o ho
theorem Blk.isC {W : World} {g : Nat} {t : TypeId} {cs : Array Value} (hb : Blk W g t cs) : ∀ o, W.heap[g]? = some o → o.isCells = true := fun o ho => by
 unfold Blk at hb
 rw [hb] at ho
 cases ho; rfl
theorem Own.isC {W : World} {e size n c : Nat} {A : Option Addr} {xs : List Value} (ho : Own W e size A n c xs) : ∀ g ∈ ob A, ∀ o, W.heap[g]? = some o → o.isCells = true := by
 rcases ho.cases with ⟨rfl, _⟩ | ⟨g, cur, rfl, hb, _⟩
 · simp [ob]
 intro x hx
 simp only [ob, zf] at hx
 subst hx
 exact hb.isC
def uZ {α : Type} (Bt : List Nat) (I : List α → World → Prop) (Ix : Exit → List α → World → Prop) (xs : List α) (W : World) : Exit → Env → World → Prop
 | .normal, _, W' => eI Bt W W' ∧ I xs W'
 | .ret, _, W' => eI Bt W W' ∧ Ix .ret xs W'
 | .exit id, _, W' => eI Bt W W' ∧ Ix (.exit id) xs W'
 | _, _, _ => False
theorem gJ : ∀ (l : List (Nat × Value)) (tmps : Array Value) (Γ : Env) (N : Nat), tmps.size = N → (∀ t v, get? Γ t = some v → tmps.getD t undef = v) → (∀ x ∈ l, x.1 < N) →
  (l.foldl (fun t (x : Nat × Value) => t.setIfInBounds x.1 x.2) tmps).size = N ∧ ∀ t v, get? (l.reverse ++ Γ) t = some v → (l.foldl (fun t (x : Nat × Value) => t.setIfInBounds x.1 x.2) tmps).getD t undef = v
 | [], tmps, Γ, N, hN, h, _ => ⟨hN, by simpa using h⟩
 | (p, u) :: r, tmps, Γ, N, hN, h, hl => by
  have hp : p < tmps.size := by rw [hN]; exact hl (p, u) jp
  have h1 := gJ r (tmps.setIfInBounds p u) ((p, u) :: Γ) N (by simpa using hN) (fun t v ht => by
   simp only [get?] at ht
   cases hq : Nat.beq p t with
   | true =>
    rw [hq] at ht
    simp only [cond_true, Option.some.injEq] at ht
    subst ht
    rw [← zq hq]
    simp [zz, hp]
   | false =>
    rw [hq] at ht
    simp only [cond_false] at ht
    have hne : p ≠ t := fun e => by subst e; rw [Nat.beq_refl] at hq; cases hq
    have := h t v ht
    rw [zz, Array.getElem?_setIfInBounds_ne hne, ← zz]
    exact this) (fun x hx => hl x (by simp [hx]))
  rw [List.foldl_cons]
  have e : ((p, u) :: r).reverse ++ Γ = r.reverse ++ (p, u) :: Γ := jp
  rw [e]
  exact h1
abbrev NC (w W : World) (B S : List Nat) : Prop := ∀ b ∈ S, b ∈ B ∨ (w.heap.size ≤ b ∧ ∀ o, W.heap[b]? = some o → o.isCells = false)
theorem Blk.nc {w W : World} {B S : List Nat} {g : Nat} {t : TypeId} {cs : Array Value} (hb : Blk W g t cs) (hS : NC w W B S) (hg : g ∉ B) : g ∉ S := fun h => by
 rcases hS g h with h1 | ⟨_, h1⟩
 · exact hg h1
 have := h1 _ hb
 cases this
theorem Own.nc {w W : World} {B S : List Nat} {e size n c : Nat} {A : Option Addr} {xs : List Value} (ho : Own W e size A n c xs) (hS : NC w W B S) (hg : ∀ x ∈ ob A, x ∉ B) : ∀ x ∈ ob A, x ∉ S := by
 rcases ho.cases with ⟨rfl, _⟩ | ⟨g, cur, rfl, hb, _⟩
 · simp [ob]
 intro x hx
 have hx2 := hg x hx
 simp only [ob, zf] at hx
 subst hx
 exact hb.nc hS hx2
theorem Frm.nc {w0 w W W' : World} {B S : List Nat} (h : Frm [] w0 W) (k : Frm S W W') (hS : NC w W B S) (hB : ∀ b ∈ B, w0.heap.size ≤ b) (hw : w0.heap.size ≤ w.heap.size) : Frm [] w0 W' := h.own k fun b hb => by
 rcases hS b hb with h1 | ⟨h1, _⟩
 · exact hB b h1
 omega
theorem DV.range {α : Type} {P : Program} {m : Nat} {ds : List Nat} {Γ : Env} {w : World} {Q : DQ} {g : Operand} {ps : List Tmp} {assign body : Code} {gf : FuncId} {lb : Array Value} {Kp : World → Prop} {xs : List α} {B Bt : List Nat} (encs : α → List Value)
  (hit : Iter P gf lb (fun x => (encs x).toArray) B Bt Kp xs) (hg : ev? Γ g = some (.func (.func gf) #[] lb)) (eg : ∀ args w, (callFunc gf args).run P w = .ok (.enter gf args) w) (hps : ∀ x, (encs x).length = ps.length) (hpm : (ps.all fun p => Nat.blt p m) = true)
  (I : List α → World → Prop) (Ix : Exit → List α → World → Prop) (ΓA : α → Env)
  (hI : ∀ pre W W' S, I pre W → Frm S W W' → NC w W B S → I pre W') (hIx : ∀ e pre W W' S, Ix e pre W → Frm S W W' → NC w W B S → Ix e pre W') (hK : ∀ W, Frm [] w W → Kp W) (hB : ∀ b ∈ B, b ∈ Bt) (hBt : ∀ b ∈ Bt, b < w.heap.size) (h0 : I [] w)
  (hassign : ∀ l x W, VC P ⟨m, [], some l⟩ assign ((ps.zip (encs x)).reverse ++ Γ) W (dZ (fun Γ' W' => W' = W ∧ Sub Γ' (ΓA x)) (fun _ _ _ => False)))
  (hbody : ∀ l pre x W, I pre W → (pre ++ [x]) <+: xs → w.heap.size + 2 ≤ W.heap.size → bF W w.heap.size → VC P ⟨m, [], some l⟩ body (ΓA x) W (uZ Bt I Ix (pre ++ [x]) W))
  (hdone : ∀ W, I xs W → w.heap.size + 2 ≤ W.heap.size → bF W w.heap.size → Q .normal (w.heap.size :: ds) Γ W)
  (hret : ∀ pre W, Ix .ret pre W → w.heap.size + 2 ≤ W.heap.size → bF W w.heap.size → Q .ret (w.heap.size :: ds) Γ W)
  (hexit : ∀ id pre W, Ix (.exit id) pre W → w.heap.size + 2 ≤ W.heap.size → bF W w.heap.size → Q (.exit id) (w.heap.size :: ds) Γ W) : DV P m (.rangeFunc g ps.toArray assign body) ds Γ w Q := by
 intro a hs k
 refine wpIn_rangeFunc ?_
 intro fn hfn
 obtain ⟨rec, hrec⟩ : ∃ rec : LoopState → Option Code → Loop, rec = fun st pe => { state := st, pending := pe, fn, tmps := a.tmps, params := ps.toArray, assign, body, defers := w.heap.size } := ⟨_, rfl⟩
 obtain ⟨W1, hW1⟩ : ∃ W1, (w.alloc (.deferred (some []))).alloc (.loop (rec .ready none)) = W1 := ⟨_, rfl⟩
 have hL1 : W1.heap[w.heap.size + 1]? = some (.loop (rec .ready none)) := by
  rw [← hW1]; have := World.alloc_heap_new (w.alloc (.deferred (some []))) (.loop (rec .ready none)); rwa [World.size_alloc] at this
 have hK1 : bF W1 w.heap.size := by
  rw [← hW1]; exact (Below.heap_alloc _ _ _ jp).trans (World.alloc_heap_new w _)
 have hF1 : Frm [] w W1 := by rw [← hW1]; exact ((Frm.refl [] w).alloc _).alloc _
 have hI1 : I [] W1 := hI [] w W1 [] h0 hF1 (fun b hb => by cases hb)
 have hsz : ∀ W : World, ∀ r, W.heap[w.heap.size + 1]? = some (.loop r) → w.heap.size + 2 ≤ W.heap.size := fun W r h => by
  have := (Array.getElem?_eq_some_iff.1 h).1; omega
 have hnc : ∀ W r, W.heap[w.heap.size + 1]? = some (.loop r) → NC w W B [w.heap.size + 1] := fun W r h b hb => by
  simp only [zf] at hb
  subst hb
  refine .inr ⟨jo, fun o ho => by rw [h] at ho; cases ho; rfl⟩
 have hmk : ∀ (W : World) o, bF W w.heap.size → bF (W.putObj (w.heap.size + 1) o) w.heap.size := fun W o h => (World.putObj_heap_other jo).trans h
 refine ⟨w.heap.size + 1, [{ target := .collected w.heap.size, args := #[] }], W1, { target := .fn (.func gf) lb, args := #[.func (.yield (w.heap.size + 1)) #[] #[]] }, W1, gf,
  #[.func (.yield (w.heap.size + 1)) #[] #[]] ++ lb, W1, ?_, ?_, fun _ _ => trivial, ?_, fun h => by simp [wd, Fence.wide] at h, ?_⟩
 · rw [← hW1, hrec]; exact run_enterLoop_outer _ _ _ _ _
 ·
  have e1 : a.eval g = .func (.func gf) #[] lb := hs.fits _ _ hg
  simp only [resolve, e1]
  simp [go_sem]
 · simp [invoke, go_sem, eg]
 let J : List α → World → Prop := fun pre W => I pre W ∧ W.heap[w.heap.size + 1]? = some (.loop (rec .ready none)) ∧ bF W w.heap.size
 let Jx : List α → World → Prop := fun pre W => ((Ix .ret pre W ∧ W.heap[w.heap.size + 1]? = some (.loop (rec .done (some .ret)))) ∨ ∃ id, Ix (.exit id) pre W ∧ W.heap[w.heap.size + 1]? = some (.loop (rec .done (some (.exit id))))) ∧ bF W w.heap.size
 have keepL : ∀ {W W' : World} {r}, Frm B W W' → W.heap[w.heap.size + 1]? = some (.loop r) → W'.heap[w.heap.size + 1]? = some (.loop r) := fun hf h => (hf.block _ (Array.getElem?_eq_some_iff.1 h).1 (fun hx => by have := hBt _ (hB _ hx); omega)).trans h
 have keepM : ∀ {W W' : World}, Frm B W W' → bF W w.heap.size → bF W' w.heap.size := fun hf h => h.frm hf (fun hx => by have := hBt _ (hB _ hx); omega)
 refine eH.2 ((hit (w.heap.size + 1) J Jx W1 ?_ ?_ (hK _ hF1) ?_ ⟨hI1, hL1, hK1⟩).mono ?_)
 ·
  rintro pre W W' ⟨h1, h2, h3⟩ hf
  exact ⟨hI pre W W' B h1 hf (fun b hb => .inl hb), keepL hf h2, keepM hf h3⟩
 ·
  rintro pre W W' ⟨h1, h3⟩ hf
  refine ⟨?_, keepM hf h3⟩
  rcases h1 with ⟨h1, h2⟩ | ⟨id, h1, h2⟩
  · exact .inl ⟨hIx _ pre W W' B h1 hf (fun b hb => .inl hb), keepL hf h2⟩
  exact .inr ⟨id, hIx _ pre W W' B h1 hf (fun b hb => .inl hb), keepL hf h2⟩
 ·
  rintro pre x W ⟨hi, hl, hk⟩ hpre k'
  have hlt : w.heap.size + 1 < W.heap.size := (Array.getElem?_eq_some_iff.1 hl).1
  have hy := run_yield (P := P) (args := (encs x).toArray) hl (by rw [hrec]; simpa using hps x)
  rw [hrec] at hy
  refine ⟨fn, _, assign, body, hy, roundIn_of_wpIn hfn ?_⟩
  have hz : (ps.toArray.zip (encs x).toArray).foldl (fun tmps (t, a) => tmps.setIfInBounds t a) a.tmps = (ps.zip (encs x)).foldl (fun t (x : Nat × Value) => t.setIfInBounds x.1 x.2) a.tmps := by
   simp [List.zip_toArray]
  obtain ⟨hfs, hfg⟩ := gJ (ps.zip (encs x)) a.tmps Γ m hs.size hs.at_ (fun y hy => by
   have h1 := (List.of_mem_zip hy).1
   have h2 := List.all_eq_true.1 hpm _ h1
   simpa [Nat.blt_eq] using h2)
  dsimp only
  rw [hz]
  refine wpIn_mono (hassign (w.heap.size + 1) x W { tmps := (ps.zip (encs x)).foldl (fun t (x : Nat × Value) => t.setIfInBounds x.1 x.2) a.tmps, defers := [] } ⟨hfs, rfl, hfg⟩ k') ?_
  rintro e a1 W' ⟨Γ1, hs1, hq1⟩
  cases e with
  | normal =>
   obtain ⟨rfl, hsub⟩ := hq1
   have hl2 : (W'.putObj (w.heap.size + 1) (.loop { rec .ready none with state := .busy })).heap[w.heap.size + 1]? = some (.loop { rec .ready none with state := .busy }) := World.putObj_heap_same hlt
   have hf2 := Frm.putObj W' (w.heap.size + 1) (.loop { rec .ready none with state := .busy })
   have hi2 := hI pre _ _ _ hi hf2 (hnc _ _ hl)
   refine ⟨_, run_beginRound hl (by rw [hrec]), ?_⟩
   refine wpIn_mono (hbody (w.heap.size + 1) pre x _ hi2 hpre (hsz _ _ hl2) (hmk _ _ hk) a1 (hs1.sub hsub) k') ?_
   have fin : ∀ (jump : Option Code) (W3 : World), KeepsOthers (W'.putObj (w.heap.size + 1) (.loop { rec .ready none with state := .busy })) W3 →
     (Instr.endRound (w.heap.size + 1) jump).run P W3 = .ok (.bool jump.isNone) (W3.putObj (w.heap.size + 1) (.loop (rec (if jump.isNone then .ready else .done) jump))) ∧
     W3.heap[w.heap.size + 1]? = some (.loop { rec .ready none with state := .busy }) ∧
     (W3.putObj (w.heap.size + 1) (.loop (rec (if jump.isNone then .ready else .done) jump))).heap[w.heap.size + 1]? = some (.loop (rec (if jump.isNone then .ready else .done) jump)) ∧
     bF (W3.putObj (w.heap.size + 1) (.loop (rec (if jump.isNone then .ready else .done) jump))) w.heap.size := fun jump W3 hk3 => by
    have hl3 := hk3.same _ _ hl2 rfl
    have := run_endRound (P := P) jump hl3
    rw [hrec] at this ⊢
    exact ⟨this, by rw [hrec] at hl3; exact hl3, World.putObj_heap_same (Array.getElem?_eq_some_iff.1 hl3).1, hmk _ _ (hk3.same _ _ (hmk _ _ hk) rfl)⟩
   have offs : ∀ {W3 : World} {o : Obj}, eI Bt (W'.putObj (w.heap.size + 1) (.loop { rec .ready none with state := .busy })) W3 → Off Bt W' (W3.putObj (w.heap.size + 1) o) := fun {W3 o} hw => by
    obtain ⟨C, hf, hC⟩ := hw.off
    refine ⟨(w.heap.size + 1) :: C, ((hf2.mono (T := (w.heap.size + 1) :: C) jp).trans hf (fun x hx => .inl (by simp [hx]))).trans (Frm.putObj W3 _ o) jp, fun b hb hx => ?_⟩
    rcases zs.1 hx with rfl | hx
    · have := hBt _ hb; omega
    exact hC b hb hx
   rintro e a3 W3 ⟨Γ3, _, hp⟩
   cases e with
   | normal =>
    obtain ⟨hk3, hi3⟩ := hp
    obtain ⟨hr, hl3, hl4, hk4⟩ := fin none W3 hk3.others
    exact ⟨_, _, hr, offs hk3, .inl ⟨rfl, hI _ _ _ _ hi3 (Frm.putObj W3 _ _) (hnc _ _ hl3), hl4, hk4⟩⟩
   | ret =>
    obtain ⟨hk3, hi3⟩ := hp
    obtain ⟨hr, hl3, hl4, hk4⟩ := fin (some .ret) W3 hk3.others
    exact ⟨_, _, hr, offs hk3, .inr ⟨rfl, .inl ⟨hIx _ _ _ _ _ hi3 (Frm.putObj W3 _ _) (hnc _ _ hl3), hl4⟩, hk4⟩⟩
   | exit id =>
    obtain ⟨hk3, hi3⟩ := hp
    obtain ⟨hr, hl3, hl4, hk4⟩ := fin (some (.exit id)) W3 hk3.others
    exact ⟨_, _, hr, offs hk3, .inr ⟨rfl, .inr ⟨id, hIx _ _ _ _ _ hi3 (Frm.putObj W3 _ _) (hnc _ _ hl3), hl4⟩, hk4⟩⟩
   | goto t => exact hp.elim
   | panic ch => exact hp.elim
   | outgrown => exact hp.elim
  | exit id => exact hq1.elim
  | goto t => exact hq1.elim
  | ret => exact hq1.elim
  | panic ch => exact hq1.elim
  | outgrown => exact hq1.elim
 have hs' : Sat ⟨m, jP (w.heap.size :: ds), none⟩ Γ { a with defers := [{ target := .collected w.heap.size, args := #[] }] ++ a.defers } := ⟨hs.size, by show [_] ++ a.defers = _; rw [hs.defers]; rfl, hs.at_⟩
 rintro e W2 ⟨⟨v, rfl⟩, (⟨hi, hl, hk⟩ | ⟨pre, h1, hk⟩)⟩
 ·
  have hend := run_endLoop (P := P) hl (by rw [hrec]; simp)
  refine ⟨none, _, by rw [hend, hrec], ?_⟩
  exact ⟨_, Γ, hs', hdone _ (hI _ _ _ _ hi (Frm.putObj _ _ _) (hnc _ _ hl)) (zak (hsz _ _ hl) (Frm.putObj _ _ _).size) (hmk _ _ hk)⟩
 rcases h1 with ⟨hi, hl⟩ | ⟨id, hi, hl⟩
 ·
  have hend := run_endLoop (P := P) hl (by rw [hrec]; simp)
  refine ⟨some .ret, _, by rw [hend, hrec], ?_⟩
  exact wpIn_ret (Q := nL m Q) ⟨_, Γ, hs', hret _ _ (hIx _ _ _ _ _ hi (Frm.putObj _ _ _) (hnc _ _ hl)) (zak (hsz _ _ hl) (Frm.putObj _ _ _).size) (hmk _ _ hk)⟩
 have hend := run_endLoop (P := P) hl (by rw [hrec]; simp)
 refine ⟨some (.exit id), _, by rw [hend, hrec], ?_⟩
 exact wpIn_exit (Q := nL m Q) ⟨_, Γ, hs', hexit _ _ _ (hIx _ _ _ _ _ hi (Frm.putObj _ _ _) (hnc _ _ hl)) (zak (hsz _ _ hl) (Frm.putObj _ _ _).size) (hmk _ _ hk)⟩
end
section
open Go.RowKit Go.Sort
abbrev Tx := List UInt8
def SB (ss : List Tx) : List Value := ss.map encStr
theorem pR (ss : List Tx) : ∀ u ∈ SB ss, u.oneCell' = true := by
 intro u hu
 obtain ⟨b, _, rfl⟩ := List.mem_map.1 hu
 rfl
theorem lQ (a b : List Tx) : SB (a ++ b) = SB a ++ SB b := by simp [SB]
theorem uP {w : World} {A : Option Addr} {ss : List Tx} {k : Nat} (h : Rd w 1 A ss.length (SB ss)) (hk : k < ss.length) : ∃ ad, A = some ad ∧ w.cell? (ad.add k) = some (encStr ss[k]) := by
 obtain ⟨ad, u, hA, hu, hc⟩ := h.at1 hk
 refine ⟨ad, hA, ?_⟩
 rw [hc, ← hu]
 simp [SB, zc hk]
end
section
open Go.RowKit Go.ChangeShapes Go.WideShapes Go.Deep
section
variable {H : Type} {enc : TypeId × Value → H} {P : Program} {w : World} {base : Nat} {spare : Nat → Bool} {held : Bool} {n : Nat} {cs : List Value} {x : DataW H × List MemPlace} {t e : TypeId}
theorem oQ {fs : Array Field} (ht : P.underlying t = some (.struct fs)) (h : DataW.trod enc P w base spare held n t cs = some x) :
  cs.length = P.cellsOf t ∧ ∃ n', ∀ (i : Nat) (f : Field), fs[i]? = some f → ∃ y, DataW.trod enc P w base spare held n' f.type ((cs.drop f.offset).take (P.cellsOf f.type)) = some y := by
 obtain ⟨xs, n', _, _, hl, hxl, hf⟩ := DataW.trod_struct ht h
 refine ⟨hl, n', fun i f hif => ?_⟩
 have hi : i < xs.length := by rw [hxl]; exact (Array.getElem?_eq_some_iff.1 hif).1
 exact ⟨xs[i], (hf i f hif).trans (zc hi)⟩
theorem mQ (ht : P.underlying t = some .string) (h : DataW.trod enc P w base spare held n t cs = some x) : ∃ q : Tx, cs = [encStr q] ∧ q.length ≤ 9223372036854775807 := by
 obtain ⟨s, h1, _, h2⟩ := DataW.trod_string ht h
 exact ⟨s.data.toList, h1, by simpa [maxLen] using h2⟩
end
end
section
open Go.RowKit
abbrev Tk := Int × Tx
def tk0 : Tk := (0, [])
def tkC (x : Tk) : List Value := [.int .i64 x.1, encStr x.2]
theorem tM (x : Tk) : (tkC x).length = 2 := rfl
theorem cD (x : Tk) : ∀ u ∈ tkC x, u.oneCell' = true := by
 intro u hu
 simp only [tkC, zs, zw, or_false] at hu
 rcases hu with rfl | rfl <;> rfl
structure RdT (w : World) (A : Option Addr) (n : Nat) (l : List Tk) : Prop where
 len : l.length = n
 rd : Rd w 2 A n (l.flatMap tkC)
theorem RdT.frm {w w' : World} {S : List Nat} {A : Option Addr} {n : Nat} {l : List Tk} (h : RdT w A n l) (k : Frm S w w') (hS : 0 < n → ∀ x ∈ ob A, x ∉ S) : RdT w' A n l := ⟨h.len, h.rd.frm k hS⟩
theorem RdT.cell {w : World} {A : Option Addr} {n : Nat} {l : List Tk} (h : RdT w A n l) {k : Nat} (hk : k < n) : ∃ ad, A = some ad ∧ ∀ W, Frm [] w W → ∀ j v, (tkC (l.getD k tk0))[j]? = some v → W.cell? ((ad.add (k * 2)).add j) = some v := by
 have key : ∀ W, Frm [] w W → ∃ ad, A = some ad ∧ ∀ j v, (tkC (l.getD k tk0))[j]? = some v → W.cell? ((ad.add (k * 2)).add j) = some v := fun W hW => by
  have h1 := h.rd.frm hW jp
  rw [← h.len] at h1 hk
  obtain ⟨ad, h2, hc⟩ := h1.elem hk
  refine ⟨ad, h2, fun j v hj => hc j v ?_⟩
  rw [fG tkC 2 tM l k hk]
  rw [zr, zc hk] at hj
  exact hj
 obtain ⟨ad, h1, _⟩ := key w (Frm.refl _ _)
 refine ⟨ad, h1, fun W hW => ?_⟩
 obtain ⟨a2, h2, h3⟩ := key W hW
 rw [h1] at h2
 cases h2
 exact h3
theorem oX {w : World} {A : Option Addr} {n : Nat} {l : List Int} (h : Rd w 1 A n (IB l)) (hn : l.length = n) {k : Nat} (hk : k < n) : ∃ ad, A = some ad ∧ w.cell? (ad.add k) = some (.int .i64 (l.getD k 0)) := by
 obtain ⟨ad, h1, _, hc⟩ := h.2 jo
 exact ⟨ad, h1, hc k _ (by simp [IB, zr, zc (jo : k < l.length)])⟩
def dV : List PanicEntry := [{ v := .iface 89 (.agg #[]), recovered := false }]
structure IsCp (w : World) (gp gc : Nat) (A : Option Addr) (n c : Nat) (tk : List Tk) (q : Nat) (cs : Array Value) : Prop where
 p : Blk w gp 64 #[.slice A n c, jI1 q, jI0 gc]
 k : Blk w gc 34 cs
 sz : cs.size = 20
 tk : RdT w A n tk
 le : q ≤ n
 big : n ≤ 100000
 off : 0 < n → ∀ x ∈ ob A, x ≠ gp ∧ x ≠ gc
section
variable {w w' : World} {gp gc : Nat} {A : Option Addr} {n c : Nat} {tk : List Tk} {q q' : Nat} {cs cs' : Array Value}
theorem IsCp.ne (h : IsCp w gp gc A n c tk q cs) : gp ≠ gc := h.p.ne h.k jd
theorem IsCp.frm (h : IsCp w gp gc A n c tk q cs) (k : Frm [] w w') : IsCp w' gp gc A n c tk q cs := ⟨h.p.frm k jp, h.k.frm k jp, h.sz, h.tk.frm k jp, h.le, h.big, h.off⟩
theorem IsCp.lt (h : IsCp w gp gc A n c tk q cs) : gp < w.heap.size ∧ gc < w.heap.size := ⟨h.p.lt, h.k.lt⟩
theorem IsCp.step (h : IsCp w gp gc A n c tk q cs) (hb : Blk w' gp 64 #[.slice A n c, jI1 q', jI0 gc]) (k : Frm [gp] w w') (hl : q' ≤ n) : IsCp w' gp gc A n c tk q' cs :=
 ⟨hb, h.k.frm k (by simp; exact fun e => h.ne e.symm), h.sz, h.tk.frm k (fun h0 x hx e => (h.off h0 x hx).1 (by simpa using e)), hl, h.big, h.off⟩
theorem IsCp.turn (h : IsCp w gp gc A n c tk q cs) (hb : Blk w' gc 34 cs') (hs : cs'.size = 20) (k : Frm [gc] w w') : IsCp w' gp gc A n c tk q cs' :=
 ⟨h.p.frm k (by simp; exact h.ne), hb, hs, h.tk.frm k (fun h0 x hx e => (h.off h0 x hx).2 (by simpa using e)), h.le, h.big, h.off⟩
end
def IsT (tk : List Tk) (k : Nat) (kind : Int) : Prop := k < tk.length ∧ (tk.getD k tk0).1 = kind
instance (tk : List Tk) (k : Nat) (kind : Int) : Decidable (IsT tk k kind) := by unfold IsT; infer_instance
def qD (tk : List Tk) (q : Nat) (ks : List Int) : Option Tx := if q < tk.length ∧ (tk.getD q tk0).1 ∈ ks then some (tk.getD q tk0).2 else none
theorem eR {tk : List Tk} {q N : Nat} {ks : List Int} {s : Tx} (h : qD tk q ks = some s) (hl : ∀ x ∈ tk, x.2.length ≤ N) : s.length ≤ N := by
 unfold qD at h
 split at h
 ·
  next hc =>
  injection h with h
  rw [← h, zr, zc hc.1]
  exact hl _ (zap _)
 cases h
theorem bH (b : Bool) (w : World) : Calls Tryz.prog 20 #[.bool b] w fun e w' => w = w' ∧ e = if b = true then .returned (.tuple #[]) else .panicked dV := by
 refine jV Tryz.func20 Tryz.ntmps20 Tryz.results20 ?_
 refine jS (jR (jm rfl (je (Run.not rfl) (jO (jN (jv1 3 ?_))))))
 refine VC.condB rfl (fun hc1 => ?_) (fun hc1 => ?_)
 ·
  refine jR (je (Run.build evs.nil pM (fM).choose_spec.1 (fM).choose_spec.2 rfl) (je (Run.mkIface rfl Tryz.underlying89 rfl) ?_))
  refine Ops.pn rfl (bQ ?_)
  exact ⟨rfl, by cases b <;> simp at hc1 ⊢; rfl⟩
 refine jQ ?_
 refine dS ?_
 exact ⟨rfl, by cases b <;> simp at hc1 ⊢⟩
theorem gB (k : Nat) (kind : Int) (gp gc : Nat) (A : Option Addr) (n c : Nat) (tk : List Tk) (q : Nat) (cs : Array Value) (w : World) (hP : IsCp w gp gc A n c tk q cs) (hk : k ≤ 10) : Calls Tryz.prog 61 #[jI0 gp, jI1 k, .int .i64 kind] w fun e w' => Frm [] w w' ∧ e = .returned (.bool (decide (IsT tk (q + k) kind))) := by
 have hb := hP.p
 have hle := hP.le
 have hbig := hP.big
 have hln := hP.tk.len
 have hit : IsT tk (q + k) kind ↔ (q + k < n ∧ (tk.getD (q + k) tk0).1 = kind) := by unfold IsT; rw [hln]
 refine jV Tryz.func61 Tryz.ntmps61 Tryz.results61 ?_
 refine jS (jR (ja rfl (jO (jN (jv3 0 1 2 ?_)))))
 refine jS ?_
 refine VC.splitR [] (qL w) 6 (.bool (decide (IsT tk (q + k) kind))) ?_ ?_
 ·
  refine VC.still jK jK ?_
  refine qM ?_
  refine qE (Run.nilck rfl) ?_
  refine qE (Run.fieldAddr rfl zo rfl zd jd) ?_
  refine qE (Run.load rfl zj ((hb.drawn (qL.drew _)).cell 1)) ?_
  refine qM ?_
  refine qE (Run.bin rfl rfl (Bin.add_i64 _ _ jo)) ?_
  refine qM ?_
  refine qE (Run.nilck rfl) ?_
  refine qE (Run.fieldAddr rfl zo rfl Tryz.sizeOf23 jd) ?_
  refine qE (Run.load rfl zbv ((hb.drawn (qL.drew _)).cell 0)) ?_
  refine qE (Run.lenS rfl zy) ?_
  refine qE (Run.bin rfl rfl (Bin.lssN _ _)) ?_
  by_cases hs18 : q + k < n
  ·
   obtain ⟨ad, hA, hel⟩ := hP.tk.cell hs18
   subst hA
   refine qM ?_
   refine qG (Run.mv rfl) ?_
   refine qG (Run.nilck rfl) ?_
   refine qG (Run.fieldAddr rfl zo rfl Tryz.sizeOf23 jd) ?_
   refine qG (Run.load rfl zbv ((hb.drawn (qL.drew _)).cell 0)) ?_
   refine qG (Run.mv rfl) ?_
   refine qG (Run.nilck rfl) ?_
   refine qG (Run.fieldAddr rfl zo rfl zd jd) ?_
   refine qG (Run.load rfl zj ((hb.drawn (qL.drew _)).cell 1)) ?_
   refine qG (Run.mv rfl) ?_
   refine qG (Run.bin rfl rfl (Bin.add_i64 _ _ jo)) ?_
   refine qG (Run.indexS _ rfl rfl zy zp jo) ?_
   refine qG (Run.fieldAddr rfl zaq rfl zd jd) ?_
   refine qG (Run.load rfl zj (hel _ (qL.drew _).frm 0 _ rfl)) ?_
   refine qG (Run.mv rfl) ?_
   refine qG (Run.bin rfl rfl (Bin.eql _ _)) ?_
   by_cases hs34 : (tk.getD (q + k) tk0).1 = kind
   ·
    refine qE (Run.pickT rfl rfl au) ?_
    refine qA ?_
    refine qF.nil ?_
    refine jN ⟨(js1 (jC (by simp only [hit]; grind))), (qL.drew _)⟩
   refine qE (Run.pickT rfl rfl au) ?_
   refine qA ?_
   refine qF.nil ?_
   refine jN ⟨(js1 (jC (by simp only [hit]; grind))), (qL.drew _)⟩
  refine qM ?_
  refine qU ?_
  refine qU ?_
  refine qU ?_
  refine qU ?_
  refine qU ?_
  refine qU ?_
  refine qU ?_
  refine qU ?_
  refine qU ?_
  refine qU ?_
  refine qU ?_
  refine qU ?_
  refine qU ?_
  refine qU ?_
  refine qU ?_
  refine qE (Run.pickF rfl rfl au) ?_
  refine qA ?_
  refine qF.nil ?_
  refine jN ⟨(js1 (jC (by simp only [hit]; grind))), (qL.drew _)⟩
 intro Γ w9 hΓ hd9
 refine jN (VC.sub _ hΓ ?_)
 refine jT ?_
 refine qN rfl ?_
 exact ⟨hd9.frm, rfl⟩
theorem cE (K : Option Addr) (m ck : Nat) (ks : List Int) (gp gc : Nat) (A : Option Addr) (n c : Nat) (tk : List Tk) (q : Nat) (cs : Array Value) (w : World) (hP : IsCp w gp gc A n c tk q cs) (hm : ks.length = m) (hmb : m ≤ 10) (hK : Rd w 1 K m (IB ks)) (hKo : 0 < m → ∀ x ∈ ob K, x ≠ gp) :
  Calls Tryz.prog 31 #[jI0 gp, .slice K m ck] w fun e w' => Frm [gp] w w' ∧ match qD tk q ks with
   | none => e = .panicked dV
   | some s => e = .returned (encStr s) ∧ IsCp w' gp gc A n c tk (q + 1) cs := by
 have hle := hP.le
 have hbig := hP.big
 have hln := hP.tk.len
 have hPl := hP.lt
 refine jV Tryz.func31 Tryz.ntmps31 Tryz.results31 ?_
 refine jS (jR (ja rfl (jO (jN (jS (jS (jR (jm rfl (jL rfl zm ?_)))))))))
 refine jx .i64 0 ?_
 refine jO (jN (jv5 0 4 7 8 9 ?_))
 refine jB ?_
 refine VC.loop (σ := Nat) (fun s => [(0, jI0 gp), (4, _), (7, .slice K m ck), (8, jI1 m), (9, jI1 s)]) (fun s wr => s ≤ m ∧ Frm [] w wr ∧ ∀ j, j < s → ¬ IsT tk q (ks.getD j 0)) (fun s => m - s) 0 (js5 rfl rfl rfl rfl rfl) ⟨zba _, Frm.refl _ _, fun j hj => absurd hj jo⟩ ?_
 rintro i wr ⟨hi, K0, hno⟩
 have hPr := hP.frm K0
 refine jS (jR (jb rfl rfl (Bin.lssN _ _) (jO (jN (jS ?_)))))
 refine jD rfl (fun hc1 => ?_) fun hc1 => ?_
 ·
  obtain ⟨ad, hKe, hel⟩ := oX (hK.frm K0 jp) hm hc1
  subst hKe
  refine jQ (jN (jv5 0 4 7 8 9 ?_))
  refine jS (jB (jS (jR (je (Run.index1 _ rfl rfl zm zd jo) (jl rfl zj hel (ja rfl (jO (jN (jv6 0 4 6 7 8 9 ?_)))))))))
  refine jS (jR (jm rfl (jM ?_)))
  refine jc (jE3 Tryz.call61) (gB 0 (ks.getD i 0) gp gc A n c tk q cs wr hPr jo) ?_
  rintro e w1 ⟨hf1, rfl⟩
  refine ⟨_, rfl, ?_⟩
  have hP1 := hPr.frm hf1
  have K1 := K0.trans hf1 jp
  refine jO (jN (jv6 0 4 7 8 9 15 ?_))
  refine VC.condB rfl (fun hc2 => ?_) (fun hc2 => ?_)
  ·
   have hit : IsT tk q (ks.getD i 0) := of_decide_eq_true hc2
   obtain ⟨hql, hqk⟩ := hit
   rw [hln] at hql
   have htm : qD tk q ks = some (tk.getD q tk0).2 := if_pos ⟨jo, by rw [hqk, zr, zc (jo : i < ks.length)]; exact zap _⟩
   rw [htm]
   have hAo := hP1.off jo
   refine jS (jR (jm rfl (jZ rfl (jf rfl zo rfl zd (jl rfl zj (hP1.p.cell 1) (jb rfl rfl (Bin.add_i64 _ 1 jo) (jZ rfl (jf rfl zo rfl zd ?_))))))))
   refine Ops.st (qQ.store rfl rfl zd hP1.p rfl rfl) ?_
   rintro w2 ⟨hb2, hf2, hs2⟩
   have hf2 : Frm [gp] w1 w2 := hf2
   have hP2 : IsCp w2 gp gc A n c tk (q + 1) cs := hP1.step hb2 hf2 jo
   obtain ⟨ad2, hA, hel2⟩ := hP2.tk.cell hql
   refine jO (jN (jv1 0 ?_))
   refine jS ?_
   refine VC.still jK jK ?_
   refine qM ?_
   refine qE (Run.nilck rfl) ?_
   refine qE (Run.fieldAddr rfl zo rfl Tryz.sizeOf23 jd) ?_
   refine qE (Run.load rfl zbv ((hP2.p.drawn (qL.drew _)).cell 0)) ?_
   rw [hA]
   refine qM ?_
   refine qE (Run.nilck rfl) ?_
   refine qE (Run.fieldAddr rfl zo rfl zd jd) ?_
   refine qE (Run.load rfl zj ((hP2.p.drawn (qL.drew _)).cell 1)) ?_
   refine qE (Run.bin rfl rfl (Bin.sub_i64 _ 1 jo jo)) ?_
   refine qE (Run.indexS _ rfl rfl zy zp jo) ?_
   refine qE (Run.fieldAddr rfl zaq rfl zb jd) ?_
   refine qE (Run.load rfl zh (hel2 _ (qL.drew _).frm 1 _ rfl)) ?_
   refine qA ?_
   refine qF.nil ?_
   refine jN (jv1 4 ?_)
   refine jT ?_
   refine qR (qZ (qZ (qR (qZ (qN rfl ?_)))))
   exact ⟨(K1.mono (T := [gp]) jp).trans (hf2.trans (qL.drew _).frm jp) (fun x hx => .inl hx), rfl, by rw [← hA]; exact hP2.frm (qL.drew _).frm⟩
  refine jQ ?_
  refine qW (jN ?_)
  refine jv5 0 4 7 8 9 ?_
  refine jR (jb rfl rfl (Bin.add_i64 _ 1 jo) (jm rfl (jO ?_)))
  refine jN ⟨i + 1, (js5 rfl rfl rfl rfl rfl), ?_, ?_⟩
  ·
   exact ⟨hc1, K1, fun j hj => by
    rcases Nat.lt_or_ge j i with h | h
    · exact hno j h
    have e : j = i := jo
    subst e
    exact of_decide_eq_false hc2⟩
  exact jq
 have htm : qD tk q ks = none := if_neg (fun h => by
  obtain ⟨k, hk, he⟩ := List.getElem_of_mem h.2
  refine hno k jo ⟨h.1, ?_⟩
  rw [zr (l := ks), zc hk]
  exact he.symm)
 rw [htm]
 refine jX ?_
 refine qK (qK (qH ?_))
 refine jN (jv1 4 ?_)
 refine jR (je (Run.build evs.nil pM (fM).choose_spec.1 (fM).choose_spec.2 rfl) (je (Run.mkIface rfl Tryz.underlying89 rfl) ?_))
 refine Ops.pn rfl (bQ ?_)
 exact ⟨K0.mono jp, rfl⟩
end
end Go.Proofs.YtjklfpccmaljjaaGreatDoor
