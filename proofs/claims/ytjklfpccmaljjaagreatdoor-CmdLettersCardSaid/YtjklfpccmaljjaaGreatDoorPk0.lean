/-
  Lemmas on the way, joined: EngA, Ty, EngB, Eng18, Eng20, Eng26.
-/
import Derived.WalkKit
import Derived.StillTail
import Derived.Deep.Quiet
import Derived.Deep.LoopGhost
import Derived.Deep.AppendLies
import Derived.Maps.AppendAt
import Derived.RangeFuncCalls
import Derived.TacticsIn
import Derived.OrdersIn
import Derived.Sort.LoopGhostIn
import Derived.Laws.OwnMore
import Derived.Laws.Tables
import Derived.Laws.BytesString
import Derived.OrdersHeld
import Derived.ProofKit
import Derived.Deep.Slices
import Derived.Deep.Fields
import Derived.OpenShut
import Derived.ChangeSame
import Derived.ShutString
import Derived.ChangeOld
import Derived.Laws.CopyRow
import Derived.Test.YtjklfpccmaljjaaGreatDoorRows
import Derived.KernelRfl
import Derived.Recover
import Derived.Deep.Strs
import Derived.Laws.IdiomStrings
import Derived.Sort.Walk0
import Derived.Sort.EncStr
import Derived.Maps.Keyed
import Derived.DeepKeys4
import Derived.Carry
set_option maxRecDepth 100000
set_option linter.unusedVariables false
set_option linter.unusedSimpArgs false
set_option maxHeartbeats 8000000
namespace Go.Proofs.YtjklfpccmaljjaaGreatDoor
theorem au {p : Prop} (h : p := by first | rfl | assumption | exact decide_eq_true (by assumption) | exact decide_eq_false (by assumption) | decide | (simp; done) | (simp; omega) | (simp [*]; done)) : p := h
theorem jo {p : Prop} (h : p := by omega) : p := h
theorem jp {p : Prop} (h : p := by simp) : p := h
theorem jd {p : Prop} (h : p := by decide) : p := h
section
open Go.RowKit
abbrev Env := List (Nat × Value)
def get? : Env → Nat → Option Value
 | [], _ => none
 | (k, v) :: r, t => bif Nat.beq k t then some v else get? r t
def ev? (Γ : Env) : Operand → Option Value
 | .tmp t => get? Γ t
 | .const v => some v
 | .global g => some (.pointer (some ⟨g, 0, none⟩))
 | .func f => some (.func (.func f) #[] #[])
def mA (ρ : Operand → Value) (Γ : Env) : Prop := ∀ x v, ev? Γ x = some v → ρ x = v
structure NF where
 n : Nat
 D : List Deferred
 ro : Option Nat
structure Sat (n : NF) (Γ : Env) (a : Act) : Prop where
 size : a.tmps.size = n.n
 defers : a.defers = n.D
 at_ : ∀ t v, get? Γ t = some v → a.tmps.getD t undef = v
def Sub (Γ : Env) : Env → Prop
 | [] => True
 | (k, v) :: r => get? Γ k = some v ∧ Sub Γ r
section
variable {n : NF} {Γ Γ' : Env} {a : Act}
theorem Sat.fits (h : Sat n Γ a) : mA a.eval Γ := by
 intro x v hx
 cases x with
 | tmp t => exact h.at_ t v hx
 | const u => simp only [ev?, Option.some.injEq] at hx; subst hx; rfl
 | global g => simp only [ev?, Option.some.injEq] at hx; subst hx; rfl
 | func f => simp only [ev?, Option.some.injEq] at hx; subst hx; rfl
theorem Sat.put (h : Sat n Γ a) {d : Nat} (hd : Nat.blt d n.n = true) (v : Value) : Sat n ((d, v) :: Γ) (a.put (some d) v) := by
 refine ⟨by simpa [Act.put] using h.size, by simpa [Act.put] using h.defers, ?_⟩
 intro t u ht
 have hd' : d < n.n := by simpa [Nat.blt_eq] using hd
 have hs := h.size
 by_cases e : d = t
 ·
  subst e
  simp only [get?, Nat.beq_refl, cond_true, Option.some.injEq] at ht
  subst ht
  simp [Act.put, Array.getD, hs, hd']
 have e' : Nat.beq d t = false := by
  cases hb : Nat.beq d t with
  | false => rfl
  | true => exact absurd (Nat.eq_of_beq_eq_true hb) e
 simp only [get?, e', cond_false] at ht
 have := h.at_ t u ht
 simp only [Act.put, Array.getD_eq_getD_getElem?] at this ⊢
 rw [Array.getElem?_setIfInBounds]
 rw [if_neg e]
 exact this
theorem Sub.get (h : Sub Γ Γ') : ∀ t v, get? Γ' t = some v → get? Γ t = some v := by
 induction Γ' with
 | nil => intro t v ht; simp [get?] at ht
 | cons p r ih =>
  obtain ⟨k, u⟩ := p
  intro t v ht
  simp only [get?] at ht
  cases hb : Nat.beq k t with
  | true =>
   rw [hb] at ht
   simp only [cond_true, Option.some.injEq] at ht
   subst ht
   have := Nat.eq_of_beq_eq_true hb
   subst this
   exact h.1
  | false =>
   rw [hb] at ht
   exact ih h.2 t v ht
theorem Sat.sub (h : Sat n Γ a) (hs : Sub Γ Γ') : Sat n Γ' a := ⟨h.size, h.defers, fun t v ht => h.at_ t v (hs.get t v ht)⟩
end
def gW (n : NF) (Q : Exit → Env → World → Prop) (e : Exit) (a : Act) (w : World) : Prop := ∃ Γ, Sat n Γ a ∧ Q e Γ w
def wd (ro : Option Nat) : Fence := { Fence.wide with round := ro }
theorem kX {ro : Option Nat} {m : Nat} {P : Program} {f : FuncId} {args : Array Value} {w : World} {R : Ending → World → Prop} : CallsIn (wd ro) m P f args w R ↔ Calls P f args w R :=
 (Iff.rfl : CallsIn (wd ro) m P f args w R ↔ CallsIn Fence.wide m P f args w R).trans callsIn_wide
theorem dK {ro : Option Nat} {P : Program} {o : Oper} {w : World} {ρ : Operand → Value} : ∀ f, o.about P w ρ = some f → (wd ro).fn f := fun _ _ => trivial
theorem fL {ro : Option Nat} {P : Program} {o : Oper} {ρ : Operand → Value} {w w' : World} {r : Next} (h : (execOp ρ o).run P w = .ok r w') (hr : ∀ d, r ≠ .defer d) : (o.semAt ro ρ).run P w = .ok r w' := by
 cases ho : o.op with
 | defer c =>
  exfalso
  simp only [execOp, ho, Sem.run_bind] at h
  cases hx : (resolve ρ c o.type).run P w with
  | ok d w1 =>
   rw [hx] at h
   simp at h
   exact hr d h.1.symm
  | halt x w1 => rw [hx] at h; simp at h
 | _ => rw [Oper.semAt_eq]; exact h; intro c; rw [ho]; simp
theorem uG {ro : Option Nat} {P : Program} {o : Oper} {ρ : Operand → Value} {w w' : World} {v : Value} (h : (execOp ρ o).run P w = .halt (.panic v) w') : (o.semAt ro ρ).run P w = .halt (.panic v) w' := by
 cases ho : o.op with
 | defer c =>
  cases ro with
  | none => exact h
  | some l =>
   simp only [execOp, ho, Sem.run_bind] at h
   simp only [Oper.semAt, ho, Sem.run_bind]
   cases hx : (resolve ρ c o.type).run P w with
   | ok d w1 => rw [hx] at h; simp at h
   | halt x w1 => rw [hx] at h; simpa using h
 | _ => rw [Oper.semAt_eq]; exact h; intro c; rw [ho]; simp
def VC (P : Program) (n : NF) (c : Code) (Γ : Env) (w : World) (Q : Exit → Env → World → Prop) : Prop := ∀ a, Sat n Γ a → ∀ m, c.wpIn (wd n.ro) m P (gW n Q) a w
def Ops (P : Program) (n : NF) (ops : Array Oper) (l : List Oper) (Γ : Env) (w : World) (Q : Exit → Env → World → Prop) : Prop :=
 ∀ a, Sat n Γ a → ∀ m, wpListIn (wd n.ro) m P ops (gW n Q) l a w
def fT (K : Env → World → Prop) (Q : Exit → Env → World → Prop) : Exit → Env → World → Prop
 | .normal, Γ, w => K Γ w
 | e, Γ, w => Q e Γ w
def fR (id : Nat) (Q : Exit → Env → World → Prop) : Exit → Env → World → Prop
 | .exit i, Γ, w => if i = id then Q .normal Γ w else Q (.exit i) Γ w
 | e, Γ, w => Q e Γ w
section
variable {P : Program} {n : NF} {Γ Γ' : Env} {w : World} {Q Q' : Exit → Env → World → Prop}
theorem yJ (h : ∀ e Γ w, Q e Γ w → Q' e Γ w) (e : Exit) (a : Act) (w : World) (hq : gW n Q e a w) : gW n Q' e a w :=
 let ⟨Γ, hs, q⟩ := hq; ⟨Γ, hs, h _ _ _ q⟩
theorem VC.mono {c : Code} (h : VC P n c Γ w Q) (hq : ∀ e Γ w, Q e Γ w → Q' e Γ w) : VC P n c Γ w Q' :=
 fun a hs m => wpIn_mono (h a hs m) (yJ hq)
theorem VC.sub {c : Code} (Γ' : Env) (hs : Sub Γ Γ') (h : VC P n c Γ' w Q) : VC P n c Γ w Q := fun a ha => h a (ha.sub hs)
theorem VC.seq {x y : Code} (h : VC P n x Γ w (fT (fun Γ' w' => VC P n y Γ' w' Q) Q)) : VC P n (.seq x y) Γ w Q := by
 intro a hs m
 refine wpIn_seq (wpIn_mono (h a hs m) ?_)
 intro e a' w' hq
 obtain ⟨Γ', hs', q⟩ := hq
 cases e with
 | normal => exact q a' hs' m
 | exit id => exact ⟨Γ', hs', q⟩
 | goto l => exact ⟨Γ', hs', q⟩
 | ret => exact ⟨Γ', hs', q⟩
 | panic c => exact ⟨Γ', hs', q⟩
 | outgrown => exact ⟨Γ', hs', q⟩
theorem VC.skip (h : Q .normal Γ w) : VC P n .skip Γ w Q := fun _ hs _ => wpIn_skip ⟨Γ, hs, h⟩
theorem VC.ret (h : Q .ret Γ w) : VC P n .ret Γ w Q := fun _ hs _ => wpIn_ret ⟨Γ, hs, h⟩
theorem VC.exit {id : Nat} (h : Q (.exit id) Γ w) : VC P n (.exit id) Γ w Q := fun _ hs _ => wpIn_exit ⟨Γ, hs, h⟩
theorem VC.condB {c : Operand} {x y : Code} {b : Bool} (hc : ev? Γ c = some (.bool b)) (ht : b = true → VC P n x Γ w Q) (hf : b = false → VC P n y Γ w Q) :
  VC P n (.cond c x y) Γ w Q := by
 intro a hs m
 have e := hs.fits _ _ hc
 exact wpIn_cond_split e (fun h => ht h a hs m) (fun h => hf h a hs m)
theorem VC.condT {c : Operand} {x y : Code} {b : Bool} (hc : ev? Γ c = some (.bool b)) (hb : b = true) (h : VC P n x Γ w Q) : VC P n (.cond c x y) Γ w Q :=
 VC.condB hc (fun _ => h) (fun e => by rw [hb] at e; cases e)
theorem VC.condF {c : Operand} {x y : Code} {b : Bool} (hc : ev? Γ c = some (.bool b)) (hb : b = false) (h : VC P n y Γ w Q) : VC P n (.cond c x y) Γ w Q :=
 VC.condB hc (fun e => by rw [hb] at e; cases e) (fun _ => h)
theorem VC.condD {c : Operand} {x y : Code} {p : Prop} [Decidable p] (hc : ev? Γ c = some (.bool (decide p))) (ht : p → VC P n x Γ w Q) (hf : ¬ p → VC P n y Γ w Q) :
  VC P n (.cond c x y) Γ w Q :=
 VC.condB hc (fun e => ht (of_decide_eq_true e)) (fun e => hf (of_decide_eq_false e))
theorem VC.block {id : Nat} {c : Code} (h : VC P n c Γ w (fR id Q)) : VC P n (.block id c) Γ w Q := by
 intro a hs m
 refine wpIn_block (wpIn_mono (h a hs m) ?_)
 intro e a' w' hq
 obtain ⟨Γ', hs', q⟩ := hq
 cases e with
 | normal => exact ⟨Γ', hs', q⟩
 | exit i =>
  simp only [fR] at q
  by_cases hi : i = id
  · rw [if_pos hi] at q; simp only [Exit.inBlock, hi, if_true]; exact ⟨Γ', hs', q⟩
  rw [if_neg hi] at q; simp only [Exit.inBlock, hi, if_false]; exact ⟨Γ', hs', q⟩
 | goto l => exact ⟨Γ', hs', q⟩
 | ret => exact ⟨Γ', hs', q⟩
 | panic c => exact ⟨Γ', hs', q⟩
 | outgrown => exact ⟨Γ', hs', q⟩
theorem VC.loop {σ : Type} {c : Code} (env : σ → Env) (inv : σ → World → Prop) (μ : σ → Nat) (s0 : σ) (hs0 : Sub Γ (env s0)) (h0 : inv s0 w)
  (round : ∀ s w, inv s w → VC P n c (env s) w (fT (fun Γ' w' => ∃ s', Sub Γ' (env s') ∧ inv s' w' ∧ μ s' < μ s) Q)) : VC P n (.loop c) Γ w Q := by
 intro a hs m0
 refine wpIn_loop_ghost (fun m a w => ∃ s, μ s = m ∧ Sat n (env s) a ∧ inv s w) (μ s0) ⟨s0, rfl, hs.sub hs0, h0⟩ ?_
 rintro m a w ⟨s, rfl, hsa, hi⟩
 refine wpIn_mono (round s w hi a hsa m0) ?_
 intro e a' w' hq
 obtain ⟨Γ', hs', q⟩ := hq
 cases e with
 | normal =>
  obtain ⟨s', hsub, hinv, hlt⟩ := q
  exact ⟨μ s', hlt, s', rfl, hs'.sub hsub, hinv⟩
 | exit id => exact ⟨Γ', hs', q⟩
 | goto l => exact ⟨Γ', hs', q⟩
 | ret => exact ⟨Γ', hs', q⟩
 | panic c => exact ⟨Γ', hs', q⟩
 | outgrown => exact ⟨Γ', hs', q⟩
theorem VC.region {id : Nat} {l : List Oper} (h : Ops P n l.toArray l Γ w Q) : VC P n (.region id l.toArray false) Γ w Q := fun a hs m => wpIn_region_lit (h a hs m)
theorem Ops.nil {ops : Array Oper} (h : Q .normal Γ w) : Ops P n ops [] Γ w Q := fun _ hs _ => wpListIn_nil ⟨Γ, hs, h⟩
def Run (P : Program) (o : Oper) (Γ : Env) (w : World) (v : Value) : Prop := ∀ ρ, mA ρ Γ → (execOp ρ o).run P w = .ok (.value v) w
def qH (P : Program) (o : Oper) (Γ : Env) (w : World) (R : Value → World → Prop) : Prop := ∀ ρ, mA ρ Γ → ∃ v w', (execOp ρ o).run P w = .ok (.value v) w' ∧ R v w'
def qJ (P : Program) (o : Oper) (Γ : Env) (w : World) (R : World → Prop) : Prop := ∀ ρ, mA ρ Γ → ∃ w', (execOp ρ o).run P w = .ok .skip w' ∧ R w'
def bJ (P : Program) (o : Oper) (Γ : Env) (w : World) (f : FuncId) (args : Array Value) : Prop := ∀ ρ, mA ρ Γ → (execOp ρ o).run P w = .ok (.enter f args) w
def sR (P : Program) (o : Oper) (Γ : Env) (w : World) (v : Value) : Prop := ∀ ρ, mA ρ Γ → (execOp ρ o).run P w = .halt (.panic v) w
def yi (ops : Array Oper) (Γ : Env) (j : Nat) : Option Value := ((ops[j]?).bind (·.dst)).bind (get? Γ)
theorem nT {ops : Array Oper} {j : Nat} {b : Bool} {a : Act} (hs : Sat n Γ a) (h : yi ops Γ j = some (.bool b)) : yielded ops a.tmps j = some b := by
 unfold yi at h
 unfold yielded
 cases hd : (ops[j]?).bind (·.dst) with
 | none => rw [hd] at h; simp at h
 | some t =>
  rw [hd] at h
  simp only [Option.bind_some] at h ⊢
  have := hs.at_ t _ h
  rw [Array.getD_eq_getD_getElem?] at this
  cases hg : a.tmps[t]? with
  | none => rw [hg] at this; simp [undef] at this
  | some u => rw [hg] at this; simp only [Option.getD_some] at this; subst this; rfl
def Up (ops : Array Oper) (Γ : Env) (g : Option (Nat × Bool)) : Prop :=
 match g with
 | none => True
 | some (j, b) => yi ops Γ j = some (.bool b)
theorem Up.wanted {ops : Array Oper} {o : Oper} {a : Act} (hs : Sat n Γ a) (h : Up ops Γ o.guard) : Region.wanted o (yielded ops a.tmps) = true := by
 unfold Region.wanted
 unfold Up at h
 split
 · rfl
 rename_i j b hg
 rw [hg] at h
 simp only at h
 rw [nT hs h]
 simp
section
variable {ops : Array Oper} {rest : List Oper} {o : Oper}
theorem Ops.of_wp (hup : Up ops Γ o.guard) (h : ∀ a, Sat n Γ a → ∀ m, o.wpIn (wd n.ro) m P a w (wpListIn (wd n.ro) m P ops (gW n Q) rest) (gW n Q)) : Ops P n ops (o :: rest) Γ w Q := by
 intro a hs m
 unfold wpListIn
 rw [if_pos (hup.wanted hs)]
 exact h a hs m
theorem Ops.run {v : Value} (h : Run P o Γ w v) {d : Nat} (hup : Up ops Γ o.guard) (hd : o.dst = some d) (hn : Nat.blt d n.n = true)
  (k : Ops P n ops rest ((d, v) :: Γ) w Q) : Ops P n ops (o :: rest) Γ w Q :=
 Ops.of_wp hup fun a hs m => by
  refine ⟨dK, ?_⟩
  rw [fL (h _ hs.fits) jp, Oper.uponIn_value, hd]
  exact k _ (hs.put hn v) m
theorem Ops.does {R : Value → World → Prop} (h : qH P o Γ w R) {d : Nat} (hup : Up ops Γ o.guard) (hd : o.dst = some d) (hn : Nat.blt d n.n = true)
  (k : ∀ v w', R v w' → Ops P n ops rest ((d, v) :: Γ) w' Q) : Ops P n ops (o :: rest) Γ w Q :=
 Ops.of_wp hup fun a hs m => by
  obtain ⟨v, w', hr, hR⟩ := h _ hs.fits
  refine ⟨dK, ?_⟩
  rw [fL hr jp, Oper.uponIn_value, hd]
  exact k v w' hR _ (hs.put hn v) m
theorem Ops.acts {R : World → Prop} (h : qJ P o Γ w R) (hup : Up ops Γ o.guard) (hd : o.dst = none)
  (k : ∀ w', R w' → Ops P n ops rest Γ w' Q) : Ops P n ops (o :: rest) Γ w Q :=
 Ops.of_wp hup fun a hs m => by
  obtain ⟨w', hr, hR⟩ := h _ hs.fits
  refine ⟨dK, ?_⟩
  rw [fL hr jp, Oper.uponIn_skip, hd]
  exact k w' hR _ hs m
theorem Ops.skip {j : Nat} {b c : Bool} (hg : o.guard = some (j, c)) (hy : yi ops Γ j = some (.bool b)) (hbc : b = ! c) {d : Nat} (hd : o.dst = some d) (hn : Nat.blt d n.n = true)
  (k : Ops P n ops rest ((d, undef) :: Γ) w Q) : Ops P n ops (o :: rest) Γ w Q := by
 intro a hs m
 unfold wpListIn
 have hw : Region.wanted o (yielded ops a.tmps) = false := by
  unfold Region.wanted
  rw [hg]
  simp only
  rw [nT hs hy, hbc]
  cases c <;> rfl
 rw [hw, hd]
 simp only [Bool.false_eq_true, if_false]
 exact ⟨dK, k _ (hs.put hn undef) m⟩
theorem Ops.call {f : FuncId} {args : Array Value} {R : Ending → World → Prop} (he : bJ P o Γ w f args) (hc : Calls P f args w R) {d : Nat} (hup : Up ops Γ o.guard) (hd : o.dst = some d) (hn : Nat.blt d n.n = true)
  (k : ∀ e w', R e w' → ∃ v, e = .returned v ∧ Ops P n ops rest ((d, v) :: Γ) w' Q) : Ops P n ops (o :: rest) Γ w Q :=
 Ops.of_wp hup fun a hs m => by
  refine ⟨dK, ?_⟩
  rw [fL (he _ hs.fits) jp, Oper.uponIn_enter, hd]
  refine ⟨fun h => by simp [wd, Fence.wide] at h, kX.2 (hc.mono ?_)⟩
  intro e w' hR
  obtain ⟨v, rfl, hk⟩ := k e w' hR
  exact hk _ (hs.put hn v) m
theorem Ops.callP {f : FuncId} {args : Array Value} {R : Ending → World → Prop} (he : bJ P o Γ w f args) (hc : Calls P f args w R) {d : Nat} (hup : Up ops Γ o.guard) (hd : o.dst = some d) (hn : Nat.blt d n.n = true)
  (k : ∀ e w', R e w' → (∃ v, e = .returned v ∧ Ops P n ops rest ((d, v) :: Γ) w' Q) ∨ (∃ ch, e = .panicked ch ∧ Q (.panic ch) Γ w')) : Ops P n ops (o :: rest) Γ w Q :=
 Ops.of_wp hup fun a hs m => by
  refine ⟨dK, ?_⟩
  rw [fL (he _ hs.fits) jp, Oper.uponIn_enter, hd]
  refine ⟨fun h => by simp [wd, Fence.wide] at h, kX.2 (hc.mono ?_)⟩
  intro e w' hR
  rcases k e w' hR with ⟨v, rfl, hk⟩ | ⟨ch, rfl, hk⟩
  · exact hk _ (hs.put hn v) m
  exact ⟨Γ, hs, hk⟩
theorem Ops.falls {v : Value} (h : sR P o Γ w v) (hup : Up ops Γ o.guard) (k : Q (.panic [{ v, recovered := false }]) Γ w) : Ops P n ops (o :: rest) Γ w Q :=
 Ops.of_wp hup fun a hs m => by
  refine ⟨dK, ?_⟩
  rw [uG (h _ hs.fits), Oper.uponIn_panic]
  exact ⟨Γ, hs, k⟩
end
def eV (ops : Array Oper) : Bool := ops.all fun o => match o.op with | .defer _ => false | _ => true
theorem wH {ops : Array Oper} (h : eV ops = true) {i : Nat} {o : Oper} (hi : ops[i]? = some o) : ∀ c, o.op ≠ .defer c := by
 intro c hc
 unfold eV at h
 rw [Array.all_eq_true'] at h
 obtain ⟨hlt, rfl⟩ := Array.getElem?_eq_some_iff.1 hi
 have := h ops[i] (Array.getElem_mem hlt)
 rw [hc] at this
 cases this
theorem yK {ro : Option Nat} {m : Nat} {row : String} {args : Array Value} {R : Value → World → Prop} (h : Rows P row args w R) : RowsIn (wd ro) m P row args w R := fun c cs _ =>
 let ⟨v, w', r, s⟩ := h c cs; ⟨v, w', r, stepsIn_wide.2 s⟩
theorem Oper.wp_in {ro : Option Nat} {m : Nat} {o : Oper} {a : Act} {K K' : Act → World → Prop} {QQ : Exit → Act → World → Prop} (hnd : ro = none ∨ ∀ c, o.op ≠ .defer c) (hK : ∀ a w, K a w → K' a w) (h : o.wp P a w K QQ) : o.wpIn (wd ro) m P a w K' QQ := by
 refine ⟨dK, ?_⟩
 have e : o.semAt (wd ro).round a.eval = execOp a.eval o := by
  rcases hnd with h | h
  · subst h; rfl
  exact Oper.semAt_eq _ _ _ h
 rw [e]
 unfold Oper.wp at h
 cases hr : (execOp a.eval o).run P w with
 | ok r w' =>
  rw [hr] at h
  cases r with
  | value v => exact hK _ _ h
  | skip => exact hK _ _ h
  | defer d => exact hK _ _ h
  | enter f args =>
   rw [Oper.uponIn_enter]
   rw [Oper.upon_enter] at h
   refine ⟨fun h => by simp [wd, Fence.wide] at h, kX.2 (h.mono ?_)⟩
   intro e w' he
   cases e with
   | returned v => exact hK _ _ he
   | panicked c => exact he
   | outgrown => exact he
  | row row args =>
   rw [Oper.uponIn_row]
   rw [Oper.upon_row] at h
   exact ⟨fun h => by simp [wd, Fence.wide] at h, yK (h.mono fun v w' he => hK _ _ he)⟩
  | _ => exact h.elim
 | halt x w' =>
  rw [hr] at h
  cases x with
  | panic v => exact h
  | _ => exact h.elim
theorem vY {ro : Option Nat} {m : Nat} {ops : Array Oper} {i : Nat} {a : Act} {K K' : Act → World → Prop} {QQ : Exit → Act → World → Prop} (hnd : ro = none ∨ eV ops = true) (hL : ¬ LetsOut QQ) (hK : ∀ a w, K a w → K' a w) (h : wpOp P ops QQ i K a w) : wpOpIn (wd ro) m P ops QQ i K' a w := by
 unfold wpOp at h
 unfold wpOpIn
 cases ho : ops[i]? with
 | none => rw [ho] at h; exact hK _ _ h
 | some o =>
  rw [ho] at h
  dsimp only at h ⊢
  split
  ·
   rename_i hw
   rw [if_pos hw] at h
   rcases h with h | ⟨_, h⟩
   · exact Oper.wp_in (hnd.imp id fun h => wH h ho) hK h
   exact absurd h hL
  rename_i hw
  rw [if_neg hw] at h
  exact ⟨dK, hK _ _ h⟩
theorem lC {ro : Option Nat} {m : Nat} {ops : Array Oper} {QQ : Exit → Act → World → Prop} (hnd : ro = none ∨ eV ops = true) (hL : ¬ LetsOut QQ) : ∀ (f : Nat) (listed : Array Bool) (a : Act) (w : World), wpAny P .any ops QQ f listed a w → wpAnyIn (wd ro) m P .any ops QQ f listed a w
 | 0, _, _, _, h => h
 | f + 1, listed, a, w, h => ⟨h.1, fun i hi => vY hnd hL (fun a w h => lC hnd hL f _ a w h) (h.2 i hi)⟩
theorem lS {ro : Option Nat} {m : Nat} {ops : Array Oper} {QQ : Exit → Act → World → Prop} : ∀ (l : List Oper) (k : Nat) (listed : Array Bool) (a : Act) (w : World), (∀ j, l[j]? = ops[k + j]?) →
  Region.seqB .any ops l.length k listed = true → wpListIn (wd ro) m P ops QQ l a w → wpAnyIn (wd ro) m P .any ops QQ l.length listed a w
 | [], _, _, _, _, _, hB, h => ⟨by simpa [Region.seqB] using hB, h⟩
 | o :: l, k, listed, a, w, hl, hB, h => by
  have h0 : ops[k]? = some o := by simpa using (hl 0).symm
  simp only [List.length_cons, Region.seqB, Bool.and_eq_true, decide_eq_true_eq] at hB
  refine ⟨fun h1 => (by rw [hB.1] at h1; cases h1), fun i hi => ?_⟩
  rw [hB.1] at hi
  have hik : i = k := by simpa using hi
  subst hik
  have hw : wpOpIn (wd ro) m P ops QQ i (wpListIn (wd ro) m P ops QQ l) a w := by unfold wpOpIn; simp only [h0]; exact h
  exact wpOpIn_mono (fun a' w' h' => lS l (i + 1) _ a' w' (fun j => by have := hl (j + 1); simpa [Nat.add_assoc, Nat.add_comm 1 j] using this) hB.2 h') hw
theorem LetsOut.mono {Q Q' : Exit → Act → World → Prop} (h : ∀ e a w, Q e a w → Q' e a w) (hl : LetsOut Q) : LetsOut Q' := let ⟨a, w, q⟩ := hl; ⟨a, w, h _ _ _ q⟩
theorem uH {F : Fence} {m : Nat} {ops : Array Oper} {Q Q' : Exit → Act → World → Prop} {i : Nat} {K : Act → World → Prop} {a : Act} {w : World} (h : ∀ e a w, Q e a w → Q' e a w) (hh : wpOpIn F m P ops Q i K a w) : wpOpIn F m P ops Q' i K a w := by
 unfold wpOpIn at *
 split
 · simpa [*] using hh
 rename_i o ho
 simp only [ho] at hh
 split
 ·
  rename_i hw
  simp only [hw, if_true] at hh
  unfold Oper.wpIn at *
  refine ⟨hh.1, ?_⟩
  have hh := hh.2
  generalize (o.semAt F.round a.eval).run P w = r at *
  cases r with
  | ok x w' =>
   cases x <;> simp only [Oper.uponIn] at hh ⊢ <;>
    first
     | exact hh
     | exact ⟨hh.1, CallsIn.mono hh.2 (fun e w'' he => by cases e <;> first | exact he | exact h _ _ _ he | exact LetsOut.mono h he)⟩
     | exact ⟨hh.1, RoundIn.mono hh.2 (fun e w'' he => by cases e <;> first | exact he | exact h _ _ _ he | exact LetsOut.mono h he)⟩
  | halt x w' => cases x <;> simp only [Oper.uponIn] at hh ⊢ <;> first | exact hh | exact h _ _ _ hh
 rename_i hw; simp only [hw] at hh; exact hh
theorem kO {ro : Option Nat} {m : Nat} {ops : Array Oper} {QQ : Exit → Act → World → Prop} {n g : Nat} {L : Array Bool → Act → Prop} (hnd : ro = none ∨ eV ops = true) (hL : ∀ listed a, L listed a → wpAnyIn (wd ro) m P .any ops QQ g listed a w) :
  ∀ (f : Nat) (listed : Array Bool) (a : Act), wpAnyL P .any ops w n L f listed a → wpAnyIn (wd ro) m P .any ops QQ (f + g) listed a w
 | 0, listed, a, h => by rw [Nat.zero_add]; exact hL _ _ h
 | f + 1, listed, a, h => by
  rw [show f + 1 + g = (f + g) + 1 by omega]
  refine ⟨fun h0 => absurd h0 h.1, fun i hi => ?_⟩
  have h2 := wpOp_of_stOp (Q' := fun _ _ _ => False) (K' := fun a' w' => w' = w ∧ wpAnyL P .any ops w n L f (listed.setIfInBounds i true) a') (fun a' h' => ⟨rfl, h'⟩) (h.2 i hi).2
  have h3 := vY (ro := ro) (m := m) (K' := fun a' w' => wpAnyIn (wd ro) m P .any ops QQ (f + g) (listed.setIfInBounds i true) a' w') hnd (fun ⟨_, _, h⟩ => h) (fun a' w' h' => by rw [h'.1]; exact kO hnd hL f _ a' h'.2) h2
  exact uH (fun e a w h => h.elim) h3
def qL (w w' : World) : Prop := ∃ m, w' = w.drewN m
section
variable {ops : Array Oper} {rest : List Oper} {o : Oper} {K : Env → Prop}
end
def bG (P : Program) (n : NF) (ops : Array Oper) (l : List Oper) (Γ : Env) (w : World) (K : Env → Prop) : Prop :=
 ∀ a, Sat n Γ a → wpStill P ops w (fun a' => ∃ Γ', Sat n Γ' a' ∧ K Γ') l a
section
variable {ops : Array Oper} {rest : List Oper} {o : Oper} {K : Env → Prop}
theorem gZ {K K' : Act → Prop} (h : ∀ a, K a → K' a) : ∀ (l : List Oper) (a : Act), wpStill P ops w K l a → wpStill P ops w K' l a
 | [], a, hq => h a hq
 | o :: l, a, hq => by
  unfold wpStill at hq ⊢
  split
  · rename_i hw; rw [if_pos hw] at hq; exact Oper.still_mono (fun a => gZ h l a) hq
  rename_i hw; rw [if_neg hw] at hq; exact gZ h l _ hq
theorem bG.nil (h : K Γ) : bG P n ops [] Γ w K := fun _ hs => wpStill_nil ⟨Γ, hs, h⟩
theorem bG.of_still (hup : Up ops Γ o.guard) (h : ∀ a, Sat n Γ a → o.still P a w (wpStill P ops w (fun a' => ∃ Γ', Sat n Γ' a' ∧ K Γ') rest)) : bG P n ops (o :: rest) Γ w K := by
 intro a hs
 unfold wpStill
 rw [if_pos (hup.wanted hs)]
 exact h a hs
theorem bG.run {v : Value} (h : Run P o Γ w v) {d : Nat} (hup : Up ops Γ o.guard) (hd : o.dst = some d) (hn : Nat.blt d n.n = true)
  (k : bG P n ops rest ((d, v) :: Γ) w K) : bG P n ops (o :: rest) Γ w K :=
 bG.of_still hup fun a hs => by
  unfold Oper.still
  rw [h _ hs.fits, Oper.stillUpon_value, hd]
  exact k _ (hs.put hn v)
end
theorem VC.tail {id : Nat} {l : List Oper} (N : Nat) (hm : P.follows .mixedOrders = true) (hB : Region.lexTailB .any l.toArray N = true)
  (h : bG P n l.toArray (l.take N) Γ w.drew (fun Γ' => Ops P n l.toArray (l.drop N) Γ' w.drew Q)) (hnd : n.ro = none ∨ eV l.toArray = true := by first | exact .inl rfl | exact .inr (by kernel_rfl)) : VC P n (.region id l.toArray true) Γ w Q := by
 intro a hs m
 have h1 := gZ (K' := fun a' => wpListIn (wd n.ro) m P l.toArray (gW n Q) (l.drop N) a' w.drew) (fun a' ⟨Γ', hs', hk⟩ => hk a' hs' m) _ a (h a hs)
 simp only [Region.lexTailB, Bool.and_eq_true, decide_eq_true_eq] at hB
 obtain ⟨⟨⟨⟨hsel, hn⟩, hsk⟩, hc⟩, hlex⟩ := hB
 have htl : (l.take N).length = N := by simp; simp at hn; omega
 have hdl : (l.drop N).length = l.toArray.size - N := jp
 have inv0 : HeadInv .any l.toArray N (Array.replicate l.toArray.size false) :=
  ⟨jp, fun j oj _ hl => (by rw [getD_replicate_false] at hl; cases hl), fun t _ ht => getD_in (by simpa using ht) (getD_replicate_false _ _)⟩
 have H := wpAnyL_lex (md := .any) (g := l.toArray.size - N) hsel hsk hc hn (l.take N) 0 _ a (fun j hj => by
  have hj' : j < N := by rw [htl] at hj; exact hj
  simp [hj']) (by simpa using htl) inv0 (by rw [htl]; exact hlex) h1
 refine wpIn_region_any hm ?_
 have := kO (QQ := gW n Q) (g := l.toArray.size - N) hnd (fun listed a' hL => by
  have := lS (QQ := gW n Q) (l.drop N) N listed a' w.drew (fun j => by simp [List.getElem?_drop]) (by rw [hdl]; exact hL.1) hL.2
  rwa [hdl] at this) _ _ _ H
 rw [htl, show N + (l.toArray.size - N) = l.toArray.size by simp at hn ⊢; omega] at this
 exact this
theorem VC.still {id : Nat} {l : List Oper} (hm : P.follows .mixedOrders = true) (hB : Region.lexB .any l.toArray = true)
  (h : bG P n l.toArray l Γ w.drew (fun Γ' => Q .normal Γ' w.drew)) (hnd : n.ro = none ∨ eV l.toArray = true := by first | exact .inl rfl | exact .inr (by kernel_rfl)) : VC P n (.region id l.toArray true) Γ w Q := by
 intro a hs m
 have h1 := gZ (K' := fun a' => gW n Q .normal a' w.drew) (fun a' ⟨Γ', hs', hk⟩ => ⟨Γ', hs', hk⟩) _ a (h a hs)
 simp only [Region.lexB, Bool.and_eq_true] at hB
 refine wpIn_mono (Q := fun e a w => e = .normal ∧ gW n Q .normal a w) (wpIn_region_any hm (lC (QQ := fun e a w => e = .normal ∧ gW n Q .normal a w) hnd (fun ⟨_, _, h⟩ => by cases h.1) _ _ _ _
  (wpAny_of_still (w := w.drew) (Q := fun a' => gW n Q .normal a' w.drew) (fun _ h => ⟨rfl, h⟩) _ _ _ ?_))) (fun e a w h => by rw [h.1]; exact h.2)
 have := wpAnyS_lex (md := .any) hB.1 l.toArray.toList 0 (Array.replicate l.toArray.size false) a jp (by simpa using hB.2) (by simpa using h1)
 simpa using this
def wM (tmps : Array Value) : ResultVar → Sem Value
 | .tmp t => pure (tmps.getD t undef)
 | .cell a t => do loadVar t (← asAddr (tmps.getD a undef))
def sC : List Value → Value
 | [v] => v
 | l => .tuple l.toArray
theorem wN (fn : Func) (tmps : Array Value) : results fn tmps = (do let vs ← fn.results.mapM (wM tmps); pure (if h : vs.size = 1 then vs[0] else .tuple vs)) := by
 unfold results
 congr 1
def fB (P : Program) : List ResultVar → Env → World → (List Value → Prop) → Prop
 | [], _, _, K => K []
 | .tmp t :: r, Γ, w, K => ∃ v, get? Γ t = some v ∧ fB P r Γ w fun vs => K (v :: vs)
 | .cell t T :: r, Γ, w, K => ∃ a v, get? Γ t = some (.pointer (some a)) ∧ (loadVar T a).run P w = .ok v w ∧ fB P r Γ w fun vs => K (v :: vs)
theorem oJ {P : Program} {n : NF} {Γ : Env} {a : Act} {w : World} (hs : Sat n Γ a) : ∀ (l : List ResultVar) (K : List Value → Prop), fB P l Γ w K → ∃ vs, (l.mapM (wM a.tmps)).run P w = .ok vs w ∧ K vs
 | [], K, h => ⟨[], jp, h⟩
 | .tmp t :: r, K, h => by
  obtain ⟨v, h1, h2⟩ := h
  obtain ⟨vs, h3, h4⟩ := oJ hs r _ h2
  have h5 := hs.at_ t v h1
  refine ⟨v :: vs, ?_, h4⟩
  rw [List.mapM_cons]
  simp [wM, h3]
  simpa using h5
 | .cell t T :: r, K, h => by
  obtain ⟨p, v, h1, h2, h3⟩ := h
  obtain ⟨vs, h4, h5⟩ := oJ hs r _ h3
  have h6 := hs.at_ t _ h1
  refine ⟨v :: vs, ?_, h5⟩
  have h7 : (asAddr (.pointer (some p))).run P w = .ok p w := rfl
  rw [List.mapM_cons]
  simp [wM, h4, h6, h2, h7]
theorem dC {P : Program} {n : NF} {Γ : Env} {a : Act} {w : World} (hs : Sat n Γ a) {fn : Func} {res : Array ResultVar} (hr : fn.results = res) {K : List Value → Prop} (h : fB P res.toList Γ w K) : ∃ vs, (results fn a.tmps).run P w = .ok (sC vs) w ∧ K vs := by
 obtain ⟨vs, h1, h2⟩ := oJ hs _ K h
 refine ⟨vs, ?_, h2⟩
 rw [wN, hr, Array.mapM_eq_mapM_toList]
 simp [h1]
 match vs with
 | [] => rfl
 | [v] => rfl
 | v :: u :: r => simp [sC]
def dD (P : Program) (res : Array ResultVar) (R : Ending → World → Prop) : Exit → Env → World → Prop
 | .normal, Γ, w | .ret, Γ, w => fB P res.toList Γ w fun vs => R (.returned (sC vs)) w
 | .panic ch, _, w => R (.panicked ch) w
 | _, _, _ => False
def argEnv : Nat → List Value → Env
 | _, [] => []
 | k, v :: r => (k, v) :: argEnv (k + 1) r
theorem kZ (l : List Value) : ∀ (k t : Nat) (v : Value), get? (argEnv k l) t = some v → k ≤ t ∧ l[t - k]? = some v := by
 induction l with
 | nil => intro k t v h; simp [argEnv, get?] at h
 | cons u r ih =>
  intro k t v h
  simp only [argEnv, get?] at h
  cases hb : Nat.beq k t with
  | true =>
   rw [hb] at h
   simp only [cond_true, Option.some.injEq] at h
   have := Nat.eq_of_beq_eq_true hb
   subst this
   subst h
   simp
  | false =>
   rw [hb] at h
   obtain ⟨h1, h2⟩ := ih (k + 1) t v h
   refine ⟨jo, ?_⟩
   have e : t - k = (t - (k + 1)) + 1 := jo
   rw [e, List.getElem?_cons_succ]
   exact h2
theorem VC.calls {f : FuncId} {fn : Func} {c : Code} {args : List Value} {w : World} {R : Ending → World → Prop} {nt : Nat} {res : Array ResultVar}
  (hf : P.funcs[f]? = some fn) (hb : fn.body = some c) (hn : fn.ntmps = nt) (hr : fn.results = res) (hl0 : Nat.ble args.length nt = true)
  (h : VC P ⟨nt, [], none⟩ c (argEnv 0 args) w (dD P res R)) : Calls P f args.toArray w R := by
 have hl : args.length ≤ nt := Nat.le_of_ble_eq_true hl0
 refine calls_of_wp hf hb ?_
 refine wpIn_wide.1 (wpIn_mono (h _ ?_ 0) ?_)
 ·
  refine ⟨?_, rfl, ?_⟩
  ·
   simp only [Array.size_append, List.size_toArray, Array.size_replicate, hn]
   omega
  intro t v ht
  obtain ⟨_, h2⟩ := kZ args 0 t v ht
  simp only [Nat.sub_zero] at h2
  have hlt : t < args.length := (List.getElem?_eq_some_iff.1 h2).1
  rw [Array.getD_eq_getD_getElem?, Array.getElem?_append_left (by simpa using hlt)]
  simp [h2]
 intro e a w hq
 obtain ⟨Γ, hs, q⟩ := hq
 have key : ∀ (Γ : Env), Sat ⟨nt, [], none⟩ Γ a → dD P res R .ret Γ w → ∃ v, (results fn a.tmps).run P w = .ok v w ∧ R (.returned v) w := by
  intro Γ hs q
  simp only [dD] at q
  obtain ⟨vs, h1, h2⟩ := dC hs hr q
  exact ⟨_, h1, h2⟩
 cases e with
 | normal => obtain ⟨v, h1, h2⟩ := key Γ hs q; exact ⟨hs.defers, v, h1, h2⟩
 | ret => obtain ⟨v, h1, h2⟩ := key Γ hs q; exact ⟨hs.defers, v, h1, h2⟩
 | panic ch => exact ⟨hs.defers, q⟩
 | exit id => exact q.elim
 | goto l => exact q.elim
 | outgrown => exact q.elim
end
def Bin (op : BinOp) (k : IntKind) (x : Int) (k' : IntKind) (y : Int) (v : Value) : Prop := ∀ (P : Program) (T : TypeId) (w : World), (binOp op T (.int k x) (.int k' y)).run P w = .ok v w
def bmax (k : IntKind) : Nat := match k with | .i8 => 127 | .i16 => 32767 | .i32 => 2147483647 | .i64 => 9223372036854775807 | .u8 => 255 | .u16 => 65535 | .u32 => 4294967295 | .u64 => 18446744073709551615
def lD (k : IntKind) : Int := match k with | .i8 => -128 | .i16 => -32768 | .i32 => -2147483648 | .i64 => -9223372036854775808 | _ => 0
theorem fC (k : IntKind) (x : Int) (h1 : lD k ≤ x) (h2 : x ≤ (bmax k : Int)) : k.wrap x = x := by
 cases k <;> simp only [lD, bmax] at h1 h2
 · exact IntWalk.i8_in _ ⟨h1, jo⟩
 · exact IntWalk.i16_in _ ⟨h1, jo⟩
 · exact IntWalk.i32_in _ ⟨h1, jo⟩
 · exact IntWalk.i64_in _ ⟨h1, jo⟩
 · exact IntWalk.u8_in _ ⟨h1, jo⟩
 · exact IntWalk.u16_in _ ⟨h1, jo⟩
 · exact IntWalk.u32_in _ ⟨h1, jo⟩
 exact IntWalk.u64_in _ ⟨h1, jo⟩
theorem kH (k : IntKind) (x : Nat) (h : x ≤ bmax k) : k.wrap (x : Int) = x := fC k x (by cases k <;> simp only [lD] <;> omega) (by exact_mod_cast h)
section
variable {k : IntKind}
theorem Bin.add (x y : Int) (h1 : lD k ≤ x + y) (h2 : x + y ≤ (bmax k : Int)) : Bin .add k x k y (.int k (x + y)) := fun P T w => by simp [binOp, Op.intArith, fC k _ h1 h2]
theorem Bin.sub (x y : Int) (h1 : lD k ≤ x - y) (h2 : x - y ≤ (bmax k : Int)) : Bin .sub k x k y (.int k (x - y)) := fun P T w => by simp [binOp, Op.intArith, fC k _ h1 h2]
theorem Bin.mul (x y : Int) (h1 : lD k ≤ x * y) (h2 : x * y ≤ (bmax k : Int)) : Bin .mul k x k y (.int k (x * y)) := fun P T w => by simp [binOp, Op.intArith, fC k _ h1 h2]
theorem Bin.lss (x y : Int) : Bin .lss k x k y (.bool (decide (x < y))) := fun P T w => by simp [binOp, Op.intCmp]
theorem Bin.gtr (x y : Int) : Bin .gtr k x k y (.bool (decide (y < x))) := fun P T w => by simp [binOp, Op.intCmp]
theorem Bin.geq (x y : Int) : Bin .geq k x k y (.bool (decide (y ≤ x))) := fun P T w => by simp [binOp, Op.intCmp]
theorem Bin.eql (x y : Int) : Bin .eql k x k y (.bool (decide (x = y))) := fun P T w => by simp [binOp, Op.intCmp]; rfl
theorem Bin.neq (x y : Int) : Bin .neq k x k y (.bool (decide (x ≠ y))) := fun P T w => by
 simp only [binOp, Op.intCmp, ne_eq, not_true_eq_false, if_false]
 show Result.ok (Value.bool (x != y)) w = _
 congr 2
 rw [Bool.eq_iff_iff]; simp
theorem Bin.addN (x y : Nat) (h : x + y ≤ bmax k) : Bin .add k x k y (.int k ((x + y : Nat) : Int)) := fun P T w => by
 have e : ((x : Int) + (y : Int)) = ((x + y : Nat) : Int) := rfl
 simp only [binOp, Op.intArith, ne_eq, not_true_eq_false, if_false, e, kH k _ h]; rfl
theorem Bin.subN (x y : Nat) (hy : y ≤ x) (h : x - y ≤ bmax k) : Bin .sub k x k y (.int k ((x - y : Nat) : Int)) := fun P T w => by
 have e : ((x : Int) - (y : Int)) = ((x - y : Nat) : Int) := (Int.ofNat_sub hy).symm
 simp only [binOp, Op.intArith, ne_eq, not_true_eq_false, if_false, e, kH k _ h]; rfl
theorem Bin.mulN (x y : Nat) (h : x * y ≤ bmax k) : Bin .mul k x k y (.int k ((x * y : Nat) : Int)) := fun P T w => by
 have e : ((x : Int) * (y : Int)) = ((x * y : Nat) : Int) := rfl
 simp only [binOp, Op.intArith, ne_eq, not_true_eq_false, if_false, e, kH k _ h]; rfl
theorem Bin.lssN (x y : Nat) : Bin .lss k x k y (.bool (decide (x < y))) := fun P T w => by simp [binOp, Op.intCmp]
theorem Bin.leqN (x y : Nat) : Bin .leq k x k y (.bool (decide (x ≤ y))) := fun P T w => by simp [binOp, Op.intCmp]
theorem Bin.gtrN (x y : Nat) : Bin .gtr k x k y (.bool (decide (y < x))) := fun P T w => by simp [binOp, Op.intCmp]
theorem Bin.geqN (x y : Nat) : Bin .geq k x k y (.bool (decide (y ≤ x))) := fun P T w => by simp [binOp, Op.intCmp]
theorem Bin.eqlN (x y : Nat) : Bin .eql k x k y (.bool (decide (x = y))) := fun P T w => by
 have := Bin.eql (k := k) x y P T w
 simpa [Int.natCast_inj] using this
theorem Bin.neqN (x y : Nat) : Bin .neq k x k y (.bool (decide (x ≠ y))) := fun P T w => by
 have := Bin.neq (k := k) x y P T w
 simpa [Int.natCast_inj] using this
theorem Bin.quoN (x y : Nat) (hy : y ≠ 0) (h : x / y ≤ bmax k) : Bin .quo k x k y (.int k ((x / y : Nat) : Int)) := fun P T w => by
 have e : ((x : Int).tdiv (y : Int)) = ((x / y : Nat) : Int) := rfl
 have hy' : ¬ ((y : Int) = 0) := jo
 simp only [binOp, Op.intDiv, ne_eq, not_true_eq_false, hy', if_false, e, kH k _ h]; rfl
theorem Bin.remN (x y : Nat) (hy : y ≠ 0) : Bin .rem k x k y (.int k ((x % y : Nat) : Int)) := fun P T w => by
 have e : ((x : Int).tmod (y : Int)) = ((x % y : Nat) : Int) := rfl
 have hy' : ¬ ((y : Int) = 0) := jo
 simp only [binOp, Op.intDiv, ne_eq, not_true_eq_false, hy', if_false, e]; rfl
end
section
variable {P : Program} {Γ : Env} {w : World} {dst : Option Tmp} {T : TypeId} {pos : String} {after : Array Edge} {g : Option (Nat × Bool)}
theorem Run.mv {x : Operand} {v : Value} (h : ev? Γ x = some v) : Run P ⟨dst, .move x, T, pos, after, g⟩ Γ w v := fun ρ hρ => by
 simp [execOp, hρ _ _ h]
theorem Run.asg {x : Operand} {v : Value} (h : ev? Γ x = some v) : Run P ⟨dst, .assign x, T, pos, after, g⟩ Γ w v := fun ρ hρ => by
 simp [execOp, hρ _ _ h]
theorem Run.pickT {c x y : Operand} {b : Bool} {u : Value} (hc : ev? Γ c = some (.bool b)) (hx : ev? Γ x = some u) (hb : b = true) :
  Run P ⟨dst, .pick c x y, T, pos, after, g⟩ Γ w u := fun ρ hρ => by
 simp [execOp, hρ _ _ hc, hρ _ _ hx, asBool, hb]
theorem Run.pickF {c x y : Operand} {b : Bool} {v : Value} (hc : ev? Γ c = some (.bool b)) (hy : ev? Γ y = some v) (hb : b = false) :
  Run P ⟨dst, .pick c x y, T, pos, after, g⟩ Γ w v := fun ρ hρ => by
 simp [execOp, hρ _ _ hc, hρ _ _ hy, asBool, hb]
theorem Run.bin {op : BinOp} {xT yT : TypeId} {x y : Operand} {k k' : IntKind} {a b : Int} {v : Value} (hx : ev? Γ x = some (.int k a)) (hy : ev? Γ y = some (.int k' b)) (hb : Bin op k a k' b v) :
  Run P ⟨dst, .binOp op xT x y yT, T, pos, after, g⟩ Γ w v := fun ρ hρ => by
 have h0 : (eqGuard op xT x y (.int k a) (.int k' b)).run P w = .ok () w := by
  unfold eqGuard
  split <;> rfl
 have h1 := hb P xT w
 simp only [execOp, hρ _ _ hx, hρ _ _ hy, Sem.run_bind, h0, Result.andThen_ok, h1, Sem.run_pure]
theorem Run.not {xT : TypeId} {x : Operand} {b : Bool} (hx : ev? Γ x = some (.bool b)) : Run P ⟨dst, .unOp .not xT x, T, pos, after, g⟩ Γ w (.bool (! b)) := fun ρ hρ => by
 simp [execOp, hρ _ _ hx, Op.unary]
theorem Run.nilck {x : Operand} {a : Addr} (hx : ev? Γ x = some (.pointer (some a))) : Run P ⟨dst, .nilCheck x, T, pos, after, g⟩ Γ w (.pointer (some a)) := fun ρ hρ => by
 simp [execOp, hρ _ _ hx]
theorem Run.conv {src dstT : TypeId} {x : Operand} {k k' : IntKind} {a : Int} {d : TypeDesc} (hx : ev? Γ x = some (.int k a)) (hs : P.underlying src = some d) (hd : P.underlying dstT = some (.int k')) (r : Int) (hr : k'.wrap a = r) :
  Run P ⟨dst, .convert src dstT x, T, pos, after, g⟩ Γ w (.int k' r) := fun ρ hρ => by
 simp [execOp, hρ _ _ hx, convert, run_underlying hs, run_underlying hd, Conv.intToInt, hr]
theorem Run.convN {src dstT : TypeId} {x : Operand} {k k' : IntKind} {d : TypeDesc} (a : Nat) (hx : ev? Γ x = some (.int k a)) (hs : P.underlying src = some d) (hd : P.underlying dstT = some (.int k')) (hr : a ≤ bmax k') :
  Run P ⟨dst, .convert src dstT x, T, pos, after, g⟩ Γ w (.int k' a) := Run.conv hx hs hd _ (kH k' a hr)
theorem Run.fieldAddr {s : TypeId} {x : Operand} {f : Nat} {a : Addr} {fs : Array Field} {fd : Field} {sz : Nat} (hx : ev? Γ x = some (.pointer (some a))) (hs : P.underlying s = some (.struct fs)) (hf : fs[f]? = some fd)
  (hz : ∀ w, (sizeOf fd.type).run P w = .ok sz w) (hz0 : sz ≠ 0) : Run P ⟨dst, .fieldAddr s x f, T, pos, after, g⟩ Γ w (.pointer (some (a.add fd.offset))) := fun ρ hρ => by
 simp [execOp, hρ _ _ hx, Instr.fieldAt, run_underlying hs, hf, Instr.sureAddr, fieldPlace, hz, hz0]
theorem Run.indexS {t : TypeId} {x i : Operand} {a : Addr} {len cap : Nat} {k : IntKind} {e : TypeId} {sz : Nat} (j : Nat) (hx : ev? Γ x = some (.slice (some a) len cap)) (hi : ev? Γ i = some (.int k j)) (ht : P.underlying t = some (.slice e))
  (hz : ∀ w, (sizeOf e).run P w = .ok sz w) (hj : j < len) : Run P ⟨dst, .indexAddr t x i, T, pos, after, g⟩ Γ w (.pointer (some (a.add (j * sz)))) := fun ρ hρ => by
 have h1 : (j : Int) < (len : Int) := jo
 simp [execOp, hρ _ _ hx, hρ _ _ hi, Instr.indexAt, asIntOf, run_underlying ht, hz, hj]
theorem Run.index1 {t : TypeId} {x i : Operand} {a : Addr} {len cap : Nat} {k : IntKind} {e : TypeId} (j : Nat) (hx : ev? Γ x = some (.slice (some a) len cap)) (hi : ev? Γ i = some (.int k j)) (ht : P.underlying t = some (.slice e))
  (hz : ∀ w, (sizeOf e).run P w = .ok 1 w) (hj : j < len) : Run P ⟨dst, .indexAddr t x i, T, pos, after, g⟩ Γ w (.pointer (some (a.add j))) := by
 have := Run.indexS (P := P) (Γ := Γ) (w := w) (dst := dst) (T := T) (pos := pos) (after := after) (g := g) j hx hi ht hz hj
 rwa [Nat.mul_one] at this
theorem Run.load {t : TypeId} {x : Operand} {a : Addr} {v : Value} (hx : ev? Γ x = some (.pointer (some a))) (ht : ∀ w, (isAgg t).run P w = .ok false w) (hc : w.cell? a = some v) :
  Run P ⟨dst, .load t x, T, pos, after, g⟩ Γ w v := fun ρ hρ => by
 simp [execOp, hρ _ _ hx, Instr.loadAt, Instr.sureAddr, loadVar, ht, hc]
theorem Run.loadA {t : TypeId} {x : Operand} {a : Addr} {cs : List Value} {sz : Nat} (hx : ev? Γ x = some (.pointer (some a))) (ht : ∀ w, (isAgg t).run P w = .ok true w) (hz : ∀ w, (sizeOf t).run P w = .ok sz w)
  (hc : ∀ j v, cs[j]? = some v → w.cell? (a.add j) = some v) (hl : cs.length = sz) : Run P ⟨dst, .load t x, T, pos, after, g⟩ Γ w (.agg cs.toArray) := fun ρ hρ => by
 subst hl
 simp [execOp, hρ _ _ hx, Instr.loadAt, Instr.sureAddr, loadVar, ht, hz, run_loadCells_list w a cs hc]
theorem Run.lenS {t : TypeId} {x : Operand} {a : Option Addr} {len cap : Nat} {e : TypeId} (hx : ev? Γ x = some (.slice a len cap)) (ht : P.underlying t = some (.slice e)) :
  Run P ⟨dst, .call ⟨.builtin .len, #[x], #[t]⟩, T, pos, after, g⟩ Γ w (.int .i64 len) := fun ρ hρ => by
 simp [execOp, resolve, invoke, builtin, Builtin.len_, hρ _ _ hx, run_underlying ht, goInt]
theorem Run.lenStr {t : TypeId} {x : Operand} {s : ByteArray} (hx : ev? Γ x = some (.string s)) (ht : P.underlying t = some .string) :
  Run P ⟨dst, .call ⟨.builtin .len, #[x], #[t]⟩, T, pos, after, g⟩ Γ w (.int .i64 s.size) := fun ρ hρ => by
 simp [execOp, resolve, invoke, builtin, Builtin.len_, hρ _ _ hx, run_underlying ht, goInt]
theorem Run.extract {x : Operand} {ix : Nat} {vs : Array Value} {v : Value} (hx : ev? Γ x = some (.tuple vs)) (hv : vs[ix]? = some v) : Run P ⟨dst, .extract x ix, T, pos, after, g⟩ Γ w v := fun ρ hρ => by
 simp [execOp, hρ _ _ hx, Instr.extract, hv]
theorem Run.neqB {t yT : TypeId} {x y : Operand} {a b : Bool} (hx : ev? Γ x = some (.bool a)) (hy : ev? Γ y = some (.bool b)) (ht : P.underlying t = some .bool) :
  Run P ⟨dst, .binOp .neq t x y yT, T, pos, after, g⟩ Γ w (.bool (a != b)) := fun ρ hρ => by
 have h0 : ∀ d : Nat, (Op.equalIn (d + 1) t (.bool a) (.bool b)).run P w = .ok (a == b) w := fun d => by simp [Op.equalIn, run_underlying ht]
 have h1 : (Op.equal t (.bool a) (.bool b)).run P w = .ok (a == b) w := h0 9999
 simp [execOp, hρ _ _ hx, hρ _ _ hy, eqGuard, binOp, h1, bne]
theorem Run.eqlStr {t yT : TypeId} {x y : Operand} {a b : ByteArray} (hx : ev? Γ x = some (.string a)) (hy : ev? Γ y = some (.string b)) :
  Run P ⟨dst, .binOp .eql t x y yT, T, pos, after, g⟩ Γ w (.bool (decide (a.data.toList = b.data.toList))) := fun ρ hρ => by
 have e : (a.data.toList == b.data.toList) = decide (a.data.toList = b.data.toList) := by rw [Bool.eq_iff_iff]; simp
 simp [execOp, hρ _ _ hx, hρ _ _ hy, eqGuard, binOp, Op.stringOp, ByteArray.toList_eq, e]
theorem Run.neqStr {t yT : TypeId} {x y : Operand} {a b : ByteArray} (hx : ev? Γ x = some (.string a)) (hy : ev? Γ y = some (.string b)) :
  Run P ⟨dst, .binOp .neq t x y yT, T, pos, after, g⟩ Γ w (.bool (decide (a.data.toList ≠ b.data.toList))) := fun ρ hρ => by
 have e : (a.data.toList == b.data.toList) = decide (a.data.toList = b.data.toList) := by rw [Bool.eq_iff_iff]; simp
 simp [execOp, hρ _ _ hx, hρ _ _ hy, eqGuard, binOp, Op.stringOp, ByteArray.toList_eq, e]
theorem Run.addStr {t yT : TypeId} {x y : Operand} {a b : ByteArray} (hx : ev? Γ x = some (.string a)) (hy : ev? Γ y = some (.string b)) (hs : a.size + b.size ≤ 9223372036854775807) :
  Run P ⟨dst, .binOp .add t x y yT, T, pos, after, g⟩ Γ w (.string (a ++ b)) := fun ρ hρ => by
 have h := run_string_add_sum (P := P) w a b hs
 simp [execOp, hρ _ _ hx, hρ _ _ hy, eqGuard, binOp, h]
theorem Run.indexStr {t : TypeId} {x i : Operand} {s : ByteArray} {k : IntKind} (j : Nat) (b : UInt8) (hx : ev? Γ x = some (.string s)) (hi : ev? Γ i = some (.int k j)) (ht : P.underlying t = some .string) (hj : s.data.toList[j]? = some b) :
  Run P ⟨dst, .index t x i, T, pos, after, g⟩ Γ w (.int .u8 b.toNat) := fun ρ hρ => by
 have hlt : j < s.size := by have := (List.getElem?_eq_some_iff.1 hj).1; simpa using this
 have e : s[j]? = some b := by
  rw [ByteArray.getElem?_lt' s j hlt]
  have := (List.getElem?_eq_some_iff.1 hj).2
  rw [← this]; rfl
 simp [execOp, hρ _ _ hx, hρ _ _ hi, Instr.index, asIntOf, run_underlying ht, e]
end
def evB (Γ : Env) (o : Option Operand) (d r : Nat) : Prop := match o with | none => r = d | some x => ∃ k, ev? Γ x = some (.int k (r : Int))
theorem evB.none_ {Γ : Env} {d : Nat} : evB Γ none d d := rfl
theorem evB.some_ {Γ : Env} {d r : Nat} {x : Operand} {k : IntKind} (h : ev? Γ x = some (.int k (r : Int))) : evB Γ (some x) d r := ⟨k, h⟩
def wP (a : Option Addr) (cap l sz : Nat) : Option Addr := if cap = l then a else a.map (·.add (l * sz))
section
variable {P : Program} {Γ : Env} {w : World} {dst : Option Tmp} {T : TypeId} {pos : String} {after : Array Edge} {g : Option (Nat × Bool)}
theorem oC {ρ : Operand → Value} (hρ : mA ρ Γ) (len cap l h : Nat) (lo hi : Option Operand) (hlo : evB Γ lo 0 l) (hhi : evB Γ hi len h) (h1 : l ≤ h) (h2 : h ≤ cap) (isS : Bool) :
  (Instr.sliceBounds isS len cap (lo.map ρ) (hi.map ρ) none).run P w = .ok (l, h, cap) w := by
 have hb : ∀ (k : IntKind) (r y : Nat) (code : BoundsCode), r ≤ y → (Instr.sliceBound (.int k (r : Int)) y code).run P w = .ok r w := by
  intro k r y code hry
  have := run_sliceBound (P := P) w k (r : Int) y code jo jo
  simpa using this
 unfold Instr.sliceBounds
 cases lo with
 | none =>
  cases hi with
  | none => simp only [evB] at hlo hhi; subst hlo hhi; simp
  | some y => simp only [evB] at hlo; obtain ⟨k, hy⟩ := hhi; subst hlo; simp [hρ _ _ hy, hb _ _ _ _ h2]
 | some x =>
  obtain ⟨k, hx⟩ := hlo
  cases hi with
  | none => simp only [evB] at hhi; subst hhi; simp [hρ _ _ hx, hb _ _ _ _ h1]
  | some y => obtain ⟨k', hy⟩ := hhi; simp [hρ _ _ hx, hρ _ _ hy, hb _ _ _ _ h1, hb _ _ _ _ h2]
theorem Run.sliceS {t e : TypeId} {x : Operand} {a : Option Addr} {len cap sz : Nat} {lo hi : Option Operand} (l h : Nat) (hx : ev? Γ x = some (.slice a len cap)) (ht : P.underlying t = some (.slice e)) (hz : ∀ w, (sizeOf e).run P w = .ok sz w)
  (hlo : evB Γ lo 0 l) (hhi : evB Γ hi len h) (h1 : l ≤ h) (h2 : h ≤ cap) :
  Run P ⟨dst, .slice t x lo hi none, T, pos, after, g⟩ Γ w (.slice (wP a cap l sz) (h - l) (cap - l)) := fun ρ hρ => by
 have hb := oC (P := P) (w := w) hρ len cap l h lo hi hlo hhi h1 h2 true
 simp only [execOp, Instr.sliceAt, Instr.slice, Sem.run_bind, run_underlying ht, Result.andThen_ok, hρ _ _ hx, Option.map_none, hb, hz, Sem.run_pure]
 rfl
theorem Run.sliceStr {t : TypeId} {x : Operand} {s : ByteArray} {lo hi : Option Operand} (l h : Nat) (hx : ev? Γ x = some (.string s)) (ht : P.underlying t = some .string)
  (hlo : evB Γ lo 0 l) (hhi : evB Γ hi s.size h) (h1 : l ≤ h) (h2 : h ≤ s.size) :
  Run P ⟨dst, .slice t x lo hi none, T, pos, after, g⟩ Γ w (.string (s.extract l h)) := fun ρ hρ => by
 have hb := oC (P := P) (w := w) hρ s.size s.size l h lo hi hlo hhi h1 h2 false
 simp [execOp, Instr.sliceAt, Instr.slice, run_underlying ht, hρ _ _ hx, hb]
end
section
variable {P : Program} {Γ : Env} {w : World} {dst : Option Tmp} {T : TypeId} {pos : String} {after : Array Edge} {g : Option (Nat × Bool)}
def evs (Γ : Env) : List Operand → List Value → Prop
 | [], vs => vs = []
 | x :: r, vs => ∃ v us, ev? Γ x = some v ∧ evs Γ r us ∧ vs = v :: us
theorem evs.nil {Γ : Env} : evs Γ [] [] := rfl
theorem evs.cons {Γ : Env} {x : Operand} {r : List Operand} {v : Value} {us : List Value} (h : ev? Γ x = some v) (hr : evs Γ r us) : evs Γ (x :: r) (v :: us) := ⟨v, us, h, hr, rfl⟩
theorem eI {ρ : Operand → Value} (hρ : mA ρ Γ) : ∀ (xs : List Operand) (vs : List Value), evs Γ xs vs → xs.map ρ = vs
 | [], vs, h => by simp only [evs] at h; subst h; rfl
 | x :: r, vs, h => by
  obtain ⟨v, us, h1, h2, rfl⟩ := h
  rw [List.map_cons, hρ _ _ h1, eI hρ r us h2]
theorem bJ.fn {f : FuncId} {xs : List Operand} {vs : List Value} {ts : Array TypeId} (hv : evs Γ xs vs) (hf : ∀ args w, (callFunc f args).run P w = .ok (.enter f args) w) :
  bJ P ⟨dst, .call ⟨.value (.func f), xs.toArray, ts⟩, T, pos, after, g⟩ Γ w f vs.toArray := fun ρ hρ => by
 have e := eI hρ xs vs hv
 have e2 : ρ (.func f) = .func (.func f) #[] #[] := hρ _ _ rfl
 have e3 : ρ (.func f) = .func (.func f) #[] #[] := e2
 simp [execOp, resolve, e2, Deferred.ofValue, invoke, e, hf]
end
structure Frm (S : List Nat) (w w' : World) : Prop where
 os : w'.os = w.os
 tape : w'.tape = w.tape
 output : w'.output = w.output
 size : w.heap.size ≤ w'.heap.size
 block : ∀ k, k < w.heap.size → k ∉ S → w'.heap[k]? = w.heap[k]?
def Blk (w : World) (g : Nat) (t : TypeId) (cs : Array Value) : Prop := w.heap[g]? = some (.cells cs t (0, 0))
def ob : Option Addr → List Nat
 | none => []
 | some a => [a.block]
def Rd (w : World) (size : Nat) (A : Option Addr) (n : Nat) (xs : List Value) : Prop :=
 xs.length = n * size ∧ (0 < n → ∃ ad, A = some ad ∧ ad.block < w.heap.size ∧ ∀ j u, xs[j]? = some u → w.cell? (ad.add j) = some u)
def Own (w : World) (e size : Nat) (A : Option Addr) (n c : Nat) (xs : List Value) : Prop := w.ownsRow 0 e size (.slice A n c) n xs
section
variable {S T : List Nat} {w w' w'' a b c : World} {g : Nat} {t : TypeId} {cs : Array Value}
theorem Frm.refl (S : List Nat) (w : World) : Frm S w w := ⟨rfl, rfl, rfl, Nat.le_refl _, fun _ _ _ => rfl⟩
theorem Frm.trans (h : Frm S a b) (k : Frm T b c) (hT : ∀ x ∈ T, x ∈ S ∨ a.heap.size ≤ x) : Frm S a c :=
 ⟨k.os.trans h.os, k.tape.trans h.tape, k.output.trans h.output, Nat.le_trans h.size k.size, fun i hi hS =>
  (k.block i (Nat.lt_of_lt_of_le hi h.size) (fun hx => by rcases hT i hx with h1 | h1; exact hS h1; omega)).trans (h.block i hi hS)⟩
theorem Frm.mono (h : Frm S w w') (hS : ∀ x ∈ S, x ∈ T ∨ w.heap.size ≤ x) : Frm T w w' :=
 ⟨h.os, h.tape, h.output, h.size, fun i hi hT => h.block i hi (fun hx => by rcases hS i hx with h1 | h1; exact hT h1; omega)⟩
theorem Frm.of_below (h : Below w.heap.size w w') : Frm [] w w' := ⟨h.os, h.tape, h.output, h.size, fun i hi _ => h.block i hi⟩
theorem Frm.below (h : Frm [] w w') : Below w.heap.size w w' := ⟨h.os, h.tape, h.output, h.size, fun i hi => h.block i hi jp⟩
theorem Frm.drew (h : Frm S w w') : Frm S w w'.drew := ⟨h.os, h.tape, h.output, h.size, h.block⟩
theorem Frm.drewN (h : Frm S w w') (n : Nat) : Frm S w (w'.drewN n) := ⟨h.os, h.tape, h.output, h.size, h.block⟩
theorem Frm.drawn (h : Frm S w w') (hd : qL w' w'') : Frm S w w'' := by obtain ⟨m, rfl⟩ := hd; exact h.drewN m
theorem Frm.alloc (h : Frm S a w) (o : Obj) : Frm S a (w.alloc o) :=
 h.trans (T := []) ⟨rfl, rfl, rfl, jp, fun k hk _ => Below.heap_alloc _ _ _ hk⟩ jp
theorem Frm.set1 (w : World) (p : Addr) (u : Value) : Frm [p.block] w (w.setCell p u) :=
 ⟨rfl, rfl, rfl, jp, fun k _ hS => Below.heap_setCell _ _ _ _ (by simpa using hS)⟩
theorem Frm.grown {row : Option Nat} (h : w.grownBy w' row) : Frm row.toList w w' :=
 ⟨h.os, h.tape, h.output, h.size, fun k hk hS => h.block k hk (fun e => hS (by rw [← e]; simp))⟩
theorem Frm.own (h : Frm [] w a) (k : Frm S a b) (hS : ∀ x ∈ S, w.heap.size ≤ x) : Frm [] w b := h.trans k (fun x hx => .inr (hS x hx))
theorem oD {B s : Nat} {A A' : Option Addr} (hA : ∀ x ∈ ob A, B ≤ x) (h : ob A' = ob A ∨ ob A' = [s]) (hs : B ≤ s) : ∀ x ∈ ob A', B ≤ x := fun x hx => by
 rcases h with h1 | h1 <;> rw [h1] at hx
 · exact hA x hx
 simp at hx; omega
theorem qL.frm (h : qL w w') : Frm [] w w' := (Frm.refl [] w).drawn h
theorem qL.drew (w : World) : qL w w.drew := ⟨1, rfl⟩
theorem Blk.lt (h : Blk w g t cs) : g < w.heap.size := by
 rcases Nat.lt_or_ge g w.heap.size with hlt | hge
 · exact hlt
 unfold Blk at h; rw [Array.getElem?_eq_none hge] at h; cases h
theorem Blk.cell (h : Blk w g t cs) (i : Nat) : w.cell? ⟨g, i, none⟩ = cs[i]? := by
 unfold Blk at h
 simp [World.cell?, h]
theorem Blk.frozen (h : Blk w g t cs) (i : Nat) : w.frozen? ⟨g, i, none⟩ = false := by
 unfold Blk at h
 simp [World.frozen?, h]
theorem Blk.new (w : World) (t : TypeId) (cs : Array Value) : Blk (w.alloc (.cells cs t)) w.heap.size t cs := heap_alloc_new w _
theorem Blk.cells (h : Blk w g t cs) : ∀ (j : Nat) (v : Value), cs.toList[j]? = some v → w.cell? ((⟨g, 0, none⟩ : Addr).add j) = some v := by
 intro j v hv
 have e : (⟨g, 0, none⟩ : Addr).add j = ⟨g, j, none⟩ := by
  unfold Addr.add; split
  · rename_i h0; subst h0; rfl
  simp
 rw [e, h.cell]
 simpa using hv
theorem Blk.frm (h : Blk w g t cs) (k : Frm S w w') (hg : g ∉ S) : Blk w' g t cs := (k.block g h.lt hg).trans h
theorem Blk.drawn (h : Blk w g t cs) (k : qL w w') : Blk w' g t cs := h.frm k.frm jp
theorem Blk.set (h : Blk w g t cs) (i : Nat) (u : Value) : Blk (w.setCell ⟨g, i, none⟩ u) g t (cs.setIfInBounds i u) := by
 unfold Blk at h ⊢
 simp [World.setCell, Array.getElem?_modify, h]
theorem Blk.ne {g' : Nat} {t' : TypeId} {cs' : Array Value} (h : Blk w g t cs) (h' : Blk w g' t' cs') (hne : t ≠ t') : g ≠ g' := by
 rintro rfl
 unfold Blk at h h'
 rw [h] at h'
 injection h' with h'
 injection h' with _ ht
 exact hne ht
theorem rN (x : Addr) (n : Nat) : (x.add n).block = x.block := by unfold Addr.add; split <;> rfl
theorem add_add (x : Addr) (i j : Nat) : (x.add i).add j = x.add (i + j) := by
 unfold Addr.add
 by_cases hi : i = 0 <;> by_cases hj : j = 0 <;> simp [hi, hj, Nat.add_assoc]
theorem rP (x : Addr) : x.add 0 = x := by simp [Addr.add]
theorem sD (g i : Nat) : (⟨g, 0, none⟩ : Addr).add i = ⟨g, i, none⟩ := by
 unfold Addr.add; split
 · rename_i h; subst h; rfl
 simp
section
variable {size n m e cap : Nat} {A : Option Addr} {xs : List Value}
theorem Rd.nil (w : World) (size : Nat) (A : Option Addr) : Rd w size A 0 [] := ⟨jp, fun h => absurd h jo⟩
theorem Rd.lt (h : Rd w size A n xs) (hn : 0 < n) : ∀ x ∈ ob A, x < w.heap.size := by
 obtain ⟨ad, rfl, hb, _⟩ := h.2 hn
 simpa [ob] using hb
theorem Rd.at1 {k : Nat} (h : Rd w 1 A n xs) (hk : k < n) : ∃ ad u, A = some ad ∧ xs[k]? = some u ∧ w.cell? (ad.add k) = some u := by
 obtain ⟨ad, e, hb, hc⟩ := h.2 jo
 have hl : k < xs.length := by have := h.1; omega
 exact ⟨ad, xs[k], e, List.getElem?_eq_getElem hl, hc k _ (List.getElem?_eq_getElem hl)⟩
theorem Rd.frm (h : Rd w size A n xs) (k : Frm S w w') (hS : 0 < n → ∀ x ∈ ob A, x ∉ S) : Rd w' size A n xs :=
 ⟨h.1, fun hn => by
  obtain ⟨ad, e, hb, hc⟩ := h.2 hn
  subst e
  refine ⟨ad, rfl, Nat.lt_of_lt_of_le hb k.size, fun j u hu => ?_⟩
  rw [World.cell?_of_block (w := w) (a := ad.add j) (by rw [rN]; exact k.block _ hb (hS hn _ (by simp [ob])))]
  exact hc j u hu⟩
theorem Rd.elem {k : Nat} (h : Rd w size A n xs) (hk : k < n) : ∃ ad, A = some ad ∧ ∀ j v, ((xs.drop (k * size)).take size)[j]? = some v → w.cell? ((ad.add (k * size)).add j) = some v := by
 obtain ⟨ad, e, _, hc⟩ := h.2 jo
 refine ⟨ad, e, fun j v hv => ?_⟩
 have hj : j < size := by
  have := (List.getElem?_eq_some_iff.1 hv).1
  rw [List.length_take] at this
  omega
 rw [add_add]
 refine hc _ _ ?_
 rw [List.getElem?_take_of_lt hj, List.getElem?_drop] at hv
 exact hv
theorem Rd.of_blk (h : Blk w g t cs) (hs : cs.size = n * size) : Rd w size (some ⟨g, 0, none⟩) n cs.toList :=
 ⟨by simpa using hs, fun _ => ⟨_, rfl, h.lt, fun j u hu => by rw [sD, h.cell]; simpa using hu⟩⟩
theorem Own.nil (w : World) (e size : Nat) : Own w e size none 0 0 [] := World.ownsRow_nil w 0 e size
theorem Own.len (h : Own w e size A n cap xs) : xs.length = n * size := h.1
theorem Own.cases (h : Own w e size A n cap xs) : (A = none ∧ n = 0 ∧ cap = 0 ∧ xs = []) ∨ ∃ g cur, A = some ⟨g, 0, none⟩ ∧ Blk w g e cur ∧ n ≤ cap ∧ cap ≤ maxLen ∧ cur.size = cap * size ∧ cur.toList.take (n * size) = xs := by
 obtain ⟨h1, h2⟩ := h
 rcases h2 with ⟨h3, h4⟩ | ⟨g, c, cur, hv, _, hh, hn, hc, hs, ht⟩
 ·
  injection h3 with e1 e2 e3
  subst e1 e2 e3
  exact .inl ⟨rfl, rfl, rfl, List.eq_nil_of_length_eq_zero (by simpa using h1)⟩
 injection hv with e1 e2 e3
 subst e1 e3
 exact .inr ⟨g, cur, rfl, hh, hn, hc, hs, ht⟩
theorem Own.le (h : Own w e size A n cap xs) : n ≤ cap := by
 rcases h.cases with ⟨_, rfl, rfl, _⟩ | ⟨g, cur, _, _, hn, _⟩
 · exact Nat.le_refl _
 exact hn
theorem Own.lt (h : Own w e size A n cap xs) : ∀ x ∈ ob A, x < w.heap.size := by
 rcases h.cases with ⟨rfl, _⟩ | ⟨g, cur, rfl, hb, _⟩
 · simp [ob]
 simpa [ob] using hb.lt
theorem Own.rd (h : Own w e size A n cap xs) : Rd w size A n xs := by
 refine ⟨h.1, fun hn => ?_⟩
 rcases h.cases with ⟨rfl, rfl, _⟩ | ⟨g, cur, rfl, hb, hnc, _, hs, ht⟩
 · omega
 refine ⟨_, rfl, hb.lt, fun j u hu => ?_⟩
 rw [sD, hb.cell]
 rw [← ht] at hu
 by_cases hj : j < n * size
 · rw [List.getElem?_take_of_lt hj] at hu; simpa using hu
 rw [List.getElem?_eq_none (by rw [List.length_take]; omega)] at hu; cases hu
theorem Own.frm (h : Own w e size A n cap xs) (k : Frm S w w') (hS : ∀ x ∈ ob A, x ∉ S) : Own w' e size A n cap xs := by
 refine ⟨h.1, ?_⟩
 rcases h.cases with ⟨rfl, rfl, rfl, _⟩ | ⟨g, cur, rfl, hb, hn, hc, hs, ht⟩
 · exact .inl ⟨rfl, rfl⟩
 exact .inr ⟨g, cap, cur, rfl, Nat.zero_le _, hb.frm k (hS g (by simp [ob])), hn, hc, hs, ht⟩
theorem Own.of_blk (h : Blk w g e cs) (hs : cs.size = n * size) (hm : n ≤ maxLen) : Own w e size (some ⟨g, 0, none⟩) n n cs.toList :=
 ⟨by simpa using hs, .inr ⟨g, n, cs, rfl, Nat.zero_le _, h, Nat.le_refl _, hm, hs, List.take_of_length_le (by simp [hs])⟩⟩
theorem Own.ne_blk (h : Own w e size A n cap xs) (hg : Blk w g t cs) (hne : e ≠ t) : g ∉ ob A := by
 rcases h.cases with ⟨rfl, _⟩ | ⟨g', cur, rfl, hb, _⟩
 · simp [ob]
 simp only [ob, List.mem_singleton]
 exact fun e => hb.ne hg hne e.symm
theorem Own.ne_own {e' size' n' cap' : Nat} {A' : Option Addr} {xs' : List Value} (h : Own w e size A n cap xs) (h' : Own w e' size' A' n' cap' xs') (hne : e ≠ e') : ∀ x ∈ ob A, x ∉ ob A' := by
 rcases h.cases with ⟨rfl, _⟩ | ⟨g, cur, rfl, hb, _⟩
 · simp [ob]
 intro x hx
 simp only [ob, List.mem_singleton] at hx
 subst hx
 exact h'.ne_blk hb (Ne.symm hne)
end
end
structure Fresh (w w' : World) (t : TypeId) (cs : Array Value) : Prop where
 blk : Blk w' w.heap.size t cs
 frm : Frm [] w w'
 size : w'.heap.size = w.heap.size + 1
theorem Fresh.mk' (w : World) (t : TypeId) (cs : Array Value) : Fresh w (w.alloc (.cells cs t)) t cs := ⟨Blk.new w t cs, (Frm.refl _ _).alloc _, jp⟩
section
variable {P : Program} {Γ : Env} {w : World} {dst : Option Tmp} {T : TypeId} {pos : String} {after : Array Edge} {g : Option (Nat × Bool)}
theorem qH.box {e : TypeId} {x : Operand} {v : Value} (hx : ev? Γ x = some v) :
  qH P ⟨dst, .box e x, T, pos, after, g⟩ Γ w (fun r w' => r = .pointer (some ⟨w.heap.size, 0, none⟩) ∧ Fresh w w' e v.cells) := fun ρ hρ =>
 ⟨_, w.alloc (.cells v.cells e), by simp [execOp, hρ _ _ hx, Instr.box, newVar, newRow], rfl, Fresh.mk' _ _ _⟩
theorem qH.alloc {e : TypeId} {z : Value} (hz : ∀ w, (zeroValue e).run P w = .ok z w) :
  qH P ⟨dst, .alloc e, T, pos, after, g⟩ Γ w (fun r w' => r = .pointer (some ⟨w.heap.size, 0, none⟩) ∧ Fresh w w' e z.cells) := fun ρ _ =>
 ⟨_, w.alloc (.cells z.cells e), by simp [execOp, Instr.alloc, hz, newVar, newRow], rfl, Fresh.mk' _ _ _⟩
theorem Run.build {t : TypeId} {parts : List (Nat × Operand)} {vs : List Value} {z cells : Array Value} {fs : Array Field} {pl : Array (Nat × Nat)} (hv : evs Γ (parts.map (·.2)) vs) (hz : ∀ w, (zeroValue t).run P w = .ok (.agg z) w)
  (hu : P.underlying t = some (.struct fs)) (hpl : ∀ w, (fs.mapM fun f => do pure (f.offset, ← sizeOf f.type) : Sem (Array (Nat × Nat))).run P w = .ok pl w) (hf : Instr.fill (pl[·]?) z ((parts.map (·.1)).zip vs) = some cells) :
  Run P ⟨dst, .build t parts.toArray, T, pos, after, g⟩ Γ w (.agg cells) := fun ρ hρ => by
 have e1 := eI hρ _ _ hv
 have e2 : parts.map (fun p => (p.1, ρ p.2)) = (parts.map (·.1)).zip vs := by
  rw [← e1, List.map_map, List.zip_map']
  rfl
 simp only [execOp, Instr.build, Sem.run_bind, hz, Result.andThen_ok, Value.cells, run_underlying hu, hpl, List.map_toArray, e2, hf, Sem.run_pure]
theorem qH.buildS1 {t e : TypeId} {size : Nat} {x : Operand} {z v : Value} (hx : ev? Γ x = some v) (ht : P.underlying t = some (.slice e)) (hz : ∀ w, (sizeOf e).run P w = .ok size w)
  (hzv : ∀ w, (zeroValue e).run P w = .ok z w) (hs0 : 0 < size) (hs1 : size ≤ 16777216) (hv : v.cells.size = size) (hzs : z.cells.size = size) :
  qH P ⟨dst, .buildSlice t 1 #[(0, x)], T, pos, after, g⟩ Γ w (fun r w' => r = .slice (some ⟨w.heap.size, 0, none⟩) 1 1 ∧ Fresh w w' e v.cells) := fun ρ hρ => by
 have hn' : ¬ (1 * size > 2 ^ 24) := jo
 have hn0 : ¬ (1 * size = 0) := jo
 have key : ∀ (l : List Value) (acc : Array Value) (k : Nat), k + l.length = acc.size → (l.zipIdx k).foldl (fun (cs : Array Value) (p : Value × Nat) => cs.setIfInBounds p.2 p.1) acc = (acc.toList.take k ++ l).toArray := by
  intro l
  induction l with
  | nil => intro acc k hk; simp at hk ⊢; rw [List.take_of_length_le (by simp [hk])]
  | cons u r ih =>
   intro acc k hk
   simp only [List.length_cons] at hk
   rw [List.zipIdx_cons, List.foldl_cons, ih _ _ (by simp; omega)]
   have e1 : (acc.setIfInBounds k u).toList.take (k + 1) = acc.toList.take k ++ [u] := by
    rw [Array.toList_setIfInBounds]
    apply List.ext_getElem?
    intro j
    rcases Nat.lt_trichotomy j k with hj | hj | hj
    · rw [List.getElem?_take_of_lt jo, List.getElem?_set_ne jo, List.getElem?_append_left (by simp; omega), List.getElem?_take_of_lt hj]
    ·
     subst hj
     rw [List.getElem?_take_of_lt jo, List.getElem?_set_self (by simp; omega), List.getElem?_append_right (by simp; omega)]
     have : j - (acc.toList.take j).length = 0 := by simp; omega
     rw [this]
     rfl
    rw [List.getElem?_eq_none (by simp; omega), List.getElem?_eq_none (by simp; omega)]
   rw [e1]
   simp
 refine ⟨_, w.alloc (.cells v.cells e), ?_, rfl, Fresh.mk' _ _ _⟩
 have hc1 : ¬ (v.cells.size ≠ size) := by simp [hv]
 have hcs : ((Array.range (1 * size)).map (z.cells[· % z.cells.size]!)).size = size := jp
 have hfill : Instr.fill (fun i => some (i * size, size)) ((Array.range (1 * size)).map (z.cells[· % z.cells.size]!)) [(0, v)] = some v.cells := by
  unfold Instr.fill
  simp only [Nat.zero_mul, hv, hcs, Nat.zero_add]
  have := key v.cells.toList ((Array.range (1 * size)).map (z.cells[· % z.cells.size]!)) 0 (by simp [hv])
  simp only [List.take_zero, List.nil_append, Array.toArray_toList] at this
  rw [← Array.foldl_toList, Array.toList_zipIdx, this]
  simp [Instr.fill]
 simp only [execOp, Instr.buildSlice, Sem.run_bind, run_underlying ht, Result.andThen_ok, hz, Sem.run_ite, hn', hn0, if_false, hzv, Sem.run_pure, List.map_toArray, List.map_cons, List.map_nil, hρ _ _ hx, hfill, newRow, run_newObj]
 rfl
theorem qJ.store {t e : TypeId} {x y : Operand} {gb i : Nat} {cs : Array Value} {v : Value} (hx : ev? Γ x = some (.pointer (some ⟨gb, i, none⟩))) (hy : ev? Γ y = some v)
  (hz : ∀ w, (sizeOf t).run P w = .ok 1 w) (hb : Blk w gb e cs) (hi0 : Nat.blt i cs.size = true) (h1 : v.oneCell' = true) :
  qJ P ⟨dst, .store t x y, T, pos, after, g⟩ Γ w (fun w' => Blk w' gb e (cs.setIfInBounds i v) ∧ Frm [gb] w w' ∧ w'.heap.size = w.heap.size) := fun ρ hρ => by
 have hi : i < cs.size := by simpa [Nat.blt_eq] using hi0
 have hcells : v.cells = #[v] := by cases v <;> first | rfl | cases h1
 have hc := hb.cell i
 rw [Array.getElem?_eq_getElem hi] at hc
 refine ⟨w.setCell ⟨gb, i, none⟩ v, ?_, hb.set i v, Frm.set1 w ⟨gb, i, none⟩ v, jp⟩
 simp [execOp, hρ _ _ hx, hρ _ _ hy, Instr.storeAt, Instr.sureAddr, storeVar, hcells, hz, storeCells, run_store P _ _ _ _ h1, rP, hc, hb.frozen i]
theorem qJ.storeA {t e : TypeId} {x y : Operand} {gb : Nat} {cs vs : Array Value} (hx : ev? Γ x = some (.pointer (some ⟨gb, 0, none⟩))) (hy : ev? Γ y = some (.agg vs))
  (hz : ∀ w, (sizeOf t).run P w = .ok vs.size w) (hb : Blk w gb e cs) (hs : vs.size = cs.size) (h1 : ∀ v ∈ vs.toList, v.oneCell' = true) :
  qJ P ⟨dst, .store t x y, T, pos, after, g⟩ Γ w (fun w' => Blk w' gb e vs ∧ Frm [gb] w w' ∧ w'.heap.size = w.heap.size) := fun ρ hρ => by
 have hr := run_storeCells_from (P := P) gb e vs.toList 0 cs w hb (by simp [hs]) h1
 refine ⟨w.setRow gb (cs.toList.take 0 ++ vs.toList).toArray, ?_, ?_, ?_, ?_⟩
 · simp only [execOp, Instr.storeAt, Instr.sureAddr, storeVar, hρ _ _ hx, hρ _ _ hy, Value.cells, Sem.run_bind, Sem.run_pure, Result.andThen_ok, hz, ne_eq, not_true_eq_false, if_false, Sem.run_ite, hr]
 ·
  have := setRow_heap w gb cs (cs.toList.take 0 ++ vs.toList).toArray e (0, 0) hb
  simpa [Blk] using this
 · exact ⟨rfl, rfl, rfl, by simp [World.setRow], fun k _ hS => setRow_other w gb k _ (by simpa using hS)⟩
 simp [World.setRow]
theorem qJ.storeOwn {t e size n cap : Nat} {x y : Operand} {A : Option Addr} {ad : Addr} {xs : List Value} {v : Value} (j : Nat) (hx : ev? Γ x = some (.pointer (some (ad.add j)))) (hy : ev? Γ y = some v)
  (hz : ∀ w, (sizeOf t).run P w = .ok 1 w) (ho : Own w e size A n cap xs) (hA : A = some ad) (hj : j < n * size) (h1 : v.oneCell' = true) :
  qJ P ⟨dst, .store t x y, T, pos, after, g⟩ Γ w (fun w' => Own w' e size A n cap (xs.set j v) ∧ Frm (ob A) w w' ∧ w'.heap.size = w.heap.size) := fun ρ hρ => by
 rcases ho.cases with ⟨rfl, _⟩ | ⟨gb, cur, hA', hb, hnc, hc, hs, ht⟩
 · cases hA
 rw [hA'] at hA
 injection hA with hA
 subst hA
 subst hA'
 rw [sD] at hx
 have hmul : n * size ≤ cap * size := Nat.mul_le_mul_right _ hnc
 obtain ⟨w', hr, hb', hf, hsz⟩ := qJ.store (P := P) (T := T) (dst := dst) (pos := pos) (after := after) (g := g) hx hy hz hb (by rw [Nat.blt_eq]; omega) h1 ρ hρ
 refine ⟨w', hr, ⟨?_, .inr ⟨gb, cap, _, rfl, Nat.zero_le _, hb', hnc, hc, by simpa using hs, ?_⟩⟩, hf, hsz⟩
 · rw [List.length_set]; exact ho.1
 rw [Array.toList_setIfInBounds, ← ht, List.take_set]
theorem qH.app {t e : TypeId} {x y : Operand} {z : Value} {size bytes n m cap c2 : Nat} {A B : Option Addr} {xs news : List Value} (hx : ev? Γ x = some (.slice A n cap)) (hy : ev? Γ y = some (.slice B m c2))
  (ht : P.underlying t = some (.slice e)) (hi : (P.info? e).map (fun i => (i.zero, i.size, i.bytes)) = some (some z, size, bytes)) (hzs : z.cells.size = size) (hsz : 0 < size)
  (ho : Own w e size A n cap xs) (hr : Rd w size B m news) (h1 : ∀ u ∈ news, u.oneCell' = true) (h63 : n + m ≤ 9223372036854775807) (hb : (n + m) * bytes ≤ 140737488355328) :
  qH P ⟨dst, .call ⟨.builtin .append, #[x, y], #[t, t]⟩, T, pos, after, g⟩ Γ w
   (fun r w' => ∃ A' c', r = .slice A' (n + m) c' ∧ Own w' e size A' (n + m) c' (xs ++ news) ∧ Frm (ob A) w w' ∧ (ob A' = ob A ∨ ob A' = [w.heap.size])) := fun ρ hρ => by
 obtain ⟨i0, hi0, hz0, hz1, hz2⟩ := info_parts hi
 have ho' := ho
 have ex : (execOp ρ ⟨dst, .call ⟨.builtin .append, #[x, y], #[t, t]⟩, T, pos, after, g⟩).run P w = ((Builtin.append_ #[t, t] T #[.slice A n cap, .slice B m c2]).run P w).andThen fun a w => .ok (.value a) w := by
  simp [execOp, resolve, invoke, builtin, hρ _ _ hx, hρ _ _ hy]
 rcases Nat.eq_zero_or_pos m with hm | hm
 ·
  subst hm
  have hn0 : news = [] := List.eq_nil_of_length_eq_zero (by simpa using hr.1)
  subst hn0
  refine ⟨.slice A n cap, w, ?_, A, cap, rfl, by simpa using ho, Frm.refl _ _, .inl rfl⟩
  rw [ex]
  have hnc := ho.le
  have hz3 : ∀ w, (sizeOf e).run P w = .ok size w := fun w => by simp [sizeOf, typeInfo, hi0, hz1]
  cases A <;> cases B <;> simp [Builtin.append_, run_underlying ht, hz3, Builtin.lenOf, Builtin.firstCells, hnc, storeCells, loadCells, loadCellsFrom]
 obtain ⟨ad, rfl, hlt, hcell⟩ := hr.2 hm
 obtain ⟨v', w', hrun, hown, hgr, _, hob⟩ := run_append_own_at (P := P) w 0 t T e i0 z size bytes ht hi0 hz0 hz1 hz2 hzs hsz _ n xs ho ad m c2 news hr.1 hcell h1 h63 hb (Nat.zero_le _)
 have hform : ∃ A' c', v' = .slice A' (n + m) c' := by
  rcases hown.2 with ⟨rfl, h0⟩ | ⟨g', cap', cur', rfl, _⟩
  · omega
  exact ⟨_, _, rfl⟩
 obtain ⟨A', c', rfl⟩ := hform
 have hblk : ∀ (X : Option Addr) (p q : Nat), (Value.slice X p q).ownBlock.toList = ob X := by intro X p q; cases X <;> rfl
 refine ⟨_, w', by rw [ex, hrun]; rfl, A', c', rfl, hown, ?_, ?_⟩
 ·
  have := Frm.grown hgr
  rwa [hblk] at this
 rcases hob with h | h
 · left; rw [← hblk A' (n + m) c', h, hblk]
 right; rw [← hblk A' (n + m) c', h]; rfl
def U8 (l : List UInt8) : List Value := l.map fun b => .int .u8 (b.toNat : Int)
theorem Run.strOf {src dstT e : TypeId} {x : Operand} {A : Option Addr} {n c : Nat} {l : List UInt8} (hx : ev? Γ x = some (.slice A n c)) (hs : P.underlying src = some (.slice e)) (he : P.underlying e = some (.int .u8)) (hd : P.underlying dstT = some .string)
  (hr : Rd w 1 A n (U8 l)) : Run P ⟨dst, .convert src dstT x, T, pos, after, g⟩ Γ w (.string ⟨l.toArray⟩) := fun ρ hρ => by
 have hl : l.length = n := by have := hr.1; simpa [U8] using this
 have h1 := run_convert_bytes_string (P := P) w src dstT e A n c hs he hd
 have h2 : (Conv.bytesToString (.slice A n c)).run P w = .ok (.string ⟨l.toArray⟩) w := by
  cases A with
  | none =>
   have h0 : n = 0 := by
    rcases Nat.eq_zero_or_pos n with h | h
    · exact h
    obtain ⟨_, h', _⟩ := hr.2 h; cases h'
   subst h0
   have : l = [] := List.eq_nil_of_length_eq_zero hl
   subst this
   rfl
  | some a =>
   have hcell : ∀ j v, (U8 l)[j]? = some v → w.cell? (a.add j) = some v := by
    intro j v hv
    rcases Nat.eq_zero_or_pos n with h | h
    ·
     have : l = [] := List.eq_nil_of_length_eq_zero jo
     subst this
     simp [U8] at hv
    obtain ⟨ad, h', _, hc⟩ := hr.2 h
    injection h' with h'
    subst h'
    exact hc j v hv
   have hload := run_loadCells_list (P := P) w a (U8 l) hcell
   have hul : (U8 l).length = n := by simpa [U8] using hl
   rw [hul] at hload
   have := run_bytesToString (P := P) w a n c (l.map fun b => (b.toNat : Int)) (by rw [hload, List.map_map]; rfl)
   rw [this]
   congr 2
   have key : ∀ (l : List UInt8) (s : ByteArray), (l.map fun b => (b.toNat : Int)).foldl (fun r n => r.push (UInt8.ofNat n.toNat)) s = ⟨s.data ++ l.toArray⟩ := by
    intro l
    induction l with
    | nil => intro s; simp
    | cons b r ih =>
     intro s
     rw [List.map_cons, List.foldl_cons, ih]
     congr 1
     simp [ByteArray.push]
   rw [key]
   simp [ByteArray.empty, ByteArray.emptyWithCapacity]
   rfl
 simp [execOp, hρ _ _ hx, h1, h2]
end
section
variable {P : Program} {n : NF} {Γ Γ' : Env} {w : World} {Q : Exit → Env → World → Prop} {K : Env → World → Prop} {i id : Nat}
theorem qZ (h : Q .ret Γ w) : fT K Q .ret Γ w := h
theorem qV (h : Q (.exit i) Γ w) : fT K Q (.exit i) Γ w := h
theorem qK {ch : List PanicEntry} (h : Q (.panic ch) Γ w) : fT K Q (.panic ch) Γ w := h
theorem qS (h : Q .normal Γ w) : fR id Q .normal Γ w := h
theorem qN (h : Q .ret Γ w) : fR id Q .ret Γ w := h
theorem bX {ch : List PanicEntry} (h : Q (.panic ch) Γ w) : fR id Q (.panic ch) Γ w := h
theorem qC (h : Q .normal Γ w) : fR id Q (.exit id) Γ w := by simp only [fR, if_true]; exact h
theorem kM (hne : Nat.beq i id = false) (h : Q (.exit i) Γ w) : fR id Q (.exit i) Γ w := by
 have : i ≠ id := fun e => by subst e; rw [Nat.beq_refl] at hne; cases hne
 simp only [fR, this, if_false]; exact h
theorem Sub.nil : Sub Γ [] := trivial
theorem Sub.cons {k : Nat} {v : Value} {r : Env} (h : get? Γ k = some v) (hr : Sub Γ r) : Sub Γ ((k, v) :: r) := ⟨h, hr⟩
section
variable {R : Ending → World → Prop}
theorem qP {res : Array ResultVar} {ch : List PanicEntry} (h : R (.panicked ch) w) : dD P res R (.panic ch) Γ w := h
theorem sE (h : R (.returned (.tuple #[])) w) : dD P #[] R .ret Γ w := h
theorem cB (h : R (.returned (.tuple #[])) w) : dD P #[] R .normal Γ w := h
theorem qD {t : Tmp} {v : Value} (h1 : get? Γ t = some v) (h : R (.returned v) w) : dD P #[.tmp t] R .ret Γ w := ⟨v, h1, h⟩
theorem fD {t u : Tmp} {v x : Value} (h1 : get? Γ t = some v) (h2 : get? Γ u = some x) (h : R (.returned (.tuple #[v, x])) w) : dD P #[.tmp t, .tmp u] R .ret Γ w := ⟨v, h1, x, h2, h⟩
theorem qQw {t u s : Tmp} {v x y : Value} (h1 : get? Γ t = some v) (h2 : get? Γ u = some x) (h3 : get? Γ s = some y) (h : R (.returned (.tuple #[v, x, y])) w) : dD P #[.tmp t, .tmp u, .tmp s] R .ret Γ w := ⟨v, h1, x, h2, y, h3, h⟩
theorem bM {res : Array ResultVar} (h : fB P res.toList Γ w fun vs => R (.returned (sC vs)) w) : dD P res R .ret Γ w := h
theorem qF {K : List Value → Prop} (h : K []) : fB P [] Γ w K := h
theorem cW {t : Tmp} {r : List ResultVar} {v : Value} {K : List Value → Prop} (h1 : get? Γ t = some v) (h : fB P r Γ w fun vs => K (v :: vs)) : fB P (.tmp t :: r) Γ w K := ⟨v, h1, h⟩
theorem fE {t : Tmp} {T : TypeId} {r : List ResultVar} {a : Addr} {v : Value} {K : List Value → Prop} (h1 : get? Γ t = some (.pointer (some a))) (ht : ∀ w, (isAgg T).run P w = .ok false w) (hc : w.cell? a = some v)
  (h : fB P r Γ w fun vs => K (v :: vs)) : fB P (.cell t T :: r) Γ w K := ⟨a, v, h1, by simp [loadVar, ht, hc], h⟩
theorem qB {t : Tmp} {T : TypeId} {r : List ResultVar} {a : Addr} {cs : List Value} {sz : Nat} {K : List Value → Prop} (h1 : get? Γ t = some (.pointer (some a))) (ht : ∀ w, (isAgg T).run P w = .ok true w) (hz : ∀ w, (sizeOf T).run P w = .ok sz w)
  (hc : ∀ j v, cs[j]? = some v → w.cell? (a.add j) = some v) (hl : cs.length = sz) (h : fB P r Γ w fun vs => K (.agg cs.toArray :: vs)) : fB P (.cell t T :: r) Γ w K := by
 subst hl
 exact ⟨a, _, h1, by simp [loadVar, ht, hz, run_loadCells_list w a cs hc], h⟩
end
section
variable {ops : Array Oper} {rest : List Oper} {d : Nat} {op : Op} {T : TypeId} {pos : String} {after : Array Edge} {g : Option (Nat × Bool)}
theorem Ops.r {v : Value} (h : Run P ⟨some d, op, T, pos, after, none⟩ Γ w v) (hn : Nat.blt d n.n = true) (k : Ops P n ops rest ((d, v) :: Γ) w Q) : Ops P n ops (⟨some d, op, T, pos, after, none⟩ :: rest) Γ w Q :=
 Ops.run h trivial rfl hn k
theorem Ops.rg {v : Value} {j : Nat} {b c : Bool} (hy : yi ops Γ j = some (.bool b)) (hb : b = c) (h : Run P ⟨some d, op, T, pos, after, some (j, c)⟩ Γ w v) (hn : Nat.blt d n.n = true) (k : Ops P n ops rest ((d, v) :: Γ) w Q) : Ops P n ops (⟨some d, op, T, pos, after, some (j, c)⟩ :: rest) Γ w Q :=
 Ops.run h (by subst hb; exact hy) rfl hn k
theorem Ops.sk {j : Nat} {b c : Bool} (hy : yi ops Γ j = some (.bool b)) (hb : b = ! c) (hn : Nat.blt d n.n = true) (k : Ops P n ops rest ((d, undef) :: Γ) w Q) : Ops P n ops (⟨some d, op, T, pos, after, some (j, c)⟩ :: rest) Γ w Q :=
 Ops.skip rfl hy hb rfl hn k
theorem Ops.m {R : Value → World → Prop} (h : qH P ⟨some d, op, T, pos, after, none⟩ Γ w R) (hn : Nat.blt d n.n = true) (k : ∀ v w', R v w' → Ops P n ops rest ((d, v) :: Γ) w' Q) : Ops P n ops (⟨some d, op, T, pos, after, none⟩ :: rest) Γ w Q :=
 Ops.does h trivial rfl hn k
theorem Ops.st {R : World → Prop} (h : qJ P ⟨none, op, T, pos, after, none⟩ Γ w R) (k : ∀ w', R w' → Ops P n ops rest Γ w' Q) : Ops P n ops (⟨none, op, T, pos, after, none⟩ :: rest) Γ w Q :=
 Ops.acts h trivial rfl k
theorem Ops.cl {f : FuncId} {args : Array Value} {R : Ending → World → Prop} (he : bJ P ⟨some d, op, T, pos, after, none⟩ Γ w f args) (hc : Calls P f args w R) (hn : Nat.blt d n.n = true)
  (k : ∀ e w', R e w' → ∃ v, e = .returned v ∧ Ops P n ops rest ((d, v) :: Γ) w' Q) : Ops P n ops (⟨some d, op, T, pos, after, none⟩ :: rest) Γ w Q :=
 Ops.call he hc trivial rfl hn k
theorem Ops.clg {f : FuncId} {args : Array Value} {R : Ending → World → Prop} {j : Nat} {b c : Bool} (hy : yi ops Γ j = some (.bool b)) (hb : b = c) (he : bJ P ⟨some d, op, T, pos, after, some (j, c)⟩ Γ w f args) (hc : Calls P f args w R) (hn : Nat.blt d n.n = true)
  (k : ∀ e w', R e w' → ∃ v, e = .returned v ∧ Ops P n ops rest ((d, v) :: Γ) w' Q) : Ops P n ops (⟨some d, op, T, pos, after, some (j, c)⟩ :: rest) Γ w Q :=
 Ops.call he hc (by subst hb; exact hy) rfl hn k
variable {KE : Env → Prop}
theorem bG.r {v : Value} (h : Run P ⟨some d, op, T, pos, after, none⟩ Γ w v) (hn : Nat.blt d n.n = true) (k : bG P n ops rest ((d, v) :: Γ) w KE) : bG P n ops (⟨some d, op, T, pos, after, none⟩ :: rest) Γ w KE :=
 bG.run h trivial rfl hn k
theorem bG.rg {v : Value} {j : Nat} {b c : Bool} (hy : yi ops Γ j = some (.bool b)) (hb : b = c) (h : Run P ⟨some d, op, T, pos, after, some (j, c)⟩ Γ w v) (hn : Nat.blt d n.n = true) (k : bG P n ops rest ((d, v) :: Γ) w KE) : bG P n ops (⟨some d, op, T, pos, after, some (j, c)⟩ :: rest) Γ w KE :=
 bG.run h (by subst hb; exact hy) rfl hn k
theorem bG.sk {j : Nat} {b c : Bool} (hy : yi ops Γ j = some (.bool b)) (hb : b = ! c) (hn : Nat.blt d n.n = true) (k : bG P n ops rest ((d, undef) :: Γ) w KE) : bG P n ops (⟨some d, op, T, pos, after, some (j, c)⟩ :: rest) Γ w KE := by
 intro a hs
 unfold wpStill
 have hw : Region.wanted (⟨some d, op, T, pos, after, some (j, c)⟩ : Oper) (yielded ops a.tmps) = false := by
  unfold Region.wanted
  simp only
  rw [nT hs hy, hb]
  cases c <;> rfl
 rw [if_neg (by rw [hw]; simp)]
 exact k _ (hs.put hn undef)
end
theorem VC.meet {σ : Type} {c : Code} (env : σ → Env) (inv : σ → World → Prop) (h : VC P n c Γ w (fT (fun Γ' w' => ∃ s, Sub Γ' (env s) ∧ inv s w') Q)) (k : ∀ s w', inv s w' → ∀ Γ', Sub Γ' (env s) → Q .normal Γ' w') : VC P n c Γ w Q := by
 refine h.mono fun e Γ' w' q => ?_
 cases e with
 | normal => obtain ⟨s, hs, hi⟩ := q; exact k s w' hi Γ' hs
 | exit i => exact q
 | goto l => exact q
 | ret => exact q
 | panic c => exact q
 | outgrown => exact q
theorem VC.split1 {c : Code} (Γk : Env) (hk : Sub Γ Γk) (t : Nat) (v : Value) (h : VC P n c Γ w (fT (fun Γ1 w1 => Sub Γ1 ((t, v) :: Γk) ∧ w1 = w) Q)) (k : ∀ Γ1, Sub Γ1 ((t, v) :: Γk) → Q .normal Γ1 w) : VC P n c Γ w Q := by
 have _ := hk
 refine h.mono fun e Γ' w' q => ?_
 cases e with
 | normal => obtain ⟨hs, rfl⟩ := q; exact k Γ' hs
 | exit i => exact q
 | goto l => exact q
 | ret => exact q
 | panic c => exact q
 | outgrown => exact q
theorem nU {p q : Prop} [Decidable p] [Decidable q] (h : p) : decide (p ∧ q) = decide q := by simp [h]
theorem nB {p q : Prop} [Decidable p] [Decidable q] (h : ¬ p) : decide (p ∧ q) = false := by simp [h]
theorem Bin.add_i64 (x y : Nat) (h : x + y ≤ 9223372036854775807) : Bin .add .i64 x .i64 y (.int .i64 ((x + y : Nat) : Int)) := Bin.addN x y h
theorem Bin.sub_i64 (x y : Nat) (hy : y ≤ x) (h : x ≤ 9223372036854775807) : Bin .sub .i64 x .i64 y (.int .i64 ((x - y : Nat) : Int)) := Bin.subN x y hy (by simp only [bmax]; omega)
theorem Bin.mul_i64 (x y : Nat) (h : x * y ≤ 9223372036854775807) : Bin .mul .i64 x .i64 y (.int .i64 ((x * y : Nat) : Int)) := Bin.mulN x y h
theorem Bin.quo_i64 (x y : Nat) (hy : y ≠ 0) (h : x ≤ 9223372036854775807) : Bin .quo .i64 x .i64 y (.int .i64 ((x / y : Nat) : Int)) := Bin.quoN x y hy (by simp only [bmax]; exact Nat.le_trans (Nat.div_le_self _ _) h)
theorem Bin.add_u8 (x y : Nat) (h : x + y ≤ 255) : Bin .add .u8 x .u8 y (.int .u8 ((x + y : Nat) : Int)) := Bin.addN x y h
theorem Bin.sub_u8 (x y : Nat) (hy : y ≤ x) (h : x ≤ 255) : Bin .sub .u8 x .u8 y (.int .u8 ((x - y : Nat) : Int)) := Bin.subN x y hy (by simp only [bmax]; omega)
theorem Bin.addZ (x y : Int) (h1 : -9223372036854775808 ≤ x + y) (h2 : x + y ≤ 9223372036854775807) : Bin .add .i64 x .i64 y (.int .i64 (x + y)) := Bin.add x y h1 h2
theorem Bin.subZ (x y : Int) (h1 : -9223372036854775808 ≤ x - y) (h2 : x - y ≤ 9223372036854775807) : Bin .sub .i64 x .i64 y (.int .i64 (x - y)) := Bin.sub x y h1 h2
theorem Bin.mulZ (x y : Int) (h1 : -9223372036854775808 ≤ x * y) (h2 : x * y ≤ 9223372036854775807) : Bin .mul .i64 x .i64 y (.int .i64 (x * y)) := Bin.mul x y h1 h2
end
def fS (ops : Array Oper) (L i : Nat) : Bool := Nat.blt i L && (List.range ops.size).all fun j => Nat.blt j L || match ops[j]? with
 | none => true
 | some o => o.after.any fun e => Region.binds .any e && Nat.beq e.on i
theorem uM {ops : Array Oper} {L i j : Nat} {o : Oper} (h : fS ops L i = true) (hj : ops[j]? = some o) (hn : ∀ e ∈ o.after, Region.binds .any e = true → e.on ≠ i) : j < L := by
 unfold fS at h
 simp only [Bool.and_eq_true, List.all_eq_true, List.mem_range] at h
 have hjs : j < ops.size := (Array.getElem?_eq_some_iff.1 hj).1
 have h2 := h.2 j hjs
 rw [hj] at h2
 simp only [Bool.or_eq_true, Array.any_eq_true', Bool.and_eq_true] at h2
 rcases h2 with h2 | ⟨e, he, hb, hon⟩
 · exact Nat.blt_eq ▸ h2
 exact absurd (Nat.eq_of_beq_eq_true hon) (hn e he hb)
def cZ (P : Program) (ops : Array Oper) (Q : Exit → Act → World → Prop) (S : World → Prop) (L : Nat) : Nat → Array Bool → Act → World → Prop
 | 0, listed, a, w => Region.ready .any ops listed = [] ∧ Q .normal a w
 | f + 1, listed, a, w => (Region.ready .any ops listed = [] → Q .normal a w) ∧
  ∀ i ∈ Region.ready .any ops listed, wpOp P ops Q i (fun a' w' => (i < L → S w') ∧ cZ P ops Q S L f (listed.setIfInBounds i true) a' w') a w
section
variable {P : Program} {ops : Array Oper} {Q : Exit → Act → World → Prop} {S : World → Prop} {L : Nat}
theorem lE : ∀ (f : Nat) (listed : Array Bool) (a : Act) (w : World), cZ P ops Q S L f listed a w → wpAny P .any ops Q f listed a w
 | 0, _, _, _, h => h
 | f + 1, _, _, _, h => ⟨h.1, fun i hi => wpOp_mono (fun a' w' h' => lE f _ a' w' h'.2) (h.2 i hi)⟩
theorem mI {i : Nat} {oi : Oper} {v : Value} (hi : ops[i]? = some oi) (hL : fS ops L i = true) (hsel : ∀ (j : Nat) (o : Oper) cs b, ops[j]? = some o → o.op ≠ .select cs b) (hQ : ∀ c a w, Q (.panic c) (a.put oi.dst v) w → Q (.panic c) a w) :
  ∀ (f : Nat) (listed : Array Bool) (a : Act) (w : World), (∀ j oj, ops[j]? = some oj → j ≠ i → listed.getD j true = false → (∀ e ∈ oj.after, Region.binds .any e = true → e.on ≠ i) → oi.apart ops oj = true) →
   i ∈ Region.ready .any ops listed → YieldsIf P ops S oi v a → S w → cZ P ops Q S L f (listed.setIfInBounds i true) (a.put oi.dst v) w → cZ P ops Q S L (f + 1) listed a w
 | f, listed, a, w, hfree, hr, hy, hS, H => by
  refine ⟨fun h => absurd hr (by rw [h]; simp), fun j hj => ?_⟩
  by_cases hji : j = i
  ·
   subst hji
   exact hy.wpOp hi hS ⟨fun _ => hS, H⟩
  have hj2 := ready_mono hj hji
  cases f with
  | zero => exact absurd hj2 (by rw [H.1]; simp)
  | succ f =>
   obtain ⟨hjun, oj, hoj, hall⟩ := mem_ready.1 hj
   have hiun := (mem_ready.1 hr).1
   have hnot : ∀ e ∈ oj.after, Region.binds .any e = true → e.on ≠ i := fun e he hb heq => by
    have h1 := hall e he hb
    rw [heq] at h1
    by_cases h' : i < listed.size
    ·
     simp [h'] at hiun h1
     rw [hiun] at h1
     cases h1
    simp [Array.getElem?_eq_none (Nat.le_of_not_lt h')] at h1
   have hjL : j < L := uM hL hoj hnot
   refine wpOp_mono (fun a' w' h3 => ?_) (wpOp_putIf hoj (hfree j oj hoj hji hjun hnot) (fun cs b => hsel i oi cs b hi) (fun cs b => hsel j oj cs b hoj) hQ hy (H.2 j hj2))
   refine ⟨h3.2.1, mI hi hL hsel hQ f _ a' w' (fun k ok hk hki hun hno => hfree k ok hk hki ?_ hno) (ready_mono hr (Ne.symm hji)) h3.1 (h3.2.1 hjL) ?_⟩
   ·
    by_cases hjk : j = k
    · subst hjk; exact hjun
    rwa [getD_set_ne true hjk] at hun
   rw [Array.setIfInBounds_comm _ _ hji]
   exact h3.2.2
theorem gB {i : Nat} {oi : Oper} {v : Value} {f : Nat} {listed : Array Bool} {a : Act} {w : World} (hi : ops[i]? = some oi) (hs : (Region.noSelect ops && fS ops L i) = true) (hf : Region.free .any ops listed i = true) (hr : (Region.ready .any ops listed).contains i = true)
  (hQ : ∀ c a w, Q (.panic c) (a.put oi.dst v) w → Q (.panic c) a w) (hy : YieldsIf P ops S oi v a) (hS : S w) (h : cZ P ops Q S L f (listed.setIfInBounds i true) (a.put oi.dst v) w) : cZ P ops Q S L (f + 1) listed a w :=
 mI hi (Bool.and_eq_true _ _ ▸ hs).2 (Region.noSelect_spec (Bool.and_eq_true _ _ ▸ hs).1) hQ f listed a w (Region.free_spec hi hf) (by simpa using hr) hy hS h
theorem mF {i : Nat} {oi : Oper} {v : Value} (hi : ops[i]? = some oi) (hL : L ≤ i) (hsel : ∀ (j : Nat) (o : Oper) cs b, ops[j]? = some o → o.op ≠ .select cs b) (hQ : ∀ c a w, Q (.panic c) (a.put oi.dst v) w → Q (.panic c) a w) :
  ∀ (f : Nat) (listed : Array Bool) (a : Act) (w : World), (∀ j oj, ops[j]? = some oj → j ≠ i → listed.getD j true = false → (∀ e ∈ oj.after, Region.binds .any e = true → e.on ≠ i) → oi.apart ops oj = true) →
   i ∈ Region.ready .any ops listed → YieldsIf P ops (fun _ => True) oi v a → cZ P ops Q S L f (listed.setIfInBounds i true) (a.put oi.dst v) w → cZ P ops Q S L (f + 1) listed a w
 | f, listed, a, w, hfree, hr, hy, H => by
  refine ⟨fun h => absurd hr (by rw [h]; simp), fun j hj => ?_⟩
  by_cases hji : j = i
  ·
   subst hji
   exact hy.wpOp hi trivial ⟨fun h => absurd h (Nat.not_lt.2 hL), H⟩
  have hj2 := ready_mono hj hji
  cases f with
  | zero => exact absurd hj2 (by rw [H.1]; simp)
  | succ f =>
   obtain ⟨hjun, oj, hoj, hall⟩ := mem_ready.1 hj
   have hiun := (mem_ready.1 hr).1
   have hnot : ∀ e ∈ oj.after, Region.binds .any e = true → e.on ≠ i := fun e he hb heq => by
    have h1 := hall e he hb
    rw [heq] at h1
    by_cases h' : i < listed.size
    ·
     simp [h'] at hiun h1
     rw [hiun] at h1
     cases h1
    simp [Array.getElem?_eq_none (Nat.le_of_not_lt h')] at h1
   refine wpOp_mono (fun a' w' h3 => ?_) (wpOp_putIf hoj (hfree j oj hoj hji hjun hnot) (fun cs b => hsel i oi cs b hi) (fun cs b => hsel j oj cs b hoj) hQ hy (H.2 j hj2))
   refine ⟨h3.2.1, mF hi hL hsel hQ f _ a' w' (fun k ok hk hki hun hno => hfree k ok hk hki ?_ hno) (ready_mono hr (Ne.symm hji)) h3.1 ?_⟩
   ·
    by_cases hjk : j = k
    · subst hjk; exact hjun
    rwa [getD_set_ne true hjk] at hun
   rw [Array.setIfInBounds_comm _ _ hji]
   exact h3.2.2
theorem lA {rs : List Nat} {f : Nat} {listed : Array Bool} {a : Act} {w : World} (hr : Region.ready .any ops listed = rs) (hne : rs ≠ [])
  (h : ∀ i ∈ rs, wpOp P ops Q i (fun a' w' => S w' ∧ cZ P ops Q S L f (listed.setIfInBounds i true) a' w') a w) : cZ P ops Q S L (f + 1) listed a w :=
 ⟨fun h0 => absurd (hr ▸ h0) hne, hr ▸ fun i hi => wpOp_mono (fun _ _ h => ⟨fun _ => h.1, h.2⟩) (h i hi)⟩
theorem uN {f : Nat} {listed : Array Bool} {a : Act} {w : World} (hr : Region.ready .any ops listed = [L]) (h : wpOp P ops Q L (fun a' w' => cZ P ops Q S L f (listed.setIfInBounds L true) a' w') a w) : cZ P ops Q S L (f + 1) listed a w := by
 refine ⟨fun h0 => (by rw [hr] at h0; cases h0), fun i hi => ?_⟩
 rw [hr] at hi
 simp only [List.mem_singleton] at hi
 subst hi
 exact wpOp_mono (fun _ _ h => ⟨fun h0 => absurd h0 (Nat.lt_irrefl _), h⟩) h
theorem uP {listed : Array Bool} {a : Act} {w : World} (hr : Region.ready .any ops listed = []) (h : Q .normal a w) : ∀ f, cZ P ops Q S L f listed a w
 | 0 => ⟨hr, h⟩
 | _ + 1 => ⟨fun _ => h, by rw [hr]; simp⟩
end
def dL (n : NF) (K : Env → World → Prop) (Pn : List PanicEntry → World → Prop) (e : Exit) (a : Act) (w : World) : Prop := match e with
 | .normal => ∃ Γ, Sat n Γ a ∧ K Γ w
 | .panic ch => (a.tmps.size = n.n ∧ a.defers = n.D) ∧ Pn ch w
 | _ => False
def qQ (P : Program) (n : NF) (ops : Array Oper) (S : World → Prop) (Pn : List PanicEntry → World → Prop) (L fuel : Nat) (listed : Array Bool) (Γ : Env) (w : World) (K : Env → World → Prop) : Prop :=
 ∀ a, Sat n Γ a → cZ P ops (dL n K Pn) S L fuel listed a w
theorem gI {n : NF} {K : Env → World → Prop} {Pn : List PanicEntry → World → Prop} {d : Option Tmp} {v : Value} : ∀ (c : List PanicEntry) (a : Act) (w : World), dL n K Pn (.panic c) (a.put d v) w → dL n K Pn (.panic c) a w := by
 intro c a w h
 cases d with
 | none => exact h
 | some d => exact ⟨⟨by have := h.1.1; simpa [Act.put] using this, h.1.2⟩, h.2⟩
section
variable {P : Program} {n : NF} {Γ Γ' : Env} {w : World} {Q : Exit → Env → World → Prop} {Pn : List PanicEntry → World → Prop} {K : Env → World → Prop} {ops : Array Oper} {S S' : World → Prop} {L fuel : Nat} {listed : Array Bool}
theorem Up.g {j : Nat} {b c : Bool} (hy : yi ops Γ j = some (.bool b)) (hb : b = c) : Up ops Γ (some (j, c)) := by subst hb; exact hy
theorem VC.heldL {id : Nat} {l : List Oper} (L : Nat) (S : World → Prop) (hm : P.follows .mixedOrders = true)
  (h : qQ P n l.toArray S (fun ch w' => Q (.panic ch) [] w') L l.toArray.size (Array.replicate l.toArray.size false) Γ w.drew (fun Γ' w' => Q .normal Γ' w')) (hnd : n.ro = none ∨ eV l.toArray = true := by first | exact .inl rfl | exact .inr (by kernel_rfl)) : VC P n (.region id l.toArray true) Γ w Q := by
 intro a hs m
 refine wpIn_mono (Q := dL n (fun Γ' w' => Q .normal Γ' w') (fun ch w' => Q (.panic ch) [] w')) (wpIn_region_any hm (lC hnd (fun ⟨_, _, h⟩ => h) _ _ _ _ (lE _ _ _ _ (h a hs)))) ?_
 intro e a w hq
 cases e with
 | normal => exact hq
 | panic ch => exact ⟨[], ⟨hq.1.1, hq.1.2, fun t v h => by simp [get?] at h⟩, hq.2⟩
 | _ => exact hq.elim
theorem VC.held {id : Nat} {l : List Oper} (S : World → Prop) (hm : P.follows .mixedOrders = true)
  (h : qQ P n l.toArray S (fun ch w' => Q (.panic ch) [] w') l.toArray.size l.toArray.size (Array.replicate l.toArray.size false) Γ w.drew (fun Γ' w' => Q .normal Γ' w')) (hnd : n.ro = none ∨ eV l.toArray = true := by first | exact .inl rfl | exact .inr (by kernel_rfl)) : VC P n (.region id l.toArray true) Γ w Q := VC.heldL _ S hm h hnd
theorem qQ.done (hr : Region.ready .any ops listed = []) (h : K Γ w) : qQ P n ops S Pn L fuel listed Γ w K := fun _ hs => uP hr ⟨Γ, hs, h⟩ fuel
theorem qQ.take {v : Value} {d : Nat} (i : Nat) {oi : Oper} (hi : ops[i]? = some oi) (hsel : (Region.noSelect ops && fS ops L i) = true) (hf : Region.free .any ops listed i = true) (hr : (Region.ready .any ops listed).contains i = true)
  (hS : S w) (h : ∀ w', S w' → Run P oi Γ w' v) (hup : Up ops Γ oi.guard) (hd : oi.dst = some d) (hn : Nat.blt d n.n = true)
  (k : qQ P n ops S Pn L fuel (listed.setIfInBounds i true) ((d, v) :: Γ) w K) : qQ P n ops S Pn L (fuel + 1) listed Γ w K := by
 intro a hs
 refine gB hi hsel hf hr gI (.inl ⟨hup.wanted hs, fun w' hw' => h w' hw' _ hs.fits⟩) hS ?_
 rw [hd]
 exact k _ (hs.put hn v)
theorem qQ.takeG {v : Value} {d : Nat} (i : Nat) {oi : Oper} (hi : ops[i]? = some oi) (hL : Nat.ble L i = true) (hsel : Region.noSelect ops = true) (hf : Region.free .any ops listed i = true) (hr : (Region.ready .any ops listed).contains i = true)
  (h : ∀ w', Run P oi Γ w' v) (hup : Up ops Γ oi.guard) (hd : oi.dst = some d) (hn : Nat.blt d n.n = true)
  (k : qQ P n ops S Pn L fuel (listed.setIfInBounds i true) ((d, v) :: Γ) w K) : qQ P n ops S Pn L (fuel + 1) listed Γ w K := by
 intro a hs
 refine mF hi (Nat.le_of_ble_eq_true hL) (Region.noSelect_spec hsel) gI fuel listed a w (Region.free_spec hi hf) (by simpa using hr) (.inl ⟨hup.wanted hs, fun w' _ => h w' _ hs.fits⟩) ?_
 rw [hd]
 exact k _ (hs.put hn v)
theorem qQ.skip {d : Nat} (i : Nat) {oi : Oper} {j : Nat} {b c : Bool} (hi : ops[i]? = some oi) (hsel : (Region.noSelect ops && fS ops L i) = true) (hf : Region.free .any ops listed i = true) (hr : (Region.ready .any ops listed).contains i = true)
  (hS : S w) (hg : oi.guard = some (j, c)) (hy : yi ops Γ j = some (.bool b)) (hbc : b = ! c) (hd : oi.dst = some d) (hn : Nat.blt d n.n = true)
  (k : qQ P n ops S Pn L fuel (listed.setIfInBounds i true) ((d, undef) :: Γ) w K) : qQ P n ops S Pn L (fuel + 1) listed Γ w K := by
 intro a hs
 refine gB (v := undef) hi hsel hf hr gI (.inr ⟨?_, rfl⟩) hS ?_
 ·
  unfold Region.wanted
  rw [hg]
  simp only
  rw [nT hs hy, hbc]
  cases c <;> rfl
 rw [hd]
 exact k _ (hs.put hn undef)
theorem qQ.of_wp (i : Nat) {oi : Oper} (hi : ops[i]? = some oi) (hr : Region.ready .any ops listed = [i]) (hup : Up ops Γ oi.guard)
  (h : ∀ a, Sat n Γ a → oi.wp P a w (fun a' w' => S w' ∧ cZ P ops (dL n K Pn) S L fuel (listed.setIfInBounds i true) a' w') (dL n K Pn)) : qQ P n ops S Pn L (fuel + 1) listed Γ w K := by
 intro a hs
 refine lA hr jp ?_
 intro j hj
 simp only [List.mem_singleton] at hj
 subst hj
 unfold wpOp
 simp only [hi]
 rw [if_pos (hup.wanted hs)]
 exact .inl (h a hs)
theorem qQ.m {R : Value → World → Prop} {d : Nat} (i : Nat) {oi : Oper} (hi : ops[i]? = some oi) (hr : Region.ready .any ops listed = [i]) (h : qH P oi Γ w R) (hup : Up ops Γ oi.guard) (hd : oi.dst = some d) (hn : Nat.blt d n.n = true)
  (k : ∀ v w', R v w' → S w' ∧ qQ P n ops S Pn L fuel (listed.setIfInBounds i true) ((d, v) :: Γ) w' K) : qQ P n ops S Pn L (fuel + 1) listed Γ w K :=
 qQ.of_wp i hi hr hup fun a hs => by
  obtain ⟨v, w', hrun, hR⟩ := h _ hs.fits
  unfold Oper.wp
  rw [hrun, Oper.upon_value, hd]
  exact ⟨(k v w' hR).1, (k v w' hR).2 _ (hs.put hn v)⟩
theorem qQ.st {R : World → Prop} (i : Nat) {oi : Oper} (hi : ops[i]? = some oi) (hr : Region.ready .any ops listed = [i]) (h : qJ P oi Γ w R) (hup : Up ops Γ oi.guard) (hd : oi.dst = none)
  (k : ∀ w', R w' → S w' ∧ qQ P n ops S Pn L fuel (listed.setIfInBounds i true) Γ w' K) : qQ P n ops S Pn L (fuel + 1) listed Γ w K :=
 qQ.of_wp i hi hr hup fun a hs => by
  obtain ⟨w', hrun, hR⟩ := h _ hs.fits
  unfold Oper.wp
  rw [hrun, Oper.upon_skip, hd]
  exact ⟨(k w' hR).1, (k w' hR).2 _ hs⟩
theorem qQ.stL {R : World → Prop} {oi : Oper} (hi : ops[L]? = some oi) (hr : Region.ready .any ops listed = [L]) (h : qJ P oi Γ w R) (hup : Up ops Γ oi.guard) (hd : oi.dst = none)
  (k : ∀ w', R w' → qQ P n ops S Pn L fuel (listed.setIfInBounds L true) Γ w' K) : qQ P n ops S Pn L (fuel + 1) listed Γ w K := by
 intro a hs
 refine uN hr ?_
 unfold wpOp
 simp only [hi]
 rw [if_pos (hup.wanted hs)]
 left
 obtain ⟨w', hrun, hR⟩ := h _ hs.fits
 unfold Oper.wp
 rw [hrun, Oper.upon_skip, hd]
 exact (k w' hR) _ hs
theorem qQ.st2 {R1 R2 : World → Prop} {R3 : World → Prop} (i j : Nat) {oi oj : Oper} (hi : ops[i]? = some oi) (hj : ops[j]? = some oj) (hr : Region.ready .any ops listed = [i, j]) (hLi : Nat.ble L i = true) (hLj : Nat.ble L j = true)
  (hri : Region.ready .any ops (listed.setIfInBounds i true) = [j]) (hrj : Region.ready .any ops (listed.setIfInBounds j true) = [i])
  (h1 : qJ P oi Γ w R1) (h2 : qJ P oj Γ w R2) (h3 : ∀ w1, R1 w1 → qJ P oj Γ w1 R3) (h4 : ∀ w1, R2 w1 → qJ P oi Γ w1 R3)
  (hgi : oi.guard = none) (hgj : oj.guard = none) (hdi : oi.dst = none) (hdj : oj.dst = none) (hc : (listed.setIfInBounds j true).setIfInBounds i true = (listed.setIfInBounds i true).setIfInBounds j true)
  (k : ∀ w', R3 w' → qQ P n ops S Pn L fuel ((listed.setIfInBounds i true).setIfInBounds j true) Γ w' K) : qQ P n ops S Pn L (fuel + 2) listed Γ w K := by
 intro a hs
 have hwi : Region.wanted oi (yielded ops a.tmps) = true := by unfold Region.wanted; rw [hgi]
 have hwj : Region.wanted oj (yielded ops a.tmps) = true := by unfold Region.wanted; rw [hgj]
 have one : ∀ (x : Nat) (o : Oper) (V : World) (R : World → Prop) (QQ : World → Prop), ops[x]? = some o → Region.wanted o (yielded ops a.tmps) = true → o.dst = none → qJ P o Γ V R → (∀ V', R V' → QQ V') → wpOp P ops (dL n K Pn) x (fun a' w' => a' = a ∧ QQ w') a V := by
  intro x o V R QQ hx hw hd ha hq
  unfold wpOp
  simp only [hx]
  rw [if_pos hw]
  left
  obtain ⟨V', hrun, hR⟩ := ha _ hs.fits
  unfold Oper.wp
  rw [hrun, Oper.upon_skip, hd]
  exact ⟨rfl, hq V' hR⟩
 refine ⟨fun h0 => (by rw [hr] at h0; cases h0), fun x hx => ?_⟩
 rw [hr] at hx
 simp only [List.mem_cons, List.not_mem_nil, or_false] at hx
 rcases hx with rfl | rfl
 ·
  refine wpOp_mono (fun a' w' h5 => ?_) (one x oi w R1 R1 hi hwi hdi h1 (fun _ h => h))
  obtain ⟨rfl, h5⟩ := h5
  refine ⟨fun h => absurd h (Nat.not_lt.2 (Nat.le_of_ble_eq_true hLi)), fun h0 => (by rw [hri] at h0; cases h0), fun y hy => ?_⟩
  rw [hri, List.mem_singleton] at hy
  subst hy
  refine wpOp_mono (fun a' w'' h6 => ?_) (one y oj w' R3 R3 hj hwj hdj (h3 w' h5) (fun _ h => h))
  obtain ⟨rfl, h6⟩ := h6
  exact ⟨fun h => absurd h (Nat.not_lt.2 (Nat.le_of_ble_eq_true hLj)), k w'' h6 _ hs⟩
 refine wpOp_mono (fun a' w' h5 => ?_) (one x oj w R2 R2 hj hwj hdj h2 (fun _ h => h))
 obtain ⟨rfl, h5⟩ := h5
 refine ⟨fun h => absurd h (Nat.not_lt.2 (Nat.le_of_ble_eq_true hLj)), fun h0 => (by rw [hrj] at h0; cases h0), fun y hy => ?_⟩
 rw [hrj, List.mem_singleton] at hy
 subst hy
 refine wpOp_mono (fun a' w'' h6 => ?_) (one y oi w' R3 R3 hi hwi hdi (h4 w' h5) (fun _ h => h))
 obtain ⟨rfl, h6⟩ := h6
 exact ⟨fun h => absurd h (Nat.not_lt.2 (Nat.le_of_ble_eq_true hLi)), by rw [hc]; exact k w'' h6 _ hs⟩
theorem qQ.cl {f : FuncId} {args : Array Value} {R : Ending → World → Prop} {d : Nat} (i : Nat) {oi : Oper} (hi : ops[i]? = some oi) (hr : Region.ready .any ops listed = [i]) (he : bJ P oi Γ w f args) (hc : Calls P f args w R) (hup : Up ops Γ oi.guard) (hd : oi.dst = some d) (hn : Nat.blt d n.n = true)
  (k : ∀ e w', R e w' → ∃ v, e = .returned v ∧ S w' ∧ qQ P n ops S Pn L fuel (listed.setIfInBounds i true) ((d, v) :: Γ) w' K) : qQ P n ops S Pn L (fuel + 1) listed Γ w K :=
 qQ.of_wp i hi hr hup fun a hs => by
  unfold Oper.wp
  rw [he _ hs.fits, Oper.upon_enter, hd]
  refine hc.mono ?_
  intro e w' hR
  obtain ⟨v, rfl, h1, h2⟩ := k e w' hR
  exact ⟨h1, h2 _ (hs.put hn v)⟩
end
end
section
open Go.RowKit Go.ChangeShapes Go.WideShapes Go.Deep
def IB (xs : List Int) : List Value := xs.map (Value.int .i64)
theorem yV (l : List Int) : ∀ u ∈ IB l, u.oneCell' = true := by
 intro u hu
 obtain ⟨b, _, rfl⟩ := List.mem_map.1 hu
 rfl
theorem nI {α : Type} {Q : Nat → α → Prop} : ∀ n, (∀ i, i < n → ∃ s, Q i s) → ∃ l : List α, l.length = n ∧ ∀ i s, l[i]? = some s → Q i s
 | 0, _ => ⟨[], rfl, fun i s h => by simp at h⟩
 | n + 1, h => by
  obtain ⟨l, hl, hq⟩ := nI n (fun i hi => h i jo)
  obtain ⟨s, hs⟩ := h n jo
  refine ⟨l ++ [s], by simp [hl], fun i t ht => ?_⟩
  rcases Nat.lt_trichotomy i n with hi | hi | hi
  · rw [List.getElem?_append_left jo] at ht; exact hq i t ht
  ·
   subst hi
   rw [List.getElem?_append_right jo, hl, Nat.sub_self] at ht
   simp at ht
   subst ht
   exact hs
  rw [List.getElem?_eq_none (by simp; omega)] at ht; cases ht
theorem kN {α : Type} (f : α → List Value) (sz : Nat) (hf : ∀ a, (f a).length = sz) (l : List α) (k : Nat) (h : k < l.length) : ((l.flatMap f).drop (k * sz)).take sz = f l[k] := by
 induction l generalizing k with
 | nil => simp at h
 | cons a r ih =>
  rw [List.flatMap_cons]
  cases k with
  | zero => rw [Nat.zero_mul, List.drop_zero, List.take_append_of_le_length (by rw [hf]; exact Nat.le_refl _), List.take_of_length_le (by rw [hf]; exact Nat.le_refl _)]; rfl
  | succ k =>
   have e : (k + 1) * sz = (f a).length + k * sz := by rw [hf, Nat.succ_mul]; omega
   rw [e, List.drop_append, List.drop_eq_nil_of_le jo, List.nil_append, Nat.add_sub_cancel_left, ih k (by simpa using h)]
   rfl
section
variable {H : Type} {enc : TypeId × Value → H} {P : Program} {w : World} {base : Nat} {spare : Nat → Bool} {held : Bool}
theorem wS {t e : TypeId} {fs : Array Field} {fuel len cap : Nat} {a : Option Addr} {x : DataW H × List MemPlace} (ht : P.underlying t = some (.slice e)) (he : P.underlying e = some (.struct fs)) (hone : oneCellFields P fs = true) (hC : P.cellsOf e = fs.size) (hfs : 0 < fs.size)
  (h : DataW.trod enc P w base spare held fuel t [.slice a len cap] = some x) :
  ∃ ls : List (List Value), ls.length = len ∧ len ≤ cap ∧ cap ≤ 9223372036854775807 ∧ Rd w fs.size a len (ls.flatMap id) ∧
   ∀ l ∈ ls, l.length = fs.size ∧ ∀ (j : Nat) (f : Field), fs[j]? = some f → ∃ (v : Value) (y : DataW H × List MemPlace) (n : Nat), l[j]? = some v ∧ DataW.trod enc P w base spare held n f.type [v] = some y := by
 rcases open_slice ht h with ⟨hcs, _⟩ | ⟨ad, l, c, m, n, D, Pl, hcs, _, hl, hm, hmm, _, hi⟩
 ·
  simp only [List.cons.injEq, Value.slice.injEq, and_true] at hcs
  obtain ⟨rfl, rfl, rfl⟩ := hcs
  exact ⟨[], rfl, Nat.le_refl _, jo, Rd.nil _ _ _, jp⟩
 simp only [List.cons.injEq, Value.slice.injEq, and_true] at hcs
 obtain ⟨rfl, rfl, rfl⟩ := hcs
 have hml : len ≤ m := by rw [hmm]; split <;> omega
 rw [hC] at hi
 have key : ∀ i, i < len → ∃ cs' : List Value, (cs'.length = fs.size ∧ (∀ j, j < fs.size → w.cell? ((ad.add (i * fs.size)).add j) = cs'[j]?)) ∧ ∀ (j : Nat) (f : Field), fs[j]? = some f → ∃ (v : Value) (y : DataW H × List MemPlace) (n : Nat), cs'[j]? = some v ∧ DataW.trod enc P w base spare held n f.type [v] = some y := by
  intro i hil
  obtain ⟨cs', hc, ht'⟩ := hi i jo
  obtain ⟨_, hcl, hat⟩ := World.cells?_some hc
  obtain ⟨ys, n', hn', hy, hlen, hyl, hf⟩ := DataW.trod_struct he ht'
  refine ⟨cs', ⟨hcl, fun j hj => hat j hj⟩, fun j f hj => ?_⟩
  obtain ⟨ho, hk⟩ := hone_of hone j f hj
  have hjl : j < fs.size := (Array.getElem?_eq_some_iff.1 hj).1
  have h1 := hf j f hj
  rw [ho, hk] at h1
  have hone' : (cs'.drop j).take 1 = [cs'[j]'jo] := by
   rw [List.drop_eq_getElem_cons jo]
   rfl
  rw [hone'] at h1
  have hys : ys[j]? = some (ys[j]'jo) := List.getElem?_eq_getElem jo
  exact ⟨_, _, _, List.getElem?_eq_getElem jo, h1.trans hys⟩
 obtain ⟨ls, hll, hq⟩ := nI len key
 have hsz : ∀ l ∈ ls, l.length = fs.size := fun l hl => by
  obtain ⟨i, hi', hli⟩ := List.getElem_of_mem hl
  exact (hq i l (by rw [List.getElem?_eq_getElem hi', hli])).1.1
 have hidx : ∀ (ls : List (List Value)), (∀ l ∈ ls, l.length = fs.size) → ∀ j, (ls.flatMap id)[j]? = (ls[j / fs.size]?).bind fun l => l[j % fs.size]? := by
  intro ls
  induction ls with
  | nil => intro _ j; simp
  | cons b r ih =>
   intro hb j
   have hbl : b.length = fs.size := hb b jp
   rw [List.flatMap_cons]
   by_cases hj : j < fs.size
   · rw [List.getElem?_append_left (by simp only [id]; omega), Nat.div_eq_of_lt hj, Nat.mod_eq_of_lt hj]; rfl
   rw [List.getElem?_append_right (by simp only [id]; omega)]
   simp only [id, hbl]
   rw [ih (fun l hl => hb l (by simp [hl])), Nat.mod_eq_sub_mod (a := j) jo]
   have : j / fs.size = (j - fs.size) / fs.size + 1 := by rw [← Nat.add_div_right _ hfs]; congr 1; omega
   rw [this]
   rfl
 have hlen : ∀ (ls : List (List Value)), (∀ l ∈ ls, l.length = fs.size) → (ls.flatMap id).length = ls.length * fs.size := by
  intro ls
  induction ls with
  | nil => intro _; simp
  | cons b r ih =>
   intro hb
   rw [List.flatMap_cons, List.length_append, ih (fun l hl => hb l (by simp [hl])), List.length_cons, Nat.succ_mul]
   have : b.length = fs.size := hb b jp
   simp only [id]
   omega
 have hcell : ∀ j u, (ls.flatMap id)[j]? = some u → w.cell? (ad.add j) = some u := by
  intro j u hu
  rw [hidx ls hsz] at hu
  obtain ⟨l, hl', hu'⟩ := Option.bind_eq_some_iff.1 hu
  have hmod : j % fs.size < fs.size := Nat.mod_lt _ hfs
  have := (hq _ l hl').1.2 _ hmod
  rw [Go.Proofs.YtjklfpccmaljjaaGreatDoor.add_add, Nat.mul_comm, Nat.div_add_mod] at this
  rw [this, hu']
 refine ⟨ls, hll, hl, by simpa [maxLen] using hm, ⟨by rw [hlen ls hsz, hll], fun hn => ⟨ad, rfl, ?_, hcell⟩⟩, fun l hl => ?_⟩
 ·
  have h0 : 0 < (ls.flatMap id).length := by rw [hlen ls hsz, hll]; exact Nat.mul_pos hn hfs
  have := World.block_lt_of_cell? w _ (hcell 0 _ (List.getElem?_eq_getElem h0))
  rwa [rN] at this
 obtain ⟨i, hi', hli⟩ := List.getElem_of_mem hl
 have := hq i l (by rw [List.getElem?_eq_getElem hi', hli])
 exact ⟨this.1.1, this.2⟩
end
end
section
open Go.RowKit
section
variable {P : Program} {n : NF} {Γ : Env} {w : World} {Q : Exit → Env → World → Prop} {K : Env → World → Prop} {KE : Env → Prop} {ops : Array Oper} {rest : List Oper} {d : Nat} {op : Op} {T : TypeId} {pos : String} {after : Array Edge}
theorem qQx {j : Nat} {a : Act} (hs : Sat n Γ a) (h : yi ops Γ j = some undef) : yielded ops a.tmps j = none := by
 unfold yi at h
 unfold yielded
 cases hd : (ops[j]?).bind (·.dst) with
 | none => rfl
 | some t =>
  rw [hd] at h
  simp only [Option.bind_some] at h ⊢
  have := hs.at_ t _ h
  rw [Array.getD_eq_getD_getElem?] at this
  cases hg : a.tmps[t]? with
  | none => rfl
  | some u => rw [hg] at this; simp only [Option.getD_some] at this; subst this; rfl
theorem mL {j : Nat} {c : Bool} {o : Oper} {a : Act} (hs : Sat n Γ a) (hg : o.guard = some (j, c)) (h : yi ops Γ j = some undef) : Region.wanted o (yielded ops a.tmps) = false := by
 unfold Region.wanted
 rw [hg]
 simp only
 rw [qQx hs h]
 rfl
theorem Ops.skU {j : Nat} {c : Bool} (hy : yi ops Γ j = some undef) (hn : Nat.blt d n.n = true) (k : Ops P n ops rest ((d, undef) :: Γ) w Q) : Ops P n ops (⟨some d, op, T, pos, after, some (j, c)⟩ :: rest) Γ w Q := by
 intro a hs m
 unfold wpListIn
 rw [mL hs rfl hy]
 simp only [Bool.false_eq_true, if_false]
 exact ⟨dK, k _ (hs.put hn undef) m⟩
theorem qQ.skU {S : World → Prop} {Pn : List PanicEntry → World → Prop} {L fuel : Nat} {listed : Array Bool} {d : Nat} (i : Nat) {oi : Oper} {j : Nat} {c : Bool} (hi : ops[i]? = some oi) (hsel : (Region.noSelect ops && fS ops L i) = true) (hf : Region.free .any ops listed i = true) (hr : (Region.ready .any ops listed).contains i = true)
  (hS : S w) (hg : oi.guard = some (j, c)) (hy : yi ops Γ j = some undef) (hd : oi.dst = some d) (hn : Nat.blt d n.n = true)
  (k : qQ P n ops S Pn L fuel (listed.setIfInBounds i true) ((d, undef) :: Γ) w K) : qQ P n ops S Pn L (fuel + 1) listed Γ w K := by
 intro a hs
 refine gB (v := undef) hi hsel hf hr gI (.inr ⟨mL hs hg hy, rfl⟩) hS ?_
 rw [hd]
 exact k _ (hs.put hn undef)
end
section
variable {P : Program} {Γ : Env} {w : World} {dst : Option Tmp} {T : TypeId} {pos : String} {after : Array Edge} {g : Option (Nat × Bool)}
theorem Run.indexA {t : TypeId} {x i : Operand} {a : Addr} {n : Nat} {k : IntKind} {e : TypeId} {sz : Nat} (j : Nat) (hx : ev? Γ x = some (.pointer (some a))) (hi : ev? Γ i = some (.int k j)) (ht : P.underlying t = some (.array n e))
  (hz : ∀ w, (sizeOf e).run P w = .ok sz w) (hj : j < n) : Run P ⟨dst, .indexAddr t x i, T, pos, after, g⟩ Γ w (.pointer (some (a.add (j * sz)))) := fun ρ hρ => by
 have h1 : (j : Int) < (n : Int) := jo
 simp [execOp, hρ _ _ hx, hρ _ _ hi, Instr.indexAt, asIntOf, run_underlying ht, hz, hj, Instr.sureAddr]
theorem Run.indexA1 {t : TypeId} {x i : Operand} {gb o n : Nat} {k : IntKind} {e : TypeId} (j : Nat) (hx : ev? Γ x = some (.pointer (some ⟨gb, o, none⟩))) (hi : ev? Γ i = some (.int k j)) (ht : P.underlying t = some (.array n e))
  (hz : ∀ w, (sizeOf e).run P w = .ok 1 w) (hj : j < n) : Run P ⟨dst, .indexAddr t x i, T, pos, after, g⟩ Γ w (.pointer (some ⟨gb, o + j, none⟩)) := by
 have := Run.indexA (P := P) (Γ := Γ) (w := w) (dst := dst) (T := T) (pos := pos) (after := after) (g := g) j hx hi ht hz hj
 have e : (⟨gb, o, none⟩ : Addr).add (j * 1) = ⟨gb, o + j, none⟩ := by unfold Addr.add; split <;> simp_all
 rwa [e] at this
theorem Run.loadB {t e : TypeId} {x : Operand} {gb sz : Nat} {cs : Array Value} (hx : ev? Γ x = some (.pointer (some ⟨gb, 0, none⟩))) (ht : ∀ w, (isAgg t).run P w = .ok true w) (hz : ∀ w, (sizeOf t).run P w = .ok sz w)
  (hb : Blk w gb e cs) (hl : cs.size = sz) : Run P ⟨dst, .load t x, T, pos, after, g⟩ Γ w (.agg cs) := by
 have := Run.loadA (P := P) (Γ := Γ) (w := w) (dst := dst) (T := T) (pos := pos) (after := after) (g := g) hx ht hz hb.cells (by simpa using hl)
 simpa using this
theorem mO {t : Tmp} {T : TypeId} {r : List ResultVar} {e : TypeId} {gb sz : Nat} {cs : Array Value} {K : List Value → Prop} (h1 : get? Γ t = some (.pointer (some ⟨gb, 0, none⟩))) (ht : ∀ w, (isAgg T).run P w = .ok true w) (hz : ∀ w, (sizeOf T).run P w = .ok sz w)
  (hb : Blk w gb e cs) (hl : cs.size = sz) (h : fB P r Γ w fun vs => K (.agg cs :: vs)) : fB P (.cell t T :: r) Γ w K :=
 qB (cs := cs.toList) h1 ht hz hb.cells (by simpa using hl) (by simpa using h)
theorem qH.buildN {t e : TypeId} {size n : Nat} {parts : List (Nat × Operand)} {vs : List Value} {z : Value} {cells : Array Value} (hv : evs Γ (parts.map (·.2)) vs) (ht : P.underlying t = some (.slice e)) (hz : ∀ w, (sizeOf e).run P w = .ok size w)
  (hzv : ∀ w, (zeroValue e).run P w = .ok z w) (hn : Nat.beq (n * size) 0 = false) (hb : Nat.ble (n * size) 16777216 = true)
  (hf : Instr.fill (fun i => some (i * size, size)) ((Array.range (n * size)).map (z.cells[· % z.cells.size]!)) ((parts.map (·.1)).zip vs) = some cells) :
  qH P ⟨dst, .buildSlice t n parts.toArray, T, pos, after, g⟩ Γ w (fun r w' => r = .slice (some ⟨w.heap.size, 0, none⟩) n n ∧ Fresh w w' e cells) := fun ρ hρ => by
 have e1 := eI hρ _ _ hv
 have e2 : parts.map (fun p => (p.1, ρ p.2)) = (parts.map (·.1)).zip vs := by
  rw [← e1, List.map_map, List.zip_map']
  rfl
 have h1 : ¬ (n * size > 2 ^ 24) := by have := Nat.le_of_ble_eq_true hb; omega
 have h2 : ¬ (n * size = 0) := Nat.ne_of_beq_eq_false hn
 refine ⟨_, w.alloc (.cells cells e), ?_, rfl, Fresh.mk' _ _ _⟩
 simp only [execOp, Instr.buildSlice, Sem.run_bind, run_underlying ht, Result.andThen_ok, hz, Sem.run_ite, h1, h2, if_false, hzv, Sem.run_pure, List.map_toArray, e2, hf, newRow, run_newObj]
 rfl
theorem nC {d : Nat} {xs ys : Array Value} {f : Field} {fs : List Field} {k k' : IntKind} {a b : Int} {r : Bool} (hn : f.name ≠ "_") (ht : ∀ w, (isAgg f.type).run P w = .ok false w) (hu : P.underlying f.type = some (.int k'))
  (hx : xs[f.offset]? = some (.int k a)) (hy : ys[f.offset]? = some (.int k b)) (h : (Op.eqFields (d + 1) xs ys fs).run P w = .ok r w) : (Op.eqFields (d + 1) xs ys (f :: fs)).run P w = .ok (decide (a = b) && r) w := by
 have e1 : (a == b) = decide (a = b) := by rw [Bool.eq_iff_iff]; simp
 simp only [Op.eqFields, if_pos hn, Sem.run_bind, part, ht, Result.andThen_ok, Bool.false_eq_true, if_false, hx, hy, Sem.run_pure, run_equalIn_int w d f.type k k' a b hu, Sem.run_ite]
 by_cases hab : a = b
 · simp [hab, h]
 simp [hab, e1]
theorem vG {d : Nat} {xs ys : Array Value} : (Op.eqFields d xs ys []).run P w = .ok true w := rfl
theorem Run.neqAgg {t yT : TypeId} {x y : Operand} {xs ys : Array Value} {b : Bool} (hx : ev? Γ x = some (.agg xs)) (hy : ev? Γ y = some (.agg ys)) (hm : P.eqGuardType P.depth t = false) (ht : P.underlying t = some (.struct (P.fieldsOf t))) (hp : P.stoodInHeld t = false)
  (h : (Op.eqFields 9999 xs ys (P.fieldsOf t).toList).run P w = .ok b w) : Run P ⟨dst, .binOp .neq t x y yT, T, pos, after, g⟩ Γ w (.bool (! b)) := fun ρ hρ => by
 have h1 := run_equalIn_agg (P := P) w 9999 t xs ys ht hp
 simp [execOp, hρ _ _ hx, hρ _ _ hy, run_eqGuard_agg w .neq t x y xs ys hm, run_neq_struct, h1, h]
end
section
variable {P : Program} {Γ : Env} {w : World} {dst : Option Tmp} {T : TypeId} {pos : String} {after : Array Edge} {g : Option (Nat × Bool)}
def lI : TypeDesc → Bool
 | .interface _ => false
 | _ => true
theorem Run.mkIface {xT : TypeId} {x : Operand} {v : Value} {d : TypeDesc} (hx : ev? Γ x = some v) (hu : P.underlying xT = some d) (hd : lI d = true) :
  Run P ⟨dst, .makeInterface xT x, T, pos, after, g⟩ Γ w (.iface xT v) := fun ρ hρ => by
 have e : (Instr.makeInterface xT v).run P w = .ok (.iface xT v) w := by
  unfold Instr.makeInterface
  simp only [Sem.run_bind, run_underlying hu, Result.andThen_ok]
  cases d <;> first | rfl | cases hd
 simp [execOp, hρ _ _ hx, e]
theorem Run.mkFunc {f : FuncId} {xs ys : List Operand} {vs us : List Value} (hx : evs Γ xs vs) (hy : evs Γ ys us) :
  Run P ⟨dst, .makeFunc (.func f) xs.toArray ys.toArray, T, pos, after, g⟩ Γ w (.func (.func f) vs.toArray us.toArray) := fun ρ hρ => by
 have e1 := eI hρ xs vs hx
 have e2 := eI hρ ys us hy
 simp [execOp, Instr.makeFunc, e1, e2]
theorem bJ.dyn {c : Operand} {f : FuncId} {fs us : List Value} {xs : List Operand} {vs : List Value} {ts : Array TypeId} (hc : ev? Γ c = some (.func (.func f) fs.toArray us.toArray)) (hv : evs Γ xs vs) (hf : ∀ args w, (callFunc f args).run P w = .ok (.enter f args) w) :
  bJ P ⟨dst, .call ⟨.value c, xs.toArray, ts⟩, T, pos, after, g⟩ Γ w f (fs ++ vs ++ us).toArray := fun ρ hρ => by
 have e := eI hρ xs vs hv
 have e2 : ρ c = .func (.func f) fs.toArray us.toArray := hρ _ _ hc
 simp [execOp, resolve, e2, Deferred.ofValue, invoke, e, hf]
end
section
variable {P : Program} {n : NF} {Γ : Env} {Pn : List PanicEntry → World → Prop} {w : World} {K : Env → World → Prop} {ops : Array Oper} {S : World → Prop} {L fuel : Nat} {listed : Array Bool}
theorem qQ.r1 {v : Value} {d : Nat} (i : Nat) {oi : Oper} (hi : ops[i]? = some oi) (hr : Region.ready .any ops listed = [i]) (hS : S w) (h : Run P oi Γ w v) (hup : Up ops Γ oi.guard) (hd : oi.dst = some d) (hn : Nat.blt d n.n = true)
  (k : qQ P n ops S Pn L fuel (listed.setIfInBounds i true) ((d, v) :: Γ) w K) : qQ P n ops S Pn L (fuel + 1) listed Γ w K :=
 qQ.of_wp i hi hr hup fun a hs => by
  unfold Oper.wp
  rw [h _ hs.fits, Oper.upon_value, hd]
  exact ⟨hS, k _ (hs.put hn v)⟩
end
section
variable {P : Program} {n : NF} {Γ : Env} {Pn : List PanicEntry → World → Prop} {w : World} {Q : Exit → Env → World → Prop}
theorem VC.splitR {c : Code} (Γk : Env) (R : World → Prop) (t : Nat) (v : Value) (h : VC P n c Γ w (fT (fun Γ1 w1 => Sub Γ1 ((t, v) :: Γk) ∧ R w1) Q)) (k : ∀ Γ1 w1, Sub Γ1 ((t, v) :: Γk) → R w1 → Q .normal Γ1 w1) : VC P n c Γ w Q :=
 h.mono fun e Γ' w' q => by
  cases e with
  | normal => exact k Γ' w' q.1 q.2
  | exit i => exact q
  | goto l => exact q
  | ret => exact q
  | panic c => exact q
  | outgrown => exact q
end
section
variable {P : Program} {n : NF} {Γ : Env} {Pn : List PanicEntry → World → Prop} {w : World} {K : Env → World → Prop} {ops : Array Oper} {S : World → Prop} {L fuel : Nat} {listed : Array Bool}
end
theorem jK {p : Prop} (h : p := by kernel_rfl) : p := h
theorem jC {a b : Bool} (h : a = b) : some (Value.bool a) = some (Value.bool b) := congrArg (fun b => some (Value.bool b)) h
theorem js1 {Γ : Env} {k0 : Nat} {v0 : Value} (h0 : get? Γ k0 = some v0) : Sub Γ [(k0, v0)] := (.cons h0 .nil)
theorem js2 {Γ : Env} {k0 k1 : Nat} {v0 v1 : Value} (h0 : get? Γ k0 = some v0) (h1 : get? Γ k1 = some v1) : Sub Γ [(k0, v0), (k1, v1)] := (.cons h0 (.cons h1 .nil))
theorem js3 {Γ : Env} {k0 k1 k2 : Nat} {v0 v1 v2 : Value} (h0 : get? Γ k0 = some v0) (h1 : get? Γ k1 = some v1) (h2 : get? Γ k2 = some v2) : Sub Γ [(k0, v0), (k1, v1), (k2, v2)] := (.cons h0 (.cons h1 (.cons h2 .nil)))
theorem js4 {Γ : Env} {k0 k1 k2 k3 : Nat} {v0 v1 v2 v3 : Value} (h0 : get? Γ k0 = some v0) (h1 : get? Γ k1 = some v1) (h2 : get? Γ k2 = some v2) (h3 : get? Γ k3 = some v3) : Sub Γ [(k0, v0), (k1, v1), (k2, v2), (k3, v3)] := (.cons h0 (.cons h1 (.cons h2 (.cons h3 .nil))))
theorem js5 {Γ : Env} {k0 k1 k2 k3 k4 : Nat} {v0 v1 v2 v3 v4 : Value} (h0 : get? Γ k0 = some v0) (h1 : get? Γ k1 = some v1) (h2 : get? Γ k2 = some v2) (h3 : get? Γ k3 = some v3) (h4 : get? Γ k4 = some v4) : Sub Γ [(k0, v0), (k1, v1), (k2, v2), (k3, v3), (k4, v4)] := (.cons h0 (.cons h1 (.cons h2 (.cons h3 (.cons h4 .nil)))))
theorem js6 {Γ : Env} {k0 k1 k2 k3 k4 k5 : Nat} {v0 v1 v2 v3 v4 v5 : Value} (h0 : get? Γ k0 = some v0) (h1 : get? Γ k1 = some v1) (h2 : get? Γ k2 = some v2) (h3 : get? Γ k3 = some v3) (h4 : get? Γ k4 = some v4) (h5 : get? Γ k5 = some v5) : Sub Γ [(k0, v0), (k1, v1), (k2, v2), (k3, v3), (k4, v4), (k5, v5)] := (.cons h0 (.cons h1 (.cons h2 (.cons h3 (.cons h4 (.cons h5 .nil))))))
theorem js7 {Γ : Env} {k0 k1 k2 k3 k4 k5 k6 : Nat} {v0 v1 v2 v3 v4 v5 v6 : Value} (h0 : get? Γ k0 = some v0) (h1 : get? Γ k1 = some v1) (h2 : get? Γ k2 = some v2) (h3 : get? Γ k3 = some v3) (h4 : get? Γ k4 = some v4) (h5 : get? Γ k5 = some v5) (h6 : get? Γ k6 = some v6) : Sub Γ [(k0, v0), (k1, v1), (k2, v2), (k3, v3), (k4, v4), (k5, v5), (k6, v6)] := (.cons h0 (.cons h1 (.cons h2 (.cons h3 (.cons h4 (.cons h5 (.cons h6 .nil)))))))
theorem js8 {Γ : Env} {k0 k1 k2 k3 k4 k5 k6 k7 : Nat} {v0 v1 v2 v3 v4 v5 v6 v7 : Value} (h0 : get? Γ k0 = some v0) (h1 : get? Γ k1 = some v1) (h2 : get? Γ k2 = some v2) (h3 : get? Γ k3 = some v3) (h4 : get? Γ k4 = some v4) (h5 : get? Γ k5 = some v5) (h6 : get? Γ k6 = some v6) (h7 : get? Γ k7 = some v7) : Sub Γ [(k0, v0), (k1, v1), (k2, v2), (k3, v3), (k4, v4), (k5, v5), (k6, v6), (k7, v7)] := (.cons h0 (.cons h1 (.cons h2 (.cons h3 (.cons h4 (.cons h5 (.cons h6 (.cons h7 .nil))))))))
theorem js9 {Γ : Env} {k0 k1 k2 k3 k4 k5 k6 k7 k8 : Nat} {v0 v1 v2 v3 v4 v5 v6 v7 v8 : Value} (h0 : get? Γ k0 = some v0) (h1 : get? Γ k1 = some v1) (h2 : get? Γ k2 = some v2) (h3 : get? Γ k3 = some v3) (h4 : get? Γ k4 = some v4) (h5 : get? Γ k5 = some v5) (h6 : get? Γ k6 = some v6) (h7 : get? Γ k7 = some v7) (h8 : get? Γ k8 = some v8) : Sub Γ [(k0, v0), (k1, v1), (k2, v2), (k3, v3), (k4, v4), (k5, v5), (k6, v6), (k7, v7), (k8, v8)] := (.cons h0 (.cons h1 (.cons h2 (.cons h3 (.cons h4 (.cons h5 (.cons h6 (.cons h7 (.cons h8 .nil)))))))))
theorem js10 {Γ : Env} {k0 k1 k2 k3 k4 k5 k6 k7 k8 k9 : Nat} {v0 v1 v2 v3 v4 v5 v6 v7 v8 v9 : Value} (h0 : get? Γ k0 = some v0) (h1 : get? Γ k1 = some v1) (h2 : get? Γ k2 = some v2) (h3 : get? Γ k3 = some v3) (h4 : get? Γ k4 = some v4) (h5 : get? Γ k5 = some v5) (h6 : get? Γ k6 = some v6) (h7 : get? Γ k7 = some v7) (h8 : get? Γ k8 = some v8) (h9 : get? Γ k9 = some v9) : Sub Γ [(k0, v0), (k1, v1), (k2, v2), (k3, v3), (k4, v4), (k5, v5), (k6, v6), (k7, v7), (k8, v8), (k9, v9)] := (.cons h0 (.cons h1 (.cons h2 (.cons h3 (.cons h4 (.cons h5 (.cons h6 (.cons h7 (.cons h8 (.cons h9 .nil))))))))))
theorem js11 {Γ : Env} {k0 k1 k2 k3 k4 k5 k6 k7 k8 k9 k10 : Nat} {v0 v1 v2 v3 v4 v5 v6 v7 v8 v9 v10 : Value} (h0 : get? Γ k0 = some v0) (h1 : get? Γ k1 = some v1) (h2 : get? Γ k2 = some v2) (h3 : get? Γ k3 = some v3) (h4 : get? Γ k4 = some v4) (h5 : get? Γ k5 = some v5) (h6 : get? Γ k6 = some v6) (h7 : get? Γ k7 = some v7) (h8 : get? Γ k8 = some v8) (h9 : get? Γ k9 = some v9) (h10 : get? Γ k10 = some v10) : Sub Γ [(k0, v0), (k1, v1), (k2, v2), (k3, v3), (k4, v4), (k5, v5), (k6, v6), (k7, v7), (k8, v8), (k9, v9), (k10, v10)] := (.cons h0 (.cons h1 (.cons h2 (.cons h3 (.cons h4 (.cons h5 (.cons h6 (.cons h7 (.cons h8 (.cons h9 (.cons h10 .nil)))))))))))
theorem js12 {Γ : Env} {k0 k1 k2 k3 k4 k5 k6 k7 k8 k9 k10 k11 : Nat} {v0 v1 v2 v3 v4 v5 v6 v7 v8 v9 v10 v11 : Value} (h0 : get? Γ k0 = some v0) (h1 : get? Γ k1 = some v1) (h2 : get? Γ k2 = some v2) (h3 : get? Γ k3 = some v3) (h4 : get? Γ k4 = some v4) (h5 : get? Γ k5 = some v5) (h6 : get? Γ k6 = some v6) (h7 : get? Γ k7 = some v7) (h8 : get? Γ k8 = some v8) (h9 : get? Γ k9 = some v9) (h10 : get? Γ k10 = some v10) (h11 : get? Γ k11 = some v11) : Sub Γ [(k0, v0), (k1, v1), (k2, v2), (k3, v3), (k4, v4), (k5, v5), (k6, v6), (k7, v7), (k8, v8), (k9, v9), (k10, v10), (k11, v11)] := (.cons h0 (.cons h1 (.cons h2 (.cons h3 (.cons h4 (.cons h5 (.cons h6 (.cons h7 (.cons h8 (.cons h9 (.cons h10 (.cons h11 .nil))))))))))))
theorem js13 {Γ : Env} {k0 k1 k2 k3 k4 k5 k6 k7 k8 k9 k10 k11 k12 : Nat} {v0 v1 v2 v3 v4 v5 v6 v7 v8 v9 v10 v11 v12 : Value} (h0 : get? Γ k0 = some v0) (h1 : get? Γ k1 = some v1) (h2 : get? Γ k2 = some v2) (h3 : get? Γ k3 = some v3) (h4 : get? Γ k4 = some v4) (h5 : get? Γ k5 = some v5) (h6 : get? Γ k6 = some v6) (h7 : get? Γ k7 = some v7) (h8 : get? Γ k8 = some v8) (h9 : get? Γ k9 = some v9) (h10 : get? Γ k10 = some v10) (h11 : get? Γ k11 = some v11) (h12 : get? Γ k12 = some v12) : Sub Γ [(k0, v0), (k1, v1), (k2, v2), (k3, v3), (k4, v4), (k5, v5), (k6, v6), (k7, v7), (k8, v8), (k9, v9), (k10, v10), (k11, v11), (k12, v12)] := (.cons h0 (.cons h1 (.cons h2 (.cons h3 (.cons h4 (.cons h5 (.cons h6 (.cons h7 (.cons h8 (.cons h9 (.cons h10 (.cons h11 (.cons h12 .nil)))))))))))))
theorem js14 {Γ : Env} {k0 k1 k2 k3 k4 k5 k6 k7 k8 k9 k10 k11 k12 k13 : Nat} {v0 v1 v2 v3 v4 v5 v6 v7 v8 v9 v10 v11 v12 v13 : Value} (h0 : get? Γ k0 = some v0) (h1 : get? Γ k1 = some v1) (h2 : get? Γ k2 = some v2) (h3 : get? Γ k3 = some v3) (h4 : get? Γ k4 = some v4) (h5 : get? Γ k5 = some v5) (h6 : get? Γ k6 = some v6) (h7 : get? Γ k7 = some v7) (h8 : get? Γ k8 = some v8) (h9 : get? Γ k9 = some v9) (h10 : get? Γ k10 = some v10) (h11 : get? Γ k11 = some v11) (h12 : get? Γ k12 = some v12) (h13 : get? Γ k13 = some v13) : Sub Γ [(k0, v0), (k1, v1), (k2, v2), (k3, v3), (k4, v4), (k5, v5), (k6, v6), (k7, v7), (k8, v8), (k9, v9), (k10, v10), (k11, v11), (k12, v12), (k13, v13)] := (.cons h0 (.cons h1 (.cons h2 (.cons h3 (.cons h4 (.cons h5 (.cons h6 (.cons h7 (.cons h8 (.cons h9 (.cons h10 (.cons h11 (.cons h12 (.cons h13 .nil))))))))))))))
theorem js15 {Γ : Env} {k0 k1 k2 k3 k4 k5 k6 k7 k8 k9 k10 k11 k12 k13 k14 : Nat} {v0 v1 v2 v3 v4 v5 v6 v7 v8 v9 v10 v11 v12 v13 v14 : Value} (h0 : get? Γ k0 = some v0) (h1 : get? Γ k1 = some v1) (h2 : get? Γ k2 = some v2) (h3 : get? Γ k3 = some v3) (h4 : get? Γ k4 = some v4) (h5 : get? Γ k5 = some v5) (h6 : get? Γ k6 = some v6) (h7 : get? Γ k7 = some v7) (h8 : get? Γ k8 = some v8) (h9 : get? Γ k9 = some v9) (h10 : get? Γ k10 = some v10) (h11 : get? Γ k11 = some v11) (h12 : get? Γ k12 = some v12) (h13 : get? Γ k13 = some v13) (h14 : get? Γ k14 = some v14) : Sub Γ [(k0, v0), (k1, v1), (k2, v2), (k3, v3), (k4, v4), (k5, v5), (k6, v6), (k7, v7), (k8, v8), (k9, v9), (k10, v10), (k11, v11), (k12, v12), (k13, v13), (k14, v14)] := (.cons h0 (.cons h1 (.cons h2 (.cons h3 (.cons h4 (.cons h5 (.cons h6 (.cons h7 (.cons h8 (.cons h9 (.cons h10 (.cons h11 (.cons h12 (.cons h13 (.cons h14 .nil)))))))))))))))
theorem js16 {Γ : Env} {k0 k1 k2 k3 k4 k5 k6 k7 k8 k9 k10 k11 k12 k13 k14 k15 : Nat} {v0 v1 v2 v3 v4 v5 v6 v7 v8 v9 v10 v11 v12 v13 v14 v15 : Value} (h0 : get? Γ k0 = some v0) (h1 : get? Γ k1 = some v1) (h2 : get? Γ k2 = some v2) (h3 : get? Γ k3 = some v3) (h4 : get? Γ k4 = some v4) (h5 : get? Γ k5 = some v5) (h6 : get? Γ k6 = some v6) (h7 : get? Γ k7 = some v7) (h8 : get? Γ k8 = some v8) (h9 : get? Γ k9 = some v9) (h10 : get? Γ k10 = some v10) (h11 : get? Γ k11 = some v11) (h12 : get? Γ k12 = some v12) (h13 : get? Γ k13 = some v13) (h14 : get? Γ k14 = some v14) (h15 : get? Γ k15 = some v15) : Sub Γ [(k0, v0), (k1, v1), (k2, v2), (k3, v3), (k4, v4), (k5, v5), (k6, v6), (k7, v7), (k8, v8), (k9, v9), (k10, v10), (k11, v11), (k12, v12), (k13, v13), (k14, v14), (k15, v15)] := (.cons h0 (.cons h1 (.cons h2 (.cons h3 (.cons h4 (.cons h5 (.cons h6 (.cons h7 (.cons h8 (.cons h9 (.cons h10 (.cons h11 (.cons h12 (.cons h13 (.cons h14 (.cons h15 .nil))))))))))))))))
section
variable {P : Program} {n : NF} {Γ : Env} {w : World} {Q : Exit → Env → World → Prop} {ops : Array Oper} {rest : List Oper} {d : Nat} {T : TypeId} {pos : String} {after : Array Edge}
theorem jM {x : Operand} {v : Value} (k : Ops P n ops rest ((d, v) :: Γ) w Q) (hx : ev? Γ x = some v := by exact rfl) (hn : Nat.blt d n.n = true := by exact rfl) : Ops P n ops (⟨some d, .move x, T, pos, after, none⟩ :: rest) Γ w Q := Ops.r (Run.mv hx) hn k
theorem jA {x : Operand} {v : Value} (k : Ops P n ops rest ((d, v) :: Γ) w Q) (hx : ev? Γ x = some v := by exact rfl) (hn : Nat.blt d n.n = true := by exact rfl) : Ops P n ops (⟨some d, .assign x, T, pos, after, none⟩ :: rest) Γ w Q := Ops.r (Run.asg hx) hn k
theorem jU {op : Op} {j : Nat} {b c : Bool} (k : Ops P n ops rest ((d, undef) :: Γ) w Q) (hy : yi ops Γ j = some (.bool b) := by exact rfl) (hb : b = !c := by exact au) (hn : Nat.blt d n.n = true := by exact rfl) : Ops P n ops (⟨some d, op, T, pos, after, some (j, c)⟩ :: rest) Γ w Q := Ops.sk hy hb hn k
theorem jG {x : Operand} {v : Value} {j : Nat} {b c : Bool} (k : Ops P n ops rest ((d, v) :: Γ) w Q) (hy : yi ops Γ j = some (.bool b) := by exact rfl) (hb : b = c := by exact au) (hx : ev? Γ x = some v := by exact rfl) (hn : Nat.blt d n.n = true := by exact rfl) : Ops P n ops (⟨some d, .move x, T, pos, after, some (j, c)⟩ :: rest) Γ w Q := Ops.rg hy hb (Run.mv hx) hn k
theorem jv1 (k0 : Nat) {v0 : Value} {c : Code} (h : VC P n c [(k0, v0)] w Q) (h0 : get? Γ k0 = some v0 := by exact rfl) : VC P n c Γ w Q := VC.sub _ (js1 h0) h
theorem jv2 (k0 k1 : Nat) {v0 v1 : Value} {c : Code} (h : VC P n c [(k0, v0), (k1, v1)] w Q) (h0 : get? Γ k0 = some v0 := by exact rfl) (h1 : get? Γ k1 = some v1 := by exact rfl) : VC P n c Γ w Q := VC.sub _ (js2 h0 h1) h
theorem jv3 (k0 k1 k2 : Nat) {v0 v1 v2 : Value} {c : Code} (h : VC P n c [(k0, v0), (k1, v1), (k2, v2)] w Q) (h0 : get? Γ k0 = some v0 := by exact rfl) (h1 : get? Γ k1 = some v1 := by exact rfl) (h2 : get? Γ k2 = some v2 := by exact rfl) : VC P n c Γ w Q := VC.sub _ (js3 h0 h1 h2) h
theorem jv4 (k0 k1 k2 k3 : Nat) {v0 v1 v2 v3 : Value} {c : Code} (h : VC P n c [(k0, v0), (k1, v1), (k2, v2), (k3, v3)] w Q) (h0 : get? Γ k0 = some v0 := by exact rfl) (h1 : get? Γ k1 = some v1 := by exact rfl) (h2 : get? Γ k2 = some v2 := by exact rfl) (h3 : get? Γ k3 = some v3 := by exact rfl) : VC P n c Γ w Q := VC.sub _ (js4 h0 h1 h2 h3) h
theorem jv5 (k0 k1 k2 k3 k4 : Nat) {v0 v1 v2 v3 v4 : Value} {c : Code} (h : VC P n c [(k0, v0), (k1, v1), (k2, v2), (k3, v3), (k4, v4)] w Q) (h0 : get? Γ k0 = some v0 := by exact rfl) (h1 : get? Γ k1 = some v1 := by exact rfl) (h2 : get? Γ k2 = some v2 := by exact rfl) (h3 : get? Γ k3 = some v3 := by exact rfl) (h4 : get? Γ k4 = some v4 := by exact rfl) : VC P n c Γ w Q := VC.sub _ (js5 h0 h1 h2 h3 h4) h
theorem jv6 (k0 k1 k2 k3 k4 k5 : Nat) {v0 v1 v2 v3 v4 v5 : Value} {c : Code} (h : VC P n c [(k0, v0), (k1, v1), (k2, v2), (k3, v3), (k4, v4), (k5, v5)] w Q) (h0 : get? Γ k0 = some v0 := by exact rfl) (h1 : get? Γ k1 = some v1 := by exact rfl) (h2 : get? Γ k2 = some v2 := by exact rfl) (h3 : get? Γ k3 = some v3 := by exact rfl) (h4 : get? Γ k4 = some v4 := by exact rfl) (h5 : get? Γ k5 = some v5 := by exact rfl) : VC P n c Γ w Q := VC.sub _ (js6 h0 h1 h2 h3 h4 h5) h
theorem jv7 (k0 k1 k2 k3 k4 k5 k6 : Nat) {v0 v1 v2 v3 v4 v5 v6 : Value} {c : Code} (h : VC P n c [(k0, v0), (k1, v1), (k2, v2), (k3, v3), (k4, v4), (k5, v5), (k6, v6)] w Q) (h0 : get? Γ k0 = some v0 := by exact rfl) (h1 : get? Γ k1 = some v1 := by exact rfl) (h2 : get? Γ k2 = some v2 := by exact rfl) (h3 : get? Γ k3 = some v3 := by exact rfl) (h4 : get? Γ k4 = some v4 := by exact rfl) (h5 : get? Γ k5 = some v5 := by exact rfl) (h6 : get? Γ k6 = some v6 := by exact rfl) : VC P n c Γ w Q := VC.sub _ (js7 h0 h1 h2 h3 h4 h5 h6) h
theorem jv8 (k0 k1 k2 k3 k4 k5 k6 k7 : Nat) {v0 v1 v2 v3 v4 v5 v6 v7 : Value} {c : Code} (h : VC P n c [(k0, v0), (k1, v1), (k2, v2), (k3, v3), (k4, v4), (k5, v5), (k6, v6), (k7, v7)] w Q) (h0 : get? Γ k0 = some v0 := by exact rfl) (h1 : get? Γ k1 = some v1 := by exact rfl) (h2 : get? Γ k2 = some v2 := by exact rfl) (h3 : get? Γ k3 = some v3 := by exact rfl) (h4 : get? Γ k4 = some v4 := by exact rfl) (h5 : get? Γ k5 = some v5 := by exact rfl) (h6 : get? Γ k6 = some v6 := by exact rfl) (h7 : get? Γ k7 = some v7 := by exact rfl) : VC P n c Γ w Q := VC.sub _ (js8 h0 h1 h2 h3 h4 h5 h6 h7) h
theorem jv9 (k0 k1 k2 k3 k4 k5 k6 k7 k8 : Nat) {v0 v1 v2 v3 v4 v5 v6 v7 v8 : Value} {c : Code} (h : VC P n c [(k0, v0), (k1, v1), (k2, v2), (k3, v3), (k4, v4), (k5, v5), (k6, v6), (k7, v7), (k8, v8)] w Q) (h0 : get? Γ k0 = some v0 := by exact rfl) (h1 : get? Γ k1 = some v1 := by exact rfl) (h2 : get? Γ k2 = some v2 := by exact rfl) (h3 : get? Γ k3 = some v3 := by exact rfl) (h4 : get? Γ k4 = some v4 := by exact rfl) (h5 : get? Γ k5 = some v5 := by exact rfl) (h6 : get? Γ k6 = some v6 := by exact rfl) (h7 : get? Γ k7 = some v7 := by exact rfl) (h8 : get? Γ k8 = some v8 := by exact rfl) : VC P n c Γ w Q := VC.sub _ (js9 h0 h1 h2 h3 h4 h5 h6 h7 h8) h
theorem jv10 (k0 k1 k2 k3 k4 k5 k6 k7 k8 k9 : Nat) {v0 v1 v2 v3 v4 v5 v6 v7 v8 v9 : Value} {c : Code} (h : VC P n c [(k0, v0), (k1, v1), (k2, v2), (k3, v3), (k4, v4), (k5, v5), (k6, v6), (k7, v7), (k8, v8), (k9, v9)] w Q) (h0 : get? Γ k0 = some v0 := by exact rfl) (h1 : get? Γ k1 = some v1 := by exact rfl) (h2 : get? Γ k2 = some v2 := by exact rfl) (h3 : get? Γ k3 = some v3 := by exact rfl) (h4 : get? Γ k4 = some v4 := by exact rfl) (h5 : get? Γ k5 = some v5 := by exact rfl) (h6 : get? Γ k6 = some v6 := by exact rfl) (h7 : get? Γ k7 = some v7 := by exact rfl) (h8 : get? Γ k8 = some v8 := by exact rfl) (h9 : get? Γ k9 = some v9 := by exact rfl) : VC P n c Γ w Q := VC.sub _ (js10 h0 h1 h2 h3 h4 h5 h6 h7 h8 h9) h
theorem jv11 (k0 k1 k2 k3 k4 k5 k6 k7 k8 k9 k10 : Nat) {v0 v1 v2 v3 v4 v5 v6 v7 v8 v9 v10 : Value} {c : Code} (h : VC P n c [(k0, v0), (k1, v1), (k2, v2), (k3, v3), (k4, v4), (k5, v5), (k6, v6), (k7, v7), (k8, v8), (k9, v9), (k10, v10)] w Q) (h0 : get? Γ k0 = some v0 := by exact rfl) (h1 : get? Γ k1 = some v1 := by exact rfl) (h2 : get? Γ k2 = some v2 := by exact rfl) (h3 : get? Γ k3 = some v3 := by exact rfl) (h4 : get? Γ k4 = some v4 := by exact rfl) (h5 : get? Γ k5 = some v5 := by exact rfl) (h6 : get? Γ k6 = some v6 := by exact rfl) (h7 : get? Γ k7 = some v7 := by exact rfl) (h8 : get? Γ k8 = some v8 := by exact rfl) (h9 : get? Γ k9 = some v9 := by exact rfl) (h10 : get? Γ k10 = some v10 := by exact rfl) : VC P n c Γ w Q := VC.sub _ (js11 h0 h1 h2 h3 h4 h5 h6 h7 h8 h9 h10) h
theorem jv12 (k0 k1 k2 k3 k4 k5 k6 k7 k8 k9 k10 k11 : Nat) {v0 v1 v2 v3 v4 v5 v6 v7 v8 v9 v10 v11 : Value} {c : Code} (h : VC P n c [(k0, v0), (k1, v1), (k2, v2), (k3, v3), (k4, v4), (k5, v5), (k6, v6), (k7, v7), (k8, v8), (k9, v9), (k10, v10), (k11, v11)] w Q) (h0 : get? Γ k0 = some v0 := by exact rfl) (h1 : get? Γ k1 = some v1 := by exact rfl) (h2 : get? Γ k2 = some v2 := by exact rfl) (h3 : get? Γ k3 = some v3 := by exact rfl) (h4 : get? Γ k4 = some v4 := by exact rfl) (h5 : get? Γ k5 = some v5 := by exact rfl) (h6 : get? Γ k6 = some v6 := by exact rfl) (h7 : get? Γ k7 = some v7 := by exact rfl) (h8 : get? Γ k8 = some v8 := by exact rfl) (h9 : get? Γ k9 = some v9 := by exact rfl) (h10 : get? Γ k10 = some v10 := by exact rfl) (h11 : get? Γ k11 = some v11 := by exact rfl) : VC P n c Γ w Q := VC.sub _ (js12 h0 h1 h2 h3 h4 h5 h6 h7 h8 h9 h10 h11) h
theorem jv13 (k0 k1 k2 k3 k4 k5 k6 k7 k8 k9 k10 k11 k12 : Nat) {v0 v1 v2 v3 v4 v5 v6 v7 v8 v9 v10 v11 v12 : Value} {c : Code} (h : VC P n c [(k0, v0), (k1, v1), (k2, v2), (k3, v3), (k4, v4), (k5, v5), (k6, v6), (k7, v7), (k8, v8), (k9, v9), (k10, v10), (k11, v11), (k12, v12)] w Q) (h0 : get? Γ k0 = some v0 := by exact rfl) (h1 : get? Γ k1 = some v1 := by exact rfl) (h2 : get? Γ k2 = some v2 := by exact rfl) (h3 : get? Γ k3 = some v3 := by exact rfl) (h4 : get? Γ k4 = some v4 := by exact rfl) (h5 : get? Γ k5 = some v5 := by exact rfl) (h6 : get? Γ k6 = some v6 := by exact rfl) (h7 : get? Γ k7 = some v7 := by exact rfl) (h8 : get? Γ k8 = some v8 := by exact rfl) (h9 : get? Γ k9 = some v9 := by exact rfl) (h10 : get? Γ k10 = some v10 := by exact rfl) (h11 : get? Γ k11 = some v11 := by exact rfl) (h12 : get? Γ k12 = some v12 := by exact rfl) : VC P n c Γ w Q := VC.sub _ (js13 h0 h1 h2 h3 h4 h5 h6 h7 h8 h9 h10 h11 h12) h
theorem jv14 (k0 k1 k2 k3 k4 k5 k6 k7 k8 k9 k10 k11 k12 k13 : Nat) {v0 v1 v2 v3 v4 v5 v6 v7 v8 v9 v10 v11 v12 v13 : Value} {c : Code} (h : VC P n c [(k0, v0), (k1, v1), (k2, v2), (k3, v3), (k4, v4), (k5, v5), (k6, v6), (k7, v7), (k8, v8), (k9, v9), (k10, v10), (k11, v11), (k12, v12), (k13, v13)] w Q) (h0 : get? Γ k0 = some v0 := by exact rfl) (h1 : get? Γ k1 = some v1 := by exact rfl) (h2 : get? Γ k2 = some v2 := by exact rfl) (h3 : get? Γ k3 = some v3 := by exact rfl) (h4 : get? Γ k4 = some v4 := by exact rfl) (h5 : get? Γ k5 = some v5 := by exact rfl) (h6 : get? Γ k6 = some v6 := by exact rfl) (h7 : get? Γ k7 = some v7 := by exact rfl) (h8 : get? Γ k8 = some v8 := by exact rfl) (h9 : get? Γ k9 = some v9 := by exact rfl) (h10 : get? Γ k10 = some v10 := by exact rfl) (h11 : get? Γ k11 = some v11 := by exact rfl) (h12 : get? Γ k12 = some v12 := by exact rfl) (h13 : get? Γ k13 = some v13 := by exact rfl) : VC P n c Γ w Q := VC.sub _ (js14 h0 h1 h2 h3 h4 h5 h6 h7 h8 h9 h10 h11 h12 h13) h
theorem jv15 (k0 k1 k2 k3 k4 k5 k6 k7 k8 k9 k10 k11 k12 k13 k14 : Nat) {v0 v1 v2 v3 v4 v5 v6 v7 v8 v9 v10 v11 v12 v13 v14 : Value} {c : Code} (h : VC P n c [(k0, v0), (k1, v1), (k2, v2), (k3, v3), (k4, v4), (k5, v5), (k6, v6), (k7, v7), (k8, v8), (k9, v9), (k10, v10), (k11, v11), (k12, v12), (k13, v13), (k14, v14)] w Q) (h0 : get? Γ k0 = some v0 := by exact rfl) (h1 : get? Γ k1 = some v1 := by exact rfl) (h2 : get? Γ k2 = some v2 := by exact rfl) (h3 : get? Γ k3 = some v3 := by exact rfl) (h4 : get? Γ k4 = some v4 := by exact rfl) (h5 : get? Γ k5 = some v5 := by exact rfl) (h6 : get? Γ k6 = some v6 := by exact rfl) (h7 : get? Γ k7 = some v7 := by exact rfl) (h8 : get? Γ k8 = some v8 := by exact rfl) (h9 : get? Γ k9 = some v9 := by exact rfl) (h10 : get? Γ k10 = some v10 := by exact rfl) (h11 : get? Γ k11 = some v11 := by exact rfl) (h12 : get? Γ k12 = some v12 := by exact rfl) (h13 : get? Γ k13 = some v13 := by exact rfl) (h14 : get? Γ k14 = some v14 := by exact rfl) : VC P n c Γ w Q := VC.sub _ (js15 h0 h1 h2 h3 h4 h5 h6 h7 h8 h9 h10 h11 h12 h13 h14) h
theorem jv16 (k0 k1 k2 k3 k4 k5 k6 k7 k8 k9 k10 k11 k12 k13 k14 k15 : Nat) {v0 v1 v2 v3 v4 v5 v6 v7 v8 v9 v10 v11 v12 v13 v14 v15 : Value} {c : Code} (h : VC P n c [(k0, v0), (k1, v1), (k2, v2), (k3, v3), (k4, v4), (k5, v5), (k6, v6), (k7, v7), (k8, v8), (k9, v9), (k10, v10), (k11, v11), (k12, v12), (k13, v13), (k14, v14), (k15, v15)] w Q) (h0 : get? Γ k0 = some v0 := by exact rfl) (h1 : get? Γ k1 = some v1 := by exact rfl) (h2 : get? Γ k2 = some v2 := by exact rfl) (h3 : get? Γ k3 = some v3 := by exact rfl) (h4 : get? Γ k4 = some v4 := by exact rfl) (h5 : get? Γ k5 = some v5 := by exact rfl) (h6 : get? Γ k6 = some v6 := by exact rfl) (h7 : get? Γ k7 = some v7 := by exact rfl) (h8 : get? Γ k8 = some v8 := by exact rfl) (h9 : get? Γ k9 = some v9 := by exact rfl) (h10 : get? Γ k10 = some v10 := by exact rfl) (h11 : get? Γ k11 = some v11 := by exact rfl) (h12 : get? Γ k12 = some v12 := by exact rfl) (h13 : get? Γ k13 = some v13 := by exact rfl) (h14 : get? Γ k14 = some v14 := by exact rfl) (h15 : get? Γ k15 = some v15 := by exact rfl) : VC P n c Γ w Q := VC.sub _ (js16 h0 h1 h2 h3 h4 h5 h6 h7 h8 h9 h10 h11 h12 h13 h14 h15) h
theorem je {op : Op} {v : Value} (h : Run P ⟨some d, op, T, pos, after, none⟩ Γ w v) (k : Ops P n ops rest ((d, v) :: Γ) w Q) (hn : Nat.blt d n.n = true := by exact rfl) : Ops P n ops (⟨some d, op, T, pos, after, none⟩ :: rest) Γ w Q := Ops.r h hn k
theorem jb {bo : BinOp} {xT yT : TypeId} {x y : Operand} {k k1 : IntKind} {a b : Int} {v : Value} (hx : ev? Γ x = some (.int k a)) (hy : ev? Γ y = some (.int k1 b)) (hb : Bin bo k a k1 b v) (kk : Ops P n ops rest ((d, v) :: Γ) w Q) (hn : Nat.blt d n.n = true := by exact rfl) : Ops P n ops (⟨some d, .binOp bo xT x y yT, T, pos, after, none⟩ :: rest) Γ w Q := Ops.r (Run.bin hx hy hb) hn kk
theorem jl {t : TypeId} {x : Operand} {a : Addr} {v : Value} (hx : ev? Γ x = some (.pointer (some a))) (ht : ∀ w, (isAgg t).run P w = .ok false w) (hc : w.cell? a = some v) (kk : Ops P n ops rest ((d, v) :: Γ) w Q) (hn : Nat.blt d n.n = true := by exact rfl) : Ops P n ops (⟨some d, .load t x, T, pos, after, none⟩ :: rest) Γ w Q := Ops.r (Run.load hx ht hc) hn kk
theorem jf {s : TypeId} {x : Operand} {f : Nat} {a : Addr} {fs : Array Field} {fd : Field} {sz : Nat} (hx : ev? Γ x = some (.pointer (some a))) (hs : P.underlying s = some (.struct fs)) (hf : fs[f]? = some fd) (hz : ∀ w, (sizeOf fd.type).run P w = .ok sz w) (kk : Ops P n ops rest ((d, .pointer (some (a.add fd.offset))) :: Γ) w Q) (hz0 : sz ≠ 0 := by decide) (hn : Nat.blt d n.n = true := by exact rfl) : Ops P n ops (⟨some d, .fieldAddr s x f, T, pos, after, none⟩ :: rest) Γ w Q := Ops.r (Run.fieldAddr hx hs hf hz hz0) hn kk
theorem jz (m : Nat) {x : Operand} (kk : Ops P n ops rest ((d, .int .i64 ((m : Nat) : Int)) :: Γ) w Q) (hx : ev? Γ x = some (.int .i64 ((m : Nat) : Int)) := by exact rfl) (hn : Nat.blt d n.n = true := by exact rfl) : Ops P n ops (⟨some d, .assign x, T, pos, after, none⟩ :: rest) Γ w Q := Ops.r (Run.asg hx) hn kk
theorem jm {x : Operand} {v : Value} (hx : ev? Γ x = some v) (k : Ops P n ops rest ((d, v) :: Γ) w Q) (hn : Nat.blt d n.n = true := by exact rfl) : Ops P n ops (⟨some d, .move x, T, pos, after, none⟩ :: rest) Γ w Q := Ops.r (Run.mv hx) hn k
theorem ja {x : Operand} {v : Value} (hx : ev? Γ x = some v) (k : Ops P n ops rest ((d, v) :: Γ) w Q) (hn : Nat.blt d n.n = true := by exact rfl) : Ops P n ops (⟨some d, .assign x, T, pos, after, none⟩ :: rest) Γ w Q := Ops.r (Run.asg hx) hn k
theorem jS {x y : Code} (h : VC P n x Γ w (fT (fun Γ' w' => VC P n y Γ' w' Q) Q)) : VC P n (.seq x y) Γ w Q := VC.seq h
theorem jR {id : Nat} {l : List Oper} (h : Ops P n l.toArray l Γ w Q) : VC P n (.region id l.toArray false) Γ w Q := VC.region h
theorem jB {id : Nat} {c : Code} (h : VC P n c Γ w (fR id Q)) : VC P n (.block id c) Γ w Q := VC.block h
theorem jQ (h : Q .normal Γ w) : VC P n .skip Γ w Q := VC.skip h
theorem jT (h : Q .ret Γ w) : VC P n .ret Γ w Q := VC.ret h
theorem jX {id : Nat} (h : Q (.exit id) Γ w) : VC P n (.exit id) Γ w Q := VC.exit h
theorem jO (h : Q .normal Γ w) : Ops P n ops [] Γ w Q := Ops.nil h
theorem jN {K : Env → World → Prop} (h : K Γ w) : fT K Q .normal Γ w := h
end
theorem jH {P : Program} {n : NF} {ops : Array Oper} {S : World → Prop} {Pn : List PanicEntry → World → Prop} {L fuel : Nat} {listed : Array Bool} {Γ : Env} {w : World} {K : Env → World → Prop} {v : Value} {d : Nat} (i : Nat) {oi : Oper} (hi : ops[i]? = some oi) (hS : S w) (h : ∀ w', S w' → Run P oi Γ w' v) (k : qQ P n ops S Pn L fuel (listed.setIfInBounds i true) ((d, v) :: Γ) w K) (hsel : (Region.noSelect ops && fS ops L i) = true := by kernel_rfl) (hf : Region.free .any ops listed i = true := by kernel_rfl) (hr : (Region.ready .any ops listed).contains i = true := by kernel_rfl) (hup : Up ops Γ oi.guard := by exact trivial) (hd : oi.dst = some d := by exact rfl) (hn : Nat.blt d n.n = true := by exact rfl) : qQ P n ops S Pn L (fuel + 1) listed Γ w K := qQ.take i hi hsel hf hr hS h hup hd hn k
theorem jh {P : Program} {n : NF} {ops : Array Oper} {S : World → Prop} {Pn : List PanicEntry → World → Prop} {L fuel : Nat} {listed : Array Bool} {Γ : Env} {w : World} {K : Env → World → Prop} {v : Value} {d : Nat} {x : Operand} {T : TypeId} {pos : String} {after : Array Edge} (i : Nat) (hS : S w) (k : qQ P n ops S Pn L fuel (listed.setIfInBounds i true) ((d, v) :: Γ) w K) (hi : ops[i]? = some ⟨some d, .move x, T, pos, after, none⟩ := by exact rfl) (hx : ev? Γ x = some v := by exact rfl) (hsel : (Region.noSelect ops && fS ops L i) = true := by kernel_rfl) (hf : Region.free .any ops listed i = true := by kernel_rfl) (hr : (Region.ready .any ops listed).contains i = true := by kernel_rfl) (hn : Nat.blt d n.n = true := by exact rfl) : qQ P n ops S Pn L (fuel + 1) listed Γ w K := qQ.take i hi hsel hf hr hS (fun _ _ => Run.mv hx) trivial rfl hn k
section
variable {P : Program} {Γ : Env} {w : World} {dst : Option Tmp} {T : TypeId} {pos : String} {after : Array Edge} {g : Option (Nat × Bool)} {f : FuncId} {ts : Array TypeId}
theorem jE0 (hf : ∀ args w, (callFunc f args).run P w = .ok (.enter f args) w)  : bJ P ⟨dst, .call ⟨.value (.func f), #[], ts⟩, T, pos, after, g⟩ Γ w f #[] := bJ.fn evs.nil hf
theorem jE1 {x0 : Operand} {v0 : Value} (hf : ∀ args w, (callFunc f args).run P w = .ok (.enter f args) w) (h0 : ev? Γ x0 = some v0 := by exact rfl) : bJ P ⟨dst, .call ⟨.value (.func f), #[x0], ts⟩, T, pos, after, g⟩ Γ w f #[v0] := bJ.fn (evs.cons h0 evs.nil) hf
theorem jE2 {x0 x1 : Operand} {v0 v1 : Value} (hf : ∀ args w, (callFunc f args).run P w = .ok (.enter f args) w) (h0 : ev? Γ x0 = some v0 := by exact rfl) (h1 : ev? Γ x1 = some v1 := by exact rfl) : bJ P ⟨dst, .call ⟨.value (.func f), #[x0, x1], ts⟩, T, pos, after, g⟩ Γ w f #[v0, v1] := bJ.fn (evs.cons h0 (evs.cons h1 evs.nil)) hf
theorem jE3 {x0 x1 x2 : Operand} {v0 v1 v2 : Value} (hf : ∀ args w, (callFunc f args).run P w = .ok (.enter f args) w) (h0 : ev? Γ x0 = some v0 := by exact rfl) (h1 : ev? Γ x1 = some v1 := by exact rfl) (h2 : ev? Γ x2 = some v2 := by exact rfl) : bJ P ⟨dst, .call ⟨.value (.func f), #[x0, x1, x2], ts⟩, T, pos, after, g⟩ Γ w f #[v0, v1, v2] := bJ.fn (evs.cons h0 (evs.cons h1 (evs.cons h2 evs.nil))) hf
theorem jE4 {x0 x1 x2 x3 : Operand} {v0 v1 v2 v3 : Value} (hf : ∀ args w, (callFunc f args).run P w = .ok (.enter f args) w) (h0 : ev? Γ x0 = some v0 := by exact rfl) (h1 : ev? Γ x1 = some v1 := by exact rfl) (h2 : ev? Γ x2 = some v2 := by exact rfl) (h3 : ev? Γ x3 = some v3 := by exact rfl) : bJ P ⟨dst, .call ⟨.value (.func f), #[x0, x1, x2, x3], ts⟩, T, pos, after, g⟩ Γ w f #[v0, v1, v2, v3] := bJ.fn (evs.cons h0 (evs.cons h1 (evs.cons h2 (evs.cons h3 evs.nil)))) hf
end
section
variable {P : Program} {n : NF} {Γ : Env} {w : World} {Q : Exit → Env → World → Prop} {K : Env → World → Prop} {ops : Array Oper} {rest : List Oper} {d : Nat} {T : TypeId} {pos : String} {after : Array Edge}
theorem jk {op : Op} {v : Value} {j : Nat} {b c : Bool} (h : Run P ⟨some d, op, T, pos, after, some (j, c)⟩ Γ w v) (k : Ops P n ops rest ((d, v) :: Γ) w Q) (hy : yi ops Γ j = some (.bool b) := by exact rfl) (hb : b = c := by exact au) (hn : Nat.blt d n.n = true := by exact rfl) : Ops P n ops (⟨some d, op, T, pos, after, some (j, c)⟩ :: rest) Γ w Q := Ops.rg hy hb h hn k
theorem jx (i : IntKind) (m : Nat) {x : Operand} (kk : Ops P n ops rest ((d, .int i ((m : Nat) : Int)) :: Γ) w Q) (hx : ev? Γ x = some (.int i ((m : Nat) : Int)) := by exact rfl) (hn : Nat.blt d n.n = true := by exact rfl) : Ops P n ops (⟨some d, .move x, T, pos, after, none⟩ :: rest) Γ w Q := Ops.r (Run.mv hx) hn kk
theorem jD {c : Operand} {x y : Code} {p : Prop} [Decidable p] (hc : ev? Γ c = some (.bool (decide p))) (ht : p → VC P n x Γ w Q) (hf : ¬ p → VC P n y Γ w Q) : VC P n (.cond c x y) Γ w Q := VC.condD hc ht hf
end
section
variable {P : Program} {n : NF} {Γ : Env} {w : World} {Q : Exit → Env → World → Prop} {ops : Array Oper} {rest : List Oper} {d : Nat} {T : TypeId} {pos : String} {after : Array Edge}
abbrev jI0 (g : Nat) : Value := .pointer (some ⟨g, 0, none⟩)
abbrev jI1 (n : Nat) : Value := .int .i64 ((n : Nat) : Int)
abbrev jI2 (n : Nat) : Value := .int .u64 ((n : Nat) : Int)
theorem jdf {p : Prop} [Decidable p] (h : ¬ p := by omega) : decide p = false := decide_eq_false h
theorem jdp {p : Prop} [Decidable p] (h : ¬ p := by simp) : decide p = false := decide_eq_false h
theorem jV {f : FuncId} {fn : Func} {c : Code} {args : List Value} {R : Ending → World → Prop} {nt : Nat} {res : Array ResultVar} (hf : P.funcs[f]? = some fn) (hn : fn.ntmps = nt) (hr : fn.results = res) (h : VC P ⟨nt, [], none⟩ c (argEnv 0 args) w (dD P res R)) (hb : fn.body = some c := by exact rfl) (hl0 : Nat.ble args.length nt = true := by exact rfl) : Calls P f args.toArray w R := VC.calls hf hb hn hr hl0 h
theorem jc {op : Op} {f : FuncId} {args : Array Value} {R : Ending → World → Prop} (he : bJ P ⟨some d, op, T, pos, after, none⟩ Γ w f args) (hc : Calls P f args w R) (k : ∀ e w', R e w' → ∃ v, e = .returned v ∧ Ops P n ops rest ((d, v) :: Γ) w' Q) (hn : Nat.blt d n.n = true := by exact rfl) : Ops P n ops (⟨some d, op, T, pos, after, none⟩ :: rest) Γ w Q := Ops.cl he hc hn k
theorem jc0 {op : Op} {f : FuncId} {args : Array Value} {v : Value} (he : bJ P ⟨some d, op, T, pos, after, none⟩ Γ w f args) (hc : Calls P f args w fun e w' => e = .returned v ∧ w = w') (k : Ops P n ops rest ((d, v) :: Γ) w Q) (hn : Nat.blt d n.n = true := by exact rfl) : Ops P n ops (⟨some d, op, T, pos, after, none⟩ :: rest) Γ w Q := Ops.cl he hc hn (by rintro e _ ⟨rfl, rfl⟩; exact ⟨_, rfl, k⟩)
theorem jY {x : Operand} {ix : Nat} {vs : Array Value} {v : Value} (hx : ev? Γ x = some (.tuple vs)) (hv : vs[ix]? = some v) (k : Ops P n ops rest ((d, v) :: Γ) w Q) (hn : Nat.blt d n.n = true := by exact rfl) : Ops P n ops (⟨some d, .extract x ix, T, pos, after, none⟩ :: rest) Γ w Q := Ops.r (Run.extract hx hv) hn k
theorem jZ {x : Operand} {a : Addr} (hx : ev? Γ x = some (.pointer (some a))) (k : Ops P n ops rest ((d, .pointer (some a)) :: Γ) w Q) (hn : Nat.blt d n.n = true := by exact rfl) : Ops P n ops (⟨some d, .nilCheck x, T, pos, after, none⟩ :: rest) Γ w Q := Ops.r (Run.nilck hx) hn k
theorem jL {t : TypeId} {x : Operand} {a : Option Addr} {len cap : Nat} {e : TypeId} (hx : ev? Γ x = some (.slice a len cap)) (ht : P.underlying t = some (.slice e)) (k : Ops P n ops rest ((d, .int .i64 len) :: Γ) w Q) (hn : Nat.blt d n.n = true := by exact rfl) : Ops P n ops (⟨some d, .call ⟨.builtin .len, #[x], #[t]⟩, T, pos, after, none⟩ :: rest) Γ w Q := Ops.r (Run.lenS hx ht) hn k
theorem jF {c x y : Operand} {b : Bool} {v : Value} (hc : ev? Γ c = some (.bool b)) (hy : ev? Γ y = some v) (hb : b = false) (k : Ops P n ops rest ((d, v) :: Γ) w Q) (hn : Nat.blt d n.n = true := by exact rfl) : Ops P n ops (⟨some d, .pick c x y, T, pos, after, none⟩ :: rest) Γ w Q := Ops.r (Run.pickF hc hy hb) hn k
theorem jW {c x y : Operand} {b : Bool} {u : Value} (hc : ev? Γ c = some (.bool b)) (hx : ev? Γ x = some u) (hb : b = true) (k : Ops P n ops rest ((d, u) :: Γ) w Q) (hn : Nat.blt d n.n = true := by exact rfl) : Ops P n ops (⟨some d, .pick c x y, T, pos, after, none⟩ :: rest) Γ w Q := Ops.r (Run.pickT hc hx hb) hn k
end
theorem jq {p : Prop} (h : p := by first | omega | (dsimp only; omega)) : p := h
section
variable {P : Program} {n : NF} {Γ : Env} {w : World} {KE : Env → Prop} {ops : Array Oper} {rest : List Oper} {d : Nat} {T : TypeId} {pos : String} {after : Array Edge}
theorem qE {op : Op} {v : Value} (h : Run P ⟨some d, op, T, pos, after, none⟩ Γ w v) (k : bG P n ops rest ((d, v) :: Γ) w KE) (hn : Nat.blt d n.n = true := by exact rfl) : bG P n ops (⟨some d, op, T, pos, after, none⟩ :: rest) Γ w KE := bG.r h hn k
theorem qG {op : Op} {v : Value} {j : Nat} {b c : Bool} (h : Run P ⟨some d, op, T, pos, after, some (j, c)⟩ Γ w v) (k : bG P n ops rest ((d, v) :: Γ) w KE) (hy : yi ops Γ j = some (.bool b) := by exact rfl) (hb : b = c := by exact au) (hn : Nat.blt d n.n = true := by exact rfl) : bG P n ops (⟨some d, op, T, pos, after, some (j, c)⟩ :: rest) Γ w KE := bG.rg hy hb h hn k
theorem qU {op : Op} {j : Nat} {b c : Bool} (k : bG P n ops rest ((d, undef) :: Γ) w KE) (hy : yi ops Γ j = some (.bool b) := by exact rfl) (hb : b = !c := by exact au) (hn : Nat.blt d n.n = true := by exact rfl) : bG P n ops (⟨some d, op, T, pos, after, some (j, c)⟩ :: rest) Γ w KE := bG.sk hy hb hn k
theorem qM {x : Operand} {v : Value} (k : bG P n ops rest ((d, v) :: Γ) w KE) (hx : ev? Γ x = some v := by exact rfl) (hn : Nat.blt d n.n = true := by exact rfl) : bG P n ops (⟨some d, .move x, T, pos, after, none⟩ :: rest) Γ w KE := bG.r (Run.mv hx) hn k
theorem qA {x : Operand} {v : Value} (k : bG P n ops rest ((d, v) :: Γ) w KE) (hx : ev? Γ x = some v := by exact rfl) (hn : Nat.blt d n.n = true := by exact rfl) : bG P n ops (⟨some d, .assign x, T, pos, after, none⟩ :: rest) Γ w KE := bG.r (Run.asg hx) hn k
theorem qX (i : IntKind) (m : Nat) {x : Operand} (k : bG P n ops rest ((d, .int i ((m : Nat) : Int)) :: Γ) w KE) (hx : ev? Γ x = some (.int i ((m : Nat) : Int)) := by exact rfl) (hn : Nat.blt d n.n = true := by exact rfl) : bG P n ops (⟨some d, .move x, T, pos, after, none⟩ :: rest) Γ w KE := bG.r (Run.mv hx) hn k
theorem qY (i : IntKind) (m : Nat) {x : Operand} (k : bG P n ops rest ((d, .int i ((m : Nat) : Int)) :: Γ) w KE) (hx : ev? Γ x = some (.int i ((m : Nat) : Int)) := by exact rfl) (hn : Nat.blt d n.n = true := by exact rfl) : bG P n ops (⟨some d, .assign x, T, pos, after, none⟩ :: rest) Γ w KE := bG.r (Run.asg hx) hn k
end
abbrev zb := @List.getElem?_eq_getElem
abbrev zg := @List.mem_singleton
abbrev zt := @Nat.le_refl
abbrev zr := @Nat.le_trans
abbrev zn := @Option.bind_some
abbrev zf := @List.getD_eq_getElem?_getD
abbrev zac := @Nat.zero_le
abbrev zab := @List.mem_cons
abbrev zag := @List.not_mem_nil
abbrev zz := @List.length_append
abbrev zaj := @List.getElem_mem
abbrev zay := @List.map_cons
abbrev zaa := @Nat.eq_of_beq_eq_true
abbrev zy := @List.take_of_length_le
abbrev zbc := @List.length_map
abbrev zbd := @List.length_take
abbrev zaw := @Nat.lt_of_lt_of_le
abbrev zbj := @Nat.min_eq_left
abbrev zbh := @List.take_add_one
abbrev zao := @List.drop_eq_getElem_cons
abbrev zbl := @List.length_drop
abbrev zbo := @List.length_cons
abbrev zbe := @Nat.le_of_ble_eq_true
abbrev zch := @Nat.mul_one
abbrev zbp := @List.take_length
abbrev zat := @Array.getD_eq_getD_getElem?
abbrev zav := @List.getElem?_append_right
abbrev zbr := @Bool.eq_false_iff
abbrev zax := @Array.getElem?_setIfInBounds
abbrev zby := @Bool.and_eq_true
abbrev zcs := @List.map_map
abbrev zcx := @Nat.add_assoc
abbrev zbq := @List.drop_eq_nil_of_le
abbrev zbw := @Nat.add_sub_cancel'
abbrev zbx := @List.map_congr_left
abbrev zdg := @Nat.add_zero
abbrev zcl := @List.size_toArray
abbrev zbt := @List.getElem?_take_of_lt
abbrev zbk := @List.eq_nil_of_length_eq_zero
abbrev zcw := @List.map_append
abbrev zeg := @Nat.sub_zero
abbrev zcg := @List.getElem?_eq_none
abbrev zdo := @List.nil_append
abbrev zeh := @Nat.sub_self
abbrev zdp := @List.nodup_cons
abbrev zck := @List.mem_of_getElem?
abbrev zdq := @List.append_nil
abbrev zcq := @Array.getElem?_eq_none
abbrev zcd := @Array.toList_setIfInBounds
abbrev zdc := @List.getElem?_set_ne
abbrev zcr := @List.getElem?_set_self
abbrev zdj := @List.getElem_of_mem
abbrev zee := @List.mem_append
abbrev zeu := @Nat.mul_le_mul
abbrev zdk := @Array.length_toList
abbrev zej := @Bool.false_eq_true
abbrev zev := @Array.size_append
abbrev zdz := @Array.size_replicate
abbrev zcz := @Array.getElem?_append_left
abbrev zdd := @List.getElem?_append_left
abbrev zek := @Nat.eq_zero_or_pos
abbrev zew := @Bool.not_eq_true'
abbrev zea := @Nat.pow_le_pow_right
abbrev zdr := @List.drop_of_length_le
abbrev zeb := @List.getElem?_append
abbrev zdx := @Array.getElem?_toList
abbrev zef := @Array.getElem?_eq_getElem
abbrev zet := @Array.size_setIfInBounds
end
section
open Go.Proofs
theorem dH (w : World) : (zeroValue 3).run Tryz.prog w = .ok (.int .i64 0) w := by
 simp only [zeroValue, Sem.run_bind, Tryz.typeInfo3, Result.andThen_ok]; rfl
theorem wT : (Tryz.prog.info? 3).map (fun i => (i.zero, i.size, i.bytes)) = some (some (.int .i64 0), 1, 8) := by kernel_rfl
theorem qKe (w : World) : (zeroValue 5).run Tryz.prog w = .ok (.int .u8 0) w := by
 simp only [zeroValue, Sem.run_bind, Tryz.typeInfo5, Result.andThen_ok]; rfl
theorem oE (w : World) : (zeroValue 9).run Tryz.prog w = .ok (.string ⟨#[]⟩) w := by
 simp only [zeroValue, Sem.run_bind, Tryz.typeInfo9, Result.andThen_ok]; rfl
theorem sS : (Tryz.prog.info? 9).map (fun i => (i.zero, i.size, i.bytes)) = some (some (.string ⟨#[]⟩), 1, 16) := by kernel_rfl
theorem yW (w : World) : (zeroValue 26).run Tryz.prog w = .ok (.slice none 0 0) w := by
 simp only [zeroValue, Sem.run_bind, Tryz.typeInfo26, Result.andThen_ok]; rfl
theorem bU (w : World) : (zeroValue 30).run Tryz.prog w = .ok (.agg #[.int .i64 0, .string ⟨#[]⟩, .string ⟨#[]⟩, .int .i64 0, .slice none 0 0, .slice none 0 0]) w := by
 simp only [zeroValue, Sem.run_bind, Tryz.typeInfo30, Result.andThen_ok]; rfl
theorem sF : (Tryz.prog.info? 30).map (fun i => (i.zero, i.size, i.bytes)) = some (some (.agg #[.int .i64 0, .string ⟨#[]⟩, .string ⟨#[]⟩, .int .i64 0, .slice none 0 0, .slice none 0 0]), 6, 96) := by kernel_rfl
theorem lT (w : World) : (zeroValue 32).run Tryz.prog w = .ok (.agg #[.int .i64 0, .int .i64 0]) w := by
 simp only [zeroValue, Sem.run_bind, Tryz.typeInfo32, Result.andThen_ok]; rfl
theorem eJ (w : World) : (zeroValue 34).run Tryz.prog w = .ok (.agg #[.string ⟨#[]⟩, .string ⟨#[]⟩, .bool false, .string ⟨#[]⟩, .string ⟨#[]⟩, .slice none 0 0, .int .i64 0, .bool false, .slice none 0 0, .slice none 0 0, .int .i64 0, .string ⟨#[]⟩, .string ⟨#[]⟩, .int .i64 0, .slice none 0 0, .slice none 0 0, .int .i64 0, .int .i64 0, .bool false, .slice none 0 0]) w := by
 simp only [zeroValue, Sem.run_bind, Tryz.typeInfo34, Result.andThen_ok]; rfl
theorem yY (w : World) : (zeroValue 35).run Tryz.prog w = .ok (.int .i64 0) w := by
 simp only [zeroValue, Sem.run_bind, Tryz.typeInfo35, Result.andThen_ok]; rfl
theorem eK (w : World) : (zeroValue 41).run Tryz.prog w = .ok (.agg #[.int .i64 0, .string ⟨#[]⟩]) w := by
 simp only [zeroValue, Sem.run_bind, Tryz.typeInfo41, Result.andThen_ok]; rfl
theorem sA : (Tryz.prog.info? 41).map (fun i => (i.zero, i.size, i.bytes)) = some (some (.agg #[.int .i64 0, .string ⟨#[]⟩]), 2, 24) := by kernel_rfl
theorem gL (w : World) : (zeroValue 47).run Tryz.prog w = .ok (.agg #[.slice none 0 0, .string ⟨#[]⟩, .slice none 0 0]) w := by
 simp only [zeroValue, Sem.run_bind, Tryz.typeInfo47, Result.andThen_ok]; rfl
theorem eC (w : World) : (zeroValue 54).run Tryz.prog w = .ok (.agg #[.int .i64 0, .string ⟨#[]⟩, .slice none 0 0, .string ⟨#[]⟩, .slice none 0 0, .bool false, .bool false, .int .i64 0, .int .i64 0]) w := by
 simp only [zeroValue, Sem.run_bind, Tryz.typeInfo54, Result.andThen_ok]; rfl
theorem qJl : (Tryz.prog.info? 54).map (fun i => (i.zero, i.size, i.bytes)) = some (some (.agg #[.int .i64 0, .string ⟨#[]⟩, .slice none 0 0, .string ⟨#[]⟩, .slice none 0 0, .bool false, .bool false, .int .i64 0, .int .i64 0]), 9, 112) := by kernel_rfl
theorem qJm (w : World) : (zeroValue 64).run Tryz.prog w = .ok (.agg #[.slice none 0 0, .int .i64 0, .pointer none]) w := by
 simp only [zeroValue, Sem.run_bind, Tryz.typeInfo64, Result.andThen_ok]; rfl
theorem yG (w : World) : (zeroValue 82).run Tryz.prog w = .ok (.agg #[.bool false, .string ⟨#[]⟩]) w := by
 simp only [zeroValue, Sem.run_bind, Tryz.typeInfo82, Result.andThen_ok]; rfl
theorem sI (w : World) : (zeroValue 86).run Tryz.prog w = .ok (.agg #[.string ⟨#[]⟩, .string ⟨#[]⟩, .string ⟨#[]⟩, .string ⟨#[]⟩, .string ⟨#[]⟩, .string ⟨#[]⟩]) w := by
 simp only [zeroValue, Sem.run_bind, Tryz.typeInfo86, Result.andThen_ok]; rfl
theorem qJn (w : World) : (zeroValue 87).run Tryz.prog w = .ok (.agg #[.string ⟨#[]⟩, .string ⟨#[]⟩, .string ⟨#[]⟩, .string ⟨#[]⟩]) w := by
 simp only [zeroValue, Sem.run_bind, Tryz.typeInfo87, Result.andThen_ok]; rfl
theorem yH (w : World) : (zeroValue 89).run Tryz.prog w = .ok (.agg #[]) w := by
 simp only [zeroValue, Sem.run_bind, Tryz.typeInfo89, Result.andThen_ok]; rfl
theorem sL (w : World) : (zeroValue 96).run Tryz.prog w = .ok (.agg #[.int .i64 0, .int .i64 0]) w := by
 simp only [zeroValue, Sem.run_bind, Tryz.typeInfo96, Result.andThen_ok]; rfl
theorem qJo : (Tryz.prog.info? 96).map (fun i => (i.zero, i.size, i.bytes)) = some (some (.agg #[.int .i64 0, .int .i64 0]), 2, 16) := by kernel_rfl
theorem eL (w : World) : (zeroValue 136).run Tryz.prog w = .ok (.agg #[.int .i64 0, .int .i64 0]) w := by
 simp only [zeroValue, Sem.run_bind, Tryz.typeInfo136, Result.andThen_ok]; rfl
theorem vH (w : World) : (zeroValue 173).run Tryz.prog w = .ok (.agg #[.string ⟨#[]⟩, .string ⟨#[]⟩, .string ⟨#[]⟩, .string ⟨#[]⟩, .string ⟨#[]⟩, .string ⟨#[]⟩, .string ⟨#[]⟩, .string ⟨#[]⟩, .string ⟨#[]⟩, .string ⟨#[]⟩, .string ⟨#[]⟩, .string ⟨#[]⟩]) w := by
 simp only [zeroValue, Sem.run_bind, Tryz.typeInfo173, Result.andThen_ok]; rfl
theorem vM (w : World) : (zeroValue 186).run Tryz.prog w = .ok (.agg #[.string ⟨#[]⟩, .string ⟨#[]⟩, .string ⟨#[]⟩, .string ⟨#[]⟩, .string ⟨#[]⟩]) w := by
 simp only [zeroValue, Sem.run_bind, Tryz.typeInfo186, Result.andThen_ok]; rfl
theorem qZj (w : World) : (zeroValue 199).run Tryz.prog w = .ok (.agg #[.int .i64 0, .int .i64 0, .int .i64 0, .int .i64 0, .int .i64 0, .int .i64 0, .int .i64 0, .int .i64 0, .int .i64 0, .int .i64 0, .int .i64 0, .int .i64 0]) w := by
 simp only [zeroValue, Sem.run_bind, Tryz.typeInfo199, Result.andThen_ok]; rfl
theorem vN (w : World) : (zeroValue 204).run Tryz.prog w = .ok (.agg #[.bool false, .bool false, .bool false, .bool false, .bool false, .bool false, .bool false, .bool false, .bool false, .bool false, .bool false, .bool false, .bool false, .bool false, .bool false, .bool false, .bool false, .bool false, .bool false, .bool false, .bool false, .bool false, .bool false, .bool false, .bool false, .bool false, .bool false, .bool false, .bool false, .bool false, .bool false, .bool false, .bool false, .bool false, .bool false, .bool false, .bool false, .bool false, .bool false, .bool false, .bool false, .bool false, .bool false, .bool false, .bool false, .bool false, .bool false, .bool false, .bool false, .bool false, .bool false, .bool false, .bool false, .bool false, .bool false, .bool false, .bool false, .bool false, .bool false, .bool false, .bool false, .bool false, .bool false, .bool false, .bool false, .bool false, .bool false, .bool false, .bool false, .bool false, .bool false, .bool false, .bool false, .bool false, .bool false, .bool false, .bool false, .bool false, .bool false, .bool false, .bool false, .bool false, .bool false, .bool false, .bool false, .bool false, .bool false, .bool false, .bool false, .bool false, .bool false, .bool false, .bool false, .bool false, .bool false, .bool false, .bool false, .bool false, .bool false, .bool false, .bool false, .bool false, .bool false, .bool false, .bool false, .bool false, .bool false, .bool false, .bool false, .bool false, .bool false, .bool false, .bool false, .bool false, .bool false, .bool false, .bool false, .bool false, .bool false, .bool false, .bool false, .bool false, .bool false, .bool false, .bool false, .bool false, .bool false, .bool false, .bool false, .bool false, .bool false, .bool false, .bool false, .bool false, .bool false, .bool false, .bool false, .bool false, .bool false, .bool false, .bool false, .bool false, .bool false, .bool false, .bool false, .bool false, .bool false, .bool false, .bool false, .bool false, .bool false, .bool false, .bool false, .bool false, .bool false, .bool false, .bool false, .bool false, .bool false, .bool false, .bool false, .bool false, .bool false, .bool false, .bool false, .bool false, .bool false, .bool false, .bool false, .bool false, .bool false, .bool false, .bool false, .bool false, .bool false, .bool false, .bool false, .bool false, .bool false, .bool false, .bool false, .bool false, .bool false, .bool false, .bool false, .bool false, .bool false, .bool false, .bool false, .bool false, .bool false, .bool false, .bool false, .bool false, .bool false, .bool false, .bool false, .bool false, .bool false, .bool false, .bool false, .bool false, .bool false, .bool false, .bool false, .bool false, .bool false, .bool false, .bool false, .bool false, .bool false, .bool false, .bool false, .bool false, .bool false, .bool false, .bool false, .bool false, .bool false, .bool false, .bool false, .bool false, .bool false, .bool false, .bool false, .bool false, .bool false, .bool false, .bool false, .bool false, .bool false, .bool false, .bool false, .bool false, .bool false, .bool false, .bool false, .bool false, .bool false, .bool false, .bool false, .bool false, .bool false, .bool false, .bool false, .bool false, .bool false, .bool false, .bool false, .bool false, .bool false, .bool false, .bool false, .bool false, .bool false, .bool false]) w := by
 simp only [zeroValue, Sem.run_bind, Tryz.typeInfo204, Result.andThen_ok]; rfl
theorem bQ : ∃ fs, Tryz.prog.underlying 30 = some (.struct fs) ∧ ∀ w, (fs.mapM fun f => do pure (f.offset, ← sizeOf f.type) : Sem (Array (Nat × Nat))).run Tryz.prog w = .ok #[(0, 1), (1, 1), (2, 1), (3, 1), (4, 1), (5, 1)] w :=
 ⟨_, Tryz.underlying30, fun w => by simp [Tryz.sizeOf26, Tryz.sizeOf28, Tryz.sizeOf3, Tryz.sizeOf9]⟩
theorem eD : ∃ fs, Tryz.prog.underlying 32 = some (.struct fs) ∧ ∀ w, (fs.mapM fun f => do pure (f.offset, ← sizeOf f.type) : Sem (Array (Nat × Nat))).run Tryz.prog w = .ok #[(0, 1), (1, 1)] w :=
 ⟨_, Tryz.underlying32, fun w => by simp [Tryz.sizeOf2, Tryz.sizeOf3]⟩
theorem eE : ∃ fs, Tryz.prog.underlying 34 = some (.struct fs) ∧ ∀ w, (fs.mapM fun f => do pure (f.offset, ← sizeOf f.type) : Sem (Array (Nat × Nat))).run Tryz.prog w = .ok #[(0, 1), (1, 1), (2, 1), (3, 1), (4, 1), (5, 1), (6, 1), (7, 1), (8, 1), (9, 1), (10, 6), (16, 2), (18, 1), (19, 1)] w :=
 ⟨_, Tryz.underlying34, fun w => by simp [Tryz.sizeOf25, Tryz.sizeOf26, Tryz.sizeOf27, Tryz.sizeOf3, Tryz.sizeOf30, Tryz.sizeOf32, Tryz.sizeOf4, Tryz.sizeOf9]⟩
theorem cO : ∃ fs, Tryz.prog.underlying 41 = some (.struct fs) ∧ ∀ w, (fs.mapM fun f => do pure (f.offset, ← sizeOf f.type) : Sem (Array (Nat × Nat))).run Tryz.prog w = .ok #[(0, 1), (1, 1)] w :=
 ⟨_, Tryz.underlying41, fun w => by simp [Tryz.sizeOf3, Tryz.sizeOf9]⟩
theorem dP : ∃ fs, Tryz.prog.underlying 47 = some (.struct fs) ∧ ∀ w, (fs.mapM fun f => do pure (f.offset, ← sizeOf f.type) : Sem (Array (Nat × Nat))).run Tryz.prog w = .ok #[(0, 1), (1, 1), (2, 1)] w :=
 ⟨_, Tryz.underlying47, fun w => by simp [Tryz.sizeOf25, Tryz.sizeOf45, Tryz.sizeOf9]⟩
theorem gY : ∃ fs, Tryz.prog.underlying 54 = some (.struct fs) ∧ ∀ w, (fs.mapM fun f => do pure (f.offset, ← sizeOf f.type) : Sem (Array (Nat × Nat))).run Tryz.prog w = .ok #[(0, 1), (1, 1), (2, 3), (5, 1), (6, 1), (7, 1), (8, 1)] w :=
 ⟨_, Tryz.underlying54, fun w => by simp [Tryz.sizeOf3, Tryz.sizeOf4, Tryz.sizeOf47, Tryz.sizeOf9]⟩
theorem sO : ∃ fs, Tryz.prog.underlying 64 = some (.struct fs) ∧ ∀ w, (fs.mapM fun f => do pure (f.offset, ← sizeOf f.type) : Sem (Array (Nat × Nat))).run Tryz.prog w = .ok #[(0, 1), (1, 1), (2, 1)] w :=
 ⟨_, Tryz.underlying64, fun w => by simp [Tryz.sizeOf23, Tryz.sizeOf3, Tryz.sizeOf62]⟩
theorem tQ : ∃ fs, Tryz.prog.underlying 82 = some (.struct fs) ∧ ∀ w, (fs.mapM fun f => do pure (f.offset, ← sizeOf f.type) : Sem (Array (Nat × Nat))).run Tryz.prog w = .ok #[(0, 1), (1, 1)] w :=
 ⟨_, Tryz.underlying82, fun w => by simp [Tryz.sizeOf4, Tryz.sizeOf9]⟩
theorem lL : ∃ fs, Tryz.prog.underlying 89 = some (.struct fs) ∧ ∀ w, (fs.mapM fun f => do pure (f.offset, ← sizeOf f.type) : Sem (Array (Nat × Nat))).run Tryz.prog w = .ok #[] w :=
 ⟨_, Tryz.underlying89, fun w => by simp []⟩
theorem tX : ∃ fs, Tryz.prog.underlying 96 = some (.struct fs) ∧ ∀ w, (fs.mapM fun f => do pure (f.offset, ← sizeOf f.type) : Sem (Array (Nat × Nat))).run Tryz.prog w = .ok #[(0, 1), (1, 1)] w :=
 ⟨_, Tryz.underlying96, fun w => by simp [Tryz.sizeOf3]⟩
theorem qQy : ∃ f0 f1, (Tryz.prog.fieldsOf 32).toList = [f0, f1] ∧ (f0.name = "Sec" ∧ f0.type = 2 ∧ f0.offset = 0) ∧ (f1.name = "Zone" ∧ f1.type = 3 ∧ f1.offset = 1) := by
 unfold Program.fieldsOf
 rw [Tryz.underlying32]
 exact ⟨_, _, rfl, ⟨rfl, rfl, rfl⟩, ⟨rfl, rfl, rfl⟩⟩
theorem qQz : ∃ f0 f1, (Tryz.prog.fieldsOf 96).toList = [f0, f1] ∧ (f0.name = "From" ∧ f0.type = 3 ∧ f0.offset = 0) ∧ (f1.name = "To" ∧ f1.type = 3 ∧ f1.offset = 1) := by
 unfold Program.fieldsOf
 rw [Tryz.underlying96]
 exact ⟨_, _, rfl, ⟨rfl, rfl, rfl⟩, ⟨rfl, rfl, rfl⟩⟩
abbrev zc := @Tryz.sizeOf3
abbrev zd := @Tryz.sizeOf9
abbrev za := @Tryz.underlying9
abbrev zi := @Tryz.isAgg3
abbrev zj := @Tryz.isAgg9
abbrev zh := @Tryz.sizeOf30
abbrev ze := @Tryz.underlying34
abbrev zq := @Tryz.sizeOf4
abbrev zk := @Tryz.underlying64
abbrev zl := @Tryz.underlying45
abbrev zm := @Tryz.underlying54
abbrev zo := @Tryz.underlying47
abbrev zp := @Tryz.underlying25
abbrev zw := @Tryz.sizeOf41
abbrev zx := @Tryz.sizeOf47
abbrev zs := @Tryz.underlying23
abbrev zae := @Tryz.isAgg61
abbrev zaf := @Tryz.isAgg30
abbrev zu := @Tryz.underlying30
abbrev zad := @Tryz.sizeOf62
abbrev zv := @Tryz.underlying44
abbrev zak := @Tryz.isAgg62
abbrev zai := @Tryz.sizeOf25
abbrev zaq := @Tryz.isAgg4
abbrev zau := @Tryz.sizeOf5
abbrev zar := @Tryz.sizeOf54
abbrev zbb := @Tryz.call20
abbrev zal := @Tryz.underlying5
abbrev zah := @Tryz.underlying28
abbrev zaz := @Tryz.sizeOf28
abbrev zam := @Tryz.underlying3
abbrev zan := @Tryz.underlying4
abbrev zba := @Tryz.sizeOf34
abbrev zbi := @Tryz.isAgg25
abbrev zbf := @Tryz.sizeOf26
abbrev zbg := @Tryz.sizeOf32
abbrev zap := @Tryz.underlying68
abbrev zas := @Tryz.underlying41
abbrev zbm := @Tryz.isAgg47
abbrev zbs := @Tryz.sizeOf45
abbrev zbu := @Tryz.isAgg23
abbrev zbz := @Tryz.isAgg5
abbrev zca := @Tryz.call31
abbrev zcb := @Tryz.sizeOf27
abbrev zco := @Tryz.call61
abbrev zcp := @Tryz.call66
abbrev zci := @Tryz.isAgg45
abbrev zbn := @Tryz.underlying136
abbrev zcj := @Tryz.isAgg28
abbrev zct := @Tryz.isAgg26
abbrev zcu := @Tryz.isAgg54
abbrev zbv := @Tryz.underlying27
abbrev zcv := @Tryz.isAgg34
abbrev zcy := @Tryz.sizeOf23
abbrev zcc := @Tryz.underlying26
abbrev zdh := @Tryz.isAgg27
abbrev zdi := @Tryz.isAgg41
abbrev zcn := @Tryz.underlying0
abbrev zec := @Tryz.isAgg0
abbrev zdu := @Tryz.sizeOf0
abbrev zcm := @Tryz.underlying20
abbrev zce := @Tryz.underlying197
abbrev zdl := @Tryz.isAgg197
abbrev zde := @Tryz.sizeOf197
abbrev zcf := @Tryz.underlying195
abbrev zdm := @Tryz.isAgg195
abbrev zdf := @Tryz.sizeOf195
abbrev zdn := @Tryz.sizeOf96
abbrev zdv := @Tryz.isAgg32
abbrev zed := @Tryz.call10
abbrev zda := @Tryz.underlying86
abbrev zei := @Tryz.call146
abbrev zdw := @Tryz.results10
abbrev zdb := @Tryz.underlying83
abbrev zds := @Tryz.underlying82
abbrev zdt := @Tryz.underlying96
abbrev zdy := @Tryz.underlying2
abbrev zel := @Tryz.underlying106
abbrev zex := @Tryz.underlying21
abbrev zem := @Tryz.underlying164
abbrev zen := @Tryz.underlying163
abbrev zeo := @Tryz.underlying167
abbrev zep := @Tryz.underlying194
abbrev zeq := @Tryz.underlying196
abbrev zer := @Tryz.underlying225
abbrev zes := @Tryz.underlying226
end
section
open Go.RowKit
section
variable {P : Program} {Γ : Env} {w : World} {dst : Option Tmp} {T : TypeId} {pos : String} {after : Array Edge} {g : Option (Nat × Bool)}
theorem sR.pn {x : Operand} {t : TypeId} {v : Value} (hx : ev? Γ x = some (.iface t v)) : sR P ⟨dst, .panic x, T, pos, after, g⟩ Γ w (.iface t v) := fun ρ hρ => by
 simp [execOp, hρ _ _ hx, Instr.panic, goPanic]
theorem Run.buildA {t e : TypeId} {n size : Nat} {parts : List (Nat × Operand)} {vs : List Value} {z cells : Array Value} (hv : evs Γ (parts.map (·.2)) vs) (hz : ∀ w, (zeroValue t).run P w = .ok (.agg z) w)
  (hu : P.underlying t = some (.array n e)) (hsz : ∀ w, (sizeOf e).run P w = .ok size w) (hf : Instr.fill (fun i => some (i * size, size)) z ((parts.map (·.1)).zip vs) = some cells) :
  Run P ⟨dst, .build t parts.toArray, T, pos, after, g⟩ Γ w (.agg cells) := fun ρ hρ => by
 have e1 := eI hρ _ _ hv
 have e2 : parts.map (fun p => (p.1, ρ p.2)) = (parts.map (·.1)).zip vs := by
  rw [← e1, zcs, List.zip_map']
  rfl
 simp only [execOp, Instr.build, Sem.run_bind, hz, Result.andThen_ok, Value.cells, run_underlying hu, hsz, List.map_toArray, e2, hf, Sem.run_pure]
theorem Run.neqNilI {t yT : TypeId} {x y : Operand} {u : TypeId} {v : Value} {d : TypeDesc} (hx : ev? Γ x = some (.iface u v)) (hy : ev? Γ y = some .nilIface) (ht : P.underlying t = some d) (hd : lI d = false) :
  Run P ⟨dst, .binOp .neq t x y yT, T, pos, after, g⟩ Γ w (.bool true) := fun ρ hρ => by
 have h0 : ∀ k : Nat, (Op.equalIn (k + 1) t (.iface u v) .nilIface).run P w = .ok false w := fun k => by
  cases d <;> first | (cases hd; done) | simp [Op.equalIn, run_underlying ht]
 have h1 : (Op.equal t (.iface u v) .nilIface).run P w = .ok false w := h0 9999
 simp [execOp, hρ _ _ hx, hρ _ _ hy, eqGuard, binOp, h1]
end
section
variable {P : Program} {n : NF} {Γ : Env} {w : World} {Q : Exit → Env → World → Prop} {K : Env → World → Prop} {Pn : List PanicEntry → World → Prop} {ops : Array Oper} {rest : List Oper} {S : World → Prop} {L fuel : Nat} {listed : Array Bool} {d : Nat} {op : Op} {T : TypeId} {pos : String} {after : Array Edge}
theorem Ops.clp {f : FuncId} {args : Array Value} {R : Ending → World → Prop} (he : bJ P ⟨some d, op, T, pos, after, none⟩ Γ w f args) (hc : Calls P f args w R) (hn : Nat.blt d n.n = true)
  (k : ∀ e w', R e w' → (∃ v, e = .returned v ∧ Ops P n ops rest ((d, v) :: Γ) w' Q) ∨ (∃ ch, e = .panicked ch ∧ Q (.panic ch) Γ w')) : Ops P n ops (⟨some d, op, T, pos, after, none⟩ :: rest) Γ w Q :=
 Ops.callP he hc trivial rfl hn k
theorem Ops.pn {x : Operand} {t : TypeId} {v : Value} {dd : Option Tmp} (hx : ev? Γ x = some (.iface t v)) (k : Q (.panic [{ v := .iface t v, recovered := false }]) Γ w) : Ops P n ops (⟨dd, .panic x, T, pos, after, none⟩ :: rest) Γ w Q :=
 Ops.falls (sR.pn hx) trivial k
theorem qQ.clp {f : FuncId} {args : Array Value} {R : Ending → World → Prop} {d : Nat} (i : Nat) {oi : Oper} (hi : ops[i]? = some oi) (hr : Region.ready .any ops listed = [i]) (he : bJ P oi Γ w f args) (hc : Calls P f args w R) (hup : Up ops Γ oi.guard) (hd : oi.dst = some d) (hn : Nat.blt d n.n = true)
  (k : ∀ e w', R e w' → (∃ v, e = .returned v ∧ S w' ∧ qQ P n ops S Pn L fuel (listed.setIfInBounds i true) ((d, v) :: Γ) w' K) ∨ (∃ ch, e = .panicked ch ∧ Pn ch w')) : qQ P n ops S Pn L (fuel + 1) listed Γ w K :=
 qQ.of_wp i hi hr hup fun a hs => by
  unfold Oper.wp
  rw [he _ hs.fits, Oper.upon_enter, hd]
  refine hc.mono ?_
  intro e w' hR
  rcases k e w' hR with ⟨v, rfl, h1, h2⟩ | ⟨ch, rfl, h1⟩
  · exact ⟨h1, h2 _ (hs.put hn v)⟩
  exact ⟨⟨hs.size, hs.defers⟩, h1⟩
end
section
variable {P : Program} {n : NF} {Γ : Env} {w : World} {K : Env → World → Prop} {Pn : List PanicEntry → World → Prop} {ops : Array Oper} {S : World → Prop} {L fuel : Nat} {listed : Array Bool}
end
section
variable {P : Program} {n : Nat} {D : List Deferred} {Γ : Env} {w : World} {Q : Exit → Env → World → Prop}
end
def LW (P : Program) (n : NF) (c : Code) (Γ : Env) (w : World) (QQ : Exit → Act → World → Prop) : Prop := n.ro = none → ∀ a, Sat n Γ a → c.wp P QQ a w
def upL (n : NF) (QQ : Exit → Act → World → Prop) : Exit → Env → World → Prop := fun e Γ w => ∀ a, Sat n Γ a → QQ e a w
section
variable {P : Program} {n : NF} {Γ : Env} {w : World} {QQ : Exit → Act → World → Prop} {c x y : Code} {R : Ending → World → Prop} {fn : Func} {res : Array ResultVar}
theorem LW.vc (h : VC P n c Γ w (upL n QQ)) : LW P n c Γ w QQ := fun hro a hs => by
 have h1 := h a hs 0
 rw [hro] at h1
 exact wp_mono (wpIn_wide.1 h1) (fun _ _ _ ⟨_, hs', q⟩ => q _ hs')
theorem LW.seq (h : VC P n x Γ w (fT (fun Γ' w' => LW P n y Γ' w' QQ) (upL n QQ))) : LW P n (.seq x y) Γ w QQ := by
 intro hro a hs
 have h1 := h a hs 0
 rw [hro] at h1
 refine wp_seq (wp_mono (wpIn_wide.1 h1) ?_)
 intro e a' w' hq
 obtain ⟨Γ', hs', q⟩ := hq
 cases e with
 | normal => exact q hro a' hs'
 | exit id => exact q a' hs'
 | goto l => exact q a' hs'
 | ret => exact q a' hs'
 | panic ch => exact q a' hs'
 | outgrown => exact q a' hs'
theorem LW.dfr {m : Nat} {D : List Deferred} {id : Nat} {om od : Oper} {t : Nat} {o : Operand} {f : FuncId} {us : List Value} {ts : Array TypeId} (h : Run P om Γ w (.func (.func f) #[] us.toArray)) (hgm : om.guard = none) (hdm : om.dst = some t) (htn : Nat.blt t m = true)
  (ho : od.op = .defer ⟨.value o, #[], ts⟩) (hg : od.guard = none) (hd : od.dst = none) (hc : ev? ((t, .func (.func f) #[] us.toArray) :: Γ) o = some (.func (.func f) #[] us.toArray))
  (k : LW P ⟨m, { target := .fn (.func f) us.toArray, args := #[] } :: D, none⟩ y ((t, .func (.func f) #[] us.toArray) :: Γ) w QQ) : LW P ⟨m, D, none⟩ (.seq (.region id #[om, od] false) y) Γ w QQ := by
 intro _ a hs
 refine wp_seq (wp_region_lit ?_)
 unfold wpList
 rw [if_pos (by unfold Region.wanted; rw [hgm])]
 left
 unfold Oper.wp
 rw [h _ hs.fits, Oper.upon_value, hdm]
 have hs1 := hs.put htn (.func (.func f) #[] us.toArray)
 unfold wpList
 rw [if_pos (by unfold Region.wanted; rw [hg])]
 left
 unfold Oper.wp
 have e2 := hs1.fits _ _ hc
 have hr : (execOp (a.put (some t) (.func (.func f) #[] us.toArray)).eval od).run P w = .ok (.defer { target := .fn (.func f) us.toArray, args := #[] }) w := by
  simp [execOp, ho, resolve, e2, Deferred.ofValue]
 rw [hr, Oper.upon_defer, hd]
 refine wpList_nil (k rfl _ ⟨hs1.size, ?_, hs1.at_⟩)
 show _ :: (a.put (some t) _).defers = _
 rw [hs1.defers]
theorem oF {f : FuncId} {us : List Value} (hi : ∀ args w, (callFunc f args).run P w = .ok (.enter f args) w) (w : World) : (invoke (.fn (.func f) us.toArray) #[]).run P w = .ok (.enter f us.toArray) w := by
 simp [invoke, hi]
theorem qQ0 {m : Nat} (hr : fn.results = res) (h : dD P res R .ret Γ w) : upL ⟨m, [], none⟩ (bodyPostD P fn R) .ret Γ w := fun a hs => by
 obtain ⟨vs, h1, h2⟩ := dC hs hr h
 show Leaves P fn a.tmps R a.defers .returning w
 rw [hs.defers]
 exact ⟨_, h1, h2⟩
theorem qQ1 {m : Nat} {f : FuncId} {us : List Value} (hr : fn.results = res) (hi : ∀ args w, (callFunc f args).run P w = .ok (.enter f args) w)
  (hc : CallsD P f us.toArray .returning w fun e u w' => (∃ v, e = .returned v) ∧ settle u = .returning ∧ dD P res R .ret Γ w') : upL ⟨m, [{ target := .fn (.func f) us.toArray, args := #[] }], none⟩ (bodyPostD P fn R) .ret Γ w := fun a hs => by
 show Leaves P fn a.tmps R a.defers .returning w
 rw [hs.defers]
 refine leaves_cons jp (oF hi w) (hc.mono ?_)
 rintro e u w' ⟨⟨v, rfl⟩, hu, h⟩
 obtain ⟨vs, h1, h2⟩ := dC hs hr h
 dsimp only
 rw [hu]
 exact ⟨_, h1, h2⟩
theorem mQ {m : Nat} {f : FuncId} {us : List Value} {ch : List PanicEntry} (hr : fn.results = res) (hi : ∀ args w, (callFunc f args).run P w = .ok (.enter f args) w)
  (hc : CallsD P f us.toArray (.panicking ch) w fun e u w' => (∃ v, e = .returned v) ∧ settle u = .returning ∧ dD P res R .ret Γ w') : upL ⟨m, [{ target := .fn (.func f) us.toArray, args := #[] }], none⟩ (bodyPostD P fn R) (.panic ch) Γ w := fun a hs => by
 show Leaves P fn a.tmps R a.defers (.panicking ch) w
 rw [hs.defers]
 refine leaves_cons jp (oF hi w) (hc.mono ?_)
 rintro e u w' ⟨⟨v, rfl⟩, hu, h⟩
 obtain ⟨vs, h1, h2⟩ := dC hs hr h
 dsimp only
 rw [hu]
 exact ⟨_, h1, h2⟩
theorem LW.calls {f : FuncId} {args : List Value} {nt : Nat} (hf : P.funcs[f]? = some fn) (hb : fn.body = some c) (hn : fn.ntmps = nt) (hl0 : Nat.ble args.length nt = true)
  (h : LW P ⟨nt, [], none⟩ c (argEnv 0 args) w (bodyPostD P fn R)) : Calls P f args.toArray w R := by
 have hl : args.length ≤ nt := zbe hl0
 refine calls_of_wp_defers hf hb (h rfl _ ?_)
 refine ⟨?_, rfl, ?_⟩
 ·
  simp only [zev, zcl, zdz, hn]
  omega
 intro t v ht
 obtain ⟨_, h2⟩ := kZ args 0 t v ht
 simp only [zeg] at h2
 have hlt : t < args.length := (List.getElem?_eq_some_iff.1 h2).1
 rw [zat, zcz (by simpa using hlt)]
 simp [h2]
end
section
variable {P : Program} {Γ : Env} {w : World} {rest : Code} {R : Ending → FrameMode → World → Prop} {fn : Func} {res : Array ResultVar}
theorem VC.recovered {f : FuncId} {args : List Value} {nt id : Nat} {o4 o3 : Oper} {d e : Nat} {u u' : FrameMode} {v : Value} (hf : P.funcs[f]? = some fn) (hb : fn.body = some (.seq (.region id #[o4, o3] false) rest)) (hn : fn.ntmps = nt) (hr : fn.results = res) (hl0 : Nat.ble args.length nt = true)
  (hu : (∃ older, u = .panicking ({ v, recovered := false } :: older) ∧ u' = .panicking ({ v, recovered := true } :: older)) ∨ (u = .returning ∧ u' = u ∧ v = .nilIface))
  (h4 : o4.op = .call ⟨.builtin .recover, #[], #[]⟩) (hg4 : o4.guard = none) (hd4 : o4.dst = some d) (h3 : o3.op = .assign (.tmp d)) (hg3 : o3.guard = none) (hd3 : o3.dst = some e) (hdn : Nat.blt d nt = true) (hen : Nat.blt e nt = true)
  (k : VC P ⟨nt, [], none⟩ rest ((e, v) :: (d, v) :: argEnv 0 args) w (dD P res (fun x w' => R x u' w'))) : CallsD P f args.toArray u w R := by
 have hl : args.length ≤ nt := zbe hl0
 refine callsD_of_wpS hf hb fun c₀ cs hmode => wpS_seq (wpS_region ?_)
 have hs0 : Sat ⟨nt, [], none⟩ (argEnv 0 args) { tmps := args.toArray ++ Array.replicate (fn.ntmps - args.toArray.size) undef, defers := [] } := by
  refine ⟨?_, rfl, ?_⟩
  ·
   simp only [zev, zcl, zdz, hn]
   omega
  intro t v ht
  obtain ⟨_, h2⟩ := kZ args 0 t v ht
  simp only [zeg] at h2
  have hlt : t < args.length := (List.getElem?_eq_some_iff.1 h2).1
  rw [zat, zcz (by simpa using hlt)]
  simp [h2]
 generalize ({ tmps := args.toArray ++ Array.replicate (fn.ntmps - args.toArray.size) undef, defers := [] } : Act) = a0 at hs0
 have e0 : (execOp a0.eval o4).run P w = .ok .recover w := by
  simp [execOp, h4, resolve, invoke, builtin]
 have fin : ∀ cs', cs' = { c₀ with mode := u' } :: cs → wpOpsS P #[o4, o3] (Exit.thenS (rest.wpS P (bodyPostS P fn c₀ cs R)) (bodyPostS P fn c₀ cs R)) [1] (a0.put o4.dst v) cs' w := by
  rintro cs' rfl
  have hs1 := hs0.put hdn v
  rw [hd4]
  have e1 : (execOp (a0.put (some d) v).eval o3).run P w = .ok (.value v) w := by
   have h5 : (a0.put (some d) v).eval (.tmp d) = v := hs1.fits (.tmp d) v (by simp [ev?, get?])
   simp [execOp, h3, h5]
  have hs2 := hs1.put hen v
  simp only [wpOpsS, show (#[o4, o3] : Array Oper)[1]? = some o3 from rfl]
  rw [if_pos (by unfold Region.wanted; rw [hg3]), e1]
  simp only [Oper.upon_value, hd3]
  refine wpS_of_wp (wp_mono (wpIn_wide.1 (k _ hs2 0)) ?_)
  rintro x a' w' ⟨Γ', hs', q⟩
  have key : dD P res (fun x w' => R x u' w') .ret Γ' w' → ∃ v, (results fn a'.tmps).run P w' = .ok v w' ∧ R (.returned v) u' w' := by
   intro q
   obtain ⟨vs, h1, h2⟩ := dC hs' hr q
   exact ⟨_, h1, h2⟩
  cases x with
  | normal => obtain ⟨v, h1, h2⟩ := key q; exact ⟨hs'.defers, _, rfl, v, h1, h2⟩
  | ret => obtain ⟨v, h1, h2⟩ := key q; exact ⟨hs'.defers, _, rfl, v, h1, h2⟩
  | panic ch => exact ⟨hs'.defers, _, rfl, q⟩
  | exit id => exact q.elim
  | goto l => exact q.elim
  | outgrown => exact q.elim
 show wpOpsS P #[o4, o3] _ [0, 1] a0 (c₀ :: cs) w
 rw [wpOpsS]
 simp only [show (#[o4, o3] : Array Oper)[0]? = some o4 from rfl]
 rw [if_pos (by unfold Region.wanted; rw [hg4]), e0]
 dsimp only
 rcases hu with ⟨older, rfl, rfl⟩ | ⟨rfl, rfl, rfl⟩
 ·
  have : recoverD (c₀ :: cs) = some (v, { c₀ with mode := .panicking ({ v, recovered := true } :: older) } :: cs) := by simp [recoverD, hmode]
  rw [this]
  exact fin _ rfl
 have : recoverD (c₀ :: cs) = none := by simp [recoverD, hmode]
 rw [this]
 exact fin _ (by rw [← hmode])
end
section
variable {P : Program} {Γ : Env} {w : World} {dst : Option Tmp} {T : TypeId} {pos : String} {after : Array Edge} {g : Option (Nat × Bool)}
theorem Run.neqNil2 {t yT : TypeId} {x : Operand} {d : TypeDesc} (hx : ev? Γ x = some .nilIface) (ht : P.underlying t = some d) (hd : lI d = false) :
  Run P ⟨dst, .binOp .neq t x (.const .nilIface) yT, T, pos, after, g⟩ Γ w (.bool false) := fun ρ hρ => by
 have h0 : ∀ k : Nat, (Op.equalIn (k + 1) t .nilIface .nilIface).run P w = .ok true w := fun k => by
  cases d <;> first | (cases hd; done) | simp [Op.equalIn, run_underlying ht]
 have h1 : (Op.equal t .nilIface .nilIface).run P w = .ok true w := h0 9999
 have hy : ρ (.const .nilIface) = .nilIface := hρ _ _ rfl
 simp [execOp, hρ _ _ hx, hy, eqGuard, binOp, h1]
end
section
variable {P : Program} {n : NF} {Γ : Env} {w : World} {K : Env → World → Prop} {Pn : List PanicEntry → World → Prop} {ops : Array Oper} {S : World → Prop} {L fuel : Nat} {listed : Array Bool} {i : Nat} {oi : Oper} {d : Nat}
def hU (P : Program) (n : NF) (ops : Array Oper) (S : World → Prop) (Pn : List PanicEntry → World → Prop) (L fuel : Nat) (listed : Array Bool) (i : Nat) (Γ : Env) (w : World) (K : Env → World → Prop) : Prop :=
 ∀ a, Sat n Γ a → wpOp P ops (dL n K Pn) i (fun a' w' => S w' ∧ cZ P ops (dL n K Pn) S L fuel (listed.setIfInBounds i true) a' w') a w
theorem qQ.or2 (i j : Nat) (hr : Region.ready .any ops listed = [i, j]) (h1 : hU P n ops S Pn L fuel listed i Γ w K) (h2 : hU P n ops S Pn L fuel listed j Γ w K) : qQ P n ops S Pn L (fuel + 1) listed Γ w K := fun a hs =>
 lA hr jp (by intro x hx; simp only [zab, zag, or_false] at hx; rcases hx with rfl | rfl; exact h1 a hs; exact h2 a hs)
theorem hU.of_wp (hi : ops[i]? = some oi) (hup : Up ops Γ oi.guard) (h : ∀ a, Sat n Γ a → oi.wp P a w (fun a' w' => S w' ∧ cZ P ops (dL n K Pn) S L fuel (listed.setIfInBounds i true) a' w') (dL n K Pn)) : hU P n ops S Pn L fuel listed i Γ w K := by
 intro a hs
 unfold wpOp
 simp only [hi]
 rw [if_pos (hup.wanted hs)]
 exact .inl (h a hs)
theorem hU.m {R : Value → World → Prop} (hi : ops[i]? = some oi) (h : qH P oi Γ w R) (hup : Up ops Γ oi.guard) (hd : oi.dst = some d) (hn : Nat.blt d n.n = true)
  (k : ∀ v w', R v w' → S w' ∧ qQ P n ops S Pn L fuel (listed.setIfInBounds i true) ((d, v) :: Γ) w' K) : hU P n ops S Pn L fuel listed i Γ w K :=
 hU.of_wp hi hup fun a hs => by
  obtain ⟨v, w', hrun, hR⟩ := h _ hs.fits
  unfold Oper.wp
  rw [hrun, Oper.upon_value, hd]
  exact ⟨(k v w' hR).1, (k v w' hR).2 _ (hs.put hn v)⟩
end
end
section
open Go.RowKit Go.ChangeShapes Go.WideShapes Go.Deep
section
variable {H : Type} {enc : TypeId × Value → H} {P : Program} {w : World} {base : Nat} {spare : Nat → Bool} {held : Bool}
end
end
section
open Go.RowKit
def Fro (w : World) (g : Nat) (e : TypeId) (cs : Array Value) : Prop := w.heap[g]? = some (.cells cs e (cs.size, cs.size + 1))
section
variable {S : List Nat} {w w' : World} {g : Nat} {e : TypeId} {cs : Array Value}
theorem Fro.lt (h : Fro w g e cs) : g < w.heap.size := (Array.getElem?_eq_some_iff.1 h).1
theorem Fro.cell (h : Fro w g e cs) (i : Nat) : w.cell? ⟨g, i, none⟩ = cs[i]? := by
 unfold Fro at h
 simp [World.cell?, h]
theorem Fro.frozen (h : Fro w g e cs) {i : Nat} (hi : i < cs.size) : w.frozen? ⟨g, i, none⟩ = false := by
 unfold Fro at h
 simp [World.frozen?, h]
 omega
theorem Fro.set (h : Fro w g e cs) (i : Nat) (u : Value) : Fro (w.setCell ⟨g, i, none⟩ u) g e (cs.setIfInBounds i u) := by
 unfold Fro at *
 have hlt := (Array.getElem?_eq_some_iff.1 h).1
 have hb := (Array.getElem?_eq_some_iff.1 h).2
 simp [World.setCell, Array.getElem?_modify, h]
theorem Fro.rd (h : Fro w g e cs) {l : List UInt8} (hl : cs.toList.take l.length = U8 l) : Rd w 1 (some ⟨g, 0, none⟩) l.length (U8 l) := by
 refine ⟨by simp [U8], fun hn => ⟨_, rfl, h.lt, fun j u hu => ?_⟩⟩
 have e1 : (⟨g, 0, none⟩ : Addr).add j = ⟨g, j, none⟩ := by unfold Addr.add; split <;> simp_all
 rw [e1, h.cell]
 have hj : j < l.length := by have := (List.getElem?_eq_some_iff.1 hu).1; simpa [U8] using this
 rw [← hl, zbt hj] at hu
 simpa using hu
end
section
variable {P : Program} {n : NF} {Γ : Env} {w : World} {dst : Option Tmp} {T : TypeId} {pos : String} {after : Array Edge} {g : Option (Nat × Bool)}
theorem qH.bytesOf {src dstT e : TypeId} {x : Operand} {s : ByteArray} (hx : ev? Γ x = some (.string s)) (hs : P.underlying src = some .string) (hd : P.underlying dstT = some (.slice e)) (he : P.underlying e = some (.int .u8)) :
  qH P ⟨dst, .convert src dstT x, T, pos, after, g⟩ Γ w (fun r w' => ∃ c cs, r = .slice (some ⟨w.heap.size, 0, none⟩) s.data.toList.length c ∧ Fro w' w.heap.size e cs ∧ cs.toList.take s.data.toList.length = U8 s.data.toList ∧ Frm [] w w') := fun ρ hρ => by
 have h := run_bytes_of_string (P := P) w src dstT e s hs hd he
 have hsz : s.data.toList.length = s.size := rfl
 refine ⟨.slice (some ⟨w.heap.size, 0, none⟩) s.size (grownCap w s.size 0 e), w.drew.alloc (.cells (bytesRow s (grownCap w s.size 0 e)) e ((bytesRow s (grownCap w s.size 0 e)).size, (bytesRow s (grownCap w s.size 0 e)).size + 1)), ?_,
  grownCap w s.size 0 e, bytesRow s (grownCap w s.size 0 e), by rw [hsz], ?_, ?_, ?_⟩
 ·
  simp only [execOp, hρ _ _ hx, Sem.run_bind, h, Result.andThen_ok]
  rfl
 ·
  unfold Fro
  show (w.heap.push _)[w.heap.size]? = _
  simp
 ·
  unfold bytesRow U8
  simp
 exact ((Frm.refl [] w).drew).alloc _
theorem qJ.storeFro {t e : TypeId} {x y : Operand} {gb i : Nat} {cs : Array Value} {v : Value} (hx : ev? Γ x = some (.pointer (some ⟨gb, i, none⟩))) (hy : ev? Γ y = some v)
  (hz : ∀ w, (sizeOf t).run P w = .ok 1 w) (hb : Fro w gb e cs) (hi : i < cs.size) (h1 : v.oneCell' = true) :
  qJ P ⟨dst, .store t x y, T, pos, after, g⟩ Γ w (fun w' => Fro w' gb e (cs.setIfInBounds i v) ∧ Frm [gb] w w' ∧ w'.heap.size = w.heap.size) := fun ρ hρ => by
 have hcells : v.cells = #[v] := by cases v <;> first | rfl | cases h1
 have hc := hb.cell i
 rw [zef hi] at hc
 refine ⟨w.setCell ⟨gb, i, none⟩ v, ?_, hb.set i v, Frm.set1 w ⟨gb, i, none⟩ v, jp⟩
 simp [execOp, hρ _ _ hx, hρ _ _ hy, Instr.storeAt, Instr.sureAddr, storeVar, hcells, hz, storeCells, run_store P _ _ _ _ h1, rP, hc, hb.frozen hi]
theorem qH.bytesOfT {src dstT e : TypeId} {x : Operand} {s : List UInt8} (hx : ev? Γ x = some (encStr s)) (hs : P.underlying src = some .string) (hd : P.underlying dstT = some (.slice e)) (he : P.underlying e = some (.int .u8)) :
  qH P ⟨dst, .convert src dstT x, T, pos, after, g⟩ Γ w (fun r w' => ∃ c cs, r = .slice (some ⟨w.heap.size, 0, none⟩) s.length c ∧ Fro w' w.heap.size e cs ∧ cs.toList.take s.length = U8 s ∧ Frm [] w w') := qH.bytesOf hx hs hd he
theorem Run.lenT {t : TypeId} {x : Operand} {s : List UInt8} (hx : ev? Γ x = some (encStr s)) (ht : P.underlying t = some .string) :
  Run P ⟨dst, .call ⟨.builtin .len, #[x], #[t]⟩, T, pos, after, g⟩ Γ w (jI1 s.length) := Run.lenStr hx ht
theorem Run.eqlT {t yT : TypeId} {x y : Operand} {a b : List UInt8} (hx : ev? Γ x = some (encStr a)) (hy : ev? Γ y = some (encStr b)) : Run P ⟨dst, .binOp .eql t x y yT, T, pos, after, g⟩ Γ w (.bool (decide (a = b))) := Run.eqlStr hx hy
theorem Run.neqT {t yT : TypeId} {x y : Operand} {a b : List UInt8} (hx : ev? Γ x = some (encStr a)) (hy : ev? Γ y = some (encStr b)) : Run P ⟨dst, .binOp .neq t x y yT, T, pos, after, g⟩ Γ w (.bool (decide (a ≠ b))) := Run.neqStr hx hy
theorem Run.addT {t yT : TypeId} {x y : Operand} {a b : List UInt8} (hx : ev? Γ x = some (encStr a)) (hy : ev? Γ y = some (encStr b)) (hs : a.length + b.length ≤ 9223372036854775807) :
  Run P ⟨dst, .binOp .add t x y yT, T, pos, after, g⟩ Γ w (encStr (a ++ b)) := by
 have h := Run.addStr (P := P) (w := w) (T := T) (dst := dst) (pos := pos) (after := after) (g := g) (t := t) (yT := yT) hx hy hs
 have e : (⟨a.toArray⟩ : ByteArray) ++ ⟨b.toArray⟩ = ⟨(a ++ b).toArray⟩ := by
  apply ByteArray.ext
  rw [ByteArray.data_append]
  simp
 rw [e] at h
 exact h
theorem Run.indexT {t : TypeId} {x i : Operand} {s : List UInt8} {k : IntKind} (j : Nat) {b : UInt8} (hx : ev? Γ x = some (encStr s)) (hi : ev? Γ i = some (.int k j)) (ht : P.underlying t = some .string) (hj : s[j]? = some b) :
  Run P ⟨dst, .index t x i, T, pos, after, g⟩ Γ w (.int .u8 ((b.toNat : Nat) : Int)) := Run.indexStr j b hx hi ht hj
theorem Run.sliceT {t : TypeId} {x : Operand} {s : List UInt8} {lo hi : Option Operand} (l h : Nat) (hx : ev? Γ x = some (encStr s)) (ht : P.underlying t = some .string)
  (hlo : evB Γ lo 0 l) (hhi : evB Γ hi s.length h) (h1 : l ≤ h) (h2 : h ≤ s.length) :
  Run P ⟨dst, .slice t x lo hi none, T, pos, after, g⟩ Γ w (encStr ((s.drop l).take (h - l))) := by
 have h3 := Run.sliceStr (P := P) (w := w) (T := T) (dst := dst) (pos := pos) (after := after) (g := g) (t := t) l h hx ht hlo hhi h1 h2
 have e : (⟨s.toArray⟩ : ByteArray).extract l h = ⟨((s.drop l).take (h - l)).toArray⟩ := by
  apply ByteArray.ext
  simp [ByteArray.data_extract]
 rw [e] at h3
 exact h3
theorem Run.strOfT {src dstT e : TypeId} {x : Operand} {A : Option Addr} {n c : Nat} {l : List UInt8} (hx : ev? Γ x = some (.slice A n c)) (hs : P.underlying src = some (.slice e)) (he : P.underlying e = some (.int .u8)) (hd : P.underlying dstT = some .string)
  (hr : Rd w 1 A n (U8 l)) : Run P ⟨dst, .convert src dstT x, T, pos, after, g⟩ Γ w (encStr l) := Run.strOf hx hs he hd hr
theorem Run.indexArr1 {t e : TypeId} {x i : Operand} {n : Nat} {k : IntKind} {cs : Array Value} {v : Value} (j : Nat) (hx : ev? Γ x = some (.agg cs)) (hi : ev? Γ i = some (.int k j)) (ht : P.underlying t = some (.array n e))
  (ha : ∀ w, (isAgg e).run P w = .ok false w) (hz : ∀ w, (sizeOf e).run P w = .ok 1 w) (hl : cs.size = n) (hj : cs[j]? = some v) : Run P ⟨dst, .index t x i, T, pos, after, g⟩ Γ w v := fun ρ hρ => by
 have hlt := (Array.getElem?_eq_some_iff.1 hj).1
 have h4 : j < n := jo
 simp [execOp, hρ _ _ hx, hρ _ _ hi, Instr.index, asIntOf, run_underlying ht, h4, part, ha, hz, hj]
end
section
variable {P : Program} {n : NF} {Γ : Env} {w : World} {Q : Exit → Env → World → Prop} {ops : Array Oper} {rest : List Oper} {op : Op} {T : TypeId} {pos : String} {after : Array Edge} {g : Option (Nat × Bool)} {dst : Option Tmp}
end
structure PT where
 i : Nat
 d : Nat
 dep : List Nat
 pure : Bool
 Φ : (Nat → Value) → Value → Nat → Nat → World → Prop
def mX (P : Program) (ops : Array Oper) (n : NF) (t : PT) (ρ : Nat → Value) (Γ : Env) (W : World) : Prop :=
 ∃ oi, ops[t.i]? = some oi ∧ oi.dst = some t.d ∧ Nat.blt t.d n.n = true ∧ oi.guard = none ∧
  ((∃ f args R, bJ P oi Γ W f args ∧ Calls P f args W R ∧ ∀ e W', R e W' → ∃ v, e = .returned v ∧ Frm [] W W' ∧ t.Φ ρ v W.heap.size W'.heap.size W') ∨
   (∃ R, qH P oi Γ W R ∧ ∀ v W', R v W' → Frm [] W W' ∧ t.Φ ρ v W.heap.size W'.heap.size W')) ∧
  (t.pure = true → ∃ v, (∀ W', Run P oi Γ W' v) ∧ t.Φ ρ v W.heap.size W.heap.size W)
def oK (ops : Array Oper) (L : Nat) (target : Array Bool) : Nat → Array Bool → List (Nat × Nat × List Nat × Bool) → Bool
 | 0, listed, rest => rest.isEmpty && (listed.toList == target.toList)
 | k + 1, listed, rest => match rest.find? (fun t => t.2.2.2 && (Region.ready .any ops listed).contains t.1 && Region.free .any ops listed t.1 && (Region.noSelect ops && fS ops L t.1) && !(rest.any fun u => t.2.2.1.any fun x => Nat.beq x u.2.1)) with
  | some t => oK ops L target k (listed.setIfInBounds t.1 true) (rest.filter fun u => ! Nat.beq u.1 t.1)
  | none => ! rest.isEmpty && !(Region.ready .any ops listed).isEmpty && (Region.ready .any ops listed).all fun i =>
   rest.any (fun t => Nat.beq t.1 i && !(rest.any fun u => t.2.2.1.any fun x => Nat.beq x u.2.1)) && oK ops L target k (listed.setIfInBounds i true) (rest.filter fun t => ! Nat.beq t.1 i)
structure PD where
 t : PT
 v : Value
 lo : Nat
 hi : Nat
abbrev PT.key (t : PT) : Nat × Nat × List Nat × Bool := (t.i, t.d, t.dep, t.pure)
def nQ (done : List PD) (x : Nat) : Value × Nat × Nat := match done.find? (fun y => Nat.beq y.t.d x) with | some y => (y.v, y.lo, y.hi) | none => (undef, 0, 0)
abbrev rQ (done : List PD) (x : Nat) : Value := (nQ done x).1
abbrev denv (done : List PD) (Γ : Env) : Env := done.map (fun x => (x.t.d, x.v)) ++ Γ
theorem oA (A Γ : Env) (x : Nat) : get? (A ++ Γ) x = match get? A x with | some v => some v | none => get? Γ x := by
 induction A with
 | nil => rfl
 | cons a r ih =>
  obtain ⟨k, v⟩ := a
  simp only [List.cons_append, get?]
  cases Nat.beq k x with
  | true => rfl
  | false => exact ih
theorem tZ {done : List PD} {x : PD} (hn : (done.map fun y => y.t.d).Nodup) (hx : x ∈ done) : get? (done.map fun y => (y.t.d, y.v)) x.t.d = some x.v := by
 induction done with
 | nil => cases hx
 | cons a r ih =>
  simp only [zay, zdp] at hn
  simp only [zay, get?]
  rcases zab.1 hx with rfl | h
  · simp
  have hne : a.t.d ≠ x.t.d := fun e => hn.1 (by rw [e]; exact List.mem_map.2 ⟨x, h, rfl⟩)
  have : Nat.beq a.t.d x.t.d = false := by
   rw [zbr]; intro hb; exact hne (zaa hb)
  rw [this]
  exact ih hn.2 h
theorem rR {done : List PD} {x : PD} (hn : (done.map fun y => y.t.d).Nodup) (hx : x ∈ done) : nQ done x.t.d = (x.v, x.lo, x.hi) := by
 have hf : done.find? (fun y => Nat.beq y.t.d x.t.d) = some x := by
  induction done with
  | nil => cases hx
  | cons b r ih =>
   simp only [zay, zdp] at hn
   rcases zab.1 hx with rfl | h
   · simp [List.find?_cons]
   have hne : b.t.d ≠ x.t.d := fun e => hn.1 (by rw [e]; exact List.mem_map.2 ⟨x, h, rfl⟩)
   have hbq : Nat.beq b.t.d x.t.d = false := by rw [zbr]; intro hb; exact hne (zaa hb)
   rw [List.find?_cons, hbq]
   exact ih hn.2 h
 unfold nQ
 rw [hf]
theorem yM {done : List PD} {y : PD} {x : Nat} (h : y.t.d ≠ x) : nQ (y :: done) x = nQ done x := by
 unfold nQ
 have : Nat.beq y.t.d x = false := by rw [zbr]; intro hb; exact h (zaa hb)
 rw [List.find?_cons, this]
theorem oI {done : List PD} {x : Nat} (hx : ∀ y ∈ done, y.t.d ≠ x) : get? (done.map fun y => (y.t.d, y.v)) x = none := by
 induction done with
 | nil => rfl
 | cons a r ih =>
  simp only [zay, get?]
  have : Nat.beq a.t.d x = false := by
   rw [zbr]; intro hb; exact hx a jp (zaa hb)
  rw [this]
  exact ih fun y hy => hx y (by simp [hy])
theorem lQ {f : PT → Nat} {u t : PT} : ∀ l : List PT, (l.map f).Nodup → u ∈ l → t ∈ l → f u = f t → u = t
 | [], _, h, _, _ => by cases h
 | b :: r, hn, h1, h2, e => by
  simp only [zay, zdp] at hn
  rcases zab.1 h1 with h3 | h3
  ·
   rcases zab.1 h2 with h4 | h4
   · rw [h3, h4]
   exact absurd (List.mem_map.2 ⟨t, h4, by rw [← e, h3]⟩) hn.1
  rcases zab.1 h2 with h4 | h4
  · exact absurd (List.mem_map.2 ⟨u, h3, by rw [e, h4]⟩) hn.1
  exact lQ r hn.2 h3 h4 e
section
variable {P : Program} {n : NF} {Γ : Env} {w : World} {K : Env → World → Prop} {Pn : List PanicEntry → World → Prop} {ops : Array Oper} {S : World → Prop} {L : Nat} {target : Array Bool}
def PAll (ts : List PT) (w : World) (g : Nat → Value × Nat × Nat) (W : World) : Prop :=
 (∀ t ∈ ts, t.Φ (fun x => (g x).1) (g t.d).1 (g t.d).2.1 (g t.d).2.2 W ∧ w.heap.size ≤ (g t.d).2.1 ∧ (g t.d).2.1 ≤ (g t.d).2.2 ∧ (g t.d).2.2 ≤ W.heap.size) ∧
  ∀ t ∈ ts, ∀ u ∈ ts, t.d ≠ u.d → (g t.d).2.2 ≤ (g u.d).2.1 ∨ (g u.d).2.2 ≤ (g t.d).2.1
theorem vP (ts : List PT) (hnd : (ts.map PT.d).Nodup) (hndi : (ts.map PT.i).Nodup) (h0 : ∀ t ∈ ts, get? Γ t.d = none) (fuel : Nat)
  (hst : ∀ t ∈ ts, ∀ ρ v lo hi W W', Frm [] W W' → t.Φ ρ v lo hi W → t.Φ ρ v lo hi W')
  (hcg : ∀ t ∈ ts, ∀ ρ ρ' v lo hi W, (∀ x ∈ t.dep, ρ x = ρ' x) → t.Φ ρ v lo hi W → t.Φ ρ' v lo hi W)
  (hok : ∀ t ∈ ts, ∀ W (g : Nat → Value × Nat × Nat), Frm [] w W → (∀ u ∈ ts, u.d ∈ t.dep → u.Φ (fun x => (g x).1) (g u.d).1 (g u.d).2.1 (g u.d).2.2 W) → (∀ x ∈ t.dep, ∃ u ∈ ts, u.d = x) → mX P ops n t (fun x => (g x).1) (t.dep.map (fun x => (x, (g x).1)) ++ Γ) W)
  (hdep : ∀ t ∈ ts, ∀ x ∈ t.dep, ∃ u ∈ ts, u.d = x)
  (hS : ∀ W, Frm [] w W → S W)
  (k : ∀ g W, Frm [] w W → PAll ts w g W → qQ P n ops S Pn L fuel target (ts.map (fun t => (t.d, (g t.d).1)) ++ Γ) W K) :
  ∀ (m : Nat) (done : List PD) (rest : List PT) (listed : Array Bool) (W : World) (a : Act), oK ops L target m listed (rest.map PT.key) = true → m = rest.length → (∀ t, t ∈ ts ↔ t ∈ done.map PD.t ∨ t ∈ rest) → (done.map fun x => x.t.d).Nodup → (rest.map PT.i).Nodup → (∀ t ∈ rest, ∀ x ∈ done, x.t.d ≠ t.d) →
   (∀ x ∈ done, ∀ z ∈ x.t.dep, ∃ y ∈ done, y.t.d = z) → (∀ x ∈ done, x.t.Φ (rQ done) x.v x.lo x.hi W ∧ w.heap.size ≤ x.lo ∧ x.lo ≤ x.hi ∧ x.hi ≤ W.heap.size) → done.Pairwise (fun x y => y.hi ≤ x.lo) → Frm [] w W → Sat n (denv done Γ) a →
   cZ P ops (dL n K Pn) S L (fuel + m) listed a W
 | 0, done, rest, listed, W, a, hb, hm, hts, hdn, _, _, _, hph, hpw, hfr, hs => by
  have hr : rest = [] := zbk hm.symm
  subst hr
  simp only [oK, List.map_nil, List.isEmpty_nil, Bool.true_and, beq_iff_eq] at hb
  have hl : listed = target := Array.toList_inj.1 hb
  subst hl
  let g : Nat → Value × Nat × Nat := nQ done
  have hg : ∀ x ∈ done, g x.t.d = (x.v, x.lo, x.hi) := fun x hx => rR hdn hx
  have hin : ∀ t ∈ ts, ∃ x ∈ done, x.t = t := by
   intro t ht
   rcases (hts t).1 ht with h | h
   · obtain ⟨x, hx, rfl⟩ := List.mem_map.1 h; exact ⟨x, hx, rfl⟩
   simp at h
  refine k g W hfr ⟨?_, ?_⟩ a ?_
  ·
   intro t ht
   obtain ⟨x, hx, rfl⟩ := hin t ht
   rw [hg x hx]
   exact hph x hx
  ·
   intro t ht u hu hne
   obtain ⟨x, hx, rfl⟩ := hin t ht
   obtain ⟨y, hy, rfl⟩ := hin u hu
   rw [hg x hx, hg y hy]
   have key : ∀ l : List PD, l.Pairwise (fun x y => y.hi ≤ x.lo) → x ∈ l → y ∈ l → x.hi ≤ y.lo ∨ y.hi ≤ x.lo := by
    intro l
    induction l with
    | nil => intro _ h; cases h
    | cons b r ih =>
     intro hp hxb hyb
     obtain ⟨hp1, hp2⟩ := List.pairwise_cons.1 hp
     rcases zab.1 hxb with rfl | hxr
     ·
      rcases zab.1 hyb with rfl | hyr
      · exact absurd rfl hne
      exact .inr (hp1 y hyr)
     rcases zab.1 hyb with rfl | hyr
     · exact .inl (hp1 x hxr)
     exact ih hp2 hxr hyr
   exact key done hpw hx hy
  refine ⟨hs.size, hs.defers, fun x v hv => hs.at_ x v ?_⟩
  rw [oA] at hv ⊢
  by_cases hx : ∃ y ∈ done, y.t.d = x
  ·
   obtain ⟨y, hy, rfl⟩ := hx
   have hyt : y.t ∈ ts := (hts y.t).2 (.inl (List.mem_map.2 ⟨y, hy, rfl⟩))
   have h1 : get? (ts.map fun t => (t.d, (g t.d).1)) y.t.d = some (g y.t.d).1 := by
    clear hv hs k hok hst hcg hts hin h0 hdep hndi
    induction ts with
    | nil => cases hyt
    | cons b r ih =>
     simp only [zay, get?]
     cases hq : Nat.beq b.d y.t.d with
     | true => rw [zaa hq]; rfl
     | false =>
      rcases zab.1 hyt with h | h
      · rw [← h] at hq; simp at hq
      simp only [zay, zdp] at hnd
      exact ih hnd.2 h
   rw [h1] at hv
   rw [tZ hdn hy]
   rw [hg y hy] at hv
   exact hv
  have hno : ∀ y ∈ done, y.t.d ≠ x := fun y hy e => hx ⟨y, hy, e⟩
  rw [oI hno]
  have h1 : get? (ts.map fun t => (t.d, (g t.d).1)) x = none := by
   have hno2 : ∀ t ∈ ts, t.d ≠ x := fun t ht e => by
    obtain ⟨y, hy, rfl⟩ := hin t ht
    exact hno y hy e
   clear hv hs k hok hst hcg hts hin hx hno h0 hdep hndi hnd
   induction ts with
   | nil => rfl
   | cons b r ih =>
    simp only [zay, get?]
    have hq : Nat.beq b.d x = false := by rw [zbr]; intro hb; exact hno2 b jp (zaa hb)
    rw [hq]
    exact ih fun t ht => hno2 t (by simp [ht])
  rw [h1] at hv
  exact hv
 | m + 1, done, rest, listed, W, a, hb, hm, hts, hdn, hri, hdr, hdc, hph, hpw, hfr, hs => by
  have one : ∀ t ∈ rest, (!((rest.map PT.key).any fun u => t.dep.any fun x => Nat.beq x u.2.1)) = true → oK ops L target m (listed.setIfInBounds t.i true) ((rest.map PT.key).filter fun u => ! Nat.beq u.1 t.i) = true →
    ∃ ρ Γ', mX P ops n t ρ Γ' W ∧ Sat n Γ' a ∧ ∀ v W', Frm [] W W' → t.Φ ρ v W.heap.size W'.heap.size W' → S W' ∧ cZ P ops (dL n K Pn) S L (fuel + m) (listed.setIfInBounds t.i true) (a.put (some t.d) v) W' := by
   intro t ht hq2 hnext
   have htts : t ∈ ts := (hts t).2 (.inr ht)
   have hdd : ∀ x ∈ t.dep, ∃ y ∈ done, y.t.d = x := by
    intro x hx
    obtain ⟨u, hu, rfl⟩ := hdep t htts x hx
    rcases (hts u).1 hu with h | h
    · obtain ⟨y, hy, rfl⟩ := List.mem_map.1 h; exact ⟨y, hy, rfl⟩
    exfalso
    simp only [zew, zbr, ne_eq, List.any_eq_true, not_exists, not_and] at hq2
    exact hq2 u.key (List.mem_map.2 ⟨u, h, rfl⟩) u.d hx (Nat.beq_refl u.d)
   let g : Nat → Value × Nat × Nat := nQ done
   have hg : ∀ x ∈ done, g x.t.d = (x.v, x.lo, x.hi) := fun x hx => rR hdn hx
   have hstep := hok t htts W g hfr (fun u hu hud => by
    obtain ⟨y, hy, hyd⟩ := hdd u.d hud
    have huy : u = y.t := by
     have hyt : y.t ∈ ts := (hts y.t).2 (.inl (List.mem_map.2 ⟨y, hy, rfl⟩))
     exact lQ ts hnd hu hyt hyd.symm
    rw [huy, hg y hy]
    exact (hph y hy).1) (hdep t htts)
   have hsub : Sat n (t.dep.map (fun x => (x, (g x).1)) ++ Γ) a := by
    refine ⟨hs.size, hs.defers, fun x v hv => hs.at_ x v ?_⟩
    rw [oA] at hv ⊢
    by_cases hx : ∃ y ∈ done, y.t.d = x
    ·
     obtain ⟨y, hy, rfl⟩ := hx
     rw [tZ hdn hy]
     have hyt : y.t ∈ ts := (hts y.t).2 (.inl (List.mem_map.2 ⟨y, hy, rfl⟩))
     have key : ∀ l : List Nat, get? (l.map fun x => (x, (g x).1)) y.t.d = some y.v ∨ get? (l.map fun x => (x, (g x).1)) y.t.d = none := by
      intro l
      induction l with
      | nil => exact .inr rfl
      | cons b r ih =>
       simp only [zay, get?]
       cases hq : Nat.beq b y.t.d with
       | true => rw [zaa hq, hg y hy]; exact .inl rfl
       | false => exact ih
     rcases key t.dep with h1 | h1
     · rw [h1] at hv; exact hv
     rw [h1] at hv
     exact absurd hv (by rw [h0 _ hyt]; simp)
    have hno : ∀ y ∈ done, y.t.d ≠ x := fun y hy e => hx ⟨y, hy, e⟩
    rw [oI hno]
    have h1 : get? (t.dep.map fun x => (x, (g x).1)) x = none := by
     have key : ∀ l : List Nat, (∀ z ∈ l, z ≠ x) → get? (l.map fun x => (x, (g x).1)) x = none := by
      intro l hl
      induction l with
      | nil => rfl
      | cons b r ih =>
       simp only [zay, get?]
       have hq : Nat.beq b x = false := by rw [zbr]; intro hb; exact hl b jp (zaa hb)
       rw [hq]
       exact ih fun z hz => hl z (by simp [hz])
     exact key t.dep fun z hz e => by
      obtain ⟨y, hy, hyd⟩ := hdd z hz
      exact hno y hy (hyd.trans e)
    rw [h1] at hv
    exact hv
   have hmr : m = (rest.filter fun u => ! Nat.beq u.i t.i).length := by
    have key : ∀ l : List PT, (l.map PT.i).Nodup → t ∈ l → l.length = (l.filter fun u => ! Nat.beq u.i t.i).length + 1 := by
     intro l
     induction l with
     | nil => intro _ h; cases h
     | cons b r ih =>
      intro hn h1
      simp only [zay, zdp] at hn
      rcases zab.1 h1 with rfl | h1
      ·
       have e : (r.filter fun u => ! Nat.beq u.i t.i) = r := by
        refine List.filter_eq_self.2 fun u hu => ?_
        have : Nat.beq u.i t.i = false := by
         rw [zbr]; intro hb
         exact hn.1 (List.mem_map.2 ⟨u, hu, zaa hb⟩)
        rw [this]; rfl
       rw [List.filter_cons]
       simp only [Nat.beq_refl, Bool.not_true, zej, if_false, e, zbo]
      have hb : Nat.beq b.i t.i = false := by
       rw [zbr]; intro hb
       exact hn.1 (List.mem_map.2 ⟨t, h1, (zaa hb).symm⟩)
      rw [List.filter_cons, hb]
      simp only [Bool.not_false, if_true, zbo, ih hn.2 h1]
    have := key rest hri ht
    omega
   have hfm : (rest.map PT.key).filter (fun u => ! Nat.beq u.1 t.i) = (rest.filter fun u => ! Nat.beq u.i t.i).map PT.key := by
    rw [List.filter_map]; rfl
   have again : ∀ v W', Frm [] W W' → t.Φ (rQ done) v W.heap.size W'.heap.size W' → S W' ∧ cZ P ops (dL n K Pn) S L (fuel + m) (listed.setIfInBounds t.i true) (a.put (some t.d) v) W' := by
    intro v W' hf hΦ
    have hfr' := hfr.trans hf jp
    refine ⟨hS W' hfr', ?_⟩
    have hnot : t.d ∉ done.map fun x => x.t.d := fun h => by
     obtain ⟨y, hy, hyd⟩ := List.mem_map.1 h
     exact hdr t ht y hy hyd
    obtain ⟨_, _, _, hdn', _, _, _⟩ := hstep
    refine vP ts hnd hndi h0 fuel hst hcg hok hdep hS k m (⟨t, v, W.heap.size, W'.heap.size⟩ :: done) (rest.filter fun u => ! Nat.beq u.i t.i) _ W' _ (by rw [← hfm]; exact hnext) hmr ?_ ?_ ?_ ?_ ?_ ?_ ?_ hfr' (hs.put hdn' v)
    ·
     intro u
     rw [hts u]
     simp only [zay, zab, List.mem_filter]
     constructor
     ·
      rintro (h | h)
      · exact .inl (.inr h)
      by_cases hut : u.i = t.i
      ·
       left; left
       exact lQ rest hri h ht hut
      right
      refine ⟨h, ?_⟩
      have : Nat.beq u.i t.i = false := by rw [zbr]; intro hb; exact hut (zaa hb)
      rw [this]; rfl
     rintro ((rfl | h) | h)
     · exact .inr ht
     · exact .inl h
     exact .inr h.1
    ·
     simp only [zay, zdp]
     exact ⟨hnot, hdn⟩
    · exact hri.sublist (List.Sublist.map _ List.filter_sublist)
    ·
     intro u hu x hx
     obtain ⟨hu1, hu2⟩ := List.mem_filter.1 hu
     rcases zab.1 hx with rfl | hx
     ·
      intro e
      have hut : u ∈ ts := (hts u).2 (.inr hu1)
      have := lQ ts hnd hut htts e.symm
      subst this
      simp at hu2
     exact hdr u hu1 x hx
    ·
     intro x hx z hz
     rcases zab.1 hx with rfl | hx
     ·
      obtain ⟨y, hy, hyz⟩ := hdd z hz
      exact ⟨y, List.mem_cons_of_mem _ hy, hyz⟩
     obtain ⟨y, hy, hyz⟩ := hdc x hx z hz
     exact ⟨y, List.mem_cons_of_mem _ hy, hyz⟩
    ·
     have hsame : ∀ z, (∃ y ∈ done, y.t.d = z) → rQ done z = rQ (⟨t, v, W.heap.size, W'.heap.size⟩ :: done) z := fun z ⟨y, hy, hyz⟩ => by
      unfold rQ
      rw [yM]
      intro e
      exact hnot (List.mem_map.2 ⟨y, hy, hyz.trans e.symm⟩)
     intro x hx
     rcases zab.1 hx with rfl | hx
     · exact ⟨hcg t htts _ _ _ _ _ _ (fun z hz => hsame z (hdd z hz)) hΦ, hfr.size, hf.size, zt _⟩
     obtain ⟨h1, h2, h3, h4⟩ := hph x hx
     have hxt : x.t ∈ ts := (hts x.t).2 (.inl (List.mem_map.2 ⟨x, hx, rfl⟩))
     exact ⟨hcg x.t hxt _ _ _ _ _ _ (fun z hz => hsame z (hdc x hx z hz)) (hst x.t hxt _ _ _ _ _ _ hf h1), h2, h3, zr h4 hf.size⟩
    refine List.pairwise_cons.2 ⟨fun y hy => ?_, hpw⟩
    exact (hph y hy).2.2.2
   exact ⟨rQ done, _, hstep, hsub, again⟩
  have all : ∀ (oi : Oper) (t : PT), True := fun _ _ => trivial
  clear all
  unfold oK at hb
  split at hb
  ·
   rename_i t0 hfind
   have hmem := List.mem_of_find?_eq_some hfind
   have hp := List.find?_some hfind
   simp only [zby] at hp
   obtain ⟨⟨⟨⟨hpu, hrd⟩, hfree⟩, hsel⟩, hdp⟩ := hp
   obtain ⟨t, ht, rfl⟩ := List.mem_map.1 hmem
   obtain ⟨ρ, Γ', ⟨oi, hoi, hdst, hdn', hgd, _, hpure⟩, hsub, again⟩ := one t ht hdp hb
   obtain ⟨v, hrun, hΦ⟩ := hpure hpu
   obtain ⟨_, hk⟩ := again v W (Frm.refl _ _) hΦ
   refine gB (f := fuel + m) hoi (by simpa using hsel) hfree hrd gI (.inl ⟨by unfold Region.wanted; rw [hgd], fun w' _ => hrun w' _ hsub.fits⟩) (hS W hfr) ?_
   rw [hdst]
   exact hk
  simp only [zby, zew, List.all_eq_true, List.any_eq_true] at hb
  obtain ⟨⟨_, hne⟩, hall⟩ := hb
  refine lA (rs := Region.ready .any ops listed) rfl (by intro e; rw [e] at hne; simp at hne) ?_
  intro i hi
  obtain ⟨⟨t0, ht0, hq⟩, hnext⟩ := hall i hi
  obtain ⟨t, ht, rfl⟩ := List.mem_map.1 ht0
  obtain ⟨hq1, hq2⟩ := hq
  have hti : t.i = i := zaa hq1
  subst hti
  obtain ⟨ρ, Γ', ⟨oi, hoi, hdst, hdn', hgd, hstep, _⟩, hsub, again⟩ := one t ht (by rw [zew]; exact hq2) hnext
  unfold wpOp
  simp only [hoi]
  rw [if_pos (by unfold Region.wanted; rw [hgd])]
  left
  unfold Oper.wp
  rcases hstep with ⟨f, args, R, he, hc, hR⟩ | ⟨R, hD, hR⟩
  ·
   rw [he _ hsub.fits, Oper.upon_enter, hdst]
   refine hc.mono ?_
   intro e W' hR'
   obtain ⟨v, rfl, hf, hΦ⟩ := hR e W' hR'
   exact again v W' hf hΦ
  obtain ⟨v, W', hrun, hR'⟩ := hD _ hsub.fits
  rw [hrun, Oper.upon_value, hdst]
  obtain ⟨hf, hΦ⟩ := hR v W' hR'
  exact again v W' hf hΦ
theorem qQ.par (ts : List PT) (m : Nat) {fuel : Nat} {listed : Array Bool} (hm : ts.length = m) (hb : oK ops L target m listed (ts.map PT.key) = true) (hnd : (ts.map PT.d).Nodup) (hndi : (ts.map PT.i).Nodup) (h0 : ∀ t ∈ ts, get? Γ t.d = none)
  (hdep : ∀ t ∈ ts, ∀ x ∈ t.dep, ∃ u ∈ ts, u.d = x)
  (hS : ∀ W, Frm [] w W → S W)
  (hst : ∀ t ∈ ts, ∀ ρ v lo hi W W', Frm [] W W' → t.Φ ρ v lo hi W → t.Φ ρ v lo hi W')
  (hcg : ∀ t ∈ ts, ∀ ρ ρ' v lo hi W, (∀ x ∈ t.dep, ρ x = ρ' x) → t.Φ ρ v lo hi W → t.Φ ρ' v lo hi W)
  (hok : ∀ t ∈ ts, ∀ W (g : Nat → Value × Nat × Nat), Frm [] w W → (∀ u ∈ ts, u.d ∈ t.dep → u.Φ (fun x => (g x).1) (g u.d).1 (g u.d).2.1 (g u.d).2.2 W) → (∀ x ∈ t.dep, ∃ u ∈ ts, u.d = x) → mX P ops n t (fun x => (g x).1) (t.dep.map (fun x => (x, (g x).1)) ++ Γ) W)
  (k : ∀ g W, Frm [] w W → PAll ts w g W → qQ P n ops S Pn L fuel target (ts.map (fun t => (t.d, (g t.d).1)) ++ Γ) W K) : qQ P n ops S Pn L (fuel + m) listed Γ w K := by
 intro a hs
 exact vP ts hnd hndi h0 fuel hst hcg hok hdep hS k m [] ts listed w a hb hm.symm jp jp hndi jp jp jp List.Pairwise.nil (Frm.refl _ _) hs
theorem mX.m {t : PT} {ρ : Nat → Value} {W : World} {R : Value → World → Prop} {oi : Oper} (hp : t.pure = false) (hi : ops[t.i]? = some oi) (hd : oi.dst = some t.d) (hn : Nat.blt t.d n.n = true) (hg : oi.guard = none) (hD : qH P oi Γ W R)
  (h : ∀ v W', R v W' → Frm [] W W' ∧ t.Φ ρ v W.heap.size W'.heap.size W') : mX P ops n t ρ Γ W := ⟨oi, hi, hd, hn, hg, .inr ⟨R, hD, h⟩, fun h' => by rw [hp] at h'; cases h'⟩
abbrev PT.made (i d : Nat) (T : TypeId) (cs : Array Value) : PT := ⟨i, d, [], false, fun _ v lo hi W => (v = jI0 lo ∧ lo < hi) ∧ Blk W lo T cs⟩
theorem PT.made_st {i d : Nat} {T : TypeId} {cs : Array Value} : ∀ ρ v lo hi W W', Frm [] W W' → (PT.made i d T cs).Φ ρ v lo hi W → (PT.made i d T cs).Φ ρ v lo hi W' :=
 fun _ _ _ _ _ _ hf h => ⟨h.1, h.2.frm hf jp⟩
theorem PT.made_ok {i d : Nat} {T e : TypeId} {z : Value} {ρ : Nat → Value} {W : World} {pos : String} {after : Array Edge} (hi : ops[i]? = some ⟨some d, .alloc T, e, pos, after, none⟩) (hn : Nat.blt d n.n = true) (hz : ∀ w, (zeroValue T).run P w = .ok z w) : mX P ops n (PT.made i d T z.cells) ρ Γ W :=
 mX.m rfl hi rfl hn rfl (qH.alloc hz) fun _ _ h => ⟨h.2.frm, ⟨h.1, by rw [h.2.size]; omega⟩, h.2.blk⟩
end
end
section
open Go.RowKit
open Go.Maps (Keyed)
def MpF (P : Program) (k : TypeId) {κ : Type} (enc : κ → Value) (w : World) (g : Nat) (M : κ → Option Value) : Prop :=
 ∃ (es : List MapEntry) (clock : Nat), w.heap[g]? = some (.map es.toArray clock) ∧ (∀ e ∈ es, (∃ l, keyOf P k e.key = some l) ∧ e.born < clock) ∧ es.Pairwise (fun a b => a.born ≠ b.born ∧ a.key ≠ b.key) ∧ ∀ x v, M x = some v ↔ ∃ e ∈ es, e.key = enc x ∧ e.val = v
section
variable {P : Program} {k : TypeId} {κ : Type} {enc : κ → Value} {w w' : World} {g : Nat} {M : κ → Option Value} {S : List Nat}
theorem MpF.lt (h : MpF P k enc w g M) : g < w.heap.size := by
 obtain ⟨es, clock, h1, _⟩ := h
 exact (Array.getElem?_eq_some_iff.1 h1).1
theorem MpF.new : MpF P k enc (w.alloc (.map #[] 0)) w.heap.size (fun _ : κ => none) := by
 refine ⟨[], 0, (MapKept.heap_alloc w _).1, jp, List.Pairwise.nil, fun x v => ?_⟩
 simp
theorem nX (w : World) (g : Nat) (o : Obj) : Frm [g] w (ChangeMaps.setBlock w g o) :=
 ⟨rfl, rfl, rfl, by simp [ChangeMaps.setBlock], fun i _ hi => by
  unfold ChangeMaps.setBlock
  simp only [zax]
  rw [if_neg (fun e => hi (by rw [e]; simp))]⟩
end
section
variable {P : Program} {k : TypeId} {κ : Type} {enc : κ → Value} {w : World} {g : Nat} {M : κ → Option Value} {Γ : Env} {dst : Option Tmp} {T : TypeId} {pos : String} {after : Array Edge} {gd : Option (Nat × Bool)}
theorem qH.makeMap {t : TypeId} : qH P ⟨dst, .makeMap t none, T, pos, after, gd⟩ Γ w (fun r w' => r = .map (some w.heap.size) ∧ MpF P k enc w' w.heap.size (fun _ : κ => none) ∧ Frm [] w w' ∧ w'.heap.size = w.heap.size + 1) := fun ρ _ =>
 ⟨_, w.alloc (.map #[] 0), by simp [execOp, run_makeMap], rfl, MpF.new, (Frm.refl [] w).alloc _, jp⟩
end
end
section
open Go.RowKit
open Go.Maps (Keyed)
section
variable {P : Program} {k : TypeId} {κ : Type} {enc : κ → Value} {w w' : World} {g : Nat} {M : κ → Option Value} {S : List Nat}
theorem vR [DecidableEq κ] {t e : TypeId} {x : κ} {kl : Lit} {v : Value} (h : MpF P k enc w g M) (K : Keyed P k) (henc : ∀ a b, enc a = enc b → a = b) (ht : P.underlying t = some (.map k e)) (hkey : keyOf P k (enc x) = some kl) :
  ∃ w' : World, (Instr.mapUpdate t (.map (some g)) (enc x) v).run P w = .ok () w' ∧ MpF P k enc w' g (fun y => if y = x then some v else M y) ∧ Frm [g] w w' ∧ w'.heap.size = w.heap.size := by
 have hlt := h.lt
 obtain ⟨es, clock, hb, h2, h3, h4⟩ := h
 rcases K.find w hkey es (fun e he => (h2 e he).1) with ⟨h5, h6⟩ | ⟨j, e0, h5, h6, h7⟩
 ·
  refine ⟨ChangeMaps.setBlock w g (.map (es ++ [(⟨enc x, v, clock⟩ : MapEntry)]).toArray (clock + 1)), ?_, ⟨es ++ [(⟨enc x, v, clock⟩ : MapEntry)], clock + 1, ?_, ?_, ?_, ?_⟩, nX w g _, by simp [ChangeMaps.setBlock]⟩
  · simp [Instr.mapUpdate, run_underlying ht, MapKept.run_getObj_map hb, K.check w _ hkey, h5, MapKept.run_setObj_map _ hb, Result.andThen, ChangeMaps.setBlock]
  · simp [ChangeMaps.setBlock, hlt]
  ·
   intro e1 he1
   rcases zee.1 he1 with he1 | he1
   · exact ⟨(h2 e1 he1).1, by have := (h2 e1 he1).2; omega⟩
   rw [zg] at he1
   subst he1
   exact ⟨⟨kl, hkey⟩, Nat.lt_succ_self _⟩
  ·
   refine List.pairwise_append.2 ⟨h3, jp, fun a ha b hb2 => ?_⟩
   rw [zg] at hb2
   subst hb2
   exact ⟨by have := (h2 a ha).2; dsimp only; omega, h6 a ha⟩
  intro y u
  dsimp only
  by_cases hy : y = x
  ·
   subst hy
   rw [if_pos rfl]
   constructor
   ·
    intro hv
    simp only [Option.some.injEq] at hv
    exact ⟨⟨enc y, v, clock⟩, jp, rfl, hv⟩
   rintro ⟨e1, he1, he2, he3⟩
   rcases zee.1 he1 with he1 | he1
   · exact absurd he2 (h6 e1 he1)
   rw [zg] at he1
   subst he1
   simpa using he3
  rw [if_neg hy]
  constructor
  ·
   intro hv
   obtain ⟨e1, he1, he2⟩ := (h4 y u).1 hv
   exact ⟨e1, by simp [he1], he2⟩
  rintro ⟨e1, he1, he2, he3⟩
  rcases zee.1 he1 with he1 | he1
  · exact (h4 y u).2 ⟨e1, he1, he2, he3⟩
  rw [zg] at he1
  subst he1
  exact absurd (henc _ _ he2).symm hy
 have hkey0 : ({ e0 with key := enc x, val := v } : MapEntry) = { e0 with val := v } := by rw [← h7]
 have hmod : es.modify j (fun e => { e with key := enc x, val := v }) = es.set j { e0 with val := v } := by
  rw [ChangeMaps.modify_eq_set _ _ _ _ h6, hkey0]
 have hjl := (List.getElem?_eq_some_iff.1 h6).1
 have ej : es[j] = e0 := by rw [zb hjl] at h6; exact Option.some.inj h6
 have he0 : e0 ∈ es := zck h6
 have who : ∀ e1 ∈ es.set j { e0 with val := v }, e1 = { e0 with val := v } ∨ (e1 ∈ es ∧ e1.key ≠ e0.key ∧ e1.born ≠ e0.born) := by
  intro e1 he1
  obtain ⟨i, hi, ex⟩ := zdj he1
  rw [List.getElem_set] at ex
  split at ex
  · exact .inl ex.symm
  rename_i hne
  have hi' : i < es.length := by simpa using hi
  refine .inr ⟨ex ▸ zaj hi', ?_⟩
  rcases Nat.lt_or_gt_of_ne hne with h5 | h5
  ·
   have := List.pairwise_iff_getElem.1 h3 j i hjl hi' h5
   rw [ej, ex] at this
   exact ⟨this.2.symm, this.1.symm⟩
  have := List.pairwise_iff_getElem.1 h3 i j hi' hjl h5
  rw [ej, ex] at this
  exact ⟨this.2, this.1⟩
 have back : ∀ e1 ∈ es, e1.key ≠ e0.key → e1 ∈ es.set j { e0 with val := v } := by
  intro e1 he1 hne
  obtain ⟨i, hi, ex⟩ := zdj he1
  have hij : j ≠ i := by
   rintro rfl
   rw [zb hi, ex] at h6
   exact hne (by rw [Option.some.inj h6])
  have : (es.set j { e0 with val := v })[i]? = some e1 := by rw [zdc hij, zb hi, ex]
  exact zck this
 have hmem : ({ e0 with val := v } : MapEntry) ∈ es.set j { e0 with val := v } := by
  have : (es.set j { e0 with val := v })[j]? = some { e0 with val := v } := by rw [zcr hjl]
  exact zck this
 have hstay := K.stays w hkey
 refine ⟨ChangeMaps.setBlock w g (.map (es.set j { e0 with val := v }).toArray clock), ?_, ⟨es.set j { e0 with val := v }, clock, by simp [ChangeMaps.setBlock, hlt], ?_, ?_, ?_⟩, nX w g _, by simp [ChangeMaps.setBlock]⟩
 · simp [Instr.mapUpdate, run_underlying ht, MapKept.run_getObj_map hb, K.check w _ hkey, h5, h6, h7, hstay, MapKept.run_setObj_map _ hb, Result.andThen, ChangeMaps.setBlock, hmod]
 ·
  intro e1 he1
  rcases who e1 he1 with rfl | ⟨h5, _⟩
  · exact h2 e0 he0
  exact h2 e1 h5
 ·
  rw [List.pairwise_iff_getElem]
  intro a b ha hb2 hab
  have ha' : a < es.length := by simpa using ha
  have hb' : b < es.length := by simpa using hb2
  have h5 := List.pairwise_iff_getElem.1 h3 a b ha' hb' hab
  rw [List.getElem_set, List.getElem_set]
  by_cases h6 : j = a
  ·
   subst h6
   rw [if_pos rfl, if_neg jo]
   rw [ej] at h5
   exact h5
  rw [if_neg h6]
  by_cases h7 : j = b
  ·
   subst h7
   rw [if_pos rfl]
   rw [ej] at h5
   exact h5
  rw [if_neg h7]
  exact h5
 intro y u
 dsimp only
 by_cases hy : y = x
 ·
  subst hy
  rw [if_pos rfl]
  constructor
  ·
   intro hu
   exact ⟨_, hmem, h7, by simpa using hu⟩
  rintro ⟨e1, he1, he2, he3⟩
  rcases who e1 he1 with rfl | ⟨_, h6, _⟩
  · simpa using he3
  exact absurd (he2.trans h7.symm) h6
 rw [if_neg hy]
 constructor
 ·
  intro hu
  obtain ⟨e1, he1, he2, he3⟩ := (h4 y u).1 hu
  exact ⟨e1, back e1 he1 (fun e => hy (henc _ _ (by rw [← he2, ← h7, e]))), he2, he3⟩
 rintro ⟨e1, he1, he2, he3⟩
 rcases who e1 he1 with rfl | ⟨h5, _, _⟩
 · exact absurd (henc _ _ (h7.symm.trans he2)).symm hy
 exact (h4 y u).2 ⟨e1, h5, he2, he3⟩
end
section
variable {P : Program} {k : TypeId} {κ : Type} {enc : κ → Value} {w : World} {g : Nat} {M : κ → Option Value} {Γ : Env} {dst : Option Tmp} {T : TypeId} {pos : String} {after : Array Edge} {gd : Option (Nat × Bool)}
theorem qJ.mapUpd [DecidableEq κ] {t e : TypeId} {a b c : Operand} {x : κ} {kl : Lit} {v : Value} (ha : ev? Γ a = some (.map (some g))) (hb : ev? Γ b = some (enc x)) (hc : ev? Γ c = some v) (h : MpF P k enc w g M) (K : Keyed P k) (henc : ∀ a b, enc a = enc b → a = b) (ht : P.underlying t = some (.map k e)) (hkey : keyOf P k (enc x) = some kl) :
  qJ P ⟨dst, .mapUpdate t a b c, T, pos, after, gd⟩ Γ w (fun w' => MpF P k enc w' g (fun y => if y = x then some v else M y) ∧ Frm [g] w w' ∧ w'.heap.size = w.heap.size) := fun ρ hρ => by
 obtain ⟨w', h1, h2⟩ := vR (t := t) (v := v) h K henc ht hkey
 exact ⟨w', by simp [execOp, hρ _ _ ha, hρ _ _ hb, hρ _ _ hc, h1], h2⟩
end
end
section
open Go.RowKit
open Go.Maps (Keyed)
section
variable {P : Program} {k : TypeId} {κ : Type} {enc : κ → Value} {w : World} {g : Nat} {M : κ → Option Value} {Γ : Env} {dst : Option Tmp} {T : TypeId} {pos : String} {after : Array Edge} {gd : Option (Nat × Bool)}
theorem qJ.mapIns [DecidableEq κ] {t e : TypeId} {a b c : Operand} {x : κ} {kl : Lit} {v : Value} (ha : ev? Γ a = some (.map (some g))) (hb : ev? Γ b = some (enc x)) (hc : ev? Γ c = some v) (h : MpF P k enc w g M) (K : Keyed P k) (henc : ∀ a b, enc a = enc b → a = b) (ht : P.underlying t = some (.map k e)) (hkey : keyOf P k (enc x) = some kl) :
  qJ P ⟨dst, .insert t a b c, T, pos, after, gd⟩ Γ w (fun w' => MpF P k enc w' g (fun y => if y = x then some v else M y) ∧ Frm [g] w w' ∧ w'.heap.size = w.heap.size) := fun ρ hρ => by
 obtain ⟨w', h1, h2⟩ := vR (t := t) (v := v) h K henc ht hkey
 exact ⟨w', by simp [execOp, hρ _ _ ha, hρ _ _ hb, hρ _ _ hc, h1], h2⟩
end
theorem MpF.upd_congr {P : Program} {k : TypeId} {κ : Type} {enc : κ → Value} {w : World} {g : Nat} {M M' : κ → Option Value} (h : MpF P k enc w g M) (e : ∀ y, M y = M' y) : MpF P k enc w g M' := by
 have : M = M' := funext e
 rwa [← this]
end
end Go.Proofs.YtjklfpccmaljjaaGreatDoor
